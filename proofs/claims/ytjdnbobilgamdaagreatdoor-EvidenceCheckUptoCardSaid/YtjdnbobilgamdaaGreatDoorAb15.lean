/- The plain language into which functions are turned, and the rules of operations stated over it. Functions that read some rows of the heap: what they come to over a small heap they come to over any heap that has these rows. Ways that meet and loops, the entries of the heap numbered anew where they meet. Lists that are made, written in place and read: what operations on them come to. Conditions: none. -/
import Derived.Test.YtjdnbobilgamdaaGreatDoorAb10
import Derived.Laws.MakeOwn
section
namespace Go.Proofs.YtjdnbobilgamdaaGreatDoor.Ab
open Go
def iter{σ τ:Type}:Nat→(σ→Option (σ⊕τ))→σ→Option τ
 |0,_,_=>none
 |n+1,f,s=>(f s).bind fun y=>match y with
  |.inl s'=>iter n f s'
  |.inr t=>some t
def U5{σ τ:Type}(n:Nat)(f:σ→Option (σ⊕τ)):σ⊕τ→Option τ
 |.inl s=>iter n f s
 |.inr t=>some t
theorem Rj{σ τ:Type}{f:σ→Option (σ⊕τ)}{s:σ}{t:τ}(h:iter 0 f s=some t):False:=by cases h
theorem aZ{σ τ:Type}{n:Nat}{f:σ→Option (σ⊕τ)}{s:σ}{t:τ}(h:iter (n+1) f s=some t):∃ y,f s=some y∧U5 n f y=some t:=by
 rw[iter,abM] at h
 obtain⟨y,h1,h2⟩:=h
 refine⟨y,h1,?_⟩
 cases y<;>exact h2
def ix{α:Type}(l:List α)(k:Int):Option α:=if 0≤k then l[k.toNat]? else none
def EY(l:List UInt8)(k:Int):Option Int:=if 0≤k then (l[k.toNat]?).map fun c=>(c.toNat:Int) else none
def oR{α:Type}(l:List α)(lo hi:Int):Option (List α):=if 0≤lo∧lo≤hi∧hi≤l.length then some ((l.take hi.toNat).drop lo.toNat) else none
def app{α:Type}(b:Nat)(l l':List α):Option (List α):=if (l.length+l'.length)*b≤140737488355328∧l.length+l'.length≤4611686018427387904 then some (l++l') else none
def J2(l l':List UInt8):Option (List UInt8):=if l.length+l'.length≤9223372036854775807 then some (l++l') else none
def quo(k:IntKind)(a b:Int):Option Int:=if b=0 then none else some (k.wrap (a.tdiv b))
def rem(b0 b:Int):Option Int:=if b=0 then none else some (b0.tmod b)
def vX(s:List UInt8):List Int:=s.map fun c=>(c.toNat:Int)
theorem aa{α β:Type}{o:Option α}{f:α→Option β}{r:β}(h:o.bind f=some r):∃ x,o=some x∧f x=some r:=abM.1 h
theorem fU{α:Type}{c:Prop}[Decidable c]{a b x:α}(hc:c)(h:(if c then a else b)=x):a=x:=by rw[aa2 hc] at h;exact h
theorem Ce{α:Type}{c:Bool}{a b x:α}(hc:c=false)(h:(if c=true then a else b)=x):b=x:=by rw[hc] at h;exact h
structure En{α:Type}(f:α→D)(s:Nat):Prop where
 sz:∀ x,(f x).cells.length=s
 one:∀ x,∀ y∈(f x).cells,y.one=true
theorem En.Ls{α:Type}{f:α→D}{s:Nat}(h:En f s)(l:List α):∀ x∈l.map f,x.cells.length=s:=by
 intro x hx;obtain⟨y,_,rfl⟩:=abS.1 hx;exact h.sz y
theorem En.LP{α:Type}{f:α→D}{s:Nat}(h:En f s)(l:List α):∀ x∈l.map f,∀ y∈x.cells,y.one=true:=by
 intro x hx;obtain⟨y,_,rfl⟩:=abS.1 hx;exact h.one y
section
variable {P:Program}{ρ:Operand→V}{H:List HE}{ty:TypeId}
variable {x y:Operand}{t u:TypeId}{k:IntKind}{a b c:Int}
theorem O'(hx:As (ρ x) (.int k a))(hy:As (ρ y) (.int k b)):bj P (.binOp .mul t x y u) ty ρ H (.d (.int k (k.wrap (a*b)))) H:=
 bj.aW fun g w r hw h=>⟨.int k (k.wrap (a*b)),fun _ _ _ _=>by simp[execOp,hx.int (h x (by simp[Op.operands])),hy.int (h y (by simp[Op.operands])),eqGuard,binOp,Op.intArith],.d (.int _ _)⟩
theorem Pa(h:As (ρ x) (.int k a)):bj P (.unOp .neg t x) ty ρ H (.d (.int k (k.wrap (-a)))) H:=
 bj.aW fun g w r hw hx=>⟨.int k (k.wrap (-a)),fun _ _ _ _=>by simp[execOp,h.int (hx x (by simp[Op.operands])),Op.unary,Op.intArith],.d (.int _ _)⟩
theorem Pb(hx:As (ρ x) (.int k a))(hy:As (ρ y) (.int k b))(hv:quo k a b=some c):bj P (.binOp .quo t x y u) ty ρ H (.d (.int k c)) H:=by
 unfold quo at hv
 split at hv
 ·cases hv
 ·rename_i h0
  injection hv with hv;subst hv
  exact bj.aW fun g w r hw h=>⟨.int k (k.wrap (a.tdiv b)),fun _ _ _ _=>by simp[execOp,hx.int (h x (by simp[Op.operands])),hy.int (h y (by simp[Op.operands])),eqGuard,binOp,Op.intDiv,h0],.d (.int _ _)⟩
theorem Pc(hx:As (ρ x) (.int k a))(hy:As (ρ y) (.int k b))(hv:rem a b=some c):bj P (.binOp .rem t x y u) ty ρ H (.d (.int k c)) H:=by
 unfold rem at hv
 split at hv
 ·cases hv
 ·rename_i h0
  injection hv with hv;subst hv
  exact bj.aW fun g w r hw h=>⟨.int k (a.tmod b),fun _ _ _ _=>by simp[execOp,hx.int (h x (by simp[Op.operands])),hy.int (h y (by simp[Op.operands])),eqGuard,binOp,Op.intDiv,h0],.d (.int _ _)⟩
theorem LQ{s s' r:List UInt8}(hx:As (ρ x) (.str s))(hy:As (ρ y) (.str s'))(hv:J2 s s'=some r):bj P (.binOp .add t x y u) ty ρ H (.d (.str r)) H:=by
 unfold J2 at hv
 split at hv
 ·injection hv with hv;subst hv;exact Pd hx hy (by assumption)
 ·cases hv
theorem mM{α:Type}{l:List α}{v:α}(hv:ix l a=some v):∃ i:Nat,a=(i:Int)∧l[i]?=some v:=by
 unfold ix at hv
 split at hv
 ·exact⟨a.toNat,by omega,hv⟩
 ·cases hv
theorem bG{α:Type}{f:α→D}{l:List α}{v:α}{e s bytes:Nat}(hx:As (ρ x) (.sl (l.map f)))(hy:As (ρ y) (.int k a))(hv:ix l a=some v)(hf:En f s)
  (ht:pt P t e s bytes):bj P (.indexAddr t x y) ty ρ H (.vp (f v).cells 0) H:=by
 obtain⟨i,hi,hv⟩:=mM hv
 exact DD hx hy hi (by simp[hv]) ht (hf.sz v)
theorem jh{s:List UInt8}(hx:As (ρ x) (.str s))(hy:As (ρ y) (.int k a))(hv:EY s a=some c)(ht:P.underlying t=some .string):bj P (.index t x y) ty ρ H (.d (.int .u8 c)) H:=by
 unfold EY at hv
 split at hv
 ·rw[aa6] at hv
  obtain⟨d,hd,rfl⟩:=hv
  exact J3 hx hy (i:=a.toNat) (by omega) hd ht
 ·cases hv
theorem tp{α:Type}{f:α→D}{l:List α}{e s bytes:Nat}(hx:As (ρ x) (.sl (l.map f)))(ht:pt P t e s bytes):bj P (.call ⟨.builtin .len,#[x],#[t]⟩) ty ρ H (.d (.int .i64 (l.length:Int))) H:=
 O0 hx (by simp) ht
theorem Az{α:Type}{f:α→D}{l l' r:List α}{e s bytes id n:Nat}(ht:pt P t e s bytes)(hx:Is (ρ x) (.tk id (l.map f)))(hy:As (ρ y) (.sl (l'.map f)))(hH:H[id]?=some (.tok n e s))
  (hn:n=l.length)(hf:En f s)(hv:app bytes l l'=some r):bj P (.call ⟨.builtin .append,#[x,y],#[t,t]⟩) ty ρ H (.tk id (r.map f)) (H.set id (.tok r.length e s)):=by
 unfold app at hv
 split at hv
 ·rename_i h
  injection hv with hv;subst hv
  have:=J4 (ty:=ty) ht hx hy (by rw[hH,hn,aa4]) (by rw[←List.map_append];exact hf.Ls _) (by rw[←List.map_append];exact hf.LP _) (by simp only[aa9,aa4];exact h.1) (by simp only[aa9,aa4];exact h.2)
  rw[←List.map_append,aa4] at this
  exact this
 ·cases hv
theorem yM{α:Type}{f:α→D}{l l' r:List α}{e s bytes n:Nat}(ht:pt P t e s bytes)(hx:Is (ρ x) (.ex (l.map f)))(hy:As (ρ y) (.sl (l'.map f)))(hn:H.length=n)
  (hf:En f s)(hv:app bytes l l'=some r):bj P (.call ⟨.builtin .append,#[x,y],#[t,t]⟩) ty ρ H (.tk n (r.map f)) (H++[.tok r.length e s]):=by
 unfold app at hv
 split at hv
 ·rename_i h
  injection hv with hv;subst hv
  have:=G5 (ty:=ty) ht hx hy hn (by rw[←List.map_append];exact hf.Ls _) (by rw[←List.map_append];exact hf.LP _) (by simp only[aa9,aa4];exact h.1) (by simp only[aa9,aa4];exact h.2)
  rw[←List.map_append,aa4] at this
  exact this
 ·cases hv
def loM(ρ:Operand→V):Option Operand→Int→Prop
 |none,lo=>lo=0
 |some x,lo=>As (ρ x) (.int .i64 lo)
def X5(ρ:Operand→V)(len:Nat):Option Operand→Int→Prop
 |none,hi=>hi=(len:Int)
 |some x,hi=>As (ρ x) (.int .i64 hi)
theorem nD{α:Type}{f:α→D}{l r:List α}{e s bytes:Nat}{lo hi:Int}{a b:Option Operand}(hx:As (ρ x) (.sl (l.map f)))(ht:pt P t e s bytes)(ha:loM ρ a lo)(hb:X5 ρ l.length b hi)
  (hf:En f s)(hv:oR l lo hi=some r):bj P (.slice t x a b none) ty ρ H (.d (.sl (r.map f))) H:=by
 unfold oR at hv
 split at hv
 ·rename_i h
  injection hv with hv;subst hv
  have:=LS (ty:=ty) (H:=H) (lo:=lo.toNat) (hi:=hi.toNat) (a:=a) (b:=b) hx ht
   (by cases a with
       |none=>have:lo=0:=ha
              subst this;rfl
       |some z=>exact⟨lo,ha,by omega⟩)
   (by cases b with
       |none=>have:hi=(l.length:Int):=hb
              subst this;simp[hiV]
       |some z=>exact⟨hi,hb,by omega⟩) (by omega) (by simp;omega) (hf.Ls _)
  rw[←List.map_take,←List.map_drop] at this
  exact this
 ·cases hv
theorem J5{s:List UInt8}{e:TypeId}(hx:As (ρ x) (.str s))(ht:P.underlying t=some .string)(hu:P.underlying u=some (.slice e))(he:P.underlying e=some (.int .u8)):
  bj P (.convert t u x) ty ρ H (.d (.sl ((vX s).map (D.int .u8)))) H:=by
 have:=LU (ty:=ty) (H:=H) hx ht hu he
 rw[vX,acB];exact this
end
theorem En.int{k:IntKind}:En (D.int k) 1:=⟨fun _=>rfl,fun x y hy=>by simp only[D.cells,ab0] at hy;subst hy;rfl⟩
theorem En.i:En D.i 1:=En.int
theorem En.str:En D.str 1:=⟨fun _=>rfl,fun x y hy=>by simp only[D.cells,ab0] at hy;subst hy;rfl⟩
theorem En.bool:En D.bool 1:=⟨fun _=>rfl,fun x y hy=>by simp only[D.cells,ab0] at hy;subst hy;rfl⟩
theorem En.sl{α:Type}{f:α→D}:En (fun l:List α=>D.sl (l.map f)) 1:=⟨fun _=>rfl,fun x y hy=>by simp only[D.cells,ab0] at hy;subst hy;rfl⟩
end Go.Proofs.YtjdnbobilgamdaaGreatDoor.Ab
end
section
namespace Go.Proofs.YtjdnbobilgamdaaGreatDoor.Ab
open Go
def Lt(P:Program)(f:FuncId)(args:List V)(H:List HE)(res:D):Prop:=aJ P f args H fun r H'=>r=.d res∧H'.take H.length=H
inductive Ren(ids:List Nat):V→V→Prop
 |d (x:D):Ren ids (.d x) (.d x)
 |ptr {i id off:Nat}:ids[i]?=some id→Ren ids (.ptr i off) (.ptr id off)
inductive J6(ids:List Nat):List V→List V→Prop
 |nil:J6 ids [] []
 |cons {v u:V} {l m:List V}:Ren ids v u→J6 ids l m→J6 ids (v::l) (u::m)
theorem J6.get{ids:List Nat}{l m:List V}(h:J6 ids l m):l.length=m.length∧∀ (i:Nat) u,l[i]?=some u→∃ v,m[i]?=some v∧Ren ids u v:=by
 induction h with
 |nil=>simp
 |cons hv _ ih=>
  refine⟨by simp[ih.1],fun i u hu=>?_⟩
  cases i with
  |zero=>simp only[aa',aaW] at hu;subst hu;exact⟨_,rfl,hv⟩
  |succ i=>exact ih.2 i u (by simpa using hu)
def V.Xs:V→Bool
 |.d _|.fn _ []=>true
 |_=>false
inductive Rows(H:List HE):List Nat→List HE→Prop
 |nil:Rows H [] []
 |cons {id:Nat} {c:List V} {ids:List Nat} {H0:List HE}:H[id]?=some (.row c)→c.all V.Xs=true→Rows H ids H0→Rows H (id::ids) (.row c::H0)
theorem Rows.get{H:List HE}{ids:List Nat}{H0:List HE}(h:Rows H ids H0):ids.length=H0.length∧∀ (i:Nat) e,H0[i]?=some e→∃ id c,ids[i]?=some id∧H[id]?=some (.row c)∧e=.row c∧c.all V.Xs=true:=by
 induction h with
 |nil=>simp
 |cons h1 h2 _ ih=>
  refine⟨by simp[ih.1],fun i e he=>?_⟩
  cases i with
  |zero=>simp only[aa',aaW] at he;subst he;exact⟨_,_,rfl,h1,rfl,h2⟩
  |succ i=>exact ih.2 i e (by simpa using he)
theorem IJ{g g':G}{w:World}{v:V}{r:Value}(hv:v.Xs=true)(hp:∀ b o,g.Pr b o↔g'.Pr b o)(h:cu g w v r):cu g' w v r:=by
 cases v with
 |d x=>
  cases h with
  |d hd=>
   have:g.Pr=g'.Pr:=by funext b o;exact propext (hp b o)
   exact .d (this▸hd)
 |fn f lK=>
  cases lK with
  |nil=>
   cases h with
   |fn hs hc=>exact .fn hs (fun i x v hx=>by simp at hx)
  |cons a l=>simp[V.Xs] at hv
 |_=>cases hv
def distinct:List Nat→Bool
 |[]=>true
 |i::r=>!(EZ r i)&&distinct r
theorem tq:∀ {l:List Nat} {i:Nat},EZ l i=true↔i∈l
 |[],i=>by simp[EZ]
 |a::l,i=>by
  simp only[EZ,abq]
  cases h:Nat.beq i a with
  |true=>simp[acK h]
  |false=>
   have:i≠a:=by intro h';subst h';simp at h
   simp[this,tq (l:=l)]
theorem oV:∀ {l:List Nat},distinct l=true→∀ {i j:Nat} {x:Nat},l[i]?=some x→l[j]?=some x→i=j
 |[],_,i,_,_,h,_=>by simp at h
 |a::l,hd,i,j,x,hi,hj=>by
  simp only[distinct,aaT,abC] at hd
  have ON:a∉l:=fun hm=>by have:=(tq (l:=l)).2 hm;rw[this] at hd;simp at hd
  cases i with
  |zero=>
   cases j with
   |zero=>rfl
   |succ j=>
    simp at hi hj;subst hi
    exact absurd (abc hj) ON
  |succ i=>
   cases j with
   |zero=>
    simp at hi hj;subst hj
    exact absurd (abc hi) ON
   |succ j=>exact adg (·+1) (oV (l:=l) (x:=x) hd.2 (by simpa using hi) (by simpa using hj))
theorem Lt.at{P:Program}{f:FuncId}{oS args:List V}{H0 H:List HE}{res:D}(ids:List Nat)(h:Lt P f oS H0 res)(hr:Rows H ids H0)(ha:J6 ids oS args)(hn:distinct ids=true):
  aJ P f args H fun r H'=>r=.d res∧H'=H:=by
 intro g w vals hw hs hv
 obtain⟨hl,qz⟩:=hr.get
 obtain⟨UB,X6⟩:=ha.get
 let g0:G:={σ:=fun i=>(ids[i]?).bind g.σ,τ:=fun _=>none,υ:=fun _ _=>False,X:=fun b=>∃ i:Nat,(ids[i]?).bind g.σ=some b,Pr:=g.Pr }
 have sb:∀ b,g0.X b→g.X b:=by
  rintro b ⟨i,hi⟩
  rw[abM] at hi
  obtain⟨id,h1,h2⟩:=hi
  have G6:i<H0.length:=by rw[←hl];exact(aaS.1 h1).1
  obtain⟨id',c,e1,e2,_,_⟩:=qz i _ (aaV G6)
  rw[h1] at e1;injection e1 with e1;subst e1
  exact hw.aD id _ b e2 h2
 have LV:∀ (id:Nat) e b,H0[id]?=some e→g0.aD id e b→(ids[id]?).bind g.σ=some b:=by
  intro i e b he hb
  obtain⟨id,c,_,_,rfl,_⟩:=qz i e he
  exact hb
 have bR:aQ g0 w H0:=by
  refine⟨hw.pr,fun b hb=>hw.xs b (sb b hb),?_,?_,?_,?_,?_,?_,?_,fun x hx=>⟨fun h=>(hw.kc x hx).1 (sb _ h),(hw.kc x hx).2⟩⟩
  ·intro i e b he hb
   exact⟨i,LV i e b he hb⟩
  ·intro i i' e e' b he qj hb dD
   have k1:=LV i e b he hb
   have k2:=LV i' e' b qj dD
   rw[abM] at k1 k2
   obtain⟨id,p1,p2⟩:=k1
   obtain⟨id',q1,q2⟩:=k2
   obtain⟨_,c,r1,r2,_,_⟩:=qz i e he
   obtain⟨_,c',s1,s2,_,_⟩:=qz i' e' qj
   rw[p1] at r1;injection r1 with r1;subst r1
   rw[q1] at s1;injection s1 with s1;subst s1
   have:=hw.sep _ _ _ _ b r2 s2 p2 q2
   subst this
   exact oV hn p1 q1
  ·intro i d0 hd0
   obtain⟨id,c,e1,e2,e3,e4⟩:=qz i _ hd0
   injection e3 with e3;subst e3
   obtain⟨b,arr,et,k1,k2,k3,k4,k5⟩:=hw.row id _ e2
   exact⟨b,arr,et,by simp[g0,e1,k1],k2,k3,fun k x v hx hv=>IJ (g:=g) (g':=g0) (abi.1 e4 x (abc hx)) (fun _ _=>Iff.rfl) (k4 k x v hx hv),k5⟩
  ·intro i n e s hd
   obtain⟨_,_,_,_,e3,_⟩:=qz i _ hd
   cases e3
  ·intro i l e s hd
   obtain⟨_,_,_,_,e3,_⟩:=qz i _ hd
   cases e3
  ·intro i x hd
   obtain⟨_,_,_,_,e3,_⟩:=qz i _ hd
   cases e3
  ·intro i hi
   refine⟨?_,rfl,fun _ h=>h⟩
   rcases hi with hi|hi
   ·obtain⟨_,_,_,_,e3,_⟩:=qz i _ hi
    cases e3
   ·have:ids[i]?=none:=abv (by omega)
    simp[g0,this]
 have JW:∀ (i:Nat) x v,oS[i]?=some x→vals[i]?=some v→cu g0 w x v:=by
  intro i x v hx rf
  obtain⟨u,hu,hxu⟩:=X6 i x hx
  have:=hv i u v hu rf
  cases hxu with
  |d y=>
   cases this with
   |d hd=>exact .d hd
  |ptr hid=>
   cases this with
   |ptr hb=>exact .ptr (by simp[g0,hid,hb])
 refine(h g0 w vals bR (by rw[hs,UB]) JW).mono ?_
 rintro e w' ⟨rv,r,g',H',rfl,lN,he,Pe,rfl,Sk⟩
 have aY:∀ b,b<w.heap.size→¬g0.X b→w'.heap[b]?=w.heap[b]?:=fun b hb hx=>he.aY b hb hx
 let g2:G:={σ:=g.σ,τ:=g.τ,υ:=g.υ,X:=g.X,Pr:=g'.Pr }
 have hold:∀ b o,g'.Pr b o→b<w.heap.size→¬g0.X b→g.Pr b o:=by
  intro b o hp hb hx
  rcases he.pK b o hp with h1|h1|h1
  ·exact h1
  ·exact(hx h1).elim
  ·omega
 have bK:cG g w g2 w':={
  same:=he.same
  size:=he.size
  pr:=he.pr
  pK:=fun b o hp=>by
   rcases he.pK b o hp with h1|h1|h1
   ·exact .inl h1
   ·exact .inr (.inl (sb b h1))
   ·exact .inr (.inr h1)
  x:=fun b hb=>.inl hb
  aY:=fun b hb hx=>aY b hb (fun h0=>hx (sb b h0))
  σ:=fun _ _ h=>h
  τ:=fun _ m a cap h=>⟨m,a,cap,h,.inr ⟨rfl,rfl,rfl⟩⟩}
 have IK:∀ (i:Nat) e,H0[i]?=some e→H'[i]?=some e:=by
  intro i e qj
  have hi:i<H0.length:=(aaS.1 qj).1
  have:(H'.take H0.length)[i]?=some e:=by rw[Sk];exact qj
  rwa[abj,aa2 hi] at this
 refine⟨rv,.d res,g2,H,rfl,?_,bK,?_,rfl,rfl⟩
 ·refine⟨lN.pr,fun b hb=>aa_ (hw.xs b hb) he.size,hw.aD,hw.sep,?_,?_,?_,?_,hw.free,hw.Ca bK⟩
  ·intro id c hc
   obtain⟨b,arr,et,h1,h2,h3,h4,h5⟩:=hw.row id c hc
   have hb:b<w.heap.size:=hw.xs b (hw.aD id _ b hc h1)
   by_cases hx:g0.X b
   ·obtain⟨i,hi⟩:=hx
    have J7:=hi
    rw[abM] at J7
    obtain⟨id',p1,p2⟩:=J7
    have G6:i<H0.length:=by rw[←hl];exact(aaS.1 p1).1
    obtain⟨Sl,c',e1,e2,e3,e4⟩:=qz i _ (aaV G6)
    rw[p1] at e1;injection e1 with e1;subst e1
    have:=hw.sep _ _ _ _ b hc e2 h1 p2
    subst this
    have k_:=IK i _ ((aaV G6).trans (by rw[e3]))
    obtain⟨b',arr',et',k1,k2,k3,k4,k5⟩:=lN.row i _ k_
    have dD:b'=b:=by
     have:=he.σ i b (by simpa[g0] using hi)
     rw[this] at k1;injection k1 with k1;exact k1.symm
    subst dD
    rw[hc] at e2;injection e2 with e2;injection e2 with e2;subst e2
    exact⟨_,arr',et',h1,k2,k3,fun k x v kB rf=>IJ (g:=g') (g':=g2) (abi.1 e4 x (abc kB)) (fun _ _=>Iff.rfl) (k4 k x v kB rf),k5⟩
   ·exact⟨b,arr,et,h1,(aY b hb hx).trans h2,h3,fun k x v kB rf=>(h4 k x v kB rf).mono bK,fun o hp=>h5 o (hold b o hp hb hx)⟩
  ·intro id n e s E3
   obtain⟨a,cap,h1,h2,Dy,h3⟩:=hw.tok id n e s E3
   refine⟨a,cap,h1,h2,Dy,fun aN=>?_⟩
   obtain⟨b,arr,e1,e2,e3,e4⟩:=h3 aN
   have U6:g.aD id (.tok n e s) b:=by simp[G.aD,h1,e1,aN]
   have hb:b<w.heap.size:=hw.xs _ (hw.aD id _ b E3 U6)
   have hx:¬g0.X b:=by
    rintro⟨i,hi⟩
    rw[abM] at hi
    obtain⟨id',p1,p2⟩:=hi
    have G6:i<H0.length:=by rw[←hl];exact(aaS.1 p1).1
    obtain⟨Sl,c',k1,k2,_,_⟩:=qz i _ (aaV G6)
    rw[p1] at k1;injection k1 with k1;subst k1
    have:=hw.sep _ _ _ _ b E3 k2 U6 p2
    subst this
    rw[E3] at k2;cases k2
   exact⟨b,arr,e1,(aY _ hb hx).trans e2,e3,fun o hp=>e4 o (hold _ o hp hb hx)⟩
  ·intro id l e s E3
   obtain⟨a,cap,h1,h2,Dy,h3⟩:=hw.bn id l e s E3
   refine⟨a,cap,h1,h2,Dy,fun aN=>?_⟩
   obtain⟨b,arr,e1,e0,e2,e3,e4,e5⟩:=h3 aN
   have U6:g.aD id (.bn l e s) b:=by simp[G.aD,h1,e1,aN]
   have hb:b<w.heap.size:=hw.xs _ (hw.aD id _ b E3 U6)
   have hx:¬g0.X b:=by
    rintro⟨i,hi⟩
    rw[abM] at hi
    obtain⟨id',p1,p2⟩:=hi
    have G6:i<H0.length:=by rw[←hl];exact(aaS.1 p1).1
    obtain⟨Sl,c',k1,k2,_,_⟩:=qz i _ (aaV G6)
    rw[p1] at k1;injection k1 with k1;subst k1
    have:=hw.sep _ _ _ _ b E3 k2 U6 p2
    subst this
    rw[E3] at k2;cases k2
   exact⟨b,arr,e1,e0,(aY _ hb hx).trans e2,e3,fun o hp=>e4 o (hold _ o hp hb hx),fun k x v hx hv=>(e5 k x v hx hv).mono bK.pr⟩
  ·intro id x E3
   obtain⟨b,h1,h2,h3,h4⟩:=hw.ob id x E3
   have Xt:∀ b,g.aD id (.ob x) b→b<w.heap.size:=fun b h=>hw.xs _ (hw.aD id _ b E3 h)
   have Xu:∀ b,g.aD id (.ob x) b→¬g0.X b:=by
    rintro b G7 ⟨i,hi⟩
    rw[abM] at hi
    obtain⟨id',p1,p2⟩:=hi
    have G6:i<H0.length:=by rw[←hl];exact(aaS.1 p1).1
    obtain⟨Sl,c',k1,k2,_,_⟩:=qz i _ (aaV G6)
    rw[p1] at k1;injection k1 with k1;subst k1
    have:=hw.sep _ _ _ _ b E3 k2 G7 p2
    subst this
    rw[E3] at k2;cases k2
   exact⟨b,h1,x.st bK.w rfl rfl (aY _ (Xt b (.inl h1)) (Xu b (.inl h1))) (fun b' hu=>aY _ (Xt b' (.inr hu)) (Xu b' (.inr hu))) h2,fun o hp=>h3 o (hold _ o hp (Xt b (.inl h1)) (Xu b (.inl h1))),fun b' o hu hp=>h4 b' o hu (hold _ o hp (Xt b' (.inr hu)) (Xu b' (.inr hu)))⟩
 ·cases Pe with
  |d hd=>exact .d hd
end Go.Proofs.YtjdnbobilgamdaaGreatDoor.Ab
end
section
namespace Go.Proofs.YtjdnbobilgamdaaGreatDoor.Ab
open Go
inductive sg(S:List Nat):V→V→Prop
 |any {v:V}:sg S v .any
 |d {v:V} {x:D}:v.zP=some x→sg S v (.d x)
 |ptr {i id off:Nat}:S[i]?=some id→sg S (.ptr id off) (.ptr i off)
 |mp {i id:Nat}:S[i]?=some id→sg S (.mp id) (.mp i)
 |tk {i id:Nat} {l:List D}:S[i]?=some id→sg S (.tk id l) (.tk i l)
 |hs {i id off len U7 s:Nat}:S[i]?=some id→len=U7→sg S (.hs id off len s) (.hs i off U7 s)
 |ex {l:List D}:sg S (.ex l) (.ex l)
 |E4:sg S .nil (.ex [])
 |nil:sg S .nil .nil
 |vp {c:List D} {off:Nat}:sg S (.vp c off) (.vp c off)
 |X7 {f:Go.Fn}:sg S (.fn f []) (.fn f [])
 |X8 {f:Go.Fn} {v u:V}:sg S v u→sg S (.fn f [v]) (.fn f [u])
 |OO {f:Go.Fn} {v u v' u':V}:sg S v u→sg S v' u'→sg S (.fn f [v,v']) (.fn f [u,u'])
 |fn3 {f:Go.Fn} {v u v' u' v2 u2:V}:sg S v u→sg S v' u'→sg S v2 u2→sg S (.fn f [v,v',v2]) (.fn f [u,u',u2])
def G.pM(g:G)(S:List Nat):G:={g with σ:=fun i=>(S[i]?).bind g.σ,τ:=fun i=>(S[i]?).bind g.τ,υ:=fun i b=>∃ j,S[i]?=some j∧g.υ j b }
theorem cu.G8{g g':G}{w:World}{f:Go.Fn}{l m:List V}{r:Value}(hl:l.length=m.length)(h:∀ (i:Nat) v u,l[i]?=some v→m[i]?=some u→∀ r,cu g w v r→cu g' w u r)(hr:cu g w (.fn f l) r):cu g' w (.fn f m) r:=by
 cases hr with
 |fn hs hc=>
  refine .fn (by omega) (fun i u r hu hr=>?_)
  have hi:i<l.length:=au
  exact h i _ u (aaV hi) hu r (hc i _ r (aaV hi) hr)
theorem sg.rep{g:G}{w:World}{S:List Nat}{v u:V}(h:sg S v u):∀ {r:Value},cu g w v r→cu (g.pM S) w u r:=by
 induction h with
 |any=>intro r _;exact .any
 |d hx=>intro r hr;exact .d (hr.zP hx)
 |ptr hi=>
  intro r hr
  cases hr with
  |ptr hb=>exact .ptr (by simp[G.pM,hi,hb])
 |mp hi=>
  intro r hr
  cases hr with
  |mp hb=>exact .mp (by simp[G.pM,hi,hb])
 |tk hi=>
  intro r hr
  cases hr with
  |tk hd ht hle heq=>exact .tk hd (by simp[G.pM,hi];exact ht) hle heq
 |hs hi hl=>
  intro r hr
  subst hl
  cases hr with
  |hs hb hc=>exact .hs (by simp[G.pM,hi];exact hb) hc
 |ex=>
  intro r hr
  cases hr with
  |ex hd=>exact .ex hd
 |E4=>
  intro r hr
  have:=hr.E4
  cases this with
  |ex hd=>exact .ex hd
 |nil=>
  intro r hr
  cases hr
  exact .nil
 |vp=>
  intro r hr
  cases hr with
  |vp h1 h2=>exact .vp h1 h2
 |X7=>intro r hr;exact cu.G8 (g':=g.pM S) rfl (fun i v u hv=>by simp at hv) hr
 |X8 _ h1=>
  intro r hr
  refine cu.G8 (g':=g.pM S) ?_ (fun i v u hv hu r hr=>?_) hr;rfl
  match i,hv,hu with
  |0,hv,hu=>simp at hv hu;subst hv;subst hu;exact h1 hr
 |OO _ _ h1 h2=>
  intro r hr
  refine cu.G8 (g':=g.pM S) ?_ (fun i v u hv hu r hr=>?_) hr;rfl
  match i,hv,hu with
  |0,hv,hu=>simp at hv hu;subst hv;subst hu;exact h1 hr
  |1,hv,hu=>simp at hv hu;subst hv;subst hu;exact h2 hr
 |fn3 _ _ _ h1 h2 h3=>
  intro r hr
  refine cu.G8 (g':=g.pM S) ?_ (fun i v u hv hu r hr=>?_) hr;rfl
  match i,hv,hu with
  |0,hv,hu=>simp at hv hu;subst hv;subst hu;exact h1 hr
  |1,hv,hu=>simp at hv hu;subst hv;subst hu;exact h2 hr
  |2,hv,hu=>simp at hv hu;subst hv;subst hu;exact h3 hr
inductive uN(S:List Nat):List V→List V→Prop
 |nil:uN S [] []
 |cons {v u:V} {c d:List V}:sg S v u→uN S c d→uN S (v::c) (u::d)
 |data {l:List D}:uN S (l.map .d) (l.map .d)
theorem uN.get{S:List Nat}{c d:List V}(h:uN S c d):c.length=d.length∧∀ (i:Nat) u,d[i]?=some u→∃ v,c[i]?=some v∧sg S v u:=by
 induction h with
 |nil=>simp
 |cons hv _ ih=>
  refine⟨by simp[ih.1],fun i u hu=>?_⟩
  cases i with
  |zero=>simp only[aa',aaW] at hu;subst hu;exact⟨_,rfl,hv⟩
  |succ i=>exact ih.2 i u (by simpa using hu)
 |data=>
  refine⟨rfl,fun i u hu=>⟨u,hu,?_⟩⟩
  simp only[aba,aa6] at hu
  obtain⟨x,_,rfl⟩:=hu
  exact .d rfl
def LW(S:List Nat)(x y:OB):Prop:=∀ {g:G} {w:World} {i j b:Nat},S[i]?=some j→x.φ g w j b→y.φ (g.pM S) w i b
inductive kC(S:List Nat)(H:List HE):List Nat→List HE→Prop
 |nil:kC S H [] []
 |dead {i:Nat} {T:List Nat} {K:List HE}:kC S H T K→kC S H (i::T) (.dead::K)
 |row {i:Nat} {T:List Nat} {K:List HE} {c d:List V}:H[i]?=some (.row c)→uN S c d→kC S H T K→kC S H (i::T) (.row d::K)
 |tok {i n s:Nat} {e:TypeId} {T:List Nat} {K:List HE}:H[i]?=some (.tok n e s)→kC S H T K→kC S H (i::T) (.tok n e s::K)
 |bn {i s:Nat} {l:List D} {e:TypeId} {T:List Nat} {K:List HE}:H[i]?=some (.bn l e s)→kC S H T K→kC S H (i::T) (.bn l e s::K)
 |ob {i:Nat} {x y:OB} {T:List Nat} {K:List HE}:H[i]?=some (.ob x)→LW S x y→kC S H T K→kC S H (i::T) (.ob y::K)
theorem kC.get{S:List Nat}{H K:List HE}{T:List Nat}(h:kC S H T K):T.length=K.length∧∀ (i:Nat) e,K[i]?=some e→∃ j,T[i]?=some j∧
  (e=.dead∨(∃ c d,H[j]?=some (.row c)∧e=.row d∧uN S c d)∨(∃ n t s,H[j]?=some (.tok n t s)∧e=.tok n t s)∨(∃ l t s,H[j]?=some (.bn l t s)∧e=.bn l t s)∨(∃ x y,H[j]?=some (.ob x)∧e=.ob y∧LW S x y)):=by
 induction h with
 |nil=>simp
 |@dead j _ _ _ ih=>
  refine⟨by simp[ih.1],fun i u hu=>?_⟩
  cases i with
  |zero=>simp only[aa',aaW] at hu;subst hu;exact⟨j,rfl,.inl rfl⟩
  |succ i=>exact ih.2 i u (by simpa using hu)
 |@row j _ _ c d h1 h2 _ ih=>
  refine⟨by simp[ih.1],fun i u hu=>?_⟩
  cases i with
  |zero=>simp only[aa',aaW] at hu;subst hu;exact⟨j,rfl,.inr (.inl ⟨c,d,h1,rfl,h2⟩)⟩
  |succ i=>exact ih.2 i u (by simpa using hu)
 |@tok j n s e _ _ h1 _ ih=>
  refine⟨by simp[ih.1],fun i u hu=>?_⟩
  cases i with
  |zero=>simp only[aa',aaW] at hu;subst hu;exact⟨j,rfl,.inr (.inr (.inl ⟨n,e,s,h1,rfl⟩))⟩
  |succ i=>exact ih.2 i u (by simpa using hu)
 |@bn j s l e _ _ h1 _ ih=>
  refine⟨by simp[ih.1],fun i u hu=>?_⟩
  cases i with
  |zero=>simp only[aa',aaW] at hu;subst hu;exact⟨j,rfl,.inr (.inr (.inr (.inl ⟨l,e,s,h1,rfl⟩)))⟩
  |succ i=>exact ih.2 i u (by simpa using hu)
 |@ob j x y _ _ h1 h2 _ ih=>
  refine⟨by simp[ih.1],fun i u hu=>?_⟩
  cases i with
  |zero=>simp only[aa',aaW] at hu;subst hu;exact⟨j,rfl,.inr (.inr (.inr (.inr ⟨x,y,h1,rfl,h2⟩)))⟩
  |succ i=>exact ih.2 i u (by simpa using hu)
theorem aQ.pM{g:G}{w:World}{S:List Nat}{H K:List HE}(hw:aQ g w H)(h:kC S H S K)(hd:distinct S=true):aQ (g.pM S) w K:=by
 obtain⟨hl,hg⟩:=h.get
 have hblk:∀ (i:Nat) e b,K[i]?=some e→(g.pM S).aD i e b→∃ j e0,S[i]?=some j∧H[j]?=some e0∧g.aD j e0 b:=by
  intro i e b he hb
  obtain⟨j,hj,h1⟩:=hg i e he
  rcases h1 with rfl|⟨c,d,h1,rfl,_⟩|⟨n,t,s,h1,rfl⟩|⟨n,t,s,h1,rfl⟩|⟨x,y,h1,rfl,_⟩
  ·simp[G.aD] at hb
  ·exact⟨j,_,hj,h1,by simpa[G.aD,G.pM,hj] using hb⟩
  ·exact⟨j,_,hj,h1,by simpa[G.aD,G.pM,hj] using hb⟩
  ·exact⟨j,_,hj,h1,by simpa[G.aD,G.pM,hj] using hb⟩
  ·exact⟨j,_,hj,h1,by simpa[G.aD,G.pM,hj] using hb⟩
 refine⟨hw.pr,hw.xs,?_,?_,?_,?_,?_,?_,?_,hw.kc⟩
 ·intro i e b he hb
  obtain⟨j,e0,_,h0,h1⟩:=hblk i e b he hb
  exact hw.aD j e0 b h0 h1
 ·intro i i' e e' b he qj hb dD
  obtain⟨j,e0,Pf,h0,h1⟩:=hblk i e b he hb
  obtain⟨j',e1,h22,h2,h3⟩:=hblk i' e' b qj dD
  have:=hw.sep j j' e0 e1 b h0 h2 h1 h3
  subst this
  exact oV hd Pf h22
 ·intro i d hd
  obtain⟨j,hj,h1⟩:=hg i _ hd
  rcases h1 with h1|⟨c,d',h1,h2,h3⟩|⟨n,t,s,_,h2⟩|⟨n,t,s,_,h2⟩|⟨_,_,_,h2,_⟩
  rotate_left 4
  ·cases h2
  ·cases h1
  ·injection h2 with h2;subst h2
   obtain⟨b,arr,et,e1,e2,e3,e4,e5⟩:=hw.row j c h1
   obtain⟨k1,k2⟩:=h3.get
   refine⟨b,arr,et,by simp[G.pM,hj,e1],e2,by omega,fun k x v hx hv=>?_,e5⟩
   obtain⟨y,hy,hle⟩:=k2 k x hx
   exact hle.rep (e4 k y v hy hv)
  ·cases h2
  ·cases h2
 ·intro i n e s hd
  obtain⟨j,hj,h1⟩:=hg i _ hd
  rcases h1 with h1|⟨c,d',_,h2,_⟩|⟨n',t,s',h1,h2⟩|⟨n',t,s',h1,h2⟩|⟨_,_,_,h2,_⟩
  rotate_left 4
  ·cases h2
  ·cases h1
  ·cases h2
  ·injection h2 with h2 h3 h4;subst h2;subst h3;subst h4
   obtain⟨a,cap,k1,k2,k3,k4⟩:=hw.tok j n e s h1
   exact⟨a,cap,by simp[G.pM,hj,k1],k2,k3,k4⟩
  ·cases h2
 ·intro i l e s hd
  obtain⟨j,hj,h1⟩:=hg i _ hd
  rcases h1 with h1|⟨c,d',_,h2,_⟩|⟨n',t,s',h1,h2⟩|⟨n',t,s',h1,h2⟩|⟨_,_,_,h2,_⟩
  rotate_left 4
  ·cases h2
  ·cases h1
  ·cases h2
  ·cases h2
  ·injection h2 with h2 h3 h4;subst h2;subst h3;subst h4
   obtain⟨a,cap,k1,k2,k3,k4⟩:=hw.bn j l e s h1
   refine⟨a,cap,by simp[G.pM,hj,k1],k2,k3,fun aN=>?_⟩
   obtain⟨b,arr,q1,q0,q2⟩:=k4 aN
   exact⟨b,arr,q1,by simp[G.pM,hj,q0],q2⟩
 ·intro i x hd
  obtain⟨j,hj,h1⟩:=hg i _ hd
  rcases h1 with h1|⟨c,d',_,h2,_⟩|⟨n',t,s',h1,h2⟩|⟨n',t,s',h1,h2⟩|⟨y,z,h1,h2,h3⟩
  ·cases h1
  ·cases h2
  ·cases h2
  ·cases h2
  ·injection h2 with h2;subst h2
   obtain⟨b,q1,q2,q3,q4⟩:=hw.ob j y h1
   exact⟨b,by simp[G.pM,hj,q1],h3 hj q2,q3,fun b' o hu hp=>by
    obtain⟨j',k1,k2⟩:=hu
    rw[hj] at k1;injection k1 with k1;subst k1
    exact q4 b' o k2 hp⟩
 ·intro i hi
  have:S[i]?=none:=by
   exact au
  exact⟨by simp[G.pM,this],by simp[G.pM,this],fun b hu=>by obtain⟨j,k1,_⟩:=hu;rw[this] at k1;cases k1⟩
def vY:Nat→List Nat→Bool
 |0,_=>true
 |n+1,S=>(match S[n]? with|some j=>Nat.beq j n|none=>false)&&vY n S
theorem qA:∀ {n:Nat} {S:List Nat},vY n S=true→∀ {i:Nat},i<n→S[i]?=some i
 |n+1,S,h,i,hi=>by
  simp only[vY,aaT] at h
  by_cases IK:i=n
  ·subst IK
   cases hs:S[i]? with
   |none=>rw[hs] at h;simp at h
   |some j=>rw[hs] at h;rw[acK h.1]
  ·exact qA h.2 (by omega)
def DE(S:List Nat):V→Bool
 |.ptr id _|.tk id _|.hs id _ _ _|.mp id=>match S[id]? with|some j=>Nat.beq j id|none=>false
 |.d _|.ex _|.nil|.vp _ _|.any=>true
 |_=>false
def X9(S:List Nat):V→Bool
 |.fn _ []=>true
 |.fn _ [v]=>DE S v
 |.fn _ [v,u]=>DE S v&&DE S u
 |.fn _ [v,u,x]=>DE S v&&(DE S u&&DE S x)
 |v=>DE S v
theorem Pg{S:List Nat}{id:Nat}(h:(match S[id]? with|some j=>Nat.beq j id|none=>false)=true):S[id]?=some id:=by
 cases hs:S[id]? with
 |none=>rw[hs] at h;simp at h
 |some j=>rw[hs] at h;rw[acK h]
theorem ri{S:List Nat}{v:V}(h:DE S v=true):sg S v v:=by
 cases v<;>simp only[DE,aaU] at h
 case ptr=>exact .ptr (Pg h)
 case mp=>exact .mp (Pg h)
 case tk=>exact .tk (Pg h)
 case hs=>exact .hs (Pg h) rfl
 case d=>exact .d rfl
 case ex=>exact .ex
 case nil=>exact .nil
 case vp=>exact .vp
 case any=>exact .any
theorem Sn{S:List Nat}{v:V}(h:X9 S v=true):sg S v v:=by
 unfold X9 at h
 split at h
 ·exact .X7
 ·exact .X8 (ri h)
 ·simp only[aaT] at h
  exact .OO (ri h.1) (ri h.2)
 ·simp only[aaT] at h
  exact .fn3 (ri h.1) (ri h.2.1) (ri h.2.2)
 ·exact ri h
def IL(S:List Nat)(E:Nat→V):List Nat→Bool
 |[]=>true
 |i::r=>X9 S (E i)&&IL S E r
theorem IM{S:List Nat}{E:Nat→V}{i:Nat}:∀ {k:List Nat},IL S E k=true→EZ k i=true→sg S (E i) (E i)
 |[],_,h=>by simp[EZ] at h
 |a::k,hk,h=>by
  simp only[IL,aaT] at hk
  by_cases ha:i=a
  ·subst ha;exact Sn hk.1
  ·have:Nat.beq i a=false:=by rw[←Bool.not_eq_true,abQ];exact ha
   simp only[EZ,this] at h
   exact IM hk.2 h
def AA(S:List Nat)(E:Nat→V):List (Nat×V)→Prop
 |[]=>True
 |(i,u)::r=>sg S (E i) u∧AA S E r
theorem AA.look{S:List Nat}{g:G}{w:World}{E:Nat→V}{i:Nat}{e:V}{r:Value}(hr:cu g w (E i) r)(he:cu (g.pM S) w e r):∀ {m:List (Nat×V)},AA S E m→cu (g.pM S) w (yN m i e) r
 |[],_=>he
 |(j,u)::m,h=>by
  simp only[yN]
  by_cases hj:i=j
  ·subst hj
   simp only[aej,abf]
   exact h.1.rep hr
  ·have:Nat.beq i j=false:=by rw[←Bool.not_eq_true,abQ];exact hj
   simp only[this,abJ]
   exact AA.look hr he h.2
def nZ(n0:Nat)(E:Nat→V)(aY:List Nat)(m:List (Nat×V))(K:List HE)(s:St):Prop:=
 ∃ S:List Nat,vY n0 S=true∧distinct S=true∧IL S E aY=true∧AA S s.env m∧pW E s.env aY∧kC S s.H S K
theorem pg{F:FC}{n0:Nat}{E:Nat→V}{aY:List Nat}{m:List (Nat×V)}{K:List HE}{s:St}{a:Act}{w:World}(hg:∀ id,n0≤id→F.g0.σ id=none∧F.g0.τ id=none)
  (h:jv F s a w)(hm:nZ n0 E aY m K s):jv F ⟨Ab.head aY E m,K⟩ a w:=by
 obtain⟨h1,h2,g,h3,h4,h5⟩:=h
 obtain⟨S,k1,k2,k3,k4,k5,k6⟩:=hm
 refine⟨h1,h2,g.pM S,h3.pM k6 k2,?_,fun i=>?_⟩
 ·refine⟨h4.same,h4.size,h4.pr,h4.pK,h4.x,h4.aY,fun id b hb=>?_,fun id m a cap ht=>?_⟩
  ·have aN:id<n0:=by
    exact au
   simp[G.pM,qA k1 aN,h4.σ id b hb]
  ·have aN:id<n0:=by
    exact au
   simpa[G.pM,qA k1 aN] using h4.τ id m a cap ht
 ·refine AA.look (h5 i) ?_ k4
  cases hi:EZ aY i with
  |true=>
   simp only[abf]
   have:=h5 i
   rw[k5.mem hi] at this
   exact(IM k3 hi).rep this
  |false=>exact .any
theorem AW.U8{F:FC}{Q:Exit→St→Prop}{α:Type}{x y:Code}{E:Nat→V}{H:List HE}(n0:Nat)(I:α→Prop)(aY:List Nat)(m:α→List (Nat×V))(K:α→List HE)
  (hg:∀ id,n0≤id→F.g0.σ id=none∧F.g0.τ id=none)
  (h1:AW F x (oT (fun s=>∃ z,I z∧nZ n0 E aY (m z) (K z) s) Q) ⟨E,H⟩)(h2:∀ z,I z→AW F y Q ⟨head aY E (m z),K z⟩):AW F (.seq x y) Q ⟨E,H⟩:=
 AW.seq (h1.mono fun e s hq=>by
  cases e with
  |normal=>
   obtain⟨z,k1,k2⟩:=hq
   exact fun a w hs=>h2 z k1 a w (pg hg hs k2)
  |_=>exact hq)
theorem AW.Rk{F:FC}{Q:Exit→St→Prop}{σ τ:Type}{c:Code}{E:Nat→V}{H:List HE}(n0:Nat)(aY:List Nat)(m:σ→List (Nat×V))(K:σ→List HE){f:σ→Option (σ⊕τ)}{n:Nat}{s0:σ}{t:τ}
  (Ph:iter n f s0=some t)(hg:∀ id,n0≤id→F.g0.σ id=none∧F.g0.τ id=none)(h0:nZ n0 E aY (m s0) (K s0) ⟨E,H⟩)
  (round:∀ n' s,iter (n'+1) f s=some t→AW F c (oT (fun st=>∃ s',iter n' f s'=some t∧nZ n0 E aY (m s') (K s') st) Q) ⟨head aY E (m s),K s⟩):AW F (.loop c) Q ⟨E,H⟩:=
 AW.loop (α:=Nat×σ) (fun x=>iter x.1 f x.2=some t) (fun x=>⟨head aY E (m x.2),K x.2⟩) (fun x=>x.1) (n,s0) Ph (fun _ _ hs=>pg hg hs h0)
  (fun x hx=>by
   obtain⟨n,s⟩:=x
   cases n with
   |zero=>exact(Rj hx).elim
   |succ n=>
    refine(round n s hx).mono fun e st hq=>?_
    cases e with
    |normal=>
     obtain⟨s',h1,h2⟩:=hq
     exact⟨(n,s'),h1,adL _,fun a w hs=>pg hg hs h2⟩
    |_=>exact hq)
theorem AW.vZ{F:FC}{Q:Exit→St→Prop}{σ τ:Type}{c:Code}{E:Nat→V}{H:List HE}(aY:List Nat)(m:σ→List (Nat×V)){f:σ→Option (σ⊕τ)}{n:Nat}{s0:σ}{t:τ}
  (Ph:iter n f s0=some t)(h0:LX E (m s0))
  (round:∀ n' s,iter (n'+1) f s=some t→AW F c (oT (fun st=>∃ s',iter n' f s'=some t∧LX st.env (m s')∧pW E st.env aY∧st.H=H) Q) ⟨head aY E (m s),H⟩):AW F (.loop c) Q ⟨E,H⟩:=
 AW.U9 (α:=Nat×σ) (fun x=>iter x.1 f x.2=some t) aY (fun x=>m x.2) (fun x=>x.1) (n,s0) Ph h0
  (fun x hx=>by
   obtain⟨n,s⟩:=x
   cases n with
   |zero=>exact(Rj hx).elim
   |succ n=>
    refine(round n s hx).mono fun e st hq=>?_
    cases e with
    |normal=>
     obtain⟨s',h1,h2,h3,h4⟩:=hq
     exact⟨(n,s'),h1,adL _,h2,h3,h4⟩
    |_=>exact hq)
end Go.Proofs.YtjdnbobilgamdaaGreatDoor.Ab
end
section
namespace Go.Proofs.YtjdnbobilgamdaaGreatDoor.Ab
open Go
abbrev LY{α:Type}(f:α→D):List α→D:=fun l=>.sl (l.map f)
def ku{α:Type}(l:List α)(k:Int)(v:α):Option (List α):=if 0≤k∧k.toNat<l.length then some (l.set k.toNat v) else none
def IN{α:Type}(b:Nat)(n:Int)(z:α):Option (List α):=if 0≤n∧n.toNat*b≤140737488355328∧n.toNat≤4611686018427387904 then some (List.replicate n.toNat z) else none
theorem qB{α:Type}{l r:List α}{k:Int}{v:α}(h:ku l k v=some r):r.length=l.length:=by
 unfold ku at h
 exact au
section
variable {P:Program}{ρ:Operand→V}{H:List HE}{ty:TypeId}
theorem aQ.AB{g:G}{w w':World}{id s cap:Nat}{l:List D}{arr:Array Value}{et:TypeId}(hw:aQ g w H)(hH:H[id]?=some .free)(n4:w'.os=w.os∧w'.tape=w.tape∧w'.output=w.output)(hh:w'.heap=w.heap.push (.cells arr et (0,0)))
  (hlen:l.length≤cap)(ji:cap≤9223372036854775807)(jj:arr.size=cap*s)(gM:∀ (k:Nat) x v,(D.flat l)[k]?=some x→arr[k]?=some v→aV g.Pr w x v):
  ∃ g',aQ g' w' (H.set id (.bn l et s))∧cG g w g' w'∧g'.τ id=some (0,some ⟨w.heap.size,0,none⟩,cap):=by
 have eC:id<H.length:=(aaS.1 hH).1
 obtain⟨G9,DF,J8⟩:=hw.free id (.inl hH)
 let B:=w.heap.size
 let g':G:={σ:=fun i=>if i=id then some B else g.σ i,τ:=fun i=>if i=id then some (0,some ⟨B,0,none⟩,cap) else g.τ i,υ:=g.υ,X:=fun b=>g.X b∨b=B,Pr:=g.Pr }
 have hold:∀ b,b<B→w'.heap[b]?=w.heap[b]?:=fun b hb=>by
  exact au
 have qk:w'.heap[B]?=some (.cells arr et (0,0)):=au
 have dE:w'.heap.size=B+1:=au
 have pN:∀ i,i≠id→g'.σ i=g.σ i:=fun i h=>by simp[g',h]
 have gN:∀ i,i≠id→g'.τ i=g.τ i:=fun i h=>by simp[g',h]
 have mw:g'.τ id=some (0,some ⟨B,0,none⟩,cap):=by simp[g']
 have bK:cG g w g' w':={
  same:=n4
  size:=by omega
  pr:=fun b o hp=>⟨hp,by have:=hw.pr b o hp;simp[World.cell?,hold b this]⟩
  pK:=fun b o h=>.inl h
  x:=fun b h=>h.imp (fun h=>h) (fun e=>by omega)
  aY:=fun b hb _=>hold b hb
  σ:=fun i b h=>by
   exact au
  τ:=fun i m a cap h=>by
   have:i≠id:=fun e=>by subst e;rw[DF] at h;cases h
   exact⟨m,a,cap,by rw[gN i this];exact h,.inr ⟨rfl,rfl,rfl⟩⟩}
 have ax:∀ (i:Nat) e,(H.set id (.bn l et s))[i]?=some e→(i=id∧e=.bn l et s)∨(i≠id∧H[i]?=some e):=au
 have hblk:∀ (i:Nat) e b',(H.set id (.bn l et s))[i]?=some e→g'.aD i e b'→(i=id∧b'=B)∨(i≠id∧H[i]?=some e∧g.aD i e b'∧b'<B):=by
  intro i e b' he dD
  rcases ax i e he with ⟨rfl,rfl⟩|⟨aR,h⟩
  ·simp only[G.aD,mw,aaQ] at dD
   exact au
  ·have:g.aD i e b':=by
    cases e<;>simp only[G.aD,pN i aR,gN i aR] at dD ⊢<;>exact dD
   exact .inr ⟨aR,h,this,hw.xs b' (hw.aD i e b' h this)⟩
 refine⟨g',⟨fun b o h=>by have:=hw.pr b o h;show b<w'.heap.size;omega,?_,?_,?_,?_,?_,?_,?_,?_,hw.Ca bK⟩,bK,mw⟩
 ·intro b h
  show b<w'.heap.size
  rcases h with h|rfl
  ·have:=hw.xs b h;omega
  ·omega
 ·intro i e b' he dD
  rcases hblk i e b' he dD with ⟨_,rfl⟩|⟨_,h1,h2,_⟩
  ·exact .inr rfl
  ·exact .inl (hw.aD i e b' h1 h2)
 ·intro i i' e e' b' he qj yO xE
  rcases hblk i e b' he yO with ⟨r1,r2⟩|⟨_,h1,h2,h3⟩<;>rcases hblk i' e' b' qj xE with ⟨s1,s2⟩|⟨_,h4,h5,h6⟩
  ·omega
  ·omega
  ·omega
  ·exact hw.sep i i' e e' b' h1 h4 h2 h5
 ·intro i ci hi
  rcases ax i _ hi with ⟨rfl,he⟩|⟨aR,h⟩
  ·cases he
  ·obtain⟨b1,dx,sj,g1,g2,g3,g4,g5⟩:=hw.row i ci h
   have aN:=hw.xs b1 (hw.aD i _ b1 h (by simpa[G.aD] using g1))
   exact⟨b1,dx,sj,by rw[pN i aR];exact g1,(hold b1 aN).trans g2,g3,fun k x v hx hv=>(g4 k x v hx hv).mono bK,g5⟩
 ·intro i n e s hi
  rcases ax i _ hi with ⟨_,he⟩|⟨aR,h⟩
  ·cases he
  ·obtain⟨a,cap,g1,g2,g3,g4⟩:=hw.tok i n e s h
   exact au
 ·intro i l1 e s1 hi
  rcases ax i _ hi with ⟨rfl,he⟩|⟨aR,h⟩
  ·injection he with q1 q2 q3
   subst q1;subst q2;subst q3
   refine⟨_,cap,mw,hlen,ji,fun _=>⟨B,arr,rfl,by simp[g'],qk,jj,fun o hp=>by have:=hw.pr B o hp;omega,fun k x v hx hv=>(gM k x v hx hv).mono bK.pr⟩⟩
  ·obtain⟨a,cap,g1,g2,g3,g4⟩:=hw.bn i l1 e s1 h
   refine⟨a,cap,by rw[gN i aR];exact g1,g2,g3,fun aN=>?_⟩
   obtain⟨b1,dx,k1,k0,k2,k3,k4,k5⟩:=g4 aN
   have DG:=hw.xs b1 (hw.aD i _ b1 h (by simp[G.aD,g1,aN,k1]))
   exact⟨b1,dx,k1,by rw[pN i aR];exact k0,(hold b1 DG).trans k2,k3,k4,fun k x v hx hv=>(k5 k x v hx hv).mono bK.pr⟩
 ·intro i x hi
  rcases ax i _ hi with ⟨_,he⟩|⟨aR,h⟩
  ·cases he
  ·obtain⟨b1,q1,q2,q3,q4⟩:=hw.ob i x h
   have aN:=hw.xs b1 (hw.aD i _ b1 h (.inl q1))
   exact⟨b1,by rw[pN i aR];exact q1,x.st bK.w (gN i aR) rfl (hold b1 aN) (fun b' hu=>hold b' (hw.xs b' (hw.aD i _ b' h (.inr hu)))) q2,q3,q4⟩
 ·intro i hi
  have aR:i≠id:=au
  rw[pN i aR,gN i aR]
  refine hw.free i ?_
  exact au
theorem aQ.pw{g:G}{w w':World}{id b s cap:Nat}{l l':List D}{arr':Array Value}{et:TypeId}(hw:aQ g w H)(hH:H[id]?=some (.bn l et s))(ht:g.τ id=some (0,some ⟨b,0,none⟩,cap))(h0:0<cap)
  (uE:g.σ id=some b)(n4:w'.os=w.os∧w'.tape=w.tape∧w'.output=w.output)(dE:w'.heap.size=w.heap.size)(hn:w'.heap[b]?=some (.cells arr' et (0,0)))(ho:∀ b',b'≠b→w'.heap[b']?=w.heap[b']?)
  (hlen:l'.length≤cap)(jj:arr'.size=cap*s)(gM:∀ (k:Nat) x v,(D.flat l')[k]?=some x→arr'[k]?=some v→aV g.Pr w x v):aQ g w' (H.set id (.bn l' et s))∧cG g w g w':=by
 have eC:id<H.length:=(aaS.1 hH).1
 have E5:g.aD id (.bn l et s) b:=by simp[G.aD,ht,h0]
 have hX:g.X b:=hw.aD id _ b hH E5
 obtain⟨a0,sk,f1,f2,f3,f4⟩:=hw.bn id l et s hH
 rw[ht] at f1;injection f1 with f1;injection f1 with _ f1;injection f1 with f1 X_
 subst f1;subst X_
 obtain⟨b0,U_,q1,q0,q2,q3,q4,q5⟩:=f4 h0
 injection q1 with q1;injection q1 with q1
 subst q1
 have bK:cG g w g w':={
  same:=n4
  size:=by omega
  pr:=fun b' o hp=>⟨hp,by
   have aR:b'≠b:=fun e=>by subst e;exact q4 o hp
   simp[World.cell?,ho b' aR]⟩
  pK:=fun b o h=>.inl h
  x:=fun b h=>.inl h
  aY:=fun b' _ hx=>ho b' (fun e=>by subst e;exact hx hX)
  σ:=fun _ _ h=>h
  τ:=fun _ m a cap h=>⟨m,a,cap,h,.inr ⟨rfl,rfl,rfl⟩⟩}
 have ax:∀ (i:Nat) e,(H.set id (.bn l' et s))[i]?=some e→(i=id∧e=.bn l' et s)∨(i≠id∧H[i]?=some e):=au
 have hblk:∀ (i:Nat) e b',(H.set id (.bn l' et s))[i]?=some e→g.aD i e b'→∃ e',H[i]?=some e'∧g.aD i e' b':=by
  intro i e b' he dD
  rcases ax i e he with ⟨rfl,rfl⟩|⟨_,h⟩
  ·exact⟨_,hH,dD⟩
  ·exact au
 refine⟨⟨fun b o h=>by rw[dE];exact hw.pr b o h,fun b h=>by rw[dE];exact hw.xs b h,?_,?_,?_,?_,?_,?_,?_,hw.Ca bK⟩,bK⟩
 ·intro i e b' he dD
  obtain⟨e',h1,h2⟩:=hblk i e b' he dD
  exact hw.aD i e' b' h1 h2
 ·intro i i' e e' b' he qj yO xE
  obtain⟨e1,h1,h2⟩:=hblk i e b' he yO
  obtain⟨e3,h3,h4⟩:=hblk i' e' b' qj xE
  exact hw.sep i i' e1 e3 b' h1 h3 h2 h4
 ·intro i ci hi
  rcases ax i _ hi with ⟨rfl,he⟩|⟨aR,h⟩
  ·cases he
  ·obtain⟨b1,dx,sj,g1,g2,g3,g4,g5⟩:=hw.row i ci h
   have mN:b1≠b:=fun e=>aR (hw.sep i id _ _ b1 h hH (by simpa[G.aD] using g1) (by rw[e];exact E5))
   exact⟨b1,dx,sj,g1,(ho b1 mN).trans g2,g3,fun k x v hx hv=>(g4 k x v hx hv).mono bK,g5⟩
 ·intro i n e s hi
  rcases ax i _ hi with ⟨_,he⟩|⟨aR,h⟩
  ·cases he
  ·obtain⟨a,cap,g1,g2,g3,g4⟩:=hw.tok i n e s h
   exact au
 ·intro i l1 e s1 hi
  rcases ax i _ hi with ⟨rfl,he⟩|⟨aR,h⟩
  ·injection he with r1 r2 r3
   subst r1;subst r2;subst r3
   exact⟨_,cap,ht,hlen,f3,fun _=>⟨b,arr',rfl,uE,hn,jj,q4,fun k x v hx hv=>(gM k x v hx hv).mono bK.pr⟩⟩
  ·obtain⟨a,cap,g1,g2,g3,g4⟩:=hw.bn i l1 e s1 h
   refine⟨a,cap,g1,g2,g3,fun aN=>?_⟩
   obtain⟨b1,dx,k1,k0,k2,k3,k4,k5⟩:=g4 aN
   have mN:b1≠b:=fun e'=>aR (hw.sep i id _ _ b1 h hH (by simp[G.aD,g1,aN,k1]) (by rw[e'];exact E5))
   exact⟨b1,dx,k1,k0,(ho b1 mN).trans k2,k3,k4,fun k x v hx hv=>(k5 k x v hx hv).mono bK.pr⟩
 ·intro i x hi
  rcases ax i _ hi with ⟨_,he⟩|⟨aR,h⟩
  ·cases he
  ·obtain⟨b1,q1,q2,q3,q4⟩:=hw.ob i x h
   have mN:b1≠b:=fun e'=>aR (hw.sep i id _ _ b1 h hH (.inl q1) (by rw[e'];exact E5))
   have Sp:∀ b',g.υ i b'→b'≠b:=fun b' hu e'=>aR (hw.sep i id _ _ b' h hH (.inr hu) (by rw[e'];exact E5))
   exact⟨b1,q1,x.st bK.w rfl rfl (ho b1 mN) (fun b' hu=>ho b' (Sp b' hu)) q2,q3,q4⟩
 ·intro i hi
  refine hw.free i ?_
  exact au
theorem AE{c:List D}{s:Nat}(hc:c.length=s){n k:Nat}{x:D}{z:D}(hz:z.cells=c)(h:(D.flat (List.replicate n z))[k]?=some x):∃ j,c[j]?=some x∧j=k%s:=by
 induction n generalizing k with
 |zero=>simp[D.flat] at h
 |succ n ih=>
  rw[List.replicate_succ] at h
  simp only[D.flat,acV,hz] at h
  rw[ado] at h
  split at h
  ·exact⟨k,h,by rw[abX (by omega)]⟩
  ·obtain⟨j,h1,h2⟩:=ih (by simpa[D.flat] using h)
   exact⟨j,h1,by rw[h2,hc,←Nat.mod_eq_sub_mod (by omega)]⟩
theorem qC{α:Type}{f:α→D}{z:α}{r:List α}{x:Operand}{t e s bytes n:Nat}{zs:List Value}{a:Int}(hx:As (ρ x) (.int .i64 a))(ht:pt P t e s bytes)(hz:Zr P e zs)(hf:(f z).cells=zs.map ue)
  (hn:H.length=n)(hv:IN bytes a z=some r):bj P (.makeSlice t x x) ty ρ H (.hs n 0 r.length s) (H++[.bn (r.map f) e s]):=by
 subst hn
 unfold IN at hv
 split at hv
 ·rename_i hc
  obtain⟨h0,h1,h2⟩:=hc
  injection hv with hv;subst hv
  intro g w r pos after guard dst hw h
  have CD:=hx.int (h x (by simp[Op.operands]))
  obtain⟨i,zv,hi,dE,yP,ug,CE⟩:=ht.i
  obtain⟨i',z',k1,k2,k3,k4⟩:=hz.z
  rw[hi] at k1;injection k1 with k1;subst k1
  rw[ug] at k2;injection k2 with k2;subst k2
  have dz:=run_make (P:=P) w t e i zv ht.u hi ug .i64 .i64 a a h0 (Int.le_refl _) (by rw[yP];have:((a.toNat*bytes:Nat):Int)=(bytes:Int)*a:=(by rw[Int.natCast_mul,acw h0,Int.mul_comm]);omega) (by omega)
  have Sq:zs.length=s:=au
  obtain⟨g',w1,w2,w3⟩:=hw.il.AB (w':=w.alloc (.cells (madeCells zv.cells (a.toNat*i.size)) e)) (id:=H.length) (l:=(List.replicate a.toNat z).map f) (s:=s) (cap:=a.toNat) (arr:=madeCells zv.cells (a.toNat*i.size)) (et:=e) (by simp) ⟨rfl,rfl,rfl⟩ rfl (by simp) (by omega) (by rw[size_madeCells,dE]) (fun k x v hx hv=>by
   rw[List.map_replicate] at hx
   obtain⟨j,q1,q2⟩:=AE (s:=s) (by simp[Sq]) hf hx
   have hk:k<a.toNat*i.size:=by
    have:=(abd.1 hv).1
    rwa[size_madeCells] at this
   have U':0<s:=au
   have hj:j<zs.length:=au
   simp only[aba,aa6] at q1
   obtain⟨u,q3,rfl⟩:=q1
   have Ya:v=u:=by
    simp only[madeCells,ad2,Array.getElem?_range,hk,abh,abN,aaW] at hv
    exact au
   rw[Ya]
   exact aV.ue _ _ _)
  rw[mO] at w1
  unfold aO
  simp only[execOp,CD,abl,dz,aa3,abu]
  refine⟨g',?_,?_,?_⟩
  ·exact w1
  ·exact w2
  ·exact .hs w3 (fun _=>⟨rfl,by simp,rfl,by simp⟩)
 ·cases hv
theorem jU{α:Type}{f:α→D}(h1:∀ x,(f x).cells=[f x])(l:List α):D.flat (l.map f)=l.map f:=
 v_ (fun x hx=>by obtain⟨y,_,rfl⟩:=abS.1 hx;exact h1 y)
theorem CG{x:Operand}{t e s bytes id off len:Nat}{l:List D}{s':Nat}{e':TypeId}(hx:Is (ρ x) (.hs id off len s))(hH:H[id]?=some (.bn l e' s'))(ht:pt P t e s bytes):bj P (.call ⟨.builtin .len,#[x],#[t]⟩) ty ρ H (.d (.int .i64 (len:Int))) H:=
 bj.aW fun g w r hw h=>⟨.int .i64 len,fun _ _ _ _=>by
  have:=hx.rep (h x (by simp[Op.operands,Call.operands]))
  obtain⟨a,cap,k1,_⟩:=hw.bn id l e' s' hH
  generalize hr:r x=v at this
  cases this with
  |hs q1 q2=>
   rw[k1] at q1;injection q1 with q1;injection q1 with q1 q3
   obtain⟨_,p2,_,_⟩:=q2 q1.symm
   subst p2
   simp[execOp,resolve,invoke,builtin,Builtin.len_,aaX ht.u,hr,goInt],.d (.int _ _)⟩
theorem rQ{α:Type}{f:α→D}{l:List α}{v:α}{x y:Operand}{t e bytes id len:Nat}{k:IntKind}{a:Int}(hx:Is (ρ x) (.hs id 0 len 1))(hH:H[id]?=some (.bn (l.map f) e 1))(hl:l.length=len)
  (hy:As (ρ y) (.int k a))(hv:ix l a=some v)(ht:pt P t e 1 bytes):bj P (.indexAddr t x y) ty ρ H (.ptr id a.toNat) H:=
 bj.aW fun g w r hw h=>by
  have h1:=hx.rep (h x (by simp[Op.operands]))
  have h2:=hy.int (h y (by simp[Op.operands]))
  obtain⟨i,hi,rf⟩:=mM hv
  subst hi
  have G_:i<l.length:=(aaS.1 rf).1
  obtain⟨ad,cap,k1,k2,k3,k4⟩:=hw.bn id _ _ _ hH
  simp only[aa4] at k2
  obtain⟨b,arr,rfl,q0,q2,q3,q4,q5⟩:=k4 (by omega)
  obtain⟨ie,z,im,dE,_⟩:=ht.i
  generalize hr:r x=u at h1
  cases h1 with
  |@hs _ _ _ _ m eZ n0 c0 a' a0 p1 p2=>
   rw[k1] at p1;injection p1 with p1;injection p1 with p1 p3
   injection p3 with p3 p4
   obtain⟨r1,r2,r3,r4⟩:=pV (p2 p1.symm)
   have aN:i<n0:=by omega
   subst r1;subst r3;subst p3
   refine⟨.pointer (some ⟨b,i,none⟩),fun _ _ _ _=>?_,.ptr q0⟩
   simp[execOp,Instr.indexAt,asIntOf,hr,h2,aaX ht.u,aN,aq im,dE,Addr.aT]
theorem eg{α:Type}{f:α→D}{l:List α}{v:α}{x:Operand}{t id:Nat}{e:TypeId}{a:Int}(h1:∀ x,(f x).cells=[f x])(hx:Is (ρ x) (.ptr id a.toNat))(hH:H[id]?=some (.bn (l.map f) e 1))(hv:ix l a=some v)(ht:Sc P t):
  bj P (.load t x) ty ρ H (.d (f v)) H:=
 bj.aW fun g w r hw h=>by
  have hp:=hx.rep (h x (by simp[Op.operands]))
  obtain⟨i,hi,rf⟩:=mM hv
  subst hi
  have G_:i<l.length:=(aaS.1 rf).1
  obtain⟨ad,cap,k1,k2,k3,k4⟩:=hw.bn id _ _ _ hH
  simp only[aa4] at k2
  obtain⟨b,arr,rfl,q0,q2,q3,q4,q5⟩:=k4 (by omega)
  generalize hr:r x=u at hp
  cases hp with
  |@ptr _ _ b' hb=>
   obtain rfl:b'=b:=by rw[hb] at q0;exact aa5 q0
   have aN:i<arr.size:=by omega
   simp only[aa8] at hr
   have kD:w.cell? ⟨b',i,none⟩=some arr[i]:=by rw[aL q2];simp[aN]
   refine⟨arr[i],fun _ _ _ _=>by simp[execOp,Instr.loadAt,Instr.sureAddr,hr,fE ht kD],.d (q5 i _ _ ?_ (by simp[aN]))⟩
   rw[jU h1];simp[rf]
theorem e9{α:Type}{f:α→D}{l r:List α}{v:α}{x y:Operand}{t id:Nat}{e:TypeId}{a:Int}(h1:∀ x,(f x).cells=[f x])(hx:Is (ρ x) (.ptr id a.toNat))(hy:As (ρ y) (f v))(hH:H[id]?=some (.bn (l.map f) e 1))(hv:ku l a v=some r)
  (dE:∃ i,P.info? t=some i∧i.size=1)(hf:En f 1):bj P (.store t x y) ty ρ H .any (H.set id (.bn (r.map f) e 1)):=by
 unfold ku at hv
 split at hv
 ·rename_i hc
  injection hv with hv;subst hv
  obtain⟨h0,aaf⟩:=hc
  obtain⟨i,rfl⟩:∃ i:Nat,a=(i:Int):=⟨a.toNat,by omega⟩
  simp only[aa8] at *
  intro g w r pos after guard dst hw h
  have hp:=hx.rep (h x (by simp[Op.operands]))
  have hu:=hy.rep (h y (by simp[Op.operands]))
  have eL:=hu.one (hf.one v (f v) (by rw[h1];simp))
  have kh:(r y).cells=#[r y]:=by
   cases Lu:r y<;>simp_all [Value.cells,Value.oneCell']
  obtain⟨inf,hi,Lv⟩:=dE
  obtain⟨ad,cap,k1,k2,k3,k4⟩:=hw.bn id _ _ _ hH
  simp only[aa4] at k2
  have ji:0<cap:=by omega
  obtain⟨b,arr,rfl,q0,q2,q3,q4,q5⟩:=k4 ji
  generalize hr:r x=v' at hp
  cases hp with
  |@ptr _ _ b' hb=>
   obtain rfl:b'=b:=by rw[hb] at q0;exact aa5 q0
   have Sr:i<arr.size:=by omega
   have dz:=acG P b' i e (r y).cells.toList 0 arr w q2 (by rw[kh];simp;omega) (fun u lO=>by rw[kh] at lO;simp at lO;subst lO;exact eL)
   have pX:(r y).cells.size=inf.size:=au
   unfold aO
   simp only[execOp,Instr.storeAt,Instr.sureAddr,hr,abl,abu,aa3,storeVar,aq hi,pX,ne_eq,adf,abb,dz]
   refine⟨g,?_⟩
   have key:=aQ.pw (w':=w.setRow b' (arr.toList.take (i+0)++(r y).cells.toList++arr.toList.drop (i+0+(r y).cells.toList.length)).toArray) (l':=(l.set i v).map f)
    (arr':=(arr.toList.take (i+0)++(r y).cells.toList++arr.toList.drop (i+0+(r y).cells.toList.length)).toArray) hw hH k1 ji hb ⟨rfl,rfl,rfl⟩ (acJ w b' _) (acR w b' arr _ e _ q2) (fun Pj aR=>acQ w b' Pj _ aR)
    (by simpa using k2) (by rw[kh];simp;omega) (fun k x u kB lO=>by
     rw[jU h1,aba,aa6] at kB
     obtain⟨z,hz,rfl⟩:=kB
     rw[kh] at lO
     simp only[acy,aca] at lO
     have l2:(List.take i arr.toList).length=i:=au
     rw[abk] at lO
     rw[adi] at hz
     by_cases hk:k<i
     ·rw[aa1 (by omega),abj,aa2 hk,aa0] at lO
      rw[aa7 (by omega)] at hz
      exact q5 k _ u (by rw[jU h1];simp[hz]) lO
     ·rw[aaY (by omega),l2] at lO
      by_cases oJ:k=i
      ·exact au
      ·rw[aaY (by simp;omega),abn,aa0] at lO
       rw[aa7 (by omega)] at hz
       refine q5 k _ u (by rw[jU h1];simp[hz]) ?_
       rw[←lO];congr 1;simp;omega)
   exact⟨key.1,key.2,.any⟩
 ·cases hv
end
end Go.Proofs.YtjdnbobilgamdaaGreatDoor.Ab
end
