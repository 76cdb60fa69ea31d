/- The abstract states over which the walks of this claim are typed: data, values, what a value in memory stands for, and how a world may evolve. The rules of the walk over abstract states: statements, branches, loops, the operations of a region in their order, entering a function. What each operation comes to over abstract states, proved against the model, one lemma an operation. Conditions: none. -/
import Derived.Test.YtjdnbobilgamdaaGreatDoorAl
import Derived.Calls
import Derived.Orders
import Derived.Laws.Cells
import Derived.Laws.Tables
import Derived.Laws.AppendOwn
import Derived.Laws.IdiomCopy
import Derived.ChangeKeysEq
section
namespace Go.Proofs.YtjdnbobilgamdaaGreatDoor.Ab
open Go
theorem au{p:Prop}(h:p:=by first|assumption|rfl|omega|grind|simp_all):p:=h
def KC:List (Nat×Array Value):=[]
inductive D where
 |bool (b:Bool)
 |int (k:IntKind) (n:Int)
 |str (s:List UInt8)
 |sl (l:List D)
 |agg (l:List D)
 |gd (l:List D)
 |raw (v:Value)
 deriving Inhabited
abbrev D.i(n:Int):D:=.int .i64 n
def D.cells:D→List D
 |.agg l=>l
 |x=>[x]
def D.flat(l:List D):List D:=l.flatMap D.cells
inductive V where
 |d (x:D)
 |hs (id off len s:Nat)
 |ptr (id off:Nat)
 |mp (id:Nat)
 |vp (c:List D) (off:Nat)
 |tk (id:Nat) (l:List D)
 |ex (l:List D)
 |nil
 |fn (f:Fn) (lK:List V)
 |agg (cells:List V)
 |gd (vs:List V)
 |when (b:Bool) (v:V)
 |any
 deriving Inhabited
structure G where
 σ:Nat→Option Nat
 τ:Nat→Option (Nat×Option Addr×Nat)
 υ:Nat→Nat→Prop
 X:Nat→Prop
 Pr:Nat→Nat→Prop
inductive aV(Pr:Nat→Nat→Prop)(w:World):D→Value→Prop
 |bool (b:Bool):aV Pr w (.bool b) (.bool b)
 |int (k:IntKind) (n:Int):aV Pr w (.int k n) (.int k n)
 |str (s:List UInt8):aV Pr w (.str s) (.string ⟨s.toArray⟩)
 |raw (v:Value):aV Pr w (.raw v) v
 |agg (l:List D) (arr:Array Value):arr.size=l.length→(∀ (i:Nat) x v,l[i]?=some x→arr[i]?=some v→aV Pr w x v)→aV Pr w (.agg l) (.agg arr)
 |gd (l:List D) (arr:Array Value):arr.size=l.length→(∀ (i:Nat) x v,l[i]?=some x→arr[i]?=some v→aV Pr w x v)→aV Pr w (.gd l) (.tuple arr)
 |sl (l:List D) (a:Option Addr) (cap s:Nat) (f:Nat→Value):(∀ x∈l,x.cells.length=s)→l.length≤cap→
   (l≠[]→∃ b o,a=some ⟨b,o,none⟩∧∀ k,k<l.length*s→Pr b (o+k)∧w.cell? ⟨b,o+k,none⟩=some (f k))→
   (∀ (k:Nat) x,(D.flat l)[k]?=some x→aV Pr w x (f k))→aV Pr w (.sl l) (.slice a l.length cap)
def GZ(a:Option Addr)(cap off s:Nat):Option Addr:=if off=0 then a else if cap=off then a else a.map (·.add (off*s))
theorem pV{a a0:Option Addr}{cap s n0 len c0:Nat}(h:a0=GZ a cap 0 s∧n0=len∧c0=cap-0∧len+0≤cap):a0=a∧n0=len∧c0=cap∧len≤cap:=h
inductive cu(g:G)(w:World):V→Value→Prop
 |d {x:D} {r:Value}:aV g.Pr w x r→cu g w (.d x) r
 |hs {id off len s m cap n0 c0:Nat} {a a0:Option Addr}:g.τ id=some (m,a,cap)→(m=0→a0=GZ a cap off s∧n0=len∧c0=cap-off∧len+off≤cap)→cu g w (.hs id off len s) (.slice a0 n0 c0)
 |ptr {id off b:Nat}:g.σ id=some b→cu g w (.ptr id off) (.pointer (some ⟨b,off,none⟩))
 |mp {id b:Nat}:g.σ id=some b→cu g w (.mp id) (.map (some b))
 |vp {c:List D} {off b o:Nat} {f:Nat→Value}:(∀ k,k<c.length→g.Pr b (o+k)∧w.cell? ⟨b,o+k,none⟩=some (f k))→
   (∀ (k:Nat) x,c[k]?=some x→aV g.Pr w x (f k))→cu g w (.vp c off) (.pointer (some ⟨b,o+off,none⟩))
 |tk {id:Nat} {l:List D} {r:Value} {m cap:Nat} {a:Option Addr}:aV g.Pr w (.sl l) r→g.τ id=some (m,a,cap)→l.length≤m→
   (l.length=m→r=.slice a m cap)→cu g w (.tk id l) r
 |ex {l:List D} {a:Option Addr}:aV g.Pr w (.sl l) (.slice a l.length l.length)→cu g w (.ex l) (.slice a l.length l.length)
 |nil:cu g w .nil (.slice none 0 0)
 |fn {f:Fn} {lK:List V} {arr:Array Value}:arr.size=lK.length→(∀ (i:Nat) x v,lK[i]?=some x→arr[i]?=some v→cu g w x v)→
   cu g w (.fn f lK) (.func f #[] arr)
 |agg {l:List V} {arr:Array Value}:arr.size=l.length→(∀ (i:Nat) x v,l[i]?=some x→arr[i]?=some v→cu g w x v)→cu g w (.agg l) (.agg arr)
 |gd {l:List V} {arr:Array Value}:arr.size=l.length→(∀ (i:Nat) x v,l[i]?=some x→arr[i]?=some v→cu g w x v)→cu g w (.gd l) (.tuple arr)
 |when {b:Bool} {v:V} {r:Value}:(b=true→cu g w v r)→(b=false→r=undef)→cu g w (.when b v) r
 |any {r:Value}:cu g w .any r
structure cG(g:G)(w:World)(g':G)(w':World):Prop where
 same:w'.os=w.os∧w'.tape=w.tape∧w'.output=w.output
 size:w.heap.size≤w'.heap.size
 pr:∀ b o,g.Pr b o→g'.Pr b o∧w'.cell? ⟨b,o,none⟩=w.cell? ⟨b,o,none⟩
 pK:∀ b o,g'.Pr b o→g.Pr b o∨g.X b∨w.heap.size≤b
 x:∀ b,g'.X b→g.X b∨w.heap.size≤b
 aY:∀ b,b<w.heap.size→¬g.X b→w'.heap[b]?=w.heap[b]?
 σ:∀ id b,g.σ id=some b→g'.σ id=some b
 τ:∀ id m a cap,g.τ id=some (m,a,cap)→∃ m' a' eZ,g'.τ id=some (m',a',eZ)∧(m<m'∨(m'=m∧a'=a∧eZ=cap))
structure Dx(g:G)(w:World)(g':G)(w':World):Prop where
 pr:∀ b o,g.Pr b o→g'.Pr b o∧w'.cell? ⟨b,o,none⟩=w.cell? ⟨b,o,none⟩
 σ:∀ id b,g.σ id=some b→g'.σ id=some b
 τ:∀ id m a cap,g.τ id=some (m,a,cap)→∃ m' a' eZ,g'.τ id=some (m',a',eZ)∧(m<m'∨(m'=m∧a'=a∧eZ=cap))
theorem cG.w{g g':G}{w w':World}(h:cG g w g' w'):Dx g w g' w':=⟨h.pr,h.σ,h.τ⟩
structure OB where
 φ:G→World→Nat→Nat→Prop
 st:∀ {g g':G} {w w':World} {id b:Nat},Dx g w g' w'→g'.τ id=g.τ id→g'.υ id=g.υ id→w'.heap[b]?=w.heap[b]?→(∀ b',g.υ id b'→w'.heap[b']?=w.heap[b']?)→φ g w id b→φ g' w' id b
 fr:Bool
 JV:fr=true→∀ {g g':G} {w:World} {i j b:Nat},g'.Pr=g.Pr→g'.τ j=g.τ i→g'.υ j=g.υ i→φ g w i b→φ g' w j b
inductive HE where
 |free
 |dead
 |row (cells:List V)
 |tok (n:Nat) (e:TypeId) (s:Nat)
 |bn (l:List D) (e:TypeId) (s:Nat)
 |ob (x:OB)
instance:Inhabited HE:=⟨.free⟩
def G.aD(g:G):Nat→HE→Nat→Prop
 |id,.row _,b=>g.σ id=some b
 |id,.ob _,b=>g.σ id=some b∨g.υ id b
 |id,.tok n _ _,b=>((g.τ id).bind fun t=>if n<t.2.2 then t.2.1.map (·.block) else none)=some b
 |id,.bn _ _ _,b=>((g.τ id).bind fun t=>if 0<t.2.2 then t.2.1.map (·.block) else none)=some b
 |_,_,_=>False
structure aQ(g:G)(w:World)(H:List HE):Prop where
 pr:∀ b o,g.Pr b o→b<w.heap.size
 xs:∀ b,g.X b→b<w.heap.size
 aD:∀ (id:Nat) e b,H[id]?=some e→g.aD id e b→g.X b
 sep:∀ (id id':Nat) e e' b,H[id]?=some e→H[id']?=some e'→g.aD id e b→g.aD id' e' b→id=id'
 row:∀ (id:Nat) c,H[id]?=some (.row c)→∃ b arr et,g.σ id=some b∧w.heap[b]?=some (.cells arr et (0,0))∧c.length≤arr.size∧
  (∀ (k:Nat) x v,c[k]?=some x→arr[k]?=some v→cu g w x v)∧(∀ o,¬g.Pr b o)
 tok:∀ (id:Nat) n e s,H[id]?=some (.tok n e s)→∃ a cap,g.τ id=some (n,a,cap)∧n≤cap∧cap≤9223372036854775807∧
  (n<cap→∃ b arr,a=some ⟨b,0,none⟩∧w.heap[b]?=some (.cells arr e (0,0))∧arr.size=cap*s∧(∀ o,g.Pr b o→o<n*s))
 bn:∀ (id:Nat) l e s,H[id]?=some (.bn l e s)→∃ a cap,g.τ id=some (0,a,cap)∧l.length≤cap∧cap≤9223372036854775807∧
  (0<cap→∃ b arr,a=some ⟨b,0,none⟩∧g.σ id=some b∧w.heap[b]?=some (.cells arr e (0,0))∧arr.size=cap*s∧(∀ o,¬g.Pr b o)∧
   (∀ (k:Nat) x v,(D.flat l)[k]?=some x→arr[k]?=some v→aV g.Pr w x v))
 ob:∀ (id:Nat) x,H[id]?=some (.ob x)→∃ b,g.σ id=some b∧x.φ g w id b∧(∀ o,¬g.Pr b o)∧(∀ b' o,g.υ id b'→¬g.Pr b' o)
 free:∀ (id:Nat),(H[id]?=some .free∨H.length≤id)→g.σ id=none∧g.τ id=none∧∀ b,¬g.υ id b
 kc:∀ x∈KC,¬g.X x.1∧(∀ o,o<x.2.size→g.Pr x.1 o)∧∃ et fr,w.heap[x.1]?=some (.cells x.2 et fr)
theorem aQ.Ca{g g':G}{w w':World}{H:List HE}(hw:aQ g w H)(he:cG g w g' w'):∀ x∈KC,¬g'.X x.1∧(∀ o,o<x.2.size→g'.Pr x.1 o)∧∃ et fr,w'.heap[x.1]?=some (.cells x.2 et fr):=fun x hx=>by
 obtain⟨h1,h2,et,fr,h3⟩:=hw.kc x hx
 have hb:x.1<w.heap.size:=(abd.1 h3).1
 refine⟨fun h=>?_,fun o ho=>(he.pr _ _ (h2 o ho)).1,et,fr,by rw[he.aY _ hb h1];exact h3⟩
 rcases he.x _ h with h|h
 ·exact h1 h
 ·omega
theorem cG.refl(g:G)(w:World):cG g w g w where
 same:=⟨rfl,rfl,rfl⟩
 size:=aaZ _
 pr:=fun _ _ h=>⟨h,rfl⟩
 pK:=fun _ _ h=>.inl h
 x:=fun _ h=>.inl h
 aY:=fun _ _ _=>rfl
 σ:=fun _ _ h=>h
 τ:=fun _ m a cap h=>⟨m,a,cap,h,.inr ⟨rfl,rfl,rfl⟩⟩
theorem cG.trans{g g' IE:G}{w w' Cy:World}(h:cG g w g' w')(h':cG g' w' IE Cy):cG g w IE Cy where
 same:=⟨h'.same.1.trans h.same.1,h'.same.2.1.trans h.same.2.1,h'.same.2.2.trans h.same.2.2⟩
 size:=abE h.size h'.size
 pr:=fun b o hp=>by
  obtain⟨h1,h2⟩:=h.pr b o hp
  obtain⟨h3,h4⟩:=h'.pr b o h1
  exact au
 pK:=fun b o hp=>by
  have:=h.size
  rcases h'.pK b o hp with h1|h1|h1
  ·exact h.pK b o h1
  ·rcases h.x b h1 with h2|h2
   ·exact au
   ·exact au
  ·exact au
 x:=fun b hx=>by
  have:=h.size
  rcases h'.x b hx with h1|h1
  ·exact h.x b h1
  ·exact au
 aY:=fun b hb hx=>by
  have hs:=h.size
  have kB:¬g'.X b:=fun hc=>by
   rcases h.x b hc with h1|h1
   ·exact hx h1
   ·omega
  exact(h'.aY b (by omega) kB).trans (h.aY b hb hx)
 σ:=fun id b hb=>h'.σ id b (h.σ id b hb)
 τ:=fun id m a cap ht=>by
  obtain⟨m1,a1,c1,e1,o1⟩:=h.τ id m a cap ht
  obtain⟨m2,a2,c2,e2,o2⟩:=h'.τ id m1 a1 c1 e1
  exact au
theorem aV.mono{Pr Pr':Nat→Nat→Prop}{w w':World}(h:∀ b o,Pr b o→Pr' b o∧w'.cell? ⟨b,o,none⟩=w.cell? ⟨b,o,none⟩)
  {x:D}{r:Value}(hr:aV Pr w x r):aV Pr' w' x r:=by
 induction hr with
 |bool b=>exact .bool b
 |int k n=>exact .int k n
 |str s=>exact .str s
 |raw v=>exact .raw v
 |agg l arr hs _ ih=>exact .agg l arr hs ih
 |gd l arr hs _ ih=>exact .gd l arr hs ih
 |sl l a cap s f hs hc k_ _ ih=>
  refine .sl l a cap s f hs hc (fun aR=>?_) ih
  obtain⟨b,o,ha,hk⟩:=k_ aR
  exact⟨b,o,ha,fun k aN=>⟨(h _ _ (hk k aN).1).1,(h _ _ (hk k aN).1).2.trans (hk k aN).2⟩⟩
theorem cu.Rg{g g':G}{w w':World}(h:Dx g w g' w'){x:V}{r:Value}(hr:cu g w x r):cu g' w' x r:=by
 induction hr with
 |d hd=>exact .d (hd.mono h.pr)
 |hs ht heq=>
  obtain⟨m',a',eZ,e',o'⟩:=h.τ _ _ _ _ ht
  refine .hs e' (fun h0=>?_)
  rcases o' with o'|⟨rfl,rfl,rfl⟩
  ·omega
  ·exact heq h0
 |ptr hb=>exact .ptr (h.σ _ _ hb)
 |mp hb=>exact .mp (h.σ _ _ hb)
 |vp hk hd=>exact .vp (fun k aN=>⟨(h.pr _ _ (hk k aN).1).1,(h.pr _ _ (hk k aN).1).2.trans (hk k aN).2⟩) (fun k x hx=>(hd k x hx).mono h.pr)
 |tk hd ht hle heq=>
  obtain⟨m',a',eZ,e',o'⟩:=h.τ _ _ _ _ ht
  refine .tk (hd.mono h.pr) e' ?_ (fun hl=>?_)
  ·exact au
  ·exact au
 |ex hd=>exact .ex (hd.mono h.pr)
 |nil=>exact .nil
 |fn hs _ ih=>exact .fn hs ih
 |agg hs _ ih=>exact .agg hs ih
 |gd hs _ ih=>exact .gd hs ih
 |when h1 h2 ih=>exact .when ih h2
 |any=>exact .any
def aJ(P:Program)(f:FuncId)(args:List V)(H:List HE)(R:V→List HE→Prop):Prop:=
 ∀ (g:G) (w:World) (vals:Array Value),aQ g w H→vals.size=args.length→(∀ (i:Nat) x v,args[i]?=some x→vals[i]?=some v→cu g w x v)→
  Calls P f vals w fun e w'=>∃ rv res g' H',e=.returned rv∧aQ g' w' H'∧cG g w g' w'∧cu g' w' res rv∧R res H'
def Fn(P:Program)(f:FuncId)(args:List D)(res:D):Prop:=aJ P f (args.map .d) [] fun r _=>r=.d res
theorem cu.mono{g g':G}{w w':World}(h:cG g w g' w'){x:V}{r:Value}(hr:cu g w x r):cu g' w' x r:=hr.Rg h.w
theorem aJ.mono{P:Program}{f:FuncId}{args:List V}{H:List HE}{R R':V→List HE→Prop}(h:aJ P f args H R)(hr:∀ r H',R r H'→R' r H'):aJ P f args H R':=
 fun g w vals hw hs ha=>(h g w vals hw hs ha).mono fun _ _ ⟨rv,res,g',H',h1,h2,h3,h4,h5⟩=>⟨rv,res,g',H',h1,h2,h3,h4,hr _ _ h5⟩
theorem Fn.at{P:Program}{f:FuncId}{args:List D}{res:D}(h:Fn P f args res)(H:List HE):
  aJ P f (args.map .d) H fun r H'=>r=.d res∧H'=H:=by
 intro g w vals hw hs ha
 let g0:G:={σ:=fun _=>none,τ:=fun _=>none,υ:=fun _ _=>False,X:=fun _=>False,Pr:=g.Pr }
 have bR:aQ g0 w []:=by
  refine⟨hw.pr,fun b hb=>hb.elim,?_,?_,?_,?_,?_,?_,fun _ _=>⟨rfl,rfl,fun _ h=>h⟩,fun x hx=>⟨fun h=>h,(hw.kc x hx).2⟩⟩<;>intros<;>simp_all
 have JW:∀ (i:Nat) x v,(args.map V.d)[i]?=some x→vals[i]?=some v→cu g0 w x v:=by
  intro i x v hx hv
  have:=ha i x v hx hv
  simp only[aba,aa6] at hx
  obtain⟨y,_,rfl⟩:=hx
  cases this with
  |d hd=>exact .d hd
 refine(h g0 w vals bR hs JW).mono ?_
 rintro e w' ⟨rv,r,g',H',rfl,lN,he,hr,rfl⟩
 have aY:∀ b,b<w.heap.size→w'.heap[b]?=w.heap[b]?:=fun b hb=>he.aY b hb (fun h=>h)
 let g2:G:={σ:=g.σ,τ:=g.τ,υ:=g.υ,X:=g.X,Pr:=g'.Pr }
 have hold:∀ b o,g'.Pr b o→b<w.heap.size→g.Pr b o:=by
  intro b o hp hb
  rcases he.pK b o hp with h1|h1|h1
  ·exact h1
  ·exact h1.elim
  ·omega
 have bK:cG g w g2 w':={
  same:=he.same
  size:=he.size
  pr:=he.pr
  pK:=fun b o hp=>by
   exact au
  x:=fun b hb=>.inl hb
  aY:=fun b hb _=>aY b hb
  σ:=fun _ _ h=>h
  τ:=fun _ m a cap h=>⟨m,a,cap,h,.inr ⟨rfl,rfl,rfl⟩⟩}
 refine⟨rv,.d res,g2,H,rfl,?_,bK,?_,rfl,rfl⟩
 ·refine⟨lN.pr,fun b hb=>aa_ (hw.xs b hb) he.size,hw.aD,hw.sep,?_,?_,?_,?_,hw.free,hw.Ca bK⟩
  ·intro id c hc
   obtain⟨b,arr,et,h1,h2,h3,h4,h5⟩:=hw.row id c hc
   have hb:b<w.heap.size:=hw.xs b (hw.aD id _ b hc h1)
   exact⟨b,arr,et,h1,(aY b hb).trans h2,h3,fun k x v hx hv=>(h4 k x v hx hv).mono bK,fun o hp=>h5 o (hold b o hp hb)⟩
  ·intro id n e s hn
   obtain⟨a,cap,h1,h2,Dy,h3⟩:=hw.tok id n e s hn
   exact au
  ·intro id l e s hn
   obtain⟨a,cap,h1,h2,Dy,h3⟩:=hw.bn id l e s hn
   refine⟨a,cap,h1,h2,Dy,fun aN=>?_⟩
   obtain⟨b,arr,e1,e0,e2,e3,e4,e5⟩:=h3 aN
   have hb:b<w.heap.size:=hw.xs _ (hw.aD id _ b hn (by simp[G.aD,h1,e1,aN]))
   exact⟨b,arr,e1,e0,(aY _ hb).trans e2,e3,fun o hp=>e4 o (hold _ o hp hb),fun k x v hx hv=>(e5 k x v hx hv).mono bK.pr⟩
  ·intro id x hx
   obtain⟨b,h1,h2,h3,h4⟩:=hw.ob id x hx
   have hb:b<w.heap.size:=hw.xs b (hw.aD id _ b hx (.inl h1))
   have Rh:∀ b',g.υ id b'→b'<w.heap.size:=fun b' h=>hw.xs b' (hw.aD id _ b' hx (.inr h))
   exact⟨b,h1,x.st bK.w rfl rfl (aY b hb) (fun b' h=>aY b' (Rh b' h)) h2,fun o hp=>h3 o (hold b o hp hb),fun b' o h hp=>h4 b' o h (hold b' o hp (Rh b' h))⟩
 ·cases hr with
  |d hd=>exact .d hd
end Go.Proofs.YtjdnbobilgamdaaGreatDoor.Ab
end
section
namespace Go.Proofs.YtjdnbobilgamdaaGreatDoor.Ab
open Go
structure St where
 env:Nat→V
 H:List HE
structure FC where
 P:Program
 n:Nat
 g0:G
 w0:World
def jv(F:FC)(st:St)(a:Act)(w:World):Prop:=
 a.defers=[]∧a.tmps.size=F.n∧∃ g,aQ g w st.H∧cG F.g0 F.w0 g w∧∀ i,cu g w (st.env i) (a.tmps.getD i undef)
def Hc(E:Nat→V)(d:Nat)(v:V):Nat→V:=fun i=>cond (Nat.beq i d) v (E i)
def lL(E:Nat→V):Option Nat→V→Nat→V
 |some d,v=>Hc E d v
 |none,_=>E
theorem mP(E:Nat→V)(d:Nat)(v:V):Hc E d v d=v:=by simp[Hc]
theorem AG(E:Nat→V){d i:Nat}(v:V)(h:i≠d):Hc E d v i=E i:=by
 have:Nat.beq i d=false:=by rw[←Bool.not_eq_true,abQ];exact h
 simp[Hc,this]
def ue:Value→D
 |.bool b=>.bool b
 |.int k n=>.int k n
 |.string s=>.str s.data.toList
 |.slice none 0 0=>.sl []
 |v=>.raw v
def Hl:Value→D
 |.agg cs=>.agg (cs.toList.map ue)
 |v=>ue v
def vT:Value→V
 |.slice none 0 0=>.ex []
 |v=>.d (Hl v)
def L6:Value→V
 |.slice none 0 0=>.nil
 |v=>.d (Hl v)
def ρ(E:Nat→V):Operand→V
 |.tmp t=>E t
 |.const v=>L6 v
 |.func f=>.fn (.func f) []
 |.global _=>.any
theorem aV.ue(Pr:Nat→Nat→Prop)(w:World)(v:Value):aV Pr w (ue v) v:=by
 unfold Ab.ue
 split
 ·exact .bool _
 ·exact .int _ _
 ·rename_i s;exact .str s.data.toList
 ·exact .sl [] none 0 0 (fun _=>undef) (by simp) (by simp) (by simp) (by simp[D.flat])
 ·exact .raw _
theorem aV.Hl(Pr:Nat→Nat→Prop)(w:World)(v:Value):aV Pr w (Hl v) v:=by
 unfold Ab.Hl
 split
 ·rename_i cs
  refine .agg _ cs (by simp) (fun i x v hx hv=>?_)
  simp only[aba,aa0,hv,abN,aaW] at hx
  rw[←hx];exact aV.ue Pr w v
 ·exact aV.ue Pr w _
theorem cu.vT(g:G)(w:World)(v:Value):cu g w (vT v) v:=by
 unfold Ab.vT
 split
 ·exact .ex (.sl [] none 0 0 (fun _=>undef) (by simp) (by simp) (by simp) (by simp[D.flat]))
 ·exact .d (aV.Hl _ _ _)
theorem cu.L6(g:G)(w:World)(v:Value):cu g w (L6 v) v:=by
 unfold Ab.L6
 split
 ·exact .nil
 ·exact .d (aV.Hl _ _ _)
theorem cu.eval{g:G}{w:World}{E:Nat→V}{a:Act}(h:∀ i,cu g w (E i) (a.tmps.getD i undef))(x:Operand):cu g w (ρ E x) (a.eval x):=by
 cases x with
 |tmp t=>exact h t
 |const v=>exact cu.L6 g w v
 |func f=>exact .fn (by simp) (by simp)
 |global _=>exact .any
def AW(F:FC)(c:Code)(Q:Exit→St→Prop)(st:St):Prop:=
 ∀ a w,jv F st a w→c.wp F.P (fun e a' w'=>∃ mH,jv F mH a' w'∧Q e mH) a w
def oT(K:St→Prop)(Q:Exit→St→Prop):Exit→St→Prop
 |.normal,s=>K s
 |e,s=>Q e s
def uP(id:Nat)(Q:Exit→St→Prop):Exit→St→Prop
 |.exit id',s=>cond (Nat.beq id' id) (Q .normal s) (Q (.exit id') s)
 |e,s=>Q e s
section
variable {F:FC}{Q:Exit→St→Prop}{st:St}
theorem AW.mono{c:Code}{Q':Exit→St→Prop}(h:AW F c Q st)(hq:∀ e s,Q e s→Q' e s):AW F c Q' st:=
 fun a w hs=>aea (h a w hs) fun _ _ _ ⟨mH,h1,h2⟩=>⟨mH,h1,hq _ _ h2⟩
theorem AW.skip(h:Q .normal st):AW F .skip Q st:=fun _ _ hs=>wp_skip ⟨st,hs,h⟩
theorem AW.label{l:Nat}(h:Q .normal st):AW F (.label l) Q st:=fun _ _ hs=>wp_label ⟨st,hs,h⟩
theorem AW.exit{id:Nat}(h:Q (.exit id) st):AW F (.exit id) Q st:=fun _ _ hs=>wp_exit ⟨st,hs,h⟩
theorem AW.ret(h:Q .ret st):AW F .ret Q st:=fun _ _ hs=>wp_ret ⟨st,hs,h⟩
theorem AW.seq{x y:Code}(h:AW F x (oT (AW F y Q) Q) st):AW F (.seq x y) Q st:=by
 intro a w hs
 refine wp_seq (aea (h a w hs) ?_)
 rintro e a' w' ⟨mH,h1,h2⟩
 cases e with
 |normal=>exact h2 a' w' h1
 |exit id=>exact⟨mH,h1,h2⟩
 |goto l=>exact⟨mH,h1,h2⟩
 |ret=>exact⟨mH,h1,h2⟩
 |panic c=>exact⟨mH,h1,h2⟩
 |outgrown=>exact⟨mH,h1,h2⟩
theorem AW.block{id:Nat}{c:Code}(h:AW F c (uP id Q) st):AW F (.block id c) Q st:=by
 intro a w hs
 refine wp_block (aea (h a w hs) ?_)
 rintro e a' w' ⟨mH,h1,h2⟩
 cases e with
 |exit id'=>
  by_cases hid:id'=id
  ·subst hid
   simp only[uP,aej,abf] at h2
   simp only[Exit.inBlock,abh]
   exact au
  ·have hb:Nat.beq id' id=false:=by rw[←Bool.not_eq_true,abQ];exact hid
   simp only[uP,hb,abJ] at h2
   simp only[Exit.inBlock,aa7 hid]
   exact au
 |normal=>exact⟨mH,h1,h2⟩
 |goto l=>exact⟨mH,h1,h2⟩
 |ret=>exact⟨mH,h1,h2⟩
 |panic c=>exact⟨mH,h1,h2⟩
 |outgrown=>exact⟨mH,h1,h2⟩
theorem AW.cond{c:Operand}{x y:Code}{b:Bool}(hc:ρ st.env c=.d (.bool b))(ht:b=true→AW F x Q st)(hf:b=false→AW F y Q st):
  AW F (.cond c x y) Q st:=by
 intro a w hs
 obtain⟨h1,h2,g,h3,h4,h5⟩:=hs
 have he:=cu.eval h5 c
 rw[hc] at he
 cases he with
 |d hd=>
  generalize hv:a.eval c=v at hd
  cases hd with
  |bool b=>exact wp_cond_split hv (fun hb=>ht hb a w ⟨h1,h2,g,h3,h4,h5⟩) (fun hb=>hf hb a w ⟨h1,h2,g,h3,h4,h5⟩)
theorem AW.loop{α:Type}{c:Code}(I:α→Prop)(S:α→St)(μ:α→Nat)(Hm:α)(Sz:I Hm)
  (enter:∀ a w,jv F st a w→jv F (S Hm) a w)
  (round:∀ x,I x→AW F c (oT (fun s=>∃ x',I x'∧μ x'<μ x∧∀ a w,jv F s a w→jv F (S x') a w) Q) (S x)):AW F (.loop c) Q st:=by
 intro a w hs b k cs
 have key:∀ n x,μ x=n→I x→∀ a w,jv F (S x) a w→
   ∃ e a' w',(∃ mH,jv F mH a' w'∧Q e mH)∧Arrives F.P (lone (b.at a (.code c::.inLoop c::k)) cs w) b k cs e a' w':=by
  intro n
  induction n using Nat.strongRecOn with
  |_ n ih=>
   intro x hn hx a w Vc
   obtain⟨e,uQ,uR,⟨mH,h1,h2⟩,jj⟩:=round x hx a w Vc b (.inLoop c::k) cs
   cases e with
   |normal=>
    obtain⟨x',kB,aN,Ve⟩:=h2
    obtain⟨Pu,SA,SB,L7,DO⟩:=ih (μ x') (hn▸aN) x' rfl kB uQ uR (Ve uQ uR h1)
    exact⟨Pu,SA,SB,L7,.of_steps (Steps.trans jj (.one step_inLoop)) DO⟩
   |exit id=>exact⟨_,uQ,uR,⟨mH,h1,h2⟩,.pass (x:=.inLoop c) rfl (fun _ _=>.inl (by simp)) jj⟩
   |goto l=>exact⟨_,uQ,uR,⟨mH,h1,h2⟩,.pass (x:=.inLoop c) rfl (fun _ _=>.inl (by simp)) jj⟩
   |ret=>exact⟨_,uQ,uR,⟨mH,h1,h2⟩,.pass (x:=.inLoop c) rfl (fun _ _=>.inl (by simp)) jj⟩
   |panic ch=>exact⟨_,uQ,uR,⟨mH,h1,h2⟩,.pass (x:=.inLoop c) rfl (fun _ _=>.inl (by simp)) jj⟩
   |outgrown=>exact⟨_,uQ,uR,⟨mH,h1,h2⟩,.pass (x:=.inLoop c) rfl (fun _ _=>.inl (by simp)) jj⟩
 obtain⟨e,a',w',hq,jj⟩:=key _ Hm rfl Sz a w (enter a w hs)
 exact⟨e,a',w',hq,.of_steps (.one step_loop) jj⟩
def Hn(P:Program)(ops:Array Oper)(Q:Exit→Act→World→Prop):List Oper→Act→World→Prop
 |[],a,w=>Q .normal a w
 |o::rest,a,w=>if Region.wanted o (yielded ops a.tmps) then o.wp P a w (Hn P ops Q rest) Q else Hn P ops Q rest (a.put o.dst undef) w
theorem oW{P:Program}{ops:Array Oper}{Q:Exit→Act→World→Prop}:∀ (os:List Oper) (k:Nat),(∀ j:Nat,os[j]?=ops[k+j]?)→∀ a w,
  Hn P ops Q os a w→wpOps P ops Q (List.range' k os.length) a w
 |[],_,_,_,_,h=>h
 |o::rest,k,hj,a,w,h=>by
  have h0:ops[k]?=some o:=by have:=hj 0;simpa using this.symm
  have ih:=oW (P:=P) (ops:=ops) (Q:=Q) rest (k+1) (fun j=>by have:=hj (j+1);rw[List.getElem?_cons_succ] at this;rw[this];congr 1;omega)
  simp only[abp,adr,wpOps,h0]
  simp only[Hn] at h
  split
  ·rename_i hw
   simp only[hw,abh] at h
   exact .inl (Oper.wp_mono (fun a w=>ih a w) h)
  ·exact au
def aO(P:Program)(o:Oper)(r:Operand→Value)(w:World)(K:Value→World→Prop):Prop:=
 match (execOp r o).run P w with
 |.ok (.value v) w'=>K v w'
 |.ok .skip w'=>K undef w'
 |.ok (.enter f args) w'=>Calls P f args w' fun e Cy=>∃ v,e=.returned v∧K v Cy
 |_=>False
theorem aO.wp{P:Program}{o:Oper}{a:Act}{w:World}{K:Value→World→Prop}{next:Act→World→Prop}{Q:Exit→Act→World→Prop}
  (h:aO P o a.eval w K)(hk:∀ v w',K v w'→next (a.put o.dst v) w'):o.wp P a w next Q:=by
 unfold aO at h
 unfold Oper.wp
 generalize (execOp a.eval o).run P w=r at *
 cases r with
 |ok n w'=>
  cases n<;>simp only[Oper.upon] at h ⊢<;>try exact h.elim
  case value v=>exact hk _ _ h
  case skip=>exact hk _ _ h
  case enter f args=>exact h.mono fun e Cy ⟨v,he,hK⟩=>by subst he;exact hk _ _ hK
 |halt x w'=>simp only at h
theorem Oper.L8{P:Program}{o:Oper}{a:Act}{w:World}{K K':Act→World→Prop}{Q Q':Exit→Act→World→Prop}(h:∀ a w,K a w→K' a w)(_hq:∀ c a w,Q c a w→c=.normal→Q' c a w)
  (hQ:∀ c a w,Q c a w→c=.normal)(hh:o.wp P a w K Q):o.wp P a w K' Q':=by
 unfold Oper.wp at *
 generalize (execOp a.eval o).run P w=r at *
 cases r with
 |ok n w'=>
  cases n<;>simp only[Oper.upon] at hh ⊢<;>
   first
    |exact h _ _ hh
    |exact Calls.mono hh (fun e Cy he=>by
      cases e with
      |returned v=>exact h _ _ he
      |panicked c=>have:=hQ _ _ _ he;cases this
      |outgrown=>obtain⟨a0,w0,h0⟩:=he;have:=hQ _ _ _ h0;cases this)
    |exact Rows.mono hh (fun _ _ he=>h _ _ he)
 |halt x w'=>
  cases x<;>simp only[Oper.upon] at hh ⊢<;>first
   |exact hh
   |(have:=hQ _ _ _ hh;cases this)
def bj(P:Program)(o:Op)(ty:TypeId)(ρ:Operand→V)(H:List HE)(v:V)(H':List HE):Prop:=
 ∀ g w r pos after guard dst,aQ g w H→(∀ x,x∈o.operands→cu g w (ρ x) (r x))→
  aO P ⟨dst,o,ty,pos,after,guard⟩ r w fun rv w'=>∃ g',aQ g' w' H'∧cG g w g' w'∧cu g' w' v rv
def AL(F:FC)(ops:Array Oper)(K:St→Prop)(os:List Oper)(st:St):Prop:=
 ∀ a w,jv F st a w→Hn F.P ops (fun e a' w'=>e=.normal∧∃ mH,jv F mH a' w'∧K mH) os a w
variable {K:St→Prop}
theorem jv.put{a:Act}{w w':World}{g g':G}{dst:Option Nat}{v:V}{rv:Value}{H':List HE}(h1:a.defers=[])(h2:a.tmps.size=F.n)
  (h4:cG F.g0 F.w0 g w)(h5:∀ i,cu g w (st.env i) (a.tmps.getD i undef))(hd:∀ d,dst=some d→d<F.n)(hw:aQ g' w' H')(he:cG g w g' w')(hr:cu g' w' v rv):
  jv F ⟨lL st.env dst v,H'⟩ (a.put dst rv) w':=by
 cases dst with
 |none=>exact⟨h1,h2,g',hw,h4.trans he,fun i=>(h5 i).mono he⟩
 |some d=>
  have aN:d<a.tmps.size:=au
  refine⟨h1,by simpa[Act.put] using h2,g',hw,h4.trans he,fun i=>?_⟩
  by_cases hi:i=d
  ·subst hi
   simp only[lL,mP,Act.put]
   exact au
  ·simp only[lL,AG _ _ hi,Act.put]
   have:(a.tmps.setIfInBounds d rv).getD i undef=a.tmps.getD i undef:=by
    simp[abB,abD (acN hi)]
   rw[this];exact(h5 i).mono he
def vU:Option Nat→Nat→Bool
 |none,_=>true
 |some d,n=>Nat.blt d n
theorem uS{dst:Option Nat}{n:Nat}(h:vU dst n=true):∀ d,dst=some d→d<n:=by
 rintro d rfl
 simpa[vU,abK] using h
theorem AL.nil{ops:Array Oper}(h:K st):AL F ops K [] st:=fun _ _ hs=>⟨rfl,st,hs,h⟩
theorem AL.step{ops:Array Oper}{dst:Option Nat}{o:Op}{ty:TypeId}{pos:String}{after:Array Edge}{rest:List Oper}{v:V}{H':List HE}
  (hd:vU dst F.n=true)(h:bj F.P o ty (ρ st.env) st.H v H')(k:AL F ops K rest ⟨lL st.env dst v,H'⟩):AL F ops K (⟨dst,o,ty,pos,after,none⟩::rest) st:=by
 have hd:=uS hd
 rintro a w ⟨h1,h2,g,h3,h4,h5⟩
 simp only[Hn,Region.wanted,abh]
 refine aO.wp (h g w a.eval pos after none dst h3 (fun x _=>cu.eval h5 x)) ?_
 rintro rv w' ⟨g',lN,he,hr⟩
 exact k _ _ (jv.put h1 h2 h4 h5 hd lN he hr)
theorem wm{g:G}{w:World}{E:Nat→V}{ops:Array Oper}{tmps:Array Value}{j t:Nat}(h5:∀ i,cu g w (E i) (tmps.getD i undef))(hj:(ops[j]?).bind (·.dst)=some t)(ht:t<tmps.size):
  (∀ b,E t=.d (.bool b)→yielded ops tmps j=some b)∧
  (∀ p b,E t=.when p (.d (.bool b))→yielded ops tmps j=if p=true then some b else none):=by
 have hg:tmps[t]?=some (tmps.getD t undef):=au
 have h:=h5 t
 refine⟨fun b hb=>?_,fun p b hb=>?_⟩
 ·rw[hb] at h
  cases h with
  |d hd=>
   generalize hv:tmps.getD t undef=v at *
   cases hd
   simp[yielded,hj,hg]
 ·rw[hb] at h
  cases h with
  |«when» h1 h2=>
   cases p with
   |true=>
    cases h1 rfl with
    |d hd=>
     generalize hv:tmps.getD t undef=v at *
     cases hd
     simp[yielded,hj,hg]
   |false=>
    simp only[h2 rfl] at hg
    simp[yielded,hj,hg,undef]
theorem AL.stepG{ops:Array Oper}{dst:Option Nat}{o:Op}{ty:TypeId}{pos:String}{after:Array Edge}{rest:List Oper}{v:V}{j t:Nat}{want b q:Bool}
  (hj:(ops[j]?).bind (·.dst)=some t)(qi:Nat.blt t F.n=true)(hb:st.env t=.d (.bool b))(hq:q=(b==want))(hd:vU dst F.n=true)
  (h:b=want→bj F.P o ty (ρ st.env) st.H v st.H)(k:AL F ops K rest ⟨lL st.env dst (.when q v),st.H⟩):
  AL F ops K (⟨dst,o,ty,pos,after,some (j,want)⟩::rest) st:=by
 have hd:=uS hd
 have qi:t<F.n:=au
 subst hq
 rintro a w ⟨h1,h2,g,h3,h4,h5⟩
 have hy:=(wm (ops:=ops) h5 hj (by rw[h2];exact qi)).1 b hb
 simp only[Hn,Region.wanted,hy]
 by_cases Xx:b=want
 ·subst Xx
  simp only[adK,abh]
  refine aO.wp (h rfl g w a.eval pos after _ dst h3 (fun x _=>cu.eval h5 x)) ?_
  rintro rv w' ⟨g',lN,he,hr⟩
  exact k _ _ (jv.put h1 h2 h4 h5 hd lN he (.when (fun _=>hr) (by simp)))
 ·have hf:(some b==some want)=false:=by simpa using Xx
  have Pp:(b==want)=false:=au
  simp only[hf,aaU,abb]
  exact k _ _ (jv.put h1 h2 h4 h5 hd h3 (.refl _ _) (.when (fun h=>by rw[Pp] at h;cases h) (fun _=>rfl)))
theorem AL.AK{ops:Array Oper}{dst:Option Nat}{o:Op}{ty:TypeId}{pos:String}{after:Array Edge}{rest:List Oper}{v:V}{j t:Nat}{want b p q:Bool}
  (hj:(ops[j]?).bind (·.dst)=some t)(qi:Nat.blt t F.n=true)(hb:st.env t=.when p (.d (.bool b)))(hq:q=(p&&(b==want)))(hd:vU dst F.n=true)
  (h:p=true→b=want→bj F.P o ty (ρ st.env) st.H v st.H)(k:AL F ops K rest ⟨lL st.env dst (.when q v),st.H⟩):
  AL F ops K (⟨dst,o,ty,pos,after,some (j,want)⟩::rest) st:=by
 have hd:=uS hd
 have qi:t<F.n:=au
 subst hq
 rintro a w ⟨h1,h2,g,h3,h4,h5⟩
 have hy:=(wm (ops:=ops) h5 hj (by rw[h2];exact qi)).2 p b hb
 simp only[Hn,Region.wanted,hy]
 by_cases Xx:p=true∧b=want
 ·obtain⟨rfl,rfl⟩:=Xx
  simp only[adK,abh]
  refine aO.wp (h rfl rfl g w a.eval pos after _ dst h3 (fun x _=>cu.eval h5 x)) ?_
  rintro rv w' ⟨g',lN,he,hr⟩
  exact k _ _ (jv.put h1 h2 h4 h5 hd lN he (.when (fun _=>hr) (by simp)))
 ·have hf:((if p=true then some b else none)==some want)=false:=by
   exact au
  have Pp:(p&&(b==want))=false:=au
  simp only[hf,aaU,abb]
  exact k _ _ (jv.put h1 h2 h4 h5 hd h3 (.refl _ _) (.when (fun h=>by rw[Pp] at h;cases h) (fun _=>rfl)))
theorem Pv(b:Bool):b=(b==true):=au
theorem Pw(b:Bool):(!b)=(b==false):=au
section
variable {ops:Array Oper}{dst:Option Nat}{o:Op}{ty:TypeId}{pos:String}{after:Array Edge}{rest:List Oper}{v:V}{j t:Nat}{b p:Bool}
theorem AL.stepT(hj:(ops[j]?).bind (·.dst)=some t)(qi:Nat.blt t F.n=true)(hb:st.env t=.d (.bool b))(hd:vU dst F.n=true)
  (h:b=true→bj F.P o ty (ρ st.env) st.H v st.H)(k:AL F ops K rest ⟨lL st.env dst (.when b v),st.H⟩):AL F ops K (⟨dst,o,ty,pos,after,some (j,true)⟩::rest) st:=AL.stepG hj qi hb (Pv b) hd h k
theorem AL.LJ(hj:(ops[j]?).bind (·.dst)=some t)(qi:Nat.blt t F.n=true)(hb:st.env t=.d (.bool b))(hd:vU dst F.n=true)
  (h:b=false→bj F.P o ty (ρ st.env) st.H v st.H)(k:AL F ops K rest ⟨lL st.env dst (.when (!b) v),st.H⟩):AL F ops K (⟨dst,o,ty,pos,after,some (j,false)⟩::rest) st:=AL.stepG hj qi hb (Pw b) hd h k
theorem AL.G0(hj:(ops[j]?).bind (·.dst)=some t)(qi:Nat.blt t F.n=true)(hb:st.env t=.when p (.d (.bool b)))(hd:vU dst F.n=true)
  (h:p=true→b=true→bj F.P o ty (ρ st.env) st.H v st.H)(k:AL F ops K rest ⟨lL st.env dst (.when (p&&b) v),st.H⟩):AL F ops K (⟨dst,o,ty,pos,after,some (j,true)⟩::rest) st:=AL.AK hj qi hb (by rw[←Pv]) hd h k
theorem AL.G1(hj:(ops[j]?).bind (·.dst)=some t)(qi:Nat.blt t F.n=true)(hb:st.env t=.when p (.d (.bool b)))(hd:vU dst F.n=true)
  (h:p=true→b=false→bj F.P o ty (ρ st.env) st.H v st.H)(k:AL F ops K rest ⟨lL st.env dst (.when (p&&!b) v),st.H⟩):AL F ops K (⟨dst,o,ty,pos,after,some (j,false)⟩::rest) st:=AL.AK hj qi hb (by rw[←Pw]) hd h k
end
theorem AL.run{ops:Array Oper}{id:Nat}(h:AL F ops K ops.toList st){Q:Exit→St→Prop}(hK:∀ s,K s→Q .normal s):AW F (.region id ops false) Q st:=by
 intro a w hs
 refine wp_region ?_
 have:=oW (P:=F.P) (ops:=ops) (Q:=fun e a' w'=>∃ mH,jv F mH a' w'∧Q e mH) ops.toList 0 (by simp) a w ?_
 ·rwa[adm,←Array.length_toList]
 ·have h0:=h a w hs
  have mono:∀ (os:List Oper) a w,Hn F.P ops (fun e a' w'=>e=.normal∧∃ mH,jv F mH a' w'∧K mH) os a w→Hn F.P ops (fun e a' w'=>∃ mH,jv F mH a' w'∧Q e mH) os a w:=by
   intro os
   induction os with
   |nil=>rintro a w ⟨_,mH,h1,h2⟩;exact⟨mH,h1,hK _ h2⟩
   |cons o os ih=>
    intro a w h
    simp only[Hn] at h ⊢
    split
    ·rename_i hw
     simp only[hw,abh] at h
     exact Oper.L8 (fun a w=>ih a w) (fun c a w hq _=>(by obtain⟨rfl,mH,h1,h2⟩:=hq;exact⟨mH,h1,hK _ h2⟩)) (fun c a w hq=>hq.1) h
    ·exact au
  exact mono _ a w h0
theorem AW.region{id:Nat}{ops:Array Oper}(h:AL F ops (Q .normal) ops.toList st):AW F (.region id ops false) Q st:=AL.run h fun _ h=>h
theorem AW.kz{id:Nat}{ops:Array Oper}{y:Code}(h:AL F ops (AW F y Q) ops.toList st):AW F (.seq (.region id ops false) y) Q st:=
 AW.seq (AL.run h fun _ h=>h)
theorem nq{K:St→Prop}{s:St}(h:K s):oT K Q .normal s:=h
theorem zQ{K:St→Prop}{s:St}{id:Nat}(h:Q (.exit id) s):oT K Q (.exit id) s:=h
theorem mj{K:St→Prop}{s:St}(h:Q .ret s):oT K Q .ret s:=h
theorem DP{id:Nat}{s:St}(h:Q .normal s):uP id Q .normal s:=h
theorem xG{id:Nat}{s:St}(h:Q .ret s):uP id Q .ret s:=h
theorem SC{id:Nat}{s:St}(h:Q .normal s):uP id Q (.exit id) s:=by simpa[uP] using h
end
end Go.Proofs.YtjdnbobilgamdaaGreatDoor.Ab
end
section
namespace Go.Proofs.YtjdnbobilgamdaaGreatDoor.Ab
open Go
def nE:TypeDesc→Bool
 |.struct _|.array _ _=>false
 |_=>true
structure Sc(P:Program)(t:TypeId):Prop where
 u:∃ d,P.underlying t=some d∧nE d=true
 i:∃ i,P.info? t=some i∧i.size=1
structure Ag(P:Program)(t:TypeId)(n:Nat):Prop where
 u:∃ d,P.underlying t=some d∧nE d=false
 i:∃ i,P.info? t=some i∧i.size=n
structure pt(P:Program)(t e:TypeId)(s bytes:Nat):Prop where
 u:P.underlying t=some (.slice e)
 i:∃ i z,P.info? e=some i∧i.size=s∧i.bytes=bytes∧i.zero=some z∧z.cells.size=s
structure Fd(P:Program)(t k off:Nat):Prop where
 u:∃ fs f,P.underlying t=some (.struct fs)∧fs[k]?=some f∧f.offset=off∧∃ i,P.info? f.type=some i∧i.size≠0
structure Zr(P:Program)(t:TypeId)(cs:List Value):Prop where
 z:∃ i z,P.info? t=some i∧i.zero=some z∧z.cells.toList=cs∧i.size=cs.length
section
variable {P:Program}{ρ:Operand→V}{H:List HE}{ty:TypeId}
theorem aq{t:TypeId}{i:TypeInfo}(h:P.info? t=some i)(w:World):(sizeOf t).run P w=.ok i.size w:=by simp[sizeOf,typeInfo,h]
theorem aX{t:TypeId}{i:TypeInfo}{z:Value}(h:P.info? t=some i)(hz:i.zero=some z)(w:World):(zeroValue t).run P w=.ok z w:=by simp[zeroValue,typeInfo,h,hz]
theorem hD{t:TypeId}{d:TypeDesc}(h:P.underlying t=some d)(w:World):(isAgg t).run P w=.ok (!nE d) w:=by
 simp only[isAgg,abl,aaX h,aa3]
 cases d<;>simp[nE]
theorem Addr.aT(b o k:Nat):(⟨b,o,none⟩:Addr).add k=⟨b,o+k,none⟩:=by
 unfold Addr.add;split<;>simp_all
theorem fE{t:TypeId}(h:Sc P t){w:World}{b o:Nat}{v:Value}(hc:w.cell? ⟨b,o,none⟩=some v):(loadVar t ⟨b,o,none⟩).run P w=.ok v w:=by
 obtain⟨d,hu,hd⟩:=h.u
 simp[loadVar,hD hu,hd,hc]
theorem oK{t n:Nat}(h:Ag P t n){w:World}{b o:Nat}{f:Nat→Value}(hc:∀ k,k<n→w.cell? ⟨b,o+k,none⟩=some (f k)):
  (loadVar t ⟨b,o,none⟩).run P w=.ok (.agg ((List.range n).map f).toArray) w:=by
 obtain⟨d,hu,hd⟩:=h.u
 obtain⟨i,hi,hs⟩:=h.i
 have:=run_loadCells (P:=P) w ⟨b,o,none⟩ n f (fun j hj=>by rw[Addr.aT];exact hc j hj)
 simp[loadVar,hD hu,hd,aq hi,hs,this]
def V.Cf:V→Option D
 |.d x=>some x
 |.ex l=>some (.sl l)
 |.tk _ l=>some (.sl l)
 |.nil=>some (.sl [])
 |_=>none
def rp{α:Type}:List (Option α)→Option (List α)
 |[]=>some []
 |some x::r=>(rp r).map (x::·)
 |none::_=>none
def V.Fj:V→Option D
 |.agg cs=>(rp (cs.map V.Cf)).map .agg
 |v=>v.Cf
def V.zP:V→Option D
 |.gd vs=>(rp (vs.map V.Fj)).map .gd
 |v=>v.Fj
theorem uW{α:Type}:∀ {l:List (Option α)} {r:List α},rp l=some r→l.length=r.length∧∀ (i:Nat) x,r[i]?=some x→l[i]?=some (some x)
 |[],r,h=>by simp only[rp,aaW] at h;subst h;simp
 |none::_,r,h=>by simp[rp] at h
 |some y::t,r,h=>by
  simp only[rp,aa6] at h
  obtain⟨r',h1,rfl⟩:=h
  obtain⟨h2,h3⟩:=uW h1
  exact au
theorem cu.Cf{g:G}{w:World}{v:V}{r:Value}{x:D}(h:cu g w v r)(hx:v.Cf=some x):aV g.Pr w x r:=by
 cases h with
 |nil=>
  simp only[V.Cf,aaW] at hx
  subst hx
  exact .sl [] none 0 0 (fun _=>undef) (by simp) (by simp) (by simp) (by simp[D.flat])
 |_=>simp only[V.Cf,aaW,reduceCtorEq] at hx<;>subst hx<;>assumption
theorem cu.Fj{g:G}{w:World}{v:V}{r:Value}{x:D}(h:cu g w v r)(hx:v.Fj=some x):aV g.Pr w x r:=by
 cases v with
 |agg cs=>
  simp only[V.Fj,aa6] at hx
  obtain⟨l,h1,rfl⟩:=hx
  obtain⟨h2,h3⟩:=uW h1
  cases h with
  |agg hs hr=>
   refine .agg l _ (by simp at h2;omega) (fun i x v hx hv=>?_)
   have:=h3 i x hx
   simp only[aba,aa6] at this
   obtain⟨y,hy,PC⟩:=this
   exact(hr i y v hy hv).Cf PC
 |_=>exact cu.Cf h hx
theorem cu.zP{g:G}{w:World}{v:V}{r:Value}{x:D}(h:cu g w v r)(hx:v.zP=some x):aV g.Pr w x r:=by
 cases v with
 |gd cs=>
  simp only[V.zP,aa6] at hx
  obtain⟨l,h1,rfl⟩:=hx
  obtain⟨h2,h3⟩:=uW h1
  cases h with
  |gd hs hr=>
   refine .gd l _ (by simp at h2;omega) (fun i x v hx hv=>?_)
   have:=h3 i x hx
   simp only[aba,aa6] at this
   obtain⟨y,hy,PC⟩:=this
   exact(hr i y v hy hv).Fj PC
 |_=>exact cu.Fj h hx
inductive Is:V→V→Prop
 |r {v:V}:Is v v
 |w {p:Bool} {v:V}:p=true→Is (.when p v) v
 |n {p:Bool} {v:V}:p=false→Is (.when (!p) v) v
inductive As:V→D→Prop
 |r {v:V} {x:D}:v.zP=some x→As v x
 |w {p:Bool} {v:V} {x:D}:p=true→v.zP=some x→As (.when p v) x
 |n {p:Bool} {v:V} {x:D}:p=false→v.zP=some x→As (.when (!p) v) x
theorem Is.e{v u:V}(h:v=u):Is v u:=h▸.r
theorem Is.we{v u:V}{p:Bool}(hp:p=true)(h:v=.when p u):Is v u:=h▸.w hp
theorem As.we{v u:V}{p:Bool}{x:D}(hp:p=true)(h:v=.when p u)(hx:u.zP=some x):As v x:=h▸.w hp hx
theorem nt{b:Bool}(h:b=false):(!b)=true:=au
theorem an{p b:Bool}(h1:p=true)(h2:b=true):(p&&b)=true:=au
theorem Is.rep{g:G}{w:World}{v u:V}{r:Value}(h:Is v u)(hr:cu g w v r):cu g w u r:=by
 cases h with
 |r=>exact hr
 |w hp=>cases hr with|«when» h1 h2=>exact h1 hp
 |n hp=>cases hr with|«when» h1 h2=>exact h1 (by simp[hp])
theorem As.rep{g:G}{w:World}{v:V}{x:D}{r:Value}(h:As v x)(hr:cu g w v r):aV g.Pr w x r:=by
 cases h with
 |r h=>exact hr.zP h
 |w hp h=>cases hr with|«when» h1 h2=>exact(h1 hp).zP h
 |n hp h=>cases hr with|«when» h1 h2=>exact(h1 (by simp[hp])).zP h
theorem bj.aW{o:Op}{v:V}(h:∀ g w r,aQ g w H→(∀ x,x∈o.operands→cu g w (ρ x) (r x))→
  ∃ rv,(∀ pos after guard dst,(execOp r ⟨dst,o,ty,pos,after,guard⟩).run P w=.ok (.value rv) w)∧cu g w v rv):bj P o ty ρ H v H:=by
 intro g w r pos after guard dst hw hx
 obtain⟨rv,h1,h2⟩:=h g w r hw hx
 unfold aO
 rw[h1]
 exact⟨g,hw,.refl _ _,h2⟩
theorem tC{x:Operand}{v:V}(h:Is (ρ x) v):bj P (.move x) ty ρ H v H:=
 bj.aW fun g w r hw hx=>⟨r x,fun _ _ _ _=>rfl,h.rep (hx x (by simp[Op.operands]))⟩
theorem pj{x:Operand}{v:V}(h:Is (ρ x) v):bj P (.assign x) ty ρ H v H:=
 bj.aW fun g w r hw hx=>⟨r x,fun _ _ _ _=>rfl,h.rep (hx x (by simp[Op.operands]))⟩
theorem al{x:Operand}{y:D}(h:Is (ρ x) (.d y)):bj P (.move x) ty ρ H (.d y) H:=tC h
theorem bJ{x:Operand}{y:D}(h:Is (ρ x) (.d y)):bj P (.assign x) ty ρ H (.d y) H:=pj h
theorem Hv{x:Operand}{l:List D}(h:Is (ρ x) (.ex l)):bj P (.assign x) ty ρ H (.ex l) H:=pj h
theorem Fk{x:Operand}{id:Nat}{l:List D}(h:Is (ρ x) (.tk id l)):bj P (.move x) ty ρ H (.tk id l) H:=tC h
theorem AU{x:Operand}{id:Nat}{l:List D}(h:Is (ρ x) (.tk id l)):bj P (.assign x) ty ρ H (.tk id l) H:=pj h
theorem AV{x:Operand}{f:Go.Fn}{lK:List V}(h:Is (ρ x) (.fn f lK)):bj P (.move x) ty ρ H (.fn f lK) H:=tC h
theorem Hw{x:Operand}{f:Go.Fn}{lK:List V}(h:Is (ρ x) (.fn f lK)):bj P (.assign x) ty ρ H (.fn f lK) H:=pj h
theorem Mh{x:Operand}{l:List V}(h:Is (ρ x) (.gd l)):bj P (.move x) ty ρ H (.gd l) H:=tC h
theorem lR{x:Operand}{id off len s:Nat}(h:Is (ρ x) (.hs id off len s)):bj P (.move x) ty ρ H (.hs id off len s) H:=tC h
theorem AX{x:Operand}{id off len s:Nat}(h:Is (ρ x) (.hs id off len s)):bj P (.assign x) ty ρ H (.hs id off len s) H:=pj h
theorem cu.E4{g:G}{w:World}{r:Value}(h:cu g w .nil r):cu g w (.ex []) r:=by
 cases h;exact .ex (.sl [] none 0 0 (fun _=>undef) (by simp) (by simp) (by simp) (by simp[D.flat]))
theorem AY{x:Operand}(h:Is (ρ x) .nil):bj P (.assign x) ty ρ H (.ex []) H:=
 bj.aW fun _ _ r _ hx=>⟨r x,fun _ _ _ _=>rfl,(h.rep (hx x (by simp[Op.operands]))).E4⟩
theorem Cg{x:Operand}:bj P (.assign x) ty ρ H .any H:=
 bj.aW fun _ _ r _ _=>⟨r x,fun _ _ _ _=>rfl,.any⟩
theorem As.bool{g:G}{w:World}{v:V}{b:Bool}{r:Value}(h:As v (.bool b))(hr:cu g w v r):r=.bool b:=by
 cases h.rep hr;rfl
theorem As.int{g:G}{w:World}{v:V}{k:IntKind}{n:Int}{r:Value}(h:As v (.int k n))(hr:cu g w v r):r=.int k n:=by
 cases h.rep hr;rfl
theorem As.str{g:G}{w:World}{v:V}{s:List UInt8}{r:Value}(h:As v (.str s))(hr:cu g w v r):r=.string ⟨s.toArray⟩:=by
 cases h.rep hr;rfl
theorem AZ{c a b:Operand}{p q:Bool}(hc:As (ρ c) (.bool p))(ha:p=true→As (ρ a) (.bool q))(hb:ρ b=.d (.bool false)):
  bj P (.pick c a b) ty ρ H (.d (.bool (p&&q))) H:=
 bj.aW fun g w r hw hx=>by
  have h1:=hc.bool (hx c (by simp[Op.operands]))
  have h2:=hx a (by simp[Op.operands])
  have h3:r b=.bool false:=(As.r (x:=.bool false) (by rw[hb];rfl)).bool (hx b (by simp[Op.operands]))
  cases p with
  |true=>
   have h4:=(ha rfl).bool h2
   exact⟨.bool q,fun _ _ _ _=>by simp[execOp,h1,h4,asBool],by simpa using cu.d (aV.bool q)⟩
  |false=>exact⟨.bool false,fun _ _ _ _=>by simp[execOp,h1,h3,asBool],by simpa using cu.d (aV.bool false)⟩
theorem sv{c a b:Operand}{p q:Bool}(hc:As (ρ c) (.bool p))(ha:ρ a=.d (.bool true))(hb:p=false→As (ρ b) (.bool q)):
  bj P (.pick c a b) ty ρ H (.d (.bool (p||q))) H:=
 bj.aW fun g w r hw hx=>by
  have h1:=hc.bool (hx c (by simp[Op.operands]))
  have h2:=hx b (by simp[Op.operands])
  have h3:r a=.bool true:=(As.r (x:=.bool true) (by rw[ha];rfl)).bool (hx a (by simp[Op.operands]))
  cases p with
  |false=>
   have h4:=(hb rfl).bool h2
   exact⟨.bool q,fun _ _ _ _=>by simp[execOp,h1,h4,asBool],by simpa using cu.d (aV.bool q)⟩
  |true=>exact⟨.bool true,fun _ _ _ _=>by simp[execOp,h1,h3,asBool],by simpa using cu.d (aV.bool true)⟩
theorem xK{x:Operand}{t:TypeId}{b:Bool}(h:As (ρ x) (.bool b)):bj P (.unOp .not t x) ty ρ H (.d (.bool (!b))) H:=
 bj.aW fun g w r hw hx=>⟨.bool (!b),fun _ _ _ _=>by simp[execOp,h.bool (hx x (by simp[Op.operands])),Op.unary],.d (.bool _)⟩
section ints
variable {x y:Operand}{t u:TypeId}{k:IntKind}{a b:Int}
theorem gO(hx:As (ρ x) (.int k a))(hy:As (ρ y) (.int k b)):bj P (.binOp .add t x y u) ty ρ H (.d (.int k (k.wrap (a+b)))) H:=
 bj.aW fun g w r hw h=>⟨.int k (k.wrap (a+b)),fun _ _ _ _=>by simp[execOp,hx.int (h x (by simp[Op.operands])),hy.int (h y (by simp[Op.operands])),eqGuard,binOp,Op.intArith],.d (.int _ _)⟩
theorem zS(hx:As (ρ x) (.int k a))(hy:As (ρ y) (.int k b)):bj P (.binOp .sub t x y u) ty ρ H (.d (.int k (k.wrap (a-b)))) H:=
 bj.aW fun g w r hw h=>⟨.int k (k.wrap (a-b)),fun _ _ _ _=>by simp[execOp,hx.int (h x (by simp[Op.operands])),hy.int (h y (by simp[Op.operands])),eqGuard,binOp,Op.intArith],.d (.int _ _)⟩
theorem uX(hx:As (ρ x) (.int k a))(hy:As (ρ y) (.int k b)):bj P (.binOp .lss t x y u) ty ρ H (.d (.bool (decide (a<b)))) H:=
 bj.aW fun g w r hw h=>⟨.bool (decide (a<b)),fun _ _ _ _=>by simp[execOp,hx.int (h x (by simp[Op.operands])),hy.int (h y (by simp[Op.operands])),eqGuard,binOp,Op.intCmp],.d (.bool _)⟩
theorem SI(hx:As (ρ x) (.int k a))(hy:As (ρ y) (.int k b)):bj P (.binOp .leq t x y u) ty ρ H (.d (.bool (decide (a≤b)))) H:=
 bj.aW fun g w r hw h=>⟨.bool (decide (a≤b)),fun _ _ _ _=>by simp[execOp,hx.int (h x (by simp[Op.operands])),hy.int (h y (by simp[Op.operands])),eqGuard,binOp,Op.intCmp],.d (.bool _)⟩
theorem xL(hx:As (ρ x) (.int k a))(hy:As (ρ y) (.int k b)):bj P (.binOp .gtr t x y u) ty ρ H (.d (.bool (decide (b<a)))) H:=
 bj.aW fun g w r hw h=>⟨.bool (decide (b<a)),fun _ _ _ _=>by simp[execOp,hx.int (h x (by simp[Op.operands])),hy.int (h y (by simp[Op.operands])),eqGuard,binOp,Op.intCmp],.d (.bool _)⟩
theorem Hx(hx:As (ρ x) (.int k a))(hy:As (ρ y) (.int k b)):bj P (.binOp .geq t x y u) ty ρ H (.d (.bool (decide (b≤a)))) H:=
 bj.aW fun g w r hw h=>⟨.bool (decide (b≤a)),fun _ _ _ _=>by simp[execOp,hx.int (h x (by simp[Op.operands])),hy.int (h y (by simp[Op.operands])),eqGuard,binOp,Op.intCmp],.d (.bool _)⟩
theorem tD(a b:Int):(a==b)=decide (a=b):=au
theorem xM(hx:As (ρ x) (.int k a))(hy:As (ρ y) (.int k b)):bj P (.binOp .eql t x y u) ty ρ H (.d (.bool (decide (a=b)))) H:=
 bj.aW fun g w r hw h=>⟨.bool (decide (a=b)),fun _ _ _ _=>by simp[execOp,hx.int (h x (by simp[Op.operands])),hy.int (h y (by simp[Op.operands])),eqGuard,binOp,Op.intCmp,tD],.d (.bool _)⟩
theorem xN(hx:As (ρ x) (.int k a))(hy:As (ρ y) (.int k b)):bj P (.binOp .neq t x y u) ty ρ H (.d (.bool (!decide (a=b)))) H:=
 bj.aW fun g w r hw h=>⟨.bool (!decide (a=b)),fun _ _ _ _=>by simp[execOp,hx.int (h x (by simp[Op.operands])),hy.int (h y (by simp[Op.operands])),eqGuard,binOp,Op.intCmp,bne,tD],.d (.bool _)⟩
theorem n5{dk:IntKind}(hx:As (ρ x) (.int k a))(hs:∃ d,P.underlying t=some d)(hd:P.underlying u=some (.int dk)):
  bj P (.convert t u x) ty ρ H (.d (.int dk (dk.wrap a))) H:=
 bj.aW fun g w r hw h=>by
  obtain⟨d,hs⟩:=hs
  refine⟨.int dk (dk.wrap a),fun _ _ _ _=>?_,.d (.int _ _)⟩
  simp[execOp,hx.int (h x (by simp[Op.operands])),convert,aaX hs,aaX hd,Conv.intToInt]
theorem SJ(hx:As (ρ x) (.int k a))(hy:As (ρ y) (.int k b)){ts:Array TypeId}:bj P (.call ⟨.builtin .min,#[x,y],ts⟩) ty ρ H (.d (.int k (min a b))) H:=
 bj.aW fun g w r hw h=>⟨.int k (min a b),fun _ _ _ _=>by
  simp[execOp,resolve,invoke,builtin,Builtin.min_,Builtin.min2,hx.int (h x (by simp[Op.operands,Call.operands])),hy.int (h y (by simp[Op.operands,Call.operands]))]
  split<;>omega,.d (.int _ _)⟩
theorem SK(hx:As (ρ x) (.int k a))(hy:As (ρ y) (.int k b)){ts:Array TypeId}:bj P (.call ⟨.builtin .max,#[x,y],ts⟩) ty ρ H (.d (.int k (max a b))) H:=
 bj.aW fun g w r hw h=>⟨.int k (max a b),fun _ _ _ _=>by
  simp[execOp,resolve,invoke,builtin,Builtin.max_,Builtin.max2,hx.int (h x (by simp[Op.operands,Call.operands])),hy.int (h y (by simp[Op.operands,Call.operands]))]
  split<;>omega,.d (.int _ _)⟩
end ints
end
end Go.Proofs.YtjdnbobilgamdaaGreatDoor.Ab
end
