/- Operations on texts, slices and rows of memory over abstract states. Calls, closures, literals of structs and slices, growing lists; entering and leaving a function. Conditions: none. -/
import Derived.Test.YtjdnbobilgamdaaGreatDoorAb3
section
namespace Go.Proofs.YtjdnbobilgamdaaGreatDoor.Ab
open Go
theorem tB(s:List UInt8):(⟨s.toArray⟩:ByteArray).size=s.length:=au
section
variable {P:Program}{ρ:Operand→V}{H:List HE}{ty:TypeId}
section strs
variable {x y:Operand}{t u:TypeId}{s s':List UInt8}
theorem AH(a b:List UInt8):(a==b)=decide (a=b):=au
theorem PH(hx:As (ρ x) (.str s))(hy:As (ρ y) (.str s')):bj P (.binOp .eql t x y u) ty ρ H (.d (.bool (decide (s=s')))) H:=
 bj.aW fun _ _ _ _ h=>⟨.bool (decide (s=s')),fun _ _ _ _=>by simp[execOp,hx.str (h x (by simp[Op.operands])),hy.str (h y (by simp[Op.operands])),eqGuard,binOp,Op.stringOp,AH],.d (.bool _)⟩
theorem PI(hx:As (ρ x) (.str s))(hy:As (ρ y) (.str s')):bj P (.binOp .neq t x y u) ty ρ H (.d (.bool (!decide (s=s')))) H:=
 bj.aW fun _ _ _ _ h=>⟨.bool (!decide (s=s')),fun _ _ _ _=>by simp[execOp,hx.str (h x (by simp[Op.operands])),hy.str (h y (by simp[Op.operands])),eqGuard,binOp,Op.stringOp,AH],.d (.bool _)⟩
theorem Pd(hx:As (ρ x) (.str s))(hy:As (ρ y) (.str s'))(hl:s.length+s'.length≤9223372036854775807):bj P (.binOp .add t x y u) ty ρ H (.d (.str (s++s'))) H:=
 bj.aW fun _ _ _ _ h=>⟨.string ⟨(s++s').toArray⟩,fun _ _ _ _=>by
  have e:¬(((s.length+s'.length:Nat):Int) > IntKind.i64.max):=by simp[IntKind.max,IntKind.signed,IntKind.bits];omega
  have e2:(⟨s.toArray⟩:ByteArray)++⟨s'.toArray⟩=⟨(s++s').toArray⟩:=au
  simp[execOp,hx.str (h x (by simp[Op.operands])),hy.str (h y (by simp[Op.operands])),eqGuard,binOp,Op.stringOp,tB,e2]
  omega,.d (.str _)⟩
theorem jo(hx:As (ρ x) (.str s))(ht:P.underlying t=some .string):bj P (.call ⟨.builtin .len,#[x],#[t]⟩) ty ρ H (.d (.int .i64 s.length)) H:=
 bj.aW fun _ _ _ _ h=>⟨.int .i64 s.length,fun _ _ _ _=>by
  simp[execOp,resolve,invoke,builtin,Builtin.len_,aaX ht,hx.str (h x (by simp[Op.operands,Call.operands])),tB,goInt],.d (.int _ _)⟩
theorem J3{k:IntKind}{n:Int}{i:Nat}{c:UInt8}(hx:As (ρ x) (.str s))(hy:As (ρ y) (.int k n))(hn:n=(i:Int))(hc:s[i]?=some c)(ht:P.underlying t=some .string):
  bj P (.index t x y) ty ρ H (.d (.int .u8 c.toNat)) H:=
 bj.aW fun _ _ _ _ h=>⟨.int .u8 c.toNat,fun _ _ _ _=>by
  subst hn
  have hi:i<s.length:=(aaS.1 hc).1
  have hb:(⟨s.toArray⟩:ByteArray)[i]?=some c:=by
   rw[getElem?_pos _ _ (by rw[tB];exact hi)]
   have:=(aaS.1 hc).2
   simp only[aaW]
   rw[←this];rfl
  simp[execOp,Instr.index,asIntOf,aaX ht,hx.str (h x (by simp[Op.operands])),hy.int (h y (by simp[Op.operands])),hb],.d (.int _ _)⟩
end strs
theorem sA:∀ {l:List D} {s:Nat},(∀ x∈l,x.cells.length=s)→∀ {k j:Nat} {e:D},l[k]?=some e→j<s→(D.flat l)[k*s+j]?=e.cells[j]?
 |[],_,_,k,_,_,h,_=>by simp at h
 |a::l,s,hs,0,j,e,h,hj=>by
  simp only[aa',aaW] at h
  subst h
  have ha:=hs a (by simp)
  simp only[D.flat,acV,aei,abY]
  exact au
 |a::l,s,hs,k+1,j,e,h,hj=>by
  have ha:=hs a (by simp)
  have ih:=sA (l:=l) (s:=s) (fun x hx=>hs x (by simp[hx])) (k:=k) (j:=j) (e:=e) (by simpa using h) hj
  simp only[D.flat,acV] at ih ⊢
  exact au
theorem dG:∀ {l:List D} {s:Nat},(∀ x∈l,x.cells.length=s)→(D.flat l).length=l.length*s
 |[],_,_=>by simp[D.flat]
 |a::l,s,hs=>by
  have ih:=dG (l:=l) (s:=s) (fun x hx=>hs x (by simp[hx]))
  have ha:=hs a (by simp)
  simp only[D.flat,acV,aa9,abp] at ih ⊢
  exact au
theorem Sf{x:Operand}{t e s bytes:Nat}{l:List D}(hx:As (ρ x) (.sl l))(ht:pt P t e s bytes):bj P (.call ⟨.builtin .len,#[x],#[t]⟩) ty ρ H (.d (.int .i64 l.length)) H:=
 bj.aW fun _ _ r _ h=>⟨.int .i64 l.length,fun _ _ _ _=>by
  have:=hx.rep (h x (by simp[Op.operands,Call.operands]))
  generalize hr:r x=v at this
  cases this
  simp[execOp,resolve,invoke,builtin,Builtin.len_,aaX ht.u,hr,goInt],.d (.int _ _)⟩
theorem DD{x y:Operand}{t e s bytes:Nat}{l:List D}{k:IntKind}{n:Int}{i:Nat}{el:D}(hx:As (ρ x) (.sl l))(hy:As (ρ y) (.int k n))(hn:n=(i:Int))
  (hc:l[i]?=some el)(ht:pt P t e s bytes)(hs:el.cells.length=s):bj P (.indexAddr t x y) ty ρ H (.vp el.cells 0) H:=
 bj.aW fun g w r _ h=>by
  subst hn
  have h1:=hx.rep (h x (by simp[Op.operands]))
  have h2:=hy.int (h y (by simp[Op.operands]))
  have hi:i<l.length:=(aaS.1 hc).1
  have mG:el∈l:=abc hc
  generalize hr:r x=v at h1
  obtain⟨ie,z,im,dE,_⟩:=ht.i
  cases h1 with
  |sl l a cap s' f OP ji k_ gM=>
   have CS:s'=s:=au
   subst CS
   obtain⟨b,o,rfl,hk⟩:=k_ (by intro h0;rw[h0] at hi;simp at hi)
   refine⟨.pointer (some ⟨b,o+i*s',none⟩),fun _ _ _ _=>?_,?_⟩
   ·simp[execOp,Instr.indexAt,asIntOf,hr,h2,aaX ht.u,hi,aq im,dE,Addr.aT]
   ·have:=cu.vp (g:=g) (w:=w) (c:=el.cells) (off:=0) (b:=b) (o:=o+i*s') (f:=fun j=>f (i*s'+j))
     (fun j hj=>by
      have aN:i*s'+j<l.length*s':=by
       have:(i+1)*s'≤l.length*s':=abg _ hi
       exact au
      have:=hk (i*s'+j) aN
      rwa[←Nat.add_assoc] at this)
     (fun j x hx=>gM (i*s'+j) x (by
      have hj:j<s':=au
      rw[sA OP hc hj];exact hx))
    simpa using this
theorem cU{x:Operand}{t off:Nat}{c:List D}{y:D}(hx:Is (ρ x) (.vp c off))(hc:c[off]?=some y)(ht:Sc P t):bj P (.load t x) ty ρ H (.d y) H:=
 bj.aW fun g w r _ h=>by
  have h1:=hx.rep (h x (by simp[Op.operands]))
  generalize hr:r x=v at h1
  cases h1 with
  |vp hk gM=>
   have aN:=(aaS.1 hc).1
   exact⟨_,fun _ _ _ _=>by simp[execOp,Instr.loadAt,Instr.sureAddr,hr,fE ht (hk off aN).2],.d (gM _ _ hc)⟩
theorem EU{x:Operand}{t n off:Nat}{c cs:List D}(hx:Is (ρ x) (.vp c off))(hc:(c.drop off).take n=cs)(hn:cs.length=n)(ht:Ag P t n):bj P (.load t x) ty ρ H (.d (.agg cs)) H:=
 bj.aW fun g w r _ h=>by
  have h1:=hx.rep (h x (by simp[Op.operands]))
  generalize hr:r x=v at h1
  have hle:off+n≤c.length∨n=0:=au
  cases h1 with
  |@vp _ _ b o f hk gM=>
   refine⟨.agg ((List.range n).map fun k=>f (off+k)).toArray,fun _ _ _ _=>?_,.d (.agg _ _ (by simp[hn]) (fun i y v hy hv=>?_))⟩
   ·have:=oK (P:=P) ht (w:=w) (b:=b) (o:=o+off) (f:=fun k=>f (off+k)) (fun k hkn=>by
     rw[abZ];exact(hk (off+k) (by omega)).2)
    simp[execOp,Instr.loadAt,Instr.sureAddr,hr,this]
   ·exact au
theorem gP{x:Operand}{t k off fo:Nat}{c:List D}(hx:Is (ρ x) (.vp c off))(ht:Fd P t k fo):bj P (.fieldAddr t x k) ty ρ H (.vp c (off+fo)) H:=
 bj.aW fun g w r _ h=>by
  have h1:=hx.rep (h x (by simp[Op.operands]))
  generalize hr:r x=v at h1
  obtain⟨fs,f,hu,hf,Yy,i,hi,aR⟩:=ht.u
  cases h1 with
  |@vp _ _ b o f hk gM=>
   refine⟨.pointer (some ⟨b,o+(off+fo),none⟩),fun _ _ _ _=>?_,.vp hk gM⟩
   simp[execOp,Instr.fieldAt,Instr.sureAddr,hr,aaX hu,hf,fieldPlace,aq hi,aR,Yy,Addr.aT,abZ]
theorem bd{x:Operand}{t k id off fo:Nat}(hx:Is (ρ x) (.ptr id off))(ht:Fd P t k fo):bj P (.fieldAddr t x k) ty ρ H (.ptr id (off+fo)) H:=
 bj.aW fun g w r _ h=>by
  have h1:=hx.rep (h x (by simp[Op.operands]))
  generalize hr:r x=v at h1
  obtain⟨fs,f,hu,hf,Yy,i,hi,aR⟩:=ht.u
  cases h1 with
  |@ptr _ _ b hb=>
   refine⟨.pointer (some ⟨b,off+fo,none⟩),fun _ _ _ _=>?_,.ptr hb⟩
   simp[execOp,Instr.fieldAt,Instr.sureAddr,hr,aaX hu,hf,fieldPlace,aq hi,aR,Yy,Addr.aT]
theorem aL{w:World}{b o:Nat}{arr:Array Value}{et:TypeId}{fr:Nat×Nat}(h:w.heap[b]?=some (.cells arr et fr)):w.cell? ⟨b,o,none⟩=arr[o]?:=by
 simp[World.cell?,h]
theorem bo{x:Operand}{t id off:Nat}{c:List V}{y:V}(hx:Is (ρ x) (.ptr id off))(hH:H[id]?=some (.row c))(hc:c[off]?=some y)(ht:Sc P t):bj P (.load t x) ty ρ H y H:=
 bj.aW fun g w r hw h=>by
  have h1:=hx.rep (h x (by simp[Op.operands]))
  generalize hr:r x=v at h1
  cases h1 with
  |@ptr _ _ b hb=>
   obtain⟨b',arr,et,e1,e2,e3,e4,_⟩:=hw.row id c hH
   obtain rfl:b=b':=by rw[hb] at e1;exact aa5 e1
   have aN:off<arr.size:=aa_ (aaS.1 hc).1 e3
   have kD:w.cell? ⟨b,off,none⟩=some arr[off]:=by rw[aL e2];simp[aN]
   exact⟨arr[off],fun _ _ _ _=>by simp[execOp,Instr.loadAt,Instr.sureAddr,hr,fE ht kD],e4 off y _ hc (by simp[aN])⟩
theorem wA{x:Operand}{t n id off:Nat}{c cs:List V}(hx:Is (ρ x) (.ptr id off))(hH:H[id]?=some (.row c))(hc:(c.drop off).take n=cs)(hn:cs.length=n)(ht:Ag P t n):
  bj P (.load t x) ty ρ H (.agg cs) H:=
 bj.aW fun g w r hw h=>by
  have h1:=hx.rep (h x (by simp[Op.operands]))
  generalize hr:r x=v at h1
  have hle:off+n≤c.length∨n=0:=au
  cases h1 with
  |@ptr _ _ b hb=>
   obtain⟨b',arr,et,e1,e2,e3,e4,_⟩:=hw.row id c hH
   obtain rfl:b=b':=by rw[hb] at e1;exact aa5 e1
   have kD:∀ k,k<n→w.cell? ⟨b,off+k,none⟩=some (arr.getD (off+k) undef):=fun k hk=>by
    rw[aL e2]
    have:off+k<arr.size:=by omega
    exact au
   refine⟨.agg ((List.range n).map fun k=>arr.getD (off+k) undef).toArray,fun _ _ _ _=>?_,.agg (by simp[hn]) (fun i y v hy hv=>?_)⟩
   ·simp[execOp,Instr.loadAt,Instr.sureAddr,hr,oK ht kD]
   ·have hi:i<n:=by rw[←hn];exact(aaS.1 hy).1
    have aN:off+i<arr.size:=by omega
    have rf:v=arr[off+i]:=au
    exact au
def D.one:D→Bool
 |.agg _|.gd _=>false
 |.raw v=>v.oneCell'
 |_=>true
def V.one:V→Bool
 |.d x=>x.one
 |.agg _|.gd _|.when _ _|.any=>false
 |_=>true
theorem aV.one{Pr:Nat→Nat→Prop}{w:World}{x:D}{r:Value}(h:aV Pr w x r)(hx:x.one=true):r.oneCell'=true:=by
 cases h<;>simp_all [D.one,Value.oneCell']
theorem cu.one{g:G}{w:World}{x:V}{r:Value}(h:cu g w x r)(hx:x.one=true):r.oneCell'=true:=by
 cases h with
 |d h=>exact h.one hx
 |tk h=>exact h.one rfl
 |_=>first|rfl|simp[V.one] at hx
def V.cs:V→List V
 |.agg l=>l
 |.d (.agg l)=>l.map .d
 |v=>[v]
theorem cu.cs{g:G}{w:World}{v:V}{r:Value}{c:List V}(h:cu g w v r)(hc:v.cs=c)(h1:c.all V.one=true):
  r.cells.size=c.length∧∀ (i:Nat) x u,c[i]?=some x→r.cells[i]?=some u→cu g w x u:=by
 subst hc
 have single:v.cs=[v]→r.cells.size=v.cs.length∧∀ (i:Nat) x u,v.cs[i]?=some x→r.cells[i]?=some u→cu g w x u:=by
  intro hv
  rw[hv] at h1 ⊢
  have eL:=h.one (by simpa using h1)
  have hr:r.cells=#[r]:=by cases r<;>simp_all [Value.cells,Value.oneCell']
  exact au
 cases v with
 |agg l=>
  cases h with
  |agg hs hr=>exact⟨by simpa[V.cs,Value.cells] using hs,fun i x u hx hu=>hr i x u hx hu⟩
 |d x=>
  cases x with
  |agg l=>
   cases h with
   |d h=>
    cases h with
    |agg _ arr hs hr=>
     refine⟨by simpa[V.cs,Value.cells] using hs,fun i x u hx hu=>?_⟩
     simp only[V.cs,aba,aa6] at hx
     obtain⟨y,hy,rfl⟩:=hx
     exact .d (hr i y u hy hu)
  |_=>exact single rfl
 |_=>exact single rfl
theorem aQ.store{g:G}{w w':World}{id b:Nat}{c c':List V}{arr arr':Array Value}{et:TypeId}(hw:aQ g w H)(hH:H[id]?=some (.row c))(hb:g.σ id=some b)
  (e2:w.heap[b]?=some (.cells arr et (0,0)))(n4:w'.os=w.os∧w'.tape=w.tape∧w'.output=w.output)(dE:w'.heap.size=w.heap.size)(hn:w'.heap[b]?=some (.cells arr' et (0,0)))(ho:∀ b',b'≠b→w'.heap[b']?=w.heap[b']?)
  (hlen:c'.length≤arr'.size)(gM:∀ (k:Nat) x v,c'[k]?=some x→arr'[k]?=some v→cu g w x v):aQ g w' (H.set id (.row c'))∧cG g w g w':=by
 have eC:id<H.length:=(aaS.1 hH).1
 have hX:g.X b:=hw.aD id _ b hH (by simpa[G.aD] using hb)
 obtain⟨b0,U_,et0,f1,f2,f3,f4,J_⟩:=hw.row id c hH
 obtain rfl:b=b0:=by rw[hb] at f1;exact aa5 f1
 have bK:cG g w g w':={
  same:=n4
  size:=by omega
  pr:=fun b' o hp=>⟨hp,by
   have aR:b'≠b:=fun e=>by subst e;exact J_ o hp
   simp[World.cell?,ho b' aR]⟩
  pK:=fun b o h=>.inl h
  x:=fun b h=>.inl h
  aY:=fun b' _ hx=>ho b' (fun e=>by subst e;exact hx hX)
  σ:=fun _ _ h=>h
  τ:=fun _ m a cap h=>⟨m,a,cap,h,.inr ⟨rfl,rfl,rfl⟩⟩}
 have ax:∀ (i:Nat) e,(H.set id (.row c'))[i]?=some e→(i=id∧e=.row c')∨(i≠id∧H[i]?=some e):=au
 have hblk:∀ (i:Nat) e b',(H.set id (.row c'))[i]?=some e→g.aD i e b'→∃ e',H[i]?=some e'∧g.aD i e' b':=by
  intro i e b' he dD
  rcases ax i e he with ⟨rfl,rfl⟩|⟨_,h⟩
  ·exact⟨_,hH,dD⟩
  ·exact au
 refine⟨⟨fun b o h=>by rw[dE];exact hw.pr b o h,fun b h=>by rw[dE];exact hw.xs b h,?_,?_,?_,?_,?_,?_,?_,hw.Ca bK⟩,bK⟩
 ·intro i e b' he dD
  obtain⟨e',h1,h2⟩:=hblk i e b' he dD
  exact hw.aD i e' b' h1 h2
 ·intro i i' e e' b' he qj yO xE
  obtain⟨e1,h1,h2⟩:=hblk i e b' he yO
  obtain⟨e3,h3,h4⟩:=hblk i' e' b' qj xE
  exact hw.sep i i' e1 e3 b' h1 h3 h2 h4
 ·intro i ci hi
  rcases ax i _ hi with ⟨rfl,he⟩|⟨aR,h⟩
  ·obtain rfl:ci=c':=by injection he
   exact⟨b,arr',et,hb,hn,hlen,fun k x v hx hv=>(gM k x v hx hv).mono bK,J_⟩
  ·obtain⟨b1,dx,sj,g1,g2,g3,g4,g5⟩:=hw.row i ci h
   have mN:b1≠b:=fun e=>aR (hw.sep i id _ _ b1 h hH (by simpa[G.aD] using g1) (by rw[e];simpa[G.aD] using hb))
   exact⟨b1,dx,sj,g1,(ho b1 mN).trans g2,g3,fun k x v hx hv=>(g4 k x v hx hv).mono bK,g5⟩
 ·intro i n e s hi
  rcases ax i _ hi with ⟨_,he⟩|⟨aR,h⟩
  ·cases he
  ·obtain⟨a,cap,g1,g2,g3,g4⟩:=hw.tok i n e s h
   refine⟨a,cap,g1,g2,g3,fun aN=>?_⟩
   obtain⟨b1,dx,k1,k2,k3,k4⟩:=g4 aN
   have mN:b1≠b:=fun e'=>aR (hw.sep i id _ _ b1 h hH (by simp[G.aD,g1,aN,k1]) (by rw[e'];simpa[G.aD] using hb))
   exact au
 ·intro i l e s hi
  rcases ax i _ hi with ⟨_,he⟩|⟨aR,h⟩
  ·cases he
  ·obtain⟨a,cap,g1,g2,g3,g4⟩:=hw.bn i l e s h
   refine⟨a,cap,g1,g2,g3,fun aN=>?_⟩
   obtain⟨b1,dx,k1,k0,k2,k3,k4,k5⟩:=g4 aN
   have mN:b1≠b:=fun e'=>aR (hw.sep i id _ _ b1 h hH (by simp[G.aD,g1,aN,k1]) (by rw[e'];simpa[G.aD] using hb))
   exact⟨b1,dx,k1,k0,(ho b1 mN).trans k2,k3,k4,fun k x v hx hv=>(k5 k x v hx hv).mono bK.pr⟩
 ·intro i x hi
  rcases ax i _ hi with ⟨_,he⟩|⟨aR,h⟩
  ·cases he
  ·obtain⟨b1,q1,q2,q3,q4⟩:=hw.ob i x h
   have mN:b1≠b:=fun e=>aR (hw.sep i id _ _ b1 h hH (.inl q1) (by rw[e];simpa[G.aD] using hb))
   have Sp:∀ b',g.υ i b'→b'≠b:=fun b' hu e=>aR (hw.sep i id _ _ b' h hH (.inr hu) (by rw[e];simpa[G.aD] using hb))
   exact⟨b1,q1,x.st bK.w rfl rfl (ho b1 mN) (fun b' hu=>ho b' (Sp b' hu)) q2,q3,q4⟩
 ·intro i hi
  refine hw.free i ?_
  exact au
def eK:List V→Nat→List V→List V
 |[],_,n=>n
 |x::c,off+1,n=>x::eK c off n
 |x::c,0,[]=>x::c
 |_::c,0,y::n=>y::eK c 0 n
theorem fT:∀ (c:List V) (off:Nat) (n:List V),eK c off n=c.take off++n++c.drop (off+n.length)
 |[],off,n=>by simp[eK]
 |x::c,off+1,n=>by
  rw[eK,fT c off n]
  exact au
 |x::c,0,[]=>by simp[eK]
 |x::c,0,y::n=>by
  rw[eK,fT c 0 n]
  simp
theorem se{x y:Operand}{t n id off:Nat}{c cs:List V}{v:V}(hx:Is (ρ x) (.ptr id off))(hy:Is (ρ y) v)(hH:H[id]?=some (.row c))(hv:v.cs=cs)(h1:cs.all V.one=true)
  (dE:∃ i,P.info? t=some i∧i.size=n)(hn:cs.length=n)(hle:off+n≤c.length):bj P (.store t x y) ty ρ H .any (H.set id (.row (eK c off cs))):=by
 intro g w r pos after guard dst hw h
 have hp:=hx.rep (h x (by simp[Op.operands]))
 have hu:=hy.rep (h y (by simp[Op.operands]))
 obtain⟨Vv,Ru⟩:=hu.cs hv h1
 obtain⟨i,hi,Lv⟩:=dE
 generalize hr:r x=v' at hp
 cases hp with
 |@ptr _ _ b hb=>
  obtain⟨b',arr,et,e1,e2,e3,e4,_⟩:=hw.row id c hH
  obtain rfl:b=b':=by rw[hb] at e1;exact aa5 e1
  have eL:∀ u∈(r y).cells.toList,u.oneCell'=true:=fun u lO=>by
   obtain⟨j,hj⟩:=adn lO
   rw[aa0] at hj
   have Ci:j<cs.length:=au
   exact(Ru j cs[j] u (aaV Ci) hj).one (abi.1 h1 _ (acb Ci))
  have dz:=acG P b off et (r y).cells.toList 0 arr w e2 (by simp;omega) eL
  have pX:(r y).cells.size=i.size:=by omega
  unfold aO
  simp only[execOp,Instr.storeAt,Instr.sureAddr,hr,abl,abu,aa3,storeVar,aq hi,pX,ne_eq,adf,abb,dz]
  refine⟨g,?_⟩
  have key:=aQ.store (w':=w.setRow b (arr.toList.take (off+0)++(r y).cells.toList++arr.toList.drop (off+0+(r y).cells.toList.length)).toArray) (c':=eK c off cs) (arr':=(arr.toList.take (off+0)++(r y).cells.toList++arr.toList.drop (off+0+(r y).cells.toList.length)).toArray) hw hH hb e2 ⟨rfl,rfl,rfl⟩ (acJ w b _) (acR w b arr _ et _ e2) (fun b' aR=>acQ w b b' _ aR)
  have oQ:(eK c off cs).length≤(arr.toList.take (off+0)++(r y).cells.toList++arr.toList.drop (off+0+(r y).cells.toList.length)).toArray.size:=by simp[fT];omega
  refine(fun hh=>⟨(key oQ hh).1,(key oQ hh).2,.any⟩) ?_
  ·intro k x u hx lO
   simp only[acy,fT] at hx lO
   simp only[aca] at lO
   have l1:(List.take off c).length=off:=au
   exact au
theorem aQ.new{g:G}{w:World}{id:Nat}{c:List V}{arr:Array Value}{et:TypeId}(hw:aQ g w H)(hH:H[id]?=some .free)
  (hlen:c.length≤arr.size)(gM:∀ (k:Nat) x v,c[k]?=some x→arr[k]?=some v→cu g w x v):
  ∃ g',aQ g' {w with heap:=w.heap.push (.cells arr et (0,0))} (H.set id (.row c))∧cG g w g' {w with heap:=w.heap.push (.cells arr et (0,0))}∧g'.σ id=some w.heap.size:=by
 have eC:id<H.length:=(aaS.1 hH).1
 obtain⟨G9,DF,J8⟩:=hw.free id (.inl hH)
 let B:=w.heap.size
 let w':World:={w with heap:=w.heap.push (.cells arr et (0,0))}
 let g':G:={σ:=fun i=>if i=id then some B else g.σ i,τ:=g.τ,υ:=g.υ,X:=fun b=>g.X b∨b=B,Pr:=g.Pr }
 have hold:∀ b,b<B→w'.heap[b]?=w.heap[b]?:=fun b hb=>by
  exact au
 have qk:w'.heap[B]?=some (.cells arr et (0,0)):=au
 have dE:w'.heap.size=B+1:=au
 have uE:∀ i b,g.σ i=some b→i≠id:=fun i b h e=>by subst e;rw[G9] at h;cases h
 have pN:∀ i,i≠id→g'.σ i=g.σ i:=fun i h=>by simp[g',h]
 have bK:cG g w g' w':={
  same:=⟨rfl,rfl,rfl⟩
  size:=by omega
  pr:=fun b o hp=>⟨hp,by have:=hw.pr b o hp;simp[World.cell?,hold b this]⟩
  pK:=fun b o h=>.inl h
  x:=fun b h=>h.imp (fun h=>h) (fun e=>by omega)
  aY:=fun b hb _=>hold b hb
  σ:=fun i b h=>by rw[pN i (uE i b h)];exact h
  τ:=fun _ m a cap h=>⟨m,a,cap,h,.inr ⟨rfl,rfl,rfl⟩⟩}
 have ax:∀ (i:Nat) e,(H.set id (.row c))[i]?=some e→(i=id∧e=.row c)∨(i≠id∧H[i]?=some e):=au
 have hblk:∀ (i:Nat) e b',(H.set id (.row c))[i]?=some e→g'.aD i e b'→(i=id∧b'=B)∨(i≠id∧H[i]?=some e∧g.aD i e b'∧b'<B):=by
  intro i e b' he dD
  rcases ax i e he with ⟨rfl,rfl⟩|⟨aR,h⟩
  ·simp[G.aD,g'] at dD;exact .inl ⟨rfl,dD.symm⟩
  ·have:g.aD i e b':=by
    cases e<;>simp[G.aD,g',aR] at dD ⊢<;>exact dD
   exact .inr ⟨aR,h,this,hw.xs b' (hw.aD i e b' h this)⟩
 refine⟨g',⟨fun b o h=>by have:=hw.pr b o h;show b<w'.heap.size;omega,?_,?_,?_,?_,?_,?_,?_,?_,hw.Ca bK⟩,bK,by simp[g',B]⟩
 ·intro b h
  show b<w'.heap.size
  rcases h with h|rfl
  ·have:=hw.xs b h;omega
  ·omega
 ·intro i e b' he dD
  rcases hblk i e b' he dD with ⟨_,rfl⟩|⟨_,h1,h2,_⟩
  ·exact .inr rfl
  ·exact .inl (hw.aD i e b' h1 h2)
 ·intro i i' e e' b' he qj yO xE
  rcases hblk i e b' he yO with ⟨r1,r2⟩|⟨_,h1,h2,h3⟩<;>rcases hblk i' e' b' qj xE with ⟨s1,s2⟩|⟨_,h4,h5,h6⟩
  ·omega
  ·omega
  ·omega
  ·exact hw.sep i i' e e' b' h1 h4 h2 h5
 ·intro i ci hi
  rcases ax i _ hi with ⟨rfl,he⟩|⟨aR,h⟩
  ·obtain rfl:ci=c:=by injection he
   exact⟨B,arr,et,by simp[g'],qk,hlen,fun k x v hx hv=>(gM k x v hx hv).mono bK,fun o hp=>by have:=hw.pr B o hp;omega⟩
  ·obtain⟨b1,dx,sj,g1,g2,g3,g4,g5⟩:=hw.row i ci h
   have aN:=hw.xs b1 (hw.aD i _ b1 h (by simpa[G.aD] using g1))
   exact⟨b1,dx,sj,by rw[pN i aR];exact g1,(hold b1 aN).trans g2,g3,fun k x v hx hv=>(g4 k x v hx hv).mono bK,g5⟩
 ·intro i n e s hi
  rcases ax i _ hi with ⟨_,he⟩|⟨aR,h⟩
  ·cases he
  ·obtain⟨a,cap,g1,g2,g3,g4⟩:=hw.tok i n e s h
   exact au
 ·intro i l e s hi
  rcases ax i _ hi with ⟨_,he⟩|⟨aR,h⟩
  ·cases he
  ·obtain⟨a,cap,g1,g2,g3,g4⟩:=hw.bn i l e s h
   refine⟨a,cap,g1,g2,g3,fun aN=>?_⟩
   obtain⟨b1,dx,k1,k0,k2,k3,k4,k5⟩:=g4 aN
   have DG:=hw.xs b1 (hw.aD i _ b1 h (by simp[G.aD,g1,aN,k1]))
   exact⟨b1,dx,k1,by rw[pN i aR];exact k0,(hold b1 DG).trans k2,k3,k4,fun k x v hx hv=>(k5 k x v hx hv).mono bK.pr⟩
 ·intro i x hi
  rcases ax i _ hi with ⟨_,he⟩|⟨aR,h⟩
  ·cases he
  ·obtain⟨b1,q1,q2,q3,q4⟩:=hw.ob i x h
   have aN:=hw.xs b1 (hw.aD i _ b1 h (.inl q1))
   exact⟨b1,by rw[pN i aR];exact q1,x.st bK.w rfl rfl (hold b1 aN) (fun b' hu=>hold b' (hw.xs b' (hw.aD i _ b' h (.inr hu)))) q2,q3,q4⟩
 ·intro i hi
  have aR:i≠id:=au
  rw[pN i aR]
  refine hw.free i ?_
  exact au
theorem aQ.il{g:G}{w:World}(hw:aQ g w H):aQ g w (H++[.free]):=by
 have ax:∀ (i:Nat) e,(H++[HE.free])[i]?=some e→H[i]?=some e∨(i=H.length∧e=.free):=au
 refine⟨hw.pr,hw.xs,?_,?_,?_,?_,?_,?_,?_,hw.kc⟩
 ·intro i e b he hb
  rcases ax i e he with h|⟨_,rfl⟩
  ·exact hw.aD i e b h hb
  ·simp[G.aD] at hb
 ·intro i i' e e' b he qj yO xE
  rcases ax i e he with h|⟨_,rfl⟩
  ·rcases ax i' e' qj with h'|⟨_,rfl⟩
   ·exact hw.sep i i' e e' b h h' yO xE
   ·simp[G.aD] at xE
  ·simp[G.aD] at yO
 ·intro i c hi
  rcases ax i _ hi with h|⟨_,h⟩
  ·exact hw.row i c h
  ·cases h
 ·intro i n e s hi
  rcases ax i _ hi with h|⟨_,h⟩
  ·exact hw.tok i n e s h
  ·cases h
 ·intro i l e s hi
  rcases ax i _ hi with h|⟨_,h⟩
  ·exact hw.bn i l e s h
  ·cases h
 ·intro i x hi
  rcases ax i _ hi with h|⟨_,h⟩
  ·exact hw.ob i x h
  ·cases h
 ·intro i hi
  refine hw.free i ?_
  exact au
theorem mO(H:List HE)(e:HE):(H++[HE.free]).set H.length e=H++[e]:=by simp
theorem bE{t:Nat}{zs:List Value}{n:Nat}(hz:Zr P t zs)(hn:H.length=n):bj P (.alloc t) ty ρ H (.ptr n 0) (H++[.row (zs.map vT)]):=by
 subst hn
 intro g w r pos after guard dst hw h
 obtain⟨i,z,hi,ug,CE,hz3⟩:=hz.z
 have:=aQ.new (id:=H.length) (c:=zs.map vT) (arr:=z.cells) (et:=t) hw.il (by simp) (by simp[←CE]) (fun k x v hx hv=>by
  simp only[aba,aa6] at hx
  obtain⟨y,hy,rfl⟩:=hx
  rw[←CE,aa0,hv] at hy
  obtain rfl:=aa5 hy
  exact cu.vT _ _ _)
 obtain⟨g',h1,h2,h3⟩:=this
 rw[mO] at h1
 unfold aO
 simp only[execOp,Instr.alloc,abl,aX hi ug,aa3,newVar,newRow,ac7,abu]
 exact⟨g',h1,h2,.ptr h3⟩
theorem cW{t:Nat}{x:Operand}{v:V}{c:List V}{n:Nat}(hx:Is (ρ x) v)(hv:v.cs=c)(h1:c.all V.one=true)(hn:H.length=n):bj P (.box t x) ty ρ H (.ptr n 0) (H++[.row c]):=by
 subst hn
 intro g w r pos after guard dst hw h
 have hu:=hx.rep (h x (by simp[Op.operands]))
 obtain⟨Vv,Ru⟩:=hu.cs hv h1
 have:=aQ.new (id:=H.length) (c:=c) (arr:=(r x).cells) (et:=t) hw.il (by simp) (by omega) (fun k x v hx hv=>Ru k x v hx hv)
 obtain⟨g',h1,h2,h3⟩:=this
 rw[mO] at h1
 unfold aO
 simp only[execOp,Instr.box,abl,newVar,newRow,ac7,abu,aa3]
 exact⟨g',h1,h2,.ptr h3⟩
end
end Go.Proofs.YtjdnbobilgamdaaGreatDoor.Ab
end
section
namespace Go.Proofs.YtjdnbobilgamdaaGreatDoor.Ab
open Go
section
variable {P:Program}{ρ:Operand→V}{H:List HE}{ty:TypeId}
inductive qG(ρ:Operand→V):List Operand→List D→Prop
 |nil:qG ρ [] []
 |cons {x:Operand} {xs:List Operand} {d:D} {ds:List D}:As (ρ x) d→qG ρ xs ds→qG ρ (x::xs) (d::ds)
inductive wo(ρ:Operand→V):List Operand→List V→Prop
 |nil:wo ρ [] []
 |cons {x:Operand} {xs:List Operand} {v:V} {vs:List V}:Is (ρ x) v→wo ρ xs vs→wo ρ (x::xs) (v::vs)
theorem qG.get{xs:List Operand}{ds:List D}(h:qG ρ xs ds):xs.length=ds.length∧∀ (i:Nat) d,ds[i]?=some d→∃ x,xs[i]?=some x∧As (ρ x) d:=by
 induction h with
 |nil=>simp
 |cons hx _ ih=>
  refine⟨by simp[ih.1],fun i d hd=>?_⟩
  cases i with
  |zero=>simp only[aa',aaW] at hd;subst hd;exact⟨_,rfl,hx⟩
  |succ i=>exact ih.2 i d (by simpa using hd)
theorem wo.get{xs:List Operand}{ds:List V}(h:wo ρ xs ds):xs.length=ds.length∧∀ (i:Nat) d,ds[i]?=some d→∃ x,xs[i]?=some x∧Is (ρ x) d:=by
 induction h with
 |nil=>simp
 |cons hx _ ih=>
  refine⟨by simp[ih.1],fun i d hd=>?_⟩
  cases i with
  |zero=>simp only[aa',aaW] at hd;subst hd;exact⟨_,rfl,hx⟩
  |succ i=>exact ih.2 i d (by simpa using hd)
theorem bZ{wh:Operand}{f:FuncId}{args:Array Operand}{ts:Array TypeId}{vs lK:List V}{v:V}{H':List HE}(hc:∀ (a:Array Value) (w:World),(callFunc f a).run P w=.ok (.enter f a) w)
  (hf:Is (ρ wh) (.fn (.func f) lK))(ha:wo ρ args.toList vs)(h:aJ P f (vs++lK) H fun r H2=>r=v∧H2=H'):bj P (.call ⟨.value wh,args,ts⟩) ty ρ H v H':=by
 intro g w r pos after guard dst hw hx
 obtain⟨hl,hg⟩:=ha.get
 have mG:∀ z,z∈args→z∈(Op.call ⟨.value wh,args,ts⟩).operands:=fun z hz=>by
  simp only[Op.operands,Call.operands];exact adu.2 (.inr hz)
 have tr:=hf.rep (hx wh (by simp[Op.operands,Call.operands]))
 generalize Su:r wh=fv at tr
 cases tr with
 |@fn _ _ arr dE gM=>
  have sn:=h g w (args.map r++arr) hw (by simp at hl ⊢;omega) (fun i x v kB hv=>by
   by_cases hi:i<vs.length
   ·rw[aa1 hi] at kB
    rw[ab4 (by simp at hl ⊢;omega)] at hv
    obtain⟨y,hy,Lv⟩:=hg i x kB
    simp only[ad2,aa6] at hv
    obtain⟨z,hz,rfl⟩:=hv
    rw[aa0] at hy
    obtain rfl:z=y:=by rw[hz] at hy;exact aa5 hy
    exact Lv.rep (hx z (mG z (aeq hz)))
   ·rw[aaY (by omega)] at kB
    rw[adT (by simp at hl ⊢;omega)] at hv
    simp only[Array.size_map,abL] at hv hl
    rw[hl] at hv
    exact gM _ x v kB hv)
  unfold aO
  simp only[execOp,resolve,Su,Deferred.ofValue,abl,abu,aa3,invoke,adC,hc]
  refine sn.mono ?_
  rintro e w' ⟨rv,res,g',H2,rfl,h1,h2,h3,rfl,rfl⟩
  exact⟨rv,rfl,g',h1,h2,h3⟩
theorem qG.run{xs:List Operand}{ds:List D}(h:qG ρ xs ds){g:G}{w:World}{r:Operand→Value}(hx:∀ x,x∈xs→cu g w (ρ x) (r x)):
  ∀ (i:Nat) x v,(ds.map V.d)[i]?=some x→(xs.map r)[i]?=some v→cu g w x v:=by
 intro i x v kB hv
 simp only[aba,aa6] at kB hv
 obtain⟨d,hd,rfl⟩:=kB
 obtain⟨z,hz,rfl⟩:=hv
 obtain⟨y,hy,has⟩:=h.get.2 i d hd
 obtain rfl:z=y:=by rw[hz] at hy;exact aa5 hy
 exact .d (has.rep (hx z (abc hz)))
theorem Ms{wh:Operand}{f:FuncId}{args:Array Operand}{ts:Array TypeId}{ds:List D}{v:V}{H':List HE}(hc:∀ (a:Array Value) (w:World),(callFunc f a).run P w=.ok (.enter f a) w)
  (hf:Is (ρ wh) (.fn (.func f) []))(ha:qG ρ args.toList ds)(h:aJ P f (ds.map .d) H fun r H2=>r=v∧H2=H'):bj P (.call ⟨.value wh,args,ts⟩) ty ρ H v H':=by
 intro g w r pos after guard dst hw hx
 have mG:∀ z,z∈args.toList→z∈(Op.call ⟨.value wh,args,ts⟩).operands:=fun z hz=>by
  simp only[Op.operands,Call.operands];exact adu.2 (.inr (by simpa using hz))
 have tr:=hf.rep (hx wh (by simp[Op.operands,Call.operands]))
 generalize Su:r wh=fv at tr
 cases tr with
 |@fn _ _ arr dE gM=>
  have h0:arr=#[]:=au
  subst h0
  have sn:=h g w (args.map r) hw (by have:=ha.get.1;simp at this ⊢;omega) (fun i x v kB hv=>
   ha.run (fun x OS=>hx x (mG x OS)) i x v kB (by simpa[aa0] using hv))
  unfold aO
  simp only[execOp,resolve,Su,Deferred.ofValue,abl,abu,aa3,invoke,adC,Array.append_empty,hc]
  refine sn.mono ?_
  rintro e w' ⟨rv,res,g',H2,rfl,h1,h2,h3,rfl,rfl⟩
  exact⟨rv,rfl,g',h1,h2,h3⟩
theorem cb{wh:Operand}{f:FuncId}{args:Array Operand}{ts:Array TypeId}{ds:List D}{res:D}(hc:∀ (a:Array Value) (w:World),(callFunc f a).run P w=.ok (.enter f a) w)
  (hf:Is (ρ wh) (.fn (.func f) []))(ha:qG ρ args.toList ds)(h:Fn P f ds res):bj P (.call ⟨.value wh,args,ts⟩) ty ρ H (.d res) H:=
 Ms hc hf ha (h.at H)
theorem mz{fn:Go.Fn}{lK:Array Operand}{vs:List V}(ha:wo ρ lK.toList vs):bj P (.makeFunc fn #[] lK) ty ρ H (.fn fn vs) H:=
 bj.aW fun g w r hw h=>⟨.func fn #[] (lK.map r),fun _ _ _ _=>by simp[execOp,Instr.makeFunc],.fn (by have:=ha.get.1;simp at this ⊢;omega) (fun i x v hx hv=>by
  obtain⟨y,hy,Lv⟩:=ha.get.2 i x hx
  simp only[ad2,aa6] at hv
  obtain⟨z,hz,rfl⟩:=hv
  rw[aa0] at hy
  obtain rfl:z=y:=by rw[hz] at hy;exact aa5 hy
  exact Lv.rep (h z (by simp only[Op.operands,adC];exact aeq hz)))⟩
theorem sB{x:Operand}{k:Nat}{l:List D}{y:D}(hx:Is (ρ x) (.d (.gd l)))(hy:l[k]?=some y):bj P (.extract x k) ty ρ H (.d y) H:=
 bj.aW fun g w r hw h=>by
  have h1:=hx.rep (h x (by simp[Op.operands]))
  generalize hr:r x=v at h1
  cases h1 with
  |d h1=>
   cases h1 with
   |gd _ arr hs gM=>
    have aN:k<arr.size:=au
    exact⟨arr[k],fun _ _ _ _=>by simp[execOp,Instr.extract,hr,aN],.d (gM k y _ hy (by simp[aN]))⟩
theorem my{x:Operand}{k:Nat}{l:List V}{y:V}(hx:Is (ρ x) (.gd l))(hy:l[k]?=some y):bj P (.extract x k) ty ρ H y H:=
 bj.aW fun g w r hw h=>by
  have h1:=hx.rep (h x (by simp[Op.operands]))
  generalize hr:r x=v at h1
  cases h1 with
  |gd hs gM=>
   rename_i arr
   have aN:k<arr.size:=au
   exact⟨arr[k],fun _ _ _ _=>by simp[execOp,Instr.extract,hr,aN],gM k y _ hy (by simp[aN])⟩
structure Bd(P:Program)(t:TypeId)(zs:List Value)(pl:List (Nat×Nat)):Prop where
 z:Zr P t zs
 u:∃ fs,P.underlying t=some (.struct fs)∧fs.toList.map (fun f=>(f.offset,(P.info? f.type).map (·.size)))=pl.map fun p=>(p.1,some p.2)
def uB(c:List V):List (Nat×List V)→List V
 |[]=>c
 |(off,n)::r=>uB (eK c off n) r
inductive Av(ρ:Operand→V)(pl:List (Nat×Nat))(N:Nat):List (Nat×Operand)→List (Nat×List V)→Prop
 |nil:Av ρ pl N [] []
 |cons {i off n:Nat} {x:Operand} {v:V} {cs:List V} {r:List (Nat×Operand)} {q:List (Nat×List V)}:Is (ρ x) v→v.cs=cs→cs.all V.one=true→pl[i]?=some (off,n)→cs.length=n→off+n≤N→
   Av ρ pl N r q→Av ρ pl N ((i,x)::r) ((off,cs)::q)
theorem tG(off:Nat):∀ (vs:List Value) (j:Nat) (cs:Array Value),((vs.zipIdx j).foldl (fun cs (x:Value×Nat)=>cs.setIfInBounds (off+x.2) x.1) cs).size=cs.size∧
  ∀ k,((vs.zipIdx j).foldl (fun cs (x:Value×Nat)=>cs.setIfInBounds (off+x.2) x.1) cs)[k]?=if off+j≤k∧k<off+j+vs.length∧k<cs.size then vs[k-(off+j)]? else cs[k]?
 |[],j,cs=>⟨rfl,fun k=>by rw[aa7 (by simp;omega)];rfl⟩
 |v::vs,j,cs=>by
  obtain⟨h1,h2⟩:=tG off vs (j+1) (cs.setIfInBounds (off+j) v)
  simp only[List.zipIdx_cons,adA]
  exact au
theorem tH{g:G}{w:World}{r:Operand→Value}{pl:List (Nat×Nat)}{N:Nat}{place:Nat→Option (Nat×Nat)}(Kq:∀ (i:Nat) x,pl[i]?=some x→place i=some x){ps:List (Nat×Operand)}{q:List (Nat×List V)}(h:Av ρ pl N ps q)
  (hx:∀ x,x∈ps.map (·.2)→cu g w (ρ x) (r x)):∀ {arr:Array Value} {c:List V},arr.size=N→c.length=N→(∀ (k:Nat) x v,c[k]?=some x→arr[k]?=some v→cu g w x v)→
  ∃ arr',Instr.fill place arr (ps.map fun p=>(p.1,r p.2))=some arr'∧arr'.size=N∧(uB c q).length=N∧(∀ (k:Nat) x v,(uB c q)[k]?=some x→arr'[k]?=some v→cu g w x v):=by
 induction h with
 |nil=>intro arr c h1 h2 h3;exact⟨arr,rfl,h1,h2,h3⟩
 |@cons i off n x v cs rs q Lv O4 eL hp hn hN wC ih=>
  intro arr c h1 h2 h3
  have hr:=Lv.rep (hx x (by simp))
  obtain⟨hz,gM⟩:=hr.cs O4 eL
  have dE:(r x).cells.size=n:=by omega
  obtain⟨f1,f2⟩:=tG off (r x).cells.toList 0 arr
  have VE:(r x).cells.zipIdx.foldl (fun cs (y:Value×Nat)=>cs.setIfInBounds (off+y.2) y.1) arr=((r x).cells.toList.zipIdx 0).foldl (fun cs (y:Value×Nat)=>cs.setIfInBounds (off+y.2) y.1) arr:=by
   rw[←Array.foldl_toList,Array.toList_zipIdx]
  obtain⟨arr',e1,e2,e3,e4⟩:=ih (fun y hy=>hx y (by simp at hy ⊢;exact .inr hy)) (arr:=((r x).cells.toList.zipIdx 0).foldl (fun cs (y:Value×Nat)=>cs.setIfInBounds (off+y.2) y.1) arr) (c:=eK c off cs)
   (by rw[f1];exact h1) (by simp[fT];omega) (by
    intro k y u hy hu
    rw[f2 k] at hu
    simp only[abL,acy,dE] at hu
    simp only[fT] at hy
    have l1:(List.take off c).length=off:=by simp;omega
    by_cases hk:k<off
    ·exact au
    ·rw[abk,aaY (by omega),l1] at hy
     by_cases oJ:k<off+n
     ·exact au
     ·rw[aaY (by omega),abn] at hy
      rw[aa7 (by omega)] at hu
      have:off+cs.length+(k-off-cs.length)=k:=by omega
      rw[this] at hy
      exact h3 k y u hy hu)
  refine⟨arr',?_,e2,by simpa[uB] using e3,by simpa[uB] using e4⟩
  simp only[abP,Instr.fill,Kq _ _ hp,dE]
  rw[aa7 (by simp;omega)]
  rw[VE]
  exact e1
theorem od{t:Nat}{zs:List Value}{pl:List (Nat×Nat)}{ps:Array (Nat×Operand)}{q:List (Nat×List V)}(hb:Bd P t zs pl)(hp:Av ρ pl zs.length ps.toList q):
  bj P (.build t ps) ty ρ H (.agg (uB (zs.map vT) q)) H:=
 bj.aW fun g w r hw h=>by
  obtain⟨i,z,hi,ug,CE,hz3⟩:=hb.z.z
  obtain⟨fs,hu,hfs⟩:=hb.u
  have Kr:∀ (l:List Field) (pl:List (Nat×Nat)),l.map (fun f=>(f.offset,(P.info? f.type).map (·.size)))=pl.map (fun p=>(p.1,some p.2))→(l.mapM (fun f=>Prod.mk f.offset <$> sizeOf f.type)).run P w=.ok pl w:=by
   intro l
   induction l with
   |nil=>intro pl h;cases pl<;>simp_all
   |cons f l ih=>
    intro pl h
    cases pl with
    |nil=>simp at h
    |cons p pl=>
     simp only[abP,List.cons.injEq,aeb,aa6] at h
     obtain⟨⟨h1,⟨i,hi,Lv⟩⟩,h3⟩:=h
     simp only[ac4,abl,Sem.run_map,aq hi,aa3,abu,ih pl h3,h1,Lv]
  have PK:(fs.mapM (fun f=>Prod.mk f.offset <$> sizeOf f.type)).run P w=.ok pl.toArray w:=by
   rw[ad5]
   simp only[Sem.run_map,Kr fs.toList pl hfs,aa3]
  have Sq:z.cells.size=zs.length:=au
  obtain⟨arr',e1,e2,e3,e4⟩:=tH (place:=fun i=>pl[i]?) (g:=g) (w:=w) (r:=r) (fun _ _ h=>h) hp (fun x hx=>h x (by simpa[Op.operands] using hx)) (arr:=z.cells) (c:=zs.map vT) Sq (by simp) (fun k x v hx hv=>by
   simp only[aba,aa6] at hx
   obtain⟨y,hy,rfl⟩:=hx
   rw[←CE,aa0,hv] at hy
   obtain rfl:=aa5 hy
   exact cu.vT _ _ _)
  refine⟨.agg arr',fun _ _ _ _=>?_,.agg (by omega) e4⟩
  simp[execOp,Instr.build,aX hi ug,aaX hu,PK,e1]
structure Ba(P:Program)(t:TypeId)(zs:List Value)(n e s:Nat):Prop where
 z:Zr P t zs
 u:P.underlying t=some (.array n e)
 i:∃ i,P.info? e=some i∧i.size=s
theorem mu{t n e s:Nat}{zs:List Value}{ps:Array (Nat×Operand)}{q:List (Nat×List V)}(hb:Ba P t zs n e s)(hp:Av ρ ((List.range n).map fun i=>(i*s,s)) zs.length ps.toList q):
  bj P (.build t ps) ty ρ H (.agg (uB (zs.map vT) q)) H:=
 bj.aW fun g w r _ h=>by
  obtain⟨i,z,hi,ug,CE,hz3⟩:=hb.z.z
  obtain⟨ie,im,UX⟩:=hb.i
  have Sq:z.cells.size=zs.length:=au
  obtain⟨arr',e1,e2,e3,e4⟩:=tH (place:=fun i=>some (i*s,s)) (g:=g) (w:=w) (r:=r) (fun i x hx=>by
   simp only[aba,aa6] at hx
   obtain⟨y,hy,rfl⟩:=hx
   have aN:i<n:=au
   simp[aN] at hy
   rw[hy]) hp (fun x hx=>h x (by simpa[Op.operands] using hx)) (arr:=z.cells) (c:=zs.map vT) Sq (by simp) (fun k x v hx hv=>by
   simp only[aba,aa6] at hx
   obtain⟨y,hy,rfl⟩:=hx
   rw[←CE,aa0,hv] at hy
   obtain rfl:=aa5 hy
   exact cu.vT _ _ _)
  refine⟨.agg arr',fun _ _ _ _=>?_,.agg (by omega) e4⟩
  simp[execOp,Instr.build,aX hi ug,aaX hb.u,aq im,UX,e1]
theorem dS{x y:Operand}{t n e s id off:Nat}{k:IntKind}{a:Int}{i:Nat}(hx:Is (ρ x) (.ptr id off))(hy:As (ρ y) (.int k a))(hn:a=(i:Int))(aN:i<n)(hu:P.underlying t=some (.array n e))
  (hi:∃ i,P.info? e=some i∧i.size=s):bj P (.indexAddr t x y) ty ρ H (.ptr id (off+i*s)) H:=
 bj.aW fun g w r _ h=>by
  subst hn
  have h1:=hx.rep (h x (by simp[Op.operands]))
  have h2:=hy.int (h y (by simp[Op.operands]))
  obtain⟨ie,im,UX⟩:=hi
  generalize hr:r x=v at h1
  cases h1 with
  |@ptr _ _ b hb=>
   refine⟨.pointer (some ⟨b,off+i*s,none⟩),fun _ _ _ _=>?_,.ptr hb⟩
   simp[execOp,Instr.indexAt,asIntOf,hr,h2,aaX hu,Instr.sureAddr,aN,aq im,UX,Addr.aT]
inductive SX(ρ:Operand→V)(s:Nat):Nat→List (Nat×Operand)→List D→Prop
 |nil {i:Nat}:SX ρ s i [] []
 |cons {i:Nat} {x:Operand} {d:D} {r:List (Nat×Operand)} {ds:List D}:As (ρ x) d→d.cells.length=s→(∀ y,y∈d.cells→y.one=true)→SX ρ s (i+1) r ds→SX ρ s i ((i,x)::r) (d::ds)
theorem SX.VF{s i:Nat}{ps:List (Nat×Operand)}{ds:List D}(h:SX ρ s i ps ds):ps.length=ds.length∧∀ x∈ds,x.cells.length=s:=by
 induction h with
 |nil=>simp
 |cons _ hs _ _ ih=>exact⟨by simp[ih.1],by intro x hx;rcases abq.1 hx with rfl|hx;exact hs;exact ih.2 x hx⟩
theorem aV.cells{Pr:Nat→Nat→Prop}{w:World}{x:D}{r:Value}(h:aV Pr w x r)(h1:∀ y,y∈x.cells→y.one=true):
  r.cells.size=x.cells.length∧∀ (i:Nat) y u,x.cells[i]?=some y→r.cells[i]?=some u→aV Pr w y u:=by
 have single:x.cells=[x]→r.cells.size=x.cells.length∧∀ (i:Nat) y u,x.cells[i]?=some y→r.cells[i]?=some u→aV Pr w y u:=by
  intro hv
  have eL:=h.one (h1 x (by rw[hv];simp))
  have hr:r.cells=#[r]:=by cases r<;>simp_all [Value.cells,Value.oneCell']
  exact au
 cases x with
 |agg l=>
  cases h with
  |agg _ arr hs hr=>exact⟨by simpa[D.cells,Value.cells] using hs,fun i y u hy hu=>hr i y u hy hu⟩
 |_=>exact single rfl
theorem Mt{g:G}{w:World}{r:Operand→Value}{s:Nat}{i:Nat}{ps:List (Nat×Operand)}{ds:List D}(h:SX ρ s i ps ds)
  (hx:∀ x,x∈ps.map (·.2)→cu g w (ρ x) (r x)):∀ {arr:Array Value},arr.size=(i+ds.length)*s→
  ∃ arr',Instr.fill (fun i=>some (i*s,s)) arr (ps.map fun p=>(p.1,r p.2))=some arr'∧arr'.size=arr.size∧(∀ k,k<i*s→arr'[k]?=arr[k]?)∧
   (∀ (k:Nat) x,(D.flat ds)[k]?=some x→∀ v,arr'[i*s+k]?=some v→aV g.Pr w x v):=by
 induction h with
 |nil=>intro arr h1;exact⟨arr,rfl,rfl,fun _ _=>rfl,by simp[D.flat]⟩
 |@cons i x d rs ds has hs eL wC ih=>
  intro arr h1
  simp only[abp] at h1
  have hd:=has.rep (hx x (by simp))
  obtain⟨hz,gM⟩:=hd.cells eL
  have dE:(r x).cells.size=s:=by omega
  obtain⟨f1,f2⟩:=tG (i*s) (r x).cells.toList 0 arr
  have VE:(r x).cells.zipIdx.foldl (fun cs (y:Value×Nat)=>cs.setIfInBounds (i*s+y.2) y.1) arr=((r x).cells.toList.zipIdx 0).foldl (fun cs (y:Value×Nat)=>cs.setIfInBounds (i*s+y.2) y.1) arr:=by
   rw[←Array.foldl_toList,Array.toList_zipIdx]
  have hmul:(i+1)*s=i*s+s:=au
  have hle:i*s+s≤arr.size:=au
  obtain⟨arr',e1,e2,e3,e4⟩:=ih (fun y hy=>hx y (by simp at hy ⊢;exact .inr hy)) (arr:=((r x).cells.toList.zipIdx 0).foldl (fun cs (y:Value×Nat)=>cs.setIfInBounds (i*s+y.2) y.1) arr) (by rw[f1,h1];congr 1;omega)
  refine⟨arr',?_,by rw[e2,f1],fun k hk=>?_,fun k y hy v hv=>?_⟩
  ·simp only[abP,Instr.fill,dE]
   exact au
  ·exact au
  ·simp only[D.flat,acV] at hy
   by_cases hk:k<s
   ·rw[aa1 (by omega)] at hy
    rw[e3 _ (by omega),f2,aa2 (by simp;omega),aa0] at hv
    have:i*s+k-(i*s+0)=k:=by omega
    exact au
   ·rw[aaY (by omega),hs] at hy
    refine e4 (k-s) y hy v ?_
    rw[←hv];congr 1;omega
theorem aQ.Rx{g:G}{w w':World}{arr:Array Value}{et:TypeId}{fr:Nat×Nat}(hw:aQ g w H)(n4:w'.os=w.os∧w'.tape=w.tape∧w'.output=w.output)(dE:w'.heap.size=w.heap.size+1)(hold:∀ b,b<w.heap.size→w'.heap[b]?=w.heap[b]?)
  (_:w'.heap[w.heap.size]?=some (.cells arr et fr)):
  ∃ g',aQ g' w' H∧cG g w g' w'∧(∀ o,o<arr.size→g'.Pr w.heap.size o):=by
 let B:=w.heap.size
 let g':G:={σ:=g.σ,τ:=g.τ,υ:=g.υ,X:=g.X,Pr:=fun b o=>g.Pr b o∨(b=B∧o<arr.size)}
 have bK:cG g w g' w':={
  same:=n4
  size:=by omega
  pr:=fun b o hp=>⟨.inl hp,by have:=hw.pr b o hp;simp[World.cell?,hold b this]⟩
  pK:=fun b o h=>by
   exact au
  x:=fun b h=>.inl h
  aY:=fun b hb _=>hold b hb
  σ:=fun i b h=>h
  τ:=fun _ m a cap h=>⟨m,a,cap,h,.inr ⟨rfl,rfl,rfl⟩⟩}
 refine⟨g',⟨?_,fun b h=>by have:=hw.xs b h;omega,hw.aD,hw.sep,?_,?_,?_,?_,hw.free,hw.Ca bK⟩,bK,fun o ho=>.inr ⟨rfl,ho⟩⟩
 ·intro b o h
  rcases h with h|⟨rfl,_⟩
  ·have:=hw.pr b o h;omega
  ·omega
 ·intro i ci hi
  obtain⟨b1,dx,sj,g1,g2,g3,g4,g5⟩:=hw.row i ci hi
  have aN:=hw.xs b1 (hw.aD i _ b1 hi (by simpa[G.aD] using g1))
  refine⟨b1,dx,sj,g1,(hold b1 aN).trans g2,g3,fun k x v hx hv=>(g4 k x v hx hv).mono bK,fun o hp=>?_⟩
  exact au
 ·intro i n e s hi
  obtain⟨a,cap,g1,g2,g3,g4⟩:=hw.tok i n e s hi
  exact au
 ·intro i l e s hi
  obtain⟨a,cap,g1,g2,g3,g4⟩:=hw.bn i l e s hi
  refine⟨a,cap,g1,g2,g3,fun aN=>?_⟩
  obtain⟨b1,dx,k1,k0,k2,k3,k4,k5⟩:=g4 aN
  have DG:=hw.xs b1 (hw.aD i _ b1 hi (by simp[G.aD,g1,aN,k1]))
  refine⟨b1,dx,k1,k0,(hold b1 DG).trans k2,k3,fun o hp=>?_,fun k x v hx hv=>(k5 k x v hx hv).mono bK.pr⟩
  exact au
 ·intro i x hi
  obtain⟨b1,q1,q2,q3,q4⟩:=hw.ob i x hi
  have aN:=hw.xs b1 (hw.aD i _ b1 hi (.inl q1))
  have VG:∀ b',g.υ i b'→b'<w.heap.size:=fun b' hu=>hw.xs b' (hw.aD i _ b' hi (.inr hu))
  refine⟨b1,q1,x.st bK.w rfl rfl (hold b1 aN) (fun b' hu=>hold b' (VG b' hu)) q2,fun o hp=>?_,fun b' o hu hp=>?_⟩
  ·exact au
  ·exact au
theorem aF{t e s bytes:Nat}{ps:Array (Nat×Operand)}{n:Nat}{ds:List D}(ht:pt P t e s bytes)(hp:SX ρ s 0 ps.toList ds)(hn:ds.length=n)(hle:n*s≤2^24):
  bj P (.buildSlice t n ps) ty ρ H (.ex ds) H:=by
 intro g w r pos after guard dst hw h
 obtain⟨ie,z,im,dE,_,ug,CE⟩:=ht.i
 let zero:Array Value:=if n*s=0 then #[] else z.cells
 obtain⟨arr',e1,e2,_,e4⟩:=Mt hp (g:=g) (w:=w) (r:=r) (fun x hx=>h x (by simpa[Op.operands] using hx)) (arr:=(Array.range (n*s)).map fun i=>zero[i%zero.size]!) (by simp[hn])
 have SY:=hp.VF
 have h4:(World.heap {w with heap:=w.heap.push (.cells arr' e (0,0))})[w.heap.size]?=some (.cells arr' e (0,0)):=by simp
 obtain⟨g',h1,h2,h3⟩:=hw.Rx (w':={w with heap:=w.heap.push (.cells arr' e (0,0))}) (arr:=arr') (et:=e) ⟨rfl,rfl,rfl⟩ (by simp) (fun b hb=>by
  rw[show World.heap {w with heap:=w.heap.push (.cells arr' e (0,0))}=w.heap.push (.cells arr' e (0,0)) from rfl,acF,aa7 (by omega)]) h4
 have pX:arr'.size=n*s:=au
 have kD:∀ k,k<n*s→(World.cell? {w with heap:=w.heap.push (.cells arr' e (0,0))} ⟨w.heap.size,0+k,none⟩)=some (arr'.getD k undef):=fun k hk=>by
  exact au
 have wD:Instr.fill (fun i=>some (i*s,s)) ((Array.range (n*s)).map fun i=>zero[i%zero.size]!) (ps.map fun p=>(p.1,r p.2)).toList=some arr':=au
 unfold aO
 have dz:(Instr.buildSlice t n (ps.map fun p=>(p.1,r p.2))).run P w=.ok (.slice (some ⟨w.heap.size,0,none⟩) n n) {w with heap:=w.heap.push (.cells arr' e (0,0))}:=by
  have YD:¬(n*s > 2^24):=by omega
  simp only[Instr.buildSlice,abl,aaX ht.u,aa3,aq im,dE,aa7 YD]
  by_cases h0:n*s=0
  ·have hz:zero=#[]:=by simp[zero,h0]
   rw[hz] at wD
   rw[aa2 h0]
   simp only[abu,aa3,wD,newRow,abl,ac7]
  ·have hz:zero=z.cells:=by simp only[zero,aa7 h0]
   rw[hz] at wD
   rw[aa7 h0]
   simp only[abl,aX im ug,abu,aa3,wD,newRow,ac7]
 simp only[execOp,abl,dz,aa3,abu]
 refine⟨g',h1,h2,?_⟩
 subst hn
 refine .ex (.sl ds _ _ s (fun k=>arr'.getD k undef) SY.2 (aaZ _) (fun _=>⟨w.heap.size,0,rfl,fun k hk=>⟨by simpa using h3 k (by omega),kD k hk⟩⟩) (fun k x hx=>?_))
 have hk:k<ds.length*s:=by rw[←dG SY.2];exact(aaS.1 hx).1
 have JZ:k<arr'.size:=by omega
 have:=e4 k x hx arr'[k] (by simp[JZ])
 simp only[Array.getD,JZ,dif_pos]
 exact this.mono h2.pr
end
end Go.Proofs.YtjdnbobilgamdaaGreatDoor.Ab
end
