/- Lists of lists whose rows are written: one entry of the heap for all of them. Lists of rows that are written in place: their elements and the fields of these. Pieces of lists that are written in place: their elements; 'clear'. Conditions: none. -/
import Derived.Test.YtjdnbobilgamdaaGreatDoorAb29
import Derived.Lib.SliceRun
section
namespace Go.Proofs.YtjdnbobilgamdaaGreatDoor.Ab
open Go
theorem aQ.XA{g g':G}{w w':World}{H H':List HE}(K:Nat→Prop)(hw:aQ g w H)(he:cG g w g' w')(hl:H'.length=H.length)(Yo:∀ i,K i→i<H.length)(hH:∀ i,¬K i→H'[i]?=H[i]?)
  (hg:∀ i,¬K i→g'.σ i=g.σ i∧g'.τ i=g.τ i∧g'.υ i=g.υ i)(hX:∀ b,g.X b→g'.X b)(Vn:∀ b,g'.X b→b<w'.heap.size)(Vo:∀ b o,g'.Pr b o→b<w'.heap.size)
  (hu:∀ i e b,¬K i→H[i]?=some e→g.aD i e b→w'.heap[b]?=w.heap[b]?∧∀ o,g'.Pr b o→g.Pr b o)
  (hb:∀ i e b,K i→H'[i]?=some e→g'.aD i e b→g'.X b∧∃ i0 e0,K i0∧H[i0]?=some e0∧g.aD i0 e0 b)
  (hs:∀ i i' e e' b,K i→K i'→H'[i]?=some e→H'[i']?=some e'→g'.aD i e b→g'.aD i' e' b→i=i')
  (hE:∀ i e,K i→H'[i]?=some e→e=.dead∨∃ x,e=.ob x∧∃ b,g'.σ i=some b∧x.φ g' w' i b∧(∀ o,¬g'.Pr b o)∧∀ b' o,g'.υ i b'→¬g'.Pr b' o):aQ g' w' H':=by
 classical
 have hblk:∀ i e b,¬K i→(g'.aD i e b↔g.aD i e b):=fun i e b hi=>by
  obtain⟨q1,q2,q3⟩:=hg i hi
  cases e<;>simp only[G.aD,q1,q2,q3]
 have DN:∀ i e b,H'[i]?=some e→g'.aD i e b→∃ i0 e0,(K i↔K i0)∧(¬K i→i0=i)∧H[i0]?=some e0∧g.aD i0 e0 b:=fun i e b h1 h2=>by
  by_cases hi:K i
  ·exact au
  ·exact au
 refine⟨Vo,Vn,?_,?_,?_,?_,?_,?_,?_,hw.Ca he⟩
 ·intro i e b h1 h2
  by_cases hi:K i
  ·exact au
  ·exact hX _ (hw.aD i e b ((hH i hi)▸h1) ((hblk i e b hi).1 h2))
 ·intro i i' e e' b h1 h2 h3 h4
  obtain⟨j,f,k1,k2,k3,k4⟩:=DN i e b h1 h3
  obtain⟨j',f',l1,l2,l3,l4⟩:=DN i' e' b h2 h4
  have hjj:j=j':=hw.sep j j' f f' b k3 l3 k4 l4
  exact au
 ·intro i c h
  by_cases hi:K i
  ·exact au
  ·have h':=(hH i hi)▸h
   obtain⟨q1,q2,q3⟩:=hg i hi
   obtain⟨b1,dx,sj,g1,g2,g3,g4,g5⟩:=hw.row i c h'
   obtain⟨u1,u2⟩:=hu i _ b1 hi h' (by simpa[G.aD] using g1)
   exact⟨b1,dx,sj,q1▸g1,u1.trans g2,g3,fun k x v hx hv=>(g4 k x v hx hv).mono he,fun o hp=>g5 o (u2 o hp)⟩
 ·intro i n e s h
  by_cases hi:K i
  ·exact au
  ·have h':=(hH i hi)▸h
   obtain⟨q1,q2,q3⟩:=hg i hi
   obtain⟨a,cap,g1,g2,g3,g4⟩:=hw.tok i n e s h'
   refine⟨a,cap,q2▸g1,g2,g3,fun aN=>?_⟩
   obtain⟨b1,dx,k1,k2,k3,k4⟩:=g4 aN
   obtain⟨u1,u2⟩:=hu i _ b1 hi h' (by simp[G.aD,g1,aN,k1])
   exact au
 ·intro i l e s h
  by_cases hi:K i
  ·exact au
  ·have h':=(hH i hi)▸h
   obtain⟨q1,q2,q3⟩:=hg i hi
   obtain⟨a,cap,g1,g2,g3,g4⟩:=hw.bn i l e s h'
   refine⟨a,cap,q2▸g1,g2,g3,fun aN=>?_⟩
   obtain⟨b1,dx,k1,k0,k2,k3,k4,k5⟩:=g4 aN
   obtain⟨u1,u2⟩:=hu i _ b1 hi h' (by simp[G.aD,g1,aN,k1])
   exact⟨b1,dx,k1,q1▸k0,u1.trans k2,k3,fun o hp=>k4 o (u2 o hp),fun k x v hx hv=>(k5 k x v hx hv).mono he.pr⟩
 ·intro i x h
  by_cases hi:K i
  ·exact au
  ·have h':=(hH i hi)▸h
   obtain⟨q1,q2,q3⟩:=hg i hi
   obtain⟨b1,k1,k2,k3,k4⟩:=hw.ob i x h'
   obtain⟨u1,u2⟩:=hu i _ b1 hi h' (.inl k1)
   refine⟨b1,q1▸k1,x.st he.w q2 q3 u1 (fun b' dD=>(hu i _ b' hi h' (.inr dD)).1) k2,fun o hp=>k3 o (u2 o hp),fun b' o dD hp=>?_⟩
   rw[q3] at dD
   exact k4 b' o dD ((hu i _ b' hi h' (.inr dD)).2 o hp)
 ·intro i h
  have hi:¬K i:=fun hi=>by
   exact au
  obtain⟨q1,q2,q3⟩:=hg i hi
  rw[q1,q2,q3]
  exact hw.free i (h.imp (fun h=>(hH i hi)▸h) (fun h=>by omega))
def A0(g:G)(w:World)(id b:Nat)(e:TypeId):Bool→List D→Value→Prop
 |false,l,v=>aV g.Pr w (.sl l) v
 |true,l,v=>∃ a cap,v=.slice a l.length cap∧l.length≤cap∧(l≠[]→∃ br arr,a=some ⟨br,0,none⟩∧g.υ id br∧br≠b∧w.heap[br]?=some (.cells arr e (0,0))∧l.length≤arr.size∧
   ∀ (k:Nat) x u,l[k]?=some x→arr[k]?=some u→aV g.Pr w x u)
def PD:Value→Option Nat
 |.slice (some a) _ _=>some a.block
 |_=>none
structure Fl(g:G)(w:World)(id b:Nat)(e eo:TypeId)(N:Nat)(M:List (Bool×List D))(Vs:List Value):Prop where
 len:Vs.length=M.length
 n:M.length=N
 own:∃ cap arr,g.τ id=some (0,some ⟨b,0,none⟩,cap)∧N≤cap∧0<cap∧w.heap[b]?=some (.cells arr eo (0,0))∧N≤arr.size∧∀ (k:Nat) v,Vs[k]?=some v→arr[k]?=some v
 row:∀ (k:Nat) m v,M[k]?=some m→Vs[k]?=some v→A0 g w id b e m.1 m.2 v
 Mi:∀ (k k':Nat) l l' v v' B,k≠k'→M[k]?=some (true,l)→M[k']?=some (true,l')→l≠[]→l'≠[]→Vs[k]?=some v→Vs[k']?=some v'→PD v=some B→PD v'=some B→False
theorem A0.mono{g g':G}{w w':World}{id id' b:Nat}{e:TypeId}{f:Bool}{l:List D}{v:Value}(hP:∀ b o,g.Pr b o→g'.Pr b o∧w'.cell? ⟨b,o,none⟩=w.cell? ⟨b,o,none⟩)
  (hu:∀ b',g.υ id b'→g'.υ id' b')(ho:∀ b',g.υ id b'→b'≠b→w'.heap[b']?=w.heap[b']?)(h:A0 g w id b e f l v):A0 g' w' id' b e f l v:=by
 cases f with
 |false=>exact aV.mono hP h
 |true=>
  obtain⟨a,cap,h1,h2,h3⟩:=h
  refine⟨a,cap,h1,h2,fun hl=>?_⟩
  obtain⟨br,arr,k1,k2,k3,k4,k5,k6⟩:=h3 hl
  exact⟨br,arr,k1,hu _ k2,k3,(ho _ k2 k3).trans k4,k5,fun k x u hx lO=>(k6 k x u hx lO).mono hP⟩
theorem Fl.st{g g':G}{w w':World}{id b:Nat}{e eo:TypeId}{N:Nat}{M:List (Bool×List D)}{Vs:List Value}(he:Dx g w g' w')(ht:g'.τ id=g.τ id)(hu:g'.υ id=g.υ id)(hb:w'.heap[b]?=w.heap[b]?)
  (ho:∀ b',g.υ id b'→w'.heap[b']?=w.heap[b']?)(h:Fl g w id b e eo N M Vs):Fl g' w' id b e eo N M Vs where
 len:=h.len
 n:=h.n
 own:=by
  obtain⟨cap,arr,h1,h2,h3,h4,h5,h6⟩:=h.own
  exact au
 row:=fun k m v hm hv=>(h.row k m v hm hv).mono he.pr (fun b' dD=>by rw[hu];exact dD) (fun b' dD _=>ho b' dD)
 Mi:=h.Mi
def zT(e eo:TypeId)(N:Nat)(M:List (Bool×List D))(Vs:List Value):OB where
 φ:=fun g w id b=>Fl g w id b e eo N M Vs
 st:=fun he ht hu hb ho h=>h.st he ht hu hb ho
 fr:=false
 JV:=fun h=>by cases h
def tE(e eo:TypeId)(N:Nat)(M:List (Bool×List D)):OB where
 φ:=fun g w id b=>∃ Vs,Fl g w id b e eo N M Vs
 st:=fun he ht hu hb ho ⟨Vs,h⟩=>⟨Vs,h.st he ht hu hb ho⟩
 fr:=true
 JV:=fun _ {g g' w i j b} hP ht hu ⟨Vs,h⟩=>⟨Vs,⟨h.len,h.n,by rw[ht];exact h.own,fun k m v hm hv=>A0.mono (g:=g) (g':=g') (id:=i) (id':=j) (fun b o hp=>⟨by rw[hP];exact hp,rfl⟩) (fun b' dD=>by rw[hu];exact dD) (fun _ _ _=>rfl) (h.row k m v hm hv),h.Mi⟩⟩
theorem SL{S:List Nat}{e eo:TypeId}{N:Nat}{M:List (Bool×List D)}:LW S (tE e eo N M) (tE e eo N M):=fun{g w i j b} hS h0=>by
 obtain⟨Vs,h⟩:=h0
 show ∃ Vs,Fl (g.pM S) w i b e eo N M Vs
 refine⟨Vs,⟨h.len,h.n,?_,fun k m v hm hv=>?_,h.Mi⟩⟩
 rotate_left
 ·exact A0.mono (g:=g) (g':=g.pM S) (w:=w) (id:=j) (fun b o hp=>⟨hp,rfl⟩) (fun b' dD=>⟨j,hS,dD⟩) (fun _ _ _=>rfl) (h.row k m v hm hv)
 obtain⟨cap,arr,h1,h2⟩:=h.own
 exact⟨cap,arr,by simp[G.pM,hS];exact h1,h2⟩
section
variable {F:FC}{K:St→Prop}{ops:Array Oper}{os:List Oper}{E:Nat→V}{H:List HE}{e eo:TypeId}{N:Nat}{M:List (Bool×List D)}
theorem AL.xO(id:Nat)(hH:H[id]?=some (.ob (tE e eo N M)))(h:∀ Vs,AL F ops K os ⟨E,H.set id (.ob (zT e eo N M Vs))⟩):AL F ops K os ⟨E,H⟩:=by
 rintro a w ⟨h1,h2,g,hw,h4,h5⟩
 obtain⟨b,k1,⟨Vs,k2⟩,_⟩:=hw.ob id _ hH
 exact h Vs a w ⟨h1,h2,g,(hw.AN (x1:=zT e eo N M Vs) hH k1 ⟨rfl,rfl,rfl⟩ rfl (fun _ _=>rfl) (fun _=>k2)).1,h4,h5⟩
theorem AL.DX{Vs:List Value}(id:Nat)(hH:H[id]?=some (.ob (zT e eo N M Vs)))(h:AL F ops K os ⟨E,H.set id (.ob (tE e eo N M))⟩):AL F ops K os ⟨E,H⟩:=by
 rintro a w ⟨h1,h2,g,hw,h4,h5⟩
 obtain⟨b,k1,k2,_⟩:=hw.ob id _ hH
 exact h a w ⟨h1,h2,g,(hw.AN (x1:=tE e eo N M) hH k1 ⟨rfl,rfl,rfl⟩ rfl (fun _ _=>rfl) (fun _=>⟨Vs,k2⟩)).1,h4,h5⟩
end
def lT{α:Type}(f:α→D)(M:List (Bool×List α)):List (Bool×List D):=M.map fun r=>(r.1,r.2.map f)
def DY{α:Type}(l:List (List α)):Option (List (Bool×List α)):=if l=[] then none else some (l.map fun r=>(false,r))
def IV{α:Type}(M:List (Bool×List α))(k:Int)(l:List α):Option (List (Bool×List α)):=if 0≤k∧k.toNat<M.length then some (M.set k.toNat (true,l)) else none
def lU{α:Type}(M:List (Bool×List α))(i k:Int):Option α:=(ix M i).bind fun r=>ix r.2 k
def uG{α:Type}(M:List (Bool×List α))(i k:Int)(v:α):Option (List (Bool×List α)):=(ix M i).bind fun r=>if r.1=true then (ku r.2 k v).map fun l=>M.set i.toNat (true,l) else none
def CO:Value→Nat→Value
 |.slice (some a) _ _,k=>.pointer (some (a.add k))
 |_,_=>undef
theorem zU{α:Type}{f:α→D}{M:List (Bool×List α)}{k:Nat}{r:Bool×List α}(h:M[k]?=some r):(lT f M)[k]?=some (r.1,r.2.map f):=by simp[lT,h]
section
variable {P:Program}{ρ:Operand→V}{H:List HE}{ty:TypeId}{α:Type}{f:α→D}{e eo:TypeId}{N:Nat}{M:List (Bool×List α)}{Vs:List Value}
theorem zr{x y:Operand}{t et bytes id:Nat}{k:IntKind}{a:Int}{m:Bool×List α}(hx:Is (ρ x) (.hs id 0 N 1))(hH:H[id]?=some (.ob (zT e eo N (lT f M) Vs)))
  (hy:As (ρ y) (.int k a))(hv:ix M a=some m)(ht:pt P t et 1 bytes):bj P (.indexAddr t x y) ty ρ H (.ptr id a.toNat) H:=
 bj.aW fun g w r hw h=>by
  have h1:=hx.rep (h x (by simp[Op.operands]))
  have h2:=hy.int (h y (by simp[Op.operands]))
  obtain⟨i,hi,rf⟩:=mM hv
  subst hi
  have G_:i<M.length:=(aaS.1 rf).1
  obtain⟨b,q0,k2,_⟩:=hw.ob id _ hH
  have hN:M.length=N:=by have:=k2.n;simpa[lT] using this
  obtain⟨cap,arr,k1,k3,_⟩:=k2.own
  obtain⟨ie,z,im,dE,_⟩:=ht.i
  generalize hr:r x=u at h1
  cases h1 with
  |@hs _ _ _ _ m eZ n0 c0 a' a0 p1 p2=>
   rw[k1] at p1;injection p1 with p1;injection p1 with p1 p3
   injection p3 with p3 p4
   obtain⟨r1,r2,r3,r4⟩:=pV (p2 p1.symm)
   have aN:i<n0:=by omega
   subst r1;subst r3;subst p3
   refine⟨.pointer (some ⟨b,i,none⟩),fun _ _ _ _=>?_,.ptr q0⟩
   simp[execOp,Instr.indexAt,asIntOf,hr,h2,aaX ht.u,aN,aq im,dE,Addr.aT]
theorem Ch{x:Operand}{t id:Nat}{a:Int}{m:Bool×List α}(hx:Is (ρ x) (.ptr id a.toNat))(hH:H[id]?=some (.ob (zT e eo N (lT f M) Vs)))(hv:ix M a=some m)(ht:Sc P t):
  bj P (.load t x) ty ρ H (.d (.raw (Vs.getD a.toNat undef))) H:=
 bj.aW fun g w r hw h=>by
  have hp:=hx.rep (h x (by simp[Op.operands]))
  obtain⟨i,hi,rf⟩:=mM hv
  subst hi
  have G_:i<M.length:=(aaS.1 rf).1
  obtain⟨b,q0,k2,_⟩:=hw.ob id _ hH
  have hN:M.length=N:=by have:=k2.n;simpa[lT] using this
  have hV:Vs.length=M.length:=by have:=k2.len;simpa[lT] using this
  obtain⟨cap,arr,k1,k3,_,k4,k5,k6⟩:=k2.own
  generalize hr:r x=u at hp
  cases hp with
  |@ptr _ _ b' hb=>
   obtain rfl:b'=b:=by rw[hb] at q0;exact aa5 q0
   simp only[aa8] at hr ⊢
   have aN:i<Vs.length:=by omega
   have kD:w.cell? ⟨b',i,none⟩=some Vs[i]:=by rw[aL k4];exact k6 i _ (by simp[aN])
   refine⟨Vs[i],fun _ _ _ _=>by simp[execOp,Instr.loadAt,Instr.sureAddr,hr,fE ht kD],.d ?_⟩
   have:Vs.getD i undef=Vs[i]:=by simp[aN]
   rw[this];exact .raw _
theorem IW{g:G}{w:World}{id b k:Nat}{m:Bool×List α}(h:Fl g w id b e eo N (lT f M) Vs)(h1:∀ x,(f x).cells=[f x])(hm:M[k]?=some m):
  ∃ a cap,Vs.getD k undef=.slice a m.2.length cap∧m.2.length≤cap∧(m.2≠[]→∃ br o,a=some ⟨br,o,none⟩∧∀ j x,m.2[j]?=some x→∃ u,w.cell? ⟨br,o+j,none⟩=some u∧aV g.Pr w (f x) u):=by
 have xA:k<M.length:=(aaS.1 hm).1
 have hV:Vs.length=M.length:=by have:=h.len;simpa[lT] using this
 have aN:k<Vs.length:=by omega
 have hr:=h.row k _ Vs[k] (zU hm) (by simp[aN])
 have he:Vs.getD k undef=Vs[k]:=by simp[aN]
 rw[he]
 generalize Vs[k]=v at hr
 obtain⟨fl,l⟩:=m
 cases fl with
 |true=>
  obtain⟨a,cap,q1,q2,q3⟩:=hr
  simp only[aa4] at q1 q2
  refine⟨a,cap,q1,q2,fun aR=>?_⟩
  obtain⟨br,arr,p1,p2,p3,p4,p5,p6⟩:=q3 (by simpa using aR)
  refine⟨br,0,p1,fun j x hx=>?_⟩
  have hj:j<l.length:=(aaS.1 hx).1
  simp only[aa4] at p5
  have SM:j<arr.size:=by omega
  exact⟨arr[j],by rw[aL p4];simp[SM],p6 j _ _ (by simp[show l[j]?=some x from hx]) (by simp[SM])⟩
 |false=>
  simp only[A0] at hr
  generalize hL:l.map f=L at hr
  cases hr with
  |sl _ a cap s g' hs hc k_ gM=>
   subst hL
   simp only[aa4] at hc ⊢
   refine⟨a,cap,rfl,hc,fun aR=>?_⟩
   have PB:s=1:=by
    obtain⟨x,hx⟩:=ad4 _ aR
    have:=hs (f x) (abS.2 ⟨x,hx,rfl⟩)
    exact au
   subst PB
   obtain⟨br,o,p1,p2⟩:=k_ (by simpa using aR)
   refine⟨br,o,p1,fun j x hx=>?_⟩
   have hj:j<l.length:=(aaS.1 hx).1
   exact⟨g' j,(p2 j (by simpa using hj)).2,gM j _ (by rw[jU h1];simp[show l[j]?=some x from hx])⟩
theorem dT{x y:Operand}{t et bytes id:Nat}{a c:Int}{k:IntKind}{v:α}(hx:As (ρ x) (.raw (Vs.getD a.toNat undef)))(h1:∀ x,(f x).cells=[f x])(hH:H[id]?=some (.ob (zT e eo N (lT f M) Vs)))
  (hy:As (ρ y) (.int k c))(hv:lU M a c=some v)(ht:pt P t et 1 bytes):bj P (.indexAddr t x y) ty ρ H (.d (.raw (CO (Vs.getD a.toNat undef) c.toNat))) H:=
 bj.aW fun g w r hw h=>by
  have kB:=hx.rep (h x (by simp[Op.operands]))
  have h2:=hy.int (h y (by simp[Op.operands]))
  obtain⟨b,_,k2,_⟩:=hw.ob id _ hH
  unfold lU at hv
  obtain⟨m,hm,ui⟩:=abM.1 hv
  clear hv
  obtain⟨i,hi,SN⟩:=mM hm
  subst hi
  obtain⟨j,hj,rf⟩:=mM ui
  subst hj
  obtain⟨ad,cap,q1,q2,q3⟩:=IW k2 h1 SN
  have Ci:j<m.2.length:=(aaS.1 rf).1
  obtain⟨br,o,rfl,_⟩:=q3 (by intro h0;rw[h0] at Ci;simp at Ci)
  obtain⟨ie,z,im,dE,_⟩:=ht.i
  simp only[aa8] at kB ⊢
  rw[q1] at kB ⊢
  generalize hr:r x=u at kB
  cases kB with
  |raw=>
   refine⟨.pointer (some ⟨br,o+j,none⟩),fun _ _ _ _=>?_,.d ?_⟩
   ·simp[execOp,Instr.indexAt,asIntOf,hr,h2,aaX ht.u,Ci,aq im,dE,Addr.aT]
   ·simp only[CO,Addr.aT];exact .raw _
theorem p0{x:Operand}{t id:Nat}{a c:Int}{v:α}(hx:As (ρ x) (.raw (CO (Vs.getD a.toNat undef) c.toNat)))(h1:∀ x,(f x).cells=[f x])(hH:H[id]?=some (.ob (zT e eo N (lT f M) Vs)))
  (hv:lU M a c=some v)(ht:Sc P t):bj P (.load t x) ty ρ H (.d (f v)) H:=
 bj.aW fun g w r hw h=>by
  have kB:=hx.rep (h x (by simp[Op.operands]))
  obtain⟨b,_,k2,_⟩:=hw.ob id _ hH
  unfold lU at hv
  obtain⟨m,hm,ui⟩:=abM.1 hv
  clear hv
  obtain⟨i,hi,SN⟩:=mM hm
  subst hi
  obtain⟨j,hj,rf⟩:=mM ui
  subst hj
  obtain⟨ad,cap,q1,q2,q3⟩:=IW k2 h1 SN
  have Ci:j<m.2.length:=(aaS.1 rf).1
  obtain⟨br,o,rfl,q4⟩:=q3 (by intro h0;rw[h0] at Ci;simp at Ci)
  obtain⟨u,q5,q6⟩:=q4 j v rf
  simp only[aa8] at kB
  rw[q1] at kB
  simp only[CO,Addr.aT] at kB
  generalize hr:r x=y at kB
  cases kB with
  |raw=>exact⟨u,fun _ _ _ _=>by simp[execOp,Instr.loadAt,Instr.sureAddr,hr,fE ht q5],.d q6⟩
theorem jV{H:List HE}{id:Nat}{x:HE}(h:id<H.length){i:Nat}{e:HE}(he:(H.set id x)[i]?=some e):(i=id∧e=x)∨(i≠id∧H[i]?=some e):=au
theorem aQ.DY{g:G}{w:World}{id:Nat}{l:List (List α)}{M:List (Bool×List α)}(hw:aQ g w H)(hH:H[id]?=some (.bn (l.map (LY f)) eo 1))(hv:DY l=some M):
  ∃ g',aQ g' w (H.set id (.ob (tE e eo l.length (lT f M))))∧cG g w g' w∧∀ i,g'.τ i=g.τ i:=by
 unfold Ab.DY at hv
 split at hv
 ·cases hv
 rename_i aR
 injection hv with hv
 subst hv
 have eC:id<H.length:=(aaS.1 hH).1
 obtain⟨a,cap,f1,f2,f3,f4⟩:=hw.bn id _ _ _ hH
 simp only[aa4] at f2
 have qx:=abA.2 aR
 have ji:0<cap:=by omega
 obtain⟨b,arr,rfl,q0,q2,q3,q4,q5⟩:=f4 ji
 rw[jU (fun _=>rfl)] at q5
 let g':G:={g with υ:=fun i b'=>i≠id∧g.υ i b' }
 have bK:cG g w g' w:={
  same:=⟨rfl,rfl,rfl⟩
  size:=aaZ _
  pr:=fun b o hp=>⟨hp,rfl⟩
  pK:=fun b o h=>.inl h
  x:=fun b h=>.inl h
  aY:=fun b _ _=>rfl
  σ:=fun _ _ h=>h
  τ:=fun _ m a cap h=>⟨m,a,cap,h,.inr ⟨rfl,rfl,rfl⟩⟩}
 have E5:g.aD id (.bn (l.map (LY f)) eo 1) b:=by simp[G.aD,f1,ji]
 refine⟨g',aQ.XA (fun i=>i=id) hw bK (by simp) (fun i h=>h▸eC) (fun i h=>abR (acN h)) (fun i h=>⟨rfl,rfl,by funext b';simp[g',h]⟩) (fun _ h=>h) hw.xs hw.pr (fun _ _ _ _ _ _=>⟨rfl,fun _ h=>h⟩) ?_ (fun i i' _ _ _ h h' _ _ _ _=>h.trans h'.symm) ?_,bK,fun _=>rfl⟩
 ·rintro i e' b' rfl h1 h2
  rcases jV eC h1 with ⟨_,rfl⟩|⟨h,_⟩
  ·rcases h2 with h2|h2
   ·have:b'=b:=by
     have Dy:g.σ i=some b':=h2
     rw[q0] at Dy;exact(aa5 Dy).symm
    subst this
    exact⟨hw.aD i _ _ hH E5,i,_,rfl,hH,E5⟩
   ·exact absurd rfl h2.1
  ·exact absurd rfl h
 ·rintro i e' rfl h1
  rcases jV eC h1 with ⟨_,rfl⟩|⟨h,_⟩
  ·refine .inr ⟨_,rfl,b,q0,⟨arr.toList.take l.length,?_⟩,q4,fun b' o hu=>absurd rfl hu.1⟩
   have dE:l.length≤arr.size:=by omega
   refine⟨by simp[lT];omega,by simp[lT],⟨cap,arr,f1,f2,ji,q2,dE,fun k v hv=>?_⟩,fun k m v hm hv=>?_,fun k k' l1 _ _ _ _ _ hm=>?_⟩
   ·rw[abj] at hv
    split at hv
    ·rwa[aa0] at hv
    ·cases hv
   ·simp only[lT,aba,aa6] at hm
    obtain⟨r,⟨r',hr,rfl⟩,rfl⟩:=hm
    rw[abj] at hv
    split at hv
    ·rw[aa0] at hv
     exact q5 k _ v (by simp[hr]) hv
    ·cases hv
   ·simp only[lT,aba,aa6] at hm
    obtain⟨r,⟨r',hr,rfl⟩,hm⟩:=hm
    cases hm
  ·exact absurd rfl h
theorem AL.DY{F:FC}{K:St→Prop}{ops:Array Oper}{os:List Oper}{E:Nat→V}{l:List (List α)}(id:Nat)(hH:H[id]?=some (.bn (l.map (LY f)) eo 1))(hv:Ab.DY l=some M)
  (h:AL F ops K os ⟨E,H.set id (.ob (tE e eo l.length (lT f M)))⟩):AL F ops K os ⟨E,H⟩:=by
 rintro a w ⟨h1,h2,g,hw,h4,h5⟩
 obtain⟨g',k1,k2,_⟩:=hw.DY (e:=e) hH hv
 exact h a w ⟨h1,h2,g',k1,h4.trans k2,fun i=>(h5 i).mono k2⟩
theorem Fm{v:Value}(h:v.oneCell'=true):v.cells=#[v]:=by
 cases v<;>simp_all [Value.cells,Value.oneCell']
theorem IX{arr:Array Value}{v:Value}{i k:Nat}{u:Value}(hi:i<arr.size)(h:(arr.toList.take (i+0)++(#[v]:Array Value).toList++arr.toList.drop (i+0+(#[v]:Array Value).toList.length)).toArray[k]?=some u):
  (k=i∧u=v)∨(k≠i∧arr[k]?=some u):=by
 simp only[acy,aca] at h
 have l2:(List.take i arr.toList).length=i:=by simp;omega
 rw[abk] at h
 by_cases hk:k<i
 ·rw[aa1 (by omega),abj,aa2 hk,aa0] at h
  exact .inr ⟨by omega,h⟩
 ·rw[aaY (by omega),l2] at h
  by_cases oJ:k=i
  ·subst oJ
   simp at h
   exact .inl ⟨rfl,h.symm⟩
  ·rw[aaY (by simp;omega),abn,aa0] at h
   refine .inr ⟨oJ,?_⟩
   rw[←h];congr 1;simp;omega
theorem Fo{arr:Array Value}{v:Value}{i:Nat}(hi:i<arr.size){k:Nat}:
  (arr.toList.take (i+0)++(#[v]:Array Value).toList++arr.toList.drop (i+0+(#[v]:Array Value).toList.length)).toArray[k]?=if k=i then some v else arr[k]?:=by
 simp only[acy,aca]
 have l2:(List.take i arr.toList).length=i:=au
 rw[abk]
 by_cases hk:k<i
 ·exact au
 ·exact au
theorem Vp{arr:Array Value}{v:Value}{i:Nat}(hi:i<arr.size):(arr.toList.take (i+0)++(#[v]:Array Value).toList++arr.toList.drop (i+0+(#[v]:Array Value).toList.length)).toArray.size=arr.size:=au
theorem oZ{x y:Operand}{t id:Nat}{a c:Int}{v:α}{M':List (Bool×List α)}(hx:As (ρ x) (.raw (CO (Vs.getD a.toNat undef) c.toNat)))(h1:∀ x,(f x).cells=[f x])(hf:En f 1)(hy:As (ρ y) (f v))
  (hH:H[id]?=some (.ob (zT e eo N (lT f M) Vs)))(hv:uG M a c v=some M')(dE:∃ i,P.info? t=some i∧i.size=1):bj P (.store t x y) ty ρ H .any (H.set id (.ob (zT e eo N (lT f M') Vs))):=by
 intro g w r pos after guard dst hw h
 have CD:=hx.rep (h x (by simp[Op.operands]))
 have hu:=hy.rep (h y (by simp[Op.operands]))
 have eL:=hu.one (hf.one v (f v) (by rw[h1];simp))
 have kh:=Fm eL
 have eC:id<H.length:=(aaS.1 hH).1
 obtain⟨b,k1,k2,k3,k4⟩:=hw.ob id _ hH
 unfold uG at hv
 obtain⟨m,hm,ui⟩:=abM.1 hv
 clear hv
 split at ui
 rotate_left
 ·cases ui
 rename_i Aw
 obtain⟨l',vQ,rfl⟩:=aa6.1 ui
 clear ui
 obtain⟨i,hi,SN⟩:=mM hm
 subst hi
 unfold ku at vQ
 split at vQ
 rotate_left
 ·cases vQ
 rename_i hc
 injection vQ with vQ;subst vQ
 obtain⟨Rm,bB⟩:=hc
 obtain⟨j,rfl⟩:∃ j:Nat,c=(j:Int):=⟨c.toNat,by omega⟩
 simp only[aa8] at *
 obtain⟨fl,l⟩:=m
 simp only at Aw bB
 subst Aw
 have G_:i<M.length:=(aaS.1 SN).1
 have hV:Vs.length=M.length:=by have:=k2.len;simpa[lT] using this
 have Yp:Vs[i]?=some (Vs.getD i undef):=au
 obtain⟨ad,cap,q1,q2,q3⟩:=k2.row i _ _ (zU SN) Yp
 simp only at q1 q2 q3
 have SO:l.map f≠[]:=au
 obtain⟨br,arr,p1,p2,p3,p4,p5,p6⟩:=q3 SO
 subst p1
 simp only[aa4] at p5
 rw[q1] at CD
 simp only[CO,Addr.aT,abY] at CD
 have SM:j<arr.size:=by omega
 generalize hr:r x=u' at CD
 cases CD
 have dz:=acG P br j e (r y).cells.toList 0 arr w p4 (by rw[kh];simp;omega) (fun u lO=>by rw[kh] at lO;simp at lO;subst lO;exact eL)
 obtain⟨inf,SP,Lv⟩:=dE
 have pX:(r y).cells.size=inf.size:=au
 unfold aO
 simp only[execOp,Instr.storeAt,Instr.sureAddr,hr,abl,abu,aa3,storeVar,aq SP,pX,ne_eq,adf,abb,dz]
 rw[kh]
 generalize hA:(arr.toList.take (j+0)++(#[r y]:Array Value).toList++arr.toList.drop (j+0+(#[r y]:Array Value).toList.length)).toArray=arr'
 have ho:∀ b',b'≠br→(w.setRow br arr').heap[b']?=w.heap[b']?:=fun b' aR=>acQ w br b' arr' aR
 have hn:(w.setRow br arr').heap[br]?=some (.cells arr' e (0,0)):=acR w br arr arr' e _ p4
 have Ss:g.X br:=hw.aD id _ br hH (.inr p2)
 have bK:cG g w g (w.setRow br arr'):={
  same:=⟨rfl,rfl,rfl⟩
  size:=au
  pr:=fun b' o hp=>⟨hp,by
   have aR:b'≠br:=fun e'=>k4 br o p2 (e'▸hp)
   simp[World.cell?,ho b' aR]⟩
  pK:=fun b o h=>.inl h
  x:=fun b h=>.inl h
  aY:=fun b' _ kB=>ho b' (fun e'=>kB (e'▸Ss))
  σ:=fun _ _ h=>h
  τ:=fun _ m a cap h=>⟨m,a,cap,h,.inr ⟨rfl,rfl,rfl⟩⟩}
 have Yq:lT f (M.set i (true,l.set j v))=(lT f M).set i (true,(l.map f).set j (f v)):=by simp[lT,List.map_set]
 refine⟨g,?_,bK,.any⟩
 refine aQ.XA (fun i=>i=id) hw bK (by simp) (fun i h=>h▸eC) (fun i h=>abR (acN h)) (fun i h=>⟨rfl,rfl,rfl⟩) (fun _ h=>h) (fun b h=>by rw[acJ];exact hw.xs b h) (fun b o h=>by rw[acJ];exact hw.pr b o h)
  (fun i' e' b' uC h' dD=>⟨ho b' (fun e2=>uC (hw.sep i' id _ _ br h' hH (e2▸dD) (.inr p2))),fun _ h=>h⟩) ?_ (fun i i' _ _ _ h h' _ _ _ _=>h.trans h'.symm) ?_
 ·rintro i' e' b' rfl g1 g2
  rcases jV eC g1 with ⟨_,rfl⟩|⟨h,_⟩
  ·have:g.aD i' (.ob (zT e eo N (lT f M) Vs)) b':=g2
   exact⟨hw.aD i' _ _ hH this,i',_,rfl,hH,this⟩
  ·exact absurd rfl h
 ·rintro i' e' rfl g1
  rcases jV eC g1 with ⟨_,rfl⟩|⟨h,_⟩
  rotate_left
  ·exact absurd rfl h
  refine .inr ⟨_,rfl,b,k1,?_,k3,k4⟩
  show Fl g (w.setRow br arr') i' b e eo N (lT f (M.set i (true,l.set j v))) Vs
  rw[Yq]
  have Hy:(lT f M)[i]?=some (true,l.map f):=zU SN
  have ax:∀ {k m},((lT f M).set i (true,(l.map f).set j (f v)))[k]?=some m→(k=i∧m=(true,(l.map f).set j (f v)))∨(k≠i∧(lT f M)[k]?=some m):=fun{k m} hk=>by
   exact au
  have aR:∀ {l2:List α},l2.map f≠[]→l2≠[]:=fun h h0=>h (by rw[h0];rfl)
  refine⟨by simpa using k2.len,by simpa using k2.n,?_,fun k m u hk Mj=>?_,fun k k' l1 l2 v1 v2 B ER Kb Dy n1 n2 w1 w2 b1 b2=>?_⟩
  ·obtain⟨Cj,ki,z1,z2,z3,z4,z5,z6⟩:=k2.own
   exact au
  ·rcases ax hk with ⟨rfl,rfl⟩|⟨Lz,hk⟩
   ·rw[Yp] at Mj;injection Mj with Mj;subst Mj
    refine⟨some ⟨br,0,none⟩,cap,by simpa using q1,by simpa using q2,fun _=>⟨br,arr',rfl,p2,p3,hn,?_,fun Ki x u kB lO=>?_⟩⟩
    ·exact au
    ·rw[←hA,Fo SM] at lO
     rw[adi] at kB
     split at kB
     ·rename_i e2
      subst e2
      rw[aa2 rfl] at lO
      injection lO with lO;subst lO
      split at kB
      ·injection kB with kB;subst kB;exact hu.mono bK.pr
      ·cases kB
     ·rename_i e2
      rw[aa7 (acN e2)] at lO
      exact(p6 Ki x u kB lO).mono bK.pr
   ·have k_:=k2.row k m u hk Mj
    obtain⟨fl,l2⟩:=m
    cases fl with
    |false=>exact aV.mono bK.pr k_
    |true=>
     obtain⟨a2,Cj,z1,z2,z3⟩:=k_
     refine⟨a2,Cj,z1,z2,fun OR=>?_⟩
     obtain⟨Yr,ki,y1,y2,y3,y4,y5,y6⟩:=z3 OR
     have G7:Yr≠br:=fun e2=>k2.Mi k i l2 _ u _ br Lz hk Hy OR SO Mj Yp (by rw[z1,y1,e2];rfl) (by rw[q1];rfl)
     exact⟨Yr,ki,y1,y2,y3,(ho Yr G7).trans y4,y5,fun k3 x u2 IY Ys=>(y6 k3 x u2 IY Ys).mono bK.pr⟩
  ·have fix:∀ {k l1},((lT f M).set i (true,(l.map f).set j (f v)))[k]?=some (true,l1)→l1≠[]→∃ l0,(lT f M)[k]?=some (true,l0)∧l0≠[]:=fun{k l1} hk Hz=>by
    rcases ax hk with ⟨rfl,hm2⟩|⟨Lz,hk⟩
    ·exact⟨_,Hy,SO⟩
    ·exact au
   obtain⟨l3,t1,t2⟩:=fix Kb n1
   obtain⟨l4,t3,t4⟩:=fix Dy n2
   exact k2.Mi k k' l3 l4 v1 v2 B ER t1 t3 t2 t4 w1 w2 b1 b2
theorem DZ{x y:Operand}{t id j len:Nat}{a:Int}{l:List α}{M':List (Bool×List α)}(hx:Is (ρ x) (.ptr id a.toNat))(h1:∀ x,(f x).cells=[f x])(hy:Is (ρ y) (.hs j 0 len 1))(hl:l.length=len)
  (hH:H[id]?=some (.ob (tE e eo N (lT f M))))(hJ:H[j]?=some (.bn (l.map f) e 1))(hv:IV M a l=some M')(dE:∃ i,P.info? t=some i∧i.size=1):
  bj P (.store t x y) ty ρ H .any ((H.set j .dead).set id (.ob (tE e eo N (lT f M')))):=by
 intro g w r pos after guard dst hw h
 have hp:=hx.rep (h x (by simp[Op.operands]))
 have OP:=hy.rep (h y (by simp[Op.operands]))
 have eC:id<H.length:=(aaS.1 hH).1
 have aah:j<H.length:=(aaS.1 hJ).1
 have AJ:id≠j:=fun e2=>by subst e2;rw[hH] at hJ;cases hJ
 obtain⟨b,k1,⟨Vs,k2⟩,k3,k4⟩:=hw.ob id _ hH
 unfold IV at hv
 split at hv
 rotate_left
 ·cases hv
 rename_i hc
 injection hv with hv;subst hv
 obtain⟨Rm,G_⟩:=hc
 obtain⟨i,rfl⟩:∃ i:Nat,a=(i:Int):=⟨a.toNat,by omega⟩
 simp only[aa8] at *
 have hN:M.length=N:=by have:=k2.n;simpa[lT] using this
 have hV:Vs.length=M.length:=by have:=k2.len;simpa[lT] using this
 obtain⟨cap,arr,o1,o2,o3,o4,o5,o6⟩:=k2.own
 obtain⟨aj,Yt,f1,f2,f3,f4⟩:=hw.bn j _ _ _ hJ
 simp only[aa4] at f2
 obtain⟨v,hv,Yc⟩:∃ v,v=r y∧∃ a0 n0,v=.slice a0 l.length n0∧l.length≤n0∧a0=aj:=by
  generalize Lu:r y=v at OP
  cases OP with
  |@hs _ _ _ _ m eZ n0 c0 a' a0 p1 p2=>
   rw[f1] at p1;injection p1 with p1;injection p1 with p1 p3;injection p3 with p3 p4
   obtain⟨r1,r2,r3,r4⟩:=pV (p2 p1.symm)
   subst p3;subst p4
   exact⟨_,rfl,a0,c0,by rw[r2,hl],by rw[r3,hl];exact r4,r1⟩
 obtain⟨a0,n0,SQ,ui,rfl⟩:=Yc
 have eL:(r y).oneCell'=true:=by rw[←hv,SQ];rfl
 have kh:=Fm eL
 have k_:l≠[]→∃ br ki,a0=some ⟨br,0,none⟩∧g.aD j (.bn (l.map f) e 1) br∧w.heap[br]?=some (.cells ki e (0,0))∧l.length≤ki.size∧(∀ o,¬g.Pr br o)∧∀ (k:Nat) x u,(l.map f)[k]?=some x→ki[k]?=some u→aV g.Pr w x u:=fun aR=>by
  have qx:=abA.2 aR
  have hcj:0<Yt:=by omega
  obtain⟨br,ki,rfl,q0,q2,q3,q4,q5⟩:=f4 hcj
  refine⟨br,ki,rfl,by simp[G.aD,f1,hcj],q2,by omega,q4,fun k x u kB lO=>q5 k x u (by rw[jU h1];exact kB) lO⟩
 generalize hr:r x=u' at hp
 cases hp with
 |@ptr _ _ b' hb=>
 obtain rfl:b'=b:=by rw[hb] at k1;exact aa5 k1
 have Sr:i<arr.size:=by omega
 have dz:=acG P b' i eo (r y).cells.toList 0 arr w o4 (by rw[kh];simp;omega) (fun u lO=>by rw[kh] at lO;simp at lO;subst lO;exact eL)
 obtain⟨inf,SP,Lv⟩:=dE
 have pX:(r y).cells.size=inf.size:=au
 unfold aO
 simp only[execOp,Instr.storeAt,Instr.sureAddr,hr,abl,abu,aa3,storeVar,aq SP,pX,ne_eq,adf,abb,dz]
 rw[kh]
 generalize hA:(arr.toList.take (i+0)++(#[r y]:Array Value).toList++arr.toList.drop (i+0+(#[r y]:Array Value).toList.length)).toArray=arr'
 have ho:∀ b2,b2≠b'→(w.setRow b' arr').heap[b2]?=w.heap[b2]?:=fun b2 aR=>acQ w b' b2 arr' aR
 have hn:(w.setRow b' arr').heap[b']?=some (.cells arr' eo (0,0)):=acR w b' arr arr' eo _ o4
 have Ss:g.X b':=hw.aD id _ b' hH (.inl k1)
 let g':G:={g with υ:=fun i2 b2=>g.υ i2 b2∧i2≠j∨i2=id∧g.aD j (.bn (l.map f) e 1) b2 }
 have bK:cG g w g' (w.setRow b' arr'):={
  same:=⟨rfl,rfl,rfl⟩
  size:=au
  pr:=fun b2 o hp=>⟨hp,by
   have aR:b2≠b':=fun e'=>k3 o (e'▸hp)
   simp[World.cell?,ho b2 aR]⟩
  pK:=fun b o h=>.inl h
  x:=fun b h=>.inl h
  aY:=fun b2 _ kB=>ho b2 (fun e'=>kB (e'▸Ss))
  σ:=fun _ _ h=>h
  τ:=fun _ m a cap h=>⟨m,a,cap,h,.inr ⟨rfl,rfl,rfl⟩⟩}
 have Yq:lT f (M.set i (true,l))=(lT f M).set i (true,l.map f):=by simp[lT,List.map_set]
 have Z7:(H.set j .dead)[id]?=some (.ob (tE e eo N (lT f M))):=au
 have PE:∀ {i2:Nat} {e2:HE},((H.set j .dead).set id (.ob (tE e eo N (lT f (M.set i (true,l))))))[i2]?=some e2→(i2=id∧e2=.ob (tE e eo N (lT f (M.set i (true,l)))))∨(i2=j∧e2=.dead)∨(i2≠id∧i2≠j∧H[i2]?=some e2):=fun{i2 e2} h2=>by
  exact au
 have HC:∀ b2,g'.aD id (.ob (tE e eo N (lT f (M.set i (true,l))))) b2→g.aD id (.ob (tE e eo N (lT f M))) b2∨g.aD j (.bn (l.map f) e 1) b2:=fun b2 h2=>by
  rcases h2 with h2|h2|h2
  ·exact .inl (.inl h2)
  ·exact .inl (.inr h2.1)
  ·exact .inr h2.2
 refine⟨g',?_,bK,.any⟩
 refine aQ.XA (fun i=>i=id∨i=j) hw bK (by simp) (fun i h=>by rcases h with rfl|rfl<;>assumption) (fun i h=>by rw[abR (fun e2=>h (.inl e2.symm)),abR (fun e2=>h (.inr e2.symm))])
  (fun i h=>⟨rfl,rfl,by funext b2;simp only[g',eq_iff_iff];exact⟨fun h2=>by rcases h2 with h2|h2;exact h2.1;exact absurd (.inl h2.1) h,fun h2=>.inl ⟨h2,fun e2=>h (.inr e2)⟩⟩⟩) (fun _ h=>h)
  (fun b h=>by rw[acJ];exact hw.xs b h) (fun b o h=>by rw[acJ];exact hw.pr b o h)
  (fun i' e' b2 uC h' dD=>⟨ho b2 (fun e2=>uC (.inl (hw.sep i' id _ _ b' h' hH (e2▸dD) (.inl k1)))),fun _ h=>h⟩) ?_ ?_ ?_
 ·intro i2 e2 b2 c2 g1 g2
  rcases PE g1 with ⟨rfl,rfl⟩|⟨rfl,rfl⟩|⟨n1,n2,_⟩
  ·rcases HC b2 g2 with h3|h3
   ·exact⟨hw.aD _ _ _ hH h3,i2,_,.inl rfl,hH,h3⟩
   ·exact⟨hw.aD _ _ _ hJ h3,j,_,.inr rfl,hJ,h3⟩
  ·exact g2.elim
  ·exact au
 ·intro i2 i3 e2 e3 b2 c2 c3 g1 g2 g3 g4
  rcases PE g1 with ⟨rfl,rfl⟩|⟨rfl,rfl⟩|⟨n1,n2,_⟩
  ·rcases PE g2 with ⟨rfl,rfl⟩|⟨rfl,rfl⟩|⟨n1,n2,_⟩
   ·rfl
   ·exact g4.elim
   ·exact au
  ·exact g3.elim
  ·exact au
 ·intro i2 e2 c2 g1
  rcases PE g1 with ⟨rfl,rfl⟩|⟨rfl,rfl⟩|⟨n1,n2,_⟩
  rotate_left
  ·exact .inl rfl
  ·exact au
  refine .inr ⟨_,rfl,b',k1,⟨Vs.set i (r y),?_⟩,k3,fun b2 o hu=>?_⟩
  rotate_left
  ·rcases hu with hu|hu
   ·exact k4 b2 o hu.1
   ·obtain⟨-,hu⟩:=hu
    intro hp
    simp only[G.aD,f1,aaQ] at hu
    exact au
  rw[Yq]
  have ax:∀ {k m},((lT f M).set i (true,l.map f))[k]?=some m→(k=i∧m=(true,l.map f))∨(k≠i∧(lT f M)[k]?=some m):=fun{k m} hk=>by
   exact au
  have IZ:∀ {k v},(Vs.set i (r y))[k]?=some v→(k=i∧v=r y)∨(k≠i∧Vs[k]?=some v):=fun{k v} hk=>by
   exact au
  have Vq:∀ br,g.υ i2 br→¬g.aD j (.bn (l.map f) e 1) br:=fun br h2 h3=>AJ (hw.sep i2 j _ _ br hH hJ (.inr h2) h3)
  refine⟨by simpa using k2.len,by simpa using k2.n,⟨cap,arr',o1,o2,o3,hn,?_,fun k v hk=>?_⟩,fun k m u hk Mj=>?_,fun k k' l1 l2 v1 v2 B ER Kb Dy n1 n2 w1 w2 b1 b2=>?_⟩
  ·exact au
  ·rw[←hA,Fo Sr]
   exact au
  ·rcases ax hk with ⟨rfl,rfl⟩|⟨Lz,hk⟩
   ·rcases IZ Mj with ⟨_,rfl⟩|⟨Lz,_⟩
    ·refine⟨a0,n0,by rw[←hv,SQ];simp,by simpa using ui,fun aR=>?_⟩
     obtain⟨br,ki,z1,z2,z3,z4,z5,z6⟩:=k_ (fun h0=>aR (by rw[h0];rfl))
     have G7:br≠b':=fun e2=>AJ (hw.sep i2 j _ _ b' hH hJ (.inl k1) (e2▸z2))
     exact⟨br,ki,z1,.inr ⟨rfl,z2⟩,G7,(ho br G7).trans z3,by simpa using z4,fun k3 x u2 IY Ys=>(z6 k3 x u2 IY Ys).mono bK.pr⟩
    ·exact au
   ·rcases IZ Mj with ⟨h3,_⟩|⟨_,Mj⟩
    ·exact absurd h3 Lz
    ·exact(k2.row k m u hk Mj).mono bK.pr (fun b2 h2=>.inl ⟨h2,AJ⟩) (fun b2 _ h3=>ho b2 h3)
  ·have own:∀ {k l1 v1 B},k≠i→((lT f M).set i (true,l.map f))[k]?=some (true,l1)→(Vs.set i (r y))[k]?=some v1→l1≠[]→PD v1=some B→(lT f M)[k]?=some (true,l1)∧Vs[k]?=some v1∧g.υ i2 B:=fun{k l1 v1 B} Lz hk iw hn hB=>by
    rcases ax hk with ⟨h3,_⟩|⟨_,hk⟩
    ·exact absurd h3 Lz
    rcases IZ iw with ⟨h3,_⟩|⟨_,iw⟩
    ·exact absurd h3 Lz
    obtain⟨a2,Cj,z1,z2,z3⟩:=k2.row k _ v1 hk iw
    obtain⟨br,ki,y1,y2,_⟩:=z3 hn
    rw[z1,y1] at hB
    injection hB with hB
    exact au
   have new:∀ {k l1 v1 B},k=i→((lT f M).set i (true,l.map f))[k]?=some (true,l1)→(Vs.set i (r y))[k]?=some v1→l1≠[]→PD v1=some B→g.aD j (.bn (l.map f) e 1) B:=fun{k l1 v1 B} Lz hk iw hn hB=>by
    subst Lz
    rcases ax hk with ⟨_,h3⟩|⟨h3,_⟩
    ·injection h3 with _ h3;subst h3
     rcases IZ iw with ⟨_,rfl⟩|⟨h3,_⟩
     ·obtain⟨br,ki,z1,z2,_⟩:=k_ (fun h0=>hn (by rw[h0];rfl))
      rw[←hv,SQ,z1] at hB
      injection hB with hB
      exact au
     ·exact absurd rfl h3
    ·exact absurd rfl h3
   by_cases Lz:k=i
   ·exact au
   ·by_cases Yu:k'=i
    ·exact au
    ·obtain⟨z1,z2,_⟩:=own Lz Kb w1 n1 b1
     obtain⟨z3,z4,_⟩:=own Yu Dy w2 n2 b2
     exact k2.Mi k k' l1 l2 v1 v2 B ER z1 z3 n1 n2 z2 z4 b1 b2
theorem aQ.A1{g:G}{w:World}{id:Nat}(hw:aQ g w H)(hH:H[id]?=some (.ob (tE e eo N (lT f M))))(h1:∀ x,(f x).cells=[f x]):
  ∃ g',aQ g' w (H.set id .dead)∧cG g w g' w∧(∀ i,g'.τ i=g.τ i)∧∀ r,cu g w (.hs id 0 N 1) r→cu g' w (.d (.sl (M.map fun m=>LY f m.2))) r:=by
 have eC:id<H.length:=(aaS.1 hH).1
 obtain⟨b,k1,⟨Vs,k2⟩,k3,k4⟩:=hw.ob id _ hH
 have hN:M.length=N:=by have:=k2.n;simpa[lT] using this
 have hV:Vs.length=M.length:=by have:=k2.len;simpa[lT] using this
 obtain⟨cap,arr,o1,o2,o3,o4,o5,o6⟩:=k2.own
 let g':G:={g with Pr:=fun b2 o=>g.Pr b2 o∨b2=b∨g.υ id b2 }
 have Ss:g.X b:=hw.aD id _ b hH (.inl k1)
 have hXu:∀ b2,g.υ id b2→g.X b2:=fun b2 h=>hw.aD id _ b2 hH (.inr h)
 have bK:cG g w g' w:={
  same:=⟨rfl,rfl,rfl⟩
  size:=aaZ _
  pr:=fun b o hp=>⟨.inl hp,rfl⟩
  pK:=fun b2 o h=>by
   exact au
  x:=fun b h=>.inl h
  aY:=fun b _ _=>rfl
  σ:=fun _ _ h=>h
  τ:=fun _ m a cap h=>⟨m,a,cap,h,.inr ⟨rfl,rfl,rfl⟩⟩}
 refine⟨g',aQ.XA (fun i=>i=id) hw bK (by simp) (fun i h=>h▸eC) (fun i h=>abR (acN h)) (fun i h=>⟨rfl,rfl,rfl⟩) (fun _ h=>h) hw.xs (fun b2 o h=>?_) (fun i e' b2 hi h hb=>⟨rfl,fun o hp=>?_⟩) ?_ (fun i i' _ _ _ h h' _ _ _ _=>h.trans h'.symm) ?_,bK,fun _=>rfl,fun r hr=>?_⟩
 ·rcases h with h|rfl|h
  ·exact hw.pr b2 o h
  ·exact hw.xs _ Ss
  ·exact hw.xs _ (hXu _ h)
 ·rcases hp with hp|rfl|hp
  ·exact hp
  ·exact absurd (hw.sep i id _ _ b2 h hH hb (.inl k1)) hi
  ·exact absurd (hw.sep i id _ _ b2 h hH hb (.inr hp)) hi
 ·rintro i e' b2 rfl g1 g2
  rcases jV eC g1 with ⟨_,rfl⟩|⟨h,_⟩
  ·exact g2.elim
  ·exact absurd rfl h
 ·exact au
 ·cases hr with
  |@hs _ _ _ _ m eZ n0 c0 a' a0 p1 p2=>
   rw[o1] at p1;injection p1 with p1;injection p1 with p1 p3;injection p3 with p3 p4
   obtain⟨r1,r2,r3,r4⟩:=pV (p2 p1.symm)
   subst r1;subst r2;subst r3;subst p3
   have hlen:n0=(M.map fun m=>LY f m.2).length:=by simp[hN]
   have key:=aV.sl (Pr:=g'.Pr) (w:=w) (M.map fun m=>LY f m.2) (some ⟨b,0,none⟩) c0 1 (fun k=>(w.cell? ⟨b,k,none⟩).getD undef) (fun x hx=>by obtain⟨y,_,rfl⟩:=abS.1 hx;rfl) (by rw[←hlen];exact r4) (fun aR=>⟨b,0,rfl,fun k hk=>⟨.inr (.inl rfl),?_⟩⟩) (fun k x hx=>?_)
   ·rw[←hlen] at key
    exact .d key
   ·rw[←hlen,adE] at hk
    have:k<arr.size:=by omega
    simp only[abY,aL o4]
    simp[this]
   ·rw[v_ (fun x hx=>by obtain⟨y,_,rfl⟩:=abS.1 hx;rfl)] at hx
    obtain⟨m,hm,rfl⟩:=aba ..▸hx |> aa6.1
    have xA:k<M.length:=(aaS.1 hm).1
    have Vr:k<Vs.length:=by omega
    have kD:w.cell? ⟨b,k,none⟩=some Vs[k]:=by rw[aL o4];exact o6 k _ (by simp[Vr])
    rw[kD]
    have k_:=k2.row k _ Vs[k] (zU hm) (by simp[Vr])
    simp only[aci]
    generalize Vs[k]=v at k_
    obtain⟨fl,l⟩:=m
    cases fl with
    |false=>exact aV.mono bK.pr k_
    |true=>
     obtain⟨a2,Cj,rfl,z2,z3⟩:=k_
     simp only at z3
     refine .sl (l.map f) a2 Cj 1 (fun k=>match a2 with|some ad=>(w.cell? ⟨ad.block,k,none⟩).getD undef|none=>undef) (fun x hx=>by obtain⟨y,_,rfl⟩:=abS.1 hx;rw[h1];rfl) z2 (fun aR=>?_) (fun Ki x hx=>?_)
     ·obtain⟨br,ki,rfl,y2,y3,y4,y5,y6⟩:=z3 aR
      refine⟨br,0,rfl,fun k3 LA=>⟨.inr (.inr y2),?_⟩⟩
      have:k3<ki.size:=by simp only[adE] at LA;omega
      simp only[abY,aL y4]
      simp[this]
     ·rw[jU h1] at hx
      have LA:Ki<(l.map f).length:=(aaS.1 hx).1
      obtain⟨br,ki,rfl,y2,y3,y4,y5,y6⟩:=z3 (by intro h0;rw[h0] at LA;simp at LA)
      have:Ki<ki.size:=by omega
      simp only[aL y4]
      have h4:ki[Ki]?=some ki[Ki]:=au
      rw[h4]
      exact(y6 Ki x _ hx h4).mono bK.pr
theorem SR(M:List (Bool×List α)):(M.map Prod.snd).map (LY f)=M.map fun m=>LY f m.2:=au
theorem CP{g g':G}{w:World}{E:Nat→V}{v u:V}{i:Nat}{r:Value}(hr:cu g w (E i) r)(he:cG g w g' w)(Va:∀ r,cu g w u r→cu g' w v r):∀ {ts:List Nat},AF E u ts→cu g' w (DI E ts v i) r
 |[],_=>hr.mono he
 |t::ts,h=>by
  simp only[DI]
  by_cases hi:i=t
  ·subst hi
   rw[mP]
   rw[h.1] at hr
   exact Va _ hr
  ·rw[AG _ _ hi];exact CP hr he Va h.2
theorem AW.A1{F:FC}{Q:Exit→St→Prop}{c:Code}{E:Nat→V}(id:Nat)(ts:List Nat)(hH:H[id]?=some (.ob (tE e eo N (lT f M))))(h1:∀ x,(f x).cells=[f x])(hE:AF E (.hs id 0 N 1) ts)
  (h:AW F c Q ⟨DI E ts (.d (.sl ((M.map Prod.snd).map (LY f)))),H.set id .dead⟩):AW F c Q ⟨E,H⟩:=by
 rw[SR] at h
 rintro a w ⟨Kb,h2,g,h3,h4,h5⟩
 obtain⟨g',w1,w2,_,w3⟩:=h3.A1 hH h1
 exact h a w ⟨Kb,h2,g',w1,h4.trans w2,fun i=>CP (h5 i) w2 w3 hE⟩
end
section
variable {F:FC}{Q:Exit→St→Prop}{c y:Code}{st:St}{ops:Array Oper}
theorem AW.ghost{Q1:Exit→St→Prop}(h:AW F c Q1 st)(hq:∀ e s,Q1 e s→∀ a w,jv F s a w→∃ s',jv F s' a w∧Q e s'):AW F c Q st:=by
 intro a w hs b k cs
 obtain⟨e,a',w',⟨mH,k1,k2⟩,k3⟩:=h a w hs b k cs
 exact au
theorem AW.xO{E:Nat→V}{H:List HE}{e eo:TypeId}{N:Nat}{M:List (Bool×List D)}(id:Nat)(hH:H[id]?=some (.ob (tE e eo N M)))(h:∀ Vs,AW F c Q ⟨E,H.set id (.ob (zT e eo N M Vs))⟩):AW F c Q ⟨E,H⟩:=by
 rintro a w ⟨h1,h2,g,hw,h4,h5⟩
 obtain⟨b,k1,⟨Vs,k2⟩,_⟩:=hw.ob id _ hH
 exact h Vs a w ⟨h1,h2,g,(hw.AN (x1:=zT e eo N M Vs) hH k1 ⟨rfl,rfl,rfl⟩ rfl (fun _ _=>rfl) (fun _=>k2)).1,h4,h5⟩
def QC(K:St→Prop)(i:Nat)(s:St):Prop:=∃ e eo N M Vs,s.H[i]?=some (.ob (zT e eo N M Vs))∧K ⟨s.env,s.H.set i (.ob (tE e eo N M))⟩
theorem QC.sim{K:St→Prop}{i:Nat}{s:St}(h:QC K i s){a:Act}{w:World}(hs:jv F s a w):∃ s',jv F s' a w∧K s':=by
 obtain⟨e,eo,N,M,Vs,hH,hK⟩:=h
 obtain⟨h1,h2,g,hw,h4,h5⟩:=hs
 obtain⟨b,k1,k2,_⟩:=hw.ob i _ hH
 exact⟨⟨s.env,s.H.set i (.ob (tE e eo N M))⟩,⟨h1,h2,g,(hw.AN (x1:=tE e eo N M) hH k1 ⟨rfl,rfl,rfl⟩ rfl (fun _ _=>rfl) (fun _=>⟨Vs,k2⟩)).1,h4,h5⟩,hK⟩
theorem AW.Mk{id:Nat}(i:Nat)(mL:List (List Nat×List Nat))(hm:F.P.follows .mixedOrders=true)(D0:Vt ops mL=true)(h:AD F ops (QC (Q .normal) i) ops.toList mL st):AW F (.region id ops true) Q st:=
 AW.ghost (AW.drawn (Q:=fun e s=>e=.normal∧QC (Q .normal) i s) mL hm D0 (by simpa using h)) fun e s ⟨h1,h2⟩ a w hs=>by subst h1;exact h2.sim hs
end
section
variable {P:Program}{ρ:Operand→V}{H:List HE}{ty:TypeId}{α:Type}{f:α→D}{e eo:TypeId}{N:Nat}{M:List (Bool×List α)}{Vs:List Value}
end
end Go.Proofs.YtjdnbobilgamdaaGreatDoor.Ab
end
section
namespace Go.Proofs.YtjdnbobilgamdaaGreatDoor.Ab
open Go
theorem aQ.HF{g:G}{w:World}{H:List HE}{id s:Nat}{l:List D}{e:TypeId}(hw:aQ g w H)(hH:H[id]?=some (.bn l e s))(aR:0<l.length):
  ∃ b arr cap,g.τ id=some (0,some ⟨b,0,none⟩,cap)∧0<cap∧l.length≤cap∧g.σ id=some b∧w.heap[b]?=some (.cells arr e (0,0))∧arr.size=cap*s∧(∀ (k:Nat) x v,(D.flat l)[k]?=some x→arr[k]?=some v→aV g.Pr w x v):=by
 obtain⟨a,cap,f1,f2,f3,f4⟩:=hw.bn id l e s hH
 obtain⟨b,arr,q1,q0,q2,q3,q4,q5⟩:=f4 (by omega)
 subst q1
 exact⟨b,arr,cap,f1,by omega,f2,q0,q2,q3,q5⟩
theorem qF{α:Type}{f:α→D}{s:Nat}(hf:En f s)(l:List α):(D.flat (l.map f)).length=l.length*s:=by
 induction l with
 |nil=>simp[D.flat]
 |cons y l ih=>rw[abP,lg,aa9,ih,hf.sz];simp[abV,adH]
section
variable {P:Program}{ρ:Operand→V}{H:List HE}{ty:TypeId}{α:Type}{f:α→D}{l:List α}{v:α}{s:Nat}{a:Int}
theorem rW{x y:Operand}{t e bytes id len:Nat}{k:IntKind}(hx:Is (ρ x) (.hs id 0 len s))(hH:H[id]?=some (.bn (l.map f) e s))(hl:l.length=len)
  (hy:As (ρ y) (.int k a))(hv:ix l a=some v)(ht:pt P t e s bytes):bj P (.indexAddr t x y) ty ρ H (.ptr id (a.toNat*s)) H:=
 bj.aW fun g w r hw h=>by
  have h1:=hx.rep (h x (by simp[Op.operands]))
  have h2:=hy.int (h y (by simp[Op.operands]))
  obtain⟨i,hi,rf⟩:=mM hv
  subst hi
  have G_:i<l.length:=(aaS.1 rf).1
  obtain⟨b,arr,cap,k1,k2,k3,q0,q2,q3,q5⟩:=hw.HF hH (by simp;omega)
  obtain⟨ie,z,im,dE,_⟩:=ht.i
  generalize hr:r x=u at h1
  cases h1 with
  |@hs _ _ _ _ m eZ n0 c0 a' a0 p1 p2=>
   rw[k1] at p1;injection p1 with p1;injection p1 with p1 p3
   injection p3 with p3 p4
   obtain⟨r1,r2,r3,r4⟩:=pV (p2 p1.symm)
   have aN:i<n0:=by omega
   subst r1;subst r3;subst p3
   refine⟨.pointer (some ⟨b,i*s,none⟩),fun _ _ _ _=>?_,.ptr q0⟩
   simp[execOp,Instr.indexAt,asIntOf,hr,h2,aaX ht.u,aN,aq im,dE,Addr.aT]
theorem Fs{o:Nat}{d:D}{x:Operand}{t id:Nat}{e:TypeId}(hf:En f s)(hx:Is (ρ x) (.ptr id (a.toNat*s+o)))(hH:H[id]?=some (.bn (l.map f) e s))(hv:ix l a=some v)(hd:(f v).cells[o]?=some d)(ht:Sc P t):
  bj P (.load t x) ty ρ H (.d d) H:=
 bj.aW fun g w r hw h=>by
  have hp:=hx.rep (h x (by simp[Op.operands]))
  obtain⟨i,hi,rf⟩:=mM hv
  subst hi
  have G_:i<l.length:=(aaS.1 rf).1
  obtain⟨b,arr,cap,k1,k2,k3,q0,q2,q3,q5⟩:=hw.HF hH (by simp;omega)
  obtain⟨h3,h4⟩:=pZ hf rf
  have ho:o<s:=by have:=(aaS.1 hd).1;rwa[hf.sz] at this
  rw[qF hf] at h4
  rw[aa4] at k3
  have aN:i*s+o<arr.size:=by
   have:=abg s k3
   rw[q3];omega
  generalize hr:r x=u at hp
  cases hp with
  |@ptr _ _ b' hb=>
   obtain rfl:b'=b:=by rw[hb] at q0;exact aa5 q0
   simp only[aa8] at hr
   have kD:w.cell? ⟨b',i*s+o,none⟩=some arr[i*s+o]:=by rw[aL q2];simp[aN]
   refine⟨arr[i*s+o],fun _ _ _ _=>by simp[execOp,Instr.loadAt,Instr.sureAddr,hr,fE ht kD],.d (q5 (i*s+o) _ _ ?_ (by simp[aN]))⟩
   rw[←h3,abj,aa2 ho,abn] at hd
   exact hd
theorem Km{l l':List D}{x y:Operand}{t id n:Nat}{e:TypeId}{u:V}{c:List D}(hx:Is (ρ x) (.ptr id n))(hy:Is (ρ y) u)(hv:u.cs=c.map V.d)(h1:(c.map V.d).all V.one=true)(dE:∃ i,P.info? t=some i∧i.size=c.length)(hH:H[id]?=some (.bn l e s))
  (hz:(D.flat l).length=l.length*s)(hle:n+c.length≤(D.flat l).length)(qx:0<l.length)(hlen:l'.length=l.length)(hX:D.flat l'=(D.flat l).take n++c++(D.flat l).drop (n+c.length)):bj P (.store t x y) ty ρ H .any (H.set id (.bn l' e s)):=by
 intro g w r pos after guard dst hw h
 have hp:=hx.rep (h x (by simp[Op.operands]))
 have hu:=hy.rep (h y (by simp[Op.operands]))
 obtain⟨Vv,Ru⟩:=hu.cs hv h1
 obtain⟨i,hi,Lv⟩:=dE
 obtain⟨b,arr,cap,k1,k2,k3,q0,q2,q3,q5⟩:=hw.HF hH qx
 have hls:l.length*s≤arr.size:=by rw[q3];exact abg s k3
 rw[aa4] at Vv
 generalize hr:r x=v' at hp
 cases hp with
 |@ptr _ _ b' hb=>
  obtain rfl:b'=b:=by rw[hb] at q0;exact aa5 q0
  have eL:∀ u∈(r y).cells.toList,u.oneCell'=true:=fun u lO=>by
   obtain⟨j,hj⟩:=adn lO
   rw[aa0] at hj
   have Ci:j<(c.map V.d).length:=by rw[aa4,←Vv];exact(abd.1 hj).1
   exact(Ru j (c.map V.d)[j] u (aaV Ci) hj).one (abi.1 h1 _ (acb Ci))
  have dz:=acG P b' n e (r y).cells.toList 0 arr w q2 (by simp;omega) eL
  have pX:(r y).cells.size=i.size:=by omega
  unfold aO
  simp only[execOp,Instr.storeAt,Instr.sureAddr,hr,abl,abu,aa3,storeVar,aq hi,pX,ne_eq,adf,abb,dz]
  refine⟨g,?_⟩
  have key:=aQ.pw (w':=w.setRow b' (arr.toList.take (n+0)++(r y).cells.toList++arr.toList.drop (n+0+(r y).cells.toList.length)).toArray) (l':=l')
   (arr':=(arr.toList.take (n+0)++(r y).cells.toList++arr.toList.drop (n+0+(r y).cells.toList.length)).toArray) hw hH k1 k2 hb ⟨rfl,rfl,rfl⟩ (acJ w b' _) (acR w b' arr _ e _ q2) (fun Pj aR=>acQ w b' Pj _ aR)
   (by omega) (by rw[←q3];simp;omega) (fun k x u hx lO=>by
    simp only[acy,aca,hX] at hx lO
    have l1:(List.take n (D.flat l)).length=n:=by simp;omega
    have l2:(List.take n arr.toList).length=n:=by simp;omega
    by_cases hk:k<n
    ·rw[abk,aa1 (by omega),abj,aa2 hk] at hx lO
     rw[aa0] at lO
     exact q5 k x u hx lO
    ·rw[abk,aaY (by omega)] at hx lO
     rw[l1] at hx
     rw[l2] at lO
     by_cases oJ:k-n<c.length
     ·rw[aa1 oJ] at hx
      rw[aa1 (by simp;omega),aa0] at lO
      have h3:=Ru _ (.d x) u (by rw[aba,hx];rfl) lO
      cases h3 with
      |d h3=>exact h3
     ·rw[aaY (by omega),abn] at hx
      rw[aaY (by simp;omega),abn,aa0] at lO
      simp only[abL,Vv] at lO
      exact q5 _ x u hx lO)
  exact⟨key.1,key.2,.any⟩
theorem D1{r:List α}{v':α}{o:Nat}{d:D}{x y:Operand}{t id:Nat}{e:TypeId}(hf:En f s)(hx:Is (ρ x) (.ptr id (a.toNat*s+o)))(hy:Is (ρ y) (.d d))(h0:V.cs (.d d)=[.d d])(h1:V.one (.d d)=true)(dE:∃ i,P.info? t=some i∧i.size=1)(hH:H[id]?=some (.bn (l.map f) e s))
  (hv:ix l a=some v)(hr:ku l a v'=some r)(ho:Nat.blt o s=true)(hc:(f v').cells=(f v).cells.set o d):bj P (.store t x y) ty ρ H .any (H.set id (.bn (r.map f) e s)):=by
 have ho:o<s:=by simpa[abK] using ho
 obtain⟨i,hi,rf⟩:=mM hv
 subst hi
 have G_:i<l.length:=(aaS.1 rf).1
 obtain rfl:r=l.set i v':=by
  unfold ku at hr
  split at hr
  ·injection hr with hr;exact hr.symm
  ·cases hr
 obtain⟨h3,h4⟩:=pZ hf rf
 have hz:=qF hf l
 refine Km (l:=l.map f) (c:=[d]) hx hy h0 (by simp[h1]) dE hH (by simpa using hz) (by simp only[aen,aa8];omega) (by simp;omega) (by simp) ?_
 rw[AS hf G_,hc,←h3]
 simp only[aa8,aen]
 apply ab6
 intro k
 have e1:(List.take (i*s) (D.flat (l.map f))).length=i*s:=by simp;omega
 have e2:(((D.flat (l.map f)).drop (i*s)).take s).length=s:=by simp;omega
 have e3:(List.take (i*s+o) (D.flat (l.map f))).length=i*s+o:=by simp;omega
 by_cases k1:k<i*s
 ·rw[abk,abk,aa1 (by omega),aa1 (by omega),abj,abj,aa2 k1,aa2 (by omega)]
 ·rw[abk,aaY (by omega),e1]
  by_cases k2:k<i*s+s
  ·rw[aa1 (by rw[List.length_set];omega),adi]
   by_cases k3:o=k-i*s
   ·rw[aa2 k3,aa2 (by omega),abk,aaY (by omega),e3]
    have:k-(i*s+o)=0:=by omega
    rw[this];rfl
   ·rw[aa7 k3,abj,aa2 (by omega),abn]
    by_cases k4:k<i*s+o
    ·rw[abk,aa1 (by omega),abj,aa2 k4];congr 1;omega
    ·rw[abk,aaY (by omega),e3,aaY (by simp;omega),abn];congr 1;simp;omega
  ·rw[aaY (by rw[List.length_set];omega),List.length_set,e2,abn,abk,aaY (by omega),e3,aaY (by simp;omega),abn]
   congr 1;simp;omega
end
end Go.Proofs.YtjdnbobilgamdaaGreatDoor.Ab
end
section
namespace Go.Proofs.YtjdnbobilgamdaaGreatDoor.Ab
open Go
theorem Mm{b cap off s len:Nat}(h:0<len)(hc:len+off≤cap):GZ (some ⟨b,0,none⟩) cap off s=some ⟨b,off*s,none⟩:=by
 unfold GZ
 split
 ·rename_i h0;subst h0;simp
 ·rw[aa7 (by omega)]
  simp only[abN,Addr.add]
  split
  ·rename_i h1;rw[h1]
  ·simp
section
variable {P:Program}{ρ:Operand→V}{H:List HE}{ty:TypeId}{α:Type}{f:α→D}{l r:List α}{v:α}{s:Nat}{a lo:Int}
theorem A2{g:G}{w:World}{id off len:Nat}{u:Value}{e:TypeId}{ls:List D}(hw:aQ g w H)(hH:H[id]?=some (.bn ls e s))(hr:cu g w (.hs id off len s) u)(hlen:0<len):
  ∃ b cap arr,u=.slice (some ⟨b,off*s,none⟩) len (cap-off)∧len+off≤cap∧g.τ id=some (0,some ⟨b,0,none⟩,cap)∧0<cap∧ls.length≤cap∧g.σ id=some b∧w.heap[b]?=some (.cells arr e (0,0))∧arr.size=cap*s∧(∀ (k:Nat) x v,(D.flat ls)[k]?=some x→arr[k]?=some v→aV g.Pr w x v):=by
 obtain⟨a1,cap,f1,f2,f3,f4⟩:=hw.bn id ls e s hH
 cases hr with
 |hs p1 p2=>
  rw[f1] at p1;injection p1 with p1;injection p1 with p1 p3;injection p3 with p3 p4
  subst p1;subst p3;subst p4
  obtain⟨r1,r2,r3,r4⟩:=p2 rfl
  obtain⟨b,arr,q1,q0,q2,q3,q4,q5⟩:=f4 (by omega)
  subst q1
  rw[Mm hlen r4] at r1
  subst r1;subst r2;subst r3
  exact⟨b,cap,arr,rfl,r4,f1,by omega,f2,q0,q2,q3,q5⟩
theorem oL{x y:Operand}{t e bytes id:Nat}{k:IntKind}{ls:List D}(hx:Is (ρ x) (.hs id lo.toNat r.length s))(Lx:0≤lo)(hH:H[id]?=some (.bn ls e s))
  (hy:As (ρ y) (.int k a))(hv:ix r a=some v)(ht:pt P t e s bytes):bj P (.indexAddr t x y) ty ρ H (.ptr id ((lo+a).toNat*s)) H:=
 bj.aW fun g w rr hw h=>by
  have h1:=hx.rep (h x (by simp[Op.operands]))
  have h2:=hy.int (h y (by simp[Op.operands]))
  obtain⟨i,hi,rf⟩:=mM hv
  subst hi
  have G_:i<r.length:=(aaS.1 rf).1
  obtain⟨b,cap,arr,e1,e2,_,_,_,q0,_⟩:=A2 hw hH h1 (by omega)
  obtain⟨ie,z,im,dE,_⟩:=ht.i
  have e3:(lo+(i:Int)).toNat=lo.toNat+i:=by omega
  refine⟨.pointer (some ⟨b,(lo+(i:Int)).toNat*s,none⟩),fun _ _ _ _=>?_,.ptr q0⟩
  rw[e3,abV]
  simp[execOp,Instr.indexAt,asIntOf,e1,h2,aaX ht.u,G_,aq im,dE,Addr.add]
theorem sx{x:Operand}{t id:Nat}{e:TypeId}(h1:∀ x,(f x).cells=[f x])(hx:Is (ρ x) (.ptr id (a.toNat*1)))(hH:H[id]?=some (.bn (l.map f) e 1))(hv:ix l a=some v)(ht:Sc P t):
  bj P (.load t x) ty ρ H (.d (f v)) H:=eg h1 (by rwa[adE] at hx) hH hv ht
theorem HG{l r:List α}{lo hi:Int}(h:oR l lo hi=some r):0≤lo:=by
 unfold oR at h
 split at h
 ·omega
 ·cases h
def ql(l:List α)(off len:Nat)(z:α):List α:=l.take off++List.replicate len z++l.drop (off+len)
theorem sy{off len:Nat}{z:α}(h:off+len≤l.length):(ql l off len z).length=l.length:=by simp[ql];omega
theorem Ft{zs:Array Value}{n k:Nat}{v:Value}(h:(Builtin.zeroCells zs n).toList[k]?=some v):∃ q,q=k%zs.size∧zs[q]?=some v:=by
 have hk:k<n*zs.size:=by
  have:=(aaS.1 h).1
  simpa[Builtin.zeroCells] using this
 have hs:0<zs.size:=by
  rcases adY zs.size with h0|h0
  ·rw[h0] at hk;simp at hk
  ·exact h0
 have hq:k%zs.size<zs.size:=adx _ hs
 refine⟨_,rfl,?_⟩
 simp only[Builtin.zeroCells,Array.toList_map,Array.toList_range,aba,List.getElem?_range hk,abN,aaW] at h
 rw[←h,aeh zs _ hq,acx hq]
theorem Kn{zs:Array Value}{n:Nat}:(Builtin.zeroCells zs n).toList.length=n*zs.size:=by simp[Builtin.zeroCells]
theorem Mn{H:List HE}{id:Nat}{e:HE}(h:H[id]?=some e):H.set id e=H:=by
 obtain⟨h1,h2⟩:=aaS.1 h
 rw[←h2];exact List.set_getElem_self h1
theorem Fu{z:α}{x:Operand}{t e bytes id off len:Nat}{zs:List Value}(hf:En f s)(hx:Is (ρ x) (.hs id off len s))(hH:H[id]?=some (.bn (l.map f) e s))(hlen:off+len≤l.length)(ht:pt P t e s bytes)(hz:Zr P e zs)(Sj:(f z).cells=zs.map ue):
  bj P (.call ⟨.builtin .clear,#[x],#[t]⟩) ty ρ H (.gd []) (H.set id (.bn ((ql l off len z).map f) e s)):=by
 intro g w rr pos after guard dst hw h
 have CD:=hx.rep (h x (by simp[Op.operands,Call.operands]))
 obtain⟨inf,zv,hi,dE,yP,ug,CE⟩:=ht.i
 obtain⟨aai,zv',k1,k2,k3,k4⟩:=hz.z
 rw[hi] at k1;injection k1 with k1;subst k1
 rw[ug] at k2;injection k2 with k2;subst k2
 have IQ:zv.cells.size=s:=by omega
 by_cases h0:len=0
 ·subst h0
  have e0:ql l off 0 z=l:=by simp[ql]
  rw[e0,Mn hH]
  have hv:∃ a0 c0,rr x=.slice a0 0 c0:=by
   generalize hu:rr x=u at CD
   cases CD with
   |hs p1 p2=>
    obtain⟨ad,cap,f1,f2,f3,f4⟩:=hw.bn id _ e s hH
    rw[f1] at p1;injection p1 with p1;injection p1 with p1 p3
    obtain⟨r1,r2,r3,r4⟩:=p2 p1.symm
    subst r2;exact⟨_,_,rfl⟩
  obtain⟨a0,c0,hv⟩:=hv
  have dz:(execOp rr ⟨dst,.call ⟨.builtin .clear,#[x],#[t]⟩,ty,pos,after,guard⟩).run P w=.ok (.value (.tuple #[])) w:=by
   cases a0<;>simp[execOp,resolve,invoke,builtin,Builtin.clear_,aaX ht.u,hv]
  unfold aO
  rw[dz]
  exact⟨g,hw,cG.refl g w,.gd rfl (by simp)⟩
 ·obtain⟨b,cap,arr,e1,e2,e3,e4,e5,q0,q2,q3,q5⟩:=A2 hw hH CD (by omega)
  have oQ:(Builtin.zeroCells zv.cells len).toList.length=len*s:=by rw[Kn,IQ]
  have hls:=qF hf l
  have aaj:off*s+len*s≤l.length*s:=by rw[←Nat.add_mul];exact abg s hlen
  have Sw:l.length*s≤arr.size:=by rw[q3];exact abg s (by simpa using e5)
  have eL:∀ v∈(Builtin.zeroCells zv.cells len).toList,v.oneCell'=true:=fun v hv=>by
   obtain⟨j,hj⟩:=adn hv
   obtain⟨q,_,hq⟩:=Ft hj
   have h5:(f z).cells[q]?=some (ue v):=by rw[Sj,←k3,aba,aa0,hq];rfl
   have h6:=hf.one z (ue v) (abc h5)
   exact(aV.ue g.Pr w v).one h6
  have Fg:=acG P b (off*s) e (Builtin.zeroCells zv.cells len).toList 0 arr w q2 (by rw[oQ];omega) eL
  have dz:(execOp rr ⟨dst,.call ⟨.builtin .clear,#[x],#[t]⟩,ty,pos,after,guard⟩).run P w=.ok (.value (.tuple #[])) (w.setRow b (arr.toList.take (off*s+0)++(Builtin.zeroCells zv.cells len).toList++arr.toList.drop (off*s+0+(Builtin.zeroCells zv.cells len).toList.length)).toArray):=by
   obtain⟨m,rfl⟩:∃ m,len=m+1:=⟨len-1,by omega⟩
   simp[execOp,resolve,invoke,builtin,Builtin.clear_,aaX ht.u,e1,aX hi ug,Fg]
  unfold aO
  rw[dz]
  refine⟨g,?_⟩
  have key:=aQ.pw (w':=w.setRow b (arr.toList.take (off*s+0)++(Builtin.zeroCells zv.cells len).toList++arr.toList.drop (off*s+0+(Builtin.zeroCells zv.cells len).toList.length)).toArray) (l':=(ql l off len z).map f)
   (arr':=(arr.toList.take (off*s+0)++(Builtin.zeroCells zv.cells len).toList++arr.toList.drop (off*s+0+(Builtin.zeroCells zv.cells len).toList.length)).toArray) hw hH e3 e4 q0 ⟨rfl,rfl,rfl⟩ (acJ w b _) (acR w b arr _ e _ q2) (fun Pj aR=>acQ w b Pj _ aR)
   (by rw[aa4,sy hlen];simpa using e5) (by rw[←q3];simp[oQ];omega) (fun k x u hx lO=>by
    have hX:D.flat ((ql l off len z).map f)=(D.flat (l.map f)).take (off*s)++D.flat ((List.replicate len z).map f)++(D.flat (l.map f)).drop (off*s+len*s):=by
     have D2:∀ (n:Nat),n≤l.length→(D.flat (l.map f)).take (n*s)=D.flat ((l.take n).map f)∧(D.flat (l.map f)).drop (n*s)=D.flat ((l.drop n).map f):=fun n hn=>by
      have e:l.map f=(l.take n).map f++(l.drop n).map f:=by rw[←List.map_append,acL]
      have e':D.flat (l.map f)=D.flat ((l.take n).map f)++D.flat ((l.drop n).map f):=by rw[e];simp only[D.flat,adR]
      have Vw:(D.flat ((l.take n).map f)).length=n*s:=by rw[qF hf,abI];rw[acr hn]
      rw[e',←Vw,List.take_left,aeu]
      exact⟨rfl,rfl⟩
     rw[←Nat.add_mul,(D2 off (by omega)).1,(D2 (off+len) hlen).2]
     simp only[ql,abW,D.flat,adR]
    simp only[acy,aca,hX,oQ] at hx lO
    have PF:(D.flat ((List.replicate len z).map f)).length=len*s:=by rw[qF hf,aeo]
    have l1:(List.take (off*s) (D.flat (l.map f))).length=off*s:=by simp;omega
    have l2:(List.take (off*s) arr.toList).length=off*s:=by simp;omega
    by_cases hk:k<off*s
    ·rw[abk,aa1 (by omega),abj,aa2 hk] at hx lO
     rw[aa0] at lO
     exact q5 k x u hx lO
    ·rw[abk,aaY (by omega)] at hx lO
     rw[l1] at hx
     rw[l2] at lO
     by_cases oJ:k-off*s<len*s
     ·rw[aa1 (by omega)] at hx
      rw[aa1 (by omega)] at lO
      rw[List.map_replicate] at hx
      obtain⟨j,h7,h8⟩:=AE (s:=s) (hf.sz z) rfl hx
      obtain⟨q,h9,h10⟩:=Ft lO
      rw[IQ] at h9
      have:j=q:=by omega
      subst this
      rw[Sj,←k3,aba,aa0,h10] at h7
      simp only[abN,aaW] at h7
      rw[←h7];exact aV.ue g.Pr w u
     ·rw[aaY (by omega),abn,PF] at hx
      rw[aaY (by omega),abn,aa0,oQ] at lO
      exact q5 _ x u hx lO)
  exact⟨key.1,key.2,.gd rfl (by simp)⟩
end
end Go.Proofs.YtjdnbobilgamdaaGreatDoor.Ab
end
