/- Regions whose order is drawn: a region that is hidden from an operation; what an operation looks at. Regions whose order is drawn: what an operation does to the heap. Regions whose order is drawn: two operations that may change places. Regions whose order is drawn: one operation against the model, and against what stands in other slots. Conditions: none. -/
import Derived.Test.YtjdnbobilgamdaaGreatDoorE20
section
namespace Go.Proofs.YtjdnbobilgamdaaGreatDoor.Ev
open Go
theorem aQ.VB{σ:Sg}{H:Hp}{w:World}(hw:aQ σ H w){r:Nat}(hr:r<H.n):aQ σ ⟨(bg AO 4 r).s .free H.h,H.n,H.fl⟩ w:=by
 have hle:=hw.le
 have jJ:(⟨(bg AO 4 r).s .free H.h,H.n,H.fl⟩:Hp).get r=.free:=Hp.get_set_same _ _ _ _ _
 have ax:∀ j,j<H.n→j≠r→(⟨(bg AO 4 r).s .free H.h,H.n,H.fl⟩:Hp).get j=H.get j:=fun j hj aR=>Hp.dF _ _ _ _ _ _ (by omega) (by omega) aR
 refine⟨hw.nn,hw.le,hw.fl,fun j hj=>?_,fun j j' x x' h1 h2 h3 h4 h5 h6 h7 h8=>?_⟩
 ·by_cases h:j=r
  ·rw[h,jJ];trivial
  ·rw[ax j hj h];exact hw.mm j hj
 ·by_cases h:j=r
  ·rw[h,jJ] at h4;cases h4
  ·by_cases h':j'=r
   ·rw[h',jJ] at h5;cases h5
   ·rw[ax j h1 h] at h4;rw[ax j' h2 h'] at h5
    exact hw.sep j j' x x' h1 h2 h3 h4 h5 h6 h7 h8
theorem aQ.Mq{σ aE:Sg}{H H':Hp}{w w':World}(hw:aQ σ H w){r:Nat}(hr:r<H.n)(hf:H.fl≤r)(lN:aQ aE H' w')(he:cG σ ⟨(bg AO 4 r).s .free H.h,H.n,H.fl⟩ w aE H' w'):
  aQ aE ⟨(bg AO 4 r).s (H.get r) H'.h,H'.n,H'.fl⟩ w'∧cG σ H w aE ⟨(bg AO 4 r).s (H.get r) H'.h,H'.n,H'.fl⟩ w':=by
 have hle:=hw.le
 have Wo:=lN.le
 have hnn:H.n≤H'.n:=he.n
 have Aw:H'.fl=H.fl:=he.fl
 have NH:(⟨(bg AO 4 r).s .free H.h,H.n,H.fl⟩:Hp).get r=.free:=Hp.get_set_same _ _ _ _ _
 have Jv:∀ j,j<H.n→j≠r→(⟨(bg AO 4 r).s .free H.h,H.n,H.fl⟩:Hp).get j=H.get j:=fun j hj aR=>Hp.dF _ _ _ _ _ _ (by omega) (by omega) aR
 have jJ:(⟨(bg AO 4 r).s (H.get r) H'.h,H'.n,H'.fl⟩:Hp).get r=H.get r:=Hp.get_set_same _ _ _ _ _
 have ax:∀ j,j<H'.n→j≠r→(⟨(bg AO 4 r).s (H.get r) H'.h,H'.n,H'.fl⟩:Hp).get j=H'.get j:=fun j hj aR=>Hp.dF _ _ _ _ _ _ (by omega) (by omega) aR
 have KW:aE r=σ r:=(he.aY r hr (by rw[NH];simp)).1
 have KX:∀ {Q:AO→Bool},∀ sd (x0:Nat×Nat×Nat),sd<H.n→Q ((⟨(bg AO 4 r).s .free H.h,H.n,H.fl⟩:Hp).get sd)=true→Q .free=false→sd≠r∧Q (H.get sd)=true:=by
  intro Q sd x0 h1 h2 h3
  by_cases h:sd=r
  ·rw[h,NH,h3] at h2;cases h2
  ·rw[Jv sd h1 h] at h2;exact⟨h,h2⟩
 have NI:∀ x,(H.get r).live=true→σ r=some x→x.1<w.heap.size:=fun x hl hx=>by
  obtain⟨z,h1,h2⟩:=(hw.mm r hr).aD hl
  rw[hx] at h1;cases h1;exact h2
 refine⟨⟨lN.nn,lN.le,lN.fl,fun j hj=>?_,fun j j' x x' h1 h2 h3 h4 h5 h6 h7 h8=>?_⟩,⟨he.same,he.size,he.ext,fun j hj zn=>?_,he.Cn,he.n,Aw,fun j hj=>?_,fun b hb ho=>?_,fun j x h1 h2 h3 h4 h5=>?_,fun j x h1 h2 h3 h4 h5=>?_⟩⟩
 ·by_cases h:j=r
  ·subst h
   rw[jJ]
   refine(hw.mm j hr).mono he.ext (fun Rp=>by have:=hw.mm j hr;rw[Rp] at this;rw[KW];exact this) (fun z hz H9=>?_)
   refine he.frame _ (NI z H9 hz) fun sd x0 k1 k2 k3 k4 k5=>?_
   obtain⟨n1,n2⟩:=KX (Q:=AO.GV) sd x0 k1 k3 rfl
   exact n1 (hw.sep sd j x0 z k1 hr k2 n2 H9 k4 hz k5)
  ·rw[ax j hj h];exact lN.mm j hj
 ·by_cases h:j=r<;>by_cases h':j'=r
  ·rw[h,h']
  ·exfalso
   rw[h,jJ] at h4
   rw[h,KW] at h6
   rw[ax j' h2 h'] at h5
   have aN:=NI x (AO.jK h4) h6
   rcases ab8 j' H.fl with a|a
   ·have a':j'<H.n:=aa_ a hw.fl
    rw[he.low j' a,Jv j' a' h'] at h5
    rw[he.Cn j' a] at h7
    exact h' (hw.sep r j' x x' hr a' hf h4 h5 h6 h7 h8).symm
   ·obtain⟨i0,x0,k1,k2,k3,k4,k5⟩:=he.Bs j' x' h2 a h5 h7 (by rw[←h8];exact aN)
    obtain⟨n1,n2⟩:=KX (Q:=AO.live) i0 x0 k1 k3 rfl
    exact n1 (hw.sep r i0 x x0 hr k1 hf h4 n2 h6 k4 (by rw[k5,h8])).symm
  ·exfalso
   rw[h',jJ] at h5
   rw[h',KW] at h7
   rw[ax j h1 h] at h4
   have aN:=NI x' h5 h7
   obtain⟨i0,x0,k1,k2,k3,k4,k5⟩:=he.own j x h1 (by rw[←Aw];exact h3) h4 h6 (by rw[h8];exact aN)
   obtain⟨n1,n2⟩:=KX (Q:=AO.GV) i0 x0 k1 k3 rfl
   exact n1 (hw.sep i0 r x0 x' k1 hr k2 n2 h5 k4 h7 (by rw[k5,h8]))
  ·rw[ax j h1 h] at h4;rw[ax j' h2 h'] at h5
   exact lN.sep j j' x x' h1 h2 h3 h4 h5 h6 h7 h8
 ·by_cases h:j=r
  ·rw[h];exact⟨KW,by rw[jJ];rw[h] at zn;exact zn⟩
  ·obtain⟨k1,k2⟩:=he.aY j hj (by rw[Jv j hj h];exact zn)
   exact⟨k1,by rw[ax j (by omega) h];exact k2⟩
 ·have ph:j<H.n:=aa_ hj hw.fl
  rw[ax j (by omega) (by omega),he.low j hj,Jv j ph (by omega)]
 ·refine he.frame b hb fun sd x0 k1 k2 k3 k4 k5=>?_
  obtain⟨n1,n2⟩:=KX (Q:=AO.GV) sd x0 k1 k3 rfl
  exact ho sd x0 k1 k2 n2 k4 k5
 ·by_cases h:j=r
  ·rw[h,jJ] at h3;rw[h,KW] at h4
   exact⟨r,x,hr,hf,h3,h4,rfl⟩
  ·rw[ax j h1 h] at h3
   obtain⟨i0,x0,k1,k2,k3,k4,k5⟩:=he.own j x h1 h2 h3 h4 h5
   exact⟨i0,x0,k1,k2,(KX (Q:=AO.GV) i0 x0 k1 k3 rfl).2,k4,k5⟩
 ·by_cases h:j=r
  ·rw[h,jJ] at h3;rw[h,KW] at h4
   exact⟨r,x,hr,hf,h3,h4,rfl⟩
  ·rw[ax j h1 h] at h3
   obtain⟨i0,x0,k1,k2,k3,k4,k5⟩:=he.Bs j x h1 h2 h3 h4 h5
   exact⟨i0,x0,k1,k2,(KX (Q:=AO.live) i0 x0 k1 k3 rfl).2,k4,k5⟩
theorem aQ.KY{σ:Sg}{H:Hp}{w:World}(hw:aQ σ H w)(hn:H.n<4096):aQ σ ⟨(bg AO 4 H.n).s .res H.h,H.n+1,H.fl⟩ w∧cG σ H w σ ⟨(bg AO 4 H.n).s .res H.h,H.n+1,H.fl⟩ w:=by
 have ax:∀ j,j<H.n→(⟨(bg AO 4 H.n).s .res H.h,H.n+1,H.fl⟩:Hp).get j=H.get j:=fun j hj=>Hp.dF _ _ _ _ _ _ (by omega) hn (by omega)
 have jJ:(⟨(bg AO 4 H.n).s .res H.h,H.n+1,H.fl⟩:Hp).get H.n=.res:=Hp.get_set_same _ _ _ _ _
 have Aw:=hw.fl
 refine⟨⟨fun j hj=>hw.nn j (by simp at hj;omega),hn,ad9 hw.fl,fun j hj=>?_,fun j j' x x' h1 h2 h3 h4 h5 h6 h7 h8=>?_⟩,⟨⟨rfl,rfl,rfl⟩,aaZ _,fun _ _ h=>h,fun j hj hr=>⟨rfl,by rw[ax j hj];exact hr⟩,fun _ _=>rfl,adF _,rfl,fun j hj=>ax j (by omega),fun _ _ _=>rfl,fun j x h1 h2 h3 h4 _=>?_,fun j x h1 h2 h3 h4 _=>?_⟩⟩
 ·by_cases h:j=H.n
  ·rw[h,jJ];exact hw.nn _ (aaZ _)
  ·have ph:j<H.n:=by simp at hj;omega
   rw[ax j ph];exact hw.mm j ph
 ·have k1:=hw.lt h6
  have k2:=hw.lt h7
  rw[ax j k1] at h4;rw[ax j' k2] at h5
  exact hw.sep j j' x x' k1 k2 h3 h4 h5 h6 h7 h8
 ·have k1:=hw.lt h4
  rw[ax j k1] at h3
  exact⟨j,x,k1,h2,h3,h4,rfl⟩
 ·have k1:=hw.lt h4
  rw[ax j k1] at h3
  exact⟨j,x,k1,h2,h3,h4,rfl⟩
theorem Jw{α:Type}:∀ (k i:Nat) (E:Tr α k),(bg α k i).s ((iM α k i).g E) E=E
 |0,_,_=>rfl
 |k+1,i,E=>by
  rw[ua,pq]
  rcases OX i with h|h|h|h|h|h|h|h<;>rw[h]<;>simp only[pick,s0,s1,s2,s3,s4,s5,s6,s7,g0,g1,g2,g3,g4,g5,g6,g7,Nat.beq,abf,abJ,Jw k (i/8)]<;>rfl
section
variable {P:Program}{o:Op}{ty:TypeId}{E E':Env}{H:Hp}{wq:Option Nat}
theorem BH{l:List Operand}(h:∀ x,x∈l→eO E x=eO E' x):l.map (eO E)=l.map (eO E'):=acX h
theorem BI{x:Option Operand}(h:∀ y,x=some y→eO E y=eO E' y):x.map (eO E)=x.map (eO E'):=by
 cases x with
 |none=>rfl
 |some y=>simp[h y rfl]
theorem ze{ps:Array (Nat×Operand)}(h:∀ x,x∈ps.toList.map (·.2)→eO E x=eO E' x):(ps.toList.map fun p=>(p.1,eO E p.2))=ps.toList.map fun p=>(p.1,eO E' p.2):=
 acX fun p hp=>by rw[h p.2 (abS.2 ⟨p,hp,rfl⟩)]
theorem Ib(hx:∀ x,x∈o.operands→eO E x=eO E' x):iZ P o ty E H wq=iZ P o ty E' H wq:=by
 cases o with
 |box e x=>simp only[iZ,hx x (by simp[Op.operands])]
 |build t ps=>simp only[iZ,Aa,ze (fun x h=>hx x (by simpa[Op.operands] using h))]
 |buildSlice t len ps=>simp only[iZ,nh,ze (fun x h=>hx x (by simpa[Op.operands] using h))]
 |store t x y=>simp only[iZ,hx x (by simp[Op.operands]),hx y (by simp[Op.operands])]
 |nilCheck x=>simp only[iZ,hx x (by simp[Op.operands])]
 |makeFunc fn fst cs=>simp only[iZ,BH (l:=cs.toList) (fun x h=>hx x (by simp only[Op.operands,adu];exact .inr (by simpa using h)))]
 |makeSlice t l c=>simp only[iZ,hx l (by simp[Op.operands]),hx c (by simp[Op.operands])]
 |slice t x lo hi mx=>
  cases mx with
  |some m=>rfl
  |none=>simp only[iZ,hx x (by simp[Op.operands]),BI (x:=lo) (fun y hy=>hx y (by simp[Op.operands,hy])),BI (x:=hi) (fun y hy=>hx y (by simp[Op.operands,hy]))]
 |indexAddr t x i=>simp only[iZ,hx x (by simp[Op.operands]),hx i (by simp[Op.operands])]
 |index t x i=>simp only[iZ,hx x (by simp[Op.operands]),hx i (by simp[Op.operands])]
 |lookup t x k ok=>simp only[iZ,hx x (by simp[Op.operands]),hx k (by simp[Op.operands])]
 |mapUpdate t x k y=>simp only[iZ,hx x (by simp[Op.operands]),hx k (by simp[Op.operands]),hx y (by simp[Op.operands])]
 |insert t x k y=>simp only[iZ,hx x (by simp[Op.operands]),hx k (by simp[Op.operands]),hx y (by simp[Op.operands])]
 |range t x=>simp only[iZ,hx x (by simp[Op.operands])]
 |entry x=>simp only[iZ,hx x (by simp[Op.operands])]
 |convert s d x=>simp only[iZ,hx x (by simp[Op.operands])]
 |unOp op t x=>simp only[iZ,hx x (by simp[Op.operands])]
 |makeMap t r=>cases r<;>rfl
 |call c=>
  obtain⟨Jm,xs,ts⟩:=c
  cases Jm with
  |builtin b=>simp only[iZ,BH (l:=xs.toList) (fun x h=>hx x (by simpa[Op.operands,Call.operands] using h))]
  |_=>rfl
 |_=>rfl
theorem Ic(hx:∀ x,x∈o.operands→eO E x=eO E' x):exec P (comp P o ty) E H wq=exec P (comp P o ty) E' H wq:=by
 have hv:∀ {x:Operand},x∈o.operands→qo E (dK x)=qo E' (dK x):=fun h=>hx _ h
 have h0:=Ib (P:=P) (ty:=ty) (H:=H) (wq:=wq) hx
 cases o with
 |move x=>simp only[comp,exec,hv (x:=x) (by simp[Op.operands])]
 |assign x=>simp only[comp,exec,hv (x:=x) (by simp[Op.operands])]
 |binOp op t x y u=>simp only[comp,exec,hv (x:=x) (by simp[Op.operands]),hv (x:=y) (by simp[Op.operands])]
 |load t x=>
  simp only[comp]
  split
  ·simp only[exec,hv (x:=x) (by simp[Op.operands])]
  ·rfl
 |indexAddr t x i=>
  simp only[comp]
  split
  ·split
   ·simp only[exec,hv (x:=x) (by simp[Op.operands]),hv (x:=i) (by simp[Op.operands])]
   ·rfl
  ·exact h0
 |fieldAddr t x k=>
  simp only[comp]
  split
  ·split
   ·rename_i s _
    cases Nat.beq s 0
    ·simp only[abJ,exec,hv (x:=x) (by simp[Op.operands])]
    ·rfl
   ·rfl
  ·rfl
 |pick c a b=>
  simp only[comp,exec,hv (x:=c) (by simp[Op.operands])]
  have ha:=hv (x:=a) (by simp[Op.operands])
  have hb:=hv (x:=b) (by simp[Op.operands])
  congr 1
  generalize qo E' (dK c)=cc
  unfold KO
  split
  ·rename_i q;cases q
   ·simp only[abJ,hb]
   ·simp only[abf,ha]
  ·rfl
 |extract x i=>simp only[comp,exec,hv (x:=x) (by simp[Op.operands])]
 |next x s=>rfl
 |call c=>
  obtain⟨Jm,xs,ts⟩:=c
  simp only[comp]
  split
  ·rfl
  ·rename_i x Jl
   split
   ·rename_i t _
    cases (iN P t).isSome
    ·exact h0
    ·simp only[abf,exec]
     have OS:x∈(Op.call ⟨.builtin .len,xs,ts⟩).operands:=by simp only[Op.operands,Call.operands];simp[←Array.mem_toList_iff,Jl]
     rw[hv OS]
     unfold Ql
     split<;>first|rfl|exact h0
   ·exact h0
  ·exact h0
 |_=>exact h0
theorem Gk(hx:∀ x,x∈o.operands→eO E x=eO E' x):eY E o=eY E' o:=by
 cases o with
 |slice t x lo hi mx=>simp only[eY,hx x (by simp[Op.operands])]
 |lookup t x k ok=>simp only[eY,hx x (by simp[Op.operands])]
 |store t x y=>simp only[eY,hx x (by simp[Op.operands])]
 |convert s d x=>simp only[eY,hx x (by simp[Op.operands])]
 |call c=>
  obtain⟨Jm,xs,ts⟩:=c
  simp only[eY]
  split
  ·split
   ·rename_i x Jl
    have OS:x∈(Op.call ⟨.builtin .len,xs,ts⟩).operands:=by simp only[Op.operands,Call.operands];simp[←Array.mem_toList_iff,Jl]
    rw[hx x OS]
   ·rfl
  ·rfl
  ·rfl
  ·rfl
 |_=>rfl
theorem Gl{pair:Bool}(hx:∀ x,x∈o.operands→eO E x=eO E' x):dX E (comp P o ty) pair=dX E' (comp P o ty) pair:=by
 have hv:∀ {x:Operand},x∈o.operands→qo E (dK x)=qo E' (dK x):=fun h=>hx _ h
 have h0:=Gk hx
 cases o with
 |load t x=>
  simp only[comp]
  split
  ·simp only[dX,hv (x:=x) (by simp[Op.operands])]
  ·rfl
 |indexAddr t x i=>
  simp only[comp]
  split
  ·split<;>rfl
  ·exact h0
 |fieldAddr t x k=>
  simp only[comp]
  split
  ·split
   ·rename_i s _
    cases Nat.beq s 0<;>rfl
   ·rfl
  ·rfl
 |call c=>
  obtain⟨Jm,xs,ts⟩:=c
  simp only[comp]
  split
  ·rfl
  ·rename_i x Jl
   split
   ·rename_i t _
    cases (iN P t).isSome
    ·exact h0
    ·simp only[abf,dX]
     have OS:x∈(Op.call ⟨.builtin .len,xs,ts⟩).operands:=by simp only[Op.operands,Call.operands];simp[←Array.mem_toList_iff,Jl]
     rw[hv OS,h0]
   ·exact h0
  ·exact h0
 |_=>first|rfl|exact h0
theorem Gm{rn:Rn}{f:Operand}{xs:Array Operand}{ts:Array TypeId}(hx:∀ x,x∈(Op.call ⟨.value f,xs,ts⟩).operands→eO E x=eO E' x):uL rn E (dK f) (xs.toList.map dK) H=uL rn E' (dK f) (xs.toList.map dK) H:=by
 have h1:qo E (dK f)=qo E' (dK f):=hx f (by simp[Op.operands,Call.operands])
 have h2:(xs.toList.map dK).map (qo E)=(xs.toList.map dK).map (qo E'):=by
  rw[acB,acB]
  exact acX fun x h=>hx x (by simp only[Op.operands,Call.operands,adu];exact .inr (by simpa using h))
 unfold uL
 rw[h1,h2]
end
end Go.Proofs.YtjdnbobilgamdaaGreatDoor.Ev
end
section
namespace Go.Proofs.YtjdnbobilgamdaaGreatDoor.Ev
open Go
def Rd(H H2:Hp):Kind→Prop
 |.n=>True
 |.r id=>H2.get id=H.get id
 |_=>False
theorem Rd.refl{H:Hp}{k:Kind}(h:k.rd=true):Rd H H k:=by cases k<;>first|trivial|rfl|cases h
section
variable {P:Program}{o:Op}{ty:TypeId}{E:Env}{H H' H2:Hp}{v:CV}{wq wq2:Option Nat}
theorem KZ{id:Nat}(h:H2.get id=H.get id):row H2 id=row H id:=by unfold row;rw[h]
theorem Ie{id:Nat}(h:H2.get id=H.get id):o_ H2 id=o_ H id:=by unfold o_;rw[h]
theorem oM{c:Option CV}(h:val H c=some (v,H')):H'=H∧val H2 c=some (v,H2):=by
 obtain⟨rfl,rfl⟩:=nJ h;exact⟨rfl,rfl⟩
theorem BJ{t:TypeId}{x:CV}{lo hi:Option CV}(hr:∀ id k l s,x=.so id k l s→H2.get id=H.get id)(h:lA P H t x lo hi=some (v,H')):H'=H∧lA P H2 t x lo hi=some (v,H2):=by
 have key:∃ c,lA P H t x lo hi=val H c∧lA P H2 t x lo hi=val H2 c:=by
  have hn:∃ c,(none:Option (CV×Hp))=val H c∧(none:Option (CV×Hp))=val H2 c:=⟨none,rfl,rfl⟩
  have hs:∀ v,∃ c,some (v,H)=val H c∧some (v,H2)=val H2 c:=fun v=>⟨some v,rfl,rfl⟩
  have hp:∀ (y:Option Value),∃ c,(match y with|some v=>some (xC v,H)|none=>none)=val H c∧(match y with|some v=>some (xC v,H2)|none=>none)=val H2 c:=fun y=>by
   cases y
   ·exact hn
   ·exact hs _
  cases x with
  |sl id o len cap=>
   simp only[lA]
   split
   ·split
    ·split
     ·exact hs _
     ·exact hn
    ·exact hn
   ·exact hn
  |so id k len s=>
   simp only[lA,KZ (hr id k len s rfl)]
   split
   ·split
    ·rename_i s' _
     cases Nat.beq s s'
     ·exact hn
     ·simp only[abf]
      have hl:∀ (q:Option Nat),∃ c,(match q with|some h=>(match uo lo 0 h with|some l=>some (CV.so id (k+l) (h-l) s,H)|none=>none)|none=>none)=val H c∧(match q with|some h=>(match uo lo 0 h with|some l=>some (CV.so id (k+l) (h-l) s,H2)|none=>none)|none=>none)=val H2 c:=by
       intro q
       cases q with
       |none=>exact hn
       |some h=>
        simp only
        cases uo lo 0 h with
        |none=>exact hn
        |some l=>exact hs _
      exact hl _
    ·exact hn
   ·exact hn
  |p id off=>
   simp only[lA]
   split
   ·split
    ·split
     ·exact hs _
     ·exact hn
    ·exact hn
   ·exact hn
  |_=>
   simp only[lA]
   split
   ·exact hp _
   ·exact hp _
   ·exact hp _
   ·exact hp _
   ·exact hn
 obtain⟨c,h1,h2⟩:=key
 rw[h1] at h;rw[h2]
 exact oM h
theorem Qw(hk:(eY E o).rd=true)(h:iZ P o ty E H wq=some (v,H')):H'=H∧(Rd H H2 (eY E o)→iZ P o ty E H2 wq2=some (v,H2)):=by
 cases o with
 |build t ps=>exact⟨(oM (H2:=H2) h).1,fun _=>(oM h).2⟩
 |indexAddr t x i=>exact⟨(oM (H2:=H2) h).1,fun _=>(oM h).2⟩
 |index t x i=>exact⟨(oM (H2:=H2) h).1,fun _=>(oM h).2⟩
 |unOp op t x=>
  simp only[iZ] at h ⊢
  split at h
  ·split at h
   ·cases h;exact⟨rfl,fun _=>by simp_all⟩
   ·cases h
  ·cases h
 |nilCheck x=>
  simp only[iZ] at h ⊢
  split at h
  ·cases h;exact⟨rfl,fun _=>by simp_all⟩
  ·cases h
 |makeFunc fn fst cs=>
  simp only[iZ] at h ⊢
  cases he:fst.isEmpty with
  |false=>rw[he] at h;cases h
  |true=>rw[he] at h;cases h;exact⟨rfl,fun _=>rfl⟩
 |slice t x lo hi mx=>
  cases mx with
  |some m=>cases h
  |none=>
   refine⟨(BJ (H2:=H) (fun _ _ _ _ _=>rfl) (show lA P H t (eO E x) (lo.map (eO E)) (hi.map (eO E))=some (v,H') from h)).1,fun hr=>?_⟩
   refine(BJ (H2:=H2) (fun id k l s hx=>?_) (show lA P H t (eO E x) (lo.map (eO E)) (hi.map (eO E))=some (v,H') from h)).2
   simpa only[eY,hx,Rd] using hr
 |lookup t x k ok=>
  have h':val H (ni P t (eO E x) (eO E k) ok H)=some (v,H'):=h
  obtain⟨h1,h2⟩:=nJ h'
  refine⟨h2,fun hr=>?_⟩
  show val H2 (ni P t (eO E x) (eO E k) ok H2)=some (v,H2)
  have:ni P t (eO E x) (eO E k) ok H2=ni P t (eO E x) (eO E k) ok H:=by
   simp only[eY] at hr
   unfold ni
   split
   ·rename_i id _ hx
    rw[hx] at hr
    rw[show H2.get id=H.get id from hr]
   ·rfl
  rw[this,h1];rfl
 |convert s d x=>
  simp only[eY] at hk
  simp only[iZ] at h ⊢
  split at hk
  ·rename_i k z hx
   rw[hx] at h ⊢
   unfold tX at h ⊢
   simp only[Cb] at h ⊢
   split at h
   ·rename_i r hr
    cases h
    exact⟨rfl,fun _=>by rfl⟩
   ·cases h
  ·cases hk
 |store t x y=>simp only[eY] at hk;split at hk<;>cases hk
 |call c=>
  obtain⟨Jm,xs,ts⟩:=c
  simp only[eY] at hk ⊢
  cases Jm with
  |builtin b=>
   simp only[iZ] at h ⊢
   have NJ:∀ {ys:List CV},(b=.len∨b=.min∨b=.max)→(∀ id,ys=[.m id]→b≠.len)→UL P H b ts ty ys=some (v,H')→H'=H∧UL P H2 b ts ty ys=some (v,H2):=by
    intro ys hb hm h
    unfold UL at h ⊢
    split at h
    ·rename_i id
     rcases hb with rfl|rfl|rfl
     ·exact absurd rfl (hm id rfl)
     ·cases h
     ·cases h
    ·rcases hb with rfl|rfl|rfl<;>cases h
    ·rcases hb with rfl|rfl|rfl<;>cases h
    ·rename_i e1 e2 e3
     rcases hb with rfl|rfl|rfl<;>exact oM h
   cases b with
   |len=>
    simp only at hk ⊢
    split at hk
    ·rename_i x Jl
     rw[Jl] at h ⊢
     simp only[abP,aem] at h ⊢
     generalize eO E x=cx at h hk ⊢
     by_cases hm:∃ id,cx=.m id
     ·obtain⟨id,rfl⟩:=hm
      have h':xZ P H ts id=some (v,H'):=h
      show _∧(H2.get id=H.get id→xZ P H2 ts id=some (v,H2))
      unfold xZ at h' ⊢
      split at h'
      ·split at h'
       ·rename_i t _ kt et es cl hu hg
        cases h'
        exact⟨rfl,fun hr=>by rw[hr,hg];simp only[hu]⟩
       ·cases h'
      ·cases h'
     ·obtain⟨k1,k2⟩:=NJ (ys:=[cx]) (.inl rfl) (fun id hid=>by cases hid;exact absurd ⟨id,rfl⟩ hm) h
      exact⟨k1,fun _=>k2⟩
    ·cases hk
   |min=>obtain⟨k1,k2⟩:=NJ (.inr (.inl rfl)) (fun _ _=>by simp) h;exact⟨k1,fun _=>k2⟩
   |max=>obtain⟨k1,k2⟩:=NJ (.inr (.inr rfl)) (fun _ _=>by simp) h;exact⟨k1,fun _=>k2⟩
   |_=>cases hk
  |_=>cases hk
 |_=>cases hk
def I.pl:I→Bool
 |.mv _|.bin ..|.ix ..|.fa ..|.pk ..|.ex ..=>true
 |_=>false
theorem qP(P:Program)(o:Op)(ty:TypeId):comp P o ty=.o o ty∨(∃ x,comp P o ty=.ln x o ty∧(∀ E,(eY E o).rd=true)∧rX o=true)∨(∃ n x,comp P o ty=.ld n x∧rX o=true)∨(comp P o ty).pl=true∨(∃ f xs,comp P o ty=.cl f xs∧rX o=true∧Dc o=false)∨(∃ x s,comp P o ty=.nx x s∧rX o=true∧Dc o=false)∨comp P o ty=.bad:=by
 cases o with
 |move x=>exact .inr (.inr (.inr (.inl rfl)))
 |assign x=>exact .inr (.inr (.inr (.inl rfl)))
 |binOp op t x y u=>exact .inr (.inr (.inr (.inl rfl)))
 |pick c a b=>exact .inr (.inr (.inr (.inl rfl)))
 |extract x i=>exact .inr (.inr (.inr (.inl rfl)))
 |next x s=>exact .inr (.inr (.inr (.inr (.inr (.inl ⟨_,_,rfl,rfl,rfl⟩)))))
 |load t x=>
  simp only[comp]
  split
  ·exact .inr (.inr (.inl ⟨_,_,rfl,rfl⟩))
  ·exact .inr (.inr (.inr (.inr (.inr (.inr rfl)))))
 |indexAddr t x i=>
  simp only[comp]
  split
  ·split
   ·exact .inr (.inr (.inr (.inl rfl)))
   ·exact .inr (.inr (.inr (.inr (.inr (.inr rfl)))))
  ·exact .inl rfl
 |fieldAddr t x k=>
  simp only[comp]
  split
  ·split
   ·rename_i s hs
    cases Nat.beq s 0
    ·exact .inr (.inr (.inr (.inl rfl)))
    ·exact .inr (.inr (.inr (.inr (.inr (.inr rfl)))))
   ·exact .inr (.inr (.inr (.inr (.inr (.inr rfl)))))
  ·exact .inr (.inr (.inr (.inr (.inr (.inr rfl)))))
 |call c=>
  obtain⟨Jm,xs,ts⟩:=c
  simp only[comp]
  split
  ·exact .inr (.inr (.inr (.inr (.inl ⟨_,_,rfl,rfl,rfl⟩))))
  ·rename_i x Jl
   split
   ·rename_i t ht
    cases (iN P t).isSome with
    |true=>exact .inr (.inl ⟨_,rfl,fun E=>by simp only[eY,Jl];split<;>rfl,rfl⟩)
    |false=>exact .inl rfl
   ·exact .inl rfl
  ·exact .inl rfl
 |_=>exact .inl rfl
theorem Al{i:I}{pair:Bool}(h:i.pl=true):dX E i pair=.n:=by cases i<;>first|rfl|cases h
theorem Qx{i:I}(h:i.pl=true):∃ c,∀ H wq,exec P i E H wq=val H c:=by
 cases i with
 |mv x=>exact⟨some (qo E x),fun _ _=>rfl⟩
 |bin g s x y=>exact⟨_,fun _ _=>rfl⟩
 |ix s x y=>exact⟨_,fun _ _=>rfl⟩
 |fa s x=>exact⟨_,fun _ _=>rfl⟩
 |pk s x y=>exact⟨_,fun _ _=>rfl⟩
 |ex s x=>exact⟨_,fun _ _=>rfl⟩
 |_=>cases h
theorem Jx{pair:Bool}(hk:(dX E (comp P o ty) pair).rd=true)(h:exec P (comp P o ty) E H wq=some (v,H')):H'=H∧(Rd H H2 (dX E (comp P o ty) pair)→exec P (comp P o ty) E H2 wq2=some (v,H2)):=by
 have h0:(eY E o).rd=true→iZ P o ty E H wq=some (v,H')→H'=H∧(Rd H H2 (eY E o)→iZ P o ty E H2 wq2=some (v,H2)):=Qw
 rcases qP P o ty with hc|⟨x,hc,-⟩|⟨n,x,hc,-⟩|hc|⟨f,xs,hc,-⟩|⟨x,s,hc,-⟩|hc
 ·rw[hc] at hk h ⊢;exact h0 hk h
 ·rw[hc] at hk h ⊢
  simp only[dX,exec] at hk h ⊢
  generalize qo E x=cx at hk h ⊢
  cases cx with
  |sl a b c d=>cases h;exact⟨rfl,fun _=>rfl⟩
  |so a b c d=>cases h;exact⟨rfl,fun _=>rfl⟩
  |_=>exact h0 hk h
 ·rw[hc] at hk h ⊢
  simp only[dX,exec] at hk h ⊢
  generalize qo E x=cx at hk h ⊢
  cases cx with
  |p id o=>
   refine⟨(oM (H2:=H2) h).1,fun hr=>?_⟩
   simp only[KN,Ie (show H2.get id=H.get id from hr)]
   exact(oM h).2
  |_=>cases hk
 ·obtain⟨c,hc⟩:=Qx (P:=P) (E:=E) hc
  rw[hc] at h ⊢
  exact⟨(oM (H2:=H2) h).1,fun _=>(oM h).2⟩
 ·rw[hc] at h;cases h
 ·rw[hc] at h;cases h
 ·rw[hc] at h;cases h
theorem Gn(ho:nj o=true){r:CV×Hp}(h:exec P (comp P o ty) E H wq=some r):∃ x K,∀ H2 wq2,exec P (comp P o ty) E H2 wq2=put H2 wq2 x K:=by
 cases o with
 |alloc e=>
  simp only[comp,exec,iZ] at h ⊢
  split at h
  ·rename_i z hz;exact⟨.c z,(.p · 0),fun _ _=>by simp only[hz]⟩
  ·cases h
 |box e x=>
  simp only[comp,exec,iZ] at h ⊢
  split at h
  ·rename_i l hl;exact⟨.c l,(.p · 0),fun _ _=>by simp only[hl]⟩
  ·cases h
 |buildSlice t len ps=>
  simp only[comp,exec,iZ,nh] at h ⊢
  split at h
  ·split at h
   ·rename_i e he s z hs hz
    cases hb:Nat.beq s z.length&&Nat.ble (len*s) 65536 with
    |false=>rw[hb] at h;cases h
    |true=>
     rw[hb] at h
     simp only[abf] at h
     split at h
     ·rename_i cs O4
      exact⟨.c cs,(.sl · 0 len len),fun _ _=>by simp only[hb,abf,O4]⟩
     ·cases h
   ·cases h
  ·cases h
 |makeSlice t l c=>
  simp only[comp,exec,iZ,p_] at h ⊢
  split at h
  ·split at h
   ·rename_i s z ll cc hs hz hl hc
    cases hb:Nat.beq s z.length&&Nat.ble ll cc&&Nat.ble cc 65536&&u_ P _ with
    |false=>rw[hb] at h;cases h
    |true=>exact⟨.c (rep cc z),(.sl · 0 ll cc),fun _ _=>by simp only[hb,abf]⟩
   ·cases h
  ·cases h
 |makeMap t r=>
  cases r with
  |some r=>cases h
  |none=>exact⟨.m [] 0,.m,fun _ _=>rfl⟩
 |_=>cases ho
theorem NK{rid:Nat}{x:AO}{K:Nat→CV}(h:put H (some rid) x K=some (v,H')):H.get rid=.res∧H.fl≤rid∧v=K rid∧H'=⟨(bg AO 4 rid).s x H.h,H.n,H.fl⟩:=by
 unfold put at h
 simp only at h
 split at h
 ·rename_i hg
  split at h
  ·rename_i H3 hw
   obtain⟨h1,rfl⟩:=Hp.sQ hw
   cases h
   exact⟨hg,h1,rfl,rfl⟩
  ·cases h
 ·cases h
theorem TD{rid:Nat}{x:AO}{K:Nat→CV}(hg:H.get rid=.res)(hf:H.fl≤rid):put H (some rid) x K=some (K rid,⟨(bg AO 4 rid).s x H.h,H.n,H.fl⟩):=by
 have:H.wr rid x=some ⟨(bg AO 4 rid).s x H.h,H.n,H.fl⟩:=by
  unfold Hp.wr
  rw[show Nat.ble H.fl rid=true from by rw[ab2];exact hf]
  simp only[abf,Bw]
 simp only[put,hg,this]
theorem IX{x:AO}{K:Nat→CV}(h:put H none x K=some (v,H')){j:Nat}(hj:j<H.n):H'.get j=H.get j:=by
 obtain⟨h1,-,rfl⟩:=Hp.qp h
 exact Hp.dF _ _ _ _ _ _ (by omega) h1 (by omega)
theorem Qy{pair:Bool}{id:Nat}(hk:dX E (comp P o ty) pair=.w id)(h:exec P (comp P o ty) E H wq=some (v,H')):∃ x,H'=⟨(bg AO 4 id).s x H.h,H.n,H.fl⟩:=by
 have h0:eY E o=.w id→iZ P o ty E H wq=some (v,H')→∃ x,H'=⟨(bg AO 4 id).s x H.h,H.n,H.fl⟩:=by
  intro hk h
  cases o with
  |store t x y=>
   simp only[eY] at hk
   simp only[iZ] at h
   split at hk
   ·rename_i i off hx
    cases hk
    rw[hx] at h
    unfold Ac at h
    simp only at h
    split at h
    ·rename_i l s hl hs
     cases hb:Nat.beq (cells (eO E y)).length s&&(cells (eO E y)).all fN with
     |false=>rw[hb] at h;cases h
     |true=>
      rw[hb] at h
      simp only[abf] at h
      split at h
      ·split at h
       ·rename_i l' _ H3 hw
        cases h
        exact⟨_,(Hp.sQ hw).2⟩
       ·cases h
      ·cases h
    ·cases h
   ·cases hk
  |slice t x lo hi mx=>simp only[eY] at hk;split at hk<;>cases hk
  |lookup t x k ok=>simp only[eY] at hk;split at hk<;>cases hk
  |convert s d x=>simp only[eY] at hk;split at hk<;>cases hk
  |call c=>
   obtain⟨Jm,xs,ts⟩:=c
   simp only[eY] at hk
   split at hk
   ·split at hk
    ·split at hk<;>cases hk
    ·cases hk
   ·cases hk
   ·cases hk
   ·cases hk
  |_=>cases hk
 rcases qP P o ty with hc|⟨x,hc,hr,-⟩|⟨n,x,hc,-⟩|hc|⟨f,xs,hc,-⟩|⟨x,s,hc,-⟩|hc
 ·rw[hc] at hk h;exact h0 hk h
 ·rw[hc] at hk
  simp only[dX] at hk
  have:=hr E
  split at hk
  ·cases hk
  ·cases hk
  ·rw[hk] at this;cases this
 ·rw[hc] at hk
  simp only[dX] at hk
  split at hk<;>cases hk
 ·rw[Al hc] at hk;cases hk
 ·rw[hc] at h;cases h
 ·rw[hc] at h;cases h
 ·rw[hc] at h;cases h
theorem TE{pair:Bool}(hk:dX E (comp P o ty) pair=.x):(∃ f xs,comp P o ty=.cl f xs)∨nj o=true:=by
 have h0:eY E o=.x→nj o=true:=by
  intro hk
  cases o with
  |slice t x lo hi mx=>simp only[eY] at hk;split at hk<;>cases hk
  |lookup t x k ok=>simp only[eY] at hk;split at hk<;>cases hk
  |store t x k=>simp only[eY] at hk;split at hk<;>cases hk
  |convert s d x=>simp only[eY] at hk;split at hk<;>cases hk
  |call c=>
   obtain⟨Jm,xs,ts⟩:=c
   simp only[eY] at hk
   split at hk
   ·split at hk
    ·split at hk<;>cases hk
    ·cases hk
   ·cases hk
   ·cases hk
   ·cases hk
  |_=>first|rfl|cases hk
 rcases qP P o ty with hc|⟨x,hc,hr,-⟩|⟨n,x,hc,-⟩|hc|⟨f,xs,hc,-⟩|⟨x,s,hc,-⟩|hc
 ·rw[hc] at hk;exact .inr (h0 hk)
 ·rw[hc] at hk
  simp only[dX] at hk
  have:=hr E
  split at hk
  ·cases hk
  ·cases hk
  ·rw[hk] at this;cases this
 ·rw[hc] at hk
  simp only[dX] at hk
  split at hk<;>cases hk
 ·rw[Al hc] at hk;cases hk
 ·exact .inl ⟨f,xs,hc⟩
 ·rw[hc] at hk;cases hk
 ·rw[hc] at hk;cases hk
theorem BK{pair:Bool}(ho:rX o=false){r:CV×Hp}(h:exec P (comp P o ty) E H wq=some r):dX E (comp P o ty) pair=.n:=by
 rcases qP P o ty with hc|⟨x,hc,-,hr⟩|⟨n,x,hc,hr⟩|hc|⟨f,xs,hc,hr,-⟩|⟨x,s,hc,hr,-⟩|hc
 ·rw[hc]
  show eY E o=.n
  cases o with
  |call c=>
   obtain⟨Jm,xs,ts⟩:=c
   simp only[rX] at ho
   split at ho
   ·rfl
   ·rfl
   ·cases ho
  |move x=>cases hc
  |assign x=>cases hc
  |binOp op t x y u=>cases hc
  |pick c a b=>cases hc
  |extract x i=>cases hc
  |fieldAddr t x k=>rw[hc] at h;cases h
  |_=>first|rfl|cases ho
 ·rw[ho] at hr;cases hr
 ·rw[ho] at hr;cases hr
 ·exact Al hc
 ·rw[ho] at hr;cases hr
 ·rw[ho] at hr;cases hr
 ·rw[hc] at h;cases h
theorem K0{pair:Bool}(ho:Dc o=true){r:CV×Hp}(h:exec P (comp P o ty) E H wq=some r):(dX E (comp P o ty) pair).rd=true:=by
 by_cases hq:rX o=false
 ·rw[BK hq h];rfl
 rcases qP P o ty with hc|⟨x,hc,hr,-⟩|⟨n,x,hc,hr⟩|hc|⟨f,xs,hc,-,hr⟩|⟨x,s,hc,-,hr⟩|hc
 ·rw[hc] at h ⊢
  simp only[dX]
  cases o with
  |lookup t x k ok=>
   simp only[exec,iZ] at h
   simp only[eY]
   generalize eO E x=cx at h ⊢
   cases cx<;>first|rfl|(exfalso;unfold ni at h;split at h<;>first|cases h|(rename_i h1;cases h1))
  |slice t x lo hi mx=>simp only[eY];split<;>rfl
  |call c=>
   obtain⟨Jm,xs,ts⟩:=c
   simp only[Dc] at ho
   split at ho
   ·rfl
   ·rfl
   ·rename_i xE
    simp only[eY,xE];split<;>rfl
   ·cases ho
  |load t x=>simp only[comp] at hc;split at hc<;>cases hc
  |_=>first|exact absurd rfl hq|cases ho
 ·rw[hc]
  simp only[dX]
  have:=hr E
  split<;>first|rfl|exact this
 ·rw[hc] at h ⊢
  simp only[dX]
  simp only[exec] at h
  generalize qo E x=cx at h ⊢
  cases cx<;>first|rfl|cases h
 ·rw[Al hc];rfl
 ·rw[ho] at hr;cases hr
 ·rw[ho] at hr;cases hr
 ·rw[hc] at h;cases h
end
end Go.Proofs.YtjdnbobilgamdaaGreatDoor.Ev
end
section
namespace Go.Proofs.YtjdnbobilgamdaaGreatDoor.Ev
open Go
open Ab (aO)
theorem sX{P:Program}{o:Oper}{r:Operand→Value}{w:World}{K K':Value→World→Prop}(h:aO P o r w K)(hk:∀ v w',K v w'→K' v w'):aO P o r w K':=by
 unfold aO at *
 generalize (execOp r o).run P w=res at *
 cases res with
 |ok n w'=>cases n<;>first|exact hk _ _ h|exact h.elim|(intro cs;obtain⟨e,Cy,fr,⟨v,h1,h2⟩,h3⟩:=h cs;exact⟨e,Cy,fr,⟨v,h1,hk _ _ h2⟩,h3⟩)
 |halt x w'=>exact h.elim
theorem Dg{P:Program}{o:Oper}{r:Operand→Value}{w:World}{K:Value→World→Prop}(h:aO P o r w K):∃ v w',K v w':=by
 unfold aO at *
 generalize (execOp r o).run P w=res at *
 cases res with
 |ok n w'=>cases n<;>first|exact⟨_,_,h⟩|exact h.elim|(obtain⟨e,Cy,fr,⟨v,h1,h2⟩,h3⟩:=h [];exact⟨v,Cy,h2⟩)
 |halt x w'=>exact h.elim
section
variable {C:Cx}{rn:Rn}{rid:Nat}{j ja jb:JD}{E:Env}{H H' H1 H2:Hp}{v va vb:CV}{k ka kb:Kind}
theorem Dh(r:Nat)(H:Hp):(⟨(bg AO 4 r).s (H.get r) ((bg AO 4 r).s .free H.h),H.n,H.fl⟩:Hp)=H:=by
 rw[set_set,Hp.get_eq,Jw]
theorem Jy{o:Op}{ty:TypeId}(hj:j.j.i=comp C.P o ty)(h:rE C rn rid j (dX E j.j.i j.pair) E H=some (v,H'))(hk:(dX E j.j.i j.pair).rd=true):
  H'=H∧(Rd H H2 (dX E j.j.i j.pair)→rE C rn rid j (dX E j.j.i j.pair) E H2=some (v,H2)):=by
 unfold rE at h ⊢
 split at h
 ·rename_i f xs hf
  rw[hf] at hk
  simp only[dX] at hk
  cases hp:j.pair<;>rw[hp] at hk<;>cases hk
 ·rename_i aR
  rw[hj] at h hk
  obtain⟨h1,h2⟩:=Jx (H2:=H2) (wq2:=bif j.rv then some rid else none) hk h
  refine⟨h1,fun hr=>?_⟩
  rw[hj] at hr ⊢
  exact h2 hr
theorem Qz{o:Op}{ty:TypeId}(hj:j.j.i=comp C.P o ty)(h:rF C rn rid j (dX E j.j.i j.pair) E H=some (v,H'))(hk:(dX E j.j.i j.pair).rd=true):
  H'=H∧((dX E j.j.i j.pair=.n∨H2=H∨(j.hid=false∧Rd H H2 (dX E j.j.i j.pair)))→rF C rn rid j (dX E j.j.i j.pair) E H2=some (v,H2)):=by
 unfold rF at h ⊢
 cases hh:j.hid with
 |false=>
  rw[hh] at h
  simp only[abJ] at h ⊢
  obtain⟨h1,h2⟩:=Jy (H2:=H2) hj h hk
  refine⟨h1,?_⟩
  rintro(hr|hr|⟨-,hr⟩)
  ·exact h2 (by rw[hr];trivial)
  ·exact h2 (by rw[hr];exact Rd.refl hk)
  ·exact h2 hr
 |true=>
  rw[hh] at h
  simp only[abf] at h ⊢
  split at h
  ·rename_i v' H3 h3
   obtain⟨h1,h2⟩:=Jy (H2:=⟨(bg AO 4 rid).s .free H2.h,H2.n,H2.fl⟩) hj h3 hk
   subst h1
   cases h
   refine⟨Dh _ _,fun hr=>?_⟩
   rw[h2 ?_]
   ·simp only[Dh]
   ·rcases hr with hr|hr|⟨hr,-⟩
    ·rw[hr];trivial
    ·rw[hr];exact Rd.refl hk
    ·cases hr
  ·cases h
theorem Ew{o:Op}{ty:TypeId}(hj:j.j.i=comp C.P o ty)(h:gA C rn rid j E H=some (k,v,H'))(hk:k.rd=true):
  H'=H∧((k=.n∨H2=H∨(j.hid=false∧Rd H H2 k))→gA C rn rid j E H2=some (k,v,H2)):=by
 unfold gA at h ⊢
 cases hw:want E j.j.g with
 |true=>
  rw[hw] at h
  simp only[abf] at h ⊢
  split at h
  ·rename_i v' H3 h3
   cases h
   obtain⟨h1,h2⟩:=Qz (H2:=H2) hj h3 hk
   exact⟨h1,fun hr=>by rw[h2 hr]⟩
  ·cases h
 |false=>
  rw[hw] at h
  simp only[abJ] at h ⊢
  cases hy:yes E j.j.g with
  |false=>rw[hy] at h;cases h
  |true=>rw[hy] at h;cases h;exact⟨rfl,fun _=>rfl⟩
theorem yb(h:gA C rn rid j E H=some (k,v,H'))(hk:k.rd=false):want E j.j.g=true∧k=dX E j.j.i j.pair∧rF C rn rid j k E H=some (v,H'):=by
 unfold gA at h
 cases hw:want E j.j.g with
 |true=>
  rw[hw] at h
  simp only[abf] at h
  split at h
  ·rename_i v' H3 h3;cases h;exact⟨rfl,rfl,h3⟩
  ·cases h
 |false=>
  rw[hw] at h
  simp only[abJ] at h
  cases hy:yes E j.j.g with
  |false=>rw[hy] at h;cases h
  |true=>rw[hy] at h;cases h;cases hk
theorem Ex(hw:want E j.j.g=true)(hk:k=dX E j.j.i j.pair)(h:rF C rn rid j k E H=some (v,H')):gA C rn rid j E H=some (k,v,H'):=by
 subst hk
 simp only[gA,hw,abf,h]
theorem NL{o:Op}{ty:TypeId}(hj:j.j.i=comp C.P o ty)(hh:j.hid=false){id:Nat}(h:gA C rn rid j E H=some (.w id,v,H')):∃ x,H'=⟨(bg AO 4 id).s x H.h,H.n,H.fl⟩:=by
 obtain⟨-,h1,h2⟩:=yb h rfl
 simp only[rF,hh,abJ] at h2
 unfold rE at h2
 split at h2
 ·rename_i f xs hf
  rw[hf] at h1
  simp only[dX] at h1
  cases hp:j.pair<;>rw[hp] at h1<;>cases h1
 ·rw[hj] at h1 h2
  exact Qy h1.symm h2
theorem Jz{o:Op}{ty:TypeId}(hj:j.j.i=comp C.P o ty)(ho:nj o=true)(hv:j.rv=true)(hh:j.hid=false)(h:gA C rn rid j E H=some (k,v,H'))(hk:k.rd=false):
  ∃ x,H.get rid=.res∧H.fl≤rid∧H'=⟨(bg AO 4 rid).s x H.h,H.n,H.fl⟩∧∀ H2:Hp,H2.get rid=.res→H2.fl≤rid→gA C rn rid j E H2=some (k,v,⟨(bg AO 4 rid).s x H2.h,H2.n,H2.fl⟩):=by
 obtain⟨h0,h1,h2⟩:=yb h hk
 have oQ:∀ f xs,comp C.P o ty≠.cl f xs:=fun f xs hc=>by
  cases o<;>first|(cases ho;done)|(cases hc;done)
 have hs:∀ H2,rF C rn rid j k E H2=exec C.P (comp C.P o ty) E H2 (some rid):=fun H2=>by
  unfold rF
  rw[hh]
  simp only[abJ]
  unfold rE
  split
  ·rename_i f xs hf;rw[hj] at hf;exact absurd hf (oQ f xs)
  ·rw[hj,hv];rfl
 rw[hs] at h2
 obtain⟨x,K,hx⟩:=Gn ho h2
 rw[hx] at h2
 obtain⟨h3,h4,h5,h6⟩:=NK h2
 exact⟨x,h3,h4,h6,fun H2 h7 h8=>Ex h0 h1 (by rw[hs,hx,TD h7 h8,h5])⟩
theorem BL{o:Op}{ty:TypeId}(hj:j.j.i=comp C.P o ty)(ho:nj o=true)(h:gA C rn rid j E H=some (k,v,H')):k=.n∨k.rd=false:=by
 by_cases hk:k.rd=true
 ·left
  unfold gA at h
  cases hw:want E j.j.g with
  |true=>
   rw[hw] at h
   simp only[abf] at h
   split at h
   ·cases h
    exfalso
    rw[hj] at hk
    cases o<;>first|(cases ho;done)|(cases hk;done)
   ·cases h
  |false=>
   rw[hw] at h
   simp only[abJ] at h
   cases hy:yes E j.j.g with
   |false=>rw[hy] at h;cases h
   |true=>rw[hy] at h;cases h;rfl
 ·right;simpa using hk
theorem Gp(hh:j.hid=true)(h:gA C rn rid j E H=some (k,v,H')):k=.n∨∃ Hh:Hp,H'=⟨(bg AO 4 rid).s (H.get rid) Hh.h,Hh.n,Hh.fl⟩∧
  ∀ H2:Hp,(bg AO 4 rid).s .free H2.h=(bg AO 4 rid).s .free H.h→H2.n=H.n→H2.fl=H.fl→gA C rn rid j E H2=some (k,v,⟨(bg AO 4 rid).s (H2.get rid) Hh.h,Hh.n,Hh.fl⟩):=by
 unfold gA at h
 cases hw:want E j.j.g with
 |true=>
  rw[hw] at h
  simp only[abf] at h
  split at h
  ·rename_i v' H3 h3
   cases h
   right
   simp only[rF,hh,abf] at h3
   split at h3
   ·rename_i v2 Hh h4
    cases h3
    refine⟨Hh,rfl,fun H2 e1 e2 e3=>Ex hw rfl ?_⟩
    simp only[rF,hh,abf,e1,e2,e3,h4]
   ·cases h3
  ·cases h
 |false=>
  rw[hw] at h
  simp only[abJ] at h
  cases hy:yes E j.j.g with
  |false=>rw[hy] at h;cases h
  |true=>rw[hy] at h;cases h;exact .inl rfl
inductive NN(C:Cx)(n0:Nat)(ja jb:JD)(ka kb:Kind):Prop
 |na (h:ka=.n)
 |nb (h:kb=.n)
 |rd (ha:ka.rd=true) (hb:kb.rd=true)
 |cm (ha:ja.hid=false) (YN:ja.rv=false) (hb:jb.hid=false) (xE:jb.rv=false) (h:vh n0 ka kb=true)
 |ra (ha:ja.rv=true) (hh:ja.hid=false) (o:Op) (ty:TypeId) (hj:ja.j.i=comp C.P o ty) (ho:nj o=true) (hb:jb.hid=true)
 |rb (ha:jb.rv=true) (hh:jb.hid=false) (o:Op) (ty:TypeId) (hj:jb.j.i=comp C.P o ty) (ho:nj o=true) (hb:ja.hid=true)
theorem NO{i b n f n' f':Nat}{x:AO}{h:Tr AO 4}(hb:Nat.beq i b=false)(h1:i<4096)(h2:b<4096):(⟨(bg AO 4 b).s x h,n,f⟩:Hp).get i=(⟨h,n',f'⟩:Hp).get i:=
 Hp.dF _ _ _ _ _ _ h1 h2 (fun hc=>by rw[hc,aej] at hb;cases hb)
theorem Ey{n0:Nat}(h:vh n0 ka kb=true):ka=.n∨kb=.n∨(ka.rd=true∧kb.rd=true)∨
  (∃ a b,ka=.r a∧kb=.w b∧Nat.beq a b=false∧a<4096∧b<4096)∨(∃ a,ka=.r a∧kb=.x∧a<n0)∨
  (∃ a b,ka=.w a∧kb=.r b∧Nat.beq b a=false∧a<4096∧b<4096)∨(∃ b,ka=.x∧kb=.r b∧b<n0):=by
 cases ka with
 |n=>exact .inl rfl
 |r a=>
  cases kb with
  |n=>exact .inr (.inl rfl)
  |r b=>exact .inr (.inr (.inl ⟨rfl,rfl⟩))
  |w b=>
   simp only[vh,aaT,abC,abK] at h
   exact .inr (.inr (.inr (.inl ⟨a,b,rfl,rfl,h.1.1,h.1.2,h.2⟩)))
  |x=>
   simp only[vh,abK] at h
   exact .inr (.inr (.inr (.inr (.inl ⟨a,rfl,rfl,h⟩))))
  |b=>cases h
 |w a=>
  cases kb with
  |n=>exact .inr (.inl rfl)
  |r b=>
   simp only[vh,aaT,abC,abK] at h
   refine .inr (.inr (.inr (.inr (.inr (.inl ⟨a,b,rfl,rfl,?_,h.1.2,h.2⟩)))))
   rw[QA] at h ⊢
   have:=h.1.1
   simp only[decide_eq_false_iff_not] at this ⊢
   exact fun hc=>this hc.symm
  |w b=>cases h
  |x=>cases h
  |b=>cases h
 |x=>
  cases kb with
  |n=>exact .inr (.inl rfl)
  |r b=>
   simp only[vh,abK] at h
   exact .inr (.inr (.inr (.inr (.inr (.inr ⟨b,rfl,rfl,h⟩)))))
  |w b=>cases h
  |x=>cases h
  |b=>cases h
 |b=>
  cases kb with
  |n=>exact .inr (.inl rfl)
  |r b=>cases h
  |w b=>cases h
  |x=>cases h
  |b=>cases h
theorem Wp{n0:Nat}{oa ob:Op}{ta tb:TypeId}(ha:ja.j.i=comp C.P oa ta)(hb:jb.j.i=comp C.P ob tb)(hp:NN C n0 ja jb ka kb)
  (h1:gA C rn rid ja E H=some (ka,va,H1))(h2:gA C rn rid jb E H1=some (kb,vb,H2))(Uz:H1.fl=H.fl)(XT:H2.fl=H1.fl)
  (hxa:ja.hid=false→ja.rv=false→ka=.x→∀ i,i<n0→H1.get i=H.get i)(hxb:jb.hid=false→jb.rv=false→kb=.x→∀ i,i<n0→H2.get i=H1.get i):
  ∃ H3,gA C rn rid jb E H=some (kb,vb,H3)∧gA C rn rid ja E H3=some (ka,va,H2):=by
 have first:ka.rd=true→(ka=.n∨H2=H1∨(ja.hid=false∧Rd H1 H2 ka))→∃ H3,gA C rn rid jb E H=some (kb,vb,H3)∧gA C rn rid ja E H3=some (ka,va,H2):=by
  intro hk hr
  obtain⟨e1,e2⟩:=Ew (H2:=H2) ha h1 hk
  subst e1
  exact⟨H2,h2,e2 hr⟩
 have second:kb.rd=true→(kb=.n∨H=H1∨(jb.hid=false∧Rd H1 H kb))→∃ H3,gA C rn rid jb E H=some (kb,vb,H3)∧gA C rn rid ja E H3=some (ka,va,H2):=by
  intro hk hr
  obtain⟨e1,e2⟩:=Ew (H2:=H) hb h2 hk
  subst e1
  exact⟨H,e2 hr,h1⟩
 have hnb:kb.rd=true→H2=H1:=fun hk=>(Ew (H2:=H2) hb h2 hk).1
 have hbd:ka.rd=true→kb.rd=true→∃ H3,gA C rn rid jb E H=some (kb,vb,H3)∧gA C rn rid ja E H3=some (ka,va,H2):=fun h3 h4=>first h3 (.inr (.inl (hnb h4)))
 cases hp with
 |na h=>exact first (by rw[h];rfl) (.inl h)
 |nb h=>exact second (by rw[h];rfl) (.inl h)
 |rd h3 h4=>exact hbd h3 h4
 |cm k1 k3 k2 k4 h=>
  rcases Ey h with h|h|⟨h3,h4⟩|⟨a,b,rfl,rfl,h3,h4,h5⟩|⟨a,rfl,rfl,h3⟩|⟨a,b,rfl,rfl,h3,h4,h5⟩|⟨b,rfl,rfl,h3⟩
  ·exact first (by rw[h];rfl) (.inl h)
  ·exact second (by rw[h];rfl) (.inl h)
  ·exact hbd h3 h4
  ·refine first rfl (.inr (.inr ⟨k1,?_⟩))
   obtain⟨x,rfl⟩:=NL hb k2 h2
   exact NO h3 h4 h5
  ·exact first rfl (.inr (.inr ⟨k1,hxb k2 k4 rfl a h3⟩))
  ·refine second rfl (.inr (.inr ⟨k2,?_⟩))
   obtain⟨x,rfl⟩:=NL ha k1 h1
   exact(NO h3 h5 h4).symm
  ·exact second rfl (.inr (.inr ⟨k2,(hxa k1 k3 rfl b h3).symm⟩))
 |ra k1 k2 o ty k3 k4 k5=>
  rcases BL k3 k4 h1 with hk|hk
  ·exact first (by rw[hk];rfl) (.inl hk)
  ·obtain⟨x,e1,e2,rfl,e4⟩:=Jz k3 k4 k1 k2 h1 hk
   rcases Gp k5 h2 with oJ|⟨Hh,rfl,e5⟩
   ·exact second (by rw[oJ];rfl) (.inl oJ)
   ·refine⟨_,e5 H (by simp only[set_set]) rfl rfl,?_⟩
    rw[e4 _ (by rw[Hp.get_set_same];exact e1) (by simp only at XT ⊢;omega)]
    simp only[set_set,Hp.get_set_same]
 |rb k1 k2 o ty k3 k4 k5=>
  rcases BL k3 k4 h2 with hk|hk
  ·exact second (by rw[hk];rfl) (.inl hk)
  ·obtain⟨x,e1,e2,rfl,e4⟩:=Jz k3 k4 k1 k2 h2 hk
   rcases Gp k5 h1 with oJ|⟨Hh,rfl,e5⟩
   ·exact first (by rw[oJ];rfl) (.inl oJ)
   ·rw[Hp.get_set_same] at e1
    refine⟨_,e4 H e1 (by simp only at Uz e2;omega),?_⟩
    rw[e5 ⟨(bg AO 4 rid).s x H.h,H.n,H.fl⟩ (by simp only[set_set]) rfl rfl]
    simp only[set_set,Hp.get_set_same]
end
end Go.Proofs.YtjdnbobilgamdaaGreatDoor.Ev
end
section
namespace Go.Proofs.YtjdnbobilgamdaaGreatDoor.Ev
open Go
open Ab (aO)
section
variable {C:Cx}{rn:Rn}{rid n i:Nat}{ops:Array Oper}{o:Oper}{E E':Env}{H H':Hp}{v:CV}{k:Kind}
noncomputable def dL(C:Cx)(n:Nat)(ops:Array Oper)(i:Nat)(o:Oper):JD:=
 ⟨ic C.P n ops o,Wl (pE ops) i,Er ops (mI ops) i,(match mI ops with|some r=>Nat.beq r i|none=>false)⟩
theorem qQ(h:gA C rn rid (dL C n ops i o) E H=some (k,v,H')):uK n o.dst=true∧(dL C n ops i o).j.i=comp C.P o.op o.type∧(dL C n ops i o).j.d=o.dst.map (bg CV 3)∧
  match o.guard with
  |none=>(dL C n ops i o).j.g=none
  |some (j,wt)=>∃ t,(ops[j]?).bind (·.dst)=some t∧t<512∧(dL C n ops i o).j.g=some (iM CV 3 t,wt):=by
 have Cp:∀ {j:JD},j.j=⟨none,.bad,none⟩→gA C rn rid j E H≠some (k,v,H'):=by
  rintro⟨j,pair,hid,rv⟩ hj hs
  simp only at hj
  subst hj
  have hH:∀ (kk:Kind) (K:Hp),rE C rn rid ⟨⟨none,.bad,none⟩,pair,hid,rv⟩ kk E K=none:=fun _ _=>rfl
  have:rF C rn rid ⟨⟨none,.bad,none⟩,pair,hid,rv⟩ (dX E .bad pair) E H=none:=by
   unfold rF
   cases hid<;>simp only[abf,abJ,hH]
  simp only[gA,want,abf,this] at hs
  cases hs
 have hc:uK n o.dst=true:=by
  cases hd:uK n o.dst with
  |true=>rfl
  |false=>exact absurd h (Cp (by simp only[dL,ic,hd,abJ]))
 refine⟨hc,?_⟩
 unfold dL ic at h ⊢
 simp only[hc,abf] at h ⊢
 cases hg:o.guard with
 |none=>simp
 |some p=>
  obtain⟨j,wt⟩:=p
  simp only[hg] at h ⊢
  split at h
  ·rename_i t ht
   simp only[ht]
   cases aN:Nat.blt t 512 with
   |false=>rw[aN] at h;exact absurd h (Cp rfl)
   |true=>
    simp only[abf,true_and,aaW]
    exact⟨t,rfl,by simpa[abK] using aN,rfl⟩
  ·exact absurd h (Cp rfl)
theorem JA(pP:rC C.P rn){j:JD}{o:Op}{ty:TypeId}(hj:j.j.i=comp C.P o ty)(h:rE C rn rid j k E H=some (v,H'))(hr:j.rv=true→rid<H.n):ij C.P o ty (eO E) H v H':=by
 unfold rE at h
 split at h
 ·rename_i f xs hf
  rw[hj] at hf
  obtain⟨g,ys,ts,rfl,rfl,rfl⟩:=t_ hf
  split at h
  ·split at h
   ·rename_i v' H3 h3
    cases h
    intro σ w r pos after guard dst hw hx
    refine sX (w7 pP h3 σ w r pos after guard dst (hw.floor hw.fl (aaZ _)) hx) ?_
    rintro rv w' ⟨aE,k1,k2,k3⟩
    obtain⟨e1,e2⟩:=hw.lower k1 k2
    exact⟨aE,e1,e2,k3⟩
   ·cases h
  ·exact w7 pP h
 ·rw[hj] at h
  exact Jn h (fun id hid=>by
   cases hv:j.rv with
   |true=>rw[hv] at hid;cases hid;exact hr hv
   |false=>rw[hv] at hid;cases hid)
theorem QB(pP:rC C.P rn){j:JD}{o:Op}{ty:TypeId}(hj:j.j.i=comp C.P o ty)(h:rF C rn rid j k E H=some (v,H'))(hr:j.rv=true∨j.hid=true→rid<H.n∧H.fl≤rid):ij C.P o ty (eO E) H v H':=by
 unfold rF at h
 cases hh:j.hid with
 |false=>rw[hh] at h;exact JA pP hj h (fun hv=>(hr (.inl hv)).1)
 |true=>
  rw[hh] at h
  simp only[abf] at h
  obtain⟨r1,r2⟩:=hr (.inr hh)
  split at h
  ·rename_i v' H3 h3
   cases h
   intro σ w r pos after guard dst hw hx
   refine sX (JA pP hj h3 (fun _=>r1) σ w r pos after guard dst (hw.VB r1) hx) ?_
   rintro rv w' ⟨aE,k1,k2,k3⟩
   obtain⟨e1,e2⟩:=hw.Mq r1 r2 k1 k2
   exact⟨aE,e1,e2,k3⟩
  ·cases h
theorem NP{σ:Sg}{a:Act}{w:World}(hs:jv n σ E H a w){j t:Nat}{wt:Bool}(hg:o.guard=some (j,wt))(ht:(ops[j]?).bind (·.dst)=some t)(aN:t<512)(hy:want E (some (iM CV 3 t,wt))=true∨yes E (some (iM CV 3 t,wt))=true):
  Region.wanted o (yielded ops a.tmps)=want E (some (iM CV 3 t,wt)):=by
 have hr:=hs.2.2.2 t aN
 have hyb:∀ b,a.tmps.getD t undef=.bool b→yielded ops a.tmps j=some b:=by
  intro b hb
  have Cd:t<a.tmps.size:=by
   rcases ab8 t a.tmps.size with h|h
   ·exact h
   ·simp[Array.getD,ad8.2 h,undef] at hb
  have:a.tmps[t]?=some (.bool b):=by
   simp[Array.getD,Cd] at hb;simp[Cd,hb]
  simp[yielded,ht,this]
 have Md:∀ x,a.tmps.getD t undef=.tuple x→yielded ops a.tmps j=none:=by
  intro x hx
  simp only[yielded,ht,aaQ]
  rcases ab8 t a.tmps.size with h|h
  ·have:a.tmps[t]?=some (.tuple x):=by
    simp[Array.getD,h] at hx;simp[h,hx]
   simp[this]
  ·simp[h]
 simp only[want,yes] at hy ⊢
 generalize (iM CV 3 t).g E=cg at hr hy ⊢
 cases cg with
 |b q=>
  have XS:=hyb q hr
  simp only[Region.wanted,hg,XS]
  cases wt<;>cases q<;>rfl
 |v x=>
  cases x with
  |tuple xs=>simp[Region.wanted,hg,Md xs hr]
  |_=>rcases hy with hy|hy<;>cases hy
 |_=>rcases hy with hy|hy<;>cases hy
theorem JB(pP:rC C.P rn)(h:gA C rn rid (dL C n ops i o) E H=some (k,v,H'))(hr:(dL C n ops i o).rv=true∨(dL C n ops i o).hid=true→rid<H.n∧H.fl≤rid){σ:Sg}{a:Act}{w:World}(hs:jv n σ E H a w):
  (Region.wanted o (yielded ops a.tmps)=true→aO C.P o a.eval w fun rv w'=>∃ aE,jv n aE (rA E (dL C n ops i o).j.d v) H' (a.put o.dst rv) w'∧cG σ H w aE H' w')∧
  (Region.wanted o (yielded ops a.tmps)=false→jv n σ (rA E (dL C n ops i o).j.d v) H' (a.put o.dst undef) w∧H'=H):=by
 obtain⟨hd,hc,he,hg⟩:=qQ h
 have Gc:∀ d,o.dst=some d→d<n∧n≤512:=by
  intro d Y5
  rw[Y5] at hd
  simp only[uK,aaT,abK,ab2] at hd
  exact hd
 rw[he]
 have w9:Region.wanted o (yielded ops a.tmps)=want E (dL C n ops i o).j.g:=by
  cases Af:o.guard with
  |none=>rw[Af] at hg;simp only at hg;rw[hg];simp[Region.wanted,Af,want]
  |some p=>
   obtain⟨j,wt⟩:=p
   rw[Af] at hg
   obtain⟨t,h1,h2,h3⟩:=hg
   rw[h3]
   refine NP hs Af h1 h2 ?_
   rw[←h3]
   unfold gA at h
   cases hw:want E (dL C n ops i o).j.g with
   |true=>exact .inl rfl
   |false=>
    rw[hw] at h
    simp only[abJ] at h
    cases hy:yes E (dL C n ops i o).j.g with
    |true=>exact .inr rfl
    |false=>rw[hy] at h;cases h
 unfold gA at h
 rw[w9]
 cases hw:want E (dL C n ops i o).j.g with
 |true=>
  rw[hw] at h
  simp only[abf] at h
  refine⟨fun _=>?_,fun hf=>by cases hf⟩
  split at h
  ·rename_i v' H3 h3
   cases h
   obtain⟨dst,op,ty,pos,after,guard⟩:=o
   refine sX (QB pP hc h3 hr σ w a.eval pos after guard dst hs.2.2.1 (fun x _=>vd hs.2.2.2 x)) ?_
   rintro rv w' ⟨aE,k1,k2,k3⟩
   exact⟨aE,hs.put Gc k1 k2 k3,k2⟩
  ·cases h
 |false=>
  rw[hw] at h
  simp only[abJ] at h
  refine⟨fun hf=>(by cases hf),fun _=>?_⟩
  cases hy:yes E (dL C n ops i o).j.g with
  |false=>rw[hy] at h;cases h
  |true=>
   rw[hy] at h;cases h
   exact⟨hs.put Gc hs.2.2.1 (.refl _ _ _) rfl,rfl⟩
theorem NQ(pP:rC C.P rn)(h:gA C rn rid (dL C n ops i o) E H=some (k,v,H'))(hr:(dL C n ops i o).rv=true∨(dL C n ops i o).hid=true→rid<H.n∧H.fl≤rid){σ:Sg}{a:Act}{w:World}(hs:jv n σ E H a w):
  ∃ aE a' w',jv n aE (rA E (dL C n ops i o).j.d v) H' a' w'∧cG σ H w aE H' w':=by
 obtain⟨h1,h2⟩:=JB pP h hr hs
 cases hw:Region.wanted o (yielded ops a.tmps) with
 |true=>
  obtain⟨rv,w',aE,k1,k2⟩:=Dg (h1 hw)
  exact⟨aE,_,w',k1,k2⟩
 |false=>
  obtain⟨k1,rfl⟩:=h2 hw
  exact⟨σ,_,w,k1,.refl _ _ _⟩
theorem NR(pP:rC C.P rn)(h:gA C rn rid (dL C n ops i o) E H=some (.x,v,H'))(hh:(dL C n ops i o).hid=false)(hv:(dL C n ops i o).rv=false){σ:Sg}{a:Act}{w:World}(hs:jv n σ E H a w){id:Nat}(hi:id<H.n):H'.get id=H.get id:=by
 obtain⟨hd,hc,he,hg⟩:=qQ h
 obtain⟨-,h1,h2⟩:=yb h rfl
 simp only[rF,hh,abJ] at h2
 have hw:=hs.2.2.1
 rcases TE (E:=E) (pair:=(dL C n ops i o).pair) (by rw[←hc];exact h1.symm) with ⟨f,xs,oQ⟩|Tq
 ·simp only[rE,hc,oQ] at h2
  split at h2
  ·rename_i v' H3 h3
   cases h2
   obtain⟨g,ys,ts,ho,rfl,rfl⟩:=t_ oQ
   obtain⟨rv,w',aE,k1,k2,k3⟩:=Dg (w7 (ty:=o.type) (ts:=ts) pP h3 σ w a.eval "" #[] none none (hw.floor hw.fl (aaZ _)) (fun x _=>vd hs.2.2.2 x))
   exact k2.low id hi
  ·cases h2
 ·have oQ:∀ f xs,comp C.P o.op o.type≠.cl f xs:=fun f xs Zh=>by
   obtain⟨dst,op,ty,pos,after,guard⟩:=o
   cases op<;>first|(cases Tq;done)|(cases Zh;done)
  unfold rE at h2
  split at h2
  ·rename_i f xs hf;rw[hc] at hf;exact absurd hf (oQ f xs)
  ·rw[hc,hv] at h2
   obtain⟨x,K,hx⟩:=Gn Tq h2
   rw[hx] at h2
   exact IX h2 hi
def Zi(ops:Array Oper)(o:Oper)(E E':Env):Prop:=∀ t,t∈py ops o→t<512→(iM CV 3 t).g E=(iM CV 3 t).g E'
theorem Wq(h:Zi ops o E E'):∀ x,x∈o.op.operands→eO E x=eO E' x:=by
 intro x hx
 cases x with
 |tmp t=>
  unfold eO
  simp only[dK]
  cases aN:Nat.blt t 512 with
  |false=>simp only[abJ];rfl
  |true=>
   simp only[abf,RQ]
   exact h t (acS _ (adZ.2 ⟨.tmp t,by simpa using hx,rfl⟩)) (by simpa[abK] using aN)
 |_=>rfl
theorem Gq{j:JD}(hw:want E j.j.g=want E' j.j.g)(hy:yes E j.j.g=yes E' j.j.g)(hk:dX E j.j.i j.pair=dX E' j.j.i j.pair)(hx:∀ H wq,exec C.P j.j.i E H wq=exec C.P j.j.i E' H wq)(hv:∀ f xs H,j.j.i=.cl f xs→uL rn E f xs H=uL rn E' f xs H):
  gA C rn rid j E H=gA C rn rid j E' H:=by
 have hH:∀ kk K,rE C rn rid j kk E K=rE C rn rid j kk E' K:=by
  intro kk K
  unfold rE
  split
  ·rename_i f xs hf;simp only[hv f xs _ hf]
  ·exact hx _ _
 simp only[gA,rF,hw,hy,hk,hH]
theorem BM(h:Zi ops o E E')(hs:gA C rn rid (dL C n ops i o) E H=some (k,v,H')):gA C rn rid (dL C n ops i o) E' H=some (k,v,H'):=by
 obtain⟨hd,hc,he,hg⟩:=qQ hs
 rw[←hs]
 have hx:=Wq h
 have Af:want E' (dL C n ops i o).j.g=want E (dL C n ops i o).j.g∧yes E' (dL C n ops i o).j.g=yes E (dL C n ops i o).j.g:=by
  cases Af:o.guard with
  |none=>rw[Af] at hg;simp only at hg;rw[hg];exact⟨rfl,rfl⟩
  |some p=>
   obtain⟨j,wt⟩:=p
   rw[Af] at hg
   obtain⟨t,h1,h2,h3⟩:=hg
   have:(iM CV 3 t).g E=(iM CV 3 t).g E':=h t (ael _ (by rw[Af];simp[h1])) h2
   rw[h3]
   simp only[want,yes,this,and_self]
 refine Gq Af.1 Af.2 ?_ (fun H wq=>?_) (fun f xs H hf=>?_)
 ·rw[hc];exact(Gl hx).symm
 ·rw[hc];exact(Ic hx).symm
 ·rw[hc] at hf
  obtain⟨g,ys,ts,ho,rfl,rfl⟩:=t_ hf
  rw[ho] at hx
  exact(Gm hx).symm
end
end Go.Proofs.YtjdnbobilgamdaaGreatDoor.Ev
end
