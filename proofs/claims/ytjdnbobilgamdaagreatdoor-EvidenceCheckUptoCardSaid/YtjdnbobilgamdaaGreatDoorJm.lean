/- Tables: lists of rows that hold a text and a list that grows. Tables: rows put in, made one by one, taken one by one. Tables whose lists are made one by one, or taken one by one. Calls that are handed tables, where the order is open too; a table under a new number. Loops that are unrolled, pointers that are there where no error is, arrays of lists, lists of lists under the length of what they hold. strings.Join in the plain language. Conditions: none. -/
import Derived.Test.YtjdnbobilgamdaaGreatDoorAb50
import Derived.Test.YtjdnbobilgamdaaGreatDoorAb29
import Derived.Lib.Join
section
namespace Go.Proofs.YtjdnbobilgamdaaGreatDoor.Ab
open Go
def XG(x:List UInt8×Hd):D:=.agg [.str x.1,.raw (VA x.2)]
theorem YE:En XG 2:=⟨fun _=>rfl,fun x y hy=>by
 have:y=.str x.1∨y=.raw (VA x.2):=by simpa[XG,D.cells] using hy
 rcases this with rfl|rfl<;>rfl⟩
def Ry(ks:List (List UInt8))(Vs:List Hd):List D:=(ks.zip Vs).map XG
section
variable {α β:Type}
def Rz(kf:β→List UInt8)(lf:β→List α)(f:α→D)(e eo:TypeId)(m:List β)(y:Option (Nat×Nat×Nat)):HE:=
 if m=[] then .bn [] eo 2 else .ob (cO (HI eo 2 (Ry (m.map kf))) e (LB f (m.map lf) y))
variable {kf:β→List UInt8}{lf:β→List α}{f:α→D}{e eo:TypeId}{m:List β}{y:Option (Nat×Nat×Nat)}
end
section
variable {F:FC}{E:Nat→V}{H:List HE}{α β:Type}{kf:β→List UInt8}{lf:β→List α}{f:α→D}{e eo:TypeId}{m:List β}
end
section
variable {P:Program}{ρ:Operand→V}{H:List HE}{ty:TypeId}{α β:Type}{kf:β→List UInt8}{lf:β→List α}{f:α→D}{e eo:TypeId}{m:List β}{y:Option (Nat×Nat×Nat)}
end
section
variable {H:List HE}{α β:Type}{kf:β→List UInt8}{lf:β→List α}{f:α→D}{e eo:TypeId}{m:List β}
def VH(kf:β→List UInt8)(lf:β→List α)(f:α→D)(x:β):D:=.agg [.str (kf x),.sl ((lf x).map f)]
theorem SZ{g:G}{w:World}{id b:Nat}{Vs:List Hd}{Pr':Nat→Nat→Prop}(hC:XB (HI eo 2 (Ry (m.map kf))) e (LB f (m.map lf) none) g w id b Vs)(hP:∀ b o,g.Pr b o→Pr' b o)(hb:∀ o,Pr' b o)(hu:∀ b' o,g.υ id b'→Pr' b' o)(h1:∀ x,(f x).cells=[f x]):
  ∃ cap,g.τ id=some (0,some ⟨b,0,none⟩,cap)∧aV Pr' w (.sl (m.map (VH kf lf f))) (.slice (some ⟨b,0,none⟩) m.length cap):=by
 obtain⟨cap,arr,o1,o2,o3,o4,o5,o6,o7⟩:=hC.c
 have hV:Vs.length=m.length:=by rw[hC.len,PJ,aa4]
 have hL:(Ry (m.map kf) Vs).length=m.length:=by simp[Ry,hV]
 have mono:∀ b o,g.Pr b o→Pr' b o∧w.cell? ⟨b,o,none⟩=w.cell? ⟨b,o,none⟩:=fun b o h=>⟨hP b o h,rfl⟩
 refine⟨cap,o1,?_⟩
 have key:=aV.sl (Pr:=Pr') (w:=w) (m.map (VH kf lf f)) (some ⟨b,0,none⟩) cap 2 (fun k=>(w.cell? ⟨b,k,none⟩).getD undef) (fun x hx=>by obtain⟨y,_,rfl⟩:=abS.1 hx;rfl) (by simp;omega) (fun aR=>⟨b,0,rfl,fun k hk=>⟨hb _,?_⟩⟩) (fun k x hx=>?_)
 ·exact au
 ·simp only[aa4] at hk
  have:k<arr.size:=by omega
  simp only[abY,aL o5]
  simp[this]
 ·obtain⟨y,hy,IY⟩:=xP (s:=2) (fun _=>rfl) hx
  have xA:k/2<m.length:=(aaS.1 hy).1
  have Vr:k/2<Vs.length:=by omega
  have zo:k<arr.size:=by omega
  have hz:((m.map kf).zip Vs)[k/2]?=some (kf y,Vs[k/2]):=List.getElem?_zip_eq_some.2 ⟨by simp[hy],by simp[Vr]⟩
  have Aw:∀ j,j<2→(D.flat (Ry (m.map kf) Vs))[k/2*2+j]?=(XG (kf y,Vs[k/2])).cells[j]?:=fun j hj=>sA (fun x hx=>YE.Ls _ x hx) (by simp only[aba,hz,abN]) hj
  have YF:arr[k]?=some arr[k]:=by simp[zo]
  have kD:(w.cell? ⟨b,k,none⟩).getD undef=arr[k]:=by rw[aL o5,YF];rfl
  simp only[kD]
  have hm:k%2=0∨k%2=1:=by omega
  rcases hm with hm|hm
  ·rw[hm] at IY
   have YG:x=.str (kf y):=by simpa[VH,D.cells] using IY.symm
   have:=Aw 0 (by omega)
   rw[show k/2*2+0=k by omega] at this
   have h3:=o7 k (.str (kf y)) arr[k] (by rw[this];rfl) YF
   rw[YG]
   exact h3.mono mono
  ·rw[hm] at IY
   have YG:x=.sl ((lf y).map f):=by simpa[VH,D.cells] using IY.symm
   have:=Aw 1 (by omega)
   rw[show k/2*2+1=k by omega] at this
   have h3:=o7 k (.raw (VA Vs[k/2])) arr[k] (by rw[this];rfl) YF
   have h4:arr[k]=VA Vs[k/2]:=by
    generalize arr[k]=u at h3
    cases h3 with
    |raw=>rfl
   rw[YG,h4]
   have k_:=hC.row (k/2) (.own ((lf y).map f)) Vs[k/2] (by simp[LB,hy]) (by simp[Vr])
   generalize Vs[k/2]=v at k_
   obtain⟨a2,aal,Cj⟩:=v
   obtain⟨z1,z2,z3,z4⟩:=k_
   simp only at z1 z2 z3 z4
   subst z1
   refine .sl ((lf y).map f) a2 Cj 1 (fun k=>match a2 with|some ad=>(w.cell? ⟨ad.block,k,none⟩).getD undef|none=>undef) (fun x hx=>by obtain⟨y,_,rfl⟩:=abS.1 hx;rw[h1];rfl) z2 (fun aR=>?_) (fun Ki x hx=>?_)
   ·have di:0<Cj:=by have:=abA.2 aR;omega
    obtain⟨br,ki,rfl,y2,y3,y4,y5,y6⟩:=z4 di
    refine⟨br,0,rfl,fun k3 LA=>⟨hu _ _ y2,?_⟩⟩
    have:k3<ki.size:=by omega
    simp only[abY,aL y4]
    simp[this]
   ·rw[jU h1] at hx
    have LA:Ki<((lf y).map f).length:=(aaS.1 hx).1
    obtain⟨br,ki,rfl,y2,y3,y4,y5,y6⟩:=z4 (by omega)
    have:Ki<ki.size:=by omega
    simp only[aL y4]
    have h4:ki[Ki]?=some ki[Ki]:=au
    rw[h4]
    exact(y6 Ki x _ hx h4).mono mono
end
def VI(g:G)(H:List HE)(ids:List Nat)(b:Nat):Prop:=∃ id x,id∈ids∧H[id]?=some x∧g.aD id x b
def LPr(g:G)(H:List HE)(ids:List Nat)(b o:Nat):Prop:=g.Pr b o∨VI g H ids b
def LR(ρ:Operand→V)(H:List HE)(ids:List Nat)(x:Operand)(d:D):Prop:=∀ (g:G) (w:World) (v:Value),aQ g w H→cu g w (ρ x) v→aV (LPr g H ids) w d v
inductive LK(H:List HE):List Nat→Prop
 |nil:LK H []
 |bn {id s:Nat} {l:List D} {e:TypeId} {ids:List Nat}:H[id]?=some (.bn l e s)→LK H ids→LK H (id::ids)
 |tb {α β:Type} {kf:β→List UInt8} {lf:β→List α} {f:α→D} {e eo:TypeId} {m:List β} {y:Option (Nat×Nat×Nat)} {id:Nat} {ids:List Nat}:H[id]?=some (Rz kf lf f e eo m y)→LK H ids→LK H (id::ids)
theorem LK.get{H:List HE}{ids:List Nat}(h:LK H ids):∀ id∈ids,(∃ l e s,H[id]?=some (.bn l e s))∨∃ x,H[id]?=some (.ob x):=by
 induction h with
 |nil=>simp
 |bn h1 _ ih=>
  intro id hid
  rcases abq.1 hid with rfl|hid
  ·exact au
  ·exact ih id hid
 |tb h1 _ ih=>
  intro id hid
  rcases abq.1 hid with rfl|hid
  ·unfold Rz at h1
   exact au
  ·exact ih id hid
section
variable {ρ:Operand→V}{H:List HE}{ids:List Nat}{x:Operand}
theorem LR.d{d:D}(h:As (ρ x) d):LR ρ H ids x d:=fun _ _ _ _ hr=>(h.rep hr).mono (fun _ _ hp=>⟨.inl hp,rfl⟩)
theorem LR.l{α:Type}{f:α→D}{l:List α}{id len s:Nat}{e:TypeId}(hx:Is (ρ x) (.hs id 0 len s))(hH:H[id]?=some (.bn (l.map f) e s))(hl:l.length=len)(hf:En f s)(hid:EZ ids id=true):LR ρ H ids x (.sl (l.map f)):=by
 intro g w v hw hr
 have hh:=hx.rep hr
 have hs:=hf.Ls l
 have mG:=tq.1 hid
 rw[←List.length_map (f:=f)] at hl
 generalize l.map f=l at hH hl hs
 obtain⟨a0,sk,f1,f2,f3,f4⟩:=hw.bn id l e s hH
 generalize v=rr at hh
 cases hh with
 |@hs _ _ _ _ m eZ n0 c0 a' Yb p1 p2=>
  rw[f1] at p1;injection p1 with p1;injection p1 with p1 p3;injection p3 with p3 p4
  obtain⟨r1,r2,r3,_⟩:=pV (p2 p1.symm)
  subst r1;subst r3;subst p3;subst p4
  rw[r2,←hl]
  refine .sl l _ _ s (fun k=>match a0 with|some ad=>(w.cell? ⟨ad.block,k,none⟩).getD undef|none=>undef) hs f2 (fun DH=>?_) (fun k x hx=>?_)
  ·have rR:0<l.length:=abA.2 DH
   have hc:0<sk:=by omega
   obtain⟨b,arr,rfl,q0,q2,q3,q4,q5⟩:=f4 hc
   refine⟨b,0,rfl,fun k hk=>⟨.inr ⟨id,_,mG,hH,by simp[G.aD,f1,hc]⟩,?_⟩⟩
   have zo:k<arr.size:=by
    rw[q3];exact aa_ hk (abg _ f2)
   simp only[abY,aL q2]
   simp[zo]
  ·have Aw:=dG hs
   have xA:k<l.length*s:=au
   have hc:0<sk:=au
   obtain⟨b,arr,rfl,q0,q2,q3,q4,q5⟩:=f4 hc
   have zo:k<arr.size:=by
    rw[q3];exact aa_ xA (abg _ f2)
   simp only[aL q2]
   have:arr[k]?=some arr[k]:=by simp[zo]
   rw[this]
   exact(q5 k x _ hx this).mono (fun _ _ hp=>⟨.inl hp,rfl⟩)
theorem LR.t{α β:Type}{kf:β→List UInt8}{lf:β→List α}{f:α→D}{e eo:TypeId}{m:List β}{id N:Nat}{fe:β→D}(hx:Is (ρ x) (.hs id 0 N 2))(hN:m.length=N)(hH:H[id]?=some (Rz kf lf f e eo m none))(h1:∀ x,(f x).cells=[f x])(he:fe=VH kf lf f)(hid:EZ ids id=true):LR ρ H ids x (.sl (m.map fe)):=by
 subst he
 intro g w v hw hr
 have hh:=hx.rep hr
 have mG:=tq.1 hid
 by_cases hm:m=[]
 ·subst hm
  unfold Rz at hH
  rw[aa2 rfl] at hH
  obtain⟨a,cap,f1,f2,f3,f4⟩:=hw.bn id _ _ _ hH
  generalize v=rr at hh
  cases hh with
  |@hs _ _ _ _ m' eZ n0 c0 a' a0 p1 p2=>
   rw[f1] at p1;injection p1 with p1;injection p1 with p1 p3;injection p3 with p3 p4
   obtain⟨r1,r2,r3,r4⟩:=pV (p2 p1.symm)
   rw[r2,←hN]
   exact .sl [] a0 c0 0 (fun _=>undef) (by simp) (by simp) (by simp) (by simp[D.flat])
 ·have Sk:=hH
  unfold Rz at Sk
  rw[aa7 hm] at Sk
  obtain⟨b,k1,⟨Vs,k2⟩,k3,k4⟩:=hw.ob id _ Sk
  obtain⟨cap,o1,key⟩:=SZ (Pr':=LPr g H ids) k2 (fun _ _ h=>.inl h) (fun _=>.inr ⟨id,_,mG,Sk,.inl k1⟩) (fun _ _ h=>.inr ⟨id,_,mG,Sk,.inr h⟩) h1
  generalize v=rr at hh
  cases hh with
  |@hs _ _ _ _ m' eZ n0 c0 a' a0 p1 p2=>
   rw[o1] at p1;injection p1 with p1;injection p1 with p1 p3;injection p3 with p3 p4
   obtain⟨r1,r2,r3,r4⟩:=pV (p2 p1.symm)
   subst r1;subst r3;subst p3;subst p4
   rw[r2,←hN]
   exact key
inductive Fw(ρ:Operand→V)(H:List HE)(ids:List Nat):List Operand→List D→Prop
 |nil:Fw ρ H ids [] []
 |cons {x:Operand} {d:D} {xs:List Operand} {ds:List D}:LR ρ H ids x d→Fw ρ H ids xs ds→Fw ρ H ids (x::xs) (d::ds)
theorem Fw.get{xs:List Operand}{ds:List D}(h:Fw ρ H ids xs ds):xs.length=ds.length∧∀ (i:Nat) d,ds[i]?=some d→∃ x,xs[i]?=some x∧LR ρ H ids x d:=by
 induction h with
 |nil=>simp
 |cons ha _ ih=>
  refine⟨by simp[ih.1],fun i d hd=>?_⟩
  cases i with
  |zero=>simp only[aa',aaW] at hd;subst hd;exact⟨_,rfl,ha⟩
  |succ i=>exact ih.2 i d (by simpa using hd)
end
section
variable {P:Program}{ρ:Operand→V}{H:List HE}{ty:TypeId}
end
end Go.Proofs.YtjdnbobilgamdaaGreatDoor.Ab
end
section
namespace Go.Proofs.YtjdnbobilgamdaaGreatDoor.Ab
open Go
section
variable {P:Program}{ρ:Operand→V}{H:List HE}{ty:TypeId}
end
section
variable {H:List HE}{e eo:TypeId}
end
section
variable {P:Program}{ρ:Operand→V}{H:List HE}{ty:TypeId}{α β:Type}{kf:β→List UInt8}{lf:β→List α}{f:α→D}{e eo:TypeId}{m m':List β}
end
section
variable {α β:Type}{kf:β→List UInt8}{lf:β→List α}{f:α→D}{e eo:TypeId}{m:List β}
theorem S0{S:List Nat}:LW S (cO (HI eo 2 (Ry (m.map kf))) e (LB f (m.map lf) none)) (cO (HI eo 2 (Ry (m.map kf))) e (LB f (m.map lf) none)):=
 Mr (C:=HI eo 2 (Ry (m.map kf))) (fun{g w i j b Vs} hS ⟨cap,arr,h1,h2⟩=>⟨cap,arr,by simp only[G.pM,hS,aaQ];exact h1,h2⟩) (fun r hr=>by
  simp only[LB] at hr
  obtain⟨q,_,rfl⟩:=abS.1 hr
  exact⟨_,rfl⟩)
theorem kC.tb{S T:List Nat}{H K:List HE}{i:Nat}(h:H[i]?=some (Rz kf lf f e eo m none))(hr:kC S H T K):kC S H (i::T) (Rz kf lf f e eo m none::K):=by
 unfold Rz at h ⊢
 by_cases hm:m=[]
 ·rw[aa2 hm] at h ⊢;exact .bn h hr
 ·rw[aa7 hm] at h ⊢;exact .ob h S0 hr
theorem Gh.free{F:FC}{E:Nat→V}{H:List HE}:Gh F ⟨E,H⟩ ⟨E,H++[.free]⟩:=Gh.wok fun g w hw=>⟨g,hw.il,.refl g w⟩
end
end Go.Proofs.YtjdnbobilgamdaaGreatDoor.Ab
end
section
namespace Go.Proofs.YtjdnbobilgamdaaGreatDoor.Ab
open Go
section
variable {α β:Type}
variable {kf:β→List UInt8}{lf:β→List α}{f:α→D}{e eo:TypeId}{m:List β}{p:List β×Nat}{r:β}{a:Int}
end
section
variable {P:Program}{ρ:Operand→V}{H:List HE}{ty:TypeId}{α β:Type}{kf:β→List UInt8}{lf:β→List α}{f:α→D}{e eo:TypeId}{p:List β×Nat}{r:β}{a:Int}
end
section
variable {F:FC}{E:Nat→V}{H:List HE}{α β:Type}{kf:β→List UInt8}{lf:β→List α}{f:α→D}{e eo:TypeId}{p:List β×Nat}{r r':β}{a:Int}
end
section
variable {α β:Type}{kf:β→List UInt8}{lf:β→List α}{f:α→D}{e eo:TypeId}{p:List β×Nat}
end
section
variable {α β:Type}
end
section
variable {P:Program}{ρ:Operand→V}{H:List HE}{ty:TypeId}{α β:Type}{kf:β→List UInt8}{lf:β→List α}{f:α→D}{e eo N:Nat}{m:List β}
end
section
variable {F:FC}{E:Nat→V}{H:List HE}{α β:Type}{kf:β→List UInt8}{lf:β→List α}{f:α→D}{e eo N:Nat}{m:List β}{a:Int}{q:β×List β}
end
section
variable {α β:Type}{kf:β→List UInt8}{lf:β→List α}{f:α→D}{e eo N:Nat}{m:List β}
end
end Go.Proofs.YtjdnbobilgamdaaGreatDoor.Ab
end
section
namespace Go.Proofs.YtjdnbobilgamdaaGreatDoor.Ab
open Go
section
variable {g:G}{w:World}{H:List HE}
theorem aQ.PL(hw:aQ g w (H++[.free])):aQ g w H:=by
 have up:∀ {i:Nat} {x:HE},H[i]?=some x→(H++[HE.free])[i]?=some x:=fun{i x} h=>by
  rw[aa1 (aaS.1 h).1];exact h
 refine⟨hw.pr,hw.xs,fun i x b h=>hw.aD i x b (up h),fun i i' x x' b h h'=>hw.sep i i' x x' b (up h) (up h'),fun i c h=>hw.row i c (up h),fun i n e s h=>hw.tok i n e s (up h),fun i l e s h=>hw.bn i l e s (up h),fun i x h=>hw.ob i x (up h),fun i h=>?_,hw.kc⟩
 rcases h with h|h
 ·exact hw.free i (.inl (up h))
 ·by_cases hi:i=H.length
  ·subst hi;exact hw.free _ (.inl (by simp))
  ·exact hw.free i (.inr (by simp;omega))
theorem aJ.fr{P:Program}{f:FuncId}{args:List V}{H:List HE}{R:V→List HE→Prop}(h:aJ P f args H R):aJ P f args (H++[.free]) R:=
 fun g w vals hw=>h g w vals hw.PL
end
section
variable {F:FC}{H:List HE}{α β:Type}{kf:β→List UInt8}{lf:β→List α}{f:α→D}{e eo:TypeId}{m:List β}
end
end Go.Proofs.YtjdnbobilgamdaaGreatDoor.Ab
end
section
namespace Go.Proofs.YtjdnbobilgamdaaGreatDoor.Ab
open Go
section
variable {P:Program}{ρ:Operand→V}{H:List HE}{ty:TypeId}
end
section
variable {F:FC}{Q:Exit→St→Prop}{c:Code}{E:Nat→V}{H:List HE}{α:Type}{f:α→D}{e eo:TypeId}{N:Nat}{M:List (Bool×List α)}
end
end Go.Proofs.YtjdnbobilgamdaaGreatDoor.Ab
end
section
namespace Go.Proofs.YtjdnbobilgamdaaGreatDoor.Ab
open Go
def CY(xs:List (List UInt8))(sep:List UInt8):Option (List UInt8):=
 if xs.length≤140737488355328∧(Lib.join xs sep).length≤140737488355328 then some (Lib.join xs sep) else none
end Go.Proofs.YtjdnbobilgamdaaGreatDoor.Ab
end
