/- Built-in operations on lists. Built-in operations on lists, maps and texts; all operations together. Maps written, iterators, texts as lists; every operation. The steps of a range; an operation made ready. Every operation, made ready. Conditions: none. -/
import Derived.Test.YtjdnbobilgamdaaGreatDoorE9
import Derived.Lib.AppendZerosOnto
section
namespace Go.Proofs.YtjdnbobilgamdaaGreatDoor.Ev
open Go
open Ab (aO aq aX Addr.aT)
theorem aQ.drew{σ:Sg}{H:Hp}{w:World}(hw:aQ σ H w)(d:Nat):aQ σ H {w with drawn:=d }:=⟨hw.nn,hw.le,hw.fl,hw.mm,hw.sep⟩
theorem cG.drew{σ aE:Sg}{H H':Hp}{w w':World}{d:Nat}(h:cG σ H {w with drawn:=d } aE H' w'):cG σ H w aE H' w':=⟨h.same,h.size,h.ext,h.aY,h.Cn,h.n,h.fl,h.low,h.frame,h.own,h.Bs⟩
theorem aQ.move{σ:Sg}{H:Hp}{w w':World}(hw:aQ σ H w){id:Nat}{x:AO}{z y:Nat×Nat×Nat}(hi:id<H.n)(hf:H.fl≤id)(hl:(H.get id).GV=true)(hz:σ id=some z)(hn:H.n<4096)
  (hy:y.1=z.1)(hs:w'.os=w.os∧w'.tape=w.tape∧w'.output=w.output)(dE:w'.heap.size=w.heap.size)(hh:∀ b,b≠z.1→w'.heap[b]?=w.heap[b]?)(hx:x≠.res)
  (he:∀ aE:Sg,(∀ id z,σ id=some z→aE id=some z)→aE H.n=some y→wS aE w' H.n x):
  ∃ aE:Sg,aE H.n=some y∧(∀ j,j≠H.n→aE j=σ j)∧aQ aE ⟨(bg AO 4 H.n).s x ((bg AO 4 id).s .free H.h),H.n+1,H.fl⟩ w'∧cG σ H w aE ⟨(bg AO 4 H.n).s x ((bg AO 4 id).s .free H.h),H.n+1,H.fl⟩ w':=by
 have ax:∀ j,j<H.n→j≠id→(⟨(bg AO 4 H.n).s x ((bg AO 4 id).s .free H.h),H.n+1,H.fl⟩:Hp).get j=H.get j:=fun j hj aR=>by
  rw[Hp.dF _ _ _ H.n H.fl _ (by omega) hn (by omega)]
  exact Hp.dF _ _ _ _ _ _ (by omega) (by omega) aR
 have Co:(⟨(bg AO 4 H.n).s x ((bg AO 4 id).s .free H.h),H.n+1,H.fl⟩:Hp).get id=.free:=by
  rw[Hp.dF _ _ _ H.n H.fl _ (by omega) hn (by omega)]
  exact Hp.get_set_same _ _ _ _ _
 have jJ:(⟨(bg AO 4 H.n).s x ((bg AO 4 id).s .free H.h),H.n+1,H.fl⟩:Hp).get H.n=x:=Hp.get_set_same _ _ _ _ _
 have r8:∀ id z,σ id=some z→(fun i=>if i=H.n then some y else σ i) id=some z:=by
  intro id z hz
  have:id≠H.n:=fun hc=>by rw[hw.nn id (by omega)] at hz;cases hz
  simp[this,hz]
 refine⟨fun i=>if i=H.n then some y else σ i,by simp,fun j hj=>by simp[hj],⟨fun j hj=>?_,hn,ad9 hw.fl,fun j hj=>?_,?_⟩,⟨hs,by omega,r8,fun j hj hr=>?_,fun j hj=>by have:j≠H.n:=(by have:=hw.fl;omega);simp[this],adF _,rfl,fun j hj=>ax j (aa_ hj hw.fl) (by omega),?_,?_,?_⟩⟩
 ·have:j≠H.n:=by simp at hj;omega
  simp only[this,abb];exact hw.nn j (by simp at hj;omega)
 ·by_cases h:j=H.n
  ·subst h;rw[jJ];exact he _ r8 (by simp)
  ·have ph:j<H.n:=by simp at hj;omega
   by_cases pL:j=id
   ·subst pL;rw[Co];trivial
   ·rw[ax j ph pL]
    exact(hw.mm j ph).mono r8 (fun hr=>by
     have:=hw.mm j ph;rw[hr] at this
     simp only[h,abb];exact this)
     (fun u hu VG=>hh _ fun hc=>pL (hw.sep id j z u hi ph hf hl VG hz hu hc.symm).symm)
 ·intro j j' u u' h1 h2 h3 h4 h5 h6 h7 h8
  by_cases h:j=H.n<;>by_cases h':j'=H.n
  ·omega
  ·exfalso
   have ph:j'<H.n:=by simp at h2;omega
   simp only[h,abh,aaW] at h6
   simp only[h',abb] at h7
   by_cases pL:j'=id
   ·rw[pL,Co] at h5;cases h5
   ·rw[ax j' ph pL] at h5
    exact pL (hw.sep id j' z u' hi ph hf hl h5 hz h7 (by rw[←h8,←h6,hy])).symm
  ·exfalso
   have ph:j<H.n:=by simp at h1;omega
   simp only[h',abh,aaW] at h7
   simp only[h,abb] at h6
   by_cases pL:j=id
   ·rw[pL,Co] at h4;cases h4
   ·rw[ax j ph pL] at h4
    exact pL (hw.sep id j z u hi ph hf hl (AO.jK h4) hz h6 (by rw[h8,←h7,hy])).symm
  ·have k1:j<H.n:=by simp at h1;omega
   have k2:j'<H.n:=by simp at h2;omega
   simp only[h,abb] at h6
   simp only[h',abb] at h7
   by_cases pL:j=id
   ·rw[pL,Co] at h4;cases h4
   ·by_cases V7:j'=id
    ·rw[V7,Co] at h5;cases h5
    ·rw[ax j k1 pL] at h4
     rw[ax j' k2 V7] at h5
     exact hw.sep j j' u u' k1 k2 h3 h4 h5 h6 h7 h8
 ·have:j≠H.n:=by omega
  refine⟨by simp[this],?_⟩
  by_cases pL:j=id
  ·subst pL;rw[Co];simp
  ·rw[ax j hj pL];exact hr
 ·intro b hb ho
  exact hh b fun hc=>ho id z hi hf hl hz hc.symm
 ·intro j u h1 h2 h3 h4 h5
  by_cases h:j=H.n
  ·simp only[h,abh,aaW] at h4
   exact⟨id,z,hi,hf,hl,hz,by rw[←h4,hy]⟩
  ·have ph:j<H.n:=by simp at h1;omega
   simp only[h,abb] at h4
   by_cases pL:j=id
   ·rw[pL,Co] at h3;cases h3
   ·rw[ax j ph pL] at h3
    exact⟨j,u,ph,h2,h3,h4,rfl⟩
 ·intro j u h1 h2 h3 h4 h5
  by_cases h:j=H.n
  ·simp only[h,abh,aaW] at h4
   exact⟨id,z,hi,hf,AO.jK hl,hz,by rw[←h4,hy]⟩
  ·have ph:j<H.n:=by simp at h1;omega
   simp only[h,abb] at h4
   by_cases pL:j=id
   ·rw[pL,Co] at h3;cases h3
   ·rw[ax j ph pL] at h3
    exact⟨j,u,ph,h2,h3,h4,rfl⟩
theorem lY{P:Program}{σ:Sg}{H:Hp}{w:World}(hw:aQ σ H w){sz:Nat}{c:CV}{l:List CV}(h:kV H sz c=some l){y:Value}(hr:RV σ c y):
  ∃ a n cap news,y=.slice a n cap∧l.length=n*sz∧news.length=n*sz∧ig σ l news∧∀ n',n'≤n→∀ d,(Builtin.firstCells sz n' y).run P {w with drawn:=d }=.ok (news.take (n'*sz)).toArray {w with drawn:=d }:=by
 have key:∀ {a:Addr} {n cap:Nat} {news:List Value},y=.slice (some a) n cap→news.length=n*sz→(∀ j v,news[j]?=some v→w.cell? (a.add j)=some v)→
   ∀ n',n'≤n→∀ d,(Builtin.firstCells sz n' y).run P {w with drawn:=d }=.ok (news.take (n'*sz)).toArray {w with drawn:=d }:=by
  intro a n cap news hy hl hc n' hn d
  subst hy
  have hle:n'*sz≤n*sz:=abg _ hn
  exact run_firstCells_some (P:=P) {w with drawn:=d } sz n' a n cap (news.take (n'*sz)) (by simp;omega) (fun j v hv=>by
   have hj:j<n'*sz:=by have:=(aaS.1 hv).1;simp at this;omega
   rw[abj,aa2 hj] at hv
   exact hc j v hv)
 unfold kV at h
 split at h
 ·rename_i id o len cap
  obtain⟨b,p,c,hb,rfl⟩:=hr
  split at h
  ·rename_i L hL
   obtain⟨f,f1,f2,_⟩:=(wT hL (hw.mm id (hw.lt hb))).XO hb h
   have hlen:=f1.length
   simp only[aa4,adG] at hlen
   exact⟨_,len,cap,_,rfl,hlen,by simp,f1,key rfl (by simp) fun j v hv=>by
    have hj:j<len*sz:=by have:=(aaS.1 hv).1;simpa using this
    rw[Addr.aT,f2 j hj]
    rw[Ab.cJ f _ _ hj] at hv;exact hv⟩
  ·cases h
 ·rename_i id k len s
  obtain⟨b,p,c,cap,q,hb,rfl,hc,hle,pV,ji,hq⟩:=hr
  cases CS:Nat.beq s sz with
  |false=>rw[CS] at h;cases h
  |true=>
   rw[CS] at h
   rw[abQ] at CS
   subst CS
   simp only[abf] at h
   split at h
   ·rename_i L hL
    obtain⟨f,f1,f2,_⟩:=(wT hL (hw.mm id (hw.lt hb))).XO hb h
    have hlen:=f1.length
    simp only[aa4,adG] at hlen
    refine⟨_,len,cap,_,rfl,hlen,by simp,f1,key rfl (by simp) fun j v hv=>?_⟩
    have hj:j<len*s:=by have:=(aaS.1 hv).1;simpa using this
    have V8:0<len:=by
     rcases adY len with h0|h0
     ·rw[h0] at hj;simp at hj
     ·exact h0
    rw[hq (by omega),Addr.aT,f2 j hj]
    rw[Ab.cJ f _ _ hj] at hv;exact hv
   ·cases h
 ·cases h
  obtain rfl:y=.slice none 0 0:=hr
  exact⟨none,0,0,[],rfl,by simp,by simp,rfl,fun n' hn d=>by simp[run_firstCells_none]⟩
 ·cases h
section
variable {P:Program}{o:Op}{ty:TypeId}{ρ:Operand→CV}{H H':Hp}{v:CV}{wq:Option Nat}
theorem Ek{t u e e':TypeId}{i:TypeInfo}{z:Value}(w:World)(ht:P.underlying t=some (.slice e))(hu:P.underlying u=some (.slice e'))(hi:P.info? e=some i)(hz:i.zero=some z)
  (base:Option Addr)(eQ kl:Nat)(a:Option Addr)(n c:Nat)(gf news:List Value)
  (ho:(Builtin.firstCells i.size eQ (.slice base eQ kl)).run P w.drew=.ok gf.toArray w.drew)(hn:(Builtin.firstCells i.size n (.slice a n c)).run P w.drew=.ok news.toArray w.drew)
  (hg:kl<eQ+n)(h63:((eQ+n:Nat):Int)≤9223372036854775807)(zp:Builtin.nextslicecap (eQ+n) kl*i.bytes≤281474976710656):
  (Builtin.append_ #[t,u] ty #[.slice base eQ kl,.slice a n c]).run P w=
   .ok (.slice (some ⟨w.heap.size,0,none⟩) (eQ+n) (grownCap w (eQ+n) kl e))
    (w.drew.alloc (.cells (gf.toArray++news.toArray++Builtin.zeroCells z.cells (grownCap w (eQ+n) kl e-(eQ+n))) e)):=by
 have E3:¬(eQ+n≤kl):=by omega
 have YY:¬(9223372036854775807<((eQ:Int)+(n:Int))):=by omega
 have YZ:¬(281474976710656<Builtin.nextslicecap (eQ+n) kl*i.bytes):=by omega
 simp[Builtin.append_,aaX ht,aaX hu,sizeOf,typeInfo,zeroValue,hi,hz,Builtin.lenOf,E3,YY,YZ,Question.forced,ho,hn,newRow,grownCap]
 congr 2
 apply Array.ext'
 simp[abk]
theorem wU{t u e e':TypeId}{i:TypeInfo}{w w':World}(ht:P.underlying t=some (.slice e))(hu:P.underlying u=some (.slice e'))(hi:P.info? e=some i)
  (b:Addr)(eQ kl:Nat)(a:Option Addr)(n c:Nat)(news:List Value)
  (hn:(Builtin.firstCells i.size n (.slice a n c)).run P w=.ok news.toArray w)(Fg:(storeCells (b.add (eQ*i.size)) news).run P w=.ok () w')(hg:eQ+n≤kl):
  (Builtin.append_ #[t,u] ty #[.slice (some b) eQ kl,.slice a n c]).run P w=.ok (.slice (some b) (eQ+n) kl) w':=by
 simp[Builtin.append_,aaX ht,aaX hu,sizeOf,typeInfo,hi,Builtin.lenOf,hg,hn,Fg]
theorem El{t u e e':TypeId}{i:TypeInfo}{w:World}(ht:P.underlying t=some (.slice e))(hu:P.underlying u=some (.slice e'))(hi:P.info? e=some i)(a:Option Addr)(c:Nat):
  (Builtin.append_ #[t,u] ty #[.slice none 0 0,.slice a 0 c]).run P w=.ok (.slice none 0 0) w:=by
 have hf:(Builtin.firstCells i.size 0 (.slice a 0 c)).run P w=.ok #[] w:=by cases a<;>simp[Builtin.firstCells,loadCells,loadCellsFrom]
 simp[Builtin.append_,aaX ht,aaX hu,sizeOf,typeInfo,hi,Builtin.lenOf,hf]
theorem F3{σ:Sg}{w:World}(hw:aQ σ H w){cs:List CV}{vs:List Value}{dR C s:Nat}{e:TypeId}{rest:Array Value}{arr:Array Value}(hn:H.new (.c cs) (.so · 0 dR s)=some (v,H'))(hr:ig σ cs vs)
  (ha:arr=vs.toArray++rest)(O4:cs.length=dR*s)(hC:dR≤C)(J':C≤9223372036854775807)(hs:0<s)(dE:arr.size=C*s):
  ∃ aE,aQ aE H' (w.drew.alloc (.cells arr e))∧cG σ H w aE H' (w.drew.alloc (.cells arr e))∧RV aE v (.slice (some ⟨w.heap.size,0,none⟩) dR C):=by
 obtain⟨e1,e2,e3⟩:=Hp.qp hn
 subst e3
 have hlen:=hr.length
 obtain⟨aE,k1,k2,k3⟩:=(hw.drew (w.drawn+1)).new (o:=.cells arr e) (y:=(0,C*s)) e1 (x:=.c cs) (by simp) (fun aE hm hid=>by
  refine⟨_,0,C*s,arr,e,hid,by simp,by rw[O4];exact abg _ hC,by omega,?_⟩
  have:(arr.toList.drop 0).take cs.length=vs:=by
   subst ha;simp[hlen]
  rw[this];exact hr.mono hm)
 exact⟨aE,k2,k3.drew,by rw[e2];exact⟨_,_,_,C,0,k1,rfl,by simp,hC,hs,J',by simp⟩⟩
theorem Bt{n s m:Nat}(h:m=n*s)(hs:0<s):m/s=n:=by rw[h,adX _ hs]
theorem F4{t u e e':TypeId}{i:TypeInfo}{z:Value}{x y:Operand}{new:List CV}(ht:P.underlying t=some (.slice e))(hu:P.underlying u=some (.slice e'))(hi:P.info? e=some i)(hz:i.zero=some z)
  (IQ:z.cells.size=i.size)(pV:0<i.size)(yP:i.bytes≤65536)(hn:kV H i.size (ρ y)=some new)(h:Bp H i.size (ρ x) new=some (v,H')):
  ij P (.call ⟨.builtin .append,#[x,y],#[t,u]⟩) ty ρ H v H':=
 ij.of fun σ w r hw hx=>by
  have h1:=hx x (by simp[Op.operands,Call.operands])
  have h2:=hx y (by simp[Op.operands,Call.operands])
  suffices hg:∃ rv w' aE,(Builtin.append_ #[t,u] ty #[r x,r y]).run P w=.ok rv w'∧aQ aE H' w'∧cG σ H w aE H' w'∧RV aE v rv by
   obtain⟨rv,w',aE,e1,e2⟩:=hg
   exact⟨rv,w',aE,fun _ _ _ _=>by simp[execOp,resolve,invoke,builtin,e1],e2⟩
  obtain⟨ay,n,cy,news,Lu,Rl,Nb,Tn,Y0⟩:=lY (P:=P) hw hn h2
  have Vi:new.length/i.size=n:=Bt Rl pV
  have To:∀ d,(Builtin.firstCells i.size n (.slice ay n cy)).run P {w with drawn:=d }=.ok news.toArray {w with drawn:=d }:=fun d=>by
   have:=Y0 n (aaZ _) d
   rw[Lu,←Nb,abO] at this;exact this
  rw[Lu]
  generalize F5:ρ x=cx at h h1
  have zp:∀ dR vS,dR≤250→vS<dR→Builtin.nextslicecap dR vS*i.bytes≤281474976710656:=fun dR vS hle ho=>
   ac8 ho (by have:=ac3 hle yP;omega)
  have lP:∀ (base:Option Addr) (eQ kl:Nat) (vS:List CV) (gf:List Value),r x=.slice base eQ kl→vS.length=eQ*i.size→ig σ vS gf→
    (Builtin.firstCells i.size eQ (.slice base eQ kl)).run P w.drew=.ok gf.toArray w.drew→kl<eQ+n→eQ+n≤250→∀ (H0 H1:Hp),aQ σ H0 w→cG σ H w σ H0 w→H0.new (.c (vS++new)) (.so · 0 (eQ+n) i.size)=some (v,H1)→
    ∃ rv w' aE,(Builtin.append_ #[t,u] ty #[r x,.slice ay n cy]).run P w=.ok rv w'∧aQ aE H1 w'∧cG σ H w aE H1 w'∧RV aE v rv:=by
   intro base eQ kl vS gf fQ yR LF OV aN hle H0 H1 bR Tp qk
   have dz:=Ek (P:=P) (ty:=ty) w ht hu hi hz base eQ kl ay n cy gf news OV (To _) aN (by omega) (zp _ _ hle aN)
   have hC:=adV w (eQ+n) kl e
   have J':grownCap w (eQ+n) kl e≤9223372036854775807:=by
    have:=ac9 w (eQ+n) kl e (by simp only[maxLen];omega)
    simpa[maxLen] using this
   have Bu:=LF.length
   obtain⟨aE,k1,k2,k3⟩:=F3 (e:=e) (C:=grownCap w (eQ+n) kl e) (rest:=Builtin.zeroCells z.cells (grownCap w (eQ+n) kl e-(eQ+n)))
    (arr:=gf.toArray++news.toArray++Builtin.zeroCells z.cells (grownCap w (eQ+n) kl e-(eQ+n))) bR qk (LF.append Tn) (by simp) (by rw[aa9,yR,Rl,abV]) hC J' pV (by
     simp only[adj,adh,Nb,size_zeroCells,IQ]
     rw[←Bu,yR,←Nat.add_mul,←Nat.add_mul];congr 1;omega)
   exact⟨_,_,aE,by rw[fQ];exact dz,k1,Tp.trans k2,k3⟩
  unfold Bp at h
  simp only[Vi] at h
  split at h
  ·have fQ:r x=.slice none 0 0:=h1
   cases OW:Nat.beq n 0 with
   |true=>
    rw[OW] at h;cases h
    rw[abQ] at OW
    subst OW
    rw[fQ]
    exact⟨_,w,σ,El ht hu hi ay cy,hw,.refl _ _ _,rfl⟩
   |false=>
    rw[OW] at h
    simp only[abJ] at h
    have OW:n≠0:=fun hc=>by rw[hc] at OW;cases OW
    cases hle:Nat.ble n 250 with
    |false=>rw[hle] at h;cases h
    |true=>
     rw[hle] at h
     rw[ab2] at hle
     simp only[abf] at h
     exact lP none 0 0 [] [] fQ (by simp) rfl (by simp[run_firstCells_none]) (by omega) (by omega) H H' hw (.refl _ _ _) (by simpa using h)
  ·rename_i id off len cap
   obtain⟨b,p,c,hb,fQ⟩:=h1
   cases jd:Nat.ble (len+n) cap with
   |true=>
    rw[jd] at h
    rw[ab2] at jd
    simp only[abf] at h
    cases eL:new.all fN with
    |false=>rw[eL] at h;cases h
    |true=>
     rw[eL] at h
     simp only[abf] at h
     split at h
     ·rename_i l hl
      split at h
      ·rename_i l' O2
       split at h
       ·rename_i H1 zw
        cases h
        obtain⟨w',k1,k2,k3⟩:=hw.store (P:=P) hb hl O2 Tn (tY eL Tn) zw
        refine⟨_,w',σ,?_,k2,k3,b,p,c,hb,rfl⟩
        rw[fQ]
        exact wU ht hu hi _ len cap ay n cy news (To _) (by rw[Addr.aT,abZ];exact k1) jd
       ·cases h
      ·cases h
     ·cases h
   |false=>
    rw[jd] at h
    simp only[abJ] at h
    have jd:¬(len+n≤cap):=fun hc=>by rw[show Nat.ble (len+n) cap=true by rw[ab2];exact hc] at jd;cases jd
    cases hle:Nat.ble (len+n) 250 with
    |false=>rw[hle] at h;cases h
    |true=>
     rw[hle] at h
     rw[ab2] at hle
     simp only[abf] at h
     split at h
     ·rename_i vS hold
      obtain⟨ao,no,co,gf,RN,yR,Bu,LF,OV⟩:=lY (P:=P) hw hold (y:=r x) ⟨b,p,c,hb,fQ⟩
      rw[fQ] at RN;cases RN
      have F6:=OV len (aaZ _) (w.drawn+1)
      rw[fQ,←Bu,abO] at F6
      exact lP _ len cap vS gf fQ yR LF F6 (by omega) hle H H' hw (.refl _ _ _) h
     ·cases h
  ·rename_i id k len s
   have L9:=h1
   obtain⟨b,p,c,cap,q,hb,fQ,hc,aan,aao,ji,hq⟩:=h1
   cases XP:Nat.ble (len+n) 250&&Nat.blt 0 n&&new.all fN&&Nat.beq s i.size with
   |false=>rw[XP] at h;cases h
   |true=>
    rw[XP] at h
    simp only[abf] at h
    simp only[aaT,ab2,abK,abQ] at XP
    obtain⟨⟨⟨hle,OW⟩,eL⟩,rfl⟩:=XP
    split at h
    ·rename_i L vS hL hold
     split at h
     ·rename_i H0 zw
      obtain⟨hf,rfl⟩:=Hp.sQ zw
      have hid:=hw.lt hb
      have hg:=rB hL
      obtain⟨bR,Tp⟩:=hw.wr (w':=w) (x:=.free) hid hf (by rw[hg];rfl) hb ⟨rfl,rfl,rfl⟩ rfl (fun _ _=>rfl) (by simp) trivial
      obtain⟨ao,no,co,gf,RN,yR,Bu,LF,OV⟩:=lY (P:=P) hw hold L9
      rw[fQ] at RN;cases RN
      have F6:=OV len (aaZ _) (w.drawn+1)
      rw[fQ,←Bu,abO] at F6
      by_cases jd:len+n≤cap
      ·
       have hq:=hq (by omega)
       subst hq
       have fq:=hw.mm id hid
       rw[hg] at fq
       obtain⟨b',p',c',arr,et,f1,f2,f3,f4,f5⟩:=fq
       rw[hb] at f1;cases f1
       have hmul:(k+cap)*i.size=k*i.size+cap*i.size:=abV _ _ _
       have Z':(len+n)*i.size=len*i.size+n*i.size:=abV _ _ _
       have aaa:(len+n)*i.size≤cap*i.size:=abg _ jd
       have Fg:=acG P b (p+k*i.size+len*i.size) et news 0 arr w f2 (by omega) (tY eL Tn)
       simp only[acy] at Fg
       obtain⟨n1,n2,n3⟩:=Hp.qp h
       subst n3
       have dz:=wU (P:=P) (ty:=ty) ht hu hi ⟨b,p+k*i.size,none⟩ len cap ay n cy news (To _) (by rw[Addr.aT];exact Fg) jd
       have Rm:c-k*i.size=cap*i.size:=by rw[←hc,hmul];omega
       have aab:news.length=n*i.size:=Nb
       obtain⟨aE,k1,_,k2,k3⟩:=hw.move (w':=w.setRow b (arr.toList.take (p+k*i.size+len*i.size)++news++arr.toList.drop (p+k*i.size+len*i.size+news.length)).toArray) (x:=.c (vS++new)) (y:=(b,p+k*i.size,c-k*i.size))
        hid hf (by rw[hg];rfl) hb n1 rfl ⟨rfl,rfl,rfl⟩ (acJ w b _) (fun b' aR=>acQ w b b' _ aR) (by simp) (fun aE hm Em=>by
         refine⟨b,p+k*i.size,c-k*i.size,_,et,Em,acR w b arr _ et _ f2,?_,?_,?_⟩
         ·rw[aa9,yR,Rl,Rm];omega
         ·simp;omega
         ·have e1:(List.take (vS++new).length (List.drop (p+k*i.size) (arr.toList.take (p+k*i.size+len*i.size)++news++arr.toList.drop (p+k*i.size+len*i.size+news.length))))=gf++news:=by
           have e2:gf=(arr.toList.drop (p+k*i.size)).take (len*i.size):=by
            have h9:=OV len (aaZ _) w.drawn
            have kh:∀ j v,((arr.toList.drop (p+k*i.size)).take (len*i.size))[j]?=some v→w.cell? ((⟨b,p+k*i.size,none⟩:Addr).add j)=some v:=by
             intro j v hv
             have hj:j<len*i.size:=by have:=(aaS.1 hv).1;simp at this;omega
             rw[abj,aa2 hj,abn,aa0] at hv
             simp[Addr.aT,World.cell?,f2,hv]
            have h8:=run_firstCells_some (P:=P) w i.size len ⟨b,p+k*i.size,none⟩ len cap _ (by simp;omega) kh
            rw[fQ,←Bu,abO] at h9
            have h7:Result.ok gf.toArray w=Result.ok ((arr.toList.drop (p+k*i.size)).take (len*i.size)).toArray w:=h9.symm.trans h8
            injection h7 with h7
            exact List.toArray_inj h7
           have l0:(vS++new).length=len*i.size+news.length:=by rw[aa9,yR,Rl,Nb]
           rw[l0]
           have l1:(arr.toList.take (p+k*i.size+len*i.size)).length=p+k*i.size+len*i.size:=by simp;omega
           have d1:List.drop (p+k*i.size) (arr.toList.take (p+k*i.size+len*i.size)++news++arr.toList.drop (p+k*i.size+len*i.size+news.length))=gf++(news++arr.toList.drop (p+k*i.size+len*i.size+news.length)):=by
            rw[abk,List.drop_append_of_le_length (by omega),e2,List.drop_take,show p+k*i.size+len*i.size-(p+k*i.size)=len*i.size by omega]
           rw[d1,←List.append_assoc,←Bu,←List.length_append,List.take_left']
           rfl
          show ig aE (vS++new) (List.take (vS++new).length (List.drop (p+k*i.size) (arr.toList.take (p+k*i.size+len*i.size)++news++arr.toList.drop (p+k*i.size+len*i.size+news.length))))
          rw[e1]
          exact(LF.append Tn).mono hm)
       refine⟨_,_,aE,by rw[fQ];exact dz,k2,k3,?_⟩
       rw[n2]
       exact⟨b,p+k*i.size,c-k*i.size,cap,p+k*i.size,k1,rfl,by rw[Rm];simp,jd,pV,ji,by simp⟩
      ·exact lP _ len cap vS gf fQ yR LF F6 (by omega) hle _ H' bR Tp h
     ·cases h
    ·cases h
  ·cases h
end
end Go.Proofs.YtjdnbobilgamdaaGreatDoor.Ev
end
section
namespace Go.Proofs.YtjdnbobilgamdaaGreatDoor.Ev
open Go
open Ab (aO aq aX Addr.aT)
section
variable {P:Program}{o:Op}{ty:TypeId}{ρ:Operand→CV}{H H':Hp}{v:CV}{wq:Option Nat}
theorem KQ{ts:Array TypeId}{x y:Operand}(h:Bq P H ts (ρ x) (ρ y)=some (v,H')):ij P (.call ⟨.builtin .append,#[x,y],ts⟩) ty ρ H v H':=by
 unfold Bq at h
 split at h
 ·rename_i t u Cd
  obtain rfl:ts=#[t,u]:=by rw[←Array.toArray_toList (xs:=ts),Cd]
  split at h
  ·rename_i e he
   split at h
   ·rename_i sz z hs hz
    cases hb:Nat.beq sz z.length&&Nat.blt 0 sz&&u_ P e with
    |false=>rw[hb] at h;cases h
    |true=>
     rw[hb] at h
     simp only[abf] at h
     simp only[aaT,abQ,abK] at hb
     obtain⟨i,zv,hi,Rr,rfl⟩:=qN hz
     obtain⟨ie,im,rfl⟩:=iO hs
     rw[hi] at im;cases im
     obtain⟨i2,J7,yP⟩:=C' hb.2
     rw[hi] at J7;cases J7
     have IQ:zv.cells.size=i.size:=by have:=hb.1.1;simp at this;omega
     cases hu:(iN P u).isSome with
     |true=>
      rw[hu] at h
      simp only[abf] at h
      obtain⟨e',hu⟩:=acT.1 hu
      split at h
      ·rename_i new hn
       exact F4 (gU he) (gU hu) hi Rr IQ hb.1.2 yP hn h
      ·cases h
     |false=>
      rw[hu] at h
      simp only[abJ] at h
      split at h
      ·rename_i kn k n qi hyn
       cases hle:Nat.ble n 250 with
       |false=>rw[hle] at h;cases h
       |true=>
        rw[hle] at h
        simp only[abf] at h
        rw[ab2] at hle
        refine ij.of fun σ w r hw hx=>?_
        have h1:=hx x (by simp[Op.operands,Call.operands])
        have h2:=hx y (by simp[Op.operands,Call.operands])
        rw[hyn] at h2
        have Lu:r y=.int k (n:Int):=h2
        suffices hg:∃ rv w' aE,(Builtin.append_ #[t,u] ty #[r x,r y]).run P w=.ok rv w'∧aQ aE H' w'∧cG σ H w aE H' w'∧RV aE v rv by
         obtain⟨rv,w',aE,e1,e2⟩:=hg
         exact⟨rv,w',aE,fun _ _ _ _=>by simp[execOp,resolve,invoke,builtin,e1],e2⟩
        rw[Lu]
        have PF:ig σ (rep n (zv.cells.toList.map xC)) (Builtin.zeroCells zv.cells n).toList:=Eo σ zv.cells n
        have hlz:(rep n (zv.cells.toList.map xC)).length=n*i.size:=by
         have:=PF.length;rw[this,abL,size_zeroCells,IQ]
        have lP:∀ (base:Option Addr) (eQ kl:Nat) (vS:List CV) (gf:List Value),r x=.slice base eQ kl→vS.length=eQ*i.size→ig σ vS gf→
          (Builtin.firstCells i.size eQ (.slice base eQ kl)).run P w.drew=.ok gf.toArray w.drew→kl<eQ+n→eQ+n≤250→0<n→H.new (.c (vS++rep n (zv.cells.toList.map xC))) (.so · 0 (eQ+n) i.size)=some (v,H')→
          ∃ rv w' aE,(Builtin.append_ #[t,u] ty #[r x,.int k (n:Int)]).run P w=.ok rv w'∧aQ aE H' w'∧cG σ H w aE H' w'∧RV aE v rv:=by
         intro base eQ kl vS gf fQ yR LF OV aN Y1 OW qk
         have zp:Builtin.nextslicecap (eQ+n) kl*i.bytes≤281474976710656:=ac8 aN (by have:=ac3 Y1 yP;omega)
         have dz:=Lib.run_append_grow_zeros (P:=P) w t u ty e i zv k kn (gU he) qi hi Rr base eQ kl gf OV n OW hb.1.2 aN (by omega) (by have:=ac3 hle yP;omega) zp
         have hC:=adV w (eQ+n) kl e
         have J':grownCap w (eQ+n) kl e≤9223372036854775807:=by
          have:=ac9 w (eQ+n) kl e (by simp only[maxLen];omega)
          simpa[maxLen] using this
         have Bu:=LF.length
         obtain⟨aE,k1,k2,k3⟩:=F3 (e:=e) (C:=grownCap w (eQ+n) kl e) (rest:=Builtin.zeroCells zv.cells (grownCap w (eQ+n) kl e-(eQ+n)))
          (arr:=gf.toArray++Builtin.zeroCells zv.cells n++Builtin.zeroCells zv.cells (grownCap w (eQ+n) kl e-(eQ+n))) hw qk (LF.append PF) (by apply Array.ext';simp) (by rw[aa9,yR,hlz,abV]) hC J' hb.1.2 (by
           simp only[adj,adh,size_zeroCells,IQ]
           rw[←Bu,yR,←Nat.add_mul,←Nat.add_mul];congr 1;omega)
         exact⟨_,_,aE,by rw[fQ];exact dz,k1,k2,k3⟩
        unfold Jh at h
        generalize F5:ρ x=cx at h h1
        split at h
        ·have fQ:r x=.slice none 0 0:=h1
         cases hc:Nat.blt 0 n&&Nat.ble n 250 with
         |false=>rw[hc] at h;cases h
         |true=>
          rw[hc] at h
          simp only[aaT,abK,ab2] at hc
          simp only[abf] at h
          exact lP none 0 0 [] [] fQ (by simp) rfl (by simp[run_firstCells_none]) (by omega) (by omega) hc.1 (by simpa using h)
        ·rename_i id off len cap
         cases hc:Nat.blt cap (len+n)&&Nat.ble (len+n) 250&&Nat.blt 0 n with
         |false=>rw[hc] at h;cases h
         |true=>
          rw[hc] at h
          simp only[aaT,abK,ab2] at hc
          simp only[abf] at h
          split at h
          ·rename_i vS hold
           have Kb:=h1
           obtain⟨b,p,c,wV,fQ⟩:=h1
           obtain⟨ao,no,co,gf,RN,yR,Bu,LF,OV⟩:=lY (P:=P) hw hold Kb
           rw[fQ] at RN;cases RN
           have F6:=OV len (aaZ _) (w.drawn+1)
           rw[fQ,←Bu,abO] at F6
           exact lP _ len cap vS gf fQ yR LF F6 hc.1.1 hc.1.2 hc.2 h
          ·cases h
        ·cases h
      ·cases h
   ·cases h
  ·cases h
 ·cases h
theorem Qm{ts:Array TypeId}{x y:Operand}(h:H4 P H ts (ρ x) (ρ y)=some (v,H')):ij P (.call ⟨.builtin .copy,#[x,y],ts⟩) ty ρ H v H':=
 ij.of fun σ w r hw hx=>by
  have h1:=hx x (by simp[Op.operands,Call.operands])
  have h2:=hx y (by simp[Op.operands,Call.operands])
  generalize ρ x=cx at h h1
  unfold H4 at h
  split at h
  ·rename_i id k len s t rest Cd
   have Y2:ts[0]?=some t:=by rw[←Array.getElem?_toList,Cd];rfl
   split at h
   ·rename_i e he
    split at h
    ·rename_i sz hs
     cases CS:Nat.beq s sz with
     |false=>rw[CS] at h;cases h
     |true=>
      rw[CS] at h
      rw[abQ] at CS
      subst CS
      simp only[abf] at h
      split at h
      ·rename_i src l KR hl
       obtain⟨b,p,c,cap,q,hb,fQ,hc,hle,pV,ji,hq⟩:=h1
       obtain⟨ay,n,cy,news,Lu,Rl,Nb,Tn,Y0⟩:=lY (P:=P) hw KR h2
       have Vi:src.length/s=n:=Bt Rl pV
       rw[Vi] at h
       split at h
       ·rename_i M8 htk
        obtain⟨e1,e2⟩:=Jk htk
        cases eL:M8.all fN with
        |false=>rw[eL] at h;cases h
        |true=>
         rw[eL] at h
         simp only[abf] at h
         split at h
         ·rename_i l' O2
          split at h
          ·rename_i H1 zw
           cases h
           obtain⟨ie,im,dE⟩:=iO hs
           have Pe:ig σ M8 (news.take (Nat.min n len*s)):=by rw[e1];exact Tn.take _
           have hf:=Y0 (Nat.min n len) (Nat.min_le_left _ _) w.drawn
           obtain⟨w',k1,k2,k3⟩:=hw.store (P:=P) hb hl O2 Pe (tY eL Pe) zw
           have Fg:(storeCells ⟨b,q,none⟩ (news.take (Nat.min n len*s))).run P w=.ok () w':=by
            by_cases hlen:cap=0
            ·have h0:Nat.min n len*s=0:=by
              have:len=0:=by omega
              rw[this];simp
             rw[h0] at k1 ⊢
             simpa[storeCells] using k1
            ·rw[hq (by omega)];exact k1
           refine⟨.int .i64 (Nat.min n len:Nat),w',σ,fun _ _ _ _=>?_,k2,k3,rfl⟩
           have hf':(Builtin.firstCells ie.size (Nat.min n len) (.slice ay n cy)).run P w=.ok (news.take (Nat.min n len*s)).toArray w:=by
            have:=hf;rw[Lu] at this;rw[dE];exact this
           simp[execOp,resolve,invoke,builtin,Builtin.copy_,Y2,fQ,Lu,aaX (gU he),Builtin.lenOf,aq im,hf',Fg,goInt]
          ·cases h
         ·cases h
       ·cases h
      ·cases h
    ·cases h
   ·cases h
  ·cases h
theorem Nc{ts:Array TypeId}{x:Operand}(h:Eg P H ts (ρ x)=some (v,H')):ij P (.call ⟨.builtin .clear,#[x],ts⟩) ty ρ H v H':=
 ij.of fun σ w r hw hx=>by
  have h1:=hx x (by simp[Op.operands,Call.operands])
  generalize ρ x=cx at h h1
  unfold Eg at h
  split at h
  ·rename_i id k len s t rest Cd
   have Y2:ts[0]?=some t:=by rw[←Array.getElem?_toList,Cd];rfl
   split at h
   ·rename_i e he
    split at h
    ·rename_i z l hz hl
     cases hb:Nat.beq s z.length&&z.all fN&&Nat.blt 0 len with
     |false=>rw[hb] at h;cases h
     |true=>
      rw[hb] at h
      simp only[abf] at h
      simp only[aaT,abQ,abK] at hb
      split at h
      ·rename_i l' O2
       split at h
       ·rename_i H1 zw
        cases h
        obtain⟨b,p,c,cap,q,wV,fQ,hc,hle,pV,ji,hq⟩:=h1
        obtain⟨i,zv,hi,Rr,rfl⟩:=qN hz
        have PF:ig σ (rep len (zv.cells.toList.map xC)) (Builtin.zeroCells zv.cells len).toList:=Eo σ zv.cells len
        have eL:(rep len (zv.cells.toList.map xC)).all fN=true:=by
         have:∀ (n:Nat) (l:List CV),l.all fN=true→(rep n l).all fN=true:=by
          intro n l hl
          induction n with
          |zero=>rfl
          |succ n ih=>rw[rep,List.all_append,hl,ih];rfl
         exact this _ _ hb.1.2
        obtain⟨w',k1,k2,k3⟩:=hw.store (P:=P) wV hl O2 PF (tY eL PF) zw
        rw[←hq (by omega)] at k1
        refine⟨.tuple #[],w',σ,fun _ _ _ _=>?_,k2,k3,rfl⟩
        have hlen:len≠0:=by omega
        cases len with
        |zero=>omega
        |succ len=>simp[execOp,resolve,invoke,builtin,Builtin.clear_,Y2,fQ,aaX (gU he),aX hi Rr,k1]
       ·cases h
      ·cases h
    ·cases h
   ·cases h
  ·cases h
theorem Qn{ts:Array TypeId}{x:Operand}{id:Nat}(sb:ρ x=.m id)(h:xZ P H ts id=some (v,H')):ij P (.call ⟨.builtin .len,#[x],ts⟩) ty ρ H v H':=by
 unfold xZ at h
 split at h
 ·rename_i t Cd
  obtain rfl:ts=#[t]:=by rw[←Array.toArray_toList (xs:=ts),Cd]
  split at h
  ·rename_i kt et es cl hu hg
   cases h
   refine ij.val fun σ w r hw hx=>?_
   have h1:=hx x (by simp[Op.operands,Call.operands])
   rw[sb] at h1
   obtain⟨b,p,c,hb,fQ⟩:=h1
   have fq:=hw.mm id (hw.lt hb)
   rw[hg] at fq
   obtain⟨_,arr,ha,hr⟩:=Bv fq hb
   have hl:=hr.len
   simp only[abL] at hl
   exact⟨.int .i64 es.length,fun _ _ _ _=>by simp[execOp,resolve,invoke,builtin,Builtin.len_,aaX hu,fQ,getObj,Sem.run,ha,goInt,hl],rfl⟩
  ·cases h
 ·cases h
theorem Nd{ts:Array TypeId}{x:Operand}(h:Ji P H ts (ρ x)=some (v,H')):ij P (.call ⟨.builtin .cap,#[x],ts⟩) ty ρ H v H':=by
 generalize F5:ρ x=cx at h
 unfold Ji at h
 split at h
 ·rename_i id off len c t Cd
  obtain rfl:ts=#[t]:=by rw[←Array.toArray_toList (xs:=ts),Cd]
  cases he:(iN P t).isSome with
  |false=>rw[he] at h;cases h
  |true=>
   rw[he] at h;cases h
   obtain⟨e,he⟩:=acT.1 he
   refine ij.val fun σ w r hw hx=>?_
   have h1:=hx x (by simp[Op.operands,Call.operands])
   rw[F5] at h1
   obtain⟨b,p,c',hb,fQ⟩:=h1
   exact⟨.int .i64 c,fun _ _ _ _=>by simp[execOp,resolve,invoke,builtin,Builtin.cap_,aaX (gU he),fQ,goInt],rfl⟩
 ·rename_i id k len s t Cd
  obtain rfl:ts=#[t]:=by rw[←Array.toArray_toList (xs:=ts),Cd]
  cases he:(iN P t).isSome with
  |false=>rw[he] at h;cases h
  |true=>
   rw[he] at h
   simp only[abf] at h
   obtain⟨e,he⟩:=acT.1 he
   split at h
   ·rename_i l hl
    cases h
    refine ij.val fun σ w r hw hx=>?_
    have h1:=hx x (by simp[Op.operands,Call.operands])
    rw[F5] at h1
    obtain⟨b,p,c,cap,q,hb,fQ,hc,hle,pV,ji,hq⟩:=h1
    have fq:=hw.mm id (hw.lt hb)
    rw[rB hl] at fq
    obtain⟨b',p',c',arr,et,f1,f2,f3,f4,f5⟩:=fq
    rw[hb] at f1;cases f1
    have hdiv:l.length/s-k≤cap:=by
     have:l.length/s≤(k+cap)*s/s:=Nat.div_le_div_right (by omega)
     rw[adX _ pV] at this
     omega
    exact⟨.int .i64 cap,fun _ _ _ _=>by simp[execOp,resolve,invoke,builtin,Builtin.cap_,aaX (gU he),fQ,goInt],cap,rfl,hdiv⟩
   ·cases h
 ·cases h
theorem Nf{b:Builtin}{ts:Array TypeId}{xs:Array Operand}(h:H5 P b ts ty (xs.toList.map ρ)=some v):ij P (.call ⟨.builtin b,xs,ts⟩) ty ρ H v H:=
 ij.val fun σ w r hw hx=>by
  unfold H5 at h
  cases hb:RM b with
  |false=>rw[hb] at h;cases h
  |true=>
   rw[hb] at h
   simp only[abf] at h
   split at h
   ·rename_i vs O5
    split at h
    ·rename_i u hu
     cases h
     have hv:vs=xs.toList.map r:=(Ad O5 (Ae fun x kB=>hx x (by simpa[Op.operands,Call.operands] using kB))).symm
     subst hv
     have dz:=mC P _ _ hu w
     refine⟨u,fun _ _ _ _=>?_,pB σ u⟩
     have e:(xs.toList.map r).toArray=xs.map r:=by rw[←Array.toList_map,Array.toArray_toList]
     rw[e] at dz
     cases b<;>first|(cases hb;done)|simpa[execOp,resolve,invoke,builtin] using dz
    ·cases h
   ·cases h
theorem Y3{b:Builtin}{ts:Array TypeId}{xs:Array Operand}(h:UL P H b ts ty (xs.toList.map ρ)=some (v,H')):ij P (.call ⟨.builtin b,xs,ts⟩) ty ρ H v H':=by
 have h1:∀ {c:CV},xs.toList.map ρ=[c]→∃ x,xs=#[x]∧ρ x=c:=by
  intro c hc
  obtain⟨x,hx,hxc⟩:=List.map_eq_singleton_iff.1 hc
  exact⟨x,by rw[←Array.toArray_toList (xs:=xs),hx],hxc⟩
 have h2:∀ {c d:CV},xs.toList.map ρ=[c,d]→∃ x y,xs=#[x,y]∧ρ x=c∧ρ y=d:=by
  intro c d hc
  rcases Jl:xs.toList with _|⟨x,_|⟨y,_|⟨z,l⟩⟩⟩<;>rw[Jl] at hc<;>simp at hc
  exact⟨x,y,by rw[←Array.toArray_toList (xs:=xs),Jl],hc.1,hc.2⟩
 have EX:∀ {c:Option CV},val H c=some (v,H')→c=some v∧H'=H:=by
  intro c hc;cases c with
  |none=>cases hc
  |some c=>cases hc;exact⟨rfl,rfl⟩
 unfold UL at h
 split at h
 ·rename_i id heq
  obtain⟨x,rfl,hx⟩:=h1 heq
  split at h
  ·exact Qn hx h
  ·cases h
 ·rename_i heq
  obtain⟨x,rfl,hx⟩:=h1 heq
  split at h
  ·rw[←hx] at h;exact Nd h
  ·cases h
 ·rename_i heq
  obtain⟨x,rfl,hx⟩:=h1 heq
  split at h
  ·rw[←hx] at h;exact Nd h
  ·rw[←hx] at h;exact Nc h
  ·cases h
 ·split at h
  ·split at h
   ·rename_i heq
    obtain⟨x,y,rfl,hx,hy⟩:=h2 heq
    rw[←hx,←hy] at h
    exact KQ h
   ·cases h
  ·split at h
   ·rename_i heq
    obtain⟨x,y,rfl,hx,hy⟩:=h2 heq
    rw[←hx,←hy] at h
    exact Qm h
   ·cases h
  ·obtain⟨h5,rfl⟩:=EX h
   exact Nf h5
end
end Go.Proofs.YtjdnbobilgamdaaGreatDoor.Ev
end
section
namespace Go.Proofs.YtjdnbobilgamdaaGreatDoor.Ev
open Go
open Ab (aO aq aX Addr.aT)
section
variable {P:Program}{o:Op}{ty:TypeId}{ρ:Operand→CV}{H H':Hp}{v:CV}{wq:Option Nat}
theorem aQ.obj{σ:Sg}{w:World}(hw:aQ σ H w){id:Nat}{x:AO}{ob:Obj}{b c:Nat}(hb:σ id=some (b,0,c))(hl:(H.get id).GV=true)(zw:H.wr id x=some H')(hx:x≠.res)
  (he:b<w.heap.size→wS σ {w with heap:=w.heap.setIfInBounds b ob } id x):aQ σ H' {w with heap:=w.heap.setIfInBounds b ob }∧cG σ H w σ H' {w with heap:=w.heap.setIfInBounds b ob }:=by
 obtain⟨hf,rfl⟩:=Hp.sQ zw
 have hid:=hw.lt hb
 obtain⟨z,ug,CE⟩:=(hw.mm id hid).aD (AO.jK hl)
 rw[hb] at ug;cases ug
 exact hw.wr hid hf hl hb ⟨rfl,rfl,rfl⟩ (by simp) (fun b' aR=>by simp[abD (acN aR)]) hx (he CE)
theorem uq.Hc{σ:Sg}{y:CV}{k u:Value}(hu:RV σ y u):∀ {c:List (CV×CV×Nat)} {l:List MapEntry},uq σ c l→∀ {i:Nat} {e:MapEntry},l[i]?=some e→e.key=k→uq σ (M6 c i y) (l.modify i fun e=>{e with key:=k,val:=u })
 |[],_,h,i,e,he,_=>by cases h;simp at he
 |(a,x,b)::c,_,⟨e0,r,h1,h2,h3,h4,h5⟩,i,e,he,hk=>by
  subst h1
  cases i with
  |zero=>
   simp at he;subst he
   exact⟨_,r,rfl,by simpa[←hk] using h2,hu,h4,h5⟩
  |succ i=>exact⟨e0,_,rfl,h2,h3,h4,uq.Hc hu h5 (i:=i) (by simpa using he) hk⟩
theorem uq.app{σ:Sg}{a x:CV}{e:MapEntry}(h1:RV σ a e.key)(h2:RV σ x e.val):∀ {c:List (CV×CV×Nat)} {l:List MapEntry},uq σ c l→uq σ (c++[(a,x,e.born)]) (l++[e])
 |[],_,h=>by cases h;exact⟨e,[],rfl,h1,h2,rfl,rfl⟩
 |(_,_,_)::_,_,⟨e0,r,k1,k2,k3,k4,k5⟩=>by subst k1;exact⟨e0,_,rfl,k2,k3,k4,uq.app h1 h2 k5⟩
theorem wW{t:TypeId}{x k y:Operand}(h:qa P t (ρ x) (ρ k) (ρ y) H=some (v,H')):ij P (.mapUpdate t x k y) ty ρ H v H':=by
 generalize F5:ρ x=cx at h
 unfold qa at h
 split at h
 ·rename_i kt et id hu
  split at h
  ·rename_i es cl hg
   split at h
   ·rename_i i hf
    split at h
    ·rename_i H1 zw
     cases h
     refine ij.skip rfl fun σ w r hw hx=>?_
     have h1:=hx x (by simp[Op.operands])
     have h2:=hx k (by simp[Op.operands])
     have h3:=hx y (by simp[Op.operands])
     rw[F5] at h1
     obtain⟨b,p,c,hb,fQ⟩:=h1
     have fq:=hw.mm id (hw.lt hb)
     rw[hg] at fq
     obtain⟨rfl,arr,ha,hr⟩:=Bv fq hb
     obtain⟨c1,c2⟩:=wX hf h2 hr false w
     rcases c2 with ⟨c2,_⟩|⟨i',e,c2,c3,c4,c5,c6⟩
     ·cases c2
     ·cases c2
      obtain⟨k1,k2⟩:=hw.obj (ob:=.map (arr.modify i fun e=>{e with key:=r k,val:=r y }) cl) hb (by rw[hg];rfl) zw (by simp) (fun aN=>
       ⟨b,c,arr.modify i fun e=>{e with key:=r k,val:=r y },hb,by simp[aN],by rw[Array.toList_modify];exact uq.Hc h3 hr c3 c6⟩)
      refine⟨_,σ,fun _ _ _ _=>?_,k1,k2⟩
      have Yj:arr[i]?=some e:=by rw[←Array.getElem?_toList];exact c3
      simp[execOp,Instr.mapUpdate,aaX hu,fQ,getObj,Sem.run,ha,c1,c4,Yj,Instr.keyThatStays,c5,setObj]
    ·cases h
   ·rename_i hf
    split at h
    ·rename_i H1 zw
     cases h
     refine ij.skip rfl fun σ w r hw hx=>?_
     have h1:=hx x (by simp[Op.operands])
     have h2:=hx k (by simp[Op.operands])
     have h3:=hx y (by simp[Op.operands])
     rw[F5] at h1
     obtain⟨b,p,c,hb,fQ⟩:=h1
     have fq:=hw.mm id (hw.lt hb)
     rw[hg] at fq
     obtain⟨rfl,arr,ha,hr⟩:=Bv fq hb
     obtain⟨c1,c2⟩:=wX hf h2 hr false w
     rcases c2 with ⟨_,c4⟩|⟨i',e,c2,_⟩
     ·obtain⟨k1,k2⟩:=hw.obj (ob:=.map (arr.push {key:=r k,val:=r y,born:=cl }) (cl+1)) hb (by rw[hg];rfl) zw (by simp) (fun aN=>
       ⟨b,c,arr.push {key:=r k,val:=r y,born:=cl },hb,by simp[aN],by rw[Array.toList_push];exact uq.app (e:={key:=r k,val:=r y,born:=cl }) h2 h3 hr⟩)
      refine⟨_,σ,fun _ _ _ _=>?_,k1,k2⟩
      simp[execOp,Instr.mapUpdate,aaX hu,fQ,getObj,Sem.run,ha,c1,c4,setObj]
     ·cases c2
    ·cases h
   ·cases h
  ·cases h
 ·cases h
theorem uq.find{σ:Sg}{b:Nat}:∀ {c:List (CV×CV×Nat)} {l:List MapEntry},uq σ c l→∀ {q:CV×CV×Nat},c.find? (fun e=>Nat.beq e.2.2 b)=some q→∃ e,l.find? (fun e=>e.born==b)=some e∧RV σ q.1 e.key∧RV σ q.2.1 e.val
 |[],_,_,q,hq=>by simp at hq
 |(a,x,n)::c,_,⟨e0,r,h1,h2,h3,h4,h5⟩,q,hq=>by
  subst h1
  simp only[List.find?_cons] at hq ⊢
  cases hb:Nat.beq n b with
  |true=>
   rw[hb] at hq;cases hq
   rw[abQ] at hb
   exact⟨e0,by simp[h4,hb],h2,h3⟩
  |false=>
   rw[hb] at hq
   have aR:n≠b:=fun hc=>by rw[hc] at hb;simp at hb
   have:(e0.born==b)=false:=by rw[h4];simpa using aR
   rw[this]
   exact uq.find h5 hq
theorem Ng{x:Operand}(h:Ej (ρ x) H=some v):ij P (.entry x) ty ρ H v H:=
 ij.val fun σ w r hw hx=>by
  have h1:=hx x (by simp[Op.operands])
  generalize ρ x=cx at h h1
  unfold Ej at h
  split at h
  ·rename_i id
   obtain⟨b,p,c,hb,fQ⟩:=h1
   split at h
   ·rename_i m since seen st hg
    split at h
    ·rename_i es cl bb hm hs
     cases hc:Nat.beq cl st with
     |false=>rw[hc] at h;cases h
     |true=>
      rw[hc] at h
      rw[abQ] at hc
      subst hc
      simp only[abf] at h
      split at h
      ·rename_i e he
       cases h
       have fq:=hw.mm id (hw.lt hb)
       rw[hg] at fq
       obtain⟨b',c',mb,f1,f2,y,f3,rfl⟩:=fq
       rw[hb] at f1;cases f1
       have F7:=hw.mm m (hw.lt f3)
       rw[hm] at F7
       obtain⟨bm,pm,cm⟩:=y
       obtain⟨_,arr,ha,hr⟩:=Bv F7 f3
       obtain⟨e',g1,g2,g3⟩:=hr.find he
       have V9:arr.find? (fun e=>e.born==bb)=some e':=by rw[←Array.find?_toList];exact g1
       have V_:(⟨seen⟩:Array Nat).back?=some bb:=by simpa[Array.back?_eq_getElem?,ad3] using hs
       exact⟨.tuple #[e'.key,e'.val],fun _ _ _ _=>by simp[execOp,Instr.entry,fQ,getObj,Sem.run,f2,V_,ha,V9],[e'.key,e'.val],rfl,_,_,rfl,g2,_,_,rfl,g3,rfl⟩
      ·cases h
    ·cases h
   ·cases h
  ·cases h
theorem Nh(σ:Sg)(l:List UInt8):ig σ (l.map fun b=>CV.i .u8 b.toNat) (l.map fun b=>Value.int .u8 b.toNat):=by
 induction l with
 |nil=>rfl
 |cons b l ih=>exact⟨_,_,rfl,rfl,ih⟩
theorem F8{α:Type}(a:Array α)(x:α)(f:α→α):(a.push x).modify a.size f=a.push (f x):=by
 apply Array.ext_getElem?
 intro i
 rw[adJ]
 by_cases h:i=a.size
 ·subst h;simp
 ·rw[aa7 (fun hc=>h hc.symm),acF,acF,aa7 h,aa7 h]
theorem Qo(elem:TypeId)(z:ByteArray)(w:World):∃ arr:Array Value,arr=z.data.map (fun b=>Value.int .u8 b.toNat)++Array.replicate (grownCap w z.size 0 elem-z.size) (.int .u8 0)∧
  (Conv.stringToBytes elem z).run P w=.ok (.slice (some ⟨w.heap.size,0,none⟩) z.size (grownCap w z.size 0 elem)) {w.drew with heap:=w.heap.push (.cells arr elem (arr.size,arr.size+1))}:=by
 refine⟨_,rfl,?_⟩
 generalize jj:z.data.map (fun b=>Value.int .u8 b.toNat)++Array.replicate (grownCap w z.size 0 elem-z.size) (.int .u8 0)=arr
 have UY:(choose (.appendCap z.size 0 elem)).run P w=.ok (grownCap w z.size 0 elem) w.drew:=rfl
 have hsh:(w.drew.alloc (.cells arr elem)).shape? w.heap.size=some (elem,arr.size):=by simp only[World.shape?,World.alloc,World.drew,Array.getElem?_push_size]
 have Sj:(w.drew.alloc (.cells arr elem)).freeze ⟨w.heap.size,arr.size,none⟩ 1={w.drew with heap:=w.heap.push (.cells arr elem (arr.size,arr.size+1))}:=by
  simp only[World.freeze,Nat.one_ne_zero,abb,World.alloc,World.drew,F8]
  simp
 have hmk:(markStringish ⟨w.heap.size,0,none⟩).run P (w.drew.alloc (.cells arr elem))=.ok () {w.drew with heap:=w.heap.push (.cells arr elem (arr.size,arr.size+1))}:=by
  have h1:(shape w.heap.size).run P (w.drew.alloc (.cells arr elem))=.ok (some (elem,arr.size)) (w.drew.alloc (.cells arr elem)):=by
   show Result.ok ((w.drew.alloc (.cells arr elem)).shape? w.heap.size) _=_
   rw[hsh]
  have h2:(freeze ⟨w.heap.size,arr.size,none⟩ 1).run P (w.drew.alloc (.cells arr elem))=.ok () {w.drew with heap:=w.heap.push (.cells arr elem (arr.size,arr.size+1))}:=by
   show Result.ok () ((w.drew.alloc (.cells arr elem)).freeze ⟨w.heap.size,arr.size,none⟩ 1)=_
   rw[Sj]
  simp only[markStringish,abl,h1,aa3,h2]
 have hnw:(newRow elem arr).run P w.drew=.ok ⟨w.heap.size,0,none⟩ (w.drew.alloc (.cells arr elem)):=by
  simp only[newRow,abl,ac7,aa3,abu]
  rfl
 simp only[Conv.stringToBytes,abl,UY,aa3,jj,hnw,hmk,abu]
theorem H6{s d:TypeId}{x:Operand}(h:tX P s d (ρ x) H=some (v,H')):ij P (.convert s d x) ty ρ H v H':=by
 unfold tX at h
 split at h
 ·rename_i y hy
  split at h
  ·rename_i u hu
   cases h
   exact ij.val fun σ w r hw hx=>by
    have h1:=kW hy (hx x (by simp[Op.operands]))
    exact⟨u,fun _ _ _ _=>by simp[execOp,h1,mC P _ _ hu w],pB σ u⟩
  ·split at h
   ·rename_i z e he hpv
    split at h
    ·rename_i hu
     cases KR:Tm P s&&Nat.ble z.size 4294967296 with
     |false=>rw[KR] at h;cases h
     |true=>
     rw[KR] at h
     simp only[abf] at h
     simp only[aaT,ab2] at KR
     have hus:P.underlying s=some .string:=by
      have:=KR.1;unfold Tm at this;split at this
      ·assumption
      ·cases this
     refine ij.of fun σ w r hw hx=>?_
     have fQ:r x=.string z:=kW hy (hx x (by simp[Op.operands]))
     obtain⟨e1,e2,e3⟩:=Hp.qp h
     subst e3
     let cap:=grownCap w z.size 0 e
     have hC:z.size≤cap:=adV w z.size 0 e
     have J':cap≤9223372036854775807:=by
      have:=ac9 w z.size 0 e (by simp only[maxLen];omega)
      simpa[maxLen] using this
     obtain⟨arr,jj,dz⟩:=Qo (P:=P) e z w
     have IQ:z.data.size=z.size:=rfl
     have dE:arr.size=cap:=by
      rw[jj]
      simp only[adj,Array.size_map,Array.size_replicate,IQ]
      show z.size+(cap-z.size)=cap
      omega
     obtain⟨aE,k1,k2,k3⟩:=(hw.drew (w.drawn+1)).new (o:=.cells arr e (arr.size,arr.size+1)) (y:=(0,cap)) e1 (x:=.k (z.data.toList.map fun b=>.i .u8 b.toNat)) (by simp) (fun aE hm hid=>by
      have hz:(z.data.toList.map fun b=>CV.i .u8 b.toNat).length=z.size:=by rw[aa4,abL];rfl
      refine⟨_,0,cap,arr,e,(arr.size,arr.size+1),hid,by simp,by rw[hz];exact hC,by omega,?_⟩
      have:(arr.toList.drop 0).take (z.data.toList.map fun b=>CV.i .u8 b.toNat).length=z.data.toList.map fun b=>Value.int .u8 b.toNat:=by
       rw[hz,acP,jj,adS,Array.toList_map,List.take_left']
       rw[aa4,abL];rfl
      rw[this];exact Nh _ _)
     refine⟨.slice (some ⟨w.heap.size,0,none⟩) z.size cap,_,aE,fun _ _ _ _=>?_,k2,k3.drew,by rw[e2];exact⟨_,_,_,cap,0,k1,rfl,by simp,hC,by simp,J',by simp⟩⟩
     simp only[execOp,Go.convert,abl,aaX hus,aaX (gU he),aaX hu,fQ,dz,aa3,abu]
     rfl
    ·cases h
   ·cases h
 ·cases h
end
end Go.Proofs.YtjdnbobilgamdaaGreatDoor.Ev
end
section
namespace Go.Proofs.YtjdnbobilgamdaaGreatDoor.Ev
open Go
open Ab (aO aq aX Addr.aT)
section
variable {P:Program}{o:Op}{ty:TypeId}{ρ:Operand→CV}{H H':Hp}{v:CV}{wq:Option Nat}
theorem uq.left{σ:Sg}{seen:List Nat}:∀ {c:List (CV×CV×Nat)} {l:List MapEntry},uq σ c l→uq σ (c.filter fun e=>!seen.contains e.2.2) (l.filter fun e=>!seen.contains e.born)
 |[],_,h=>by cases h;rfl
 |(a,x,n)::c,_,⟨e0,r,h1,h2,h3,h4,h5⟩=>by
  subst h1
  have ih:=uq.left (seen:=seen) h5
  simp only[List.filter_cons,h4]
  split
  ·exact⟨e0,_,rfl,h2,h3,h4,ih⟩
  ·exact ih
theorem uq.all{σ:Sg}{since:Nat}:∀ {c:List (CV×CV×Nat)} {l:List MapEntry},uq σ c l→c.all (fun e=>Nat.blt e.2.2 since)=true→∀ e∈l,e.born<since
 |[],_,h,_=>by cases h;simp
 |(a,x,n)::c,_,⟨e0,r,h1,h2,h3,h4,h5⟩,wy=>by
  subst h1
  simp only[aed,aaT,abK] at wy
  intro e he
  simp only[abq] at he
  rcases he with rfl|he
  ·omega
  ·exact h5.all wy.2 e he
theorem Qp{x:Operand}{isS:Bool}(aR:vc H (ρ x) isS≠[]):∀ σ w r pos after guard dst,aQ σ H w→RV σ (ρ x) (r x)→
  aO P ⟨dst,.next x isS,ty,pos,after,guard⟩ r w fun rv w'=>∃ q,q∈vc H (ρ x) isS∧∃ aE,aQ aE q.2 w'∧cG σ H w aE q.2 w'∧RV aE q.1 rv:=by
 intro σ w r pos after guard dst hw h1
 have fin:∀ {q:CV×Hp} {rv:Value} {w':World} {aE:Sg},q∈vc H (ρ x) isS→(Instr.next (r x) isS ty).run P w=.ok rv w'→aQ aE q.2 w'→cG σ H w aE q.2 w'→RV aE q.1 rv→
   aO P ⟨dst,.next x isS,ty,pos,after,guard⟩ r w fun rv w'=>∃ q,q∈vc H (ρ x) isS∧∃ aE,aQ aE q.2 w'∧cG σ H w aE q.2 w'∧RV aE q.1 rv:=by
  intro q rv w' aE hq hr h2 h3 h4
  unfold aO
  have:(execOp r ⟨dst,.next x isS,ty,pos,after,guard⟩).run P w=.ok (.value rv) w':=by simp[execOp,hr]
  rw[this]
  exact⟨q,hq,aE,h2,h3,h4⟩
 generalize hl:vc H (ρ x) isS=l at aR fin ⊢
 generalize F5:ρ x=cx at hl h1
 unfold vc at hl
 split at hl
 ·rename_i id
  obtain⟨b,p,c,hb,fQ⟩:=h1
  have fq:=hw.mm id (hw.lt hb)
  split at hl
  ·rename_i s ps hg
   rw[hg] at fq
   obtain⟨b',c',f1,f2⟩:=fq
   rw[hb] at f1;cases f1
   cases aN:Nat.blt ps s.size with
   |true=>
    rw[aN] at hl
    simp only[abf] at hl
    split at hl
    ·rename_i H1 zw
     subst hl
     rw[abK] at aN
     obtain⟨k1,k2⟩:=hw.obj (ob:=.stringIter s (ps+(Utf8.decode s ps).2)) hb (by rw[hg];rfl) zw (by simp) (fun aN=>⟨b,c,hb,by simp[aN]⟩)
     refine fin (ab0.2 rfl) (rv:=.tuple #[.bool true,goInt ps,.int .i32 (Utf8.decode s ps).1]) ?_ k1 k2 ⟨_,rfl,_,_,rfl,rfl,_,_,rfl,rfl,_,_,rfl,rfl,rfl⟩
     simp[Instr.next,fQ,getObj,Sem.run,f2,aN,setObj]
    ·exact absurd hl.symm aR
   |false=>
    rw[aN] at hl
    simp only[abJ] at hl
    subst hl
    have aN:¬ps<s.size:=fun hc=>by rw[show Nat.blt ps s.size=true by rw[abK];exact hc] at aN;cases aN
    refine fin (ab0.2 rfl) (rv:=.tuple #[.bool false]) ?_ hw (.refl _ _ _) ⟨_,rfl,_,_,rfl,rfl,rfl⟩
    simp[Instr.next,fQ,getObj,Sem.run,f2,aN]
  ·exact absurd hl.symm aR
 ·rename_i id
  obtain⟨b,p,c,hb,fQ⟩:=h1
  have fq:=hw.mm id (hw.lt hb)
  split at hl
  ·rename_i m since seen st hg
   rw[hg] at fq
   obtain⟨b',c',mb,f1,f2,y,f3,rfl⟩:=fq
   rw[hb] at f1;cases f1
   split at hl
   ·rename_i es cl hm
    have F7:=hw.mm m (hw.lt f3)
    rw[hm] at F7
    obtain⟨bm,pm,cm⟩:=y
    obtain⟨_,arr,ha,hr⟩:=Bv F7 f3
    cases hc:es.all (fun e=>Nat.blt e.2.2 since)&&Nat.ble since st with
    |false=>rw[hc] at hl;exact absurd hl.symm aR
    |true=>
     rw[hc] at hl
     simp only[abf] at hl
     simp only[aaT,ab2] at hc
     have wy:=hr.all hc.1
     have F9:=hr.left (seen:=seen)
     have Cp:((!(⟨seen⟩:Array Nat).isEmpty&&!arr.isEmpty)&&arr.all fun e=>decide (e.born≥st))=false:=by
      by_cases V':arr.isEmpty=true
      ·simp[V']
      ·have:∃ e,e∈arr.toList:=by
        rcases Tq:arr.toList with _|⟨e,t⟩
        ·exact absurd (by simpa using Tq) V'
        ·exact⟨e,by simp⟩
       obtain⟨e,he⟩:=this
       have aN:=wy e he
       have:(arr.all fun e=>decide (e.born≥st))=false:=by
        rw[acW]
        intro hA
        rw[Array.all_eq_true'] at hA
        have:=hA e (by simpa using he)
        simp at this;omega
       rw[this,ac5]
     have hold:((arr.filter fun e=>!(⟨seen⟩:Array Nat).contains e.born).filter fun e=>decide (e.born<since))=arr.filter fun e=>!(⟨seen⟩:Array Nat).contains e.born:=by
      apply Array.filter_eq_self.2
      intro e he
      simp only[Array.mem_filter] at he
      simpa using wy e (by simpa using he.1)
     have qk:((arr.filter fun e=>!(⟨seen⟩:Array Nat).contains e.born).filter fun e=>decide (e.born≥since))=#[]:=by
      apply Array.filter_eq_empty_iff.2
      intro e he
      simp only[Array.mem_filter] at he
      have:=wy e (by simpa using he.1)
      simp;omega
     have htl:(arr.filter fun e=>!(⟨seen⟩:Array Nat).contains e.born).toList=arr.toList.filter fun e=>!seen.contains e.born:=by
      rw[Array.toList_filter]
      congr 1
      funext e;simp
     generalize hL:(arr.filter fun e=>!(⟨seen⟩:Array Nat).contains e.born)=L at hold qk htl
     rw[←htl] at F9
     split at hl
     ·rename_i DH
      rw[DH] at F9
      have hL0:L=#[]:=by have:L.toList=[]:=F9;simpa using this
      subst hL0
      split at hl
      ·rename_i H1 zw
       subst hl
       obtain⟨hf,rfl⟩:=Hp.sQ zw
       obtain⟨k1,k2⟩:=hw.wr (w':=w) (x:=.free) (hw.lt hb) hf (by rw[hg];rfl) hb ⟨rfl,rfl,rfl⟩ rfl (fun _ _=>rfl) (by simp) trivial
       refine fin (ab0.2 rfl) (rv:=.tuple #[.bool false]) ?_ k1 k2 ⟨_,rfl,_,_,rfl,rfl,rfl⟩
       simp only[Instr.next,fQ,getObj,abl,Sem.run,f2,ha,aa3,Cp,aaU,abb,hL,hold,qk]
       simp[choose,Sem.run,Question.forced]
      ·exact absurd hl.symm aR
     ·rename_i l0 rS
      have Aw:H.fl≤id:=by
       rcases hlq:l with _|⟨q,l1⟩
       ·exact absurd hlq aR
       ·have hq:q∈l:=by rw[hlq];simp
        rw[←hl] at hq
        obtain⟨e,_,he⟩:=adZ.1 hq
        split at he
        ·rename_i zw;exact(Hp.sQ zw).1
        ·cases he
      have Wa:∀ a,H.wr id a=some ⟨(bg AO 4 id).s a H.h,H.n,H.fl⟩:=fun a=>by
       simp only[Hp.wr,Bw,show Nat.ble H.fl id=true by rw[ab2];exact Aw,abf]
      have dE:0<L.size:=by
       have:=F9.len
       simp only[abL] at this
       rw[←this]
       exact abA.2 rS
      have XQ:L.isEmpty=false:=by rw[Array.isEmpty_eq_false_iff];intro hc;rw[hc] at dE;simp at dE
      obtain⟨idx,d,Wb,UY⟩:∃ idx d,idx<L.size∧(choose (.mapNext L.size)).run P w=.ok idx {w with drawn:=d }:=by
       by_cases h1:L.size≤1
       ·exact⟨0,w.drawn,dE,by simp[choose,Sem.run,Question.forced,h1]⟩
       ·exact⟨(Question.mapNext L.size).cut (w.tape w.drawn (.mapNext L.size)),w.drawn+1,adx _ dE,by simp[choose,Sem.run,Question.forced,h1]⟩
      have he:L.toList[idx]?=some L[idx]:=by rw[aa0];simp[Wb]
      obtain⟨k,xv,g1,g2,g3⟩:=F9.get he
      have mG:(CV.t [.b true,k,xv],(⟨(bg AO 4 id).s (.mi (some m) since (seen++[L[idx].born]) cl) H.h,H.n,H.fl⟩:Hp))∈l:=by
       rw[←hl]
       exact adZ.2 ⟨(k,xv,L[idx].born),abc g1,by simp only[Wa]⟩
      have Qa:=hw.drew d
      obtain⟨k1,k2⟩:=Qa.obj (ob:=.mapIter (some bm) since (seen++[L[idx].born]).toArray cl) hb (by rw[hg];rfl) (Wa (.mi (some m) since (seen++[L[idx].born]) cl)) (by simp) (fun aN=>
       ⟨b,c,_,hb,by simp[aN],(bm,pm,cm),f3,rfl⟩)
      refine fin mG (rv:=.tuple #[.bool true,L[idx].key,L[idx].val]) ?_ k1 k2.drew ⟨_,rfl,_,_,rfl,rfl,_,_,rfl,g2,_,_,rfl,g3,rfl⟩
      simp only[Instr.next,fQ,getObj,abl,Sem.run,f2,ha,aa3,Cp,aaU,abb,hL,hold,qk,XQ,Array.append_empty,adC,Array.size_map,UY]
      simp[Wb,setObj,Sem.run,f2]
   ·exact absurd hl.symm aR
  ·exact absurd hl.symm aR
 ·exact absurd hl.symm aR
end
end Go.Proofs.YtjdnbobilgamdaaGreatDoor.Ev
end
section
namespace Go.Proofs.YtjdnbobilgamdaaGreatDoor.Ev
open Go
section
variable {P:Program}{ty:TypeId}{H H':Hp}{v:CV}{wq:Option Nat}{E:Env}
theorem nJ{c:Option CV}(h:val H c=some (v,H')):c=some v∧H'=H:=by
 cases c with
 |none=>cases h
 |some c=>cases h;exact⟨rfl,rfl⟩
theorem tZ{o:Op}(h:iZ P o ty E H wq=some (v,H'))(hq:∀ id,wq=some id→id<H.n):ij P o ty (eO E) H v H':=by
 unfold iZ at h
 split at h
 ·split at h
  ·rename_i hz;exact Ni hz h hq
  ·cases h
 ·split at h
  ·rename_i hl;exact Ts hl h hq
  ·cases h
 ·obtain⟨h1,rfl⟩:=nJ h;exact Nj h1
 ·exact Cq h hq
 ·exact Nk h
 ·split at h
  ·rename_i hx;cases h;exact F_ hx
  ·cases h
 ·rename_i fn fst cs
  cases he:fst.isEmpty with
  |false=>rw[he] at h;cases h
  |true=>rw[he] at h;cases h;exact F' he
 ·exact H7 h hq
 ·exact Ep h hq
 ·exact ok_slice h
 ·obtain⟨h1,rfl⟩:=nJ h;exact KS h1
 ·obtain⟨h1,rfl⟩:=nJ h;exact Nl h1
 ·obtain⟨h1,rfl⟩:=nJ h;exact KT h1
 ·exact wW h
 ·exact wW (ty:=ty) h
 ·exact Nn h
 ·obtain⟨h1,rfl⟩:=nJ h;exact Ng h1
 ·exact H6 h
 ·split at h
  ·rename_i y hy
   split at h
   ·rename_i u hu;cases h;exact Qq hy hu
   ·cases h
  ·cases h
 ·rename_i c
  obtain⟨Jm,xs,ts⟩:=c
  split at h
  ·rename_i b hb
   simp only at hb h
   subst hb
   exact Y3 h
  ·cases h
 ·cases h
theorem Tt{ts:Array TypeId}{x:Operand}{t:TypeId}(ht:ts.toList=[t])(he:(iN P t).isSome=true)(h:Ql P (eO E x) (.call ⟨.builtin .len,#[x],ts⟩) ty E H wq=some (v,H'))(hq:∀ id,wq=some id→id<H.n):
  ij P (.call ⟨.builtin .len,#[x],ts⟩) ty (eO E) H v H':=by
 obtain rfl:ts=#[t]:=by rw[←Array.toArray_toList (xs:=ts),ht]
 obtain⟨e,he⟩:=acT.1 he
 unfold Ql at h
 split at h
 ·rename_i id o n c sb
  cases h
  refine ij.val fun σ w r hw hx=>?_
  have h1:=hx x (by simp[Op.operands,Call.operands])
  rw[sb] at h1
  obtain⟨b,p,c',hb,fQ⟩:=h1
  exact⟨.int .i64 n,fun _ _ _ _=>by simp[execOp,resolve,invoke,builtin,Builtin.len_,aaX (gU he),fQ,goInt],rfl⟩
 ·rename_i id k n s sb
  cases h
  refine ij.val fun σ w r hw hx=>?_
  have h1:=hx x (by simp[Op.operands,Call.operands])
  rw[sb] at h1
  obtain⟨b,p,c',cap,q,hb,fQ,_⟩:=h1
  exact⟨.int .i64 n,fun _ _ _ _=>by simp[execOp,resolve,invoke,builtin,Builtin.len_,aaX (gU he),fQ,goInt],rfl⟩
 ·exact tZ h hq
theorem Jn{o:Op}(h:exec P (comp P o ty) E H wq=some (v,H'))(hq:∀ id,wq=some id→id<H.n):ij P o ty (eO E) H v H':=by
 cases o with
 |move x=>cases h;exact Wc
 |assign x=>cases h;exact Wd
 |binOp op t x y u=>
  obtain⟨h1,rfl⟩:=nJ (show val H (F1 (V5 op) (M7 P op t x y) (eO E x) (eO E y))=some (v,H') from h)
  exact Tu h1
 |load t x=>
  simp only[comp] at h
  split at h
  ·rename_i d n hd hn
   obtain⟨h1,rfl⟩:=nJ (show val H (KN _ (eO E x) H)=some (v,H') from h)
   exact We hd hn h1
  ·cases h
 |indexAddr t x i=>
  simp only[comp] at h
  split at h
  ·rename_i e hu
   split at h
   ·rename_i s hs
    obtain⟨h1,rfl⟩:=nJ (show val H (M9 s (eO E x) (M5 (eO E i)))=some (v,H') from h)
    exact Wf hu hs h1
   ·cases h
  ·exact tZ h hq
 |fieldAddr t x k=>
  simp only[comp] at h
  split at h
  ·rename_i f hf
   split at h
   ·rename_i s hs
    cases hb:Nat.beq s 0 with
    |true=>rw[hb] at h;cases h
    |false=>
     rw[hb] at h
     obtain⟨h1,rfl⟩:=nJ (show val H (M_ f.offset (eO E x))=some (v,H') from h)
     exact Wg hf hs (fun hc=>by rw[hc] at hb;cases hb) h1
   ·cases h
  ·cases h
 |pick c a b=>
  obtain⟨h1,rfl⟩:=nJ (show val H (KO (eO E c) (dK a) (dK b) E)=some (v,H') from h)
  exact Wh h1
 |extract x i=>
  obtain⟨h1,rfl⟩:=nJ (show val H (Na (eO E x) i)=some (v,H') from h)
  exact Wi h1
 |next x s=>cases h
 |call c=>
  obtain⟨Jm,xs,ts⟩:=c
  simp only[comp] at h
  split at h
  ·cases h
  ·rename_i x Jl
   obtain rfl:xs=#[x]:=by rw[←Array.toArray_toList (xs:=xs),Jl]
   split at h
   ·rename_i t ht
    cases he:(iN P t).isSome with
    |true=>rw[he] at h;exact Tt ht he h hq
    |false=>rw[he] at h;exact tZ h hq
   ·exact tZ h hq
  ·exact tZ h hq
 |_=>exact tZ h hq
end
end Go.Proofs.YtjdnbobilgamdaaGreatDoor.Ev
end
