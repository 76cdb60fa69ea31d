/- What awake() comes to. Conditions: none. -/
import Derived.Test.YtjdnbobilgamdaaGreatDoorE27
import Derived.Test.YtjdnbobilgamdaaGreatDoorE28
import Derived.Test.YtjdnbobilgamdaaGreatDoorE29
import Derived.Test.YtjdnbobilgamdaaGreatDoorE31
import Derived.Test.YtjdnbobilgamdaaGreatDoorSh
import Derived.KernelRfl
namespace Go.Proofs.YtjdnbobilgamdaaGreatDoor.Ev
open Go
set_option maxRecDepth 100000
theorem N0:(Tryz.prog.funcs.all fun fn=>!(fn.name== "runtime.NumGoroutine"))=true:=by decide+kernel
theorem WC{a b f:Nat}(h:sS [a,b] f=true):f=a∨f=b:=by
 simp only[sS,List.any_cons,List.any_nil,Bool.or_false,abU,abQ] at h
 exact h.imp Eq.symm Eq.symm
theorem Zo(C:Cx)(hP:C.P=Tryz.prog)(hv:C.ov=[209,211]):KV C:=by
 obtain⟨P,oc,qf,ov,ks,kt⟩:=C
 simp only at hP hv
 subst hP
 subst hv
 refine⟨fun f fn hf=>?_,fun f hf=>?_,rfl⟩
 ·obtain⟨hl,rfl⟩:=abd.1 hf
  have:=(adk.1 N0) f hl
  simpa using this
 ·rcases WC hf with rfl|rfl
  ·exact⟨112,4,178,_,run_callFunc_extern Tryz.func209 (by kernel_rfl) (by kernel_rfl) (by kernel_rfl) (by kernel_rfl),rfl,rfl⟩
  ·exact⟨42,4,3,_,run_callFunc_extern Tryz.func211 (by kernel_rfl) (by kernel_rfl) (by kernel_rfl) (by kernel_rfl),rfl,rfl⟩
theorem QG:∀ e,e∈OY→mm e=true:=by
 have h:OY.all mm=true:=by
  have:OY=OY.take 3++OY.drop 3:=rfl
  rw[this,List.all_append,WA,WB];rfl
 exact abi.1 h
theorem TI:Df Tryz.prog OY:=by
 intro e he
 have h:=QG e he
 unfold mm at h
 simp only[aaT] at h
 obtain⟨⟨h1,-⟩,h2⟩:=h
 refine⟨h1,fun σ w vals hw hr=>?_⟩
 split at h2
 ·rename_i v H' hv
  have hC:KV C0:=Zo C0 rfl rfl
  have hT:Df C0.P C0.kt:=fun e he=>by cases he
  have:=sU hC (dq hC (Ez hC hT 60)) hv hw hr
  obtain rfl:=Aj h2
  exact pO.mono this fun rv w' ⟨aE,a,b,c⟩=>⟨aE,H',a,b,c⟩
 ·cases h2
theorem QH{σ:Sg}{w:World}{vals:Array Value}(hw:aQ σ ⟨(ek [vk]).h,(ek [vk]).n,(ek [vk]).n⟩ w)(hr:ig σ TH.2.1 vals.toList):
  pO Tryz.prog 34 vals w fun rv w'=>∃ aE H',aQ aE H' w'∧cG σ ⟨(ek [vk]).h,(ek [vk]).n,(ek [vk]).n⟩ w aE H' w'∧RV aE Wz rv:=by
 obtain⟨y1,r1,e1,⟨b,p,c,cap,q,hs,rfl,-,hlen,-,-,hq⟩,y2,r2,e2,h2,e3⟩:=hr
 have Nw:vals=#[.slice (some ⟨b,q,none⟩) 2 cap,.string ⟨#[44,32]⟩]:=by
  apply Array.toList_inj.1
  rw[e1,e2,e3,show y2=_ from h2]
 subst Nw
 have hq':q=p:=by have:=hq (by omega);omega
 subst hq'
 have fq:wS σ w 0 (.k vk):=by
  have:=hw.mm 0 (by rw[(sW _).1];decide)
  rwa[show Hp.get ⟨(ek [vk]).h,(ek [vk]).n,(ek [vk]).n⟩ 0=AO.k vk from BF [vk] 0 vk (by decide) rfl] at this
 obtain⟨b',p',c',arr,et,fr,f1,f2,f3,f4,f5⟩:=fq
 rw[hs] at f1;cases f1
 obtain⟨z1,t1,g1,rfl,z2,t2,rfl,rfl,rfl⟩:=f5
 have g0:=adg (·[0]?) g1
 have g2:=adg (·[1]?) g1
 simp[vk] at g0 g2
 have hb:b<w.heap.size:=(abd.1 f2).1
 have key:=Tryz.strings_Join b q cap [⟨#[116,105,116,108,101,32,97,103,114,101,101,115,32,50,48,47,49]⟩,⟨#[97,117,116,104,111,114,32,97,103,114,101,101,115,32,49,50,47,49]⟩] ⟨#[44,32]⟩ w (fun j x hj=>by
  match j,hj with
  |0,hj=>cases hj;simp[World.cell?,f2,g0]
  |1,hj=>cases hj;simp[World.cell?,f2,g2]
  |j+2,hj=>simp at hj) hb (by decide) hlen (by decide+kernel)
 unfold pO
 rw[x8 (P:=Tryz.prog) (Zo C0 rfl rfl).nm Tryz.func34 rfl]
 refine Calls.mono key ?_
 rintro e w' ⟨rfl,lN⟩
 refine⟨_,rfl,σ,_,⟨hw.nn,hw.le,hw.fl,fun id hi=>(hw.mm id hi).mono (fun _ _ h=>h) (fun hr=>by have:=hw.mm id hi;rw[hr] at this;exact this) (fun z hz hl=>?_),hw.sep⟩,
  ⟨⟨lN.os,lN.tape,lN.output⟩,lN.size,fun _ _ h=>h,fun _ _ h=>⟨rfl,h⟩,fun _ _=>rfl,aaZ _,rfl,fun _ _=>rfl,fun b hb _=>lN.block b hb,fun id x h1 h2 h3 h4 _=>⟨id,x,h1,h2,h3,h4,rfl⟩,fun id x h1 h2 h3 h4 _=>⟨id,x,h1,h2,h3,h4,rfl⟩⟩,?_⟩
 ·obtain⟨y,a1,a2⟩:=(hw.mm id hi).aD hl
  rw[hz] at a1;cases a1
  exact lN.block _ a2
 ·show(_:Value)=_
  kernel_rfl
theorem WD:Df Tryz.prog (TH::OY):=by
 intro e he
 rcases abq.1 he with rfl|he
 ·exact⟨rfl,fun σ w vals hw hr=>QH hw hr⟩
 ·exact TI e he
theorem Gt:Ab.Fn Tryz.prog 4 [] (.bool true):=by
 intro g w vals hw hs ha
 have hC:KV C1:=Zo C1 rfl rfl
 have h0:aQ (fun _=>none) pQ w:=⟨fun _ _=>rfl,by simp[pQ],aaZ _,fun id hi=>by simp[pQ] at hi,fun id _ _ _ h1=>by simp[pQ] at h1⟩
 have Zb:vals=#[]:=Array.eq_empty_of_size_eq_zero (by simpa using hs)
 subst Zb
 have h:=Ig
 split at h
 ·rename_i H' sn
  have hr:=Ez hC WD 60 4 [] pQ (.b true) H' sn (fun _=>none) w #[] h0 rfl
  unfold pO at hr
  rw[x8 (P:=C1.P) hC.nm Tryz.func4 rfl] at hr
  refine Calls.mono hr ?_
  rintro e w' ⟨v,rfl,aE,k1,k2,k3⟩
  have p7:∀ b,b<w.heap.size→w'.heap[b]?=w.heap[b]?:=fun b hb=>k2.frame b hb fun id x h1=>by simp[pQ] at h1
  have hv:v=.bool true:=k3
  subst hv
  have bK:Ab.cG g w g w':={
   same:=k2.same
   size:=k2.size
   pr:=fun b o hp=>⟨hp,by simp only[World.cell?,p7 b (hw.pr b o hp)]⟩
   pK:=fun _ _ h=>.inl h
   x:=fun _ h=>.inl h
   aY:=fun b hb _=>p7 b hb
   σ:=fun _ _ h=>h
   τ:=fun _ m a cap h=>⟨m,a,cap,h,.inr ⟨rfl,rfl,rfl⟩⟩}
  refine⟨.bool true,.d (.bool true),g,[],rfl,?_,bK,.d (.bool true),rfl⟩
  exact⟨fun b o hp=>aa_ (hw.pr b o hp) k2.size,fun b hb=>aa_ (hw.xs b hb) k2.size,fun id e b h=>by simp at h,fun id id' e e' b h=>by simp at h,fun id c h=>by simp at h,fun id n e s h=>by simp at h,fun id l e s h=>by simp at h,fun id x h=>by simp at h,hw.free,hw.Ca bK⟩
 ·cases h
end Go.Proofs.YtjdnbobilgamdaaGreatDoor.Ev
