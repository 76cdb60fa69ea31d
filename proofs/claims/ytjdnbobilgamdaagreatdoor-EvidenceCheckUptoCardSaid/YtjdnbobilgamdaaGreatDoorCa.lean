/- The law EvidenceCheck holds. Conditions: none. -/
import Derived.Test.YtjdnbobilgamdaaGreatDoorKa
import Derived.Test.YtjdnbobilgamdaaGreatDoorLa
import Derived.Test.YtjdnbobilgamdaaGreatDoorTie
import Derived.Test.YtjdnbobilgamdaaGreatDoorCards
import Derived.SevenTiedAt
import Derived.Deep.DeepHandedRow
import Derived.JoinedCond
import Derived.Test.YtjdnbobilgamdaaGreatDoorOk
import Derived.Test.YtjdnbobilgamdaaGreatDoorXa
import Derived.Test.YtjdnbobilgamdaaGreatDoorGa
import Derived.Test.YtjdnbobilgamdaaGreatDoorCj
import Derived.Test.YtjdnbobilgamdaaGreatDoorCk
set_option maxRecDepth 100000
namespace Go.Proofs.YtjdnbobilgamdaaGreatDoor.Ab
open Go Go.ChangeShapes Go.WideShapes Go.ChangeAt Go.RowKit
theorem wE(xs:List D)(h:IH Tryz.prog 1048576 [22,23,26] xs):Fn Tryz.prog 3 xs (.bool true):=by
 match xs,h with
 |[x0,x1,x2],⟨⟨c0,h0,e0⟩,⟨c1,h1,e1⟩,⟨c2,h2,e2⟩,_⟩=>
  obtain⟨y0,rfl,o0⟩:=S5 h0
  rw[VV] at e0
  have q0:x0=(.sl (y0.map af.e)):=e0
  obtain⟨y1,rfl,o1⟩:=S6 h1
  rw[VW] at e1
  have q1:x1=(.sl (y1.map ae.e)):=e1
  obtain⟨y2,rfl,o2⟩:=S7 h2
  rw[RD] at e2
  have q2:x2=(mV.e y2):=e2
  subst q0 q1 q2
  exact qm ((fun o0 o1 o2=>U.uj o0 o1 o2) o0 o1 o2)
set_option maxRecDepth 100000 in
theorem sC(os:Os)(started:os.Started)(H:Type)(enc:TypeId×Value→H)(F:Stop.Interp):
  ReturnsInHanded {} Tryz.checked os 3 .any ((Rows.OpenSpec.upto Rows.evidenceCheckSpec).preRow enc Tryz.prog Tryz.f3 Rows.evidenceCheckUptoRow.domain false Rows.evidenceCheckUptoRow.laid) (((Rows.OpenSpec.upto Rows.evidenceCheckSpec).at F).post enc Tryz.prog Tryz.f3 Rows.evidenceCheckUptoRow.apart Rows.evidenceCheckUptoRow.fresh Rows.evidenceCheckUptoRow.handsOn Rows.evidenceCheckUptoRow.again):=by
 obtain⟨places,hx⟩:=uk os enc
 have D0:=aaI os
 refine returnsInHanded_of_row (C:=Tryz.checked) (s:=Rows.OpenSpec.upto Rows.evidenceCheckSpec) own started (by kernel_rfl) Tryz.func3
  ⟨World.doorLaid Tryz.prog 400 os,fun _ _=>0,⟨#[],#[.slice none 0 0,.slice none 0 0,.agg #[.int .i64 0,.int .i64 0,.slice none 0 0]],[]⟩,rfl,aaE os,(Input.okWide_of_okWideB (base:=0) D0).1,(Input.okWide_of_okWideB D0).2,
   OpenSpec.preRow_of_cond 8 hx (by kernel_rfl) (fun k hk=>by cases hk;kernel_rfl) (by kernel_rfl) (Mz os _),by
    simp only[Assume.holds]
    exact⟨by simp,by simp,fun h=>by simp at h,by simp,by simp⟩⟩ ?_
 intro W base args ds gs before EX hW _ VX _ hL _ _
 have oJ:Rows.uptoBulkAll ds≤1048576:=Kt (acC (VX _ rfl))
 exact G3 (P:=Tryz.prog) smU (ts:=[22,23,26]) (tb:=4) (by rw[Tryz.params3]) rfl Tryz.underlying4 rfl (by kernel_rfl) laidOut (by kernel_rfl) (fun ds h=>by
  match ds,h with
  |[_,_,_],_=>exact⟨rfl,rfl,rfl⟩) (PO hL) wE EX hW (fun d hd=>tJ hd oJ)
set_option maxRecDepth 100000 in
theorem wF:Rows.EvidenceCheckUptoSaid:=
 OpenClaim.holds_of_cond 3 Tryz.f3 rfl rfl rfl rfl rfl rfl rfl ⟨rfl,rfl,rfl,rfl,rfl⟩ rfl rfl rfl rfl rfl jo5 Tryz.func3 aaF
  (acC (by kernel_rfl)) (by unfold Func.isWrapper;first|(rw[aa2 (by decide+kernel)];kernel_rfl)|(rw[aa7 (by decide+kernel)];exact⟨rfl,rfl⟩))
  (fun os started H enc _ F=>by rw[OpenClaim.pre_eq_preRow];exact sC os started H enc F)
theorem evidenceCheck_holds:Rows.EvidenceCheckUptoCardSaid:=
 Claim7.holds_tied_plain_at .later [] [.data,.data,.data] true (true, "eee1e4c955278f8b484be8378f7e2f56359c95c4b21c41efd89958a1a9fec1c2") false
  wF (fun _ h=>by cases h) jo6 (fun _ h=>by cases h) evidenceCheckUpto_row_tie rfl ⟨rfl,rfl⟩ jo7 rfl
  (fun f fn hf hfn=>by
   obtain rfl:f=3:=aa5 (jo5.symm.trans hf) |>.symm
   obtain rfl:fn=Tryz.f3:=(aa5 (Tryz.func3.symm.trans hfn)).symm
   exact⟨jo8,fun j t ht=>by
    rw[Tryz.params3] at ht
    have hm:t∈[22,23,26]:=by simpa using aeq ht
    have wy:([22,23,26].all fun u=>!Tryz.prog.wantsStandIn u)=true:=by kernel_rfl
    exact(show Tryz.prog.wantsStandIn t=false by simpa using abi.1 wy t hm)⟩)
  jo9
end Go.Proofs.YtjdnbobilgamdaaGreatDoor.Ab
