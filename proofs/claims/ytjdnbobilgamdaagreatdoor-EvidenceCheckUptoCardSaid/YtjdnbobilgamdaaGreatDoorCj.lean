/- What the row asks of the program. Conditions: none. -/
import Derived.Test.YtjdnbobilgamdaaGreatDoorKa
import Derived.Test.YtjdnbobilgamdaaGreatDoorLa
import Derived.Test.YtjdnbobilgamdaaGreatDoorOk
import Derived.Deep.DeepHandedRow
import Derived.JoinedCond
import Derived.SevenTiedAt
set_option maxRecDepth 100000
namespace Go.Proofs.YtjdnbobilgamdaaGreatDoor.Ab
open Go Go.ChangeShapes Go.WideShapes Go.ChangeAt Go.RowKit
theorem jo1:(Rows.evidenceCheckUptoRow.inPlace==Tryz.prog.inPlace 3)=true:=by kernel_rfl
theorem jo2:(Rows.evidenceCheckUptoRow.unfollowed==Tryz.prog.unfollowed 3)=true:=by kernel_rfl
theorem jo3:(Rows.evidenceCheckUptoRow.recurses==Tryz.prog.recurses 3)=true:=by kernel_rfl
theorem jo4:(Rows.evidenceCheckUptoRow.named==Tryz.prog.varsNamed 3)=true:=by kernel_rfl
theorem jo0{a b:Bool}(h:a=true)(k:b=true):(a&&b)=true:=by rw[h,k];rfl
theorem aaF:joinedFacts Tryz.prog 3 Tryz.f3 (Rows.OpenSpec.upto Rows.evidenceCheckSpec).bare Rows.evidenceCheckUptoRow=true:=by
 unfold joinedFacts
 iterate 19 (refine jo0 ?_ (by kernel_rfl))
 refine jo0 (jo0 (jo0 (jo0 ?_ jo1) jo2) jo3) jo4
 iterate 7 (refine jo0 ?_ (by kernel_rfl))
 exact jo0 (by kernel_rfl) laidOut
theorem jo5:Tryz.prog.funcNamed "bookplate/bookplatelaw36.EvidenceCheck"=some 3:=by kernel_rfl
theorem jo6:Rows.evidenceCheckUptoRow.wfByText (Rows.OpenSpec.upto Rows.evidenceCheckSpec)=true:=by kernel_rfl
theorem jo7:Tryz.prog.mainIs=some (true,"eee1e4c955278f8b484be8378f7e2f56359c95c4b21c41efd89958a1a9fec1c2".toList):=by kernel_rfl
theorem jo8:false=Tryz.prog.looks []:=by kernel_rfl
theorem jo9:false=Rows.evidenceCheckUptoRow.goesBy Tryz.prog:=by kernel_rfl
end Go.Proofs.YtjdnbobilgamdaaGreatDoor.Ab
