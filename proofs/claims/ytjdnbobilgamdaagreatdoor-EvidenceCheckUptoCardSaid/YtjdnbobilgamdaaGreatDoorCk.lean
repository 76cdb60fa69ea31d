/- The world that the row asks for. Conditions: none. -/
import Derived.Test.YtjdnbobilgamdaaGreatDoorKa
import Derived.Test.YtjdnbobilgamdaaGreatDoorLa
import Derived.Test.YtjdnbobilgamdaaGreatDoorOk
import Derived.Deep.DeepHandedRow
import Derived.JoinedCond
set_option maxRecDepth 100000
namespace Go.Proofs.YtjdnbobilgamdaaGreatDoor.Ab
open Go Go.ChangeShapes Go.WideShapes Go.ChangeAt Go.RowKit
theorem uk(os:Os){H:Type}(enc:TypeId×Value→H):∃ places,DataW.whole enc Tryz.prog ((World.doorLaid Tryz.prog 400 os).forCall (fun _ _=>0) ⟨#[],#[.slice none 0 0,.slice none 0 0,.agg #[.int .i64 0,.int .i64 0,.slice none 0 0]],[]⟩).memory Tryz.f3.params.toList Rows.evidenceCheckSpec.vars false (#[.slice none 0 0,.slice none 0 0,.agg #[.int .i64 0,.int .i64 0,.slice none 0 0]]:Array Value).toList 8=some ([.nil,.nil,.agg [.lit (.int .i64 0),.lit (.int .i64 0),.nil]],[],places):=
 ⟨[],by kernel_rfl⟩
theorem aaI(os:Os):Input.okWideB Tryz.checked.prog ((World.doorLaid Tryz.prog 400 os).forCall (fun _ _=>0) ⟨#[],#[.slice none 0 0,.slice none 0 0,.agg #[.int .i64 0,.int .i64 0,.slice none 0 0]],[]⟩) 3 ⟨#[],#[.slice none 0 0,.slice none 0 0,.agg #[.int .i64 0,.int .i64 0,.slice none 0 0]],[]⟩=true:=by kernel_rfl
theorem aaE(os:Os):((World.doorLaid Tryz.prog 400 os).forCall (fun _ _=>0) ⟨#[],#[.slice none 0 0,.slice none 0 0,.agg #[.int .i64 0,.int .i64 0,.slice none 0 0]],[]⟩).Shaped Tryz.prog:=World.shaped_of_RefB (by kernel_rfl) (by kernel_rfl)
end Go.Proofs.YtjdnbobilgamdaaGreatDoor.Ab
