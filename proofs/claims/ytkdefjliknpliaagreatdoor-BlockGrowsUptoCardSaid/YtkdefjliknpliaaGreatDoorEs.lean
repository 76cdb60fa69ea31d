/- Comparing rows. Conditions: none. -/
import Derived.Test.YtkdefjliknpliaaGreatDoorTy
import Derived.Test.YtkdefjliknpliaaGreatDoorMi
set_option maxRecDepth 100000
namespace Go.Proofs.YtkdefjliknpliaaGreatDoor.Ab
open Go
attribute [local irreducible] AL AD AW nlO nlV nlD
theorem eqd64 {d : Nat} : EqD Tryz.prog 64 SPair.e (d + 2) := EqD.st (d := d + 1) Tryz.underlying64 (by kernel_rfl) (fun _ => rfl) (fun x y => ⟨_, (.cons (ff := D.i) (u := x.fA) (v := y.fA) (s := 1) (by decide) ⟨rfl, rfl, Nat.le_of_ble_eq_true rfl⟩ ⟨rfl, rfl, Nat.le_of_ble_eq_true rfl⟩ (.inl ⟨sc3, fun _ => rfl⟩) ((EqD.int Tryz.underlying3) : EqD Tryz.prog 3 _ (d + 1)) (.cons (ff := D.i) (u := x.fB) (v := y.fB) (s := 1) (by decide) ⟨rfl, rfl, Nat.le_of_ble_eq_true rfl⟩ ⟨rfl, rfl, Nat.le_of_ble_eq_true rfl⟩ (.inl ⟨sc3, fun _ => rfl⟩) ((EqD.int Tryz.underlying3) : EqD Tryz.prog 3 _ (d + 1)) .nil)), by obtain ⟨x0, x1⟩ := x; obtain ⟨y0, y1⟩ := y; rw [Bool.eq_iff_iff]; simp⟩)
theorem es64 : EqS Tryz.prog 64 SPair.e := EqS.of (by kernel_rfl) (eqd64 (d := 9998)) (fun _ => rfl)
end Go.Proofs.YtkdefjliknpliaaGreatDoor.Ab
