/- Comparing rows. Conditions: none. -/
import Derived.Test.YtkfffaoopcnaoaaTy
import Derived.Test.YtkfffaoopcnaoaaMi
set_option maxRecDepth 100000
namespace Go.Proofs.Ytkfffaoopcnaoaa.Ab
open Go
attribute [local irreducible] AL AD AW nlO nlV nlD

theorem eqd50 {d : Nat} : EqD Try.prog 50 SConstraint.e (d + 2) := EqD.st (d := d + 1) Try.underlying50 (by kernel_rfl) (fun _ => rfl) (fun x y => ⟨_, (.cons (ff := D.i) (u := x.fKind) (v := y.fKind) (s := 1) (by decide) ⟨rfl, rfl, Nat.le_of_ble_eq_true rfl⟩ ⟨rfl, rfl, Nat.le_of_ble_eq_true rfl⟩ (.inl ⟨sc3, fun _ => rfl⟩) ((EqD.int Try.underlying3) : EqD Try.prog 3 _ (d + 1)) (.cons (ff := D.i) (u := x.fA) (v := y.fA) (s := 1) (by decide) ⟨rfl, rfl, Nat.le_of_ble_eq_true rfl⟩ ⟨rfl, rfl, Nat.le_of_ble_eq_true rfl⟩ (.inl ⟨sc3, fun _ => rfl⟩) ((EqD.int Try.underlying3) : EqD Try.prog 3 _ (d + 1)) (.cons (ff := D.i) (u := x.fB) (v := y.fB) (s := 1) (by decide) ⟨rfl, rfl, Nat.le_of_ble_eq_true rfl⟩ ⟨rfl, rfl, Nat.le_of_ble_eq_true rfl⟩ (.inl ⟨sc3, fun _ => rfl⟩) ((EqD.int Try.underlying3) : EqD Try.prog 3 _ (d + 1)) .nil))), by obtain ⟨x0, x1, x2⟩ := x; obtain ⟨y0, y1, y2⟩ := y; rw [Bool.eq_iff_iff]; simp⟩)

theorem es50 : EqS Try.prog 50 SConstraint.e := EqS.of (by kernel_rfl) (eqd50 (d := 9998)) (fun _ => rfl)

end Go.Proofs.Ytkfffaoopcnaoaa.Ab
