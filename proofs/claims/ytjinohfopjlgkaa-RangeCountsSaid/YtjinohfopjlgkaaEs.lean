/- Comparing rows. Conditions: none. -/
import Derived.Test.YtjinohfopjlgkaaTy
import Derived.Test.YtjinohfopjlgkaaMi
set_option maxRecDepth 100000
namespace Go.Proofs.Ytjinohfopjlgkaa.Ab
open Go
attribute [local irreducible] AL AD AW nlO nlV nlD

theorem eqd56 {d : Nat} : EqD Try.prog 56 SItem.e (d + 2) := EqD.st (d := d + 1) Try.underlying56 (by kernel_rfl) (fun _ => rfl) (fun x y => ⟨_, (.cons (ff := D.i) (u := x.fN) (v := y.fN) (s := 1) (by decide) ⟨rfl, rfl, Nat.le_of_ble_eq_true rfl⟩ ⟨rfl, rfl, Nat.le_of_ble_eq_true rfl⟩ (.inl ⟨sc3, fun _ => rfl⟩) ((EqD.int Try.underlying3) : EqD Try.prog 3 _ (d + 1)) (.cons (ff := D.i) (u := x.fDoc) (v := y.fDoc) (s := 1) (by decide) ⟨rfl, rfl, Nat.le_of_ble_eq_true rfl⟩ ⟨rfl, rfl, Nat.le_of_ble_eq_true rfl⟩ (.inl ⟨sc3, fun _ => rfl⟩) ((EqD.int Try.underlying3) : EqD Try.prog 3 _ (d + 1)) .nil)), by obtain ⟨x0, x1⟩ := x; obtain ⟨y0, y1⟩ := y; rw [Bool.eq_iff_iff]; simp⟩)

theorem es56 : EqS Try.prog 56 SItem.e := EqS.of (by kernel_rfl) (eqd56 (d := 9998)) (fun _ => rfl)

theorem eqd53 {d : Nat} : EqD Try.prog 53 SItem.e (d + 2) := EqD.st (d := d + 1) Try.underlying53 (by kernel_rfl) (fun _ => rfl) (fun x y => ⟨_, (.cons (ff := D.i) (u := x.fN) (v := y.fN) (s := 1) (by decide) ⟨rfl, rfl, Nat.le_of_ble_eq_true rfl⟩ ⟨rfl, rfl, Nat.le_of_ble_eq_true rfl⟩ (.inl ⟨sc3, fun _ => rfl⟩) ((EqD.int Try.underlying3) : EqD Try.prog 3 _ (d + 1)) (.cons (ff := D.i) (u := x.fDoc) (v := y.fDoc) (s := 1) (by decide) ⟨rfl, rfl, Nat.le_of_ble_eq_true rfl⟩ ⟨rfl, rfl, Nat.le_of_ble_eq_true rfl⟩ (.inl ⟨sc3, fun _ => rfl⟩) ((EqD.int Try.underlying3) : EqD Try.prog 3 _ (d + 1)) .nil)), by obtain ⟨x0, x1⟩ := x; obtain ⟨y0, y1⟩ := y; rw [Bool.eq_iff_iff]; simp⟩)

theorem es53 : EqS Try.prog 53 SItem.e := EqS.of (by kernel_rfl) (eqd53 (d := 9998)) (fun _ => rfl)
end Go.Proofs.Ytjinohfopjlgkaa.Ab
