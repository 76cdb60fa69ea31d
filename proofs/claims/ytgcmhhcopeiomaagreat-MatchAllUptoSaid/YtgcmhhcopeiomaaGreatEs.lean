/- Comparing rows. Conditions: none. -/
import Derived.Test.YtgcmhhcopeiomaaGreatTy
import Derived.Test.YtgcmhhcopeiomaaGreatMi
set_option maxRecDepth 100000
namespace Go.Proofs.YtgcmhhcopeiomaaGreat.Ab
open Go
attribute [local irreducible] AL AD AW

theorem eqd29 {d : Nat} : EqD Tryz.prog 29 A7.e (d + 2) := EqD.arr (f := D.i) (lx := A7.l) (d := d + 1) Tryz.underlying29 ⟨_, rfl, rfl⟩ En.i (.inl ⟨sc3, fun _ => rfl⟩) (EqD.int Tryz.underlying3) (fun _ => rfl) (fun _ => rfl) A7.l_inj

theorem es29 : EqS Tryz.prog 29 A7.e := EqS.of (by kernel_rfl) (eqd29 (d := 9998)) (fun _ => rfl)

theorem eqd60 {d : Nat} : EqD Tryz.prog 60 SPair.e (d + 2) := EqD.st (d := d + 1) Tryz.underlying60 (by kernel_rfl) (fun _ => rfl) (fun x y => ⟨_, (.cons (ff := D.i) (u := x.fA) (v := y.fA) (s := 1) (by decide) ⟨rfl, rfl, Nat.le_of_ble_eq_true rfl⟩ ⟨rfl, rfl, Nat.le_of_ble_eq_true rfl⟩ (.inl ⟨sc3, fun _ => rfl⟩) ((EqD.int Tryz.underlying3) : EqD Tryz.prog 3 _ (d + 1)) (.cons (ff := D.i) (u := x.fB) (v := y.fB) (s := 1) (by decide) ⟨rfl, rfl, Nat.le_of_ble_eq_true rfl⟩ ⟨rfl, rfl, Nat.le_of_ble_eq_true rfl⟩ (.inl ⟨sc3, fun _ => rfl⟩) ((EqD.int Tryz.underlying3) : EqD Tryz.prog 3 _ (d + 1)) .nil)), by obtain ⟨x0, x1⟩ := x; obtain ⟨y0, y1⟩ := y; rw [Bool.eq_iff_iff]; simp⟩)

theorem eqd62 {d : Nat} : EqD Tryz.prog 62 SWeighted.e (d + 3) := EqD.st (d := d + 2) Tryz.underlying62 (by kernel_rfl) (fun _ => rfl) (fun x y => ⟨_, (.cons (ff := SPair.e) (u := x.fPair) (v := y.fPair) (s := 2) (by decide) ⟨rfl, rfl, Nat.le_of_ble_eq_true rfl⟩ ⟨rfl, rfl, Nat.le_of_ble_eq_true rfl⟩ (.inr ⟨ag60, fun _ => rfl⟩) (eqd60 : EqD Tryz.prog 60 _ (d + 2)) (.cons (ff := D.i) (u := x.fW) (v := y.fW) (s := 1) (by decide) ⟨rfl, rfl, Nat.le_of_ble_eq_true rfl⟩ ⟨rfl, rfl, Nat.le_of_ble_eq_true rfl⟩ (.inl ⟨sc3, fun _ => rfl⟩) ((EqD.int Tryz.underlying3) : EqD Tryz.prog 3 _ (d + 2)) .nil)), by obtain ⟨x0, x1⟩ := x; obtain ⟨y0, y1⟩ := y; rw [Bool.eq_iff_iff]; simp⟩)

theorem es62 : EqS Tryz.prog 62 SWeighted.e := EqS.of (by kernel_rfl) (eqd62 (d := 9997)) (fun _ => rfl)
end Go.Proofs.YtgcmhhcopeiomaaGreat.Ab
