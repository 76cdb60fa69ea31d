/- Comparing rows. Conditions: none. -/
import Derived.Test.YtgcmhhcopeiomaaTy
import Derived.Test.YtgcmhhcopeiomaaMi
set_option maxRecDepth 100000
namespace Go.Proofs.Ytgcmhhcopeiomaa.Ab
open Go
attribute [local irreducible] AL AD AW

theorem eqd32 {d : Nat} : EqD Try.prog 32 A7.e (d + 2) := EqD.arr (f := D.i) (lx := A7.l) (d := d + 1) Try.underlying32 ⟨_, rfl, rfl⟩ En.i (.inl ⟨sc3, fun _ => rfl⟩) (EqD.int Try.underlying3) (fun _ => rfl) (fun _ => rfl) A7.l_inj

theorem es32 : EqS Try.prog 32 A7.e := EqS.of (by kernel_rfl) (eqd32 (d := 9998)) (fun _ => rfl)

theorem eqd46 {d : Nat} : EqD Try.prog 46 SRatio.e (d + 2) := EqD.st (d := d + 1) Try.underlying46 (by kernel_rfl) (fun _ => rfl) (fun x y => ⟨_, (.cons (ff := D.i) (u := x.fNum) (v := y.fNum) (s := 1) (by decide) ⟨rfl, rfl, Nat.le_of_ble_eq_true rfl⟩ ⟨rfl, rfl, Nat.le_of_ble_eq_true rfl⟩ (.inl ⟨sc3, fun _ => rfl⟩) ((EqD.int Try.underlying3) : EqD Try.prog 3 _ (d + 1)) (.cons (ff := D.i) (u := x.fDen) (v := y.fDen) (s := 1) (by decide) ⟨rfl, rfl, Nat.le_of_ble_eq_true rfl⟩ ⟨rfl, rfl, Nat.le_of_ble_eq_true rfl⟩ (.inl ⟨sc3, fun _ => rfl⟩) ((EqD.int Try.underlying3) : EqD Try.prog 3 _ (d + 1)) .nil)), by obtain ⟨x0, x1⟩ := x; obtain ⟨y0, y1⟩ := y; rw [Bool.eq_iff_iff]; simp⟩)

theorem eqd47 {d : Nat} : EqD Try.prog 47 A3.e (d + 3) := EqD.arr (f := SRatio.e) (lx := A3.l) (d := d + 2) Try.underlying47 ⟨_, rfl, rfl⟩ enSRatio (.inr ⟨ag46, fun _ => rfl⟩) eqd46 (fun _ => rfl) (fun _ => rfl) A3.l_inj

theorem eqd49 {d : Nat} : EqD Try.prog 49 A72.e (d + 4) := EqD.arr (f := A3.e) (lx := A72.l) (d := d + 3) Try.underlying49 ⟨_, rfl, rfl⟩ enA3 (.inr ⟨ag47, fun _ => rfl⟩) eqd47 (fun _ => rfl) (fun _ => rfl) A72.l_inj

theorem es49 : EqS Try.prog 49 A72.e := EqS.of (by kernel_rfl) (eqd49 (d := 9996)) (fun _ => rfl)
end Go.Proofs.Ytgcmhhcopeiomaa.Ab
