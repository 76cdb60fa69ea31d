/- Comparing rows. Conditions: none. -/
import Derived.Test.YtgcmhhcopeiomaaGreatDoorTy
import Derived.Test.YtgcmhhcopeiomaaGreatDoorMi
set_option maxRecDepth 100000
namespace Go.Proofs.YtgcmhhcopeiomaaGreatDoor.Ab
open Go
attribute [local irreducible] AL AD AW

theorem eqd39 {d : Nat} : EqD Tryz.prog 39 A7.e (d + 2) := EqD.arr (f := D.i) (lx := A7.l) (d := d + 1) Tryz.underlying39 ⟨_, rfl, rfl⟩ En.i (.inl ⟨sc3, fun _ => rfl⟩) (EqD.int Tryz.underlying3) (fun _ => rfl) (fun _ => rfl) A7.l_inj

theorem es39 : EqS Tryz.prog 39 A7.e := EqS.of (by kernel_rfl) (eqd39 (d := 9998)) (fun _ => rfl)

theorem eqd23 {d : Nat} : EqD Tryz.prog 23 SRatio.e (d + 2) := EqD.st (d := d + 1) Tryz.underlying23 (by kernel_rfl) (fun _ => rfl) (fun x y => ⟨_, (.cons (ff := D.i) (u := x.fNum) (v := y.fNum) (s := 1) (by decide) ⟨rfl, rfl, Nat.le_of_ble_eq_true rfl⟩ ⟨rfl, rfl, Nat.le_of_ble_eq_true rfl⟩ (.inl ⟨sc3, fun _ => rfl⟩) ((EqD.int Tryz.underlying3) : EqD Tryz.prog 3 _ (d + 1)) (.cons (ff := D.i) (u := x.fDen) (v := y.fDen) (s := 1) (by decide) ⟨rfl, rfl, Nat.le_of_ble_eq_true rfl⟩ ⟨rfl, rfl, Nat.le_of_ble_eq_true rfl⟩ (.inl ⟨sc3, fun _ => rfl⟩) ((EqD.int Tryz.underlying3) : EqD Tryz.prog 3 _ (d + 1)) .nil)), by obtain ⟨x0, x1⟩ := x; obtain ⟨y0, y1⟩ := y; rw [Bool.eq_iff_iff]; simp⟩)

theorem es23 : EqS Tryz.prog 23 SRatio.e := EqS.of (by kernel_rfl) (eqd23 (d := 9998)) (fun _ => rfl)
end Go.Proofs.YtgcmhhcopeiomaaGreatDoor.Ab
