/- Comparing rows. Conditions: none. -/
import Derived.Test.YtgcmhhcopeiomaaGreatTy
import Derived.Test.YtgcmhhcopeiomaaGreatMi
set_option maxRecDepth 100000
namespace Go.Proofs.YtgcmhhcopeiomaaGreat.Ab
open Go
attribute [local irreducible] AL AD AW

theorem eqd29 {d : Nat} : EqD Tryz.prog 29 A7.e (d + 2) := EqD.arr (f := D.i) (lx := A7.l) (d := d + 1) Tryz.underlying29 ⟨_, rfl, rfl⟩ En.i (.inl ⟨sc3, fun _ => rfl⟩) (EqD.int Tryz.underlying3) (fun _ => rfl) (fun _ => rfl) A7.l_inj

theorem es29 : EqS Tryz.prog 29 A7.e := EqS.of (by kernel_rfl) (eqd29 (d := 9998)) (fun _ => rfl)

theorem eqd35 {d : Nat} : EqD Tryz.prog 35 A7.e (d + 2) := EqD.arr (f := D.i) (lx := A7.l) (d := d + 1) Tryz.underlying35 ⟨_, rfl, rfl⟩ En.i (.inl ⟨sc3, fun _ => rfl⟩) (EqD.int Tryz.underlying3) (fun _ => rfl) (fun _ => rfl) A7.l_inj

theorem es35 : EqS Tryz.prog 35 A7.e := EqS.of (by kernel_rfl) (eqd35 (d := 9998)) (fun _ => rfl)

end Go.Proofs.YtgcmhhcopeiomaaGreat.Ab
