/- What comes in is small. Conditions: none. -/
import Derived.Test.YtkdefjliknpliaaGreatDoorUs
import Derived.Test.YtkdefjliknpliaaGreatDoorOk
namespace Go.Proofs.YtkdefjliknpliaaGreatDoor.Ab
open Go
theorem fb_of {f : SFeatures} (h : Ok40 1048576 f) : FB f := ⟨h.2.1, h.2.2.1, h.2.2.2.1.1, h.2.2.2.2.1, h.2.2.2.2.2.1, h.2.2.2.2.2.2.1, h.2.2.2.2.2.2.2⟩
theorem fl_of {l : List SFeatures} (h : Ok22 1048576 l) : l.length ≤ 1048576 ∧ ∀ f ∈ l, FB f := ⟨h.1, fun f hf => fb_of (h.2 f hf)⟩
theorem u8_of {x : Int} (h : (Lit.int .u8 x).wf = true) : 0 ≤ x ∧ x ≤ 255 := by
  simp [Lit.wf, IntKind.min, IntKind.max, IntKind.signed, IntKind.bits] at h; omega
end Go.Proofs.YtkdefjliknpliaaGreatDoor.Ab
