/- What comes in is small. Conditions: none. -/
import Derived.Test.YtkdefjliknpliaaGreatDoorUs
import Derived.Test.YtkdefjliknpliaaGreatDoorOk
namespace Go.Proofs.YtkdefjliknpliaaGreatDoor.Ab
open Go

theorem fb_of {f : SFeatures} (h : Ok40 1048576 f) : FB f := ⟨h.2.1, h.2.2.1, h.2.2.2.1.1, h.2.2.2.2.1, h.2.2.2.2.2.1, h.2.2.2.2.2.2.1, h.2.2.2.2.2.2.2⟩
theorem tb_of {t : List SBlock} (h : Ok32 1048576 t) : TBn t 1048576 := ⟨h.1, fun b hb => (h.2 b hb).2.1⟩
end Go.Proofs.YtkdefjliknpliaaGreatDoor.Ab
