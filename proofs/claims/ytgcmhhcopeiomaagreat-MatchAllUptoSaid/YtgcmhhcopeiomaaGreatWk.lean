/- Records as they come in. Conditions: none. -/
import Derived.Test.YtgcmhhcopeiomaaGreatWe
import Derived.Test.YtgcmhhcopeiomaaGreatOk
namespace Go.Proofs.YtgcmhhcopeiomaaGreat.Ab
open Go

theorem fb_of {f : SFeatures} (h : Ok25 1048576 f) : FB f := ⟨h.2.1, h.2.2.1, h.2.2.2.1.1, h.2.2.2.2.1, h.2.2.2.2.2.1, h.2.2.2.2.2.2.1, h.2.2.2.2.2.2.2⟩
end Go.Proofs.YtgcmhhcopeiomaaGreat.Ab
