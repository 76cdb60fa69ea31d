/- Chapter 56: RouteForms for what comes in. Conditions: none. -/
import Derived.Test.YthjinjinnklkgaaPe
import Derived.Test.YthjinjinnklkgaaOk
set_option maxRecDepth 100000
namespace Go.Proofs.Ythjinjinnklkgaa.Ab
open Go

theorem sane_of {p : SProblem} (h : Ok25 p) : Sane p := ⟨h.1.1, h.2.1.1, fun x hx => (h.1.2 x hx).1⟩
theorem routeForms_plain2 {p : SProblem} {a : List Int} {x : SPrices} (h1 : Ok25 p) (_h2 : Ok23 a) (h3 : Ok27 x) : m_law56_RouteForms FU p a x = some true :=
  routeForms_plain (sane_of h1) h3.1.1 h3.2.1
end Go.Proofs.Ythjinjinnklkgaa.Ab
