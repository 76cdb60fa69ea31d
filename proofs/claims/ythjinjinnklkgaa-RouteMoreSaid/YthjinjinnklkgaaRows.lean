/-
  No cell of these rows narrows 'for every input' (looked for: loops, veiled, ifaces, maps, wideKeys, modest, calm, conditions, laid).
  DERIVED. THE GIVEN ROWS OF THIS SEAT. 5 by the template 'for every input the law returns true; each argument reads behind the call as it read before'; 0 by the template 'total and deterministic' (their statements: YthjinjinnklkgaaTotals.lean).
  GIVEN WITH THE SEED: the statements are not yours to turn. If you find one false, say at which input.
  Laid BY PROGRAM, IN A SANDBOX (cutbox-rows.mjs): the forced cells as the released guide's own fill.sh prints them over the translation ef942e5c281b2e89… (all of the seat's roots in one cut). By AI agents, Wed Nov 11 2026. No macro, syntax, notation, axiom, sorry.
-/
import Derived.Test.YthjinjinnklkgaaChecked
import GoSem.Claim
import GoSem.ClaimJoined
import GoSem.ClaimMapViews
import Derived.JoinedTies
import Derived.KernelRfl
namespace Go.Proofs.Ythjinjinnklkgaa
/- THE CELL 'sum', in the pinned program and in every row, IS THE sha256 OF THE DUMP (.gsa) THAT YthjinjinnklkgaaProg.lean LOADS. Nothing in Lean hashes anything: it is a label: what it is worth is what the hold of that sum in a sandbox is worth. -/
noncomputable def Try.pinned : Pinned := { name := "ythjinjinnklkgaa", sum := "ef942e5c281b2e89d7b62ac568a8a12b1be28a66fde4234854a17f3753c3396c", checked := Try.checked }
namespace Rows
def none {H : Type} : Left H := { results := [], args := [] }

/-- 'bookplatelaw56.RouteForms': WHATEVER THE INPUT: true; the input reads as it did. -/
def routeFormsSpec : ChangeSpec := { name := "routeForms", fn := fun _ => fun
  | [d1, d2, d3] => { results := [.lit (.bool true)], args := [d1, d2, d3] }
  | _ => none }
def routeFormsRow : OpenClaim := { program := "ythjinjinnklkgaa", sum := "ef942e5c281b2e89d7b62ac568a8a12b1be28a66fde4234854a17f3753c3396c", func := "bookplate/bookplatelaw56.RouteForms", spec := "routeForms", unfollowed := true, recurses := true, apart := false }
def RouteFormsSaid : Prop := routeFormsRow.holds Try.pinned (OpenSpec.ofChange routeFormsSpec)

/-- ITS FALSE NEIGHBOUR: 'it returns false'. Refute it at one input. -/
def routeFormsWrong : ChangeSpec := { name := "routeForms", fn := fun _ => fun
  | [d1, d2, d3] => { results := [.lit (.bool false)], args := [d1, d2, d3] }
  | _ => none }
def RouteFormsWrongFalsely : Prop := routeFormsRow.holds Try.pinned (OpenSpec.ofChange routeFormsWrong)

/-- 'bookplatelaw56.RouteSolve': WHATEVER THE INPUT: true; the input reads as it did. -/
def routeSolveSpec : ChangeSpec := { name := "routeSolve", fn := fun _ => fun
  | [d] => { results := [.lit (.bool true)], args := [d] }
  | _ => none }
def routeSolveRow : OpenClaim := { program := "ythjinjinnklkgaa", sum := "ef942e5c281b2e89d7b62ac568a8a12b1be28a66fde4234854a17f3753c3396c", func := "bookplate/bookplatelaw56.RouteSolve", spec := "routeSolve", unfollowed := true, recurses := true, apart := false }
def RouteSolveSaid : Prop := routeSolveRow.holds Try.pinned (OpenSpec.ofChange routeSolveSpec)

/-- ITS FALSE NEIGHBOUR: 'it returns false'. Refute it at one input. -/
def routeSolveWrong : ChangeSpec := { name := "routeSolve", fn := fun _ => fun
  | [d] => { results := [.lit (.bool false)], args := [d] }
  | _ => none }
def RouteSolveWrongFalsely : Prop := routeSolveRow.holds Try.pinned (OpenSpec.ofChange routeSolveWrong)

/-- 'bookplatelaw56.RouteDual': WHATEVER THE INPUT: true; the input reads as it did. -/
def routeDualSpec : ChangeSpec := { name := "routeDual", fn := fun _ => fun
  | [d1, d2, d3] => { results := [.lit (.bool true)], args := [d1, d2, d3] }
  | _ => none }
def routeDualRow : OpenClaim := { program := "ythjinjinnklkgaa", sum := "ef942e5c281b2e89d7b62ac568a8a12b1be28a66fde4234854a17f3753c3396c", func := "bookplate/bookplatelaw56.RouteDual", spec := "routeDual", unfollowed := true, recurses := true, apart := false }
def RouteDualSaid : Prop := routeDualRow.holds Try.pinned (OpenSpec.ofChange routeDualSpec)

/-- ITS FALSE NEIGHBOUR: 'it returns false'. Refute it at one input. -/
def routeDualWrong : ChangeSpec := { name := "routeDual", fn := fun _ => fun
  | [d1, d2, d3] => { results := [.lit (.bool false)], args := [d1, d2, d3] }
  | _ => none }
def RouteDualWrongFalsely : Prop := routeDualRow.holds Try.pinned (OpenSpec.ofChange routeDualWrong)

/-- 'bookplatelaw56.RouteMore': WHATEVER THE INPUT: true; the input reads as it did. -/
def routeMoreSpec : ChangeSpec := { name := "routeMore", fn := fun _ => fun
  | [d1, d2, d3] => { results := [.lit (.bool true)], args := [d1, d2, d3] }
  | _ => none }
def routeMoreRow : OpenClaim := { program := "ythjinjinnklkgaa", sum := "ef942e5c281b2e89d7b62ac568a8a12b1be28a66fde4234854a17f3753c3396c", func := "bookplate/bookplatelaw56.RouteMore", spec := "routeMore", unfollowed := true, recurses := true, apart := false }
def RouteMoreSaid : Prop := routeMoreRow.holds Try.pinned (OpenSpec.ofChange routeMoreSpec)

/-- ITS FALSE NEIGHBOUR: 'it returns false'. Refute it at one input. -/
def routeMoreWrong : ChangeSpec := { name := "routeMore", fn := fun _ => fun
  | [d1, d2, d3] => { results := [.lit (.bool false)], args := [d1, d2, d3] }
  | _ => none }
def RouteMoreWrongFalsely : Prop := routeMoreRow.holds Try.pinned (OpenSpec.ofChange routeMoreWrong)

/-- 'bookplatelaw56.RouteRow': WHATEVER THE INPUT: true; the input reads as it did. -/
def routeRowSpec : ChangeSpec := { name := "routeRow", fn := fun _ => fun
  | [d1, d2, d3] => { results := [.lit (.bool true)], args := [d1, d2, d3] }
  | _ => none }
def routeRowRow : OpenClaim := { program := "ythjinjinnklkgaa", sum := "ef942e5c281b2e89d7b62ac568a8a12b1be28a66fde4234854a17f3753c3396c", func := "bookplate/bookplatelaw56.RouteRow", spec := "routeRow", unfollowed := true, recurses := true, apart := false }
def RouteRowSaid : Prop := routeRowRow.holds Try.pinned (OpenSpec.ofChange routeRowSpec)

/-- ITS FALSE NEIGHBOUR: 'it returns false'. Refute it at one input. -/
def routeRowWrong : ChangeSpec := { name := "routeRow", fn := fun _ => fun
  | [d1, d2, d3] => { results := [.lit (.bool false)], args := [d1, d2, d3] }
  | _ => none }
def RouteRowWrongFalsely : Prop := routeRowRow.holds Try.pinned (OpenSpec.ofChange routeRowWrong)

/- THE SECOND FORM. 'bulk': how many values and letters a reading holds, each counted each time it is reached (what is shared counts as often as it is met; a slice's spare places count too). A statement '..UptoSaid' is the law's where the arguments, and the package variables that the reading takes, are together of bulk at most 1048576: NARROWER than '..Said'. Prove '..Said' where nothing that the law and all that it calls make is longer than what came in: it says more and counts as full. Else prove '..UptoSaid'. A law counts once. -/
mutual
def uptoBulk {H : Type} : DataW H → Nat
  | .lit (.string bytes) => bytes.length + 1
  | .lit _ => 1
  | .nil => 1
  | .ptr d => uptoBulk d + 1
  | .slice elems spare => uptoBulkAll elems + uptoBulkAll spare + 1
  | .agg parts => uptoBulkAll parts + 1
  | .iface _ d => uptoBulk d + 1
  | .map entries => uptoBulkEntries entries + 1
  | .held _ => 1
def uptoBulkAll {H : Type} : List (DataW H) → Nat
  | [] => 0
  | d :: r => uptoBulk d + uptoBulkAll r
def uptoBulkEntries {H : Type} : List (Lit × DataW H) → Nat
  | [] => 0
  | x :: r => uptoBulkEntry x + uptoBulkEntries r
def uptoBulkEntry {H : Type} : Lit × DataW H → Nat
  | (.string bytes, d) => bytes.length + uptoBulk d + 1
  | (_, d) => uptoBulk d + 1
 end
def uptoSmall : (H : Type) → List (DataW H) → Bool := fun _ ds => decide (uptoBulkAll ds ≤ 1048576)
def OpenSpec.upto (s : _root_.Go.ChangeSpec) : _root_.Go.OpenSpec := { _root_.Go.OpenSpec.ofChange s with cond := some uptoSmall }

/-- 'bookplatelaw56.RouteForms', WHERE WHAT IT READS IS OF BULK AT MOST 1048576: true; the input reads as it did. -/
def routeFormsUptoRow : OpenClaim := { program := "ythjinjinnklkgaa", sum := "ef942e5c281b2e89d7b62ac568a8a12b1be28a66fde4234854a17f3753c3396c", func := "bookplate/bookplatelaw56.RouteForms", spec := "routeForms", unfollowed := true, recurses := true, apart := false, narrowed := true }
def RouteFormsUptoSaid : Prop := routeFormsUptoRow.holds Try.pinned (OpenSpec.upto routeFormsSpec)

/-- 'bookplatelaw56.RouteSolve', WHERE WHAT IT READS IS OF BULK AT MOST 1048576: true; the input reads as it did. -/
def routeSolveUptoRow : OpenClaim := { program := "ythjinjinnklkgaa", sum := "ef942e5c281b2e89d7b62ac568a8a12b1be28a66fde4234854a17f3753c3396c", func := "bookplate/bookplatelaw56.RouteSolve", spec := "routeSolve", unfollowed := true, recurses := true, apart := false, narrowed := true }
def RouteSolveUptoSaid : Prop := routeSolveUptoRow.holds Try.pinned (OpenSpec.upto routeSolveSpec)

/-- 'bookplatelaw56.RouteDual', WHERE WHAT IT READS IS OF BULK AT MOST 1048576: true; the input reads as it did. -/
def routeDualUptoRow : OpenClaim := { program := "ythjinjinnklkgaa", sum := "ef942e5c281b2e89d7b62ac568a8a12b1be28a66fde4234854a17f3753c3396c", func := "bookplate/bookplatelaw56.RouteDual", spec := "routeDual", unfollowed := true, recurses := true, apart := false, narrowed := true }
def RouteDualUptoSaid : Prop := routeDualUptoRow.holds Try.pinned (OpenSpec.upto routeDualSpec)

/-- 'bookplatelaw56.RouteMore', WHERE WHAT IT READS IS OF BULK AT MOST 1048576: true; the input reads as it did. -/
def routeMoreUptoRow : OpenClaim := { program := "ythjinjinnklkgaa", sum := "ef942e5c281b2e89d7b62ac568a8a12b1be28a66fde4234854a17f3753c3396c", func := "bookplate/bookplatelaw56.RouteMore", spec := "routeMore", unfollowed := true, recurses := true, apart := false, narrowed := true }
def RouteMoreUptoSaid : Prop := routeMoreUptoRow.holds Try.pinned (OpenSpec.upto routeMoreSpec)

/-- 'bookplatelaw56.RouteRow', WHERE WHAT IT READS IS OF BULK AT MOST 1048576: true; the input reads as it did. -/
def routeRowUptoRow : OpenClaim := { program := "ythjinjinnklkgaa", sum := "ef942e5c281b2e89d7b62ac568a8a12b1be28a66fde4234854a17f3753c3396c", func := "bookplate/bookplatelaw56.RouteRow", spec := "routeRow", unfollowed := true, recurses := true, apart := false, narrowed := true }
def RouteRowUptoSaid : Prop := routeRowUptoRow.holds Try.pinned (OpenSpec.upto routeRowSpec)

end Rows
end Go.Proofs.Ythjinjinnklkgaa
