/-
  No cell of these rows narrows 'for every input' (looked for: loops, veiled, ifaces, maps, wideKeys, modest, calm, conditions, laid).
  DERIVED. THE GIVEN ROWS OF THIS SEAT. 5 by the template 'for every input the law returns true; each argument reads behind the call as it read before'; 0 by the template 'total and deterministic' (their statements: YtciojlggdnmncaaTotals.lean).
  GIVEN WITH THE SEED: the statements are not yours to turn. If you find one false, say at which input.
  Laid BY PROGRAM, IN A SANDBOX (cutbox-rows.mjs): the forced cells as the released guide's own fill.sh prints them over the translation e2c4fc736f329446… (all of the seat's roots in one cut). By AI agents, Wed Nov 11 2026. No macro, syntax, notation, axiom, sorry.
-/
import Derived.Test.YtciojlggdnmncaaChecked
import GoSem.Claim
import GoSem.ClaimJoined
import GoSem.ClaimMapViews
import Derived.JoinedTies
import Derived.KernelRfl
namespace Go.Proofs.Ytciojlggdnmncaa
/- THE CELL 'sum', in the pinned program and in every row, IS THE sha256 OF THE DUMP (.gsa) THAT YtciojlggdnmncaaProg.lean LOADS. Nothing in Lean hashes anything: it is a label: what it is worth is what the hold of that sum in a sandbox is worth. -/
noncomputable def Try.pinned : Pinned := { name := "ytciojlggdnmncaa", sum := "e2c4fc736f3294469f857efc65718622ac5a07e827e78908ce50e6f74a4cc1d5", checked := Try.checked }
namespace Rows
def none {H : Type} : Left H := { results := [], args := [] }

/-- 'bookplatelaw55.RequestRun': WHATEVER THE INPUT: true; the input reads as it did. -/
def requestRunSpec : ChangeSpec := { name := "requestRun", fn := fun _ => fun
  | [d1, d2, d3] => { results := [.lit (.bool true)], args := [d1, d2, d3] }
  | _ => none }
def requestRunRow : OpenClaim := { program := "ytciojlggdnmncaa", sum := "e2c4fc736f3294469f857efc65718622ac5a07e827e78908ce50e6f74a4cc1d5", func := "bookplate/bookplatelaw55.RequestRun", spec := "requestRun", unfollowed := true, recurses := true, apart := false }
def RequestRunSaid : Prop := requestRunRow.holds Try.pinned (OpenSpec.ofChange requestRunSpec)

/-- ITS FALSE NEIGHBOUR: 'it returns false'. Refute it at one input. -/
def requestRunWrong : ChangeSpec := { name := "requestRun", fn := fun _ => fun
  | [d1, d2, d3] => { results := [.lit (.bool false)], args := [d1, d2, d3] }
  | _ => none }
def RequestRunWrongFalsely : Prop := requestRunRow.holds Try.pinned (OpenSpec.ofChange requestRunWrong)

/-- 'bookplatelaw55.RequestTime': WHATEVER THE INPUT: true; the input reads as it did. -/
def requestTimeSpec : ChangeSpec := { name := "requestTime", fn := fun _ => fun
  | [d1, d2] => { results := [.lit (.bool true)], args := [d1, d2] }
  | _ => none }
def requestTimeRow : OpenClaim := { program := "ytciojlggdnmncaa", sum := "e2c4fc736f3294469f857efc65718622ac5a07e827e78908ce50e6f74a4cc1d5", func := "bookplate/bookplatelaw55.RequestTime", spec := "requestTime", unfollowed := true, recurses := true, apart := false }
def RequestTimeSaid : Prop := requestTimeRow.holds Try.pinned (OpenSpec.ofChange requestTimeSpec)

/-- ITS FALSE NEIGHBOUR: 'it returns false'. Refute it at one input. -/
def requestTimeWrong : ChangeSpec := { name := "requestTime", fn := fun _ => fun
  | [d1, d2] => { results := [.lit (.bool false)], args := [d1, d2] }
  | _ => none }
def RequestTimeWrongFalsely : Prop := requestTimeRow.holds Try.pinned (OpenSpec.ofChange requestTimeWrong)

/-- 'bookplatelaw55.RequestPermitted': WHATEVER THE INPUT: true; the input reads as it did. -/
def requestPermittedSpec : ChangeSpec := { name := "requestPermitted", fn := fun _ => fun
  | [d1, d2] => { results := [.lit (.bool true)], args := [d1, d2] }
  | _ => none }
def requestPermittedRow : OpenClaim := { program := "ytciojlggdnmncaa", sum := "e2c4fc736f3294469f857efc65718622ac5a07e827e78908ce50e6f74a4cc1d5", func := "bookplate/bookplatelaw55.RequestPermitted", spec := "requestPermitted", unfollowed := true, recurses := true, apart := false }
def RequestPermittedSaid : Prop := requestPermittedRow.holds Try.pinned (OpenSpec.ofChange requestPermittedSpec)

/-- ITS FALSE NEIGHBOUR: 'it returns false'. Refute it at one input. -/
def requestPermittedWrong : ChangeSpec := { name := "requestPermitted", fn := fun _ => fun
  | [d1, d2] => { results := [.lit (.bool false)], args := [d1, d2] }
  | _ => none }
def RequestPermittedWrongFalsely : Prop := requestPermittedRow.holds Try.pinned (OpenSpec.ofChange requestPermittedWrong)

/-- 'bookplatelaw55.RequestEnds': WHATEVER THE INPUT: true; the input reads as it did. -/
def requestEndsSpec : ChangeSpec := { name := "requestEnds", fn := fun _ => fun
  | [d] => { results := [.lit (.bool true)], args := [d] }
  | _ => none }
def requestEndsRow : OpenClaim := { program := "ytciojlggdnmncaa", sum := "e2c4fc736f3294469f857efc65718622ac5a07e827e78908ce50e6f74a4cc1d5", func := "bookplate/bookplatelaw55.RequestEnds", spec := "requestEnds", unfollowed := true, recurses := true, apart := false }
def RequestEndsSaid : Prop := requestEndsRow.holds Try.pinned (OpenSpec.ofChange requestEndsSpec)

/-- ITS FALSE NEIGHBOUR: 'it returns false'. Refute it at one input. -/
def requestEndsWrong : ChangeSpec := { name := "requestEnds", fn := fun _ => fun
  | [d] => { results := [.lit (.bool false)], args := [d] }
  | _ => none }
def RequestEndsWrongFalsely : Prop := requestEndsRow.holds Try.pinned (OpenSpec.ofChange requestEndsWrong)

/-- 'bookplatelaw55.RequestNames': WHATEVER THE INPUT: true; the input reads as it did. -/
def requestNamesSpec : ChangeSpec := { name := "requestNames", fn := fun _ => fun
  | [d1, d2] => { results := [.lit (.bool true)], args := [d1, d2] }
  | _ => none }
def requestNamesRow : OpenClaim := { program := "ytciojlggdnmncaa", sum := "e2c4fc736f3294469f857efc65718622ac5a07e827e78908ce50e6f74a4cc1d5", func := "bookplate/bookplatelaw55.RequestNames", spec := "requestNames", unfollowed := true, recurses := true, apart := false }
def RequestNamesSaid : Prop := requestNamesRow.holds Try.pinned (OpenSpec.ofChange requestNamesSpec)

/-- ITS FALSE NEIGHBOUR: 'it returns false'. Refute it at one input. -/
def requestNamesWrong : ChangeSpec := { name := "requestNames", fn := fun _ => fun
  | [d1, d2] => { results := [.lit (.bool false)], args := [d1, d2] }
  | _ => none }
def RequestNamesWrongFalsely : Prop := requestNamesRow.holds Try.pinned (OpenSpec.ofChange requestNamesWrong)

/- THE SECOND FORM. 'bulk': how many values and letters a reading holds, each counted each time it is reached (what is shared counts as often as it is met; a slice's spare places count too). A statement '..UptoSaid' is the law's where the arguments, and the package variables that the reading takes, are together of bulk at most 1048576: NARROWER than '..Said'. Prove '..Said' where nothing that the law and all that it calls make is longer than what came in: it says more and counts as full. Else prove '..UptoSaid'. A law counts once. -/
mutual
def uptoBulk {H : Type} : DataW H → Nat
  | .lit (.string bytes) => bytes.length + 1
  | .lit _ => 1
  | .nil => 1
  | .ptr d => uptoBulk d + 1
  | .slice elems spare => uptoBulkAll elems + uptoBulkAll spare + 1
  | .agg parts => uptoBulkAll parts + 1
  | .iface _ d => uptoBulk d + 1
  | .map entries => uptoBulkEntries entries + 1
  | .held _ => 1
def uptoBulkAll {H : Type} : List (DataW H) → Nat
  | [] => 0
  | d :: r => uptoBulk d + uptoBulkAll r
def uptoBulkEntries {H : Type} : List (Lit × DataW H) → Nat
  | [] => 0
  | x :: r => uptoBulkEntry x + uptoBulkEntries r
def uptoBulkEntry {H : Type} : Lit × DataW H → Nat
  | (.string bytes, d) => bytes.length + uptoBulk d + 1
  | (_, d) => uptoBulk d + 1
 end
def uptoSmall : (H : Type) → List (DataW H) → Bool := fun _ ds => decide (uptoBulkAll ds ≤ 1048576)
def OpenSpec.upto (s : _root_.Go.ChangeSpec) : _root_.Go.OpenSpec := { _root_.Go.OpenSpec.ofChange s with cond := some uptoSmall }

/-- 'bookplatelaw55.RequestRun', WHERE WHAT IT READS IS OF BULK AT MOST 1048576: true; the input reads as it did. -/
def requestRunUptoRow : OpenClaim := { program := "ytciojlggdnmncaa", sum := "e2c4fc736f3294469f857efc65718622ac5a07e827e78908ce50e6f74a4cc1d5", func := "bookplate/bookplatelaw55.RequestRun", spec := "requestRun", unfollowed := true, recurses := true, apart := false, narrowed := true }
def RequestRunUptoSaid : Prop := requestRunUptoRow.holds Try.pinned (OpenSpec.upto requestRunSpec)

/-- 'bookplatelaw55.RequestTime', WHERE WHAT IT READS IS OF BULK AT MOST 1048576: true; the input reads as it did. -/
def requestTimeUptoRow : OpenClaim := { program := "ytciojlggdnmncaa", sum := "e2c4fc736f3294469f857efc65718622ac5a07e827e78908ce50e6f74a4cc1d5", func := "bookplate/bookplatelaw55.RequestTime", spec := "requestTime", unfollowed := true, recurses := true, apart := false, narrowed := true }
def RequestTimeUptoSaid : Prop := requestTimeUptoRow.holds Try.pinned (OpenSpec.upto requestTimeSpec)

/-- 'bookplatelaw55.RequestPermitted', WHERE WHAT IT READS IS OF BULK AT MOST 1048576: true; the input reads as it did. -/
def requestPermittedUptoRow : OpenClaim := { program := "ytciojlggdnmncaa", sum := "e2c4fc736f3294469f857efc65718622ac5a07e827e78908ce50e6f74a4cc1d5", func := "bookplate/bookplatelaw55.RequestPermitted", spec := "requestPermitted", unfollowed := true, recurses := true, apart := false, narrowed := true }
def RequestPermittedUptoSaid : Prop := requestPermittedUptoRow.holds Try.pinned (OpenSpec.upto requestPermittedSpec)

/-- 'bookplatelaw55.RequestEnds', WHERE WHAT IT READS IS OF BULK AT MOST 1048576: true; the input reads as it did. -/
def requestEndsUptoRow : OpenClaim := { program := "ytciojlggdnmncaa", sum := "e2c4fc736f3294469f857efc65718622ac5a07e827e78908ce50e6f74a4cc1d5", func := "bookplate/bookplatelaw55.RequestEnds", spec := "requestEnds", unfollowed := true, recurses := true, apart := false, narrowed := true }
def RequestEndsUptoSaid : Prop := requestEndsUptoRow.holds Try.pinned (OpenSpec.upto requestEndsSpec)

/-- 'bookplatelaw55.RequestNames', WHERE WHAT IT READS IS OF BULK AT MOST 1048576: true; the input reads as it did. -/
def requestNamesUptoRow : OpenClaim := { program := "ytciojlggdnmncaa", sum := "e2c4fc736f3294469f857efc65718622ac5a07e827e78908ce50e6f74a4cc1d5", func := "bookplate/bookplatelaw55.RequestNames", spec := "requestNames", unfollowed := true, recurses := true, apart := false, narrowed := true }
def RequestNamesUptoSaid : Prop := requestNamesUptoRow.holds Try.pinned (OpenSpec.upto requestNamesSpec)

end Rows
end Go.Proofs.Ytciojlggdnmncaa
