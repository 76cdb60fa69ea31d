/-
  No cell of these rows narrows 'for every input' (looked for: loops, veiled, ifaces, maps, wideKeys, modest, calm, conditions, laid).
  DERIVED. THE GIVEN ROWS OF THIS SEAT. 7 by the template 'for every input the law returns true; each argument reads behind the call as it read before'; 0 by the template 'total and deterministic' (their statements: YthopbnohgifehaaTotals.lean).
  GIVEN WITH THE SEED: the statements are not yours to turn. If you find one false, say at which input.
  Laid BY PROGRAM, IN A SANDBOX (cutbox-rows.mjs): the forced cells as the released guide's own fill.sh prints them over the translation 0fb2244eddb26ce6… (all of the seat's roots in one cut). By AI agents, Wed Nov 11 2026. No macro, syntax, notation, axiom, sorry.
-/
import Derived.Test.YthopbnohgifehaaChecked
import GoSem.Claim
import GoSem.ClaimJoined
import GoSem.ClaimMapViews
import Derived.JoinedTies
import Derived.KernelRfl
namespace Go.Proofs.Ythopbnohgifehaa
/- THE CELL 'sum', in the pinned program and in every row, IS THE sha256 OF THE DUMP (.gsa) THAT YthopbnohgifehaaProg.lean LOADS. Nothing in Lean hashes anything: it is a label: what it is worth is what the hold of that sum in a sandbox is worth. -/
noncomputable def Try.pinned : Pinned := { name := "ythopbnohgifehaa", sum := "0fb2244eddb26ce6c74185b7509fd8121be224dda85cb07ac655a5e8c87aa8c7", checked := Try.checked }
namespace Rows
def none {H : Type} : Left H := { results := [], args := [] }

/-- 'bookplatelaw28.OddsMeans': WHATEVER THE INPUT: true; the input reads as it did. -/
def oddsMeansSpec : ChangeSpec := { name := "oddsMeans", fn := fun _ => fun
  | [d] => { results := [.lit (.bool true)], args := [d] }
  | _ => none }
def oddsMeansRow : OpenClaim := { program := "ythopbnohgifehaa", sum := "0fb2244eddb26ce6c74185b7509fd8121be224dda85cb07ac655a5e8c87aa8c7", func := "bookplate/bookplatelaw28.OddsMeans", spec := "oddsMeans", inPlace := ["slices.overlaps[int]"], unfollowed := true, recurses := true, apart := false }
def OddsMeansSaid : Prop := oddsMeansRow.holds Try.pinned (OpenSpec.ofChange oddsMeansSpec)

/-- ITS FALSE NEIGHBOUR: 'it returns false'. Refute it at one input. -/
def oddsMeansWrong : ChangeSpec := { name := "oddsMeans", fn := fun _ => fun
  | [d] => { results := [.lit (.bool false)], args := [d] }
  | _ => none }
def OddsMeansWrongFalsely : Prop := oddsMeansRow.holds Try.pinned (OpenSpec.ofChange oddsMeansWrong)

/-- 'bookplatelaw28.OddsSums': WHATEVER THE INPUT: true; the input reads as it did. -/
def oddsSumsSpec : ChangeSpec := { name := "oddsSums", fn := fun _ => fun
  | [d1, d2] => { results := [.lit (.bool true)], args := [d1, d2] }
  | _ => none }
def oddsSumsRow : OpenClaim := { program := "ythopbnohgifehaa", sum := "0fb2244eddb26ce6c74185b7509fd8121be224dda85cb07ac655a5e8c87aa8c7", func := "bookplate/bookplatelaw28.OddsSums", spec := "oddsSums", inPlace := ["slices.overlaps[int]"], unfollowed := true, recurses := true, apart := false }
def OddsSumsSaid : Prop := oddsSumsRow.holds Try.pinned (OpenSpec.ofChange oddsSumsSpec)

/-- ITS FALSE NEIGHBOUR: 'it returns false'. Refute it at one input. -/
def oddsSumsWrong : ChangeSpec := { name := "oddsSums", fn := fun _ => fun
  | [d1, d2] => { results := [.lit (.bool false)], args := [d1, d2] }
  | _ => none }
def OddsSumsWrongFalsely : Prop := oddsSumsRow.holds Try.pinned (OpenSpec.ofChange oddsSumsWrong)

/-- 'bookplatelaw28.OddsProduct': WHATEVER THE INPUT: true; the input reads as it did. -/
def oddsProductSpec : ChangeSpec := { name := "oddsProduct", fn := fun _ => fun
  | [d] => { results := [.lit (.bool true)], args := [d] }
  | _ => none }
def oddsProductRow : OpenClaim := { program := "ythopbnohgifehaa", sum := "0fb2244eddb26ce6c74185b7509fd8121be224dda85cb07ac655a5e8c87aa8c7", func := "bookplate/bookplatelaw28.OddsProduct", spec := "oddsProduct", inPlace := ["slices.overlaps[int]"], unfollowed := true, recurses := true, apart := false }
def OddsProductSaid : Prop := oddsProductRow.holds Try.pinned (OpenSpec.ofChange oddsProductSpec)

/-- ITS FALSE NEIGHBOUR: 'it returns false'. Refute it at one input. -/
def oddsProductWrong : ChangeSpec := { name := "oddsProduct", fn := fun _ => fun
  | [d] => { results := [.lit (.bool false)], args := [d] }
  | _ => none }
def OddsProductWrongFalsely : Prop := oddsProductRow.holds Try.pinned (OpenSpec.ofChange oddsProductWrong)

/-- 'bookplatelaw28.OddsInverse': WHATEVER THE INPUT: true; the input reads as it did. -/
def oddsInverseSpec : ChangeSpec := { name := "oddsInverse", fn := fun _ => fun
  | [d] => { results := [.lit (.bool true)], args := [d] }
  | _ => none }
def oddsInverseRow : OpenClaim := { program := "ythopbnohgifehaa", sum := "0fb2244eddb26ce6c74185b7509fd8121be224dda85cb07ac655a5e8c87aa8c7", func := "bookplate/bookplatelaw28.OddsInverse", spec := "oddsInverse", inPlace := ["slices.overlaps[int]"], unfollowed := true, recurses := true, apart := false }
def OddsInverseSaid : Prop := oddsInverseRow.holds Try.pinned (OpenSpec.ofChange oddsInverseSpec)

/-- ITS FALSE NEIGHBOUR: 'it returns false'. Refute it at one input. -/
def oddsInverseWrong : ChangeSpec := { name := "oddsInverse", fn := fun _ => fun
  | [d] => { results := [.lit (.bool false)], args := [d] }
  | _ => none }
def OddsInverseWrongFalsely : Prop := oddsInverseRow.holds Try.pinned (OpenSpec.ofChange oddsInverseWrong)

/-- 'bookplatelaw28.OddsCompare': WHATEVER THE INPUT: true; the input reads as it did. -/
def oddsCompareSpec : ChangeSpec := { name := "oddsCompare", fn := fun _ => fun
  | [d1, d2] => { results := [.lit (.bool true)], args := [d1, d2] }
  | _ => none }
def oddsCompareRow : OpenClaim := { program := "ythopbnohgifehaa", sum := "0fb2244eddb26ce6c74185b7509fd8121be224dda85cb07ac655a5e8c87aa8c7", func := "bookplate/bookplatelaw28.OddsCompare", spec := "oddsCompare", inPlace := ["slices.overlaps[int]"], unfollowed := true, recurses := true, apart := false }
def OddsCompareSaid : Prop := oddsCompareRow.holds Try.pinned (OpenSpec.ofChange oddsCompareSpec)

/-- ITS FALSE NEIGHBOUR: 'it returns false'. Refute it at one input. -/
def oddsCompareWrong : ChangeSpec := { name := "oddsCompare", fn := fun _ => fun
  | [d1, d2] => { results := [.lit (.bool false)], args := [d1, d2] }
  | _ => none }
def OddsCompareWrongFalsely : Prop := oddsCompareRow.holds Try.pinned (OpenSpec.ofChange oddsCompareWrong)

/-- 'bookplatelaw28.OddsOrder': WHATEVER THE INPUT: true; the input reads as it did. -/
def oddsOrderSpec : ChangeSpec := { name := "oddsOrder", fn := fun _ => fun
  | [d1, d2, d3] => { results := [.lit (.bool true)], args := [d1, d2, d3] }
  | _ => none }
def oddsOrderRow : OpenClaim := { program := "ythopbnohgifehaa", sum := "0fb2244eddb26ce6c74185b7509fd8121be224dda85cb07ac655a5e8c87aa8c7", func := "bookplate/bookplatelaw28.OddsOrder", spec := "oddsOrder", inPlace := ["slices.overlaps[int]"], unfollowed := true, recurses := true, apart := false }
def OddsOrderSaid : Prop := oddsOrderRow.holds Try.pinned (OpenSpec.ofChange oddsOrderSpec)

/-- ITS FALSE NEIGHBOUR: 'it returns false'. Refute it at one input. -/
def oddsOrderWrong : ChangeSpec := { name := "oddsOrder", fn := fun _ => fun
  | [d1, d2, d3] => { results := [.lit (.bool false)], args := [d1, d2, d3] }
  | _ => none }
def OddsOrderWrongFalsely : Prop := oddsOrderRow.holds Try.pinned (OpenSpec.ofChange oddsOrderWrong)

/-- 'bookplatelaw28.OddsSteps': WHATEVER THE INPUT: true; the input reads as it did. -/
def oddsStepsSpec : ChangeSpec := { name := "oddsSteps", fn := fun _ => fun
  | [d1, d2] => { results := [.lit (.bool true)], args := [d1, d2] }
  | _ => none }
def oddsStepsRow : OpenClaim := { program := "ythopbnohgifehaa", sum := "0fb2244eddb26ce6c74185b7509fd8121be224dda85cb07ac655a5e8c87aa8c7", func := "bookplate/bookplatelaw28.OddsSteps", spec := "oddsSteps", inPlace := ["slices.overlaps[int]"], unfollowed := true, recurses := true, apart := false }
def OddsStepsSaid : Prop := oddsStepsRow.holds Try.pinned (OpenSpec.ofChange oddsStepsSpec)

/-- ITS FALSE NEIGHBOUR: 'it returns false'. Refute it at one input. -/
def oddsStepsWrong : ChangeSpec := { name := "oddsSteps", fn := fun _ => fun
  | [d1, d2] => { results := [.lit (.bool false)], args := [d1, d2] }
  | _ => none }
def OddsStepsWrongFalsely : Prop := oddsStepsRow.holds Try.pinned (OpenSpec.ofChange oddsStepsWrong)

/- THE SECOND FORM. 'bulk': how many values and letters a reading holds, each counted each time it is reached (what is shared counts as often as it is met; a slice's spare places count too). A statement '..UptoSaid' is the law's where the arguments, and the package variables that the reading takes, are together of bulk at most 1048576: NARROWER than '..Said'. Prove '..Said' where nothing that the law and all that it calls make is longer than what came in: it says more and counts as full. Else prove '..UptoSaid'. A law counts once. -/
mutual
def uptoBulk {H : Type} : DataW H → Nat
  | .lit (.string bytes) => bytes.length + 1
  | .lit _ => 1
  | .nil => 1
  | .ptr d => uptoBulk d + 1
  | .slice elems spare => uptoBulkAll elems + uptoBulkAll spare + 1
  | .agg parts => uptoBulkAll parts + 1
  | .iface _ d => uptoBulk d + 1
  | .map entries => uptoBulkEntries entries + 1
  | .held _ => 1
def uptoBulkAll {H : Type} : List (DataW H) → Nat
  | [] => 0
  | d :: r => uptoBulk d + uptoBulkAll r
def uptoBulkEntries {H : Type} : List (Lit × DataW H) → Nat
  | [] => 0
  | x :: r => uptoBulkEntry x + uptoBulkEntries r
def uptoBulkEntry {H : Type} : Lit × DataW H → Nat
  | (.string bytes, d) => bytes.length + uptoBulk d + 1
  | (_, d) => uptoBulk d + 1
 end
def uptoSmall : (H : Type) → List (DataW H) → Bool := fun _ ds => decide (uptoBulkAll ds ≤ 1048576)
def OpenSpec.upto (s : _root_.Go.ChangeSpec) : _root_.Go.OpenSpec := { _root_.Go.OpenSpec.ofChange s with cond := some uptoSmall }

/-- 'bookplatelaw28.OddsMeans', WHERE WHAT IT READS IS OF BULK AT MOST 1048576: true; the input reads as it did. -/
def oddsMeansUptoRow : OpenClaim := { program := "ythopbnohgifehaa", sum := "0fb2244eddb26ce6c74185b7509fd8121be224dda85cb07ac655a5e8c87aa8c7", func := "bookplate/bookplatelaw28.OddsMeans", spec := "oddsMeans", inPlace := ["slices.overlaps[int]"], unfollowed := true, recurses := true, apart := false, narrowed := true }
def OddsMeansUptoSaid : Prop := oddsMeansUptoRow.holds Try.pinned (OpenSpec.upto oddsMeansSpec)

/-- 'bookplatelaw28.OddsSums', WHERE WHAT IT READS IS OF BULK AT MOST 1048576: true; the input reads as it did. -/
def oddsSumsUptoRow : OpenClaim := { program := "ythopbnohgifehaa", sum := "0fb2244eddb26ce6c74185b7509fd8121be224dda85cb07ac655a5e8c87aa8c7", func := "bookplate/bookplatelaw28.OddsSums", spec := "oddsSums", inPlace := ["slices.overlaps[int]"], unfollowed := true, recurses := true, apart := false, narrowed := true }
def OddsSumsUptoSaid : Prop := oddsSumsUptoRow.holds Try.pinned (OpenSpec.upto oddsSumsSpec)

/-- 'bookplatelaw28.OddsProduct', WHERE WHAT IT READS IS OF BULK AT MOST 1048576: true; the input reads as it did. -/
def oddsProductUptoRow : OpenClaim := { program := "ythopbnohgifehaa", sum := "0fb2244eddb26ce6c74185b7509fd8121be224dda85cb07ac655a5e8c87aa8c7", func := "bookplate/bookplatelaw28.OddsProduct", spec := "oddsProduct", inPlace := ["slices.overlaps[int]"], unfollowed := true, recurses := true, apart := false, narrowed := true }
def OddsProductUptoSaid : Prop := oddsProductUptoRow.holds Try.pinned (OpenSpec.upto oddsProductSpec)

/-- 'bookplatelaw28.OddsInverse', WHERE WHAT IT READS IS OF BULK AT MOST 1048576: true; the input reads as it did. -/
def oddsInverseUptoRow : OpenClaim := { program := "ythopbnohgifehaa", sum := "0fb2244eddb26ce6c74185b7509fd8121be224dda85cb07ac655a5e8c87aa8c7", func := "bookplate/bookplatelaw28.OddsInverse", spec := "oddsInverse", inPlace := ["slices.overlaps[int]"], unfollowed := true, recurses := true, apart := false, narrowed := true }
def OddsInverseUptoSaid : Prop := oddsInverseUptoRow.holds Try.pinned (OpenSpec.upto oddsInverseSpec)

/-- 'bookplatelaw28.OddsCompare', WHERE WHAT IT READS IS OF BULK AT MOST 1048576: true; the input reads as it did. -/
def oddsCompareUptoRow : OpenClaim := { program := "ythopbnohgifehaa", sum := "0fb2244eddb26ce6c74185b7509fd8121be224dda85cb07ac655a5e8c87aa8c7", func := "bookplate/bookplatelaw28.OddsCompare", spec := "oddsCompare", inPlace := ["slices.overlaps[int]"], unfollowed := true, recurses := true, apart := false, narrowed := true }
def OddsCompareUptoSaid : Prop := oddsCompareUptoRow.holds Try.pinned (OpenSpec.upto oddsCompareSpec)

/-- 'bookplatelaw28.OddsOrder', WHERE WHAT IT READS IS OF BULK AT MOST 1048576: true; the input reads as it did. -/
def oddsOrderUptoRow : OpenClaim := { program := "ythopbnohgifehaa", sum := "0fb2244eddb26ce6c74185b7509fd8121be224dda85cb07ac655a5e8c87aa8c7", func := "bookplate/bookplatelaw28.OddsOrder", spec := "oddsOrder", inPlace := ["slices.overlaps[int]"], unfollowed := true, recurses := true, apart := false, narrowed := true }
def OddsOrderUptoSaid : Prop := oddsOrderUptoRow.holds Try.pinned (OpenSpec.upto oddsOrderSpec)

/-- 'bookplatelaw28.OddsSteps', WHERE WHAT IT READS IS OF BULK AT MOST 1048576: true; the input reads as it did. -/
def oddsStepsUptoRow : OpenClaim := { program := "ythopbnohgifehaa", sum := "0fb2244eddb26ce6c74185b7509fd8121be224dda85cb07ac655a5e8c87aa8c7", func := "bookplate/bookplatelaw28.OddsSteps", spec := "oddsSteps", inPlace := ["slices.overlaps[int]"], unfollowed := true, recurses := true, apart := false, narrowed := true }
def OddsStepsUptoSaid : Prop := oddsStepsUptoRow.holds Try.pinned (OpenSpec.upto oddsStepsSpec)

end Rows
end Go.Proofs.Ythopbnohgifehaa
