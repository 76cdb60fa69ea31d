/-
  No cell of these rows narrows 'for every input' (looked for: loops, veiled, ifaces, maps, wideKeys, modest, calm, conditions, laid).
  DERIVED. THE GIVEN ROWS OF THIS SEAT. 6 by the template 'for every input the law returns true; each argument reads behind the call as it read before'; 0 by the template 'total and deterministic' (their statements: YtjinohfopjlgkaaTotals.lean).
  GIVEN WITH THE SEED: the statements are not yours to turn. If you find one false, say at which input.
  Laid BY PROGRAM, IN A SANDBOX (cutbox-rows.mjs): the forced cells as the released guide's own fill.sh prints them over the translation 9679bea019295ac1… (all of the seat's roots in one cut). By AI agents, Wed Nov 11 2026. No macro, syntax, notation, axiom, sorry.
-/
import Derived.Test.YtjinohfopjlgkaaChecked
import GoSem.Claim
import GoSem.ClaimJoined
import GoSem.ClaimMapViews
import Derived.JoinedTies
import Derived.KernelRfl
namespace Go.Proofs.Ytjinohfopjlgkaa
/- THE CELL 'sum', in the pinned program and in every row, IS THE sha256 OF THE DUMP (.gsa) THAT YtjinohfopjlgkaaProg.lean LOADS. Nothing in Lean hashes anything: it is a label: what it is worth is what the hold of that sum in a sandbox is worth. -/
noncomputable def Try.pinned : Pinned := { name := "ytjinohfopjlgkaa", sum := "9679bea019295ac1b6a3afdd6e7b6348922488bad80318e771d7072fbb8cf3c1", checked := Try.checked }
namespace Rows
def none {H : Type} : Left H := { results := [], args := [] }

/-- 'bookplatelaw42.RangeValid': WHATEVER THE INPUT: true; the input reads as it did. -/
def rangeValidSpec : ChangeSpec := { name := "rangeValid", fn := fun _ => fun
  | [d] => { results := [.lit (.bool true)], args := [d] }
  | _ => none }
def rangeValidRow : OpenClaim := { program := "ytjinohfopjlgkaa", sum := "9679bea019295ac1b6a3afdd6e7b6348922488bad80318e771d7072fbb8cf3c1", func := "bookplate/bookplatelaw42.RangeValid", spec := "rangeValid", inPlace := ["slices.overlaps[bookplate/rangeindex.Item]"], unfollowed := true, recurses := true, apart := false }
def RangeValidSaid : Prop := rangeValidRow.holds Try.pinned (OpenSpec.ofChange rangeValidSpec)

/-- ITS FALSE NEIGHBOUR: 'it returns false'. Refute it at one input. -/
def rangeValidWrong : ChangeSpec := { name := "rangeValid", fn := fun _ => fun
  | [d] => { results := [.lit (.bool false)], args := [d] }
  | _ => none }
def RangeValidWrongFalsely : Prop := rangeValidRow.holds Try.pinned (OpenSpec.ofChange rangeValidWrong)

/-- 'bookplatelaw42.RangeOf': WHATEVER THE INPUT: true; the input reads as it did. -/
def rangeOfSpec : ChangeSpec := { name := "rangeOf", fn := fun _ => fun
  | [d] => { results := [.lit (.bool true)], args := [d] }
  | _ => none }
def rangeOfRow : OpenClaim := { program := "ytjinohfopjlgkaa", sum := "9679bea019295ac1b6a3afdd6e7b6348922488bad80318e771d7072fbb8cf3c1", func := "bookplate/bookplatelaw42.RangeOf", spec := "rangeOf", inPlace := ["slices.overlaps[bookplate/rangeindex.Item]"], unfollowed := true, recurses := true, apart := false }
def RangeOfSaid : Prop := rangeOfRow.holds Try.pinned (OpenSpec.ofChange rangeOfSpec)

/-- ITS FALSE NEIGHBOUR: 'it returns false'. Refute it at one input. -/
def rangeOfWrong : ChangeSpec := { name := "rangeOf", fn := fun _ => fun
  | [d] => { results := [.lit (.bool false)], args := [d] }
  | _ => none }
def RangeOfWrongFalsely : Prop := rangeOfRow.holds Try.pinned (OpenSpec.ofChange rangeOfWrong)

/-- 'bookplatelaw42.RangeHistogram': WHATEVER THE INPUT: true; the input reads as it did. -/
def rangeHistogramSpec : ChangeSpec := { name := "rangeHistogram", fn := fun _ => fun
  | [d1, d2] => { results := [.lit (.bool true)], args := [d1, d2] }
  | _ => none }
def rangeHistogramRow : OpenClaim := { program := "ytjinohfopjlgkaa", sum := "9679bea019295ac1b6a3afdd6e7b6348922488bad80318e771d7072fbb8cf3c1", func := "bookplate/bookplatelaw42.RangeHistogram", spec := "rangeHistogram", inPlace := ["slices.overlaps[bookplate/rangeindex.Item]"], unfollowed := true, recurses := true, apart := false }
def RangeHistogramSaid : Prop := rangeHistogramRow.holds Try.pinned (OpenSpec.ofChange rangeHistogramSpec)

/-- ITS FALSE NEIGHBOUR: 'it returns false'. Refute it at one input. -/
def rangeHistogramWrong : ChangeSpec := { name := "rangeHistogram", fn := fun _ => fun
  | [d1, d2] => { results := [.lit (.bool false)], args := [d1, d2] }
  | _ => none }
def RangeHistogramWrongFalsely : Prop := rangeHistogramRow.holds Try.pinned (OpenSpec.ofChange rangeHistogramWrong)

/-- 'bookplatelaw42.RangeChanges': WHATEVER THE INPUT: true; the input reads as it did. -/
def rangeChangesSpec : ChangeSpec := { name := "rangeChanges", fn := fun _ => fun
  | [d1, d2] => { results := [.lit (.bool true)], args := [d1, d2] }
  | _ => none }
def rangeChangesRow : OpenClaim := { program := "ytjinohfopjlgkaa", sum := "9679bea019295ac1b6a3afdd6e7b6348922488bad80318e771d7072fbb8cf3c1", func := "bookplate/bookplatelaw42.RangeChanges", spec := "rangeChanges", inPlace := ["slices.overlaps[bookplate/rangeindex.Item]"], unfollowed := true, recurses := true, apart := false }
def RangeChangesSaid : Prop := rangeChangesRow.holds Try.pinned (OpenSpec.ofChange rangeChangesSpec)

/-- ITS FALSE NEIGHBOUR: 'it returns false'. Refute it at one input. -/
def rangeChangesWrong : ChangeSpec := { name := "rangeChanges", fn := fun _ => fun
  | [d1, d2] => { results := [.lit (.bool false)], args := [d1, d2] }
  | _ => none }
def RangeChangesWrongFalsely : Prop := rangeChangesRow.holds Try.pinned (OpenSpec.ofChange rangeChangesWrong)

/-- 'bookplatelaw42.RangeFind': WHATEVER THE INPUT: true; the input reads as it did. -/
def rangeFindSpec : ChangeSpec := { name := "rangeFind", fn := fun _ => fun
  | [d1, d2] => { results := [.lit (.bool true)], args := [d1, d2] }
  | _ => none }
def rangeFindRow : OpenClaim := { program := "ytjinohfopjlgkaa", sum := "9679bea019295ac1b6a3afdd6e7b6348922488bad80318e771d7072fbb8cf3c1", func := "bookplate/bookplatelaw42.RangeFind", spec := "rangeFind", inPlace := ["slices.overlaps[bookplate/rangeindex.Item]"], unfollowed := true, recurses := true, apart := false }
def RangeFindSaid : Prop := rangeFindRow.holds Try.pinned (OpenSpec.ofChange rangeFindSpec)

/-- ITS FALSE NEIGHBOUR: 'it returns false'. Refute it at one input. -/
def rangeFindWrong : ChangeSpec := { name := "rangeFind", fn := fun _ => fun
  | [d1, d2] => { results := [.lit (.bool false)], args := [d1, d2] }
  | _ => none }
def RangeFindWrongFalsely : Prop := rangeFindRow.holds Try.pinned (OpenSpec.ofChange rangeFindWrong)

/-- 'bookplatelaw42.RangeCounts': WHATEVER THE INPUT: true; the input reads as it did. -/
def rangeCountsSpec : ChangeSpec := { name := "rangeCounts", fn := fun _ => fun
  | [d1, d2] => { results := [.lit (.bool true)], args := [d1, d2] }
  | _ => none }
def rangeCountsRow : OpenClaim := { program := "ytjinohfopjlgkaa", sum := "9679bea019295ac1b6a3afdd6e7b6348922488bad80318e771d7072fbb8cf3c1", func := "bookplate/bookplatelaw42.RangeCounts", spec := "rangeCounts", inPlace := ["slices.overlaps[bookplate/rangeindex.Item]"], unfollowed := true, recurses := true, apart := false }
def RangeCountsSaid : Prop := rangeCountsRow.holds Try.pinned (OpenSpec.ofChange rangeCountsSpec)

/-- ITS FALSE NEIGHBOUR: 'it returns false'. Refute it at one input. -/
def rangeCountsWrong : ChangeSpec := { name := "rangeCounts", fn := fun _ => fun
  | [d1, d2] => { results := [.lit (.bool false)], args := [d1, d2] }
  | _ => none }
def RangeCountsWrongFalsely : Prop := rangeCountsRow.holds Try.pinned (OpenSpec.ofChange rangeCountsWrong)

/- THE SECOND FORM. 'bulk': how many values and letters a reading holds, each counted each time it is reached (what is shared counts as often as it is met; a slice's spare places count too). A statement '..UptoSaid' is the law's where the arguments, and the package variables that the reading takes, are together of bulk at most 1048576: NARROWER than '..Said'. Prove '..Said' where nothing that the law and all that it calls make is longer than what came in: it says more and counts as full. Else prove '..UptoSaid'. A law counts once. -/
mutual
def uptoBulk {H : Type} : DataW H → Nat
  | .lit (.string bytes) => bytes.length + 1
  | .lit _ => 1
  | .nil => 1
  | .ptr d => uptoBulk d + 1
  | .slice elems spare => uptoBulkAll elems + uptoBulkAll spare + 1
  | .agg parts => uptoBulkAll parts + 1
  | .iface _ d => uptoBulk d + 1
  | .map entries => uptoBulkEntries entries + 1
  | .held _ => 1
def uptoBulkAll {H : Type} : List (DataW H) → Nat
  | [] => 0
  | d :: r => uptoBulk d + uptoBulkAll r
def uptoBulkEntries {H : Type} : List (Lit × DataW H) → Nat
  | [] => 0
  | x :: r => uptoBulkEntry x + uptoBulkEntries r
def uptoBulkEntry {H : Type} : Lit × DataW H → Nat
  | (.string bytes, d) => bytes.length + uptoBulk d + 1
  | (_, d) => uptoBulk d + 1
 end
def uptoSmall : (H : Type) → List (DataW H) → Bool := fun _ ds => decide (uptoBulkAll ds ≤ 1048576)
def OpenSpec.upto (s : _root_.Go.ChangeSpec) : _root_.Go.OpenSpec := { _root_.Go.OpenSpec.ofChange s with cond := some uptoSmall }

/-- 'bookplatelaw42.RangeValid', WHERE WHAT IT READS IS OF BULK AT MOST 1048576: true; the input reads as it did. -/
def rangeValidUptoRow : OpenClaim := { program := "ytjinohfopjlgkaa", sum := "9679bea019295ac1b6a3afdd6e7b6348922488bad80318e771d7072fbb8cf3c1", func := "bookplate/bookplatelaw42.RangeValid", spec := "rangeValid", inPlace := ["slices.overlaps[bookplate/rangeindex.Item]"], unfollowed := true, recurses := true, apart := false, narrowed := true }
def RangeValidUptoSaid : Prop := rangeValidUptoRow.holds Try.pinned (OpenSpec.upto rangeValidSpec)

/-- 'bookplatelaw42.RangeOf', WHERE WHAT IT READS IS OF BULK AT MOST 1048576: true; the input reads as it did. -/
def rangeOfUptoRow : OpenClaim := { program := "ytjinohfopjlgkaa", sum := "9679bea019295ac1b6a3afdd6e7b6348922488bad80318e771d7072fbb8cf3c1", func := "bookplate/bookplatelaw42.RangeOf", spec := "rangeOf", inPlace := ["slices.overlaps[bookplate/rangeindex.Item]"], unfollowed := true, recurses := true, apart := false, narrowed := true }
def RangeOfUptoSaid : Prop := rangeOfUptoRow.holds Try.pinned (OpenSpec.upto rangeOfSpec)

/-- 'bookplatelaw42.RangeHistogram', WHERE WHAT IT READS IS OF BULK AT MOST 1048576: true; the input reads as it did. -/
def rangeHistogramUptoRow : OpenClaim := { program := "ytjinohfopjlgkaa", sum := "9679bea019295ac1b6a3afdd6e7b6348922488bad80318e771d7072fbb8cf3c1", func := "bookplate/bookplatelaw42.RangeHistogram", spec := "rangeHistogram", inPlace := ["slices.overlaps[bookplate/rangeindex.Item]"], unfollowed := true, recurses := true, apart := false, narrowed := true }
def RangeHistogramUptoSaid : Prop := rangeHistogramUptoRow.holds Try.pinned (OpenSpec.upto rangeHistogramSpec)

/-- 'bookplatelaw42.RangeChanges', WHERE WHAT IT READS IS OF BULK AT MOST 1048576: true; the input reads as it did. -/
def rangeChangesUptoRow : OpenClaim := { program := "ytjinohfopjlgkaa", sum := "9679bea019295ac1b6a3afdd6e7b6348922488bad80318e771d7072fbb8cf3c1", func := "bookplate/bookplatelaw42.RangeChanges", spec := "rangeChanges", inPlace := ["slices.overlaps[bookplate/rangeindex.Item]"], unfollowed := true, recurses := true, apart := false, narrowed := true }
def RangeChangesUptoSaid : Prop := rangeChangesUptoRow.holds Try.pinned (OpenSpec.upto rangeChangesSpec)

/-- 'bookplatelaw42.RangeFind', WHERE WHAT IT READS IS OF BULK AT MOST 1048576: true; the input reads as it did. -/
def rangeFindUptoRow : OpenClaim := { program := "ytjinohfopjlgkaa", sum := "9679bea019295ac1b6a3afdd6e7b6348922488bad80318e771d7072fbb8cf3c1", func := "bookplate/bookplatelaw42.RangeFind", spec := "rangeFind", inPlace := ["slices.overlaps[bookplate/rangeindex.Item]"], unfollowed := true, recurses := true, apart := false, narrowed := true }
def RangeFindUptoSaid : Prop := rangeFindUptoRow.holds Try.pinned (OpenSpec.upto rangeFindSpec)

/-- 'bookplatelaw42.RangeCounts', WHERE WHAT IT READS IS OF BULK AT MOST 1048576: true; the input reads as it did. -/
def rangeCountsUptoRow : OpenClaim := { program := "ytjinohfopjlgkaa", sum := "9679bea019295ac1b6a3afdd6e7b6348922488bad80318e771d7072fbb8cf3c1", func := "bookplate/bookplatelaw42.RangeCounts", spec := "rangeCounts", inPlace := ["slices.overlaps[bookplate/rangeindex.Item]"], unfollowed := true, recurses := true, apart := false, narrowed := true }
def RangeCountsUptoSaid : Prop := rangeCountsUptoRow.holds Try.pinned (OpenSpec.upto rangeCountsSpec)

end Rows
end Go.Proofs.Ytjinohfopjlgkaa
