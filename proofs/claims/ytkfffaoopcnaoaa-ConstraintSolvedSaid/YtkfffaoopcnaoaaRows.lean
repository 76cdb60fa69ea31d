/-
  No cell of these rows narrows 'for every input' (looked for: loops, veiled, ifaces, maps, wideKeys, modest, calm, conditions, laid).
  DERIVED. THE GIVEN ROWS OF THIS SEAT. 8 by the template 'for every input the law returns true; each argument reads behind the call as it read before'; 0 by the template 'total and deterministic' (their statements: YtkfffaoopcnaoaaTotals.lean).
  GIVEN WITH THE SEED: the statements are not yours to turn. If you find one false, say at which input.
  Laid BY PROGRAM, IN A SANDBOX (cutbox-rows.mjs): the forced cells as the released guide's own fill.sh prints them over the translation fe30783f2b5e5ee3… (all of the seat's roots in one cut). By AI agents, Wed Nov 11 2026. No macro, syntax, notation, axiom, sorry.
-/
import Derived.Test.YtkfffaoopcnaoaaChecked
import GoSem.Claim
import GoSem.ClaimJoined
import GoSem.ClaimMapViews
import Derived.JoinedTies
import Derived.KernelRfl
namespace Go.Proofs.Ytkfffaoopcnaoaa
/- THE CELL 'sum', in the pinned program and in every row, IS THE sha256 OF THE DUMP (.gsa) THAT YtkfffaoopcnaoaaProg.lean LOADS. Nothing in Lean hashes anything: it is a label: what it is worth is what the hold of that sum in a sandbox is worth. -/
noncomputable def Try.pinned : Pinned := { name := "ytkfffaoopcnaoaa", sum := "fe30783f2b5e5ee3bd94d0af928a38bb9a9770621cb5b79f3178ec0f7a287854", checked := Try.checked }
namespace Rows
def none {H : Type} : Left H := { results := [], args := [] }

/-- 'bookplatelaw32.ConstraintNormal': WHATEVER THE INPUT: true; the input reads as it did. -/
def constraintNormalSpec : ChangeSpec := { name := "constraintNormal", fn := fun _ => fun
  | [d1, d2, d3] => { results := [.lit (.bool true)], args := [d1, d2, d3] }
  | _ => none }
def constraintNormalRow : OpenClaim := { program := "ytkfffaoopcnaoaa", sum := "fe30783f2b5e5ee3bd94d0af928a38bb9a9770621cb5b79f3178ec0f7a287854", func := "bookplate/bookplatelaw32.ConstraintNormal", spec := "constraintNormal", unfollowed := true, recurses := true, apart := false }
def ConstraintNormalSaid : Prop := constraintNormalRow.holds Try.pinned (OpenSpec.ofChange constraintNormalSpec)

/-- ITS FALSE NEIGHBOUR: 'it returns false'. Refute it at one input. -/
def constraintNormalWrong : ChangeSpec := { name := "constraintNormal", fn := fun _ => fun
  | [d1, d2, d3] => { results := [.lit (.bool false)], args := [d1, d2, d3] }
  | _ => none }
def ConstraintNormalWrongFalsely : Prop := constraintNormalRow.holds Try.pinned (OpenSpec.ofChange constraintNormalWrong)

/-- 'bookplatelaw32.ConstraintPaths': WHATEVER THE INPUT: true; the input reads as it did. -/
def constraintPathsSpec : ChangeSpec := { name := "constraintPaths", fn := fun _ => fun
  | [d1, d2, d3] => { results := [.lit (.bool true)], args := [d1, d2, d3] }
  | _ => none }
def constraintPathsRow : OpenClaim := { program := "ytkfffaoopcnaoaa", sum := "fe30783f2b5e5ee3bd94d0af928a38bb9a9770621cb5b79f3178ec0f7a287854", func := "bookplate/bookplatelaw32.ConstraintPaths", spec := "constraintPaths", unfollowed := true, recurses := true, apart := false }
def ConstraintPathsSaid : Prop := constraintPathsRow.holds Try.pinned (OpenSpec.ofChange constraintPathsSpec)

/-- ITS FALSE NEIGHBOUR: 'it returns false'. Refute it at one input. -/
def constraintPathsWrong : ChangeSpec := { name := "constraintPaths", fn := fun _ => fun
  | [d1, d2, d3] => { results := [.lit (.bool false)], args := [d1, d2, d3] }
  | _ => none }
def ConstraintPathsWrongFalsely : Prop := constraintPathsRow.holds Try.pinned (OpenSpec.ofChange constraintPathsWrong)

/-- 'bookplatelaw32.ConstraintShortest': WHATEVER THE INPUT: true; the input reads as it did. -/
def constraintShortestSpec : ChangeSpec := { name := "constraintShortest", fn := fun _ => fun
  | [d1, d2, d3] => { results := [.lit (.bool true)], args := [d1, d2, d3] }
  | _ => none }
def constraintShortestRow : OpenClaim := { program := "ytkfffaoopcnaoaa", sum := "fe30783f2b5e5ee3bd94d0af928a38bb9a9770621cb5b79f3178ec0f7a287854", func := "bookplate/bookplatelaw32.ConstraintShortest", spec := "constraintShortest", unfollowed := true, recurses := true, apart := false }
def ConstraintShortestSaid : Prop := constraintShortestRow.holds Try.pinned (OpenSpec.ofChange constraintShortestSpec)

/-- ITS FALSE NEIGHBOUR: 'it returns false'. Refute it at one input. -/
def constraintShortestWrong : ChangeSpec := { name := "constraintShortest", fn := fun _ => fun
  | [d1, d2, d3] => { results := [.lit (.bool false)], args := [d1, d2, d3] }
  | _ => none }
def ConstraintShortestWrongFalsely : Prop := constraintShortestRow.holds Try.pinned (OpenSpec.ofChange constraintShortestWrong)

/-- 'bookplatelaw32.ConstraintClasses': WHATEVER THE INPUT: true; the input reads as it did. -/
def constraintClassesSpec : ChangeSpec := { name := "constraintClasses", fn := fun _ => fun
  | [d1, d2, d3] => { results := [.lit (.bool true)], args := [d1, d2, d3] }
  | _ => none }
def constraintClassesRow : OpenClaim := { program := "ytkfffaoopcnaoaa", sum := "fe30783f2b5e5ee3bd94d0af928a38bb9a9770621cb5b79f3178ec0f7a287854", func := "bookplate/bookplatelaw32.ConstraintClasses", spec := "constraintClasses", unfollowed := true, recurses := true, apart := false }
def ConstraintClassesSaid : Prop := constraintClassesRow.holds Try.pinned (OpenSpec.ofChange constraintClassesSpec)

/-- ITS FALSE NEIGHBOUR: 'it returns false'. Refute it at one input. -/
def constraintClassesWrong : ChangeSpec := { name := "constraintClasses", fn := fun _ => fun
  | [d1, d2, d3] => { results := [.lit (.bool false)], args := [d1, d2, d3] }
  | _ => none }
def ConstraintClassesWrongFalsely : Prop := constraintClassesRow.holds Try.pinned (OpenSpec.ofChange constraintClassesWrong)

/-- 'bookplatelaw32.ConstraintMore': WHATEVER THE INPUT: true; the input reads as it did. -/
def constraintMoreSpec : ChangeSpec := { name := "constraintMore", fn := fun _ => fun
  | [d1, d2, d3] => { results := [.lit (.bool true)], args := [d1, d2, d3] }
  | _ => none }
def constraintMoreRow : OpenClaim := { program := "ytkfffaoopcnaoaa", sum := "fe30783f2b5e5ee3bd94d0af928a38bb9a9770621cb5b79f3178ec0f7a287854", func := "bookplate/bookplatelaw32.ConstraintMore", spec := "constraintMore", unfollowed := true, recurses := true, apart := false }
def ConstraintMoreSaid : Prop := constraintMoreRow.holds Try.pinned (OpenSpec.ofChange constraintMoreSpec)

/-- ITS FALSE NEIGHBOUR: 'it returns false'. Refute it at one input. -/
def constraintMoreWrong : ChangeSpec := { name := "constraintMore", fn := fun _ => fun
  | [d1, d2, d3] => { results := [.lit (.bool false)], args := [d1, d2, d3] }
  | _ => none }
def ConstraintMoreWrongFalsely : Prop := constraintMoreRow.holds Try.pinned (OpenSpec.ofChange constraintMoreWrong)

/-- 'bookplatelaw32.ConstraintForms': WHATEVER THE INPUT: true; the input reads as it did. -/
def constraintFormsSpec : ChangeSpec := { name := "constraintForms", fn := fun _ => fun
  | [d1, d2, d3] => { results := [.lit (.bool true)], args := [d1, d2, d3] }
  | _ => none }
def constraintFormsRow : OpenClaim := { program := "ytkfffaoopcnaoaa", sum := "fe30783f2b5e5ee3bd94d0af928a38bb9a9770621cb5b79f3178ec0f7a287854", func := "bookplate/bookplatelaw32.ConstraintForms", spec := "constraintForms", unfollowed := true, recurses := true, apart := false }
def ConstraintFormsSaid : Prop := constraintFormsRow.holds Try.pinned (OpenSpec.ofChange constraintFormsSpec)

/-- ITS FALSE NEIGHBOUR: 'it returns false'. Refute it at one input. -/
def constraintFormsWrong : ChangeSpec := { name := "constraintForms", fn := fun _ => fun
  | [d1, d2, d3] => { results := [.lit (.bool false)], args := [d1, d2, d3] }
  | _ => none }
def ConstraintFormsWrongFalsely : Prop := constraintFormsRow.holds Try.pinned (OpenSpec.ofChange constraintFormsWrong)

/-- 'bookplatelaw32.ConstraintList': WHATEVER THE INPUT: true; the input reads as it did. -/
def constraintListSpec : ChangeSpec := { name := "constraintList", fn := fun _ => fun
  | [d1, d2] => { results := [.lit (.bool true)], args := [d1, d2] }
  | _ => none }
def constraintListRow : OpenClaim := { program := "ytkfffaoopcnaoaa", sum := "fe30783f2b5e5ee3bd94d0af928a38bb9a9770621cb5b79f3178ec0f7a287854", func := "bookplate/bookplatelaw32.ConstraintList", spec := "constraintList", unfollowed := true, recurses := true, apart := false }
def ConstraintListSaid : Prop := constraintListRow.holds Try.pinned (OpenSpec.ofChange constraintListSpec)

/-- ITS FALSE NEIGHBOUR: 'it returns false'. Refute it at one input. -/
def constraintListWrong : ChangeSpec := { name := "constraintList", fn := fun _ => fun
  | [d1, d2] => { results := [.lit (.bool false)], args := [d1, d2] }
  | _ => none }
def ConstraintListWrongFalsely : Prop := constraintListRow.holds Try.pinned (OpenSpec.ofChange constraintListWrong)

/-- 'bookplatelaw32.ConstraintSolved': WHATEVER THE INPUT: true; the input reads as it did. -/
def constraintSolvedSpec : ChangeSpec := { name := "constraintSolved", fn := fun _ => fun
  | [d1, d2] => { results := [.lit (.bool true)], args := [d1, d2] }
  | _ => none }
def constraintSolvedRow : OpenClaim := { program := "ytkfffaoopcnaoaa", sum := "fe30783f2b5e5ee3bd94d0af928a38bb9a9770621cb5b79f3178ec0f7a287854", func := "bookplate/bookplatelaw32.ConstraintSolved", spec := "constraintSolved", unfollowed := true, recurses := true, apart := false }
def ConstraintSolvedSaid : Prop := constraintSolvedRow.holds Try.pinned (OpenSpec.ofChange constraintSolvedSpec)

/-- ITS FALSE NEIGHBOUR: 'it returns false'. Refute it at one input. -/
def constraintSolvedWrong : ChangeSpec := { name := "constraintSolved", fn := fun _ => fun
  | [d1, d2] => { results := [.lit (.bool false)], args := [d1, d2] }
  | _ => none }
def ConstraintSolvedWrongFalsely : Prop := constraintSolvedRow.holds Try.pinned (OpenSpec.ofChange constraintSolvedWrong)

/- THE SECOND FORM. 'bulk': how many values and letters a reading holds, each counted each time it is reached (what is shared counts as often as it is met; a slice's spare places count too). A statement '..UptoSaid' is the law's where the arguments, and the package variables that the reading takes, are together of bulk at most 1048576: NARROWER than '..Said'. Prove '..Said' where nothing that the law and all that it calls make is longer than what came in: it says more and counts as full. Else prove '..UptoSaid'. A law counts once. -/
mutual
def uptoBulk {H : Type} : DataW H → Nat
  | .lit (.string bytes) => bytes.length + 1
  | .lit _ => 1
  | .nil => 1
  | .ptr d => uptoBulk d + 1
  | .slice elems spare => uptoBulkAll elems + uptoBulkAll spare + 1
  | .agg parts => uptoBulkAll parts + 1
  | .iface _ d => uptoBulk d + 1
  | .map entries => uptoBulkEntries entries + 1
  | .held _ => 1
def uptoBulkAll {H : Type} : List (DataW H) → Nat
  | [] => 0
  | d :: r => uptoBulk d + uptoBulkAll r
def uptoBulkEntries {H : Type} : List (Lit × DataW H) → Nat
  | [] => 0
  | x :: r => uptoBulkEntry x + uptoBulkEntries r
def uptoBulkEntry {H : Type} : Lit × DataW H → Nat
  | (.string bytes, d) => bytes.length + uptoBulk d + 1
  | (_, d) => uptoBulk d + 1
 end
def uptoSmall : (H : Type) → List (DataW H) → Bool := fun _ ds => decide (uptoBulkAll ds ≤ 1048576)
def OpenSpec.upto (s : _root_.Go.ChangeSpec) : _root_.Go.OpenSpec := { _root_.Go.OpenSpec.ofChange s with cond := some uptoSmall }

/-- 'bookplatelaw32.ConstraintNormal', WHERE WHAT IT READS IS OF BULK AT MOST 1048576: true; the input reads as it did. -/
def constraintNormalUptoRow : OpenClaim := { program := "ytkfffaoopcnaoaa", sum := "fe30783f2b5e5ee3bd94d0af928a38bb9a9770621cb5b79f3178ec0f7a287854", func := "bookplate/bookplatelaw32.ConstraintNormal", spec := "constraintNormal", unfollowed := true, recurses := true, apart := false, narrowed := true }
def ConstraintNormalUptoSaid : Prop := constraintNormalUptoRow.holds Try.pinned (OpenSpec.upto constraintNormalSpec)

/-- 'bookplatelaw32.ConstraintPaths', WHERE WHAT IT READS IS OF BULK AT MOST 1048576: true; the input reads as it did. -/
def constraintPathsUptoRow : OpenClaim := { program := "ytkfffaoopcnaoaa", sum := "fe30783f2b5e5ee3bd94d0af928a38bb9a9770621cb5b79f3178ec0f7a287854", func := "bookplate/bookplatelaw32.ConstraintPaths", spec := "constraintPaths", unfollowed := true, recurses := true, apart := false, narrowed := true }
def ConstraintPathsUptoSaid : Prop := constraintPathsUptoRow.holds Try.pinned (OpenSpec.upto constraintPathsSpec)

/-- 'bookplatelaw32.ConstraintShortest', WHERE WHAT IT READS IS OF BULK AT MOST 1048576: true; the input reads as it did. -/
def constraintShortestUptoRow : OpenClaim := { program := "ytkfffaoopcnaoaa", sum := "fe30783f2b5e5ee3bd94d0af928a38bb9a9770621cb5b79f3178ec0f7a287854", func := "bookplate/bookplatelaw32.ConstraintShortest", spec := "constraintShortest", unfollowed := true, recurses := true, apart := false, narrowed := true }
def ConstraintShortestUptoSaid : Prop := constraintShortestUptoRow.holds Try.pinned (OpenSpec.upto constraintShortestSpec)

/-- 'bookplatelaw32.ConstraintClasses', WHERE WHAT IT READS IS OF BULK AT MOST 1048576: true; the input reads as it did. -/
def constraintClassesUptoRow : OpenClaim := { program := "ytkfffaoopcnaoaa", sum := "fe30783f2b5e5ee3bd94d0af928a38bb9a9770621cb5b79f3178ec0f7a287854", func := "bookplate/bookplatelaw32.ConstraintClasses", spec := "constraintClasses", unfollowed := true, recurses := true, apart := false, narrowed := true }
def ConstraintClassesUptoSaid : Prop := constraintClassesUptoRow.holds Try.pinned (OpenSpec.upto constraintClassesSpec)

/-- 'bookplatelaw32.ConstraintMore', WHERE WHAT IT READS IS OF BULK AT MOST 1048576: true; the input reads as it did. -/
def constraintMoreUptoRow : OpenClaim := { program := "ytkfffaoopcnaoaa", sum := "fe30783f2b5e5ee3bd94d0af928a38bb9a9770621cb5b79f3178ec0f7a287854", func := "bookplate/bookplatelaw32.ConstraintMore", spec := "constraintMore", unfollowed := true, recurses := true, apart := false, narrowed := true }
def ConstraintMoreUptoSaid : Prop := constraintMoreUptoRow.holds Try.pinned (OpenSpec.upto constraintMoreSpec)

/-- 'bookplatelaw32.ConstraintForms', WHERE WHAT IT READS IS OF BULK AT MOST 1048576: true; the input reads as it did. -/
def constraintFormsUptoRow : OpenClaim := { program := "ytkfffaoopcnaoaa", sum := "fe30783f2b5e5ee3bd94d0af928a38bb9a9770621cb5b79f3178ec0f7a287854", func := "bookplate/bookplatelaw32.ConstraintForms", spec := "constraintForms", unfollowed := true, recurses := true, apart := false, narrowed := true }
def ConstraintFormsUptoSaid : Prop := constraintFormsUptoRow.holds Try.pinned (OpenSpec.upto constraintFormsSpec)

/-- 'bookplatelaw32.ConstraintList', WHERE WHAT IT READS IS OF BULK AT MOST 1048576: true; the input reads as it did. -/
def constraintListUptoRow : OpenClaim := { program := "ytkfffaoopcnaoaa", sum := "fe30783f2b5e5ee3bd94d0af928a38bb9a9770621cb5b79f3178ec0f7a287854", func := "bookplate/bookplatelaw32.ConstraintList", spec := "constraintList", unfollowed := true, recurses := true, apart := false, narrowed := true }
def ConstraintListUptoSaid : Prop := constraintListUptoRow.holds Try.pinned (OpenSpec.upto constraintListSpec)

/-- 'bookplatelaw32.ConstraintSolved', WHERE WHAT IT READS IS OF BULK AT MOST 1048576: true; the input reads as it did. -/
def constraintSolvedUptoRow : OpenClaim := { program := "ytkfffaoopcnaoaa", sum := "fe30783f2b5e5ee3bd94d0af928a38bb9a9770621cb5b79f3178ec0f7a287854", func := "bookplate/bookplatelaw32.ConstraintSolved", spec := "constraintSolved", unfollowed := true, recurses := true, apart := false, narrowed := true }
def ConstraintSolvedUptoSaid : Prop := constraintSolvedUptoRow.holds Try.pinned (OpenSpec.upto constraintSolvedSpec)

end Rows
end Go.Proofs.Ytkfffaoopcnaoaa
