/-
  NARROWER THAN 'FOR EVERY INPUT', by the rows' own cells (each row's printed sentence says how): BlockKeys: laid · BlockChanges: laid · BlockSteps: laid · BlockMeaning: laid · BlockPairs: laid · BlockGrows: laid.
  DERIVED. THE GIVEN ROWS OF THIS SEAT. 6 by the template 'for every input the law returns true; each argument reads behind the call as it read before'; 0 by the template 'total and deterministic' (their statements: YtkdefjliknpliaaGreatDoorTotals.lean).
  GIVEN WITH THE SEED: the statements are not yours to turn. If you find one false, say at which input.
  Laid BY PROGRAM, IN A SANDBOX (cutbox-rows.mjs): the forced cells as the released guide's own fill.sh prints them over the translation 45cd1fa67abb852f… (all of the seat's roots in one cut). By AI agents, Wed Nov 11 2026. No macro, syntax, notation, axiom, sorry.
-/
import Derived.Test.YtkdefjliknpliaaGreatDoorChecked
import GoSem.Claim
import GoSem.ClaimJoined
import GoSem.ClaimMapViews
import Derived.JoinedTies
import Derived.KernelRfl
namespace Go.Proofs.YtkdefjliknpliaaGreatDoor
/- THE CELL 'sum', in the pinned program and in every row, IS THE sha256 OF THE DUMP (.gsa) THAT YtkdefjliknpliaaGreatDoorProg.lean LOADS. Nothing in Lean hashes anything: it is a label: what it is worth is what the hold of that sum in a sandbox is worth. -/
noncomputable def Tryz.pinned : Pinned := { name := "ytkdefjliknpliaagreatdoor", sum := "45cd1fa67abb852f27f204829465a47c48f427116dc1f5f2cc69766498bd014f", checked := Tryz.checked }
namespace Rows
def none {H : Type} : Left H := { results := [], args := [] }

/- WHAT THE LISTED PACKAGE-LEVEL VARIABLES READ AS WHEN THE CALL BEGINS. Each datum BY PROGRAM (the guide's laid-datum.mjs) off the statement by which the dump's own 'gosem.cut.vars' lays the variable. In a bare row this is a premise. The card (YtkdefjliknpliaaGreatDoorCards.lean) ties it to the program's text. -/
def laid_math_bits_deBruijn32tab {H : Type} : DataW H := .agg [.lit (.int .u8 0), .lit (.int .u8 1), .lit (.int .u8 28), .lit (.int .u8 2), .lit (.int .u8 29), .lit (.int .u8 14), .lit (.int .u8 24), .lit (.int .u8 3), .lit (.int .u8 30), .lit (.int .u8 22), .lit (.int .u8 20), .lit (.int .u8 15), .lit (.int .u8 25), .lit (.int .u8 17), .lit (.int .u8 4), .lit (.int .u8 8), .lit (.int .u8 31), .lit (.int .u8 27), .lit (.int .u8 13), .lit (.int .u8 23), .lit (.int .u8 21), .lit (.int .u8 19), .lit (.int .u8 16), .lit (.int .u8 7), .lit (.int .u8 26), .lit (.int .u8 12), .lit (.int .u8 18), .lit (.int .u8 6), .lit (.int .u8 11), .lit (.int .u8 5), .lit (.int .u8 10), .lit (.int .u8 9)]
def laid_math_bits_deBruijn64tab {H : Type} : DataW H := .agg [.lit (.int .u8 0), .lit (.int .u8 1), .lit (.int .u8 56), .lit (.int .u8 2), .lit (.int .u8 57), .lit (.int .u8 49), .lit (.int .u8 28), .lit (.int .u8 3), .lit (.int .u8 61), .lit (.int .u8 58), .lit (.int .u8 42), .lit (.int .u8 50), .lit (.int .u8 38), .lit (.int .u8 29), .lit (.int .u8 17), .lit (.int .u8 4), .lit (.int .u8 62), .lit (.int .u8 47), .lit (.int .u8 59), .lit (.int .u8 36), .lit (.int .u8 45), .lit (.int .u8 43), .lit (.int .u8 51), .lit (.int .u8 22), .lit (.int .u8 53), .lit (.int .u8 39), .lit (.int .u8 33), .lit (.int .u8 30), .lit (.int .u8 24), .lit (.int .u8 18), .lit (.int .u8 12), .lit (.int .u8 5), .lit (.int .u8 63), .lit (.int .u8 55), .lit (.int .u8 48), .lit (.int .u8 27), .lit (.int .u8 60), .lit (.int .u8 41), .lit (.int .u8 37), .lit (.int .u8 16), .lit (.int .u8 46), .lit (.int .u8 35), .lit (.int .u8 44), .lit (.int .u8 21), .lit (.int .u8 52), .lit (.int .u8 32), .lit (.int .u8 23), .lit (.int .u8 11), .lit (.int .u8 54), .lit (.int .u8 26), .lit (.int .u8 40), .lit (.int .u8 15), .lit (.int .u8 34), .lit (.int .u8 20), .lit (.int .u8 31), .lit (.int .u8 10), .lit (.int .u8 25), .lit (.int .u8 14), .lit (.int .u8 19), .lit (.int .u8 9), .lit (.int .u8 13), .lit (.int .u8 8), .lit (.int .u8 7), .lit (.int .u8 6)]
def laid_internal_strconv_uint64pow10 {H : Type} : DataW H := .agg [.lit (.int .u64 1), .lit (.int .u64 10), .lit (.int .u64 100), .lit (.int .u64 1000), .lit (.int .u64 10000), .lit (.int .u64 100000), .lit (.int .u64 1000000), .lit (.int .u64 10000000), .lit (.int .u64 100000000), .lit (.int .u64 1000000000), .lit (.int .u64 10000000000), .lit (.int .u64 100000000000), .lit (.int .u64 1000000000000), .lit (.int .u64 10000000000000), .lit (.int .u64 100000000000000), .lit (.int .u64 1000000000000000), .lit (.int .u64 10000000000000000), .lit (.int .u64 100000000000000000), .lit (.int .u64 1000000000000000000), .lit (.int .u64 10000000000000000000)]

/-- 'bookplatelaw30.BlockKeys': WHATEVER THE INPUT: true; the input reads as it did. -/
def blockKeysSpec : ChangeSpec := { name := "blockKeys", fn := fun _ => fun
  | [d] => { results := [.lit (.bool true)], args := [d] }
  | _ => none }
def blockKeysRow : OpenClaim := { program := "ytkdefjliknpliaagreatdoor", sum := "45cd1fa67abb852f27f204829465a47c48f427116dc1f5f2cc69766498bd014f", func := "bookplate/bookplatelaw30.BlockKeys", spec := "blockKeys", inPlace := ["internal/abi.NoEscape", "internal/bytealg.MakeNoZero", "slices.overlaps[bookplate/block.Block]", "slices.overlaps[int]"], unfollowed := true, recurses := true, named := ["internal/strconv.uint64pow10", "math/bits.deBruijn32tab", "math/bits.deBruijn64tab"], apart := false, laid := [("math/bits.deBruijn32tab", laid_math_bits_deBruijn32tab), ("math/bits.deBruijn64tab", laid_math_bits_deBruijn64tab), ("internal/strconv.uint64pow10", laid_internal_strconv_uint64pow10)] }
def BlockKeysSaid : Prop := blockKeysRow.holds Tryz.pinned (OpenSpec.ofChange blockKeysSpec)

/-- ITS FALSE NEIGHBOUR: 'it returns false'. Refute it at one input. -/
def blockKeysWrong : ChangeSpec := { name := "blockKeys", fn := fun _ => fun
  | [d] => { results := [.lit (.bool false)], args := [d] }
  | _ => none }
def BlockKeysWrongFalsely : Prop := blockKeysRow.holds Tryz.pinned (OpenSpec.ofChange blockKeysWrong)

/-- 'bookplatelaw30.BlockChanges': WHATEVER THE INPUT: true; the input reads as it did. -/
def blockChangesSpec : ChangeSpec := { name := "blockChanges", fn := fun _ => fun
  | [d1, d2, d3] => { results := [.lit (.bool true)], args := [d1, d2, d3] }
  | _ => none }
def blockChangesRow : OpenClaim := { program := "ytkdefjliknpliaagreatdoor", sum := "45cd1fa67abb852f27f204829465a47c48f427116dc1f5f2cc69766498bd014f", func := "bookplate/bookplatelaw30.BlockChanges", spec := "blockChanges", inPlace := ["internal/abi.NoEscape", "internal/bytealg.MakeNoZero", "slices.overlaps[bookplate/block.Block]", "slices.overlaps[int]"], unfollowed := true, recurses := true, named := ["internal/strconv.uint64pow10", "math/bits.deBruijn32tab", "math/bits.deBruijn64tab"], apart := false, laid := [("math/bits.deBruijn32tab", laid_math_bits_deBruijn32tab), ("math/bits.deBruijn64tab", laid_math_bits_deBruijn64tab), ("internal/strconv.uint64pow10", laid_internal_strconv_uint64pow10)] }
def BlockChangesSaid : Prop := blockChangesRow.holds Tryz.pinned (OpenSpec.ofChange blockChangesSpec)

/-- ITS FALSE NEIGHBOUR: 'it returns false'. Refute it at one input. -/
def blockChangesWrong : ChangeSpec := { name := "blockChanges", fn := fun _ => fun
  | [d1, d2, d3] => { results := [.lit (.bool false)], args := [d1, d2, d3] }
  | _ => none }
def BlockChangesWrongFalsely : Prop := blockChangesRow.holds Tryz.pinned (OpenSpec.ofChange blockChangesWrong)

/-- 'bookplatelaw30.BlockSteps': WHATEVER THE INPUT: true; the input reads as it did. -/
def blockStepsSpec : ChangeSpec := { name := "blockSteps", fn := fun _ => fun
  | [d1, d2] => { results := [.lit (.bool true)], args := [d1, d2] }
  | _ => none }
def blockStepsRow : OpenClaim := { program := "ytkdefjliknpliaagreatdoor", sum := "45cd1fa67abb852f27f204829465a47c48f427116dc1f5f2cc69766498bd014f", func := "bookplate/bookplatelaw30.BlockSteps", spec := "blockSteps", inPlace := ["internal/abi.NoEscape", "internal/bytealg.MakeNoZero", "slices.overlaps[bookplate/block.Block]", "slices.overlaps[int]"], unfollowed := true, recurses := true, named := ["internal/strconv.uint64pow10", "math/bits.deBruijn32tab", "math/bits.deBruijn64tab"], apart := false, laid := [("math/bits.deBruijn32tab", laid_math_bits_deBruijn32tab), ("math/bits.deBruijn64tab", laid_math_bits_deBruijn64tab), ("internal/strconv.uint64pow10", laid_internal_strconv_uint64pow10)] }
def BlockStepsSaid : Prop := blockStepsRow.holds Tryz.pinned (OpenSpec.ofChange blockStepsSpec)

/-- ITS FALSE NEIGHBOUR: 'it returns false'. Refute it at one input. -/
def blockStepsWrong : ChangeSpec := { name := "blockSteps", fn := fun _ => fun
  | [d1, d2] => { results := [.lit (.bool false)], args := [d1, d2] }
  | _ => none }
def BlockStepsWrongFalsely : Prop := blockStepsRow.holds Tryz.pinned (OpenSpec.ofChange blockStepsWrong)

/-- 'bookplatelaw30.BlockMeaning': WHATEVER THE INPUT: true; the input reads as it did. -/
def blockMeaningSpec : ChangeSpec := { name := "blockMeaning", fn := fun _ => fun
  | [d1, d2] => { results := [.lit (.bool true)], args := [d1, d2] }
  | _ => none }
def blockMeaningRow : OpenClaim := { program := "ytkdefjliknpliaagreatdoor", sum := "45cd1fa67abb852f27f204829465a47c48f427116dc1f5f2cc69766498bd014f", func := "bookplate/bookplatelaw30.BlockMeaning", spec := "blockMeaning", inPlace := ["internal/abi.NoEscape", "internal/bytealg.MakeNoZero", "slices.overlaps[bookplate/block.Block]", "slices.overlaps[int]"], unfollowed := true, recurses := true, named := ["internal/strconv.uint64pow10", "math/bits.deBruijn32tab", "math/bits.deBruijn64tab"], apart := false, laid := [("math/bits.deBruijn32tab", laid_math_bits_deBruijn32tab), ("math/bits.deBruijn64tab", laid_math_bits_deBruijn64tab), ("internal/strconv.uint64pow10", laid_internal_strconv_uint64pow10)] }
def BlockMeaningSaid : Prop := blockMeaningRow.holds Tryz.pinned (OpenSpec.ofChange blockMeaningSpec)

/-- ITS FALSE NEIGHBOUR: 'it returns false'. Refute it at one input. -/
def blockMeaningWrong : ChangeSpec := { name := "blockMeaning", fn := fun _ => fun
  | [d1, d2] => { results := [.lit (.bool false)], args := [d1, d2] }
  | _ => none }
def BlockMeaningWrongFalsely : Prop := blockMeaningRow.holds Tryz.pinned (OpenSpec.ofChange blockMeaningWrong)

/-- 'bookplatelaw30.BlockPairs': WHATEVER THE INPUT: true; the input reads as it did. -/
def blockPairsSpec : ChangeSpec := { name := "blockPairs", fn := fun _ => fun
  | [d1, d2, d3] => { results := [.lit (.bool true)], args := [d1, d2, d3] }
  | _ => none }
def blockPairsRow : OpenClaim := { program := "ytkdefjliknpliaagreatdoor", sum := "45cd1fa67abb852f27f204829465a47c48f427116dc1f5f2cc69766498bd014f", func := "bookplate/bookplatelaw30.BlockPairs", spec := "blockPairs", inPlace := ["internal/abi.NoEscape", "internal/bytealg.MakeNoZero", "slices.overlaps[bookplate/block.Block]", "slices.overlaps[int]"], unfollowed := true, recurses := true, named := ["internal/strconv.uint64pow10", "math/bits.deBruijn32tab", "math/bits.deBruijn64tab"], apart := false, laid := [("math/bits.deBruijn32tab", laid_math_bits_deBruijn32tab), ("math/bits.deBruijn64tab", laid_math_bits_deBruijn64tab), ("internal/strconv.uint64pow10", laid_internal_strconv_uint64pow10)] }
def BlockPairsSaid : Prop := blockPairsRow.holds Tryz.pinned (OpenSpec.ofChange blockPairsSpec)

/-- ITS FALSE NEIGHBOUR: 'it returns false'. Refute it at one input. -/
def blockPairsWrong : ChangeSpec := { name := "blockPairs", fn := fun _ => fun
  | [d1, d2, d3] => { results := [.lit (.bool false)], args := [d1, d2, d3] }
  | _ => none }
def BlockPairsWrongFalsely : Prop := blockPairsRow.holds Tryz.pinned (OpenSpec.ofChange blockPairsWrong)

/-- 'bookplatelaw30.BlockGrows': WHATEVER THE INPUT: true; the input reads as it did. -/
def blockGrowsSpec : ChangeSpec := { name := "blockGrows", fn := fun _ => fun
  | [d1, d2] => { results := [.lit (.bool true)], args := [d1, d2] }
  | _ => none }
def blockGrowsRow : OpenClaim := { program := "ytkdefjliknpliaagreatdoor", sum := "45cd1fa67abb852f27f204829465a47c48f427116dc1f5f2cc69766498bd014f", func := "bookplate/bookplatelaw30.BlockGrows", spec := "blockGrows", inPlace := ["internal/abi.NoEscape", "internal/bytealg.MakeNoZero", "slices.overlaps[bookplate/block.Block]", "slices.overlaps[int]"], unfollowed := true, recurses := true, named := ["internal/strconv.uint64pow10", "math/bits.deBruijn32tab", "math/bits.deBruijn64tab"], apart := false, laid := [("math/bits.deBruijn32tab", laid_math_bits_deBruijn32tab), ("math/bits.deBruijn64tab", laid_math_bits_deBruijn64tab), ("internal/strconv.uint64pow10", laid_internal_strconv_uint64pow10)] }
def BlockGrowsSaid : Prop := blockGrowsRow.holds Tryz.pinned (OpenSpec.ofChange blockGrowsSpec)

/-- ITS FALSE NEIGHBOUR: 'it returns false'. Refute it at one input. -/
def blockGrowsWrong : ChangeSpec := { name := "blockGrows", fn := fun _ => fun
  | [d1, d2] => { results := [.lit (.bool false)], args := [d1, d2] }
  | _ => none }
def BlockGrowsWrongFalsely : Prop := blockGrowsRow.holds Tryz.pinned (OpenSpec.ofChange blockGrowsWrong)

/- THE SECOND FORM. 'bulk': how many values and letters a reading holds, each counted each time it is reached (what is shared counts as often as it is met; a slice's spare places count too). A statement '..UptoSaid' is the law's where the arguments, and the package variables that the reading takes, are together of bulk at most 1048576: NARROWER than '..Said'. Prove '..Said' where nothing that the law and all that it calls make is longer than what came in: it says more and counts as full. Else prove '..UptoSaid'. A law counts once. -/
mutual
def uptoBulk {H : Type} : DataW H → Nat
  | .lit (.string bytes) => bytes.length + 1
  | .lit _ => 1
  | .nil => 1
  | .ptr d => uptoBulk d + 1
  | .slice elems spare => uptoBulkAll elems + uptoBulkAll spare + 1
  | .agg parts => uptoBulkAll parts + 1
  | .iface _ d => uptoBulk d + 1
  | .map entries => uptoBulkEntries entries + 1
  | .held _ => 1
def uptoBulkAll {H : Type} : List (DataW H) → Nat
  | [] => 0
  | d :: r => uptoBulk d + uptoBulkAll r
def uptoBulkEntries {H : Type} : List (Lit × DataW H) → Nat
  | [] => 0
  | x :: r => uptoBulkEntry x + uptoBulkEntries r
def uptoBulkEntry {H : Type} : Lit × DataW H → Nat
  | (.string bytes, d) => bytes.length + uptoBulk d + 1
  | (_, d) => uptoBulk d + 1
 end
def uptoSmall : (H : Type) → List (DataW H) → Bool := fun _ ds => decide (uptoBulkAll ds ≤ 1048576)
def OpenSpec.upto (s : _root_.Go.ChangeSpec) : _root_.Go.OpenSpec := { _root_.Go.OpenSpec.ofChange s with cond := some uptoSmall }

/-- 'bookplatelaw30.BlockKeys', WHERE WHAT IT READS IS OF BULK AT MOST 1048576: true; the input reads as it did. -/
def blockKeysUptoRow : OpenClaim := { program := "ytkdefjliknpliaagreatdoor", sum := "45cd1fa67abb852f27f204829465a47c48f427116dc1f5f2cc69766498bd014f", func := "bookplate/bookplatelaw30.BlockKeys", spec := "blockKeys", inPlace := ["internal/abi.NoEscape", "internal/bytealg.MakeNoZero", "slices.overlaps[bookplate/block.Block]", "slices.overlaps[int]"], unfollowed := true, recurses := true, named := ["internal/strconv.uint64pow10", "math/bits.deBruijn32tab", "math/bits.deBruijn64tab"], apart := false, laid := [("math/bits.deBruijn32tab", laid_math_bits_deBruijn32tab), ("math/bits.deBruijn64tab", laid_math_bits_deBruijn64tab), ("internal/strconv.uint64pow10", laid_internal_strconv_uint64pow10)], narrowed := true }
def BlockKeysUptoSaid : Prop := blockKeysUptoRow.holds Tryz.pinned (OpenSpec.upto blockKeysSpec)

/-- 'bookplatelaw30.BlockChanges', WHERE WHAT IT READS IS OF BULK AT MOST 1048576: true; the input reads as it did. -/
def blockChangesUptoRow : OpenClaim := { program := "ytkdefjliknpliaagreatdoor", sum := "45cd1fa67abb852f27f204829465a47c48f427116dc1f5f2cc69766498bd014f", func := "bookplate/bookplatelaw30.BlockChanges", spec := "blockChanges", inPlace := ["internal/abi.NoEscape", "internal/bytealg.MakeNoZero", "slices.overlaps[bookplate/block.Block]", "slices.overlaps[int]"], unfollowed := true, recurses := true, named := ["internal/strconv.uint64pow10", "math/bits.deBruijn32tab", "math/bits.deBruijn64tab"], apart := false, laid := [("math/bits.deBruijn32tab", laid_math_bits_deBruijn32tab), ("math/bits.deBruijn64tab", laid_math_bits_deBruijn64tab), ("internal/strconv.uint64pow10", laid_internal_strconv_uint64pow10)], narrowed := true }
def BlockChangesUptoSaid : Prop := blockChangesUptoRow.holds Tryz.pinned (OpenSpec.upto blockChangesSpec)

/-- 'bookplatelaw30.BlockSteps', WHERE WHAT IT READS IS OF BULK AT MOST 1048576: true; the input reads as it did. -/
def blockStepsUptoRow : OpenClaim := { program := "ytkdefjliknpliaagreatdoor", sum := "45cd1fa67abb852f27f204829465a47c48f427116dc1f5f2cc69766498bd014f", func := "bookplate/bookplatelaw30.BlockSteps", spec := "blockSteps", inPlace := ["internal/abi.NoEscape", "internal/bytealg.MakeNoZero", "slices.overlaps[bookplate/block.Block]", "slices.overlaps[int]"], unfollowed := true, recurses := true, named := ["internal/strconv.uint64pow10", "math/bits.deBruijn32tab", "math/bits.deBruijn64tab"], apart := false, laid := [("math/bits.deBruijn32tab", laid_math_bits_deBruijn32tab), ("math/bits.deBruijn64tab", laid_math_bits_deBruijn64tab), ("internal/strconv.uint64pow10", laid_internal_strconv_uint64pow10)], narrowed := true }
def BlockStepsUptoSaid : Prop := blockStepsUptoRow.holds Tryz.pinned (OpenSpec.upto blockStepsSpec)

/-- 'bookplatelaw30.BlockMeaning', WHERE WHAT IT READS IS OF BULK AT MOST 1048576: true; the input reads as it did. -/
def blockMeaningUptoRow : OpenClaim := { program := "ytkdefjliknpliaagreatdoor", sum := "45cd1fa67abb852f27f204829465a47c48f427116dc1f5f2cc69766498bd014f", func := "bookplate/bookplatelaw30.BlockMeaning", spec := "blockMeaning", inPlace := ["internal/abi.NoEscape", "internal/bytealg.MakeNoZero", "slices.overlaps[bookplate/block.Block]", "slices.overlaps[int]"], unfollowed := true, recurses := true, named := ["internal/strconv.uint64pow10", "math/bits.deBruijn32tab", "math/bits.deBruijn64tab"], apart := false, laid := [("math/bits.deBruijn32tab", laid_math_bits_deBruijn32tab), ("math/bits.deBruijn64tab", laid_math_bits_deBruijn64tab), ("internal/strconv.uint64pow10", laid_internal_strconv_uint64pow10)], narrowed := true }
def BlockMeaningUptoSaid : Prop := blockMeaningUptoRow.holds Tryz.pinned (OpenSpec.upto blockMeaningSpec)

/-- 'bookplatelaw30.BlockPairs', WHERE WHAT IT READS IS OF BULK AT MOST 1048576: true; the input reads as it did. -/
def blockPairsUptoRow : OpenClaim := { program := "ytkdefjliknpliaagreatdoor", sum := "45cd1fa67abb852f27f204829465a47c48f427116dc1f5f2cc69766498bd014f", func := "bookplate/bookplatelaw30.BlockPairs", spec := "blockPairs", inPlace := ["internal/abi.NoEscape", "internal/bytealg.MakeNoZero", "slices.overlaps[bookplate/block.Block]", "slices.overlaps[int]"], unfollowed := true, recurses := true, named := ["internal/strconv.uint64pow10", "math/bits.deBruijn32tab", "math/bits.deBruijn64tab"], apart := false, laid := [("math/bits.deBruijn32tab", laid_math_bits_deBruijn32tab), ("math/bits.deBruijn64tab", laid_math_bits_deBruijn64tab), ("internal/strconv.uint64pow10", laid_internal_strconv_uint64pow10)], narrowed := true }
def BlockPairsUptoSaid : Prop := blockPairsUptoRow.holds Tryz.pinned (OpenSpec.upto blockPairsSpec)

/-- 'bookplatelaw30.BlockGrows', WHERE WHAT IT READS IS OF BULK AT MOST 1048576: true; the input reads as it did. -/
def blockGrowsUptoRow : OpenClaim := { program := "ytkdefjliknpliaagreatdoor", sum := "45cd1fa67abb852f27f204829465a47c48f427116dc1f5f2cc69766498bd014f", func := "bookplate/bookplatelaw30.BlockGrows", spec := "blockGrows", inPlace := ["internal/abi.NoEscape", "internal/bytealg.MakeNoZero", "slices.overlaps[bookplate/block.Block]", "slices.overlaps[int]"], unfollowed := true, recurses := true, named := ["internal/strconv.uint64pow10", "math/bits.deBruijn32tab", "math/bits.deBruijn64tab"], apart := false, laid := [("math/bits.deBruijn32tab", laid_math_bits_deBruijn32tab), ("math/bits.deBruijn64tab", laid_math_bits_deBruijn64tab), ("internal/strconv.uint64pow10", laid_internal_strconv_uint64pow10)], narrowed := true }
def BlockGrowsUptoSaid : Prop := blockGrowsUptoRow.holds Tryz.pinned (OpenSpec.upto blockGrowsSpec)

end Rows
end Go.Proofs.YtkdefjliknpliaaGreatDoor
