/-
  No cell of these rows narrows 'for every input' (looked for: loops, veiled, ifaces, maps, wideKeys, modest, calm, conditions, laid).
  DERIVED. THE GIVEN ROWS OF THIS SEAT. 4 by the template 'for every input the law returns true; each argument reads behind the call as it read before'; 0 by the template 'total and deterministic' (their statements: YtgcmhhcopeiomaaTotals.lean).
  GIVEN WITH THE SEED: the statements are not yours to turn. If you find one false, say at which input.
  Laid BY PROGRAM, IN A SANDBOX (cutbox-rows.mjs): the forced cells as the released guide's own fill.sh prints them over the translation 11397a0fc0e07da8… (all of the seat's roots in one cut). By AI agents, Wed Nov 11 2026. No macro, syntax, notation, axiom, sorry.
-/
import Derived.Test.YtgcmhhcopeiomaaChecked
import GoSem.Claim
import GoSem.ClaimJoined
import GoSem.ClaimMapViews
import Derived.JoinedTies
import Derived.KernelRfl
namespace Go.Proofs.Ytgcmhhcopeiomaa
/- THE CELL 'sum', in the pinned program and in every row, IS THE sha256 OF THE DUMP (.gsa) THAT YtgcmhhcopeiomaaProg.lean LOADS. Nothing in Lean hashes anything: it is a label: what it is worth is what the hold of that sum in a sandbox is worth. -/
noncomputable def Try.pinned : Pinned := { name := "ytgcmhhcopeiomaa", sum := "11397a0fc0e07da8796fc5fcc2c4e86dbf77ff04b9db875d4a7070e559259334", checked := Try.checked }
namespace Rows
def none {H : Type} : Left H := { results := [], args := [] }

/-- 'bookplatelaw31.MatchSymmetric': WHATEVER THE INPUT: true; the input reads as it did. -/
def matchSymmetricSpec : ChangeSpec := { name := "matchSymmetric", fn := fun _ => fun
  | [d1, d2, d3] => { results := [.lit (.bool true)], args := [d1, d2, d3] }
  | _ => none }
def matchSymmetricRow : OpenClaim := { program := "ytgcmhhcopeiomaa", sum := "11397a0fc0e07da8796fc5fcc2c4e86dbf77ff04b9db875d4a7070e559259334", func := "bookplate/bookplatelaw31.MatchSymmetric", spec := "matchSymmetric", inPlace := ["internal/abi.NoEscape", "internal/bytealg.MakeNoZero"], unfollowed := true, recurses := true, apart := false }
def MatchSymmetricSaid : Prop := matchSymmetricRow.holds Try.pinned (OpenSpec.ofChange matchSymmetricSpec)

/-- ITS FALSE NEIGHBOUR: 'it returns false'. Refute it at one input. -/
def matchSymmetricWrong : ChangeSpec := { name := "matchSymmetric", fn := fun _ => fun
  | [d1, d2, d3] => { results := [.lit (.bool false)], args := [d1, d2, d3] }
  | _ => none }
def MatchSymmetricWrongFalsely : Prop := matchSymmetricRow.holds Try.pinned (OpenSpec.ofChange matchSymmetricWrong)

/-- 'bookplatelaw31.MatchSums': WHATEVER THE INPUT: true; the input reads as it did. -/
def matchSumsSpec : ChangeSpec := { name := "matchSums", fn := fun _ => fun
  | [d1, d2] => { results := [.lit (.bool true)], args := [d1, d2] }
  | _ => none }
def matchSumsRow : OpenClaim := { program := "ytgcmhhcopeiomaa", sum := "11397a0fc0e07da8796fc5fcc2c4e86dbf77ff04b9db875d4a7070e559259334", func := "bookplate/bookplatelaw31.MatchSums", spec := "matchSums", inPlace := ["internal/abi.NoEscape", "internal/bytealg.MakeNoZero"], unfollowed := true, recurses := true, apart := false }
def MatchSumsSaid : Prop := matchSumsRow.holds Try.pinned (OpenSpec.ofChange matchSumsSpec)

/-- ITS FALSE NEIGHBOUR: 'it returns false'. Refute it at one input. -/
def matchSumsWrong : ChangeSpec := { name := "matchSums", fn := fun _ => fun
  | [d1, d2] => { results := [.lit (.bool false)], args := [d1, d2] }
  | _ => none }
def MatchSumsWrongFalsely : Prop := matchSumsRow.holds Try.pinned (OpenSpec.ofChange matchSumsWrong)

/-- 'bookplatelaw31.MatchModels': WHATEVER THE INPUT: true; the input reads as it did. -/
def matchModelsSpec : ChangeSpec := { name := "matchModels", fn := fun _ => fun
  | [d] => { results := [.lit (.bool true)], args := [d] }
  | _ => none }
def matchModelsRow : OpenClaim := { program := "ytgcmhhcopeiomaa", sum := "11397a0fc0e07da8796fc5fcc2c4e86dbf77ff04b9db875d4a7070e559259334", func := "bookplate/bookplatelaw31.MatchModels", spec := "matchModels", inPlace := ["internal/abi.NoEscape", "internal/bytealg.MakeNoZero"], unfollowed := true, recurses := true, apart := false }
def MatchModelsSaid : Prop := matchModelsRow.holds Try.pinned (OpenSpec.ofChange matchModelsSpec)

/-- ITS FALSE NEIGHBOUR: 'it returns false'. Refute it at one input. -/
def matchModelsWrong : ChangeSpec := { name := "matchModels", fn := fun _ => fun
  | [d] => { results := [.lit (.bool false)], args := [d] }
  | _ => none }
def MatchModelsWrongFalsely : Prop := matchModelsRow.holds Try.pinned (OpenSpec.ofChange matchModelsWrong)

/-- 'bookplatelaw31.MatchMissing': WHATEVER THE INPUT: true; the input reads as it did. -/
def matchMissingSpec : ChangeSpec := { name := "matchMissing", fn := fun _ => fun
  | [d1, d2, d3] => { results := [.lit (.bool true)], args := [d1, d2, d3] }
  | _ => none }
def matchMissingRow : OpenClaim := { program := "ytgcmhhcopeiomaa", sum := "11397a0fc0e07da8796fc5fcc2c4e86dbf77ff04b9db875d4a7070e559259334", func := "bookplate/bookplatelaw31.MatchMissing", spec := "matchMissing", inPlace := ["internal/abi.NoEscape", "internal/bytealg.MakeNoZero"], unfollowed := true, recurses := true, apart := false }
def MatchMissingSaid : Prop := matchMissingRow.holds Try.pinned (OpenSpec.ofChange matchMissingSpec)

/-- ITS FALSE NEIGHBOUR: 'it returns false'. Refute it at one input. -/
def matchMissingWrong : ChangeSpec := { name := "matchMissing", fn := fun _ => fun
  | [d1, d2, d3] => { results := [.lit (.bool false)], args := [d1, d2, d3] }
  | _ => none }
def MatchMissingWrongFalsely : Prop := matchMissingRow.holds Try.pinned (OpenSpec.ofChange matchMissingWrong)

/- THE SECOND FORM. 'bulk': how many values and letters a reading holds, each counted each time it is reached (what is shared counts as often as it is met; a slice's spare places count too). A statement '..UptoSaid' is the law's where the arguments, and the package variables that the reading takes, are together of bulk at most 1048576: NARROWER than '..Said'. Prove '..Said' where nothing that the law and all that it calls make is longer than what came in: it says more and counts as full. Else prove '..UptoSaid'. A law counts once. -/
mutual
def uptoBulk {H : Type} : DataW H → Nat
  | .lit (.string bytes) => bytes.length + 1
  | .lit _ => 1
  | .nil => 1
  | .ptr d => uptoBulk d + 1
  | .slice elems spare => uptoBulkAll elems + uptoBulkAll spare + 1
  | .agg parts => uptoBulkAll parts + 1
  | .iface _ d => uptoBulk d + 1
  | .map entries => uptoBulkEntries entries + 1
  | .held _ => 1
def uptoBulkAll {H : Type} : List (DataW H) → Nat
  | [] => 0
  | d :: r => uptoBulk d + uptoBulkAll r
def uptoBulkEntries {H : Type} : List (Lit × DataW H) → Nat
  | [] => 0
  | x :: r => uptoBulkEntry x + uptoBulkEntries r
def uptoBulkEntry {H : Type} : Lit × DataW H → Nat
  | (.string bytes, d) => bytes.length + uptoBulk d + 1
  | (_, d) => uptoBulk d + 1
 end
def uptoSmall : (H : Type) → List (DataW H) → Bool := fun _ ds => decide (uptoBulkAll ds ≤ 1048576)
def OpenSpec.upto (s : _root_.Go.ChangeSpec) : _root_.Go.OpenSpec := { _root_.Go.OpenSpec.ofChange s with cond := some uptoSmall }

/-- 'bookplatelaw31.MatchSymmetric', WHERE WHAT IT READS IS OF BULK AT MOST 1048576: true; the input reads as it did. -/
def matchSymmetricUptoRow : OpenClaim := { program := "ytgcmhhcopeiomaa", sum := "11397a0fc0e07da8796fc5fcc2c4e86dbf77ff04b9db875d4a7070e559259334", func := "bookplate/bookplatelaw31.MatchSymmetric", spec := "matchSymmetric", inPlace := ["internal/abi.NoEscape", "internal/bytealg.MakeNoZero"], unfollowed := true, recurses := true, apart := false, narrowed := true }
def MatchSymmetricUptoSaid : Prop := matchSymmetricUptoRow.holds Try.pinned (OpenSpec.upto matchSymmetricSpec)

/-- 'bookplatelaw31.MatchSums', WHERE WHAT IT READS IS OF BULK AT MOST 1048576: true; the input reads as it did. -/
def matchSumsUptoRow : OpenClaim := { program := "ytgcmhhcopeiomaa", sum := "11397a0fc0e07da8796fc5fcc2c4e86dbf77ff04b9db875d4a7070e559259334", func := "bookplate/bookplatelaw31.MatchSums", spec := "matchSums", inPlace := ["internal/abi.NoEscape", "internal/bytealg.MakeNoZero"], unfollowed := true, recurses := true, apart := false, narrowed := true }
def MatchSumsUptoSaid : Prop := matchSumsUptoRow.holds Try.pinned (OpenSpec.upto matchSumsSpec)

/-- 'bookplatelaw31.MatchModels', WHERE WHAT IT READS IS OF BULK AT MOST 1048576: true; the input reads as it did. -/
def matchModelsUptoRow : OpenClaim := { program := "ytgcmhhcopeiomaa", sum := "11397a0fc0e07da8796fc5fcc2c4e86dbf77ff04b9db875d4a7070e559259334", func := "bookplate/bookplatelaw31.MatchModels", spec := "matchModels", inPlace := ["internal/abi.NoEscape", "internal/bytealg.MakeNoZero"], unfollowed := true, recurses := true, apart := false, narrowed := true }
def MatchModelsUptoSaid : Prop := matchModelsUptoRow.holds Try.pinned (OpenSpec.upto matchModelsSpec)

/-- 'bookplatelaw31.MatchMissing', WHERE WHAT IT READS IS OF BULK AT MOST 1048576: true; the input reads as it did. -/
def matchMissingUptoRow : OpenClaim := { program := "ytgcmhhcopeiomaa", sum := "11397a0fc0e07da8796fc5fcc2c4e86dbf77ff04b9db875d4a7070e559259334", func := "bookplate/bookplatelaw31.MatchMissing", spec := "matchMissing", inPlace := ["internal/abi.NoEscape", "internal/bytealg.MakeNoZero"], unfollowed := true, recurses := true, apart := false, narrowed := true }
def MatchMissingUptoSaid : Prop := matchMissingUptoRow.holds Try.pinned (OpenSpec.upto matchMissingSpec)

end Rows
end Go.Proofs.Ytgcmhhcopeiomaa
