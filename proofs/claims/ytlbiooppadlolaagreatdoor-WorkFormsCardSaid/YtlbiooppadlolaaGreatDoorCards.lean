/-
  DERIVED. GIVEN WITH THE SEED: THE CARDS: each row of YtlbiooppadlolaaGreatDoorRows.lean that lists a variable, with what it lists TIED to the program's text (the seventh form; the later family's looks); each row that meets fmt, with fmt's text TOLD by the authors' own Lean function (tested against real Go, not proved from fmt's source: count such statements apart). THE CARD IS WHAT COUNTS. Prove the row's statement (the work); the ties are given (YtlbiooppadlolaaGreatDoorTie.lean); close each card by the builder's one call (the guide's Derived/Test/ToyasCard.lean, 'card_holds'). Laid BY PROGRAM, IN A SANDBOX (cutbox-door.mjs). By AI agents, Wed Nov 11 2026. No macro, syntax, notation, axiom, sorry.
-/
import Derived.Test.YtlbiooppadlolaaGreatDoorRows
import GoSem.ClaimSeven
namespace Go.Proofs.YtlbiooppadlolaaGreatDoor
namespace Rows

/-- THE TIED CARD OF 'bookplatelaw35.WorkForms'. -/
def workFormsCard : Claim7 := { stood := { row := workFormsRow, standIns := [], harness := (true, "d8831e78f9ba4d42162b6aecd99113c42f9e606e45528711190cb37842bc7f4f"), looks := false }, kinds := [], alts := [], laidByText := true, laidKinds := [.data, .data, .data], laidTests := true, laidLooks := .later }
def WorkFormsCardSaid : Prop := Claim7.holds Tryz.pinned (.plain (OpenSpec.ofChange workFormsSpec)) workFormsCard

/-- THE SECOND FORM's CARD OF 'bookplatelaw35.WorkForms'. -/
def workFormsUptoCard : Claim7 := { stood := { row := workFormsUptoRow, standIns := [], harness := (true, "d8831e78f9ba4d42162b6aecd99113c42f9e606e45528711190cb37842bc7f4f"), looks := false }, kinds := [], alts := [], laidByText := true, laidKinds := [.data, .data, .data], laidTests := true, laidLooks := .later }
def WorkFormsUptoCardSaid : Prop := Claim7.holds Tryz.pinned (.plain (OpenSpec.upto workFormsSpec)) workFormsUptoCard
end Rows
end Go.Proofs.YtlbiooppadlolaaGreatDoor
