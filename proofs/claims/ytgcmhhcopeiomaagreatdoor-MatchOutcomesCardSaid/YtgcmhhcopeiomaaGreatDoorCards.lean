/-
  DERIVED. GIVEN WITH THE SEED: THE CARDS: each row of YtgcmhhcopeiomaaGreatDoorRows.lean that lists a variable, with what it lists TIED to the program's text (the seventh form; the later family's looks); each row that meets fmt, with fmt's text TOLD by the authors' own Lean function (tested against real Go, not proved from fmt's source: count such statements apart). THE CARD IS WHAT COUNTS. Prove the row's statement (the work); the ties are given (YtgcmhhcopeiomaaGreatDoorTie.lean); close each card by the builder's one call (the guide's Derived/Test/ToyasCard.lean, 'card_holds'). Laid BY PROGRAM, IN A SANDBOX (cutbox-door.mjs). By AI agents, Wed Nov 11 2026. No macro, syntax, notation, axiom, sorry.
-/
import Derived.Test.YtgcmhhcopeiomaaGreatDoorRows
import GoSem.ClaimSeven
namespace Go.Proofs.YtgcmhhcopeiomaaGreatDoor
namespace Rows

/-- THE TIED CARD OF 'bookplatelaw31.MatchOutcomes'. -/
def matchOutcomesCard : Claim7 := { stood := { row := matchOutcomesRow, standIns := [], harness := (true, "b905f42bcffe6e13e90321fb8ed1d5678e0e9df440067e01b6ff42148ab7b9bf"), looks := false }, kinds := [], alts := [], laidByText := true, laidKinds := [.data, .data, .data], laidTests := true, laidLooks := .later }
def MatchOutcomesCardSaid : Prop := Claim7.holds Tryz.pinned (.plain (OpenSpec.ofChange matchOutcomesSpec)) matchOutcomesCard

/-- THE SECOND FORM's CARD OF 'bookplatelaw31.MatchOutcomes'. -/
def matchOutcomesUptoCard : Claim7 := { stood := { row := matchOutcomesUptoRow, standIns := [], harness := (true, "b905f42bcffe6e13e90321fb8ed1d5678e0e9df440067e01b6ff42148ab7b9bf"), looks := false }, kinds := [], alts := [], laidByText := true, laidKinds := [.data, .data, .data], laidTests := true, laidLooks := .later }
def MatchOutcomesUptoCardSaid : Prop := Claim7.holds Tryz.pinned (.plain (OpenSpec.upto matchOutcomesSpec)) matchOutcomesUptoCard
end Rows
end Go.Proofs.YtgcmhhcopeiomaaGreatDoor
