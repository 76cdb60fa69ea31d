/-
  DERIVED. GIVEN WITH THE SEED: THE CARDS: each row of YtjdnbobilgamdaaGreatDoorRows.lean that lists a variable, with what it lists TIED to the program's text (the seventh form; the later family's looks); each row that meets fmt, with fmt's text TOLD by the authors' own Lean function (tested against real Go, not proved from fmt's source: count such statements apart). THE CARD IS WHAT COUNTS. Prove the row's statement (the work); the ties are given (YtjdnbobilgamdaaGreatDoorTie.lean); close each card by the builder's one call (the guide's Derived/Test/ToyasCard.lean, 'card_holds'). Laid BY PROGRAM, IN A SANDBOX (cutbox-door.mjs). By AI agents, Wed Nov 11 2026. No macro, syntax, notation, axiom, sorry.
-/
import Derived.Test.YtjdnbobilgamdaaGreatDoorRows
import GoSem.ClaimSeven
namespace Go.Proofs.YtjdnbobilgamdaaGreatDoor
namespace Rows

/-- THE TIED CARD OF 'bookplatelaw36.EvidenceCheck'. -/
def evidenceCheckCard : Claim7 := { stood := { row := evidenceCheckRow, standIns := [], harness := (true, "eee1e4c955278f8b484be8378f7e2f56359c95c4b21c41efd89958a1a9fec1c2"), looks := false }, kinds := [], alts := [], laidByText := true, laidKinds := [.data, .data, .data], laidTests := true, laidLooks := .later }
def EvidenceCheckCardSaid : Prop := Claim7.holds Tryz.pinned (.plain (OpenSpec.ofChange evidenceCheckSpec)) evidenceCheckCard

/-- THE SECOND FORM's CARD OF 'bookplatelaw36.EvidenceCheck'. -/
def evidenceCheckUptoCard : Claim7 := { stood := { row := evidenceCheckUptoRow, standIns := [], harness := (true, "eee1e4c955278f8b484be8378f7e2f56359c95c4b21c41efd89958a1a9fec1c2"), looks := false }, kinds := [], alts := [], laidByText := true, laidKinds := [.data, .data, .data], laidTests := true, laidLooks := .later }
def EvidenceCheckUptoCardSaid : Prop := Claim7.holds Tryz.pinned (.plain (OpenSpec.upto evidenceCheckSpec)) evidenceCheckUptoCard
end Rows
end Go.Proofs.YtjdnbobilgamdaaGreatDoor
