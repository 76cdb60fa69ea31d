/-
  DERIVED. GIVEN WITH THE SEED: THE CARDS: each row of YtindppnanjcoaaaGreatDoorRows.lean that lists a variable, with what it lists TIED to the program's text (the seventh form; the later family's looks); each row that meets fmt, with fmt's text TOLD by the authors' own Lean function (tested against real Go, not proved from fmt's source: count such statements apart). THE CARD IS WHAT COUNTS. Prove the row's statement (the work); the ties are given (YtindppnanjcoaaaGreatDoorTie.lean); close each card by the builder's one call (the guide's Derived/Test/ToyasCard.lean, 'card_holds'). Laid BY PROGRAM, IN A SANDBOX (cutbox-door.mjs). By AI agents, Wed Nov 11 2026. No macro, syntax, notation, axiom, sorry.
-/
import Derived.Test.YtindppnanjcoaaaGreatDoorRows
import GoSem.ClaimSeven
namespace Go.Proofs.YtindppnanjcoaaaGreatDoor
namespace Rows

/-- THE TIED CARD OF 'bookplatelaw36.EvidencePrint'. -/
def evidencePrintCard : Claim7 := { stood := { row := evidencePrintRow, standIns := [], harness := (true, "9ac89b800f03609b09edc16146578038b10d79dd536355cb06a041e3e9a1e31c"), looks := false }, kinds := [], alts := [], laidByText := true, laidKinds := [.data, .data, .data], laidTests := true, laidLooks := .later }
def EvidencePrintCardSaid : Prop := Claim7.holds Tryz.pinned (.plain (OpenSpec.ofChange evidencePrintSpec)) evidencePrintCard

/-- THE SECOND FORM's CARD OF 'bookplatelaw36.EvidencePrint'. -/
def evidencePrintUptoCard : Claim7 := { stood := { row := evidencePrintUptoRow, standIns := [], harness := (true, "9ac89b800f03609b09edc16146578038b10d79dd536355cb06a041e3e9a1e31c"), looks := false }, kinds := [], alts := [], laidByText := true, laidKinds := [.data, .data, .data], laidTests := true, laidLooks := .later }
def EvidencePrintUptoCardSaid : Prop := Claim7.holds Tryz.pinned (.plain (OpenSpec.upto evidencePrintSpec)) evidencePrintUptoCard
end Rows
end Go.Proofs.YtindppnanjcoaaaGreatDoor
