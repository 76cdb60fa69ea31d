/-
  DERIVED. GIVEN WITH THE SEED: THE CARDS: each row of YtkdefjliknpliaaGreatDoorRows.lean that lists a variable, with what it lists TIED to the program's text (the seventh form; the later family's looks); each row that meets fmt, with fmt's text TOLD by the authors' own Lean function (tested against real Go, not proved from fmt's source: count such statements apart). THE CARD IS WHAT COUNTS. Prove the row's statement (the work); the ties are given (YtkdefjliknpliaaGreatDoorTie.lean); close each card by the builder's one call (the guide's Derived/Test/ToyasCard.lean, 'card_holds'). Laid BY PROGRAM, IN A SANDBOX (cutbox-door.mjs). By AI agents, Wed Nov 11 2026. No macro, syntax, notation, axiom, sorry.
-/
import Derived.Test.YtkdefjliknpliaaGreatDoorRows
import GoSem.ClaimSeven
namespace Go.Proofs.YtkdefjliknpliaaGreatDoor
namespace Rows

/-- THE TIED CARD OF 'bookplatelaw30.BlockKeys'. -/
def blockKeysCard : Claim7 := { stood := { row := blockKeysRow, standIns := [], harness := (true, "6191aabf65a7c9d8d8db7388160fbdd6f3a1fed50c1a64d26104c3c3b76421ad"), looks := false }, kinds := [], alts := [], laidByText := true, laidKinds := [.data, .data, .data], laidTests := true, laidLooks := .later }
def BlockKeysCardSaid : Prop := Claim7.holds Tryz.pinned (.plain (OpenSpec.ofChange blockKeysSpec)) blockKeysCard

/-- THE TIED CARD OF 'bookplatelaw30.BlockChanges'. -/
def blockChangesCard : Claim7 := { stood := { row := blockChangesRow, standIns := [], harness := (true, "6191aabf65a7c9d8d8db7388160fbdd6f3a1fed50c1a64d26104c3c3b76421ad"), looks := false }, kinds := [], alts := [], laidByText := true, laidKinds := [.data, .data, .data], laidTests := true, laidLooks := .later }
def BlockChangesCardSaid : Prop := Claim7.holds Tryz.pinned (.plain (OpenSpec.ofChange blockChangesSpec)) blockChangesCard

/-- THE TIED CARD OF 'bookplatelaw30.BlockSteps'. -/
def blockStepsCard : Claim7 := { stood := { row := blockStepsRow, standIns := [], harness := (true, "6191aabf65a7c9d8d8db7388160fbdd6f3a1fed50c1a64d26104c3c3b76421ad"), looks := false }, kinds := [], alts := [], laidByText := true, laidKinds := [.data, .data, .data], laidTests := true, laidLooks := .later }
def BlockStepsCardSaid : Prop := Claim7.holds Tryz.pinned (.plain (OpenSpec.ofChange blockStepsSpec)) blockStepsCard

/-- THE TIED CARD OF 'bookplatelaw30.BlockMeaning'. -/
def blockMeaningCard : Claim7 := { stood := { row := blockMeaningRow, standIns := [], harness := (true, "6191aabf65a7c9d8d8db7388160fbdd6f3a1fed50c1a64d26104c3c3b76421ad"), looks := false }, kinds := [], alts := [], laidByText := true, laidKinds := [.data, .data, .data], laidTests := true, laidLooks := .later }
def BlockMeaningCardSaid : Prop := Claim7.holds Tryz.pinned (.plain (OpenSpec.ofChange blockMeaningSpec)) blockMeaningCard

/-- THE TIED CARD OF 'bookplatelaw30.BlockPairs'. -/
def blockPairsCard : Claim7 := { stood := { row := blockPairsRow, standIns := [], harness := (true, "6191aabf65a7c9d8d8db7388160fbdd6f3a1fed50c1a64d26104c3c3b76421ad"), looks := false }, kinds := [], alts := [], laidByText := true, laidKinds := [.data, .data, .data], laidTests := true, laidLooks := .later }
def BlockPairsCardSaid : Prop := Claim7.holds Tryz.pinned (.plain (OpenSpec.ofChange blockPairsSpec)) blockPairsCard

/-- THE TIED CARD OF 'bookplatelaw30.BlockGrows'. -/
def blockGrowsCard : Claim7 := { stood := { row := blockGrowsRow, standIns := [], harness := (true, "6191aabf65a7c9d8d8db7388160fbdd6f3a1fed50c1a64d26104c3c3b76421ad"), looks := false }, kinds := [], alts := [], laidByText := true, laidKinds := [.data, .data, .data], laidTests := true, laidLooks := .later }
def BlockGrowsCardSaid : Prop := Claim7.holds Tryz.pinned (.plain (OpenSpec.ofChange blockGrowsSpec)) blockGrowsCard

/-- THE SECOND FORM's CARD OF 'bookplatelaw30.BlockKeys'. -/
def blockKeysUptoCard : Claim7 := { stood := { row := blockKeysUptoRow, standIns := [], harness := (true, "6191aabf65a7c9d8d8db7388160fbdd6f3a1fed50c1a64d26104c3c3b76421ad"), looks := false }, kinds := [], alts := [], laidByText := true, laidKinds := [.data, .data, .data], laidTests := true, laidLooks := .later }
def BlockKeysUptoCardSaid : Prop := Claim7.holds Tryz.pinned (.plain (OpenSpec.upto blockKeysSpec)) blockKeysUptoCard

/-- THE SECOND FORM's CARD OF 'bookplatelaw30.BlockChanges'. -/
def blockChangesUptoCard : Claim7 := { stood := { row := blockChangesUptoRow, standIns := [], harness := (true, "6191aabf65a7c9d8d8db7388160fbdd6f3a1fed50c1a64d26104c3c3b76421ad"), looks := false }, kinds := [], alts := [], laidByText := true, laidKinds := [.data, .data, .data], laidTests := true, laidLooks := .later }
def BlockChangesUptoCardSaid : Prop := Claim7.holds Tryz.pinned (.plain (OpenSpec.upto blockChangesSpec)) blockChangesUptoCard

/-- THE SECOND FORM's CARD OF 'bookplatelaw30.BlockSteps'. -/
def blockStepsUptoCard : Claim7 := { stood := { row := blockStepsUptoRow, standIns := [], harness := (true, "6191aabf65a7c9d8d8db7388160fbdd6f3a1fed50c1a64d26104c3c3b76421ad"), looks := false }, kinds := [], alts := [], laidByText := true, laidKinds := [.data, .data, .data], laidTests := true, laidLooks := .later }
def BlockStepsUptoCardSaid : Prop := Claim7.holds Tryz.pinned (.plain (OpenSpec.upto blockStepsSpec)) blockStepsUptoCard

/-- THE SECOND FORM's CARD OF 'bookplatelaw30.BlockMeaning'. -/
def blockMeaningUptoCard : Claim7 := { stood := { row := blockMeaningUptoRow, standIns := [], harness := (true, "6191aabf65a7c9d8d8db7388160fbdd6f3a1fed50c1a64d26104c3c3b76421ad"), looks := false }, kinds := [], alts := [], laidByText := true, laidKinds := [.data, .data, .data], laidTests := true, laidLooks := .later }
def BlockMeaningUptoCardSaid : Prop := Claim7.holds Tryz.pinned (.plain (OpenSpec.upto blockMeaningSpec)) blockMeaningUptoCard

/-- THE SECOND FORM's CARD OF 'bookplatelaw30.BlockPairs'. -/
def blockPairsUptoCard : Claim7 := { stood := { row := blockPairsUptoRow, standIns := [], harness := (true, "6191aabf65a7c9d8d8db7388160fbdd6f3a1fed50c1a64d26104c3c3b76421ad"), looks := false }, kinds := [], alts := [], laidByText := true, laidKinds := [.data, .data, .data], laidTests := true, laidLooks := .later }
def BlockPairsUptoCardSaid : Prop := Claim7.holds Tryz.pinned (.plain (OpenSpec.upto blockPairsSpec)) blockPairsUptoCard

/-- THE SECOND FORM's CARD OF 'bookplatelaw30.BlockGrows'. -/
def blockGrowsUptoCard : Claim7 := { stood := { row := blockGrowsUptoRow, standIns := [], harness := (true, "6191aabf65a7c9d8d8db7388160fbdd6f3a1fed50c1a64d26104c3c3b76421ad"), looks := false }, kinds := [], alts := [], laidByText := true, laidKinds := [.data, .data, .data], laidTests := true, laidLooks := .later }
def BlockGrowsUptoCardSaid : Prop := Claim7.holds Tryz.pinned (.plain (OpenSpec.upto blockGrowsSpec)) blockGrowsUptoCard
end Rows
end Go.Proofs.YtkdefjliknpliaaGreatDoor
