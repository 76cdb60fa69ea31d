/-
  DERIVED. GIVEN WITH THE SEED: THE CARDS: each row of YtagdgndoabomiaaDoorRows.lean that lists a variable, with what it lists TIED to the program's text (the seventh form; the later family's looks); each row that meets fmt, with fmt's text TOLD by the authors' own Lean function (tested against real Go, not proved from fmt's source: count such statements apart). THE CARD IS WHAT COUNTS. Prove the row's statement (the work); the ties are given (YtagdgndoabomiaaDoorTie.lean); close each card by the builder's one call (the guide's Derived/Test/ToyasCard.lean, 'card_holds'). Laid BY PROGRAM, IN A SANDBOX (cutbox-door.mjs). By AI agents, Wed Nov 11 2026. No macro, syntax, notation, axiom, sorry.
-/
import Derived.Test.YtagdgndoabomiaaDoorRows
import GoSem.ClaimSeven
namespace Go.Proofs.YtagdgndoabomiaaDoor
namespace Rows

/-- THE TIED CARD OF 'bookplatelaw03.NatTexts'. -/
def natTextsCard : Claim7 := { stood := { row := natTextsRow, standIns := [], harness := (true, "d59154a42fcf35eb51aa72a54e9a4a495c475a0730d779a9a3cbd773ea84e010"), looks := false }, kinds := [], alts := [], laidByText := true, laidKinds := [.data, .data, .data], laidTests := true, laidLooks := .later }
def NatTextsCardSaid : Prop := Claim7.holds Tryd.pinned (.plain (OpenSpec.ofChange natTextsSpec)) natTextsCard

/-- THE TIED CARD OF 'bookplatelaw03.NatPowers'. -/
def natPowersCard : Claim7 := { stood := { row := natPowersRow, standIns := [], harness := (true, "d59154a42fcf35eb51aa72a54e9a4a495c475a0730d779a9a3cbd773ea84e010"), looks := false }, kinds := [], alts := [], laidByText := true, laidKinds := [.data, .data, .data], laidTests := true, laidLooks := .later }
def NatPowersCardSaid : Prop := Claim7.holds Tryd.pinned (.plain (OpenSpec.ofChange natPowersSpec)) natPowersCard

/-- THE TIED CARD OF 'bookplatelaw03.NatOrder'. -/
def natOrderCard : Claim7 := { stood := { row := natOrderRow, standIns := [], harness := (true, "d59154a42fcf35eb51aa72a54e9a4a495c475a0730d779a9a3cbd773ea84e010"), looks := false }, kinds := [], alts := [], laidByText := true, laidKinds := [.data, .data, .data], laidTests := true, laidLooks := .later }
def NatOrderCardSaid : Prop := Claim7.holds Tryd.pinned (.plain (OpenSpec.ofChange natOrderSpec)) natOrderCard

/-- THE TIED CARD OF 'bookplatelaw03.NatOps'. -/
def natOpsCard : Claim7 := { stood := { row := natOpsRow, standIns := [], harness := (true, "d59154a42fcf35eb51aa72a54e9a4a495c475a0730d779a9a3cbd773ea84e010"), looks := false }, kinds := [], alts := [], laidByText := true, laidKinds := [.data, .data, .data], laidTests := true, laidLooks := .later }
def NatOpsCardSaid : Prop := Claim7.holds Tryd.pinned (.plain (OpenSpec.ofChange natOpsSpec)) natOpsCard

/-- THE TIED CARD OF 'bookplatelaw03.NatRing'. -/
def natRingCard : Claim7 := { stood := { row := natRingRow, standIns := [], harness := (true, "d59154a42fcf35eb51aa72a54e9a4a495c475a0730d779a9a3cbd773ea84e010"), looks := false }, kinds := [], alts := [], laidByText := true, laidKinds := [.data, .data, .data], laidTests := true, laidLooks := .later }
def NatRingCardSaid : Prop := Claim7.holds Tryd.pinned (.plain (OpenSpec.ofChange natRingSpec)) natRingCard

/-- THE TIED CARD OF 'bookplatelaw03.NatLimits'. -/
def natLimitsCard : Claim7 := { stood := { row := natLimitsRow, standIns := [], harness := (true, "d59154a42fcf35eb51aa72a54e9a4a495c475a0730d779a9a3cbd773ea84e010"), looks := false }, kinds := [], alts := [], laidByText := true, laidKinds := [.data, .data, .data], laidTests := true, laidLooks := .later }
def NatLimitsCardSaid : Prop := Claim7.holds Tryd.pinned (.plain (OpenSpec.ofChange natLimitsSpec)) natLimitsCard

/-- THE TIED CARD OF 'bookplatelaw03.NatDivides'. -/
def natDividesCard : Claim7 := { stood := { row := natDividesRow, standIns := [], harness := (true, "d59154a42fcf35eb51aa72a54e9a4a495c475a0730d779a9a3cbd773ea84e010"), looks := false }, kinds := [], alts := [], laidByText := true, laidKinds := [.data, .data, .data], laidTests := true, laidLooks := .later }
def NatDividesCardSaid : Prop := Claim7.holds Tryd.pinned (.plain (OpenSpec.ofChange natDividesSpec)) natDividesCard

/-- THE TIED CARD OF 'bookplatelaw03.NatExponents'. -/
def natExponentsCard : Claim7 := { stood := { row := natExponentsRow, standIns := [], harness := (true, "d59154a42fcf35eb51aa72a54e9a4a495c475a0730d779a9a3cbd773ea84e010"), looks := false }, kinds := [], alts := [], laidByText := true, laidKinds := [.data, .data, .data], laidTests := true, laidLooks := .later }
def NatExponentsCardSaid : Prop := Claim7.holds Tryd.pinned (.plain (OpenSpec.ofChange natExponentsSpec)) natExponentsCard

/-- THE TIED CARD OF 'bookplatelaw03.NatForms'. -/
def natFormsCard : Claim7 := { stood := { row := natFormsRow, standIns := [], harness := (true, "d59154a42fcf35eb51aa72a54e9a4a495c475a0730d779a9a3cbd773ea84e010"), looks := false }, kinds := [], alts := [], laidByText := true, laidKinds := [.data, .data, .data], laidTests := true, laidLooks := .later }
def NatFormsCardSaid : Prop := Claim7.holds Tryd.pinned (.plain (OpenSpec.ofChange natFormsSpec)) natFormsCard

/-- THE SECOND FORM's CARD OF 'bookplatelaw03.NatTexts'. -/
def natTextsUptoCard : Claim7 := { stood := { row := natTextsUptoRow, standIns := [], harness := (true, "d59154a42fcf35eb51aa72a54e9a4a495c475a0730d779a9a3cbd773ea84e010"), looks := false }, kinds := [], alts := [], laidByText := true, laidKinds := [.data, .data, .data], laidTests := true, laidLooks := .later }
def NatTextsUptoCardSaid : Prop := Claim7.holds Tryd.pinned (.plain (OpenSpec.upto natTextsSpec)) natTextsUptoCard

/-- THE SECOND FORM's CARD OF 'bookplatelaw03.NatPowers'. -/
def natPowersUptoCard : Claim7 := { stood := { row := natPowersUptoRow, standIns := [], harness := (true, "d59154a42fcf35eb51aa72a54e9a4a495c475a0730d779a9a3cbd773ea84e010"), looks := false }, kinds := [], alts := [], laidByText := true, laidKinds := [.data, .data, .data], laidTests := true, laidLooks := .later }
def NatPowersUptoCardSaid : Prop := Claim7.holds Tryd.pinned (.plain (OpenSpec.upto natPowersSpec)) natPowersUptoCard

/-- THE SECOND FORM's CARD OF 'bookplatelaw03.NatOrder'. -/
def natOrderUptoCard : Claim7 := { stood := { row := natOrderUptoRow, standIns := [], harness := (true, "d59154a42fcf35eb51aa72a54e9a4a495c475a0730d779a9a3cbd773ea84e010"), looks := false }, kinds := [], alts := [], laidByText := true, laidKinds := [.data, .data, .data], laidTests := true, laidLooks := .later }
def NatOrderUptoCardSaid : Prop := Claim7.holds Tryd.pinned (.plain (OpenSpec.upto natOrderSpec)) natOrderUptoCard

/-- THE SECOND FORM's CARD OF 'bookplatelaw03.NatOps'. -/
def natOpsUptoCard : Claim7 := { stood := { row := natOpsUptoRow, standIns := [], harness := (true, "d59154a42fcf35eb51aa72a54e9a4a495c475a0730d779a9a3cbd773ea84e010"), looks := false }, kinds := [], alts := [], laidByText := true, laidKinds := [.data, .data, .data], laidTests := true, laidLooks := .later }
def NatOpsUptoCardSaid : Prop := Claim7.holds Tryd.pinned (.plain (OpenSpec.upto natOpsSpec)) natOpsUptoCard

/-- THE SECOND FORM's CARD OF 'bookplatelaw03.NatRing'. -/
def natRingUptoCard : Claim7 := { stood := { row := natRingUptoRow, standIns := [], harness := (true, "d59154a42fcf35eb51aa72a54e9a4a495c475a0730d779a9a3cbd773ea84e010"), looks := false }, kinds := [], alts := [], laidByText := true, laidKinds := [.data, .data, .data], laidTests := true, laidLooks := .later }
def NatRingUptoCardSaid : Prop := Claim7.holds Tryd.pinned (.plain (OpenSpec.upto natRingSpec)) natRingUptoCard

/-- THE SECOND FORM's CARD OF 'bookplatelaw03.NatLimits'. -/
def natLimitsUptoCard : Claim7 := { stood := { row := natLimitsUptoRow, standIns := [], harness := (true, "d59154a42fcf35eb51aa72a54e9a4a495c475a0730d779a9a3cbd773ea84e010"), looks := false }, kinds := [], alts := [], laidByText := true, laidKinds := [.data, .data, .data], laidTests := true, laidLooks := .later }
def NatLimitsUptoCardSaid : Prop := Claim7.holds Tryd.pinned (.plain (OpenSpec.upto natLimitsSpec)) natLimitsUptoCard

/-- THE SECOND FORM's CARD OF 'bookplatelaw03.NatDivides'. -/
def natDividesUptoCard : Claim7 := { stood := { row := natDividesUptoRow, standIns := [], harness := (true, "d59154a42fcf35eb51aa72a54e9a4a495c475a0730d779a9a3cbd773ea84e010"), looks := false }, kinds := [], alts := [], laidByText := true, laidKinds := [.data, .data, .data], laidTests := true, laidLooks := .later }
def NatDividesUptoCardSaid : Prop := Claim7.holds Tryd.pinned (.plain (OpenSpec.upto natDividesSpec)) natDividesUptoCard

/-- THE SECOND FORM's CARD OF 'bookplatelaw03.NatExponents'. -/
def natExponentsUptoCard : Claim7 := { stood := { row := natExponentsUptoRow, standIns := [], harness := (true, "d59154a42fcf35eb51aa72a54e9a4a495c475a0730d779a9a3cbd773ea84e010"), looks := false }, kinds := [], alts := [], laidByText := true, laidKinds := [.data, .data, .data], laidTests := true, laidLooks := .later }
def NatExponentsUptoCardSaid : Prop := Claim7.holds Tryd.pinned (.plain (OpenSpec.upto natExponentsSpec)) natExponentsUptoCard

/-- THE SECOND FORM's CARD OF 'bookplatelaw03.NatForms'. -/
def natFormsUptoCard : Claim7 := { stood := { row := natFormsUptoRow, standIns := [], harness := (true, "d59154a42fcf35eb51aa72a54e9a4a495c475a0730d779a9a3cbd773ea84e010"), looks := false }, kinds := [], alts := [], laidByText := true, laidKinds := [.data, .data, .data], laidTests := true, laidLooks := .later }
def NatFormsUptoCardSaid : Prop := Claim7.holds Tryd.pinned (.plain (OpenSpec.upto natFormsSpec)) natFormsUptoCard
end Rows
end Go.Proofs.YtagdgndoabomiaaDoor
