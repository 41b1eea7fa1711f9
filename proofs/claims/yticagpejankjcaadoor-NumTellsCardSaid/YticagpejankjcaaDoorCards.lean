/-
  DERIVED. GIVEN WITH THE SEED: THE CARDS: each row of YticagpejankjcaaDoorRows.lean that lists a variable, with what it lists TIED to the program's text (the seventh form; the later family's looks); each row that meets fmt, with fmt's text TOLD by the authors' own Lean function (tested against real Go, not proved from fmt's source: count such statements apart). THE CARD IS WHAT COUNTS. Prove the row's statement (the work); the ties are given (YticagpejankjcaaDoorTie.lean); close each card by the builder's one call (the guide's Derived/Test/ToyasCard.lean, 'card_holds'). Laid BY PROGRAM, IN A SANDBOX (cutbox-door.mjs). By AI agents, Wed Nov 11 2026. No macro, syntax, notation, axiom, sorry.
-/
import Derived.Test.YticagpejankjcaaDoorRows
import GoSem.ClaimSeven
namespace Go.Proofs.YticagpejankjcaaDoor
namespace Rows

/-- THE TIED CARD OF 'sacristylaw03.NumTells'. -/
def numTellsCard : Claim7 := { stood := { row := numTellsRow, standIns := [], harness := (true, "97e271b8b26b15b0fccacd12e2a320e92d650c0f0a38d45f8eeb4d4a9ba84beb"), looks := false }, kinds := [], alts := [], laidByText := true, laidKinds := [.data, .data, .data], laidTests := true, laidLooks := .later }
def NumTellsCardSaid : Prop := Claim7.holds Tryd.pinned (.plain (OpenSpec.ofChange numTellsSpec)) numTellsCard

/-- THE TIED CARD OF 'sacristylaw03.NumBack'. -/
def numBackCard : Claim7 := { stood := { row := numBackRow, standIns := [], harness := (true, "97e271b8b26b15b0fccacd12e2a320e92d650c0f0a38d45f8eeb4d4a9ba84beb"), looks := false }, kinds := [], alts := [], laidByText := true, laidKinds := [.data, .data, .data], laidTests := true, laidLooks := .later }
def NumBackCardSaid : Prop := Claim7.holds Tryd.pinned (.plain (OpenSpec.ofChange numBackSpec)) numBackCard

/-- THE TIED CARD OF 'sacristylaw03.NumApart'. -/
def numApartCard : Claim7 := { stood := { row := numApartRow, standIns := [], harness := (true, "97e271b8b26b15b0fccacd12e2a320e92d650c0f0a38d45f8eeb4d4a9ba84beb"), looks := false }, kinds := [], alts := [], laidByText := true, laidKinds := [.data, .data, .data], laidTests := true, laidLooks := .later }
def NumApartCardSaid : Prop := Claim7.holds Tryd.pinned (.plain (OpenSpec.ofChange numApartSpec)) numApartCard

/-- THE TIED CARD OF 'sacristylaw03.NumCut'. -/
def numCutCard : Claim7 := { stood := { row := numCutRow, standIns := [], harness := (true, "97e271b8b26b15b0fccacd12e2a320e92d650c0f0a38d45f8eeb4d4a9ba84beb"), looks := false }, kinds := [], alts := [], laidByText := true, laidKinds := [.data, .data, .data], laidTests := true, laidLooks := .later }
def NumCutCardSaid : Prop := Claim7.holds Tryd.pinned (.plain (OpenSpec.ofChange numCutSpec)) numCutCard

/-- THE TIED CARD OF 'sacristylaw03.NumDecimals'. -/
def numDecimalsCard : Claim7 := { stood := { row := numDecimalsRow, standIns := [], harness := (true, "97e271b8b26b15b0fccacd12e2a320e92d650c0f0a38d45f8eeb4d4a9ba84beb"), looks := false }, kinds := [], alts := [], laidByText := true, laidKinds := [.data, .data, .data], laidTests := true, laidLooks := .later }
def NumDecimalsCardSaid : Prop := Claim7.holds Tryd.pinned (.plain (OpenSpec.ofChange numDecimalsSpec)) numDecimalsCard

/-- THE SECOND FORM's CARD OF 'sacristylaw03.NumTells'. -/
def numTellsUptoCard : Claim7 := { stood := { row := numTellsUptoRow, standIns := [], harness := (true, "97e271b8b26b15b0fccacd12e2a320e92d650c0f0a38d45f8eeb4d4a9ba84beb"), looks := false }, kinds := [], alts := [], laidByText := true, laidKinds := [.data, .data, .data], laidTests := true, laidLooks := .later }
def NumTellsUptoCardSaid : Prop := Claim7.holds Tryd.pinned (.plain (OpenSpec.upto numTellsSpec)) numTellsUptoCard

/-- THE SECOND FORM's CARD OF 'sacristylaw03.NumBack'. -/
def numBackUptoCard : Claim7 := { stood := { row := numBackUptoRow, standIns := [], harness := (true, "97e271b8b26b15b0fccacd12e2a320e92d650c0f0a38d45f8eeb4d4a9ba84beb"), looks := false }, kinds := [], alts := [], laidByText := true, laidKinds := [.data, .data, .data], laidTests := true, laidLooks := .later }
def NumBackUptoCardSaid : Prop := Claim7.holds Tryd.pinned (.plain (OpenSpec.upto numBackSpec)) numBackUptoCard

/-- THE SECOND FORM's CARD OF 'sacristylaw03.NumApart'. -/
def numApartUptoCard : Claim7 := { stood := { row := numApartUptoRow, standIns := [], harness := (true, "97e271b8b26b15b0fccacd12e2a320e92d650c0f0a38d45f8eeb4d4a9ba84beb"), looks := false }, kinds := [], alts := [], laidByText := true, laidKinds := [.data, .data, .data], laidTests := true, laidLooks := .later }
def NumApartUptoCardSaid : Prop := Claim7.holds Tryd.pinned (.plain (OpenSpec.upto numApartSpec)) numApartUptoCard

/-- THE SECOND FORM's CARD OF 'sacristylaw03.NumCut'. -/
def numCutUptoCard : Claim7 := { stood := { row := numCutUptoRow, standIns := [], harness := (true, "97e271b8b26b15b0fccacd12e2a320e92d650c0f0a38d45f8eeb4d4a9ba84beb"), looks := false }, kinds := [], alts := [], laidByText := true, laidKinds := [.data, .data, .data], laidTests := true, laidLooks := .later }
def NumCutUptoCardSaid : Prop := Claim7.holds Tryd.pinned (.plain (OpenSpec.upto numCutSpec)) numCutUptoCard

/-- THE SECOND FORM's CARD OF 'sacristylaw03.NumDecimals'. -/
def numDecimalsUptoCard : Claim7 := { stood := { row := numDecimalsUptoRow, standIns := [], harness := (true, "97e271b8b26b15b0fccacd12e2a320e92d650c0f0a38d45f8eeb4d4a9ba84beb"), looks := false }, kinds := [], alts := [], laidByText := true, laidKinds := [.data, .data, .data], laidTests := true, laidLooks := .later }
def NumDecimalsUptoCardSaid : Prop := Claim7.holds Tryd.pinned (.plain (OpenSpec.upto numDecimalsSpec)) numDecimalsUptoCard
end Rows
end Go.Proofs.YticagpejankjcaaDoor
