/-
  DERIVED. GIVEN WITH THE SEED: THE CARDS: each row of YtehmhfbfgniekaaGreatDoorRows.lean that lists a variable, with what it lists TIED to the program's text (the seventh form; the later family's looks); each row that meets fmt, with fmt's text TOLD by the authors' own Lean function (tested against real Go, not proved from fmt's source: count such statements apart). THE CARD IS WHAT COUNTS. Prove the row's statement (the work); the ties are given (YtehmhfbfgniekaaGreatDoorTie.lean); close each card by the builder's one call (the guide's Derived/Test/ToyasCard.lean, 'card_holds'). Laid BY PROGRAM, IN A SANDBOX (cutbox-door.mjs). By AI agents, Wed Nov 11 2026. No macro, syntax, notation, axiom, sorry.
-/
import Derived.Test.YtehmhfbfgniekaaGreatDoorRows
import GoSem.ClaimSeven
namespace Go.Proofs.YtehmhfbfgniekaaGreatDoor
namespace Rows

/-- THE TIED CARD OF 'sacristylaw05.WalkTells'. -/
def walkTellsCard : Claim7 := { stood := { row := walkTellsRow, standIns := [], harness := (true, "ed57ba3b70a9f1e20cae05dd9ad047259617c99e634dcebcc3620122bfe4bbe6"), looks := true }, kinds := [], alts := [], laidByText := true, laidKinds := [.data, .data, .data, .handle], laidTests := true, laidLooks := .later }
def WalkTellsCardSaid : Prop := Claim7.holds Tryz.pinned (.plain (OpenSpec.ofChange walkTellsSpec)) walkTellsCard

/-- THE TIED CARD OF 'sacristylaw05.WalkClosed'. -/
def walkClosedCard : Claim7 := { stood := { row := walkClosedRow, standIns := [], harness := (true, "ed57ba3b70a9f1e20cae05dd9ad047259617c99e634dcebcc3620122bfe4bbe6"), looks := true }, kinds := [], alts := [], laidByText := true, laidKinds := [.data, .data, .data, .handle], laidTests := true, laidLooks := .later }
def WalkClosedCardSaid : Prop := Claim7.holds Tryz.pinned (.plain (OpenSpec.ofChange walkClosedSpec)) walkClosedCard

/-- THE TIED CARD OF 'sacristylaw05.WalkBoth'. -/
def walkBothCard : Claim7 := { stood := { row := walkBothRow, standIns := [], harness := (true, "ed57ba3b70a9f1e20cae05dd9ad047259617c99e634dcebcc3620122bfe4bbe6"), looks := true }, kinds := [], alts := [], laidByText := true, laidKinds := [.data, .data, .data, .handle], laidTests := true, laidLooks := .later }
def WalkBothCardSaid : Prop := Claim7.holds Tryz.pinned (.plain (OpenSpec.ofChange walkBothSpec)) walkBothCard

/-- THE TIED CARD OF 'sacristylaw05.WalkMore'. -/
def walkMoreCard : Claim7 := { stood := { row := walkMoreRow, standIns := [], harness := (true, "ed57ba3b70a9f1e20cae05dd9ad047259617c99e634dcebcc3620122bfe4bbe6"), looks := true }, kinds := [], alts := [], laidByText := true, laidKinds := [.data, .data, .data, .handle], laidTests := true, laidLooks := .later }
def WalkMoreCardSaid : Prop := Claim7.holds Tryz.pinned (.plain (OpenSpec.ofChange walkMoreSpec)) walkMoreCard

/-- THE TIED CARD OF 'sacristylaw05.WalkJoins'. -/
def walkJoinsCard : Claim7 := { stood := { row := walkJoinsRow, standIns := [], harness := (true, "ed57ba3b70a9f1e20cae05dd9ad047259617c99e634dcebcc3620122bfe4bbe6"), looks := true }, kinds := [], alts := [], laidByText := true, laidKinds := [.data, .data, .data, .handle], laidTests := true, laidLooks := .later }
def WalkJoinsCardSaid : Prop := Claim7.holds Tryz.pinned (.plain (OpenSpec.ofChange walkJoinsSpec)) walkJoinsCard

/-- THE TIED CARD OF 'sacristylaw05.WalkLess'. -/
def walkLessCard : Claim7 := { stood := { row := walkLessRow, standIns := [], harness := (true, "ed57ba3b70a9f1e20cae05dd9ad047259617c99e634dcebcc3620122bfe4bbe6"), looks := true }, kinds := [], alts := [], laidByText := true, laidKinds := [.data, .data, .data, .handle], laidTests := true, laidLooks := .later }
def WalkLessCardSaid : Prop := Claim7.holds Tryz.pinned (.plain (OpenSpec.ofChange walkLessSpec)) walkLessCard

/-- THE TIED CARD OF 'sacristylaw05.WalkPicks'. -/
def walkPicksCard : Claim7 := { stood := { row := walkPicksRow, standIns := [], harness := (true, "ed57ba3b70a9f1e20cae05dd9ad047259617c99e634dcebcc3620122bfe4bbe6"), looks := true }, kinds := [], alts := [], laidByText := true, laidKinds := [.data, .data, .data, .handle], laidTests := true, laidLooks := .later }
def WalkPicksCardSaid : Prop := Claim7.holds Tryz.pinned (.plain (OpenSpec.ofChange walkPicksSpec)) walkPicksCard

/-- THE SECOND FORM's CARD OF 'sacristylaw05.WalkTells'. -/
def walkTellsUptoCard : Claim7 := { stood := { row := walkTellsUptoRow, standIns := [], harness := (true, "ed57ba3b70a9f1e20cae05dd9ad047259617c99e634dcebcc3620122bfe4bbe6"), looks := true }, kinds := [], alts := [], laidByText := true, laidKinds := [.data, .data, .data, .handle], laidTests := true, laidLooks := .later }
def WalkTellsUptoCardSaid : Prop := Claim7.holds Tryz.pinned (.plain (OpenSpec.upto walkTellsSpec)) walkTellsUptoCard

/-- THE SECOND FORM's CARD OF 'sacristylaw05.WalkClosed'. -/
def walkClosedUptoCard : Claim7 := { stood := { row := walkClosedUptoRow, standIns := [], harness := (true, "ed57ba3b70a9f1e20cae05dd9ad047259617c99e634dcebcc3620122bfe4bbe6"), looks := true }, kinds := [], alts := [], laidByText := true, laidKinds := [.data, .data, .data, .handle], laidTests := true, laidLooks := .later }
def WalkClosedUptoCardSaid : Prop := Claim7.holds Tryz.pinned (.plain (OpenSpec.upto walkClosedSpec)) walkClosedUptoCard

/-- THE SECOND FORM's CARD OF 'sacristylaw05.WalkBoth'. -/
def walkBothUptoCard : Claim7 := { stood := { row := walkBothUptoRow, standIns := [], harness := (true, "ed57ba3b70a9f1e20cae05dd9ad047259617c99e634dcebcc3620122bfe4bbe6"), looks := true }, kinds := [], alts := [], laidByText := true, laidKinds := [.data, .data, .data, .handle], laidTests := true, laidLooks := .later }
def WalkBothUptoCardSaid : Prop := Claim7.holds Tryz.pinned (.plain (OpenSpec.upto walkBothSpec)) walkBothUptoCard

/-- THE SECOND FORM's CARD OF 'sacristylaw05.WalkMore'. -/
def walkMoreUptoCard : Claim7 := { stood := { row := walkMoreUptoRow, standIns := [], harness := (true, "ed57ba3b70a9f1e20cae05dd9ad047259617c99e634dcebcc3620122bfe4bbe6"), looks := true }, kinds := [], alts := [], laidByText := true, laidKinds := [.data, .data, .data, .handle], laidTests := true, laidLooks := .later }
def WalkMoreUptoCardSaid : Prop := Claim7.holds Tryz.pinned (.plain (OpenSpec.upto walkMoreSpec)) walkMoreUptoCard

/-- THE SECOND FORM's CARD OF 'sacristylaw05.WalkJoins'. -/
def walkJoinsUptoCard : Claim7 := { stood := { row := walkJoinsUptoRow, standIns := [], harness := (true, "ed57ba3b70a9f1e20cae05dd9ad047259617c99e634dcebcc3620122bfe4bbe6"), looks := true }, kinds := [], alts := [], laidByText := true, laidKinds := [.data, .data, .data, .handle], laidTests := true, laidLooks := .later }
def WalkJoinsUptoCardSaid : Prop := Claim7.holds Tryz.pinned (.plain (OpenSpec.upto walkJoinsSpec)) walkJoinsUptoCard

/-- THE SECOND FORM's CARD OF 'sacristylaw05.WalkLess'. -/
def walkLessUptoCard : Claim7 := { stood := { row := walkLessUptoRow, standIns := [], harness := (true, "ed57ba3b70a9f1e20cae05dd9ad047259617c99e634dcebcc3620122bfe4bbe6"), looks := true }, kinds := [], alts := [], laidByText := true, laidKinds := [.data, .data, .data, .handle], laidTests := true, laidLooks := .later }
def WalkLessUptoCardSaid : Prop := Claim7.holds Tryz.pinned (.plain (OpenSpec.upto walkLessSpec)) walkLessUptoCard

/-- THE SECOND FORM's CARD OF 'sacristylaw05.WalkPicks'. -/
def walkPicksUptoCard : Claim7 := { stood := { row := walkPicksUptoRow, standIns := [], harness := (true, "ed57ba3b70a9f1e20cae05dd9ad047259617c99e634dcebcc3620122bfe4bbe6"), looks := true }, kinds := [], alts := [], laidByText := true, laidKinds := [.data, .data, .data, .handle], laidTests := true, laidLooks := .later }
def WalkPicksUptoCardSaid : Prop := Claim7.holds Tryz.pinned (.plain (OpenSpec.upto walkPicksSpec)) walkPicksUptoCard
end Rows
end Go.Proofs.YtehmhfbfgniekaaGreatDoor
