/-
  DERIVED. GIVEN WITH THE SEED: THE CARDS: each row of YtefefhhaopjccaaGreatDoorRows.lean that lists a variable, with what it lists TIED to the program's text (the seventh form; the later family's looks); each row that meets fmt, with fmt's text TOLD by the authors' own Lean function (tested against real Go, not proved from fmt's source: count such statements apart). THE CARD IS WHAT COUNTS. Prove the row's statement (the work); the ties are given (YtefefhhaopjccaaGreatDoorTie.lean); close each card by the builder's one call (the guide's Derived/Test/ToyasCard.lean, 'card_holds'). Laid BY PROGRAM, IN A SANDBOX (cutbox-door.mjs). By AI agents, Wed Nov 11 2026. No macro, syntax, notation, axiom, sorry.
-/
import Derived.Test.YtefefhhaopjccaaGreatDoorRows
import GoSem.ClaimSeven
namespace Go.Proofs.YtefefhhaopjccaaGreatDoor
namespace Rows

/-- THE TIED CARD OF 'sacristylaw04.ObjectTells'. -/
def objectTellsCard : Claim7 := { stood := { row := objectTellsRow, standIns := [], harness := (true, "ede910d907be283abb22760f4bb3d6dbc314bca006f748d54e17f98a8715ccb9"), looks := true }, kinds := [], alts := [], laidByText := true, laidKinds := [.data, .data, .data, .handle], laidTests := true, laidLooks := .later }
def ObjectTellsCardSaid : Prop := Claim7.holds Tryz.pinned (.plain (OpenSpec.ofChange objectTellsSpec)) objectTellsCard

/-- THE TIED CARD OF 'sacristylaw04.ObjectTrees'. -/
def objectTreesCard : Claim7 := { stood := { row := objectTreesRow, standIns := [], harness := (true, "ede910d907be283abb22760f4bb3d6dbc314bca006f748d54e17f98a8715ccb9"), looks := true }, kinds := [], alts := [], laidByText := true, laidKinds := [.data, .data, .data, .handle], laidTests := true, laidLooks := .later }
def ObjectTreesCardSaid : Prop := Claim7.holds Tryz.pinned (.plain (OpenSpec.ofChange objectTreesSpec)) objectTreesCard

/-- THE TIED CARD OF 'sacristylaw04.ObjectChanges'. -/
def objectChangesCard : Claim7 := { stood := { row := objectChangesRow, standIns := [], harness := (true, "ede910d907be283abb22760f4bb3d6dbc314bca006f748d54e17f98a8715ccb9"), looks := true }, kinds := [], alts := [], laidByText := true, laidKinds := [.data, .data, .data, .handle], laidTests := true, laidLooks := .later }
def ObjectChangesCardSaid : Prop := Claim7.holds Tryz.pinned (.plain (OpenSpec.ofChange objectChangesSpec)) objectChangesCard

/-- THE TIED CARD OF 'sacristylaw04.ObjectBack'. -/
def objectBackCard : Claim7 := { stood := { row := objectBackRow, standIns := [], harness := (true, "ede910d907be283abb22760f4bb3d6dbc314bca006f748d54e17f98a8715ccb9"), looks := true }, kinds := [], alts := [], laidByText := true, laidKinds := [.data, .data, .data, .handle], laidTests := true, laidLooks := .later }
def ObjectBackCardSaid : Prop := Claim7.holds Tryz.pinned (.plain (OpenSpec.ofChange objectBackSpec)) objectBackCard

/-- THE TIED CARD OF 'sacristylaw04.ObjectOrder'. -/
def objectOrderCard : Claim7 := { stood := { row := objectOrderRow, standIns := [], harness := (true, "ede910d907be283abb22760f4bb3d6dbc314bca006f748d54e17f98a8715ccb9"), looks := true }, kinds := [], alts := [], laidByText := true, laidKinds := [.data, .data, .data, .handle], laidTests := true, laidLooks := .later }
def ObjectOrderCardSaid : Prop := Claim7.holds Tryz.pinned (.plain (OpenSpec.ofChange objectOrderSpec)) objectOrderCard

/-- THE TIED CARD OF 'sacristylaw04.ObjectNames'. -/
def objectNamesCard : Claim7 := { stood := { row := objectNamesRow, standIns := [], harness := (true, "ede910d907be283abb22760f4bb3d6dbc314bca006f748d54e17f98a8715ccb9"), looks := true }, kinds := [], alts := [], laidByText := true, laidKinds := [.data, .data, .data, .handle], laidTests := true, laidLooks := .later }
def ObjectNamesCardSaid : Prop := Claim7.holds Tryz.pinned (.plain (OpenSpec.ofChange objectNamesSpec)) objectNamesCard

/-- THE TIED CARD OF 'sacristylaw04.ObjectWants'. -/
def objectWantsCard : Claim7 := { stood := { row := objectWantsRow, standIns := [], harness := (true, "ede910d907be283abb22760f4bb3d6dbc314bca006f748d54e17f98a8715ccb9"), looks := true }, kinds := [], alts := [], laidByText := true, laidKinds := [.data, .data, .data, .handle], laidTests := true, laidLooks := .later }
def ObjectWantsCardSaid : Prop := Claim7.holds Tryz.pinned (.plain (OpenSpec.ofChange objectWantsSpec)) objectWantsCard

/-- THE SECOND FORM's CARD OF 'sacristylaw04.ObjectTells'. -/
def objectTellsUptoCard : Claim7 := { stood := { row := objectTellsUptoRow, standIns := [], harness := (true, "ede910d907be283abb22760f4bb3d6dbc314bca006f748d54e17f98a8715ccb9"), looks := true }, kinds := [], alts := [], laidByText := true, laidKinds := [.data, .data, .data, .handle], laidTests := true, laidLooks := .later }
def ObjectTellsUptoCardSaid : Prop := Claim7.holds Tryz.pinned (.plain (OpenSpec.upto objectTellsSpec)) objectTellsUptoCard

/-- THE SECOND FORM's CARD OF 'sacristylaw04.ObjectTrees'. -/
def objectTreesUptoCard : Claim7 := { stood := { row := objectTreesUptoRow, standIns := [], harness := (true, "ede910d907be283abb22760f4bb3d6dbc314bca006f748d54e17f98a8715ccb9"), looks := true }, kinds := [], alts := [], laidByText := true, laidKinds := [.data, .data, .data, .handle], laidTests := true, laidLooks := .later }
def ObjectTreesUptoCardSaid : Prop := Claim7.holds Tryz.pinned (.plain (OpenSpec.upto objectTreesSpec)) objectTreesUptoCard

/-- THE SECOND FORM's CARD OF 'sacristylaw04.ObjectChanges'. -/
def objectChangesUptoCard : Claim7 := { stood := { row := objectChangesUptoRow, standIns := [], harness := (true, "ede910d907be283abb22760f4bb3d6dbc314bca006f748d54e17f98a8715ccb9"), looks := true }, kinds := [], alts := [], laidByText := true, laidKinds := [.data, .data, .data, .handle], laidTests := true, laidLooks := .later }
def ObjectChangesUptoCardSaid : Prop := Claim7.holds Tryz.pinned (.plain (OpenSpec.upto objectChangesSpec)) objectChangesUptoCard

/-- THE SECOND FORM's CARD OF 'sacristylaw04.ObjectBack'. -/
def objectBackUptoCard : Claim7 := { stood := { row := objectBackUptoRow, standIns := [], harness := (true, "ede910d907be283abb22760f4bb3d6dbc314bca006f748d54e17f98a8715ccb9"), looks := true }, kinds := [], alts := [], laidByText := true, laidKinds := [.data, .data, .data, .handle], laidTests := true, laidLooks := .later }
def ObjectBackUptoCardSaid : Prop := Claim7.holds Tryz.pinned (.plain (OpenSpec.upto objectBackSpec)) objectBackUptoCard

/-- THE SECOND FORM's CARD OF 'sacristylaw04.ObjectOrder'. -/
def objectOrderUptoCard : Claim7 := { stood := { row := objectOrderUptoRow, standIns := [], harness := (true, "ede910d907be283abb22760f4bb3d6dbc314bca006f748d54e17f98a8715ccb9"), looks := true }, kinds := [], alts := [], laidByText := true, laidKinds := [.data, .data, .data, .handle], laidTests := true, laidLooks := .later }
def ObjectOrderUptoCardSaid : Prop := Claim7.holds Tryz.pinned (.plain (OpenSpec.upto objectOrderSpec)) objectOrderUptoCard

/-- THE SECOND FORM's CARD OF 'sacristylaw04.ObjectNames'. -/
def objectNamesUptoCard : Claim7 := { stood := { row := objectNamesUptoRow, standIns := [], harness := (true, "ede910d907be283abb22760f4bb3d6dbc314bca006f748d54e17f98a8715ccb9"), looks := true }, kinds := [], alts := [], laidByText := true, laidKinds := [.data, .data, .data, .handle], laidTests := true, laidLooks := .later }
def ObjectNamesUptoCardSaid : Prop := Claim7.holds Tryz.pinned (.plain (OpenSpec.upto objectNamesSpec)) objectNamesUptoCard

/-- THE SECOND FORM's CARD OF 'sacristylaw04.ObjectWants'. -/
def objectWantsUptoCard : Claim7 := { stood := { row := objectWantsUptoRow, standIns := [], harness := (true, "ede910d907be283abb22760f4bb3d6dbc314bca006f748d54e17f98a8715ccb9"), looks := true }, kinds := [], alts := [], laidByText := true, laidKinds := [.data, .data, .data, .handle], laidTests := true, laidLooks := .later }
def ObjectWantsUptoCardSaid : Prop := Claim7.holds Tryz.pinned (.plain (OpenSpec.upto objectWantsSpec)) objectWantsUptoCard
end Rows
end Go.Proofs.YtefefhhaopjccaaGreatDoor
