/-
  DERIVED. GIVEN WITH THE SEED: THE CARDS: each row of YtacgchklilfcaaaGreatDoorRows.lean that lists a variable, with what it lists TIED to the program's text (the seventh form; the later family's looks); each row that meets fmt, with fmt's text TOLD by the authors' own Lean function (tested against real Go, not proved from fmt's source: count such statements apart). THE CARD IS WHAT COUNTS. Prove the row's statement (the work); the ties are given (YtacgchklilfcaaaGreatDoorTie.lean); close each card by the builder's one call (the guide's Derived/Test/ToyasCard.lean, 'card_holds'). Laid BY PROGRAM, IN A SANDBOX (cutbox-door.mjs). By AI agents, Wed Nov 11 2026. No macro, syntax, notation, axiom, sorry.
-/
import Derived.Test.YtacgchklilfcaaaGreatDoorRows
import GoSem.ClaimSeven
namespace Go.Proofs.YtacgchklilfcaaaGreatDoor
namespace Rows

/-- THE TIED CARD OF 'sacristylaw09.RefsTell'. -/
def refsTellCard : Claim7 := { stood := { row := refsTellRow, standIns := [], harness := (true, "f8163aaa6a7d5479c719855ff212f1343798fd2020138f66f9b8983379da9cba"), looks := false }, kinds := [], alts := [], laidByText := true, laidKinds := [.data, .pinned], laidTests := true, laidLooks := .later }
def RefsTellCardSaid : Prop := Claim7.holds Tryz.pinned (.plain (OpenSpec.ofChange refsTellSpec)) refsTellCard

/-- THE SECOND FORM's CARD OF 'sacristylaw09.RefsTell'. -/
def refsTellUptoCard : Claim7 := { stood := { row := refsTellUptoRow, standIns := [], harness := (true, "f8163aaa6a7d5479c719855ff212f1343798fd2020138f66f9b8983379da9cba"), looks := false }, kinds := [], alts := [], laidByText := true, laidKinds := [.data, .pinned], laidTests := true, laidLooks := .later }
def RefsTellUptoCardSaid : Prop := Claim7.holds Tryz.pinned (.plain (OpenSpec.upto refsTellSpec)) refsTellUptoCard
end Rows
end Go.Proofs.YtacgchklilfcaaaGreatDoor
