/-
  DERIVED. GIVEN WITH THE SEED: THE CARDS: each row of YtacgchklilfcaaaDoorRows.lean that lists a variable, with what it lists TIED to the program's text (the seventh form; the later family's looks); each row that meets fmt, with fmt's text TOLD by the authors' own Lean function (tested against real Go, not proved from fmt's source: count such statements apart). THE CARD IS WHAT COUNTS. Prove the row's statement (the work); the ties are given (YtacgchklilfcaaaDoorTie.lean); close each card by the builder's one call (the guide's Derived/Test/ToyasCard.lean, 'card_holds'). Laid BY PROGRAM, IN A SANDBOX (cutbox-door.mjs). By AI agents, Wed Nov 11 2026. No macro, syntax, notation, axiom, sorry.
-/
import Derived.Test.YtacgchklilfcaaaDoorRows
import GoSem.ClaimSeven
namespace Go.Proofs.YtacgchklilfcaaaDoor
namespace Rows

/-- THE TIED CARD OF 'sacristylaw09.RefsLines'. -/
def refsLinesCard : Claim7 := { stood := { row := refsLinesRow, standIns := [], harness := (true, "6273669db162fa1ca96343cddc86918a873681142d2ad1ab814301bfb54df83c"), looks := false }, kinds := [], alts := [], laidByText := true, laidKinds := [.data, .pinned], laidTests := true, laidLooks := .later }
def RefsLinesCardSaid : Prop := Claim7.holds Tryd.pinned (.plain (OpenSpec.ofChange refsLinesSpec)) refsLinesCard

/-- THE TIED CARD OF 'sacristylaw09.RefsAll'. -/
def refsAllCard : Claim7 := { stood := { row := refsAllRow, standIns := [], harness := (true, "6273669db162fa1ca96343cddc86918a873681142d2ad1ab814301bfb54df83c"), looks := false }, kinds := [], alts := [], laidByText := true, laidKinds := [.data, .pinned], laidTests := true, laidLooks := .later }
def RefsAllCardSaid : Prop := Claim7.holds Tryd.pinned (.plain (OpenSpec.ofChange refsAllSpec)) refsAllCard

/-- THE TIED CARD OF 'sacristylaw09.RefsBack'. -/
def refsBackCard : Claim7 := { stood := { row := refsBackRow, standIns := [], harness := (true, "6273669db162fa1ca96343cddc86918a873681142d2ad1ab814301bfb54df83c"), looks := false }, kinds := [], alts := [], laidByText := true, laidKinds := [.data, .pinned], laidTests := true, laidLooks := .later }
def RefsBackCardSaid : Prop := Claim7.holds Tryd.pinned (.plain (OpenSpec.ofChange refsBackSpec)) refsBackCard

/-- THE TIED CARD OF 'sacristylaw09.RefsText'. -/
def refsTextCard : Claim7 := { stood := { row := refsTextRow, standIns := [], harness := (true, "6273669db162fa1ca96343cddc86918a873681142d2ad1ab814301bfb54df83c"), looks := false }, kinds := [], alts := [], laidByText := true, laidKinds := [.data, .pinned], laidTests := true, laidLooks := .later }
def RefsTextCardSaid : Prop := Claim7.holds Tryd.pinned (.plain (OpenSpec.ofChange refsTextSpec)) refsTextCard

/-- THE TIED CARD OF 'sacristylaw09.RefsNames'. -/
def refsNamesCard : Claim7 := { stood := { row := refsNamesRow, standIns := [], harness := (true, "6273669db162fa1ca96343cddc86918a873681142d2ad1ab814301bfb54df83c"), looks := false }, kinds := [], alts := [], laidByText := true, laidKinds := [.data, .pinned], laidTests := true, laidLooks := .later }
def RefsNamesCardSaid : Prop := Claim7.holds Tryd.pinned (.plain (OpenSpec.ofChange refsNamesSpec)) refsNamesCard

/-- THE TIED CARD OF 'sacristylaw09.RefsOne'. -/
def refsOneCard : Claim7 := { stood := { row := refsOneRow, standIns := [], harness := (true, "6273669db162fa1ca96343cddc86918a873681142d2ad1ab814301bfb54df83c"), looks := false }, kinds := [], alts := [], laidByText := true, laidKinds := [.data, .pinned], laidTests := true, laidLooks := .later }
def RefsOneCardSaid : Prop := Claim7.holds Tryd.pinned (.plain (OpenSpec.ofChange refsOneSpec)) refsOneCard

/-- THE SECOND FORM's CARD OF 'sacristylaw09.RefsLines'. -/
def refsLinesUptoCard : Claim7 := { stood := { row := refsLinesUptoRow, standIns := [], harness := (true, "6273669db162fa1ca96343cddc86918a873681142d2ad1ab814301bfb54df83c"), looks := false }, kinds := [], alts := [], laidByText := true, laidKinds := [.data, .pinned], laidTests := true, laidLooks := .later }
def RefsLinesUptoCardSaid : Prop := Claim7.holds Tryd.pinned (.plain (OpenSpec.upto refsLinesSpec)) refsLinesUptoCard

/-- THE SECOND FORM's CARD OF 'sacristylaw09.RefsAll'. -/
def refsAllUptoCard : Claim7 := { stood := { row := refsAllUptoRow, standIns := [], harness := (true, "6273669db162fa1ca96343cddc86918a873681142d2ad1ab814301bfb54df83c"), looks := false }, kinds := [], alts := [], laidByText := true, laidKinds := [.data, .pinned], laidTests := true, laidLooks := .later }
def RefsAllUptoCardSaid : Prop := Claim7.holds Tryd.pinned (.plain (OpenSpec.upto refsAllSpec)) refsAllUptoCard

/-- THE SECOND FORM's CARD OF 'sacristylaw09.RefsBack'. -/
def refsBackUptoCard : Claim7 := { stood := { row := refsBackUptoRow, standIns := [], harness := (true, "6273669db162fa1ca96343cddc86918a873681142d2ad1ab814301bfb54df83c"), looks := false }, kinds := [], alts := [], laidByText := true, laidKinds := [.data, .pinned], laidTests := true, laidLooks := .later }
def RefsBackUptoCardSaid : Prop := Claim7.holds Tryd.pinned (.plain (OpenSpec.upto refsBackSpec)) refsBackUptoCard

/-- THE SECOND FORM's CARD OF 'sacristylaw09.RefsText'. -/
def refsTextUptoCard : Claim7 := { stood := { row := refsTextUptoRow, standIns := [], harness := (true, "6273669db162fa1ca96343cddc86918a873681142d2ad1ab814301bfb54df83c"), looks := false }, kinds := [], alts := [], laidByText := true, laidKinds := [.data, .pinned], laidTests := true, laidLooks := .later }
def RefsTextUptoCardSaid : Prop := Claim7.holds Tryd.pinned (.plain (OpenSpec.upto refsTextSpec)) refsTextUptoCard

/-- THE SECOND FORM's CARD OF 'sacristylaw09.RefsNames'. -/
def refsNamesUptoCard : Claim7 := { stood := { row := refsNamesUptoRow, standIns := [], harness := (true, "6273669db162fa1ca96343cddc86918a873681142d2ad1ab814301bfb54df83c"), looks := false }, kinds := [], alts := [], laidByText := true, laidKinds := [.data, .pinned], laidTests := true, laidLooks := .later }
def RefsNamesUptoCardSaid : Prop := Claim7.holds Tryd.pinned (.plain (OpenSpec.upto refsNamesSpec)) refsNamesUptoCard

/-- THE SECOND FORM's CARD OF 'sacristylaw09.RefsOne'. -/
def refsOneUptoCard : Claim7 := { stood := { row := refsOneUptoRow, standIns := [], harness := (true, "6273669db162fa1ca96343cddc86918a873681142d2ad1ab814301bfb54df83c"), looks := false }, kinds := [], alts := [], laidByText := true, laidKinds := [.data, .pinned], laidTests := true, laidLooks := .later }
def RefsOneUptoCardSaid : Prop := Claim7.holds Tryd.pinned (.plain (OpenSpec.upto refsOneSpec)) refsOneUptoCard
end Rows
end Go.Proofs.YtacgchklilfcaaaDoor
