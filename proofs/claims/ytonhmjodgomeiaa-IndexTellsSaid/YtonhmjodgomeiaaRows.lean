/-
  No cell of these rows narrows 'for every input' (looked for: loops, veiled, ifaces, maps, wideKeys, modest, calm, conditions, laid).
  DERIVED. THE GIVEN ROWS OF THIS SEAT. 6 by the template 'for every input the law returns true; each argument reads behind the call as it read before'; 0 by the template 'total and deterministic' (their statements: YtonhmjodgomeiaaTotals.lean).
  GIVEN WITH THE SEED: the statements are not yours to turn. If you find one false, say at which input.
  Laid BY PROGRAM, IN A SANDBOX (cutbox-rows.mjs): the forced cells as the released guide's own fill.sh prints them over the translation d64027eeb29c03c4… (all of the seat's roots in one cut). By AI agents, Wed Nov 11 2026. No macro, syntax, notation, axiom, sorry.
-/
import Derived.Test.YtonhmjodgomeiaaChecked
import GoSem.Claim
import GoSem.ClaimJoined
import GoSem.ClaimMapViews
import Derived.JoinedTies
import Derived.KernelRfl
namespace Go.Proofs.Ytonhmjodgomeiaa
/- THE CELL 'sum', in the pinned program and in every row, IS THE sha256 OF THE DUMP (.gsa) THAT YtonhmjodgomeiaaProg.lean LOADS. Nothing in Lean hashes anything: it is a label: what it is worth is what the hold of that sum in a sandbox is worth. -/
noncomputable def Try.pinned : Pinned := { name := "ytonhmjodgomeiaa", sum := "d64027eeb29c03c4c3768904e90c4d2abfce26a2bce27450bb301f87435aa889", checked := Try.checked }
namespace Rows
def none {H : Type} : Left H := { results := [], args := [] }

/-- 'sacristylaw08.IndexTells': WHATEVER THE INPUT: true; the input reads as it did. -/
def indexTellsSpec : ChangeSpec := { name := "indexTells", fn := fun _ => fun
  | [d1, d2, d3] => { results := [.lit (.bool true)], args := [d1, d2, d3] }
  | _ => none }
def indexTellsRow : OpenClaim := { program := "ytonhmjodgomeiaa", sum := "d64027eeb29c03c4c3768904e90c4d2abfce26a2bce27450bb301f87435aa889", func := "sacristy/sacristylaw08.IndexTells", spec := "indexTells", inPlace := ["internal/bytealg.Compare"], unfollowed := true, recurses := true, apart := false }
def IndexTellsSaid : Prop := indexTellsRow.holds Try.pinned (OpenSpec.ofChange indexTellsSpec)

/-- ITS FALSE NEIGHBOUR: 'it returns false'. Refute it at one input. -/
def indexTellsWrong : ChangeSpec := { name := "indexTells", fn := fun _ => fun
  | [d1, d2, d3] => { results := [.lit (.bool false)], args := [d1, d2, d3] }
  | _ => none }
def IndexTellsWrongFalsely : Prop := indexTellsRow.holds Try.pinned (OpenSpec.ofChange indexTellsWrong)

/-- 'sacristylaw08.IndexFinds': WHATEVER THE INPUT: true; the input reads as it did. -/
def indexFindsSpec : ChangeSpec := { name := "indexFinds", fn := fun _ => fun
  | [d1, d2] => { results := [.lit (.bool true)], args := [d1, d2] }
  | _ => none }
def indexFindsRow : OpenClaim := { program := "ytonhmjodgomeiaa", sum := "d64027eeb29c03c4c3768904e90c4d2abfce26a2bce27450bb301f87435aa889", func := "sacristy/sacristylaw08.IndexFinds", spec := "indexFinds", inPlace := ["internal/bytealg.Compare"], unfollowed := true, recurses := true, apart := false }
def IndexFindsSaid : Prop := indexFindsRow.holds Try.pinned (OpenSpec.ofChange indexFindsSpec)

/-- ITS FALSE NEIGHBOUR: 'it returns false'. Refute it at one input. -/
def indexFindsWrong : ChangeSpec := { name := "indexFinds", fn := fun _ => fun
  | [d1, d2] => { results := [.lit (.bool false)], args := [d1, d2] }
  | _ => none }
def IndexFindsWrongFalsely : Prop := indexFindsRow.holds Try.pinned (OpenSpec.ofChange indexFindsWrong)

/-- 'sacristylaw08.IndexBack': WHATEVER THE INPUT: true; the input reads as it did. -/
def indexBackSpec : ChangeSpec := { name := "indexBack", fn := fun _ => fun
  | [d1, d2, d3] => { results := [.lit (.bool true)], args := [d1, d2, d3] }
  | _ => none }
def indexBackRow : OpenClaim := { program := "ytonhmjodgomeiaa", sum := "d64027eeb29c03c4c3768904e90c4d2abfce26a2bce27450bb301f87435aa889", func := "sacristy/sacristylaw08.IndexBack", spec := "indexBack", inPlace := ["internal/bytealg.Compare"], unfollowed := true, recurses := true, apart := false }
def IndexBackSaid : Prop := indexBackRow.holds Try.pinned (OpenSpec.ofChange indexBackSpec)

/-- ITS FALSE NEIGHBOUR: 'it returns false'. Refute it at one input. -/
def indexBackWrong : ChangeSpec := { name := "indexBack", fn := fun _ => fun
  | [d1, d2, d3] => { results := [.lit (.bool false)], args := [d1, d2, d3] }
  | _ => none }
def IndexBackWrongFalsely : Prop := indexBackRow.holds Try.pinned (OpenSpec.ofChange indexBackWrong)

/-- 'sacristylaw08.IndexOrder': WHATEVER THE INPUT: true; the input reads as it did. -/
def indexOrderSpec : ChangeSpec := { name := "indexOrder", fn := fun _ => fun
  | [d1, d2] => { results := [.lit (.bool true)], args := [d1, d2] }
  | _ => none }
def indexOrderRow : OpenClaim := { program := "ytonhmjodgomeiaa", sum := "d64027eeb29c03c4c3768904e90c4d2abfce26a2bce27450bb301f87435aa889", func := "sacristy/sacristylaw08.IndexOrder", spec := "indexOrder", inPlace := ["internal/bytealg.Compare"], unfollowed := true, recurses := true, apart := false }
def IndexOrderSaid : Prop := indexOrderRow.holds Try.pinned (OpenSpec.ofChange indexOrderSpec)

/-- ITS FALSE NEIGHBOUR: 'it returns false'. Refute it at one input. -/
def indexOrderWrong : ChangeSpec := { name := "indexOrder", fn := fun _ => fun
  | [d1, d2] => { results := [.lit (.bool false)], args := [d1, d2] }
  | _ => none }
def IndexOrderWrongFalsely : Prop := indexOrderRow.holds Try.pinned (OpenSpec.ofChange indexOrderWrong)

/-- 'sacristylaw08.IndexFan': WHATEVER THE INPUT: true; the input reads as it did. -/
def indexFanSpec : ChangeSpec := { name := "indexFan", fn := fun _ => fun
  | [d] => { results := [.lit (.bool true)], args := [d] }
  | _ => none }
def indexFanRow : OpenClaim := { program := "ytonhmjodgomeiaa", sum := "d64027eeb29c03c4c3768904e90c4d2abfce26a2bce27450bb301f87435aa889", func := "sacristy/sacristylaw08.IndexFan", spec := "indexFan", inPlace := ["internal/bytealg.Compare"], unfollowed := true, recurses := true, apart := false }
def IndexFanSaid : Prop := indexFanRow.holds Try.pinned (OpenSpec.ofChange indexFanSpec)

/-- ITS FALSE NEIGHBOUR: 'it returns false'. Refute it at one input. -/
def indexFanWrong : ChangeSpec := { name := "indexFan", fn := fun _ => fun
  | [d] => { results := [.lit (.bool false)], args := [d] }
  | _ => none }
def IndexFanWrongFalsely : Prop := indexFanRow.holds Try.pinned (OpenSpec.ofChange indexFanWrong)

/-- 'sacristylaw08.IndexMore': WHATEVER THE INPUT: true; the input reads as it did. -/
def indexMoreSpec : ChangeSpec := { name := "indexMore", fn := fun _ => fun
  | [d1, d2] => { results := [.lit (.bool true)], args := [d1, d2] }
  | _ => none }
def indexMoreRow : OpenClaim := { program := "ytonhmjodgomeiaa", sum := "d64027eeb29c03c4c3768904e90c4d2abfce26a2bce27450bb301f87435aa889", func := "sacristy/sacristylaw08.IndexMore", spec := "indexMore", inPlace := ["internal/bytealg.Compare"], unfollowed := true, recurses := true, apart := false }
def IndexMoreSaid : Prop := indexMoreRow.holds Try.pinned (OpenSpec.ofChange indexMoreSpec)

/-- ITS FALSE NEIGHBOUR: 'it returns false'. Refute it at one input. -/
def indexMoreWrong : ChangeSpec := { name := "indexMore", fn := fun _ => fun
  | [d1, d2] => { results := [.lit (.bool false)], args := [d1, d2] }
  | _ => none }
def IndexMoreWrongFalsely : Prop := indexMoreRow.holds Try.pinned (OpenSpec.ofChange indexMoreWrong)

/- THE SECOND FORM. 'bulk': how many values and letters a reading holds, each counted each time it is reached (what is shared counts as often as it is met; a slice's spare places count too). A statement '..UptoSaid' is the law's where the arguments, and the package variables that the reading takes, are together of bulk at most 1048576: NARROWER than '..Said'. Prove '..Said' where nothing that the law and all that it calls make is longer than what came in: it says more and counts as full. Else prove '..UptoSaid'. A law counts once. -/
mutual
def uptoBulk {H : Type} : DataW H → Nat
  | .lit (.string bytes) => bytes.length + 1
  | .lit _ => 1
  | .nil => 1
  | .ptr d => uptoBulk d + 1
  | .slice elems spare => uptoBulkAll elems + uptoBulkAll spare + 1
  | .agg parts => uptoBulkAll parts + 1
  | .iface _ d => uptoBulk d + 1
  | .map entries => uptoBulkEntries entries + 1
  | .held _ => 1
def uptoBulkAll {H : Type} : List (DataW H) → Nat
  | [] => 0
  | d :: r => uptoBulk d + uptoBulkAll r
def uptoBulkEntries {H : Type} : List (Lit × DataW H) → Nat
  | [] => 0
  | x :: r => uptoBulkEntry x + uptoBulkEntries r
def uptoBulkEntry {H : Type} : Lit × DataW H → Nat
  | (.string bytes, d) => bytes.length + uptoBulk d + 1
  | (_, d) => uptoBulk d + 1
 end
def uptoSmall : (H : Type) → List (DataW H) → Bool := fun _ ds => decide (uptoBulkAll ds ≤ 1048576)
def OpenSpec.upto (s : _root_.Go.ChangeSpec) : _root_.Go.OpenSpec := { _root_.Go.OpenSpec.ofChange s with cond := some uptoSmall }

/-- 'sacristylaw08.IndexTells', WHERE WHAT IT READS IS OF BULK AT MOST 1048576: true; the input reads as it did. -/
def indexTellsUptoRow : OpenClaim := { program := "ytonhmjodgomeiaa", sum := "d64027eeb29c03c4c3768904e90c4d2abfce26a2bce27450bb301f87435aa889", func := "sacristy/sacristylaw08.IndexTells", spec := "indexTells", inPlace := ["internal/bytealg.Compare"], unfollowed := true, recurses := true, apart := false, narrowed := true }
def IndexTellsUptoSaid : Prop := indexTellsUptoRow.holds Try.pinned (OpenSpec.upto indexTellsSpec)

/-- 'sacristylaw08.IndexFinds', WHERE WHAT IT READS IS OF BULK AT MOST 1048576: true; the input reads as it did. -/
def indexFindsUptoRow : OpenClaim := { program := "ytonhmjodgomeiaa", sum := "d64027eeb29c03c4c3768904e90c4d2abfce26a2bce27450bb301f87435aa889", func := "sacristy/sacristylaw08.IndexFinds", spec := "indexFinds", inPlace := ["internal/bytealg.Compare"], unfollowed := true, recurses := true, apart := false, narrowed := true }
def IndexFindsUptoSaid : Prop := indexFindsUptoRow.holds Try.pinned (OpenSpec.upto indexFindsSpec)

/-- 'sacristylaw08.IndexBack', WHERE WHAT IT READS IS OF BULK AT MOST 1048576: true; the input reads as it did. -/
def indexBackUptoRow : OpenClaim := { program := "ytonhmjodgomeiaa", sum := "d64027eeb29c03c4c3768904e90c4d2abfce26a2bce27450bb301f87435aa889", func := "sacristy/sacristylaw08.IndexBack", spec := "indexBack", inPlace := ["internal/bytealg.Compare"], unfollowed := true, recurses := true, apart := false, narrowed := true }
def IndexBackUptoSaid : Prop := indexBackUptoRow.holds Try.pinned (OpenSpec.upto indexBackSpec)

/-- 'sacristylaw08.IndexOrder', WHERE WHAT IT READS IS OF BULK AT MOST 1048576: true; the input reads as it did. -/
def indexOrderUptoRow : OpenClaim := { program := "ytonhmjodgomeiaa", sum := "d64027eeb29c03c4c3768904e90c4d2abfce26a2bce27450bb301f87435aa889", func := "sacristy/sacristylaw08.IndexOrder", spec := "indexOrder", inPlace := ["internal/bytealg.Compare"], unfollowed := true, recurses := true, apart := false, narrowed := true }
def IndexOrderUptoSaid : Prop := indexOrderUptoRow.holds Try.pinned (OpenSpec.upto indexOrderSpec)

/-- 'sacristylaw08.IndexFan', WHERE WHAT IT READS IS OF BULK AT MOST 1048576: true; the input reads as it did. -/
def indexFanUptoRow : OpenClaim := { program := "ytonhmjodgomeiaa", sum := "d64027eeb29c03c4c3768904e90c4d2abfce26a2bce27450bb301f87435aa889", func := "sacristy/sacristylaw08.IndexFan", spec := "indexFan", inPlace := ["internal/bytealg.Compare"], unfollowed := true, recurses := true, apart := false, narrowed := true }
def IndexFanUptoSaid : Prop := indexFanUptoRow.holds Try.pinned (OpenSpec.upto indexFanSpec)

/-- 'sacristylaw08.IndexMore', WHERE WHAT IT READS IS OF BULK AT MOST 1048576: true; the input reads as it did. -/
def indexMoreUptoRow : OpenClaim := { program := "ytonhmjodgomeiaa", sum := "d64027eeb29c03c4c3768904e90c4d2abfce26a2bce27450bb301f87435aa889", func := "sacristy/sacristylaw08.IndexMore", spec := "indexMore", inPlace := ["internal/bytealg.Compare"], unfollowed := true, recurses := true, apart := false, narrowed := true }
def IndexMoreUptoSaid : Prop := indexMoreUptoRow.holds Try.pinned (OpenSpec.upto indexMoreSpec)

end Rows
end Go.Proofs.Ytonhmjodgomeiaa
