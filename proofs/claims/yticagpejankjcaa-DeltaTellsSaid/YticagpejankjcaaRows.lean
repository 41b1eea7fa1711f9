/-
  No cell of these rows narrows 'for every input' (looked for: loops, veiled, ifaces, maps, wideKeys, modest, calm, conditions, laid).
  DERIVED. THE GIVEN ROWS OF THIS SEAT. 6 by the template 'for every input the law returns true; each argument reads behind the call as it read before'; 0 by the template 'total and deterministic' (their statements: YticagpejankjcaaTotals.lean).
  GIVEN WITH THE SEED: the statements are not yours to turn. If you find one false, say at which input.
  Laid BY PROGRAM, IN A SANDBOX (cutbox-rows.mjs): the forced cells as the released guide's own fill.sh prints them over the translation a83c1b0cb2b38198… (all of the seat's roots in one cut). By AI agents, Wed Nov 11 2026. No macro, syntax, notation, axiom, sorry.
-/
import Derived.Test.YticagpejankjcaaChecked
import GoSem.Claim
import GoSem.ClaimJoined
import GoSem.ClaimMapViews
import Derived.JoinedTies
import Derived.KernelRfl
namespace Go.Proofs.Yticagpejankjcaa
/- THE CELL 'sum', in the pinned program and in every row, IS THE sha256 OF THE DUMP (.gsa) THAT YticagpejankjcaaProg.lean LOADS. Nothing in Lean hashes anything: it is a label: what it is worth is what the hold of that sum in a sandbox is worth. -/
noncomputable def Try.pinned : Pinned := { name := "yticagpejankjcaa", sum := "a83c1b0cb2b3819841e00fcf0063fb3b3dc824da3c170b5b8c2d0629f612a9e2", checked := Try.checked }
namespace Rows
def none {H : Type} : Left H := { results := [], args := [] }

/-- 'sacristylaw06.DeltaTells': WHATEVER THE INPUT: true; the input reads as it did. -/
def deltaTellsSpec : ChangeSpec := { name := "deltaTells", fn := fun _ => fun
  | [d1, d2, d3] => { results := [.lit (.bool true)], args := [d1, d2, d3] }
  | _ => none }
def deltaTellsRow : OpenClaim := { program := "yticagpejankjcaa", sum := "a83c1b0cb2b3819841e00fcf0063fb3b3dc824da3c170b5b8c2d0629f612a9e2", func := "sacristy/sacristylaw06.DeltaTells", spec := "deltaTells", inPlace := ["internal/abi.NoEscape", "internal/reflectlite.TypeOf"], unfollowed := true, recurses := true, apart := false }
def DeltaTellsSaid : Prop := deltaTellsRow.holds Try.pinned (OpenSpec.ofChange deltaTellsSpec)

/-- ITS FALSE NEIGHBOUR: 'it returns false'. Refute it at one input. -/
def deltaTellsWrong : ChangeSpec := { name := "deltaTells", fn := fun _ => fun
  | [d1, d2, d3] => { results := [.lit (.bool false)], args := [d1, d2, d3] }
  | _ => none }
def DeltaTellsWrongFalsely : Prop := deltaTellsRow.holds Try.pinned (OpenSpec.ofChange deltaTellsWrong)

/-- 'sacristylaw06.DeltaBack': WHATEVER THE INPUT: true; the input reads as it did. -/
def deltaBackSpec : ChangeSpec := { name := "deltaBack", fn := fun _ => fun
  | [d1, d2, d3, d4] => { results := [.lit (.bool true)], args := [d1, d2, d3, d4] }
  | _ => none }
def deltaBackRow : OpenClaim := { program := "yticagpejankjcaa", sum := "a83c1b0cb2b3819841e00fcf0063fb3b3dc824da3c170b5b8c2d0629f612a9e2", func := "sacristy/sacristylaw06.DeltaBack", spec := "deltaBack", inPlace := ["internal/abi.NoEscape", "internal/reflectlite.TypeOf"], unfollowed := true, recurses := true, apart := false }
def DeltaBackSaid : Prop := deltaBackRow.holds Try.pinned (OpenSpec.ofChange deltaBackSpec)

/-- ITS FALSE NEIGHBOUR: 'it returns false'. Refute it at one input. -/
def deltaBackWrong : ChangeSpec := { name := "deltaBack", fn := fun _ => fun
  | [d1, d2, d3, d4] => { results := [.lit (.bool false)], args := [d1, d2, d3, d4] }
  | _ => none }
def DeltaBackWrongFalsely : Prop := deltaBackRow.holds Try.pinned (OpenSpec.ofChange deltaBackWrong)

/-- 'sacristylaw06.DeltaSteps': WHATEVER THE INPUT: true; the input reads as it did. -/
def deltaStepsSpec : ChangeSpec := { name := "deltaSteps", fn := fun _ => fun
  | [d1, d2, d3, d4] => { results := [.lit (.bool true)], args := [d1, d2, d3, d4] }
  | _ => none }
def deltaStepsRow : OpenClaim := { program := "yticagpejankjcaa", sum := "a83c1b0cb2b3819841e00fcf0063fb3b3dc824da3c170b5b8c2d0629f612a9e2", func := "sacristy/sacristylaw06.DeltaSteps", spec := "deltaSteps", inPlace := ["internal/abi.NoEscape", "internal/reflectlite.TypeOf"], unfollowed := true, recurses := true, apart := false }
def DeltaStepsSaid : Prop := deltaStepsRow.holds Try.pinned (OpenSpec.ofChange deltaStepsSpec)

/-- ITS FALSE NEIGHBOUR: 'it returns false'. Refute it at one input. -/
def deltaStepsWrong : ChangeSpec := { name := "deltaSteps", fn := fun _ => fun
  | [d1, d2, d3, d4] => { results := [.lit (.bool false)], args := [d1, d2, d3, d4] }
  | _ => none }
def DeltaStepsWrongFalsely : Prop := deltaStepsRow.holds Try.pinned (OpenSpec.ofChange deltaStepsWrong)

/-- 'sacristylaw06.DeltaSelf': WHATEVER THE INPUT: true; the input reads as it did. -/
def deltaSelfSpec : ChangeSpec := { name := "deltaSelf", fn := fun _ => fun
  | [d1, d2] => { results := [.lit (.bool true)], args := [d1, d2] }
  | _ => none }
def deltaSelfRow : OpenClaim := { program := "yticagpejankjcaa", sum := "a83c1b0cb2b3819841e00fcf0063fb3b3dc824da3c170b5b8c2d0629f612a9e2", func := "sacristy/sacristylaw06.DeltaSelf", spec := "deltaSelf", inPlace := ["internal/abi.NoEscape", "internal/reflectlite.TypeOf"], unfollowed := true, recurses := true, apart := false }
def DeltaSelfSaid : Prop := deltaSelfRow.holds Try.pinned (OpenSpec.ofChange deltaSelfSpec)

/-- ITS FALSE NEIGHBOUR: 'it returns false'. Refute it at one input. -/
def deltaSelfWrong : ChangeSpec := { name := "deltaSelf", fn := fun _ => fun
  | [d1, d2] => { results := [.lit (.bool false)], args := [d1, d2] }
  | _ => none }
def DeltaSelfWrongFalsely : Prop := deltaSelfRow.holds Try.pinned (OpenSpec.ofChange deltaSelfWrong)

/-- 'sacristylaw06.DeltaOther': WHATEVER THE INPUT: true; the input reads as it did. -/
def deltaOtherSpec : ChangeSpec := { name := "deltaOther", fn := fun _ => fun
  | [d1, d2, d3] => { results := [.lit (.bool true)], args := [d1, d2, d3] }
  | _ => none }
def deltaOtherRow : OpenClaim := { program := "yticagpejankjcaa", sum := "a83c1b0cb2b3819841e00fcf0063fb3b3dc824da3c170b5b8c2d0629f612a9e2", func := "sacristy/sacristylaw06.DeltaOther", spec := "deltaOther", inPlace := ["internal/abi.NoEscape", "internal/reflectlite.TypeOf"], unfollowed := true, recurses := true, apart := false }
def DeltaOtherSaid : Prop := deltaOtherRow.holds Try.pinned (OpenSpec.ofChange deltaOtherSpec)

/-- ITS FALSE NEIGHBOUR: 'it returns false'. Refute it at one input. -/
def deltaOtherWrong : ChangeSpec := { name := "deltaOther", fn := fun _ => fun
  | [d1, d2, d3] => { results := [.lit (.bool false)], args := [d1, d2, d3] }
  | _ => none }
def DeltaOtherWrongFalsely : Prop := deltaOtherRow.holds Try.pinned (OpenSpec.ofChange deltaOtherWrong)

/-- 'sacristylaw06.DeltaShort': WHATEVER THE INPUT: true; the input reads as it did. -/
def deltaShortSpec : ChangeSpec := { name := "deltaShort", fn := fun _ => fun
  | [d1, d2, d3] => { results := [.lit (.bool true)], args := [d1, d2, d3] }
  | _ => none }
def deltaShortRow : OpenClaim := { program := "yticagpejankjcaa", sum := "a83c1b0cb2b3819841e00fcf0063fb3b3dc824da3c170b5b8c2d0629f612a9e2", func := "sacristy/sacristylaw06.DeltaShort", spec := "deltaShort", inPlace := ["internal/abi.NoEscape", "internal/reflectlite.TypeOf"], unfollowed := true, recurses := true, apart := false }
def DeltaShortSaid : Prop := deltaShortRow.holds Try.pinned (OpenSpec.ofChange deltaShortSpec)

/-- ITS FALSE NEIGHBOUR: 'it returns false'. Refute it at one input. -/
def deltaShortWrong : ChangeSpec := { name := "deltaShort", fn := fun _ => fun
  | [d1, d2, d3] => { results := [.lit (.bool false)], args := [d1, d2, d3] }
  | _ => none }
def DeltaShortWrongFalsely : Prop := deltaShortRow.holds Try.pinned (OpenSpec.ofChange deltaShortWrong)

/- THE SECOND FORM. 'bulk': how many values and letters a reading holds, each counted each time it is reached (what is shared counts as often as it is met; a slice's spare places count too). A statement '..UptoSaid' is the law's where the arguments, and the package variables that the reading takes, are together of bulk at most 1048576: NARROWER than '..Said'. Prove '..Said' where nothing that the law and all that it calls make is longer than what came in: it says more and counts as full. Else prove '..UptoSaid'. A law counts once. -/
mutual
def uptoBulk {H : Type} : DataW H → Nat
  | .lit (.string bytes) => bytes.length + 1
  | .lit _ => 1
  | .nil => 1
  | .ptr d => uptoBulk d + 1
  | .slice elems spare => uptoBulkAll elems + uptoBulkAll spare + 1
  | .agg parts => uptoBulkAll parts + 1
  | .iface _ d => uptoBulk d + 1
  | .map entries => uptoBulkEntries entries + 1
  | .held _ => 1
def uptoBulkAll {H : Type} : List (DataW H) → Nat
  | [] => 0
  | d :: r => uptoBulk d + uptoBulkAll r
def uptoBulkEntries {H : Type} : List (Lit × DataW H) → Nat
  | [] => 0
  | x :: r => uptoBulkEntry x + uptoBulkEntries r
def uptoBulkEntry {H : Type} : Lit × DataW H → Nat
  | (.string bytes, d) => bytes.length + uptoBulk d + 1
  | (_, d) => uptoBulk d + 1
 end
def uptoSmall : (H : Type) → List (DataW H) → Bool := fun _ ds => decide (uptoBulkAll ds ≤ 1048576)
def OpenSpec.upto (s : _root_.Go.ChangeSpec) : _root_.Go.OpenSpec := { _root_.Go.OpenSpec.ofChange s with cond := some uptoSmall }

/-- 'sacristylaw06.DeltaTells', WHERE WHAT IT READS IS OF BULK AT MOST 1048576: true; the input reads as it did. -/
def deltaTellsUptoRow : OpenClaim := { program := "yticagpejankjcaa", sum := "a83c1b0cb2b3819841e00fcf0063fb3b3dc824da3c170b5b8c2d0629f612a9e2", func := "sacristy/sacristylaw06.DeltaTells", spec := "deltaTells", inPlace := ["internal/abi.NoEscape", "internal/reflectlite.TypeOf"], unfollowed := true, recurses := true, apart := false, narrowed := true }
def DeltaTellsUptoSaid : Prop := deltaTellsUptoRow.holds Try.pinned (OpenSpec.upto deltaTellsSpec)

/-- 'sacristylaw06.DeltaBack', WHERE WHAT IT READS IS OF BULK AT MOST 1048576: true; the input reads as it did. -/
def deltaBackUptoRow : OpenClaim := { program := "yticagpejankjcaa", sum := "a83c1b0cb2b3819841e00fcf0063fb3b3dc824da3c170b5b8c2d0629f612a9e2", func := "sacristy/sacristylaw06.DeltaBack", spec := "deltaBack", inPlace := ["internal/abi.NoEscape", "internal/reflectlite.TypeOf"], unfollowed := true, recurses := true, apart := false, narrowed := true }
def DeltaBackUptoSaid : Prop := deltaBackUptoRow.holds Try.pinned (OpenSpec.upto deltaBackSpec)

/-- 'sacristylaw06.DeltaSteps', WHERE WHAT IT READS IS OF BULK AT MOST 1048576: true; the input reads as it did. -/
def deltaStepsUptoRow : OpenClaim := { program := "yticagpejankjcaa", sum := "a83c1b0cb2b3819841e00fcf0063fb3b3dc824da3c170b5b8c2d0629f612a9e2", func := "sacristy/sacristylaw06.DeltaSteps", spec := "deltaSteps", inPlace := ["internal/abi.NoEscape", "internal/reflectlite.TypeOf"], unfollowed := true, recurses := true, apart := false, narrowed := true }
def DeltaStepsUptoSaid : Prop := deltaStepsUptoRow.holds Try.pinned (OpenSpec.upto deltaStepsSpec)

/-- 'sacristylaw06.DeltaSelf', WHERE WHAT IT READS IS OF BULK AT MOST 1048576: true; the input reads as it did. -/
def deltaSelfUptoRow : OpenClaim := { program := "yticagpejankjcaa", sum := "a83c1b0cb2b3819841e00fcf0063fb3b3dc824da3c170b5b8c2d0629f612a9e2", func := "sacristy/sacristylaw06.DeltaSelf", spec := "deltaSelf", inPlace := ["internal/abi.NoEscape", "internal/reflectlite.TypeOf"], unfollowed := true, recurses := true, apart := false, narrowed := true }
def DeltaSelfUptoSaid : Prop := deltaSelfUptoRow.holds Try.pinned (OpenSpec.upto deltaSelfSpec)

/-- 'sacristylaw06.DeltaOther', WHERE WHAT IT READS IS OF BULK AT MOST 1048576: true; the input reads as it did. -/
def deltaOtherUptoRow : OpenClaim := { program := "yticagpejankjcaa", sum := "a83c1b0cb2b3819841e00fcf0063fb3b3dc824da3c170b5b8c2d0629f612a9e2", func := "sacristy/sacristylaw06.DeltaOther", spec := "deltaOther", inPlace := ["internal/abi.NoEscape", "internal/reflectlite.TypeOf"], unfollowed := true, recurses := true, apart := false, narrowed := true }
def DeltaOtherUptoSaid : Prop := deltaOtherUptoRow.holds Try.pinned (OpenSpec.upto deltaOtherSpec)

/-- 'sacristylaw06.DeltaShort', WHERE WHAT IT READS IS OF BULK AT MOST 1048576: true; the input reads as it did. -/
def deltaShortUptoRow : OpenClaim := { program := "yticagpejankjcaa", sum := "a83c1b0cb2b3819841e00fcf0063fb3b3dc824da3c170b5b8c2d0629f612a9e2", func := "sacristy/sacristylaw06.DeltaShort", spec := "deltaShort", inPlace := ["internal/abi.NoEscape", "internal/reflectlite.TypeOf"], unfollowed := true, recurses := true, apart := false, narrowed := true }
def DeltaShortUptoSaid : Prop := deltaShortUptoRow.holds Try.pinned (OpenSpec.upto deltaShortSpec)

end Rows
end Go.Proofs.Yticagpejankjcaa
