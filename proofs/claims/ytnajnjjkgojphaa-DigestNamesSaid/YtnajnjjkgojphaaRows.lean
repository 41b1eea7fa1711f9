/-
  No cell of these rows narrows 'for every input' (looked for: loops, veiled, ifaces, maps, wideKeys, modest, calm, conditions, laid).
  DERIVED. THE GIVEN ROWS OF THIS SEAT. 6 by the template 'for every input the law returns true; each argument reads behind the call as it read before'; 0 by the template 'total and deterministic' (their statements: YtnajnjjkgojphaaTotals.lean).
  GIVEN WITH THE SEED: the statements are not yours to turn. If you find one false, say at which input.
  Laid BY PROGRAM, IN A SANDBOX (cutbox-rows.mjs): the forced cells as the released guide's own fill.sh prints them over the translation 77de3458b9e7f5c6… (all of the seat's roots in one cut). By AI agents, Wed Nov 11 2026. No macro, syntax, notation, axiom, sorry.
-/
import Derived.Test.YtnajnjjkgojphaaChecked
import GoSem.Claim
import GoSem.ClaimJoined
import GoSem.ClaimMapViews
import Derived.JoinedTies
import Derived.KernelRfl
namespace Go.Proofs.Ytnajnjjkgojphaa
/- THE CELL 'sum', in the pinned program and in every row, IS THE sha256 OF THE DUMP (.gsa) THAT YtnajnjjkgojphaaProg.lean LOADS. Nothing in Lean hashes anything: it is a label: what it is worth is what the hold of that sum in a sandbox is worth. -/
noncomputable def Try.pinned : Pinned := { name := "ytnajnjjkgojphaa", sum := "77de3458b9e7f5c6c7d41ebc947e8dec7b79376a532c752d2ddb8272db2cdf56", checked := Try.checked }
namespace Rows
def none {H : Type} : Left H := { results := [], args := [] }

/-- 'sacristylaw02.DigestTells': WHATEVER THE INPUT: true; the input reads as it did. -/
def digestTellsSpec : ChangeSpec := { name := "digestTells", fn := fun _ => fun
  | [d1, d2] => { results := [.lit (.bool true)], args := [d1, d2] }
  | _ => none }
def digestTellsRow : OpenClaim := { program := "ytnajnjjkgojphaa", sum := "77de3458b9e7f5c6c7d41ebc947e8dec7b79376a532c752d2ddb8272db2cdf56", func := "sacristy/sacristylaw02.DigestTells", spec := "digestTells", apart := false }
def DigestTellsSaid : Prop := digestTellsRow.holds Try.pinned (OpenSpec.ofChange digestTellsSpec)

/-- ITS FALSE NEIGHBOUR: 'it returns false'. Refute it at one input. -/
def digestTellsWrong : ChangeSpec := { name := "digestTells", fn := fun _ => fun
  | [d1, d2] => { results := [.lit (.bool false)], args := [d1, d2] }
  | _ => none }
def DigestTellsWrongFalsely : Prop := digestTellsRow.holds Try.pinned (OpenSpec.ofChange digestTellsWrong)

/-- 'sacristylaw02.DigestNames': WHATEVER THE INPUT: true; the input reads as it did. -/
def digestNamesSpec : ChangeSpec := { name := "digestNames", fn := fun _ => fun
  | [d1, d2, d3] => { results := [.lit (.bool true)], args := [d1, d2, d3] }
  | _ => none }
def digestNamesRow : OpenClaim := { program := "ytnajnjjkgojphaa", sum := "77de3458b9e7f5c6c7d41ebc947e8dec7b79376a532c752d2ddb8272db2cdf56", func := "sacristy/sacristylaw02.DigestNames", spec := "digestNames", apart := false }
def DigestNamesSaid : Prop := digestNamesRow.holds Try.pinned (OpenSpec.ofChange digestNamesSpec)

/-- ITS FALSE NEIGHBOUR: 'it returns false'. Refute it at one input. -/
def digestNamesWrong : ChangeSpec := { name := "digestNames", fn := fun _ => fun
  | [d1, d2, d3] => { results := [.lit (.bool false)], args := [d1, d2, d3] }
  | _ => none }
def DigestNamesWrongFalsely : Prop := digestNamesRow.holds Try.pinned (OpenSpec.ofChange digestNamesWrong)

/-- 'sacristylaw02.DigestPads': WHATEVER THE INPUT: true; the input reads as it did. -/
def digestPadsSpec : ChangeSpec := { name := "digestPads", fn := fun _ => fun
  | [d1, d2, d3] => { results := [.lit (.bool true)], args := [d1, d2, d3] }
  | _ => none }
def digestPadsRow : OpenClaim := { program := "ytnajnjjkgojphaa", sum := "77de3458b9e7f5c6c7d41ebc947e8dec7b79376a532c752d2ddb8272db2cdf56", func := "sacristy/sacristylaw02.DigestPads", spec := "digestPads", apart := false }
def DigestPadsSaid : Prop := digestPadsRow.holds Try.pinned (OpenSpec.ofChange digestPadsSpec)

/-- ITS FALSE NEIGHBOUR: 'it returns false'. Refute it at one input. -/
def digestPadsWrong : ChangeSpec := { name := "digestPads", fn := fun _ => fun
  | [d1, d2, d3] => { results := [.lit (.bool false)], args := [d1, d2, d3] }
  | _ => none }
def DigestPadsWrongFalsely : Prop := digestPadsRow.holds Try.pinned (OpenSpec.ofChange digestPadsWrong)

/-- 'sacristylaw02.DigestWords': WHATEVER THE INPUT: true; the input reads as it did. -/
def digestWordsSpec : ChangeSpec := { name := "digestWords", fn := fun _ => fun
  | [d1, d2] => { results := [.lit (.bool true)], args := [d1, d2] }
  | _ => none }
def digestWordsRow : OpenClaim := { program := "ytnajnjjkgojphaa", sum := "77de3458b9e7f5c6c7d41ebc947e8dec7b79376a532c752d2ddb8272db2cdf56", func := "sacristy/sacristylaw02.DigestWords", spec := "digestWords", apart := false }
def DigestWordsSaid : Prop := digestWordsRow.holds Try.pinned (OpenSpec.ofChange digestWordsSpec)

/-- ITS FALSE NEIGHBOUR: 'it returns false'. Refute it at one input. -/
def digestWordsWrong : ChangeSpec := { name := "digestWords", fn := fun _ => fun
  | [d1, d2] => { results := [.lit (.bool false)], args := [d1, d2] }
  | _ => none }
def DigestWordsWrongFalsely : Prop := digestWordsRow.holds Try.pinned (OpenSpec.ofChange digestWordsWrong)

/-- 'sacristylaw02.DigestStill': WHATEVER THE INPUT: true; the input reads as it did. -/
def digestStillSpec : ChangeSpec := { name := "digestStill", fn := fun _ => fun
  | [d] => { results := [.lit (.bool true)], args := [d] }
  | _ => none }
def digestStillRow : OpenClaim := { program := "ytnajnjjkgojphaa", sum := "77de3458b9e7f5c6c7d41ebc947e8dec7b79376a532c752d2ddb8272db2cdf56", func := "sacristy/sacristylaw02.DigestStill", spec := "digestStill", apart := false }
def DigestStillSaid : Prop := digestStillRow.holds Try.pinned (OpenSpec.ofChange digestStillSpec)

/-- ITS FALSE NEIGHBOUR: 'it returns false'. Refute it at one input. -/
def digestStillWrong : ChangeSpec := { name := "digestStill", fn := fun _ => fun
  | [d] => { results := [.lit (.bool false)], args := [d] }
  | _ => none }
def DigestStillWrongFalsely : Prop := digestStillRow.holds Try.pinned (OpenSpec.ofChange digestStillWrong)

/-- 'sacristylaw02.DigestLong': WHATEVER THE INPUT: true; the input reads as it did. -/
def digestLongSpec : ChangeSpec := { name := "digestLong", fn := fun _ => fun
  | [d1, d2, d3] => { results := [.lit (.bool true)], args := [d1, d2, d3] }
  | _ => none }
def digestLongRow : OpenClaim := { program := "ytnajnjjkgojphaa", sum := "77de3458b9e7f5c6c7d41ebc947e8dec7b79376a532c752d2ddb8272db2cdf56", func := "sacristy/sacristylaw02.DigestLong", spec := "digestLong", apart := false }
def DigestLongSaid : Prop := digestLongRow.holds Try.pinned (OpenSpec.ofChange digestLongSpec)

/-- ITS FALSE NEIGHBOUR: 'it returns false'. Refute it at one input. -/
def digestLongWrong : ChangeSpec := { name := "digestLong", fn := fun _ => fun
  | [d1, d2, d3] => { results := [.lit (.bool false)], args := [d1, d2, d3] }
  | _ => none }
def DigestLongWrongFalsely : Prop := digestLongRow.holds Try.pinned (OpenSpec.ofChange digestLongWrong)

/- THE SECOND FORM. 'bulk': how many values and letters a reading holds, each counted each time it is reached (what is shared counts as often as it is met; a slice's spare places count too). A statement '..UptoSaid' is the law's where the arguments, and the package variables that the reading takes, are together of bulk at most 1048576: NARROWER than '..Said'. Prove '..Said' where nothing that the law and all that it calls make is longer than what came in: it says more and counts as full. Else prove '..UptoSaid'. A law counts once. -/
mutual
def uptoBulk {H : Type} : DataW H → Nat
  | .lit (.string bytes) => bytes.length + 1
  | .lit _ => 1
  | .nil => 1
  | .ptr d => uptoBulk d + 1
  | .slice elems spare => uptoBulkAll elems + uptoBulkAll spare + 1
  | .agg parts => uptoBulkAll parts + 1
  | .iface _ d => uptoBulk d + 1
  | .map entries => uptoBulkEntries entries + 1
  | .held _ => 1
def uptoBulkAll {H : Type} : List (DataW H) → Nat
  | [] => 0
  | d :: r => uptoBulk d + uptoBulkAll r
def uptoBulkEntries {H : Type} : List (Lit × DataW H) → Nat
  | [] => 0
  | x :: r => uptoBulkEntry x + uptoBulkEntries r
def uptoBulkEntry {H : Type} : Lit × DataW H → Nat
  | (.string bytes, d) => bytes.length + uptoBulk d + 1
  | (_, d) => uptoBulk d + 1
 end
def uptoSmall : (H : Type) → List (DataW H) → Bool := fun _ ds => decide (uptoBulkAll ds ≤ 1048576)
def OpenSpec.upto (s : _root_.Go.ChangeSpec) : _root_.Go.OpenSpec := { _root_.Go.OpenSpec.ofChange s with cond := some uptoSmall }

/-- 'sacristylaw02.DigestTells', WHERE WHAT IT READS IS OF BULK AT MOST 1048576: true; the input reads as it did. -/
def digestTellsUptoRow : OpenClaim := { program := "ytnajnjjkgojphaa", sum := "77de3458b9e7f5c6c7d41ebc947e8dec7b79376a532c752d2ddb8272db2cdf56", func := "sacristy/sacristylaw02.DigestTells", spec := "digestTells", apart := false, narrowed := true }
def DigestTellsUptoSaid : Prop := digestTellsUptoRow.holds Try.pinned (OpenSpec.upto digestTellsSpec)

/-- 'sacristylaw02.DigestNames', WHERE WHAT IT READS IS OF BULK AT MOST 1048576: true; the input reads as it did. -/
def digestNamesUptoRow : OpenClaim := { program := "ytnajnjjkgojphaa", sum := "77de3458b9e7f5c6c7d41ebc947e8dec7b79376a532c752d2ddb8272db2cdf56", func := "sacristy/sacristylaw02.DigestNames", spec := "digestNames", apart := false, narrowed := true }
def DigestNamesUptoSaid : Prop := digestNamesUptoRow.holds Try.pinned (OpenSpec.upto digestNamesSpec)

/-- 'sacristylaw02.DigestPads', WHERE WHAT IT READS IS OF BULK AT MOST 1048576: true; the input reads as it did. -/
def digestPadsUptoRow : OpenClaim := { program := "ytnajnjjkgojphaa", sum := "77de3458b9e7f5c6c7d41ebc947e8dec7b79376a532c752d2ddb8272db2cdf56", func := "sacristy/sacristylaw02.DigestPads", spec := "digestPads", apart := false, narrowed := true }
def DigestPadsUptoSaid : Prop := digestPadsUptoRow.holds Try.pinned (OpenSpec.upto digestPadsSpec)

/-- 'sacristylaw02.DigestWords', WHERE WHAT IT READS IS OF BULK AT MOST 1048576: true; the input reads as it did. -/
def digestWordsUptoRow : OpenClaim := { program := "ytnajnjjkgojphaa", sum := "77de3458b9e7f5c6c7d41ebc947e8dec7b79376a532c752d2ddb8272db2cdf56", func := "sacristy/sacristylaw02.DigestWords", spec := "digestWords", apart := false, narrowed := true }
def DigestWordsUptoSaid : Prop := digestWordsUptoRow.holds Try.pinned (OpenSpec.upto digestWordsSpec)

/-- 'sacristylaw02.DigestStill', WHERE WHAT IT READS IS OF BULK AT MOST 1048576: true; the input reads as it did. -/
def digestStillUptoRow : OpenClaim := { program := "ytnajnjjkgojphaa", sum := "77de3458b9e7f5c6c7d41ebc947e8dec7b79376a532c752d2ddb8272db2cdf56", func := "sacristy/sacristylaw02.DigestStill", spec := "digestStill", apart := false, narrowed := true }
def DigestStillUptoSaid : Prop := digestStillUptoRow.holds Try.pinned (OpenSpec.upto digestStillSpec)

/-- 'sacristylaw02.DigestLong', WHERE WHAT IT READS IS OF BULK AT MOST 1048576: true; the input reads as it did. -/
def digestLongUptoRow : OpenClaim := { program := "ytnajnjjkgojphaa", sum := "77de3458b9e7f5c6c7d41ebc947e8dec7b79376a532c752d2ddb8272db2cdf56", func := "sacristy/sacristylaw02.DigestLong", spec := "digestLong", apart := false, narrowed := true }
def DigestLongUptoSaid : Prop := digestLongUptoRow.holds Try.pinned (OpenSpec.upto digestLongSpec)

end Rows
end Go.Proofs.Ytnajnjjkgojphaa
