/- Joined texts: Mp1. No condition but what stands in each. -/
import Derived.Maps.OwnSet
import Derived.Maps.Ext
import Derived.Sort.KeysCollected
import Derived.Below
import Derived.Test.YtefefhhaopjccaaGreatDoorProg
import Derived.Deep.Draws
import Derived.Deep.AppendLies
import Derived.Maps.AppendAt
import Derived.OwnWalk
import Derived.Laws.BytesArg
import Derived.Laws.MakeOwn
import Derived.Laws.OwnMore
import Derived.Deep.OwnRows
import Derived.Tactics
import Derived.Lib.ConvBytes
import Derived.Laws.Slices
import Derived.WalkKit
import Derived.KernelRfl
import Derived.RowKit3
import Derived.Deep.LoopGhost
import Derived.Deep.QuietTactic
import Derived.BigQuiet
import Derived.WideLaws
import Derived.Deep.DeepCutAuto
import Derived.Deep.CutBlock
import Derived.Deep.RegionHeld3
import Derived.Laws.Rows
import Derived.Lib.AppendStr
import Derived.ArgAppend
import Derived.Laws.IdiomCopy
import Derived.OrdersHeld
import Derived.Laws.BitsLemmas
import Derived.RowKit
import Derived.Test.YtefefhhaopjccaaGreatDoorZObjectOrderJ3
import Derived.BigRegion
import Derived.Shelf.Abstract
import Derived.Shelf.SlIter.Nil
import Derived.Shelf.SortM.Plain
import Derived.Shelf.SortM.SortNone
import Derived.Test.YtefefhhaopjccaaGreatDoorZObjectOrderJ1
namespace Go.Proofs.YtefefhhaopjccaaGreatDoor.Mp
set_option linter.unusedVariables false
set_option linter.unusedSimpArgs false
open Go Go.RowKit Go.Maps Go.ChangeMaps Go.MapKept
open Go.Proofs (encStr)
abbrev VD := DataW Value
def RV (v : Value) : Option (VD × List MemPlace) := some (.held v, [])
def kl (s : ByteArray) : Lit := .string s.data.toList
theorem kl_inj {s t : ByteArray} (h : kl s = kl t) : s = t := by
  unfold kl at h
  injection h with h
  exact ByteArray.ext (Array.ext' h)
theorem kl_key (s : ByteArray) : WideAt.IsKeyLit (kl s) := by
  unfold kl WideAt.IsKeyLit
  simp
theorem kl_of {P : Program} {k : TypeId} (hk : P.underlying k = some .string) {s : ByteArray} (hs : s.size ≤ maxLen) : keyOf P k (.string s) = some (kl s) := by
  unfold kl
  simp [keyOf, hk, mapKey, hs]
def MapOf (P : Program) (k : TypeId) (w : World) (b n : Nat) (m : ByteArray → Option Value) : Prop :=
  ∃ D : VD, w.ownsMap P k RV b n D ∧ ∀ s z, D.atKey (kl s) z = (match m s with | some v => .held v | none => z)
variable {P : Program} {k : TypeId} {w : World} {b n : Nat} {m : ByteArray → Option Value}
theorem MapOf.lt (h : MapOf P k w b n m) : b < w.heap.size := by
  obtain ⟨D, h, _⟩ := h
  exact h.lt
theorem MapOf.move (h : MapOf P k w b n m) {w' : World} (hb : w'.heap[b]? = w.heap[b]?) : MapOf P k w' b n m := by
  obtain ⟨D, ⟨es, clock, h1, h2⟩, h'⟩ := h
  exact ⟨D, ⟨es, clock, hb.trans h1, h2⟩, h'⟩
theorem MapOf.below (h : MapOf P k w b n m) {w' : World} (hb : Below w.heap.size w w') : MapOf P k w' b n m := h.move (hb.block b h.lt)
theorem MapOf.alloc (h : MapOf P k w b n m) (o : Obj) : MapOf P k (w.alloc o) b n m := h.below ((Below.refl _ _).alloc (Nat.le_refl _) _)
theorem mapOf_made (w : World) (P : Program) (k : TypeId) : MapOf P k (w.alloc (.map #[] 0)) w.heap.size 0 (fun _ => none) :=
  ⟨_, World.ownsMap_made w P k RV, fun s z => rfl⟩
theorem turned_size {w w' : World} (h : w.mapTurned w' b) : w'.heap.size = w.heap.size := by
  obtain ⟨es, clock, es', clock', hbk, rfl⟩ := h
  simp [setBlock]
theorem turned_below {base : Nat} {w w' : World} (h : w.mapTurned w' b) (hb : base ≤ b) : Below base w w' := by
  have hg := h.grown
  exact ⟨hg.os, hg.tape, hg.output, hg.size, fun i hi => by
    by_cases hl : i < w.heap.size
    · exact hg.block i hl (fun e => by cases e; omega)
    · have hs := turned_size h
      rw [Array.getElem?_eq_none (by omega), Array.getElem?_eq_none (by omega)]⟩
theorem turned_other {w w' : World} (h : w.mapTurned w' b) {i : Nat} (hi : i ≠ b) : w'.heap[i]? = w.heap[i]? := by
  obtain ⟨es, clock, es', clock', hbk, rfl⟩ := h
  exact heap_setBlock_other hbk _ hi
theorem MapOf.run_look (hown : MapOf P k w b n m) {t e : TypeId} (hk : P.underlying k = some .string) (ht : P.underlying t = some (.map k e)) {z : Value} (hz : (zeroValue e).run P w = .ok z w) {s : ByteArray} (hs : s.size ≤ maxLen) {val : Value} (hval : (m s).getD z = val) :
    (Instr.lookup t (.map (some b)) (.string s) false).run P w = .ok val w := by
  subst hval
  obtain ⟨D, hown, hD⟩ := hown
  obtain ⟨v, ps, hrun, hv⟩ := hown.lookup (string_keyed hk) ht hz (zd := .held z) (zp := []) rfl (kl_of hk hs)
  have hv' : v = (m s).getD z := by
    rw [hD] at hv
    cases hm : m s with
    | none => rw [hm] at hv; simp [RV] at hv; exact hv.1
    | some u => rw [hm] at hv; simp [RV] at hv; exact hv.1
  rw [← hv']; exact hrun
section ops
variable (w : World) {ops : Array Oper} {rest : List Oper} {o : Oper} {a : Act} {Q : Exit → Act → World → Prop}
theorem wpList_look (hg : o.guard = none) (mo x : Operand) (t : TypeId) (hop : o.op = Op.lookup t mo x false) (k e : TypeId) (hk : P.underlying k = some .string) (ht : P.underlying t = some (.map k e)) (z : Value) (hz : (zeroValue e).run P w = .ok z w) (b n : Nat) (m : ByteArray → Option Value)
    (hm : a.eval mo = .map (some b)) (hown : MapOf P k w b n m) (s : ByteArray) (hx : a.eval x = .string s) (hs : s.size ≤ maxLen) (val : Value) (hval : (m s).getD z = val)
    (hK : wpList P ops Q rest (a.put o.dst val) w) : wpList P ops Q (o :: rest) a w := by
  subst hval
  refine wpList_plain hg fun K' hK' => ?_
  obtain ⟨D, hown, hD⟩ := hown
  obtain ⟨v, ps, hrun, hv⟩ := hown.lookup (string_keyed hk) ht hz (zd := .held z) (zp := []) rfl (kl_of hk hs)
  have hv' : v = (m s).getD z := by
    rw [hD] at hv
    cases hm : m s with
    | none => rw [hm] at hv; simp [RV] at hv; exact hv.1
    | some u => rw [hm] at hv; simp [RV] at hv; exact hv.1
  subst hv'
  unfold Oper.wp
  simp [execOp, hop, hm, hx, hrun, Result.andThen]
  exact hK' _ _ hK
def put (m : ByteArray → Option Value) (s : ByteArray) (v : Value) : ByteArray → Option Value := fun x => if x = s then some v else m x
theorem wpList_store (hg : o.guard = none) (mo x v : Operand) (t : TypeId) (hop : o.op = Op.mapUpdate t mo x v) (k e : TypeId) (hk : P.underlying k = some .string) (ht : P.underlying t = some (.map k e)) (b n : Nat) (m : ByteArray → Option Value)
    (hm : a.eval mo = .map (some b)) (hown : MapOf P k w b n m) (hn : n < maxLen) (s : ByteArray) (val : Value) (hx : a.eval x = .string s) (hv : a.eval v = val) (hs : s.size ≤ maxLen)
    (hK : ∀ w', MapOf P k w' b (n + 1) (put m s val) → w.mapTurned w' b → wpList P ops Q rest (a.put o.dst undef) w') : wpList P ops Q (o :: rest) a w := by
  refine wpList_plain hg fun K' hK' => ?_
  obtain ⟨D, hown, hD⟩ := hown
  obtain ⟨w', hrun, r1, r2⟩ := hown.store (string_keyed hk) ht hn (kl_of hk hs) (val := val) (d := .held val) (ps := []) rfl
  unfold Oper.wp
  simp [execOp, hop, hm, hx, hv, hrun, Result.andThen]
  refine hK' _ _ (hK w' ⟨_, r1, fun y z => ?_⟩ r2)
  unfold put
  by_cases e : y = s
  · subst e
    rw [if_pos rfl, atKey_put_same hown.isMap (kl_key _)]
  · rw [if_neg e, atKey_put_other (fun h => e (kl_inj h)), hD]
end ops
end Go.Proofs.YtefefhhaopjccaaGreatDoor.Mp
