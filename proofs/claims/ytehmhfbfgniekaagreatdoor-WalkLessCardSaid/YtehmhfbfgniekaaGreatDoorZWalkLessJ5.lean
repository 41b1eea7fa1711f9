/- Joined texts: Mp1, WkM1, WkBy, WkFind, WkClone, WkKeys, WkJoin, WkSort. No condition but what stands in each. -/
import Derived.Maps.OwnSet
import Derived.Maps.Ext
import Derived.Sort.KeysCollected
import Derived.Below
import Derived.Test.YtehmhfbfgniekaaGreatDoorProg
import Derived.Deep.Draws
import Derived.Deep.AppendLies
import Derived.Maps.AppendAt
import Derived.OwnWalk
import Derived.Laws.BytesArg
import Derived.Laws.MakeOwn
import Derived.Laws.OwnMore
import Derived.Deep.OwnRows
import Derived.Tactics
import Derived.Lib.ConvBytes
import Derived.Laws.Slices
import Derived.WalkKit
import Derived.KernelRfl
import Derived.RowKit3
import Derived.Deep.LoopGhost
import Derived.Deep.QuietTactic
import Derived.BigQuiet
import Derived.WideLaws
import Derived.Deep.DeepCutAuto
import Derived.Deep.CutBlock
import Derived.Deep.RegionHeld3
import Derived.Laws.Rows
import Derived.Lib.AppendStr
import Derived.ArgAppend
import Derived.Laws.IdiomCopy
import Derived.OrdersHeld
import Derived.Laws.BitsLemmas
import Derived.RowKit
import Derived.Test.YtehmhfbfgniekaaGreatDoorZWalkLessJ2
import Derived.BigRegion
import Derived.Shelf.Abstract
import Derived.Shelf.SlIter.Nil
import Derived.Shelf.SortM.Plain
import Derived.Shelf.SortM.SortNone
import Derived.Test.YtehmhfbfgniekaaGreatDoorZWalkLessJ4
import Derived.Test.YtehmhfbfgniekaaGreatDoorZWalkLessJ3
import Derived.Lib.SliceRun
import Derived.Sort.OwnSorted
namespace Go.Proofs.YtehmhfbfgniekaaGreatDoor.Mp
set_option linter.unusedVariables false
set_option linter.unusedSimpArgs false
open Go Go.RowKit Go.Maps Go.ChangeMaps Go.MapKept
open Go.Proofs (encStr)
abbrev VD := DataW Value
def RV (v : Value) : Option (VD × List MemPlace) := some (.held v, [])
def kl (s : ByteArray) : Lit := .string s.data.toList
theorem kl_inj {s t : ByteArray} (h : kl s = kl t) : s = t := by
  unfold kl at h
  injection h with h
  exact ByteArray.ext (Array.ext' h)
theorem kl_key (s : ByteArray) : WideAt.IsKeyLit (kl s) := by
  unfold kl WideAt.IsKeyLit
  simp
theorem kl_of {P : Program} {k : TypeId} (hk : P.underlying k = some .string) {s : ByteArray} (hs : s.size ≤ maxLen) : keyOf P k (.string s) = some (kl s) := by
  unfold kl
  simp [keyOf, hk, mapKey, hs]
def MapOf (P : Program) (k : TypeId) (w : World) (b n : Nat) (m : ByteArray → Option Value) : Prop :=
  ∃ D : VD, w.ownsMap P k RV b n D ∧ ∀ s z, D.atKey (kl s) z = (match m s with | some v => .held v | none => z)
variable {P : Program} {k : TypeId} {w : World} {b n : Nat} {m : ByteArray → Option Value}
theorem MapOf.lt (h : MapOf P k w b n m) : b < w.heap.size := by
  obtain ⟨D, h, _⟩ := h
  exact h.lt
theorem MapOf.move (h : MapOf P k w b n m) {w' : World} (hb : w'.heap[b]? = w.heap[b]?) : MapOf P k w' b n m := by
  obtain ⟨D, ⟨es, clock, h1, h2⟩, h'⟩ := h
  exact ⟨D, ⟨es, clock, hb.trans h1, h2⟩, h'⟩
theorem MapOf.below (h : MapOf P k w b n m) {w' : World} (hb : Below w.heap.size w w') : MapOf P k w' b n m := h.move (hb.block b h.lt)
theorem MapOf.far (h : MapOf P k w b n m) {p : Addr} (hb : b ≠ p.block) (u : Value) : MapOf P k (w.setCell p u) b n m := h.move (Below.heap_setCell w p u b hb)
theorem MapOf.alloc (h : MapOf P k w b n m) (o : Obj) : MapOf P k (w.alloc o) b n m := h.below ((Below.refl _ _).alloc (Nat.le_refl _) _)
theorem mapOf_made (w : World) (P : Program) (k : TypeId) : MapOf P k (w.alloc (.map #[] 0)) w.heap.size 0 (fun _ => none) :=
  ⟨_, World.ownsMap_made w P k RV, fun s z => rfl⟩
theorem turned_size {w w' : World} (h : w.mapTurned w' b) : w'.heap.size = w.heap.size := by
  obtain ⟨es, clock, es', clock', hbk, rfl⟩ := h
  simp [setBlock]
theorem turned_below {base : Nat} {w w' : World} (h : w.mapTurned w' b) (hb : base ≤ b) : Below base w w' := by
  have hg := h.grown
  exact ⟨hg.os, hg.tape, hg.output, hg.size, fun i hi => by
    by_cases hl : i < w.heap.size
    · exact hg.block i hl (fun e => by cases e; omega)
    · have hs := turned_size h
      rw [Array.getElem?_eq_none (by omega), Array.getElem?_eq_none (by omega)]⟩
theorem turned_other {w w' : World} (h : w.mapTurned w' b) {i : Nat} (hi : i ≠ b) : w'.heap[i]? = w.heap[i]? := by
  obtain ⟨es, clock, es', clock', hbk, rfl⟩ := h
  exact heap_setBlock_other hbk _ hi
theorem has_iff {D : VD} {m : ByteArray → Option Value} (hD : ∀ s z, D.atKey (kl s) z = (match m s with | some v => .held v | none => z)) (s : ByteArray) : has D (kl s) = (m s).isSome := by
  cases hm : m s with
  | none => exact has_false_of_atKey (fun z => by rw [hD, hm])
  | some v => exact has_true_of_atKey (y := .held v) (fun z => by rw [hD, hm])
theorem MapOf.run_look (hown : MapOf P k w b n m) {t e : TypeId} (hk : P.underlying k = some .string) (ht : P.underlying t = some (.map k e)) {z : Value} (hz : (zeroValue e).run P w = .ok z w) {s : ByteArray} (hs : s.size ≤ maxLen) {val : Value} (hval : (m s).getD z = val) :
    (Instr.lookup t (.map (some b)) (.string s) false).run P w = .ok val w := by
  subst hval
  obtain ⟨D, hown, hD⟩ := hown
  obtain ⟨v, ps, hrun, hv⟩ := hown.lookup (string_keyed hk) ht hz (zd := .held z) (zp := []) rfl (kl_of hk hs)
  have hv' : v = (m s).getD z := by
    rw [hD] at hv
    cases hm : m s with
    | none => rw [hm] at hv; simp [RV] at hv; exact hv.1
    | some u => rw [hm] at hv; simp [RV] at hv; exact hv.1
  rw [← hv']; exact hrun
theorem MapOf.run_look_ok (hown : MapOf P k w b n m) {t e : TypeId} (hk : P.underlying k = some .string) (ht : P.underlying t = some (.map k e)) {z : Value} (hz : (zeroValue e).run P w = .ok z w) {s : ByteArray} (hs : s.size ≤ maxLen) {val : Value} (hval : (m s).getD z = val) {is : Bool} (his : (m s).isSome = is) :
    (Instr.lookup t (.map (some b)) (.string s) true).run P w = .ok (.tuple #[val, .bool is]) w := by
  subst hval his
  obtain ⟨D, hown, hD⟩ := hown
  obtain ⟨v, ps, hrun, hv⟩ := hown.look_ok (string_keyed hk) ht hz (zd := .held z) (zp := []) rfl (kl_of hk hs)
  rw [has_iff hD] at hrun
  have hv' : v = (m s).getD z := by
    rw [hD] at hv
    cases hm : m s with
    | none => rw [hm] at hv; simp [RV] at hv; exact hv.1
    | some u => rw [hm] at hv; simp [RV] at hv; exact hv.1
  rw [← hv']; exact hrun
section ops
variable (w : World) {ops : Array Oper} {rest : List Oper} {o : Oper} {a : Act} {Q : Exit → Act → World → Prop}
theorem wpList_look (hg : o.guard = none) (mo x : Operand) (t : TypeId) (hop : o.op = Op.lookup t mo x false) (k e : TypeId) (hk : P.underlying k = some .string) (ht : P.underlying t = some (.map k e)) (z : Value) (hz : (zeroValue e).run P w = .ok z w) (b n : Nat) (m : ByteArray → Option Value)
    (hm : a.eval mo = .map (some b)) (hown : MapOf P k w b n m) (s : ByteArray) (hx : a.eval x = .string s) (hs : s.size ≤ maxLen) (val : Value) (hval : (m s).getD z = val)
    (hK : wpList P ops Q rest (a.put o.dst val) w) : wpList P ops Q (o :: rest) a w := by
  subst hval
  refine wpList_plain hg fun K' hK' => ?_
  obtain ⟨D, hown, hD⟩ := hown
  obtain ⟨v, ps, hrun, hv⟩ := hown.lookup (string_keyed hk) ht hz (zd := .held z) (zp := []) rfl (kl_of hk hs)
  have hv' : v = (m s).getD z := by
    rw [hD] at hv
    cases hm : m s with
    | none => rw [hm] at hv; simp [RV] at hv; exact hv.1
    | some u => rw [hm] at hv; simp [RV] at hv; exact hv.1
  subst hv'
  unfold Oper.wp
  simp [execOp, hop, hm, hx, hrun, Result.andThen]
  exact hK' _ _ hK
theorem wpList_look_ok (hg : o.guard = none) (mo x : Operand) (t : TypeId) (hop : o.op = Op.lookup t mo x true) (k e : TypeId) (hk : P.underlying k = some .string) (ht : P.underlying t = some (.map k e)) (z : Value) (hz : (zeroValue e).run P w = .ok z w) (b n : Nat) (m : ByteArray → Option Value)
    (hm : a.eval mo = .map (some b)) (hown : MapOf P k w b n m) (s : ByteArray) (hx : a.eval x = .string s) (hs : s.size ≤ maxLen) (val : Value) (hval : (m s).getD z = val) (is : Bool) (his : (m s).isSome = is)
    (hK : wpList P ops Q rest (a.put o.dst (.tuple #[val, .bool is])) w) : wpList P ops Q (o :: rest) a w := by
  subst hval his
  refine wpList_plain hg fun K' hK' => ?_
  obtain ⟨D, hown, hD⟩ := hown
  obtain ⟨v, ps, hrun, hv⟩ := hown.look_ok (string_keyed hk) ht hz (zd := .held z) (zp := []) rfl (kl_of hk hs)
  rw [has_iff hD] at hrun
  have hv' : v = (m s).getD z := by
    rw [hD] at hv
    cases hm : m s with
    | none => rw [hm] at hv; simp [RV] at hv; exact hv.1
    | some u => rw [hm] at hv; simp [RV] at hv; exact hv.1
  subst hv'
  unfold Oper.wp
  simp [execOp, hop, hm, hx, hrun, Result.andThen]
  exact hK' _ _ hK
def put (m : ByteArray → Option Value) (s : ByteArray) (v : Value) : ByteArray → Option Value := fun x => if x = s then some v else m x
theorem wpList_store (hg : o.guard = none) (mo x v : Operand) (t : TypeId) (hop : o.op = Op.mapUpdate t mo x v) (k e : TypeId) (hk : P.underlying k = some .string) (ht : P.underlying t = some (.map k e)) (b n : Nat) (m : ByteArray → Option Value)
    (hm : a.eval mo = .map (some b)) (hown : MapOf P k w b n m) (hn : n < maxLen) (s : ByteArray) (val : Value) (hx : a.eval x = .string s) (hv : a.eval v = val) (hs : s.size ≤ maxLen)
    (hK : ∀ w', MapOf P k w' b (n + 1) (put m s val) → w.mapTurned w' b → wpList P ops Q rest (a.put o.dst undef) w') : wpList P ops Q (o :: rest) a w := by
  refine wpList_plain hg fun K' hK' => ?_
  obtain ⟨D, hown, hD⟩ := hown
  obtain ⟨w', hrun, r1, r2⟩ := hown.store (string_keyed hk) ht hn (kl_of hk hs) (val := val) (d := .held val) (ps := []) rfl
  unfold Oper.wp
  simp [execOp, hop, hm, hx, hv, hrun, Result.andThen]
  refine hK' _ _ (hK w' ⟨_, r1, fun y z => ?_⟩ r2)
  unfold put
  by_cases e : y = s
  · subst e
    rw [if_pos rfl, atKey_put_same hown.isMap (kl_key _)]
  · rw [if_neg e, atKey_put_other (fun h => e (kl_inj h)), hD]
end ops
def bs (l : List UInt8) : ByteArray := ⟨l.toArray⟩
theorem bs_L (s : ByteArray) : bs s.data.toList = s := by unfold bs; apply ByteArray.ext; simp
theorem L_bs (l : List UInt8) : (bs l).data.toList = l := by simp [bs]
structure KeysOf (m : ByteArray → Option Value) (ks : List ByteArray) : Prop where
  rising : ks.Pairwise (fun x y => x.data.toList < y.data.toList)
  mem : ∀ s, s ∈ ks ↔ (m s).isSome = true
theorem keys_sorted {P : Program} {k : TypeId} (hk : P.underlying k = some .string) {w : World} {b n : Nat} {D : VD} {m : ByteArray → Option Value} (hown : w.ownsMap P k RV b n D) (hD : ∀ s z, D.atKey (kl s) z = (match m s with | some v => .held v | none => z)) {ss : List (List UInt8)} (hp : ss.Perm (strKeys D)) :
    KeysOf m ((ss.mergeSort (fun x y => decide (x ≤ y))).map bs) := by
  obtain ⟨es, rfl, hks⟩ := World.ownsMap.keysOf hown
  have hks' : ∀ p ∈ es, ∃ x, p.1 = .string x := fun p hp => by
    obtain ⟨v, hv⟩ := hks p hp
    obtain ⟨x, _, hx, _⟩ := Maps.keyOf_str hk hv
    exact ⟨x, hx⟩
  obtain ⟨es', he, hpw⟩ := World.ownsMap.tidy hown (string_keyed hk)
  cases he
  have hnd : (strKeys (.map es : VD)).Nodup := by
    show (es.map fun p => strOf p.1).Nodup
    refine List.pairwise_map.2 (hpw.imp_of_mem fun {p q} hp' hq' hne e => hne ?_)
    obtain ⟨a, ha⟩ := hks' p hp'
    obtain ⟨b, hb⟩ := hks' q hq'
    rw [ha, hb] at e ⊢
    exact congrArg _ e
  have hsp := List.mergeSort_perm ss (fun x y => decide (x ≤ y))
  have hnd2 := (hsp.trans hp).nodup_iff.2 hnd
  have hso : (ss.mergeSort (fun x y => decide (x ≤ y))).Pairwise (fun x y => decide (x ≤ y) = true) := by
    refine List.pairwise_mergeSort (fun a b c h1 h2 => ?_) (fun a b => ?_) ss
    · simp only [decide_eq_true_eq] at *; exact List.le_trans h1 h2
    · simp only [Bool.or_eq_true, decide_eq_true_eq]; exact List.le_total a b
  refine ⟨?_, fun s => ?_⟩
  · rw [List.pairwise_map]
    refine (hso.and hnd2).imp fun {x y} h => ?_
    rw [L_bs, L_bs]
    have h1 := of_decide_eq_true h.1
    exact Std.lt_of_le_of_ne h1 h.2
  · rw [← has_iff hD, List.mem_map]
    constructor
    · rintro ⟨x, hx, rfl⟩
      have hx' := (hsp.trans hp).mem_iff.1 hx
      obtain ⟨p, hp', rfl⟩ := List.mem_map.1 hx'
      obtain ⟨y, hy⟩ := hks' p hp'
      refine List.any_eq_true.2 ⟨p, hp', ?_⟩
      rw [hy]
      simp [kl, strOf, L_bs, Lit.sameKey]
    · intro h
      obtain ⟨p, hp', hs⟩ := List.any_eq_true.1 h
      obtain ⟨y, hy⟩ := hks' p hp'
      have e : p.1 = kl s := WideAt.sameKey_eq hs
      refine ⟨s.data.toList, (hsp.trans hp).mem_iff.2 (List.mem_map.2 ⟨p, hp', ?_⟩), bs_L s⟩
      rw [e]; rfl
end Go.Proofs.YtehmhfbfgniekaaGreatDoor.Mp

namespace Go.Proofs.YtehmhfbfgniekaaGreatDoor.Wk
set_option linter.unusedVariables false
set_option linter.unusedSimpArgs false
open Go Go.RowKit Go.Proofs.YtehmhfbfgniekaaGreatDoorW.PrintWords Go.Proofs.YtehmhfbfgniekaaGreatDoorW.PrintLast Go.Proofs.YtehmhfbfgniekaaGreatDoorW.PrintMore PWkB
abbrev Hd := S49
abbrev Ob1 := S30
def fnd (l : List Hd) (s : ByteArray) : Option Ob1 := (l.find? (fun x => decide (x.f0 = s))).map (·.f1)
def valO (o : Ob1) : Value := .agg #[.int .i64 o.f0, .string o.f1]
def bym (l : List Hd) : ByteArray → Option Value := fun s => (fnd l s).map valO
def Hsh (l : List Hd) : Prop := ∀ x ∈ l, x.f0.size ≤ 1000000000 ∧ x.f1.f1.size ≤ 400000000
theorem fnd_nil (s : ByteArray) : fnd [] s = none := rfl
theorem fnd_app (a b : List Hd) (s : ByteArray) : fnd (a ++ b) s = (fnd a s).or (fnd b s) := by
  unfold fnd
  rw [List.find?_append]
  cases a.find? (fun x => decide (x.f0 = s)) <;> rfl
theorem fnd_one (x : Hd) (s : ByteArray) : fnd [x] s = if s = x.f0 then some x.f1 else none := by
  unfold fnd
  by_cases e : s = x.f0
  · subst e; simp
  · rw [if_neg e, List.find?_cons_of_neg (by simpa using fun h => e h.symm)]; rfl
theorem fnd_cons (x : Hd) (l : List Hd) (s : ByteArray) : fnd (x :: l) s = if s = x.f0 then some x.f1 else fnd l s := by
  rw [show x :: l = [x] ++ l from rfl, fnd_app, fnd_one]
  split <;> rfl
theorem fnd_mem {l : List Hd} {s : ByteArray} {o : Ob1} (h : fnd l s = some o) : ∃ x ∈ l, x.f0 = s ∧ x.f1 = o := by
  unfold fnd at h
  cases hf : l.find? (fun x => decide (x.f0 = s)) with
  | none => rw [hf] at h; cases h
  | some x =>
    rw [hf] at h
    exact ⟨x, List.mem_of_find?_eq_some hf, by simpa using List.find?_some hf, Option.some.inj h⟩
theorem fnd_some {l : List Hd} {s : ByteArray} : (fnd l s).isSome = true ↔ s ∈ l.map (·.f0) := by
  induction l with
  | nil => simp [fnd_nil]
  | cons x l ih =>
    rw [fnd_cons, List.map_cons, List.mem_cons]
    by_cases e : s = x.f0
    · rw [if_pos e]; simp [e]
    · rw [if_neg e, ih]; simp [e]
theorem bym_snoc_some {l : List Hd} {y : Hd} {o : Ob1} (h : fnd l y.f0 = some o) : bym (l ++ [y]) = bym l := by
  funext s
  show (fnd (l ++ [y]) s).map valO = (fnd l s).map valO
  rw [fnd_app, fnd_one]
  by_cases e : s = y.f0
  · subst e; rw [h]; rfl
  · rw [if_neg e]; cases fnd l s <;> rfl
theorem bym_snoc_none {l : List Hd} {y : Hd} (h : fnd l y.f0 = none) : Mp.put (bym l) y.f0 (valO y.f1) = bym (l ++ [y]) := by
  funext s
  show (if s = y.f0 then some (valO y.f1) else (fnd l s).map valO) = (fnd (l ++ [y]) s).map valO
  rw [fnd_app, fnd_one]
  by_cases e : s = y.f0
  · subst e; rw [if_pos rfl, if_pos rfl, h]; rfl
  · rw [if_neg e, if_neg e]; cases fnd l s <;> rfl
theorem fz_at {w : World} {b : Nat} {cs : Array Value} {T : TypeId} (hk : w.heap[b]? = some (.cells cs T (0, 0))) (i : Nat) : w.frozen? ⟨b, i, none⟩ = false := by simp [World.frozen?, hk]
theorem set_other {w : World} {b k : Nat} (h : k ≠ b) (i : Nat) (v : Value) : (w.setCell ⟨b, i, none⟩ v).heap[k]? = w.heap[k]? := by
  show (w.heap.modify b _)[k]? = _
  rw [Array.getElem?_modify, if_neg (fun e => h e.symm)]
theorem set_one {w : World} {b : Nat} {x v : Value} {T : TypeId} {fr : Nat × Nat} (h : w.heap[b]? = some (.cells #[x] T fr)) : (w.setCell ⟨b, 0, none⟩ v).heap[b]? = some (.cells #[v] T fr) := by
  simp [World.setCell, Array.getElem?_modify, h]
theorem set_two {w : World} {b : Nat} {x y u v : Value} {T : TypeId} {fr : Nat × Nat} (h : w.heap[b]? = some (.cells #[x, y] T fr)) : ((w.setCell ⟨b, 0, none⟩ u).setCell ⟨b, 1, none⟩ v).heap[b]? = some (.cells #[u, v] T fr) := by
  simp [World.setCell, Array.getElem?_modify, h]
theorem below_new (W : World) (o : Obj) : Below W.heap.size W (W.alloc o) := (Below.refl _ _).alloc (Nat.le_refl _) _
theorem alloc_at {w : World} {b : Nat} {o : Obj} (h : w.heap[b]? = some o) (p : Obj) : (w.alloc p).heap[b]? = some o := ((below_new w p).block b (blk_lt h)).trans h
end Go.Proofs.YtehmhfbfgniekaaGreatDoor.Wk

namespace Go.Proofs.YtehmhfbfgniekaaGreatDoor.Wk
set_option linter.unusedVariables false
set_option linter.unusedSimpArgs false
open Go Go.RowKit Go.Proofs.YtehmhfbfgniekaaGreatDoorW.PrintWords Go.Proofs.YtehmhfbfgniekaaGreatDoorW.PrintLast Go.Proofs.YtehmhfbfgniekaaGreatDoorW.PrintMore PWkB Mp
def rd_LH (xs : List (List Hd)) (i : Int) : (List Hd) := xs.getD i.toNat ([] : List Hd)
theorem at_LH {w : World} {A : Option Addr} {n : Nat} {xs : List (List Hd)} (h : Kd.C (Kd.slice 49 k49) w A n xs) (i : Int) (h0 : 0 ≤ i) (h1 : i < n) : ∃ ad A0 c0, A = some ad ∧ w.cell? (ad.add i.toNat) = some (.slice A0 (rd_LH xs i).length c0) ∧ (rd_LH xs i).length ≤ c0 ∧ k49.C w A0 (rd_LH xs i).length (rd_LH xs i) := by
  obtain ⟨ad, c, e, _, hK, hc0⟩ := Kd.C_get h ([] : List Hd) i h0 h1
  have hc : ∀ j u, c[j]? = some u → w.cell? (ad.add (i.toNat * 1 + j)) = some u := hc0
  obtain ⟨A0, c0, rfl, l0, g0⟩ := hK
  exact ⟨ad, A0, c0, e, by have hq := hc 0 _ rfl; rwa [Nat.mul_one, Nat.add_zero] at hq, l0, g0⟩
theorem rdH_at {l : List Hd} {i : Nat} (hil : i < l.length) {x : Hd} (hx : rd_T49 l (i : Int) = x) : l[i]? = some x := by rw [← hx]; simp [rd_T49, hil]
theorem rdL_at {l : List (List Hd)} {i : Nat} (hil : i < l.length) {x : List Hd} (hx : rd_LH l (i : Int) = x) : l[i]? = some x := by rw [← hx]; simp [rd_LH, hil]
theorem take_snoc {α : Type} {l : List α} {i : Nat} {x : α} (h : l[i]? = some x) : l.take (i + 1) = l.take i ++ [x] := by rw [List.take_add_one, h]; rfl
theorem flat_le {ls : List (List Hd)} {i : Nat} {x : List Hd} (h : ls[i]? = some x) : (ls.take i).flatten.length + x.length ≤ ls.flatten.length := by
  have e : (ls.take (i + 1)).flatten.length = (ls.take i).flatten.length + x.length := by rw [take_snoc h, List.flatten_append, List.length_append]; simp
  rw [← e]
  conv => rhs; rw [← List.take_append_drop (i + 1) ls, List.flatten_append, List.length_append]
  omega
set_option maxHeartbeats 16000000 in
set_option maxRecDepth 100000 in
theorem by_walk (A : Option Addr) (n c : Nat) (ls : List (List Hd)) (w : World) (hC : Kd.C (Kd.slice 49 k49) w A n ls) (hn : ls.length = n) (hc : n ≤ c) (hsh : ∀ l ∈ ls, Hsh l) (hm : ls.flatten.length ≤ 1000000000) :
    Calls Tryz.prog 30 #[.slice A n c] w fun e w' => e = .returned (.map (some w.heap.size)) ∧ (∃ k, k ≤ 1000000000 ∧ MapOf Tryz.prog 9 w' w.heap.size k (bym ls.flatten)) ∧ Below w.heap.size w w' := by
  have HC := As.mk hC
  have HN := As.mk hn
  have HSH := As.mk hsh
  have HM := As.mk hm
  have hmax2 := Kd.C_max hC
  clear hC hn hsh hm
  go_enter Tryz.func30, Tryz.ntmps30
  have hmm := @run_makeMap Tryz.prog
  have hmax : Go.maxLen = 9223372036854775807 := rfl
  have HM0 : As (MapOf Tryz.prog 9 (w.alloc (.map #[] 0)) w.heap.size 0 (fun _ => none)) := ⟨mapOf_made w _ _⟩
  go_wp2_with (fail)
  go_loopw [13] (fun v13 wr => ∃ i : Nat, v13 = .int .i64 i ∧ i ≤ n ∧ As (∃ k, k ≤ (ls.take i).flatten.length ∧ MapOf Tryz.prog 9 wr w.heap.size k (bym (ls.take i).flatten)) ∧ As (Below w.heap.size w wr)) (fun v13 _ => n - (intOf v13).toNat)
  case atStart => exact ⟨0, rfl, by omega, ⟨0, Nat.zero_le _, by rw [List.take_zero]; exact HM0.out⟩, ⟨(Below.refl _ _).alloc (Nat.le_refl _) _⟩⟩
  case round =>
    obtain ⟨i, rfl, hi, HMP, HB⟩ := hrel
    by_cases hlt : i < n
    · have hil : i < ls.length := by rw [HN.out]; exact hlt
      obtain ⟨ad, A0, c0, rfl, h0w, hc0, hC0⟩ := at_LH HC.out (i : Int) (by omega) (by omega)
      obtain ⟨x, hx⟩ : ∃ x, rd_LH ls (i : Int) = x := ⟨_, rfl⟩
      have HX := As.mk (rdL_at hil hx)
      rw [hx] at h0w hc0 hC0
      rw [Int.toNat_natCast] at h0w
      have h0 := pw_cell_below HB.out h0w
      have hxm := Kd.C_max hC0
      have htot : (ls.take i).flatten.length + x.length ≤ ls.flatten.length := flat_le HX.out
      obtain ⟨q, hq⟩ : ∃ q, x.length = q := ⟨_, rfl⟩
      have HQ := As.mk hq
      rw [hq] at h0 hc0 hC0 hxm htot
      have HTOT := As.mk (Nat.le_trans htot HM.out)
      have HC0 := As.mk hC0
      have hxs : As (Hsh x) := ⟨HSH.out x (List.mem_of_getElem? HX.out)⟩
      clear hx hil hC0 hq h0w htot
      go_wp2_with (fail)
      go_loopw [19] (fun v19 wq => ∃ j : Nat, v19 = .int .i64 j ∧ j ≤ q ∧ As (∃ k, k ≤ (ls.take i).flatten.length + j ∧ MapOf Tryz.prog 9 wq w.heap.size k (bym ((ls.take i).flatten ++ x.take j))) ∧ As (Below w.heap.size w wq)) (fun v19 _ => q - (intOf v19).toNat)
      case atStart =>
        obtain ⟨k, hk, hM⟩ := HMP.out
        exact ⟨0, rfl, by omega, ⟨k, hk, by rw [List.take_zero, List.append_nil]; exact hM⟩, HB⟩
      case round =>
        obtain ⟨j, rfl, hj, HMJ, HBJ⟩ := hrel
        by_cases hjl : j < q
        · obtain ⟨ad2, rfl, g0, g1, g2⟩ := at_T49 (Kd.C_below HC0.out HBJ.out) (j : Int) (by omega) (by omega)
          rw [Int.toNat_natCast] at g0 g1 g2
          obtain ⟨y, hy⟩ : ∃ y, rd_T49 x (j : Int) = y := ⟨_, rfl⟩
          have HY := As.mk (rdH_at (by rw [HQ.out]; exact hjl) hy)
          rw [hy] at g0 g1 g2
          have hys : As (y.f0.size ≤ maxLen) := ⟨by have := (hxs.out y (List.mem_of_getElem? HY.out)).1; omega⟩
          clear hy
          obtain ⟨k, hk, hM⟩ := HMJ.out
          obtain ⟨L, hL⟩ : ∃ L, (ls.take i).flatten ++ x.take j = L := ⟨_, rfl⟩
          have HS : As ((ls.take i).flatten ++ x.take (j + 1) = L ++ [y]) := ⟨by rw [take_snoc HY.out, ← List.append_assoc, hL]⟩
          rw [hL] at hM
          have HK := As.mk hk
          have hkm : k < maxLen := by have := HTOT.out; omega
          clear hL hk HMJ
          cases hf : fnd L y.f0 with
          | some o =>
            have hv : (bym L y.f0).getD (.agg #[.int .i64 0, .string ⟨#[]⟩]) = .agg #[.int .i64 o.f0, .string o.f1] := by unfold bym; rw [hf]; rfl
            have hs : (bym L y.f0).isSome = true := by unfold bym; rw [hf]; rfl
            have HE := As.mk (bym_snoc_some hf)
            clear hf
            go_wp2_with (first | (at_lookup; refine wpList_look_ok _ rfl _ _ _ rfl 9 30 Tryz.underlying9 Tryz.underlying60 (.agg #[.int .i64 0, .string ⟨#[]⟩]) rfl w.heap.size k _ rfl (hM.alloc _) y.f0 rfl hys.out _ hv _ hs ?_) | fail)
            exact ⟨⟨j + 1, by go_num, by omega, ⟨k, by have := HK.out; omega, by rw [HS.out, HE.out]; exact (hM.alloc _).alloc _⟩, ⟨(HBJ.out.alloc HBJ.out.size _).alloc (Nat.le_trans HBJ.out.size (by simp)) _⟩⟩, by simp [intOf]; omega⟩
          | none =>
            have hv : (bym L y.f0).getD (.agg #[.int .i64 0, .string ⟨#[]⟩]) = .agg #[.int .i64 0, .string ⟨#[]⟩] := by unfold bym; rw [hf]; rfl
            have hs : (bym L y.f0).isSome = false := by unfold bym; rw [hf]; rfl
            have HE := As.mk (bym_snoc_none hf)
            clear hf
            go_wp2_with (first | (at_lookup; refine wpList_look_ok _ rfl _ _ _ rfl 9 30 Tryz.underlying9 Tryz.underlying60 (.agg #[.int .i64 0, .string ⟨#[]⟩]) rfl w.heap.size k _ rfl (hM.alloc _) y.f0 rfl hys.out _ hv _ hs ?_) | (at_mapUpdate; refine wpList_store _ rfl _ _ _ _ rfl 9 30 Tryz.underlying9 Tryz.underlying60 w.heap.size k _ rfl ((hM.alloc _).alloc _) hkm y.f0 _ rfl rfl hys.out ?_; intro w1 hM1 hT1) | fail)
            have HM1 := As.mk hM1
            have HT1 := As.mk hT1
            clear hM1 hT1 hM
            go_wp2_with (fail)
            exact ⟨⟨j + 1, by go_num, by omega, ⟨k + 1, by have := HK.out; omega, by rw [HS.out, ← HE.out]; exact HM1.out⟩, ⟨((HBJ.out.alloc HBJ.out.size _).alloc (Nat.le_trans HBJ.out.size (by simp)) _).trans (turned_below HT1.out (Nat.le_refl _))⟩⟩, by simp [intOf]; omega⟩
        · have hjq : j = q := by omega
          subst hjq
          have HS : As ((ls.take (i + 1)).flatten = (ls.take i).flatten ++ x.take j) := ⟨by rw [take_snoc HX.out, List.flatten_append, List.take_of_length_le (l := x) (by rw [HQ.out]; exact Nat.le_refl _)]; simp⟩
          go_wp2_with (fail)
          obtain ⟨k, hk, hM⟩ := HMJ.out
          exact ⟨⟨i + 1, by go_num, by omega, ⟨k, by rw [HS.out, List.length_append, List.length_take]; have := HQ.out; omega, by rw [HS.out]; exact hM⟩, HBJ⟩, by simp [intOf]; omega⟩
    · have hin : i = n := by omega
      subst hin
      go_wp2_with (fail)
      go_ret
      obtain ⟨k, hk, hM⟩ := HMP.out
      rw [List.take_of_length_le (by rw [HN.out]; exact Nat.le_refl _)] at hk hM
      exact ⟨rfl, ⟨k, Nat.le_trans hk HM.out, hM⟩, HB.out⟩
end Go.Proofs.YtehmhfbfgniekaaGreatDoor.Wk

namespace Go.Proofs.YtehmhfbfgniekaaGreatDoor.Wk
set_option linter.unusedVariables false
set_option linter.unusedSimpArgs false
open Go Go.RowKit Go.Proofs.YtehmhfbfgniekaaGreatDoorW.PrintWords Go.Proofs.YtehmhfbfgniekaaGreatDoorW.PrintLast Go.Proofs.YtehmhfbfgniekaaGreatDoorW.PrintMore PWkB Mp
theorem new_C {α : Type} (d : Kd α) (e : TypeId) (W : World) {xs : List α} {inner : List Value} (hr : Reps (d.K (W.alloc (.cells inner.toArray e))) d.sz xs inner) (hm : xs.length ≤ 9223372036854775807) : d.C (W.alloc (.cells inner.toArray e)) (some ⟨W.heap.size, 0, none⟩) xs.length xs := by
  obtain ⟨A, c, hv, _, h⟩ := (OwnRow.lit W W.heap.size hr (Nat.le_refl _) hm : OwnRow (d.K (W.alloc (.cells inner.toArray e))) e d.sz _ _ _ _).reads
  injection hv with h1 h2 h3
  rw [h1]; exact h
theorem rows_one (W : World) {A : Option Addr} {c : Nat} {l : List Hd} (hC : Kd.C k49 W A l.length l) (hc : l.length ≤ c) :
    Kd.C (Kd.slice 49 k49) (W.alloc (.cells #[.slice A l.length c] 22)) (some ⟨W.heap.size, 0, none⟩) 1 [l] :=
  new_C (Kd.slice 49 k49) 22 W (xs := [l]) (inner := [.slice A l.length c]) ((Reps.none _ _).snoc ⟨A, c, rfl, hc, Kd.C_below hC (below_new _ _)⟩ rfl) (by simp)
theorem rows_two (W : World) {A B : Option Addr} {c d : Nat} {l k : List Hd} (hC : Kd.C k49 W A l.length l) (hc : l.length ≤ c) (hD : Kd.C k49 W B k.length k) (hd : k.length ≤ d) :
    Kd.C (Kd.slice 49 k49) (W.alloc (.cells #[.slice A l.length c, .slice B k.length d] 22)) (some ⟨W.heap.size, 0, none⟩) 2 [l, k] :=
 by
  have h1 : (Kd.slice 49 k49).K (W.alloc (.cells #[.slice A l.length c, .slice B k.length d] 22)) l [.slice A l.length c] := ⟨A, c, rfl, hc, Kd.C_below hC (below_new _ _)⟩
  have h2 : (Kd.slice 49 k49).K (W.alloc (.cells #[.slice A l.length c, .slice B k.length d] 22)) k [.slice B k.length d] := ⟨B, d, rfl, hd, Kd.C_below hD (below_new _ _)⟩
  exact new_C (Kd.slice 49 k49) 22 W (xs := [l, k]) (inner := [.slice A l.length c, .slice B k.length d]) (((Reps.none _ _).snoc h1 rfl).snoc h2 rfl) (by simp)
theorem by_one (W : World) {A : Option Addr} {c : Nat} {l : List Hd} (hC : Kd.C k49 W A l.length l) (hc : l.length ≤ c) (hsh : Hsh l) (hm : l.length ≤ 1000000000) :
    Calls Tryz.prog 30 #[.slice (some ⟨W.heap.size, 0, none⟩) 1 1] (W.alloc (.cells #[.slice A l.length c] 22)) fun e w' => e = .returned (.map (some (W.heap.size + 1))) ∧ (∃ k, k ≤ 1000000000 ∧ MapOf Tryz.prog 9 w' (W.heap.size + 1) k (bym l)) ∧ Below W.heap.size W w' ∧ W.heap.size + 1 < w'.heap.size := by
  have h := by_walk (some ⟨W.heap.size, 0, none⟩) 1 1 [l] _ (rows_one W hC hc) rfl (Nat.le_refl _) (fun x hx => by rw [List.mem_singleton.1 hx]; exact hsh) (by simpa using hm)
  rw [World.size_alloc, show [l].flatten = l by simp] at h
  refine h.mono ?_
  rintro e w' ⟨rfl, ⟨k, hk, hM⟩, hb⟩
  exact ⟨rfl, ⟨k, hk, hM⟩, (below_new W _).trans (hb.mono (Nat.le_succ _)), hM.lt⟩
theorem by_two (W : World) {A B : Option Addr} {c d : Nat} {l k : List Hd} (hC : Kd.C k49 W A l.length l) (hc : l.length ≤ c) (hD : Kd.C k49 W B k.length k) (hd : k.length ≤ d) (hsh : Hsh l) (hsh2 : Hsh k) (hm : l.length + k.length ≤ 1000000000) :
    Calls Tryz.prog 30 #[.slice (some ⟨W.heap.size, 0, none⟩) 2 2] (W.alloc (.cells #[.slice A l.length c, .slice B k.length d] 22)) fun e w' => e = .returned (.map (some (W.heap.size + 1))) ∧ (∃ n, n ≤ 1000000000 ∧ MapOf Tryz.prog 9 w' (W.heap.size + 1) n (bym (l ++ k))) ∧ Below W.heap.size W w' ∧ W.heap.size + 1 < w'.heap.size := by
  have h := by_walk (some ⟨W.heap.size, 0, none⟩) 2 2 [l, k] _ (rows_two W hC hc hD hd) rfl (Nat.le_refl _) (fun x hx => by rcases List.mem_cons.1 hx with rfl | hx; exact hsh; rw [List.mem_singleton.1 hx]; exact hsh2) (by simpa using hm)
  rw [World.size_alloc, show [l, k].flatten = l ++ k by simp] at h
  refine h.mono ?_
  rintro e w' ⟨rfl, ⟨n, hn, hM⟩, hb⟩
  exact ⟨rfl, ⟨n, hn, hM⟩, (below_new W _).trans (hb.mono (Nat.le_succ _)), hM.lt⟩
theorem results_cell_tmp {P : Program} {fn : Func} {p q : Tmp} {ty : TypeId} (h : fn.results = #[.cell p ty, .tmp q]) (tmps : Array Value) (w : World) (g : Nat) (t : TypeId) (cs : Array Value) (fr : Nat × Nat) (d : TypeDesc)
    (hp : tmps.getD p undef = .pointer (some ⟨g, 0, none⟩)) (hg : w.heap[g]? = some (.cells cs t fr))
    (hu : P.underlying ty = some d) (hd : (match d with | .struct _ | .array _ _ => true | _ => false) = true) (hi : (P.info? ty).map (·.size) = some cs.size) :
    (results fn tmps).run P w = .ok (.tuple #[.agg cs, tmps.getD q undef]) w := by
  have hp' : tmps[p]?.getD undef = .pointer (some ⟨g, 0, none⟩) := by simpa using hp
  simp [results, h, hp', asAddr, run_loadVar_row w g t ty cs fr d hg hu hd hi]
theorem set_two0 {w : World} {b : Nat} {x y u : Value} {T : TypeId} {fr : Nat × Nat} (h : w.heap[b]? = some (.cells #[x, y] T fr)) : (w.setCell ⟨b, 0, none⟩ u).heap[b]? = some (.cells #[u, y] T fr) := by
  simp [World.setCell, Array.getElem?_modify, h]
set_option maxHeartbeats 4000000 in
set_option maxRecDepth 100000 in
theorem find_walk (A : Option Addr) (n c : Nat) (l : List Hd) (s : ByteArray) (w : World) (hC : Kd.C k49 w A n l) (hn : l.length = n) (hc : n ≤ c) (hsh : Hsh l) (hm : l.length ≤ 1000000000) (hs : s.size ≤ maxLen) :
    Calls Tryz.prog 15 #[.slice A n c, .string s] w fun e w' => e = .returned (.tuple #[.agg #[.int .i64 ((fnd l s).getD z30).f0, .string ((fnd l s).getD z30).f1], .bool (fnd l s).isSome]) ∧ Below w.heap.size w w' := by
  subst hn
  have HC := As.mk hC
  have HSH := As.mk hsh
  have HS := As.mk hs
  have hmax := Kd.C_max hC
  clear hC hsh hs
  go_enter Tryz.func15, Tryz.ntmps15
  obtain ⟨W, hW⟩ : ∃ W, w.alloc (.cells #[.int .i64 0, .string ⟨#[]⟩] 30) = W := ⟨_, rfl⟩
  have HBW : As (Below w.heap.size w W) := ⟨by rw [← hW]; exact below_new _ _⟩
  have HK : As (W.heap[w.heap.size]? = some (.cells #[.int .i64 0, .string ⟨#[]⟩] 30 (0, 0))) := ⟨by rw [← hW]; exact blk_new w _⟩
  have hWs : W.heap.size = w.heap.size + 1 := by rw [← hW, World.size_alloc]
  have hBY := by_one W (Kd.C_below HC.out HBW.out) hc HSH.out hm
  rw [hWs] at hBY
  have HBY := As.mk hBY
  clear hBY
  go_wp2_with (fail)
  refine HBY.out.mono ?_
  rintro e w1 ⟨rfl, ⟨k, hk, hM⟩, hb, hlt⟩
  have HB1 : As (Below w.heap.size w w1) := ⟨HBW.out.trans (hb.mono (by omega))⟩
  have HK1 : As (w1.heap[w.heap.size]? = some (.cells #[.int .i64 0, .string ⟨#[]⟩] 30 (0, 0))) := ⟨(hb.block _ (by omega)).trans HK.out⟩
  have ha0 : ∀ o, (w1.alloc o).cell? ⟨w.heap.size, 0, none⟩ = some (.int .i64 0) := fun o => (blk_cell (alloc_at HK1.out o) 0).trans rfl
  have hf0 : ∀ o, (w1.alloc o).frozen? ⟨w.heap.size, 0, none⟩ = false := fun o => fz_at (alloc_at HK1.out o) 0
  have ha1 : ∀ o v, ((w1.alloc o).setCell ⟨w.heap.size, 0, none⟩ v).cell? ⟨w.heap.size, 1, none⟩ = some (.string ⟨#[]⟩) := fun o v => (blk_cell (set_two0 (alloc_at HK1.out o)) 1).trans rfl
  have hf1 : ∀ o v, ((w1.alloc o).setCell ⟨w.heap.size, 0, none⟩ v).frozen? ⟨w.heap.size, 1, none⟩ = false := fun o v => fz_at (set_two0 (alloc_at HK1.out o)) 1
  have hs := HS.out
  clear hb hW hWs HBY
  cases hf : fnd l s with
  | some o =>
    have hv : (bym l s).getD (.agg #[.int .i64 0, .string ⟨#[]⟩]) = .agg #[.int .i64 o.f0, .string o.f1] := by unfold bym; rw [hf]; rfl
    have hi : (bym l s).isSome = true := by unfold bym; rw [hf]; rfl
    have HF := As.mk hf
    clear hf
    go_wp2_with (first | (at_lookup; refine wpList_look_ok _ rfl _ _ _ rfl 9 30 Tryz.underlying9 Tryz.underlying60 (.agg #[.int .i64 0, .string ⟨#[]⟩]) rfl _ k _ rfl hM s rfl hs _ hv _ hi ?_) | fail)
    have hres := set_two (u := .int .i64 o.f0) (v := .string o.f1) (alloc_at HK1.out (.cells #[.int .i64 o.f0, .string o.f1] 30))
    refine bodyPost_ret (results_cell_tmp rfl _ _ w.heap.size 30 _ (0, 0) _ rfl hres Tryz.underlying30 rfl (by kernel_rfl)) rfl ⟨by rw [HF.out]; rfl, ?_⟩
    exact ((HB1.out.alloc HB1.out.size _).setCell (p := ⟨w.heap.size, 0, none⟩) (Nat.le_refl _) _).setCell (p := ⟨w.heap.size, 1, none⟩) (Nat.le_refl _) _
  | none =>
    have hv : (bym l s).getD (.agg #[.int .i64 0, .string ⟨#[]⟩]) = .agg #[.int .i64 0, .string ⟨#[]⟩] := by unfold bym; rw [hf]; rfl
    have hi : (bym l s).isSome = false := by unfold bym; rw [hf]; rfl
    have HF := As.mk hf
    clear hf
    go_wp2_with (first | (at_lookup; refine wpList_look_ok _ rfl _ _ _ rfl 9 30 Tryz.underlying9 Tryz.underlying60 (.agg #[.int .i64 0, .string ⟨#[]⟩]) rfl _ k _ rfl hM s rfl hs _ hv _ hi ?_) | fail)
    have hres := set_two (u := .int .i64 0) (v := .string ⟨#[]⟩) (alloc_at HK1.out (.cells #[.int .i64 0, .string ⟨#[]⟩] 30))
    refine bodyPost_ret (results_cell_tmp rfl _ _ w.heap.size 30 _ (0, 0) _ rfl hres Tryz.underlying30 rfl (by kernel_rfl)) rfl ⟨by rw [HF.out]; rfl, ?_⟩
    exact ((HB1.out.alloc HB1.out.size _).setCell (p := ⟨w.heap.size, 0, none⟩) (Nat.le_refl _) _).setCell (p := ⟨w.heap.size, 1, none⟩) (Nat.le_refl _) _
end Go.Proofs.YtehmhfbfgniekaaGreatDoor.Wk

namespace Go.Proofs.YtehmhfbfgniekaaGreatDoor.Wk
set_option linter.unusedVariables false
set_option linter.unusedSimpArgs false
open Go Go.RowKit Go.Proofs.YtehmhfbfgniekaaGreatDoorW.PrintWords Go.Proofs.YtehmhfbfgniekaaGreatDoorW.PrintLast Go.Proofs.YtehmhfbfgniekaaGreatDoorW.PrintMore PWkB Mp
theorem info_str : (Tryz.prog.info? 9).map (fun i => (i.zero, i.size, i.bytes)) = some (some (Value.string ⟨#[]⟩), 1, 16) := by kernel_rfl
set_option maxHeartbeats 4000000 in
set_option maxRecDepth 100000 in
theorem clone_walk (A : Option Addr) (n c : Nat) (l : List ByteArray) (w : World) (hC : Kd.C Kd.string w A n l) (hn : l.length = n) (hc : n ≤ c) (hm : n ≤ 1000000000) :
    Calls Tryz.prog 46 #[.slice A n c] w fun e w' => ∃ v, e = .returned v ∧ Kd.R Kd.string 9 w' w.heap.size (fun _ => True) v l ∧ Below w.heap.size w w' := by
  have q := fun (w : World) (a : Option Addr) (n c n' c' : Nat) => Lib.run_eql_slice_nil (P := Tryz.prog) w 23 9 a n c n' c' Tryz.underlying23
  have HN := As.mk hn
  rcases A with _ | ad
  · have h0 : l = [] := by
      rcases Nat.eq_zero_or_pos n with h | h
      · exact List.eq_nil_of_length_eq_zero (hn.trans h)
      · obtain ⟨_, e, _⟩ := hC.2.2 h; cases e
    subst h0
    clear hC hn
    go_enter Tryz.func46, Tryz.ntmps46
    go_wp2_with (fail)
    go_ret
    exact ⟨_, rfl, Kd.R_nil _ _ _ _ _, Below.refl _ _⟩
  · have HC := As.mk hC
    clear hC hn
    go_enter Tryz.func46, Tryz.ntmps46
    obtain ⟨W, hW⟩ : ∃ W, w.alloc (.cells #[] 9) = W := ⟨_, rfl⟩
    have HB : As (Below w.heap.size w W) := ⟨by rw [← hW]; exact below_new _ _⟩
    have HR : As (Kd.R Kd.string 9 W w.heap.size (fun _ => True) (.slice (some ⟨w.heap.size, 0, none⟩) 0 0) []) := ⟨by
      rw [← hW]
      exact Kd.R_of_own (World.ownsRow_made w #[] 0 (Nat.le_refl _) (Nat.zero_le _) rfl) (fun _ _ => trivial)⟩
    go_wp2_with (first
      | ((with_reducible refine gate_builtin (b := .append) (xs := #[.tmp 5, .tmp 6]) rfl ?_); at_builtin; refine Kd.R_append_rows Kd.string (Rr := Kd.string.K W) (w0 := w) (W := W) w.heap.size rfl (.tmp 5) (.tmp 6) 23 9 (.string ⟨#[]⟩) 16 rfl Tryz.underlying23 info_str rfl (by decide) (by decide) (.slice (some ⟨w.heap.size, 0, none⟩) 0 0) [] l (some ad) n c (fun _ => True) (fun _ => False) rfl rfl HR.out (Kd.C_below HC.out HB.out) (fun _ _ h => h) (fun _ hk => hk.elim) (fun _ _ => trivial) HB.out HB.out.size (by simp; omega) ?_; intro v7 w7 ho hb1 hg hat; have HO7 := As.mk ho; have HB7 := As.mk hb1; clear ho hb1 hat hg)
      | fail)
    go_ret
    exact ⟨_, rfl, HO7.out, HB7.out⟩
end Go.Proofs.YtehmhfbfgniekaaGreatDoor.Wk

namespace Go.Proofs.YtehmhfbfgniekaaGreatDoor.Wk
set_option linter.unusedVariables false
set_option linter.unusedSimpArgs false
open Go Go.RowKit Go.Maps Go.Sort Go.Shelf Go.Proofs Mp
open Go.Proofs.YtehmhfbfgniekaaGreatDoorW.PrintWords Go.Proofs.YtehmhfbfgniekaaGreatDoorW.PrintLast Go.Proofs.YtehmhfbfgniekaaGreatDoorW.PrintMore PWkB
theorem sorts (m : Nat) : AnyZ.SortsIn Tryz.prog Tryz.sorted54_ren Fence.wide m :=
  ⟨fun blk off cap ss W hH hblk hsz => callsIn_wide.2 (AnyM.slices_Sort_string Tryz.sort32 blk off cap ss W hH hblk hsz),
   fun p cap W => callsIn_wide.2 (AnyM.slices_Sort_string_none Tryz.sort32 p cap W)⟩
theorem row_of {w : World} {base : Nat} {v : Value} {l : List (List UInt8)} {n : Nat} (hn : n = l.length) (h : w.ownsRow base 9 1 v n (l.map encStr)) : Kd.R Kd.string 9 w base (fun _ => True) v (l.map bs) := by
  subst hn
  refine Kd.R_of_own ?_ (fun _ _ => trivial)
  have e : encs Value.string (l.map bs) = l.map encStr := by
    unfold encs
    rw [List.map_map]
    rfl
  rw [e, List.length_map]
  exact h
theorem keys_walk (mb : Option Nat) (W : World) : Calls Tryz.prog 55 #[.map mb] W fun e w' => e = .returned (.func (.func 82) #[] #[.pointer (some ⟨W.heap.size, 0, none⟩)]) ∧ w' = W.alloc (.cells #[.map mb] 60) :=
  callsIn_wide.1 (AnyZ.keys_in Tryz.keys55 Fence.wide 5 trivial rfl mb W)
set_option maxHeartbeats 1000000 in
theorem sorted_walk (b n : Nat) (m : ByteArray → Option Value) (w : World) (hm : MapOf Tryz.prog 9 w b n m) (hn : n ≤ 1000000000000) :
    Calls Tryz.prog 54 #[.func (.func 82) #[] #[.pointer (some ⟨w.heap.size, 0, none⟩)]] (w.alloc (.cells #[.map (some b)] 60)) fun e w' => ∃ (v : Value) (ks : List ByteArray), e = .returned v ∧ Mp.KeysOf m ks ∧ ks.length ≤ n ∧ Kd.R Kd.string 9 w' w.heap.size (fun _ => True) v ks ∧ Below w.heap.size (w.alloc (.cells #[.map (some b)] 60)) w' := by
  obtain ⟨D0, hown, hD⟩ := hm
  have hbl := hown.lt
  have hsz := hown.size_le
  have hmax : Maps.size D0 ≤ maxLen := by have : maxLen = 9223372036854775807 := rfl; omega
  have hseq : SeqGives Fence.wide 2 Tryz.prog 82 #[.pointer (some ⟨w.heap.size, 0, none⟩)] encStr (fun ss => ss.Perm (strKeys D0)) (Maps.size D0) (w.alloc (.cells #[.map (some b)] 60)) :=
    AnyZ.keys_gives (ρ := Tryz.keys55_ren) { Tryz.keys55 with } Fence.wide _ trivial rfl (by omega) w.heap.size b n D0 _ (by simp) (by simp) (by
      obtain ⟨es, clock, hb, Ft, hs, hD⟩ := hown
      exact ⟨es, clock, (Below.heap_alloc _ _ b hbl).trans hb, Ft, hs, hD⟩)
  refine (callsIn_wide.1 (AnyZ.sorted_in Tryz.sorted54 Fence.wide 5 trivial trivial trivial trivial rfl (by omega) (sorts _) (enters_of Tryz.func32 (by kernel_rfl) rfl) 82 #[.pointer (some ⟨w.heap.size, 0, none⟩)] trivial (enters_of Tryz.func82 (by kernel_rfl) rfl) _ _ hmax (by omega) _ hseq)).mono ?_
  rintro e w' ⟨v, ss, rfl, hp, hR, hnil, hB⟩
  have hsz1 : (w.alloc (.cells #[.map (some b)] 60)).heap.size = w.heap.size + 1 := by simp
  rw [hsz1] at hR hB
  have hks := keys_sorted (k := 9) Tryz.underlying9 hown hD hp
  have hlen : (ss.mergeSort (fun x y => decide (x ≤ y))).length = ss.length := List.length_mergeSort ss
  refine ⟨v, _, rfl, hks, ?_, Kd.R_lower (row_of hlen.symm hR) (by omega), ⟨hB.os, hB.tape, hB.output, hB.size, fun i hi => hB.block i (by omega)⟩⟩
  rw [List.length_map, hlen, hp.length_eq]
  have : (strKeys D0).length = Maps.size D0 := by
    obtain ⟨es, rfl⟩ := hown.isMap
    simp [strKeys, Maps.size]
  omega
theorem at_txt {w : World} {A : Option Addr} {n : Nat} {l : List ByteArray} (h : Kd.C Kd.string w A n l) (i : Int) (h0 : 0 ≤ i) (h1 : i < n) : ∃ ad, A = some ad ∧ w.cell? (ad.add i.toNat) = some (.string (rdOf ByteArray.empty l i)) := (Kd.reads_of_C (d := ByteArray.empty) h).at_ i h0 h1
theorem rdS_at {l : List ByteArray} {i : Nat} (hil : i < l.length) {x : ByteArray} (hx : rdOf ByteArray.empty l (i : Int) = x) : l[i]? = some x := by rw [← hx]; simp [rdOf, hil]
noncomputable def setOf (g : ByteArray → Option Ob1) : List Hd := (riseS (fun s => (g s).isSome = true)).map (fun s => ⟨s, (g s).getD z30⟩)
set_option maxHeartbeats 8000000 in
set_option maxRecDepth 100000 in
theorem rising_walk (b k : Nat) (g : ByteArray → Option Ob1) (w : World) (hM : MapOf Tryz.prog 9 w b k (fun s => (g s).map valO)) (hk : k ≤ 1000000000) (hsz : ∀ s, (g s).isSome = true → s.size ≤ maxLen) :
    Calls Tryz.prog 39 #[.map (some b)] w fun e w' => ∃ v, e = .returned v ∧ Kd.R k49 49 w' w.heap.size (fun _ => True) v (setOf g) ∧ Below w.heap.size w w' := by
  have HM := As.mk hM
  have HSZ := As.mk hsz
  clear hM hsz
  go_enter Tryz.func39, Tryz.ntmps39
  have hmax : Go.maxLen = 9223372036854775807 := rfl
  go_wp2_with (fail)
  refine (keys_walk (some b) w).mono ?_
  rintro e w1 ⟨rfl, rfl⟩
  go_wp2_with (fail)
  refine (sorted_walk b k _ w HM.out (by omega)).mono ?_
  rintro e w2 ⟨v, ks, rfl, hks, hkl, hR, hb⟩
  have HR2 : Rises (fun s => (g s).isSome = true) ks := ⟨hks.rising, fun s => (hks.mem s).trans (by cases g s <;> simp)⟩
  have HKS : As (setOf g = ks.map (fun s => ⟨s, (g s).getD z30⟩)) := ⟨by unfold setOf; rw [HR2.riseS]⟩
  have HKM : As (∀ s ∈ ks, (g s).isSome = true) := ⟨fun s hs => (HR2.mem s).1 hs⟩
  have HB2 : As (Below w.heap.size w w2) := ⟨(below_new _ _).trans hb⟩
  obtain ⟨A, c, rfl, hc, hC⟩ := Kd.R_reads hR
  obtain ⟨n, hn⟩ : ∃ n, ks.length = n := ⟨_, rfl⟩
  have HN := As.mk hn
  rw [hn] at hc hC hkl
  have HC := As.mk hC
  rw [hn]
  clear hks hR hb HR2 hC hn
  have hnm : n ≤ 1000000000 := by omega
  go_wp2_with (fail)
  go_loopw [3, 10] (fun v3 v10 wr => ∃ (i : Nat), v10 = .int .i64 i ∧ i ≤ n ∧ As (Kd.R k49 49 wr w2.heap.size (fun _ => True) v3 ((ks.take i).map (fun s => (⟨s, (g s).getD z30⟩ : Hd)))) ∧ As (Below w2.heap.size w2 wr)) (fun _ v10 _ => n - (intOf v10).toNat)
  case atStart => exact ⟨0, rfl, by omega, ⟨by rw [List.take_zero, List.map_nil]; exact Kd.R_nil _ _ _ _ _⟩, ⟨Below.refl _ _⟩⟩
  case round =>
    obtain ⟨i, rfl, hi, HRo, HB⟩ := hrel
    by_cases hlt : i < n
    · have hil : i < ks.length := by rw [HN.out]; exact hlt
      obtain ⟨ad, had, hp0⟩ := at_txt (Kd.C_below HC.out HB.out) (i : Int) (by omega) (by omega)
      obtain ⟨s, hs⟩ : ∃ s, rdOf ByteArray.empty ks (i : Int) = s := ⟨_, rfl⟩
      have HX := As.mk (rdS_at hil hs)
      rw [hs, Int.toNat_natCast] at hp0
      subst had
      have hsome := HKM.out s (List.mem_of_getElem? HX.out)
      have hss := HSZ.out s hsome
      obtain ⟨o, ho⟩ := Option.isSome_iff_exists.1 hsome
      have hv : ((g s).map valO).getD (.agg #[.int .i64 0, .string ⟨#[]⟩]) = .agg #[.int .i64 o.f0, .string o.f1] := by rw [ho]; rfl
      have hM2 := HM.out.below (HB2.out.trans (HB.out.mono HB2.out.size))
      have HST : As ((ks.take i).map (fun s => (⟨s, (g s).getD z30⟩ : Hd)) ++ [⟨s, o⟩] = (ks.take (i + 1)).map (fun s => (⟨s, (g s).getD z30⟩ : Hd))) := ⟨by rw [take_snoc HX.out, List.map_append]; simp [ho]⟩
      have hl2 : (((ks.take i).map (fun s => (⟨s, (g s).getD z30⟩ : Hd))).length + 1) * 40 ≤ 140737488355328 := by
        rw [List.length_map, List.length_take]; omega
      have HROO := HRo.out
      have HBO := HB.out
      clear hs hil hsome ho
      go_wp2_with (first
        | (at_lookup; refine wpList_look _ rfl _ _ _ rfl 9 30 Tryz.underlying9 Tryz.underlying60 (.agg #[.int .i64 0, .string ⟨#[]⟩]) rfl b k _ rfl hM2 s rfl hss _ hv ?_)
        | ((with_reducible refine gate_builtin (b := .append) (xs := #[.tmp 14, .tmp 20]) rfl ?_); at_builtin; refine Kd.R_append k49 (w0 := w2) (W := wr) w2.heap.size rfl (.tmp 14) (.tmp 20) 22 49 (.agg #[(.string ⟨#[]⟩), (.int .i64 0), (.string ⟨#[]⟩)]) 40 rfl Tryz.underlying22 info49 rfl (by decide) (by omega) u3 ((ks.take i).map (fun s => (⟨s, (g s).getD z30⟩ : Hd))) (⟨s, o⟩ : Hd) [.string s, .int .i64 o.f0, .string o.f1] (fun _ => True) (fun _ => False) rfl rfl (k49_mkM _ _ _ (⟨s, o⟩ : Hd)) (fun _ hk => hk.elim) (fun _ _ => trivial) HROO HBO HBO.size hl2 ?_; intro v9 w9 ho9 hb9 hg9 hat9; have HO9 := As.mk ho9; have HB9 := As.mk hb9; clear ho9 hb9 hg9 hat9)
        | fail)
      exact ⟨⟨i + 1, by go_num, by omega, ⟨by rw [← HST.out]; exact HO9.out⟩, HB9⟩, by simp [intOf]; omega⟩
    · have hin : i = n := by omega
      subst hin
      go_wp2_with (fail)
      go_ret
      have h := HRo.out
      rw [List.take_of_length_le (by rw [HN.out]; exact Nat.le_refl _), ← HKS.out] at h
      exact ⟨_, rfl, Kd.R_lower h HB2.out.size, HB2.out.trans (HB.out.mono HB2.out.size)⟩
end Go.Proofs.YtehmhfbfgniekaaGreatDoor.Wk

namespace Go.Proofs.YtehmhfbfgniekaaGreatDoor.Wk
set_option linter.unusedVariables false
set_option linter.unusedSimpArgs false
open Go Go.RowKit Go.Proofs.YtehmhfbfgniekaaGreatDoorW.PrintWords Go.Proofs.YtehmhfbfgniekaaGreatDoorW.PrintLast Go.Proofs.YtehmhfbfgniekaaGreatDoorW.PrintMore PWkB Mp
theorem fnd_size {l : List Hd} (h : Hsh l) {s : ByteArray} (hs : (fnd l s).isSome = true) : s.size ≤ maxLen := by
  obtain ⟨x, hx, rfl⟩ := List.mem_map.1 (fnd_some.1 hs)
  have := (h x hx).1
  have hm : maxLen = 9223372036854775807 := rfl
  omega
set_option maxHeartbeats 4000000 in
set_option maxRecDepth 100000 in
theorem join_walk (A : Option Addr) (n c : Nat) (l : List Hd) (B : Option Addr) (m d : Nat) (k : List Hd) (w : World) (hC : Kd.C k49 w A n l) (hn : l.length = n) (hc : n ≤ c) (hD : Kd.C k49 w B m k) (hm : k.length = m) (hd : m ≤ d) (hsh : Hsh l) (hsh2 : Hsh k) (hl : l.length + k.length ≤ 1000000000) :
    Calls Tryz.prog 25 #[.slice A n c, .slice B m d] w fun e w' => ∃ v, e = .returned v ∧ Kd.R k49 49 w' w.heap.size (fun _ => True) v (setOf (fnd (l ++ k))) ∧ Below w.heap.size w w' := by
  subst hn hm
  have HB := As.mk (by_two w hC hc hD hd hsh hsh2 hl)
  have HS : As (∀ s, (fnd (l ++ k) s).isSome = true → s.size ≤ maxLen) := ⟨fun s hs => fnd_size (l := l ++ k) (fun x hx => (List.mem_append.1 hx).elim (hsh x) (hsh2 x)) hs⟩
  clear hC hD hsh hsh2
  go_enter Tryz.func25, Tryz.ntmps25
  go_wp2_with (fail)
  refine HB.out.mono ?_
  rintro e w1 ⟨rfl, ⟨n, hn, hM⟩, hb, hlt⟩
  have HM := As.mk hM
  have HB1 := As.mk hb
  clear hM hb
  go_wp2_with (fail)
  refine (rising_walk _ n (fnd (l ++ k)) w1 HM.out hn HS.out).mono ?_
  rintro e w2 ⟨v, rfl, hR, hb⟩
  have HR := As.mk hR
  have HB2 := As.mk hb
  clear hR hb
  go_wp2_with (fail)
  go_ret
  exact ⟨_, rfl, Kd.R_lower HR.out HB1.out.size, HB1.out.trans (HB2.out.mono HB1.out.size)⟩
end Go.Proofs.YtehmhfbfgniekaaGreatDoor.Wk

namespace Go.Proofs.YtehmhfbfgniekaaGreatDoor.Wk
set_option linter.unusedVariables false
set_option linter.unusedSimpArgs false
open Go Go.RowKit Go.Sort Go.Proofs
open Go.Proofs.YtehmhfbfgniekaaGreatDoorW.PrintWords Go.Proofs.YtehmhfbfgniekaaGreatDoorW.PrintLast Go.Proofs.YtehmhfbfgniekaaGreatDoorW.PrintMore PWkB
def Lb (s : ByteArray) : List UInt8 := s.data.toList
theorem encs_Lb (l : List ByteArray) : encs Value.string l = (l.map Lb).map encStr := by
  unfold encs
  rw [List.map_map]
  refine List.map_congr_left fun s _ => ?_
  show Value.string s = encStr (Lb s)
  exact congrArg Value.string (by apply ByteArray.ext; simp [Lb])
theorem sortL_Lb (l : List ByteArray) : (sortL l).map Lb = (l.map Lb).mergeSort (fun x y => decide (x ≤ y)) := by
  unfold sortL
  exact List.map_mergeSort (fun a _ b _ => rfl)
theorem sort_walk {w : World} {base : Nat} {ok : Nat → Prop} {v : Value} {xs : List ByteArray} (hR : Kd.R Kd.string 9 w base ok v xs) (hl : xs.length ≤ 1000000000) :
    Calls Tryz.prog 32 #[v] w fun e w' => e = .returned (.tuple #[]) ∧ Kd.R Kd.string 9 w' base ok v (sortL xs) ∧ w.grownBy w' v.ownBlock := by
  have hown := Kd.own_of_R hR
  rw [encs_Lb] at hown
  have hss : (xs.map Lb).length = xs.length := List.length_map _
  have hsl : (sortL xs).length = xs.length := by unfold sortL; exact List.length_mergeSort _
  rcases hown.2 with ⟨rfl, h0⟩ | ⟨g, cap, cur, rfl, hbase, hb, h1, h2, h3, h4⟩
  · have hx : xs = [] := List.eq_nil_of_length_eq_zero h0
    subst hx
    refine (Tryz.slices_Sort_string_none none 0 w).mono ?_
    rintro e w' ⟨rfl, rfl⟩
    exact ⟨rfl, by rw [show sortL [] = [] by simp [sortL]]; exact hR, World.grownBy.refl _ _⟩
  · rw [Nat.mul_one] at h4
    have hH := holds_of_block (ss := xs.map Lb) hb (by rw [hss]; exact h4)
    have hc := Tryz.slices_Sort_string g 0 cap (xs.map Lb) w hH (Array.getElem?_eq_some_iff.1 hb).1 (by rw [hss]; omega)
    rw [hss] at hc
    refine hc.mono ?_
    rintro e w' ⟨rfl, q, os, rfl⟩
    refine ⟨rfl, ?_, grownBy_sorted _⟩
    have ho := ownsRow_sorted (w := w) (n := q) (os := os) (ss := xs.map Lb) (ts := (xs.map Lb).mergeSort fun x y => decide (x ≤ y)) (by rw [List.length_mergeSort]) hbase hb (by rw [hss]; exact h1) h2 h3
    rw [hss, ← sortL_Lb, ← encs_Lb] at ho
    rw [← sortL_Lb]
    refine Kd.R_of_own ?_ hR.1
    rw [hsl]
    exact ho
end Go.Proofs.YtehmhfbfgniekaaGreatDoor.Wk
