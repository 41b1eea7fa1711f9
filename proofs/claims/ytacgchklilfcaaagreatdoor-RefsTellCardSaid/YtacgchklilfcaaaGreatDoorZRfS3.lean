/- Joined texts: Mp, RfIter, RfTips. No condition but what stands in each. -/
import Derived.Maps.OwnSet
import Derived.Maps.Ext
import Derived.Sort.KeysCollected
import Derived.Below
import Derived.Test.YtacgchklilfcaaaGreatDoorProg
import Derived.Deep.Draws
import Derived.Deep.AppendLies
import Derived.Maps.AppendAt
import Derived.OwnWalk
import Derived.Laws.BytesArg
import Derived.Laws.MakeOwn
import Derived.Laws.OwnMore
import Derived.Deep.OwnRows
import Derived.Tactics
import Derived.Lib.ConvBytes
import Derived.Laws.Slices
import Derived.WalkKit
import Derived.KernelRfl
import Derived.RowKit3
import Derived.Deep.LoopGhost
import Derived.Deep.QuietTactic
import Derived.BigQuiet
import Derived.WideLaws
import Derived.Deep.DeepCutAuto
import Derived.Deep.CutBlock
import Derived.Deep.RegionHeld3
import Derived.Laws.Rows
import Derived.Lib.AppendStr
import Derived.ArgAppend
import Derived.Laws.IdiomCopy
import Derived.OrdersHeld
import Derived.Laws.BitsLemmas
import Derived.RowKit
import Derived.Test.YtacgchklilfcaaaGreatDoorZWMore
import Derived.BigRegion
import Derived.Shelf.Abstract
import Derived.Shelf.SlIter.Nil
import Derived.Shelf.SortM.Plain
import Derived.Shelf.SortM.SortNone
import Derived.Test.YtacgchklilfcaaaGreatDoorZShelf
import Derived.Test.YtacgchklilfcaaaGreatDoorZRfS2
namespace Go.Proofs.YtacgchklilfcaaaGreatDoor.Mp
set_option linter.unusedVariables false
set_option linter.unusedSimpArgs false
open Go Go.RowKit Go.Maps Go.ChangeMaps Go.MapKept
open Go.Proofs (encStr)
abbrev VD := DataW Value
def RV (v : Value) : Option (VD × List MemPlace) := some (.held v, [])
def kl (s : ByteArray) : Lit := .string s.data.toList
theorem kl_inj {s t : ByteArray} (h : kl s = kl t) : s = t := by
  unfold kl at h
  injection h with h
  exact ByteArray.ext (Array.ext' h)
theorem kl_key (s : ByteArray) : WideAt.IsKeyLit (kl s) := by
  unfold kl WideAt.IsKeyLit
  simp
theorem kl_of {P : Program} {k : TypeId} (hk : P.underlying k = some .string) {s : ByteArray} (hs : s.size ≤ maxLen) : keyOf P k (.string s) = some (kl s) := by
  unfold kl
  simp [keyOf, hk, mapKey, hs]
def MapOf (P : Program) (k : TypeId) (w : World) (b n : Nat) (m : ByteArray → Option Value) : Prop :=
  ∃ D : VD, w.ownsMap P k RV b n D ∧ ∀ s z, D.atKey (kl s) z = (match m s with | some v => .held v | none => z)
variable {P : Program} {k : TypeId} {w : World} {b n : Nat} {m : ByteArray → Option Value}
theorem MapOf.lt (h : MapOf P k w b n m) : b < w.heap.size := by
  obtain ⟨D, h, _⟩ := h
  exact h.lt
theorem MapOf.move (h : MapOf P k w b n m) {w' : World} (hb : w'.heap[b]? = w.heap[b]?) : MapOf P k w' b n m := by
  obtain ⟨D, ⟨es, clock, h1, h2⟩, h'⟩ := h
  exact ⟨D, ⟨es, clock, hb.trans h1, h2⟩, h'⟩
theorem MapOf.below (h : MapOf P k w b n m) {w' : World} (hb : Below w.heap.size w w') : MapOf P k w' b n m := h.move (hb.block b h.lt)
theorem MapOf.far (h : MapOf P k w b n m) {p : Addr} (hb : b ≠ p.block) (u : Value) : MapOf P k (w.setCell p u) b n m := h.move (Below.heap_setCell w p u b hb)
theorem MapOf.alloc (h : MapOf P k w b n m) (o : Obj) : MapOf P k (w.alloc o) b n m := h.below ((Below.refl _ _).alloc (Nat.le_refl _) _)
theorem mapOf_made (w : World) (P : Program) (k : TypeId) : MapOf P k (w.alloc (.map #[] 0)) w.heap.size 0 (fun _ => none) :=
  ⟨_, World.ownsMap_made w P k RV, fun s z => rfl⟩
theorem turned_size {w w' : World} (h : w.mapTurned w' b) : w'.heap.size = w.heap.size := by
  obtain ⟨es, clock, es', clock', hbk, rfl⟩ := h
  simp [setBlock]
theorem turned_below {base : Nat} {w w' : World} (h : w.mapTurned w' b) (hb : base ≤ b) : Below base w w' := by
  have hg := h.grown
  exact ⟨hg.os, hg.tape, hg.output, hg.size, fun i hi => by
    by_cases hl : i < w.heap.size
    · exact hg.block i hl (fun e => by cases e; omega)
    · have hs := turned_size h
      rw [Array.getElem?_eq_none (by omega), Array.getElem?_eq_none (by omega)]⟩
theorem turned_other {w w' : World} (h : w.mapTurned w' b) {i : Nat} (hi : i ≠ b) : w'.heap[i]? = w.heap[i]? := by
  obtain ⟨es, clock, es', clock', hbk, rfl⟩ := h
  exact heap_setBlock_other hbk _ hi
theorem has_iff {D : VD} {m : ByteArray → Option Value} (hD : ∀ s z, D.atKey (kl s) z = (match m s with | some v => .held v | none => z)) (s : ByteArray) : has D (kl s) = (m s).isSome := by
  cases hm : m s with
  | none => exact has_false_of_atKey (fun z => by rw [hD, hm])
  | some v => exact has_true_of_atKey (y := .held v) (fun z => by rw [hD, hm])
theorem MapOf.run_look (hown : MapOf P k w b n m) {t e : TypeId} (hk : P.underlying k = some .string) (ht : P.underlying t = some (.map k e)) {z : Value} (hz : (zeroValue e).run P w = .ok z w) {s : ByteArray} (hs : s.size ≤ maxLen) {val : Value} (hval : (m s).getD z = val) :
    (Instr.lookup t (.map (some b)) (.string s) false).run P w = .ok val w := by
  subst hval
  obtain ⟨D, hown, hD⟩ := hown
  obtain ⟨v, ps, hrun, hv⟩ := hown.lookup (string_keyed hk) ht hz (zd := .held z) (zp := []) rfl (kl_of hk hs)
  have hv' : v = (m s).getD z := by
    rw [hD] at hv
    cases hm : m s with
    | none => rw [hm] at hv; simp [RV] at hv; exact hv.1
    | some u => rw [hm] at hv; simp [RV] at hv; exact hv.1
  rw [← hv']; exact hrun
section ops
variable (w : World) {ops : Array Oper} {rest : List Oper} {o : Oper} {a : Act} {Q : Exit → Act → World → Prop}
theorem wpList_look (hg : o.guard = none) (mo x : Operand) (t : TypeId) (hop : o.op = Op.lookup t mo x false) (k e : TypeId) (hk : P.underlying k = some .string) (ht : P.underlying t = some (.map k e)) (z : Value) (hz : (zeroValue e).run P w = .ok z w) (b n : Nat) (m : ByteArray → Option Value)
    (hm : a.eval mo = .map (some b)) (hown : MapOf P k w b n m) (s : ByteArray) (hx : a.eval x = .string s) (hs : s.size ≤ maxLen) (val : Value) (hval : (m s).getD z = val)
    (hK : wpList P ops Q rest (a.put o.dst val) w) : wpList P ops Q (o :: rest) a w := by
  subst hval
  refine wpList_plain hg fun K' hK' => ?_
  obtain ⟨D, hown, hD⟩ := hown
  obtain ⟨v, ps, hrun, hv⟩ := hown.lookup (string_keyed hk) ht hz (zd := .held z) (zp := []) rfl (kl_of hk hs)
  have hv' : v = (m s).getD z := by
    rw [hD] at hv
    cases hm : m s with
    | none => rw [hm] at hv; simp [RV] at hv; exact hv.1
    | some u => rw [hm] at hv; simp [RV] at hv; exact hv.1
  subst hv'
  unfold Oper.wp
  simp [execOp, hop, hm, hx, hrun, Result.andThen]
  exact hK' _ _ hK
def put (m : ByteArray → Option Value) (s : ByteArray) (v : Value) : ByteArray → Option Value := fun x => if x = s then some v else m x
def del (m : ByteArray → Option Value) (s : ByteArray) : ByteArray → Option Value := fun x => if x = s then none else m x
theorem wpList_store (hg : o.guard = none) (mo x v : Operand) (t : TypeId) (hop : o.op = Op.mapUpdate t mo x v) (k e : TypeId) (hk : P.underlying k = some .string) (ht : P.underlying t = some (.map k e)) (b n : Nat) (m : ByteArray → Option Value)
    (hm : a.eval mo = .map (some b)) (hown : MapOf P k w b n m) (hn : n < maxLen) (s : ByteArray) (val : Value) (hx : a.eval x = .string s) (hv : a.eval v = val) (hs : s.size ≤ maxLen)
    (hK : ∀ w', MapOf P k w' b (n + 1) (put m s val) → w.mapTurned w' b → wpList P ops Q rest (a.put o.dst undef) w') : wpList P ops Q (o :: rest) a w := by
  refine wpList_plain hg fun K' hK' => ?_
  obtain ⟨D, hown, hD⟩ := hown
  obtain ⟨w', hrun, r1, r2⟩ := hown.store (string_keyed hk) ht hn (kl_of hk hs) (val := val) (d := .held val) (ps := []) rfl
  unfold Oper.wp
  simp [execOp, hop, hm, hx, hv, hrun, Result.andThen]
  refine hK' _ _ (hK w' ⟨_, r1, fun y z => ?_⟩ r2)
  unfold put
  by_cases e : y = s
  · subst e
    rw [if_pos rfl, atKey_put_same hown.isMap (kl_key _)]
  · rw [if_neg e, atKey_put_other (fun h => e (kl_inj h)), hD]
theorem wpList_drop (hg : o.guard = none) (mo x : Operand) (t k : TypeId) (hop : o.op = Op.call { callee := Callee.builtin Builtin.delete, args := #[mo, x], argTypes := #[t, k] }) (e : TypeId) (hk : P.underlying k = some .string) (ht : P.underlying t = some (.map k e)) (b n : Nat) (m : ByteArray → Option Value)
    (hm : a.eval mo = .map (some b)) (hown : MapOf P k w b n m) (s : ByteArray) (hx : a.eval x = .string s) (hs : s.size ≤ maxLen)
    (hK : ∀ w', MapOf P k w' b n (del m s) → w.mapTurned w' b → wpList P ops Q rest (a.put o.dst (.tuple #[])) w') : wpList P ops Q (o :: rest) a w := by
  refine wpList_plain hg fun K' hK' => ?_
  obtain ⟨D, hown, hD⟩ := hown
  obtain ⟨w', hrun, r1, r2⟩ := hown.drop (string_keyed hk) ht (kl_of hk hs) o.type
  unfold Oper.wp
  simp [execOp, hop, resolve, invoke, builtin, hm, hx, hrun, Result.andThen]
  refine hK' _ _ (hK w' ⟨_, r1, fun y z => ?_⟩ r2)
  unfold del
  by_cases e : y = s
  · subst e
    rw [if_pos rfl, atKey_del_same]
  · rw [if_neg e, atKey_del_other (fun h => e (kl_inj h)), hD]
end ops
def bs (l : List UInt8) : ByteArray := ⟨l.toArray⟩
theorem bs_L (s : ByteArray) : bs s.data.toList = s := by unfold bs; apply ByteArray.ext; simp
theorem L_bs (l : List UInt8) : (bs l).data.toList = l := by simp [bs]
structure KeysOf (m : ByteArray → Option Value) (ks : List ByteArray) : Prop where
  rising : ks.Pairwise (fun x y => x.data.toList < y.data.toList)
  mem : ∀ s, s ∈ ks ↔ (m s).isSome = true
theorem keysOf_unique {m : ByteArray → Option Value} {a b : List ByteArray} (ha : KeysOf m a) (hb : KeysOf m b) : a = b := by
  have hp : a.Perm b := by
    have nd : ∀ {l : List ByteArray}, l.Pairwise (fun x y => x.data.toList < y.data.toList) → l.Nodup := fun h => h.imp (fun {x y} h e => by subst e; exact List.lt_irrefl _ h)
    exact (List.perm_ext_iff_of_nodup (nd ha.rising) (nd hb.rising)).2 (fun s => by rw [ha.mem, hb.mem])
  exact List.Perm.eq_of_pairwise (le := fun x y => x.data.toList < y.data.toList) (fun x y _ _ h1 h2 => absurd (List.lt_trans h1 h2) (List.lt_irrefl _)) ha.rising hb.rising hp
theorem keys_sorted {P : Program} {k : TypeId} (hk : P.underlying k = some .string) {w : World} {b n : Nat} {D : VD} {m : ByteArray → Option Value} (hown : w.ownsMap P k RV b n D) (hD : ∀ s z, D.atKey (kl s) z = (match m s with | some v => .held v | none => z)) {ss : List (List UInt8)} (hp : ss.Perm (strKeys D)) :
    KeysOf m ((ss.mergeSort (fun x y => decide (x ≤ y))).map bs) := by
  obtain ⟨es, rfl, hks⟩ := World.ownsMap.keysOf hown
  have hks' : ∀ p ∈ es, ∃ x, p.1 = .string x := fun p hp => by
    obtain ⟨v, hv⟩ := hks p hp
    obtain ⟨x, _, hx, _⟩ := Maps.keyOf_str hk hv
    exact ⟨x, hx⟩
  obtain ⟨es', he, hpw⟩ := World.ownsMap.tidy hown (string_keyed hk)
  cases he
  have hnd : (strKeys (.map es : VD)).Nodup := by
    show (es.map fun p => strOf p.1).Nodup
    refine List.pairwise_map.2 (hpw.imp_of_mem fun {p q} hp' hq' hne e => hne ?_)
    obtain ⟨a, ha⟩ := hks' p hp'
    obtain ⟨b, hb⟩ := hks' q hq'
    rw [ha, hb] at e ⊢
    exact congrArg _ e
  have hsp := List.mergeSort_perm ss (fun x y => decide (x ≤ y))
  have hnd2 := (hsp.trans hp).nodup_iff.2 hnd
  have hso : (ss.mergeSort (fun x y => decide (x ≤ y))).Pairwise (fun x y => decide (x ≤ y) = true) := by
    refine List.pairwise_mergeSort (fun a b c h1 h2 => ?_) (fun a b => ?_) ss
    · simp only [decide_eq_true_eq] at *; exact List.le_trans h1 h2
    · simp only [Bool.or_eq_true, decide_eq_true_eq]; exact List.le_total a b
  refine ⟨?_, fun s => ?_⟩
  · rw [List.pairwise_map]
    refine (hso.and hnd2).imp fun {x y} h => ?_
    rw [L_bs, L_bs]
    have h1 := of_decide_eq_true h.1
    exact Std.lt_of_le_of_ne h1 h.2
  · rw [← has_iff hD, List.mem_map]
    constructor
    · rintro ⟨x, hx, rfl⟩
      have hx' := (hsp.trans hp).mem_iff.1 hx
      obtain ⟨p, hp', rfl⟩ := List.mem_map.1 hx'
      obtain ⟨y, hy⟩ := hks' p hp'
      refine List.any_eq_true.2 ⟨p, hp', ?_⟩
      rw [hy]
      simp [kl, strOf, L_bs, Lit.sameKey]
    · intro h
      obtain ⟨p, hp', hs⟩ := List.any_eq_true.1 h
      obtain ⟨y, hy⟩ := hks' p hp'
      have e : p.1 = kl s := WideAt.sameKey_eq hs
      refine ⟨s.data.toList, (hsp.trans hp).mem_iff.2 (List.mem_map.2 ⟨p, hp', ?_⟩), bs_L s⟩
      rw [e]; rfl
end Go.Proofs.YtacgchklilfcaaaGreatDoor.Mp
namespace Go.Proofs.YtacgchklilfcaaaGreatDoor.Mp
set_option linter.unusedVariables false
set_option linter.unusedSimpArgs false
open Go Go.RowKit Go.Maps Go.Sort Go.Shelf Go.Proofs
open Go.Proofs.YtacgchklilfcaaaGreatDoorW.PrintWords Go.Proofs.YtacgchklilfcaaaGreatDoorW.PrintLast Go.Proofs.YtacgchklilfcaaaGreatDoorW.PrintMore
theorem sorts (m : Nat) : AnyZ.SortsIn Tryz.prog Tryz.sorted23_ren Fence.wide m :=
  ⟨fun blk off cap ss W hH hblk hsz => callsIn_wide.2 (AnyM.slices_Sort_string Tryz.sort52 blk off cap ss W hH hblk hsz),
   fun p cap W => callsIn_wide.2 (AnyM.slices_Sort_string_none Tryz.sort52 p cap W)⟩
theorem row_of {w : World} {base : Nat} {v : Value} {l : List (List UInt8)} {n : Nat} (hn : n = l.length) (h : w.ownsRow base 9 1 v n (l.map encStr)) : Kd.R Kd.string 9 w base (fun _ => True) v (l.map bs) := by
  subst hn
  refine Kd.R_of_own ?_ (fun _ _ => trivial)
  have e : encs Value.string (l.map bs) = l.map encStr := by
    unfold encs
    rw [List.map_map]
    rfl
  rw [e, List.length_map]
  exact h
theorem keysS (mb : Option Nat) (W : World) : Calls Tryz.prog 24 #[.map mb] W fun e w' => e = .returned (.func (.func 53) #[] #[.pointer (some ⟨W.heap.size, 0, none⟩)]) ∧ w' = W.alloc (.cells #[.map mb] 48) :=
  callsIn_wide.1 (AnyZ.keys_in Tryz.keys24 Fence.wide 5 trivial rfl mb W)
set_option maxHeartbeats 1000000 in
theorem sortedS (b n : Nat) (m : ByteArray → Option Value) (w : World) (hm : MapOf Tryz.prog 9 w b n m) (hn : n ≤ 1000000000000) :
    Calls Tryz.prog 23 #[.func (.func 53) #[] #[.pointer (some ⟨w.heap.size, 0, none⟩)]] (w.alloc (.cells #[.map (some b)] 48)) fun e w' => ∃ (v : Value) (ks : List ByteArray), e = .returned v ∧ Mp.KeysOf m ks ∧ ks.length ≤ n ∧ Kd.R Kd.string 9 w' w.heap.size (fun _ => True) v ks ∧ Below w.heap.size (w.alloc (.cells #[.map (some b)] 48)) w' := by
  obtain ⟨D0, hown, hD⟩ := hm
  have hbl := hown.lt
  have hsz := hown.size_le
  have hmax : Maps.size D0 ≤ maxLen := by have : maxLen = 9223372036854775807 := rfl; omega
  have hseq : SeqGives Fence.wide 2 Tryz.prog 53 #[.pointer (some ⟨w.heap.size, 0, none⟩)] encStr (fun ss => ss.Perm (strKeys D0)) (Maps.size D0) (w.alloc (.cells #[.map (some b)] 48)) :=
    AnyZ.keys_gives (ρ := Tryz.keys24_ren) { Tryz.keys24 with } Fence.wide _ trivial rfl (by omega) w.heap.size b n D0 _ (by simp) (by simp) (by
      obtain ⟨es, clock, hb, Ft, hs, hD⟩ := hown
      exact ⟨es, clock, (Below.heap_alloc _ _ b hbl).trans hb, Ft, hs, hD⟩)
  refine (callsIn_wide.1 (AnyZ.sorted_in Tryz.sorted23 Fence.wide 5 trivial trivial trivial trivial rfl (by omega) (sorts _) (enters_of Tryz.func52 (by kernel_rfl) rfl) 53 #[.pointer (some ⟨w.heap.size, 0, none⟩)] trivial (enters_of Tryz.func53 (by kernel_rfl) rfl) _ _ hmax (by omega) _ hseq)).mono ?_
  rintro e w' ⟨v, ss, rfl, hp, hR, hnil, hB⟩
  have hsz1 : (w.alloc (.cells #[.map (some b)] 48)).heap.size = w.heap.size + 1 := by simp
  rw [hsz1] at hR hB
  have hks := keys_sorted (k := 9) Tryz.underlying9 hown hD hp
  have hlen : (ss.mergeSort (fun x y => decide (x ≤ y))).length = ss.length := List.length_mergeSort ss
  refine ⟨v, _, rfl, hks, ?_, Kd.R_lower (row_of hlen.symm hR) (by omega), ⟨hB.os, hB.tape, hB.output, hB.size, fun i hi => hB.block i (by omega)⟩⟩
  rw [List.length_map, hlen, hp.length_eq]
  have : (strKeys D0).length = Maps.size D0 := by
    obtain ⟨es, rfl⟩ := hown.isMap
    simp [strKeys, Maps.size]
  omega
theorem keysI (mb : Option Nat) (W : World) : Calls Tryz.prog 43 #[.map mb] W fun e w' => e = .returned (.func (.func 57) #[] #[.pointer (some ⟨W.heap.size, 0, none⟩)]) ∧ w' = W.alloc (.cells #[.map mb] 62) :=
  callsIn_wide.1 (AnyZ.keys_in Tryz.keys43 Fence.wide 5 trivial rfl mb W)
set_option maxHeartbeats 1000000 in
theorem sortedI (b n : Nat) (m : ByteArray → Option Value) (w : World) (hm : MapOf Tryz.prog 9 w b n m) (hn : n ≤ 1000000000000) :
    Calls Tryz.prog 23 #[.func (.func 57) #[] #[.pointer (some ⟨w.heap.size, 0, none⟩)]] (w.alloc (.cells #[.map (some b)] 62)) fun e w' => ∃ (v : Value) (ks : List ByteArray), e = .returned v ∧ Mp.KeysOf m ks ∧ ks.length ≤ n ∧ Kd.R Kd.string 9 w' w.heap.size (fun _ => True) v ks ∧ Below w.heap.size (w.alloc (.cells #[.map (some b)] 62)) w' := by
  obtain ⟨D0, hown, hD⟩ := hm
  have hbl := hown.lt
  have hsz := hown.size_le
  have hmax : Maps.size D0 ≤ maxLen := by have : maxLen = 9223372036854775807 := rfl; omega
  have hseq : SeqGives Fence.wide 2 Tryz.prog 57 #[.pointer (some ⟨w.heap.size, 0, none⟩)] encStr (fun ss => ss.Perm (strKeys D0)) (Maps.size D0) (w.alloc (.cells #[.map (some b)] 62)) :=
    AnyZ.keys_gives (ρ := Tryz.keys43_ren) { Tryz.keys43 with } Fence.wide _ trivial rfl (by omega) w.heap.size b n D0 _ (by simp) (by simp) (by
      obtain ⟨es, clock, hb, Ft, hs, hD⟩ := hown
      exact ⟨es, clock, (Below.heap_alloc _ _ b hbl).trans hb, Ft, hs, hD⟩)
  refine (callsIn_wide.1 (AnyZ.sorted_in Tryz.sorted23 Fence.wide 5 trivial trivial trivial trivial rfl (by omega) (sorts _) (enters_of Tryz.func52 (by kernel_rfl) rfl) 57 #[.pointer (some ⟨w.heap.size, 0, none⟩)] trivial (enters_of Tryz.func57 (by kernel_rfl) rfl) _ _ hmax (by omega) _ hseq)).mono ?_
  rintro e w' ⟨v, ss, rfl, hp, hR, hnil, hB⟩
  have hsz1 : (w.alloc (.cells #[.map (some b)] 62)).heap.size = w.heap.size + 1 := by simp
  rw [hsz1] at hR hB
  have hks := keys_sorted (k := 9) Tryz.underlying9 hown hD hp
  have hlen : (ss.mergeSort (fun x y => decide (x ≤ y))).length = ss.length := List.length_mergeSort ss
  refine ⟨v, _, rfl, hks, ?_, Kd.R_lower (row_of hlen.symm hR) (by omega), ⟨hB.os, hB.tape, hB.output, hB.size, fun i hi => hB.block i (by omega)⟩⟩
  rw [List.length_map, hlen, hp.length_eq]
  have : (strKeys D0).length = Maps.size D0 := by
    obtain ⟨es, rfl⟩ := hown.isMap
    simp [strKeys, Maps.size]
  omega
end Go.Proofs.YtacgchklilfcaaaGreatDoor.Mp
namespace Go.Proofs.YtacgchklilfcaaaGreatDoor.Rf
set_option linter.unusedVariables false
set_option linter.unusedSimpArgs false
open Go Go.RowKit Go.Proofs.YtacgchklilfcaaaGreatDoorW.PrintWords Go.Proofs.YtacgchklilfcaaaGreatDoorW.PrintLast Go.Proofs.YtacgchklilfcaaaGreatDoorW.PrintMore PRfBase Mp
open Classical in
noncomputable def onceL : List ByteArray → List ByteArray
  | [] => []
  | x :: r => if x ∈ r then onceL r else x :: onceL r
theorem mem_once (l : List ByteArray) (s : ByteArray) : s ∈ onceL l ↔ s ∈ l := by
  induction l with
  | nil => exact Iff.rfl
  | cons x r ih =>
    unfold onceL
    split
    · rename_i h
      rw [ih, List.mem_cons]
      exact ⟨Or.inr, fun k => k.elim (fun e => e ▸ h) id⟩
    · rw [List.mem_cons, List.mem_cons, ih]
theorem nodup_once (l : List ByteArray) : (onceL l).Nodup := by
  induction l with
  | nil => exact List.nodup_nil
  | cons x r ih =>
    unfold onceL
    split
    · exact ih
    · rename_i h
      exact List.nodup_cons.2 ⟨fun k => h ((mem_once r x).1 k), ih⟩
noncomputable def riseL (l : List ByteArray) : List ByteArray := (onceL l).mergeSort (fun x y => decide (L x ≤ L y))
theorem rise_keys (l : List ByteArray) (m : ByteArray → Option Value) (h : ∀ s, (m s).isSome = true ↔ s ∈ l) : Mp.KeysOf m (riseL l) := by
  have hp := List.mergeSort_perm (onceL l) (fun x y => decide (L x ≤ L y))
  have hso : (riseL l).Pairwise (fun x y => decide (L x ≤ L y) = true) := by
    refine List.pairwise_mergeSort (fun a b c h1 h2 => ?_) (fun a b => ?_) _
    · simp only [decide_eq_true_eq] at *; exact List.le_trans h1 h2
    · simp only [Bool.or_eq_true, decide_eq_true_eq]; exact List.le_total _ _
  have hnd : (riseL l).Nodup := hp.nodup_iff.2 (nodup_once l)
  refine ⟨(hso.and hnd).imp fun {x y} h => ?_, fun s => ?_⟩
  · exact Std.lt_of_le_of_ne (of_decide_eq_true h.1) (fun e => h.2 (L_inj e))
  · rw [h]
    exact hp.mem_iff.trans (mem_once l s)
def Rsh (l : List Ref) : Prop := ∀ x ∈ l, x.f0.size ≤ 1000000000000 ∧ x.f1.size ≤ 1000000000000
noncomputable def tipsL (l : List Ref) : List ByteArray := riseL (l.map (·.f1))
set_option maxHeartbeats 8000000 in
set_option maxRecDepth 100000 in
theorem tips_walk (A : Option Addr) (c n : Nat) (l : List Ref) (w : World) (hC : Kd.C k46 w A n l) (hn : l.length = n) (hc : n ≤ c) (hsh : Rsh l) (hnm : n ≤ 1000000000000) :
    Calls Tryz.prog 16 #[.slice A n c] w fun e w' => ∃ v, e = .returned v ∧ Kd.R Kd.string 9 w' w.heap.size (fun _ => True) v (tipsL l) ∧ Below w.heap.size w w' := by
  have HC := As.mk hC
  have HN := As.mk hn
  have HSH := As.mk hsh
  clear hC hn hsh
  go_enter Tryz.func16, Tryz.ntmps16
  have hmm := @run_makeMap Tryz.prog
  have hmax : Go.maxLen = 9223372036854775807 := rfl
  have HM0 : As (Mp.MapOf Tryz.prog 9 (w.alloc (.map #[] 0)) w.heap.size 0 (fun _ => none)) := ⟨Mp.mapOf_made w _ _⟩
  go_wp2_with (fail)
  go_loopw [9] (fun v9 wr => ∃ i : Nat, v9 = .int .i64 i ∧ i ≤ n ∧ As (∃ m, Mp.MapOf Tryz.prog 9 wr w.heap.size i m ∧ (∀ s, (m s).isSome = true ↔ s ∈ (l.take i).map (·.f1)) ∧ (∀ s v, m s = some v → ∃ c, v = .int .i64 c)) ∧ As (Below w.heap.size w wr)) (fun v9 _ => n - (intOf v9).toNat)
  case atStart => exact ⟨0, rfl, by omega, ⟨_, HM0.out, fun s => by simp, fun s v h => by cases h⟩, ⟨(Below.refl _ _).alloc (Nat.le_refl _) _⟩⟩
  case round =>
    obtain ⟨i, rfl, hi, HM, HB⟩ := hrel
    by_cases hlt : i < n
    · have hil : i < l.length := by rw [HN.out]; exact hlt
      obtain ⟨ad, rfl, h0, h1⟩ := at_T46 (Kd.C_below HC.out HB.out) (i : Int) (by omega) (by omega)
      rw [Int.toNat_natCast] at h0 h1
      obtain ⟨x, hx⟩ : ∃ x, rd_T46 l (i : Int) = x := ⟨_, rfl⟩
      have hxi : l[i]? = some x := by rw [← hx]; simp [rd_T46, hil]
      rw [hx] at h0 h1
      have HX := As.mk hxi
      clear hx hxi hil
      obtain ⟨m, hM, hin, hint⟩ := HM.out
      obtain ⟨cv, hcv⟩ : ∃ cv, (m x.f1).getD (.int .i64 0) = .int .i64 cv := by
        cases hm : m x.f1 with
        | none => exact ⟨0, rfl⟩
        | some v => obtain ⟨c, rfl⟩ := hint _ _ hm; exact ⟨c, rfl⟩
      have hxs : x.f1.size ≤ maxLen := by
        have := (HSH.out x (List.mem_of_getElem? HX.out)).2
        omega
      have hin2 : As (∀ s, ((put m x.f1 (.int .i64 (wrap64 (cv + 1)))) s).isSome = true ↔ s ∈ (l.take (i + 1)).map (·.f1)) := ⟨fun s => by
        have := List.take_add_one (l := l) (i := i)
        rw [this, HX.out, List.map_append, List.mem_append, ← hin s]
        unfold put
        by_cases e : s = x.f1
        · rw [if_pos e]; simp [e]
        · rw [if_neg e]; simp [e]⟩
      have hint2 : As (∀ s v, put m x.f1 (.int .i64 (wrap64 (cv + 1))) s = some v → ∃ c, v = .int .i64 c) := ⟨fun s v h => by
        unfold put at h
        split at h
        · cases h; exact ⟨_, rfl⟩
        · exact hint s v h⟩
      clear hin hint HM
      go_wp2_with (first | (at_lookup; refine Mp.wpList_look _ rfl _ _ _ rfl 9 3 Tryz.underlying9 Tryz.underlying62 (.int .i64 0) rfl w.heap.size i m rfl (hM.alloc _) x.f1 rfl hxs _ hcv ?_) | (at_mapUpdate; refine Mp.wpList_store _ rfl _ _ _ _ rfl 9 3 Tryz.underlying9 Tryz.underlying62 w.heap.size i m rfl (hM.alloc _) (by omega) x.f1 _ rfl rfl hxs ?_; intro w1 hM1 hT1) | fail)
      have HM1 := As.mk hM1
      have HT1 := As.mk hT1
      clear hM1 hT1
      go_wp2_with (fail)
      exact ⟨⟨i + 1, by go_num, by omega, ⟨_, HM1.out, hin2.out, hint2.out⟩, ⟨(HB.out.alloc HB.out.size _).trans (turned_below HT1.out (Nat.le_refl _))⟩⟩, by simp [intOf]; omega⟩
    · have hin : i = n := by omega
      subst hin
      obtain ⟨m, hM, hin, hint⟩ := HM.out
      have HKS := As.mk (rise_keys (l.map (·.f1)) m (fun s => by rw [hin s, List.take_of_length_le (by rw [HN.out]; exact Nat.le_refl _)]))
      clear hin hint HM
      have HM := As.mk hM
      clear hM
      go_wp2_with (fail)
      refine (Mp.keysI (some w.heap.size) wr).mono ?_
      rintro e w1 ⟨rfl, rfl⟩
      go_wp2_with (fail)
      refine (Mp.sortedI w.heap.size i m wr HM.out (by omega)).mono ?_
      rintro e w1 ⟨v, ks, rfl, hks, hkl, hR, hb⟩
      have HKK := As.mk (keysOf_unique hks HKS.out)
      have HR := As.mk hR
      have HB1 := As.mk hb
      clear hks hR hb
      go_wp2_with (fail)
      go_ret
      refine ⟨v, rfl, ?_, ?_⟩
      · rw [show tipsL l = ks from HKK.out.symm]
        exact Kd.R_lower HR.out HB.out.size
      · have h1 : Below w.heap.size w (wr.alloc (.cells #[.map (some w.heap.size)] 62)) := HB.out.alloc HB.out.size _
        exact h1.trans (HB1.out.mono HB.out.size)
end Go.Proofs.YtacgchklilfcaaaGreatDoor.Rf
