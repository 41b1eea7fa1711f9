/- Joined texts: ObText, CutS, ObPlain, ObPart, ObRdig, ObFn. No condition but what stands in each. -/
import Derived.Test.YtehmhfbfgniekaaGreatDoorProg
import Derived.Below
import Derived.Deep.Draws
import Derived.Deep.AppendLies
import Derived.Maps.AppendAt
import Derived.OwnWalk
import Derived.Laws.BytesArg
import Derived.Laws.MakeOwn
import Derived.Laws.OwnMore
import Derived.Deep.OwnRows
import Derived.Tactics
import Derived.Lib.ConvBytes
import Derived.Laws.Slices
import Derived.WalkKit
import Derived.KernelRfl
import Derived.RowKit3
import Derived.Deep.LoopGhost
import Derived.Deep.QuietTactic
import Derived.BigQuiet
import Derived.WideLaws
import Derived.Deep.DeepCutAuto
import Derived.Deep.CutBlock
import Derived.Deep.RegionHeld3
import Derived.Laws.Rows
import Derived.Lib.AppendStr
import Derived.ArgAppend
import Derived.Laws.IdiomCopy
import Derived.OrdersHeld
import Derived.Laws.BitsLemmas
import Derived.RowKit
import Derived.Test.YtehmhfbfgniekaaGreatDoorZWalkLessJ2
import Derived.BigRegion
import Derived.Shelf.Abstract
import Derived.Test.YtehmhfbfgniekaaGreatDoorZWalkLessJ4
import Derived.Test.YtehmhfbfgniekaaGreatDoorZWalkLessJ0
import Derived.Test.YtehmhfbfgniekaaGreatDoorZWalkLessJ1
import Derived.Lib.AppendIntMem
import Derived.Lib.ItoaLen
import Derived.Test.YtehmhfbfgniekaaGreatDoorZWalkLessJ6
import Derived.Test.YtehmhfbfgniekaaGreatDoorZWalkLessJ7
namespace Go.Proofs.YtehmhfbfgniekaaGreatDoor.Ob
set_option linter.unusedVariables false
set_option linter.unusedSimpArgs false
open Go Go.RowKit Go.Proofs.YtehmhfbfgniekaaGreatDoorW.PrintWords Go.Proofs.YtehmhfbfgniekaaGreatDoorW.PrintLast Go.Proofs.YtehmhfbfgniekaaGreatDoorW.PrintMore
structure As (p : Prop) : Prop where
  out : p
abbrev Tbl (w : World) : Prop := Lib.TabIs Tryz.prog w "internal/strconv.uint64pow10" .u64 Lib.pow10Tab
theorem Tbl.below {w w' : World} (h : Tbl w) (hb : Below w.heap.size w w') : Tbl w' := Lib.tabBelow_of_tabIs h w' hb
def textS (n : Int) : ByteArray := if n < 0 then ⟨#[]⟩ else ⟨(Lib.itoa n).toArray⟩
theorem text_walk (n : Int) (w : World) (h0 : -9223372036854775808 ≤ n) (h1 : n ≤ 9223372036854775807) (ht : Tbl w) :
    Calls Tryz.prog 59 #[.int .i64 n] w fun e w' => e = .returned (.string (textS n)) ∧ Below w.heap.size w w' := by
  by_cases hn : n < 0
  · have e : textS n = ⟨#[]⟩ := by rw [textS, if_pos hn]
    rw [e]
    go_enter Tryz.func59, Tryz.ntmps59
    go_wp2_with (fail)
    go_ret
    exact ⟨rfl, Below.refl _ _⟩
  · have e : textS n = ⟨(Lib.itoa n).toArray⟩ := by rw [textS, if_neg hn]
    rw [e]
    go_enter Tryz.func59, Tryz.ntmps59
    go_wp2_with (fail)
    refine (Tryz.strconv_Itoa n h0 h1 w ht).mono ?_
    rintro e w' ⟨rfl, k, os, rfl⟩
    go_wp2_with (fail)
    go_ret
    exact ⟨rfl, Lib.below_grow _ _ (Nat.le_refl _) _ _⟩
end Go.Proofs.YtehmhfbfgniekaaGreatDoor.Ob

namespace Go.Proofs.YtehmhfbfgniekaaGreatDoor.Ob
set_option linter.unusedVariables false
set_option linter.unusedSimpArgs false
open Go Go.RowKit Go.Proofs.YtehmhfbfgniekaaGreatDoorW.PrintWords Go.Proofs.YtehmhfbfgniekaaGreatDoorW.PrintLast Go.Proofs.YtehmhfbfgniekaaGreatDoorW.PrintMore PObBase Go.Proofs.YtehmhfbfgniekaaGreatDoor.Gl
abbrev L (s : ByteArray) : List UInt8 := s.data.toList
theorem L_len (s : ByteArray) : (L s).length = s.size := by simp [L]
theorem L_inj {s t : ByteArray} (h : L s = L t) : s = t := by
  apply ByteArray.ext
  exact Array.ext' h
theorem toL (s : ByteArray) : s.toList = L s := by rw [ByteArray.toList_eq]
theorem toL_inj (s t : ByteArray) : s.toList = t.toList ↔ s = t := by
  rw [toL, toL]
  exact ⟨L_inj, fun h => by rw [h]⟩
theorem toL_nil (s : ByteArray) : s.toList = ([] : List UInt8) ↔ s.size = 0 := by
  rw [toL, ← L_len]; exact List.length_eq_zero_iff.symm
theorem bt_get {s : ByteArray} {i : Nat} {u : UInt8} (h : (L s)[i]? = some u) (j : Int) (hj : j = i) : bt s j = (u.toNat : Int) := by
  subst hj
  obtain ⟨hl, he⟩ := List.getElem?_eq_some_iff.1 h
  rw [L_len] at hl
  rw [bt, Int.toNat_natCast, dif_pos hl, ← he]
  rfl
theorem w64 (x : Int) (h0 : 0 ≤ x) (h1 : x ≤ 9223372036854775807) : wrap64 x = x := by unfold wrap64; omega
def hexOk (u : UInt8) : Bool := (decide (48 ≤ u.toNat) && decide (u.toNat ≤ 57)) || (decide (97 ≤ u.toNat) && decide (u.toNat ≤ 102))
def nmB (s : ByteArray) : Bool := (L s).all hexOk && decide (s.size = 64)
theorem hexOk_iff (u : UInt8) : hexOk u = true ↔ ((48 ≤ u.toNat ∧ u.toNat ≤ 57) ∨ (97 ≤ u.toNat ∧ u.toNat ≤ 102)) := by
  simp only [hexOk, Bool.or_eq_true, Bool.and_eq_true, decide_eq_true_iff]
theorem dnamed_l0 (s : ByteArray) (hs : s.size ≤ 1000000000000) : ∀ (d i : Nat), s.size - i = d → i ≤ s.size → Ev (fun k => digest_Named.l0 k s (s.size : Int) (i : Int)) (((L s).drop i).all hexOk && decide (s.size = 64)) := by
  intro d
  induction d with
  | zero =>
    intro i hd hi
    have hin : i = s.size := by omega
    subst hin
    rw [List.drop_of_length_le (by rw [L_len]; exact Nat.le_refl _), List.all_nil, Bool.true_and]
    refine Ev.step (f := fun _ => some (decide (s.size = 64))) (fun k => ?_) (Ev.now _)
    simp only [digest_Named.l0]
    rw [if_neg (by omega)]
    congr 1
    rw [Bool.eq_iff_iff, beq_iff_eq, decide_eq_true_iff]; omega
  | succ d ih =>
    intro i hd hi
    have hil : i < (L s).length := by rw [L_len]; omega
    obtain ⟨u, hu⟩ : ∃ u, (L s)[i]? = some u := ⟨_, List.getElem?_eq_getElem hil⟩
    have hb := bt_get hu (i : Int) rfl
    have hd1 : (L s).drop i = u :: (L s).drop (i + 1) := by
      rw [List.drop_eq_getElem_cons hil, (List.getElem?_eq_some_iff.1 hu).2]
    have ih' := ih (i + 1) (by omega) (by omega)
    have hw : wrap64 ((i : Int) + 1) = ((i + 1 : Nat) : Int) := by rw [w64 _ (by omega) (by omega)]; omega
    rw [hd1, List.all_cons]
    have hlk := hexOk_iff u
    by_cases h : hexOk u = true
    · have h' := hlk.1 h
      rw [h, Bool.true_and]
      refine Ev.step (fun k => ?_) ih'
      simp only [digest_Named.l0]
      rw [if_pos (by omega), if_pos (by omega), if_pos (by omega), hb, hw, if_neg (by omega)]
      by_cases h4 : (u.toNat : Int) > 57
      · rw [if_pos h4, if_neg (by omega), if_neg (by omega)]
      · rw [if_neg h4]
    · have h' := mt hlk.2 h
      rw [Bool.not_eq_true] at h
      rw [h, Bool.false_and, Bool.false_and]
      refine Ev.step (f := fun _ => some false) (fun k => ?_) (Ev.now _)
      simp only [digest_Named.l0]
      rw [if_pos (by omega), if_pos (by omega), if_pos (by omega), hb]
      by_cases h4 : (u.toNat : Int) < 48
      · rw [if_pos h4, if_pos (by omega)]
      · rw [if_neg h4, if_pos (by omega)]
        by_cases h6 : (u.toNat : Int) < 97
        · rw [if_pos h6]
        · rw [if_neg h6, if_pos (by omega)]
theorem dnamed_ev (s : ByteArray) (hs : s.size ≤ 1000000000000) : Ev (fun k => digest_Named.f k s) (nmB s) := by
  have := dnamed_l0 s hs s.size 0 (by omega) (by omega)
  rw [List.drop_zero] at this
  exact this
theorem dnamed_walk (s : ByteArray) (hs : s.size ≤ 1000000000000) (w : World) : Calls Tryz.prog 125 #[.string s] w fun e w' => e = .returned (.bool (nmB s)) ∧ Below w.heap.size w w' := by
  obtain ⟨k, hk⟩ := (dnamed_ev s hs).rounds
  exact (digest_Named.calls k s _ w hk).mono fun e w' h => ⟨h.1, h.2.below⟩
theorem nm_size {a : ByteArray} (h : nmB a = true) : a.size = 64 := by
  unfold nmB at h
  rw [Bool.and_eq_true, decide_eq_true_iff] at h
  exact h.2
def bs (l : List UInt8) : ByteArray := ⟨l.toArray⟩
theorem L_bs (l : List UInt8) : L (bs l) = l := by simp [L, bs]
theorem bs_L (s : ByteArray) : bs (L s) = s := L_inj (L_bs _)
theorem bs_size (l : List UInt8) : (bs l).size = l.length := by rw [← L_len, L_bs]
def cutB (c : UInt8) : List UInt8 → List UInt8 × List UInt8 × Bool
  | [] => ([], [], false)
  | b :: r => if b = c then ([], r, true) else (b :: (cutB c r).1, (cutB c r).2.1, (cutB c r).2.2)
theorem cutB_none {c : UInt8} : ∀ {l : List UInt8}, Lib.indexByte l c = -1 → cutB c l = (l, [], false)
  | [], _ => rfl
  | b :: r, h => by
    rw [Lib.indexByte] at h
    by_cases hb : b = c
    · subst hb; simp at h
    · have hb' : (b == c) = false := by rw [beq_eq_false_iff_ne]; exact hb
      have hg := Lib.indexByte_ge r c
      rw [hb'] at h
      by_cases hr : Lib.indexByte r c = -1
      · rw [cutB, if_neg hb, cutB_none hr]
      · have : (Lib.indexByte r c == -1) = false := by rw [beq_eq_false_iff_ne]; exact hr
        rw [this] at h
        exact absurd h (by simp <;> omega)
theorem cutB_some {c : UInt8} : ∀ {l : List UInt8} {i : Nat}, Lib.indexByte l c = (i : Int) → cutB c l = (l.take i, l.drop (i + 1), true) ∧ i < l.length
  | [], i, h => by (simp [Lib.indexByte] at h) <;> omega
  | b :: r, i, h => by
    rw [Lib.indexByte] at h
    by_cases hb : b = c
    · subst hb
      simp at h
      have : i = 0 := by omega
      subst this
      simp [cutB]
    · have hb' : (b == c) = false := by rw [beq_eq_false_iff_ne]; exact hb
      have hg := Lib.indexByte_ge r c
      rw [hb'] at h
      by_cases hr : Lib.indexByte r c = -1
      · exact absurd h (by simp [hr] <;> omega)
      · have : (Lib.indexByte r c == -1) = false := by rw [beq_eq_false_iff_ne]; exact hr
        rw [this] at h
        simp at h
        obtain ⟨j, rfl⟩ : ∃ j, i = j + 1 := ⟨i - 1, by omega⟩
        obtain ⟨h1, h2⟩ := cutB_some (c := c) (l := r) (i := j) (by omega)
        rw [cutB, if_neg hb, h1]
        simp; omega
theorem cut_eq (s : ByteArray) (c : UInt8) (hs : s.size ≤ 1000000000000) : strings_Cut.f s ⟨#[c]⟩ = some (bs (cutB c (L s)).1, bs (cutB c (L s)).2.1, (cutB c (L s)).2.2) := by
  unfold strings_Cut.f stringslite_Cut.f
  have hi : lite_Index.f s ⟨#[c]⟩ = some (Lib.indexByte (L s) c) := by rw [lite_Index.f, show oneB ⟨#[c]⟩ = some c from rfl]; rfl
  rw [hi, Option.bind_some]
  have hg := Lib.indexByte_ge (L s) c
  by_cases hn : Lib.indexByte (L s) c = -1
  · rw [if_neg (by omega), cutB_none hn, bs_L]; rfl
  · obtain ⟨i, hi'⟩ : ∃ i : Nat, Lib.indexByte (L s) c = (i : Int) := ⟨(Lib.indexByte (L s) c).toNat, by omega⟩
    obtain ⟨h1, h2⟩ := cutB_some hi'
    rw [L_len] at h2
    have hw : wrap64 ((i : Int) + ((⟨#[c]⟩ : ByteArray).size : Int)) = ((i + 1 : Nat) : Int) := by
      have : (⟨#[c]⟩ : ByteArray).size = 1 := rfl
      rw [this, w64 _ (by omega) (by omega)]; omega
    rw [hi', if_pos (by omega), if_pos (by omega), if_pos (by omega), hw, if_pos (by omega), if_pos (by omega), h1, Option.bind_some, Int.toNat_natCast, Int.toNat_natCast]
    congr 2
    · apply L_inj
      rw [L_bs]; simp [L, ByteArray.data_extract]
    · congr 1
      apply L_inj
      rw [L_bs]
      simp only [L, ByteArray.data_extract, Array.toList_extract]
      rw [List.extract_eq_take_drop]
      exact List.take_of_length_le (by rw [List.length_drop, Array.length_toList]; exact Nat.le_refl _)
theorem cutB_len (c : UInt8) : ∀ l : List UInt8, (cutB c l).1.length + (cutB c l).2.1.length ≤ l.length ∧ (l ≠ [] → (cutB c l).2.1.length < l.length)
  | [] => ⟨by simp [cutB], fun h => absurd rfl h⟩
  | b :: r => by
    have ih := cutB_len c r
    rw [cutB]
    by_cases hb : b = c
    · rw [if_pos hb]; simp
    · rw [if_neg hb]
      refine ⟨by simp; omega, fun _ => ?_⟩
      by_cases hr : r = []
      · subst hr; simp [cutB]
      · have := ih.2 hr
        simp; omega
theorem cutB_app (c : UInt8) : ∀ (p r : List UInt8), (∀ x ∈ p, x ≠ c) → cutB c (p ++ c :: r) = (p, r, true)
  | [], r, _ => by simp [cutB]
  | b :: p, r, h => by
    have hb : b ≠ c := h b List.mem_cons_self
    rw [List.cons_append, cutB, if_neg hb, cutB_app c p r (fun x hx => h x (List.mem_cons_of_mem _ hx))]
theorem cutB_spec (c : UInt8) : ∀ l : List UInt8, (∀ x ∈ (cutB c l).1, x ≠ c) ∧ (((cutB c l).2.2 = true ∧ l = (cutB c l).1 ++ c :: (cutB c l).2.1) ∨ ((cutB c l).2.2 = false ∧ l = (cutB c l).1 ∧ (cutB c l).2.1 = []))
  | [] => ⟨by simp [cutB], .inr ⟨rfl, rfl, rfl⟩⟩
  | b :: r => by
    obtain ⟨h1, h2⟩ := cutB_spec c r
    rw [cutB]
    by_cases hb : b = c
    · subst hb; simp
    · rw [if_neg hb]
      refine ⟨fun x hx => ?_, ?_⟩
      · rcases List.mem_cons.1 hx with rfl | hx
        · exact hb
        · exact h1 x hx
      · rcases h2 with ⟨g1, g2⟩ | ⟨g1, g2, g3⟩
        · exact .inl ⟨g1, by show b :: r = b :: ((cutB c r).1 ++ c :: (cutB c r).2.1); rw [← g2]⟩
        · exact .inr ⟨g1, by show b :: r = b :: (cutB c r).1; rw [← g2], g3⟩
theorem wr1 {i n : Nat} (h : i < n) (hn : n ≤ 1000000000000) : wrap64 ((i : Int) + 1) = ((i + 1 : Nat) : Int) := by rw [w64 _ (by omega) (by omega)]; omega
theorem beq_no {s t : ByteArray} (h : s ≠ t) : (s.toList == t.toList) = false := by rw [beq_eq_false_iff_ne]; exact fun e => h ((toL_inj _ _).1 e)
theorem drop_at {α : Type} {l : List α} {i : Nat} {x : α} (hx : l[i]? = some x) : l.drop i = x :: l.drop (i + 1) := by
  obtain ⟨h1, h2⟩ := List.getElem?_eq_some_iff.1 hx
  rw [List.drop_eq_getElem_cons h1, h2]
theorem L_ext (s : ByteArray) (a b : Nat) : L (s.extract a b) = ((L s).drop a).take (b - a) := by
  simp only [L, ByteArray.data_extract, Array.toList_extract]
  try rw [List.extract_eq_take_drop]
theorem ext_take (s : ByteArray) (m : Nat) : s.extract 0 m = bs ((L s).take m) := by
  apply L_inj; rw [L_bs, L_ext]; simp
theorem ext_drop (s : ByteArray) (m : Nat) : s.extract m s.size = bs ((L s).drop m) := by
  apply L_inj
  rw [L_bs, L_ext, List.take_of_length_le (by rw [List.length_drop, L_len]; exact Nat.le_refl _)]
end Go.Proofs.YtehmhfbfgniekaaGreatDoor.Ob

namespace Go.Proofs.YtehmhfbfgniekaaGreatDoor.Ob
set_option linter.unusedVariables false
set_option linter.unusedSimpArgs false
open Go Go.RowKit Go.Proofs.YtehmhfbfgniekaaGreatDoorW.PrintWords Go.Proofs.YtehmhfbfgniekaaGreatDoorW.PrintLast Go.Proofs.YtehmhfbfgniekaaGreatDoorW.PrintMore PObBase PObDoc
abbrev It := S58
structure Chg where
  f0 : ByteArray
  f1 : List ByteArray
  f2 : ByteArray
  f3 : ByteArray
structure Lab where
  f0 : ByteArray
  f1 : Int
  f2 : ByteArray
  f3 : ByteArray
abbrev Wnt := S43
def visOk (u : UInt8) : Bool := decide (33 ≤ u.toNat) && decide (u.toNat ≤ 126) && u != 47
def dot : ByteArray := ⟨#[46]⟩
def dots : ByteArray := ⟨#[46, 46]⟩
def partB (s : ByteArray) : Bool := (L s).all visOk && (decide (1 ≤ s.size) && decide (s.size ≤ 70) && decide (s ≠ dot) && decide (s ≠ dots))
def keyS (x : It) : ByteArray := if x.f0 = 3 then x.f1 ++ (⟨#[47]⟩ : ByteArray) else x.f1
def cntI (l : List It) (s : ByteArray) : Nat := (l.filter (fun y => decide (y.f1 = s))).length
def noIt : It := ⟨0, ⟨#[]⟩, ⟨#[]⟩⟩
def okI (l : List It) (i : Nat) (x : It) : Bool := decide (1 ≤ x.f0) && decide (x.f0 ≤ 3) && nmB x.f2 && (partB x.f1 && decide (cntI (l.take i) x.f1 = 0)) && (i == 0 || decide (L (keyS (l[i - 1]?.getD noIt)) < L (keyS x)))
def treeB (l : List It) : Bool := l.zipIdx.all (fun p => okI l p.2 p.1) && decide (l.length ≤ 256)
def itemS (x : It) : ByteArray := textS x.f0 ++ (⟨#[32]⟩ : ByteArray) ++ x.f1 ++ (⟨#[0]⟩ : ByteArray) ++ x.f2
def itemsL (l : List It) : List UInt8 := l.flatMap (fun x => L (itemS x))
def treeT (l : List It) : ByteArray := ⟨(itemsL l).toArray⟩
def putTree (l : List It) : ByteArray × Bool := if treeB l then (treeT l, true) else (⟨#[]⟩, false)
def parseT : Nat → List UInt8 → Option (List It)
  | 0, s => if s = [] then some [] else none
  | n + 1, s => if s = [] then some [] else
    if (cutB 0 s).2.2 = true ∧ 2 ≤ (cutB 0 s).1.length ∧ (cutB 0 s).1[1]? = some 32 ∧ 64 ≤ (cutB 0 s).2.1.length then
      (parseT n ((cutB 0 s).2.1.drop 64)).map (fun r => ⟨(((cutB 0 s).1[0]?.getD 0).toNat : Int) - 48, bs ((cutB 0 s).1.drop 2), bs ((cutB 0 s).2.1.take 64)⟩ :: r)
    else none
def getTree (s : ByteArray) : List It × Bool := match parseT s.size (L s) with
  | some l => if putTree l = (s, true) then (l, true) else ([], false)
  | none => ([], false)
def whoOk (u : UInt8) : Bool := decide (32 ≤ u.toNat) && decide (u.toNat ≤ 126)
open Classical in
noncomputable def changeB (c : Chg) : Bool := nmB c.f0 && c.f1.all nmB && decide (c.f1.length ≤ 8) && decide (c.f1.Nodup) && decide (c.f2.size ≤ 100) && (L c.f2).all whoOk
def wTree : List UInt8 := [116, 114, 101, 101]
def wParent : List UInt8 := [112, 97, 114, 101, 110, 116]
def wWho : List UInt8 := [119, 104, 111]
def wObject : List UInt8 := [111, 98, 106, 101, 99, 116]
def wKind : List UInt8 := [107, 105, 110, 100]
def wName : List UInt8 := [110, 97, 109, 101]
def wBlob : List UInt8 := [98, 108, 111, 98]
def wCommit : List UInt8 := [99, 111, 109, 109, 105, 116]
def wTag : List UInt8 := [116, 97, 103]
def lineL (w v : List UInt8) : List UInt8 := w ++ 32 :: v ++ [10]
def changeL (c : Chg) : List UInt8 := lineL wTree (L c.f0) ++ c.f1.flatMap (fun p => lineL wParent (L p)) ++ lineL wWho (L c.f2) ++ 10 :: L c.f3
noncomputable def putChange (c : Chg) : ByteArray × Bool := if changeB c then (bs (changeL c), true) else (⟨#[]⟩, false)
def wordL (k : Int) : List UInt8 := if k = 1 then wBlob else if k = 2 then wTree else if k = 3 then wCommit else if k = 4 then wTag else []
def labelB (l : Lab) : Bool := nmB l.f0 && decide (1 ≤ l.f1) && decide (l.f1 ≤ 4) && partB l.f2
def labelL (l : Lab) : List UInt8 := lineL wObject (L l.f0) ++ lineL wKind (wordL l.f1) ++ lineL wName (L l.f2) ++ 10 :: L l.f3
def putLabel (l : Lab) : ByteArray × Bool := if labelB l then (bs (labelL l), true) else (⟨#[]⟩, false)
structure Rd where
  rest : List UInt8
  ok : Bool
def readLine (w : List UInt8) (r : Rd) : List UInt8 × Rd :=
  if (cutB 10 r.rest).2.2 = true ∧ (w ++ [32]).isPrefixOf (cutB 10 r.rest).1 = true ∧ r.ok = true then ((cutB 10 r.rest).1.drop (w.length + 1), ⟨(cutB 10 r.rest).2.1, true⟩) else ([], ⟨r.rest, false⟩)
end Go.Proofs.YtehmhfbfgniekaaGreatDoor.Ob

namespace Go.Proofs.YtehmhfbfgniekaaGreatDoor.Ob
set_option linter.unusedVariables false
set_option linter.unusedSimpArgs false
open Go Go.RowKit Go.Proofs.YtehmhfbfgniekaaGreatDoorW.PrintWords Go.Proofs.YtehmhfbfgniekaaGreatDoorW.PrintLast Go.Proofs.YtehmhfbfgniekaaGreatDoorW.PrintMore PObBase PObDoc
theorem visOk_iff (u : UInt8) : visOk u = true ↔ (33 ≤ u.toNat ∧ u.toNat ≤ 126 ∧ u.toNat ≠ 47) := by
  unfold visOk
  rw [Bool.and_eq_true, Bool.and_eq_true, decide_eq_true_iff, decide_eq_true_iff, bne_iff_ne, ne_eq, ← UInt8.toNat_inj]
  show (33 ≤ u.toNat ∧ u.toNat ≤ 126) ∧ ¬ u.toNat = 47 ↔ _
  exact ⟨fun h => ⟨h.1.1, h.1.2, h.2⟩, fun h => ⟨⟨h.1, h.2.1⟩, h.2.2⟩⟩
theorem part_l0 (s : ByteArray) (hs : s.size ≤ 1000000000000) : ∀ (d i : Nat), s.size - i = d → i ≤ s.size → Ev (fun k => object_part.l0 k s (s.size : Int) (i : Int)) (((L s).drop i).all visOk && (decide (1 ≤ s.size) && decide (s.size ≤ 70) && decide (s ≠ dot) && decide (s ≠ dots))) := by
  intro d
  induction d with
  | zero =>
    intro i hd hi
    have hin : i = s.size := by omega
    subst hin
    rw [List.drop_of_length_le (by rw [L_len]; exact Nat.le_refl _), List.all_nil, Bool.true_and]
    refine Ev.step (f := fun _ => some _) (fun k => ?_) (Ev.now _)
    simp only [object_part.l0]
    rw [if_neg (by omega)]
    by_cases h0 : s.size = 0
    · rw [if_pos ((toL_nil s).2 h0), decide_eq_false (show ¬ 1 ≤ s.size by omega)]; rfl
    · rw [if_neg (fun h => h0 ((toL_nil s).1 h)), decide_eq_true (show 1 ≤ s.size by omega)]
      by_cases h70 : s.size ≤ 70
      · rw [if_pos (by omega), decide_eq_true h70]
        by_cases h1 : s = dot
        · rw [if_pos (by rw [h1]; decide +kernel), decide_eq_false (fun h => h h1)]; rfl
        · have h1' : ¬ s.toList = ([46] : List UInt8) := fun e => h1 ((toL_inj s dot).1 (e.trans (by decide +kernel)))
          rw [if_neg h1', decide_eq_true h1]
          congr 1
          rw [Bool.true_and, Bool.true_and, Bool.true_and, Bool.eq_iff_iff, bne_iff_ne, decide_eq_true_iff]
          refine not_congr ⟨fun e => (toL_inj s dots).1 (e.trans (by decide +kernel)), fun e => by rw [e]; decide +kernel⟩
      · rw [if_neg (by omega), decide_eq_false h70]; rfl
  | succ d ih =>
    intro i hd hi
    have hil : i < (L s).length := by rw [L_len]; omega
    obtain ⟨u, hu⟩ : ∃ u, (L s)[i]? = some u := ⟨_, List.getElem?_eq_getElem hil⟩
    have hb := bt_get hu (i : Int) rfl
    have hw := wr1 (i := i) (n := s.size) (by omega) hs
    rw [drop_at hu, List.all_cons]
    have hlk := visOk_iff u
    by_cases h : visOk u = true
    · have h' := hlk.1 h
      rw [h, Bool.true_and]
      refine Ev.step (fun k => ?_) (ih (i + 1) (by omega) (by omega))
      simp only [object_part.l0]
      rw [if_pos (by omega), if_pos (by omega), if_pos (by omega), hb, hw, if_neg (by omega), if_neg (by omega), if_neg (by omega)]
    · have h' := mt hlk.2 h
      rw [Bool.not_eq_true] at h
      rw [h, Bool.false_and, Bool.false_and]
      refine Ev.step (f := fun _ => some false) (fun k => ?_) (Ev.now _)
      simp only [object_part.l0]
      rw [if_pos (by omega), if_pos (by omega), if_pos (by omega), hb]
      by_cases h4 : (u.toNat : Int) < 33
      · rw [if_pos h4]
      · rw [if_neg h4]
        by_cases h5 : (u.toNat : Int) > 126
        · rw [if_pos h5]
        · rw [if_neg h5, if_pos (by omega)]
theorem part_ev (s : ByteArray) (hs : s.size ≤ 1000000000000) : Ev (fun k => object_part.f k s) (partB s) := by
  have := part_l0 s hs s.size 0 (by omega) (by omega)
  rw [List.drop_zero] at this
  exact this
theorem part_walk (s : ByteArray) (hs : s.size ≤ 1000000000000) (w : World) : Calls Tryz.prog 126 #[.string s] w fun e w' => e = .returned (.bool (partB s)) ∧ Below w.heap.size w w' := by
  obtain ⟨k, hk⟩ := (part_ev s hs).rounds
  exact (object_part.calls k s _ w hk).mono fun e w' h => ⟨h.1, h.2.below⟩
theorem key_walk (x : It) (hs : x.f1.size ≤ 1000000000000) (w : World) : Calls Tryz.prog 127 #[.agg #[.int .i64 x.f0, .string x.f1, .string x.f2]] w fun e w' => e = .returned (.string (keyS x)) ∧ Below w.heap.size w w' := by
  refine object_key.calls x.f0 x.f1 x.f2 (keyS x) w ?_
  unfold object_key.f keyS
  by_cases h : x.f0 = 3
  · rw [if_pos h, if_pos h, if_pos (by omega)]
  · rw [if_neg h, if_neg h]
def Ish (l : List It) : Prop := ∀ x ∈ l, x.f1.size ≤ 1000000000 ∧ x.f2.size ≤ 1000000000
theorem treeB_false {l : List It} {i : Nat} {x : It} (hx : l[i]? = some x) (h : okI l i x = false) : treeB l = false := by
  unfold treeB
  rw [show l.zipIdx.all (fun p => okI l p.2 p.1) = false from ?_, Bool.false_and]
  rw [← Bool.not_eq_true, List.all_eq_true]
  intro k
  have := k (x, i) (List.mem_of_getElem? (i := i) (by simp [List.getElem?_zipIdx, hx]))
  rw [h] at this
  cases this
theorem treeB_true {l : List It} (h : ∀ j x, l[j]? = some x → okI l j x = true) : treeB l = decide (l.length ≤ 256) := by
  unfold treeB
  rw [show l.zipIdx.all (fun p => okI l p.2 p.1) = true from ?_, Bool.true_and]
  rw [List.all_eq_true]
  intro p hp
  obtain ⟨j, hj⟩ := List.getElem?_of_mem hp
  rw [List.getElem?_zipIdx] at hj
  cases hl : l[j]? with
  | none => rw [hl] at hj; cases hj
  | some z => rw [hl] at hj; simp at hj; subst hj; exact h j z hl
end Go.Proofs.YtehmhfbfgniekaaGreatDoor.Ob

namespace Go.Proofs.YtehmhfbfgniekaaGreatDoor.Ob
set_option linter.unusedVariables false
set_option linter.unusedSimpArgs false
open Go Go.RowKit Go.Proofs.YtehmhfbfgniekaaGreatDoorW.PrintWords Go.Proofs.YtehmhfbfgniekaaGreatDoorW.PrintLast Go.Proofs.YtehmhfbfgniekaaGreatDoorW.PrintMore PObBase PObDoc
theorem rdig_l0 (s : ByteArray) (hs : s.size = 64) : ∀ (d i : Nat), s.size - i = d → i ≤ s.size → Ev (fun k => r02_Named.l0 k s (i : Int)) (((L s).drop i).all hexOk) := by
  intro d
  induction d with
  | zero =>
    intro i hd hi
    have hin : i = s.size := by omega
    rw [hin, List.drop_of_length_le (by rw [L_len]; exact Nat.le_refl _), List.all_nil]
    refine Ev.step (f := fun _ => some true) (fun k => ?_) (Ev.now _)
    simp only [r02_Named.l0]
    rw [if_neg (by omega)]
  | succ d ih =>
    intro i hd hi
    have hil : i < (L s).length := by rw [L_len]; omega
    obtain ⟨u, hu⟩ : ∃ u, (L s)[i]? = some u := ⟨_, List.getElem?_eq_getElem hil⟩
    have hb := bt_get hu (i : Int) rfl
    have hw := wr1 (i := i) (n := s.size) (by omega) (by omega)
    rw [drop_at hu, List.all_cons]
    have hlk := hexOk_iff u
    by_cases h : hexOk u = true
    · have h' := hlk.1 h
      rw [h, Bool.true_and]
      refine Ev.step (fun k => ?_) (ih (i + 1) (by omega) (by omega))
      simp only [r02_Named.l0]
      rw [if_pos (by omega), if_pos (by omega), if_pos (by omega), hb, hw, if_pos (by omega)]
      by_cases h4 : (u.toNat : Int) ≤ 57
      · rw [if_pos h4]
      · rw [if_neg h4, if_pos (by omega), if_pos (by omega)]
    · have h' := mt hlk.2 h
      rw [Bool.not_eq_true] at h
      rw [h, Bool.false_and]
      refine Ev.step (f := fun _ => some false) (fun k => ?_) (Ev.now _)
      simp only [r02_Named.l0]
      rw [if_pos (by omega), if_pos (by omega), if_pos (by omega), hb]
      by_cases h4 : (u.toNat : Int) ≥ 48
      · rw [if_pos h4, if_neg (by omega)]
        by_cases h6 : (u.toNat : Int) ≥ 97
        · rw [if_pos h6, if_neg (by omega)]
        · rw [if_neg h6]
      · rw [if_neg h4]
        by_cases h6 : (u.toNat : Int) ≥ 97
        · omega
        · rw [if_neg h6]
theorem rdig_ev (s : ByteArray) : Ev (fun k => r02_Named.f k s) (nmB s) := by
  unfold r02_Named.f nmB
  by_cases h : s.size = 64
  · have := rdig_l0 s h s.size 0 (by omega) (by omega)
    rw [List.drop_zero] at this
    rw [decide_eq_true h, Bool.and_true]
    exact Ev.congr (fun k => if_pos (by omega)) this
  · rw [decide_eq_false h, Bool.and_false]
    exact Ev.congr (fun k => if_neg (by omega)) (Ev.now _)
end Go.Proofs.YtehmhfbfgniekaaGreatDoor.Ob

namespace Go.Proofs.YtehmhfbfgniekaaGreatDoor.Ob
set_option linter.unusedVariables false
set_option linter.unusedSimpArgs false
open Go.RowKit Go.Proofs.YtehmhfbfgniekaaGreatDoorW.PrintWords Go.Proofs.YtehmhfbfgniekaaGreatDoorW.PrintLast Go.Proofs.YtehmhfbfgniekaaGreatDoorW.PrintMore PObBase
def fst {α : Type} (p : α → Bool) (l : List α) : Int := match l.findIdx? p with | some i => (i : Int) | none => -1
def fstI {α : Type} (p : Nat → α → Bool) (l : List α) : Int := fst (fun x : α × Nat => p x.2 x.1) l.zipIdx
theorem fst_some {α : Type} {p : α → Bool} {l : List α} {i : Nat} {x : α} (hx : l[i]? = some x) (hp : p x = true) (hno : ∀ j y, j < i → l[j]? = some y → p y = false) : fst p l = (i : Int) := by
  have : l.findIdx? p = some i := by
    rw [List.findIdx?_eq_some_iff_getElem]
    obtain ⟨h1, h2⟩ := List.getElem?_eq_some_iff.1 hx
    refine ⟨h1, by rw [h2]; exact hp, fun j hj => ?_⟩
    have := hno j _ hj (List.getElem?_eq_getElem (by omega))
    simpa using this
  rw [fst, this]
theorem fst_none {α : Type} {p : α → Bool} {l : List α} (hno : ∀ (j : Nat) (y : α), l[j]? = some y → p y = false) : fst p l = -1 := by
  have : l.findIdx? p = none := by
    rw [List.findIdx?_eq_none_iff]
    intro x hx
    obtain ⟨j, hj⟩ := List.getElem?_of_mem hx
    exact hno j x hj
  rw [fst, this]
theorem fst_nonneg {α : Type} (p : α → Bool) (l : List α) : (0 ≤ fst p l) ↔ l.any p = true := by
  rw [List.any_eq_true, fst]
  cases h : l.findIdx? p with
  | none =>
    rw [List.findIdx?_eq_none_iff] at h
    exact ⟨fun k => by simp at k, fun ⟨x, hx, hp⟩ => by rw [h x hx] at hp; cases hp⟩
  | some i =>
    obtain ⟨h1, h2, _⟩ := List.findIdx?_eq_some_iff_getElem.1 h
    exact ⟨fun _ => ⟨_, List.getElem_mem h1, h2⟩, fun _ => Int.natCast_nonneg i⟩
theorem fstI_some {α : Type} {p : Nat → α → Bool} {l : List α} {i : Nat} {x : α} (hx : l[i]? = some x) (hp : p i x = true) (hno : ∀ j y, j < i → l[j]? = some y → p j y = false) : fstI p l = (i : Int) := by
  refine fst_some (x := (x, i)) (by simp [List.getElem?_zipIdx, hx]) hp (fun j y hj hy => ?_)
  rw [List.getElem?_zipIdx] at hy
  cases h : l[j]? with
  | none => rw [h] at hy; cases hy
  | some z => rw [h] at hy; simp at hy; subst hy; exact hno j z hj h
theorem fstI_none {α : Type} {p : Nat → α → Bool} {l : List α} (hno : ∀ (j : Nat) (y : α), l[j]? = some y → p j y = false) : fstI p l = -1 := by
  refine fst_none (fun j y hy => ?_)
  rw [List.getElem?_zipIdx] at hy
  cases h : l[j]? with
  | none => rw [h] at hy; cases hy
  | some z => rw [h] at hy; simp at hy; subst hy; exact hno j z h
theorem zipIdx_findIdx {α : Type} (p : α → Bool) (l : List α) (k : Nat) : (l.zipIdx k).findIdx? (fun x => p x.1) = l.findIdx? p := by
  induction l generalizing k with
  | nil => rfl
  | cons x r ih => rw [List.zipIdx_cons, List.findIdx?_cons, List.findIdx?_cons, ih]
theorem fstI_const {α : Type} (p : α → Bool) (l : List α) : fstI (fun _ => p) l = fst p l := by
  unfold fstI fst
  rw [zipIdx_findIdx]
def rd_str (l : List ByteArray) (i : Int) : ByteArray := rdOf ByteArray.empty l i
theorem at_str {w : World} {A : Option Addr} {n : Nat} {l : List ByteArray} (h : Kd.C Kd.string w A n l) (i : Int) (h0 : 0 ≤ i) (h1 : i < n) : ∃ ad, A = some ad ∧ w.cell? (ad.add i.toNat) = some (.string (rd_str l i)) := (Kd.reads_of_C (d := ByteArray.empty) h).at_ i h0 h1
theorem rd_str_at {l : List ByteArray} {i : Nat} (hil : i < l.length) {x : ByteArray} (hx : rd_str l (i : Int) = x) : l[i]? = some x := by rw [← hx]; simp [rd_str, rdOf, hil]
set_option maxHeartbeats 4000000 in
set_option maxRecDepth 100000 in
theorem idxStr0 (A : Option Addr) (c n : Nat) (l : List ByteArray) (g : FuncId) (cp : Value) (p : Nat → ByteArray → Bool) (I : Nat → World → Prop) (w : World) (hC : Kd.C Kd.string w A n l) (hn : l.length = n) (hc : n ≤ c) (hg : ∀ (args : Array Value) (w : World), (callFunc g args).run Tryz.prog w = .ok (.enter g args) w)
    (h0 : I 0 w) (hI : ∀ i W, I i W → Kd.C Kd.string W A n l)
    (hcl : ∀ (i : Nat) (W : World) (x : ByteArray), I i W → l[i]? = some x → Calls Tryz.prog g #[.string x] W fun e w' => e = .returned (.bool (p i x)) ∧ I (i + 1) w') :
    Calls Tryz.prog 151 #[.slice A n c, .func (.func g) #[] #[]] w fun e w' => e = .returned (.int .i64 (fstI p l)) ∧ ∃ j, I j w' := by
  have HC := As.mk hC
  have HN := As.mk hn
  have HCL := As.mk hcl
  have HI := As.mk hI
  have HI0 := As.mk h0
  have hmax := Kd.C_max hC
  clear hC hn hcl hI h0
  go_enter Tryz.func151, Tryz.ntmps151
  go_wp2_with (fail)
  go_loopw [8] (fun v8 wr => ∃ i : Nat, v8 = .int .i64 i ∧ i ≤ n ∧ As (∀ j x, j < i → l[j]? = some x → p j x = false) ∧ As (I i wr)) (fun v8 _ => n - (intOf v8).toNat)
  case atStart => exact ⟨0, rfl, by omega, ⟨fun j x h => by omega⟩, HI0⟩
  case round =>
    obtain ⟨i, rfl, hi, HNO, HB⟩ := hrel
    by_cases hlt : i < n
    · have hil : i < l.length := by rw [HN.out]; exact hlt
      obtain ⟨ad, rfl, h0⟩ := at_str (HI.out _ _ HB.out) (i : Int) (by omega) (by omega)
      rw [Int.toNat_natCast] at h0
      obtain ⟨x, hx⟩ : ∃ x, rd_str l (i : Int) = x := ⟨_, rfl⟩
      have hxi : l[i]? = some x := rd_str_at hil hx
      rw [hx] at h0
      have HX := As.mk hxi
      clear hx hxi hil
      go_wp2_with (fail)
      refine (HCL.out i wr x HB.out HX.out).mono ?_
      rintro e w1 ⟨rfl, hb⟩
      have HB1 := As.mk hb
      clear hb
      rcases hp : p i x with _ | _
      · have HN2 : As (∀ j x, j < i + 1 → l[j]? = some x → p j x = false) := ⟨fun j y hj hy => by
          by_cases hji : j = i
          · subst hji
            rw [HX.out] at hy
            rw [← Option.some.inj hy]; exact hp
          · exact HNO.out j y (by omega) hy⟩
        go_wp2_with (fail)
        exact ⟨⟨i + 1, by go_num, by omega, HN2, HB1⟩, by simp [intOf]; omega⟩
      · have HF : As (fstI p l = (i : Int)) := ⟨fstI_some HX.out hp HNO.out⟩
        go_wp2_with (fail)
        go_ret
        exact ⟨by rw [HF.out]; rfl, _, HB1.out⟩
    · have hin : i = n := by omega
      subst hin
      have HF : As (fstI p l = -1) := ⟨fstI_none (fun j y hj => HNO.out j y (by rw [← HN.out]; exact (List.getElem?_eq_some_iff.1 hj).1) hj)⟩
      go_wp2_with (fail)
      go_ret
      exact ⟨by rw [HF.out]; rfl, _, HB.out⟩
theorem firstStr0 (A : Option Addr) (c n : Nat) (l : List ByteArray) (g : FuncId) (cp : Value) (p : ByteArray → Bool) (w : World) (hC : Kd.C Kd.string w A n l) (hn : l.length = n) (hc : n ≤ c) (hg : ∀ (args : Array Value) (w : World), (callFunc g args).run Tryz.prog w = .ok (.enter g args) w)
    (hcl : ∀ (W : World) (x : ByteArray), Below w.heap.size w W → x ∈ l → Calls Tryz.prog g #[.string x] W fun e w' => e = .returned (.bool (p x)) ∧ Below W.heap.size W w') :
    Calls Tryz.prog 151 #[.slice A n c, .func (.func g) #[] #[]] w fun e w' => e = .returned (.int .i64 (fst p l)) ∧ Below w.heap.size w w' := by
  refine (idxStr0 A c n l g cp (fun _ => p) (fun _ W => Below w.heap.size w W) w hC hn hc hg (Below.refl _ _) (fun _ _ h => Kd.C_below hC h) (fun i W x hb hx => ?_)).mono ?_
  · refine (hcl W x hb (List.mem_of_getElem? hx)).mono ?_
    rintro e w1 ⟨rfl, h⟩
    exact ⟨rfl, hb.trans (h.mono hb.size)⟩
  · rintro e w1 ⟨rfl, _, h⟩
    exact ⟨by rw [fstI_const], h⟩
set_option maxHeartbeats 4000000 in
set_option maxRecDepth 100000 in
theorem hasStr0 (A : Option Addr) (c n : Nat) (l : List ByteArray) (g : FuncId) (cp : Value) (p : ByteArray → Bool) (w : World) (hC : Kd.C Kd.string w A n l) (hn : l.length = n) (hc : n ≤ c) (hg : ∀ (args : Array Value) (w : World), (callFunc g args).run Tryz.prog w = .ok (.enter g args) w)
    (hcl : ∀ (W : World) (x : ByteArray), Below w.heap.size w W → x ∈ l → Calls Tryz.prog g #[.string x] W fun e w' => e = .returned (.bool (p x)) ∧ Below W.heap.size W w') :
    Calls Tryz.prog 130 #[.slice A n c, .func (.func g) #[] #[]] w fun e w' => e = .returned (.bool (l.any p)) ∧ Below w.heap.size w w' := by
  have H := As.mk (firstStr0 A c n l g cp p w hC hn hc hg hcl)
  clear hC hn hcl hg
  go_enter Tryz.func130, Tryz.ntmps130
  go_wp2_with (fail)
  refine H.out.mono ?_
  rintro e w1 ⟨rfl, hb⟩
  have HB := As.mk hb
  clear hb
  have HF := As.mk (fst_nonneg p l)
  by_cases h : 0 ≤ fst p l
  · have HT := As.mk (HF.out.1 h)
    go_wp2_with (fail)
    go_ret
    exact ⟨by rw [HT.out]; simp [h], HB.out⟩
  · have HT : As (l.any p = false) := ⟨by
      rw [← Bool.not_eq_true]
      exact fun k => h (HF.out.2 k)⟩
    go_wp2_with (fail)
    go_ret
    exact ⟨by rw [HT.out]; simp [h], HB.out⟩
end Go.Proofs.YtehmhfbfgniekaaGreatDoor.Ob
