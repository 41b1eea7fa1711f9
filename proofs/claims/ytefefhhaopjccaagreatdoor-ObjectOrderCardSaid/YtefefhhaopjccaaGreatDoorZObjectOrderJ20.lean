/- Joined texts: ObOrderLaw. No condition but what stands in each. -/
import Derived.Test.YtefefhhaopjccaaGreatDoorZObjectOrderJ18
import Derived.Test.YtefefhhaopjccaaGreatDoorZObjectOrderJ12
import Derived.Test.YtefefhhaopjccaaGreatDoorZObjectOrderJ10
import Derived.Test.YtefefhhaopjccaaGreatDoorProg
import Derived.Below
import Derived.Deep.Draws
import Derived.Deep.AppendLies
import Derived.Maps.AppendAt
import Derived.OwnWalk
import Derived.Laws.BytesArg
import Derived.Laws.MakeOwn
import Derived.Laws.OwnMore
import Derived.Deep.OwnRows
import Derived.Tactics
import Derived.Lib.ConvBytes
import Derived.Laws.Slices
import Derived.WalkKit
import Derived.KernelRfl
import Derived.RowKit3
import Derived.Deep.LoopGhost
import Derived.Deep.QuietTactic
import Derived.BigQuiet
import Derived.WideLaws
import Derived.Deep.DeepCutAuto
import Derived.Deep.CutBlock
import Derived.Deep.RegionHeld3
import Derived.Laws.Rows
import Derived.Lib.AppendStr
import Derived.ArgAppend
import Derived.Laws.IdiomCopy
import Derived.OrdersHeld
import Derived.Laws.BitsLemmas
import Derived.RowKit
import Derived.Test.YtefefhhaopjccaaGreatDoorZObjectOrderJ4
import Derived.Test.YtefefhhaopjccaaGreatDoorZObjectOrderJ0
import Derived.Test.YtefefhhaopjccaaGreatDoorZObjectOrderJ2
import Derived.Test.YtefefhhaopjccaaGreatDoorZObjectOrderJ3
import Derived.Laws.StructEq
import Derived.Test.YtefefhhaopjccaaGreatDoorZObjectOrderJ5
import Derived.Test.YtefefhhaopjccaaGreatDoorZObjectOrderJ19
namespace Go.Proofs.YtefefhhaopjccaaGreatDoor.Ob
set_option linter.unusedVariables false
set_option linter.unusedSimpArgs false
open Go Go.RowKit Go.Proofs.YtefefhhaopjccaaGreatDoorW.PrintWords Go.Proofs.YtefefhhaopjccaaGreatDoorW.PrintLast Go.Proofs.YtefefhhaopjccaaGreatDoorW.PrintMore PObBase PObGet PObRt PObjectOrder
def Apart (a b : It) : Prop := L (keyS a) < L (keyS b) ∧ a.f1 ≠ b.f1
theorem cnt_zero {l : List It} {s : ByteArray} : cntI l s = 0 ↔ ∀ x ∈ l, x.f1 ≠ s := by
  unfold cntI
  rw [List.length_eq_zero_iff, List.filter_eq_nil_iff]
  constructor
  · intro h x hx e
    exact h x hx (decide_eq_true e)
  · intro h x hx e
    exact h x hx (of_decide_eq_true e)
theorem keys_lt {l : List It} (h : treeB l = true) : ∀ (d i : Nat) (x y : It), l[i]? = some x → l[i + d + 1]? = some y → L (keyS x) < L (keyS y) := by
  intro d
  induction d with
  | zero =>
    intro i x y hx hy
    obtain ⟨_, _, _, _, _, hk⟩ := okI_parts ((treeB_parts h).1 (i + 1) y hy)
    rcases hk with hk | hk
    · omega
    · rw [show i + 1 - 1 = i by omega, hx] at hk; exact hk
  | succ d ih =>
    intro i x y hx hy
    have hl : i + d + 1 < l.length := by have := (List.getElem?_eq_some_iff.1 hy).1; omega
    obtain ⟨z, hz⟩ : ∃ z, l[i + d + 1]? = some z := ⟨_, List.getElem?_eq_getElem hl⟩
    obtain ⟨_, _, _, _, _, hk⟩ := okI_parts ((treeB_parts h).1 (i + (d + 1) + 1) y hy)
    rcases hk with hk | hk
    · omega
    · rw [show i + (d + 1) + 1 - 1 = i + d + 1 by omega, hz] at hk
      exact List.lt_trans (ih i x z hx hz) hk
theorem tree_pair {l : List It} (h : treeB l = true) : l.Pairwise Apart := by
  rw [List.pairwise_iff_getElem]
  intro i j hi hj hij
  have hx : l[i]? = some l[i] := List.getElem?_eq_getElem hi
  have hy : l[j]? = some l[j] := List.getElem?_eq_getElem hj
  refine ⟨keys_lt h (j - i - 1) i _ _ hx (by rw [show i + (j - i - 1) + 1 = j by omega]; exact hy), ?_⟩
  obtain ⟨_, _, _, _, hc, _⟩ := okI_parts ((treeB_parts h).1 j _ hy)
  exact cnt_zero.1 hc _ (List.mem_of_getElem? (i := i) (by rw [List.getElem?_take, if_pos hij]; exact hx))
theorem pair_at {l : List It} (h : l.Pairwise Apart) {i j : Nat} {x y : It} (hij : i < j) (hx : l[i]? = some x) (hy : l[j]? = some y) : Apart x y := by
  obtain ⟨hi, rfl⟩ := List.getElem?_eq_some_iff.1 hx
  obtain ⟨hj, rfl⟩ := List.getElem?_eq_some_iff.1 hy
  exact List.pairwise_iff_getElem.1 h i j hi hj hij
theorem tree_of_pair {l : List It} (h1 : ∀ x ∈ l, IOk x) (h2 : l.Pairwise Apart) (h3 : l.length ≤ 256) : treeB l = true := by
  rw [treeB_true (fun j x hx => ?_), decide_eq_true h3]
  obtain ⟨a, b, c, d⟩ := h1 x (List.mem_of_getElem? hx)
  have e1 : cntI (l.take j) x.f1 = 0 := cnt_zero.2 (fun y hy => by
    obtain ⟨i, hi⟩ := List.getElem?_of_mem hy
    rw [List.getElem?_take] at hi
    split at hi
    · rename_i hij
      exact (pair_at h2 hij hi hx).2
    · cases hi)
  have e2 : j = 0 ∨ L (keyS (l[j - 1]?.getD noIt)) < L (keyS x) := by
    by_cases hj : j = 0
    · exact .inl hj
    · have hl : j - 1 < l.length := by have := (List.getElem?_eq_some_iff.1 hx).1; omega
      obtain ⟨z, hz⟩ : ∃ z, l[j - 1]? = some z := ⟨_, List.getElem?_eq_getElem hl⟩
      rw [hz]
      exact .inr (pair_at h2 (by omega) hz hx).1
  unfold okI
  rw [decide_eq_true a, decide_eq_true b, c, d, e1]
  rcases e2 with rfl | e2
  · rfl
  · rw [decide_eq_true e2]; simp
theorem tree_less {l : List It} (h : treeB l = true) (k : Nat) : treeB (l.take k ++ l.drop (k + 1)) = true := by
  have hs : (l.take k ++ l.drop (k + 1)).Sublist l := by
    rw [← List.eraseIdx_eq_take_drop_succ]
    exact List.eraseIdx_sublist l k
  refine tree_of_pair (fun x hx => tree_items h x (hs.subset hx)) ((tree_pair h).sublist hs) ?_
  have := hs.length_le
  have := (treeB_parts h).2
  omega
theorem tree_twice {l : List It} {k : Nat} {x : It} (hx : l[k]? = some x) : treeB (l ++ [x]) = false := by
  cases h : treeB (l ++ [x]) with
  | false => rfl
  | true =>
    have hk : k < l.length := (List.getElem?_eq_some_iff.1 hx).1
    exact absurd rfl (pair_at (tree_pair h) hk (by rw [List.getElem?_append_left hk]; exact hx) (by rw [List.getElem?_append_right (Nat.le_refl _), Nat.sub_self]; rfl : (l ++ [x])[l.length]? = some x)).2
theorem name_ne {a b : ByteArray} (h : a ≠ b) : ¬ a.toList = b.toList := fun e => h (by rw [toL, toL] at e; exact L_inj e)
section
variable (l : List It) (a1 : Int)
theorem order_end (hb : 0 ≤ a1 ∧ a1 < 256) (hz : Zi l) (h : treeB l = true) (h0 : l ≠ []) (i : Nat) (hi : i = l.length) : Ev (fun n => w04_ObjectOrder.l0 n l a1 true (i : Int)) true := by
  have hl0 : 0 < l.length := List.length_pos_iff.2 h0
  have hl := hz.1
  obtain ⟨k, hk, hkl⟩ : ∃ k : Nat, Int.tmod (wrap64 a1) (l.length : Int) = (k : Int) ∧ k < l.length := by
    rw [w64 a1 (by omega) (by omega)]
    have h1 := Int.tmod_nonneg (l.length : Int) hb.1
    have h2 := Int.tmod_lt_of_pos a1 (show (0 : Int) < (l.length : Int) by omega)
    exact ⟨(Int.tmod a1 (l.length : Int)).toNat, by omega, by omega⟩
  obtain ⟨x, hx⟩ : ∃ x, l[k]? = some x := ⟨_, List.getElem?_eq_getElem hkl⟩
  have e : wrap64 ((k : Int) + 1) = ((k + 1 : Nat) : Int) := w64 _ (by omega) (by omega)
  have hp1 : Gv.putTree.f (l.take k ++ l.drop (k + 1)) = some (treeT (l.take k ++ l.drop (k + 1)), true) := by
    rw [Gv.putTree.f_eq (fun y hy => hz.ish y (by
      rcases List.mem_append.1 hy with hy | hy
      · exact List.mem_of_mem_take hy
      · exact List.mem_of_mem_drop hy)) (by simp only [List.length_append, List.length_take, List.length_drop]; omega)]
    unfold putTree
    rw [if_pos (tree_less h k)]
  have hp2 : Gv.putTree.f (l ++ [(⟨x.f0, x.f1, x.f2⟩ : It)]) = some (⟨#[]⟩, false) := by
    rw [Gv.putTree.f_eq (fun y hy => hz.ish y (by
      rcases List.mem_append.1 hy with hy | hy
      · exact hy
      · rw [List.mem_singleton.1 hy]; exact List.mem_of_getElem? hx)) (by simp only [List.length_append, List.length_singleton]; omega)]
    unfold putTree
    rw [if_neg (by rw [tree_twice hx]; simp)]
  refine Ev.step (f := fun _ => some true) (fun n => ?_) (Ev.now _)
  simp only [w04_ObjectOrder.l0]
  rw [if_neg (by omega), if_neg (by omega), hk, e, rdI hx]
  simp only [Option.bind_some, List.nil_append, Int.toNat_natCast]
  rw [if_pos (by omega), if_pos (by omega), if_pos (by simp only [List.length_nil, List.length_take]; omega), if_pos (by omega), if_pos (by omega), if_pos (by simp only [List.length_take, List.length_drop]; omega), hp1]
  simp only [Option.bind_some, List.nil_append]
  rw [if_pos (by simp only [List.length_nil]; omega), if_pos (by omega), if_pos (by simp only [List.length_singleton]; omega), hp2]
  rfl
theorem order_l0 (hb : 0 ≤ a1 ∧ a1 < 256) (hz : Zi l) (h : treeB l = true) (h0 : l ≠ []) : ∀ (d i : Nat), l.length - i = d → 1 ≤ i → i ≤ l.length → Ev (fun n => w04_ObjectOrder.l0 n l a1 true (i : Int)) true := by
  intro d
  induction d with
  | zero => exact fun i hd h1 hi => order_end l a1 hb hz h h0 i (by omega)
  | succ d ih =>
    intro i hd h1 hi
    have hl := hz.1
    have hil : i < l.length := by omega
    obtain ⟨y, hy⟩ : ∃ y, l[i]? = some y := ⟨_, List.getElem?_eq_getElem hil⟩
    obtain ⟨x, hx⟩ : ∃ x, l[i - 1]? = some x := ⟨_, List.getElem?_eq_getElem (by omega)⟩
    obtain ⟨hlt, hne⟩ := pair_at (tree_pair h) (show i - 1 < i by omega) hx hy
    have hlt2 : Op.bytesLess (keyS x).toList (keyS y).toList = true := by rw [toL, toL, bytesLess_eq, decide_eq_true hlt]
    have e1 : wrap64 ((i : Int) - 1) = ((i - 1 : Nat) : Int) := by rw [w64 _ (by omega) (by omega)]; omega
    have e2 : wrap64 ((i : Int) + 1) = ((i + 1 : Nat) : Int) := w64 _ (by omega) (by omega)
    have sx := (hz.2 x (List.mem_of_getElem? hx)).1
    have sy := (hz.2 y (List.mem_of_getElem? hy)).1
    have h2 : Ev (fun n => w04_ObjectOrder.j2 n l a1 true (i : Int) (keyS x) y.f1) true := by
      refine Ev.step (fun n => ?_) (ih (i + 1) (by omega) (by omega) (by omega))
      simp only [w04_ObjectOrder.j2]
      rw [if_pos (by omega), if_pos (by omega), rdI hy, e1, e2, rdI hx]
      by_cases h3 : y.f0 = 3
      · have kb : keyS y = y.f1 ++ (⟨#[47]⟩ : ByteArray) := if_pos h3
        rw [kb] at hlt2
        rw [if_pos h3, if_pos (by omega), if_pos hlt2, if_pos (by omega), if_pos (by omega), if_neg (name_ne hne)]
      · have kb : keyS y = y.f1 := if_neg h3
        rw [kb] at hlt2
        rw [if_neg h3, if_pos hlt2, if_pos (by omega), if_pos (by omega), if_neg (name_ne hne)]
    refine Ev.step (fun n => ?_) h2
    simp only [w04_ObjectOrder.l0]
    rw [if_pos (by omega), e1, if_pos (by omega), if_pos (by omega), if_pos (by omega), rdI hx, rdI hy]
    by_cases h3 : x.f0 = 3
    · have kb : keyS x = x.f1 ++ (⟨#[47]⟩ : ByteArray) := if_pos h3
      rw [if_pos h3, if_pos (by omega), kb]
    · have kb : keyS x = x.f1 := if_neg h3
      rw [if_neg h3, kb]
theorem order_ev (hb : 0 ≤ a1 ∧ a1 < 256) : Ev (fun n => w04_ObjectOrder.f n l a1) true := by
  obtain ⟨b1, hb1, hz1⟩ := greatI_ev l
  refine Ev.congr (f := fun n => (w04_GreatItems.f n l).bind fun t102 => (if t102 = true then (some true) else ((Gv.putTree.f l).bind fun bt103 => (if bt103.2 = true then (w04_ObjectOrder.j0 n l a1 true ((l.length : Int) == 0)) else (w04_ObjectOrder.j0 n l a1 true true))))) (fun n => rfl) (Ev.bind hb1 ?_)
  have hj : Ev (fun n => w04_ObjectOrder.j0 n l a1 true true) true := Ev.step (f := fun _ => some true) (fun n => by simp only [w04_ObjectOrder.j0]; exact if_pos trivial) (Ev.now _)
  cases b1 with
  | true => exact Ev.congr (f := fun _ => some true) (fun n => if_pos rfl) (Ev.now _)
  | false =>
    have hz := hz1 rfl
    have hl := hz.1
    refine Ev.congr (fun n => if_neg (by simp)) ?_
    rw [Gv.putTree.f_eq hz.ish (by omega)]
    simp only [Option.bind_some]
    cases ht : treeB l with
    | false =>
      have e : putTree l = (⟨#[]⟩, false) := by unfold putTree; rw [if_neg (by rw [ht]; simp)]
      rw [e]
      exact Ev.congr (fun n => if_neg (by simp)) hj
    | true =>
      have e : putTree l = (treeT l, true) := by unfold putTree; rw [if_pos ht]
      rw [e]
      refine Ev.congr (fun n => if_pos rfl) ?_
      by_cases h0 : l = []
      · subst h0; exact hj
      · have hl0 : 0 < l.length := List.length_pos_iff.2 h0
        have e0 : ((l.length : Int) == 0) = false := beq_false_of_ne (by omega)
        rw [e0]
        refine Ev.step (fun n => ?_) (order_l0 l a1 hb hz ht h0 (l.length - 1) 1 rfl (by omega) (by omega))
        simp only [w04_ObjectOrder.j0]
        exact if_neg (by simp)
end
end Go.Proofs.YtefefhhaopjccaaGreatDoor.Ob
