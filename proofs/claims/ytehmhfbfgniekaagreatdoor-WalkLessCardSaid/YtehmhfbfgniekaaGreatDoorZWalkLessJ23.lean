/- Joined texts: WkLessLaw. No condition but what stands in each. -/
import Derived.Test.YtehmhfbfgniekaaGreatDoorZWalkLessJ22
namespace Go.Proofs.YtehmhfbfgniekaaGreatDoor.Wk
set_option linter.unusedVariables false
set_option linter.unusedSimpArgs false
open Go Go.RowKit Go.Proofs.YtehmhfbfgniekaaGreatDoorW.PrintWords Go.Proofs.YtehmhfbfgniekaaGreatDoorW.PrintLast Go.Proofs.YtehmhfbfgniekaaGreatDoorW.PrintMore Ob PObBase PObDoc PObGet PObRt PWkB PWalkLess
theorem fnd_filter (q : ByteArray → Bool) (s : ByteArray) : ∀ l : List Hd, fnd (l.filter (fun x => q x.f0)) s = if q s = true then fnd l s else none
  | [] => by simp [fnd]
  | x :: l => by
    rw [List.filter_cons]
    cases hq : q x.f0 with
    | true =>
      rw [if_pos rfl, fnd_cons, fnd_cons, fnd_filter q s l]
      by_cases e : s = x.f0
      · subst e; rw [if_pos rfl, if_pos rfl, if_pos hq]
      · rw [if_neg e, if_neg e]
    | false =>
      rw [if_neg (by simp), fnd_cons, fnd_filter q s l]
      by_cases e : s = x.f0
      · subst e; rw [if_neg (by rw [hq]; simp), if_neg (by rw [hq]; simp)]
      · rw [if_neg e]
section
variable {l l' : List Hd} {tips : List ByteArray} {q : ByteArray → Bool}
theorem nxt_eq {s : ByteArray} (h : fnd l' s = fnd l s) : nxt l' s = nxt l s := by unfold nxt wantsN; rw [h]
theorem nxt_nil {s : ByteArray} (h : fnd l s = none) : nxt l s = [] := by unfold nxt wantsN; rw [h]; rfl
theorem reach_less (h : ∀ s, fnd l' s = if q s = true then fnd l s else none) {s : ByteArray} (hs : Reach (nxt l') tips s) : Reach (nxt l) tips s :=
  Reach.sub (q := fun s => Reach (nxt l) tips s) (fun s hs => .tip hs) (fun s t hs ht => by
    cases hq : q s with
    | true => exact .step hs (by rw [← nxt_eq (l' := l') (by rw [h, if_pos hq])]; exact ht)
    | false => rw [nxt_nil (by rw [h, if_neg (by rw [hq]; simp)])] at ht; cases ht) hs
end
theorem pick_fnd (l : List Hd) (ids : List ByteArray) (s : ByteArray) : fnd (pickL l ids) s = if hasB ids s = true then fnd l s else none := fnd_filter (hasB ids) s l
theorem pick_reach (l : List Hd) (tips : List ByteArray) (s : ByteArray) : Reach (nxt (pickL l (thereL l tips))) tips s ↔ Reach (nxt l) tips s := by
  refine ⟨reach_less (pick_fnd l (thereL l tips)), fun h => ?_⟩
  refine (Reach.sub (q := fun s => Reach (nxt l) tips s ∧ Reach (nxt (pickL l (thereL l tips))) tips s) (fun s hs => ⟨.tip hs, .tip hs⟩) (fun s t hs ht => ⟨.step hs.1 ht, ?_⟩) h).2
  cases hb : (fnd l s).isSome with
  | true =>
    refine .step hs.2 ?_
    rw [nxt_eq (l := l) (by rw [pick_fnd, if_pos (hasB_true.2 (there_mem.2 ⟨hs.1, hb⟩))])]
    exact ht
  | false =>
    rw [nxt_nil (by cases hf : fnd l s with | none => rfl | some o => rw [hf] at hb; cases hb)] at ht; cases ht
theorem pick_there (l : List Hd) (tips : List ByteArray) : thereL (pickL l (thereL l tips)) tips = thereL l tips := by
  refine (rises_there _ tips).eq (rises_there l tips) (fun s => ?_)
  constructor
  · rintro ⟨h1, h2⟩
    rw [pick_fnd] at h2
    split at h2
    · exact ⟨(pick_reach l tips s).1 h1, h2⟩
    · cases h2
  · rintro ⟨h1, h2⟩
    refine ⟨(pick_reach l tips s).2 h1, ?_⟩
    rw [pick_fnd, if_pos (hasB_true.2 (there_mem.2 ⟨h1, h2⟩))]; exact h2
theorem pick_lack (l : List Hd) (tips : List ByteArray) : lackL (pickL l (thereL l tips)) tips = lackL l tips := by
  refine (rises_lack _ tips).eq (rises_lack l tips) (fun s => ?_)
  constructor
  · rintro ⟨h1, h2⟩
    have h1 := (pick_reach l tips s).1 h1
    refine ⟨h1, ?_⟩
    cases hb : (fnd l s).isSome with
    | false => rfl
    | true =>
      rw [pick_fnd, if_pos (hasB_true.2 (there_mem.2 ⟨h1, hb⟩)), hb] at h2; cases h2
  · rintro ⟨h1, h2⟩
    refine ⟨(pick_reach l tips s).2 h1, ?_⟩
    rw [pick_fnd]
    split
    · exact h2
    · rfl
def restL (l : List Hd) (c : ByteArray) : List Hd := l.filter (fun x => decide (x.f0 ≠ c))
theorem rest_fnd (l : List Hd) (c s : ByteArray) : fnd (restL l c) s = if decide (s ≠ c) = true then fnd l s else none := fnd_filter (fun t => decide (t ≠ c)) s l
theorem rest_none (l : List Hd) (c : ByteArray) : fnd (restL l c) c = none := by rw [rest_fnd, if_neg (by simp)]
theorem rest_reach {l : List Hd} {tips : List ByteArray} {c : ByteArray} (h : Reach (nxt l) tips c) : Reach (nxt (restL l c)) tips c := by
  have := Reach.sub (q := fun s => Reach (nxt (restL l c)) tips s ∨ Reach (nxt (restL l c)) tips c) (fun s hs => .inl (.tip hs)) (fun s t hs ht => by
    rcases hs with hs | hs
    · by_cases e : s = c
      · right; rw [← e]; rw [e] at hs; rw [e]; exact hs
      · left
        refine .step hs ?_
        rw [nxt_eq (l := l) (by rw [rest_fnd, if_pos (by simpa using e)])]
        exact ht
    · exact .inr hs) h
  exact this.elim id id
theorem less_l0 (l : List Hd) (tips a : List ByteArray) (j : Nat) (c : ByteArray) (hl : Zh l) (ht : Zt tips) (ha : a = thereL l tips) (hj : a[j]? = some c) : Ev (fun k => w05_WalkLess.l0 k l tips true a (j : Int) [] 0) true := by
  have z0 := hl.1
  have z1 := ht.1
  have l1 := there_le (l := l) (tips := tips)
  rw [← ha] at l1
  have hjl : j < a.length := (List.getElem?_eq_some_iff.1 hj).1
  have hrl : ∀ m : List Hd, (restL m c).length ≤ m.length := fun m => List.length_filter_le _ _
  refine loop_ev (n := l.length) (F := fun k i => w05_WalkLess.l0 k l tips true a (j : Int) (restL (l.take i.toNat) c) i) ?_ (fun i hi ih => ?_)
  · show Ev (fun k => w05_WalkLess.l0 k l tips true a (j : Int) (restL (l.take l.length) c) (l.length : Int)) true
    rw [List.take_length]
    have hz : Zh (restL l c) := ⟨Nat.lt_of_le_of_lt (hrl l) z0, fun x hx => hl.2 x (List.mem_filter.1 hx).1⟩
    have l2 := there_le (l := restL l c) (tips := tips)
    have l3 := lack_le (l := restL l c) (tips := tips)
    have l4 := hrl l
    have hc : c ∈ thereL l tips := by rw [← ha]; exact List.mem_of_getElem? hj
    obtain ⟨hc1, hc2⟩ := there_mem.1 hc
    have hcl : hasB (lackL (restL l c) tips) c = true := hasB_true.2 (lack_mem.2 ⟨rest_reach hc1, by rw [rest_none]; rfl⟩)
    have hct : hasB (thereL (restL l c) tips) c = false := hasB_false.2 (fun h => by
      have := (there_mem.1 h).2
      rw [rest_none] at this; cases this)
    have hlt : (thereL (restL l c) tips).length < a.length := by
      rw [ha]
      refine (rises_there (restL l c) tips).len_lt (rises_there l tips) (fun s hs => ?_) (x := c) ⟨hc1, hc2⟩ (fun h => by have := h.2; rw [rest_none] at this; cases this)
      refine ⟨reach_less (rest_fnd l c) hs.1, ?_⟩
      have h2 := hs.2
      rw [rest_fnd] at h2
      split at h2
      · exact h2
      · cases h2
    refine Ev.step (f := fun k => (r05_Has.f k (lackL (restL l c) tips) c).bind fun t134 => if t134 = true then (r05_Has.f k (thereL (restL l c) tips) c).bind fun t136 => (if t136 = true then (some false) else some true) else some false) (fun k => ?_) ?_
    · simp only [w05_WalkLess.l0]
      rw [if_neg (by omega), Gv.closure.f_eq (csm hz ht)]
      simp only [Option.bind_some, if_true]
      rw [if_pos (by omega), if_pos (by omega), rdS hj, decide_eq_true (show ((thereL (restL l c) tips).length : Int) < (a.length : Int) by omega)]
    · have g1 := has_ev (lackL (restL l c) tips) c (by omega)
      have g2 := has_ev (thereL (restL l c) tips) c (by omega)
      rw [hcl] at g1
      rw [hct] at g2
      exact Ev.bind g1 (Ev.congr (fun k => if_pos rfl) (Ev.bind g2 (Ev.now _)))
  · have ih : Ev (fun k => w05_WalkLess.l0 k l tips true a (j : Int) (restL (l.take (i + 1)) c) ((i + 1 : Nat) : Int)) true := ih
    show Ev (fun k => w05_WalkLess.l0 k l tips true a (j : Int) (restL (l.take i) c) (i : Int)) true
    obtain ⟨x, hx⟩ : ∃ x, l[i]? = some x := ⟨_, List.getElem?_eq_getElem hi⟩
    have h2 : l.take (i + 1) = l.take i ++ [x] := by rw [List.take_add_one, hx]; rfl
    have h3 : restL (l.take i ++ [x]) c = restL (l.take i) c ++ restL [x] c := List.filter_append _ _
    have h4 := hrl (l.take i)
    have h5 : (l.take i).length ≤ l.length := by rw [List.length_take]; omega
    rw [h2, h3] at ih
    by_cases e : x.f0 = c
    · rw [show restL [x] c = [] by unfold restL; simp [e], List.append_nil] at ih
      refine Ev.step (fun k => ?_) ih
      simp only [w05_WalkLess.l0]
      rw [if_pos (by omega), if_pos (by omega), if_pos (by omega), if_pos (by omega), rdH hx, rdS hj, if_pos (by rw [e]), wr1 hi (by omega)]
    · rw [show restL [x] c = [x] by unfold restL; simp [e]] at ih
      refine Ev.step (fun k => ?_) ih
      simp only [w05_WalkLess.l0]
      rw [if_pos (by omega), if_pos (by omega), if_pos (by omega), if_pos (by omega), rdH hx, rdS hj, if_neg (fun h => e ((toL_inj _ _).1 h)), if_pos (by omega), wr1 hi (by omega)]
theorem less_j0 (l : List Hd) (tips : List ByteArray) (n : Int) (hn : 0 ≤ n ∧ n < 256) (b : Bool) (h : b = false → Zh l ∧ Zt tips) : Ev (fun k => w05_WalkLess.j0 k l tips n true b) true := by
  cases b with
  | true =>
    refine Ev.step (f := fun _ => some true) (fun k => ?_) (Ev.now _)
    simp only [w05_WalkLess.j0]
    rw [if_pos trivial]
  | false =>
    obtain ⟨hl, ht⟩ := h rfl
    have z0 := hl.1
    have z1 := ht.1
    have l1 := there_le (l := l) (tips := tips)
    have l2 := lack_le (l := l) (tips := tips)
    have hp := pick_len l (thereL l tips)
    have hz : Zh (pickL l (thereL l tips)) := ⟨by omega, fun x hx => hl.2 x (List.mem_filter.1 hx).1⟩
    have h1 : Ev (fun k => w05_WalkLess.j1 k l tips n true (thereL l tips) false) true := by
      by_cases he : (thereL l tips).length = 0
      · refine Ev.step (f := fun _ => some true) (fun k => ?_) (Ev.now _)
        simp only [w05_WalkLess.j1]
        rw [if_neg (by simp), if_pos (by omega)]
      · have hlen : (0 : Int) < ((thereL l tips).length : Int) := by omega
        obtain ⟨j, hj⟩ : ∃ j : Nat, Int.tmod n ((thereL l tips).length : Int) = (j : Int) := ⟨(Int.tmod n ((thereL l tips).length : Int)).toNat, by
          have := Int.tmod_nonneg ((thereL l tips).length : Int) hn.1
          omega⟩
        have hjl : j < (thereL l tips).length := by
          have := Int.tmod_lt_of_pos n hlen
          omega
        refine Ev.step (fun k => ?_) (less_l0 l tips (thereL l tips) j ((thereL l tips)[j]) hl ht rfl (List.getElem?_eq_getElem hjl))
        simp only [w05_WalkLess.j1]
        rw [if_neg (by simp), if_neg (by omega), w64 n (by omega) (by omega), hj]
    have hpk := pick_ev l (thereL l tips) (by omega) (by omega)
    refine Ev.step (f := fun k => (walk_Pick.f k l (thereL l tips)).bind fun t110 => ((Gv.closure.f t110 tips).bind fun bt113 => ((r04_SameTexts.f k (thereL l tips) bt113.1).bind fun t119 => (if t119 = true then ((r04_SameTexts.f k (lackL l tips) bt113.2).bind fun t120 => (w05_WalkLess.j1 k l tips n true (thereL l tips) (!t120))) else (w05_WalkLess.j1 k l tips n true (thereL l tips) true))))) (fun k => ?_) ?_
    · simp only [w05_WalkLess.j0]
      rw [if_neg (by simp), Gv.closure.f_eq (csm hl ht)]
      rfl
    · refine Ev.bind hpk ?_
      have hcl := Gv.closure.f_eq (csm hz ht)
      rw [pick_there, pick_lack] at hcl
      refine Ev.congr (fun k => by rw [hcl]; rfl) (Ev.bind (texts_ev (thereL l tips) (by omega)) (Ev.congr (fun k => if_pos rfl) (Ev.bind (texts_ev (lackL l tips) (by omega)) h1)))
theorem less_ev (l : List Hd) (tips : List ByteArray) (n : Int) (hn : 0 ≤ n ∧ n < 256) (hl : l.length ≤ 4000000000000) : Ev (fun k => w05_WalkLess.f k l tips n) true := by
  obtain ⟨b0, g0, e0⟩ := great_ev l hl
  obtain ⟨b1, g1, e1⟩ := gt_ev tips
  unfold w05_WalkLess.f
  refine Ev.bind (Ev.now (r := true)) (Ev.bind g0 ?_)
  cases b0 with
  | true => exact Ev.congr (fun k => if_pos rfl) (less_j0 l tips n hn true (fun h => by cases h))
  | false => exact Ev.congr (fun k => if_neg (by simp)) (Ev.bind g1 (less_j0 l tips n hn b1 (fun h => ⟨e0 rfl, e1 h⟩)))
end Go.Proofs.YtehmhfbfgniekaaGreatDoor.Wk
