/- What refs are with updates, plainly. No condition but what stands in each. -/
import Derived.Test.YtacgchklilfcaaaGreatDoorZRfS6
namespace Go.Proofs.YtacgchklilfcaaaGreatDoor.Rf
set_option linter.unusedVariables false
set_option linter.unusedSimpArgs false
open Go Go.RowKit Go.Proofs.YtacgchklilfcaaaGreatDoorW.PrintWords Go.Proofs.YtacgchklilfcaaaGreatDoorW.PrintLast Go.Proofs.YtacgchklilfcaaaGreatDoorW.PrintMore PRfBase PRfGet Go.Proofs.YtacgchklilfcaaaGreatDoor.Gl
theorem lt_irr (s : ByteArray) : ¬ L s < L s := List.lt_irrefl _
theorem lt_ne {s t : ByteArray} (h : L s < L t) : s ≠ t := fun e => lt_irr s (by rw [e] at h ⊢; exact h)
def Rise (l : List Ref) : Prop := l.Pairwise (fun x y => L x.f0 < L y.f0)
theorem Rise.ne {l : List Ref} (h : Rise l) : l.Pairwise (fun x y => x.f0 ≠ y.f0) := h.imp (fun h => lt_ne h)
structure Rt (l : List Ref) : Prop where
  each : ∀ x ∈ l, nameB x.f0 = true ∧ nmB x.f1 = true
  rise : Rise l
  free : ∀ x ∈ l, ∀ y ∈ l, aboveB y.f0 x.f0 = false
  few : l.length ≤ 64
theorem rt_of {l : List Ref} (h : rightB l = true) : Rt l := by
  obtain ⟨hp, hl⟩ := rightB_parts h
  refine ⟨fun x hx => rightB_mem h hx, ?_, fun x hx y hy => ?_, hl⟩
  · refine List.pairwise_iff_getElem.2 (fun i j hi hj hij => ?_)
    have key : ∀ d : Nat, ∀ (hd : i + d + 1 < l.length), L (l[i]'(by omega)).f0 < L (l[i + d + 1]'hd).f0 := by
      intro d
      induction d with
      | zero =>
        intro hd
        have := (okAt_parts (hp (i + 1) _ (List.getElem?_eq_getElem hd))).2.2.1
        rcases this with h0 | h0
        · omega
        · rw [Nat.add_sub_cancel, List.getElem?_eq_getElem (by omega)] at h0
          exact h0
      | succ d ih =>
        intro hd
        have h1 := ih (by omega)
        have := (okAt_parts (hp (i + (d + 1) + 1) _ (List.getElem?_eq_getElem hd))).2.2.1
        rcases this with h0 | h0
        · omega
        · rw [Nat.add_sub_cancel, List.getElem?_eq_getElem (by omega)] at h0
          exact List.lt_trans h1 h0
    have := key (j - i - 1) (by omega)
    have e : i + (j - i - 1) + 1 = j := by omega
    simp only [e] at this
    exact this
  · obtain ⟨i, hi⟩ := List.getElem?_of_mem hx
    exact (okAt_parts (hp i x hi)).2.2.2 y hy
theorem fold_find : ∀ (l : List Ref) (f : ByteArray → Option ByteArray) (s : ByteArray), l.Pairwise (fun x y => x.f0 ≠ y.f0) → (l.foldl (fun f x => updF f x.f0 x.f1) f) s = (match l.find? (fun x => decide (x.f0 = s)) with | some x => some x.f1 | none => f s)
  | [], f, s, _ => rfl
  | x :: r, f, s, h => by
    obtain ⟨h1, h2⟩ := List.pairwise_cons.1 h
    rw [List.foldl_cons, fold_find r _ s h2, List.find?_cons]
    by_cases hx : x.f0 = s
    · have hn : r.find? (fun y => decide (y.f0 = s)) = none := by
        rw [List.find?_eq_none]
        intro y hy
        have := h1 y hy
        rw [hx] at this
        simpa using fun e => this e.symm
      rw [hn, decide_eq_true hx]
      simp [updF, hx]
    · rw [decide_eq_false hx]
      cases r.find? (fun y => decide (y.f0 = s)) with
      | some y => rfl
      | none =>
        show updF f x.f0 x.f1 s = f s
        unfold updF
        rw [if_neg (fun e => hx e.symm)]
theorem mapL_find {l : List Ref} (h : l.Pairwise (fun x y => x.f0 ≠ y.f0)) (s : ByteArray) : mapL l s = (l.find? (fun x => decide (x.f0 = s))).map (·.f1) := by
  unfold mapL
  rw [fold_find l _ s h]
  cases l.find? (fun x => decide (x.f0 = s)) <;> rfl
theorem findL_at {l : List Ref} (h : l.Pairwise (fun x y => x.f0 ≠ y.f0)) (s : ByteArray) : findL l s = atF (mapL l) s := by
  unfold findL atF
  rw [mapL_find h]
  cases l.find? (fun x => decide (x.f0 = s)) <;> rfl
theorem find_mem {l : List Ref} (h : l.Pairwise (fun x y => x.f0 ≠ y.f0)) {x : Ref} (hx : x ∈ l) : l.find? (fun y => decide (y.f0 = x.f0)) = some x := by
  induction l with
  | nil => cases hx
  | cons y r ih =>
    obtain ⟨h1, h2⟩ := List.pairwise_cons.1 h
    rw [List.find?_cons]
    rcases List.mem_cons.1 hx with rfl | hx
    · simp
    · have := h1 x hx
      rw [decide_eq_false this]
      exact ih h2 hx
theorem mapL_iff {l : List Ref} (h : l.Pairwise (fun x y => x.f0 ≠ y.f0)) (x : Ref) : mapL l x.f0 = some x.f1 ↔ x ∈ l := by
  rw [mapL_find h]
  constructor
  · intro k
    cases hf : l.find? (fun y => decide (y.f0 = x.f0)) with
    | none => rw [hf] at k; cases k
    | some y =>
      rw [hf] at k
      have h1 := List.mem_of_find?_eq_some hf
      have h2 := List.find?_some hf
      have e : y = x := ref_ext (of_decide_eq_true h2) (Option.some.inj k)
      exact e ▸ h1
  · intro k
    rw [find_mem h k]; rfl
def Fin (f : ByteArray → Option ByteArray) : Prop := ∃ ks : List ByteArray, ∀ s, (f s).isSome = true → s ∈ ks
theorem Fin.keys {f : ByteArray → Option ByteArray} (h : Fin f) : Mp.KeysOf (emb f) (namesF f) := by
  obtain ⟨ks, hk⟩ := h
  have h1 := rise_keys (ks.filter (fun s => (f s).isSome)) (emb f) (fun s => by
    rw [emb_some, List.mem_filter]
    exact ⟨fun h => ⟨hk s h, h⟩, And.right⟩)
  exact namesF_eq h1 ▸ h1
theorem mapL_fin (l : List Ref) : Fin (mapL l) := ⟨l.map (·.f0), fun s h => mapL_dom (P := fun s => s ∈ l.map (·.f0)) l (fun x hx => List.mem_map.2 ⟨x, hx, rfl⟩) s h⟩
theorem refsF_mem {f : ByteArray → Option ByteArray} (h : Fin f) (x : Ref) : x ∈ refsF f ↔ f x.f0 = some x.f1 := by
  have hk := h.keys
  unfold refsF
  rw [List.mem_map]
  constructor
  · rintro ⟨s, hs, rfl⟩
    have := (hk.mem s).1 hs
    rw [emb_some] at this
    obtain ⟨v, hv⟩ := Option.isSome_iff_exists.1 this
    show f s = some (atF f s)
    rw [atF, hv]; rfl
  · intro hx
    refine ⟨x.f0, (hk.mem _).2 (by rw [emb_some, hx]; rfl), ?_⟩
    rw [atF, hx]; rfl
theorem refsF_rise {f : ByteArray → Option ByteArray} (h : Fin f) : Rise (refsF f) := by
  unfold Rise refsF
  rw [List.pairwise_map]
  exact h.keys.rising
theorem refsF_eq {f : ByteArray → Option ByteArray} {l : List Ref} (hr : Rise l) (hm : ∀ x, x ∈ l ↔ f x.f0 = some x.f1) : refsF f = l := by
  have hk : Mp.KeysOf (emb f) (l.map (·.f0)) := ⟨by rw [List.pairwise_map]; exact hr, fun s => by
    rw [emb_some, List.mem_map]
    constructor
    · rintro ⟨x, hx, rfl⟩
      rw [(hm x).1 hx]; rfl
    · intro h
      obtain ⟨v, hv⟩ := Option.isSome_iff_exists.1 h
      exact ⟨⟨s, v⟩, (hm _).2 hv, rfl⟩⟩
  unfold refsF
  rw [← namesF_eq hk, List.map_map]
  have : ∀ x ∈ l, ((fun s => (⟨s, atF f s⟩ : Ref)) ∘ fun x => x.f0) x = x := fun x hx => by
    show (⟨x.f0, atF f x.f0⟩ : Ref) = x
    rw [atF, (hm x).1 hx]; rfl
  rw [List.map_congr_left this]; simp
theorem refsF_map {l : List Ref} (h : Rise l) : refsF (mapL l) = l := refsF_eq h (fun x => (mapL_iff h.ne x).symm)
theorem found {u : List Upd} {s : ByteArray} {x : Upd} (h : u.find? (fun x => decide (x.f0 = s)) = some x) : x.f0 = s := by
  have := List.find?_some h
  exact of_decide_eq_true this
structure Good (u : List Upd) : Prop where
  each : ∀ x ∈ u, nameB x.f0 = true ∧ mayB x.f1 = true ∧ mayB x.f2 = true ∧ x.f1.size + x.f2.size ≠ 0
  apart : u.Pairwise (fun x y => x.f0 ≠ y.f0)
theorem fst_neg {α : Type} (p : α → Bool) (l : List α) : fst p l < 0 ↔ ∀ x ∈ l, p x = false := by
  have h := fst_nonneg p l
  constructor
  · intro hn x hx
    rw [← Bool.not_eq_true]
    intro hp
    have := h.2 (List.any_eq_true.2 ⟨x, hx, hp⟩)
    omega
  · intro hn
    refine Int.not_le.1 (fun h0 => ?_)
    obtain ⟨x, hx, hp⟩ := List.any_eq_true.1 (h.1 h0)
    rw [hn x hx] at hp; cases hp
theorem fst_le {α : Type} (p : α → Bool) (l : List α) : fst p l ≤ l.length := by
  unfold fst
  cases h : l.findIdx? p with
  | none => simp only; omega
  | some i =>
    have := (List.findIdx?_eq_some_iff_getElem.1 h).1
    simp only; omega
theorem fstI_neg {α : Type} (p : Nat → α → Bool) (l : List α) : fstI p l < 0 ↔ ∀ (j : Nat) (x : α), l[j]? = some x → p j x = false := by
  unfold fstI
  rw [fst_neg]
  constructor
  · intro h j x hx
    exact h (x, j) (List.mem_of_getElem? (i := j) (by simp [List.getElem?_zipIdx, hx]))
  · rintro h ⟨x, j⟩ hx
    obtain ⟨i, hi⟩ := List.getElem?_of_mem hx
    rw [List.getElem?_zipIdx] at hi
    cases hl : l[i]? with
    | none => rw [hl] at hi; cases hi
    | some z =>
      rw [hl] at hi; simp at hi
      obtain ⟨rfl, rfl⟩ := hi
      exact h _ _ hl
theorem fstI_le {α : Type} (p : Nat → α → Bool) (l : List α) : fstI p l ≤ l.length := by
  have := fst_le (fun x : α × Nat => p x.2 x.1) l.zipIdx
  rw [List.length_zipIdx] at this
  exact this
theorem wrong_le (u : List Upd) : wrongI u ≤ (u.length : Int) := by
  unfold wrongI
  exact fstI_le _ _
theorem wrong_iff (u : List Upd) : wrongI u < 0 ↔ Good u := by
  unfold wrongI
  rw [fstI_neg]
  have hb : ∀ (c : Nat) (x : Upd), badB c x = false ↔ (nameB x.f0 = true ∧ c = 0 ∧ mayB x.f1 = true ∧ mayB x.f2 = true ∧ x.f1.size + x.f2.size ≠ 0) := fun c x => by
    unfold badB
    simp only [Bool.or_eq_false_iff, Bool.not_eq_false', decide_eq_false_iff_not]
    constructor
    · rintro ⟨⟨⟨⟨h1, h2⟩, h3⟩, h4⟩, h5⟩; exact ⟨h1, by omega, h3, h4, h5⟩
    · rintro ⟨h1, h2, h3, h4, h5⟩; exact ⟨⟨⟨⟨h1, by omega⟩, h3⟩, h4⟩, h5⟩
  constructor
  · intro h
    refine ⟨fun x hx => ?_, List.pairwise_iff_getElem.2 (fun i j hi hj hij e => ?_)⟩
    · obtain ⟨j, hj⟩ := List.getElem?_of_mem hx
      obtain ⟨h1, _, h2⟩ := (hb _ _).1 (h j x hj)
      exact ⟨h1, h2⟩
    · have := ((hb _ _).1 (h j _ (List.getElem?_eq_getElem hj))).2.1
      have hm : u[i] ∈ (u.take j).filter (fun y => decide (y.f0 = u[j].f0)) := by
        refine List.mem_filter.2 ⟨List.mem_of_getElem? (i := i) ?_, decide_eq_true e⟩
        rw [List.getElem?_take_of_lt hij, List.getElem?_eq_getElem hi]
      unfold cnt at this
      rw [List.length_eq_zero_iff] at this
      rw [this] at hm; cases hm
  · intro h j x hx
    obtain ⟨hj, hjx⟩ := List.getElem?_eq_some_iff.1 hx
    obtain ⟨h1, h2⟩ := h.each x (List.mem_of_getElem? hx)
    refine (hb _ _).2 ⟨h1, ?_, h2⟩
    unfold cnt
    rw [List.length_eq_zero_iff, List.filter_eq_nil_iff]
    intro y hy
    obtain ⟨i, hi⟩ := List.getElem?_of_mem hy
    obtain ⟨hi1, hi2⟩ := List.getElem?_eq_some_iff.1 hi
    rw [List.length_take] at hi1
    have := List.pairwise_iff_getElem.1 h.apart i j (by omega) hj (by omega)
    rw [List.getElem_take] at hi2
    rw [hi2, hjx] at this
    simpa using this
def newF (u : List Upd) (f : ByteArray → Option ByteArray) : ByteArray → Option ByteArray := fun s => match u.find? (fun x => decide (x.f0 = s)) with | some x => if x.f2.size = 0 then none else some x.f2 | none => f s
theorem newF_cons (x : Upd) (u : List Upd) (f : ByteArray → Option ByteArray) (h : ∀ y ∈ u, x.f0 ≠ y.f0) : newF u (stepU f x) = newF (x :: u) f := by
  funext s
  unfold newF
  rw [List.find?_cons]
  by_cases hx : x.f0 = s
  · have hn : u.find? (fun y => decide (y.f0 = s)) = none := by
      rw [List.find?_eq_none]
      intro y hy
      have := h y hy
      rw [hx] at this
      simpa using fun e => this e.symm
    rw [hn, decide_eq_true hx]
    unfold stepU
    by_cases h2 : x.f2.size = 0
    · simp only [if_pos h2, delF, hx, if_true]
    · simp only [if_neg h2, updF, hx, if_true]
  · rw [decide_eq_false hx]
    cases u.find? (fun y => decide (y.f0 = s)) with
    | some y => rfl
    | none =>
      have hs : ¬ s = x.f0 := fun e => hx e.symm
      unfold stepU
      by_cases h2 : x.f2.size = 0
      · simp only [if_pos h2, delF, if_neg hs]
      · simp only [if_neg h2, updF, if_neg hs]
theorem stepU_at (f : ByteArray → Option ByteArray) (x : Upd) {s : ByteArray} (h : x.f0 ≠ s) : stepU f x s = f s := by
  have hs : ¬ s = x.f0 := fun e => h e.symm
  unfold stepU
  by_cases h2 : x.f2.size = 0
  · rw [if_pos h2]; exact if_neg hs
  · rw [if_neg h2]; exact if_neg hs
theorem run_iff : ∀ (u : List Upd) (f : ByteArray → Option ByteArray) (i : Nat), u.Pairwise (fun x y => x.f0 ≠ y.f0) →
    ((∀ x ∈ u, atF f x.f0 = x.f1) ∧ runU f i u = .inr (newF u f)) ∨ ((∃ x ∈ u, atF f x.f0 ≠ x.f1) ∧ ∃ j, runU f i u = .inl j ∧ j < i + u.length)
  | [], f, i, _ => .inl ⟨fun x h => (List.not_mem_nil h).elim, rfl⟩
  | x :: u, f, i, h => by
    obtain ⟨h1, h2⟩ := List.pairwise_cons.1 h
    by_cases hx : atF f x.f0 = x.f1
    · have hat : ∀ y ∈ u, atF (stepU f x) y.f0 = atF f y.f0 := fun y hy => by unfold atF; rw [stepU_at f x (h1 y hy)]
      rcases run_iff u (stepU f x) (i + 1) h2 with ⟨ha, hb⟩ | ⟨⟨y, hy, hyn⟩, j, hj, hjl⟩
      · refine .inl ⟨fun y hy => ?_, ?_⟩
        · rcases List.mem_cons.1 hy with rfl | hy
          · exact hx
          · rw [← hat y hy]; exact ha y hy
        · rw [runU, if_pos hx, hb, newF_cons x u f h1]
      · refine .inr ⟨⟨y, List.mem_cons_of_mem _ hy, by rw [← hat y hy]; exact hyn⟩, j, by rw [runU, if_pos hx, hj], by rw [List.length_cons]; omega⟩
    · exact .inr ⟨⟨x, List.mem_cons_self, hx⟩, i, by rw [runU, if_neg hx], by rw [List.length_cons]; omega⟩
theorem newF_fin {f : ByteArray → Option ByteArray} (h : Fin f) (u : List Upd) : Fin (newF u f) := by
  obtain ⟨ks, hk⟩ := h
  refine ⟨u.map (·.f0) ++ ks, fun s hs => ?_⟩
  unfold newF at hs
  cases hf : u.find? (fun x => decide (x.f0 = s)) with
  | some x => exact List.mem_append_left _ (List.mem_map.2 ⟨x, List.mem_of_find?_eq_some hf, found hf⟩)
  | none => rw [hf] at hs; exact List.mem_append_right _ (hk s hs)
theorem findU_mem {u : List Upd} (h : u.Pairwise (fun x y => x.f0 ≠ y.f0)) {x : Upd} (hx : x ∈ u) : u.find? (fun y => decide (y.f0 = x.f0)) = some x := by
  induction u with
  | nil => cases hx
  | cons y r ih =>
    obtain ⟨h1, h2⟩ := List.pairwise_cons.1 h
    rw [List.find?_cons]
    rcases List.mem_cons.1 hx with rfl | hx
    · simp
    · rw [decide_eq_false (h1 x hx)]
      exact ih h2 hx
theorem newF_mem {u : List Upd} (h : u.Pairwise (fun x y => x.f0 ≠ y.f0)) (f : ByteArray → Option ByteArray) {x : Upd} (hx : x ∈ u) : newF u f x.f0 = if x.f2.size = 0 then none else some x.f2 := by
  unfold newF
  rw [findU_mem h hx]
structure Done (l : List Ref) (u : List Upd) : Prop where
  rt : Rt l
  one : 1 ≤ u.length
  few : u.length ≤ 16
  good : Good u
  old : ∀ x ∈ u, findL l x.f0 = x.f1
  free : ∀ x ∈ u, x.f2.size ≠ 0 → ∀ y ∈ refsF (newF u (mapL l)), bothB x.f0 y.f0 = false
  most : (refsF (newF u (mapL l))).length ≤ 64
theorem inWay_iff (out : List Ref) (u : List Upd) : fst (inWay out) u < 0 ↔ ∀ x ∈ u, x.f2.size ≠ 0 → ∀ y ∈ out, bothB x.f0 y.f0 = false := by
  rw [fst_neg]
  refine forall_congr' (fun x => forall_congr' (fun _ => ?_))
  unfold inWay
  by_cases h : x.f2.size = 0
  · simp [h]
  · simp [h]
theorem apply_all (l : List Ref) (u : List Upd) :
    (applyL l u = ([], 1, 0) ∧ (rightB l = false ∨ u.length = 0 ∨ 16 < u.length)) ∨
    (Rt l ∧ 1 ≤ u.length ∧ u.length ≤ 16 ∧ applyL l u = (l, 1, wrongI u) ∧ 0 ≤ wrongI u) ∨
    (Rt l ∧ 1 ≤ u.length ∧ u.length ≤ 16 ∧ Good u ∧ (∃ x ∈ u, findL l x.f0 ≠ x.f1) ∧ ∃ j : Nat, applyL l u = (l, 92, (j : Int)) ∧ j ≤ u.length) ∨
    (Rt l ∧ 1 ≤ u.length ∧ u.length ≤ 16 ∧ Good u ∧ (∀ x ∈ u, findL l x.f0 = x.f1) ∧
      ((0 ≤ fst (inWay (refsF (newF u (mapL l)))) u ∧ applyL l u = (l, 91, fst (inWay (refsF (newF u (mapL l)))) u)) ∨
       (fst (inWay (refsF (newF u (mapL l)))) u < 0 ∧ 64 < (refsF (newF u (mapL l))).length ∧ applyL l u = (l, 2, 0)) ∨
       (Done l u ∧ applyL l u = (refsF (newF u (mapL l)), 0, 0)))) := by
  by_cases h0 : rightB l = false ∨ u.length = 0 ∨ 16 < u.length
  · exact .inl ⟨by rw [applyL, if_pos h0], h0⟩
  · have hr : rightB l = true := by
      cases h : rightB l with
      | true => rfl
      | false => exact absurd (.inl h) h0
    have hrt := rt_of hr
    have h1 : 1 ≤ u.length := by
      rcases Nat.eq_zero_or_pos u.length with h | h
      · exact absurd (.inr (.inl h)) h0
      · exact h
    have h16 : u.length ≤ 16 := Nat.not_lt.1 (fun h => h0 (.inr (.inr h)))
    refine .inr ?_
    by_cases hw : 0 ≤ wrongI u
    · exact .inl ⟨hrt, h1, h16, by rw [applyL, if_neg h0, if_pos hw], hw⟩
    · have hg := (wrong_iff u).1 (Int.not_le.1 hw)
      have hfa : ∀ s, findL l s = atF (mapL l) s := findL_at hrt.rise.ne
      refine .inr ?_
      rcases run_iff u (mapL l) 0 hg.apart with ⟨ha, hrun⟩ | ⟨⟨x, hx, hxn⟩, j, hj, hjl⟩
      · refine .inr ⟨hrt, h1, h16, hg, fun x hx => by rw [hfa]; exact ha x hx, ?_⟩
        by_cases hf : 0 ≤ fst (inWay (refsF (newF u (mapL l)))) u
        · exact .inl ⟨hf, by rw [applyL, if_neg h0, if_neg hw, hrun]; exact if_pos hf⟩
        · refine .inr ?_
          have hf' := Int.not_le.1 hf
          by_cases h64 : 64 < (refsF (newF u (mapL l))).length
          · exact .inl ⟨hf', h64, by rw [applyL, if_neg h0, if_neg hw, hrun]; exact (if_neg hf).trans (if_pos h64)⟩
          · exact .inr ⟨⟨hrt, h1, h16, hg, fun x hx => by rw [hfa]; exact ha x hx, (inWay_iff _ _).1 hf', by omega⟩, by rw [applyL, if_neg h0, if_neg hw, hrun]; exact (if_neg hf).trans (if_neg h64)⟩
      · refine .inl ⟨hrt, h1, h16, hg, ⟨x, hx, by rw [hfa]; exact hxn⟩, j, by rw [applyL, if_neg h0, if_neg hw, hj], by omega⟩
theorem apply_ok {l : List Ref} {u : List Upd} (h : (applyL l u).2.1 = 0) : Done l u ∧ applyL l u = (refsF (newF u (mapL l)), 0, 0) := by
  rcases apply_all l u with ⟨e, _⟩ | ⟨_, _, _, e, _⟩ | ⟨_, _, _, _, _, j, e, _⟩ | ⟨_, _, _, _, _, ⟨_, e⟩ | ⟨_, _, e⟩ | hd⟩
  · rw [e] at h; cases h
  · rw [e] at h; cases h
  · rw [e] at h; cases h
  · rw [e] at h; cases h
  · rw [e] at h; cases h
  · exact hd
theorem apply_err {l : List Ref} {u : List Upd} (h : (applyL l u).2.1 ≠ 0) : ((applyL l u).1 = [] ∨ (applyL l u).1 = l) ∧ 0 ≤ (applyL l u).2.2 ∧ (applyL l u).2.2 ≤ u.length := by
  rcases apply_all l u with ⟨e, _⟩ | ⟨_, _, _, e, h0⟩ | ⟨_, _, _, _, _, j, e, hj⟩ | ⟨_, _, _, _, _, ⟨h0, e⟩ | ⟨_, _, e⟩ | ⟨_, e⟩⟩
  · rw [e]; exact ⟨.inl rfl, Int.le_refl _, by simp⟩
  · rw [e]; exact ⟨.inr rfl, h0, wrong_le u⟩
  · rw [e]; exact ⟨.inr rfl, by simp, by simp; omega⟩
  · rw [e]; exact ⟨.inr rfl, h0, fst_le _ _⟩
  · rw [e]; exact ⟨.inr rfl, Int.le_refl _, by simp⟩
  · rw [e] at h; exact absurd rfl h
theorem rdR {l : List Ref} {i : Nat} {x : Ref} (hx : l[i]? = some x) : rd_T46 l (i : Int) = x := by simp [rd_T46, hx]
theorem rdU {l : List Upd} {i : Nat} {x : Upd} (hx : l[i]? = some x) : rd_T40 l (i : Int) = x := by simp [rd_T40, hx]
theorem wr1 {i n : Nat} (h : i < n) (hn : n ≤ 1000000000000) : wrap64 ((i : Int) + 1) = ((i + 1 : Nat) : Int) := by rw [w64 _ (by omega) (by omega)]; omega
theorem beq_no {s t : ByteArray} (h : s ≠ t) : (s.toList == t.toList) = false := by rw [beq_eq_false_iff_ne]; exact fun e => h ((toL_inj _ _).1 e)
theorem beq_yes {s t : ByteArray} (h : s = t) : (s.toList == t.toList) = true := by rw [h]; simp
theorem drop_at {α : Type} {l : List α} {i : Nat} {x : α} (hx : l[i]? = some x) : l.drop i = x :: l.drop (i + 1) := by
  obtain ⟨h1, h2⟩ := List.getElem?_eq_some_iff.1 hx
  rw [List.drop_eq_getElem_cons h1, h2]
end Go.Proofs.YtacgchklilfcaaaGreatDoor.Rf
