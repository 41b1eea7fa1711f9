/- The document's functions on refs, plainly: names, right refs, lines. No condition but the reach of what comes in. -/
import Derived.Test.YtacgchklilfcaaaGreatDoorZRfP
import Derived.Test.YtacgchklilfcaaaGreatDoorZRfNm
namespace Go.Proofs.YtacgchklilfcaaaGreatDoor.Rf
set_option linter.unusedVariables false
set_option linter.unusedSimpArgs false
set_option linter.unusedSectionVars false
open Go Go.RowKit Go.Proofs.YtacgchklilfcaaaGreatDoorW.PrintWords Go.Proofs.YtacgchklilfcaaaGreatDoorW.PrintLast Go.Proofs.YtacgchklilfcaaaGreatDoorW.PrintMore PRfBase PRfGet Go.Proofs.YtacgchklilfcaaaGreatDoor.Gl
theorem rpart_l0 (s : ByteArray) (hs : s.size ≤ 1000000000000) : ∀ (d i : Nat), s.size - i = d → i ≤ s.size → Ev (fun k => r09_part.l0 k s (i : Int)) (((L s).drop i).all letOk && endB s) := by
  intro d
  induction d with
  | zero =>
    intro i hd hi
    have hin : i = s.size := by omega
    subst hin
    rw [List.drop_of_length_le (by rw [L_len]; exact Nat.le_refl _), List.all_nil, Bool.true_and]
    refine Ev.step (f := fun _ => some (endB s)) (fun k => ?_) (Ev.now _)
    simp only [r09_part.l0]
    rw [if_neg (by omega)]
    by_cases h0 : s.size = 0
    · rw [if_neg (by omega)]
      unfold endB
      rw [decide_eq_false (by omega)]; rfl
    · rw [if_pos (by omega)]
      unfold endB
      rw [decide_eq_true (by omega)]
      by_cases h30 : s.size ≤ 30
      · rw [if_pos (by omega), if_pos (by omega), decide_eq_true h30, end_head (by omega)]; rfl
      · rw [if_neg (by omega), decide_eq_false h30]; rfl
  | succ d ih =>
    intro i hd hi
    have hil : i < (L s).length := by rw [L_len]; omega
    obtain ⟨u, hu⟩ : ∃ u, (L s)[i]? = some u := ⟨_, List.getElem?_eq_getElem hil⟩
    have hb := bt_get hu (i : Int) rfl
    have hd1 := drop_at hu
    have ih' := ih (i + 1) (by omega) (by omega)
    have hw := wr1 (i := i) (n := s.size) (by omega) hs
    rw [hd1, List.all_cons]
    have hlk := letOk_iff u
    have hyes : letOk u = true → Ev (fun k => r09_part.l0 k s (i : Int)) (letOk u && ((L s).drop (i + 1)).all letOk && endB s) := by
      intro h
      rw [h, Bool.true_and]
      have h' := hlk.1 h
      refine Ev.step (fun k => ?_) ih'
      simp only [r09_part.l0]
      rw [if_pos (by omega), if_pos (by omega), hb, hw]
      by_cases h1 : (u.toNat : Int) = 46
      · rw [if_pos h1]
      · rw [if_neg h1]
        by_cases h2 : (u.toNat : Int) = 45
        · rw [if_pos h2]
        · rw [if_neg h2]
          by_cases h3 : (u.toNat : Int) = 95
          · rw [if_pos h3]
          · rw [if_neg h3]
            by_cases h4 : (u.toNat : Int) < 97
            · rw [if_pos h4, if_neg (by omega), if_neg (by omega)]
            · rw [if_neg h4]
              by_cases h5 : (u.toNat : Int) > 122
              · omega
              · rw [if_neg h5]
    by_cases h : letOk u = true
    · exact hyes h
    · have h' := mt hlk.2 h
      rw [Bool.not_eq_true] at h
      rw [h, Bool.false_and, Bool.false_and]
      refine Ev.step (f := fun _ => some false) (fun k => ?_) (Ev.now _)
      simp only [r09_part.l0]
      rw [if_pos (by omega), if_pos (by omega), hb, if_neg (by omega), if_neg (by omega), if_neg (by omega)]
      by_cases h4 : (u.toNat : Int) < 97
      · rw [if_pos h4]
        by_cases h6 : (u.toNat : Int) < 48
        · rw [if_pos h6]
        · rw [if_neg h6, if_pos (by omega)]
      · rw [if_neg h4]
        by_cases h5 : (u.toNat : Int) > 122
        · rw [if_pos h5]
          by_cases h6 : (u.toNat : Int) < 48
          · rw [if_pos h6]
          · rw [if_neg h6, if_pos (by omega)]
        · omega
theorem rpart_ev (s : ByteArray) (hs : s.size ≤ 1000000000000) : Ev (fun k => r09_part.f k s) (letB s) := by
  have := rpart_l0 s hs s.size 0 (by omega) (by omega)
  rw [List.drop_zero] at this
  exact this
theorem rdig_l0 (s : ByteArray) (hs : s.size = 64) : ∀ (d i : Nat), s.size - i = d → i ≤ s.size → Ev (fun k => r02_Named.l0 k s (i : Int)) (((L s).drop i).all hexOk) := by
  intro d
  induction d with
  | zero =>
    intro i hd hi
    have hin : i = s.size := by omega
    rw [hin, List.drop_of_length_le (by rw [L_len]; exact Nat.le_refl _), List.all_nil]
    refine Ev.step (f := fun _ => some true) (fun k => ?_) (Ev.now _)
    simp only [r02_Named.l0]
    rw [if_neg (by omega)]
  | succ d ih =>
    intro i hd hi
    have hil : i < (L s).length := by rw [L_len]; omega
    obtain ⟨u, hu⟩ : ∃ u, (L s)[i]? = some u := ⟨_, List.getElem?_eq_getElem hil⟩
    have hb := bt_get hu (i : Int) rfl
    have hw := wr1 (i := i) (n := s.size) (by omega) (by omega)
    rw [drop_at hu, List.all_cons]
    have hlk := hexOk_iff u
    by_cases h : hexOk u = true
    · have h' := hlk.1 h
      rw [h, Bool.true_and]
      refine Ev.step (fun k => ?_) (ih (i + 1) (by omega) (by omega))
      simp only [r02_Named.l0]
      rw [if_pos (by omega), if_pos (by omega), if_pos (by omega), hb, hw, if_pos (by omega)]
      by_cases h4 : (u.toNat : Int) ≤ 57
      · rw [if_pos h4]
      · rw [if_neg h4, if_pos (by omega), if_pos (by omega)]
    · have h' := mt hlk.2 h
      rw [Bool.not_eq_true] at h
      rw [h, Bool.false_and]
      refine Ev.step (f := fun _ => some false) (fun k => ?_) (Ev.now _)
      simp only [r02_Named.l0]
      rw [if_pos (by omega), if_pos (by omega), if_pos (by omega), hb]
      by_cases h4 : (u.toNat : Int) ≥ 48
      · rw [if_pos h4, if_neg (by omega)]
        by_cases h6 : (u.toNat : Int) ≥ 97
        · rw [if_pos h6, if_neg (by omega)]
        · rw [if_neg h6]
      · rw [if_neg h4]
        by_cases h6 : (u.toNat : Int) ≥ 97
        · omega
        · rw [if_neg h6]
theorem rdig_ev (s : ByteArray) : Ev (fun k => r02_Named.f k s) (nmB s) := by
  unfold r02_Named.f nmB
  by_cases h : s.size = 64
  · have := rdig_l0 s h s.size 0 (by omega) (by omega)
    rw [List.drop_zero] at this
    rw [decide_eq_true h, Bool.and_true]
    exact Ev.congr (fun k => if_pos (by omega)) this
  · rw [decide_eq_false h, Bool.and_false]
    exact Ev.congr (fun k => if_neg (by omega)) (Ev.now _)
theorem L_ext (s : ByteArray) (a b : Nat) : L (s.extract a b) = ((L s).drop a).take (b - a) := by
  simp only [L, ByteArray.data_extract, Array.toList_extract]
  try rw [List.extract_eq_take_drop]
theorem ext_take (s : ByteArray) (m : Nat) : s.extract 0 m = bs ((L s).take m) := by
  apply L_inj; rw [L_bs, L_ext]; simp
theorem ext_drop (s : ByteArray) (m : Nat) : s.extract m s.size = bs ((L s).drop m) := by
  apply L_inj
  rw [L_bs, L_ext, List.take_of_length_le (by rw [List.length_drop, L_len]; exact Nat.le_refl _)]
theorem rabove_eq (a b : ByteArray) : r09_above.f a b = some (aboveB a b) := by
  unfold r09_above.f aboveB
  have hpre : (L a ++ [47]).isPrefixOf (L b) = true ↔ (L b).take (a.size + 1) = L a ++ [47] := by
    rw [List.isPrefixOf_iff_prefix, List.prefix_iff_eq_take, List.length_append, L_len]
    exact ⟨fun h => h.symm, fun h => h.symm⟩
  by_cases h : a.size < b.size
  · obtain ⟨u, hu⟩ : ∃ u, (L b)[a.size]? = some u := ⟨_, List.getElem?_eq_getElem (by rw [L_len]; exact h)⟩
    rw [if_pos (by omega), if_pos (by omega), if_pos (by omega), Int.toNat_natCast, toL, toL, L_ext, List.drop_zero, Nat.sub_zero, if_pos (show (a.size : Int) < b.size by omega), bt_get hu _ rfl]
    rw [List.take_add_one, hu] at hpre
    by_cases he : (L b).take a.size = L a
    · rw [if_pos he]
      congr 1
      rw [Bool.eq_iff_iff, hpre, he, beq_iff_eq]
      constructor
      · intro e
        have : u = 47 := UInt8.toNat_inj.1 (by have : (47 : UInt8).toNat = 47 := rfl; omega)
        rw [this]; rfl
      · intro e
        have := List.append_cancel_left e
        simp at this
        rw [this]; rfl
    · rw [if_neg he]
      congr 1
      symm
      rw [Bool.eq_false_iff]
      intro hp
      have := hpre.1 hp
      refine he ?_
      have h2 := congrArg (List.take a.size) this
      rw [List.take_append_of_le_length (by rw [List.length_take, L_len]; omega), List.take_take, Nat.min_self, List.take_append_of_le_length (by rw [L_len]; exact Nat.le_refl _)] at h2
      rw [h2, List.take_of_length_le (by rw [L_len]; exact Nat.le_refl _)]
  · rw [if_neg (by omega)]
    congr 1
    symm
    rw [Bool.eq_false_iff]
    intro hp
    have := (List.isPrefixOf_iff_prefix.1 hp).length_le
    rw [List.length_append, L_len, L_len] at this
    simp at this
    omega
def okP (n : Nat) (p : ByteArray) : Bool := if n = 0 then (decide (p = heads) || decide (p = tags)) else letB p
theorem okP0 {p : ByteArray} : okP 0 p = true ↔ (p = heads ∨ p = tags) := by
  unfold okP
  rw [if_pos rfl, Bool.or_eq_true, decide_eq_true_iff, decide_eq_true_iff]
theorem okPn {n : Nat} {p : ByteArray} (h : 1 ≤ n) : okP n p = letB p := if_neg (by omega)
theorem mn_end (m : Nat) (s : ByteArray) (hm : m ≤ s.size) (hs : s.size ≤ 1000000000) : mn (wrap64 ((m : Int) + 1)) (s.size : Int) = ((min (m + 1) s.size : Nat) : Int) := by
  rw [w64 _ (by omega) (by omega)]
  unfold mn
  omega
theorem drop_min (s : ByteArray) (m : Nat) : s.extract (min (m + 1) s.size) s.size = bs ((L s).drop (m + 1)) := by
  rw [ext_drop]
  by_cases h : m + 1 ≤ s.size
  · rw [Nat.min_eq_left h]
  · rw [Nat.min_eq_right (by omega), List.drop_of_length_le (by rw [L_len]; exact Nat.le_refl _), List.drop_of_length_le (by rw [L_len]; omega)]
theorem wr_less (s : ByteArray) (hs : s.size ≤ 1000000000) : wrap64 ((s.size : Int) - 1) = (s.size : Int) - 1 := by unfold wrap64; omega
theorem rn_term (s : ByteArray) (hs : s.size ≤ 1000000000) (m n : Nat) (hn : n ≤ 1000000000) (hm : m = s.size ∨ (m < s.size ∧ (L s)[m]? = some 47)) (r : Bool)
    (hr : (okP n (bs ((L s).take m)) = true ∧ m + 1 ≠ s.size ∧ Ev (fun k => r09_Named.l0 k ((n + 1 : Nat) : Int) (bs ((L s).drop (m + 1)))) r) ∨ ((okP n (bs ((L s).take m)) = false ∨ m + 1 = s.size) ∧ r = false)) :
    Ev (fun k => r09_Named.l1 k (n : Int) s (m : Int)) r := by
  have hmle : m ≤ s.size := by omega
  have hmn := mn_end m s hmle hs
  have hwl := wr_less s hs
  have hwn : wrap64 ((n : Int) + 1) = ((n + 1 : Nat) : Int) := by rw [w64 _ (by omega) (by omega)]; omega
  have c1 : (0 : Int) ≤ ((min (m + 1) s.size : Nat) : Int) := by omega
  have c2 : ((min (m + 1) s.size : Nat) : Int) ≤ (s.size : Int) := by omega
  have c3 : (m : Int) ≤ (s.size : Int) := by omega
  have c4 : (0 : Int) ≤ (m : Int) := by omega
  have key : ∀ k, r09_Named.l1 (k + 1) (n : Int) s (m : Int) =
      (if (n : Int) = 0 then (if (bs ((L s).take m)).toList = ([104, 101, 97, 100, 115] : List UInt8) ∨ (bs ((L s).take m)).toList = ([116, 97, 103, 115] : List UInt8) then (if (m : Int) = (s.size : Int) - 1 then some false else r09_Named.l0 k ((n + 1 : Nat) : Int) (bs ((L s).drop (m + 1)))) else some false)
       else (r09_part.f k (bs ((L s).take m))).bind fun t => if t = true then (if (m : Int) = (s.size : Int) - 1 then some false else r09_Named.l0 k ((n + 1 : Nat) : Int) (bs ((L s).drop (m + 1)))) else some false) := by
    intro k
    simp only [r09_Named.l1]
    simp only [hmn, hwl, hwn, if_pos c1, if_pos c2, if_pos c3, if_pos c4, Int.toNat_natCast, ext_take, drop_min]
    rcases hm with rfl | ⟨h1, h2⟩
    · rw [if_neg (by omega)]
      by_cases h0 : (n : Int) = 0
      · rw [if_pos h0, if_pos h0, if_neg (show ¬ (n : Int) > 0 by omega)]
        by_cases ha : (bs (List.take s.size (L s))).toList = [104, 101, 97, 100, 115]
        · rw [if_pos ha, if_pos (Or.inl ha)]
        · rw [if_neg ha]
          by_cases hb : (bs (List.take s.size (L s))).toList = [116, 97, 103, 115]
          · rw [if_pos hb, if_pos (Or.inr hb)]
          · rw [if_neg hb, if_neg (fun h => Or.elim h ha hb)]
      · rw [if_neg h0, if_neg h0, if_pos (by omega)]
    · rw [if_pos (by omega), bt_get h2 _ rfl, if_pos (show ((47 : UInt8).toNat : Int) = 47 from rfl)]
      by_cases h0 : (n : Int) = 0
      · rw [if_pos h0, if_pos h0, if_neg (show ¬ (n : Int) > 0 by omega)]
        by_cases ha : (bs (List.take m (L s))).toList = [104, 101, 97, 100, 115]
        · rw [if_pos ha, if_pos (Or.inl ha)]
        · rw [if_neg ha]
          by_cases hb : (bs (List.take m (L s))).toList = [116, 97, 103, 115]
          · rw [if_pos hb, if_pos (Or.inr hb)]
          · rw [if_neg hb, if_neg (fun h => Or.elim h ha hb)]
      · rw [if_neg h0, if_neg h0, if_pos (by omega)]
  have fin : ∀ t : Bool, t = okP n (bs ((L s).take m)) → Ev (fun k => if t = true then (if (m : Int) = (s.size : Int) - 1 then some false else r09_Named.l0 k ((n + 1 : Nat) : Int) (bs ((L s).drop (m + 1)))) else some false) r := by
    rintro t rfl
    rcases hr with ⟨h1, h2, h3⟩ | ⟨h1, rfl⟩
    · exact Ev.congr (fun k => by rw [if_pos h1, if_neg (by omega)]) h3
    · refine Ev.congr (f := fun _ => some false) (fun k => ?_) (Ev.now _)
      rcases h1 with h1 | h1
      · rw [h1]; rfl
      · split
        · rw [if_pos (by omega)]
        · rfl
  refine Ev.step key ?_
  by_cases h0 : n = 0
  · subst h0
    refine Ev.congr (fun k => if_pos rfl) ?_
    have hh : ((bs ((L s).take m)).toList = ([104, 101, 97, 100, 115] : List UInt8) ∨ (bs ((L s).take m)).toList = ([116, 97, 103, 115] : List UInt8)) ↔ okP 0 (bs ((L s).take m)) = true := by
      rw [okP0, ← toL_inj _ heads, ← toL_inj _ tags, toL heads, toL tags]; rfl
    refine Ev.congr (fun k => ?_) (fin _ rfl)
    by_cases hp : okP 0 (bs ((L s).take m)) = true
    · rw [if_pos (hh.2 hp), if_pos hp]
    · rw [if_neg (fun h => hp (hh.1 h)), if_neg hp]
  · refine Ev.congr (fun k => if_neg (by omega)) (Ev.bind (rpart_ev _ ?_) (fin _ (okPn (by omega)).symm))
    rw [bs_size, List.length_take, L_len]; omega
theorem rn_scan (s : ByteArray) (hs : s.size ≤ 1000000000) (n : Int) (m : Nat) (hm : m ≤ s.size) (hno : ∀ i u, i < m → (L s)[i]? = some u → u ≠ 47) (r : Bool) (h : Ev (fun k => r09_Named.l1 k n s (m : Int)) r) : ∀ (d j : Nat), m - j = d → j ≤ m → Ev (fun k => r09_Named.l1 k n s (j : Int)) r := by
  intro d
  induction d with
  | zero =>
    intro j hd hj
    obtain rfl : j = m := by omega
    exact h
  | succ d ih =>
    intro j hd hj
    obtain ⟨u, hu⟩ : ∃ u, (L s)[j]? = some u := ⟨_, List.getElem?_eq_getElem (by rw [L_len]; omega)⟩
    have hn : ¬ (u.toNat : Int) = 47 := by
      intro e
      refine hno j u (by omega) hu (UInt8.toNat_inj.1 ?_)
      have : (47 : UInt8).toNat = 47 := rfl
      omega
    have hw := wr1 (i := j) (n := s.size) (by omega) (by omega)
    refine Ev.step (fun k => ?_) (ih (j + 1) (by omega) (by omega))
    simp only [r09_Named.l1]
    rw [if_pos (by omega), if_pos (by omega), bt_get hu _ rfl, if_neg hn, hw]
theorem split_first (s : ByteArray) : (∃ m, m < s.size ∧ (L s)[m]? = some 47 ∧ (∀ i u, i < m → (L s)[i]? = some u → u ≠ 47) ∧ splitS 47 s = bs ((L s).take m) :: splitS 47 (bs ((L s).drop (m + 1)))) ∨
    ((∀ i u, i < s.size → (L s)[i]? = some u → u ≠ 47) ∧ splitS 47 s = [s]) := by
  by_cases h0 : (L s).count 47 = 0
  · refine .inr ⟨fun i u _ hu e => ?_, ?_⟩
    · have := List.count_eq_zero.1 h0
      exact this (e ▸ List.mem_of_getElem? hu)
    · unfold splitS
      rw [splitL_none 47 _ h0]
      show [Gl.strOf (L s)] = [s]
      rw [show Gl.strOf (L s) = s from bs_L s]
  · obtain ⟨m, h1, h2, h3, _⟩ := splitL_at 47 (L s) (Nat.pos_of_ne_zero h0)
    obtain ⟨g1, g2⟩ := cutB_some h1
    have hk : ∀ (l : List UInt8), (∀ x ∈ (cutB 47 l).1, x ≠ 47) ∧ ((cutB 47 l).2.2 = true → l = (cutB 47 l).1 ++ 47 :: (cutB 47 l).2.1) := by
      intro l
      induction l with
      | nil => simp [cutB]
      | cons b r ih =>
        rw [cutB]
        by_cases hb : b = 47
        · subst hb; simp
        · rw [if_neg hb]
          refine ⟨fun x hx => ?_, fun h => ?_⟩
          · rcases List.mem_cons.1 hx with rfl | hx
            · exact hb
            · exact ih.1 x hx
          · have := ih.2 h
            show b :: r = b :: ((cutB 47 r).1 ++ 47 :: (cutB 47 r).2.1)
            rw [← this]
    obtain ⟨k1, k2⟩ := hk (L s)
    rw [g1] at k1 k2
    have k2 := k2 rfl
    have hat : (L s)[m]? = some 47 := by
      rw [k2, List.getElem?_append_right (by rw [List.length_take]; exact Nat.min_le_left _ _), List.length_take, Nat.min_eq_left (by omega), Nat.sub_self]; rfl
    refine .inl ⟨m, by rw [← L_len]; exact h2, hat, fun i u hi hu => k1 u ?_, ?_⟩
    · exact List.mem_of_getElem? (i := i) (by rw [List.getElem?_take_of_lt hi]; exact hu)
    · unfold splitS
      rw [show s.data.toList = L s from rfl, h3, List.map_cons, show (bs ((L s).drop (m + 1))).data.toList = (L s).drop (m + 1) from L_bs _]; rfl
theorem rn_rest : ∀ (N : Nat) (s : ByteArray) (n : Nat), s.size ≤ N → s.size ≤ 1000000000 → 1 ≤ n → n + s.size ≤ 1000000000 → Ev (fun k => r09_Named.l0 k (n : Int) s) (if s.size = 0 then decide (2 ≤ n) && decide (n ≤ 4) else (splitS 47 s).all letB && (decide (2 ≤ n + (splitS 47 s).length) && decide (n + (splitS 47 s).length ≤ 4))) := by
  intro N
  induction N with
  | zero =>
    intro s n h _ h1 _
    have h0 : s.size = 0 := by omega
    rw [if_pos h0]
    refine Ev.step (f := fun k => r09_Named.j1 k (n : Int) s false) (fun k => ?_) (Ev.step (f := fun _ => some _) (fun k => ?_) (Ev.now _))
    · simp only [r09_Named.l0]
      rw [if_neg (by omega), show ((n : Int) == 0) = false from by rw [beq_eq_false_iff_ne]; omega]
    · simp only [r09_Named.j1]
      rw [if_neg (by simp)]
      by_cases h2 : 2 ≤ n
      · rw [if_pos (by omega), decide_eq_true h2, Bool.true_and]
        congr 1
        exact decide_eq_decide.2 (by omega)
      · rw [if_neg (by omega), decide_eq_false h2, Bool.false_and]
  | succ N ih =>
    intro s n h hs h1 hns
    by_cases h0 : s.size = 0
    · rw [if_pos h0]
      refine Ev.step (f := fun k => r09_Named.j1 k (n : Int) s false) (fun k => ?_) (Ev.step (f := fun _ => some _) (fun k => ?_) (Ev.now _))
      · simp only [r09_Named.l0]
        rw [if_neg (by omega), show ((n : Int) == 0) = false from by rw [beq_eq_false_iff_ne]; omega]
      · simp only [r09_Named.j1]
        rw [if_neg (by simp)]
        by_cases h2 : 2 ≤ n
        · rw [if_pos (by omega), decide_eq_true h2, Bool.true_and]
          congr 1
          exact decide_eq_decide.2 (by omega)
        · rw [if_neg (by omega), decide_eq_false h2, Bool.false_and]
    · rw [if_neg h0]
      refine Ev.step (f := fun k => r09_Named.j1 k (n : Int) s true) (fun k => ?_) (Ev.step (f := fun k => r09_Named.l1 k (n : Int) s 0) (fun k => ?_) ?_)
      · simp only [r09_Named.l0]
        rw [if_pos (by omega)]
      · simp only [r09_Named.j1]
        rw [if_pos trivial]
      rcases split_first s with ⟨m, hm, hat, hno, hsp⟩ | ⟨hno, hsp⟩
      · refine rn_scan s hs _ m (by omega) hno _ ?_ m 0 rfl (Nat.zero_le _)
        refine rn_term s hs m n (by omega) (.inr ⟨hm, hat⟩) _ ?_
        rw [hsp, List.all_cons, okPn h1]
        have hz : (bs ((L s).drop (m + 1))).size = s.size - (m + 1) := by rw [bs_size, List.length_drop, L_len]
        rcases hp : letB (bs ((L s).take m)) with _ | _
        · exact .inr ⟨.inl rfl, rfl⟩
        · by_cases he : m + 1 = s.size
          · refine .inr ⟨.inr he, ?_⟩
            have : splitS 47 (bs ((L s).drop (m + 1))) = [Gl.strOf []] := by
              rw [List.drop_of_length_le (by rw [L_len]; omega)]; rfl
            rw [this]
            simp [letB_nil]
          · refine .inl ⟨rfl, he, ?_⟩
            have := ih (bs ((L s).drop (m + 1))) (n + 1) (by omega) (by omega) (by omega) (by omega)
            rw [if_neg (by omega)] at this
            rw [List.length_cons, Bool.true_and, show n + ((splitS 47 (bs ((L s).drop (m + 1)))).length + 1) = n + 1 + (splitS 47 (bs ((L s).drop (m + 1)))).length by omega]
            exact this
      · refine rn_scan s hs _ s.size (Nat.le_refl _) hno _ ?_ s.size 0 rfl (Nat.zero_le _)
        refine rn_term s hs s.size n (by omega) (.inl rfl) _ ?_
        rw [hsp, List.all_cons, List.all_nil, Bool.and_true, okPn h1, List.take_of_length_le (by rw [L_len]; exact Nat.le_refl _), bs_L]
        rcases hp : letB s with _ | _
        · exact .inr ⟨.inl rfl, rfl⟩
        · refine .inl ⟨rfl, by omega, ?_⟩
          have := ih (bs ((L s).drop (s.size + 1))) (n + 1) (by rw [bs_size, List.length_drop, L_len]; omega) (by rw [bs_size, List.length_drop, L_len]; omega) (by omega) (by rw [bs_size, List.length_drop, L_len]; omega)
          rw [if_pos (by rw [bs_size, List.length_drop, L_len]; omega)] at this
          rw [Bool.true_and]
          exact this
theorem rname_ev (s : ByteArray) : Ev (fun k => r09_Named.f k s) (nameB s) := by
  unfold r09_Named.f
  by_cases h80 : s.size ≤ 80
  · refine Ev.congr (fun k => if_neg (by omega)) ?_
    refine Ev.step (f := fun k => r09_Named.j1 k 0 s true) (fun k => ?_) (Ev.step (f := fun k => r09_Named.l1 k ((0 : Nat) : Int) s 0) (fun k => ?_) ?_)
    · simp only [r09_Named.l0]
      by_cases h0 : (s.size : Int) > 0
      · rw [if_pos h0]
      · rw [if_neg h0]; rfl
    · simp only [r09_Named.j1]
      rw [if_pos trivial]; rfl
    unfold nameB
    rw [decide_eq_true h80, Bool.true_and]
    have hs : s.size ≤ 1000000000 := by omega
    rcases split_first s with ⟨m, hm, hat, hno, hsp⟩ | ⟨hno, hsp⟩
    · refine rn_scan s hs _ m (by omega) hno _ ?_ m 0 rfl (Nat.zero_le _)
      refine rn_term s hs m 0 (by omega) (.inr ⟨hm, hat⟩) _ ?_
      rw [hsp, List.head?_cons, List.drop_succ_cons, List.drop_zero, List.length_cons]
      have hz : (bs ((L s).drop (m + 1))).size = s.size - (m + 1) := by rw [bs_size, List.length_drop, L_len]
      by_cases hp : okP 0 (bs ((L s).take m)) = true
      · have hh : (decide (some (bs ((L s).take m)) = some heads) || decide (some (bs ((L s).take m)) = some tags)) = true := by
          rw [Bool.or_eq_true, decide_eq_true_iff, decide_eq_true_iff]
          rcases okP0.1 hp with e | e
          · exact .inl (by rw [e])
          · exact .inr (by rw [e])
        rw [hh, Bool.and_true]
        by_cases he : m + 1 = s.size
        · refine .inr ⟨.inr he, ?_⟩
          have : splitS 47 (bs ((L s).drop (m + 1))) = [Gl.strOf []] := by
            rw [List.drop_of_length_le (by rw [L_len]; omega)]; rfl
          rw [this]
          simp [letB_nil]
        · refine .inl ⟨hp, he, ?_⟩
          have := rn_rest s.size (bs ((L s).drop (m + 1))) 1 (by omega) (by omega) (by omega) (by omega)
          rw [if_neg (by omega)] at this
          rw [Bool.and_comm, Nat.add_comm (splitS 47 (bs ((L s).drop (m + 1)))).length 1]
          exact this
      · have hh : (decide (some (bs ((L s).take m)) = some heads) || decide (some (bs ((L s).take m)) = some tags)) = false := by
          rw [Bool.or_eq_false_iff, decide_eq_false_iff_not, decide_eq_false_iff_not]
          exact ⟨fun e => hp (okP0.2 (.inl (Option.some.inj e))), fun e => hp (okP0.2 (.inr (Option.some.inj e)))⟩
        rw [hh, Bool.and_false, Bool.false_and]
        exact .inr ⟨.inl (by rw [← Bool.not_eq_true]; exact hp), rfl⟩
    · refine rn_scan s hs _ s.size (Nat.le_refl _) hno _ ?_ s.size 0 rfl (Nat.zero_le _)
      refine rn_term s hs s.size 0 (by omega) (.inl rfl) _ ?_
      rw [hsp]
      have : (decide (2 ≤ [s].length) && decide ([s].length ≤ 4) && (decide ([s].head? = some heads) || decide ([s].head? = some tags)) && (List.drop 1 [s]).all letB) = false := by simp
      rw [this]
      by_cases hp : okP 0 (bs ((L s).take s.size)) = true
      · refine .inl ⟨hp, by omega, ?_⟩
        have := rn_rest s.size (bs ((L s).drop (s.size + 1))) 1 (by rw [bs_size, List.length_drop, L_len]; omega) (by rw [bs_size, List.length_drop, L_len]; omega) (by omega) (by rw [bs_size, List.length_drop, L_len]; omega)
        rw [if_pos (by rw [bs_size, List.length_drop, L_len]; omega)] at this
        exact this
      · exact .inr ⟨.inl (by rw [← Bool.not_eq_true]; exact hp), rfl⟩
  · have : nameB s = false := by
      unfold nameB
      rw [decide_eq_false h80]; simp
    rw [this]
    exact Ev.congr (fun k => if_pos (by omega)) (Ev.now _)
theorem okAt_eq (l : List Ref) (i : Nat) (x : Ref) : okAt l i x = (nameB x.f0 && nmB x.f1 && (i == 0 || decide (L ((l[i - 1]?.getD noRef).f0) < L x.f0)) && !l.any (fun y => aboveB y.f0 x.f0)) := rfl
theorem rright_l1 (l : List Ref) (hl : l.length ≤ 1000000000) (i : Nat) (x : Ref) (hx : l[i]? = some x) (r : Bool) (hno : l.any (fun y => aboveB y.f0 x.f0) = true → r = false) (hyes : l.any (fun y => aboveB y.f0 x.f0) = false → Ev (fun k => r09_Right.l0 k l ((i + 1 : Nat) : Int)) r) : ∀ (d j : Nat), l.length - j = d → (∀ y ∈ l.take j, aboveB y.f0 x.f0 = false) → Ev (fun k => r09_Right.l1 k l (i : Int) (j : Int)) r := by
  have hil := (List.getElem?_eq_some_iff.1 hx).1
  have hw := wr1 (i := i) (n := l.length) hil (by omega)
  intro d
  induction d with
  | zero =>
    intro j hj ho
    rw [List.take_of_length_le (by omega)] at ho
    have : l.any (fun y => aboveB y.f0 x.f0) = false := by
      rw [← Bool.not_eq_true, List.any_eq_true]
      rintro ⟨y, hy, h⟩
      rw [ho y hy] at h; cases h
    refine Ev.step (fun k => ?_) (hyes this)
    simp only [r09_Right.l1]
    rw [if_neg (by omega), hw]
  | succ d ih =>
    intro j hj ho
    have hjl : j < l.length := by omega
    obtain ⟨y, hy⟩ : ∃ y, l[j]? = some y := ⟨_, List.getElem?_eq_getElem hjl⟩
    have hwj := wr1 hjl (by omega)
    rcases ha : aboveB y.f0 x.f0 with _ | _
    · refine Ev.step (fun k => ?_) (ih (j + 1) (by omega) (fun z hz => ?_))
      · simp only [r09_Right.l1]
        rw [if_pos (by omega), if_pos (by omega), if_pos (by omega), if_pos (by omega), rdR hy, rdR hx, rabove_eq, Option.bind_some, ha, if_neg (by simp), hwj]
      · rw [List.take_add_one, hy] at hz
        rcases List.mem_append.1 hz with hz | hz
        · exact ho z hz
        · simp at hz; rw [hz]; exact ha
    · have := hno (List.any_eq_true.2 ⟨y, List.mem_of_getElem? hy, ha⟩)
      subst this
      refine Ev.step (f := fun _ => some false) (fun k => ?_) (Ev.now _)
      simp only [r09_Right.l1]
      rw [if_pos (by omega), if_pos (by omega), if_pos (by omega), if_pos (by omega), rdR hy, rdR hx, rabove_eq, Option.bind_some, ha, if_pos rfl]
theorem rright_l0 (l : List Ref) (hl : l.length ≤ 1000000000) : ∀ (d i : Nat), l.length - i = d → (∀ j x, j < i → l[j]? = some x → okAt l j x = true) → Ev (fun k => r09_Right.l0 k l (i : Int)) (rightB l) := by
  intro d
  induction d with
  | zero =>
    intro i hi hok
    rw [rightB_true (fun j x hx => hok j x (by have := (List.getElem?_eq_some_iff.1 hx).1; omega) hx)]
    refine Ev.step (f := fun _ => some _) (fun k => ?_) (Ev.now _)
    simp only [r09_Right.l0]
    rw [if_neg (by omega)]
    congr 1
    exact decide_eq_decide.2 (by omega)
  | succ d ih =>
    intro i hi hok
    have hil : i < l.length := by omega
    obtain ⟨x, hx⟩ : ∃ x, l[i]? = some x := ⟨_, List.getElem?_eq_getElem hil⟩
    have hbad : okAt l i x = false → rightB l = false := rightB_false hx
    have hgo : okAt l i x = true → Ev (fun k => r09_Right.l0 k l ((i + 1 : Nat) : Int)) (rightB l) := fun h => ih (i + 1) (by omega) (fun j y hj hy => by
      rcases Nat.lt_succ_iff_lt_or_eq.1 hj with hj | rfl
      · exact hok j y hj hy
      · rw [hx] at hy; cases hy; exact h)
    rw [okAt_eq] at hbad hgo
    have hjt : Ev (fun k => r09_Right.j1 k l (i : Int) true) false := Ev.step (f := fun _ => some false) (fun k => by simp [r09_Right.j1]) (Ev.now _)
    refine Ev.step (f := fun k => (r09_Named.f k x.f0).bind fun t108 => if t108 = true then (r02_Named.f k x.f1).bind fun t110 => (if t110 = true then (if (i : Int) > 0 then r09_Right.j1 k l (i : Int) (!(Op.bytesLess ((l[i - 1]?.getD noRef).f0).toList (x.f0).toList)) else r09_Right.j1 k l (i : Int) false) else r09_Right.j1 k l (i : Int) true) else r09_Right.j1 k l (i : Int) true) (fun k => ?_) (Ev.bind (rname_ev x.f0) ?_)
    · simp only [r09_Right.l0]
      rw [if_pos (by omega), if_pos (by omega), rdR hx]
      by_cases h0 : (i : Int) > 0
      · have e1 : wrap64 ((i : Int) - 1) = ((i - 1 : Nat) : Int) := by rw [w64 _ (by omega) (by omega)]; omega
        obtain ⟨y, hy⟩ : ∃ y, l[i - 1]? = some y := ⟨_, List.getElem?_eq_getElem (by omega)⟩
        have c1 : (0 : Int) ≤ ((i - 1 : Nat) : Int) := by omega
        have c2 : ((i - 1 : Nat) : Int) < (l.length : Int) := by omega
        simp only [if_pos h0, e1, if_pos c1, if_pos c2, rdR hy, hy, Option.getD_some]
      · simp only [if_neg h0]
    rcases hn : nameB x.f0 with _ | _
    · rw [hbad (by rw [hn]; rfl)]
      exact Ev.congr (fun k => if_neg (by simp)) hjt
    refine Ev.congr (fun k => if_pos rfl) (Ev.bind (rdig_ev x.f1) ?_)
    rcases hm : nmB x.f1 with _ | _
    · rw [hbad (by rw [hn, hm]; rfl)]
      exact Ev.congr (fun k => if_neg (by simp)) hjt
    refine Ev.congr (fun k => if_pos rfl) ?_
    have hlt : Op.bytesLess ((l[i - 1]?.getD noRef).f0).toList (x.f0).toList = decide (L ((l[i - 1]?.getD noRef).f0) < L x.f0) := by
      rw [toL, toL, bytesLess_eq]
    have hend : (i == 0 || decide (L ((l[i - 1]?.getD noRef).f0) < L x.f0)) = true → Ev (fun k => r09_Right.j1 k l (i : Int) false) (rightB l) := fun h => by
      rw [hn, hm, h] at hbad hgo
      refine Ev.step (f := fun k => r09_Right.l1 k l (i : Int) ((0 : Nat) : Int)) (fun k => ?_) (rright_l1 l hl i x hx _ (fun h => hbad (by rw [h]; rfl)) (fun h => hgo (by rw [h]; rfl)) _ 0 rfl (fun y hy => by simp at hy))
      simp only [r09_Right.j1]
      rw [if_neg (by simp)]; rfl
    by_cases h0 : (i : Int) > 0
    · refine Ev.congr (fun k => if_pos h0) ?_
      rw [hlt]
      rcases hd : decide (L ((l[i - 1]?.getD noRef).f0) < L x.f0) with _ | _
      · rw [hbad (by rw [hd, show (i == 0) = false from by rw [beq_eq_false_iff_ne]; omega]; simp)]
        exact hjt
      · exact hend (by rw [hd, Bool.or_true])
    · refine Ev.congr (fun k => if_neg h0) (hend ?_)
      rw [show (i == 0) = true from by rw [beq_iff_eq]; omega, Bool.true_or]
theorem rright_ev (l : List Ref) (hl : l.length ≤ 1000000000) : Ev (fun k => r09_Right.f k l) (rightB l) := rright_l0 l hl _ 0 rfl (fun j x hj => by omega)
end Go.Proofs.YtacgchklilfcaaaGreatDoor.Rf
