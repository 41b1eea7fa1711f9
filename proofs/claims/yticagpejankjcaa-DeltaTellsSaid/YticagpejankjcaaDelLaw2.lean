/- Deltas in plain arithmetic: what Make makes is applied to the text. No condition but what each lemma says. -/
import Derived.Test.YticagpejankjcaaDelLaw
namespace Go.Proofs.Yticagpejankjcaa.Db
set_option linter.unusedVariables false
set_option linter.unusedSimpArgs false
open Go.RowKit Go.Proofs.YticagpejankjcaaW.PrintWords Go.Proofs.YticagpejankjcaaW.PrintLast Go.Proofs.YticagpejankjcaaW.PrintMore

theorem alikeN_take : ∀ (a b : List Int), a.take (alikeN a b) = b.take (alikeN a b)
  | [], b => by simp [alikeN]
  | _ :: _, [] => by simp [alikeN]
  | x :: r, y :: s => by
    rw [alikeN]
    by_cases h : x = y
    · rw [if_pos h, List.take_succ_cons, List.take_succ_cons, alikeN_take r s, h]
    · rw [if_neg h]; rfl
theorem alikeN_pre : ∀ (a b : List Int), alikeN (a ++ b) a = a.length
  | [], b => by cases b <;> simp [alikeN]
  | x :: r, b => by rw [List.cons_append, alikeN, if_pos rfl, alikeN_pre r b, List.length_cons]
theorem bestGo_eq (base : List Int) : ∀ (l left : List Int) (i at_ most : Nat), base.drop i = l → (base.drop at_).take most = left.take most →
    (base.drop (bestGo l left i at_ most).1).take (bestGo l left i at_ most).2 = left.take (bestGo l left i at_ most).2
  | [], left, i, at_, most, _, h => by rw [bestGo]; exact h
  | c :: r, left, i, at_, most, hl, h => by
    have hr : base.drop (i + 1) = r := by rw [← List.drop_drop, hl]; rfl
    rw [bestGo]
    split
    · exact bestGo_eq base r left (i + 1) i _ hr (by rw [hl]; exact alikeN_take _ _)
    · exact bestGo_eq base r left (i + 1) at_ most hr h
theorem bestL_eq (base left : List Int) : (base.drop (bestL base left).1).take (bestL base left).2 = left.take (bestL base left).2 := bestGo_eq base base left 0 0 0 (by simp) (by simp)
theorem bestGo_ge : ∀ (l left : List Int) (i at_ most : Nat), most ≤ (bestGo l left i at_ most).2
  | [], left, i, at_, most => by rw [bestGo]; exact Nat.le_refl _
  | c :: r, left, i, at_, most => by
    rw [bestGo]
    split
    · exact Nat.le_trans (Nat.le_of_lt ‹_›) (bestGo_ge r left _ _ _)
    · exact bestGo_ge r left _ _ _
theorem bestGo_at : ∀ (l left : List Int) (i at_ most j : Nat), j < l.length → alikeN (l.drop j) left ≤ (bestGo l left i at_ most).2
  | [], left, i, at_, most, j, h => by simp at h
  | c :: r, left, i, at_, most, 0, h => by
    rw [bestGo, List.drop_zero]
    split
    · exact bestGo_ge r left _ _ _
    · exact Nat.le_trans (by omega) (bestGo_ge r left _ _ _)
  | c :: r, left, i, at_, most, j + 1, h => by
    rw [List.length_cons] at h
    rw [bestGo, List.drop_succ_cons]
    split
    · exact bestGo_at r left _ _ _ j (by omega)
    · exact bestGo_at r left _ _ _ j (by omega)
theorem bestGo_stay : ∀ (l left : List Int) (i at_ most : Nat), left.length ≤ most → bestGo l left i at_ most = (at_, most)
  | [], left, i, at_, most, h => by rw [bestGo]
  | c :: r, left, i, at_, most, h => by
    have := (alikeN_le (c :: r) left).2
    rw [bestGo, if_neg (by omega)]
    exact bestGo_stay r left _ _ _ h
theorem bestL_self (s : List Int) : bestL s s = (0, s.length) := by
  cases s with
  | nil => rfl
  | cons c r =>
    have e : alikeN (c :: r) (c :: r) = (c :: r).length := by have := alikeN_pre (c :: r) []; rwa [List.append_nil] at this
    rw [bestL, bestGo, e, if_pos (by simp)]
    exact bestGo_stay r (c :: r) _ _ _ (Nat.le_refl _)
theorem bestL_in (a t b : List Int) (h : t ≠ []) : (bestL (a ++ t ++ b) t).2 = t.length := by
  have hp : 0 < t.length := List.length_pos_iff.2 h
  have h1 := bestGo_at (a ++ t ++ b) t 0 0 0 a.length (by rw [List.length_append, List.length_append]; omega)
  have e : (a ++ t ++ b).drop a.length = t ++ b := by rw [List.append_assoc, List.drop_append_of_le_length (Nat.le_refl _), List.drop_length, List.nil_append]
  rw [e, alikeN_pre] at h1
  exact Nat.le_antisymm (bestL_le _ _).2 h1
theorem bestL_nil (s : List Int) : bestL [] s = (0, 0) := by rw [bestL, bestGo]
theorem mkGo_acc (base text : List Int) : ∀ (f i off : Nat) (acc : List Int), mkGo base text f i off acc = acc ++ mkGo base text f i off []
  | 0, _, _, acc => by rw [mkGo, mkGo, List.append_nil]
  | f + 1, i, off, acc => by
    rw [mkGo, mkGo]
    split
    · rw [List.nil_append]
    · split
      · exact mkGo_acc base text f _ _ acc
      · rw [mkGo_acc base text f _ _ (acc ++ _ ++ _), mkGo_acc base text f _ _ ([] ++ _ ++ _), List.nil_append]
        simp only [List.append_assoc]
theorem mkGo_runs (base text : ByteArray) (hb : base.size ≤ 1099511627776) : ∀ (f i off : Nat), off ≤ i → i ≤ text.size → text.size - i < f →
    ∃ ps, Runs base (mkGo (bytesOf base) (bytesOf text) f i off []) ps ∧ xOf ps = (bytesOf text).drop off
  | 0, _, _, _, _, h => by omega
  | f + 1, i, off, h1, h2, h3 => by
    rw [mkGo]
    have hs := bytesOf_length text
    have h8 : ∀ (k n : Nat), ∀ x ∈ ((bytesOf text).drop k).take n, 0 ≤ x ∧ x < 256 := fun k n x hx => bytesOf_8 text x (List.mem_of_mem_drop (List.mem_of_mem_take hx))
    by_cases hi : (bytesOf text).length ≤ i
    · rw [if_pos hi, List.nil_append]
      obtain ⟨ps, k1, k2⟩ := runs_ins base (((bytesOf text).drop off).take ((bytesOf text).length - off)) (h8 _ _)
      exact ⟨ps, k1, by rw [k2, List.take_of_length_le (by rw [List.length_drop]; omega)]⟩
    · rw [if_neg hi]
      have hle := bestL_le (bytesOf base) ((bytesOf text).drop i)
      have heq := bestL_eq (bytesOf base) ((bytesOf text).drop i)
      rw [List.length_drop, bytesOf_length] at hle
      by_cases h5 : (bestL (bytesOf base) ((bytesOf text).drop i)).2 < 5
      · rw [if_pos h5]
        exact mkGo_runs base text hb f (i + 1) off (by omega) (by omega) (by omega)
      · rw [if_neg h5, mkGo_acc, List.nil_append]
        obtain ⟨ps, k1, k2⟩ := runs_ins base (((bytesOf text).drop off).take (i - off)) (h8 _ _)
        obtain ⟨qs, m1, m2⟩ := runs_copy base (bestL (bytesOf base) ((bytesOf text).drop i)).1 (bestL (bytesOf base) ((bytesOf text).drop i)).2 (by omega) (by omega) hb
        obtain ⟨rs, n1, n2⟩ := mkGo_runs base text hb f (i + (bestL (bytesOf base) ((bytesOf text).drop i)).2) (i + (bestL (bytesOf base) ((bytesOf text).drop i)).2) (Nat.le_refl _) (by omega) (by omega)
        refine ⟨_, (k1.both m1).both n1, ?_⟩
        rw [xOf_app, xOf_app, k2, m2, n2, heq, List.append_assoc, ← List.drop_drop, List.take_append_drop, show i = off + (i - off) by omega, ← List.drop_drop, show off + (i - off) - off = i - off by omega, List.take_append_drop]
/-- What Make makes: two lengths, and steps that say the text. -/
theorem mkL_form (base text : ByteArray) (hb : base.size ≤ 1099511627776) : ∃ B ps, mkL (bytesOf base) (bytesOf text) = putL base.size ++ (putL text.size ++ B) ∧ Runs base B ps ∧ xOf ps = bytesOf text := by
  obtain ⟨ps, h1, h2⟩ := mkGo_runs base text hb ((bytesOf text).length + 1) 0 0 (Nat.le_refl _) (Nat.zero_le _) (by rw [bytesOf_length]; omega)
  refine ⟨_, ps, ?_, h1, by rw [h2, List.drop_zero]⟩
  rw [mkL, mkGo_acc, List.append_assoc, bytesOf_length, bytesOf_length]
theorem mkL_mem (base text : ByteArray) (hb : base.size ≤ 1099511627776) : ∃ B ps, mkL (bytesOf base) (bytesOf text) = putL base.size ++ (putL text.size ++ B) ∧ Runs base B ps ∧ xOf ps = bytesOf text ∧ ∀ x ∈ B, 0 ≤ x ∧ x < 256 := by
  obtain ⟨B, ps, h1, h2, h3⟩ := mkL_form base text hb
  refine ⟨B, ps, h1, h2, h3, fun x hx => mkL_8 base text x ?_⟩
  rw [h1]
  exact List.mem_append_right _ (List.mem_append_right _ hx)
theorem str_of_x (ps : List ByteArray) (t : ByteArray) (h : xOf ps = bytesOf t) : (⟨(sumL ps).toArray⟩ : ByteArray) = t := (str_inj _ _).2 (by rw [bytesOf_sumL, h])
theorem apply_none (base : ByteArray) (L : List Int) (h : getR L 0 0 = none) : applyR base L = none := by
  rw [applyR, if_neg (fun k => by rw [h] at k; cases k.1)]
theorem apply_none2 (base : ByteArray) (L : List Int) (z : Int) (k : Nat) (h : getR L 0 0 = some (z, k)) (h2 : getR (L.drop k) 0 0 = none) : applyR base L = none := by
  rw [applyR, if_neg (fun k => by rw [h, leftL, h2] at k; cases k.2.1)]
/-- What is made is applied to the text. -/
theorem back_make (base text : ByteArray) (hb : base.size ≤ 1099511627776) (ht : text.size ≤ 1099511627776) : ∃ xs : List UInt8, applyR base (mkL (bytesOf base) (bytesOf text)) = some xs ∧ (⟨xs.toArray⟩ : ByteArray) = text := by
  obtain ⟨B, ps, h1, h2, h3⟩ := mkL_form base text hb
  refine ⟨_, ?_, str_of_x ps text h3⟩
  rw [h1, apply_put base _ _ B (by omega) (by omega), h2.stp, if_pos ⟨rfl, rfl, by rw [sumL_len, h3, bytesOf_length]⟩]
theorem back_cut (base text : ByteArray) (j : Nat) (hb : base.size ≤ 1099511627776) (ht : text.size ≤ 1099511627776) (hj : j < (mkL (bytesOf base) (bytesOf text)).length) : applyR base ((mkL (bytesOf base) (bytesOf text)).take j) = none := by
  obtain ⟨B, ps, h1, h2, h3, h8⟩ := mkL_mem base text hb
  rw [h1] at hj ⊢
  rw [List.length_append, List.length_append] at hj
  by_cases c1 : j < (putL (base.size : Int)).length
  · exact apply_none _ _ (by rw [List.take_append_of_le_length (Nat.le_of_lt c1)]; exact cut_putL _ _ c1)
  · obtain ⟨j1, rfl⟩ : ∃ j1, j = (putL (base.size : Int)).length + j1 := ⟨j - (putL (base.size : Int)).length, by omega⟩
    rw [List.take_append, List.take_of_length_le (by omega), Nat.add_sub_cancel_left]
    by_cases c2 : j1 < (putL (text.size : Int)).length
    · refine apply_none2 _ _ _ _ (get_putL _ _ (by omega) (by omega)) ?_
      rw [List.drop_append_of_le_length (Nat.le_refl _), List.drop_length, List.nil_append, List.take_append_of_le_length (Nat.le_of_lt c2)]
      exact cut_putL _ _ c2
    · obtain ⟨j2, rfl⟩ : ∃ j2, j1 = (putL (text.size : Int)).length + j2 := ⟨j1 - (putL (text.size : Int)).length, by omega⟩
      rw [List.take_append, List.take_of_length_le (by omega), Nat.add_sub_cancel_left, apply_put base _ _ _ (by omega) (by omega)]
      refine if_neg fun h => ?_
      have hr := runs_stp h.1
      have ha := hr.app (B.drop j2)
      rw [List.take_append_drop, h2.stp] at ha
      have e1 := congrArg Prod.fst ha
      have e2 := congrArg Prod.snd ha
      simp only at e1 e2
      have hq := runs_stp e2.symm
      have hp := hq.pos (fun x hx => h8 x (List.mem_of_mem_drop hx)) (fun e => by
        have := congrArg List.length e
        rw [List.length_drop, List.length_nil] at this; omega)
      have h4 := h.2.2
      rw [sumL_len] at h4
      have h5 := congrArg (fun l => (xOf l).length) e1
      simp only [xOf_app, List.length_append, h3, bytesOf_length] at h5
      omega
theorem back_more (base text : ByteArray) (x : Int) (hx : 0 ≤ x ∧ x < 256) (hb : base.size ≤ 1099511627776) (ht : text.size ≤ 1099511627776) : applyR base (mkL (bytesOf base) (bytesOf text) ++ [x]) = none := by
  obtain ⟨B, ps, h1, h2, h3, h8⟩ := mkL_mem base text hb
  rw [h1, List.append_assoc, List.append_assoc, apply_put base _ _ _ (by omega) (by omega)]
  refine if_neg fun h => ?_
  have ha := h2.app [x]
  rw [ha] at h
  have hq := runs_stp h.1
  have hp := hq.pos (fun y hy => by rw [List.mem_singleton] at hy; rw [hy]; exact hx) (by simp)
  have h4 := h.2.2
  rw [sumL_len, xOf_app, List.length_append, h3, bytesOf_length] at h4
  omega
theorem back_other (base text other : ByteArray) (hb : base.size ≤ 1099511627776) (ht : text.size ≤ 1099511627776) (ho : other.size ≠ base.size) : applyR other (mkL (bytesOf base) (bytesOf text)) = none := by
  obtain ⟨B, ps, h1, h2, h3⟩ := mkL_form base text hb
  rw [h1, apply_put other _ _ B (by omega) (by omega)]
  exact if_neg fun h => ho (by omega)
theorem back_same (base text other : ByteArray) (hb : base.size ≤ 1099511627776) (ht : text.size ≤ 1099511627776) (ho : other.size = base.size) : ∃ xs : List UInt8, applyR other (mkL (bytesOf base) (bytesOf text)) = some xs ∧ xs.length = text.size := by
  obtain ⟨B, ps, h1, h2, h3⟩ := mkL_form base text hb
  obtain ⟨qs, k1, k2⟩ := h2.other ho
  have e : (sumL qs).length = text.size := by rw [sumL_len, k2, h3, bytesOf_length]
  refine ⟨_, ?_, e⟩
  rw [h1, apply_put other _ _ B (by omega) (by omega), k1.stp, if_pos ⟨rfl, by omega, by show ((sumL qs).length : Int) = _; omega⟩]
theorem mk_whole (base text : List Int) (h5 : 5 ≤ text.length) (hb : (bestL base text).2 = text.length) :
    mkL base text = putL base.length ++ putL text.length ++ (128 :: (putL (bestL base text).1 ++ putL text.length)) := by
  have hi0 : ins [] = [] := by rw [ins, dif_pos rfl]
  obtain ⟨f, hf⟩ : ∃ f, text.length = f + 1 := ⟨text.length - 1, by omega⟩
  rw [mkL, mkGo, if_neg (by omega), List.drop_zero, hb, if_neg (by omega), Nat.sub_self, List.take_zero, hi0, List.append_nil]
  conv => lhs; arg 3; rw [hf]
  rw [mkGo, if_pos (by omega), Nat.zero_add, Nat.sub_self, List.take_zero, hi0, List.append_nil]
theorem mk_self (s : List Int) (h5 : 5 ≤ s.length) : mkL s s = putL s.length ++ putL s.length ++ (128 :: 0 :: putL s.length) := by
  rw [mk_whole s s h5 (by rw [bestL_self]), bestL_self]
  rfl
theorem mkGo_none (text : List Int) : ∀ (f i : Nat) (acc : List Int), text.length - i < f → mkGo [] text f i 0 acc = acc ++ ins text
  | 0, _, _, h => by omega
  | f + 1, i, acc, h => by
    rw [mkGo]
    split
    · rw [List.drop_zero, Nat.sub_zero, List.take_of_length_le (Nat.le_refl _)]
    · rw [if_pos (by rw [bestL_nil]; decide)]
      exact mkGo_none text f (i + 1) acc (by omega)
theorem ins_length (l : List Int) : (ins l).length = l.length + (l.length + 126) / 127 := by
  induction hn : l.length using Nat.strongRecOn generalizing l with
  | _ n ih =>
    rw [ins]
    by_cases h : l = []
    · rw [dif_pos h]; subst h; rw [List.length_nil] at hn; subst hn; rfl
    · rw [dif_neg h]
      have hp : 0 < l.length := List.length_pos_iff.2 h
      have hd : (l.drop (min l.length 127)).length = l.length - min l.length 127 := List.length_drop
      have e := ih (l.drop (min l.length 127)).length (by omega) (l.drop (min l.length 127)) rfl
      rw [List.length_cons, List.length_append, List.length_take, e, hd]
      omega
theorem mk_none (text : List Int) : (mkL [] text).length = 1 + (putL text.length).length + text.length + (text.length + 126) / 127 := by
  rw [mkL, mkGo_none _ _ _ _ (by omega), List.length_append, List.length_append, ins_length]
  have : (putL (([] : List Int).length : Int)).length = 1 := rfl
  omega
theorem putL_two (n : Nat) (h : n < 16384) : (putL (n : Int)).length ≤ 2 := by
  rw [putL_good _ (by omega) (by omega), Int.toNat_natCast, putN]
  split
  · simp
  · rw [putN, if_pos (by omega)]; simp
theorem mkGo_len (base text : List Int) (hb : base.length < 16384) (ht : text.length < 16384) : ∀ (f i off : Nat) (acc : List Int), off ≤ i → i ≤ text.length → (mkGo base text f i off acc).length ≤ acc.length + 2 * (text.length - off)
  | 0, i, off, acc, _, _ => by rw [mkGo]; omega
  | f + 1, i, off, acc, h1, h2 => by
    rw [mkGo]
    split
    · have := ins_len ((text.drop off).take (text.length - off))
      rw [List.length_take, List.length_drop] at this
      rw [List.length_append]; omega
    · have hle := bestL_le base (text.drop i)
      rw [List.length_drop] at hle
      split
      · exact mkGo_len base text hb ht f (i + 1) off acc (by omega) (by omega)
      · have h := mkGo_len base text hb ht f (i + (bestL base (text.drop i)).2) (i + (bestL base (text.drop i)).2)
          (acc ++ ins ((text.drop off).take (i - off)) ++ (128 :: (putL (bestL base (text.drop i)).1 ++ putL (bestL base (text.drop i)).2))) (Nat.le_refl _) (by omega)
        refine Nat.le_trans h ?_
        have k1 := putL_two (bestL base (text.drop i)).1 (by omega)
        have k2 := putL_two (bestL base (text.drop i)).2 (by omega)
        have k3 := ins_len ((text.drop off).take (i - off))
        rw [List.length_take, List.length_drop] at k3
        rw [List.length_append, List.length_append, List.length_cons, List.length_append]
        omega
theorem mk_len (base text : List Int) (hb : base.length < 16384) (ht : text.length < 16384) : (mkL base text).length ≤ 4 + 2 * text.length := by
  have h := mkGo_len base text hb ht (text.length + 1) 0 0 (putL base.length ++ putL text.length) (Nat.le_refl _) (Nat.zero_le _)
  have k1 := putL_two base.length hb
  have k2 := putL_two text.length ht
  rw [List.length_append] at h
  rw [mkL]; omega
theorem mk_short (a t b : List Int) (ha : a.length ≤ 4000) (ht : t.length ≤ 4000) (hb : b.length ≤ 4000) (h5 : 5 ≤ t.length) : (mkL (a ++ t ++ b) t).length ≤ 9 := by
  have hn : t ≠ [] := fun e => by rw [e, List.length_nil] at h5; omega
  have hl : (a ++ t ++ b).length < 16384 := by rw [List.length_append, List.length_append]; omega
  have h2 := bestL_in a t b hn
  have hle := bestL_le (a ++ t ++ b) t
  generalize a ++ t ++ b = X at hl h2 hle ⊢
  rw [mk_whole _ t h5 h2, List.length_append, List.length_append, List.length_cons, List.length_append]
  have k1 := putL_two X.length hl
  have k2 := putL_two t.length (by omega)
  have k3 := putL_two (bestL X t).1 (by omega)
  omega
/-- Steps that are an insert and a copy. -/
theorem steps_do (base text : ByteArray) (k m : Nat) (hb : base.size ≤ 1099511627000) (h0 : 0 < text.size) (h127 : text.size ≤ 127) (hm : 1 ≤ m) (hk : k + m ≤ base.size) :
    ∃ xs : List UInt8, applyR base (putL base.size ++ (putL (text.size + m : Nat) ++ ((text.size : Int) :: (bytesOf text ++ (128 :: (putL k ++ putL m)))))) = some xs ∧ (⟨xs.toArray⟩ : ByteArray) = text ++ base.extract k (k + m) := by
  obtain ⟨qs, m1, m2⟩ := runs_copy base k m hm hk (by omega)
  have hl := bytesOf_length text
  have e : ((text.size : Int)).toNat = (bytesOf text).length := by omega
  have g : Runs base ((text.size : Int) :: (bytesOf text ++ (128 :: (putL k ++ putL m)))) (strOfNums ((bytesOf text ++ (128 :: (putL k ++ putL m))).take ((text.size : Int)).toNat) :: qs) :=
    .ins _ _ qs (by omega) (by rw [List.length_append]; omega) (by rw [e, List.drop_append_of_le_length (Nat.le_refl _), List.drop_length, List.nil_append]; exact m1)
  rw [e, List.take_append_of_le_length (Nat.le_refl _), List.take_length] at g
  have hx : xOf (strOfNums (bytesOf text) :: qs) = bytesOf (text ++ base.extract k (k + m)) := by
    rw [xOf, List.flatMap_cons, bytesOf_str _ (bytesOf_8 text), bytesOf_append]
    show _ ++ xOf qs = _
    rw [m2, bytesOf_ext, Nat.add_sub_cancel_left]
  refine ⟨_, ?_, str_of_x _ _ hx⟩
  have hlen : ((sumL (strOfNums (bytesOf text) :: qs)).length : Int) = (text.size + m : Nat) := by
    rw [sumL_len, hx, bytesOf_length, ByteArray.size_append]
    have : (base.extract k (k + m)).size = min (k + m) base.size - k := ByteArray.size_extract
    omega
  rw [apply_put base _ _ _ (by omega) (by omega), g.stp, if_pos ⟨rfl, rfl, hlen⟩]
theorem stp_bad (base : ByteArray) (r : List Int) (at_ n : Int) (k j : Nat) (h1 : getR r 0 0 = some (at_, k)) (h2 : getR (r.drop k) 0 0 = some (n, j)) (h3 : n < 1 ∨ base.size < at_ ∨ base.size - at_ < n) : stp base (128 :: r) = ([], false) := by
  rw [stp, List.length_cons, runS, if_pos rfl, h1]
  simp only
  rw [h2]
  simp only
  rw [if_pos h3]
theorem steps_not (base text : ByteArray) (k m : Nat) (hb : base.size ≤ 1099511627776) (hk1 : k ≤ 1099511627776) (hm1 : m ≤ 1099511627776) (h0 : 0 < text.size) (h127 : text.size ≤ 127) (h : ¬ (1 ≤ m ∧ k + m ≤ base.size)) (ht : text.size + m ≤ 1099511627776) :
    applyR base (putL base.size ++ (putL (text.size + m : Nat) ++ ((text.size : Int) :: (bytesOf text ++ (128 :: (putL k ++ putL m)))))) = none := by
  have hl := bytesOf_length text
  have e : ((text.size : Int)).toNat = (bytesOf text).length := by omega
  have g1 := get_putL (k : Int) (putL m) (by omega) (by omega)
  have g2 := get_putL (m : Int) [] (by omega) (by omega)
  rw [List.append_nil] at g2
  have e1 : (putL (k : Int) ++ putL (m : Int)).drop (putL (k : Int)).length = putL (m : Int) := by simp
  rw [apply_put base _ _ _ (by omega) (by omega), stp_ins base _ _ (by omega) (by rw [List.length_append]; omega), e, List.drop_append_of_le_length (Nat.le_refl _), List.drop_length, List.nil_append,
    stp_bad base _ _ _ _ _ g1 (by rw [e1]; exact g2) (by omega)]
  exact if_neg fun h => by cases h.1
end Go.Proofs.Yticagpejankjcaa.Db
