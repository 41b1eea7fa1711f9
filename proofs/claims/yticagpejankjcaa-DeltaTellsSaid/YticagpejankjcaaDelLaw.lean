/- Deltas in plain arithmetic: what steps say, put together and cut. No condition but what each lemma says. -/
import Derived.Test.YticagpejankjcaaDelApply
import Derived.Test.YticagpejankjcaaDelMakeW
namespace Go.Proofs.Yticagpejankjcaa.Db
set_option linter.unusedVariables false
set_option linter.unusedSimpArgs false
open Go.RowKit Go.Proofs.YticagpejankjcaaW.PrintWords Go.Proofs.YticagpejankjcaaW.PrintLast Go.Proofs.YticagpejankjcaaW.PrintMore

theorem getR_app : ∀ (l more : List Int) (i : Nat) (n : Int) (r : Int × Nat), getR l i n = some r → getR (l ++ more) i n = some r
  | [], _, _, _, _, h => by cases h
  | b :: l, more, i, n, r, h => by
    rw [getR] at h
    rw [List.cons_append, getR]
    by_cases h1 : i = 6
    · rw [if_pos h1] at h; cases h
    · rw [if_neg h1] at h ⊢
      by_cases h2 : 128 ≤ b
      · rw [if_pos h2] at h ⊢
        exact getR_app l more _ _ r h
      · rw [if_neg h2] at h ⊢
        exact h
theorem getR_le : ∀ (l : List Int) (i : Nat) (n z : Int) (k : Nat), getR l i n = some (z, k) → i < k ∧ k ≤ i + l.length
  | [], _, _, _, _, h => by cases h
  | b :: l, i, n, z, k, h => by
    rw [getR] at h
    rw [List.length_cons]
    by_cases h1 : i = 6
    · rw [if_pos h1] at h; cases h
    · rw [if_neg h1] at h
      by_cases h2 : 128 ≤ b
      · rw [if_pos h2] at h
        have := getR_le l _ _ z k h
        omega
      · rw [if_neg h2] at h
        by_cases h3 : i = 0 ∨ 0 < b
        · rw [if_pos h3] at h
          by_cases h4 : n + b % 128 * 2 ^ (7 * i) ≤ 1099511627776
          · rw [if_pos h4] at h
            have e := congrArg Prod.snd (Option.some.inj h)
            simp only at e
            omega
          · rw [if_neg h4] at h; cases h
        · rw [if_neg h3] at h; cases h
theorem getR_nn : ∀ (l : List Int) (i : Nat) (n z : Int) (k : Nat), 0 ≤ n → getR l i n = some (z, k) → 0 ≤ z
  | [], _, _, _, _, _, h => by cases h
  | b :: l, i, n, z, k, hn, h => by
    have hp : 0 ≤ b % 128 * 2 ^ (7 * i) := Int.mul_nonneg (by omega) (Int.pow_nonneg (by decide))
    rw [getR] at h
    by_cases h1 : i = 6
    · rw [if_pos h1] at h; cases h
    · rw [if_neg h1] at h
      by_cases h2 : 128 ≤ b
      · rw [if_pos h2] at h
        exact getR_nn l _ _ z k (by omega) h
      · rw [if_neg h2] at h
        by_cases h3 : i = 0 ∨ 0 < b
        · rw [if_pos h3] at h
          by_cases h4 : n + b % 128 * 2 ^ (7 * i) ≤ 1099511627776
          · rw [if_pos h4] at h
            have e := congrArg Prod.fst (Option.some.inj h)
            simp only at e
            omega
          · rw [if_neg h4] at h; cases h
        · rw [if_neg h3] at h; cases h
theorem drop_app (l more : List Int) (k : Nat) (h : k ≤ l.length) : (l ++ more).drop k = l.drop k ++ more := List.drop_append_of_le_length h

theorem runS_fuel (base : ByteArray) : ∀ (f g : Nat) (L : List Int), L.length < f → L.length < g → runS base f L = runS base g L
  | 0, _, _, h, _ => by omega
  | _ + 1, 0, _, _, h => by omega
  | f + 1, g + 1, [], _, _ => by rw [runS, runS]
  | f + 1, g + 1, c :: r, h, h' => by
    rw [List.length_cons] at h h'
    rw [runS, runS]
    by_cases hc : c = 128
    · rw [if_pos hc, if_pos hc]
      rcases getR r 0 0 with _ | ⟨at_, k⟩
      · rfl
      · simp only
        rcases getR (r.drop k) 0 0 with _ | ⟨n, j⟩
        · rfl
        · simp only
          rw [runS_fuel base f g ((r.drop k).drop j) (by simp; omega) (by simp; omega)]
    · rw [if_neg hc, if_neg hc, runS_fuel base f g (r.drop c.toNat) (by simp; omega) (by simp; omega)]
/-- The pieces that steps say, and whether they may be. -/
def stp (base : ByteArray) (L : List Int) : List ByteArray × Bool := runS base (L.length + 1) L
theorem stp_nil (base : ByteArray) : stp base [] = ([], true) := by rw [stp, List.length_nil, runS]
theorem stp_copy (base : ByteArray) (r : List Int) (at_ n : Int) (k j : Nat) (h1 : getR r 0 0 = some (at_, k)) (h2 : getR (r.drop k) 0 0 = some (n, j)) (h3 : ¬ (n < 1 ∨ base.size < at_ ∨ base.size - at_ < n)) :
    stp base (128 :: r) = (base.extract at_.toNat (at_ + n).toNat :: (stp base ((r.drop k).drop j)).1, (stp base ((r.drop k).drop j)).2) := by
  rw [stp, List.length_cons, runS, if_pos rfl, h1]
  simp only
  rw [h2]
  simp only
  rw [if_neg h3, runS_fuel base (r.length + 1) (((r.drop k).drop j).length + 1) ((r.drop k).drop j) (by simp; omega) (by omega)]
  rfl
theorem stp_ins (base : ByteArray) (c : Int) (r : List Int) (h1 : c ≠ 128) (h2 : ¬ (c = 0 ∨ 128 < c ∨ r.length < c)) :
    stp base (c :: r) = (strOfNums (r.take c.toNat) :: (stp base (r.drop c.toNat)).1, (stp base (r.drop c.toNat)).2) := by
  rw [stp, List.length_cons, runS, if_neg h1, if_neg h2, runS_fuel base (r.length + 1) ((r.drop c.toNat).length + 1) (r.drop c.toNat) (by simp; omega) (by omega)]
  rfl
/-- Steps that may be. -/
inductive Runs (base : ByteArray) : List Int → List ByteArray → Prop
  | nil : Runs base [] []
  | copy (r : List Int) (at_ n : Int) (k j : Nat) (ps : List ByteArray) (h1 : getR r 0 0 = some (at_, k)) (h2 : getR (r.drop k) 0 0 = some (n, j)) (h3 : ¬ (n < 1 ∨ base.size < at_ ∨ base.size - at_ < n))
      (h : Runs base ((r.drop k).drop j) ps) : Runs base (128 :: r) (base.extract at_.toNat (at_ + n).toNat :: ps)
  | ins (c : Int) (r : List Int) (ps : List ByteArray) (h1 : c ≠ 128) (h2 : ¬ (c = 0 ∨ 128 < c ∨ r.length < c)) (h : Runs base (r.drop c.toNat) ps) : Runs base (c :: r) (strOfNums (r.take c.toNat) :: ps)
theorem Runs.stp {base : ByteArray} {L : List Int} {ps : List ByteArray} (h : Runs base L ps) : stp base L = (ps, true) := by
  induction h with
  | nil => exact stp_nil base
  | copy r at_ n k j ps h1 h2 h3 h ih => rw [stp_copy base r at_ n k j h1 h2 h3, ih]
  | ins c r ps h1 h2 h ih => rw [stp_ins base c r h1 h2, ih]
theorem runs_of (base : ByteArray) : ∀ (f : Nat) (L : List Int) (ps : List ByteArray), runS base f L = (ps, true) → Runs base L ps
  | 0, _, _, h => by rw [runS] at h; cases h
  | f + 1, [], ps, h => by rw [runS] at h; cases h; exact .nil
  | f + 1, c :: r, ps, h => by
    rw [runS] at h
    by_cases hc : c = 128
    · rw [if_pos hc] at h
      subst hc
      rcases h1 : getR r 0 0 with _ | ⟨at_, k⟩
      · rw [h1] at h; cases h
      · rw [h1] at h
        simp only at h
        rcases h2 : getR (r.drop k) 0 0 with _ | ⟨n, j⟩
        · rw [h2] at h; cases h
        · rw [h2] at h
          simp only at h
          by_cases h3 : n < 1 ∨ base.size < at_ ∨ base.size - at_ < n
          · rw [if_pos h3] at h; cases h
          · rw [if_neg h3] at h
            have e1 := congrArg Prod.fst h
            have e2 := congrArg Prod.snd h
            simp only at e1 e2
            rw [← e1]
            exact .copy r at_ n k j _ h1 h2 h3 (runs_of base f _ _ (Prod.ext rfl e2))
    · rw [if_neg hc] at h
      by_cases h3 : c = 0 ∨ 128 < c ∨ r.length < c
      · rw [if_pos h3] at h; cases h
      · rw [if_neg h3] at h
        have e1 := congrArg Prod.fst h
        have e2 := congrArg Prod.snd h
        simp only at e1 e2
        rw [← e1]
        exact .ins c r _ hc h3 (runs_of base f _ _ (Prod.ext rfl e2))
theorem runs_stp {base : ByteArray} {L : List Int} (h : (stp base L).2 = true) : Runs base L (stp base L).1 := runs_of base _ L _ (Prod.ext rfl h)
/-- What stands behind steps is read behind them. -/
theorem Runs.app {base : ByteArray} {L : List Int} {ps : List ByteArray} (h : Runs base L ps) (Q : List Int) : Db.stp base (L ++ Q) = (ps ++ (Db.stp base Q).1, (Db.stp base Q).2) := by
  induction h with
  | nil => rfl
  | copy r at_ n k j ps h1 h2 h3 h ih =>
    have l1 := getR_le _ _ _ _ _ h1
    have l2 := getR_le _ _ _ _ _ h2
    have e1 : (r ++ Q).drop k = r.drop k ++ Q := drop_app r Q k (by omega)
    have e2 : ((r ++ Q).drop k).drop j = (r.drop k).drop j ++ Q := by rw [e1, drop_app _ Q j (by omega)]
    rw [List.cons_append, stp_copy base (r ++ Q) at_ n k j (getR_app _ _ _ _ _ h1) (by rw [e1]; exact getR_app _ _ _ _ _ h2) h3, e2, ih]
    rfl
  | ins c r ps h1 h2 h ih =>
    have h2' := h2
    rw [not_or, not_or] at h2'
    have e : (r ++ Q).drop c.toNat = r.drop c.toNat ++ Q := drop_app r Q _ (by omega)
    have e2 : (r ++ Q).take c.toNat = r.take c.toNat := List.take_append_of_le_length (by omega)
    rw [List.cons_append, stp_ins base c (r ++ Q) h1 (by rw [List.length_append]; omega), e, e2, ih]
    rfl
theorem Runs.both {base : ByteArray} {L Q : List Int} {ps qs : List ByteArray} (h : Runs base L ps) (k : Runs base Q qs) : Runs base (L ++ Q) (ps ++ qs) := by
  have e := h.app Q
  rw [k.stp] at e
  exact runs_of base _ _ _ e
/-- The bytes of pieces. -/
def xOf (ps : List ByteArray) : List Int := ps.flatMap bytesOf
theorem xOf_app (a b : List ByteArray) : xOf (a ++ b) = xOf a ++ xOf b := by simp [xOf]
theorem sumL_len (ps : List ByteArray) : (sumL ps).length = (xOf ps).length := by
  induction ps with
  | nil => rfl
  | cons p ps ih => simp [sumL, xOf, bytesOf] at ih ⊢
theorem bytesOf_sumL (ps : List ByteArray) : bytesOf ⟨(sumL ps).toArray⟩ = xOf ps := by
  simp [sumL, xOf, bytesOf, List.map_flatMap]
  rfl
theorem Runs.pos {base : ByteArray} {L : List Int} {ps : List ByteArray} (h : Runs base L ps) (h8 : ∀ x ∈ L, 0 ≤ x ∧ x < 256) (hn : L ≠ []) : 0 < (xOf ps).length := by
  cases h with
  | nil => exact absurd rfl hn
  | copy r at_ n k j ps h1 h2 h3 h =>
    have a0 := getR_nn _ _ _ _ _ (by decide) h1
    rw [xOf, List.flatMap_cons, List.length_append, bytesOf_length]
    rw [not_or, not_or] at h3
    have : (base.extract at_.toNat (at_ + n).toNat).size = min (at_ + n).toNat base.size - at_.toNat := ByteArray.size_extract
    omega
  | ins c r ps h1 h2 h =>
    rw [not_or, not_or] at h2
    have := h8 c (List.mem_cons_self ..)
    rw [xOf, List.flatMap_cons, List.length_append, bytesOf_length, strOfNums_size, List.length_take]
    omega
/-- On a base of the same length the steps say as many bytes. -/
theorem Runs.other {base other : ByteArray} {L : List Int} {ps : List ByteArray} (h : Runs base L ps) (he : other.size = base.size) : ∃ qs, Runs other L qs ∧ (xOf qs).length = (xOf ps).length := by
  induction h with
  | nil => exact ⟨[], .nil, rfl⟩
  | copy r at_ n k j ps h1 h2 h3 h ih =>
    obtain ⟨qs, hq, hl⟩ := ih
    refine ⟨_, .copy r at_ n k j qs h1 h2 (by rw [he]; exact h3) hq, ?_⟩
    rw [xOf, xOf, List.flatMap_cons, List.flatMap_cons, List.length_append, List.length_append, bytesOf_length, bytesOf_length]
    have e1 : (base.extract at_.toNat (at_ + n).toNat).size = min (at_ + n).toNat base.size - at_.toNat := ByteArray.size_extract
    have e2 : (other.extract at_.toNat (at_ + n).toNat).size = min (at_ + n).toNat other.size - at_.toNat := ByteArray.size_extract
    rw [e1, e2, he]
    exact congrArg _ hl
  | ins c r ps h1 h2 h ih =>
    obtain ⟨qs, hq, hl⟩ := ih
    refine ⟨_, .ins c r qs h1 h2 hq, ?_⟩
    rw [xOf, xOf, List.flatMap_cons, List.flatMap_cons, List.length_append, List.length_append]
    exact congrArg _ hl
/-- What is put in is told as it is. -/
theorem runs_ins (base : ByteArray) (l : List Int) (h8 : ∀ x ∈ l, 0 ≤ x ∧ x < 256) : ∃ ps, Runs base (ins l) ps ∧ xOf ps = l := by
  induction hn : l.length using Nat.strongRecOn generalizing l with
  | _ n ih =>
    rw [Db.ins]
    by_cases h : l = []
    · rw [dif_pos h, h]; exact ⟨[], .nil, rfl⟩
    · rw [dif_neg h]
      have hp : 0 < l.length := List.length_pos_iff.2 h
      have hs : ((l.drop (min l.length 127)).length) < n := by rw [List.length_drop]; omega
      obtain ⟨ps, h1, h2⟩ := ih _ hs (l.drop (min l.length 127)) (fun x hx => h8 x (List.mem_of_mem_drop hx)) rfl
      have ht : (l.take (min l.length 127)).length = min l.length 127 := by rw [List.length_take]; omega
      have e : (((min l.length 127 : Nat) : Int)).toNat = (l.take (min l.length 127)).length := by omega
      have g1 := Runs.ins (base := base) ((min l.length 127 : Nat) : Int) (l.take (min l.length 127) ++ Db.ins (l.drop (min l.length 127))) ps (by omega)
        (by rw [List.length_append]; omega) (by rw [e, List.drop_append_of_le_length (Nat.le_refl _), List.drop_length, List.nil_append]; exact h1)
      refine ⟨_, g1, ?_⟩
      rw [xOf, List.flatMap_cons, e, List.take_append_of_le_length (Nat.le_refl _), List.take_length, bytesOf_str _ (fun x hx => h8 x (List.mem_of_mem_take hx))]
      show _ ++ xOf ps = l
      rw [h2, List.take_append_drop]
theorem runs_copy (base : ByteArray) (a n : Nat) (h1 : 1 ≤ n) (h2 : a + n ≤ base.size) (hb : base.size ≤ 1099511627776) : ∃ ps, Runs base (128 :: (putL a ++ putL n)) ps ∧ xOf ps = ((bytesOf base).drop a).take n := by
  have g1 := get_putL (a : Int) (putL n) (by omega) (by omega)
  have g2 := get_putL (n : Int) [] (by omega) (by omega)
  rw [List.append_nil] at g2
  have e1 : (putL (a : Int) ++ putL (n : Int)).drop (putL (a : Int)).length = putL (n : Int) := by simp
  refine ⟨_, .copy _ a n _ _ [] g1 (by rw [e1]; exact g2) (by omega) (by rw [e1, List.drop_length]; exact .nil), ?_⟩
  rw [xOf, List.flatMap_cons, List.flatMap_nil, List.append_nil, bytesOf_ext]
  congr 1
  omega
/-- What is applied, where the lengths are a delta's first two numbers. -/
theorem apply_put (base : ByteArray) (a t : Int) (B : List Int) (ha : 0 ≤ a ∧ a ≤ 1099511627776) (ht : 0 ≤ t ∧ t ≤ 1099511627776) :
    applyR base (putL a ++ (putL t ++ B)) = if (stp base B).2 = true ∧ a = base.size ∧ ((sumL (stp base B).1).length : Int) = t then some (sumL (stp base B).1) else none := by
  have h1 := get_putL a (putL t ++ B) ha.1 ha.2
  have h2 := get_putL t B ht.1 ht.2
  refine applyR_of (r1 := some (a, (putL a).length)) (r2 := some (t, (putL t).length)) (L2 := B) (R := stp base B) h1 ?_ ?_ rfl
  · rw [leftL, List.drop_append_of_le_length (Nat.le_refl _), List.drop_length, List.nil_append]; exact h2
  · simp only [leftL]
    rw [List.drop_append_of_le_length (Nat.le_refl _), List.drop_length, List.nil_append, List.drop_append_of_le_length (Nat.le_refl _), List.drop_length, List.nil_append]
end Go.Proofs.Yticagpejankjcaa.Db
