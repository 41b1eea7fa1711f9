/- Decimals in plain arithmetic: digits, what the scan of Decimal reads of them, and the law of the document's own Decimal. No condition but the numbers' reach. -/
import Derived.Test.YticagpejankjcaaDoorNumPut
namespace Go.Proofs.YticagpejankjcaaDoor.Nb
set_option linter.unusedVariables false
set_option linter.unusedSimpArgs false
open Go.RowKit Go.Proofs.YticagpejankjcaaDoorW.PrintWords Go.Proofs.YticagpejankjcaaDoorW.PrintLast Go.Proofs.YticagpejankjcaaDoorW.PrintMore

/-- A number's digits. -/
def digs (u : Nat) : List Int := (Lib.decDigits u).map fun b => (b.toNat : Int)
theorem dig_toNat (d : Nat) (h : d < 10) : ((UInt8.ofNat (48 + d)).toNat : Int) = 48 + d := by
  have : (UInt8.ofNat (48 + d)).toNat = (48 + d) % 256 := by simp
  omega
theorem digs_small (u : Nat) (h : u < 10) : digs u = [48 + (u : Int)] := by
  rw [digs, Lib.decDigits_one h, List.map_singleton, dig_toNat u h]
theorem digs_big (u : Nat) (h : ¬ u < 10) : digs u = digs (u / 10) ++ [48 + ((u % 10 : Nat) : Int)] := by
  rw [digs, Lib.decDigits, dif_neg h, List.map_append, List.map_singleton, dig_toNat _ (Nat.mod_lt _ (by decide))]
  rfl
theorem digs_len (u : Nat) : (digs u).length = Lib.nDigits u := by rw [digs, List.length_map, Lib.decDigits_length]
theorem digs_len_le : ∀ (k u : Nat), u < 10 ^ k → 0 < k → (digs u).length ≤ k
  | 0, u, _, h => by omega
  | k + 1, u, hu, _ => by
    by_cases h : u < 10
    · rw [digs_small u h]; simp
    · rw [digs_big u h, List.length_append]
      have hk : 0 < k := by
        rcases Nat.eq_zero_or_pos k with h0 | h0
        · subst h0; simp at hu; omega
        · exact h0
      have := digs_len_le k (u / 10) (by rw [Nat.pow_succ] at hu; omega) hk
      simp only [List.length_cons, List.length_nil]
      omega
theorem digs_pos (u : Nat) : 0 < (digs u).length := by rw [digs_len]; exact Lib.nDigits_pos u
theorem digs_dig (u : Nat) : ∀ x ∈ digs u, 48 ≤ x ∧ x ≤ 57 := by
  induction u using Nat.strongRecOn with
  | _ u ih =>
    by_cases h : u < 10
    · rw [digs_small u h]; intro x hx; simp at hx; omega
    · rw [digs_big u h]
      intro x hx
      rcases List.mem_append.1 hx with hx | hx
      · exact ih (u / 10) (by omega) x hx
      · simp at hx; omega
/-- No nought ahead. -/
theorem digs_head (u : Nat) (h0 : 0 < u) : ∃ c r, digs u = c :: r ∧ 48 < c := by
  induction u using Nat.strongRecOn with
  | _ u ih =>
    by_cases h : u < 10
    · exact ⟨_, [], digs_small u h, by omega⟩
    · obtain ⟨c, r, e, hc⟩ := ih (u / 10) (by omega) (by omega)
      exact ⟨c, r ++ _, by rw [digs_big u h, e]; rfl, hc⟩
theorem digs_mono (u v : Nat) (h : u ≤ v) : (digs u).length ≤ (digs v).length := by
  induction v using Nat.strongRecOn generalizing u with
  | _ v ih =>
    by_cases hu : u < 10
    · rw [digs_small u hu]; exact digs_pos v
    · rw [digs_big u hu, digs_big v (by omega), List.length_append, List.length_append]
      have := ih (v / 10) (by omega) (u / 10) (by omega)
      simpa using this

theorem decScan_snoc (l : List Int) (c : Int) : ∀ (i : Nat) (n : Int), decScan (l ++ [c]) i n = (decScan l i n).bind fun m => if c < 48 ∨ 57 < c ∨ i + l.length = 13 then none else some (10 * m + (c - 48)) := by
  induction l with
  | nil =>
    intro i n
    rw [List.nil_append, decScan, decScan]
    simp only [Option.bind_some, List.length_nil, Nat.add_zero, decScan]
  | cons x r ih =>
    intro i n
    rw [List.cons_append, decScan, decScan]
    by_cases h : x < 48 ∨ 57 < x ∨ i = 13
    · rw [if_pos h, if_pos h]; rfl
    · rw [if_neg h, if_neg h, ih]
      rw [show i + 1 + r.length = i + (x :: r).length by simp only [List.length_cons]; omega]
theorem decScan_digs : ∀ (k u : Nat), u < 10 ^ k → k ≤ 13 → 0 < k → decScan (digs u) 0 0 = some (u : Int)
  | 0, _, _, _, h => by omega
  | k + 1, u, hu, hk, _ => by
    by_cases h : u < 10
    · rw [digs_small u h, decScan, if_neg (by omega), decScan]
      congr 1; omega
    · have hk0 : 0 < k := by
        rcases Nat.eq_zero_or_pos k with h0 | h0
        · subst h0; simp at hu; omega
        · exact h0
      have hu2 : u / 10 < 10 ^ k := by rw [Nat.pow_succ] at hu; omega
      have hl := digs_len_le k (u / 10) hu2 hk0
      rw [digs_big u h, decScan_snoc, decScan_digs k (u / 10) hu2 (by omega) hk0, Option.bind_some, if_neg (by omega)]
      congr 1; omega

theorem bytesOf_textS (u : Nat) : bytesOf (textS (u : Int)) = digs u := by
  rw [textS, if_neg (by omega), Lib.itoa_nonneg]
  rfl
theorem toList_inj (s t : ByteArray) : s.toList = t.toList ↔ bytesOf s = bytesOf t := by
  rw [ByteArray.toList_eq, ByteArray.toList_eq]
  constructor
  · intro h; unfold bytesOf; rw [h]
  · intro h
    unfold bytesOf at h
    refine (List.map_inj_right ?_).1 h
    intro x y hxy
    have : x.toNat = y.toNat := by omega
    exact UInt8.toNat_inj.1 this
theorem str_inj (s t : ByteArray) : s = t ↔ bytesOf s = bytesOf t := by
  constructor
  · rintro rfl; rfl
  · intro h
    have := (toList_inj s t).2 h
    rw [ByteArray.toList_eq, ByteArray.toList_eq] at this
    exact ByteArray.ext (Array.toList_inj.1 this)
theorem decS_text (u : Nat) (h : u ≤ 1099511627776) : decS (textS (u : Int)) = some (u : Int) := by
  rw [decS, bytesOf_textS, decScan_digs 13 u (by omega) (by decide) (by decide), Option.bind_some, if_neg]
  intro hc
  rcases hc with hc | hc
  · omega
  · exact hc rfl
theorem decScan_nonneg : ∀ (l : List Int) (i : Nat) (n m : Int), 0 ≤ n → decScan l i n = some m → 0 ≤ m
  | [], _, n, m, h, e => by rw [decScan] at e; cases e; exact h
  | c :: r, i, n, m, h, e => by
    rw [decScan] at e
    by_cases hc : c < 48 ∨ 57 < c ∨ i = 13
    · rw [if_pos hc] at e; cases e
    · rw [if_neg hc] at e
      exact decScan_nonneg r _ _ m (by omega) e
theorem decS_some (s : ByteArray) (n : Int) (h : decS s = some n) : 0 ≤ n ∧ n ≤ 1099511627776 ∧ textS n = s := by
  rw [decS] at h
  cases hd : decScan (bytesOf s) 0 0 with
  | none => rw [hd] at h; cases h
  | some m =>
    rw [hd, Option.bind_some] at h
    by_cases hc : 1099511627776 < m ∨ (textS m).toList ≠ s.toList
    · rw [if_pos hc] at h; cases h
    · rw [if_neg hc] at h
      cases h
      refine ⟨decScan_nonneg _ _ _ _ (by decide) hd, by omega, ?_⟩
      have : (textS n).toList = s.toList := Classical.byContradiction fun h => hc (.inr h)
      exact (str_inj _ _).2 ((toList_inj _ _).1 this)
theorem decS_iff (s : ByteArray) (n : Int) : decS s = some n ↔ 0 ≤ n ∧ n ≤ 1099511627776 ∧ textS n = s := by
  refine ⟨decS_some s n, fun ⟨h0, h1, h2⟩ => ?_⟩
  obtain ⟨u, rfl⟩ := Int.eq_ofNat_of_zero_le h0
  rw [← h2]
  exact decS_text u (by omega)
theorem textS_inj (a b : Nat) : textS (a : Int) = textS (b : Int) ↔ a = b := by
  refine ⟨fun h => ?_, fun h => by rw [h]⟩
  have h2 := congrArg bytesOf h
  rw [bytesOf_textS, bytesOf_textS] at h2
  have hl := congrArg List.length h2
  have : ∀ a b : Nat, digs a = digs b → a = b := by
    intro a
    induction a using Nat.strongRecOn with
    | _ a ih =>
      intro b e
      by_cases ha : a < 10
      · by_cases hb : b < 10
        · rw [digs_small a ha, digs_small b hb] at e
          injection e with e _; omega
        · rw [digs_small a ha, digs_big b hb] at e
          have := congrArg List.length e
          have hp := digs_pos (b / 10)
          rw [List.length_append, List.length_singleton, List.length_singleton] at this
          omega
      · by_cases hb : b < 10
        · rw [digs_small b hb, digs_big a ha] at e
          have := congrArg List.length e
          have hp := digs_pos (a / 10)
          rw [List.length_append, List.length_singleton, List.length_singleton] at this
          omega
        · rw [digs_big a ha, digs_big b hb] at e
          obtain ⟨e1, e2⟩ := List.append_inj' e rfl
          have := ih (a / 10) (by omega) (b / 10) e1
          injection e2 with e2 _; omega
  exact this a b h2
end Go.Proofs.YticagpejankjcaaDoor.Nb
