/- The document's longest: where a base has the longest beginning of what is left. No condition but the texts' length. -/
import Derived.Test.YticagpejankjcaaDelRef
namespace Go.Proofs.Yticagpejankjcaa.Db
set_option linter.unusedVariables false
set_option linter.unusedSimpArgs false
open Go.RowKit Go.Proofs.YticagpejankjcaaW.PrintWords Go.Proofs.YticagpejankjcaaW.PrintLast Go.Proofs.YticagpejankjcaaW.PrintMore

theorem fuel_step (B L i n k : Nat) (hi : i < B) (hn : n ≤ L) (h : (B - i) * (L + 2) < k + 1 + n + 1) : (B - (i + 1)) * (L + 2) < k := by
  obtain ⟨d, hd⟩ : ∃ d, B - i = d + 1 := ⟨B - i - 1, by omega⟩
  rw [show B - (i + 1) = d by omega]
  rw [hd, Nat.succ_mul] at h
  omega
theorem wr_add (a b : Nat) (h : a + b < 4398046511104) : wrap64 ((a : Int) + b) = ((a + b : Nat) : Int) := by rw [wr64 _ (by omega) (by omega)]; omega
theorem wr_one (a : Nat) (h : a < 4398046511104) : wrap64 ((a : Int) + 1) = ((a + 1 : Nat) : Int) := by rw [wr64 _ (by omega) (by omega)]; omega
set_option maxHeartbeats 1000000 in
theorem longest_l (base left : ByteArray) (hb : base.size ≤ 1099511627776) (hl : left.size ≤ 1099511627776) : ∀ k : Nat,
    (∀ i at_ most : Nat, (base.size - i) * (left.size + 2) < k → i ≤ base.size →
      Nl.sacristyref06_longest.l0 k base left (at_ : Int) (most : Int) (i : Int) = some (((bestGo ((bytesOf base).drop i) (bytesOf left) i at_ most).1 : Int), ((bestGo ((bytesOf base).drop i) (bytesOf left) i at_ most).2 : Int))) ∧
    (∀ i n at_ most q : Nat, i < base.size → n ≤ left.size → i + n ≤ base.size → (base.size - i) * (left.size + 2) < k + n + 1 → n + alikeN ((bytesOf base).drop (i + n)) ((bytesOf left).drop n) = q →
      Nl.sacristyref06_longest.l1 k base left (at_ : Int) (most : Int) (i : Int) (n : Int) =
        if most < q then some (((bestGo ((bytesOf base).drop (i + 1)) (bytesOf left) (i + 1) i q).1 : Int), ((bestGo ((bytesOf base).drop (i + 1)) (bytesOf left) (i + 1) i q).2 : Int))
        else some (((bestGo ((bytesOf base).drop (i + 1)) (bytesOf left) (i + 1) at_ most).1 : Int), ((bestGo ((bytesOf base).drop (i + 1)) (bytesOf left) (i + 1) at_ most).2 : Int))) := by
  intro k
  induction k with
  | zero =>
    refine ⟨fun i _ _ h => by omega, fun i n _ _ q hi hn _ h _ => ?_⟩
    have := fuel_step base.size left.size i n 0 hi hn (by omega)
    omega
  | succ k ih =>
    obtain ⟨ih0, ih1⟩ := ih
    refine ⟨fun i at_ most hk hi => ?_, fun i n at_ most q hi hn hin hk hq => ?_⟩
    · rw [Nl.sacristyref06_longest.l0]
      by_cases h1 : i < base.size
      · have g1 : (i : Int) < base.size := by omega
        have hl1 : i < (bytesOf base).length := by rw [bytesOf_length]; exact h1
        have e0 : ((0 : Nat) : Int) = 0 := rfl
        rw [if_pos g1, ← e0, ih1 i 0 at_ most _ h1 (by omega) (by omega) (by omega) rfl]
        rw [Nat.zero_add, Nat.add_zero, List.drop_zero, List.drop_eq_getElem_cons hl1, bestGo, ← List.drop_eq_getElem_cons hl1]
        split <;> rfl
      · have g1 : ¬ (i : Int) < base.size := by omega
        rw [if_neg g1, List.drop_of_length_le (by rw [bytesOf_length]; omega), bestGo]
    · have hf := fuel_step base.size left.size i n k hi hn hk
      have hi2 : i < 2199023255552 := by clear hk hf hq; omega
      have hn2 : n < 2199023255552 := by clear hk hf hq; omega
      have e1 := As.mk (wr_add i n (by clear hk hf hq; omega))
      have e2 := As.mk (wr_one n (by clear hk hf hq; omega))
      have e3 := As.mk (wr_one i (by clear hk hf hq; omega))
      have stop : n = q → (if (n : Int) > most then Nl.sacristyref06_longest.l0 k base left (i : Int) (n : Int) (wrap64 ((i : Int) + 1)) else Nl.sacristyref06_longest.l0 k base left (at_ : Int) (most : Int) (wrap64 ((i : Int) + 1))) =
          if most < q then some (((bestGo ((bytesOf base).drop (i + 1)) (bytesOf left) (i + 1) i q).1 : Int), ((bestGo ((bytesOf base).drop (i + 1)) (bytesOf left) (i + 1) i q).2 : Int))
          else some (((bestGo ((bytesOf base).drop (i + 1)) (bytesOf left) (i + 1) at_ most).1 : Int), ((bestGo ((bytesOf base).drop (i + 1)) (bytesOf left) (i + 1) at_ most).2 : Int)) := by
        intro hnq
        subst hnq
        rw [e3.out]
        by_cases h : most < n
        · have g : (n : Int) > most := by omega
          rw [if_pos g, if_pos h, ih0 (i + 1) i n hf (by omega)]
        · have g : ¬ (n : Int) > most := by omega
          rw [if_neg g, if_neg h, ih0 (i + 1) at_ most hf (by omega)]
      rw [Nl.sacristyref06_longest.l1, e1.out, e2.out]
      by_cases h1 : i + n < base.size
      · have g1 : ((i + n : Nat) : Int) < base.size := by omega
        have hl1 : i + n < (bytesOf base).length := by rw [bytesOf_length]; exact h1
        rw [if_pos g1]
        by_cases h2 : n < left.size
        · have g2 : (n : Int) < left.size := by omega
          have g3 : (0 : Int) ≤ ((i + n : Nat) : Int) := Int.natCast_nonneg _
          have g4 : (0 : Int) ≤ (n : Int) := Int.natCast_nonneg _
          have hl2 : n < (bytesOf left).length := by rw [bytesOf_length]; exact h2
          rw [if_pos g2, if_pos g3, if_pos g4, bt_get base (i + n) h1 hl1, bt_get left n h2 hl2]
          rw [List.drop_eq_getElem_cons hl1, List.drop_eq_getElem_cons hl2, alikeN] at hq
          by_cases h3 : (bytesOf base)[i + n] = (bytesOf left)[n]
          · rw [if_pos h3]
            rw [if_pos h3] at hq
            exact ih1 i (n + 1) at_ most q hi (by omega) (by omega) (by omega) (by rw [← Nat.add_assoc]; omega)
          · rw [if_neg h3]
            rw [if_neg h3] at hq
            exact stop (by omega)
        · have g2 : ¬ (n : Int) < left.size := by omega
          rw [if_neg g2]
          rw [List.drop_of_length_le (l := bytesOf left) (by rw [bytesOf_length]; omega)] at hq
          exact stop (by cases hh : (bytesOf base).drop (i + n) <;> rw [hh] at hq <;> simpa [alikeN] using hq)
      · have g1 : ¬ ((i + n : Nat) : Int) < base.size := by omega
        rw [if_neg g1]
        rw [List.drop_of_length_le (l := bytesOf base) (by rw [bytesOf_length]; omega)] at hq
        exact stop (by simpa [alikeN] using hq)
theorem longest_at (base left : ByteArray) (p : Nat × Nat) (w : World) (hb : base.size ≤ 1099511627776) (hl : left.size ≤ 1099511627776) (hp : bestL (bytesOf base) (bytesOf left) = p) :
    Calls Try.prog 28 #[.string base, .string left] w fun e w' => e = .returned (.tuple #[.int .i64 p.1, .int .i64 p.2]) ∧ Below w.heap.size w w' := by
  subst hp
  have h := (longest_l base left hb hl (base.size * (left.size + 2) + 1)).1 0 0 0 (by simp) (by omega)
  rw [List.drop_zero] at h
  exact (Nl.sacristyref06_longest.calls _ base left _ _ w h).mono fun e w' h => ⟨h.1, below_drawn h.2⟩
end Go.Proofs.Yticagpejankjcaa.Db
