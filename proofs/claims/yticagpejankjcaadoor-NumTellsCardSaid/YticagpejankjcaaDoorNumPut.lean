/- What num.Put computes, in plain arithmetic; what Get reads of it. No condition but the numbers' reach. -/
import Derived.Test.YticagpejankjcaaDoorNumLaw
namespace Go.Proofs.YticagpejankjcaaDoor.Nb
set_option linter.unusedVariables false
set_option linter.unusedSimpArgs false
open Go.RowKit Go.Proofs.YticagpejankjcaaDoorW.PrintWords Go.Proofs.YticagpejankjcaaDoorW.PrintLast Go.Proofs.YticagpejankjcaaDoorW.PrintMore

theorem put_l0 : ∀ (k n : Nat) (acc : List Int), n < 128 ^ k → 0 < k → acc.length + k < 1000 → Nl.num_Put.l0 k (n : Int) acc = some (acc ++ putN k n)
  | 0, n, acc, _, h, _ => by omega
  | k + 1, n, acc, hn, _, ha => by
    rw [Nl.num_Put.l0, putN]
    have hacc : acc.length < 140737488355328 := by omega
    by_cases h : n < 128
    · rw [if_neg (show ¬ (n : Int) > 127 by omega), if_pos hacc, if_pos h, show (n : Int) % 256 = n by omega]
    · rw [if_pos (show (n : Int) > 127 by omega), if_pos hacc, if_neg h]
      have hk : 0 < k := by
        rcases Nat.eq_zero_or_pos k with h0 | h0
        · subst h0; simp at hn; omega
        · exact h0
      have hn2 : n / 128 < 128 ^ k := by
        rw [Nat.pow_succ] at hn
        exact Nat.div_lt_of_lt_mul (by rw [Nat.mul_comm]; exact hn)
      have e := put_l0 k (n / 128) (acc ++ [Go.bits .or .u8 ((n : Int) % 256) 128]) hn2 hk (by simp; omega)
      rw [show ((n / 128 : Nat) : Int) = (n : Int) / 128 by omega] at e
      rw [e, or_128 _ (by omega) (by omega), List.append_assoc]
      have : (n : Int) % 256 % 128 + 128 = ((n % 128 : Nat) : Int) + 128 := by omega
      rw [this]
      rfl
/-- A number's bytes, or none. -/
def putL (n : Int) : List Int := if n < 0 ∨ 1099511627776 < n then [] else putN 6 n.toNat
theorem put_f (n : Int) : Nl.num_Put.f 7 n = some (putL n) := by
  rw [Nl.num_Put.f, putL]
  by_cases h0 : n < 0
  · rw [if_pos h0, if_pos (show n < 0 ∨ 1099511627776 < n from .inl h0), Nl.num_Put.j0, if_pos rfl]
  · rw [if_neg h0]
    by_cases h1 : 1099511627776 < n
    · rw [if_pos (show n < 0 ∨ 1099511627776 < n from .inr h1), Nl.num_Put.j0, if_pos (decide_eq_true h1)]
    · rw [if_neg (show ¬ (n < 0 ∨ 1099511627776 < n) from fun h => h.elim h0 h1), Nl.num_Put.j0, if_neg (by simp; omega)]
      have hn : n.toNat < 128 ^ 6 := by omega
      have e := put_l0 6 n.toNat [] hn (by decide) (by decide)
      rw [show ((n.toNat : Nat) : Int) = n by omega] at e
      exact e
/-- Get reads a number's bytes back, whatever is behind. -/
theorem get_put : ∀ (k n i : Nat) (m : Int) (more : List Int), n < 128 ^ k → 0 < k → k + i ≤ 6 → (i = 0 ∨ 0 < n) → m + n * 2 ^ (7 * i) ≤ 1099511627776 →
    getR (putN k n ++ more) i m = some (m + n * 2 ^ (7 * i), i + (putN k n).length)
  | 0, _, _, _, _, _, h, _, _, _ => by omega
  | k + 1, n, i, m, more, hn, _, hi, hz, hm => by
    rw [putN]
    by_cases h : n < 128
    · have e : (n : Int) % 128 = n := by omega
      rw [if_pos h, List.singleton_append, getR, if_neg (show ¬ i = 6 from fun h => by omega), if_neg (show ¬ 128 ≤ (n : Int) from fun h2 => by omega), if_pos (show i = 0 ∨ 0 < (n : Int) from hz.imp id (fun h => by omega)), e, if_pos hm]
      rfl
    · have hi5 : ¬ i = 6 := fun h => by omega
      have hk : 0 < k := by
        rcases Nat.eq_zero_or_pos k with h0 | h0
        · subst h0; simp at hn; omega
        · exact h0
      have hn2 : n / 128 < 128 ^ k := by
        rw [Nat.pow_succ] at hn
        exact Nat.div_lt_of_lt_mul (by rw [Nat.mul_comm]; exact hn)
      have e : (2 : Int) ^ (7 * (i + 1)) = 128 * 2 ^ (7 * i) := by rw [show 7 * (i + 1) = 7 * i + 7 by omega, Int.pow_add, Int.mul_comm]; rfl
      have hb : (((n % 128 : Nat) : Int) + 128) % 128 = ((n % 128 : Nat) : Int) := by omega
      have hs : m + ((n % 128 : Nat) : Int) * 2 ^ (7 * i) + ((n / 128 : Nat) : Int) * 2 ^ (7 * (i + 1)) = m + n * 2 ^ (7 * i) := by
        have hq : (n : Int) = ((n % 128 : Nat) : Int) + ((n / 128 : Nat) : Int) * 128 := by omega
        rw [e]
        conv => rhs; rw [hq, Int.add_mul]
        rw [Int.mul_assoc, Int.add_assoc]
      have hge : 128 ≤ ((n % 128 : Nat) : Int) + 128 := by omega
      rw [if_neg h, List.cons_append, getR, if_neg hi5, if_pos hge, hb]
      rw [get_put k (n / 128) (i + 1) _ more hn2 hk (by omega) (.inr (by omega)) (by rw [hs]; exact hm), hs]
      simp only [List.length_cons]
      congr 2
      omega
/-- What is cut of a number's bytes is none's. -/
theorem get_cut : ∀ (k n i j : Nat) (m : Int), j < (putN k n).length → getR ((putN k n).take j) i m = none
  | 0, _, _, _, _, h => by simp [putN] at h
  | k + 1, n, i, j, m, h => by
    rw [putN] at h ⊢
    by_cases h1 : n < 128
    · rw [if_pos h1] at h ⊢
      have : j = 0 := by simp at h; omega
      subst this
      rfl
    · rw [if_neg h1] at h ⊢
      cases j with
      | zero => rfl
      | succ j =>
        have hge : 128 ≤ ((n % 128 : Nat) : Int) + 128 := by omega
        rw [List.take_succ_cons, getR]
        by_cases hi : i = 6
        · rw [if_pos hi]
        · rw [if_neg hi, if_pos hge]
          exact get_cut k (n / 128) (i + 1) j _ (by simpa using h)
end Go.Proofs.YticagpejankjcaaDoor.Nb
