/- What num's Put and Get compute, in plain arithmetic. No condition but the numbers' reach. -/
import Derived.Test.YticagpejankjcaaDoorNumHead
import Derived.Laws.BitsLemmas
namespace Go.Proofs.YticagpejankjcaaDoor.Nb
set_option linter.unusedVariables false
set_option linter.unusedSimpArgs false
open Go.RowKit Go.Proofs.YticagpejankjcaaDoorW.PrintWords Go.Proofs.YticagpejankjcaaDoorW.PrintLast Go.Proofs.YticagpejankjcaaDoorW.PrintMore

theorem w64 (n : Int) (h0 : 0 ≤ n) (h1 : n < 2 ^ 63) : IntKind.i64.wrap n = n := by rw [IntKind.wrap_i64]; omega
theorem wr64 (n : Int) (h0 : 0 ≤ n) (h1 : n < 9223372036854775808) : wrap64 n = n := by unfold wrap64; omega
theorem and_127 (x : Int) (h0 : 0 ≤ x) (h1 : x < 256) : Go.bits .and .u8 x 127 = x % 128 := bits_mask .u8 8 (by decide) wraps_u8 7 (by decide) x h0 h1
theorem or_128 (x : Int) (h0 : 0 ≤ x) (h1 : x < 256) : Go.bits .or .u8 x 128 = x % 128 + 128 := by
  obtain ⟨a, rfl⟩ := Int.eq_ofNat_of_zero_le h0
  have ha : a < 2 ^ 8 := by omega
  rw [show (128 : Int) = ((128 : Nat) : Int) from rfl, (bits_nat .u8 8 (by decide) wraps_u8 a 128 ha (by decide)).2]
  have h : ∀ a : Nat, a < 256 → a ||| 128 = a % 128 + 128 := by decide +kernel
  rw [h a (by omega)]
  simp
theorem or_up (n y : Int) (i : Nat) (h0 : 0 ≤ n) (h1 : n < 2 ^ i) (hi : i ≤ 42) (hy0 : 0 ≤ y) (hy1 : y < 128) : Go.bits .or .i64 n (y * 2 ^ i) = n + y * 2 ^ i := by
  have hp : (0 : Int) < 2 ^ i := Int.pow_pos (by decide)
  have hz : (2 : Int) ^ i ≤ 2 ^ 42 := by exact_mod_cast Nat.pow_le_pow_right (by decide) hi
  have hm : y * 2 ^ i < 2 ^ 63 := Int.lt_of_lt_of_le (Int.mul_lt_mul_of_pos_right hy1 hp) (by omega)
  have h2 : (0 : Int) ≤ y * 2 ^ i := Int.mul_nonneg hy0 (Int.le_of_lt hp)
  have hj := bits_join .i64 63 (by decide) w64 i (y * 2 ^ i) n h2 (by rw [Int.mul_emod_left]) hm h0 h1 (by omega)
  have hc : Go.bits .or .i64 n (y * 2 ^ i) = Go.bits .or .i64 (y * 2 ^ i) n := by
    obtain ⟨a, ha⟩ := Int.eq_ofNat_of_zero_le h0
    obtain ⟨b, hb⟩ := Int.eq_ofNat_of_zero_le h2
    rw [ha, hb]
    rw [hb] at hm
    have hn : n < 2 ^ 63 := by omega
    rw [ha] at hn
    have q1 : a < 2 ^ 63 := by exact_mod_cast hn
    have q2 : b < 2 ^ 63 := by exact_mod_cast hm
    rw [(bits_nat .i64 63 (by decide) w64 a b q1 q2).2, (bits_nat .i64 63 (by decide) w64 b a q2 q1).2, Nat.or_comm]
  rw [hc, hj]; omega

/-- A number's bytes. -/
def putN : Nat → Nat → List Int
  | 0, _ => []
  | k + 1, n => if n < 128 then [(n : Int)] else (((n % 128 : Nat) : Int) + 128) :: putN k (n / 128)
/-- The number that bytes begin with, from place i on, n being read. -/
def getR : List Int → Nat → Int → Option (Int × Nat)
  | [], _, _ => none
  | b :: r, i, n => if i = 6 then none else if 128 ≤ b then getR r (i + 1) (n + b % 128 * 2 ^ (7 * i))
    else if i = 0 ∨ 0 < b then (if n + b % 128 * 2 ^ (7 * i) ≤ 1099511627776 then some (n + b % 128 * 2 ^ (7 * i), i + 1) else none) else none
theorem mn_lt (i len : Nat) (h : i < len) (h6 : i < 6) : (i : Int) < mn (len : Int) 6 := by
  unfold mn
  split
  · omega
  · omega
theorem w7 (i : Nat) (h6 : i < 6) : 0 ≤ wrap64 (7 * (i : Int)) := by
  rw [wr64 (7 * (i : Int)) (by omega) (by omega)]
  omega
def tri : Option (Int × Nat) → Int × Int × Bool
  | none => (0, 0, false)
  | some (n, i) => (n, i, true)

set_option maxHeartbeats 1000000 in
theorem get_l0 (l : List Int) (h8 : ∀ x ∈ l, 0 ≤ x ∧ x < 256) : ∀ (k i : Nat) (n : Int), i ≤ l.length → i ≤ 6 → 6 - i < k → 0 ≤ n → n < 2 ^ (7 * i) →
    Nl.num_Get.l0 k l n (mn (l.length : Int) 6) (i : Int) = some (tri (getR (l.drop i) i n)) := by
  intro k
  induction k with
  | zero => intro i n _ _ h; omega
  | succ k ih =>
    intro i n hi hi6 hk hn0 hn1
    have hmn : mn (l.length : Int) 6 = if (l.length : Int) < 6 then (l.length : Int) else 6 := by
      unfold mn; split <;> split <;> omega
    rw [Nl.num_Get.l0]
    by_cases hlt : i < l.length ∧ i < 6
    · have hb := h8 l[i] (List.getElem_mem hlt.1)
      rw [List.drop_eq_getElem_cons hlt.1, getR]
      have hrd : rd l (i : Int) = l[i] := by simp [rd, hlt.1]
      obtain ⟨b, hbe⟩ : ∃ b, l[i] = b := ⟨_, rfl⟩
      rw [hrd, hbe]
      rw [hbe] at hb
      have hsh : shl .i64 (wrap64 (Go.bits .and .u8 b 127)) (wrap64 (7 * (i : Int))) = b % 128 * 2 ^ (7 * i) := by
        rw [and_127 b hb.1 hb.2, wr64 (b % 128) (by omega) (by omega), wr64 (7 * (i : Int)) (by omega) (by omega), shl]
        have e1 : (7 * (i : Int)).toNat = 7 * i := by omega
        have e2 : min (7 * i) IntKind.i64.bits = 7 * i := Nat.min_eq_left (by have : IntKind.i64.bits = 64 := rfl; omega)
        rw [e1, e2]
        have hp : (0 : Int) < 2 ^ (7 * i) := Int.pow_pos (by decide)
        have hz : (2 : Int) ^ (7 * i) ≤ 2 ^ 42 := by exact_mod_cast Nat.pow_le_pow_right (by decide) (by omega)
        refine w64 _ (Int.mul_nonneg (by omega) (Int.le_of_lt hp)) ?_
        exact Int.lt_of_lt_of_le (Int.mul_lt_mul_of_pos_right (show b % 128 < 128 by omega) hp) (by omega)
      have hor : Go.bits .or .i64 n (b % 128 * 2 ^ (7 * i)) = n + b % 128 * 2 ^ (7 * i) := or_up n (b % 128) (7 * i) hn0 hn1 (by omega) (by omega) (by omega)
      rw [hsh, hor]
      have hm0 : 0 ≤ n + b % 128 * 2 ^ (7 * i) := Int.add_nonneg hn0 (Int.mul_nonneg (by omega) (Int.le_of_lt (Int.pow_pos (by decide))))
      have hm1 : n + b % 128 * 2 ^ (7 * i) < 2 ^ (7 * (i + 1)) := by
        have e : (2 : Int) ^ (7 * (i + 1)) = 128 * 2 ^ (7 * i) := by rw [show 7 * (i + 1) = 7 * i + 7 by omega, Int.pow_add]; omega
        have hp : (0 : Int) < 2 ^ (7 * i) := Int.pow_pos (by decide)
        have : b % 128 * 2 ^ (7 * i) ≤ 127 * 2 ^ (7 * i) := Int.mul_le_mul_of_nonneg_right (by omega) (Int.le_of_lt hp)
        rw [e]; omega
      obtain ⟨m, hm⟩ : ∃ m, n + b % 128 * 2 ^ (7 * i) = m := ⟨_, rfl⟩
      rw [hm] at hm0 hm1 ⊢
      have hw : wrap64 ((i : Int) + 1) = ((i + 1 : Nat) : Int) := by rw [wr64 _ (by omega) (by omega)]; omega
      rw [hw]
      have hi5 := hlt.2
      have hil := hlt.1
      have g1 : (i : Int) < mn (l.length : Int) 6 := mn_lt i l.length hil hi5
      have g2 : (0 : Int) ≤ i := Int.natCast_nonneg _
      have g3 : (i : Int) < l.length := Int.ofNat_lt.2 hil
      have g4 : 0 ≤ wrap64 (7 * (i : Int)) := w7 i hi5
      rw [if_pos g1, if_pos g2, if_pos g3, if_pos g4, if_neg (show ¬ i = 6 from Nat.ne_of_lt hi5)]
      clear g1 g2 g3 g4 hsh hor hn1 hn0
      by_cases h127 : 127 < b
      · rw [if_pos h127, if_pos (show 128 ≤ b from h127)]
        exact ih (i + 1) m hil hi5 (by clear hm0 hm1 ih hm; omega) hm0 hm1
      · rw [if_neg h127, if_neg (show ¬ 128 ≤ b from h127)]
        by_cases hi0 : i = 0
        · rw [if_pos (show (i : Int) = 0 from by rw [hi0]; rfl), if_pos (show i = 0 ∨ 0 < b from .inl hi0)]
          split <;> simp only [tri]
        · rw [if_neg (show ¬ (i : Int) = 0 from fun h => hi0 (Int.ofNat.inj h))]
          by_cases hb0 : 0 < b
          · rw [if_pos hb0, if_pos (show i = 0 ∨ 0 < b from .inr hb0)]
            split <;> simp only [tri]
          · rw [if_neg hb0, if_neg (show ¬ (i = 0 ∨ 0 < b) from fun h => h.elim hi0 hb0)]
            simp only [tri]
    · rw [if_neg (by rw [hmn]; split <;> omega)]
      have : getR (l.drop i) i n = none := by
        rcases Nat.lt_or_ge i l.length with h | h
        · rw [List.drop_eq_getElem_cons h, getR, if_pos (by omega)]
        · rw [List.drop_of_length_le h]; rfl
      rw [this]; simp only [tri]
theorem get_f (l : List Int) (h8 : ∀ x ∈ l, 0 ≤ x ∧ x < 256) : Nl.num_Get.f 8 l = some (tri (getR l 0 0)) := get_l0 l h8 8 0 0 (by omega) (by omega) (by omega) (by decide) (by decide)
end Go.Proofs.YticagpejankjcaaDoor.Nb
