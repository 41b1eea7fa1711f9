/- What the document's own Put, Get, Text and Decimal compute: the same. No condition but the numbers' reach. -/
import Derived.Test.YticagpejankjcaaDoorNumDecimalsLaw
namespace Go.Proofs.YticagpejankjcaaDoor.Nb
set_option linter.unusedVariables false
set_option linter.unusedSimpArgs false
open Go.RowKit Go.Proofs.YticagpejankjcaaDoorW.PrintWords Go.Proofs.YticagpejankjcaaDoorW.PrintLast Go.Proofs.YticagpejankjcaaDoorW.PrintMore

theorem rput_l0 : ∀ (k n : Nat) (acc : List Int), n < 128 ^ k → 0 < k → acc.length + k < 1000 → n < 2 ^ 63 → Nl.sacristyref03_Put.l0 k (n : Int) acc = some (acc ++ putN k n)
  | 0, n, acc, _, h, _, _ => by omega
  | k + 1, n, acc, hn, _, ha, h63 => by
    rw [Nl.sacristyref03_Put.l0, putN]
    have hacc : acc.length < 140737488355328 := by omega
    by_cases h : n < 128
    · rw [if_neg (show ¬ (n : Int) ≥ 128 by omega), if_pos hacc, if_pos h, show (n : Int) % 256 = n by omega]
    · rw [if_pos (show (n : Int) ≥ 128 by omega), if_pos hacc, if_neg h]
      have hk : 0 < k := by
        rcases Nat.eq_zero_or_pos k with h0 | h0
        · subst h0; simp at hn; omega
        · exact h0
      have hn2 : n / 128 < 128 ^ k := by
        rw [Nat.pow_succ] at hn
        exact Nat.div_lt_of_lt_mul (by rw [Nat.mul_comm]; exact hn)
      have e1 : Int.tmod (n : Int) 128 = ((n % 128 : Nat) : Int) := by rw [Int.tmod_eq_emod_of_nonneg (by omega)]; omega
      have e2 : wrap64 (Int.tdiv (n : Int) 128) = ((n / 128 : Nat) : Int) := by
        rw [Int.tdiv_eq_ediv_of_nonneg (by omega), wr64 _ (by omega) (by omega)]; omega
      have e3 : (((n % 128 : Nat) : Int) + 128) % 256 = ((n % 128 : Nat) : Int) + 128 := by omega
      rw [e1, e2, e3, rput_l0 k (n / 128) _ hn2 hk (by simp; omega) (by omega), List.append_assoc]
      rfl
theorem rput_f (n : Int) : Nl.sacristyref03_Put.f 7 n = some (putL n) := by
  rw [Nl.sacristyref03_Put.f, putL]
  by_cases h0 : n < 0
  · rw [if_pos h0, if_pos (show n < 0 ∨ 1099511627776 < n from .inl h0), Nl.sacristyref03_Put.j0, if_pos rfl]
  · rw [if_neg h0, Nl.sacristyref03_most.f, Option.bind_some]
    by_cases h1 : 1099511627776 < n
    · rw [if_pos (show n < 0 ∨ 1099511627776 < n from .inr h1), Nl.sacristyref03_Put.j0, if_pos (decide_eq_true h1)]
    · rw [if_neg (show ¬ (n < 0 ∨ 1099511627776 < n) from fun h => h.elim h0 h1), Nl.sacristyref03_Put.j0, if_neg (by simp; omega)]
      have e := rput_l0 6 n.toNat [] (by omega) (by decide) (by decide) (by omega)
      rw [show ((n.toNat : Nat) : Int) = n by omega] at e
      exact e

theorem pw7 (i : Nat) (h : i < 6) : (0 : Int) < 2 ^ (7 * i) ∧ (2 : Int) ^ (7 * i) ≤ 4398046511104 ∧ (2 : Int) ^ (7 * i) * 128 = 2 ^ (7 * (i + 1)) := by
  have h1 : 7 * i ≤ 42 := by omega
  refine ⟨Int.pow_pos (by decide), ?_, ?_⟩
  · have : (2 : Int) ^ (7 * i) ≤ 2 ^ 42 := by exact_mod_cast Nat.pow_le_pow_right (by decide) h1
    exact this
  · rw [show 7 * (i + 1) = 7 * i + 7 from rfl, Int.pow_add]; rfl
theorem step7 (b n q : Int) (hb0 : 0 ≤ b) (hb1 : b < 256) (hn0 : 0 ≤ n) (hn1 : n < q) (hq1 : q ≤ 4398046511104) : ∃ m, b % 128 * q = m ∧ 0 ≤ m ∧ m ≤ 127 * q ∧
    wrap64 (n + wrap64 (wrap64 (Int.tmod b 128) * q)) = n + m ∧ wrap64 (q * 128) = q * 128 := by
  have h2 : b % 128 * q ≤ 127 * q := Int.mul_le_mul_of_nonneg_right (by omega) (by omega)
  have h3 : 0 ≤ b % 128 * q := Int.mul_nonneg (by omega) (by omega)
  rw [Int.tmod_eq_emod_of_nonneg hb0, wr64 (b % 128) (by omega) (by omega)]
  obtain ⟨m, hm⟩ : ∃ m, b % 128 * q = m := ⟨_, rfl⟩
  rw [hm] at h2 h3 ⊢
  exact ⟨m, rfl, h3, h2, by rw [wr64 m h3 (by omega), wr64 (n + m) (by omega) (by omega)], wr64 _ (by omega) (by omega)⟩
set_option maxHeartbeats 1000000 in
theorem rget_l0 (l : List Int) (h8 : ∀ x ∈ l, 0 ≤ x ∧ x < 256) : ∀ (k i : Nat) (n : Int), i ≤ l.length → i ≤ 6 → 6 - i < k → 0 ≤ n → n < 2 ^ (7 * i) →
    Nl.sacristyref03_Get.l0 (2 * k) l n (2 ^ (7 * i)) (i : Int) = some (tri (getR (l.drop i) i n)) := by
  intro k
  induction k with
  | zero => intro i n _ _ h; omega
  | succ k ih =>
    intro i n hi hi6 hk hn0 hn1
    rw [show 2 * (k + 1) = (2 * k + 1) + 1 by omega, Nl.sacristyref03_Get.l0]
    by_cases hlt : i < l.length
    · rw [if_pos (show (i : Int) < l.length from Int.ofNat_lt.2 hlt), Nl.sacristyref03_Get.j1]
      have hb := h8 l[i] (List.getElem_mem hlt)
      rw [List.drop_eq_getElem_cons hlt, getR]
      have hrd : rd l (i : Int) = l[i] := by simp [rd, hlt]
      obtain ⟨b, hbe⟩ : ∃ b, l[i] = b := ⟨_, rfl⟩
      rw [hrd, hbe]
      rw [hbe] at hb
      by_cases h6 : i = 6
      · subst h6
        rw [if_neg (by decide), if_pos rfl]
        rfl
      · have hi5 : i < 6 := Nat.lt_of_le_of_ne hi6 h6
        obtain ⟨hp, hz, hz2⟩ := pw7 i hi5
        have ih' := ih (i + 1)
        clear ih
        obtain ⟨q, hq⟩ : ∃ q : Int, 2 ^ (7 * i) = q := ⟨_, rfl⟩
        obtain ⟨q2, hq2⟩ : ∃ q : Int, 2 ^ (7 * (i + 1)) = q := ⟨_, rfl⟩
        rw [hq2] at ih' hz2
        rw [hq] at hp hz hz2 hn1 ⊢
        clear hq hq2
        obtain ⟨m, hm, hm3, hm2, e4, e5⟩ := step7 b n q hb.1 hb.2 hn0 hn1 hz
        have hd : decide ((i : Int) < 6) = true := decide_eq_true (by omega)
        have e6 : wrap64 ((i : Int) + 1) = ((i + 1 : Nat) : Int) := by rw [wr64 _ (by omega) (by omega)]; omega
        have g1 : (0 : Int) ≤ i := Int.natCast_nonneg _
        have g2 : (i : Int) < l.length := Int.ofNat_lt.2 hlt
        rw [if_pos hd]
        rw [if_pos g1]
        rw [if_pos g2]
        rw [if_neg h6]
        rw [e4]
        rw [e5]
        rw [e6]
        rw [hz2]
        rw [hm]
        clear e4 e5 e6 hd
        have hin := ih' (n + m) hlt hi5 (by omega) (by omega) (by omega)
        have hi0 : (i : Int) > 0 ↔ 0 < i := by omega
        clear ih' hz hn1 hm2 hm hz2 hp
        by_cases h127 : b < 128
        · rw [if_pos h127, if_neg (show ¬ 128 ≤ b by omega), Nl.sacristyref03_most.f, Option.bind_some]
          by_cases hbig : n + m > 1099511627776
          · rw [if_pos hbig]
            split
            · rw [if_neg (by omega)]; simp only [tri]
            · simp only [tri]
          · rw [if_neg hbig]
            by_cases hi1 : 0 < i
            · rw [if_pos (hi0.2 hi1)]
              by_cases hb0 : b = 0
              · rw [if_pos hb0, if_neg (show ¬ (i = 0 ∨ 0 < b) by omega)]; simp only [tri]
              · rw [if_neg hb0, if_pos (show (i = 0 ∨ 0 < b) by omega), if_pos (by omega)]; simp only [tri]
            · rw [if_neg (fun h => hi1 (hi0.1 h)), if_pos (show (i = 0 ∨ 0 < b) by omega), if_pos (by omega)]; simp only [tri]
        · rw [if_neg h127, if_pos (show 128 ≤ b by omega)]
          exact hin
    · rw [if_neg (show ¬ (i : Int) < l.length by omega), Nl.sacristyref03_Get.j1, if_neg (by decide), List.drop_of_length_le (by omega)]
      rfl
theorem rget_f (l : List Int) (h8 : ∀ x ∈ l, 0 ≤ x ∧ x < 256) : Nl.sacristyref03_Get.f 16 l = some (tri (getR l 0 0)) := by
  rw [Nl.sacristyref03_Get.f]
  exact rget_l0 l h8 8 0 0 (by omega) (by omega) (by omega) (by decide) (by decide)

theorem str_app (xs ys : List Int) : strOfNums (xs ++ ys) = strOfNums xs ++ strOfNums ys := by
  refine ByteArray.ext ?_
  rw [ByteArray.data_append]
  simp [strOfNums]
theorem rtext_l0 : ∀ (k m : Nat) (acc : ByteArray), m < 10 ^ k → acc.size + k ≤ 1000 → m < 2 ^ 63 → Nl.sacristyref03_Text.l0 (k + 1) (m : Int) acc = some (if m = 0 then acc else strOfNums (digs m) ++ acc)
  | 0, m, acc, hm, _, _ => by
    have : m = 0 := by simpa using hm
    subst this
    rw [Nl.sacristyref03_Text.l0, if_neg (by decide), if_pos rfl]
  | k + 1, m, acc, hm, ha, h63 => by
    rw [Nl.sacristyref03_Text.l0]
    by_cases h0 : m = 0
    · subst h0
      rw [if_neg (by decide), if_pos rfl]
    · rw [if_pos (show (m : Int) > 0 by omega), if_neg h0, Option.bind_some]
      have e1 : (wrap64 (48 + Int.tmod (m : Int) 10)) % 256 = 48 + ((m % 10 : Nat) : Int) := by
        rw [Int.tmod_eq_emod_of_nonneg (by omega), wr64 _ (by omega) (by omega)]; omega
      have e2 : wrap64 (Int.tdiv (m : Int) 10) = ((m / 10 : Nat) : Int) := by
        rw [Int.tdiv_eq_ediv_of_nonneg (by omega), wr64 _ (by omega) (by omega)]; omega
      have e3 : (strOfNums [48 + ((m % 10 : Nat) : Int)]).size = 1 := strOfNums_size _
      rw [e1, e2, if_pos (by omega), rtext_l0 k (m / 10) _ (by rw [Nat.pow_succ] at hm; omega) (by rw [ByteArray.size_append]; omega) (by omega)]
      congr 1
      by_cases hs : m < 10
      · rw [if_pos (by omega), digs_small m hs, show m % 10 = m by omega]
      · rw [if_neg (by omega), digs_big m hs, str_app, ByteArray.append_assoc]
theorem text_str (u : Nat) : textS (u : Int) = strOfNums (digs u) := by
  refine (str_inj _ _).2 ?_
  rw [bytesOf_textS, bytesOf_str _ (fun x hx => by have := digs_dig u x hx; omega)]
theorem rtext_f (n : Int) (h1 : n ≤ 9223372036854775807) : Nl.sacristyref03_Text.f 20 n = some (textS n) := by
  rw [Nl.sacristyref03_Text.f]
  by_cases h0 : n < 0
  · rw [if_pos h0, textS, if_pos h0]
  · rw [if_neg h0]
    obtain ⟨m, rfl⟩ := Int.eq_ofNat_of_zero_le (show 0 ≤ n by omega)
    have e1 : (wrap64 (48 + Int.tmod (m : Int) 10)) % 256 = 48 + ((m % 10 : Nat) : Int) := by
      rw [Int.tmod_eq_emod_of_nonneg (by omega), wr64 _ (by omega) (by omega)]; omega
    have e2 : wrap64 (Int.tdiv (m : Int) 10) = ((m / 10 : Nat) : Int) := by
      rw [Int.tdiv_eq_ediv_of_nonneg (by omega), wr64 _ (by omega) (by omega)]; omega
    rw [e1, e2, rtext_l0 19 (m / 10) _ (by omega) (by rw [strOfNums_size]; simp) (by omega), text_str]
    congr 1
    by_cases hs : m < 10
    · rw [if_pos (by omega), digs_small m hs, show m % 10 = m by omega]
    · rw [if_neg (by omega), digs_big m hs, str_app]

theorem digs_of_scan : ∀ (k : Nat) (l : List Int) (m : Int), l.length = k → 0 < k → (1 < k → ∀ c r, l = c :: r → c ≠ 48) → decScan l 0 0 = some m → ∃ u : Nat, m = u ∧ digs u = l
  | 0, _, _, _, h, _, _ => by omega
  | k + 1, l, m, hl, _, hh, h => by
    have hne : l ≠ [] := by intro h; rw [h] at hl; simp at hl
    obtain ⟨l', c, rfl⟩ : ∃ l' c, l = l' ++ [c] := ⟨l.dropLast, l.getLast hne, (List.dropLast_concat_getLast hne).symm⟩
    have hl' : l'.length = k := by simpa using hl
    rw [decScan_snoc] at h
    cases hd : decScan l' 0 0 with
    | none => rw [hd] at h; cases h
    | some x =>
      rw [hd, Option.bind_some] at h
      by_cases hc : c < 48 ∨ 57 < c ∨ 0 + l'.length = 13
      · rw [if_pos hc] at h; cases h
      · rw [if_neg hc] at h
        injection h with h
        rcases Nat.eq_zero_or_pos k with h0 | h0
        · have : l' = [] := List.length_eq_zero_iff.1 (by omega)
          subst this
          rw [decScan] at hd
          injection hd with hd
          refine ⟨(c - 48).toNat, by omega, ?_⟩
          rw [digs_small _ (by omega), List.nil_append]
          congr 1; omega
        · obtain ⟨a, r, hr⟩ : ∃ a r, l' = a :: r := by
            cases l' with
            | nil => simp at hl'; omega
            | cons a r => exact ⟨a, r, rfl⟩
          have h48 : a ≠ 48 := hh (by omega) a (r ++ [c]) (by rw [hr]; rfl)
          obtain ⟨u, hu, hdg⟩ := digs_of_scan k l' x hl' h0 (fun _ c' r' e => by rw [hr] at e; injection e with e _; omega) hd
          have hu0 : 0 < u := by
            rcases Nat.eq_zero_or_pos u with h1 | h1
            · subst h1
              rw [digs_small 0 (by decide), hr] at hdg
              injection hdg with hdg _
              omega
            · exact h1
          refine ⟨10 * u + (c - 48).toNat, by omega, ?_⟩
          rw [digs_big _ (by omega), show (10 * u + (c - 48).toNat) / 10 = u by omega, hdg]
          congr 2; omega
/-- What the document's Decimal reads. -/
def rdecR (s : ByteArray) : Int × Bool := ((decS s).getD 0, (decS s).isSome)
theorem rdec_l0 (s : ByteArray) (h13 : s.size ≤ 13) : ∀ (k i : Nat) (n : Int), i ≤ s.size → s.size - i < k → 0 ≤ n → n < 10 ^ i →
    Nl.sacristyref03_Decimal.l0 k s n (i : Int) = some (match decScan ((bytesOf s).drop i) i n with | none => (0, false) | some m => if m > 1099511627776 then (0, false) else (m, true)) := by
  intro k
  induction k with
  | zero => intro i n _ h; omega
  | succ k ih =>
    intro i n hi hk hn0 hn1
    rw [Nl.sacristyref03_Decimal.l0]
    by_cases hlt : i < s.size
    · have hl : i < (bytesOf s).length := by rw [bytesOf_length]; exact hlt
      obtain ⟨c, hc⟩ : ∃ c, (bytesOf s)[i] = c := ⟨_, rfl⟩
      have hc8 := bytesOf_8 s c (by rw [← hc]; exact List.getElem_mem hl)
      have hbt : bt s (i : Int) = c := by
        rw [← hc]
        simp only [bt, bytesOf, List.getElem_map]
        rw [dif_pos (by simpa using hlt)]
        simp [ByteArray.getElem_eq_getElem_data]
      have g1 : (i : Int) < s.size := by omega
      have g2 : (0 : Int) ≤ i := Int.natCast_nonneg _
      rw [if_pos g1, if_pos g2, hbt, List.drop_eq_getElem_cons hl, hc, decScan]
      by_cases h1 : c < 48
      · rw [if_pos h1, if_pos (.inl h1)]
      · rw [if_neg h1]
        by_cases h2 : c > 57
        · rw [if_pos h2, if_pos (.inr (.inl h2))]
        · have g3 : ¬ (c < 48 ∨ 57 < c ∨ i = 13) := by omega
          rw [if_neg h2, if_neg g3]
          have hn2 : n < 10000000000000 := Int.lt_of_lt_of_le hn1 (by
            have : (10 : Int) ^ i ≤ 10 ^ 13 := by
              exact_mod_cast Nat.pow_le_pow_right (by decide) (by omega)
            simpa using this)
          have hn3 : 10 * n + (c - 48) < 10 ^ (i + 1) := by rw [Int.pow_succ]; omega
          have ih' := ih (i + 1) (10 * n + (c - 48)) hlt (by omega) (by omega) hn3
          clear hn1 hn3 ih
          have e1 : wrap64 (10 * n) = 10 * n := wr64 _ (by omega) (by omega)
          rw [e1]
          clear e1
          have e2 : (c - 48) % 256 = c - 48 := by omega
          rw [e2]
          have e3 : wrap64 (10 * n + (c - 48)) = 10 * n + (c - 48) := wr64 _ (by omega) (by omega)
          rw [e3]
          clear e3
          have e4 : wrap64 ((i : Int) + 1) = ((i + 1 : Nat) : Int) := by rw [wr64 _ (by omega) (by omega)]; omega
          rw [e4]
          exact ih'
    · have g1 : ¬ (i : Int) < s.size := by omega
      rw [if_neg g1, Nl.sacristyref03_most.f, Option.bind_some, List.drop_of_length_le (by rw [bytesOf_length]; omega), decScan]
      dsimp only
      split <;> rfl
theorem rdec_scan (s : ByteArray) (h13 : s.size ≤ 13) (h0 : 0 < s.size) (hh : 1 < s.size → ∀ c r, bytesOf s = c :: r → c ≠ 48) :
    Nl.sacristyref03_Decimal.l0 15 s 0 0 = some (rdecR s) := by
  have e := rdec_l0 s h13 15 0 0 (by omega) (by omega) (by decide) (by decide)
  rw [List.drop_zero] at e
  rw [show ((0 : Nat) : Int) = 0 from rfl] at e
  rw [e, rdecR]
  cases hd : decScan (bytesOf s) 0 0 with
  | none =>
    have : decS s = none := by rw [decS, hd]; rfl
    rw [this]; rfl
  | some m =>
    obtain ⟨u, hu, hdg⟩ := digs_of_scan s.size (bytesOf s) m (bytesOf_length s) h0 hh hd
    subst hu
    have hts : textS (u : Int) = s := (str_inj _ _).2 (by rw [bytesOf_textS, hdg])
    dsimp only
    by_cases hbig : (u : Int) > 1099511627776
    · rw [if_pos hbig]
      have : decS s = none := by rw [decS, hd, Option.bind_some, if_pos (.inl hbig)]
      rw [this]; rfl
    · rw [if_neg hbig]
      have : decS s = some (u : Int) := (decS_iff _ _).2 ⟨by omega, by omega, hts⟩
      rw [this]; rfl
theorem rdec_f (s : ByteArray) : Nl.sacristyref03_Decimal.f 16 s = some (rdecR s) := by
  have hlen : ∀ u : Nat, u ≤ 1099511627776 → textS (u : Int) = s → 0 < s.size ∧ s.size ≤ 13 := fun u hu he => by
    rw [← he, text_size]
    exact ⟨digs_pos u, digs_len_le 13 u (by omega) (by decide)⟩
  have hnone : (∀ u : Nat, u ≤ 1099511627776 → textS (u : Int) ≠ s) → rdecR s = (0, false) := fun h => by
    have : decS s = none := by
      cases hd : decS s with
      | none => rfl
      | some n =>
        obtain ⟨h0, h1, h2⟩ := (decS_iff s n).1 hd
        obtain ⟨u, rfl⟩ := Int.eq_ofNat_of_zero_le h0
        exact absurd h2 (h u (by omega))
    rw [rdecR, this]; rfl
  rw [Nl.sacristyref03_Decimal.f]
  by_cases h0 : (s.size : Int) = 0
  · rw [if_pos h0, Nl.sacristyref03_Decimal.j0, if_pos rfl, hnone (fun u hu he => by have := hlen u hu he; omega)]
  · rw [if_neg h0]
    by_cases h13 : (s.size : Int) > 13
    · rw [if_pos h13, Nl.sacristyref03_Decimal.j0, if_pos rfl, hnone (fun u hu he => by have := hlen u hu he; omega)]
    · rw [if_neg h13]
      by_cases h1 : (s.size : Int) > 1
      · rw [if_pos h1, if_pos (by omega), Nl.sacristyref03_Decimal.j0]
        have hl : 0 < (bytesOf s).length := by rw [bytesOf_length]; omega
        have hbt : bt s 0 = (bytesOf s)[0] := by
          simp only [bt, bytesOf, List.getElem_map]
          rw [dif_pos (show (0 : Int).toNat < s.size by omega)]
          simp [ByteArray.getElem_eq_getElem_data]
        by_cases h48 : bt s 0 = 48
        · rw [if_pos (beq_iff_eq.2 h48), hnone]
          intro u hu he
          have e := bytesOf_textS u
          rw [he] at e
          have hx : (digs u)[0]? = some 48 := by rw [← e, List.getElem?_eq_getElem hl, ← hbt, h48]
          have hu0 : u = 0 := by
            rcases Nat.eq_zero_or_pos u with h2 | h2
            · exact h2
            · obtain ⟨c, r, e2, hc⟩ := digs_head u h2
              rw [e2] at hx
              simp at hx
              omega
          subst hu0
          rw [digs_small 0 (by decide)] at e
          have := congrArg List.length e
          rw [bytesOf_length] at this
          simp at this
          omega
        · rw [if_neg (fun h => h48 (beq_iff_eq.1 h))]
          refine rdec_scan s (by omega) (by omega) (fun _ c r e => ?_)
          rw [hbt] at h48
          simp only [e, List.getElem_cons_zero] at h48
          exact h48
      · rw [if_neg h1, Nl.sacristyref03_Decimal.j0, if_neg (by decide)]
        exact rdec_scan s (by omega) (by omega) (fun h => by omega)

theorem rput_calls (n : Int) (w : World) :
    Calls Tryd.prog 14 #[.int .i64 n] w fun e w' => ∃ v0_ : Value, e = .returned (v0_) ∧ Kd.R (Kd.int .u8) 5 w' w.heap.size (fun _ => True) v0_ (putL n) ∧ Below w.heap.size w w' :=
  Nl.sacristyref03_Put.calls 7 n (putL n) w (rput_f n)
theorem below_drawn {w w' : World} (h : Drawn0 w w') : Below w.heap.size w w' := by
  obtain ⟨n, rfl⟩ := h
  exact pw_below_drewN (Below.refl _ _) n
theorem rget_at (A : Option Addr) (c m : Nat) (l : List Int) (r : Option (Int × Nat)) (w : World) (hm : l.length = m) (hC : (Kd.int .u8).C w A l.length l) (hc : m ≤ c) (h8 : ∀ x ∈ l, 0 ≤ x ∧ x < 256) (hr : getR l 0 0 = r) :
    Calls Tryd.prog 10 #[.slice A m c] w fun e w' => e = .returned (.tuple #[.int .i64 (tri r).1, .int .i64 (tri r).2.1, .bool (tri r).2.2]) ∧ Below w.heap.size w w' := by
  subst hm; subst hr
  exact (Nl.sacristyref03_Get.calls 16 A c l _ _ _ w hC hc (rget_f l h8)).mono fun e w' h => ⟨h.1, below_drawn h.2⟩
theorem rdecimal_at (s : ByteArray) (d : Option Int) (w : World) (hd : decS s = d) :
    Calls Tryd.prog 12 #[.string s] w fun e w' => e = .returned (.tuple #[.int .i64 (d.getD 0), .bool d.isSome]) ∧ Below w.heap.size w w' := by
  subst hd
  exact (Nl.sacristyref03_Decimal.calls 16 s _ _ w (rdec_f s)).mono fun e w' h => ⟨h.1, below_drawn h.2⟩
theorem rtext_at (n : Int) (s : ByteArray) (w : World) (h1 : n ≤ 9223372036854775807) (hs : textS n = s) :
    Calls Tryd.prog 16 #[.int .i64 n] w fun e w' => e = .returned (.string s) ∧ Below w.heap.size w w' := by
  subst hs
  exact Nl.sacristyref03_Text.calls 20 n _ w (rtext_f n h1)
end Go.Proofs.YticagpejankjcaaDoor.Nb
