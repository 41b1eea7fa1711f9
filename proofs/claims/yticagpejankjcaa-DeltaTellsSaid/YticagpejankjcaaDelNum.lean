/- The plain laws of numbers, at this seat: what num's and the document's Put and Get compute, and their contracts. No condition but the numbers' reach. -/
import Derived.Test.YticagpejankjcaaDelBuild
import Derived.Test.YticagpejankjcaaDelLeaf
import Derived.Laws.BitsLemmas
namespace Go.Proofs.Yticagpejankjcaa.Db
set_option linter.unusedVariables false
set_option linter.unusedSimpArgs false
open Go.RowKit Go.Proofs.YticagpejankjcaaW.PrintWords Go.Proofs.YticagpejankjcaaW.PrintLast Go.Proofs.YticagpejankjcaaW.PrintMore

theorem index_str (s : ByteArray) (i : Nat) (v : Int) (h : (bytesOf s)[i]? = some v) (j : Int) (hj : j = i) (w : World) :
    (Instr.index 9 (.string s) (.int .i64 j)).run Try.prog w = .ok (.int .u8 v) w := by
  subst hj
  have hl : i < s.size := by
    rcases Nat.lt_or_ge i s.size with h1 | h1
    · exact h1
    · rw [List.getElem?_eq_none (by rw [bytesOf_length]; exact h1)] at h; cases h
  simp [Instr.index, asIntOf, Try.underlying9, hl]
  simp only [bytesOf, List.getElem?_map, Option.map_eq_some_iff] at h
  obtain ⟨a, ha, rfl⟩ := h
  have h2 : i < s.data.toList.length := by simpa using hl
  rw [List.getElem?_eq_getElem h2] at ha
  injection ha with ha
  rw [← ha]
  rfl

theorem bytesOf_8 (s : ByteArray) : ∀ x ∈ bytesOf s, 0 ≤ x ∧ x < 256 := by
  intro x hx
  simp only [bytesOf, List.mem_map] at hx
  obtain ⟨a, _, rfl⟩ := hx
  have := a.toNat_lt
  omega

theorem cell_of (w : World) (b T : Nat) (xs : Array Value) (h : w.heap[b]? = some (.cells xs T (0, 0))) (j : Nat) (v : Value) (hv : xs[j]? = some v) : w.cell? ⟨b, j, none⟩ = some v := by
  simp [World.cell?, h, hv]

theorem add_0 (b j : Nat) : (⟨b, 0, none⟩ : Addr).add j = ⟨b, j, none⟩ := by
  unfold Addr.add
  split <;> simp_all

theorem C_new (W : World) (l : List Int) (hl : l.length ≤ 9223372036854775807) : (Kd.int .u8).C (W.alloc (.cells (l.map (Value.int .u8)).toArray 5)) (some ⟨W.heap.size, 0, none⟩) l.length l := by
  refine Kd.C_of_reads (enc := Value.int .u8) (d := (0 : Int)) ⟨rfl, hl, fun _ => ⟨_, rfl, fun j hj => ?_⟩⟩
  have h : (W.alloc (.cells (l.map (Value.int .u8)).toArray 5)).heap[W.heap.size]? = some (.cells (l.map (Value.int .u8)).toArray 5 (0, 0)) := by
    show (W.heap.push _)[W.heap.size]? = _
    simp
  rw [add_0]
  refine cell_of _ _ _ _ h j _ ?_
  have hj2 : j < l.length := hj
  simp [hj2]

theorem w64 (n : Int) (h0 : 0 ≤ n) (h1 : n < 2 ^ 63) : IntKind.i64.wrap n = n := by rw [IntKind.wrap_i64]; omega

theorem wr64 (n : Int) (h0 : 0 ≤ n) (h1 : n < 9223372036854775808) : wrap64 n = n := by unfold wrap64; omega

theorem and_127 (x : Int) (h0 : 0 ≤ x) (h1 : x < 256) : Go.bits .and .u8 x 127 = x % 128 := bits_mask .u8 8 (by decide) wraps_u8 7 (by decide) x h0 h1

theorem or_128 (x : Int) (h0 : 0 ≤ x) (h1 : x < 256) : Go.bits .or .u8 x 128 = x % 128 + 128 := by
  obtain ⟨a, rfl⟩ := Int.eq_ofNat_of_zero_le h0
  have ha : a < 2 ^ 8 := by omega
  rw [show (128 : Int) = ((128 : Nat) : Int) from rfl, (bits_nat .u8 8 (by decide) wraps_u8 a 128 ha (by decide)).2]
  have h : ∀ a : Nat, a < 256 → a ||| 128 = a % 128 + 128 := by decide +kernel
  rw [h a (by omega)]
  simp

theorem or_up (n y : Int) (i : Nat) (h0 : 0 ≤ n) (h1 : n < 2 ^ i) (hi : i ≤ 42) (hy0 : 0 ≤ y) (hy1 : y < 128) : Go.bits .or .i64 n (y * 2 ^ i) = n + y * 2 ^ i := by
  have hp : (0 : Int) < 2 ^ i := Int.pow_pos (by decide)
  have hz : (2 : Int) ^ i ≤ 2 ^ 42 := by exact_mod_cast Nat.pow_le_pow_right (by decide) hi
  have hm : y * 2 ^ i < 2 ^ 63 := Int.lt_of_lt_of_le (Int.mul_lt_mul_of_pos_right hy1 hp) (by omega)
  have h2 : (0 : Int) ≤ y * 2 ^ i := Int.mul_nonneg hy0 (Int.le_of_lt hp)
  have hj := bits_join .i64 63 (by decide) w64 i (y * 2 ^ i) n h2 (by rw [Int.mul_emod_left]) hm h0 h1 (by omega)
  have hc : Go.bits .or .i64 n (y * 2 ^ i) = Go.bits .or .i64 (y * 2 ^ i) n := by
    obtain ⟨a, ha⟩ := Int.eq_ofNat_of_zero_le h0
    obtain ⟨b, hb⟩ := Int.eq_ofNat_of_zero_le h2
    rw [ha, hb]
    rw [hb] at hm
    have hn : n < 2 ^ 63 := by omega
    rw [ha] at hn
    have q1 : a < 2 ^ 63 := by exact_mod_cast hn
    have q2 : b < 2 ^ 63 := by exact_mod_cast hm
    rw [(bits_nat .i64 63 (by decide) w64 a b q1 q2).2, (bits_nat .i64 63 (by decide) w64 b a q2 q1).2, Nat.or_comm]
  rw [hc, hj]; omega

/-- A number's bytes. -/
def putN : Nat → Nat → List Int
  | 0, _ => []
  | k + 1, n => if n < 128 then [(n : Int)] else (((n % 128 : Nat) : Int) + 128) :: putN k (n / 128)

/-- The number that bytes begin with, from place i on, n being read. -/
def getR : List Int → Nat → Int → Option (Int × Nat)
  | [], _, _ => none
  | b :: r, i, n => if i = 6 then none else if 128 ≤ b then getR r (i + 1) (n + b % 128 * 2 ^ (7 * i))
    else if i = 0 ∨ 0 < b then (if n + b % 128 * 2 ^ (7 * i) ≤ 1099511627776 then some (n + b % 128 * 2 ^ (7 * i), i + 1) else none) else none

theorem mn_lt (i len : Nat) (h : i < len) (h6 : i < 6) : (i : Int) < mn (len : Int) 6 := by
  unfold mn
  split
  · omega
  · omega

theorem w7 (i : Nat) (h6 : i < 6) : 0 ≤ wrap64 (7 * (i : Int)) := by
  rw [wr64 (7 * (i : Int)) (by omega) (by omega)]
  omega

def tri : Option (Int × Nat) → Int × Int × Bool
  | none => (0, 0, false)
  | some (n, i) => (n, i, true)

set_option maxHeartbeats 1000000 in
theorem get_l0 (l : List Int) (h8 : ∀ x ∈ l, 0 ≤ x ∧ x < 256) : ∀ (k i : Nat) (n : Int), i ≤ l.length → i ≤ 6 → 6 - i < k → 0 ≤ n → n < 2 ^ (7 * i) →
    Nl.num_Get.l0 k l n (mn (l.length : Int) 6) (i : Int) = some (tri (getR (l.drop i) i n)) := by
  intro k
  induction k with
  | zero => intro i n _ _ h; omega
  | succ k ih =>
    intro i n hi hi6 hk hn0 hn1
    have hmn : mn (l.length : Int) 6 = if (l.length : Int) < 6 then (l.length : Int) else 6 := by
      unfold mn; split <;> split <;> omega
    rw [Nl.num_Get.l0]
    by_cases hlt : i < l.length ∧ i < 6
    · have hb := h8 l[i] (List.getElem_mem hlt.1)
      rw [List.drop_eq_getElem_cons hlt.1, getR]
      have hrd : rd l (i : Int) = l[i] := by simp [rd, hlt.1]
      obtain ⟨b, hbe⟩ : ∃ b, l[i] = b := ⟨_, rfl⟩
      rw [hrd, hbe]
      rw [hbe] at hb
      have hsh : shl .i64 (wrap64 (Go.bits .and .u8 b 127)) (wrap64 (7 * (i : Int))) = b % 128 * 2 ^ (7 * i) := by
        rw [and_127 b hb.1 hb.2, wr64 (b % 128) (by omega) (by omega), wr64 (7 * (i : Int)) (by omega) (by omega), shl]
        have e1 : (7 * (i : Int)).toNat = 7 * i := by omega
        have e2 : min (7 * i) IntKind.i64.bits = 7 * i := Nat.min_eq_left (by have : IntKind.i64.bits = 64 := rfl; omega)
        rw [e1, e2]
        have hp : (0 : Int) < 2 ^ (7 * i) := Int.pow_pos (by decide)
        have hz : (2 : Int) ^ (7 * i) ≤ 2 ^ 42 := by exact_mod_cast Nat.pow_le_pow_right (by decide) (by omega)
        refine w64 _ (Int.mul_nonneg (by omega) (Int.le_of_lt hp)) ?_
        exact Int.lt_of_lt_of_le (Int.mul_lt_mul_of_pos_right (show b % 128 < 128 by omega) hp) (by omega)
      have hor : Go.bits .or .i64 n (b % 128 * 2 ^ (7 * i)) = n + b % 128 * 2 ^ (7 * i) := or_up n (b % 128) (7 * i) hn0 hn1 (by omega) (by omega) (by omega)
      rw [hsh, hor]
      have hm0 : 0 ≤ n + b % 128 * 2 ^ (7 * i) := Int.add_nonneg hn0 (Int.mul_nonneg (by omega) (Int.le_of_lt (Int.pow_pos (by decide))))
      have hm1 : n + b % 128 * 2 ^ (7 * i) < 2 ^ (7 * (i + 1)) := by
        have e : (2 : Int) ^ (7 * (i + 1)) = 128 * 2 ^ (7 * i) := by rw [show 7 * (i + 1) = 7 * i + 7 by omega, Int.pow_add]; omega
        have hp : (0 : Int) < 2 ^ (7 * i) := Int.pow_pos (by decide)
        have : b % 128 * 2 ^ (7 * i) ≤ 127 * 2 ^ (7 * i) := Int.mul_le_mul_of_nonneg_right (by omega) (Int.le_of_lt hp)
        rw [e]; omega
      obtain ⟨m, hm⟩ : ∃ m, n + b % 128 * 2 ^ (7 * i) = m := ⟨_, rfl⟩
      rw [hm] at hm0 hm1 ⊢
      have hw : wrap64 ((i : Int) + 1) = ((i + 1 : Nat) : Int) := by rw [wr64 _ (by omega) (by omega)]; omega
      rw [hw]
      have hi5 := hlt.2
      have hil := hlt.1
      have g1 : (i : Int) < mn (l.length : Int) 6 := mn_lt i l.length hil hi5
      have g2 : (0 : Int) ≤ i := Int.natCast_nonneg _
      have g3 : (i : Int) < l.length := Int.ofNat_lt.2 hil
      have g4 : 0 ≤ wrap64 (7 * (i : Int)) := w7 i hi5
      rw [if_pos g1, if_pos g2, if_pos g3, if_pos g4, if_neg (show ¬ i = 6 from Nat.ne_of_lt hi5)]
      clear g1 g2 g3 g4 hsh hor hn1 hn0
      by_cases h127 : 127 < b
      · rw [if_pos h127, if_pos (show 128 ≤ b from h127)]
        exact ih (i + 1) m hil hi5 (by clear hm0 hm1 ih hm; omega) hm0 hm1
      · rw [if_neg h127, if_neg (show ¬ 128 ≤ b from h127)]
        by_cases hi0 : i = 0
        · rw [if_pos (show (i : Int) = 0 from by rw [hi0]; rfl), if_pos (show i = 0 ∨ 0 < b from .inl hi0)]
          split <;> simp only [tri]
        · rw [if_neg (show ¬ (i : Int) = 0 from fun h => hi0 (Int.ofNat.inj h))]
          by_cases hb0 : 0 < b
          · rw [if_pos hb0, if_pos (show i = 0 ∨ 0 < b from .inr hb0)]
            split <;> simp only [tri]
          · rw [if_neg hb0, if_neg (show ¬ (i = 0 ∨ 0 < b) from fun h => h.elim hi0 hb0)]
            simp only [tri]
    · rw [if_neg (by rw [hmn]; split <;> omega)]
      have : getR (l.drop i) i n = none := by
        rcases Nat.lt_or_ge i l.length with h | h
        · rw [List.drop_eq_getElem_cons h, getR, if_pos (by omega)]
        · rw [List.drop_of_length_le h]; rfl
      rw [this]; simp only [tri]

theorem get_f (l : List Int) (h8 : ∀ x ∈ l, 0 ≤ x ∧ x < 256) : Nl.num_Get.f 8 l = some (tri (getR l 0 0)) := get_l0 l h8 8 0 0 (by omega) (by omega) (by omega) (by decide) (by decide)

theorem put_l0 : ∀ (k n : Nat) (acc : List Int), n < 128 ^ k → 0 < k → acc.length + k < 1000 → Nl.num_Put.l0 k (n : Int) acc = some (acc ++ putN k n)
  | 0, n, acc, _, h, _ => by omega
  | k + 1, n, acc, hn, _, ha => by
    rw [Nl.num_Put.l0, putN]
    have hacc : acc.length < 140737488355328 := by omega
    by_cases h : n < 128
    · rw [if_neg (show ¬ (n : Int) > 127 by omega), if_pos hacc, if_pos h, show (n : Int) % 256 = n by omega]
    · rw [if_pos (show (n : Int) > 127 by omega), if_pos hacc, if_neg h]
      have hk : 0 < k := by
        rcases Nat.eq_zero_or_pos k with h0 | h0
        · subst h0; simp at hn; omega
        · exact h0
      have hn2 : n / 128 < 128 ^ k := by
        rw [Nat.pow_succ] at hn
        exact Nat.div_lt_of_lt_mul (by rw [Nat.mul_comm]; exact hn)
      have e := put_l0 k (n / 128) (acc ++ [Go.bits .or .u8 ((n : Int) % 256) 128]) hn2 hk (by simp; omega)
      rw [show ((n / 128 : Nat) : Int) = (n : Int) / 128 by omega] at e
      rw [e, or_128 _ (by omega) (by omega), List.append_assoc]
      have : (n : Int) % 256 % 128 + 128 = ((n % 128 : Nat) : Int) + 128 := by omega
      rw [this]
      rfl

/-- A number's bytes, or none. -/
def putL (n : Int) : List Int := if n < 0 ∨ 1099511627776 < n then [] else putN 6 n.toNat

theorem put_f (n : Int) : Nl.num_Put.f 7 n = some (putL n) := by
  rw [Nl.num_Put.f, putL]
  by_cases h0 : n < 0
  · rw [if_pos h0, if_pos (show n < 0 ∨ 1099511627776 < n from .inl h0), Nl.num_Put.j0, if_pos rfl]
  · rw [if_neg h0]
    by_cases h1 : 1099511627776 < n
    · rw [if_pos (show n < 0 ∨ 1099511627776 < n from .inr h1), Nl.num_Put.j0, if_pos (decide_eq_true h1)]
    · rw [if_neg (show ¬ (n < 0 ∨ 1099511627776 < n) from fun h => h.elim h0 h1), Nl.num_Put.j0, if_neg (by simp; omega)]
      have hn : n.toNat < 128 ^ 6 := by omega
      have e := put_l0 6 n.toNat [] hn (by decide) (by decide)
      rw [show ((n.toNat : Nat) : Int) = n by omega] at e
      exact e

/-- Get reads a number's bytes back, whatever is behind. -/
theorem get_put : ∀ (k n i : Nat) (m : Int) (more : List Int), n < 128 ^ k → 0 < k → k + i ≤ 6 → (i = 0 ∨ 0 < n) → m + n * 2 ^ (7 * i) ≤ 1099511627776 →
    getR (putN k n ++ more) i m = some (m + n * 2 ^ (7 * i), i + (putN k n).length)
  | 0, _, _, _, _, _, h, _, _, _ => by omega
  | k + 1, n, i, m, more, hn, _, hi, hz, hm => by
    rw [putN]
    by_cases h : n < 128
    · have e : (n : Int) % 128 = n := by omega
      rw [if_pos h, List.singleton_append, getR, if_neg (show ¬ i = 6 from fun h => by omega), if_neg (show ¬ 128 ≤ (n : Int) from fun h2 => by omega), if_pos (show i = 0 ∨ 0 < (n : Int) from hz.imp id (fun h => by omega)), e, if_pos hm]
      rfl
    · have hi5 : ¬ i = 6 := fun h => by omega
      have hk : 0 < k := by
        rcases Nat.eq_zero_or_pos k with h0 | h0
        · subst h0; simp at hn; omega
        · exact h0
      have hn2 : n / 128 < 128 ^ k := by
        rw [Nat.pow_succ] at hn
        exact Nat.div_lt_of_lt_mul (by rw [Nat.mul_comm]; exact hn)
      have e : (2 : Int) ^ (7 * (i + 1)) = 128 * 2 ^ (7 * i) := by rw [show 7 * (i + 1) = 7 * i + 7 by omega, Int.pow_add, Int.mul_comm]; rfl
      have hb : (((n % 128 : Nat) : Int) + 128) % 128 = ((n % 128 : Nat) : Int) := by omega
      have hs : m + ((n % 128 : Nat) : Int) * 2 ^ (7 * i) + ((n / 128 : Nat) : Int) * 2 ^ (7 * (i + 1)) = m + n * 2 ^ (7 * i) := by
        have hq : (n : Int) = ((n % 128 : Nat) : Int) + ((n / 128 : Nat) : Int) * 128 := by omega
        rw [e]
        conv => rhs; rw [hq, Int.add_mul]
        rw [Int.mul_assoc, Int.add_assoc]
      have hge : 128 ≤ ((n % 128 : Nat) : Int) + 128 := by omega
      rw [if_neg h, List.cons_append, getR, if_neg hi5, if_pos hge, hb]
      rw [get_put k (n / 128) (i + 1) _ more hn2 hk (by omega) (.inr (by omega)) (by rw [hs]; exact hm), hs]
      simp only [List.length_cons]
      congr 2
      omega

/-- What is cut of a number's bytes is none's. -/
theorem get_cut : ∀ (k n i j : Nat) (m : Int), j < (putN k n).length → getR ((putN k n).take j) i m = none
  | 0, _, _, _, _, h => by simp [putN] at h
  | k + 1, n, i, j, m, h => by
    rw [putN] at h ⊢
    by_cases h1 : n < 128
    · rw [if_pos h1] at h ⊢
      have : j = 0 := by simp at h; omega
      subst this
      rfl
    · rw [if_neg h1] at h ⊢
      cases j with
      | zero => rfl
      | succ j =>
        have hge : 128 ≤ ((n % 128 : Nat) : Int) + 128 := by omega
        rw [List.take_succ_cons, getR]
        by_cases hi : i = 6
        · rw [if_pos hi]
        · rw [if_neg hi, if_pos hge]
          exact get_cut k (n / 128) (i + 1) j _ (by simpa using h)

theorem put_calls (n : Int) (w : World) :
    Calls Try.prog 23 #[.int .i64 n] w fun e w' => ∃ v0_ : Value, e = .returned (v0_) ∧ Kd.R (Kd.int .u8) 5 w' w.heap.size (fun _ => True) v0_ (putL n) ∧ Below w.heap.size w w' :=
  Nl.num_Put.calls 7 n (putL n) w (put_f n)

theorem get_calls (A : Option Addr) (c : Nat) (l : List Int) (w : World) (hC : (Kd.int .u8).C w A l.length l) (hc : l.length ≤ c) (h8 : ∀ x ∈ l, 0 ≤ x ∧ x < 256) :
    Calls Try.prog 30 #[.slice A l.length c] w fun e w' => e = .returned (.tuple #[.int .i64 (tri (getR l 0 0)).1, .int .i64 (tri (getR l 0 0)).2.1, .bool (tri (getR l 0 0)).2.2]) ∧ Below w.heap.size w w' :=
  Nl.num_Get.calls 8 A c l _ _ _ w hC hc (get_f l h8)

theorem get_at (A : Option Addr) (c m : Nat) (l : List Int) (r : Option (Int × Nat)) (w : World) (hm : l.length = m) (hC : (Kd.int .u8).C w A l.length l) (hc : m ≤ c) (h8 : ∀ x ∈ l, 0 ≤ x ∧ x < 256) (hr : getR l 0 0 = r) :
    Calls Try.prog 30 #[.slice A m c] w fun e w' => e = .returned (.tuple #[.int .i64 (tri r).1, .int .i64 (tri r).2.1, .bool (tri r).2.2]) ∧ Below w.heap.size w w' := by
  subst hm; subst hr
  exact get_calls A c l w hC hc h8

theorem own_empty (w1 : World) (B : Nat) (h : B ≤ w1.heap.size) : (Kd.int .u8).R 5 (w1.alloc (.cells #[] 5)) B (fun _ => True) (.slice (some ⟨w1.heap.size, 0, none⟩) 0 0) [] := by
  refine ⟨fun _ _ => trivial, [], ?_, rfl, fun i p hp => by simp at hp⟩
  have := World.ownsRow_lit (base := B) (e := 5) (size := 1) w1 #[] 0 h (by decide) (by simp)
  exact (by simpa using this : (w1.alloc (.cells #[] 5)).ownsRow B 5 1 (.slice (some ⟨w1.heap.size, 0, none⟩) 0 0) 0 [])

theorem below_size {w w' : World} (h : Below w.heap.size w w') : w.heap.size ≤ w'.heap.size := h.size

theorem putN_len : ∀ (k n : Nat), (putN k n).length ≤ k
  | 0, _ => Nat.le_refl _
  | k + 1, n => by
    rw [putN]
    split
    · simp
    · have := putN_len k (n / 128); simp; omega

theorem putN_8 : ∀ (k n : Nat), ∀ x ∈ putN k n, 0 ≤ x ∧ x < 256
  | 0, _, x, h => by cases h
  | k + 1, n, x, h => by
    rw [putN] at h
    split at h
    · rw [List.mem_singleton] at h; omega
    · rcases List.mem_cons.1 h with h | h
      · omega
      · exact putN_8 k _ x h

theorem putN_pos (k n : Nat) : 0 < (putN (k + 1) n).length := by
  rw [putN]; split <;> simp

theorem putL_bad (n : Int) (h : n < 0 ∨ 1099511627776 < n) : putL n = [] := by rw [putL, if_pos h]

theorem putL_good (n : Int) (h0 : 0 ≤ n) (h1 : n ≤ 1099511627776) : putL n = putN 6 n.toNat := by rw [putL, if_neg (by omega)]

theorem putL_len (n : Int) : (putL n).length ≤ 6 := by
  rw [putL]; split
  · simp
  · exact putN_len _ _

theorem putL_8 (n : Int) : ∀ x ∈ putL n, 0 ≤ x ∧ x < 256 := by
  rw [putL]; split
  · intro x h; cases h
  · exact putN_8 _ _

theorem putL_pos (n : Int) (h0 : 0 ≤ n) (h1 : n ≤ 1099511627776) : 0 < (putL n).length := by rw [putL_good n h0 h1]; exact putN_pos _ _

/-- Read with any bytes behind it is read. -/
theorem get_putL (n : Int) (more : List Int) (h0 : 0 ≤ n) (h1 : n ≤ 1099511627776) : getR (putL n ++ more) 0 0 = some (n, (putL n).length) := by
  rw [putL_good n h0 h1, get_put 6 n.toNat 0 0 more (by omega) (by decide) (by decide) (.inl rfl) (by omega)]
  congr 2 <;> omega

theorem cut_putL (n : Int) (j : Nat) (h : j < (putL n).length) : getR ((putL n).take j) 0 0 = none := by
  rw [putL] at h ⊢
  split
  · rename_i hc; rw [if_pos hc] at h; simp at h
  · rename_i hc; rw [if_neg hc] at h; exact get_cut 6 _ 0 j 0 h

theorem of_i64 {a : Int} (h : (Lit.int .i64 a).wf = true) : -9223372036854775808 ≤ a ∧ a ≤ 9223372036854775807 := by
  simp [Lit.wf, IntKind.min, IntKind.max, IntKind.signed, IntKind.bits] at h
  omega

theorem of_u8 {a : Int} (h : (Lit.int .u8 a).wf = true) : 0 ≤ a ∧ a < 256 := by
  simp [Lit.wf, IntKind.min, IntKind.max, IntKind.signed, IntKind.bits] at h
  omega

theorem of_u16 {a : Int} (h : (Lit.int .u16 a).wf = true) : 0 ≤ a ∧ a < 65536 := by
  simp [Lit.wf, IntKind.min, IntKind.max, IntKind.signed, IntKind.bits] at h
  omega

theorem of_u32 {a : Int} (h : (Lit.int .u32 a).wf = true) : 0 ≤ a ∧ a < 4294967296 := by
  simp [Lit.wf, IntKind.min, IntKind.max, IntKind.signed, IntKind.bits] at h
  omega

theorem toList_inj (s t : ByteArray) : s.toList = t.toList ↔ bytesOf s = bytesOf t := by
  rw [ByteArray.toList_eq, ByteArray.toList_eq]
  constructor
  · intro h; unfold bytesOf; rw [h]
  · intro h
    unfold bytesOf at h
    refine (List.map_inj_right ?_).1 h
    intro x y hxy
    have : x.toNat = y.toNat := by omega
    exact UInt8.toNat_inj.1 this

theorem str_inj (s t : ByteArray) : s = t ↔ bytesOf s = bytesOf t := by
  constructor
  · rintro rfl; rfl
  · intro h
    have := (toList_inj s t).2 h
    rw [ByteArray.toList_eq, ByteArray.toList_eq] at this
    exact ByteArray.ext (Array.toList_inj.1 this)

theorem bytesOf_str (xs : List Int) (h : ∀ x ∈ xs, 0 ≤ x ∧ x < 256) : bytesOf (strOfNums xs) = xs := by
  simp only [bytesOf, strOfNums, List.map_map]
  refine List.ext_getElem (by simp) fun i h1 h2 => ?_
  have := h xs[i] (List.getElem_mem h2)
  simp
  omega

theorem bytesOf_append (a b : ByteArray) : bytesOf (a ++ b) = bytesOf a ++ bytesOf b := by
  simp [bytesOf, ByteArray.data_append]

/-- Two texts' equality, as the walk spells it, of their bytes'. -/
theorem str_eq (xs ys : List Int) (hx : ∀ x ∈ xs, 0 ≤ x ∧ x < 256) (hy : ∀ x ∈ ys, 0 ≤ x ∧ x < 256) : ((strOfNums xs).toList == (strOfNums ys).toList) = decide (xs = ys) := by
  by_cases h : xs = ys
  · rw [h, decide_eq_true rfl]; exact beq_iff_eq.2 rfl
  · rw [decide_eq_false h]
    refine beq_eq_false_iff_ne.2 fun e => h ?_
    have := (toList_inj _ _).1 e
    rwa [bytesOf_str xs hx, bytesOf_str ys hy] at this

theorem putN_mono : ∀ (k a b : Nat), a ≤ b → (putN k a).length ≤ (putN k b).length
  | 0, a, b, _ => Nat.le_refl _
  | k + 1, a, b, h => by
    rw [putN, putN]
    split
    · split <;> simp
    · rw [if_neg (by omega)]
      have := putN_mono k (a / 128) (b / 128) (by omega)
      simpa using this

theorem putL_mono (a b : Int) (h0 : 0 ≤ a) (h : a ≤ b) (hb : b ≤ 1099511627776) : (putL a).length ≤ (putL b).length := by
  rw [putL_good a h0 (by omega), putL_good b (by omega) hb]
  exact putN_mono 6 _ _ (by omega)

/-- What Get reads has the bytes that it was read of. -/
theorem get_inv : ∀ (l : List Int) (i : Nat) (n z : Int) (k : Nat), (∀ x ∈ l, 0 ≤ x ∧ x < 256) → i ≤ 6 → getR l i n = some (z, k) →
    ∃ m u : Nat, k = i + m ∧ 1 ≤ m ∧ m ≤ l.length ∧ z = n + u * 2 ^ (7 * i) ∧ putN (6 - i) u = l.take m ∧ (i = 0 ∨ 0 < u) ∧ z ≤ 1099511627776
  | [], i, n, z, k, _, _, h => by cases h
  | b :: r, i, n, z, k, h8, hi, h => by
    rw [getR] at h
    by_cases h6 : i = 6
    · rw [if_pos h6] at h; cases h
    have hb := h8 b List.mem_cons_self
    have hi6 : 6 - i = (6 - (i + 1)) + 1 := by omega
    rw [if_neg h6] at h
    by_cases hge : 128 ≤ b
    · rw [if_pos hge] at h
      obtain ⟨m, u, e1, e2, e3, e4, e5, e6, e7⟩ := get_inv r (i + 1) _ z k (fun x hx => h8 x (List.mem_cons_of_mem _ hx)) (by omega) h
      have hu : 0 < u := by rcases e6 with h | h <;> omega
      obtain ⟨c, hc⟩ := Int.eq_ofNat_of_zero_le hb.1
      subst hc
      refine ⟨m + 1, c % 128 + 128 * u, by omega, by omega, by simpa using e3, ?_, ?_, .inr (by omega), e7⟩
      · rw [e4]
        have e : (2 : Int) ^ (7 * (i + 1)) = 128 * 2 ^ (7 * i) := by rw [show 7 * (i + 1) = 7 * i + 7 by omega, Int.pow_add, Int.mul_comm]; rfl
        rw [e]
        push_cast
        rw [Int.add_mul, Int.add_assoc, Int.mul_comm 128 (u : Int), Int.mul_assoc]
      · rw [hi6, putN, if_neg (by omega), List.take_succ_cons, show (c % 128 + 128 * u) / 128 = u by omega, e5]
        congr 1
        omega
    · rw [if_neg hge] at h
      by_cases h0 : i = 0 ∨ 0 < b
      · rw [if_pos h0] at h
        by_cases hle : n + b % 128 * 2 ^ (7 * i) ≤ 1099511627776
        · rw [if_pos hle] at h
          cases h
          obtain ⟨c, hc⟩ := Int.eq_ofNat_of_zero_le hb.1
          subst hc
          refine ⟨1, c, rfl, by omega, by simp, ?_, ?_, by omega, hle⟩
          · congr 2; omega
          · rw [hi6, putN, if_pos (by omega)]; rfl
        · rw [if_neg hle] at h; cases h
      · rw [if_neg h0] at h; cases h

theorem get_back (l : List Int) (z : Int) (k : Nat) (h8 : ∀ x ∈ l, 0 ≤ x ∧ x < 256) (h : getR l 0 0 = some (z, k)) :
    1 ≤ k ∧ k ≤ l.length ∧ putL z = l.take k ∧ 0 ≤ z ∧ z ≤ 1099511627776 := by
  obtain ⟨m, u, e1, e2, e3, e4, e5, _, e7⟩ := get_inv l 0 0 z k h8 (by decide) h
  have hz : z = u := by rw [e4]; simp
  have hk : k = m := by omega
  subst hz; subst hk
  exact ⟨e2, e3, by rw [putL_good _ (by omega) e7]; exact e5, by omega, e7⟩

theorem rput_l0 : ∀ (k n : Nat) (acc : List Int), n < 128 ^ k → 0 < k → acc.length + k < 1000 → n < 2 ^ 63 → Nl.sacristyref03_Put.l0 k (n : Int) acc = some (acc ++ putN k n)
  | 0, n, acc, _, h, _, _ => by omega
  | k + 1, n, acc, hn, _, ha, h63 => by
    rw [Nl.sacristyref03_Put.l0, putN]
    have hacc : acc.length < 140737488355328 := by omega
    by_cases h : n < 128
    · rw [if_neg (show ¬ (n : Int) ≥ 128 by omega), if_pos hacc, if_pos h, show (n : Int) % 256 = n by omega]
    · rw [if_pos (show (n : Int) ≥ 128 by omega), if_pos hacc, if_neg h]
      have hk : 0 < k := by
        rcases Nat.eq_zero_or_pos k with h0 | h0
        · subst h0; simp at hn; omega
        · exact h0
      have hn2 : n / 128 < 128 ^ k := by
        rw [Nat.pow_succ] at hn
        exact Nat.div_lt_of_lt_mul (by rw [Nat.mul_comm]; exact hn)
      have e1 : Int.tmod (n : Int) 128 = ((n % 128 : Nat) : Int) := by rw [Int.tmod_eq_emod_of_nonneg (by omega)]; omega
      have e2 : wrap64 (Int.tdiv (n : Int) 128) = ((n / 128 : Nat) : Int) := by
        rw [Int.tdiv_eq_ediv_of_nonneg (by omega), wr64 _ (by omega) (by omega)]; omega
      have e3 : (((n % 128 : Nat) : Int) + 128) % 256 = ((n % 128 : Nat) : Int) + 128 := by omega
      rw [e1, e2, e3, rput_l0 k (n / 128) _ hn2 hk (by simp; omega) (by omega), List.append_assoc]
      rfl

theorem rput_f (n : Int) : Nl.sacristyref03_Put.f 7 n = some (putL n) := by
  rw [Nl.sacristyref03_Put.f, putL]
  by_cases h0 : n < 0
  · rw [if_pos h0, if_pos (show n < 0 ∨ 1099511627776 < n from .inl h0), Nl.sacristyref03_Put.j0, if_pos rfl]
  · rw [if_neg h0, Nl.sacristyref03_most.f, Option.bind_some]
    by_cases h1 : 1099511627776 < n
    · rw [if_pos (show n < 0 ∨ 1099511627776 < n from .inr h1), Nl.sacristyref03_Put.j0, if_pos (decide_eq_true h1)]
    · rw [if_neg (show ¬ (n < 0 ∨ 1099511627776 < n) from fun h => h.elim h0 h1), Nl.sacristyref03_Put.j0, if_neg (by simp; omega)]
      have e := rput_l0 6 n.toNat [] (by omega) (by decide) (by decide) (by omega)
      rw [show ((n.toNat : Nat) : Int) = n by omega] at e
      exact e

theorem pw7 (i : Nat) (h : i < 6) : (0 : Int) < 2 ^ (7 * i) ∧ (2 : Int) ^ (7 * i) ≤ 4398046511104 ∧ (2 : Int) ^ (7 * i) * 128 = 2 ^ (7 * (i + 1)) := by
  have h1 : 7 * i ≤ 42 := by omega
  refine ⟨Int.pow_pos (by decide), ?_, ?_⟩
  · have : (2 : Int) ^ (7 * i) ≤ 2 ^ 42 := by exact_mod_cast Nat.pow_le_pow_right (by decide) h1
    exact this
  · rw [show 7 * (i + 1) = 7 * i + 7 from rfl, Int.pow_add]; rfl

theorem step7 (b n q : Int) (hb0 : 0 ≤ b) (hb1 : b < 256) (hn0 : 0 ≤ n) (hn1 : n < q) (hq1 : q ≤ 4398046511104) : ∃ m, b % 128 * q = m ∧ 0 ≤ m ∧ m ≤ 127 * q ∧
    wrap64 (n + wrap64 (wrap64 (Int.tmod b 128) * q)) = n + m ∧ wrap64 (q * 128) = q * 128 := by
  have h2 : b % 128 * q ≤ 127 * q := Int.mul_le_mul_of_nonneg_right (by omega) (by omega)
  have h3 : 0 ≤ b % 128 * q := Int.mul_nonneg (by omega) (by omega)
  rw [Int.tmod_eq_emod_of_nonneg hb0, wr64 (b % 128) (by omega) (by omega)]
  obtain ⟨m, hm⟩ : ∃ m, b % 128 * q = m := ⟨_, rfl⟩
  rw [hm] at h2 h3 ⊢
  exact ⟨m, rfl, h3, h2, by rw [wr64 m h3 (by omega), wr64 (n + m) (by omega) (by omega)], wr64 _ (by omega) (by omega)⟩

set_option maxHeartbeats 1000000 in
theorem rget_l0 (l : List Int) (h8 : ∀ x ∈ l, 0 ≤ x ∧ x < 256) : ∀ (k i : Nat) (n : Int), i ≤ l.length → i ≤ 6 → 6 - i < k → 0 ≤ n → n < 2 ^ (7 * i) →
    Nl.sacristyref03_Get.l0 (2 * k) l n (2 ^ (7 * i)) (i : Int) = some (tri (getR (l.drop i) i n)) := by
  intro k
  induction k with
  | zero => intro i n _ _ h; omega
  | succ k ih =>
    intro i n hi hi6 hk hn0 hn1
    rw [show 2 * (k + 1) = (2 * k + 1) + 1 by omega, Nl.sacristyref03_Get.l0]
    by_cases hlt : i < l.length
    · rw [if_pos (show (i : Int) < l.length from Int.ofNat_lt.2 hlt), Nl.sacristyref03_Get.j1]
      have hb := h8 l[i] (List.getElem_mem hlt)
      rw [List.drop_eq_getElem_cons hlt, getR]
      have hrd : rd l (i : Int) = l[i] := by simp [rd, hlt]
      obtain ⟨b, hbe⟩ : ∃ b, l[i] = b := ⟨_, rfl⟩
      rw [hrd, hbe]
      rw [hbe] at hb
      by_cases h6 : i = 6
      · subst h6
        rw [if_neg (by decide), if_pos rfl]
        rfl
      · have hi5 : i < 6 := Nat.lt_of_le_of_ne hi6 h6
        obtain ⟨hp, hz, hz2⟩ := pw7 i hi5
        have ih' := ih (i + 1)
        clear ih
        obtain ⟨q, hq⟩ : ∃ q : Int, 2 ^ (7 * i) = q := ⟨_, rfl⟩
        obtain ⟨q2, hq2⟩ : ∃ q : Int, 2 ^ (7 * (i + 1)) = q := ⟨_, rfl⟩
        rw [hq2] at ih' hz2
        rw [hq] at hp hz hz2 hn1 ⊢
        clear hq hq2
        obtain ⟨m, hm, hm3, hm2, e4, e5⟩ := step7 b n q hb.1 hb.2 hn0 hn1 hz
        have hd : decide ((i : Int) < 6) = true := decide_eq_true (by omega)
        have e6 : wrap64 ((i : Int) + 1) = ((i + 1 : Nat) : Int) := by rw [wr64 _ (by omega) (by omega)]; omega
        have g1 : (0 : Int) ≤ i := Int.natCast_nonneg _
        have g2 : (i : Int) < l.length := Int.ofNat_lt.2 hlt
        rw [if_pos hd]
        rw [if_pos g1]
        rw [if_pos g2]
        rw [if_neg h6]
        rw [e4]
        rw [e5]
        rw [e6]
        rw [hz2]
        rw [hm]
        clear e4 e5 e6 hd
        have hin := ih' (n + m) hlt hi5 (by omega) (by omega) (by omega)
        have hi0 : (i : Int) > 0 ↔ 0 < i := by omega
        clear ih' hz hn1 hm2 hm hz2 hp
        by_cases h127 : b < 128
        · rw [if_pos h127, if_neg (show ¬ 128 ≤ b by omega), Nl.sacristyref03_most.f, Option.bind_some]
          by_cases hbig : n + m > 1099511627776
          · rw [if_pos hbig]
            split
            · rw [if_neg (by omega)]; simp only [tri]
            · simp only [tri]
          · rw [if_neg hbig]
            by_cases hi1 : 0 < i
            · rw [if_pos (hi0.2 hi1)]
              by_cases hb0 : b = 0
              · rw [if_pos hb0, if_neg (show ¬ (i = 0 ∨ 0 < b) by omega)]; simp only [tri]
              · rw [if_neg hb0, if_pos (show (i = 0 ∨ 0 < b) by omega), if_pos (by omega)]; simp only [tri]
            · rw [if_neg (fun h => hi1 (hi0.1 h)), if_pos (show (i = 0 ∨ 0 < b) by omega), if_pos (by omega)]; simp only [tri]
        · rw [if_neg h127, if_pos (show 128 ≤ b by omega)]
          exact hin
    · rw [if_neg (show ¬ (i : Int) < l.length by omega), Nl.sacristyref03_Get.j1, if_neg (by decide), List.drop_of_length_le (by omega)]
      rfl

theorem rget_f (l : List Int) (h8 : ∀ x ∈ l, 0 ≤ x ∧ x < 256) : Nl.sacristyref03_Get.f 16 l = some (tri (getR l 0 0)) := by
  rw [Nl.sacristyref03_Get.f]
  exact rget_l0 l h8 8 0 0 (by omega) (by omega) (by omega) (by decide) (by decide)

theorem str_app (xs ys : List Int) : strOfNums (xs ++ ys) = strOfNums xs ++ strOfNums ys := by
  refine ByteArray.ext ?_
  rw [ByteArray.data_append]
  simp [strOfNums]

theorem rput_calls (n : Int) (w : World) :
    Calls Try.prog 27 #[.int .i64 n] w fun e w' => ∃ v0_ : Value, e = .returned (v0_) ∧ Kd.R (Kd.int .u8) 5 w' w.heap.size (fun _ => True) v0_ (putL n) ∧ Below w.heap.size w w' :=
  Nl.sacristyref03_Put.calls 7 n (putL n) w (rput_f n)

theorem below_drawn {w w' : World} (h : Drawn0 w w') : Below w.heap.size w w' := by
  obtain ⟨n, rfl⟩ := h
  exact pw_below_drewN (Below.refl _ _) n

theorem rget_at (A : Option Addr) (c m : Nat) (l : List Int) (r : Option (Int × Nat)) (w : World) (hm : l.length = m) (hC : (Kd.int .u8).C w A l.length l) (hc : m ≤ c) (h8 : ∀ x ∈ l, 0 ≤ x ∧ x < 256) (hr : getR l 0 0 = r) :
    Calls Try.prog 21 #[.slice A m c] w fun e w' => e = .returned (.tuple #[.int .i64 (tri r).1, .int .i64 (tri r).2.1, .bool (tri r).2.2]) ∧ Below w.heap.size w w' := by
  subst hm; subst hr
  exact (Nl.sacristyref03_Get.calls 16 A c l _ _ _ w hC hc (rget_f l h8)).mono fun e w' h => ⟨h.1, below_drawn h.2⟩

end Go.Proofs.Yticagpejankjcaa.Db
