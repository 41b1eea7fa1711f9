/- digest.Named, and when two sums are one. No condition. -/
import Derived.Test.YtnajnjjkgojphaaDigName
import Derived.Test.YtnajnjjkgojphaaQS
import Derived.Stop.BytesEq
namespace Go.Proofs.Ytnajnjjkgojphaa.Dg
open Go.RowKit Blk Go.Proofs.YtnajnjjkgojphaaW.PrintWords Go.Proofs.YtnajnjjkgojphaaW.PrintLast Go.Proofs.YtnajnjjkgojphaaW.PrintMore
set_option linter.unusedVariables false
set_option linter.unusedSimpArgs false

def hexc (n : Int) : Bool := (decide (48 ≤ n) && decide (n ≤ 57)) || (decide (97 ≤ n) && decide (n ≤ 102))
/-- May a text be a name? -/
def namedL (l : List Int) : Bool := decide (l.length = 64) && l.all hexc

theorem named_l0 (s : ByteArray) (hs : s.size ≤ 4611686018427387904) : ∀ (d k i : Nat), i ≤ s.size → s.size - i = d → d < k →
    Dl.digest_Named.l0 k s (s.size : Int) (i : Int) = some (((bytesOf s).drop i).all hexc && decide (s.size = 64)) := by
  intro d
  induction d with
  | zero =>
    intro k i hi hd hk
    obtain ⟨k, rfl⟩ : ∃ m, k = m + 1 := ⟨k - 1, by omega⟩
    simp only [Dl.digest_Named.l0]
    rw [if_neg (by omega), List.drop_of_length_le (by rw [bytesOf_length]; omega)]
    simp
    rw [Bool.eq_iff_iff]
    simp
    omega
  | succ d ih =>
    intro k i hi hd hk
    obtain ⟨k, rfl⟩ : ∃ m, k = m + 1 := ⟨k - 1, by omega⟩
    have hlt : i < s.size := by omega
    have hw : wrap64 ((i : Int) + 1) = ((i + 1 : Nat) : Int) := by unfold wrap64; omega
    have hd1 : (bytesOf s).drop i = bt s i :: (bytesOf s).drop (i + 1) := by
      rw [List.drop_eq_getElem_cons (by rw [bytesOf_length]; exact hlt)]
      congr 1
      rw [← rd_bytesOf]
      simp [rd, bytesOf_length, hlt]
    have ih' := ih k (i + 1) (by omega) (by omega) (by omega)
    simp only [Dl.digest_Named.l0]
    rw [if_pos (by omega), if_pos (by omega), if_pos (by omega), hw, ih', hd1, List.all_cons]
    generalize bt s i = c
    generalize ((bytesOf s).drop (i + 1)).all hexc = r
    unfold hexc
    by_cases h1 : c < 48
    · rw [if_pos h1, if_pos (by omega)]
      simp [show ¬ 48 ≤ c by omega, show ¬ 97 ≤ c by omega]
    · rw [if_neg h1]
      by_cases h2 : c > 57
      · rw [if_pos h2]
        by_cases h3 : c < 97
        · rw [if_pos h3]
          simp [show ¬ c ≤ 57 by omega, show ¬ 97 ≤ c by omega]
        · rw [if_neg h3]
          by_cases h4 : c > 102
          · rw [if_pos h4]
            simp [show ¬ c ≤ 57 by omega, show ¬ c ≤ 102 by omega]
          · rw [if_neg h4]
            simp [show 97 ≤ c by omega, show c ≤ 102 by omega]
      · rw [if_neg h2]
        simp [show 48 ≤ c by omega, show c ≤ 57 by omega]

theorem named_calls (s : ByteArray) (w : World) (hs : s.size ≤ 4611686018427387904) :
    Calls Try.prog 14 #[.string s] w fun e w' => e = .returned (.bool (namedL (bytesOf s))) ∧ Below w.heap.size w w' := by
  have h := named_l0 s hs s.size (s.size + 1) 0 (by omega) (by omega) (by omega)
  rw [List.drop_zero] at h
  refine (Dl.digest_Named.calls (s.size + 1) s _ w h).mono fun e w' ⟨he, n, hn⟩ => ⟨?_, ?_⟩
  · rw [he, namedL, bytesOf_length, Bool.and_comm]
  · rw [hn]; exact pw_drewN (Below.refl _ _) n

theorem size_u8 (w : World) : (sizeOf 5).run Try.prog w = .ok 1 w := by kernel_rfl
theorem run_equalIn_32 (w : World) (d : Nat) (xs ys : List Int) (hx : xs.length = 32) (hy : ys.length = 32) :
    (Op.equalIn (d + 2) 24 (.agg (xs.map (Value.int .u8)).toArray) (.agg (ys.map (Value.int .u8)).toArray)).run Try.prog w = .ok (xs == ys) w := by
  have hall : (List.range xs.length).all (fun i => xs.getD i 0 == ys.getD i 0) = (xs == ys) := by
    rw [Bool.eq_iff_iff]
    simp only [List.all_eq_true, List.mem_range, beq_iff_eq]
    constructor
    · intro h
      refine List.ext_getElem (by omega) fun i h1 h2 => ?_
      have := h i h1
      simpa [h1, h2] using this
    · intro h i _; rw [h]
  rw [← hall, hx, List.range_eq_range', Op.equalIn]
  simp only [Sem.run_bind, run_underlying Try.underlying24, Result.andThen_ok, size_u8, Std.Legacy.Range.forIn_eq_forIn_range', Std.Legacy.Range.size, Nat.sub_zero, Nat.add_sub_cancel, Nat.div_one]
  have hl : ∀ i ∈ List.range' 0 32 1, i < 32 := fun i hi => by simpa using (List.mem_range'_1.1 hi).2
  generalize List.range' 0 32 1 = l at hl ⊢
  induction l with
  | nil => simp
  | cons i l ih =>
    have hi : i < 32 := hl i (by simp)
    have px : (part 5 (xs.map (Value.int .u8)).toArray (i * 1)).run Try.prog w = .ok (.int .u8 (xs.getD i 0)) w := by
      simp [part, isAgg, run_underlying Try.underlying5, List.getD, List.getElem?_eq_getElem (show i < xs.length by omega)]
    have py : (part 5 (ys.map (Value.int .u8)).toArray (i * 1)).run Try.prog w = .ok (.int .u8 (ys.getD i 0)) w := by
      simp [part, isAgg, run_underlying Try.underlying5, List.getD, List.getElem?_eq_getElem (show i < ys.length by omega)]
    have pe : (Op.equalIn (d + 1) 5 (.int .u8 (xs.getD i 0)) (.int .u8 (ys.getD i 0))).run Try.prog w = .ok (xs.getD i 0 == ys.getD i 0) w := by
      rw [run_equalIn_int w d 5 .u8 .u8 _ _ Try.underlying5]
    simp only [List.forIn_cons, Sem.run_bind, px, py, pe, Result.andThen_ok, List.all_cons]
    cases hb : (xs.getD i 0 == ys.getD i 0)
    · simp
    · simp only [Bool.not_true, Bool.false_eq_true, if_false, Sem.run_pure, Result.andThen_ok, Bool.true_and]
      exact ih fun j hj => hl j (by simp [hj])
theorem eql_32 (xs ys : List Int) (hx : xs.length = 32) (hy : ys.length = 32) (w : World) :
    (binOp .eql 24 (.agg (xs.map (Value.int .u8)).toArray) (.agg (ys.map (Value.int .u8)).toArray)).run Try.prog w = .ok (.bool (xs == ys)) w := by
  rw [run_eql_struct, run_equalIn_32 w 9998 xs ys hx hy]
  rfl

theorem bytesOf_str (xs : List Int) (h : ∀ x ∈ xs, 0 ≤ x ∧ x < 256) : bytesOf (strOfNums xs) = xs := by
  simp only [bytesOf, strOfNums, List.map_map]
  refine List.ext_getElem (by simp) fun i h1 h2 => ?_
  have := h xs[i] (List.getElem_mem h2)
  simp
  omega
end Go.Proofs.Ytnajnjjkgojphaa.Dg
