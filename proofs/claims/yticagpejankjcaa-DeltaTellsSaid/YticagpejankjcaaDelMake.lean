/- Make: what it makes of any two texts. No condition but the reach of what comes in. -/
import Derived.Test.YticagpejankjcaaDelFlush
import Derived.Test.YticagpejankjcaaShelf
namespace Go.Proofs.Yticagpejankjcaa.Db
set_option linter.unusedVariables false
set_option linter.unusedSimpArgs false
open Go.RowKit Go.Proofs.YticagpejankjcaaW.PrintWords Go.Proofs.YticagpejankjcaaW.PrintLast Go.Proofs.YticagpejankjcaaW.PrintMore

/-- How much of two texts' beginnings is alike. -/
def alikeN : List Int → List Int → Nat
  | a :: r, b :: s => if a = b then alikeN r s + 1 else 0
  | _, _ => 0
theorem alikeN_le : ∀ (a b : List Int), alikeN a b ≤ a.length ∧ alikeN a b ≤ b.length
  | [], b => by simp [alikeN]
  | _ :: _, [] => by simp [alikeN]
  | x :: r, y :: s => by
    rw [alikeN]
    split
    · have := alikeN_le r s; simp; omega
    · simp
theorem bt_get (s : ByteArray) (i : Nat) (h : i < s.size) (h2 : i < (bytesOf s).length) : bt s (i : Int) = (bytesOf s)[i] := by
  simp only [bt, bytesOf, List.getElem_map]
  rw [dif_pos (by simpa using h)]
  simp [ByteArray.getElem_eq_getElem_data]
theorem alike_l0 (a b : ByteArray) (ha : a.size ≤ 1099511627776) : ∀ (k i : Nat), a.size - i < k → i ≤ a.size → Nl.delta_alike.l0 k a b (i : Int) = some ((i + alikeN ((bytesOf a).drop i) ((bytesOf b).drop i) : Nat) : Int) := by
  intro k
  induction k with
  | zero => intro i h; omega
  | succ k ih =>
    intro i hk hi
    rw [Nl.delta_alike.l0]
    by_cases h1 : i < a.size
    · have g1 : (i : Int) < a.size := by omega
      have hl1 : i < (bytesOf a).length := by rw [bytesOf_length]; exact h1
      rw [if_pos g1, List.drop_eq_getElem_cons hl1]
      by_cases h2 : i < b.size
      · have g2 : (i : Int) < b.size := by omega
        have g3 : (0 : Int) ≤ i := Int.natCast_nonneg _
        have hl2 : i < (bytesOf b).length := by rw [bytesOf_length]; exact h2
        rw [if_pos g2, if_pos g3, bt_get a i h1 hl1, bt_get b i h2 hl2, List.drop_eq_getElem_cons hl2, alikeN]
        by_cases h3 : (bytesOf a)[i] = (bytesOf b)[i]
        · rw [if_pos h3, if_pos h3]
          have e : wrap64 ((i : Int) + 1) = ((i + 1 : Nat) : Int) := by rw [wr64 _ (by omega) (by omega)]; omega
          rw [e, ih (i + 1) (by omega) (by omega)]
          congr 1
          omega
        · rw [if_neg h3, if_neg h3]; rfl
      · have g2 : ¬ (i : Int) < b.size := by omega
        rw [if_neg g2, List.drop_of_length_le (l := bytesOf b) (by rw [bytesOf_length]; omega)]
        simp [alikeN]
    · have g1 : ¬ (i : Int) < a.size := by omega
      rw [if_neg g1, List.drop_of_length_le (l := bytesOf a) (by rw [bytesOf_length]; omega)]
      simp [alikeN]
theorem alike_f (a b : ByteArray) (k : Nat) (ha : a.size ≤ 1099511627776) (hk : a.size < k) : Nl.delta_alike.f k a b = some (alikeN (bytesOf a) (bytesOf b) : Int) := by
  have := alike_l0 a b ha k 0 (by omega) (by omega)
  rw [List.drop_zero, List.drop_zero, Nat.zero_add] at this
  exact this
/-- Where a base has the longest beginning of what is left. -/
def bestGo : List Int → List Int → Nat → Nat → Nat → Nat × Nat
  | [], _, _, at_, most => (at_, most)
  | c :: r, left, i, at_, most => if most < alikeN (c :: r) left then bestGo r left (i + 1) i (alikeN (c :: r) left) else bestGo r left (i + 1) at_ most
def bestL (base left : List Int) : Nat × Nat := bestGo base left 0 0 0
theorem bestGo_le : ∀ (l left : List Int) (i at_ most : Nat), at_ + most ≤ i + l.length → most ≤ left.length → (bestGo l left i at_ most).1 + (bestGo l left i at_ most).2 ≤ i + l.length ∧ (bestGo l left i at_ most).2 ≤ left.length
  | [], left, i, at_, most, h, h2 => by rw [bestGo]; exact ⟨h, h2⟩
  | c :: r, left, i, at_, most, h, h2 => by
    have ha := alikeN_le (c :: r) left
    rw [List.length_cons] at h ha
    rw [bestGo]
    split
    · have := bestGo_le r left (i + 1) i (alikeN (c :: r) left) (by omega) ha.2
      rw [List.length_cons]; omega
    · have := bestGo_le r left (i + 1) at_ most (by omega) h2
      rw [List.length_cons]; omega
theorem bestL_le (base left : List Int) : (bestL base left).1 + (bestL base left).2 ≤ base.length ∧ (bestL base left).2 ≤ left.length := by
  have := bestGo_le base left 0 0 0 (by omega) (by omega)
  simpa [bestL] using this
theorem best_l0 (base left : ByteArray) (hb : base.size ≤ 1099511627776) : ∀ (k i at_ most : Nat), base.size - i + 1 < k → i ≤ base.size →
    Nl.delta_best.l0 k base left (at_ : Int) (most : Int) (base.size : Int) (i : Int) = some (((bestGo ((bytesOf base).drop i) (bytesOf left) i at_ most).1 : Int), ((bestGo ((bytesOf base).drop i) (bytesOf left) i at_ most).2 : Int)) := by
  intro k
  induction k with
  | zero => intro i _ _ h; omega
  | succ k ih =>
    intro i at_ most hk hi
    rw [Nl.delta_best.l0]
    by_cases h1 : i < base.size
    · have g1 : (i : Int) < base.size := by omega
      have g2 : (0 : Int) ≤ i := Int.natCast_nonneg _
      have g3 : (i : Int) ≤ base.size := by omega
      have hl1 : i < (bytesOf base).length := by rw [bytesOf_length]; exact h1
      have hx : (base.extract ((i : Int)).toNat base.size).size = base.size - i := by simp
      have hbx : bytesOf (base.extract ((i : Int)).toNat base.size) = (bytesOf base).drop i := by
        rw [bytesOf_ext, List.take_of_length_le (by rw [List.length_drop, bytesOf_length]; simp)]
        simp
      rw [if_pos g1, if_pos g2, if_pos g3, alike_f _ left k (by omega) (by omega), hbx, Option.bind_some]
      have e : wrap64 ((i : Int) + 1) = ((i + 1 : Nat) : Int) := by rw [wr64 _ (by omega) (by omega)]; omega
      rw [e]
      rw [List.drop_eq_getElem_cons hl1, bestGo, ← List.drop_eq_getElem_cons hl1]
      by_cases h2 : most < alikeN ((bytesOf base).drop i) (bytesOf left)
      · have g4 : ((alikeN ((bytesOf base).drop i) (bytesOf left) : Nat) : Int) > most := by omega
        rw [if_pos g4, if_pos h2]
        exact ih (i + 1) _ _ (by omega) (by omega)
      · have g4 : ¬ ((alikeN ((bytesOf base).drop i) (bytesOf left) : Nat) : Int) > most := by omega
        rw [if_neg g4, if_neg h2]
        exact ih (i + 1) _ _ (by omega) (by omega)
    · have g1 : ¬ (i : Int) < base.size := by omega
      rw [if_neg g1, List.drop_of_length_le (by rw [bytesOf_length]; omega), bestGo]
theorem best_f (base left : ByteArray) (hb : base.size ≤ 1099511627776) : Nl.delta_best.f (base.size + 2) base left = some (((bestL (bytesOf base) (bytesOf left)).1 : Int), ((bestL (bytesOf base) (bytesOf left)).2 : Int)) := by
  have := best_l0 base left hb (base.size + 2) 0 0 0 (by omega) (by omega)
  rw [List.drop_zero] at this
  exact this
/-- What Make puts, from place i on. -/
def mkGo (base text : List Int) : Nat → Nat → Nat → List Int → List Int
  | 0, _, _, acc => acc
  | f + 1, i, off, acc => if text.length ≤ i then acc ++ ins ((text.drop off).take (text.length - off)) else
      if (bestL base (text.drop i)).2 < 5 then mkGo base text f (i + 1) off acc
      else mkGo base text f (i + (bestL base (text.drop i)).2) (i + (bestL base (text.drop i)).2)
        (acc ++ ins ((text.drop off).take (i - off)) ++ (128 :: (putL (bestL base (text.drop i)).1 ++ putL (bestL base (text.drop i)).2)))
def mkL (base text : List Int) : List Int := mkGo base text (text.length + 1) 0 0 (putL base.length ++ putL text.length)
end Go.Proofs.Yticagpejankjcaa.Db
