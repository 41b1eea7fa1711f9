/- The head of the statements of layer 6 answers true; Make and Apply as the statements ask them. No condition but the reach of what comes in. -/
import Derived.Test.YticagpejankjcaaDelLaw2
namespace Go.Proofs.Yticagpejankjcaa.Db
set_option linter.unusedVariables false
set_option linter.unusedSimpArgs false
open Go.RowKit Go.Proofs.YticagpejankjcaaW.PrintWords Go.Proofs.YticagpejankjcaaW.PrintLast Go.Proofs.YticagpejankjcaaW.PrintMore

/-- The delta's bytes. -/
def mkS (base text : ByteArray) : ByteArray := strOfNums (mkL (bytesOf base) (bytesOf text))
theorem mkS_bytes (base text : ByteArray) : bytesOf (mkS base text) = mkL (bytesOf base) (bytesOf text) := bytesOf_str _ (mkL_8 base text)
theorem mkS_size (base text : ByteArray) : (mkS base text).size = (mkL (bytesOf base) (bytesOf text)).length := by rw [mkS, strOfNums_size]
theorem mkS_le (base text : ByteArray) (hb : base.size < 16384) (ht : text.size < 16384) : (mkS base text).size ≤ 4 + 2 * text.size := by
  have := mk_len (bytesOf base) (bytesOf text) (by rw [bytesOf_length]; exact hb) (by rw [bytesOf_length]; exact ht)
  rwa [bytesOf_length, ← mkS_size] at this
theorem make_at (base text d : ByteArray) (w : World) (hb : base.size < 16384) (ht : text.size < 16384) (hd : mkS base text = d) :
    Calls Try.prog 12 #[.string base, .string text] w fun e w' => e = .returned (.string d) ∧ Below w.heap.size w w' := by
  subst hd
  exact make_calls base text _ w (by omega) (by omega) rfl
theorem apply_bad (base d : ByteArray) (w : World) (hb : base.size < 16384) (hd : d.size ≤ 1099511627776) (h : applyR base (bytesOf d) = none) :
    Calls Try.prog 10 #[.string base, .string d] w fun e w' => e = .returned (.tuple #[.string ⟨#[]⟩, .int .i64 3]) ∧ Below w.heap.size w w' :=
  apply_calls base d none w (by omega) hd h
theorem apply_good (base d t : ByteArray) (w : World) (hb : base.size < 16384) (hd : d.size ≤ 1099511627776) (h : ∃ xs : List UInt8, applyR base (bytesOf d) = some xs ∧ (⟨xs.toArray⟩ : ByteArray) = t) :
    Calls Try.prog 10 #[.string base, .string d] w fun e w' => e = .returned (.tuple #[.string t, .int .i64 0]) ∧ Below w.heap.size w w' := by
  obtain ⟨xs, h1, rfl⟩ := h
  exact apply_calls base d (some xs) w (by omega) hd h1
theorem apply_make (base text d : ByteArray) (w : World) (hb : base.size < 16384) (ht : text.size < 16384) (hd : mkS base text = d) :
    Calls Try.prog 10 #[.string base, .string d] w fun e w' => e = .returned (.tuple #[.string text, .int .i64 0]) ∧ Below w.heap.size w w' := by
  have hl := mkS_le base text hb ht
  subst hd
  refine apply_good base _ text w hb (by omega) ?_
  rw [mkS_bytes]
  exact back_make base text (by omega) (by omega)
theorem apply_other (base text other d : ByteArray) (w : World) (hb : base.size < 16384) (ht : text.size < 16384) (ho : other.size < 16384) (hne : other.size ≠ base.size) (hd : mkS base text = d) :
    Calls Try.prog 10 #[.string other, .string d] w fun e w' => e = .returned (.tuple #[.string ⟨#[]⟩, .int .i64 3]) ∧ Below w.heap.size w w' := by
  have hl := mkS_le base text hb ht
  subst hd
  refine apply_bad other _ w ho (by omega) ?_
  rw [mkS_bytes]
  exact back_other base text other (by omega) (by omega) hne
theorem head_mk : mkS ⟨#[97, 98, 99, 100, 101, 102]⟩ ⟨#[120, 97, 98, 99, 100, 101, 102]⟩ = ⟨#[6, 7, 1, 120, 128, 0, 6]⟩ := by
  have e1 : bytesOf ⟨#[97, 98, 99, 100, 101, 102]⟩ = [97, 98, 99, 100, 101, 102] := rfl
  have e2 : bytesOf ⟨#[120, 97, 98, 99, 100, 101, 102]⟩ = [120, 97, 98, 99, 100, 101, 102] := rfl
  have b0 : bestL [97, 98, 99, 100, 101, 102] [120, 97, 98, 99, 100, 101, 102] = (0, 0) := by decide
  have b1 : bestL [97, 98, 99, 100, 101, 102] [97, 98, 99, 100, 101, 102] = (0, 6) := by decide
  have i1 : ins [120] = [1, 120] := by rw [ins]; simp [ins_nil]
  have e3 : mkL [97, 98, 99, 100, 101, 102] [120, 97, 98, 99, 100, 101, 102] = [6, 7, 1, 120, 128, 0, 6] := by
    simp only [mkL, mkGo, List.length_cons, List.length_nil, Nat.reduceAdd, List.drop_zero, b0, List.drop_succ_cons, b1, Nat.reduceLeDiff, Nat.reduceLT, if_false, if_true, Nat.reduceSub, List.take_succ_cons, List.take_zero, i1, Nat.zero_add, ins_nil]
    rfl
  rw [mkS, e1, e2, e3]
  rfl
set_option maxHeartbeats 4000000 in
set_option maxRecDepth 100000 in
theorem head_calls (w : World) : Calls Try.prog 9 #[] w fun e w' => e = .returned (.bool true) ∧ Below w.heap.size w w' := by
  go_enter Try.func9, Try.ntmps9
  go_wp2_with (fail)
  refine (make_at _ _ _ _ (by decide) (by decide) head_mk).mono ?_
  rintro e w1 ⟨rfl, hb⟩
  have HB := As.mk hb
  clear hb
  go_wp2_with (fail)
  refine (apply_make _ _ _ _ (by decide) (by decide) head_mk).mono ?_
  rintro e w2 ⟨rfl, hb⟩
  have HB2 : As (Below w.heap.size w w2) := ⟨HB.out.trans (hb.mono HB.out.size)⟩
  clear hb HB
  go_wp2_with (fail)
  refine (apply_other _ _ _ _ _ (by decide) (by decide) (by decide) (by decide) head_mk).mono ?_
  rintro e w3 ⟨rfl, hb⟩
  have HB3 : As (Below w.heap.size w w3) := ⟨HB2.out.trans (hb.mono HB2.out.size)⟩
  clear hb HB2
  go_wp2_with (fail)
  go_ret
  exact ⟨rfl, HB3.out⟩
end Go.Proofs.Yticagpejankjcaa.Db
