/- The walk of DeltaOther. No condition but the reach of what comes in. -/
import Derived.Test.YticagpejankjcaaDelHead
namespace Go.Proofs.Yticagpejankjcaa.Db
set_option linter.unusedVariables false
set_option linter.unusedSimpArgs false
open Go.RowKit Go.Proofs.YticagpejankjcaaW.PrintWords Go.Proofs.YticagpejankjcaaW.PrintLast Go.Proofs.YticagpejankjcaaW.PrintMore

theorem other_good (base text other d : ByteArray) (w : World) (hb : base.size < 16384) (ht : text.size < 16384) (ho : other.size = base.size) (hd : mkS base text = d) :
    Calls Try.prog 10 #[.string other, .string d] w fun e w' => (∃ s : ByteArray, s.size = text.size ∧ e = .returned (.tuple #[.string s, .int .i64 0])) ∧ Below w.heap.size w w' := by
  have hl := mkS_le base text hb ht
  subst hd
  obtain ⟨xs, h1, h2⟩ := back_same base text other (by omega) (by omega) ho
  refine (apply_good other _ ⟨xs.toArray⟩ w (by omega) (by omega) ⟨xs, by rw [mkS_bytes]; exact h1, rfl⟩).mono ?_
  rintro e w' ⟨rfl, hb⟩
  exact ⟨⟨_, by show xs.toArray.size = _; rw [List.size_toArray]; exact h2, rfl⟩, hb⟩
set_option maxHeartbeats 4000000 in
set_option maxRecDepth 100000 in
theorem other_law (a t b : ByteArray) (w : World) (ka : a.size ≤ 9223372036854775807) (kt : t.size ≤ 9223372036854775807) (kb : b.size ≤ 9223372036854775807) :
    Calls Try.prog 7 #[.string a, .string t, .string b] w fun e w' => e = .returned (.bool true) ∧ Below w.heap.size w w' := by
  by_cases hbig : 600 < a.size ∨ 600 < t.size ∨ 600 < b.size
  · rcases (show 600 < a.size ∨ (a.size ≤ 600 ∧ 600 < t.size) ∨ (a.size ≤ 600 ∧ t.size ≤ 600 ∧ 600 < b.size) by omega) with h1 | ⟨h1, h2⟩ | ⟨h1, h2, h3⟩
    all_goals
      go_enter Try.func7, Try.ntmps7
      go_wp2_with (fail)
      refine (head_calls _).mono ?_
      rintro e w1 ⟨rfl, hb⟩
      have HB := As.mk hb
      clear hb
      go_wp2_with (fail)
      go_ret
      exact ⟨rfl, HB.out⟩
  · rw [not_or, not_or] at hbig
    obtain ⟨h1, h2, h3⟩ := hbig
    obtain ⟨d, hd⟩ : ∃ d, mkS a t = d := ⟨_, rfl⟩
    have HD := As.mk hd
    have e1 : decide (600 < (a.size : Int)) = false := decide_eq_false (by omega)
    have e2 : decide (600 < (t.size : Int)) = false := decide_eq_false (by omega)
    have e3 : decide (600 < (b.size : Int)) = false := decide_eq_false (by omega)
    clear hd
    by_cases hl : b.size = a.size
    case' pos => have HL := As.mk hl
    case' neg =>
      have HL := As.mk hl
      have e4 : (!decide ((b.size : Int) = (a.size : Int))) = true := by rw [decide_eq_false (by omega)]; rfl
      have e5 : ¬ (b.size : Int) = (a.size : Int) := by omega
    all_goals
      clear hl
      go_enter Try.func7, Try.ntmps7
      go_wp2_with (fail)
      refine (head_calls _).mono ?_
      rintro e w1 ⟨rfl, hb⟩
      have HB := As.mk hb
      clear hb
      go_wp2_with (fail)
      refine (make_at _ _ _ _ (by omega) (by omega) HD.out).mono ?_
      rintro e w2 ⟨rfl, hb⟩
      have HB2 : As (Below w.heap.size w w2) := ⟨HB.out.trans (hb.mono HB.out.size)⟩
      clear hb HB
      go_wp2_with (fail)
    all_goals
      first
      | (refine (apply_other _ _ _ _ _ (by omega) (by omega) (by omega) HL.out HD.out).mono ?_
         rintro e w3 ⟨rfl, hb⟩)
      | (refine (other_good _ _ _ _ _ (by omega) (by omega) HL.out HD.out).mono ?_
         rintro e w3 ⟨⟨s, hs, rfl⟩, hb⟩
         have e4 : (!decide ((b.size : Int) = (a.size : Int))) = false := by rw [decide_eq_true (by have := HL.out; omega)]; rfl
         have e5 : (b.size : Int) = (a.size : Int) := by have := HL.out; omega
         have e6 : decide ((s.size : Int) = (t.size : Int)) = true := decide_eq_true (by omega)
         have e7 : (s.size : Int) = (t.size : Int) := by omega
         clear hs)
    all_goals
      have HB3 : As (Below w.heap.size w w3) := ⟨HB2.out.trans (hb.mono HB2.out.size)⟩
      clear hb HB2
      go_wp2_with (fail)
      go_ret
      exact ⟨rfl, HB3.out⟩
end Go.Proofs.Yticagpejankjcaa.Db
