/- The walk of DeltaShort. No condition but the reach of what comes in. -/
import Derived.Test.YticagpejankjcaaDelHead
namespace Go.Proofs.Yticagpejankjcaa.Db
set_option linter.unusedVariables false
set_option linter.unusedSimpArgs false
open Go.RowKit Go.Proofs.YticagpejankjcaaW.PrintWords Go.Proofs.YticagpejankjcaaW.PrintLast Go.Proofs.YticagpejankjcaaW.PrintMore

theorem short_size (a t b d : ByteArray) (ha : a.size ≤ 300) (ht : t.size ≤ 300) (hb : b.size ≤ 300) (h5 : 5 ≤ t.size) (hd : mkS (a ++ t ++ b) t = d) : d.size ≤ 10 := by
  subst hd
  rw [mkS_size, bytesOf_append, bytesOf_append]
  have := mk_short (bytesOf a) (bytesOf t) (bytesOf b) (by rw [bytesOf_length]; omega) (by rw [bytesOf_length]; omega) (by rw [bytesOf_length]; omega) (by rw [bytesOf_length]; omega)
  omega
set_option maxHeartbeats 4000000 in
set_option maxRecDepth 100000 in
theorem short_law (a t b : ByteArray) (w : World) (ka : a.size ≤ 9223372036854775807) (kt : t.size ≤ 9223372036854775807) (kb : b.size ≤ 9223372036854775807) :
    Calls Try.prog 8 #[.string a, .string t, .string b] w fun e w' => e = .returned (.bool true) ∧ Below w.heap.size w w' := by
  by_cases hbig : 300 < a.size ∨ 300 < t.size ∨ 300 < b.size
  · rcases (show 300 < a.size ∨ (a.size ≤ 300 ∧ 300 < t.size) ∨ (a.size ≤ 300 ∧ t.size ≤ 300 ∧ 300 < b.size) by omega) with h1 | ⟨h1, h2⟩ | ⟨h1, h2, h3⟩
    all_goals
      go_enter Try.func8, Try.ntmps8
      go_wp2_with (fail)
      refine (head_calls _).mono ?_
      rintro e w1 ⟨rfl, hb⟩
      have HB := As.mk hb
      clear hb
      go_wp2_with (fail)
      go_ret
      exact ⟨rfl, HB.out⟩
  · rw [not_or, not_or] at hbig
    obtain ⟨h1, h2, h3⟩ := hbig
    obtain ⟨d, hd⟩ : ∃ d, mkS (a ++ t ++ b) t = d := ⟨_, rfl⟩
    obtain ⟨g, hg⟩ : ∃ g, mkS a t = g := ⟨_, rfl⟩
    have hds := fun h5 => short_size a t b d (by omega) (by omega) (by omega) h5 hd
    have hgs := mkS_le a t (by omega) (by omega)
    rw [hg] at hgs
    have hx : (a ++ t ++ b).size < 16384 := by rw [ByteArray.size_append, ByteArray.size_append]; omega
    have HD := As.mk hd
    have HG := As.mk hg
    have HX := As.mk hx
    have e1 : decide (300 < (a.size : Int)) = false := decide_eq_false (by omega)
    have e2 : decide (300 < (t.size : Int)) = false := decide_eq_false (by omega)
    have e3 : decide (300 < (b.size : Int)) = false := decide_eq_false (by omega)
    have e4 : wrap64 (4 + wrap64 (2 * (t.size : Int))) = 4 + 2 * (t.size : Int) := by rw [wr64 (2 * _) (by omega) (by omega), wr64 _ (by omega) (by omega)]
    have e5 : decide ((g.size : Int) ≤ 4 + 2 * (t.size : Int)) = true := decide_eq_true (by omega)
    have e6 : (decide ((t.size : Int) < 5) || decide ((d.size : Int) ≤ 10)) = true := by
      rw [Bool.or_eq_true, decide_eq_true_iff, decide_eq_true_iff]
      rcases Nat.lt_or_ge t.size 5 with h | h
      · exact .inl (by omega)
      · exact .inr (by have := hds h; omega)
    clear hd hg hx hds
    go_enter Try.func8, Try.ntmps8
    go_wp2_with (fail)
    refine (head_calls _).mono ?_
    rintro e w1 ⟨rfl, hb⟩
    have HB := As.mk hb
    clear hb
    go_wp2_with (fail)
    refine (make_at _ _ _ _ HX.out (by omega) HD.out).mono ?_
    rintro e w2 ⟨rfl, hb⟩
    have HB2 : As (Below w.heap.size w w2) := ⟨HB.out.trans (hb.mono HB.out.size)⟩
    clear hb HB
    go_wp2_with (fail)
    refine (make_at _ _ _ _ (by omega) (by omega) HG.out).mono ?_
    rintro e w3 ⟨rfl, hb⟩
    have HB3 : As (Below w.heap.size w w3) := ⟨HB2.out.trans (hb.mono HB2.out.size)⟩
    clear hb HB2
    go_wp2_with (fail)
    all_goals
      go_ret
      exact ⟨rfl, HB3.out⟩
end Go.Proofs.Yticagpejankjcaa.Db
