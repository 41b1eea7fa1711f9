/- The walk of DeltaBack. No condition but the reach of what comes in. -/
import Derived.Test.YticagpejankjcaaDelHead
namespace Go.Proofs.Yticagpejankjcaa.Db
set_option linter.unusedVariables false
set_option linter.unusedSimpArgs false
open Go.RowKit Go.Proofs.YticagpejankjcaaW.PrintWords Go.Proofs.YticagpejankjcaaW.PrintLast Go.Proofs.YticagpejankjcaaW.PrintMore

theorem mkS_two (base text : ByteArray) (hb : base.size < 16384) (ht : text.size < 16384) : 2 ≤ (mkS base text).size := by
  obtain ⟨B, ps, h1, _⟩ := mkL_form base text (by omega)
  rw [mkS_size, h1, List.length_append, List.length_append]
  have k1 := putL_pos (base.size : Int) (by omega) (by omega)
  have k2 := putL_pos (text.size : Int) (by omega) (by omega)
  omega
theorem cut_calls (base text d : ByteArray) (j : Nat) (w : World) (hb : base.size < 16384) (ht : text.size < 16384) (hd : mkS base text = d) (hj : j < d.size) :
    Calls Try.prog 10 #[.string base, .string (d.extract 0 j)] w fun e w' => e = .returned (.tuple #[.string ⟨#[]⟩, .int .i64 3]) ∧ Below w.heap.size w w' := by
  have hl := mkS_le base text hb ht
  subst hd
  have hz : ((mkS base text).extract 0 j).size = min j (mkS base text).size - 0 := ByteArray.size_extract
  refine apply_bad base _ w hb (by omega) ?_
  rw [bytesOf_ext, List.drop_zero, Nat.sub_zero, mkS_bytes]
  exact back_cut base text j (by omega) (by omega) (by rw [← mkS_size]; exact hj)
theorem more_calls (base text d : ByteArray) (x : Int) (sm : ByteArray) (w : World) (hb : base.size < 16384) (ht : text.size < 16384) (hd : mkS base text = d) (hx : 0 ≤ x ∧ x < 256) (hs : strOfNums [x] = sm) :
    Calls Try.prog 10 #[.string base, .string (d ++ sm)] w fun e w' => e = .returned (.tuple #[.string ⟨#[]⟩, .int .i64 3]) ∧ Below w.heap.size w w' := by
  have hl := mkS_le base text hb ht
  subst hd
  subst hs
  refine apply_bad base _ w hb (by rw [ByteArray.size_append, strOfNums_size]; simp; omega) ?_
  rw [bytesOf_append, mkS_bytes, bytesOf_str _ (by intro y hy; rw [List.mem_singleton] at hy; rw [hy]; exact hx)]
  exact back_more base text x hx (by omega) (by omega)
theorem beyond_calls (base text d : ByteArray) (w : World) (hb : base.size < 16000) (ht : text.size < 16384) (hd : mkS base text = d) :
    Calls Try.prog 10 #[.string (base ++ ⟨#[120]⟩), .string d] w fun e w' => e = .returned (.tuple #[.string ⟨#[]⟩, .int .i64 3]) ∧ Below w.heap.size w w' := by
  have hz : (base ++ (⟨#[120]⟩ : ByteArray)).size = base.size + 1 := by rw [ByteArray.size_append]; rfl
  exact apply_other base text _ d w (by omega) ht (by omega) (by omega) hd
set_option maxHeartbeats 4000000 in
set_option maxRecDepth 100000 in
theorem back_law (a t : ByteArray) (cut more : Int) (w : World) (ka : a.size ≤ 9223372036854775807) (kt : t.size ≤ 9223372036854775807) (kc : 0 ≤ cut ∧ cut < 65536) (km : 0 ≤ more ∧ more < 256) :
    Calls Try.prog 4 #[.string a, .string t, .int .u16 cut, .int .u8 more] w fun e w' => e = .returned (.bool true) ∧ Below w.heap.size w w' := by
  by_cases hbig : 600 < a.size ∨ 600 < t.size
  · rcases (show 600 < a.size ∨ (a.size ≤ 600 ∧ 600 < t.size) by omega) with h1 | ⟨h1, h2⟩
    all_goals
      go_enter Try.func4, Try.ntmps4
      go_wp2_with (fail)
      refine (head_calls _).mono ?_
      rintro e w1 ⟨rfl, hb⟩
      have HB := As.mk hb
      clear hb
      go_wp2_with (fail)
      go_ret
      exact ⟨rfl, HB.out⟩
  · rw [not_or] at hbig
    obtain ⟨h1, h2⟩ := hbig
    obtain ⟨d, hd⟩ : ∃ d, mkS a t = d := ⟨_, rfl⟩
    have hl := mkS_le a t (by omega) (by omega)
    have hl2 := mkS_two a t (by omega) (by omega)
    rw [hd] at hl hl2
    have HD := As.mk hd
    have HM := As.mk km
    have e1 : decide (600 < (a.size : Int)) = false := decide_eq_false (by omega)
    have e2 : decide (600 < (t.size : Int)) = false := decide_eq_false (by omega)
    have e3 : decide ((d.size : Int) < 2) = false := decide_eq_false (by omega)
    have e4 : ¬ (d.size : Int) = 0 := by omega
    obtain ⟨j, hj⟩ : ∃ j : Nat, cut.tmod (d.size : Int) = (j : Int) := ⟨(cut.tmod (d.size : Int)).toNat, by have := Int.tmod_nonneg (d.size : Int) kc.1; omega⟩
    have hjd : j < d.size := by have := Int.tmod_lt_of_pos cut (show (0 : Int) < d.size by omega); omega
    have hj0 : (0 : Int) ≤ j := by omega
    have hj1 : (j : Int) ≤ d.size := by omega
    clear hd km
    go_enter Try.func4, Try.ntmps4
    go_wp2_with (fail)
    refine (head_calls _).mono ?_
    rintro e w1 ⟨rfl, hb⟩
    have HB := As.mk hb
    clear hb
    go_wp2_with (fail)
    refine (make_at _ _ _ _ (by omega) (by omega) HD.out).mono ?_
    rintro e w2 ⟨rfl, hb⟩
    have HB2 : As (Below w.heap.size w w2) := ⟨HB.out.trans (hb.mono HB.out.size)⟩
    clear hb HB
    go_wp2_with (fail)
    refine (apply_make _ _ _ _ (by omega) (by omega) HD.out).mono ?_
    rintro e w3 ⟨rfl, hb⟩
    have HB3 : As (Below w.heap.size w w3) := ⟨HB2.out.trans (hb.mono HB2.out.size)⟩
    clear hb HB2
    go_wp2_with (fail)
    refine (cut_calls _ _ _ _ _ (by omega) (by omega) HD.out hjd).mono ?_
    rintro e w4 ⟨rfl, hb⟩
    have HB4 : As (Below w.heap.size w w4) := ⟨HB3.out.trans (hb.mono HB3.out.size)⟩
    clear hb HB3
    have hcv := Kd.C_string (P := Try.prog) (c := 1) Try.underlying29 Try.underlying5 Try.underlying9 (C_new w4 [more] (by simp))
    simp only [List.length_singleton, List.map_cons, List.map_nil] at hcv
    have hz : (strOfNums [more]).size = 1 := by rw [strOfNums_size]; rfl
    generalize hS : strOfNums [more] = sm at hcv hz
    have HS := As.mk hS
    clear hS
    go_wp2_with (fail)
    refine (more_calls _ _ _ _ _ _ (by omega) (by omega) HD.out HM.out HS.out).mono ?_
    rintro e w5 ⟨rfl, hb⟩
    have HB5 : As (Below w.heap.size w w5) := ⟨(HB4.out.alloc HB4.out.size _).trans (hb.mono (HB4.out.alloc HB4.out.size _).size)⟩
    clear hb HB4
    go_wp2_with (fail)
    refine (beyond_calls _ _ _ _ (by omega) (by omega) HD.out).mono ?_
    rintro e w6 ⟨rfl, hb⟩
    have HB6 : As (Below w.heap.size w w6) := ⟨HB5.out.trans (hb.mono HB5.out.size)⟩
    clear hb HB5
    go_wp2_with (fail)
    go_ret
    exact ⟨rfl, HB6.out⟩
end Go.Proofs.Yticagpejankjcaa.Db
