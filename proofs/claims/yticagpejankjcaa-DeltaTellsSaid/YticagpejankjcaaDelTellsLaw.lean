/- The walk of DeltaTells. No condition but the reach of what comes in. -/
import Derived.Test.YticagpejankjcaaDelRApply
namespace Go.Proofs.Yticagpejankjcaa.Db
set_option linter.unusedVariables false
set_option linter.unusedSimpArgs false
open Go.RowKit Go.Proofs.YticagpejankjcaaW.PrintWords Go.Proofs.YticagpejankjcaaW.PrintLast Go.Proofs.YticagpejankjcaaW.PrintMore

theorem apply_two (base d : ByteArray) (hb : base.size ≤ 600) (hd : d.size ≤ 3000) : ∃ (a : ByteArray) (z : Int),
    (∀ w : World, Calls Try.prog 10 #[.string base, .string d] w fun e w' => e = .returned (.tuple #[.string a, .int .i64 z]) ∧ Below w.heap.size w w') ∧
    (∀ w : World, Calls Try.prog 11 #[.string base, .string d] w fun e w' => e = .returned (.tuple #[.string a, .int .i64 z]) ∧ Below w.heap.size w w') := by
  have h := rapp_apply base (bytesOf d)
  obtain ⟨r, hr⟩ : ∃ r, applyR base (bytesOf d) = r := ⟨_, rfl⟩
  obtain ⟨F, hF⟩ : ∃ F, rapp base (bytesOf d) = F := ⟨_, rfl⟩
  have k1 := fun w => apply_calls base d r w (by omega) (by omega) hr
  have k2 := fun w => rapply_calls base d F w (by omega) (by omega) hF
  rw [hr, hF] at h
  refine ⟨_, _, k1, ?_⟩
  rcases r with _ | xs
  · rcases F with _ | ys
    · exact k2
    · cases h
  · rcases F with _ | ys
    · cases h
    · have e : (⟨xs.toArray⟩ : ByteArray) = strOfNums ys := Option.some.inj h
      show ∀ w : World, Calls Try.prog 11 #[.string base, .string d] w fun e w' => e = .returned (.tuple #[.string ⟨xs.toArray⟩, .int .i64 0]) ∧ Below w.heap.size w w'
      rw [e]
      exact k2
theorem make_two (base text : ByteArray) (hb : base.size ≤ 600) (ht : text.size ≤ 600) : ∃ g : ByteArray,
    (∀ w : World, Calls Try.prog 12 #[.string base, .string text] w fun e w' => e = .returned (.string g) ∧ Below w.heap.size w w') ∧
    (∀ w : World, Calls Try.prog 13 #[.string base, .string text] w fun e w' => e = .returned (.string g) ∧ Below w.heap.size w w') :=
  ⟨_, fun w => make_calls base text _ w (by omega) (by omega) rfl, fun w => rmake_calls base text _ w (by omega) (by omega) rfl⟩
set_option maxHeartbeats 4000000 in
set_option maxRecDepth 100000 in
theorem tells_law (b t d : ByteArray) (w : World) (kb : b.size ≤ 9223372036854775807) (kt : t.size ≤ 9223372036854775807) (kd : d.size ≤ 9223372036854775807) :
    Calls Try.prog 3 #[.string b, .string t, .string d] w fun e w' => e = .returned (.bool true) ∧ Below w.heap.size w w' := by
  by_cases hbig : 600 < b.size ∨ 600 < t.size ∨ 3000 < d.size
  · rcases (show 600 < b.size ∨ (b.size ≤ 600 ∧ 600 < t.size) ∨ (b.size ≤ 600 ∧ t.size ≤ 600 ∧ 3000 < d.size) by omega) with h1 | ⟨h1, h2⟩ | ⟨h1, h2, h3⟩
    all_goals
      go_enter Try.func3, Try.ntmps3
      go_wp2_with (fail)
      refine (head_calls _).mono ?_
      rintro e w1 ⟨rfl, hb⟩
      have HB := As.mk hb
      clear hb
      go_wp2_with (fail)
      go_ret
      exact ⟨rfl, HB.out⟩
  · rw [not_or, not_or] at hbig
    obtain ⟨a, z, ka1, ka2⟩ := apply_two b d (by omega) (by omega)
    obtain ⟨g, kg1, kg2⟩ := make_two b t (by omega) (by omega)
    have e1 : decide (600 < (b.size : Int)) = false := decide_eq_false (by omega)
    have e2 : decide (600 < (t.size : Int)) = false := decide_eq_false (by omega)
    have e3 : decide (3000 < (d.size : Int)) = false := decide_eq_false (by omega)
    have KA1 := As.mk ka1
    have KA2 := As.mk ka2
    have KG1 := As.mk kg1
    have KG2 := As.mk kg2
    clear ka1 ka2 kg1 kg2
    go_enter Try.func3, Try.ntmps3
    go_wp2_with (fail)
    refine (head_calls _).mono ?_
    rintro e w1 ⟨rfl, hb⟩
    have HB := As.mk hb
    clear hb
    go_wp2_with (fail)
    refine (KA1.out _).mono ?_
    rintro e w2 ⟨rfl, hb⟩
    have HB2 : As (Below w.heap.size w w2) := ⟨HB.out.trans (hb.mono HB.out.size)⟩
    clear hb HB
    go_wp2_with (fail)
    refine (KA2.out _).mono ?_
    rintro e w3 ⟨rfl, hb⟩
    have HB3 : As (Below w.heap.size w w3) := ⟨HB2.out.trans (hb.mono HB2.out.size)⟩
    clear hb HB2
    go_wp2_with (fail)
    refine (KG1.out _).mono ?_
    rintro e w4 ⟨rfl, hb⟩
    have HB4 : As (Below w.heap.size w w4) := ⟨HB3.out.trans (hb.mono HB3.out.size)⟩
    clear hb HB3
    go_wp2_with (fail)
    refine (KG2.out _).mono ?_
    rintro e w5 ⟨rfl, hb⟩
    have HB5 : As (Below w.heap.size w w5) := ⟨HB4.out.trans (hb.mono HB4.out.size)⟩
    clear hb HB4
    go_wp2_with (fail)
    go_ret
    exact ⟨rfl, HB5.out⟩
end Go.Proofs.Yticagpejankjcaa.Db
