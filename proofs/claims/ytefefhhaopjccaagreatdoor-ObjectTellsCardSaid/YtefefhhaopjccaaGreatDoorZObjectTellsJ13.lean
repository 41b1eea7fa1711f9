/- Joined texts: ObRdig. No condition but what stands in each. -/
import Derived.Test.YtefefhhaopjccaaGreatDoorZObjectTellsJ4
import Derived.Test.YtefefhhaopjccaaGreatDoorZObjectTellsJ11
import Derived.Test.YtefefhhaopjccaaGreatDoorZObjectTellsJ12
import Derived.Test.YtefefhhaopjccaaGreatDoorZObjectTellsJ5
namespace Go.Proofs.YtefefhhaopjccaaGreatDoor.Ob
set_option linter.unusedVariables false
set_option linter.unusedSimpArgs false
open Go Go.RowKit Go.Proofs.YtefefhhaopjccaaGreatDoorW.PrintWords Go.Proofs.YtefefhhaopjccaaGreatDoorW.PrintLast Go.Proofs.YtefefhhaopjccaaGreatDoorW.PrintMore PObBase PObDoc
theorem rdig_l0 (s : ByteArray) (hs : s.size = 64) : ∀ (d i : Nat), s.size - i = d → i ≤ s.size → Ev (fun k => r02_Named.l0 k s (i : Int)) (((L s).drop i).all hexOk) := by
  intro d
  induction d with
  | zero =>
    intro i hd hi
    have hin : i = s.size := by omega
    rw [hin, List.drop_of_length_le (by rw [L_len]; exact Nat.le_refl _), List.all_nil]
    refine Ev.step (f := fun _ => some true) (fun k => ?_) (Ev.now _)
    simp only [r02_Named.l0]
    rw [if_neg (by omega)]
  | succ d ih =>
    intro i hd hi
    have hil : i < (L s).length := by rw [L_len]; omega
    obtain ⟨u, hu⟩ : ∃ u, (L s)[i]? = some u := ⟨_, List.getElem?_eq_getElem hil⟩
    have hb := bt_get hu (i : Int) rfl
    have hw := wr1 (i := i) (n := s.size) (by omega) (by omega)
    rw [drop_at hu, List.all_cons]
    have hlk := hexOk_iff u
    by_cases h : hexOk u = true
    · have h' := hlk.1 h
      rw [h, Bool.true_and]
      refine Ev.step (fun k => ?_) (ih (i + 1) (by omega) (by omega))
      simp only [r02_Named.l0]
      rw [if_pos (by omega), if_pos (by omega), if_pos (by omega), hb, hw, if_pos (by omega)]
      by_cases h4 : (u.toNat : Int) ≤ 57
      · rw [if_pos h4]
      · rw [if_neg h4, if_pos (by omega), if_pos (by omega)]
    · have h' := mt hlk.2 h
      rw [Bool.not_eq_true] at h
      rw [h, Bool.false_and]
      refine Ev.step (f := fun _ => some false) (fun k => ?_) (Ev.now _)
      simp only [r02_Named.l0]
      rw [if_pos (by omega), if_pos (by omega), if_pos (by omega), hb]
      by_cases h4 : (u.toNat : Int) ≥ 48
      · rw [if_pos h4, if_neg (by omega)]
        by_cases h6 : (u.toNat : Int) ≥ 97
        · rw [if_pos h6, if_neg (by omega)]
        · rw [if_neg h6]
      · rw [if_neg h4]
        by_cases h6 : (u.toNat : Int) ≥ 97
        · omega
        · rw [if_neg h6]
theorem rdig_ev (s : ByteArray) : Ev (fun k => r02_Named.f k s) (nmB s) := by
  unfold r02_Named.f nmB
  by_cases h : s.size = 64
  · have := rdig_l0 s h s.size 0 (by omega) (by omega)
    rw [List.drop_zero] at this
    rw [decide_eq_true h, Bool.and_true]
    exact Ev.congr (fun k => if_pos (by omega)) this
  · rw [decide_eq_false h, Bool.and_false]
    exact Ev.congr (fun k => if_neg (by omega)) (Ev.now _)
end Go.Proofs.YtefefhhaopjccaaGreatDoor.Ob
