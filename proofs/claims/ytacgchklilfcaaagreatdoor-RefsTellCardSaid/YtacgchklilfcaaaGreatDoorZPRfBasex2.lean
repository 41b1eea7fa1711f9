/- Functions as the kit's printer (print.py) writes them, over contracts that this seat's own texts give. No condition but the reach of what comes in. -/
import Derived.Test.YtacgchklilfcaaaGreatDoorZPRfBasex0
import Derived.Test.YtacgchklilfcaaaGreatDoorZPRfBasex1
namespace Go.Proofs.YtacgchklilfcaaaGreatDoor.PRfBase
open Go.RowKit Go.Proofs.YtacgchklilfcaaaGreatDoorW.PrintWords Go.Proofs.YtacgchklilfcaaaGreatDoorW.PrintLast Go.Proofs.YtacgchklilfcaaaGreatDoorW.PrintMore
attribute [local go_sem] StrSem.leq_str StrSem.geq_str StrSem.gtr_str max2_int min2_int max_two min_two max_three min_three max_four min_four   -- for this text's walks alone
set_option linter.unusedVariables false
set_option linter.unusedSimpArgs false
attribute [local go_sem high] eqA46
noncomputable def r09_Same.l0 : Nat → List (S46) → List (S46) → Int → Option (Bool)
 | 0, _, _, _ => none
 | k + 1, x0, x1, x5 => if x5 < (x0.length : Int) then (if 0 ≤ x5 then (if x5 < (x1.length : Int) then (if (!((((rd_T46 x0 x5).f0).toList) == (((rd_T46 x1 x5).f0).toList)) || (!((((rd_T46 x0 x5).f1).toList) == (((rd_T46 x1 x5).f1).toList)))) = true then (some false) else (r09_Same.l0 k x0 x1 (wrap64 (x5 + 1)))) else (none)) else (none)) else (some true)
noncomputable def r09_Same.f (k : Nat) (l0 : List (S46)) (l1 : List (S46)) : Option (Bool) := if (l0.length : Int) = (l1.length : Int) then (r09_Same.l0 k l0 l1 0) else (some false)
set_option maxHeartbeats 8000000 in
set_option maxRecDepth 100000 in
theorem r09_Same.calls (k : Nat) (A0 : Option Addr) (c0 : Nat) (l0 : List (S46)) (A1 : Option Addr) (c1 : Nat) (l1 : List (S46)) (r : Bool) (w : World) (hr0 : Kd.C k46 w A0 l0.length l0) (hc0 : l0.length ≤ c0) (hr1 : Kd.C k46 w A1 l1.length l1) (hc1 : l1.length ≤ c1) (h : r09_Same.f k l0 l1 = some r) :
  Calls Tryz.prog 18 #[.slice A0 l0.length c0, .slice A1 l1.length c1] w fun e w' => e = .returned (.bool r) ∧ Drawn0 w w' := by
 have hu46 := Tryz.underlying46
 have HR0 := Aside0.mk hr0
 have HC0 := Aside0.mk hc0
 clear hr0 hc0
 have HR1 := Aside0.mk hr1
 have HC1 := Aside0.mk hc1
 clear hr1 hc1
 have H : (if (l0.length : Int) = (l1.length : Int) then (r09_Same.l0 k l0 l1 0) else (some false)) = some r := h
 clear h
 by_cases c3 : (l0.length : Int) = (l1.length : Int)
 ·
  rw [if_pos c3] at H
  have c3b0 : ((l0.length : Int) == (l1.length : Int)) = true := beq_iff_eq.mpr c3
  have c3b1 : ((l0.length : Int) != (l1.length : Int)) = false := bne_eq_false_iff_eq.mpr c3
  have c3b2 : (l0.length == l1.length) = true := by first | simpa using c3 | (simp at c3 ⊢; omega)
  clear c3
  have H' := Aside0.mk H
  clear H
  go_enter Tryz.func18, Tryz.ntmps18
  go_wp2
  repeat (go_quiet (fail); try go_wp2)
  go_loopg [5] k (fun kq v5 w' => ∃ (x5_1 : Int), v5 = .int .i64 x5_1 ∧ Aside0 (r09_Same.l0 kq l0 l1 x5_1 = some r) ∧ Aside0 (kq ≤ k) ∧ Drawn0 w w')
  case atStart => exact ⟨(0), (by first | rfl | (simp; done) | (simp [*]; done)), H', ⟨Nat.le_refl _⟩, by repeat (first | exact Drawn0.refl _ | apply Drawn0.step)⟩
  case round =>
   clear H'
   try clear c1
   try clear p2
   try clear c3
   try clear c3b0
   try clear c3b1
   try clear c3b2
   obtain ⟨x5_1, rfl, HA, HK1, ⟨m1, rfl⟩⟩ := hrel
   cases gk with
   | zero => exact absurd HA.out (by simp [r09_Same.l0])
   | succ k1 =>
    have H := HA.out
    clear HA
    simp only [r09_Same.l0] at H
    by_cases c4 : x5_1 < (l0.length : Int)
    ·
     rw [if_pos c4] at H
     have c4b0 : decide (x5_1 < (l0.length : Int)) = true := decide_eq_true c4
     clear c4
     by_cases c5 : 0 ≤ x5_1
     ·
      rw [if_pos c5] at H
      have c5b0 : decide (0 ≤ x5_1) = true := decide_eq_true c5
      clear c5
      by_cases c6 : x5_1 < (l1.length : Int)
      ·
       rw [if_pos c6] at H
       have c6b0 : decide (x5_1 < (l1.length : Int)) = true := decide_eq_true c6
       clear c6
       by_cases c7 : (!((((rd_T46 l0 x5_1).f0).toList) == (((rd_T46 l1 x5_1).f0).toList)) || (!((((rd_T46 l0 x5_1).f1).toList) == (((rd_T46 l1 x5_1).f1).toList)))) = true
       ·
        rw [if_pos c7] at H
        have c7b0 : (!((((rd_T46 l0 x5_1).f0).toList) == (((rd_T46 l1 x5_1).f0).toList)) || (!((((rd_T46 l0 x5_1).f1).toList) == (((rd_T46 l1 x5_1).f1).toList)))) = true := c7
        clear c7
        obtain rfl := Option.some.inj H
        have p101 : 0 ≤ (x5_1 : Int) := oda_
        have q101 : x5_1 < (l0.length : Int) := oda_
        obtain ⟨ad101, e101, hx101_0, hx101_1⟩ := at_T46 HR0.out x5_1 p101 q101
        cases e101
        replace p101 := eq_true p101
        replace q101 := eq_true q101
        have p102 : 0 ≤ (x5_1 : Int) := oda_
        have q102 : x5_1 < (l1.length : Int) := oda_
        obtain ⟨ad102, e102, hx102_0, hx102_1⟩ := at_T46 HR1.out x5_1 p102 q102
        cases e102
        replace p102 := eq_true p102
        replace q102 := eq_true q102
        go_wp2
        repeat (go_quiet (fail); try go_wp2)
        go_ret
        exact ⟨by first | rfl | (simp; done) | (simp [*]; done), by repeat (first | exact Drawn0.refl _ | apply Drawn0.step)⟩
       ·
        rw [if_neg c7] at H
        have c7b0 : (!((((rd_T46 l0 x5_1).f0).toList) == (((rd_T46 l1 x5_1).f0).toList)) || (!((((rd_T46 l0 x5_1).f1).toList) == (((rd_T46 l1 x5_1).f1).toList)))) = false := by simpa using c7
        clear c7
        have H' := Aside0.mk H
        clear H
        have p101 : 0 ≤ (x5_1 : Int) := oda_
        have q101 : x5_1 < (l0.length : Int) := oda_
        obtain ⟨ad101, e101, hx101_0, hx101_1⟩ := at_T46 HR0.out x5_1 p101 q101
        cases e101
        replace p101 := eq_true p101
        replace q101 := eq_true q101
        have p102 : 0 ≤ (x5_1 : Int) := oda_
        have q102 : x5_1 < (l1.length : Int) := oda_
        obtain ⟨ad102, e102, hx102_0, hx102_1⟩ := at_T46 HR1.out x5_1 p102 q102
        cases e102
        replace p102 := eq_true p102
        replace q102 := eq_true q102
        go_wp2
        repeat (go_quiet (fail); try go_wp2)
        go_roundg k1
        case measure => have := HK1.out; omega
        case rel => exact ⟨(wrap64 (x5_1 + 1)), (by first | rfl | (simp; done) | (simp [*]; done)), H', ⟨by have := HK1.out; omega⟩, by repeat (first | exact Drawn0.refl _ | apply Drawn0.step)⟩
      ·
       rw [if_neg c6] at H
       exact absurd H (by simp)
     ·
      rw [if_neg c5] at H
      exact absurd H (by simp)
    ·
     rw [if_neg c4] at H
     have c4b0 : decide (x5_1 < (l0.length : Int)) = false := decide_eq_false c4
     clear c4
     obtain rfl := Option.some.inj H
     go_wp2
     repeat (go_quiet (fail); try go_wp2)
     go_ret
     exact ⟨by first | rfl | (simp; done) | (simp [*]; done), by repeat (first | exact Drawn0.refl _ | apply Drawn0.step)⟩
 ·
  rw [if_neg c3] at H
  have c3b0 : ((l0.length : Int) == (l1.length : Int)) = false := beq_eq_false_iff_ne.mpr c3
  have c3b1 : ((l0.length : Int) != (l1.length : Int)) = true := bne_iff_ne.mpr c3
  have c3b2 : (l0.length == l1.length) = false := by first | simpa using c3 | (simp at c3 ⊢; omega)
  obtain rfl := Option.some.inj H
  go_enter Tryz.func18, Tryz.ntmps18
  go_wp2
  repeat (go_quiet (fail); try go_wp2)
  go_ret
  exact ⟨by first | rfl | (simp; done) | (simp [*]; done), by repeat (first | exact Drawn0.refl _ | apply Drawn0.step)⟩
noncomputable def r09_part.l0 : Nat → ByteArray → Int → Option (Bool)
 | 0, _, _ => none
 | k + 1, x0, x3 => if x3 < (x0.size : Int) then (if 0 ≤ x3 then (if (bt x0 x3) = 46 then (r09_part.l0 k x0 (wrap64 (x3 + 1))) else (if (bt x0 x3) = 45 then (r09_part.l0 k x0 (wrap64 (x3 + 1))) else (if (bt x0 x3) = 95 then (r09_part.l0 k x0 (wrap64 (x3 + 1))) else (if (bt x0 x3) < 97 then (if (bt x0 x3) < 48 then (some false) else (if (bt x0 x3) > 57 then (some false) else (r09_part.l0 k x0 (wrap64 (x3 + 1))))) else (if (bt x0 x3) > 122 then (if (bt x0 x3) < 48 then (some false) else (if (bt x0 x3) > 57 then (some false) else (r09_part.l0 k x0 (wrap64 (x3 + 1))))) else (r09_part.l0 k x0 (wrap64 (x3 + 1)))))))) else (none)) else (if (x0.size : Int) ≥ 1 then (if (x0.size : Int) ≤ 30 then (if 0 < (x0.size : Int) then (some ((bt x0 0) != 46)) else (none)) else (some false)) else (some false))
noncomputable def r09_part.f (k : Nat) (a0 : ByteArray) : Option (Bool) := r09_part.l0 k a0 0
set_option maxHeartbeats 8000000 in
set_option maxRecDepth 100000 in
theorem r09_part.calls (k : Nat) (a0 : ByteArray) (r : Bool) (w : World) (h : r09_part.f k a0 = some r) :
  Calls Tryz.prog 37 #[.string a0] w fun e w' => e = .returned (.bool r) ∧ Drawn0 w w' := by
 have H : (r09_part.l0 k a0 0) = some r := h
 clear h
 have H' := Aside0.mk H
 clear H
 go_enter Tryz.func37, Tryz.ntmps37
 go_wp2
 go_loopg [3] k (fun kq v3 w' => ∃ (x3_1 : Int), v3 = .int .i64 x3_1 ∧ Aside0 (r09_part.l0 kq a0 x3_1 = some r) ∧ Aside0 (kq ≤ k) ∧ Drawn0 w w')
 case atStart => exact ⟨(0), (by first | rfl | (simp; done) | (simp [*]; done)), H', ⟨Nat.le_refl _⟩, by repeat (first | exact Drawn0.refl _ | apply Drawn0.step)⟩
 case round =>
  clear H'
  obtain ⟨x3_1, rfl, HA, HK1, ⟨m1, rfl⟩⟩ := hrel
  cases gk with
  | zero => exact absurd HA.out (by simp [r09_part.l0])
  | succ k1 =>
   have H := HA.out
   clear HA
   simp only [r09_part.l0] at H
   by_cases c2 : x3_1 < (a0.size : Int)
   ·
    rw [if_pos c2] at H
    have c2b0 : decide (x3_1 < (a0.size : Int)) = true := decide_eq_true c2
    clear c2
    by_cases c3 : 0 ≤ x3_1
    ·
     rw [if_pos c3] at H
     have c3b0 : decide (0 ≤ x3_1) = true := decide_eq_true c3
     clear c3
     by_cases c5 : (bt a0 x3_1) = 46
     ·
      rw [if_pos c5] at H
      have c5b0 : ((bt a0 x3_1) == 46) = true := beq_iff_eq.mpr c5
      have c5b1 : ((bt a0 x3_1) != 46) = false := bne_eq_false_iff_eq.mpr c5
      clear c5
      have H' := Aside0.mk H
      clear H
      have p4 : 0 ≤ (x3_1 : Int) := oda_
      have q4 : x3_1 < (a0.size : Int) := oda_
      have hx4 := bt_at a0 x3_1
      replace p4 := eq_true p4
      replace q4 := eq_true q4
      go_wp2
      go_roundg k1
      case measure => have := HK1.out; omega
      case rel => exact ⟨(wrap64 (x3_1 + 1)), (by first | rfl | (simp; done) | (simp [*]; done)), H', ⟨by have := HK1.out; omega⟩, by repeat (first | exact Drawn0.refl _ | apply Drawn0.step)⟩
     ·
      rw [if_neg c5] at H
      have c5b0 : ((bt a0 x3_1) == 46) = false := beq_eq_false_iff_ne.mpr c5
      have c5b1 : ((bt a0 x3_1) != 46) = true := bne_iff_ne.mpr c5
      by_cases c6 : (bt a0 x3_1) = 45
      ·
       rw [if_pos c6] at H
       have c6b0 : ((bt a0 x3_1) == 45) = true := beq_iff_eq.mpr c6
       have c6b1 : ((bt a0 x3_1) != 45) = false := bne_eq_false_iff_eq.mpr c6
       clear c6
       have H' := Aside0.mk H
       clear H
       have p4 : 0 ≤ (x3_1 : Int) := oda_
       have q4 : x3_1 < (a0.size : Int) := oda_
       have hx4 := bt_at a0 x3_1
       replace p4 := eq_true p4
       replace q4 := eq_true q4
       go_wp2
       go_roundg k1
       case measure => have := HK1.out; omega
       case rel => exact ⟨(wrap64 (x3_1 + 1)), (by first | rfl | (simp; done) | (simp [*]; done)), H', ⟨by have := HK1.out; omega⟩, by repeat (first | exact Drawn0.refl _ | apply Drawn0.step)⟩
      ·
       rw [if_neg c6] at H
       have c6b0 : ((bt a0 x3_1) == 45) = false := beq_eq_false_iff_ne.mpr c6
       have c6b1 : ((bt a0 x3_1) != 45) = true := bne_iff_ne.mpr c6
       by_cases c7 : (bt a0 x3_1) = 95
       ·
        rw [if_pos c7] at H
        have c7b0 : ((bt a0 x3_1) == 95) = true := beq_iff_eq.mpr c7
        have c7b1 : ((bt a0 x3_1) != 95) = false := bne_eq_false_iff_eq.mpr c7
        clear c7
        have H' := Aside0.mk H
        clear H
        have p4 : 0 ≤ (x3_1 : Int) := oda_
        have q4 : x3_1 < (a0.size : Int) := oda_
        have hx4 := bt_at a0 x3_1
        replace p4 := eq_true p4
        replace q4 := eq_true q4
        go_wp2
        go_roundg k1
        case measure => have := HK1.out; omega
        case rel => exact ⟨(wrap64 (x3_1 + 1)), (by first | rfl | (simp; done) | (simp [*]; done)), H', ⟨by have := HK1.out; omega⟩, by repeat (first | exact Drawn0.refl _ | apply Drawn0.step)⟩
       ·
        rw [if_neg c7] at H
        have c7b0 : ((bt a0 x3_1) == 95) = false := beq_eq_false_iff_ne.mpr c7
        have c7b1 : ((bt a0 x3_1) != 95) = true := bne_iff_ne.mpr c7
        by_cases c8 : (bt a0 x3_1) < 97
        ·
         rw [if_pos c8] at H
         have c8b0 : decide ((bt a0 x3_1) < 97) = true := decide_eq_true c8
         clear c8
         by_cases c9 : (bt a0 x3_1) < 48
         ·
          rw [if_pos c9] at H
          have c9b0 : decide ((bt a0 x3_1) < 48) = true := decide_eq_true c9
          clear c9
          obtain rfl := Option.some.inj H
          have p4 : 0 ≤ (x3_1 : Int) := oda_
          have q4 : x3_1 < (a0.size : Int) := oda_
          have hx4 := bt_at a0 x3_1
          replace p4 := eq_true p4
          replace q4 := eq_true q4
          go_wp2
          go_ret
          exact ⟨by first | rfl | (simp; done) | (simp [*]; done), by repeat (first | exact Drawn0.refl _ | apply Drawn0.step)⟩
         ·
          rw [if_neg c9] at H
          have c9b0 : decide ((bt a0 x3_1) < 48) = false := decide_eq_false c9
          clear c9
          by_cases c10 : (bt a0 x3_1) > 57
          ·
           rw [if_pos c10] at H
           have c10b0 : decide (57 < (bt a0 x3_1)) = true := decide_eq_true c10
           clear c10
           obtain rfl := Option.some.inj H
           have p4 : 0 ≤ (x3_1 : Int) := oda_
           have q4 : x3_1 < (a0.size : Int) := oda_
           have hx4 := bt_at a0 x3_1
           replace p4 := eq_true p4
           replace q4 := eq_true q4
           go_wp2
           go_ret
           exact ⟨by first | rfl | (simp; done) | (simp [*]; done), by repeat (first | exact Drawn0.refl _ | apply Drawn0.step)⟩
          ·
           rw [if_neg c10] at H
           have c10b0 : decide (57 < (bt a0 x3_1)) = false := decide_eq_false c10
           clear c10
           have H' := Aside0.mk H
           clear H
           have p4 : 0 ≤ (x3_1 : Int) := oda_
           have q4 : x3_1 < (a0.size : Int) := oda_
           have hx4 := bt_at a0 x3_1
           replace p4 := eq_true p4
           replace q4 := eq_true q4
           go_wp2
           go_roundg k1
           case measure => have := HK1.out; omega
           case rel => exact ⟨(wrap64 (x3_1 + 1)), (by first | rfl | (simp; done) | (simp [*]; done)), H', ⟨by have := HK1.out; omega⟩, by repeat (first | exact Drawn0.refl _ | apply Drawn0.step)⟩
        ·
         rw [if_neg c8] at H
         have c8b0 : decide ((bt a0 x3_1) < 97) = false := decide_eq_false c8
         clear c8
         by_cases c11 : (bt a0 x3_1) > 122
         ·
          rw [if_pos c11] at H
          have c11b0 : decide (122 < (bt a0 x3_1)) = true := decide_eq_true c11
          clear c11
          by_cases c12 : (bt a0 x3_1) < 48
          ·
           rw [if_pos c12] at H
           have c12b0 : decide ((bt a0 x3_1) < 48) = true := decide_eq_true c12
           clear c12
           obtain rfl := Option.some.inj H
           have p4 : 0 ≤ (x3_1 : Int) := oda_
           have q4 : x3_1 < (a0.size : Int) := oda_
           have hx4 := bt_at a0 x3_1
           replace p4 := eq_true p4
           replace q4 := eq_true q4
           go_wp2
           go_ret
           exact ⟨by first | rfl | (simp; done) | (simp [*]; done), by repeat (first | exact Drawn0.refl _ | apply Drawn0.step)⟩
          ·
           rw [if_neg c12] at H
           have c12b0 : decide ((bt a0 x3_1) < 48) = false := decide_eq_false c12
           clear c12
           by_cases c13 : (bt a0 x3_1) > 57
           ·
            rw [if_pos c13] at H
            have c13b0 : decide (57 < (bt a0 x3_1)) = true := decide_eq_true c13
            clear c13
            obtain rfl := Option.some.inj H
            have p4 : 0 ≤ (x3_1 : Int) := oda_
            have q4 : x3_1 < (a0.size : Int) := oda_
            have hx4 := bt_at a0 x3_1
            replace p4 := eq_true p4
            replace q4 := eq_true q4
            go_wp2
            go_ret
            exact ⟨by first | rfl | (simp; done) | (simp [*]; done), by repeat (first | exact Drawn0.refl _ | apply Drawn0.step)⟩
           ·
            rw [if_neg c13] at H
            have c13b0 : decide (57 < (bt a0 x3_1)) = false := decide_eq_false c13
            clear c13
            have H' := Aside0.mk H
            clear H
            have p4 : 0 ≤ (x3_1 : Int) := oda_
            have q4 : x3_1 < (a0.size : Int) := oda_
            have hx4 := bt_at a0 x3_1
            replace p4 := eq_true p4
            replace q4 := eq_true q4
            go_wp2
            go_roundg k1
            case measure => have := HK1.out; omega
            case rel => exact ⟨(wrap64 (x3_1 + 1)), (by first | rfl | (simp; done) | (simp [*]; done)), H', ⟨by have := HK1.out; omega⟩, by repeat (first | exact Drawn0.refl _ | apply Drawn0.step)⟩
         ·
          rw [if_neg c11] at H
          have c11b0 : decide (122 < (bt a0 x3_1)) = false := decide_eq_false c11
          clear c11
          have H' := Aside0.mk H
          clear H
          have p4 : 0 ≤ (x3_1 : Int) := oda_
          have q4 : x3_1 < (a0.size : Int) := oda_
          have hx4 := bt_at a0 x3_1
          replace p4 := eq_true p4
          replace q4 := eq_true q4
          go_wp2
          go_roundg k1
          case measure => have := HK1.out; omega
          case rel => exact ⟨(wrap64 (x3_1 + 1)), (by first | rfl | (simp; done) | (simp [*]; done)), H', ⟨by have := HK1.out; omega⟩, by repeat (first | exact Drawn0.refl _ | apply Drawn0.step)⟩
    ·
     rw [if_neg c3] at H
     exact absurd H (by simp)
   ·
    rw [if_neg c2] at H
    have c2b0 : decide (x3_1 < (a0.size : Int)) = false := decide_eq_false c2
    clear c2
    by_cases c14 : (a0.size : Int) ≥ 1
    ·
     rw [if_pos c14] at H
     have c14b0 : decide (1 ≤ (a0.size : Int)) = true := decide_eq_true c14
     have c14b1 : decide (1 ≤ a0.size) = true := decide_eq_true (by omega)
     clear c14
     by_cases c15 : (a0.size : Int) ≤ 30
     ·
      rw [if_pos c15] at H
      have c15b0 : decide ((a0.size : Int) ≤ 30) = true := decide_eq_true c15
      have c15b1 : decide (a0.size ≤ 30) = true := decide_eq_true (by omega)
      clear c15
      by_cases c16 : 0 < (a0.size : Int)
      ·
       rw [if_pos c16] at H
       have c16b0 : decide (0 < (a0.size : Int)) = true := decide_eq_true c16
       have c16b1 : decide (0 < a0.size) = true := decide_eq_true (by omega)
       clear c16
       obtain rfl := Option.some.inj H
       have p17 : 0 ≤ (0 : Int) := (by omega)
       have q17 : 0 < a0.size := (by have : (0 : Int) < (a0.size : Int) := oda_; omega)
       have hx17 : ∀ h : 0 < a0.size, ((a0[0]'h).toNat : Int) = bt a0 0 := bt_at a0 0
       clear p17
       have qi17 : (0 < (a0.size : Int)) = True := eq_true (oda_)
       replace q17 := eq_true q17
       go_wp2
       go_ret
       exact ⟨by first | rfl | (simp; done) | (simp [*]; done), by repeat (first | exact Drawn0.refl _ | apply Drawn0.step)⟩
      ·
       rw [if_neg c16] at H
       exact absurd H (by simp)
     ·
      rw [if_neg c15] at H
      have c15b0 : decide ((a0.size : Int) ≤ 30) = false := decide_eq_false c15
      have c15b1 : decide (a0.size ≤ 30) = false := decide_eq_false (by omega)
      clear c15
      obtain rfl := Option.some.inj H
      go_wp2
      go_ret
      exact ⟨by first | rfl | (simp; done) | (simp [*]; done), by repeat (first | exact Drawn0.refl _ | apply Drawn0.step)⟩
    ·
     rw [if_neg c14] at H
     have c14b0 : decide (1 ≤ (a0.size : Int)) = false := decide_eq_false c14
     have c14b1 : decide (1 ≤ a0.size) = false := decide_eq_false (by omega)
     clear c14
     obtain rfl := Option.some.inj H
     go_wp2
     go_ret
     exact ⟨by first | rfl | (simp; done) | (simp [*]; done), by repeat (first | exact Drawn0.refl _ | apply Drawn0.step)⟩
end Go.Proofs.YtacgchklilfcaaaGreatDoor.PRfBase
