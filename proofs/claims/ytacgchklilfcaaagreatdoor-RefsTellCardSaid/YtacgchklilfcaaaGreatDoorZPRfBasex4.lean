/- Functions as the kit's printer (print.py) writes them, over contracts that this seat's own texts give. No condition but the reach of what comes in. -/
import Derived.Test.YtacgchklilfcaaaGreatDoorZPRfBasex0
namespace Go.Proofs.YtacgchklilfcaaaGreatDoor.PRfBase
open Go.RowKit Go.Proofs.YtacgchklilfcaaaGreatDoorW.PrintWords Go.Proofs.YtacgchklilfcaaaGreatDoorW.PrintLast Go.Proofs.YtacgchklilfcaaaGreatDoorW.PrintMore
attribute [local go_sem] StrSem.leq_str StrSem.geq_str StrSem.gtr_str max2_int min2_int max_two min_two max_three min_three max_four min_four   -- for this text's walks alone
set_option linter.unusedVariables false
set_option linter.unusedSimpArgs false
noncomputable def r09_above.f (a0 : ByteArray) (a1 : ByteArray) : Option (Bool) := if (a1.size : Int) > (a0.size : Int) then (if 0 ≤ (a0.size : Int) then (if (a0.size : Int) ≤ (a1.size : Int) then (if (a1.extract 0 ((a0.size : Int) : Int).toNat).toList = a0.toList then (if (a0.size : Int) < (a1.size : Int) then (some ((bt a1 (a0.size : Int)) == 47)) else (none)) else (some false)) else (none)) else (none)) else (some false)
set_option maxHeartbeats 8000000 in
set_option maxRecDepth 100000 in
theorem r09_above.calls (a0 : ByteArray) (a1 : ByteArray) (r : Bool) (w : World) (h : r09_above.f a0 a1 = some r) :
  Calls Tryz.prog 32 #[.string a0, .string a1] w fun e w' => e = .returned (.bool r) ∧ Drawn0 w w' := by
 have H : (if (a1.size : Int) > (a0.size : Int) then (if 0 ≤ (a0.size : Int) then (if (a0.size : Int) ≤ (a1.size : Int) then (if (a1.extract 0 ((a0.size : Int) : Int).toNat).toList = a0.toList then (if (a0.size : Int) < (a1.size : Int) then (some ((bt a1 (a0.size : Int)) == 47)) else (none)) else (some false)) else (none)) else (none)) else (some false)) = some r := h
 clear h
 by_cases c3 : (a1.size : Int) > (a0.size : Int)
 ·
  rw [if_pos c3] at H
  have c3b0 : decide ((a0.size : Int) < (a1.size : Int)) = true := decide_eq_true c3
  have c3b1 : decide (a0.size < a1.size) = true := decide_eq_true (Int.ofNat_lt.mp c3)
  clear c3
  by_cases c4 : 0 ≤ (a0.size : Int)
  ·
   rw [if_pos c4] at H
   have c4b0 := eq_true c4
   have c4b1 : decide (0 ≤ (a0.size : Int)) = true := decide_eq_true c4
   clear c4
   by_cases c5 : (a0.size : Int) ≤ (a1.size : Int)
   ·
    rw [if_pos c5] at H
    have c5b0 := eq_true c5
    have c5b1 : decide ((a0.size : Int) ≤ (a1.size : Int)) = true := decide_eq_true c5
    clear c5
    by_cases c6 : (a1.extract 0 ((a0.size : Int) : Int).toNat).toList = a0.toList
    ·
     rw [if_pos c6] at H
     have c6b0 : ((a1.extract 0 ((a0.size : Int) : Int).toNat).toList == a0.toList) = true := beq_iff_eq.mpr c6
     (try simp only [Int.toNat_natCast] at c6b0)
     have c6b1 : ((a1.extract 0 ((a0.size : Int) : Int).toNat).toList != a0.toList) = false := bne_eq_false_iff_eq.mpr c6
     (try simp only [Int.toNat_natCast] at c6b1)
     clear c6
     by_cases c7 : (a0.size : Int) < (a1.size : Int)
     ·
      rw [if_pos c7] at H
      have c7b0 : decide ((a0.size : Int) < (a1.size : Int)) = true := decide_eq_true c7
      have c7b1 : decide (a0.size < a1.size) = true := decide_eq_true (Int.ofNat_lt.mp c7)
      clear c7
      obtain rfl := Option.some.inj H
      have p8 : 0 ≤ ((a0.size : Int) : Int) := oda_
      have q8 : (a0.size : Int) < (a1.size : Int) := oda_
      have hx8 := bt_at a1 (a0.size : Int)
      have hx8n : ∀ h : a0.size < a1.size, ((a1[a0.size]'h).toNat : Int) = bt a1 (a0.size : Int) := fun h => by simp [bt, h]
      replace p8 := eq_true p8
      replace q8 := eq_true q8
      go_enter Tryz.func32, Tryz.ntmps32
      go_wp2
      go_ret
      exact ⟨by first | rfl | (simp; done) | (simp [*]; done), by repeat (first | exact Drawn0.refl _ | apply Drawn0.step)⟩
     ·
      rw [if_neg c7] at H
      exact absurd H (by simp)
    ·
     rw [if_neg c6] at H
     have c6b0 : ((a1.extract 0 ((a0.size : Int) : Int).toNat).toList == a0.toList) = false := beq_eq_false_iff_ne.mpr c6
     (try simp only [Int.toNat_natCast] at c6b0)
     have c6b1 : ((a1.extract 0 ((a0.size : Int) : Int).toNat).toList != a0.toList) = true := bne_iff_ne.mpr c6
     (try simp only [Int.toNat_natCast] at c6b1)
     obtain rfl := Option.some.inj H
     go_enter Tryz.func32, Tryz.ntmps32
     go_wp2
     go_ret
     exact ⟨by first | rfl | (simp; done) | (simp [*]; done), by repeat (first | exact Drawn0.refl _ | apply Drawn0.step)⟩
   ·
    rw [if_neg c5] at H
    exact absurd H (by simp)
  ·
   rw [if_neg c4] at H
   exact absurd H (by simp)
 ·
  rw [if_neg c3] at H
  have c3b0 : decide ((a0.size : Int) < (a1.size : Int)) = false := decide_eq_false c3
  have c3b1 : decide (a0.size < a1.size) = false := decide_eq_false (fun h => c3 (Int.ofNat_lt.mpr h))
  clear c3
  obtain rfl := Option.some.inj H
  go_enter Tryz.func32, Tryz.ntmps32
  go_wp2
  go_ret
  exact ⟨by first | rfl | (simp; done) | (simp [*]; done), by repeat (first | exact Drawn0.refl _ | apply Drawn0.step)⟩
noncomputable def r02_Named.l0 : Nat → ByteArray → Int → Option (Bool)
 | 0, _, _ => none
 | k + 1, x0, x3 => if x3 < 64 then (if 0 ≤ x3 then (if x3 < (x0.size : Int) then (if (bt x0 x3) ≥ 48 then (if (bt x0 x3) ≤ 57 then (r02_Named.l0 k x0 (wrap64 (x3 + 1))) else (if (bt x0 x3) ≥ 97 then (if ((bt x0 x3) ≤ 102) then (r02_Named.l0 k x0 (wrap64 (x3 + 1))) else (some false)) else (some false))) else (if (bt x0 x3) ≥ 97 then (if ((bt x0 x3) ≤ 102) then (r02_Named.l0 k x0 (wrap64 (x3 + 1))) else (some false)) else (some false))) else (none)) else (none)) else (some true)
noncomputable def r02_Named.f (k : Nat) (a0 : ByteArray) : Option (Bool) := if (a0.size : Int) = 64 then (r02_Named.l0 k a0 0) else (some false)
set_option maxHeartbeats 8000000 in
set_option maxRecDepth 100000 in
theorem r02_Named.calls (k : Nat) (a0 : ByteArray) (r : Bool) (w : World) (h : r02_Named.f k a0 = some r) :
  Calls Tryz.prog 40 #[.string a0] w fun e w' => e = .returned (.bool r) ∧ Drawn0 w w' := by
 have H : (if (a0.size : Int) = 64 then (r02_Named.l0 k a0 0) else (some false)) = some r := h
 clear h
 by_cases c2 : (a0.size : Int) = 64
 ·
  rw [if_pos c2] at H
  have c2b0 : ((a0.size : Int) == 64) = true := beq_iff_eq.mpr c2
  have c2b1 : ((a0.size : Int) != 64) = false := bne_eq_false_iff_eq.mpr c2
  clear c2
  have H' := Aside0.mk H
  clear H
  go_enter Tryz.func40, Tryz.ntmps40
  go_wp2
  go_loopg [3] k (fun kq v3 w' => ∃ (x3_1 : Int), v3 = .int .i64 x3_1 ∧ Aside0 (r02_Named.l0 kq a0 x3_1 = some r) ∧ Aside0 (kq ≤ k) ∧ Drawn0 w w')
  case atStart => exact ⟨(0), (by first | rfl | (simp; done) | (simp [*]; done)), H', ⟨Nat.le_refl _⟩, by repeat (first | exact Drawn0.refl _ | apply Drawn0.step)⟩
  case round =>
   clear H'
   try clear c2
   try clear c2b0
   try clear c2b1
   try clear p2
   obtain ⟨x3_1, rfl, HA, HK1, ⟨m1, rfl⟩⟩ := hrel
   cases gk with
   | zero => exact absurd HA.out (by simp [r02_Named.l0])
   | succ k1 =>
    have H := HA.out
    clear HA
    simp only [r02_Named.l0] at H
    by_cases c3 : x3_1 < 64
    ·
     rw [if_pos c3] at H
     have c3b0 : decide (x3_1 < 64) = true := decide_eq_true c3
     clear c3
     by_cases c4 : 0 ≤ x3_1
     ·
      rw [if_pos c4] at H
      have c4b0 : decide (0 ≤ x3_1) = true := decide_eq_true c4
      clear c4
      by_cases c5 : x3_1 < (a0.size : Int)
      ·
       rw [if_pos c5] at H
       have c5b0 : decide (x3_1 < (a0.size : Int)) = true := decide_eq_true c5
       clear c5
       by_cases c7 : (bt a0 x3_1) ≥ 48
       ·
        rw [if_pos c7] at H
        have c7b0 : decide (48 ≤ (bt a0 x3_1)) = true := decide_eq_true c7
        clear c7
        by_cases c9 : (bt a0 x3_1) ≤ 57
        ·
         rw [if_pos c9] at H
         have c9b0 : decide ((bt a0 x3_1) ≤ 57) = true := decide_eq_true c9
         clear c9
         have H' := Aside0.mk H
         clear H
         have p6 : 0 ≤ (x3_1 : Int) := oda_
         have q6 : x3_1 < (a0.size : Int) := oda_
         have hx6 := bt_at a0 x3_1
         replace p6 := eq_true p6
         replace q6 := eq_true q6
         have p8 : 0 ≤ (x3_1 : Int) := oda_
         have q8 : x3_1 < (a0.size : Int) := oda_
         have hx8 := bt_at a0 x3_1
         replace p8 := eq_true p8
         replace q8 := eq_true q8
         go_wp2
         go_roundg k1
         case measure => have := HK1.out; omega
         case rel => exact ⟨(wrap64 (x3_1 + 1)), (by first | rfl | (simp; done) | (simp [*]; done)), H', ⟨by have := HK1.out; omega⟩, by repeat (first | exact Drawn0.refl _ | apply Drawn0.step)⟩
        ·
         rw [if_neg c9] at H
         have c9b0 : decide ((bt a0 x3_1) ≤ 57) = false := decide_eq_false c9
         clear c9
         by_cases c11 : (bt a0 x3_1) ≥ 97
         ·
          rw [if_pos c11] at H
          have c11b0 : decide (97 ≤ (bt a0 x3_1)) = true := decide_eq_true c11
          clear c11
          by_cases c13 : ((bt a0 x3_1) ≤ 102)
          ·
           rw [if_pos c13] at H
           have c13b0 : decide ((bt a0 x3_1) ≤ 102) = true := decide_eq_true c13
           clear c13
           have H' := Aside0.mk H
           clear H
           have p6 : 0 ≤ (x3_1 : Int) := oda_
           have q6 : x3_1 < (a0.size : Int) := oda_
           have hx6 := bt_at a0 x3_1
           replace p6 := eq_true p6
           replace q6 := eq_true q6
           have p8 : 0 ≤ (x3_1 : Int) := oda_
           have q8 : x3_1 < (a0.size : Int) := oda_
           have hx8 := bt_at a0 x3_1
           replace p8 := eq_true p8
           replace q8 := eq_true q8
           have p10 : 0 ≤ (x3_1 : Int) := oda_
           have q10 : x3_1 < (a0.size : Int) := oda_
           have hx10 := bt_at a0 x3_1
           replace p10 := eq_true p10
           replace q10 := eq_true q10
           have p12 : 0 ≤ (x3_1 : Int) := oda_
           have q12 : x3_1 < (a0.size : Int) := oda_
           have hx12 := bt_at a0 x3_1
           replace p12 := eq_true p12
           replace q12 := eq_true q12
           go_wp2
           go_roundg k1
           case measure => have := HK1.out; omega
           case rel => exact ⟨(wrap64 (x3_1 + 1)), (by first | rfl | (simp; done) | (simp [*]; done)), H', ⟨by have := HK1.out; omega⟩, by repeat (first | exact Drawn0.refl _ | apply Drawn0.step)⟩
          ·
           rw [if_neg c13] at H
           have c13b0 : decide ((bt a0 x3_1) ≤ 102) = false := decide_eq_false c13
           clear c13
           obtain rfl := Option.some.inj H
           have p6 : 0 ≤ (x3_1 : Int) := oda_
           have q6 : x3_1 < (a0.size : Int) := oda_
           have hx6 := bt_at a0 x3_1
           replace p6 := eq_true p6
           replace q6 := eq_true q6
           have p8 : 0 ≤ (x3_1 : Int) := oda_
           have q8 : x3_1 < (a0.size : Int) := oda_
           have hx8 := bt_at a0 x3_1
           replace p8 := eq_true p8
           replace q8 := eq_true q8
           have p10 : 0 ≤ (x3_1 : Int) := oda_
           have q10 : x3_1 < (a0.size : Int) := oda_
           have hx10 := bt_at a0 x3_1
           replace p10 := eq_true p10
           replace q10 := eq_true q10
           have p12 : 0 ≤ (x3_1 : Int) := oda_
           have q12 : x3_1 < (a0.size : Int) := oda_
           have hx12 := bt_at a0 x3_1
           replace p12 := eq_true p12
           replace q12 := eq_true q12
           go_wp2
           go_ret
           exact ⟨by first | rfl | (simp; done) | (simp [*]; done), by repeat (first | exact Drawn0.refl _ | apply Drawn0.step)⟩
         ·
          rw [if_neg c11] at H
          have c11b0 : decide (97 ≤ (bt a0 x3_1)) = false := decide_eq_false c11
          clear c11
          obtain rfl := Option.some.inj H
          have p6 : 0 ≤ (x3_1 : Int) := oda_
          have q6 : x3_1 < (a0.size : Int) := oda_
          have hx6 := bt_at a0 x3_1
          replace p6 := eq_true p6
          replace q6 := eq_true q6
          have p8 : 0 ≤ (x3_1 : Int) := oda_
          have q8 : x3_1 < (a0.size : Int) := oda_
          have hx8 := bt_at a0 x3_1
          replace p8 := eq_true p8
          replace q8 := eq_true q8
          have p10 : 0 ≤ (x3_1 : Int) := oda_
          have q10 : x3_1 < (a0.size : Int) := oda_
          have hx10 := bt_at a0 x3_1
          replace p10 := eq_true p10
          replace q10 := eq_true q10
          go_wp2
          go_ret
          exact ⟨by first | rfl | (simp; done) | (simp [*]; done), by repeat (first | exact Drawn0.refl _ | apply Drawn0.step)⟩
       ·
        rw [if_neg c7] at H
        have c7b0 : decide (48 ≤ (bt a0 x3_1)) = false := decide_eq_false c7
        clear c7
        by_cases c15 : (bt a0 x3_1) ≥ 97
        ·
         rw [if_pos c15] at H
         have c15b0 : decide (97 ≤ (bt a0 x3_1)) = true := decide_eq_true c15
         clear c15
         by_cases c17 : ((bt a0 x3_1) ≤ 102)
         ·
          rw [if_pos c17] at H
          have c17b0 : decide ((bt a0 x3_1) ≤ 102) = true := decide_eq_true c17
          clear c17
          have H' := Aside0.mk H
          clear H
          have p6 : 0 ≤ (x3_1 : Int) := oda_
          have q6 : x3_1 < (a0.size : Int) := oda_
          have hx6 := bt_at a0 x3_1
          replace p6 := eq_true p6
          replace q6 := eq_true q6
          have p14 : 0 ≤ (x3_1 : Int) := oda_
          have q14 : x3_1 < (a0.size : Int) := oda_
          have hx14 := bt_at a0 x3_1
          replace p14 := eq_true p14
          replace q14 := eq_true q14
          have p16 : 0 ≤ (x3_1 : Int) := oda_
          have q16 : x3_1 < (a0.size : Int) := oda_
          have hx16 := bt_at a0 x3_1
          replace p16 := eq_true p16
          replace q16 := eq_true q16
          go_wp2
          go_roundg k1
          case measure => have := HK1.out; omega
          case rel => exact ⟨(wrap64 (x3_1 + 1)), (by first | rfl | (simp; done) | (simp [*]; done)), H', ⟨by have := HK1.out; omega⟩, by repeat (first | exact Drawn0.refl _ | apply Drawn0.step)⟩
         ·
          rw [if_neg c17] at H
          have c17b0 : decide ((bt a0 x3_1) ≤ 102) = false := decide_eq_false c17
          clear c17
          obtain rfl := Option.some.inj H
          have p6 : 0 ≤ (x3_1 : Int) := oda_
          have q6 : x3_1 < (a0.size : Int) := oda_
          have hx6 := bt_at a0 x3_1
          replace p6 := eq_true p6
          replace q6 := eq_true q6
          have p14 : 0 ≤ (x3_1 : Int) := oda_
          have q14 : x3_1 < (a0.size : Int) := oda_
          have hx14 := bt_at a0 x3_1
          replace p14 := eq_true p14
          replace q14 := eq_true q14
          have p16 : 0 ≤ (x3_1 : Int) := oda_
          have q16 : x3_1 < (a0.size : Int) := oda_
          have hx16 := bt_at a0 x3_1
          replace p16 := eq_true p16
          replace q16 := eq_true q16
          go_wp2
          go_ret
          exact ⟨by first | rfl | (simp; done) | (simp [*]; done), by repeat (first | exact Drawn0.refl _ | apply Drawn0.step)⟩
        ·
         rw [if_neg c15] at H
         have c15b0 : decide (97 ≤ (bt a0 x3_1)) = false := decide_eq_false c15
         clear c15
         obtain rfl := Option.some.inj H
         have p6 : 0 ≤ (x3_1 : Int) := oda_
         have q6 : x3_1 < (a0.size : Int) := oda_
         have hx6 := bt_at a0 x3_1
         replace p6 := eq_true p6
         replace q6 := eq_true q6
         have p14 : 0 ≤ (x3_1 : Int) := oda_
         have q14 : x3_1 < (a0.size : Int) := oda_
         have hx14 := bt_at a0 x3_1
         replace p14 := eq_true p14
         replace q14 := eq_true q14
         go_wp2
         go_ret
         exact ⟨by first | rfl | (simp; done) | (simp [*]; done), by repeat (first | exact Drawn0.refl _ | apply Drawn0.step)⟩
      ·
       rw [if_neg c5] at H
       exact absurd H (by simp)
     ·
      rw [if_neg c4] at H
      exact absurd H (by simp)
    ·
     rw [if_neg c3] at H
     have c3b0 : decide (x3_1 < 64) = false := decide_eq_false c3
     clear c3
     obtain rfl := Option.some.inj H
     go_wp2
     go_ret
     exact ⟨by first | rfl | (simp; done) | (simp [*]; done), by repeat (first | exact Drawn0.refl _ | apply Drawn0.step)⟩
 ·
  rw [if_neg c2] at H
  have c2b0 : ((a0.size : Int) == 64) = false := beq_eq_false_iff_ne.mpr c2
  have c2b1 : ((a0.size : Int) != 64) = true := bne_iff_ne.mpr c2
  obtain rfl := Option.some.inj H
  go_enter Tryz.func40, Tryz.ntmps40
  go_wp2
  go_ret
  exact ⟨by first | rfl | (simp; done) | (simp [*]; done), by repeat (first | exact Drawn0.refl _ | apply Drawn0.step)⟩
end Go.Proofs.YtacgchklilfcaaaGreatDoor.PRfBase
