/- Joined texts: ObS1, PObBasex0, PObBasex1, PObDocx0, PObDocx1, PObDocx2, PObDocx7. No condition but what stands in each. -/
import Derived.Test.YtehmhfbfgniekaaGreatDoorProg
import Derived.Test.YtehmhfbfgniekaaGreatDoorZWalkLessJ0
import Derived.RowKit
import Derived.Test.YtehmhfbfgniekaaGreatDoorZWalkLessJ4
import Derived.Test.YtehmhfbfgniekaaGreatDoorZWalkLessJ1
import Derived.Below
import Derived.Deep.Draws
import Derived.Deep.AppendLies
import Derived.Maps.AppendAt
import Derived.OwnWalk
import Derived.Laws.BytesArg
import Derived.Laws.MakeOwn
import Derived.Laws.OwnMore
import Derived.Deep.OwnRows
import Derived.Tactics
import Derived.Lib.ConvBytes
import Derived.Laws.Slices
import Derived.WalkKit
import Derived.KernelRfl
import Derived.RowKit3
import Derived.Deep.LoopGhost
import Derived.Deep.QuietTactic
import Derived.BigQuiet
import Derived.WideLaws
import Derived.Deep.DeepCutAuto
import Derived.Deep.CutBlock
import Derived.Deep.RegionHeld3
import Derived.Laws.Rows
import Derived.Lib.AppendStr
import Derived.ArgAppend
import Derived.Laws.IdiomCopy
import Derived.OrdersHeld
import Derived.Laws.BitsLemmas
import Derived.Test.YtehmhfbfgniekaaGreatDoorZWalkLessJ2
import Derived.BigRegion
import Derived.Shelf.Abstract
namespace Go.Proofs.YtehmhfbfgniekaaGreatDoor.RegW
open Go Go.RowKit Go.Proofs.YtehmhfbfgniekaaGreatDoorW.PrintWords
end Go.Proofs.YtehmhfbfgniekaaGreatDoor.RegW
namespace Go.Proofs.YtehmhfbfgniekaaGreatDoor.StrSem
open Go
theorem less_or : ∀ (a b : List UInt8), (Op.bytesLess a b || a == b) = !(Op.bytesLess b a)
  | [], [] => by simp [Op.bytesLess]
  | [], y :: s => by simp [Op.bytesLess]
  | x :: r, [] => by simp [Op.bytesLess]
  | x :: r, y :: s => by
    have ih := less_or r s
    rw [Op.bytesLess, Op.bytesLess]
    by_cases h1 : x < y
    · have h2 : ¬ y < x := fun h => UInt8.lt_irrefl _ (UInt8.lt_trans h1 h)
      have h3 : (y == x) = false := by
        rw [beq_eq_false_iff_ne]; rintro rfl; exact h2 h1
      simp [h1, h2, h3]
    · by_cases h2 : y < x
      · have h3 : (x == y) = false := by
          rw [beq_eq_false_iff_ne]; rintro rfl; exact h1 h2
        simp [h1, h2, h3]
      · have he : x = y := UInt8.le_antisymm (UInt8.not_lt.1 h2) (UInt8.not_lt.1 h1)
        subst he
        simp only [h1, decide_false, Bool.false_or, beq_self_eq_true, Bool.true_and]
        rw [← ih]
        simp
theorem leq_str (t : TypeId) (a b : ByteArray) : binOp .leq t (.string a) (.string b) = pure (.bool (!(Op.bytesLess b.toList a.toList))) := by
  simp [binOp, Op.stringOp, less_or a.toList b.toList]
theorem geq_str (t : TypeId) (a b : ByteArray) : binOp .geq t (.string a) (.string b) = pure (.bool (!(Op.bytesLess a.toList b.toList))) := by simp [binOp, Op.stringOp]
theorem gtr_str (t : TypeId) (a b : ByteArray) : binOp .gtr t (.string a) (.string b) = pure (.bool (Op.bytesLess b.toList a.toList)) := by
  simp [binOp, Op.stringOp, less_or a.toList b.toList]
end Go.Proofs.YtehmhfbfgniekaaGreatDoor.StrSem
namespace Go.Proofs.YtehmhfbfgniekaaGreatDoor.Gl
set_option linter.unusedVariables false
open Go Go.RowKit Go.Proofs.YtehmhfbfgniekaaGreatDoorW.PrintWords Go.Proofs.YtehmhfbfgniekaaGreatDoorW.PrintLast
def oneB (s : ByteArray) : Option UInt8 := match s.data.toList with | [c] => some c | _ => none
theorem oneB_eq {s : ByteArray} {c : UInt8} (h : oneB s = some c) : s = ⟨#[c]⟩ := by
  unfold oneB at h
  split at h
  · rename_i d hd
    obtain rfl := Option.some.inj h
    rcases s with ⟨⟨l⟩⟩
    simp only at hd
    rw [hd]
  · cases h
def lite_Index.f (a0 a1 : ByteArray) : Option Int := (oneB a1).map fun c => Lib.indexByte a0.data.toList c
theorem lite_Index.calls (a0 a1 : ByteArray) (r : Int) (w : World) (h : lite_Index.f a0 a1 = some r) : Calls Tryz.prog 124 #[.string a0, .string a1] w fun e w' => e = .returned (.int .i64 r) ∧ Drawn0 w w' := by
  obtain ⟨c, hc, rfl⟩ := Option.map_eq_some_iff.1 h
  rw [oneB_eq hc]
  exact (Tryz.stringslite_Index_one a0 c w).mono fun e w' k => ⟨k.1, by rw [k.2]; exact Drawn0.refl _⟩
end Go.Proofs.YtehmhfbfgniekaaGreatDoor.Gl

namespace Go.Proofs.YtehmhfbfgniekaaGreatDoor.PObBase
open Go.RowKit Go.Proofs.YtehmhfbfgniekaaGreatDoorW.PrintWords Go.Proofs.YtehmhfbfgniekaaGreatDoorW.PrintLast Go.Proofs.YtehmhfbfgniekaaGreatDoorW.PrintMore
attribute [local go_sem] StrSem.leq_str StrSem.geq_str StrSem.gtr_str max2_int min2_int max_two min_two max_three min_three max_four min_four   -- for this text's walks alone
set_option linter.unusedVariables false
set_option linter.unusedSimpArgs false
def errW : Option Int → Value
 | none => .nilIface
 | some c => .iface 0 (.int .i64 c)
theorem errW_none : errW none = .nilIface := rfl
theorem errW_some (c : Int) : errW (some c) = .iface 0 (.int .i64 c) := rfl
end Go.Proofs.YtehmhfbfgniekaaGreatDoor.PObBase

namespace Go.Proofs.YtehmhfbfgniekaaGreatDoor.PObBase
open Go.RowKit Go.Proofs.YtehmhfbfgniekaaGreatDoorW.PrintWords Go.Proofs.YtehmhfbfgniekaaGreatDoorW.PrintLast Go.Proofs.YtehmhfbfgniekaaGreatDoorW.PrintMore
attribute [local go_sem] StrSem.leq_str StrSem.geq_str StrSem.gtr_str max2_int min2_int max_two min_two max_three min_three max_four min_four   -- for this text's walks alone
set_option linter.unusedVariables false
set_option linter.unusedSimpArgs false
noncomputable def object_part.l0 : Nat → ByteArray → Int → Int → Option (Bool)
 | 0, _, _, _ => none
 | k + 1, x0, x5, x6 => if x6 < x5 then (if 0 ≤ x6 then (if x6 < (x0.size : Int) then (if (bt x0 x6) < 33 then (some false) else (if (bt x0 x6) > 126 then (some false) else (if (bt x0 x6) = 47 then (some false) else (object_part.l0 k x0 x5 (wrap64 (x6 + 1)))))) else (none)) else (none)) else (if x0.toList = ([] : List UInt8) then (some false) else (if (x0.size : Int) ≤ 70 then (if x0.toList = ([46] : List UInt8) then (some false) else (some (x0.toList != ([46, 46] : List UInt8)))) else (some false)))
noncomputable def object_part.f (k : Nat) (a0 : ByteArray) : Option (Bool) := object_part.l0 k a0 (a0.size : Int) 0
set_option maxHeartbeats 8000000 in
set_option maxRecDepth 100000 in
theorem object_part.calls (k : Nat) (a0 : ByteArray) (r : Bool) (w : World) (h : object_part.f k a0 = some r) :
  Calls Tryz.prog 126 #[.string a0] w fun e w' => e = .returned (.bool r) ∧ Drawn0 w w' := by
 have H : (object_part.l0 k a0 (a0.size : Int) 0) = some r := h
 clear h
 have H' := Aside0.mk H
 clear H
 go_enter Tryz.func126, Tryz.ntmps126
 go_wp2
 go_loopg [6] k (fun kq v6 w' => ∃ (x6_1 : Int), v6 = .int .i64 x6_1 ∧ Aside0 (object_part.l0 kq a0 (a0.size : Int) x6_1 = some r) ∧ Aside0 (kq ≤ k) ∧ Drawn0 w w')
 case atStart => exact ⟨(0), sd_, H', ⟨Nat.le_refl _⟩, dr_⟩
 case round =>
  clear H'
  try clear c1
  obtain ⟨x6_1, rfl, HA, HK1, ⟨m1, rfl⟩⟩ := hrel
  cases gk with
  | zero => exact absurd HA.out (by simp [object_part.l0])
  | succ k1 =>
   have H := HA.out
   clear HA
   simp only [object_part.l0] at H
   by_cases c2 : x6_1 < (a0.size : Int)
   ·
    rw [if_pos c2] at H
    have c2b0 : decide (x6_1 < (a0.size : Int)) = true := decide_eq_true c2
    clear c2
    by_cases c3 : 0 ≤ x6_1
    ·
     rw [if_pos c3] at H
     have c3b0 : decide (0 ≤ x6_1) = true := decide_eq_true c3
     clear c3
     by_cases c4 : x6_1 < (a0.size : Int)
     ·
      rw [if_pos c4] at H
      have c4b0 : decide (x6_1 < (a0.size : Int)) = true := decide_eq_true c4
      clear c4
      by_cases c6 : (bt a0 x6_1) < 33
      ·
       rw [if_pos c6] at H
       have c6b0 : decide ((bt a0 x6_1) < 33) = true := decide_eq_true c6
       clear c6
       obtain rfl := Option.some.inj H
       have p5 : 0 ≤ (x6_1 : Int) := oda_
       have q5 : x6_1 < (a0.size : Int) := oda_
       have hx5 := bt_at a0 x6_1
       replace p5 := eq_true p5
       replace q5 := eq_true q5
       go_wp2
       go_ret
       exact ⟨sd_, dr_⟩
      ·
       rw [if_neg c6] at H
       have c6b0 : decide ((bt a0 x6_1) < 33) = false := decide_eq_false c6
       clear c6
       by_cases c8 : (bt a0 x6_1) > 126
       ·
        rw [if_pos c8] at H
        have c8b0 : decide (126 < (bt a0 x6_1)) = true := decide_eq_true c8
        clear c8
        obtain rfl := Option.some.inj H
        have p5 : 0 ≤ (x6_1 : Int) := oda_
        have q5 : x6_1 < (a0.size : Int) := oda_
        have hx5 := bt_at a0 x6_1
        replace p5 := eq_true p5
        replace q5 := eq_true q5
        have p7 : 0 ≤ (x6_1 : Int) := oda_
        have q7 : x6_1 < (a0.size : Int) := oda_
        have hx7 := bt_at a0 x6_1
        replace p7 := eq_true p7
        replace q7 := eq_true q7
        go_wp2
        go_ret
        exact ⟨sd_, dr_⟩
       ·
        rw [if_neg c8] at H
        have c8b0 : decide (126 < (bt a0 x6_1)) = false := decide_eq_false c8
        clear c8
        by_cases c10 : (bt a0 x6_1) = 47
        ·
         rw [if_pos c10] at H
         have c10b0 : ((bt a0 x6_1) == 47) = true := beq_iff_eq.mpr c10
         have c10b1 : ((bt a0 x6_1) != 47) = false := bne_eq_false_iff_eq.mpr c10
         clear c10
         obtain rfl := Option.some.inj H
         have p5 : 0 ≤ (x6_1 : Int) := oda_
         have q5 : x6_1 < (a0.size : Int) := oda_
         have hx5 := bt_at a0 x6_1
         replace p5 := eq_true p5
         replace q5 := eq_true q5
         have p7 : 0 ≤ (x6_1 : Int) := oda_
         have q7 : x6_1 < (a0.size : Int) := oda_
         have hx7 := bt_at a0 x6_1
         replace p7 := eq_true p7
         replace q7 := eq_true q7
         have p9 : 0 ≤ (x6_1 : Int) := oda_
         have q9 : x6_1 < (a0.size : Int) := oda_
         have hx9 := bt_at a0 x6_1
         replace p9 := eq_true p9
         replace q9 := eq_true q9
         go_wp2
         go_ret
         exact ⟨sd_, dr_⟩
        ·
         rw [if_neg c10] at H
         have c10b0 : ((bt a0 x6_1) == 47) = false := beq_eq_false_iff_ne.mpr c10
         have c10b1 : ((bt a0 x6_1) != 47) = true := bne_iff_ne.mpr c10
         have H' := Aside0.mk H
         clear H
         have p5 : 0 ≤ (x6_1 : Int) := oda_
         have q5 : x6_1 < (a0.size : Int) := oda_
         have hx5 := bt_at a0 x6_1
         replace p5 := eq_true p5
         replace q5 := eq_true q5
         have p7 : 0 ≤ (x6_1 : Int) := oda_
         have q7 : x6_1 < (a0.size : Int) := oda_
         have hx7 := bt_at a0 x6_1
         replace p7 := eq_true p7
         replace q7 := eq_true q7
         have p9 : 0 ≤ (x6_1 : Int) := oda_
         have q9 : x6_1 < (a0.size : Int) := oda_
         have hx9 := bt_at a0 x6_1
         replace p9 := eq_true p9
         replace q9 := eq_true q9
         go_wp2
         go_roundg k1
         case measure => have := HK1.out; omega
         case rel => exact ⟨(wrap64 (x6_1 + 1)), sd_, H', ⟨by have := HK1.out; omega⟩, dr_⟩
     ·
      rw [if_neg c4] at H
      exact absurd H (by simp)
    ·
     rw [if_neg c3] at H
     exact absurd H (by simp)
   ·
    rw [if_neg c2] at H
    have c2b0 : decide (x6_1 < (a0.size : Int)) = false := decide_eq_false c2
    clear c2
    by_cases c11 : a0.toList = ([] : List UInt8)
    ·
     rw [if_pos c11] at H
     have c11b0 : (a0.toList == ([] : List UInt8)) = true := beq_iff_eq.mpr c11
     have c11b1 : (a0.toList != ([] : List UInt8)) = false := bne_eq_false_iff_eq.mpr c11
     clear c11
     obtain rfl := Option.some.inj H
     go_wp2
     go_ret
     exact ⟨sd_, dr_⟩
    ·
     rw [if_neg c11] at H
     have c11b0 : (a0.toList == ([] : List UInt8)) = false := beq_eq_false_iff_ne.mpr c11
     have c11b1 : (a0.toList != ([] : List UInt8)) = true := bne_iff_ne.mpr c11
     by_cases c12 : (a0.size : Int) ≤ 70
     ·
      rw [if_pos c12] at H
      have c12b0 : decide ((a0.size : Int) ≤ 70) = true := decide_eq_true c12
      have c12b1 : decide (a0.size ≤ 70) = true := decide_eq_true (by omega)
      clear c12
      by_cases c13 : a0.toList = ([46] : List UInt8)
      ·
       rw [if_pos c13] at H
       have c13b0 : (a0.toList == ([46] : List UInt8)) = true := beq_iff_eq.mpr c13
       have c13b1 : (a0.toList != ([46] : List UInt8)) = false := bne_eq_false_iff_eq.mpr c13
       clear c13
       obtain rfl := Option.some.inj H
       go_wp2
       go_ret
       exact ⟨sd_, dr_⟩
      ·
       rw [if_neg c13] at H
       have c13b0 : (a0.toList == ([46] : List UInt8)) = false := beq_eq_false_iff_ne.mpr c13
       have c13b1 : (a0.toList != ([46] : List UInt8)) = true := bne_iff_ne.mpr c13
       obtain rfl := Option.some.inj H
       go_wp2
       go_ret
       exact ⟨sd_, dr_⟩
     ·
      rw [if_neg c12] at H
      have c12b0 : decide ((a0.size : Int) ≤ 70) = false := decide_eq_false c12
      have c12b1 : decide (a0.size ≤ 70) = false := decide_eq_false (by omega)
      clear c12
      obtain rfl := Option.some.inj H
      go_wp2
      go_ret
      exact ⟨sd_, dr_⟩
noncomputable def object_key.f (a0_0 : Int) (a0_1 : ByteArray) (a0_2 : ByteArray) : Option (ByteArray) := if a0_0 = 3 then (if a0_1.size + 1 ≤ 9223372036854775807 then (some (a0_1 ++ (⟨#[47]⟩ : ByteArray))) else (none)) else (some a0_1)
set_option maxHeartbeats 8000000 in
set_option maxRecDepth 100000 in
theorem object_key.calls (a0_0 : Int) (a0_1 : ByteArray) (a0_2 : ByteArray) (r : ByteArray) (w : World) (h : object_key.f a0_0 a0_1 a0_2 = some r) :
  Calls Tryz.prog 127 #[.agg #[.int .i64 a0_0, .string a0_1, .string a0_2]] w fun e w' => e = .returned (.string r) ∧ Below w.heap.size w w' := by
 have hu58 := Tryz.underlying58
 have HB := Aside0.mk (Below.refl w.heap.size w)
 have H : (if a0_0 = 3 then (if a0_1.size + 1 ≤ 9223372036854775807 then (some (a0_1 ++ (⟨#[47]⟩ : ByteArray))) else (none)) else (some a0_1)) = some r := h
 clear h
 by_cases c2 : a0_0 = 3
 ·
  rw [if_pos c2] at H
  have c2b0 : (a0_0 == 3) = true := beq_iff_eq.mpr c2
  have c2b1 : (a0_0 != 3) = false := bne_eq_false_iff_eq.mpr c2
  clear c2
  by_cases c3 : a0_1.size + 1 ≤ 9223372036854775807
  ·
   rw [if_pos c3] at H
   have c3b0 := eq_true c3
   have c3b1 : decide (a0_1.size + 1 ≤ 9223372036854775807) = true := decide_eq_true c3
   try have c3b2 : (9223372036854775807 < a0_1.size + 1) = False := eq_false (Nat.not_lt.2 c3)
   obtain rfl := Option.some.inj H
   go_enter Tryz.func127, Tryz.ntmps127
   go_wp2_with (first | ((with_reducible refine gate_dst (N := 1) rfl ?_); refine box_event ?hg (N := 1) ?hd (cs := #[.int .i64 a0_0, .string a0_1, .string a0_2]) (t := 58) ?hr ?_; (case hd => rfl); (case hg => rfl); (case hr => first | (go_simp; done) | (go_simp; rfl)); intro gb101 hg w4 hbox hb; have n0_ := Aside0.mk (below_step bw_ hb); have n1_ := Aside0.mk (hbox); have n2_ := Aside0.mk ((by rw [hg]; exact (below_size bw_) : w.heap.size ≤ gb101)); have n3_ := Aside0.mk ((by rw [hg]; exact (below_size bw_) : w.heap.size ≤ gb101)); clear HB; have HB := n0_; have BK101 := n1_; have GW101 := n2_; have GE101 := n3_; clear n0_ n1_ n2_ n3_; clear hb hbox hg; have hcz5_0 : w4.cell? ⟨gb101, 0, none⟩ = some (.int .i64 a0_0) := (blk_cell BK101.out 0).trans rfl; have hcz5_1 : w4.cell? ⟨gb101, 1, none⟩ = some (.string a0_1) := (blk_cell BK101.out 1).trans rfl; have hcz5_2 : w4.cell? ⟨gb101, 2, none⟩ = some (.string a0_2) := (blk_cell BK101.out 2).trans rfl; have hfz5_0 := blk_frozen BK101.out 0; have hfz5_1 := blk_frozen BK101.out 1; have hfz5_2 := blk_frozen BK101.out 2))
   go_ret
   exact ⟨er_, by repeat (first | (with_reducible first | exact HB.out | apply below_alloc | apply pw_below_drewN | apply below_drew1 | refine below_set ?_ GE101.out) | exact HB.out)⟩
  ·
   rw [if_neg c3] at H
   exact absurd H (by simp)
 ·
  rw [if_neg c2] at H
  have c2b0 : (a0_0 == 3) = false := beq_eq_false_iff_ne.mpr c2
  have c2b1 : (a0_0 != 3) = true := bne_iff_ne.mpr c2
  obtain rfl := Option.some.inj H
  go_enter Tryz.func127, Tryz.ntmps127
  go_wp2_with (first | ((with_reducible refine gate_dst (N := 1) rfl ?_); refine box_event ?hg (N := 1) ?hd (cs := #[.int .i64 a0_0, .string a0_1, .string a0_2]) (t := 58) ?hr ?_; (case hd => rfl); (case hg => rfl); (case hr => first | (go_simp; done) | (go_simp; rfl)); intro gb101 hg w6 hbox hb; have n0_ := Aside0.mk (below_step bw_ hb); have n1_ := Aside0.mk (hbox); have n2_ := Aside0.mk ((by rw [hg]; exact (below_size bw_) : w.heap.size ≤ gb101)); have n3_ := Aside0.mk ((by rw [hg]; exact (below_size bw_) : w.heap.size ≤ gb101)); clear HB; have HB := n0_; have BK101 := n1_; have GW101 := n2_; have GE101 := n3_; clear n0_ n1_ n2_ n3_; clear hb hbox hg; have hcz7_0 : w6.cell? ⟨gb101, 0, none⟩ = some (.int .i64 a0_0) := (blk_cell BK101.out 0).trans rfl; have hcz7_1 : w6.cell? ⟨gb101, 1, none⟩ = some (.string a0_1) := (blk_cell BK101.out 1).trans rfl; have hcz7_2 : w6.cell? ⟨gb101, 2, none⟩ = some (.string a0_2) := (blk_cell BK101.out 2).trans rfl; have hfz7_0 := blk_frozen BK101.out 0; have hfz7_1 := blk_frozen BK101.out 1; have hfz7_2 := blk_frozen BK101.out 2))
  go_ret
  exact ⟨er_, by repeat (first | (with_reducible first | exact HB.out | apply below_alloc | apply pw_below_drewN | apply below_drew1 | refine below_set ?_ GE101.out) | exact HB.out)⟩
noncomputable def digest_Named.l0 : Nat → ByteArray → Int → Int → Option (Bool)
 | 0, _, _, _ => none
 | k + 1, x0, x6, x7 => if x7 < x6 then (if 0 ≤ x7 then (if x7 < (x0.size : Int) then (if (bt x0 x7) < 48 then (if (bt x0 x7) < 97 then (some false) else (if (bt x0 x7) > 102 then (some false) else (digest_Named.l0 k x0 x6 (wrap64 (x7 + 1))))) else (if (bt x0 x7) > 57 then (if (bt x0 x7) < 97 then (some false) else (if (bt x0 x7) > 102 then (some false) else (digest_Named.l0 k x0 x6 (wrap64 (x7 + 1))))) else (digest_Named.l0 k x0 x6 (wrap64 (x7 + 1))))) else (none)) else (none)) else (some ((x0.size : Int) == 64))
noncomputable def digest_Named.f (k : Nat) (a0 : ByteArray) : Option (Bool) := digest_Named.l0 k a0 (a0.size : Int) 0
set_option maxHeartbeats 8000000 in
set_option maxRecDepth 100000 in
theorem digest_Named.calls (k : Nat) (a0 : ByteArray) (r : Bool) (w : World) (h : digest_Named.f k a0 = some r) :
  Calls Tryz.prog 125 #[.string a0] w fun e w' => e = .returned (.bool r) ∧ Drawn0 w w' := by
 have H : (digest_Named.l0 k a0 (a0.size : Int) 0) = some r := h
 clear h
 have H' := Aside0.mk H
 clear H
 go_enter Tryz.func125, Tryz.ntmps125
 go_wp2
 go_loopg [7] k (fun kq v7 w' => ∃ (x7_1 : Int), v7 = .int .i64 x7_1 ∧ Aside0 (digest_Named.l0 kq a0 (a0.size : Int) x7_1 = some r) ∧ Aside0 (kq ≤ k) ∧ Drawn0 w w')
 case atStart => exact ⟨(0), sd_, H', ⟨Nat.le_refl _⟩, dr_⟩
 case round =>
  clear H'
  try clear c1
  obtain ⟨x7_1, rfl, HA, HK1, ⟨m1, rfl⟩⟩ := hrel
  cases gk with
  | zero => exact absurd HA.out (by simp [digest_Named.l0])
  | succ k1 =>
   have H := HA.out
   clear HA
   simp only [digest_Named.l0] at H
   by_cases c2 : x7_1 < (a0.size : Int)
   ·
    rw [if_pos c2] at H
    have c2b0 : decide (x7_1 < (a0.size : Int)) = true := decide_eq_true c2
    clear c2
    by_cases c3 : 0 ≤ x7_1
    ·
     rw [if_pos c3] at H
     have c3b0 : decide (0 ≤ x7_1) = true := decide_eq_true c3
     clear c3
     by_cases c4 : x7_1 < (a0.size : Int)
     ·
      rw [if_pos c4] at H
      have c4b0 : decide (x7_1 < (a0.size : Int)) = true := decide_eq_true c4
      clear c4
      by_cases c6 : (bt a0 x7_1) < 48
      ·
       rw [if_pos c6] at H
       have c6b0 : decide ((bt a0 x7_1) < 48) = true := decide_eq_true c6
       clear c6
       by_cases c7 : (bt a0 x7_1) < 97
       ·
        rw [if_pos c7] at H
        have c7b0 : decide ((bt a0 x7_1) < 97) = true := decide_eq_true c7
        clear c7
        obtain rfl := Option.some.inj H
        have p5 : 0 ≤ (x7_1 : Int) := oda_
        have q5 : x7_1 < (a0.size : Int) := oda_
        have hx5 := bt_at a0 x7_1
        replace p5 := eq_true p5
        replace q5 := eq_true q5
        go_wp2
        go_ret
        exact ⟨sd_, dr_⟩
       ·
        rw [if_neg c7] at H
        have c7b0 : decide ((bt a0 x7_1) < 97) = false := decide_eq_false c7
        clear c7
        by_cases c8 : (bt a0 x7_1) > 102
        ·
         rw [if_pos c8] at H
         have c8b0 : decide (102 < (bt a0 x7_1)) = true := decide_eq_true c8
         clear c8
         obtain rfl := Option.some.inj H
         have p5 : 0 ≤ (x7_1 : Int) := oda_
         have q5 : x7_1 < (a0.size : Int) := oda_
         have hx5 := bt_at a0 x7_1
         replace p5 := eq_true p5
         replace q5 := eq_true q5
         go_wp2
         go_ret
         exact ⟨sd_, dr_⟩
        ·
         rw [if_neg c8] at H
         have c8b0 : decide (102 < (bt a0 x7_1)) = false := decide_eq_false c8
         clear c8
         have H' := Aside0.mk H
         clear H
         have p5 : 0 ≤ (x7_1 : Int) := oda_
         have q5 : x7_1 < (a0.size : Int) := oda_
         have hx5 := bt_at a0 x7_1
         replace p5 := eq_true p5
         replace q5 := eq_true q5
         go_wp2
         go_roundg k1
         case measure => have := HK1.out; omega
         case rel => exact ⟨(wrap64 (x7_1 + 1)), sd_, H', ⟨by have := HK1.out; omega⟩, dr_⟩
      ·
       rw [if_neg c6] at H
       have c6b0 : decide ((bt a0 x7_1) < 48) = false := decide_eq_false c6
       clear c6
       by_cases c9 : (bt a0 x7_1) > 57
       ·
        rw [if_pos c9] at H
        have c9b0 : decide (57 < (bt a0 x7_1)) = true := decide_eq_true c9
        clear c9
        by_cases c10 : (bt a0 x7_1) < 97
        ·
         rw [if_pos c10] at H
         have c10b0 : decide ((bt a0 x7_1) < 97) = true := decide_eq_true c10
         clear c10
         obtain rfl := Option.some.inj H
         have p5 : 0 ≤ (x7_1 : Int) := oda_
         have q5 : x7_1 < (a0.size : Int) := oda_
         have hx5 := bt_at a0 x7_1
         replace p5 := eq_true p5
         replace q5 := eq_true q5
         go_wp2
         go_ret
         exact ⟨sd_, dr_⟩
        ·
         rw [if_neg c10] at H
         have c10b0 : decide ((bt a0 x7_1) < 97) = false := decide_eq_false c10
         clear c10
         by_cases c11 : (bt a0 x7_1) > 102
         ·
          rw [if_pos c11] at H
          have c11b0 : decide (102 < (bt a0 x7_1)) = true := decide_eq_true c11
          clear c11
          obtain rfl := Option.some.inj H
          have p5 : 0 ≤ (x7_1 : Int) := oda_
          have q5 : x7_1 < (a0.size : Int) := oda_
          have hx5 := bt_at a0 x7_1
          replace p5 := eq_true p5
          replace q5 := eq_true q5
          go_wp2
          go_ret
          exact ⟨sd_, dr_⟩
         ·
          rw [if_neg c11] at H
          have c11b0 : decide (102 < (bt a0 x7_1)) = false := decide_eq_false c11
          clear c11
          have H' := Aside0.mk H
          clear H
          have p5 : 0 ≤ (x7_1 : Int) := oda_
          have q5 : x7_1 < (a0.size : Int) := oda_
          have hx5 := bt_at a0 x7_1
          replace p5 := eq_true p5
          replace q5 := eq_true q5
          go_wp2
          go_roundg k1
          case measure => have := HK1.out; omega
          case rel => exact ⟨(wrap64 (x7_1 + 1)), sd_, H', ⟨by have := HK1.out; omega⟩, dr_⟩
       ·
        rw [if_neg c9] at H
        have c9b0 : decide (57 < (bt a0 x7_1)) = false := decide_eq_false c9
        clear c9
        have H' := Aside0.mk H
        clear H
        have p5 : 0 ≤ (x7_1 : Int) := oda_
        have q5 : x7_1 < (a0.size : Int) := oda_
        have hx5 := bt_at a0 x7_1
        replace p5 := eq_true p5
        replace q5 := eq_true q5
        go_wp2
        go_roundg k1
        case measure => have := HK1.out; omega
        case rel => exact ⟨(wrap64 (x7_1 + 1)), sd_, H', ⟨by have := HK1.out; omega⟩, dr_⟩
     ·
      rw [if_neg c4] at H
      exact absurd H (by simp)
    ·
     rw [if_neg c3] at H
     exact absurd H (by simp)
   ·
    rw [if_neg c2] at H
    have c2b0 : decide (x7_1 < (a0.size : Int)) = false := decide_eq_false c2
    clear c2
    obtain rfl := Option.some.inj H
    go_wp2
    go_ret
    exact ⟨sd_, dr_⟩
noncomputable def stringslite_Cut.f (a0 : ByteArray) (a1 : ByteArray) : Option (ByteArray × ByteArray × Bool) := (Gl.lite_Index.f a0 a1).bind fun t102 => (if t102 ≥ 0 then (if 0 ≤ t102 then (if t102 ≤ (a0.size : Int) then (if 0 ≤ (wrap64 (t102 + (a1.size : Int))) then (if (wrap64 (t102 + (a1.size : Int))) ≤ (a0.size : Int) then (some (a0.extract 0 (t102 : Int).toNat, a0.extract ((wrap64 (t102 + (a1.size : Int))) : Int).toNat a0.size, true)) else (none)) else (none)) else (none)) else (none)) else (some (a0, (⟨#[]⟩ : ByteArray), false)))
set_option maxHeartbeats 8000000 in
set_option maxRecDepth 100000 in
theorem stringslite_Cut.calls (a0 : ByteArray) (a1 : ByteArray) (r1 : ByteArray) (r2 : ByteArray) (r3 : Bool) (w : World) (h : stringslite_Cut.f a0 a1 = some (r1, r2, r3)) :
  Calls Tryz.prog 108 #[.string a0, .string a1] w fun e w' => e = .returned (.tuple #[.string r1, .string r2, .bool r3]) ∧ Drawn0 w w' := by
 have H : ((Gl.lite_Index.f a0 a1).bind fun t102 => (if t102 ≥ 0 then (if 0 ≤ t102 then (if t102 ≤ (a0.size : Int) then (if 0 ≤ (wrap64 (t102 + (a1.size : Int))) then (if (wrap64 (t102 + (a1.size : Int))) ≤ (a0.size : Int) then (some (a0.extract 0 (t102 : Int).toNat, a0.extract ((wrap64 (t102 + (a1.size : Int))) : Int).toNat a0.size, true)) else (none)) else (none)) else (none)) else (none)) else (some (a0, (⟨#[]⟩ : ByteArray), false)))) = some (r1, r2, r3) := h
 clear h
 replace H := Option.bind_eq_some_iff.mp H
 obtain ⟨t102, A30, H⟩ := H
 replace H : (if t102 ≥ 0 then (if 0 ≤ t102 then (if t102 ≤ (a0.size : Int) then (if 0 ≤ (wrap64 (t102 + (a1.size : Int))) then (if (wrap64 (t102 + (a1.size : Int))) ≤ (a0.size : Int) then (some (a0.extract 0 (t102 : Int).toNat, a0.extract ((wrap64 (t102 + (a1.size : Int))) : Int).toNat a0.size, true)) else (none)) else (none)) else (none)) else (none)) else (some (a0, (⟨#[]⟩ : ByteArray), false))) = some (r1, r2, r3) := H
 have A3 := Aside0.mk A30
 clear A30
 by_cases c4 : t102 ≥ 0
 ·
  rw [if_pos c4] at H
  have c4b0 : decide (0 ≤ t102) = true := decide_eq_true c4
  clear c4
  by_cases c5 : 0 ≤ t102
  ·
   rw [if_pos c5] at H
   have c5b0 := eq_true c5
   have c5b1 : decide (0 ≤ t102) = true := decide_eq_true c5
   clear c5
   by_cases c6 : t102 ≤ (a0.size : Int)
   ·
    rw [if_pos c6] at H
    have c6b0 := eq_true c6
    have c6b1 : decide (t102 ≤ (a0.size : Int)) = true := decide_eq_true c6
    clear c6
    obtain ⟨ji7, hji7⟩ : ∃ j_ : Int, (wrap64 (t102 + (a1.size : Int))) = j_ := ⟨_, rfl⟩
    replace H : (if 0 ≤ (ji7) then (if (ji7) ≤ (a0.size : Int) then (some (a0.extract 0 (t102 : Int).toNat, a0.extract ((ji7) : Int).toNat a0.size, true)) else (none)) else (none)) = some (r1, r2, r3) := by first | (rw [hji7] at H; exact H) | (simp only [hji7] at H ⊢; exact H)
    (try rw [hji7] at A3)
    have hji7w : (IntKind.i64.wrap (t102 + (a1.size : Int))) = ji7 := (i64_w _).trans hji7
    by_cases c8 : 0 ≤ (ji7)
    ·
     rw [if_pos c8] at H
     have c8b0 := eq_true c8
     have c8b1 : decide (0 ≤ (ji7)) = true := decide_eq_true c8
     clear c8
     by_cases c9 : (ji7) ≤ (a0.size : Int)
     ·
      rw [if_pos c9] at H
      have c9b0 := eq_true c9
      have c9b1 : decide ((ji7) ≤ (a0.size : Int)) = true := decide_eq_true c9
      clear c9
      simp only [Option.some.injEq, Prod.mk.injEq] at H
      obtain ⟨rfl, rfl, rfl⟩ := H
      go_enter Tryz.func108, Tryz.ntmps108
      go_wp2_with (first | (go_at_call 124; (with_reducible refine (Gl.lite_Index.calls a0 a1 t102 _ A3.out).mono ?_); rintro e w' ⟨rfl, ⟨nd, rfl⟩⟩; (try first | exact ⟨rfl, _, World.drewN_drewN _ _ _⟩ | exact ⟨rfl, _, Eq.trans (World.drewN_drewN _ _ _) (congrArg (World.drewN _) (Nat.add_assoc _ _ _))⟩)))
      repeat (go_quiet (first | (go_at_call 124; (with_reducible refine (Gl.lite_Index.calls a0 a1 t102 _ A3.out).mono ?_); rintro e w' ⟨rfl, ⟨nd, rfl⟩⟩; (try first | exact ⟨rfl, _, World.drewN_drewN _ _ _⟩ | exact ⟨rfl, _, Eq.trans (World.drewN_drewN _ _ _) (congrArg (World.drewN _) (Nat.add_assoc _ _ _))⟩))); try go_wp2_with (first | (go_at_call 124; (with_reducible refine (Gl.lite_Index.calls a0 a1 t102 _ A3.out).mono ?_); rintro e w' ⟨rfl, ⟨nd, rfl⟩⟩; (try first | exact ⟨rfl, _, World.drewN_drewN _ _ _⟩ | exact ⟨rfl, _, Eq.trans (World.drewN_drewN _ _ _) (congrArg (World.drewN _) (Nat.add_assoc _ _ _))⟩))))
      go_ret3
      exact ⟨by first | rfl | (simp; done) | (simp only [← hji7] <;> (first | rfl | simp)) | (simp [*]; done), dr_⟩
     ·
      rw [if_neg c9] at H
      exact absurd H (by simp)
    ·
     rw [if_neg c8] at H
     exact absurd H (by simp)
   ·
    rw [if_neg c6] at H
    exact absurd H (by simp)
  ·
   rw [if_neg c5] at H
   exact absurd H (by simp)
 ·
  rw [if_neg c4] at H
  have c4b0 : decide (0 ≤ t102) = false := decide_eq_false c4
  clear c4
  simp only [Option.some.injEq, Prod.mk.injEq] at H
  obtain ⟨rfl, rfl, rfl⟩ := H
  go_enter Tryz.func108, Tryz.ntmps108
  go_wp2_with (first | (go_at_call 124; (with_reducible refine (Gl.lite_Index.calls a0 a1 t102 _ A3.out).mono ?_); rintro e w' ⟨rfl, ⟨nd, rfl⟩⟩; (try first | exact ⟨rfl, _, World.drewN_drewN _ _ _⟩ | exact ⟨rfl, _, Eq.trans (World.drewN_drewN _ _ _) (congrArg (World.drewN _) (Nat.add_assoc _ _ _))⟩)))
  repeat (go_quiet (first | (go_at_call 124; (with_reducible refine (Gl.lite_Index.calls a0 a1 t102 _ A3.out).mono ?_); rintro e w' ⟨rfl, ⟨nd, rfl⟩⟩; (try first | exact ⟨rfl, _, World.drewN_drewN _ _ _⟩ | exact ⟨rfl, _, Eq.trans (World.drewN_drewN _ _ _) (congrArg (World.drewN _) (Nat.add_assoc _ _ _))⟩))); try go_wp2_with (first | (go_at_call 124; (with_reducible refine (Gl.lite_Index.calls a0 a1 t102 _ A3.out).mono ?_); rintro e w' ⟨rfl, ⟨nd, rfl⟩⟩; (try first | exact ⟨rfl, _, World.drewN_drewN _ _ _⟩ | exact ⟨rfl, _, Eq.trans (World.drewN_drewN _ _ _) (congrArg (World.drewN _) (Nat.add_assoc _ _ _))⟩))))
  go_ret3
  exact ⟨sd_, dr_⟩
noncomputable def strings_Cut.f (a0 : ByteArray) (a1 : ByteArray) : Option (ByteArray × ByteArray × Bool) := (stringslite_Cut.f a0 a1).bind fun bt103 => (some (bt103.1, bt103.2.1, bt103.2.2))
set_option maxHeartbeats 8000000 in
set_option maxRecDepth 100000 in
theorem strings_Cut.calls (a0 : ByteArray) (a1 : ByteArray) (r1 : ByteArray) (r2 : ByteArray) (r3 : Bool) (w : World) (h : strings_Cut.f a0 a1 = some (r1, r2, r3)) :
  Calls Tryz.prog 86 #[.string a0, .string a1] w fun e w' => e = .returned (.tuple #[.string r1, .string r2, .bool r3]) ∧ Drawn0 w w' := by
 have H : ((stringslite_Cut.f a0 a1).bind fun bt103 => (some (bt103.1, bt103.2.1, bt103.2.2))) = some (r1, r2, r3) := h
 clear h
 replace H := Option.bind_eq_some_iff.mp H
 obtain ⟨⟨t103, t104, t105⟩, A30, H⟩ := H
 replace H : (some (t103, t104, t105)) = some (r1, r2, r3) := H
 have A3 := Aside0.mk A30
 clear A30
 simp only [Option.some.injEq, Prod.mk.injEq] at H
 obtain ⟨rfl, rfl, rfl⟩ := H
 go_enter Tryz.func86, Tryz.ntmps86
 go_wp2_with (first | ((with_reducible refine gate_callee (f := 108) rfl ?_); refine goesL_ (some 9) rfl rfl Tryz.func108 (by kernel_rfl) rfl #[.string a0, .string a1] rfl la_ ?_; (with_reducible refine (stringslite_Cut.calls a0 a1 t103 t104 t105 _ A3.out).mono ?_); rintro e w' ⟨rfl, ⟨nd, rfl⟩⟩; refine ⟨_, rfl, ?_⟩))
 go_ret3
 exact ⟨sd_, dr_⟩
noncomputable def stringslite_HasPrefix.f (a0 : ByteArray) (a1 : ByteArray) : Option (Bool) := if (a0.size : Int) ≥ (a1.size : Int) then (if 0 ≤ (a1.size : Int) then (if (a1.size : Int) ≤ (a0.size : Int) then (some ((a0.extract 0 ((a1.size : Int) : Int).toNat).toList == a1.toList)) else (none)) else (none)) else (some false)
set_option maxHeartbeats 8000000 in
set_option maxRecDepth 100000 in
theorem stringslite_HasPrefix.calls (a0 : ByteArray) (a1 : ByteArray) (r : Bool) (w : World) (h : stringslite_HasPrefix.f a0 a1 = some r) :
  Calls Tryz.prog 113 #[.string a0, .string a1] w fun e w' => e = .returned (.bool r) ∧ Drawn0 w w' := by
 have H : (if (a0.size : Int) ≥ (a1.size : Int) then (if 0 ≤ (a1.size : Int) then (if (a1.size : Int) ≤ (a0.size : Int) then (some ((a0.extract 0 ((a1.size : Int) : Int).toNat).toList == a1.toList)) else (none)) else (none)) else (some false)) = some r := h
 clear h
 by_cases c3 : (a0.size : Int) ≥ (a1.size : Int)
 ·
  rw [if_pos c3] at H
  have c3b0 : decide ((a1.size : Int) ≤ (a0.size : Int)) = true := decide_eq_true c3
  have c3b1 : decide (a1.size ≤ a0.size) = true := decide_eq_true (Int.ofNat_le.mp c3)
  clear c3
  by_cases c4 : 0 ≤ (a1.size : Int)
  ·
   rw [if_pos c4] at H
   have c4b0 := eq_true c4
   have c4b1 : decide (0 ≤ (a1.size : Int)) = true := decide_eq_true c4
   clear c4
   by_cases c5 : (a1.size : Int) ≤ (a0.size : Int)
   ·
    rw [if_pos c5] at H
    have c5b0 := eq_true c5
    have c5b1 : decide ((a1.size : Int) ≤ (a0.size : Int)) = true := decide_eq_true c5
    clear c5
    obtain rfl := Option.some.inj H
    go_enter Tryz.func113, Tryz.ntmps113
    go_wp2
    go_ret
    exact ⟨sd_, dr_⟩
   ·
    rw [if_neg c5] at H
    exact absurd H (by simp)
  ·
   rw [if_neg c4] at H
   exact absurd H (by simp)
 ·
  rw [if_neg c3] at H
  have c3b0 : decide ((a1.size : Int) ≤ (a0.size : Int)) = false := decide_eq_false c3
  have c3b1 : decide (a1.size ≤ a0.size) = false := decide_eq_false (fun h => c3 (Int.ofNat_le.mpr h))
  clear c3
  obtain rfl := Option.some.inj H
  go_enter Tryz.func113, Tryz.ntmps113
  go_wp2
  go_ret
  exact ⟨sd_, dr_⟩
noncomputable def stringslite_CutPrefix.f (a0 : ByteArray) (a1 : ByteArray) : Option (ByteArray × Bool) := (stringslite_HasPrefix.f a0 a1).bind fun t106 => (if t106 = true then (if 0 ≤ (a1.size : Int) then (if (a1.size : Int) ≤ (a0.size : Int) then (some (a0.extract ((a1.size : Int) : Int).toNat a0.size, true)) else (none)) else (none)) else (some (a0, false)))
set_option maxHeartbeats 8000000 in
set_option maxRecDepth 100000 in
theorem stringslite_CutPrefix.calls (a0 : ByteArray) (a1 : ByteArray) (r1 : ByteArray) (r2 : Bool) (w : World) (h : stringslite_CutPrefix.f a0 a1 = some (r1, r2)) :
  Calls Tryz.prog 129 #[.string a0, .string a1] w fun e w' => e = .returned (.tuple #[.string r1, .bool r2]) ∧ Drawn0 w w' := by
 have H : ((stringslite_HasPrefix.f a0 a1).bind fun t106 => (if t106 = true then (if 0 ≤ (a1.size : Int) then (if (a1.size : Int) ≤ (a0.size : Int) then (some (a0.extract ((a1.size : Int) : Int).toNat a0.size, true)) else (none)) else (none)) else (some (a0, false)))) = some (r1, r2) := h
 clear h
 replace H := Option.bind_eq_some_iff.mp H
 obtain ⟨t106, A30, H⟩ := H
 replace H : (if t106 = true then (if 0 ≤ (a1.size : Int) then (if (a1.size : Int) ≤ (a0.size : Int) then (some (a0.extract ((a1.size : Int) : Int).toNat a0.size, true)) else (none)) else (none)) else (some (a0, false))) = some (r1, r2) := H
 have A3 := Aside0.mk A30
 clear A30
 by_cases c4 : t106 = true
 ·
  subst c4
  have H1 : (if 0 ≤ (a1.size : Int) then (if (a1.size : Int) ≤ (a0.size : Int) then (some (a0.extract ((a1.size : Int) : Int).toNat a0.size, true)) else (none)) else (none)) = some (r1, r2) := by rw [if_pos rfl] at H; exact H
  clear H
  have H := H1
  clear H1
  by_cases c5 : 0 ≤ (a1.size : Int)
  ·
   rw [if_pos c5] at H
   have c5b0 := eq_true c5
   have c5b1 : decide (0 ≤ (a1.size : Int)) = true := decide_eq_true c5
   clear c5
   by_cases c6 : (a1.size : Int) ≤ (a0.size : Int)
   ·
    rw [if_pos c6] at H
    have c6b0 := eq_true c6
    have c6b1 : decide ((a1.size : Int) ≤ (a0.size : Int)) = true := decide_eq_true c6
    clear c6
    simp only [Option.some.injEq, Prod.mk.injEq] at H
    obtain ⟨rfl, rfl⟩ := H
    go_enter Tryz.func129, Tryz.ntmps129
    go_wp2_with (first | ((with_reducible refine gate_callee (f := 113) rfl ?_); refine goesL_ (some 8) rfl rfl Tryz.func113 (by kernel_rfl) rfl #[.string a0, .string a1] rfl la_ ?_; (with_reducible refine (stringslite_HasPrefix.calls a0 a1 true _ A3.out).mono ?_); rintro e w' ⟨rfl, ⟨nd, rfl⟩⟩; refine ⟨_, rfl, ?_⟩))
    go_ret2
    exact ⟨sd_, dr_⟩
   ·
    rw [if_neg c6] at H
    exact absurd H (by simp)
  ·
   rw [if_neg c5] at H
   exact absurd H (by simp)
 ·
  replace c4 := Bool.eq_false_iff.mpr c4
  subst c4
  have H1 : (some (a0, false)) = some (r1, r2) := by rw [if_neg (show ¬ (false = true) by decide)] at H; exact H
  clear H
  have H := H1
  clear H1
  simp only [Option.some.injEq, Prod.mk.injEq] at H
  obtain ⟨rfl, rfl⟩ := H
  go_enter Tryz.func129, Tryz.ntmps129
  go_wp2_with (first | ((with_reducible refine gate_callee (f := 113) rfl ?_); refine goesL_ (some 8) rfl rfl Tryz.func113 (by kernel_rfl) rfl #[.string a0, .string a1] rfl la_ ?_; (with_reducible refine (stringslite_HasPrefix.calls a0 a1 false _ A3.out).mono ?_); rintro e w' ⟨rfl, ⟨nd, rfl⟩⟩; refine ⟨_, rfl, ?_⟩))
  go_ret2
  exact ⟨sd_, dr_⟩
noncomputable def strings_CutPrefix.f (a0 : ByteArray) (a1 : ByteArray) : Option (ByteArray × Bool) := (stringslite_CutPrefix.f a0 a1).bind fun bt107 => (some (bt107.1, bt107.2))
set_option maxHeartbeats 8000000 in
set_option maxRecDepth 100000 in
theorem strings_CutPrefix.calls (a0 : ByteArray) (a1 : ByteArray) (r1 : ByteArray) (r2 : Bool) (w : World) (h : strings_CutPrefix.f a0 a1 = some (r1, r2)) :
  Calls Tryz.prog 112 #[.string a0, .string a1] w fun e w' => e = .returned (.tuple #[.string r1, .bool r2]) ∧ Drawn0 w w' := by
 have H : ((stringslite_CutPrefix.f a0 a1).bind fun bt107 => (some (bt107.1, bt107.2))) = some (r1, r2) := h
 clear h
 replace H := Option.bind_eq_some_iff.mp H
 obtain ⟨⟨t107, t108⟩, A30, H⟩ := H
 replace H : (some (t107, t108)) = some (r1, r2) := H
 have A3 := Aside0.mk A30
 clear A30
 simp only [Option.some.injEq, Prod.mk.injEq] at H
 obtain ⟨rfl, rfl⟩ := H
 go_enter Tryz.func112, Tryz.ntmps112
 go_wp2_with (first | ((with_reducible refine gate_callee (f := 129) rfl ?_); refine goesL_ (some 8) rfl rfl Tryz.func129 (by kernel_rfl) rfl #[.string a0, .string a1] rfl la_ ?_; (with_reducible refine (stringslite_CutPrefix.calls a0 a1 t107 t108 _ A3.out).mono ?_); rintro e w' ⟨rfl, ⟨nd, rfl⟩⟩; refine ⟨_, rfl, ?_⟩))
 go_ret2
 exact ⟨sd_, dr_⟩
noncomputable def strings_HasPrefix.f (a0 : ByteArray) (a1 : ByteArray) : Option (Bool) := (stringslite_HasPrefix.f a0 a1).bind fun t109 => (some t109)
set_option maxHeartbeats 8000000 in
set_option maxRecDepth 100000 in
theorem strings_HasPrefix.calls (a0 : ByteArray) (a1 : ByteArray) (r : Bool) (w : World) (h : strings_HasPrefix.f a0 a1 = some r) :
  Calls Tryz.prog 89 #[.string a0, .string a1] w fun e w' => e = .returned (.bool r) ∧ Drawn0 w w' := by
 have H : ((stringslite_HasPrefix.f a0 a1).bind fun t109 => (some t109)) = some r := h
 clear h
 replace H := Option.bind_eq_some_iff.mp H
 obtain ⟨t109, A30, H⟩ := H
 replace H : (some t109) = some r := H
 have A3 := Aside0.mk A30
 clear A30
 obtain rfl := Option.some.inj H
 go_enter Tryz.func89, Tryz.ntmps89
 go_wp2_with (first | ((with_reducible refine gate_callee (f := 113) rfl ?_); refine goesL_ (some 7) rfl rfl Tryz.func113 (by kernel_rfl) rfl #[.string a0, .string a1] rfl la_ ?_; (with_reducible refine (stringslite_HasPrefix.calls a0 a1 t109 _ A3.out).mono ?_); rintro e w' ⟨rfl, ⟨nd, rfl⟩⟩; refine ⟨_, rfl, ?_⟩))
 go_ret
 exact ⟨sd_, dr_⟩
noncomputable def r04_SameTexts.l0 : Nat → List ByteArray → List ByteArray → Int → Option (Bool)
 | 0, _, _, _ => none
 | k + 1, x0, x1, x5 => if x5 < (x0.length : Int) then (if 0 ≤ x5 then (if x5 < (x1.length : Int) then (if (rdOf ByteArray.empty x0 x5).toList = (rdOf ByteArray.empty x1 x5).toList then (r04_SameTexts.l0 k x0 x1 (wrap64 (x5 + 1))) else (some false)) else (none)) else (none)) else (some true)
noncomputable def r04_SameTexts.f (k : Nat) (l0 : List ByteArray) (l1 : List ByteArray) : Option (Bool) := if (l0.length : Int) = (l1.length : Int) then (r04_SameTexts.l0 k l0 l1 0) else (some false)
set_option maxHeartbeats 8000000 in
set_option maxRecDepth 100000 in
theorem r04_SameTexts.calls (k : Nat) (A0 : Option Addr) (c0 : Nat) (l0 : List ByteArray) (A1 : Option Addr) (c1 : Nat) (l1 : List ByteArray) (r : Bool) (w : World) (hr0 : Kd.C Kd.string w A0 l0.length l0) (hc0 : l0.length ≤ c0) (hr1 : Kd.C Kd.string w A1 l1.length l1) (hc1 : l1.length ≤ c1) (h : r04_SameTexts.f k l0 l1 = some r) :
  Calls Tryz.prog 17 #[.slice A0 l0.length c0, .slice A1 l1.length c1] w fun e w' => e = .returned (.bool r) ∧ Drawn0 w w' := by
 have HR0 := Aside0.mk hr0
 have HC0 := Aside0.mk hc0
 clear hr0 hc0
 have HR1 := Aside0.mk hr1
 have HC1 := Aside0.mk hc1
 clear hr1 hc1
 have H : (if (l0.length : Int) = (l1.length : Int) then (r04_SameTexts.l0 k l0 l1 0) else (some false)) = some r := h
 clear h
 by_cases c3 : (l0.length : Int) = (l1.length : Int)
 ·
  rw [if_pos c3] at H
  have c3b0 : ((l0.length : Int) == (l1.length : Int)) = true := beq_iff_eq.mpr c3
  have c3b1 : ((l0.length : Int) != (l1.length : Int)) = false := bne_eq_false_iff_eq.mpr c3
  have c3b2 : (l0.length == l1.length) = true := by first | simpa using c3 | (simp at c3 ⊢; omega)
  clear c3
  have H' := Aside0.mk H
  clear H
  go_enter Tryz.func17, Tryz.ntmps17
  go_wp2
  repeat (go_quiet (fail); try go_wp2)
  go_loopg [5] k (fun kq v5 w' => ∃ (x5_1 : Int), v5 = .int .i64 x5_1 ∧ Aside0 (r04_SameTexts.l0 kq l0 l1 x5_1 = some r) ∧ Aside0 (kq ≤ k) ∧ Drawn0 w w')
  case atStart => exact ⟨(0), sd_, H', ⟨Nat.le_refl _⟩, dr_⟩
  case round =>
   clear H'
   try clear c1
   try clear p2
   try clear c3
   try clear c3b0
   try clear c3b1
   try clear c3b2
   obtain ⟨x5_1, rfl, HA, HK1, ⟨m1, rfl⟩⟩ := hrel
   cases gk with
   | zero => exact absurd HA.out (by simp [r04_SameTexts.l0])
   | succ k1 =>
    have H := HA.out
    clear HA
    simp only [r04_SameTexts.l0] at H
    by_cases c4 : x5_1 < (l0.length : Int)
    ·
     rw [if_pos c4] at H
     have c4b0 : decide (x5_1 < (l0.length : Int)) = true := decide_eq_true c4
     clear c4
     by_cases c5 : 0 ≤ x5_1
     ·
      rw [if_pos c5] at H
      have c5b0 : decide (0 ≤ x5_1) = true := decide_eq_true c5
      clear c5
      by_cases c6 : x5_1 < (l1.length : Int)
      ·
       rw [if_pos c6] at H
       have c6b0 : decide (x5_1 < (l1.length : Int)) = true := decide_eq_true c6
       clear c6
       by_cases c7 : (rdOf ByteArray.empty l0 x5_1).toList = (rdOf ByteArray.empty l1 x5_1).toList
       ·
        rw [if_pos c7] at H
        have c7b0 : ((rdOf ByteArray.empty l0 x5_1).toList == (rdOf ByteArray.empty l1 x5_1).toList) = true := beq_iff_eq.mpr c7
        have c7b1 : ((rdOf ByteArray.empty l0 x5_1).toList != (rdOf ByteArray.empty l1 x5_1).toList) = false := bne_eq_false_iff_eq.mpr c7
        clear c7
        have H' := Aside0.mk H
        clear H
        have p110 : 0 ≤ (x5_1 : Int) := oda_
        have q110 : x5_1 < (l0.length : Int) := oda_
        obtain ⟨ad110, e110, hx110_0⟩ := Kd.at_string HR0.out x5_1 p110 q110
        cases e110
        replace p110 := eq_true p110
        replace q110 := eq_true q110
        have p111 : 0 ≤ (x5_1 : Int) := oda_
        have q111 : x5_1 < (l1.length : Int) := oda_
        obtain ⟨ad111, e111, hx111_0⟩ := Kd.at_string HR1.out x5_1 p111 q111
        cases e111
        replace p111 := eq_true p111
        replace q111 := eq_true q111
        go_wp2
        repeat (go_quiet (fail); try go_wp2)
        go_roundg k1
        case measure => have := HK1.out; omega
        case rel => exact ⟨(wrap64 (x5_1 + 1)), sd_, H', ⟨by have := HK1.out; omega⟩, dr_⟩
       ·
        rw [if_neg c7] at H
        have c7b0 : ((rdOf ByteArray.empty l0 x5_1).toList == (rdOf ByteArray.empty l1 x5_1).toList) = false := beq_eq_false_iff_ne.mpr c7
        have c7b1 : ((rdOf ByteArray.empty l0 x5_1).toList != (rdOf ByteArray.empty l1 x5_1).toList) = true := bne_iff_ne.mpr c7
        obtain rfl := Option.some.inj H
        have p110 : 0 ≤ (x5_1 : Int) := oda_
        have q110 : x5_1 < (l0.length : Int) := oda_
        obtain ⟨ad110, e110, hx110_0⟩ := Kd.at_string HR0.out x5_1 p110 q110
        cases e110
        replace p110 := eq_true p110
        replace q110 := eq_true q110
        have p111 : 0 ≤ (x5_1 : Int) := oda_
        have q111 : x5_1 < (l1.length : Int) := oda_
        obtain ⟨ad111, e111, hx111_0⟩ := Kd.at_string HR1.out x5_1 p111 q111
        cases e111
        replace p111 := eq_true p111
        replace q111 := eq_true q111
        go_wp2
        repeat (go_quiet (fail); try go_wp2)
        go_ret
        exact ⟨sd_, dr_⟩
      ·
       rw [if_neg c6] at H
       exact absurd H (by simp)
     ·
      rw [if_neg c5] at H
      exact absurd H (by simp)
    ·
     rw [if_neg c4] at H
     have c4b0 : decide (x5_1 < (l0.length : Int)) = false := decide_eq_false c4
     clear c4
     obtain rfl := Option.some.inj H
     go_wp2
     repeat (go_quiet (fail); try go_wp2)
     go_ret
     exact ⟨sd_, dr_⟩
 ·
  rw [if_neg c3] at H
  have c3b0 : ((l0.length : Int) == (l1.length : Int)) = false := beq_eq_false_iff_ne.mpr c3
  have c3b1 : ((l0.length : Int) != (l1.length : Int)) = true := bne_iff_ne.mpr c3
  have c3b2 : (l0.length == l1.length) = false := by first | simpa using c3 | (simp at c3 ⊢; omega)
  obtain rfl := Option.some.inj H
  go_enter Tryz.func17, Tryz.ntmps17
  go_wp2
  repeat (go_quiet (fail); try go_wp2)
  go_ret
  exact ⟨sd_, dr_⟩
end Go.Proofs.YtehmhfbfgniekaaGreatDoor.PObBase

namespace Go.Proofs.YtehmhfbfgniekaaGreatDoor.PObDoc
open Go.Proofs.YtehmhfbfgniekaaGreatDoor.PObBase
open Go.RowKit Go.Proofs.YtehmhfbfgniekaaGreatDoorW.PrintWords Go.Proofs.YtehmhfbfgniekaaGreatDoorW.PrintLast Go.Proofs.YtehmhfbfgniekaaGreatDoorW.PrintMore
attribute [local go_sem] StrSem.leq_str StrSem.geq_str StrSem.gtr_str max2_int min2_int max_two min_two max_three min_three max_four min_four   -- for this text's walks alone
set_option linter.unusedVariables false
set_option linter.unusedSimpArgs false
def errW : Option Int → Value
 | none => .nilIface
 | some c => .iface 0 (.int .i64 c)
theorem errW_none : errW none = .nilIface := rfl
theorem errW_some (c : Int) : errW (some c) = .iface 0 (.int .i64 c) := rfl
theorem info58 : (Tryz.prog.info? 58).map (fun i => (i.zero, i.size, i.bytes)) = some (some (.agg #[(.int .i64 0), (.string ⟨#[]⟩), (.string ⟨#[]⟩)]), 3, 40) := by kernel_rfl
structure S58 where
 f0 : Int
 f1 : ByteArray
 f2 : ByteArray
def z58 : S58 := ⟨(0 : Int), (⟨#[]⟩ : ByteArray), (⟨#[]⟩ : ByteArray)⟩
def k58 : Kd S58 := Kd.iso (Kd.pair (Kd.int .i64) (Kd.pair Kd.string Kd.string)) (fun x : S58 => (x.f0, x.f1, x.f2))
theorem k58_open {w : World} {x : S58} {cs : List Value} (h : k58.K w x cs) : cs = [.int .i64 x.f0, .string x.f1, .string x.f2] := by
 obtain ⟨_, _, rfl, rfl, ⟨_, _, rfl, rfl, rfl⟩⟩ := h
 exact rfl
theorem k58_mk (w : World) (x : S58)  : k58.K w x [.int .i64 x.f0, .string x.f1, .string x.f2] := ⟨[.int .i64 x.f0], [.string x.f1, .string x.f2], rfl, rfl, ⟨[.string x.f1], [.string x.f2], rfl, rfl, rfl⟩⟩
theorem k58_mkM (w : World) (base : Nat) (ok : Nat → Prop) (x : S58)  : k58.M w base ok x [.int .i64 x.f0, .string x.f1, .string x.f2] := ⟨[.int .i64 x.f0], [.string x.f1, .string x.f2], rfl, rfl, ⟨[.string x.f1], [.string x.f2], rfl, rfl, rfl⟩⟩
def rd_T58 (xs : List S58) (i : Int) : S58 := xs.getD i.toNat z58
theorem at_T58 {w : World} {A : Option Addr} {n : Nat} {xs : List S58} (h : Kd.C k58 w A n xs) (i : Int) (h0 : 0 ≤ i) (h1 : i < n) : ∃ ad , A = some ad ∧ w.cell? (ad.add (i.toNat * 3)) = some (.int .i64 (rd_T58 xs i).f0) ∧ w.cell? ⟨(ad.add (i.toNat * 3)).block, (ad.add (i.toNat * 3)).off + 1, none⟩ = some (.string (rd_T58 xs i).f1) ∧ w.cell? ⟨(ad.add (i.toNat * 3)).block, (ad.add (i.toNat * 3)).off + 2, none⟩ = some (.string (rd_T58 xs i).f2) := by
 obtain ⟨ad, c, e, _, hK, hc0⟩ := Kd.C_get h z58 i h0 h1
 have hc : ∀ j u, c[j]? = some u → w.cell? (ad.add (i.toNat * 3 + j)) = some u := hc0
 obtain rfl := k58_open hK
 exact ⟨ad, e, hc 0 _ rfl, by rw [← add_field _ _ 1 (by omega)]; exact hc 1 _ rfl, by rw [← add_field _ _ 2 (by omega)]; exact hc 2 _ rfl⟩
structure S43 where
 f0 : ByteArray
 f1 : Int
def z43 : S43 := ⟨(⟨#[]⟩ : ByteArray), (0 : Int)⟩
def k43 : Kd S43 := Kd.iso (Kd.pair Kd.string (Kd.int .i64)) (fun x : S43 => (x.f0, x.f1))
theorem k43_open {w : World} {x : S43} {cs : List Value} (h : k43.K w x cs) : cs = [.string x.f0, .int .i64 x.f1] := by
 obtain ⟨_, _, rfl, rfl, rfl⟩ := h
 exact rfl
theorem k43_mkM (w : World) (base : Nat) (ok : Nat → Prop) (x : S43)  : k43.M w base ok x [.string x.f0, .int .i64 x.f1] := ⟨[.string x.f0], [.int .i64 x.f1], rfl, rfl, rfl⟩
def rd_T43 (xs : List S43) (i : Int) : S43 := xs.getD i.toNat z43
theorem at_T43 {w : World} {A : Option Addr} {n : Nat} {xs : List S43} (h : Kd.C k43 w A n xs) (i : Int) (h0 : 0 ≤ i) (h1 : i < n) : ∃ ad , A = some ad ∧ w.cell? (ad.add (i.toNat * 2)) = some (.string (rd_T43 xs i).f0) ∧ w.cell? ⟨(ad.add (i.toNat * 2)).block, (ad.add (i.toNat * 2)).off + 1, none⟩ = some (.int .i64 (rd_T43 xs i).f1) := by
 obtain ⟨ad, c, e, _, hK, hc0⟩ := Kd.C_get h z43 i h0 h1
 have hc : ∀ j u, c[j]? = some u → w.cell? (ad.add (i.toNat * 2 + j)) = some u := hc0
 obtain rfl := k43_open hK
 exact ⟨ad, e, hc 0 _ rfl, by rw [← add_field _ _ 1 (by omega)]; exact hc 1 _ rfl⟩
end Go.Proofs.YtehmhfbfgniekaaGreatDoor.PObDoc

namespace Go.Proofs.YtehmhfbfgniekaaGreatDoor.PObDoc
open Go.Proofs.YtehmhfbfgniekaaGreatDoor.PObBase
open Go.RowKit Go.Proofs.YtehmhfbfgniekaaGreatDoorW.PrintWords Go.Proofs.YtehmhfbfgniekaaGreatDoorW.PrintLast Go.Proofs.YtehmhfbfgniekaaGreatDoorW.PrintMore
attribute [local go_sem] StrSem.leq_str StrSem.geq_str StrSem.gtr_str max2_int min2_int max_two min_two max_three min_three max_four min_four   -- for this text's walks alone
set_option linter.unusedVariables false
set_option linter.unusedSimpArgs false
noncomputable def r02_Named.l0 : Nat → ByteArray → Int → Option (Bool)
 | 0, _, _ => none
 | k + 1, x0, x3 => if x3 < 64 then (if 0 ≤ x3 then (if x3 < (x0.size : Int) then (if (bt x0 x3) ≥ 48 then (if (bt x0 x3) ≤ 57 then (r02_Named.l0 k x0 (wrap64 (x3 + 1))) else (if (bt x0 x3) ≥ 97 then (if ((bt x0 x3) ≤ 102) then (r02_Named.l0 k x0 (wrap64 (x3 + 1))) else (some false)) else (some false))) else (if (bt x0 x3) ≥ 97 then (if ((bt x0 x3) ≤ 102) then (r02_Named.l0 k x0 (wrap64 (x3 + 1))) else (some false)) else (some false))) else (none)) else (none)) else (some true)
noncomputable def r02_Named.f (k : Nat) (a0 : ByteArray) : Option (Bool) := if (a0.size : Int) = 64 then (r02_Named.l0 k a0 0) else (some false)
set_option maxHeartbeats 8000000 in
set_option maxRecDepth 100000 in
theorem r02_Named.calls (k : Nat) (a0 : ByteArray) (r : Bool) (w : World) (h : r02_Named.f k a0 = some r) :
  Calls Tryz.prog 27 #[.string a0] w fun e w' => e = .returned (.bool r) ∧ Drawn0 w w' := by
 have H : (if (a0.size : Int) = 64 then (r02_Named.l0 k a0 0) else (some false)) = some r := h
 clear h
 by_cases c2 : (a0.size : Int) = 64
 ·
  rw [if_pos c2] at H
  have c2b0 : ((a0.size : Int) == 64) = true := beq_iff_eq.mpr c2
  have c2b1 : ((a0.size : Int) != 64) = false := bne_eq_false_iff_eq.mpr c2
  clear c2
  have H' := Aside0.mk H
  clear H
  go_enter Tryz.func27, Tryz.ntmps27
  go_wp2
  go_loopg [3] k (fun kq v3 w' => ∃ (x3_1 : Int), v3 = .int .i64 x3_1 ∧ Aside0 (r02_Named.l0 kq a0 x3_1 = some r) ∧ Aside0 (kq ≤ k) ∧ Drawn0 w w')
  case atStart => exact ⟨(0), sd_, H', ⟨Nat.le_refl _⟩, dr_⟩
  case round =>
   clear H'
   try clear c2
   try clear c2b0
   try clear c2b1
   try clear p2
   obtain ⟨x3_1, rfl, HA, HK1, ⟨m1, rfl⟩⟩ := hrel
   cases gk with
   | zero => exact absurd HA.out (by simp [r02_Named.l0])
   | succ k1 =>
    have H := HA.out
    clear HA
    simp only [r02_Named.l0] at H
    by_cases c3 : x3_1 < 64
    ·
     rw [if_pos c3] at H
     have c3b0 : decide (x3_1 < 64) = true := decide_eq_true c3
     clear c3
     by_cases c4 : 0 ≤ x3_1
     ·
      rw [if_pos c4] at H
      have c4b0 : decide (0 ≤ x3_1) = true := decide_eq_true c4
      clear c4
      by_cases c5 : x3_1 < (a0.size : Int)
      ·
       rw [if_pos c5] at H
       have c5b0 : decide (x3_1 < (a0.size : Int)) = true := decide_eq_true c5
       clear c5
       by_cases c7 : (bt a0 x3_1) ≥ 48
       ·
        rw [if_pos c7] at H
        have c7b0 : decide (48 ≤ (bt a0 x3_1)) = true := decide_eq_true c7
        clear c7
        by_cases c9 : (bt a0 x3_1) ≤ 57
        ·
         rw [if_pos c9] at H
         have c9b0 : decide ((bt a0 x3_1) ≤ 57) = true := decide_eq_true c9
         clear c9
         have H' := Aside0.mk H
         clear H
         have p6 : 0 ≤ (x3_1 : Int) := oda_
         have q6 : x3_1 < (a0.size : Int) := oda_
         have hx6 := bt_at a0 x3_1
         replace p6 := eq_true p6
         replace q6 := eq_true q6
         have p8 : 0 ≤ (x3_1 : Int) := oda_
         have q8 : x3_1 < (a0.size : Int) := oda_
         have hx8 := bt_at a0 x3_1
         replace p8 := eq_true p8
         replace q8 := eq_true q8
         go_wp2
         go_roundg k1
         case measure => have := HK1.out; omega
         case rel => exact ⟨(wrap64 (x3_1 + 1)), sd_, H', ⟨by have := HK1.out; omega⟩, dr_⟩
        ·
         rw [if_neg c9] at H
         have c9b0 : decide ((bt a0 x3_1) ≤ 57) = false := decide_eq_false c9
         clear c9
         by_cases c11 : (bt a0 x3_1) ≥ 97
         ·
          rw [if_pos c11] at H
          have c11b0 : decide (97 ≤ (bt a0 x3_1)) = true := decide_eq_true c11
          clear c11
          by_cases c13 : ((bt a0 x3_1) ≤ 102)
          ·
           rw [if_pos c13] at H
           have c13b0 : decide ((bt a0 x3_1) ≤ 102) = true := decide_eq_true c13
           clear c13
           have H' := Aside0.mk H
           clear H
           have p6 : 0 ≤ (x3_1 : Int) := oda_
           have q6 : x3_1 < (a0.size : Int) := oda_
           have hx6 := bt_at a0 x3_1
           replace p6 := eq_true p6
           replace q6 := eq_true q6
           have p8 : 0 ≤ (x3_1 : Int) := oda_
           have q8 : x3_1 < (a0.size : Int) := oda_
           have hx8 := bt_at a0 x3_1
           replace p8 := eq_true p8
           replace q8 := eq_true q8
           have p10 : 0 ≤ (x3_1 : Int) := oda_
           have q10 : x3_1 < (a0.size : Int) := oda_
           have hx10 := bt_at a0 x3_1
           replace p10 := eq_true p10
           replace q10 := eq_true q10
           have p12 : 0 ≤ (x3_1 : Int) := oda_
           have q12 : x3_1 < (a0.size : Int) := oda_
           have hx12 := bt_at a0 x3_1
           replace p12 := eq_true p12
           replace q12 := eq_true q12
           go_wp2
           go_roundg k1
           case measure => have := HK1.out; omega
           case rel => exact ⟨(wrap64 (x3_1 + 1)), sd_, H', ⟨by have := HK1.out; omega⟩, dr_⟩
          ·
           rw [if_neg c13] at H
           have c13b0 : decide ((bt a0 x3_1) ≤ 102) = false := decide_eq_false c13
           clear c13
           obtain rfl := Option.some.inj H
           have p6 : 0 ≤ (x3_1 : Int) := oda_
           have q6 : x3_1 < (a0.size : Int) := oda_
           have hx6 := bt_at a0 x3_1
           replace p6 := eq_true p6
           replace q6 := eq_true q6
           have p8 : 0 ≤ (x3_1 : Int) := oda_
           have q8 : x3_1 < (a0.size : Int) := oda_
           have hx8 := bt_at a0 x3_1
           replace p8 := eq_true p8
           replace q8 := eq_true q8
           have p10 : 0 ≤ (x3_1 : Int) := oda_
           have q10 : x3_1 < (a0.size : Int) := oda_
           have hx10 := bt_at a0 x3_1
           replace p10 := eq_true p10
           replace q10 := eq_true q10
           have p12 : 0 ≤ (x3_1 : Int) := oda_
           have q12 : x3_1 < (a0.size : Int) := oda_
           have hx12 := bt_at a0 x3_1
           replace p12 := eq_true p12
           replace q12 := eq_true q12
           go_wp2
           go_ret
           exact ⟨sd_, dr_⟩
         ·
          rw [if_neg c11] at H
          have c11b0 : decide (97 ≤ (bt a0 x3_1)) = false := decide_eq_false c11
          clear c11
          obtain rfl := Option.some.inj H
          have p6 : 0 ≤ (x3_1 : Int) := oda_
          have q6 : x3_1 < (a0.size : Int) := oda_
          have hx6 := bt_at a0 x3_1
          replace p6 := eq_true p6
          replace q6 := eq_true q6
          have p8 : 0 ≤ (x3_1 : Int) := oda_
          have q8 : x3_1 < (a0.size : Int) := oda_
          have hx8 := bt_at a0 x3_1
          replace p8 := eq_true p8
          replace q8 := eq_true q8
          have p10 : 0 ≤ (x3_1 : Int) := oda_
          have q10 : x3_1 < (a0.size : Int) := oda_
          have hx10 := bt_at a0 x3_1
          replace p10 := eq_true p10
          replace q10 := eq_true q10
          go_wp2
          go_ret
          exact ⟨sd_, dr_⟩
       ·
        rw [if_neg c7] at H
        have c7b0 : decide (48 ≤ (bt a0 x3_1)) = false := decide_eq_false c7
        clear c7
        by_cases c15 : (bt a0 x3_1) ≥ 97
        ·
         rw [if_pos c15] at H
         have c15b0 : decide (97 ≤ (bt a0 x3_1)) = true := decide_eq_true c15
         clear c15
         by_cases c17 : ((bt a0 x3_1) ≤ 102)
         ·
          rw [if_pos c17] at H
          have c17b0 : decide ((bt a0 x3_1) ≤ 102) = true := decide_eq_true c17
          clear c17
          have H' := Aside0.mk H
          clear H
          have p6 : 0 ≤ (x3_1 : Int) := oda_
          have q6 : x3_1 < (a0.size : Int) := oda_
          have hx6 := bt_at a0 x3_1
          replace p6 := eq_true p6
          replace q6 := eq_true q6
          have p14 : 0 ≤ (x3_1 : Int) := oda_
          have q14 : x3_1 < (a0.size : Int) := oda_
          have hx14 := bt_at a0 x3_1
          replace p14 := eq_true p14
          replace q14 := eq_true q14
          have p16 : 0 ≤ (x3_1 : Int) := oda_
          have q16 : x3_1 < (a0.size : Int) := oda_
          have hx16 := bt_at a0 x3_1
          replace p16 := eq_true p16
          replace q16 := eq_true q16
          go_wp2
          go_roundg k1
          case measure => have := HK1.out; omega
          case rel => exact ⟨(wrap64 (x3_1 + 1)), sd_, H', ⟨by have := HK1.out; omega⟩, dr_⟩
         ·
          rw [if_neg c17] at H
          have c17b0 : decide ((bt a0 x3_1) ≤ 102) = false := decide_eq_false c17
          clear c17
          obtain rfl := Option.some.inj H
          have p6 : 0 ≤ (x3_1 : Int) := oda_
          have q6 : x3_1 < (a0.size : Int) := oda_
          have hx6 := bt_at a0 x3_1
          replace p6 := eq_true p6
          replace q6 := eq_true q6
          have p14 : 0 ≤ (x3_1 : Int) := oda_
          have q14 : x3_1 < (a0.size : Int) := oda_
          have hx14 := bt_at a0 x3_1
          replace p14 := eq_true p14
          replace q14 := eq_true q14
          have p16 : 0 ≤ (x3_1 : Int) := oda_
          have q16 : x3_1 < (a0.size : Int) := oda_
          have hx16 := bt_at a0 x3_1
          replace p16 := eq_true p16
          replace q16 := eq_true q16
          go_wp2
          go_ret
          exact ⟨sd_, dr_⟩
        ·
         rw [if_neg c15] at H
         have c15b0 : decide (97 ≤ (bt a0 x3_1)) = false := decide_eq_false c15
         clear c15
         obtain rfl := Option.some.inj H
         have p6 : 0 ≤ (x3_1 : Int) := oda_
         have q6 : x3_1 < (a0.size : Int) := oda_
         have hx6 := bt_at a0 x3_1
         replace p6 := eq_true p6
         replace q6 := eq_true q6
         have p14 : 0 ≤ (x3_1 : Int) := oda_
         have q14 : x3_1 < (a0.size : Int) := oda_
         have hx14 := bt_at a0 x3_1
         replace p14 := eq_true p14
         replace q14 := eq_true q14
         go_wp2
         go_ret
         exact ⟨sd_, dr_⟩
      ·
       rw [if_neg c5] at H
       exact absurd H (by simp)
     ·
      rw [if_neg c4] at H
      exact absurd H (by simp)
    ·
     rw [if_neg c3] at H
     have c3b0 : decide (x3_1 < 64) = false := decide_eq_false c3
     clear c3
     obtain rfl := Option.some.inj H
     go_wp2
     go_ret
     exact ⟨sd_, dr_⟩
 ·
  rw [if_neg c2] at H
  have c2b0 : ((a0.size : Int) == 64) = false := beq_eq_false_iff_ne.mpr c2
  have c2b1 : ((a0.size : Int) != 64) = true := bne_iff_ne.mpr c2
  obtain rfl := Option.some.inj H
  go_enter Tryz.func27, Tryz.ntmps27
  go_wp2
  go_ret
  exact ⟨sd_, dr_⟩
noncomputable def r04_Part.l0 : Nat → ByteArray → Int → Option (Bool)
 | 0, _, _ => none
 | k + 1, x0, x3 => if x3 < (x0.size : Int) then (if 0 ≤ x3 then (if (bt x0 x3) < 33 then (some false) else (if (bt x0 x3) > 126 then (some false) else (if (bt x0 x3) = 47 then (some false) else (r04_Part.l0 k x0 (wrap64 (x3 + 1)))))) else (none)) else (if (x0.size : Int) ≥ 1 then (if (x0.size : Int) ≤ 70 then (if x0.toList = ([46] : List UInt8) then (some false) else (some (x0.toList != ([46, 46] : List UInt8)))) else (some false)) else (some false))
noncomputable def r04_Part.f (k : Nat) (a0 : ByteArray) : Option (Bool) := r04_Part.l0 k a0 0
set_option maxHeartbeats 8000000 in
set_option maxRecDepth 100000 in
theorem r04_Part.calls (k : Nat) (a0 : ByteArray) (r : Bool) (w : World) (h : r04_Part.f k a0 = some r) :
  Calls Tryz.prog 62 #[.string a0] w fun e w' => e = .returned (.bool r) ∧ Drawn0 w w' := by
 have H : (r04_Part.l0 k a0 0) = some r := h
 clear h
 have H' := Aside0.mk H
 clear H
 go_enter Tryz.func62, Tryz.ntmps62
 go_wp2
 go_loopg [3] k (fun kq v3 w' => ∃ (x3_1 : Int), v3 = .int .i64 x3_1 ∧ Aside0 (r04_Part.l0 kq a0 x3_1 = some r) ∧ Aside0 (kq ≤ k) ∧ Drawn0 w w')
 case atStart => exact ⟨(0), sd_, H', ⟨Nat.le_refl _⟩, dr_⟩
 case round =>
  clear H'
  obtain ⟨x3_1, rfl, HA, HK1, ⟨m1, rfl⟩⟩ := hrel
  cases gk with
  | zero => exact absurd HA.out (by simp [r04_Part.l0])
  | succ k1 =>
   have H := HA.out
   clear HA
   simp only [r04_Part.l0] at H
   by_cases c2 : x3_1 < (a0.size : Int)
   ·
    rw [if_pos c2] at H
    have c2b0 : decide (x3_1 < (a0.size : Int)) = true := decide_eq_true c2
    clear c2
    by_cases c3 : 0 ≤ x3_1
    ·
     rw [if_pos c3] at H
     have c3b0 : decide (0 ≤ x3_1) = true := decide_eq_true c3
     clear c3
     by_cases c5 : (bt a0 x3_1) < 33
     ·
      rw [if_pos c5] at H
      have c5b0 : decide ((bt a0 x3_1) < 33) = true := decide_eq_true c5
      clear c5
      obtain rfl := Option.some.inj H
      have p4 : 0 ≤ (x3_1 : Int) := oda_
      have q4 : x3_1 < (a0.size : Int) := oda_
      have hx4 := bt_at a0 x3_1
      replace p4 := eq_true p4
      replace q4 := eq_true q4
      go_wp2
      go_ret
      exact ⟨sd_, dr_⟩
     ·
      rw [if_neg c5] at H
      have c5b0 : decide ((bt a0 x3_1) < 33) = false := decide_eq_false c5
      clear c5
      by_cases c7 : (bt a0 x3_1) > 126
      ·
       rw [if_pos c7] at H
       have c7b0 : decide (126 < (bt a0 x3_1)) = true := decide_eq_true c7
       clear c7
       obtain rfl := Option.some.inj H
       have p4 : 0 ≤ (x3_1 : Int) := oda_
       have q4 : x3_1 < (a0.size : Int) := oda_
       have hx4 := bt_at a0 x3_1
       replace p4 := eq_true p4
       replace q4 := eq_true q4
       have p6 : 0 ≤ (x3_1 : Int) := oda_
       have q6 : x3_1 < (a0.size : Int) := oda_
       have hx6 := bt_at a0 x3_1
       replace p6 := eq_true p6
       replace q6 := eq_true q6
       go_wp2
       go_ret
       exact ⟨sd_, dr_⟩
      ·
       rw [if_neg c7] at H
       have c7b0 : decide (126 < (bt a0 x3_1)) = false := decide_eq_false c7
       clear c7
       by_cases c9 : (bt a0 x3_1) = 47
       ·
        rw [if_pos c9] at H
        have c9b0 : ((bt a0 x3_1) == 47) = true := beq_iff_eq.mpr c9
        have c9b1 : ((bt a0 x3_1) != 47) = false := bne_eq_false_iff_eq.mpr c9
        clear c9
        obtain rfl := Option.some.inj H
        have p4 : 0 ≤ (x3_1 : Int) := oda_
        have q4 : x3_1 < (a0.size : Int) := oda_
        have hx4 := bt_at a0 x3_1
        replace p4 := eq_true p4
        replace q4 := eq_true q4
        have p6 : 0 ≤ (x3_1 : Int) := oda_
        have q6 : x3_1 < (a0.size : Int) := oda_
        have hx6 := bt_at a0 x3_1
        replace p6 := eq_true p6
        replace q6 := eq_true q6
        have p8 : 0 ≤ (x3_1 : Int) := oda_
        have q8 : x3_1 < (a0.size : Int) := oda_
        have hx8 := bt_at a0 x3_1
        replace p8 := eq_true p8
        replace q8 := eq_true q8
        go_wp2
        go_ret
        exact ⟨sd_, dr_⟩
       ·
        rw [if_neg c9] at H
        have c9b0 : ((bt a0 x3_1) == 47) = false := beq_eq_false_iff_ne.mpr c9
        have c9b1 : ((bt a0 x3_1) != 47) = true := bne_iff_ne.mpr c9
        have H' := Aside0.mk H
        clear H
        have p4 : 0 ≤ (x3_1 : Int) := oda_
        have q4 : x3_1 < (a0.size : Int) := oda_
        have hx4 := bt_at a0 x3_1
        replace p4 := eq_true p4
        replace q4 := eq_true q4
        have p6 : 0 ≤ (x3_1 : Int) := oda_
        have q6 : x3_1 < (a0.size : Int) := oda_
        have hx6 := bt_at a0 x3_1
        replace p6 := eq_true p6
        replace q6 := eq_true q6
        have p8 : 0 ≤ (x3_1 : Int) := oda_
        have q8 : x3_1 < (a0.size : Int) := oda_
        have hx8 := bt_at a0 x3_1
        replace p8 := eq_true p8
        replace q8 := eq_true q8
        go_wp2
        go_roundg k1
        case measure => have := HK1.out; omega
        case rel => exact ⟨(wrap64 (x3_1 + 1)), sd_, H', ⟨by have := HK1.out; omega⟩, dr_⟩
    ·
     rw [if_neg c3] at H
     exact absurd H (by simp)
   ·
    rw [if_neg c2] at H
    have c2b0 : decide (x3_1 < (a0.size : Int)) = false := decide_eq_false c2
    clear c2
    by_cases c10 : (a0.size : Int) ≥ 1
    ·
     rw [if_pos c10] at H
     have c10b0 : decide (1 ≤ (a0.size : Int)) = true := decide_eq_true c10
     have c10b1 : decide (1 ≤ a0.size) = true := decide_eq_true (by omega)
     clear c10
     by_cases c11 : (a0.size : Int) ≤ 70
     ·
      rw [if_pos c11] at H
      have c11b0 : decide ((a0.size : Int) ≤ 70) = true := decide_eq_true c11
      have c11b1 : decide (a0.size ≤ 70) = true := decide_eq_true (by omega)
      clear c11
      by_cases c12 : a0.toList = ([46] : List UInt8)
      ·
       rw [if_pos c12] at H
       have c12b0 : (a0.toList == ([46] : List UInt8)) = true := beq_iff_eq.mpr c12
       have c12b1 : (a0.toList != ([46] : List UInt8)) = false := bne_eq_false_iff_eq.mpr c12
       clear c12
       obtain rfl := Option.some.inj H
       go_wp2
       go_ret
       exact ⟨sd_, dr_⟩
      ·
       rw [if_neg c12] at H
       have c12b0 : (a0.toList == ([46] : List UInt8)) = false := beq_eq_false_iff_ne.mpr c12
       have c12b1 : (a0.toList != ([46] : List UInt8)) = true := bne_iff_ne.mpr c12
       obtain rfl := Option.some.inj H
       go_wp2
       go_ret
       exact ⟨sd_, dr_⟩
     ·
      rw [if_neg c11] at H
      have c11b0 : decide ((a0.size : Int) ≤ 70) = false := decide_eq_false c11
      have c11b1 : decide (a0.size ≤ 70) = false := decide_eq_false (by omega)
      clear c11
      obtain rfl := Option.some.inj H
      go_wp2
      go_ret
      exact ⟨sd_, dr_⟩
    ·
     rw [if_neg c10] at H
     have c10b0 : decide (1 ≤ (a0.size : Int)) = false := decide_eq_false c10
     have c10b1 : decide (1 ≤ a0.size) = false := decide_eq_false (by omega)
     clear c10
     obtain rfl := Option.some.inj H
     go_wp2
     go_ret
     exact ⟨sd_, dr_⟩
noncomputable def r04_key.f (a0_0 : Int) (a0_1 : ByteArray) (a0_2 : ByteArray) : Option (ByteArray) := if a0_0 = 3 then (if a0_1.size + 1 ≤ 9223372036854775807 then (some (a0_1 ++ (⟨#[47]⟩ : ByteArray))) else (none)) else (some a0_1)
set_option maxHeartbeats 8000000 in
set_option maxRecDepth 100000 in
theorem r04_key.calls (a0_0 : Int) (a0_1 : ByteArray) (a0_2 : ByteArray) (r : ByteArray) (w : World) (h : r04_key.f a0_0 a0_1 a0_2 = some r) :
  Calls Tryz.prog 63 #[.agg #[.int .i64 a0_0, .string a0_1, .string a0_2]] w fun e w' => e = .returned (.string r) ∧ Below w.heap.size w w' := by
 have hu58 := Tryz.underlying58
 have HB := Aside0.mk (Below.refl w.heap.size w)
 have H : (if a0_0 = 3 then (if a0_1.size + 1 ≤ 9223372036854775807 then (some (a0_1 ++ (⟨#[47]⟩ : ByteArray))) else (none)) else (some a0_1)) = some r := h
 clear h
 by_cases c2 : a0_0 = 3
 ·
  rw [if_pos c2] at H
  have c2b0 : (a0_0 == 3) = true := beq_iff_eq.mpr c2
  have c2b1 : (a0_0 != 3) = false := bne_eq_false_iff_eq.mpr c2
  clear c2
  by_cases c3 : a0_1.size + 1 ≤ 9223372036854775807
  ·
   rw [if_pos c3] at H
   have c3b0 := eq_true c3
   have c3b1 : decide (a0_1.size + 1 ≤ 9223372036854775807) = true := decide_eq_true c3
   try have c3b2 : (9223372036854775807 < a0_1.size + 1) = False := eq_false (Nat.not_lt.2 c3)
   obtain rfl := Option.some.inj H
   go_enter Tryz.func63, Tryz.ntmps63
   go_wp2_with (first | ((with_reducible refine gate_dst (N := 1) rfl ?_); refine box_event ?hg (N := 1) ?hd (cs := #[.int .i64 a0_0, .string a0_1, .string a0_2]) (t := 58) ?hr ?_; (case hd => rfl); (case hg => rfl); (case hr => first | (go_simp; done) | (go_simp; rfl)); intro gb101 hg w4 hbox hb; have n0_ := Aside0.mk (below_step bw_ hb); have n1_ := Aside0.mk (hbox); have n2_ := Aside0.mk ((by rw [hg]; exact (below_size bw_) : w.heap.size ≤ gb101)); have n3_ := Aside0.mk ((by rw [hg]; exact (below_size bw_) : w.heap.size ≤ gb101)); clear HB; have HB := n0_; have BK101 := n1_; have GW101 := n2_; have GE101 := n3_; clear n0_ n1_ n2_ n3_; clear hb hbox hg; have hcz5_0 : w4.cell? ⟨gb101, 0, none⟩ = some (.int .i64 a0_0) := (blk_cell BK101.out 0).trans rfl; have hcz5_1 : w4.cell? ⟨gb101, 1, none⟩ = some (.string a0_1) := (blk_cell BK101.out 1).trans rfl; have hcz5_2 : w4.cell? ⟨gb101, 2, none⟩ = some (.string a0_2) := (blk_cell BK101.out 2).trans rfl; have hfz5_0 := blk_frozen BK101.out 0; have hfz5_1 := blk_frozen BK101.out 1; have hfz5_2 := blk_frozen BK101.out 2))
   go_ret
   exact ⟨er_, by repeat (first | (with_reducible first | exact HB.out | apply below_alloc | apply pw_below_drewN | apply below_drew1 | refine below_set ?_ GE101.out) | exact HB.out)⟩
  ·
   rw [if_neg c3] at H
   exact absurd H (by simp)
 ·
  rw [if_neg c2] at H
  have c2b0 : (a0_0 == 3) = false := beq_eq_false_iff_ne.mpr c2
  have c2b1 : (a0_0 != 3) = true := bne_iff_ne.mpr c2
  obtain rfl := Option.some.inj H
  go_enter Tryz.func63, Tryz.ntmps63
  go_wp2_with (first | ((with_reducible refine gate_dst (N := 1) rfl ?_); refine box_event ?hg (N := 1) ?hd (cs := #[.int .i64 a0_0, .string a0_1, .string a0_2]) (t := 58) ?hr ?_; (case hd => rfl); (case hg => rfl); (case hr => first | (go_simp; done) | (go_simp; rfl)); intro gb101 hg w6 hbox hb; have n0_ := Aside0.mk (below_step bw_ hb); have n1_ := Aside0.mk (hbox); have n2_ := Aside0.mk ((by rw [hg]; exact (below_size bw_) : w.heap.size ≤ gb101)); have n3_ := Aside0.mk ((by rw [hg]; exact (below_size bw_) : w.heap.size ≤ gb101)); clear HB; have HB := n0_; have BK101 := n1_; have GW101 := n2_; have GE101 := n3_; clear n0_ n1_ n2_ n3_; clear hb hbox hg; have hcz7_0 : w6.cell? ⟨gb101, 0, none⟩ = some (.int .i64 a0_0) := (blk_cell BK101.out 0).trans rfl; have hcz7_1 : w6.cell? ⟨gb101, 1, none⟩ = some (.string a0_1) := (blk_cell BK101.out 1).trans rfl; have hcz7_2 : w6.cell? ⟨gb101, 2, none⟩ = some (.string a0_2) := (blk_cell BK101.out 2).trans rfl; have hfz7_0 := blk_frozen BK101.out 0; have hfz7_1 := blk_frozen BK101.out 1; have hfz7_2 := blk_frozen BK101.out 2))
  go_ret
  exact ⟨er_, by repeat (first | (with_reducible first | exact HB.out | apply below_alloc | apply pw_below_drewN | apply below_drew1 | refine below_set ?_ GE101.out) | exact HB.out)⟩
end Go.Proofs.YtehmhfbfgniekaaGreatDoor.PObDoc

namespace Go.Proofs.YtehmhfbfgniekaaGreatDoor.PObDoc
open Go.Proofs.YtehmhfbfgniekaaGreatDoor.PObBase
open Go.RowKit Go.Proofs.YtehmhfbfgniekaaGreatDoorW.PrintWords Go.Proofs.YtehmhfbfgniekaaGreatDoorW.PrintLast Go.Proofs.YtehmhfbfgniekaaGreatDoorW.PrintMore
attribute [local go_sem] StrSem.leq_str StrSem.geq_str StrSem.gtr_str max2_int min2_int max_two min_two max_three min_three max_four min_four   -- for this text's walks alone
set_option linter.unusedVariables false
set_option linter.unusedSimpArgs false
theorem o2_ {p : Prop} (h : p := by repeat (first | (with_reducible first | exact HB.out | apply below_alloc | apply pw_below_drewN | apply below_drew1 | refine below_set ?_ GE103.out) | exact HB.out)) : p := h
theorem o3_ {p : Prop} (h : p := by (with_reducible repeat (first | refine blk_drewN ?_ _ | refine blk_drew ?_ | refine blk_alloc ?_ _)); exact BK103.out) : p := h
mutual
noncomputable def r04_RightTree.l0 : Nat → List (S58) → Int → Option (Bool)
 | 0, _, _ => none
 | k + 1, x0, x3 => if x3 < (x0.length : Int) then (if 0 ≤ x3 then (if ((rd_T58 x0 x3).f0) < 1 then (r04_RightTree.j1 k x0 x3 true ((rd_T58 x0 x3).f0) ((rd_T58 x0 x3).f1) ((rd_T58 x0 x3).f2)) else (if ((rd_T58 x0 x3).f0) > 3 then (r04_RightTree.j1 k x0 x3 true ((rd_T58 x0 x3).f0) ((rd_T58 x0 x3).f1) ((rd_T58 x0 x3).f2)) else ((r04_Part.f k ((rd_T58 x0 x3).f1)).bind fun t104 => (if t104 = true then ((r02_Named.f k ((rd_T58 x0 x3).f2)).bind fun t105 => (if t105 = true then (if x3 > 0 then (if 0 ≤ (wrap64 (x3 - 1)) then (if (wrap64 (x3 - 1)) < (x0.length : Int) then ((r04_key.f ((rd_T58 x0 (wrap64 (x3 - 1))).f0) ((rd_T58 x0 (wrap64 (x3 - 1))).f1) ((rd_T58 x0 (wrap64 (x3 - 1))).f2)).bind fun t107 => ((r04_key.f ((rd_T58 x0 x3).f0) ((rd_T58 x0 x3).f1) ((rd_T58 x0 x3).f2)).bind fun t108 => (r04_RightTree.j1 k x0 x3 (!(Op.bytesLess t107.toList t108.toList)) ((rd_T58 x0 x3).f0) ((rd_T58 x0 x3).f1) ((rd_T58 x0 x3).f2)))) else (none)) else (none)) else (r04_RightTree.j1 k x0 x3 false ((rd_T58 x0 x3).f0) ((rd_T58 x0 x3).f1) ((rd_T58 x0 x3).f2))) else (r04_RightTree.j1 k x0 x3 true ((rd_T58 x0 x3).f0) ((rd_T58 x0 x3).f1) ((rd_T58 x0 x3).f2)))) else (r04_RightTree.j1 k x0 x3 true ((rd_T58 x0 x3).f0) ((rd_T58 x0 x3).f1) ((rd_T58 x0 x3).f2)))))) else (none)) else (some (decide ((x0.length : Int) ≤ 256)))
noncomputable def r04_RightTree.j1 : Nat → List (S58) → Int → Bool → Int → ByteArray → ByteArray → Option (Bool)
 | 0, _, _, _, _, _, _ => none
 | k + 1, x0, x3, x50, x104000, x104001, x104002 => if x50 = true then (some false) else (r04_RightTree.l1 k x0 x3 0 x104000 x104001 x104002)
noncomputable def r04_RightTree.l1 : Nat → List (S58) → Int → Int → Int → ByteArray → ByteArray → Option (Bool)
 | 0, _, _, _, _, _, _ => none
 | k + 1, x0, x3, x5, x104000, x104001, x104002 => if x5 < x3 then (if 0 ≤ x5 then (if x5 < (x0.length : Int) then (if ((rd_T58 x0 x5).f1).toList = x104001.toList then (some false) else (r04_RightTree.l1 k x0 x3 (wrap64 (x5 + 1)) x104000 x104001 x104002)) else (none)) else (none)) else (r04_RightTree.l0 k x0 (wrap64 (x3 + 1)))
end
noncomputable def r04_RightTree.f (k : Nat) (l0 : List (S58)) : Option (Bool) := r04_RightTree.l0 k l0 0
def r04_RightTree.T5 : Bool × List (List Nat × List Nat) := (true, [([], []), ([0], [0]), ([1], [1]), ([2], [2]), ([3], [3]), ([4, 3], [3, 4]), ([5, 3], [3, 5]), ([3, 6], [3, 6]), ([7, 3], [7]), ([8], [8]), ([9, 8], [8, 9]), ([10, 8, 8], [8, 10]), ([11, 8], [8, 11]), ([8, 12], [8, 12]), ([13, 11], [13]), ([14], [14]), ([15, 14], [14, 15]), ([16, 14, 14], [14, 16]), ([17, 14], [14, 17]), ([14, 18], [14, 18]), ([19, 17], [19]), ([20], [20]), ([21, 20], [20, 21]), ([22, 20, 20], [20, 22]), ([23], [23]), ([23], [23]), ([25, 23], [23, 25]), ([24, 26, 23], [23, 24, 26]), ([27, 23], [23, 27]), ([28, 23, 23], [23, 28]), ([23], [23]), ([30, 29, 23], [23, 30]), ([29, 31, 23], [23, 29, 31]), ([23, 32, 20], [20, 23, 32]), ([20, 33], [20, 33])])
def r04_RightTree.B5 : List Nat := [0, 1, 3, 7, 15, 31, 63, 127, 255, 511, 1023, 2047, 4095, 8191, 16383, 32767, 65535, 131071, 262143, 524287, 1048575, 2097151, 4194303, 8388607, 16777215, 16777215, 50331647, 134217727, 268435455, 536870911, 16777215, 2147483647, 4294967295, 8589934591, 17179869183]
theorem r04_RightTree.tab5 : rtab .any (opsOf Tryz.f44 5) = r04_RightTree.T5 := by kernel_rfl
theorem r04_RightTree.bits5 : waitsOk r04_RightTree.T5.2 r04_RightTree.B5 = true := by kernel_rfl
def r04_RightTree.T10 : Bool × List (List Nat × List Nat) := (true, [([], []), ([], []), ([0, 1], [0, 1]), ([2], [2]), ([3], [3]), ([], []), ([5], [5]), ([4, 6], [4, 6])])
def r04_RightTree.B10 : List Nat := [0, 0, 3, 7, 15, 0, 32, 127]
theorem r04_RightTree.tab10 : rtab .any (opsOf Tryz.f44 10) = r04_RightTree.T10 := by kernel_rfl
theorem r04_RightTree.bits10 : waitsOk r04_RightTree.T10.2 r04_RightTree.B10 = true := by kernel_rfl
set_option maxHeartbeats 8000000 in
set_option maxRecDepth 100000 in
theorem r04_RightTree.calls (k : Nat) (A0 : Option Addr) (c0 : Nat) (l0 : List (S58)) (r : Bool) (w : World) (hr0 : Kd.C k58 w A0 l0.length l0) (hc0 : l0.length ≤ c0) (h : r04_RightTree.f k l0 = some r) :
  Calls Tryz.prog 44 #[.slice A0 l0.length c0] w fun e w' => e = .returned (.bool r) ∧ Below w.heap.size w w' := by
 have hu58 := Tryz.underlying58
 have HR0 := Aside0.mk hr0
 have HC0 := Aside0.mk hc0
 clear hr0 hc0
 have HB := Aside0.mk (Below.refl w.heap.size w)
 have H : (r04_RightTree.l0 k l0 0) = some r := h
 clear h
 have H' := Aside0.mk H
 clear H
 go_enter Tryz.func44, Tryz.ntmps44
 go_wp2
 go_loopg [3] k (fun kq v3 w' => ∃ (x3_1 : Int), v3 = .int .i64 x3_1 ∧ Aside0 (r04_RightTree.l0 kq l0 x3_1 = some r) ∧ Aside0 (kq ≤ k) ∧ Aside0 (Below w.heap.size w w'))
 case atStart => exact ⟨(0), sd_, H', ⟨Nat.le_refl _⟩, ⟨bw_⟩⟩
 case round =>
  clear H'
  obtain ⟨x3_1, rfl, HA, HK1, HB⟩ := hrel
  cases gk with
  | zero => exact absurd HA.out (by simp [r04_RightTree.l0])
  | succ k1 =>
   have H := HA.out
   clear HA
   simp only [r04_RightTree.l0] at H
   by_cases c2 : x3_1 < (l0.length : Int)
   ·
    rw [if_pos c2] at H
    have c2b0 : decide (x3_1 < (l0.length : Int)) = true := decide_eq_true c2
    clear c2
    by_cases c3 : 0 ≤ x3_1
    ·
     rw [if_pos c3] at H
     have c3b0 : decide (0 ≤ x3_1) = true := decide_eq_true c3
     clear c3
     have HC4 := Aside0.mk H
     clear H
     have p102 : 0 ≤ (x3_1 : Int) := oda_
     have q102 : x3_1 < (l0.length : Int) := oda_
     obtain ⟨ad102, e102, hx102_0, hx102_1, hx102_2⟩ := at_T58 HR0.out x3_1 p102 q102
     cases e102
     replace hx102_0 := (HB.out.cell (World.block_lt_of_cell? w _ hx102_0)).trans hx102_0
     replace hx102_1 := (HB.out.cell (World.block_lt_of_cell? w _ hx102_1)).trans hx102_1
     replace hx102_2 := (HB.out.cell (World.block_lt_of_cell? w _ hx102_2)).trans hx102_2
     replace p102 := eq_true p102
     replace q102 := eq_true q102
     go_upto_region 5 with (first | ((with_reducible refine gate_dst (N := 4) rfl ?_); refine box_event ?hg (N := 4) ?hd (cs := #[.int .i64 0, .string (⟨#[]⟩ : ByteArray), .string (⟨#[]⟩ : ByteArray)]) (t := 58) ?hr ?_; (case hd => rfl); (case hg => rfl); (case hr => first | (go_simp; done) | (go_simp; rfl)); intro gb103 hg w5 hbox hb; have n0_ := Aside0.mk (below_step bw_ hb); have n1_ := Aside0.mk (hbox); have n2_ := Aside0.mk ((by rw [hg]; exact (below_size bw_) : w.heap.size ≤ gb103)); have n3_ := Aside0.mk ((by rw [hg]; exact (below_size bw_) : w.heap.size ≤ gb103)); clear HB; have HB := n0_; have BK103 := n1_; have GW103 := n2_; have GE103 := n3_; clear n0_ n1_ n2_ n3_; clear hb hbox hg; have hcz6_0 : w5.cell? ⟨gb103, 0, none⟩ = some (.int .i64 0) := (blk_cell BK103.out 0).trans rfl; have hcz6_1 : w5.cell? ⟨gb103, 1, none⟩ = some (.string (⟨#[]⟩ : ByteArray)) := (blk_cell BK103.out 1).trans rfl; have hcz6_2 : w5.cell? ⟨gb103, 2, none⟩ = some (.string (⟨#[]⟩ : ByteArray)) := (blk_cell BK103.out 2).trans rfl; have hfz6_0 := blk_frozen BK103.out 0; have hfz6_1 := blk_frozen BK103.out 1; have hfz6_2 := blk_frozen BK103.out 2))
     (try simp only [Act.put, List.setIfInBounds_toArray, List.set_cons_zero, List.set_cons_succ])
     go_cut [50] (fun v50 wc => ∃ (kq : Nat) (x50_3 : Bool), v50 = .bool x50_3 ∧ Aside0 (r04_RightTree.j1 kq l0 x3_1 x50_3 ((rd_T58 l0 x3_1).f0) ((rd_T58 l0 x3_1).f1) ((rd_T58 l0 x3_1).f2) = some r) ∧ Aside0 (kq ≤ k1) ∧ Aside0 (wc.heap[gb103]? = some (.cells #[.int .i64 ((rd_T58 l0 x3_1).f0), .string ((rd_T58 l0 x3_1).f1), .string ((rd_T58 l0 x3_1).f2)] 58 (0, 0))) ∧ Aside0 (Below w.heap.size w wc))
     case first =>
      have H := HC4.out
      clear HC4
      by_cases c7 : ((rd_T58 l0 x3_1).f0) < 1
      ·
       rw [if_pos c7] at H
       have c7b0 : decide (((rd_T58 l0 x3_1).f0) < 1) = true := decide_eq_true c7
       clear c7
       (first | rw [c7b0] | (simp only [i64_w, i32_w]; rw [c7b0]) | skip)
       have H' := Aside0.mk H
       clear H
       try go_wp2
       have n0_ : Aside0 ((((w5.setCell ⟨gb103, 0, none⟩ (.int .i64 ((rd_T58 l0 x3_1).f0))).setCell ⟨gb103, 1, none⟩ (.string ((rd_T58 l0 x3_1).f1))).setCell ⟨gb103, 2, none⟩ (.string ((rd_T58 l0 x3_1).f2))).heap[gb103]? = some (.cells #[.int .i64 ((rd_T58 l0 x3_1).f0), .string ((rd_T58 l0 x3_1).f1), .string ((rd_T58 l0 x3_1).f2)] 58 (0, 0))) := ⟨by (with_reducible repeat (first | refine blk_drewN ?_ _ | refine blk_drew ?_ | refine blk_alloc ?_ _)); refine blk_put (cs := #[.int .i64 ((rd_T58 l0 x3_1).f0), .string ((rd_T58 l0 x3_1).f1), .string (⟨#[]⟩ : ByteArray)]) ?_ 2 _ rfl; (with_reducible repeat (first | refine blk_drewN ?_ _ | refine blk_drew ?_ | refine blk_alloc ?_ _)); refine blk_put (cs := #[.int .i64 ((rd_T58 l0 x3_1).f0), .string (⟨#[]⟩ : ByteArray), .string (⟨#[]⟩ : ByteArray)]) ?_ 1 _ rfl; (with_reducible repeat (first | refine blk_drewN ?_ _ | refine blk_drew ?_ | refine blk_alloc ?_ _)); refine blk_put (cs := #[.int .i64 0, .string (⟨#[]⟩ : ByteArray), .string (⟨#[]⟩ : ByteArray)]) ?_ 0 _ rfl; (with_reducible repeat (first | refine blk_drewN ?_ _ | refine blk_drew ?_ | refine blk_alloc ?_ _)); exact BK103.out⟩
       have n1_ : Aside0 (Below w.heap.size w (((w5.setCell ⟨gb103, 0, none⟩ (.int .i64 ((rd_T58 l0 x3_1).f0))).setCell ⟨gb103, 1, none⟩ (.string ((rd_T58 l0 x3_1).f1))).setCell ⟨gb103, 2, none⟩ (.string ((rd_T58 l0 x3_1).f2)))) := ⟨o2_⟩
       (try clear BK103)
       (try clear HB)
       generalize (((w5.setCell ⟨gb103, 0, none⟩ (.int .i64 ((rd_T58 l0 x3_1).f0))).setCell ⟨gb103, 1, none⟩ (.string ((rd_T58 l0 x3_1).f1))).setCell ⟨gb103, 2, none⟩ (.string ((rd_T58 l0 x3_1).f2))) = w8 at n0_ n1_ ⊢
       have BK103 := n0_
       have HB := n1_
       clear n0_ n1_
       have n0_ := Aside0.mk (blk_drew BK103.out)
       have n1_ := Aside0.mk (below_drew1 HB.out)
       clear BK103
       clear HB
       have BK103 := n0_
       have HB := n1_
       clear n0_ n1_
       refine start_ (n := 35) (S := fun w' => w'.cell? ⟨gb103, 0, none⟩ = some (.int .i64 ((rd_T58 l0 x3_1).f0)) ∧ w'.cell? ⟨gb103, 1, none⟩ = some (.string ((rd_T58 l0 x3_1).f1)) ∧ w'.cell? ⟨gb103, 2, none⟩ = some (.string ((rd_T58 l0 x3_1).f2))) (ds := []) (bl_ 35 0) (by kernel_rfl) rfl rfl ⟨(blk_cell BK103.out 0).trans rfl, (blk_cell BK103.out 1).trans rfl, (blk_cell BK103.out 2).trans rfl⟩ (fun hHeld => ?_); refine with_tabW r04_RightTree.tab5 r04_RightTree.bits5 (fun HT_ HW_ => ?_)
       generalize w8.drew = w9 at BK103 HB hHeld ⊢
       refine pv_ 0 16 (bl_ 35 1) ?_
       refine tk_ 1 17 (bl_ 35 3) hHeld (hv := by rintro w' ⟨s0, s1, s2⟩; go_simp; with_reducible rfl) (h := ?_)
       refine pv_ 2 18 (bl_ 35 7) ?_
       refine pv_ 3 19 (bl_ 35 15) ?_
       refine pu_ 4 20 (bl_ 35 31) ?_
       refine pu_ 5 21 (bl_ 35 63) ?_
       refine pu_ 6 22 (bl_ 35 127) ?_
       refine pv_ 7 23 (bl_ 35 255) ?_
       refine pv_ 8 24 (bl_ 35 511) ?_
       refine pu_ 9 25 (bl_ 35 1023) ?_
       refine pu_ 10 26 (bl_ 35 2047) ?_
       refine pu_ 11 27 (bl_ 35 4095) ?_
       refine pu_ 12 28 (bl_ 35 8191) ?_
       refine pv_ 13 29 (bl_ 35 16383) ?_
       refine pv_ 14 30 (bl_ 35 32767) ?_
       refine pu_ 15 31 (bl_ 35 65535) ?_
       refine pu_ 16 32 (bl_ 35 131071) ?_
       refine pu_ 17 33 (bl_ 35 262143) ?_
       refine pu_ 18 34 (bl_ 35 524287) ?_
       refine pv_ 19 35 (bl_ 35 1048575) ?_
       refine pv_ 20 36 (bl_ 35 2097151) ?_
       refine pu_ 21 37 (bl_ 35 4194303) ?_
       refine pu_ 22 38 (bl_ 35 8388607) ?_
       refine pu_ 23 39 (bl_ 35 16777215) ?_
       refine pu_ 24 40 (bl_ 35 33554431) ?_
       refine pu_ 25 41 (bl_ 35 67108863) ?_
       refine pu_ 26 42 (bl_ 35 134217727) ?_
       refine pu_ 27 43 (bl_ 35 268435455) ?_
       refine pu_ 28 44 (bl_ 35 536870911) ?_
       refine pu_ 29 45 (bl_ 35 1073741823) ?_
       refine pu_ 30 46 (bl_ 35 2147483647) ?_
       refine pu_ 31 47 (bl_ 35 4294967295) ?_
       refine pu_ 32 48 (bl_ 35 8589934591) ?_
       refine pu_ 33 49 (bl_ 35 17179869183) ?_
       refine pv_ 34 50 (bl_ 35 34359738367) ?_
       refine done_ (done_of HT_.out (by kernel_rfl)) ?_
       try go_wp2
       go_meet
       case rel => exact ⟨_, (true), sd_, H', ⟨by have := HK1.out; first | omega | exact Nat.le_refl _⟩, ⟨o3_⟩, ⟨o2_⟩⟩
      ·
       rw [if_neg c7] at H
       have c7b0 : decide (((rd_T58 l0 x3_1).f0) < 1) = false := decide_eq_false c7
       clear c7
       (first | rw [c7b0] | (simp only [i64_w, i32_w]; rw [c7b0]) | skip)
       by_cases c10 : ((rd_T58 l0 x3_1).f0) > 3
       ·
        rw [if_pos c10] at H
        have c10b0 : decide (3 < ((rd_T58 l0 x3_1).f0)) = true := decide_eq_true c10
        clear c10
        have H' := Aside0.mk H
        clear H
        try go_wp2
        have n0_ : Aside0 ((((w5.setCell ⟨gb103, 0, none⟩ (.int .i64 ((rd_T58 l0 x3_1).f0))).setCell ⟨gb103, 1, none⟩ (.string ((rd_T58 l0 x3_1).f1))).setCell ⟨gb103, 2, none⟩ (.string ((rd_T58 l0 x3_1).f2))).heap[gb103]? = some (.cells #[.int .i64 ((rd_T58 l0 x3_1).f0), .string ((rd_T58 l0 x3_1).f1), .string ((rd_T58 l0 x3_1).f2)] 58 (0, 0))) := ⟨by (with_reducible repeat (first | refine blk_drewN ?_ _ | refine blk_drew ?_ | refine blk_alloc ?_ _)); refine blk_put (cs := #[.int .i64 ((rd_T58 l0 x3_1).f0), .string ((rd_T58 l0 x3_1).f1), .string (⟨#[]⟩ : ByteArray)]) ?_ 2 _ rfl; (with_reducible repeat (first | refine blk_drewN ?_ _ | refine blk_drew ?_ | refine blk_alloc ?_ _)); refine blk_put (cs := #[.int .i64 ((rd_T58 l0 x3_1).f0), .string (⟨#[]⟩ : ByteArray), .string (⟨#[]⟩ : ByteArray)]) ?_ 1 _ rfl; (with_reducible repeat (first | refine blk_drewN ?_ _ | refine blk_drew ?_ | refine blk_alloc ?_ _)); refine blk_put (cs := #[.int .i64 0, .string (⟨#[]⟩ : ByteArray), .string (⟨#[]⟩ : ByteArray)]) ?_ 0 _ rfl; (with_reducible repeat (first | refine blk_drewN ?_ _ | refine blk_drew ?_ | refine blk_alloc ?_ _)); exact BK103.out⟩
        have n1_ : Aside0 (Below w.heap.size w (((w5.setCell ⟨gb103, 0, none⟩ (.int .i64 ((rd_T58 l0 x3_1).f0))).setCell ⟨gb103, 1, none⟩ (.string ((rd_T58 l0 x3_1).f1))).setCell ⟨gb103, 2, none⟩ (.string ((rd_T58 l0 x3_1).f2)))) := ⟨o2_⟩
        (try clear BK103)
        (try clear HB)
        generalize (((w5.setCell ⟨gb103, 0, none⟩ (.int .i64 ((rd_T58 l0 x3_1).f0))).setCell ⟨gb103, 1, none⟩ (.string ((rd_T58 l0 x3_1).f1))).setCell ⟨gb103, 2, none⟩ (.string ((rd_T58 l0 x3_1).f2))) = w11 at n0_ n1_ ⊢
        have BK103 := n0_
        have HB := n1_
        clear n0_ n1_
        have n0_ := Aside0.mk (blk_drew BK103.out)
        have n1_ := Aside0.mk (below_drew1 HB.out)
        clear BK103
        clear HB
        have BK103 := n0_
        have HB := n1_
        clear n0_ n1_
        refine start_ (n := 35) (S := fun w' => w'.cell? ⟨gb103, 0, none⟩ = some (.int .i64 ((rd_T58 l0 x3_1).f0)) ∧ w'.cell? ⟨gb103, 1, none⟩ = some (.string ((rd_T58 l0 x3_1).f1)) ∧ w'.cell? ⟨gb103, 2, none⟩ = some (.string ((rd_T58 l0 x3_1).f2))) (ds := []) (bl_ 35 0) (by kernel_rfl) rfl rfl ⟨(blk_cell BK103.out 0).trans rfl, (blk_cell BK103.out 1).trans rfl, (blk_cell BK103.out 2).trans rfl⟩ (fun hHeld => ?_); refine with_tabW r04_RightTree.tab5 r04_RightTree.bits5 (fun HT_ HW_ => ?_)
        generalize w11.drew = w12 at BK103 HB hHeld ⊢
        refine pv_ 0 16 (bl_ 35 1) ?_
        refine tk_ 1 17 (bl_ 35 3) hHeld (hv := by rintro w' ⟨s0, s1, s2⟩; go_simp; with_reducible rfl) (h := ?_)
        refine pv_ 2 18 (bl_ 35 7) ?_
        refine pv_ 3 19 (bl_ 35 15) ?_
        refine pv_ 4 20 (bl_ 35 31) ?_
        refine tk_ 5 21 (bl_ 35 63) hHeld (hv := by rintro w' ⟨s0, s1, s2⟩; go_simp; with_reducible rfl) (h := ?_)
        refine pv_ 6 22 (bl_ 35 127) ?_
        refine pv_ 7 23 (bl_ 35 255) ?_
        refine pv_ 8 24 (bl_ 35 511) ?_
        refine pu_ 9 25 (bl_ 35 1023) ?_
        refine pu_ 10 26 (bl_ 35 2047) ?_
        refine pu_ 11 27 (bl_ 35 4095) ?_
        refine pu_ 12 28 (bl_ 35 8191) ?_
        refine pv_ 13 29 (bl_ 35 16383) ?_
        refine pv_ 14 30 (bl_ 35 32767) ?_
        refine pu_ 15 31 (bl_ 35 65535) ?_
        refine pu_ 16 32 (bl_ 35 131071) ?_
        refine pu_ 17 33 (bl_ 35 262143) ?_
        refine pu_ 18 34 (bl_ 35 524287) ?_
        refine pv_ 19 35 (bl_ 35 1048575) ?_
        refine pv_ 20 36 (bl_ 35 2097151) ?_
        refine pu_ 21 37 (bl_ 35 4194303) ?_
        refine pu_ 22 38 (bl_ 35 8388607) ?_
        refine pu_ 23 39 (bl_ 35 16777215) ?_
        refine pu_ 24 40 (bl_ 35 33554431) ?_
        refine pu_ 25 41 (bl_ 35 67108863) ?_
        refine pu_ 26 42 (bl_ 35 134217727) ?_
        refine pu_ 27 43 (bl_ 35 268435455) ?_
        refine pu_ 28 44 (bl_ 35 536870911) ?_
        refine pu_ 29 45 (bl_ 35 1073741823) ?_
        refine pu_ 30 46 (bl_ 35 2147483647) ?_
        refine pu_ 31 47 (bl_ 35 4294967295) ?_
        refine pu_ 32 48 (bl_ 35 8589934591) ?_
        refine pu_ 33 49 (bl_ 35 17179869183) ?_
        refine pv_ 34 50 (bl_ 35 34359738367) ?_
        refine done_ (done_of HT_.out (by kernel_rfl)) ?_
        try go_wp2
        go_meet
        case rel => exact ⟨_, (true), sd_, H', ⟨by have := HK1.out; first | omega | exact Nat.le_refl _⟩, ⟨o3_⟩, ⟨o2_⟩⟩
       ·
        rw [if_neg c10] at H
        have c10b0 : decide (3 < ((rd_T58 l0 x3_1).f0)) = false := decide_eq_false c10
        clear c10
        replace H := Option.bind_eq_some_iff.mp H
        obtain ⟨t104, A130, H⟩ := H
        replace H : (if t104 = true then ((r02_Named.f k1 ((rd_T58 l0 x3_1).f2)).bind fun t105 => (if t105 = true then (if x3_1 > 0 then (if 0 ≤ (wrap64 (x3_1 - 1)) then (if (wrap64 (x3_1 - 1)) < (l0.length : Int) then ((r04_key.f ((rd_T58 l0 (wrap64 (x3_1 - 1))).f0) ((rd_T58 l0 (wrap64 (x3_1 - 1))).f1) ((rd_T58 l0 (wrap64 (x3_1 - 1))).f2)).bind fun t107 => ((r04_key.f ((rd_T58 l0 x3_1).f0) ((rd_T58 l0 x3_1).f1) ((rd_T58 l0 x3_1).f2)).bind fun t108 => (r04_RightTree.j1 k1 l0 x3_1 (!(Op.bytesLess t107.toList t108.toList)) ((rd_T58 l0 x3_1).f0) ((rd_T58 l0 x3_1).f1) ((rd_T58 l0 x3_1).f2)))) else (none)) else (none)) else (r04_RightTree.j1 k1 l0 x3_1 false ((rd_T58 l0 x3_1).f0) ((rd_T58 l0 x3_1).f1) ((rd_T58 l0 x3_1).f2))) else (r04_RightTree.j1 k1 l0 x3_1 true ((rd_T58 l0 x3_1).f0) ((rd_T58 l0 x3_1).f1) ((rd_T58 l0 x3_1).f2)))) else (r04_RightTree.j1 k1 l0 x3_1 true ((rd_T58 l0 x3_1).f0) ((rd_T58 l0 x3_1).f1) ((rd_T58 l0 x3_1).f2))) = some r := H
        have A13 := Aside0.mk A130
        clear A130
        by_cases c14 : t104 = true
        ·
         subst c14
         have H1 : ((r02_Named.f k1 ((rd_T58 l0 x3_1).f2)).bind fun t105 => (if t105 = true then (if x3_1 > 0 then (if 0 ≤ (wrap64 (x3_1 - 1)) then (if (wrap64 (x3_1 - 1)) < (l0.length : Int) then ((r04_key.f ((rd_T58 l0 (wrap64 (x3_1 - 1))).f0) ((rd_T58 l0 (wrap64 (x3_1 - 1))).f1) ((rd_T58 l0 (wrap64 (x3_1 - 1))).f2)).bind fun t107 => ((r04_key.f ((rd_T58 l0 x3_1).f0) ((rd_T58 l0 x3_1).f1) ((rd_T58 l0 x3_1).f2)).bind fun t108 => (r04_RightTree.j1 k1 l0 x3_1 (!(Op.bytesLess t107.toList t108.toList)) ((rd_T58 l0 x3_1).f0) ((rd_T58 l0 x3_1).f1) ((rd_T58 l0 x3_1).f2)))) else (none)) else (none)) else (r04_RightTree.j1 k1 l0 x3_1 false ((rd_T58 l0 x3_1).f0) ((rd_T58 l0 x3_1).f1) ((rd_T58 l0 x3_1).f2))) else (r04_RightTree.j1 k1 l0 x3_1 true ((rd_T58 l0 x3_1).f0) ((rd_T58 l0 x3_1).f1) ((rd_T58 l0 x3_1).f2)))) = some r := by rw [if_pos rfl] at H; exact H
         clear H
         have H := H1
         clear H1
         replace H := Option.bind_eq_some_iff.mp H
         obtain ⟨t105, A150, H⟩ := H
         replace H : (if t105 = true then (if x3_1 > 0 then (if 0 ≤ (wrap64 (x3_1 - 1)) then (if (wrap64 (x3_1 - 1)) < (l0.length : Int) then ((r04_key.f ((rd_T58 l0 (wrap64 (x3_1 - 1))).f0) ((rd_T58 l0 (wrap64 (x3_1 - 1))).f1) ((rd_T58 l0 (wrap64 (x3_1 - 1))).f2)).bind fun t107 => ((r04_key.f ((rd_T58 l0 x3_1).f0) ((rd_T58 l0 x3_1).f1) ((rd_T58 l0 x3_1).f2)).bind fun t108 => (r04_RightTree.j1 k1 l0 x3_1 (!(Op.bytesLess t107.toList t108.toList)) ((rd_T58 l0 x3_1).f0) ((rd_T58 l0 x3_1).f1) ((rd_T58 l0 x3_1).f2)))) else (none)) else (none)) else (r04_RightTree.j1 k1 l0 x3_1 false ((rd_T58 l0 x3_1).f0) ((rd_T58 l0 x3_1).f1) ((rd_T58 l0 x3_1).f2))) else (r04_RightTree.j1 k1 l0 x3_1 true ((rd_T58 l0 x3_1).f0) ((rd_T58 l0 x3_1).f1) ((rd_T58 l0 x3_1).f2))) = some r := H
         have A15 := Aside0.mk A150
         clear A150
         by_cases c16 : t105 = true
         ·
          subst c16
          have H1 : (if x3_1 > 0 then (if 0 ≤ (wrap64 (x3_1 - 1)) then (if (wrap64 (x3_1 - 1)) < (l0.length : Int) then ((r04_key.f ((rd_T58 l0 (wrap64 (x3_1 - 1))).f0) ((rd_T58 l0 (wrap64 (x3_1 - 1))).f1) ((rd_T58 l0 (wrap64 (x3_1 - 1))).f2)).bind fun t107 => ((r04_key.f ((rd_T58 l0 x3_1).f0) ((rd_T58 l0 x3_1).f1) ((rd_T58 l0 x3_1).f2)).bind fun t108 => (r04_RightTree.j1 k1 l0 x3_1 (!(Op.bytesLess t107.toList t108.toList)) ((rd_T58 l0 x3_1).f0) ((rd_T58 l0 x3_1).f1) ((rd_T58 l0 x3_1).f2)))) else (none)) else (none)) else (r04_RightTree.j1 k1 l0 x3_1 false ((rd_T58 l0 x3_1).f0) ((rd_T58 l0 x3_1).f1) ((rd_T58 l0 x3_1).f2))) = some r := by rw [if_pos rfl] at H; exact H
          clear H
          have H := H1
          clear H1
          by_cases c17 : x3_1 > 0
          ·
           rw [if_pos c17] at H
           have c17b0 : decide (0 < x3_1) = true := decide_eq_true c17
           clear c17
           obtain ⟨ji18, hji18⟩ : ∃ j_ : Int, (wrap64 (x3_1 - 1)) = j_ := ⟨_, rfl⟩
           replace H : (if 0 ≤ (ji18) then (if (ji18) < (l0.length : Int) then ((r04_key.f ((rd_T58 l0 (ji18)).f0) ((rd_T58 l0 (ji18)).f1) ((rd_T58 l0 (ji18)).f2)).bind fun t107 => ((r04_key.f ((rd_T58 l0 x3_1).f0) ((rd_T58 l0 x3_1).f1) ((rd_T58 l0 x3_1).f2)).bind fun t108 => (r04_RightTree.j1 k1 l0 x3_1 (!(Op.bytesLess t107.toList t108.toList)) ((rd_T58 l0 x3_1).f0) ((rd_T58 l0 x3_1).f1) ((rd_T58 l0 x3_1).f2)))) else (none)) else (none)) = some r := by first | (rw [hji18] at H; exact H) | (simp only [hji18] at H ⊢; exact H)
           (try rw [hji18] at A13)
           (try rw [hji18] at A15)
           have hji18w : (IntKind.i64.wrap (x3_1 - 1)) = ji18 := (i64_w _).trans hji18
           by_cases c19 : 0 ≤ (ji18)
           ·
            rw [if_pos c19] at H
            have c19b0 : decide (0 ≤ (ji18)) = true := decide_eq_true c19
            clear c19
            by_cases c20 : (ji18) < (l0.length : Int)
            ·
             rw [if_pos c20] at H
             have c20b0 : decide ((ji18) < (l0.length : Int)) = true := decide_eq_true c20
             clear c20
             replace H := Option.bind_eq_some_iff.mp H
             obtain ⟨t107, A210, H⟩ := H
             replace H : ((r04_key.f ((rd_T58 l0 x3_1).f0) ((rd_T58 l0 x3_1).f1) ((rd_T58 l0 x3_1).f2)).bind fun t108 => (r04_RightTree.j1 k1 l0 x3_1 (!(Op.bytesLess t107.toList t108.toList)) ((rd_T58 l0 x3_1).f0) ((rd_T58 l0 x3_1).f1) ((rd_T58 l0 x3_1).f2))) = some r := H
             have A21 := Aside0.mk A210
             clear A210
             replace H := Option.bind_eq_some_iff.mp H
             obtain ⟨t108, A220, H⟩ := H
             replace H : (r04_RightTree.j1 k1 l0 x3_1 (!(Op.bytesLess t107.toList t108.toList)) ((rd_T58 l0 x3_1).f0) ((rd_T58 l0 x3_1).f1) ((rd_T58 l0 x3_1).f2)) = some r := H
             have A22 := Aside0.mk A220
             clear A220
             have H' := Aside0.mk H
             clear H
             try go_wp2
             have n0_ : Aside0 ((((w5.setCell ⟨gb103, 0, none⟩ (.int .i64 ((rd_T58 l0 x3_1).f0))).setCell ⟨gb103, 1, none⟩ (.string ((rd_T58 l0 x3_1).f1))).setCell ⟨gb103, 2, none⟩ (.string ((rd_T58 l0 x3_1).f2))).heap[gb103]? = some (.cells #[.int .i64 ((rd_T58 l0 x3_1).f0), .string ((rd_T58 l0 x3_1).f1), .string ((rd_T58 l0 x3_1).f2)] 58 (0, 0))) := ⟨by (with_reducible repeat (first | refine blk_drewN ?_ _ | refine blk_drew ?_ | refine blk_alloc ?_ _)); refine blk_put (cs := #[.int .i64 ((rd_T58 l0 x3_1).f0), .string ((rd_T58 l0 x3_1).f1), .string (⟨#[]⟩ : ByteArray)]) ?_ 2 _ rfl; (with_reducible repeat (first | refine blk_drewN ?_ _ | refine blk_drew ?_ | refine blk_alloc ?_ _)); refine blk_put (cs := #[.int .i64 ((rd_T58 l0 x3_1).f0), .string (⟨#[]⟩ : ByteArray), .string (⟨#[]⟩ : ByteArray)]) ?_ 1 _ rfl; (with_reducible repeat (first | refine blk_drewN ?_ _ | refine blk_drew ?_ | refine blk_alloc ?_ _)); refine blk_put (cs := #[.int .i64 0, .string (⟨#[]⟩ : ByteArray), .string (⟨#[]⟩ : ByteArray)]) ?_ 0 _ rfl; (with_reducible repeat (first | refine blk_drewN ?_ _ | refine blk_drew ?_ | refine blk_alloc ?_ _)); exact BK103.out⟩
             have n1_ : Aside0 (Below w.heap.size w (((w5.setCell ⟨gb103, 0, none⟩ (.int .i64 ((rd_T58 l0 x3_1).f0))).setCell ⟨gb103, 1, none⟩ (.string ((rd_T58 l0 x3_1).f1))).setCell ⟨gb103, 2, none⟩ (.string ((rd_T58 l0 x3_1).f2)))) := ⟨o2_⟩
             (try clear BK103)
             (try clear HB)
             generalize (((w5.setCell ⟨gb103, 0, none⟩ (.int .i64 ((rd_T58 l0 x3_1).f0))).setCell ⟨gb103, 1, none⟩ (.string ((rd_T58 l0 x3_1).f1))).setCell ⟨gb103, 2, none⟩ (.string ((rd_T58 l0 x3_1).f2))) = w23 at n0_ n1_ ⊢
             have BK103 := n0_
             have HB := n1_
             clear n0_ n1_
             have n0_ := Aside0.mk (blk_drew BK103.out)
             have n1_ := Aside0.mk (below_drew1 HB.out)
             clear BK103
             clear HB
             have BK103 := n0_
             have HB := n1_
             clear n0_ n1_
             have p106 : 0 ≤ ((ji18) : Int) := oda_
             have q106 : (ji18) < (l0.length : Int) := oda_
             obtain ⟨ad106, e106, hx106_0, hx106_1, hx106_2⟩ := at_T58 HR0.out (ji18) p106 q106
             have hw106_2 := hx106_2
             have hw106_1 := hx106_1
             have hw106_0 := hx106_0
             obtain rfl : ad102 = ad106 := (by injection e106)
             replace hx106_0 := (HB.out.cell (World.block_lt_of_cell? w _ hx106_0)).trans hx106_0
             replace hx106_1 := (HB.out.cell (World.block_lt_of_cell? w _ hx106_1)).trans hx106_1
             replace hx106_2 := (HB.out.cell (World.block_lt_of_cell? w _ hx106_2)).trans hx106_2
             replace p106 := eq_true p106
             replace q106 := eq_true q106
             refine start_ (n := 35) (S := fun w' => w'.cell? ⟨gb103, 0, none⟩ = some (.int .i64 ((rd_T58 l0 x3_1).f0)) ∧ w'.cell? ⟨gb103, 1, none⟩ = some (.string ((rd_T58 l0 x3_1).f1)) ∧ w'.cell? ⟨gb103, 2, none⟩ = some (.string ((rd_T58 l0 x3_1).f2)) ∧ w'.cell? (ad102.add (((ji18)).toNat * 3)) = some (.int .i64 ((rd_T58 l0 (ji18)).f0)) ∧ w'.cell? ⟨(ad102.add (((ji18)).toNat * 3)).block, (ad102.add (((ji18)).toNat * 3)).off + 1, none⟩ = some (.string ((rd_T58 l0 (ji18)).f1)) ∧ w'.cell? ⟨(ad102.add (((ji18)).toNat * 3)).block, (ad102.add (((ji18)).toNat * 3)).off + 2, none⟩ = some (.string ((rd_T58 l0 (ji18)).f2))) (ds := []) (bl_ 35 0) (by kernel_rfl) rfl rfl ⟨(blk_cell BK103.out 0).trans rfl, (blk_cell BK103.out 1).trans rfl, (blk_cell BK103.out 2).trans rfl, ((HB.out.cell (World.block_lt_of_cell? w _ hw106_0)).trans hw106_0), ((HB.out.cell (World.block_lt_of_cell? w _ hw106_1)).trans hw106_1), ((HB.out.cell (World.block_lt_of_cell? w _ hw106_2)).trans hw106_2)⟩ (fun hHeld => ?_); refine with_tabW r04_RightTree.tab5 r04_RightTree.bits5 (fun HT_ HW_ => ?_)
             generalize w23.drew = w24 at BK103 HB hx106_0 hx106_1 hx106_2 hHeld ⊢
             refine pv_ 0 16 (bl_ 35 1) ?_
             refine tk_ 1 17 (bl_ 35 3) hHeld (hv := by rintro w' ⟨s0, s1, s2, s3, s4, s5⟩; go_simp; with_reducible rfl) (h := ?_)
             refine pv_ 2 18 (bl_ 35 7) ?_
             refine pv_ 3 19 (bl_ 35 15) ?_
             refine pv_ 4 20 (bl_ 35 31) ?_
             refine tk_ 5 21 (bl_ 35 63) hHeld (hv := by rintro w' ⟨s0, s1, s2, s3, s4, s5⟩; go_simp; with_reducible rfl) (h := ?_)
             refine pv_ 6 22 (bl_ 35 127) ?_
             refine pv_ 7 23 (bl_ 35 255) ?_
             refine pv_ 8 24 (bl_ 35 511) ?_
             refine pv_ 9 25 (bl_ 35 1023) ?_
             refine tk_ 10 26 (bl_ 35 2047) hHeld (hv := by rintro w' ⟨s0, s1, s2, s3, s4, s5⟩; go_simp; with_reducible rfl) (h := ?_)
             refine one_ (i := 11) (N := some 27) (bl_ 35 4095) rfl rfl (one_of HT_.out (by kernel_rfl)) (by decide) (fun K hK => ?_)
             refine goes_ Tryz.func62 (by kernel_rfl) rfl #[.string ((rd_T58 l0 x3_1).f1)] (by rfl) rfl rfl la_ ?_
             with_reducible refine (r04_Part.calls k1 ((rd_T58 l0 x3_1).f1) true _ A13.out).mono ?_
             rintro e w' ⟨rfl, ⟨nd, rfl⟩⟩
             refine ⟨_, rfl, ?_⟩
             refine hK.out _ _ ⟨(blk_cell BK103.out 0).trans rfl, (blk_cell BK103.out 1).trans rfl, (blk_cell BK103.out 2).trans rfl, ((HB.out.cell (World.block_lt_of_cell? w _ hw106_0)).trans hw106_0), ((HB.out.cell (World.block_lt_of_cell? w _ hw106_1)).trans hw106_1), ((HB.out.cell (World.block_lt_of_cell? w _ hw106_2)).trans hw106_2)⟩ (fun hHeld => ?_)
             clear hK K
             refine norm_ (a' := ?_) ?_ ?_
             rotate_left
             ·
              show Act.put _ (some 27) _ = _
              simp only [ps_]
              rfl
             refine pv_ 12 28 (bl_ 35 8191) ?_
             refine pv_ 13 29 (bl_ 35 16383) ?_
             refine pv_ 14 30 (bl_ 35 32767) ?_
             refine pv_ 15 31 (bl_ 35 65535) ?_
             refine tk_ 16 32 (bl_ 35 131071) hHeld (hv := by rintro w' ⟨s0, s1, s2, s3, s4, s5⟩; go_simp; with_reducible rfl) (h := ?_)
             refine one_ (i := 17) (N := some 33) (bl_ 35 262143) rfl rfl (one_of HT_.out (by kernel_rfl)) (by decide) (fun K hK => ?_)
             refine goes_ Tryz.func27 (by kernel_rfl) rfl #[.string ((rd_T58 l0 x3_1).f2)] (by rfl) rfl rfl la_ ?_
             with_reducible refine (r02_Named.calls k1 ((rd_T58 l0 x3_1).f2) true _ A15.out).mono ?_
             rintro e w' ⟨rfl, ⟨nd, rfl⟩⟩
             refine ⟨_, rfl, ?_⟩
             refine hK.out _ _ ⟨(blk_cell BK103.out 0).trans rfl, (blk_cell BK103.out 1).trans rfl, (blk_cell BK103.out 2).trans rfl, ((HB.out.cell (World.block_lt_of_cell? w _ hw106_0)).trans hw106_0), ((HB.out.cell (World.block_lt_of_cell? w _ hw106_1)).trans hw106_1), ((HB.out.cell (World.block_lt_of_cell? w _ hw106_2)).trans hw106_2)⟩ (fun hHeld => ?_)
             clear hK K
             refine norm_ (a' := ?_) ?_ ?_
             rotate_left
             ·
              show Act.put _ (some 33) _ = _
              simp only [ps_]
              rfl
             refine pv_ 18 34 (bl_ 35 524287) ?_
             refine pv_ 19 35 (bl_ 35 1048575) ?_
             refine pv_ 20 36 (bl_ 35 2097151) ?_
             refine pv_ 21 37 (bl_ 35 4194303) ?_
             refine pv_ 22 38 (bl_ 35 8388607) ?_
             refine pv_ 23 39 (bl_ 35 16777215) ?_
             refine pv_ 24 40 (bl_ 35 33554431) ?_
             refine pv_ 25 41 (bl_ 35 67108863) ?_
             refine pv_ 26 42 (bl_ 35 134217727) ?_
             refine pv_ 27 43 (bl_ 35 268435455) ?_
             refine tk_ 28 44 (bl_ 35 536870911) hHeld (hv := by rintro w' ⟨s0, s1, s2, s3, s4, s5⟩; go_simp; with_reducible rfl) (h := ?_)
             refine tk_ 30 46 (bl_ 35 1610612735) hHeld (hv := by rintro w' ⟨s0, s1, s2, s3, s4, s5⟩; go_simp; with_reducible rfl) (h := ?_)
             refine one_ (i := 29) (N := some 45) (bl_ 35 2147483647) rfl rfl (one_of HT_.out (by kernel_rfl)) (by decide) (fun K hK => ?_)
             refine goes_ Tryz.func63 (by kernel_rfl) rfl #[.agg #[.int .i64 ((rd_T58 l0 (ji18)).f0), .string ((rd_T58 l0 (ji18)).f1), .string ((rd_T58 l0 (ji18)).f2)]] (by rfl) rfl rfl (by (try simp only [List.map_toArray, List.map_cons, List.map_nil]); first | done | (simp only [hji18]; rfl) | rfl | (simp only [List.length_drop, List.length_take]; rfl)) ?_
             with_reducible refine (r04_key.calls ((rd_T58 l0 (ji18)).f0) ((rd_T58 l0 (ji18)).f1) ((rd_T58 l0 (ji18)).f2) t107 _ A21.out).mono ?_
             rintro e w25 ⟨rfl, hb⟩
             refine ⟨_, rfl, ?_⟩
             have n0_ := Aside0.mk (blk_below (g := gb103) (o := .cells #[.int .i64 ((rd_T58 l0 x3_1).f0), .string ((rd_T58 l0 x3_1).f1), .string ((rd_T58 l0 x3_1).f2)] 58 (0, 0)) o3_ hb)
             have n1_ := Aside0.mk (below_step o2_ hb)
             clear BK103
             clear HB
             have BK103 := n0_
             have HB := n1_
             clear n0_ n1_
             (try clear hb)
             (try clear hb2)
             (try clear hk)
             (try clear hi)
             refine hK.out _ _ ⟨(blk_cell BK103.out 0).trans rfl, (blk_cell BK103.out 1).trans rfl, (blk_cell BK103.out 2).trans rfl, ((HB.out.cell (World.block_lt_of_cell? w _ hw106_0)).trans hw106_0), ((HB.out.cell (World.block_lt_of_cell? w _ hw106_1)).trans hw106_1), ((HB.out.cell (World.block_lt_of_cell? w _ hw106_2)).trans hw106_2)⟩ (fun hHeld => ?_)
             clear hK K
             refine norm_ (a' := ?_) ?_ ?_
             rotate_left
             ·
              show Act.put _ (some 45) _ = _
              simp only [ps_]
              rfl
             refine one_ (i := 31) (N := some 47) (bl_ 35 4294967295) rfl rfl (one_of HT_.out (by kernel_rfl)) (by decide) (fun K hK => ?_)
             refine goes_ Tryz.func63 (by kernel_rfl) rfl #[.agg #[.int .i64 ((rd_T58 l0 x3_1).f0), .string ((rd_T58 l0 x3_1).f1), .string ((rd_T58 l0 x3_1).f2)]] (by rfl) rfl rfl la_ ?_
             with_reducible refine (r04_key.calls ((rd_T58 l0 x3_1).f0) ((rd_T58 l0 x3_1).f1) ((rd_T58 l0 x3_1).f2) t108 _ A22.out).mono ?_
             rintro e w26 ⟨rfl, hb⟩
             refine ⟨_, rfl, ?_⟩
             have n0_ := Aside0.mk (blk_below (g := gb103) (o := .cells #[.int .i64 ((rd_T58 l0 x3_1).f0), .string ((rd_T58 l0 x3_1).f1), .string ((rd_T58 l0 x3_1).f2)] 58 (0, 0)) o3_ hb)
             have n1_ := Aside0.mk (below_step o2_ hb)
             clear BK103
             clear HB
             have BK103 := n0_
             have HB := n1_
             clear n0_ n1_
             (try clear hb)
             (try clear hb2)
             (try clear hk)
             (try clear hi)
             refine hK.out _ _ ⟨(blk_cell BK103.out 0).trans rfl, (blk_cell BK103.out 1).trans rfl, (blk_cell BK103.out 2).trans rfl, ((HB.out.cell (World.block_lt_of_cell? w _ hw106_0)).trans hw106_0), ((HB.out.cell (World.block_lt_of_cell? w _ hw106_1)).trans hw106_1), ((HB.out.cell (World.block_lt_of_cell? w _ hw106_2)).trans hw106_2)⟩ (fun hHeld => ?_)
             clear hK K
             refine norm_ (a' := ?_) ?_ ?_
             rotate_left
             ·
              show Act.put _ (some 47) _ = _
              simp only [ps_]
              rfl
             refine pv_ 32 48 (bl_ 35 8589934591) ?_
             refine pv_ 33 49 (bl_ 35 17179869183) ?_
             refine pv_ 34 50 (bl_ 35 34359738367) ?_
             refine done_ (done_of HT_.out (by kernel_rfl)) ?_
             try go_wp2
             go_meet
             case rel => exact ⟨_, (!(Op.bytesLess t107.toList t108.toList)), sd_, H', ⟨by have := HK1.out; first | omega | exact Nat.le_refl _⟩, ⟨o3_⟩, ⟨o2_⟩⟩
            ·
             rw [if_neg c20] at H
             exact absurd H (by simp)
           ·
            rw [if_neg c19] at H
            exact absurd H (by simp)
          ·
           rw [if_neg c17] at H
           have c17b0 : decide (0 < x3_1) = false := decide_eq_false c17
           clear c17
           have H' := Aside0.mk H
           clear H
           try go_wp2
           have n0_ : Aside0 ((((w5.setCell ⟨gb103, 0, none⟩ (.int .i64 ((rd_T58 l0 x3_1).f0))).setCell ⟨gb103, 1, none⟩ (.string ((rd_T58 l0 x3_1).f1))).setCell ⟨gb103, 2, none⟩ (.string ((rd_T58 l0 x3_1).f2))).heap[gb103]? = some (.cells #[.int .i64 ((rd_T58 l0 x3_1).f0), .string ((rd_T58 l0 x3_1).f1), .string ((rd_T58 l0 x3_1).f2)] 58 (0, 0))) := ⟨by (with_reducible repeat (first | refine blk_drewN ?_ _ | refine blk_drew ?_ | refine blk_alloc ?_ _)); refine blk_put (cs := #[.int .i64 ((rd_T58 l0 x3_1).f0), .string ((rd_T58 l0 x3_1).f1), .string (⟨#[]⟩ : ByteArray)]) ?_ 2 _ rfl; (with_reducible repeat (first | refine blk_drewN ?_ _ | refine blk_drew ?_ | refine blk_alloc ?_ _)); refine blk_put (cs := #[.int .i64 ((rd_T58 l0 x3_1).f0), .string (⟨#[]⟩ : ByteArray), .string (⟨#[]⟩ : ByteArray)]) ?_ 1 _ rfl; (with_reducible repeat (first | refine blk_drewN ?_ _ | refine blk_drew ?_ | refine blk_alloc ?_ _)); refine blk_put (cs := #[.int .i64 0, .string (⟨#[]⟩ : ByteArray), .string (⟨#[]⟩ : ByteArray)]) ?_ 0 _ rfl; (with_reducible repeat (first | refine blk_drewN ?_ _ | refine blk_drew ?_ | refine blk_alloc ?_ _)); exact BK103.out⟩
           have n1_ : Aside0 (Below w.heap.size w (((w5.setCell ⟨gb103, 0, none⟩ (.int .i64 ((rd_T58 l0 x3_1).f0))).setCell ⟨gb103, 1, none⟩ (.string ((rd_T58 l0 x3_1).f1))).setCell ⟨gb103, 2, none⟩ (.string ((rd_T58 l0 x3_1).f2)))) := ⟨o2_⟩
           (try clear BK103)
           (try clear HB)
           generalize (((w5.setCell ⟨gb103, 0, none⟩ (.int .i64 ((rd_T58 l0 x3_1).f0))).setCell ⟨gb103, 1, none⟩ (.string ((rd_T58 l0 x3_1).f1))).setCell ⟨gb103, 2, none⟩ (.string ((rd_T58 l0 x3_1).f2))) = w27 at n0_ n1_ ⊢
           have BK103 := n0_
           have HB := n1_
           clear n0_ n1_
           have n0_ := Aside0.mk (blk_drew BK103.out)
           have n1_ := Aside0.mk (below_drew1 HB.out)
           clear BK103
           clear HB
           have BK103 := n0_
           have HB := n1_
           clear n0_ n1_
           refine start_ (n := 35) (S := fun w' => w'.cell? ⟨gb103, 0, none⟩ = some (.int .i64 ((rd_T58 l0 x3_1).f0)) ∧ w'.cell? ⟨gb103, 1, none⟩ = some (.string ((rd_T58 l0 x3_1).f1)) ∧ w'.cell? ⟨gb103, 2, none⟩ = some (.string ((rd_T58 l0 x3_1).f2))) (ds := []) (bl_ 35 0) (by kernel_rfl) rfl rfl ⟨(blk_cell BK103.out 0).trans rfl, (blk_cell BK103.out 1).trans rfl, (blk_cell BK103.out 2).trans rfl⟩ (fun hHeld => ?_); refine with_tabW r04_RightTree.tab5 r04_RightTree.bits5 (fun HT_ HW_ => ?_)
           generalize w27.drew = w28 at BK103 HB hHeld ⊢
           refine pv_ 0 16 (bl_ 35 1) ?_
           refine tk_ 1 17 (bl_ 35 3) hHeld (hv := by rintro w' ⟨s0, s1, s2⟩; go_simp; with_reducible rfl) (h := ?_)
           refine pv_ 2 18 (bl_ 35 7) ?_
           refine pv_ 3 19 (bl_ 35 15) ?_
           refine pv_ 4 20 (bl_ 35 31) ?_
           refine tk_ 5 21 (bl_ 35 63) hHeld (hv := by rintro w' ⟨s0, s1, s2⟩; go_simp; with_reducible rfl) (h := ?_)
           refine pv_ 6 22 (bl_ 35 127) ?_
           refine pv_ 7 23 (bl_ 35 255) ?_
           refine pv_ 8 24 (bl_ 35 511) ?_
           refine pv_ 9 25 (bl_ 35 1023) ?_
           refine tk_ 10 26 (bl_ 35 2047) hHeld (hv := by rintro w' ⟨s0, s1, s2⟩; go_simp; with_reducible rfl) (h := ?_)
           refine one_ (i := 11) (N := some 27) (bl_ 35 4095) rfl rfl (one_of HT_.out (by kernel_rfl)) (by decide) (fun K hK => ?_)
           refine goes_ Tryz.func62 (by kernel_rfl) rfl #[.string ((rd_T58 l0 x3_1).f1)] (by rfl) rfl rfl la_ ?_
           with_reducible refine (r04_Part.calls k1 ((rd_T58 l0 x3_1).f1) true _ A13.out).mono ?_
           rintro e w' ⟨rfl, ⟨nd, rfl⟩⟩
           refine ⟨_, rfl, ?_⟩
           refine hK.out _ _ ⟨(blk_cell BK103.out 0).trans rfl, (blk_cell BK103.out 1).trans rfl, (blk_cell BK103.out 2).trans rfl⟩ (fun hHeld => ?_)
           clear hK K
           refine norm_ (a' := ?_) ?_ ?_
           rotate_left
           ·
            show Act.put _ (some 27) _ = _
            simp only [ps_]
            rfl
           refine pv_ 12 28 (bl_ 35 8191) ?_
           refine pv_ 13 29 (bl_ 35 16383) ?_
           refine pv_ 14 30 (bl_ 35 32767) ?_
           refine pv_ 15 31 (bl_ 35 65535) ?_
           refine tk_ 16 32 (bl_ 35 131071) hHeld (hv := by rintro w' ⟨s0, s1, s2⟩; go_simp; with_reducible rfl) (h := ?_)
           refine one_ (i := 17) (N := some 33) (bl_ 35 262143) rfl rfl (one_of HT_.out (by kernel_rfl)) (by decide) (fun K hK => ?_)
           refine goes_ Tryz.func27 (by kernel_rfl) rfl #[.string ((rd_T58 l0 x3_1).f2)] (by rfl) rfl rfl la_ ?_
           with_reducible refine (r02_Named.calls k1 ((rd_T58 l0 x3_1).f2) true _ A15.out).mono ?_
           rintro e w' ⟨rfl, ⟨nd, rfl⟩⟩
           refine ⟨_, rfl, ?_⟩
           refine hK.out _ _ ⟨(blk_cell BK103.out 0).trans rfl, (blk_cell BK103.out 1).trans rfl, (blk_cell BK103.out 2).trans rfl⟩ (fun hHeld => ?_)
           clear hK K
           refine norm_ (a' := ?_) ?_ ?_
           rotate_left
           ·
            show Act.put _ (some 33) _ = _
            simp only [ps_]
            rfl
           refine pv_ 18 34 (bl_ 35 524287) ?_
           refine pv_ 19 35 (bl_ 35 1048575) ?_
           refine pv_ 20 36 (bl_ 35 2097151) ?_
           refine pv_ 21 37 (bl_ 35 4194303) ?_
           refine pv_ 22 38 (bl_ 35 8388607) ?_
           refine pv_ 23 39 (bl_ 35 16777215) ?_
           refine pu_ 24 40 (bl_ 35 33554431) ?_
           refine pu_ 25 41 (bl_ 35 67108863) ?_
           refine pu_ 26 42 (bl_ 35 134217727) ?_
           refine pu_ 27 43 (bl_ 35 268435455) ?_
           refine pu_ 28 44 (bl_ 35 536870911) ?_
           refine pu_ 29 45 (bl_ 35 1073741823) ?_
           refine pu_ 30 46 (bl_ 35 2147483647) ?_
           refine pu_ 31 47 (bl_ 35 4294967295) ?_
           refine pu_ 32 48 (bl_ 35 8589934591) ?_
           refine pv_ 33 49 (bl_ 35 17179869183) ?_
           refine pv_ 34 50 (bl_ 35 34359738367) ?_
           refine done_ (done_of HT_.out (by kernel_rfl)) ?_
           try go_wp2
           go_meet
           case rel => exact ⟨_, (false), sd_, H', ⟨by have := HK1.out; first | omega | exact Nat.le_refl _⟩, ⟨o3_⟩, ⟨o2_⟩⟩
         ·
          replace c16 := Bool.eq_false_iff.mpr c16
          subst c16
          have H1 : (r04_RightTree.j1 k1 l0 x3_1 true ((rd_T58 l0 x3_1).f0) ((rd_T58 l0 x3_1).f1) ((rd_T58 l0 x3_1).f2)) = some r := by rw [if_neg (show ¬ (false = true) by decide)] at H; exact H
          clear H
          have H := H1
          clear H1
          have H' := Aside0.mk H
          clear H
          try go_wp2
          have n0_ : Aside0 ((((w5.setCell ⟨gb103, 0, none⟩ (.int .i64 ((rd_T58 l0 x3_1).f0))).setCell ⟨gb103, 1, none⟩ (.string ((rd_T58 l0 x3_1).f1))).setCell ⟨gb103, 2, none⟩ (.string ((rd_T58 l0 x3_1).f2))).heap[gb103]? = some (.cells #[.int .i64 ((rd_T58 l0 x3_1).f0), .string ((rd_T58 l0 x3_1).f1), .string ((rd_T58 l0 x3_1).f2)] 58 (0, 0))) := ⟨by (with_reducible repeat (first | refine blk_drewN ?_ _ | refine blk_drew ?_ | refine blk_alloc ?_ _)); refine blk_put (cs := #[.int .i64 ((rd_T58 l0 x3_1).f0), .string ((rd_T58 l0 x3_1).f1), .string (⟨#[]⟩ : ByteArray)]) ?_ 2 _ rfl; (with_reducible repeat (first | refine blk_drewN ?_ _ | refine blk_drew ?_ | refine blk_alloc ?_ _)); refine blk_put (cs := #[.int .i64 ((rd_T58 l0 x3_1).f0), .string (⟨#[]⟩ : ByteArray), .string (⟨#[]⟩ : ByteArray)]) ?_ 1 _ rfl; (with_reducible repeat (first | refine blk_drewN ?_ _ | refine blk_drew ?_ | refine blk_alloc ?_ _)); refine blk_put (cs := #[.int .i64 0, .string (⟨#[]⟩ : ByteArray), .string (⟨#[]⟩ : ByteArray)]) ?_ 0 _ rfl; (with_reducible repeat (first | refine blk_drewN ?_ _ | refine blk_drew ?_ | refine blk_alloc ?_ _)); exact BK103.out⟩
          have n1_ : Aside0 (Below w.heap.size w (((w5.setCell ⟨gb103, 0, none⟩ (.int .i64 ((rd_T58 l0 x3_1).f0))).setCell ⟨gb103, 1, none⟩ (.string ((rd_T58 l0 x3_1).f1))).setCell ⟨gb103, 2, none⟩ (.string ((rd_T58 l0 x3_1).f2)))) := ⟨o2_⟩
          (try clear BK103)
          (try clear HB)
          generalize (((w5.setCell ⟨gb103, 0, none⟩ (.int .i64 ((rd_T58 l0 x3_1).f0))).setCell ⟨gb103, 1, none⟩ (.string ((rd_T58 l0 x3_1).f1))).setCell ⟨gb103, 2, none⟩ (.string ((rd_T58 l0 x3_1).f2))) = w29 at n0_ n1_ ⊢
          have BK103 := n0_
          have HB := n1_
          clear n0_ n1_
          have n0_ := Aside0.mk (blk_drew BK103.out)
          have n1_ := Aside0.mk (below_drew1 HB.out)
          clear BK103
          clear HB
          have BK103 := n0_
          have HB := n1_
          clear n0_ n1_
          refine start_ (n := 35) (S := fun w' => w'.cell? ⟨gb103, 0, none⟩ = some (.int .i64 ((rd_T58 l0 x3_1).f0)) ∧ w'.cell? ⟨gb103, 1, none⟩ = some (.string ((rd_T58 l0 x3_1).f1)) ∧ w'.cell? ⟨gb103, 2, none⟩ = some (.string ((rd_T58 l0 x3_1).f2))) (ds := []) (bl_ 35 0) (by kernel_rfl) rfl rfl ⟨(blk_cell BK103.out 0).trans rfl, (blk_cell BK103.out 1).trans rfl, (blk_cell BK103.out 2).trans rfl⟩ (fun hHeld => ?_); refine with_tabW r04_RightTree.tab5 r04_RightTree.bits5 (fun HT_ HW_ => ?_)
          generalize w29.drew = w30 at BK103 HB hHeld ⊢
          refine pv_ 0 16 (bl_ 35 1) ?_
          refine tk_ 1 17 (bl_ 35 3) hHeld (hv := by rintro w' ⟨s0, s1, s2⟩; go_simp; with_reducible rfl) (h := ?_)
          refine pv_ 2 18 (bl_ 35 7) ?_
          refine pv_ 3 19 (bl_ 35 15) ?_
          refine pv_ 4 20 (bl_ 35 31) ?_
          refine tk_ 5 21 (bl_ 35 63) hHeld (hv := by rintro w' ⟨s0, s1, s2⟩; go_simp; with_reducible rfl) (h := ?_)
          refine pv_ 6 22 (bl_ 35 127) ?_
          refine pv_ 7 23 (bl_ 35 255) ?_
          refine pv_ 8 24 (bl_ 35 511) ?_
          refine pv_ 9 25 (bl_ 35 1023) ?_
          refine tk_ 10 26 (bl_ 35 2047) hHeld (hv := by rintro w' ⟨s0, s1, s2⟩; go_simp; with_reducible rfl) (h := ?_)
          refine one_ (i := 11) (N := some 27) (bl_ 35 4095) rfl rfl (one_of HT_.out (by kernel_rfl)) (by decide) (fun K hK => ?_)
          refine goes_ Tryz.func62 (by kernel_rfl) rfl #[.string ((rd_T58 l0 x3_1).f1)] (by rfl) rfl rfl la_ ?_
          with_reducible refine (r04_Part.calls k1 ((rd_T58 l0 x3_1).f1) true _ A13.out).mono ?_
          rintro e w' ⟨rfl, ⟨nd, rfl⟩⟩
          refine ⟨_, rfl, ?_⟩
          refine hK.out _ _ ⟨(blk_cell BK103.out 0).trans rfl, (blk_cell BK103.out 1).trans rfl, (blk_cell BK103.out 2).trans rfl⟩ (fun hHeld => ?_)
          clear hK K
          refine norm_ (a' := ?_) ?_ ?_
          rotate_left
          ·
           show Act.put _ (some 27) _ = _
           simp only [ps_]
           rfl
          refine pv_ 12 28 (bl_ 35 8191) ?_
          refine pv_ 13 29 (bl_ 35 16383) ?_
          refine pv_ 14 30 (bl_ 35 32767) ?_
          refine pv_ 15 31 (bl_ 35 65535) ?_
          refine tk_ 16 32 (bl_ 35 131071) hHeld (hv := by rintro w' ⟨s0, s1, s2⟩; go_simp; with_reducible rfl) (h := ?_)
          refine one_ (i := 17) (N := some 33) (bl_ 35 262143) rfl rfl (one_of HT_.out (by kernel_rfl)) (by decide) (fun K hK => ?_)
          refine goes_ Tryz.func27 (by kernel_rfl) rfl #[.string ((rd_T58 l0 x3_1).f2)] (by rfl) rfl rfl la_ ?_
          with_reducible refine (r02_Named.calls k1 ((rd_T58 l0 x3_1).f2) false _ A15.out).mono ?_
          rintro e w' ⟨rfl, ⟨nd, rfl⟩⟩
          refine ⟨_, rfl, ?_⟩
          refine hK.out _ _ ⟨(blk_cell BK103.out 0).trans rfl, (blk_cell BK103.out 1).trans rfl, (blk_cell BK103.out 2).trans rfl⟩ (fun hHeld => ?_)
          clear hK K
          refine norm_ (a' := ?_) ?_ ?_
          rotate_left
          ·
           show Act.put _ (some 33) _ = _
           simp only [ps_]
           rfl
          refine pv_ 18 34 (bl_ 35 524287) ?_
          refine pv_ 19 35 (bl_ 35 1048575) ?_
          refine pv_ 20 36 (bl_ 35 2097151) ?_
          refine pu_ 21 37 (bl_ 35 4194303) ?_
          refine pu_ 22 38 (bl_ 35 8388607) ?_
          refine pu_ 23 39 (bl_ 35 16777215) ?_
          refine pu_ 24 40 (bl_ 35 33554431) ?_
          refine pu_ 25 41 (bl_ 35 67108863) ?_
          refine pu_ 26 42 (bl_ 35 134217727) ?_
          refine pu_ 27 43 (bl_ 35 268435455) ?_
          refine pu_ 28 44 (bl_ 35 536870911) ?_
          refine pu_ 29 45 (bl_ 35 1073741823) ?_
          refine pu_ 30 46 (bl_ 35 2147483647) ?_
          refine pu_ 31 47 (bl_ 35 4294967295) ?_
          refine pu_ 32 48 (bl_ 35 8589934591) ?_
          refine pu_ 33 49 (bl_ 35 17179869183) ?_
          refine pv_ 34 50 (bl_ 35 34359738367) ?_
          refine done_ (done_of HT_.out (by kernel_rfl)) ?_
          try go_wp2
          go_meet
          case rel => exact ⟨_, (true), sd_, H', ⟨by have := HK1.out; first | omega | exact Nat.le_refl _⟩, ⟨o3_⟩, ⟨o2_⟩⟩
        ·
         replace c14 := Bool.eq_false_iff.mpr c14
         subst c14
         have H1 : (r04_RightTree.j1 k1 l0 x3_1 true ((rd_T58 l0 x3_1).f0) ((rd_T58 l0 x3_1).f1) ((rd_T58 l0 x3_1).f2)) = some r := by rw [if_neg (show ¬ (false = true) by decide)] at H; exact H
         clear H
         have H := H1
         clear H1
         have H' := Aside0.mk H
         clear H
         try go_wp2
         have n0_ : Aside0 ((((w5.setCell ⟨gb103, 0, none⟩ (.int .i64 ((rd_T58 l0 x3_1).f0))).setCell ⟨gb103, 1, none⟩ (.string ((rd_T58 l0 x3_1).f1))).setCell ⟨gb103, 2, none⟩ (.string ((rd_T58 l0 x3_1).f2))).heap[gb103]? = some (.cells #[.int .i64 ((rd_T58 l0 x3_1).f0), .string ((rd_T58 l0 x3_1).f1), .string ((rd_T58 l0 x3_1).f2)] 58 (0, 0))) := ⟨by (with_reducible repeat (first | refine blk_drewN ?_ _ | refine blk_drew ?_ | refine blk_alloc ?_ _)); refine blk_put (cs := #[.int .i64 ((rd_T58 l0 x3_1).f0), .string ((rd_T58 l0 x3_1).f1), .string (⟨#[]⟩ : ByteArray)]) ?_ 2 _ rfl; (with_reducible repeat (first | refine blk_drewN ?_ _ | refine blk_drew ?_ | refine blk_alloc ?_ _)); refine blk_put (cs := #[.int .i64 ((rd_T58 l0 x3_1).f0), .string (⟨#[]⟩ : ByteArray), .string (⟨#[]⟩ : ByteArray)]) ?_ 1 _ rfl; (with_reducible repeat (first | refine blk_drewN ?_ _ | refine blk_drew ?_ | refine blk_alloc ?_ _)); refine blk_put (cs := #[.int .i64 0, .string (⟨#[]⟩ : ByteArray), .string (⟨#[]⟩ : ByteArray)]) ?_ 0 _ rfl; (with_reducible repeat (first | refine blk_drewN ?_ _ | refine blk_drew ?_ | refine blk_alloc ?_ _)); exact BK103.out⟩
         have n1_ : Aside0 (Below w.heap.size w (((w5.setCell ⟨gb103, 0, none⟩ (.int .i64 ((rd_T58 l0 x3_1).f0))).setCell ⟨gb103, 1, none⟩ (.string ((rd_T58 l0 x3_1).f1))).setCell ⟨gb103, 2, none⟩ (.string ((rd_T58 l0 x3_1).f2)))) := ⟨o2_⟩
         (try clear BK103)
         (try clear HB)
         generalize (((w5.setCell ⟨gb103, 0, none⟩ (.int .i64 ((rd_T58 l0 x3_1).f0))).setCell ⟨gb103, 1, none⟩ (.string ((rd_T58 l0 x3_1).f1))).setCell ⟨gb103, 2, none⟩ (.string ((rd_T58 l0 x3_1).f2))) = w31 at n0_ n1_ ⊢
         have BK103 := n0_
         have HB := n1_
         clear n0_ n1_
         have n0_ := Aside0.mk (blk_drew BK103.out)
         have n1_ := Aside0.mk (below_drew1 HB.out)
         clear BK103
         clear HB
         have BK103 := n0_
         have HB := n1_
         clear n0_ n1_
         refine start_ (n := 35) (S := fun w' => w'.cell? ⟨gb103, 0, none⟩ = some (.int .i64 ((rd_T58 l0 x3_1).f0)) ∧ w'.cell? ⟨gb103, 1, none⟩ = some (.string ((rd_T58 l0 x3_1).f1)) ∧ w'.cell? ⟨gb103, 2, none⟩ = some (.string ((rd_T58 l0 x3_1).f2))) (ds := []) (bl_ 35 0) (by kernel_rfl) rfl rfl ⟨(blk_cell BK103.out 0).trans rfl, (blk_cell BK103.out 1).trans rfl, (blk_cell BK103.out 2).trans rfl⟩ (fun hHeld => ?_); refine with_tabW r04_RightTree.tab5 r04_RightTree.bits5 (fun HT_ HW_ => ?_)
         generalize w31.drew = w32 at BK103 HB hHeld ⊢
         refine pv_ 0 16 (bl_ 35 1) ?_
         refine tk_ 1 17 (bl_ 35 3) hHeld (hv := by rintro w' ⟨s0, s1, s2⟩; go_simp; with_reducible rfl) (h := ?_)
         refine pv_ 2 18 (bl_ 35 7) ?_
         refine pv_ 3 19 (bl_ 35 15) ?_
         refine pv_ 4 20 (bl_ 35 31) ?_
         refine tk_ 5 21 (bl_ 35 63) hHeld (hv := by rintro w' ⟨s0, s1, s2⟩; go_simp; with_reducible rfl) (h := ?_)
         refine pv_ 6 22 (bl_ 35 127) ?_
         refine pv_ 7 23 (bl_ 35 255) ?_
         refine pv_ 8 24 (bl_ 35 511) ?_
         refine pv_ 9 25 (bl_ 35 1023) ?_
         refine tk_ 10 26 (bl_ 35 2047) hHeld (hv := by rintro w' ⟨s0, s1, s2⟩; go_simp; with_reducible rfl) (h := ?_)
         refine one_ (i := 11) (N := some 27) (bl_ 35 4095) rfl rfl (one_of HT_.out (by kernel_rfl)) (by decide) (fun K hK => ?_)
         refine goes_ Tryz.func62 (by kernel_rfl) rfl #[.string ((rd_T58 l0 x3_1).f1)] (by rfl) rfl rfl la_ ?_
         with_reducible refine (r04_Part.calls k1 ((rd_T58 l0 x3_1).f1) false _ A13.out).mono ?_
         rintro e w' ⟨rfl, ⟨nd, rfl⟩⟩
         refine ⟨_, rfl, ?_⟩
         refine hK.out _ _ ⟨(blk_cell BK103.out 0).trans rfl, (blk_cell BK103.out 1).trans rfl, (blk_cell BK103.out 2).trans rfl⟩ (fun hHeld => ?_)
         clear hK K
         refine norm_ (a' := ?_) ?_ ?_
         rotate_left
         ·
          show Act.put _ (some 27) _ = _
          simp only [ps_]
          rfl
         refine pv_ 12 28 (bl_ 35 8191) ?_
         refine pv_ 13 29 (bl_ 35 16383) ?_
         refine pv_ 14 30 (bl_ 35 32767) ?_
         refine pu_ 15 31 (bl_ 35 65535) ?_
         refine pu_ 16 32 (bl_ 35 131071) ?_
         refine pu_ 17 33 (bl_ 35 262143) ?_
         refine pu_ 18 34 (bl_ 35 524287) ?_
         refine pv_ 19 35 (bl_ 35 1048575) ?_
         refine pv_ 20 36 (bl_ 35 2097151) ?_
         refine pu_ 21 37 (bl_ 35 4194303) ?_
         refine pu_ 22 38 (bl_ 35 8388607) ?_
         refine pu_ 23 39 (bl_ 35 16777215) ?_
         refine pu_ 24 40 (bl_ 35 33554431) ?_
         refine pu_ 25 41 (bl_ 35 67108863) ?_
         refine pu_ 26 42 (bl_ 35 134217727) ?_
         refine pu_ 27 43 (bl_ 35 268435455) ?_
         refine pu_ 28 44 (bl_ 35 536870911) ?_
         refine pu_ 29 45 (bl_ 35 1073741823) ?_
         refine pu_ 30 46 (bl_ 35 2147483647) ?_
         refine pu_ 31 47 (bl_ 35 4294967295) ?_
         refine pu_ 32 48 (bl_ 35 8589934591) ?_
         refine pu_ 33 49 (bl_ 35 17179869183) ?_
         refine pv_ 34 50 (bl_ 35 34359738367) ?_
         refine done_ (done_of HT_.out (by kernel_rfl)) ?_
         try go_wp2
         go_meet
         case rel => exact ⟨_, (true), sd_, H', ⟨by have := HK1.out; first | omega | exact Nat.le_refl _⟩, ⟨o3_⟩, ⟨o2_⟩⟩
     case rest =>
      clear HC4
      try clear c1
      try clear c2
      try clear p2
      try clear c6
      try clear c14
      try clear c16
      try clear c27
      obtain ⟨kq, x50_3, rfl, HA, HJ3, BK103, HB⟩ := hcut
      cases kq with
      | zero => exact absurd HA.out (by simp [r04_RightTree.j1])
      | succ kj3 =>
       have H := HA.out
       clear HA
       simp only [r04_RightTree.j1] at H
       by_cases c33 : x50_3 = true
       ·
        subst c33
        have H1 : (some false) = some r := by rw [if_pos rfl] at H; exact H
        clear H
        have H := H1
        clear H1
        obtain rfl := Option.some.inj H
        go_wp2
        go_ret
        exact ⟨er_, o2_⟩
       ·
        replace c33 := Bool.eq_false_iff.mpr c33
        subst c33
        have H1 : (r04_RightTree.l1 kj3 l0 x3_1 0 ((rd_T58 l0 x3_1).f0) ((rd_T58 l0 x3_1).f1) ((rd_T58 l0 x3_1).f2)) = some r := by rw [if_neg (show ¬ (false = true) by decide)] at H; exact H
        clear H
        have H := H1
        clear H1
        have H' := Aside0.mk H
        clear H
        go_wp2
        go_loopg [5] kj3 (fun kq v5 w' => ∃ (x5_3 : Int), v5 = .int .i64 x5_3 ∧ Aside0 (r04_RightTree.l1 kq l0 x3_1 x5_3 ((rd_T58 l0 x3_1).f0) ((rd_T58 l0 x3_1).f1) ((rd_T58 l0 x3_1).f2) = some r) ∧ Aside0 (kq ≤ kj3) ∧ Aside0 (w'.heap[gb103]? = some (.cells #[.int .i64 ((rd_T58 l0 x3_1).f0), .string ((rd_T58 l0 x3_1).f1), .string ((rd_T58 l0 x3_1).f2)] 58 (0, 0))) ∧ Aside0 (Below w.heap.size w w'))
        case atStart => exact ⟨(0), sd_, H', ⟨Nat.le_refl _⟩, ⟨o3_⟩, ⟨o2_⟩⟩
        case round =>
         clear H'
         try clear c1
         try clear c2
         try clear p2
         try clear c3
         try clear c6
         try clear c14
         try clear c16
         try clear c27
         try clear c33
         try clear p2
         obtain ⟨x5_3, rfl, HA, HK3, BK103, HB⟩ := hrel
         cases gk with
         | zero => exact absurd HA.out (by simp [r04_RightTree.l1])
         | succ k3 =>
          have H := HA.out
          clear HA
          simp only [r04_RightTree.l1] at H
          by_cases c34 : x5_3 < x3_1
          ·
           rw [if_pos c34] at H
           have c34b0 : decide (x5_3 < x3_1) = true := decide_eq_true c34
           clear c34
           by_cases c35 : 0 ≤ x5_3
           ·
            rw [if_pos c35] at H
            have c35b0 : decide (0 ≤ x5_3) = true := decide_eq_true c35
            clear c35
            by_cases c36 : x5_3 < (l0.length : Int)
            ·
             rw [if_pos c36] at H
             have c36b0 : decide (x5_3 < (l0.length : Int)) = true := decide_eq_true c36
             clear c36
             by_cases c37 : ((rd_T58 l0 x5_3).f1).toList = ((rd_T58 l0 x3_1).f1).toList
             ·
              rw [if_pos c37] at H
              have c37b0 : (((rd_T58 l0 x5_3).f1).toList == ((rd_T58 l0 x3_1).f1).toList) = true := beq_iff_eq.mpr c37
              have c37b1 : (((rd_T58 l0 x5_3).f1).toList != ((rd_T58 l0 x3_1).f1).toList) = false := bne_eq_false_iff_eq.mpr c37
              clear c37
              obtain rfl := Option.some.inj H
              try go_wp2
              have n0_ := Aside0.mk (blk_drew BK103.out)
              have n1_ := Aside0.mk (below_drew1 HB.out)
              clear BK103
              clear HB
              have BK103 := n0_
              have HB := n1_
              clear n0_ n1_
              have p109 : 0 ≤ (x5_3 : Int) := oda_
              have q109 : x5_3 < (l0.length : Int) := oda_
              obtain ⟨ad109, e109, hx109_0, hx109_1, hx109_2⟩ := at_T58 HR0.out x5_3 p109 q109
              have hw109_2 := hx109_2
              have hw109_1 := hx109_1
              have hw109_0 := hx109_0
              obtain rfl : ad102 = ad109 := (by injection e109)
              replace hx109_0 := (HB.out.cell (World.block_lt_of_cell? w _ hx109_0)).trans hx109_0
              replace hx109_1 := (HB.out.cell (World.block_lt_of_cell? w _ hx109_1)).trans hx109_1
              replace hx109_2 := (HB.out.cell (World.block_lt_of_cell? w _ hx109_2)).trans hx109_2
              replace p109 := eq_true p109
              replace q109 := eq_true q109
              refine start_ (n := 8) (S := fun w' => w'.cell? ⟨gb103, 0, none⟩ = some (.int .i64 ((rd_T58 l0 x3_1).f0)) ∧ w'.cell? ⟨gb103, 1, none⟩ = some (.string ((rd_T58 l0 x3_1).f1)) ∧ w'.cell? ⟨gb103, 2, none⟩ = some (.string ((rd_T58 l0 x3_1).f2)) ∧ w'.cell? (ad102.add ((x5_3).toNat * 3)) = some (.int .i64 ((rd_T58 l0 x5_3).f0)) ∧ w'.cell? ⟨(ad102.add ((x5_3).toNat * 3)).block, (ad102.add ((x5_3).toNat * 3)).off + 1, none⟩ = some (.string ((rd_T58 l0 x5_3).f1)) ∧ w'.cell? ⟨(ad102.add ((x5_3).toNat * 3)).block, (ad102.add ((x5_3).toNat * 3)).off + 2, none⟩ = some (.string ((rd_T58 l0 x5_3).f2))) (ds := []) (bl_ 8 0) (by kernel_rfl) rfl rfl ⟨(blk_cell BK103.out 0).trans rfl, (blk_cell BK103.out 1).trans rfl, (blk_cell BK103.out 2).trans rfl, ((HB.out.cell (World.block_lt_of_cell? w _ hw109_0)).trans hw109_0), ((HB.out.cell (World.block_lt_of_cell? w _ hw109_1)).trans hw109_1), ((HB.out.cell (World.block_lt_of_cell? w _ hw109_2)).trans hw109_2)⟩ (fun hHeld => ?_); refine with_tabW r04_RightTree.tab10 r04_RightTree.bits10 (fun HT_ HW_ => ?_)
              generalize wr.drew = w38 at BK103 HB hx109_0 hx109_1 hx109_2 hHeld ⊢
              refine pv_ 0 56 (bl_ 8 1) ?_
              refine pv_ 1 57 (bl_ 8 3) ?_
              refine pv_ 2 58 (bl_ 8 7) ?_
              refine pv_ 3 59 (bl_ 8 15) ?_
              refine pv_ 5 61 (bl_ 8 47) ?_
              refine tk_ 4 60 (bl_ 8 63) hHeld (hv := by rintro w' ⟨s0, s1, s2, s3, s4, s5⟩; go_simp; with_reducible rfl) (h := ?_)
              refine tk_ 6 62 (bl_ 8 127) hHeld (hv := by rintro w' ⟨s0, s1, s2, s3, s4, s5⟩; go_simp; with_reducible rfl) (h := ?_)
              refine pv_ 7 63 (bl_ 8 255) ?_
              refine done_ (done_of HT_.out (by kernel_rfl)) ?_
              try go_wp2
              go_ret
              exact ⟨er_, o2_⟩
             ·
              rw [if_neg c37] at H
              have c37b0 : (((rd_T58 l0 x5_3).f1).toList == ((rd_T58 l0 x3_1).f1).toList) = false := beq_eq_false_iff_ne.mpr c37
              have c37b1 : (((rd_T58 l0 x5_3).f1).toList != ((rd_T58 l0 x3_1).f1).toList) = true := bne_iff_ne.mpr c37
              have H' := Aside0.mk H
              clear H
              try go_wp2
              have n0_ := Aside0.mk (blk_drew BK103.out)
              have n1_ := Aside0.mk (below_drew1 HB.out)
              clear BK103
              clear HB
              have BK103 := n0_
              have HB := n1_
              clear n0_ n1_
              have p109 : 0 ≤ (x5_3 : Int) := oda_
              have q109 : x5_3 < (l0.length : Int) := oda_
              obtain ⟨ad109, e109, hx109_0, hx109_1, hx109_2⟩ := at_T58 HR0.out x5_3 p109 q109
              have hw109_2 := hx109_2
              have hw109_1 := hx109_1
              have hw109_0 := hx109_0
              obtain rfl : ad102 = ad109 := (by injection e109)
              replace hx109_0 := (HB.out.cell (World.block_lt_of_cell? w _ hx109_0)).trans hx109_0
              replace hx109_1 := (HB.out.cell (World.block_lt_of_cell? w _ hx109_1)).trans hx109_1
              replace hx109_2 := (HB.out.cell (World.block_lt_of_cell? w _ hx109_2)).trans hx109_2
              replace p109 := eq_true p109
              replace q109 := eq_true q109
              refine start_ (n := 8) (S := fun w' => w'.cell? ⟨gb103, 0, none⟩ = some (.int .i64 ((rd_T58 l0 x3_1).f0)) ∧ w'.cell? ⟨gb103, 1, none⟩ = some (.string ((rd_T58 l0 x3_1).f1)) ∧ w'.cell? ⟨gb103, 2, none⟩ = some (.string ((rd_T58 l0 x3_1).f2)) ∧ w'.cell? (ad102.add ((x5_3).toNat * 3)) = some (.int .i64 ((rd_T58 l0 x5_3).f0)) ∧ w'.cell? ⟨(ad102.add ((x5_3).toNat * 3)).block, (ad102.add ((x5_3).toNat * 3)).off + 1, none⟩ = some (.string ((rd_T58 l0 x5_3).f1)) ∧ w'.cell? ⟨(ad102.add ((x5_3).toNat * 3)).block, (ad102.add ((x5_3).toNat * 3)).off + 2, none⟩ = some (.string ((rd_T58 l0 x5_3).f2))) (ds := []) (bl_ 8 0) (by kernel_rfl) rfl rfl ⟨(blk_cell BK103.out 0).trans rfl, (blk_cell BK103.out 1).trans rfl, (blk_cell BK103.out 2).trans rfl, ((HB.out.cell (World.block_lt_of_cell? w _ hw109_0)).trans hw109_0), ((HB.out.cell (World.block_lt_of_cell? w _ hw109_1)).trans hw109_1), ((HB.out.cell (World.block_lt_of_cell? w _ hw109_2)).trans hw109_2)⟩ (fun hHeld => ?_); refine with_tabW r04_RightTree.tab10 r04_RightTree.bits10 (fun HT_ HW_ => ?_)
              generalize wr.drew = w39 at BK103 HB hx109_0 hx109_1 hx109_2 hHeld ⊢
              refine pv_ 0 56 (bl_ 8 1) ?_
              refine pv_ 1 57 (bl_ 8 3) ?_
              refine pv_ 2 58 (bl_ 8 7) ?_
              refine pv_ 3 59 (bl_ 8 15) ?_
              refine pv_ 5 61 (bl_ 8 47) ?_
              refine tk_ 4 60 (bl_ 8 63) hHeld (hv := by rintro w' ⟨s0, s1, s2, s3, s4, s5⟩; go_simp; with_reducible rfl) (h := ?_)
              refine tk_ 6 62 (bl_ 8 127) hHeld (hv := by rintro w' ⟨s0, s1, s2, s3, s4, s5⟩; go_simp; with_reducible rfl) (h := ?_)
              refine pv_ 7 63 (bl_ 8 255) ?_
              refine done_ (done_of HT_.out (by kernel_rfl)) ?_
              try go_wp2
              go_roundg k3
              case measure => have := HK1.out; have := HJ3.out; have := HK3.out; omega
              case rel => exact ⟨(wrap64 (x5_3 + 1)), sd_, H', ⟨by have := HK1.out; have := HJ3.out; have := HK3.out; omega⟩, ⟨o3_⟩, ⟨o2_⟩⟩
            ·
             rw [if_neg c36] at H
             exact absurd H (by simp)
           ·
            rw [if_neg c35] at H
            exact absurd H (by simp)
          ·
           rw [if_neg c34] at H
           have c34b0 : decide (x5_3 < x3_1) = false := decide_eq_false c34
           clear c34
           have H' := Aside0.mk H
           clear H
           go_wp2
           go_roundg k3
           case measure => have := HK1.out; have := HJ3.out; have := HK3.out; omega
           case rel => exact ⟨(wrap64 (x3_1 + 1)), sd_, H', ⟨by have := HK1.out; have := HJ3.out; have := HK3.out; omega⟩, ⟨o2_⟩⟩
    ·
     rw [if_neg c3] at H
     exact absurd H (by simp)
   ·
    rw [if_neg c2] at H
    have c2b0 : decide (x3_1 < (l0.length : Int)) = false := decide_eq_false c2
    clear c2
    obtain rfl := Option.some.inj H
    go_wp2
    go_ret
    exact ⟨er_, bw_⟩
end Go.Proofs.YtehmhfbfgniekaaGreatDoor.PObDoc

namespace Go.Proofs.YtehmhfbfgniekaaGreatDoor.PObDoc
open Go.Proofs.YtehmhfbfgniekaaGreatDoor.PObBase
open Go.RowKit Go.Proofs.YtehmhfbfgniekaaGreatDoorW.PrintWords Go.Proofs.YtehmhfbfgniekaaGreatDoorW.PrintLast Go.Proofs.YtehmhfbfgniekaaGreatDoorW.PrintMore
attribute [local go_sem] StrSem.leq_str StrSem.geq_str StrSem.gtr_str max2_int min2_int max_two min_two max_three min_three max_four min_four   -- for this text's walks alone
set_option linter.unusedVariables false
set_option linter.unusedSimpArgs false
noncomputable def r04_Word.f (a0 : Int) : Option (ByteArray) := if a0 = 1 then (some (⟨#[98, 108, 111, 98]⟩ : ByteArray)) else (if a0 = 2 then (some (⟨#[116, 114, 101, 101]⟩ : ByteArray)) else (if a0 = 3 then (some (⟨#[99, 111, 109, 109, 105, 116]⟩ : ByteArray)) else (if a0 = 4 then (some (⟨#[116, 97, 103]⟩ : ByteArray)) else (some (⟨#[]⟩ : ByteArray)))))
set_option maxHeartbeats 8000000 in
set_option maxRecDepth 100000 in
theorem r04_Word.calls (a0 : Int) (r : ByteArray) (w : World) (h : r04_Word.f a0 = some r) :
  Calls Tryz.prog 42 #[.int .i64 a0] w fun e w' => e = .returned (.string r) ∧ Drawn0 w w' := by
 have H : (if a0 = 1 then (some (⟨#[98, 108, 111, 98]⟩ : ByteArray)) else (if a0 = 2 then (some (⟨#[116, 114, 101, 101]⟩ : ByteArray)) else (if a0 = 3 then (some (⟨#[99, 111, 109, 109, 105, 116]⟩ : ByteArray)) else (if a0 = 4 then (some (⟨#[116, 97, 103]⟩ : ByteArray)) else (some (⟨#[]⟩ : ByteArray)))))) = some r := h
 clear h
 by_cases c2 : a0 = 1
 ·
  rw [if_pos c2] at H
  have c2b0 : (a0 == 1) = true := beq_iff_eq.mpr c2
  have c2b1 : (a0 != 1) = false := bne_eq_false_iff_eq.mpr c2
  clear c2
  obtain rfl := Option.some.inj H
  go_enter Tryz.func42, Tryz.ntmps42
  go_wp2
  go_ret
  exact ⟨sd_, dr_⟩
 ·
  rw [if_neg c2] at H
  have c2b0 : (a0 == 1) = false := beq_eq_false_iff_ne.mpr c2
  have c2b1 : (a0 != 1) = true := bne_iff_ne.mpr c2
  by_cases c3 : a0 = 2
  ·
   rw [if_pos c3] at H
   have c3b0 : (a0 == 2) = true := beq_iff_eq.mpr c3
   have c3b1 : (a0 != 2) = false := bne_eq_false_iff_eq.mpr c3
   clear c3
   obtain rfl := Option.some.inj H
   go_enter Tryz.func42, Tryz.ntmps42
   go_wp2
   go_ret
   exact ⟨sd_, dr_⟩
  ·
   rw [if_neg c3] at H
   have c3b0 : (a0 == 2) = false := beq_eq_false_iff_ne.mpr c3
   have c3b1 : (a0 != 2) = true := bne_iff_ne.mpr c3
   by_cases c4 : a0 = 3
   ·
    rw [if_pos c4] at H
    have c4b0 : (a0 == 3) = true := beq_iff_eq.mpr c4
    have c4b1 : (a0 != 3) = false := bne_eq_false_iff_eq.mpr c4
    clear c4
    obtain rfl := Option.some.inj H
    go_enter Tryz.func42, Tryz.ntmps42
    go_wp2
    go_ret
    exact ⟨sd_, dr_⟩
   ·
    rw [if_neg c4] at H
    have c4b0 : (a0 == 3) = false := beq_eq_false_iff_ne.mpr c4
    have c4b1 : (a0 != 3) = true := bne_iff_ne.mpr c4
    by_cases c5 : a0 = 4
    ·
     rw [if_pos c5] at H
     have c5b0 : (a0 == 4) = true := beq_iff_eq.mpr c5
     have c5b1 : (a0 != 4) = false := bne_eq_false_iff_eq.mpr c5
     clear c5
     obtain rfl := Option.some.inj H
     go_enter Tryz.func42, Tryz.ntmps42
     go_wp2
     go_ret
     exact ⟨sd_, dr_⟩
    ·
     rw [if_neg c5] at H
     have c5b0 : (a0 == 4) = false := beq_eq_false_iff_ne.mpr c5
     have c5b1 : (a0 != 4) = true := bne_iff_ne.mpr c5
     obtain rfl := Option.some.inj H
     go_enter Tryz.func42, Tryz.ntmps42
     go_wp2
     go_ret
     exact ⟨sd_, dr_⟩
end Go.Proofs.YtehmhfbfgniekaaGreatDoor.PObDoc
