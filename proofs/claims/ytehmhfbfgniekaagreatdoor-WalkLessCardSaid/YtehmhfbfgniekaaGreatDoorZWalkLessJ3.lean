/- Joined texts: WkS, PWkBx0, PWkBx1, PWkBx2, PWkBx3, WkP. No condition but what stands in each. -/
import Derived.Test.YtehmhfbfgniekaaGreatDoorProg
import Derived.Below
import Derived.Deep.Draws
import Derived.Deep.AppendLies
import Derived.Maps.AppendAt
import Derived.OwnWalk
import Derived.Laws.BytesArg
import Derived.Laws.MakeOwn
import Derived.Laws.OwnMore
import Derived.Deep.OwnRows
import Derived.Tactics
import Derived.Lib.ConvBytes
import Derived.Laws.Slices
import Derived.WalkKit
import Derived.KernelRfl
import Derived.RowKit3
import Derived.Deep.LoopGhost
import Derived.Deep.QuietTactic
import Derived.BigQuiet
import Derived.WideLaws
import Derived.Deep.DeepCutAuto
import Derived.Deep.CutBlock
import Derived.Deep.RegionHeld3
import Derived.Laws.Rows
import Derived.Lib.AppendStr
import Derived.ArgAppend
import Derived.Laws.IdiomCopy
import Derived.OrdersHeld
import Derived.Laws.BitsLemmas
import Derived.RowKit
import Derived.Test.YtehmhfbfgniekaaGreatDoorZWalkLessJ2
import Derived.BigRegion
import Derived.Shelf.Abstract
import Derived.Test.YtehmhfbfgniekaaGreatDoorZWalkLessJ0
import Derived.Test.YtehmhfbfgniekaaGreatDoorZWalkLessJ1
namespace Go.Proofs.YtehmhfbfgniekaaGreatDoor.WkS
open Go
theorem less_or : ∀ (a b : List UInt8), (Op.bytesLess a b || a == b) = !(Op.bytesLess b a)
  | [], [] => by simp [Op.bytesLess]
  | [], y :: s => by simp [Op.bytesLess]
  | x :: r, [] => by simp [Op.bytesLess]
  | x :: r, y :: s => by
    have ih := less_or r s
    rw [Op.bytesLess, Op.bytesLess]
    by_cases h1 : x < y
    · have h2 : ¬ y < x := fun h => UInt8.lt_irrefl _ (UInt8.lt_trans h1 h)
      have h3 : (y == x) = false := by
        rw [beq_eq_false_iff_ne]; rintro rfl; exact h2 h1
      simp [h1, h2, h3]
    · by_cases h2 : y < x
      · have h3 : (x == y) = false := by
          rw [beq_eq_false_iff_ne]; rintro rfl; exact h1 h2
        simp [h1, h2, h3]
      · have he : x = y := UInt8.le_antisymm (UInt8.not_lt.1 h2) (UInt8.not_lt.1 h1)
        subst he
        simp only [h1, decide_false, Bool.false_or, beq_self_eq_true, Bool.true_and]
        rw [← ih]
        simp
theorem leq_str (t : TypeId) (a b : ByteArray) : binOp .leq t (.string a) (.string b) = pure (.bool (!(Op.bytesLess b.toList a.toList))) := by
  simp [binOp, Op.stringOp, less_or a.toList b.toList]
theorem geq_str (t : TypeId) (a b : ByteArray) : binOp .geq t (.string a) (.string b) = pure (.bool (!(Op.bytesLess a.toList b.toList))) := by simp [binOp, Op.stringOp]
theorem gtr_str (t : TypeId) (a b : ByteArray) : binOp .gtr t (.string a) (.string b) = pure (.bool (Op.bytesLess b.toList a.toList)) := by
  simp [binOp, Op.stringOp, less_or a.toList b.toList]
end Go.Proofs.YtehmhfbfgniekaaGreatDoor.WkS

namespace Go.Proofs.YtehmhfbfgniekaaGreatDoor.PWkB
open Go.RowKit Go.Proofs.YtehmhfbfgniekaaGreatDoorW.PrintWords Go.Proofs.YtehmhfbfgniekaaGreatDoorW.PrintLast Go.Proofs.YtehmhfbfgniekaaGreatDoorW.PrintMore
attribute [local go_sem] WkS.leq_str WkS.geq_str WkS.gtr_str max2_int min2_int max_two min_two max_three min_three max_four min_four   -- for this text's walks alone
set_option linter.unusedVariables false
set_option linter.unusedSimpArgs false
def errW : Option Int → Value
 | none => .nilIface
 | some c => .iface 0 (.int .i64 c)
theorem errW_none : errW none = .nilIface := rfl
theorem errW_some (c : Int) : errW (some c) = .iface 0 (.int .i64 c) := rfl
theorem info49 : (Tryz.prog.info? 49).map (fun i => (i.zero, i.size, i.bytes)) = some (some (.agg #[(.string ⟨#[]⟩), (.int .i64 0), (.string ⟨#[]⟩)]), 3, 40) := by kernel_rfl
structure S30 where
 f0 : Int
 f1 : ByteArray
def z30 : S30 := ⟨(0 : Int), (⟨#[]⟩ : ByteArray)⟩
def k30 : Kd S30 := Kd.iso (Kd.pair (Kd.int .i64) Kd.string) (fun x : S30 => (x.f0, x.f1))
theorem k30_open {w : World} {x : S30} {cs : List Value} (h : k30.K w x cs) : cs = [.int .i64 x.f0, .string x.f1] := by
 obtain ⟨_, _, rfl, rfl, rfl⟩ := h
 exact rfl
theorem k30_mk (w : World) (x : S30)  : k30.K w x [.int .i64 x.f0, .string x.f1] := ⟨[.int .i64 x.f0], [.string x.f1], rfl, rfl, rfl⟩
theorem k30_mkM (w : World) (base : Nat) (ok : Nat → Prop) (x : S30)  : k30.M w base ok x [.int .i64 x.f0, .string x.f1] := ⟨[.int .i64 x.f0], [.string x.f1], rfl, rfl, rfl⟩
def rd_T30 (xs : List S30) (i : Int) : S30 := xs.getD i.toNat z30
theorem at_T30 {w : World} {A : Option Addr} {n : Nat} {xs : List S30} (h : Kd.C k30 w A n xs) (i : Int) (h0 : 0 ≤ i) (h1 : i < n) : ∃ ad , A = some ad ∧ w.cell? (ad.add (i.toNat * 2)) = some (.int .i64 (rd_T30 xs i).f0) ∧ w.cell? ⟨(ad.add (i.toNat * 2)).block, (ad.add (i.toNat * 2)).off + 1, none⟩ = some (.string (rd_T30 xs i).f1) := by
 obtain ⟨ad, c, e, _, hK, hc0⟩ := Kd.C_get h z30 i h0 h1
 have hc : ∀ j u, c[j]? = some u → w.cell? (ad.add (i.toNat * 2 + j)) = some u := hc0
 obtain rfl := k30_open hK
 exact ⟨ad, e, hc 0 _ rfl, by rw [← add_field _ _ 1 (by omega)]; exact hc 1 _ rfl⟩
structure S49 where
 f0 : ByteArray
 f1 : S30
def z49 : S49 := ⟨(⟨#[]⟩ : ByteArray), z30⟩
def k49 : Kd S49 := Kd.iso (Kd.pair Kd.string k30) (fun x : S49 => (x.f0, x.f1))
theorem k49_open {w : World} {x : S49} {cs : List Value} (h : k49.K w x cs) : cs = [.string x.f0, .int .i64 x.f1.f0, .string x.f1.f1] := by
 obtain ⟨_, _, rfl, rfl, s1⟩ := h
 obtain rfl := k30_open s1
 exact rfl
theorem k49_mk (w : World) (x : S49)  : k49.K w x [.string x.f0, .int .i64 x.f1.f0, .string x.f1.f1] := ⟨[.string x.f0], [.int .i64 x.f1.f0, .string x.f1.f1], rfl, rfl, (k30_mk w x.f1 )⟩
theorem k49_mkM (w : World) (base : Nat) (ok : Nat → Prop) (x : S49)  : k49.M w base ok x [.string x.f0, .int .i64 x.f1.f0, .string x.f1.f1] := ⟨[.string x.f0], [.int .i64 x.f1.f0, .string x.f1.f1], rfl, rfl, (k30_mkM w base ok x.f1 )⟩
def rd_T49 (xs : List S49) (i : Int) : S49 := xs.getD i.toNat z49
theorem at_T49 {w : World} {A : Option Addr} {n : Nat} {xs : List S49} (h : Kd.C k49 w A n xs) (i : Int) (h0 : 0 ≤ i) (h1 : i < n) : ∃ ad , A = some ad ∧ w.cell? (ad.add (i.toNat * 3)) = some (.string (rd_T49 xs i).f0) ∧ w.cell? ⟨(ad.add (i.toNat * 3)).block, (ad.add (i.toNat * 3)).off + 1, none⟩ = some (.int .i64 (rd_T49 xs i).f1.f0) ∧ w.cell? ⟨(ad.add (i.toNat * 3)).block, (ad.add (i.toNat * 3)).off + 2, none⟩ = some (.string (rd_T49 xs i).f1.f1) := by
 obtain ⟨ad, c, e, _, hK, hc0⟩ := Kd.C_get h z49 i h0 h1
 have hc : ∀ j u, c[j]? = some u → w.cell? (ad.add (i.toNat * 3 + j)) = some u := hc0
 obtain rfl := k49_open hK
 exact ⟨ad, e, hc 0 _ rfl, by rw [← add_field _ _ 1 (by omega)]; exact hc 1 _ rfl, by rw [← add_field _ _ 2 (by omega)]; exact hc 2 _ rfl⟩
end Go.Proofs.YtehmhfbfgniekaaGreatDoor.PWkB

namespace Go.Proofs.YtehmhfbfgniekaaGreatDoor.PWkB
open Go.RowKit Go.Proofs.YtehmhfbfgniekaaGreatDoorW.PrintWords Go.Proofs.YtehmhfbfgniekaaGreatDoorW.PrintLast Go.Proofs.YtehmhfbfgniekaaGreatDoorW.PrintMore
attribute [local go_sem] WkS.leq_str WkS.geq_str WkS.gtr_str max2_int min2_int max_two min_two max_three min_three max_four min_four   -- for this text's walks alone
set_option linter.unusedVariables false
set_option linter.unusedSimpArgs false
theorem eqA30 (d : Nat) (w : World) (x0 y0 : Int) (x1 y1 : ByteArray) :
  (Op.equalIn (d + 2) 30 (.agg #[.int .i64 x0, .string x1]) (.agg #[.int .i64 y0, .string y1])).run Tryz.prog w = .ok (x0 == y0 && (x1.toList == y1.toList)) w := by
 refine eqA_of Tryz.underlying30 (by kernel_rfl) ?_
 refine eqf_cons (by rfl) (by go_simp; rfl) (by go_simp; rfl) (by go_simp) ?_
 exact eqf_last (by rfl) (by go_simp; rfl) (by go_simp; rfl) (by go_simp)
theorem eqA49 (d : Nat) (w : World) (x0 y0 : ByteArray) (x1 y1 : Int) (x2 y2 : ByteArray) :
  (Op.equalIn (d + 3) 49 (.agg #[.string x0, .int .i64 x1, .string x2]) (.agg #[.string y0, .int .i64 y1, .string y2])).run Tryz.prog w = .ok (x0.toList == y0.toList && ((x1 == y1 && (x2.toList == y2.toList)))) w := by
 refine eqA_of Tryz.underlying49 (by kernel_rfl) ?_
 refine eqf_cons (by rfl) (by go_simp; rfl) (by go_simp; rfl) (by go_simp) ?_
 exact eqf_last (by rfl) (by go_simp) (by go_simp) (eqA30 (d + 0) w _ _ _ _)
end Go.Proofs.YtehmhfbfgniekaaGreatDoor.PWkB

namespace Go.Proofs.YtehmhfbfgniekaaGreatDoor.PWkB
open Go.RowKit Go.Proofs.YtehmhfbfgniekaaGreatDoorW.PrintWords Go.Proofs.YtehmhfbfgniekaaGreatDoorW.PrintLast Go.Proofs.YtehmhfbfgniekaaGreatDoorW.PrintMore
attribute [local go_sem] WkS.leq_str WkS.geq_str WkS.gtr_str max2_int min2_int max_two min_two max_three min_three max_four min_four   -- for this text's walks alone
set_option linter.unusedVariables false
set_option linter.unusedSimpArgs false
attribute [local go_sem high] eqA49
noncomputable def r05_Has.l0 : Nat → List ByteArray → ByteArray → Int → Option (Bool)
 | 0, _, _, _ => none
 | k + 1, x0, x1, x5 => if x5 < (x0.length : Int) then (if 0 ≤ x5 then (if (rdOf ByteArray.empty x0 x5).toList = x1.toList then (some true) else (r05_Has.l0 k x0 x1 (wrap64 (x5 + 1)))) else (none)) else (some false)
noncomputable def r05_Has.f (k : Nat) (l0 : List ByteArray) (a1 : ByteArray) : Option (Bool) := r05_Has.l0 k l0 a1 0
set_option maxHeartbeats 8000000 in
set_option maxRecDepth 100000 in
theorem r05_Has.calls (k : Nat) (A0 : Option Addr) (c0 : Nat) (l0 : List ByteArray) (a1 : ByteArray) (r : Bool) (w : World) (hr0 : Kd.C Kd.string w A0 l0.length l0) (hc0 : l0.length ≤ c0) (h : r05_Has.f k l0 a1 = some r) :
  Calls Tryz.prog 23 #[.slice A0 l0.length c0, .string a1] w fun e w' => e = .returned (.bool r) ∧ Drawn0 w w' := by
 have HR0 := Aside0.mk hr0
 have HC0 := Aside0.mk hc0
 clear hr0 hc0
 have H : (r05_Has.l0 k l0 a1 0) = some r := h
 clear h
 have H' := Aside0.mk H
 clear H
 go_enter Tryz.func23, Tryz.ntmps23
 go_wp2
 go_loopg [5] k (fun kq v5 w' => ∃ (x5_1 : Int), v5 = .int .i64 x5_1 ∧ Aside0 (r05_Has.l0 kq l0 a1 x5_1 = some r) ∧ Aside0 (kq ≤ k) ∧ Drawn0 w w')
 case atStart => exact ⟨(0), sd_, H', ⟨Nat.le_refl _⟩, dr_⟩
 case round =>
  clear H'
  try clear c2
  try clear p2
  obtain ⟨x5_1, rfl, HA, HK1, ⟨m1, rfl⟩⟩ := hrel
  cases gk with
  | zero => exact absurd HA.out (by simp [r05_Has.l0])
  | succ k1 =>
   have H := HA.out
   clear HA
   simp only [r05_Has.l0] at H
   by_cases c3 : x5_1 < (l0.length : Int)
   ·
    rw [if_pos c3] at H
    have c3b0 : decide (x5_1 < (l0.length : Int)) = true := decide_eq_true c3
    clear c3
    by_cases c4 : 0 ≤ x5_1
    ·
     rw [if_pos c4] at H
     have c4b0 : decide (0 ≤ x5_1) = true := decide_eq_true c4
     clear c4
     by_cases c5 : (rdOf ByteArray.empty l0 x5_1).toList = a1.toList
     ·
      rw [if_pos c5] at H
      have c5b0 : ((rdOf ByteArray.empty l0 x5_1).toList == a1.toList) = true := beq_iff_eq.mpr c5
      have c5b1 : ((rdOf ByteArray.empty l0 x5_1).toList != a1.toList) = false := bne_eq_false_iff_eq.mpr c5
      clear c5
      obtain rfl := Option.some.inj H
      have p101 : 0 ≤ (x5_1 : Int) := oda_
      have q101 : x5_1 < (l0.length : Int) := oda_
      obtain ⟨ad101, e101, hx101_0⟩ := Kd.at_string HR0.out x5_1 p101 q101
      cases e101
      replace p101 := eq_true p101
      replace q101 := eq_true q101
      go_wp2
      go_ret
      exact ⟨sd_, dr_⟩
     ·
      rw [if_neg c5] at H
      have c5b0 : ((rdOf ByteArray.empty l0 x5_1).toList == a1.toList) = false := beq_eq_false_iff_ne.mpr c5
      have c5b1 : ((rdOf ByteArray.empty l0 x5_1).toList != a1.toList) = true := bne_iff_ne.mpr c5
      have H' := Aside0.mk H
      clear H
      have p101 : 0 ≤ (x5_1 : Int) := oda_
      have q101 : x5_1 < (l0.length : Int) := oda_
      obtain ⟨ad101, e101, hx101_0⟩ := Kd.at_string HR0.out x5_1 p101 q101
      cases e101
      replace p101 := eq_true p101
      replace q101 := eq_true q101
      go_wp2
      go_roundg k1
      case measure => have := HK1.out; omega
      case rel => exact ⟨(wrap64 (x5_1 + 1)), sd_, H', ⟨by have := HK1.out; omega⟩, dr_⟩
    ·
     rw [if_neg c4] at H
     exact absurd H (by simp)
   ·
    rw [if_neg c3] at H
    have c3b0 : decide (x5_1 < (l0.length : Int)) = false := decide_eq_false c3
    clear c3
    obtain rfl := Option.some.inj H
    go_wp2
    go_ret
    exact ⟨sd_, dr_⟩
end Go.Proofs.YtehmhfbfgniekaaGreatDoor.PWkB

namespace Go.Proofs.YtehmhfbfgniekaaGreatDoor.PWkB
open Go.RowKit Go.Proofs.YtehmhfbfgniekaaGreatDoorW.PrintWords Go.Proofs.YtehmhfbfgniekaaGreatDoorW.PrintLast Go.Proofs.YtehmhfbfgniekaaGreatDoorW.PrintMore
attribute [local go_sem] WkS.leq_str WkS.geq_str WkS.gtr_str max2_int min2_int max_two min_two max_three min_three max_four min_four   -- for this text's walks alone
set_option linter.unusedVariables false
set_option linter.unusedSimpArgs false
theorem o1_ {p : Prop} (h : p := by repeat (first | (with_reducible first | exact HB.out | apply below_alloc | apply pw_below_drewN | apply below_drew1 | refine below_set ?_ GE136.out) | exact HB.out)) : p := h
noncomputable def w05_Great.l0 : Nat → List (S49) → Int → Int → Option (Bool)
 | 0, _, _, _ => none
 | k + 1, x0, x3, x4 => if x4 < (x0.length : Int) then (if x3 < 9000 then (if 0 ≤ x4 then (w05_Great.l0 k x0 (wrap64 ((wrap64 (x3 + (mn (((rd_T49 x0 x4).f0).size : Int) 9000))) + (mn (((rd_T49 x0 x4).f1.f1).size : Int) 9000))) (wrap64 (x4 + 1))) else (none)) else (some (decide (x3 ≥ 9000)))) else (some (decide (x3 ≥ 9000)))
noncomputable def w05_Great.f (k : Nat) (l0 : List (S49)) : Option (Bool) := w05_Great.l0 k l0 (wrap64 (10 * (l0.length : Int))) 0
set_option maxHeartbeats 8000000 in
set_option maxRecDepth 100000 in
theorem w05_Great.calls (k : Nat) (A0 : Option Addr) (c0 : Nat) (l0 : List (S49)) (r : Bool) (w : World) (hr0 : Kd.C k49 w A0 l0.length l0) (hc0 : l0.length ≤ c0) (h : w05_Great.f k l0 = some r) :
  Calls Tryz.prog 11 #[.slice A0 l0.length c0] w fun e w' => e = .returned (.bool r) ∧ Below w.heap.size w w' := by
 have HR0 := Aside0.mk hr0
 have HC0 := Aside0.mk hc0
 clear hr0 hc0
 have HB := Aside0.mk (Below.refl w.heap.size w)
 have H : (w05_Great.l0 k l0 (wrap64 (10 * (l0.length : Int))) 0) = some r := h
 clear h
 have H' := Aside0.mk H
 clear H
 go_enter Tryz.func11, Tryz.ntmps11
 go_wp2
 repeat (go_quiet (fail); try go_wp2)
 go_loopg [3, 4] k (fun kq v3 v4 w' => ∃ (x3_1 : Int) (x4_1 : Int), v3 = .int .i64 x3_1 ∧ v4 = .int .i64 x4_1 ∧ Aside0 (w05_Great.l0 kq l0 x3_1 x4_1 = some r) ∧ Aside0 (kq ≤ k) ∧ Aside0 (Below w.heap.size w w'))
 case atStart => exact ⟨(wrap64 (10 * (l0.length : Int))), (0), sd_, sd_, H', ⟨Nat.le_refl _⟩, ⟨bw_⟩⟩
 case round =>
  clear H'
  try clear c1
  obtain ⟨x3_1, x4_1, rfl, rfl, HA, HK1, HB⟩ := hrel
  cases gk with
  | zero => exact absurd HA.out (by simp [w05_Great.l0])
  | succ k1 =>
   have H := HA.out
   clear HA
   simp only [w05_Great.l0] at H
   by_cases c2 : x4_1 < (l0.length : Int)
   ·
    rw [if_pos c2] at H
    have c2b0 : decide (x4_1 < (l0.length : Int)) = true := decide_eq_true c2
    clear c2
    by_cases c3 : x3_1 < 9000
    ·
     rw [if_pos c3] at H
     have c3b0 : decide (x3_1 < 9000) = true := decide_eq_true c3
     clear c3
     by_cases c4 : 0 ≤ x4_1
     ·
      rw [if_pos c4] at H
      have c4b0 : decide (0 ≤ x4_1) = true := decide_eq_true c4
      clear c4
      obtain ⟨ji5, hji5⟩ : ∃ j_ : Int, (mn (((rd_T49 l0 x4_1).f0).size : Int) 9000) = j_ := ⟨_, rfl⟩
      replace H : (w05_Great.l0 k1 l0 (wrap64 ((wrap64 (x3_1 + (ji5))) + (mn (((rd_T49 l0 x4_1).f1.f1).size : Int) 9000))) (wrap64 (x4_1 + 1))) = some r := by first | (rw [hji5] at H; exact H) | (simp only [hji5] at H ⊢; exact H)
      have hji5_ : (if 9000 < (((rd_T49 l0 x4_1).f0).size : Int) then 9000 else (((rd_T49 l0 x4_1).f0).size : Int)) = ji5 := hji5
      obtain ⟨ji6, hji6⟩ : ∃ j_ : Int, (mn (((rd_T49 l0 x4_1).f1.f1).size : Int) 9000) = j_ := ⟨_, rfl⟩
      replace H : (w05_Great.l0 k1 l0 (wrap64 ((wrap64 (x3_1 + (ji5))) + (ji6))) (wrap64 (x4_1 + 1))) = some r := by first | (rw [hji6] at H; exact H) | (simp only [hji6] at H ⊢; exact H)
      have hji6_ : (if 9000 < (((rd_T49 l0 x4_1).f1.f1).size : Int) then 9000 else (((rd_T49 l0 x4_1).f1.f1).size : Int)) = ji6 := hji6
      have H' := Aside0.mk H
      clear H
      have p130 : 0 ≤ (x4_1 : Int) := oda_
      have q130 : x4_1 < (l0.length : Int) := oda_
      obtain ⟨ad130, e130, hx130_0, hx130_1, hx130_2⟩ := at_T49 HR0.out x4_1 p130 q130
      cases e130
      replace hx130_0 := (HB.out.cell (World.block_lt_of_cell? w _ hx130_0)).trans hx130_0
      replace hx130_1 := (HB.out.cell (World.block_lt_of_cell? w _ hx130_1)).trans hx130_1
      replace hx130_2 := (HB.out.cell (World.block_lt_of_cell? w _ hx130_2)).trans hx130_2
      replace p130 := eq_true p130
      replace q130 := eq_true q130
      have p131 : 0 ≤ (x4_1 : Int) := oda_
      have q131 : x4_1 < (l0.length : Int) := oda_
      obtain ⟨ad131, e131, hx131_0, hx131_1, hx131_2⟩ := at_T49 HR0.out x4_1 p131 q131
      obtain rfl : ad130 = ad131 := (by injection e131)
      replace hx131_0 := (HB.out.cell (World.block_lt_of_cell? w _ hx131_0)).trans hx131_0
      replace hx131_1 := (HB.out.cell (World.block_lt_of_cell? w _ hx131_1)).trans hx131_1
      replace hx131_2 := (HB.out.cell (World.block_lt_of_cell? w _ hx131_2)).trans hx131_2
      replace p131 := eq_true p131
      replace q131 := eq_true q131
      go_wp2
      repeat (go_quiet (fail); try go_wp2)
      go_roundg k1
      case measure => have := HK1.out; omega
      case rel => exact ⟨(wrap64 ((wrap64 (x3_1 + (ji5))) + (ji6))), (wrap64 (x4_1 + 1)), (by first | rfl | (simp; done) | (simp only [← hji5, ← hji6] <;> (first | rfl | simp)) | (simp [*]; done)), sd_, H', ⟨by have := HK1.out; omega⟩, ⟨bw_⟩⟩
     ·
      rw [if_neg c4] at H
      exact absurd H (by simp)
    ·
     rw [if_neg c3] at H
     have c3b0 : decide (x3_1 < 9000) = false := decide_eq_false c3
     clear c3
     obtain rfl := Option.some.inj H
     go_wp2
     repeat (go_quiet (fail); try go_wp2)
     go_ret
     exact ⟨er_, bw_⟩
   ·
    rw [if_neg c2] at H
    have c2b0 : decide (x4_1 < (l0.length : Int)) = false := decide_eq_false c2
    clear c2
    obtain rfl := Option.some.inj H
    go_wp2
    repeat (go_quiet (fail); try go_wp2)
    go_ret
    exact ⟨er_, bw_⟩
noncomputable def w05_GreatTexts.l0 : Nat → List ByteArray → Int → Int → Option (Bool)
 | 0, _, _, _ => none
 | k + 1, x0, x3, x4 => if x4 < (x0.length : Int) then (if x3 < 9000 then (if 0 ≤ x4 then (w05_GreatTexts.l0 k x0 (wrap64 (x3 + (mn ((rdOf ByteArray.empty x0 x4).size : Int) 9000))) (wrap64 (x4 + 1))) else (none)) else (if x3 ≥ 9000 then (some true) else (some (decide ((x0.length : Int) > 200))))) else (if x3 ≥ 9000 then (some true) else (some (decide ((x0.length : Int) > 200))))
noncomputable def w05_GreatTexts.f (k : Nat) (l0 : List ByteArray) : Option (Bool) := w05_GreatTexts.l0 k l0 (l0.length : Int) 0
set_option maxHeartbeats 8000000 in
set_option maxRecDepth 100000 in
theorem w05_GreatTexts.calls (k : Nat) (A0 : Option Addr) (c0 : Nat) (l0 : List ByteArray) (r : Bool) (w : World) (hr0 : Kd.C Kd.string w A0 l0.length l0) (hc0 : l0.length ≤ c0) (h : w05_GreatTexts.f k l0 = some r) :
  Calls Tryz.prog 12 #[.slice A0 l0.length c0] w fun e w' => e = .returned (.bool r) ∧ Below w.heap.size w w' := by
 have HR0 := Aside0.mk hr0
 have HC0 := Aside0.mk hc0
 clear hr0 hc0
 have HB := Aside0.mk (Below.refl w.heap.size w)
 have H : (w05_GreatTexts.l0 k l0 (l0.length : Int) 0) = some r := h
 clear h
 have H' := Aside0.mk H
 clear H
 go_enter Tryz.func12, Tryz.ntmps12
 go_wp2
 go_loopg [3, 4] k (fun kq v3 v4 w' => ∃ (x3_1 : Int) (x4_1 : Int), v3 = .int .i64 x3_1 ∧ v4 = .int .i64 x4_1 ∧ Aside0 (w05_GreatTexts.l0 kq l0 x3_1 x4_1 = some r) ∧ Aside0 (kq ≤ k) ∧ Aside0 (Below w.heap.size w w'))
 case atStart => exact ⟨((l0.length : Int)), (0), sd_, sd_, H', ⟨Nat.le_refl _⟩, ⟨bw_⟩⟩
 case round =>
  clear H'
  try clear c1
  obtain ⟨x3_1, x4_1, rfl, rfl, HA, HK1, HB⟩ := hrel
  cases gk with
  | zero => exact absurd HA.out (by simp [w05_GreatTexts.l0])
  | succ k1 =>
   have H := HA.out
   clear HA
   simp only [w05_GreatTexts.l0] at H
   by_cases c2 : x4_1 < (l0.length : Int)
   ·
    rw [if_pos c2] at H
    have c2b0 : decide (x4_1 < (l0.length : Int)) = true := decide_eq_true c2
    clear c2
    by_cases c3 : x3_1 < 9000
    ·
     rw [if_pos c3] at H
     have c3b0 : decide (x3_1 < 9000) = true := decide_eq_true c3
     clear c3
     by_cases c4 : 0 ≤ x4_1
     ·
      rw [if_pos c4] at H
      have c4b0 : decide (0 ≤ x4_1) = true := decide_eq_true c4
      clear c4
      obtain ⟨ji5, hji5⟩ : ∃ j_ : Int, (mn ((rdOf ByteArray.empty l0 x4_1).size : Int) 9000) = j_ := ⟨_, rfl⟩
      replace H : (w05_GreatTexts.l0 k1 l0 (wrap64 (x3_1 + (ji5))) (wrap64 (x4_1 + 1))) = some r := by first | (rw [hji5] at H; exact H) | (simp only [hji5] at H ⊢; exact H)
      have hji5_ : (if 9000 < ((rdOf ByteArray.empty l0 x4_1).size : Int) then 9000 else ((rdOf ByteArray.empty l0 x4_1).size : Int)) = ji5 := hji5
      have H' := Aside0.mk H
      clear H
      have p132 : 0 ≤ (x4_1 : Int) := oda_
      have q132 : x4_1 < (l0.length : Int) := oda_
      obtain ⟨ad132, e132, hx132_0⟩ := Kd.at_string HR0.out x4_1 p132 q132
      cases e132
      replace hx132_0 := (HB.out.cell (World.block_lt_of_cell? w _ hx132_0)).trans hx132_0
      replace p132 := eq_true p132
      replace q132 := eq_true q132
      go_wp2
      go_roundg k1
      case measure => have := HK1.out; omega
      case rel => exact ⟨(wrap64 (x3_1 + (ji5))), (wrap64 (x4_1 + 1)), (by first | rfl | (simp; done) | (simp only [← hji5] <;> (first | rfl | simp)) | (simp [*]; done)), sd_, H', ⟨by have := HK1.out; omega⟩, ⟨bw_⟩⟩
     ·
      rw [if_neg c4] at H
      exact absurd H (by simp)
    ·
     rw [if_neg c3] at H
     have c3b0 : decide (x3_1 < 9000) = false := decide_eq_false c3
     clear c3
     by_cases c6 : x3_1 ≥ 9000
     ·
      rw [if_pos c6] at H
      have c6b0 : decide (9000 ≤ x3_1) = true := decide_eq_true c6
      clear c6
      obtain rfl := Option.some.inj H
      go_wp2
      go_ret
      exact ⟨er_, bw_⟩
     ·
      rw [if_neg c6] at H
      have c6b0 : decide (9000 ≤ x3_1) = false := decide_eq_false c6
      clear c6
      obtain rfl := Option.some.inj H
      go_wp2
      go_ret
      exact ⟨er_, bw_⟩
   ·
    rw [if_neg c2] at H
    have c2b0 : decide (x4_1 < (l0.length : Int)) = false := decide_eq_false c2
    clear c2
    by_cases c7 : x3_1 ≥ 9000
    ·
     rw [if_pos c7] at H
     have c7b0 : decide (9000 ≤ x3_1) = true := decide_eq_true c7
     clear c7
     obtain rfl := Option.some.inj H
     go_wp2
     go_ret
     exact ⟨er_, bw_⟩
    ·
     rw [if_neg c7] at H
     have c7b0 : decide (9000 ≤ x3_1) = false := decide_eq_false c7
     clear c7
     obtain rfl := Option.some.inj H
     go_wp2
     go_ret
     exact ⟨er_, bw_⟩
noncomputable def slices_Index_string_string.l0 : Nat → List ByteArray → ByteArray → Int → Int → Option (Int)
 | 0, _, _, _, _ => none
 | k + 1, x0, x1, x7, x8 => if x8 < x7 then (if 0 ≤ x8 then (if x8 < (x0.length : Int) then (if x1.toList = (rdOf ByteArray.empty x0 x8).toList then (some x8) else (slices_Index_string_string.l0 k x0 x1 x7 (wrap64 (x8 + 1)))) else (none)) else (none)) else (some (-1))
noncomputable def slices_Index_string_string.f (k : Nat) (l0 : List ByteArray) (a1 : ByteArray) : Option (Int) := slices_Index_string_string.l0 k l0 a1 (l0.length : Int) 0
set_option maxHeartbeats 8000000 in
set_option maxRecDepth 100000 in
theorem slices_Index_string_string.calls (k : Nat) (A0 : Option Addr) (c0 : Nat) (l0 : List ByteArray) (a1 : ByteArray) (r : Int) (w : World) (hr0 : Kd.C Kd.string w A0 l0.length l0) (hc0 : l0.length ≤ c0) (h : slices_Index_string_string.f k l0 a1 = some r) :
  Calls Tryz.prog 50 #[.slice A0 l0.length c0, .string a1] w fun e w' => e = .returned (.int .i64 r) ∧ Drawn0 w w' := by
 have HR0 := Aside0.mk hr0
 have HC0 := Aside0.mk hc0
 clear hr0 hc0
 have H : (slices_Index_string_string.l0 k l0 a1 (l0.length : Int) 0) = some r := h
 clear h
 have H' := Aside0.mk H
 clear H
 go_enter Tryz.func50, Tryz.ntmps50
 go_wp2
 go_loopg [8] k (fun kq v8 w' => ∃ (x8_1 : Int), v8 = .int .i64 x8_1 ∧ Aside0 (slices_Index_string_string.l0 kq l0 a1 (l0.length : Int) x8_1 = some r) ∧ Aside0 (kq ≤ k) ∧ Drawn0 w w')
 case atStart => exact ⟨(0), sd_, H', ⟨Nat.le_refl _⟩, dr_⟩
 case round =>
  clear H'
  try clear p2
  obtain ⟨x8_1, rfl, HA, HK1, ⟨m1, rfl⟩⟩ := hrel
  cases gk with
  | zero => exact absurd HA.out (by simp [slices_Index_string_string.l0])
  | succ k1 =>
   have H := HA.out
   clear HA
   simp only [slices_Index_string_string.l0] at H
   by_cases c3 : x8_1 < (l0.length : Int)
   ·
    rw [if_pos c3] at H
    have c3b0 : decide (x8_1 < (l0.length : Int)) = true := decide_eq_true c3
    clear c3
    by_cases c4 : 0 ≤ x8_1
    ·
     rw [if_pos c4] at H
     have c4b0 : decide (0 ≤ x8_1) = true := decide_eq_true c4
     clear c4
     by_cases c5 : x8_1 < (l0.length : Int)
     ·
      rw [if_pos c5] at H
      have c5b0 : decide (x8_1 < (l0.length : Int)) = true := decide_eq_true c5
      clear c5
      by_cases c6 : a1.toList = (rdOf ByteArray.empty l0 x8_1).toList
      ·
       rw [if_pos c6] at H
       have c6b0 : (a1.toList == (rdOf ByteArray.empty l0 x8_1).toList) = true := beq_iff_eq.mpr c6
       have c6b1 : (a1.toList != (rdOf ByteArray.empty l0 x8_1).toList) = false := bne_eq_false_iff_eq.mpr c6
       clear c6
       obtain rfl := Option.some.inj H
       have p133 : 0 ≤ (x8_1 : Int) := oda_
       have q133 : x8_1 < (l0.length : Int) := oda_
       obtain ⟨ad133, e133, hx133_0⟩ := Kd.at_string HR0.out x8_1 p133 q133
       cases e133
       replace p133 := eq_true p133
       replace q133 := eq_true q133
       go_wp2
       go_ret
       exact ⟨sd_, dr_⟩
      ·
       rw [if_neg c6] at H
       have c6b0 : (a1.toList == (rdOf ByteArray.empty l0 x8_1).toList) = false := beq_eq_false_iff_ne.mpr c6
       have c6b1 : (a1.toList != (rdOf ByteArray.empty l0 x8_1).toList) = true := bne_iff_ne.mpr c6
       have H' := Aside0.mk H
       clear H
       have p133 : 0 ≤ (x8_1 : Int) := oda_
       have q133 : x8_1 < (l0.length : Int) := oda_
       obtain ⟨ad133, e133, hx133_0⟩ := Kd.at_string HR0.out x8_1 p133 q133
       cases e133
       replace p133 := eq_true p133
       replace q133 := eq_true q133
       go_wp2
       go_roundg k1
       case measure => have := HK1.out; omega
       case rel => exact ⟨(wrap64 (x8_1 + 1)), sd_, H', ⟨by have := HK1.out; omega⟩, dr_⟩
     ·
      rw [if_neg c5] at H
      exact absurd H (by simp)
    ·
     rw [if_neg c4] at H
     exact absurd H (by simp)
   ·
    rw [if_neg c3] at H
    have c3b0 : decide (x8_1 < (l0.length : Int)) = false := decide_eq_false c3
    clear c3
    obtain rfl := Option.some.inj H
    go_wp2
    go_ret
    exact ⟨sd_, dr_⟩
noncomputable def slices_Contains_string_string.f (k : Nat) (l0 : List ByteArray) (a1 : ByteArray) : Option (Bool) := (slices_Index_string_string.f k l0 a1).bind fun t134 => (some (decide (t134 ≥ 0)))
set_option maxHeartbeats 8000000 in
set_option maxRecDepth 100000 in
theorem slices_Contains_string_string.calls (k : Nat) (A0 : Option Addr) (c0 : Nat) (l0 : List ByteArray) (a1 : ByteArray) (r : Bool) (w : World) (hr0 : Kd.C Kd.string w A0 l0.length l0) (hc0 : l0.length ≤ c0) (h : slices_Contains_string_string.f k l0 a1 = some r) :
  Calls Tryz.prog 34 #[.slice A0 l0.length c0, .string a1] w fun e w' => e = .returned (.bool r) ∧ Drawn0 w w' := by
 have HR0 := Aside0.mk hr0
 have HC0 := Aside0.mk hc0
 clear hr0 hc0
 have H : ((slices_Index_string_string.f k l0 a1).bind fun t134 => (some (decide (t134 ≥ 0)))) = some r := h
 clear h
 replace H := Option.bind_eq_some_iff.mp H
 obtain ⟨t134, A30, H⟩ := H
 replace H : (some (decide (t134 ≥ 0))) = some r := H
 have A3 := Aside0.mk A30
 clear A30
 obtain rfl := Option.some.inj H
 go_enter Tryz.func34, Tryz.ntmps34
 go_wp2_with (first | ((with_reducible refine gate_callee (f := 50) rfl ?_); refine goesL_ (some 7) rfl rfl Tryz.func50 (by kernel_rfl) rfl #[.slice A0 l0.length c0, .string a1] rfl la_ ?_; (with_reducible refine (slices_Index_string_string.calls k _ _ l0 a1 t134 _ ?side1 ?side2 A3.out).mono ?_); (case side1 => repeat (first | exact HR0.out | (with_reducible refine Kd.C_alloc ?_ _) | (with_reducible refine Kd.C_drewN ?_ _) | (with_reducible refine Kd.C_drew ?_))); (case side2 => exact HC0.out); rintro e w' ⟨rfl, ⟨nd, rfl⟩⟩; refine ⟨_, rfl, ?_⟩))
 go_ret
 exact ⟨sd_, dr_⟩
noncomputable def walk_Pick.l0 : Nat → List ByteArray → List (S49) → List (S49) → Int → Int → Option ((List (S49)))
 | 0, _, _, _, _, _ => none
 | k + 1, x1, x5, x8, x9, x10 => if x10 < x9 then (if 0 ≤ x10 then (if x10 < (x8.length : Int) then ((slices_Contains_string_string.f k x1 ((rd_T49 x8 x10).f0)).bind fun t137 => (if t137 = true then (if x5.length < 3518437208883 then (walk_Pick.l0 k x1 (x5 ++ [(⟨(rd_T49 x8 x10).f0, (⟨(rd_T49 x8 x10).f1.f0, (rd_T49 x8 x10).f1.f1⟩ : S30)⟩ : S49)]) x8 x9 (wrap64 (x10 + 1))) else (none)) else (walk_Pick.l0 k x1 x5 x8 x9 (wrap64 (x10 + 1))))) else (none)) else (none)) else (some x5)
noncomputable def walk_Pick.f (k : Nat) (l0 : List (S49)) (l1 : List ByteArray) : Option ((List (S49))) := walk_Pick.l0 k l1 ([] : List (S49)) l0 (l0.length : Int) 0
set_option maxHeartbeats 8000000 in
set_option maxRecDepth 100000 in
theorem walk_Pick.calls (k : Nat) (A0 : Option Addr) (c0 : Nat) (l0 : List (S49)) (A1 : Option Addr) (c1 : Nat) (l1 : List ByteArray) (r : List (S49)) (w : World) (hr0 : Kd.C k49 w A0 l0.length l0) (hc0 : l0.length ≤ c0) (hr1 : Kd.C Kd.string w A1 l1.length l1) (hc1 : l1.length ≤ c1) (h : walk_Pick.f k l0 l1 = some r) :
  Calls Tryz.prog 21 #[.slice A0 l0.length c0, .slice A1 l1.length c1] w fun e w' => ∃ v0_ : Value, e = .returned (v0_) ∧ Kd.R k49 49 w' w.heap.size (fun _ => True) v0_ r ∧ Below w.heap.size w w' := by
 have hu49 := Tryz.underlying49
 have HR0 := Aside0.mk hr0
 have HC0 := Aside0.mk hc0
 clear hr0 hc0
 have HR1 := Aside0.mk hr1
 have HC1 := Aside0.mk hc1
 clear hr1 hc1
 have HB := Aside0.mk (Below.refl w.heap.size w)
 have H : (walk_Pick.l0 k l1 ([] : List (S49)) l0 (l0.length : Int) 0) = some r := h
 clear h
 have H' := Aside0.mk H
 clear H
 go_enter Tryz.func21, Tryz.ntmps21
 go_wp2
 go_loopg [5, 10] k (fun kq v5 v10 w' => ∃ (x5_1 : List (S49)) (x10_1 : Int), v10 = .int .i64 x10_1 ∧ Aside0 (walk_Pick.l0 kq l1 x5_1 l0 (l0.length : Int) x10_1 = some r) ∧ Aside0 (kq ≤ k) ∧ Aside0 (Kd.R k49 49 w' w.heap.size (fun _ => True) v5 x5_1) ∧ Aside0 (Below w.heap.size w w'))
 case atStart => exact ⟨(([] : List (S49))), (0), sd_, H', ⟨Nat.le_refl _⟩, ⟨kn_⟩, ⟨bw_⟩⟩
 case round =>
  clear H'
  try clear c1
  try clear c2
  try clear p2
  obtain ⟨x5_1, x10_1, rfl, HA, HK1, HO_5, HB⟩ := hrel
  cases gk with
  | zero => exact absurd HA.out (by simp [walk_Pick.l0])
  | succ k1 =>
   have H := HA.out
   clear HA
   simp only [walk_Pick.l0] at H
   by_cases c3 : x10_1 < (l0.length : Int)
   ·
    rw [if_pos c3] at H
    have c3b0 : decide (x10_1 < (l0.length : Int)) = true := decide_eq_true c3
    clear c3
    by_cases c4 : 0 ≤ x10_1
    ·
     rw [if_pos c4] at H
     have c4b0 : decide (0 ≤ x10_1) = true := decide_eq_true c4
     clear c4
     by_cases c5 : x10_1 < (l0.length : Int)
     ·
      rw [if_pos c5] at H
      have c5b0 : decide (x10_1 < (l0.length : Int)) = true := decide_eq_true c5
      clear c5
      replace H := Option.bind_eq_some_iff.mp H
      obtain ⟨t137, A60, H⟩ := H
      replace H : (if t137 = true then (if x5_1.length < 3518437208883 then (walk_Pick.l0 k1 l1 (x5_1 ++ [(⟨(rd_T49 l0 x10_1).f0, (⟨(rd_T49 l0 x10_1).f1.f0, (rd_T49 l0 x10_1).f1.f1⟩ : S30)⟩ : S49)]) l0 (l0.length : Int) (wrap64 (x10_1 + 1))) else (none)) else (walk_Pick.l0 k1 l1 x5_1 l0 (l0.length : Int) (wrap64 (x10_1 + 1)))) = some r := H
      have A6 := Aside0.mk A60
      clear A60
      by_cases c7 : t137 = true
      ·
       subst c7
       have H1 : (if x5_1.length < 3518437208883 then (walk_Pick.l0 k1 l1 (x5_1 ++ [(⟨(rd_T49 l0 x10_1).f0, (⟨(rd_T49 l0 x10_1).f1.f0, (rd_T49 l0 x10_1).f1.f1⟩ : S30)⟩ : S49)]) l0 (l0.length : Int) (wrap64 (x10_1 + 1))) else (none)) = some r := by rw [if_pos rfl] at H; exact H
       clear H
       have H := H1
       clear H1
       by_cases c8 : x5_1.length < 3518437208883
       ·
        rw [if_pos c8] at H
        have LMc8 := Aside0.mk c8
        clear c8
        obtain ⟨y138, hy138⟩ : ∃ y_ : List (S49), y_ = (x5_1 ++ [(⟨(rd_T49 l0 x10_1).f0, (⟨(rd_T49 l0 x10_1).f1.f0, (rd_T49 l0 x10_1).f1.f1⟩ : S30)⟩ : S49)]) := ⟨_, rfl⟩
        replace H : (walk_Pick.l0 k1 l1 y138 l0 (l0.length : Int) (wrap64 (x10_1 + 1))) = some r := by first | (rw [hy138]; with_reducible exact H) | (have H2_ := (Option.bind_some _ _).symm.trans H; rw [hy138]; with_reducible exact H2_) | (have H2_ := (Option.bind_some _ _).symm.trans H; with_reducible exact H2_) | with_reducible exact H | (rw [hy138]; exact H) | exact H
        have Ny138 := Aside0.mk hy138
        clear hy138
        have H' := Aside0.mk H
        clear H
        have p135 : 0 ≤ (x10_1 : Int) := oda_
        have q135 : x10_1 < (l0.length : Int) := oda_
        obtain ⟨ad135, e135, hx135_0, hx135_1, hx135_2⟩ := at_T49 HR0.out x10_1 p135 q135
        cases e135
        replace hx135_0 := (HB.out.cell (World.block_lt_of_cell? w _ hx135_0)).trans hx135_0
        replace hx135_1 := (HB.out.cell (World.block_lt_of_cell? w _ hx135_1)).trans hx135_1
        replace hx135_2 := (HB.out.cell (World.block_lt_of_cell? w _ hx135_2)).trans hx135_2
        replace p135 := eq_true p135
        replace q135 := eq_true q135
        go_wp2_with (first | ((with_reducible refine gate_dst (N := 7) rfl ?_); refine box_event ?hg (N := 7) ?hd (cs := #[.string (⟨#[]⟩ : ByteArray), .int .i64 0, .string (⟨#[]⟩ : ByteArray)]) (t := 49) ?hr ?_; (case hd => rfl); (case hg => rfl); (case hr => first | (go_simp; done) | (go_simp; rfl)); intro gb136 hg w9 hbox hb; have n0_ := Aside0.mk (Kd.R_below (Kd.R_elderB (by (with_reducible repeat (first | apply Kd.R_alloc | apply Kd.R_drewN | apply Kd.R_drew)); exact HO_5.out) gb136 (Nat.le_of_eq hg.symm)) hb); have n1_ := Aside0.mk (below_step bw_ hb); have n2_ := Aside0.mk (hbox); have n3_ := Aside0.mk ((by rw [hg]; exact (below_size bw_) : w.heap.size ≤ gb136)); have n4_ := Aside0.mk ((by rw [hg]; exact (below_size bw_) : w.heap.size ≤ gb136)); clear HO_5; clear HB; have HO_5 := n0_; have HB := n1_; have BK136 := n2_; have GW136 := n3_; have GE136 := n4_; clear n0_ n1_ n2_ n3_ n4_; clear hb hbox hg; have hcz10_0 : w9.cell? ⟨gb136, 0, none⟩ = some (.string (⟨#[]⟩ : ByteArray)) := (blk_cell BK136.out 0).trans rfl; have hcz10_1 : w9.cell? ⟨gb136, 1, none⟩ = some (.int .i64 0) := (blk_cell BK136.out 1).trans rfl; have hcz10_2 : w9.cell? ⟨gb136, 2, none⟩ = some (.string (⟨#[]⟩ : ByteArray)) := (blk_cell BK136.out 2).trans rfl; have hfz10_0 := blk_frozen BK136.out 0; have hfz10_1 := blk_frozen BK136.out 1; have hfz10_2 := blk_frozen BK136.out 2) | ((with_reducible refine gate_callee (f := 34) rfl ?_); refine goesL_ (some 17) rfl rfl Tryz.func34 (by kernel_rfl) rfl #[.slice A1 l1.length c1, .string ((rd_T49 l0 x10_1).f0)] rfl la_ ?_; (with_reducible refine (slices_Contains_string_string.calls k1 _ _ l1 ((rd_T49 l0 x10_1).f0) true _ ?side1 ?side2 A6.out).mono ?_); (case side1 => exact Kd.C_below HR1.out o1_); (case side2 => exact HC1.out); rintro e w' ⟨rfl, ⟨nd, rfl⟩⟩; refine ⟨_, rfl, ?_⟩) | ((with_reducible refine gate_builtin (b := .append) (xs := #[.tmp 18, .tmp 20]) rfl ?_); at_builtin; refine Kd.R_append k49 (w0 := w) w.heap.size rfl (.tmp 18) (.tmp 20) 22 49 (.agg #[(.string ⟨#[]⟩), (.int .i64 0), (.string ⟨#[]⟩)]) 40 rfl Tryz.underlying22 info49 rfl (by decide) (by omega) u5 x5_1 (⟨(rd_T49 l0 x10_1).f0, (⟨(rd_T49 l0 x10_1).f1.f0, (rd_T49 l0 x10_1).f1.f1⟩ : S30)⟩ : S49) [.string ((rd_T49 l0 x10_1).f0), .int .i64 ((rd_T49 l0 x10_1).f1.f0), .string ((rd_T49 l0 x10_1).f1.f1)] (fun k_ => k_ ≠ gb136) (fun _ => False) rfl (by first | (go_simp; done) | (go_simp; rfl)) ?aP (fun _ hk => hk.elim) ?aF ?aO ?aB ?aS ?aL ?_; (case aP => exact k49_mkM _ _ _ (⟨(rd_T49 l0 x10_1).f0, (⟨(rd_T49 l0 x10_1).f1.f0, (rd_T49 l0 x10_1).f1.f1⟩ : S30)⟩ : S49)); (case aB => exact o1_); (case aF => exact (fun k_ hk => Kd.freshB (g := gb136) (o := .cells #[.string ((rd_T49 l0 x10_1).f0), .int .i64 ((rd_T49 l0 x10_1).f1.f0), .string ((rd_T49 l0 x10_1).f1.f1)] 49 (0, 0)) (by (with_reducible repeat (first | refine blk_drewN ?_ _ | refine blk_drew ?_ | refine blk_alloc ?_ _)); refine blk_put (cs := #[.string ((rd_T49 l0 x10_1).f0), .int .i64 ((rd_T49 l0 x10_1).f1.f0), .string (⟨#[]⟩ : ByteArray)]) ?_ 2 _ rfl; (with_reducible repeat (first | refine blk_drewN ?_ _ | refine blk_drew ?_ | refine blk_alloc ?_ _)); refine blk_put (cs := #[.string ((rd_T49 l0 x10_1).f0), .int .i64 0, .string (⟨#[]⟩ : ByteArray)]) ?_ 1 _ rfl; (with_reducible repeat (first | refine blk_drewN ?_ _ | refine blk_drew ?_ | refine blk_alloc ?_ _)); refine blk_put (cs := #[.string (⟨#[]⟩ : ByteArray), .int .i64 0, .string (⟨#[]⟩ : ByteArray)]) ?_ 0 _ rfl; (with_reducible repeat (first | refine blk_drewN ?_ _ | refine blk_drew ?_ | refine blk_alloc ?_ _)); exact BK136.out) k_ hk)); (case aO => exact (by (with_reducible repeat (first | apply Kd.R_alloc | apply Kd.R_drewN | apply Kd.R_drew)); exact Kd.R_mono (Kd.R_far (p := ⟨gb136, 2, none⟩) (Kd.R_far (p := ⟨gb136, 1, none⟩) (Kd.R_far (p := ⟨gb136, 0, none⟩) (Kd.R_mono HO_5.out (fun k_ hk => (⟨hk, hk.2⟩ : _ ∧ k_ ≠ gb136))) (fun _ hk => hk.2) (.string ((rd_T49 l0 x10_1).f0))) (fun _ hk => hk.2) (.int .i64 ((rd_T49 l0 x10_1).f1.f0))) (fun _ hk => hk.2) (.string ((rd_T49 l0 x10_1).f1.f1))) (fun _ hk => hk.1.2))); (case aS => exact (below_size o1_)); (case aL => have := LMc8.out; omega); intro v139 w11 ho hb hg hat; rw [← Ny138.out] at ho; have n0_ := Aside0.mk (blk_grown (g := gb136) (o := .cells #[.string ((rd_T49 l0 x10_1).f0), .int .i64 ((rd_T49 l0 x10_1).f1.f0), .string ((rd_T49 l0 x10_1).f1.f1)] 49 (0, 0)) (by (with_reducible repeat (first | refine blk_drewN ?_ _ | refine blk_drew ?_ | refine blk_alloc ?_ _)); refine blk_put (cs := #[.string ((rd_T49 l0 x10_1).f0), .int .i64 ((rd_T49 l0 x10_1).f1.f0), .string (⟨#[]⟩ : ByteArray)]) ?_ 2 _ rfl; (with_reducible repeat (first | refine blk_drewN ?_ _ | refine blk_drew ?_ | refine blk_alloc ?_ _)); refine blk_put (cs := #[.string ((rd_T49 l0 x10_1).f0), .int .i64 0, .string (⟨#[]⟩ : ByteArray)]) ?_ 1 _ rfl; (with_reducible repeat (first | refine blk_drewN ?_ _ | refine blk_drew ?_ | refine blk_alloc ?_ _)); refine blk_put (cs := #[.string (⟨#[]⟩ : ByteArray), .int .i64 0, .string (⟨#[]⟩ : ByteArray)]) ?_ 0 _ rfl; (with_reducible repeat (first | refine blk_drewN ?_ _ | refine blk_drew ?_ | refine blk_alloc ?_ _)); exact BK136.out) hg (Kd.R_away HO_5.out (fun _ hk => hk.2))); have n1_ := Aside0.mk (hb); have n2_ := Aside0.mk (ho); clear BK136; clear HB; clear HO_5; have BK136 := n0_; have HB := n1_; have HO140 := n2_; clear n0_ n1_ n2_; clear ho hb hg hat))
        go_roundg k1
        case measure => have := HK1.out; omega
        case rel => exact ⟨(y138), (wrap64 (x10_1 + 1)), sd_, H', ⟨by have := HK1.out; omega⟩, ⟨by (with_reducible repeat (first | apply Kd.R_alloc | apply Kd.R_drewN | apply Kd.R_drew)); exact Kd.R_mono HO140.out (fun _ hk => trivial)⟩, ⟨o1_⟩⟩
       ·
        rw [if_neg c8] at H
        exact absurd H (by simp)
      ·
       replace c7 := Bool.eq_false_iff.mpr c7
       subst c7
       have H1 : (walk_Pick.l0 k1 l1 x5_1 l0 (l0.length : Int) (wrap64 (x10_1 + 1))) = some r := by rw [if_neg (show ¬ (false = true) by decide)] at H; exact H
       clear H
       have H := H1
       clear H1
       have H' := Aside0.mk H
       clear H
       have p135 : 0 ≤ (x10_1 : Int) := oda_
       have q135 : x10_1 < (l0.length : Int) := oda_
       obtain ⟨ad135, e135, hx135_0, hx135_1, hx135_2⟩ := at_T49 HR0.out x10_1 p135 q135
       cases e135
       replace hx135_0 := (HB.out.cell (World.block_lt_of_cell? w _ hx135_0)).trans hx135_0
       replace hx135_1 := (HB.out.cell (World.block_lt_of_cell? w _ hx135_1)).trans hx135_1
       replace hx135_2 := (HB.out.cell (World.block_lt_of_cell? w _ hx135_2)).trans hx135_2
       replace p135 := eq_true p135
       replace q135 := eq_true q135
       go_wp2_with (first | ((with_reducible refine gate_dst (N := 7) rfl ?_); refine box_event ?hg (N := 7) ?hd (cs := #[.string (⟨#[]⟩ : ByteArray), .int .i64 0, .string (⟨#[]⟩ : ByteArray)]) (t := 49) ?hr ?_; (case hd => rfl); (case hg => rfl); (case hr => first | (go_simp; done) | (go_simp; rfl)); intro gb136 hg w12 hbox hb; have n0_ := Aside0.mk (Kd.R_below (Kd.R_elderB (by (with_reducible repeat (first | apply Kd.R_alloc | apply Kd.R_drewN | apply Kd.R_drew)); exact HO_5.out) gb136 (Nat.le_of_eq hg.symm)) hb); have n1_ := Aside0.mk (below_step bw_ hb); have n2_ := Aside0.mk (hbox); have n3_ := Aside0.mk ((by rw [hg]; exact (below_size bw_) : w.heap.size ≤ gb136)); have n4_ := Aside0.mk ((by rw [hg]; exact (below_size bw_) : w.heap.size ≤ gb136)); clear HO_5; clear HB; have HO_5 := n0_; have HB := n1_; have BK136 := n2_; have GW136 := n3_; have GE136 := n4_; clear n0_ n1_ n2_ n3_ n4_; clear hb hbox hg; have hcz13_0 : w12.cell? ⟨gb136, 0, none⟩ = some (.string (⟨#[]⟩ : ByteArray)) := (blk_cell BK136.out 0).trans rfl; have hcz13_1 : w12.cell? ⟨gb136, 1, none⟩ = some (.int .i64 0) := (blk_cell BK136.out 1).trans rfl; have hcz13_2 : w12.cell? ⟨gb136, 2, none⟩ = some (.string (⟨#[]⟩ : ByteArray)) := (blk_cell BK136.out 2).trans rfl; have hfz13_0 := blk_frozen BK136.out 0; have hfz13_1 := blk_frozen BK136.out 1; have hfz13_2 := blk_frozen BK136.out 2) | ((with_reducible refine gate_callee (f := 34) rfl ?_); refine goesL_ (some 17) rfl rfl Tryz.func34 (by kernel_rfl) rfl #[.slice A1 l1.length c1, .string ((rd_T49 l0 x10_1).f0)] rfl la_ ?_; (with_reducible refine (slices_Contains_string_string.calls k1 _ _ l1 ((rd_T49 l0 x10_1).f0) false _ ?side1 ?side2 A6.out).mono ?_); (case side1 => exact Kd.C_below HR1.out o1_); (case side2 => exact HC1.out); rintro e w' ⟨rfl, ⟨nd, rfl⟩⟩; refine ⟨_, rfl, ?_⟩))
       go_roundg k1
       case measure => have := HK1.out; omega
       case rel => exact ⟨(x5_1), (wrap64 (x10_1 + 1)), sd_, H', ⟨by have := HK1.out; omega⟩, ⟨by (with_reducible repeat (first | apply Kd.R_alloc | apply Kd.R_drewN | apply Kd.R_drew)); exact Kd.R_mono (Kd.R_far (p := ⟨gb136, 2, none⟩) (Kd.R_far (p := ⟨gb136, 1, none⟩) (Kd.R_far (p := ⟨gb136, 0, none⟩) (Kd.R_mono HO_5.out (fun k_ hk => (⟨hk, hk.2⟩ : _ ∧ k_ ≠ gb136))) (fun _ hk => hk.2) (.string ((rd_T49 l0 x10_1).f0))) (fun _ hk => hk.2) (.int .i64 ((rd_T49 l0 x10_1).f1.f0))) (fun _ hk => hk.2) (.string ((rd_T49 l0 x10_1).f1.f1))) (fun _ hk => trivial)⟩, ⟨o1_⟩⟩
     ·
      rw [if_neg c5] at H
      exact absurd H (by simp)
    ·
     rw [if_neg c4] at H
     exact absurd H (by simp)
   ·
    rw [if_neg c3] at H
    have c3b0 : decide (x10_1 < (l0.length : Int)) = false := decide_eq_false c3
    clear c3
    obtain rfl := Option.some.inj H
    go_wp2
    go_ret
    exact ⟨_, er_, by (with_reducible repeat (first | apply Kd.R_alloc | apply Kd.R_drewN | apply Kd.R_drew)); exact HO_5.out, bw_⟩
end Go.Proofs.YtehmhfbfgniekaaGreatDoor.PWkB

namespace Go.Proofs.YtehmhfbfgniekaaGreatDoor.Wk
set_option linter.unusedVariables false
set_option linter.unusedSimpArgs false
structure As (p : Prop) : Prop where
  out : p
inductive Reach (nxt : ByteArray → List ByteArray) (tips : List ByteArray) : ByteArray → Prop
  | tip {s : ByteArray} : s ∈ tips → Reach nxt tips s
  | step {s t : ByteArray} : Reach nxt tips s → t ∈ nxt s → Reach nxt tips t
variable {nxt : ByteArray → List ByteArray} {tips : List ByteArray}
theorem Reach.sub {q : ByteArray → Prop} (h1 : ∀ s ∈ tips, q s) (h2 : ∀ s t, q s → t ∈ nxt s → q t) {s : ByteArray} (h : Reach nxt tips s) : q s := by
  induction h with
  | tip h => exact h1 _ h
  | step h ht ih => exact h2 _ _ ih ht
theorem Reach.of {tips' : List ByteArray} (hs : ∀ s ∈ tips, Reach nxt tips' s) {s : ByteArray} (h : Reach nxt tips s) : Reach nxt tips' s :=
  h.sub hs (fun _ _ a b => .step a b)
structure Sn (nxt : ByteArray → List ByteArray) (tips : List ByteArray) (seen todo : List ByteArray) : Prop where
  a : ∀ s ∈ seen, Reach nxt tips s
  b : ∀ s ∈ todo, Reach nxt tips s
  c : ∀ s ∈ tips, s ∈ seen ∨ s ∈ todo
  d : ∀ s ∈ seen, ∀ t ∈ nxt s, t ∈ seen ∨ t ∈ todo
theorem Sn.first : Sn nxt tips [] tips := ⟨fun _ h => (by cases h), fun _ h => .tip h, fun _ h => .inr h, fun _ h => (by cases h)⟩
theorem Sn.done {seen : List ByteArray} (h : Sn nxt tips seen []) (s : ByteArray) : s ∈ seen ↔ Reach nxt tips s :=
  ⟨h.a s, fun k => k.sub (fun s hs => (h.c s hs).elim id (fun e => by cases e)) (fun s t hs ht => (h.d s hs t ht).elim id (fun e => by cases e))⟩
theorem Sn.skip {seen todo todo' : List ByteArray} {s : ByteArray} (h : Sn nxt tips seen todo) (ht : ∀ x, x ∈ todo ↔ x = s ∨ x ∈ todo') (hs : s ∈ seen) : Sn nxt tips seen todo' where
  a := h.a
  b := fun x hx => h.b x ((ht x).2 (.inr hx))
  c := fun x hx => (h.c x hx).elim .inl (fun k => ((ht x).1 k).elim (fun e => .inl (e ▸ hs)) .inr)
  d := fun x hx y hy => (h.d x hx y hy).elim .inl (fun k => ((ht y).1 k).elim (fun e => .inl (e ▸ hs)) .inr)
theorem Sn.take {seen todo todo' seen' todo'' : List ByteArray} {s : ByteArray} (h : Sn nxt tips seen todo) (ht : ∀ x, x ∈ todo ↔ x = s ∨ x ∈ todo') (hs : ∀ x, x ∈ seen' ↔ x = s ∨ x ∈ seen) (hu : ∀ x, x ∈ todo'' ↔ x ∈ todo' ∨ x ∈ nxt s) : Sn nxt tips seen' todo'' where
  a := fun x hx => ((hs x).1 hx).elim (fun e => e ▸ h.b s ((ht s).2 (.inl rfl))) (h.a x)
  b := fun x hx => ((hu x).1 hx).elim (fun k => h.b x ((ht x).2 (.inr k))) (fun k => .step (h.b s ((ht s).2 (.inl rfl))) k)
  c := fun x hx => (h.c x hx).elim (fun k => .inl ((hs x).2 (.inr k))) (fun k => ((ht x).1 k).elim (fun e => .inl ((hs x).2 (.inl e))) (fun e => .inr ((hu x).2 (.inl e))))
  d := fun x hx y hy => ((hs x).1 hx).elim (fun e => .inr ((hu y).2 (.inr (e ▸ hy)))) (fun k => (h.d x k y hy).elim (fun e => .inl ((hs y).2 (.inr e))) (fun e => ((ht y).1 e).elim (fun e => .inl ((hs y).2 (.inl e))) (fun e => .inr ((hu y).2 (.inl e)))))
open Classical in
noncomputable def Mu (nxt : ByteArray → List ByteArray) (keys seen : List ByteArray) : Nat := (keys.map (fun k => if k ∈ seen then 0 else (nxt k).length)).sum
theorem Mu.le (nxt : ByteArray → List ByteArray) (keys seen : List ByteArray) (M : Nat) (h : ∀ k, (nxt k).length ≤ M) : Mu nxt keys seen ≤ keys.length * M := by
  classical
  unfold Mu
  induction keys with
  | nil => simp
  | cons k r ih =>
    rw [List.map_cons, List.sum_cons, List.length_cons, Nat.succ_mul]
    have := h k
    split <;> omega
theorem Mu.take {keys seen seen' : List ByteArray} {s : ByteArray} (hn : s ∉ seen) (hs : ∀ x, x ∈ seen' ↔ x = s ∨ x ∈ seen) (hk : s ∈ keys ∨ nxt s = []) : Mu nxt keys seen' + (nxt s).length ≤ Mu nxt keys seen := by
  classical
  have hle : ∀ l : List ByteArray, (l.map (fun k => if k ∈ seen' then 0 else (nxt k).length)).sum ≤ (l.map (fun k => if k ∈ seen then 0 else (nxt k).length)).sum := by
    intro l
    induction l with
    | nil => simp
    | cons k r ih =>
      rw [List.map_cons, List.sum_cons, List.map_cons, List.sum_cons]
      by_cases h : k ∈ seen
      · rw [if_pos h, if_pos ((hs k).2 (.inr h))]; omega
      · rw [if_neg h]; split <;> omega
  unfold Mu
  rcases hk with hk | hk
  · induction keys with
    | nil => cases hk
    | cons k r ih =>
      rw [List.map_cons, List.sum_cons, List.map_cons, List.sum_cons]
      by_cases e : k = s
      · subst e
        rw [if_neg hn, if_pos ((hs k).2 (.inl rfl))]
        have := hle r
        omega
      · have hr : s ∈ r := (List.mem_cons.1 hk).elim (fun h => absurd h.symm e) id
        have := ih hr
        by_cases h : k ∈ seen
        · rw [if_pos h, if_pos ((hs k).2 (.inr h))]; omega
        · rw [if_neg h, if_neg (fun h' => ((hs k).1 h').elim e h)]; omega
  · rw [hk, List.length_nil, Nat.add_zero]; exact hle keys
theorem reach_list (keys : List ByteArray) (hk : ∀ s, s ∈ keys ∨ nxt s = []) : ∀ (m : Nat) (seen todo : List ByteArray), todo.length + Mu nxt keys seen ≤ m → Sn nxt tips seen todo → ∃ seen' : List ByteArray, ∀ s : ByteArray, s ∈ seen' ↔ Reach nxt tips s
  | m, seen, [], _, h => ⟨seen, h.done⟩
  | 0, seen, x :: r, hm, _ => by rw [List.length_cons] at hm; omega
  | m + 1, seen, x :: r, hm, h => by
    classical
    rw [List.length_cons] at hm
    by_cases hx : x ∈ seen
    · exact reach_list keys hk m seen r (by omega) (h.skip (fun y => List.mem_cons) hx)
    · have h2 := Mu.take (nxt := nxt) (keys := keys) (seen' := x :: seen) hx (fun y => List.mem_cons) (hk x)
      refine reach_list keys hk m (x :: seen) (r ++ nxt x) ?_ (h.take (fun y => List.mem_cons) (fun y => List.mem_cons) (fun y => List.mem_append))
      rw [List.length_append]; omega
structure Rises (p : ByteArray → Prop) (ks : List ByteArray) : Prop where
  up : ks.Pairwise (fun x y => x.data.toList < y.data.toList)
  mem : ∀ s, s ∈ ks ↔ p s
theorem Rises.nodup {p : ByteArray → Prop} {a : List ByteArray} (h : Rises p a) : a.Nodup := h.up.imp (fun {x y} h e => by subst e; exact List.lt_irrefl _ h)
theorem up_eq {a b : List ByteArray} (ha : a.Pairwise (fun x y => x.data.toList < y.data.toList)) (hb : b.Pairwise (fun x y => x.data.toList < y.data.toList)) (h : ∀ s, s ∈ a ↔ s ∈ b) : a = b := by
  have nd : ∀ {l : List ByteArray}, l.Pairwise (fun x y => x.data.toList < y.data.toList) → l.Nodup := fun h => h.imp (fun {x y} h e => by subst e; exact List.lt_irrefl _ h)
  exact List.Perm.eq_of_pairwise (le := fun x y => x.data.toList < y.data.toList) (fun x y _ _ h1 h2 => absurd (List.lt_trans h1 h2) (List.lt_irrefl _)) ha hb ((List.perm_ext_iff_of_nodup (nd ha) (nd hb)).2 h)
theorem Rises.eq {p q : ByteArray → Prop} {a b : List ByteArray} (ha : Rises p a) (hb : Rises q b) (h : ∀ s, p s ↔ q s) : a = b :=
  up_eq ha.up hb.up (fun s => by rw [ha.mem, hb.mem, h])
open Classical in
noncomputable def onceL : List ByteArray → List ByteArray
  | [] => []
  | x :: r => if x ∈ r then onceL r else x :: onceL r
theorem mem_once (l : List ByteArray) (s : ByteArray) : s ∈ onceL l ↔ s ∈ l := by
  induction l with
  | nil => exact Iff.rfl
  | cons x r ih =>
    unfold onceL
    split
    · rename_i h
      rw [ih, List.mem_cons]
      exact ⟨Or.inr, fun k => k.elim (fun e => e ▸ h) id⟩
    · rw [List.mem_cons, List.mem_cons, ih]
theorem nodup_once (l : List ByteArray) : (onceL l).Nodup := by
  induction l with
  | nil => exact List.nodup_nil
  | cons x r ih =>
    unfold onceL
    split
    · exact ih
    · rename_i h
      exact List.nodup_cons.2 ⟨fun k => h ((mem_once r x).1 k), ih⟩
noncomputable def sortL (l : List ByteArray) : List ByteArray := l.mergeSort (fun x y => decide (x.data.toList ≤ y.data.toList))
theorem bytes_inj {a b : ByteArray} (h : a.data.toList = b.data.toList) : a = b := ByteArray.ext (Array.ext' h)
theorem rises_sort {p : ByteArray → Prop} (l : List ByteArray) (hn : l.Nodup) (h : ∀ s, s ∈ l ↔ p s) : Rises p (sortL l) := by
  have hp := List.mergeSort_perm l (fun x y => decide (x.data.toList ≤ y.data.toList))
  have hso : (sortL l).Pairwise (fun x y => decide (x.data.toList ≤ y.data.toList) = true) := by
    refine List.pairwise_mergeSort (fun a b c h1 h2 => ?_) (fun a b => ?_) _
    · simp only [decide_eq_true_eq] at *; exact List.le_trans h1 h2
    · simp only [Bool.or_eq_true, decide_eq_true_eq]; exact List.le_total _ _
  have hnd : (sortL l).Nodup := hp.nodup_iff.2 hn
  refine ⟨(hso.and hnd).imp fun {x y} h => ?_, fun s => ?_⟩
  · exact Std.lt_of_le_of_ne (of_decide_eq_true h.1) (fun e => h.2 (bytes_inj e))
  · rw [← h]; exact hp.mem_iff
open Classical in
noncomputable def riseS (p : ByteArray → Prop) : List ByteArray := if h : ∃ ks, Rises p ks then h.choose else []
theorem rises_of {p : ByteArray → Prop} (l : List ByteArray) (h : ∀ s, s ∈ l ↔ p s) : Rises p (riseS p) := by
  have hex : ∃ ks, Rises p ks := ⟨_, rises_sort (onceL l) (nodup_once l) (fun s => (mem_once l s).trans (h s))⟩
  unfold riseS
  rw [dif_pos hex]; exact hex.choose_spec
theorem Rises.riseS {p : ByteArray → Prop} {ks : List ByteArray} (h : Rises p ks) : riseS p = ks := (rises_of ks h.mem).eq h (fun _ => Iff.rfl)
theorem Rises.len_lt {p q : ByteArray → Prop} {a b : List ByteArray} (ha : Rises p a) (hb : Rises q b) (h : ∀ s, p s → q s) {x : ByteArray} (hx : q x) (hn : ¬ p x) : a.length < b.length := by
  have hc : (x :: a).Nodup := List.nodup_cons.2 ⟨fun k => hn ((ha.mem x).1 k), ha.nodup⟩
  have := (hc.length_le_of_subset (l₂ := b) (fun s hs => (List.mem_cons.1 hs).elim (fun e => (hb.mem s).2 (e ▸ hx)) (fun k => (hb.mem s).2 (h s ((ha.mem s).1 k)))))
  rw [List.length_cons] at this; omega
structure Told (nxt : ByteArray → List ByteArray) (tips xs : List ByteArray) : Prop where
  once : xs.Nodup
  all : ∀ s, s ∈ xs ↔ Reach nxt tips s
end Go.Proofs.YtehmhfbfgniekaaGreatDoor.Wk
