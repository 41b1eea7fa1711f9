/- Functions as the kit's printer (print.py) writes them, over contracts that this seat's own texts give. No condition but the reach of what comes in. -/
import Derived.Test.YtacgchklilfcaaaGreatDoorZPRfBasex0
import Derived.Test.YtacgchklilfcaaaGreatDoorZPRfBasex3
import Derived.Test.YtacgchklilfcaaaGreatDoorZPRfBasex4
namespace Go.Proofs.YtacgchklilfcaaaGreatDoor.PRfBase
open Go.RowKit Go.Proofs.YtacgchklilfcaaaGreatDoorW.PrintWords Go.Proofs.YtacgchklilfcaaaGreatDoorW.PrintLast Go.Proofs.YtacgchklilfcaaaGreatDoorW.PrintMore
attribute [local go_sem] StrSem.leq_str StrSem.geq_str StrSem.gtr_str max2_int min2_int max_two min_two max_three min_three max_four min_four   -- for this text's walks alone
set_option linter.unusedVariables false
set_option linter.unusedSimpArgs false
noncomputable def r09_Find.l0 : Nat → List (S46) → ByteArray → Int → Option (ByteArray)
 | 0, _, _, _ => none
 | k + 1, x0, x1, x5 => if x5 < (x0.length : Int) then (if 0 ≤ x5 then (if ((rd_T46 x0 x5).f0).toList = x1.toList then (some ((rd_T46 x0 x5).f1)) else (r09_Find.l0 k x0 x1 (wrap64 (x5 + 1)))) else (none)) else (some (⟨#[]⟩ : ByteArray))
noncomputable def r09_Find.f (k : Nat) (l0 : List (S46)) (a1 : ByteArray) : Option (ByteArray) := r09_Find.l0 k l0 a1 0
set_option maxHeartbeats 8000000 in
set_option maxRecDepth 100000 in
theorem r09_Find.calls (k : Nat) (A0 : Option Addr) (c0 : Nat) (l0 : List (S46)) (a1 : ByteArray) (r : ByteArray) (w : World) (hr0 : Kd.C k46 w A0 l0.length l0) (hc0 : l0.length ≤ c0) (h : r09_Find.f k l0 a1 = some r) :
  Calls Tryz.prog 14 #[.slice A0 l0.length c0, .string a1] w fun e w' => e = .returned (.string r) ∧ Drawn0 w w' := by
 have HR0 := Aside0.mk hr0
 have HC0 := Aside0.mk hc0
 clear hr0 hc0
 have H : (r09_Find.l0 k l0 a1 0) = some r := h
 clear h
 have H' := Aside0.mk H
 clear H
 go_enter Tryz.func14, Tryz.ntmps14
 go_wp2
 go_loopg [5] k (fun kq v5 w' => ∃ (x5_1 : Int), v5 = .int .i64 x5_1 ∧ Aside0 (r09_Find.l0 kq l0 a1 x5_1 = some r) ∧ Aside0 (kq ≤ k) ∧ Drawn0 w w')
 case atStart => exact ⟨(0), (by first | rfl | (simp; done) | (simp [*]; done)), H', ⟨Nat.le_refl _⟩, by repeat (first | exact Drawn0.refl _ | apply Drawn0.step)⟩
 case round =>
  clear H'
  try clear c1
  try clear p2
  obtain ⟨x5_1, rfl, HA, HK1, ⟨m1, rfl⟩⟩ := hrel
  cases gk with
  | zero => exact absurd HA.out (by simp [r09_Find.l0])
  | succ k1 =>
   have H := HA.out
   clear HA
   simp only [r09_Find.l0] at H
   by_cases c3 : x5_1 < (l0.length : Int)
   ·
    rw [if_pos c3] at H
    have c3b0 : decide (x5_1 < (l0.length : Int)) = true := decide_eq_true c3
    clear c3
    by_cases c4 : 0 ≤ x5_1
    ·
     rw [if_pos c4] at H
     have c4b0 : decide (0 ≤ x5_1) = true := decide_eq_true c4
     clear c4
     by_cases c5 : ((rd_T46 l0 x5_1).f0).toList = a1.toList
     ·
      rw [if_pos c5] at H
      have c5b0 : (((rd_T46 l0 x5_1).f0).toList == a1.toList) = true := beq_iff_eq.mpr c5
      have c5b1 : (((rd_T46 l0 x5_1).f0).toList != a1.toList) = false := bne_eq_false_iff_eq.mpr c5
      clear c5
      obtain rfl := Option.some.inj H
      have p118 : 0 ≤ (x5_1 : Int) := oda_
      have q118 : x5_1 < (l0.length : Int) := oda_
      obtain ⟨ad118, e118, hx118_0, hx118_1⟩ := at_T46 HR0.out x5_1 p118 q118
      cases e118
      replace p118 := eq_true p118
      replace q118 := eq_true q118
      have p119 : 0 ≤ (x5_1 : Int) := oda_
      have q119 : x5_1 < (l0.length : Int) := oda_
      obtain ⟨ad119, e119, hx119_0, hx119_1⟩ := at_T46 HR0.out x5_1 p119 q119
      obtain rfl : ad118 = ad119 := (by injection e119)
      replace p119 := eq_true p119
      replace q119 := eq_true q119
      go_wp2
      go_ret
      exact ⟨by first | rfl | (simp; done) | (simp [*]; done), by repeat (first | exact Drawn0.refl _ | apply Drawn0.step)⟩
     ·
      rw [if_neg c5] at H
      have c5b0 : (((rd_T46 l0 x5_1).f0).toList == a1.toList) = false := beq_eq_false_iff_ne.mpr c5
      have c5b1 : (((rd_T46 l0 x5_1).f0).toList != a1.toList) = true := bne_iff_ne.mpr c5
      have H' := Aside0.mk H
      clear H
      have p118 : 0 ≤ (x5_1 : Int) := oda_
      have q118 : x5_1 < (l0.length : Int) := oda_
      obtain ⟨ad118, e118, hx118_0, hx118_1⟩ := at_T46 HR0.out x5_1 p118 q118
      cases e118
      replace p118 := eq_true p118
      replace q118 := eq_true q118
      go_wp2
      go_roundg k1
      case measure => have := HK1.out; omega
      case rel => exact ⟨(wrap64 (x5_1 + 1)), (by first | rfl | (simp; done) | (simp [*]; done)), H', ⟨by have := HK1.out; omega⟩, by repeat (first | exact Drawn0.refl _ | apply Drawn0.step)⟩
    ·
     rw [if_neg c4] at H
     exact absurd H (by simp)
   ·
    rw [if_neg c3] at H
    have c3b0 : decide (x5_1 < (l0.length : Int)) = false := decide_eq_false c3
    clear c3
    obtain rfl := Option.some.inj H
    go_wp2
    go_ret
    exact ⟨by first | rfl | (simp; done) | (simp [*]; done), by repeat (first | exact Drawn0.refl _ | apply Drawn0.step)⟩
mutual
noncomputable def r09_wrong.l0 : Nat → List (S40) → Int → Option (Int)
 | 0, _, _ => none
 | k + 1, x0, x3 => if x3 < (x0.length : Int) then (if 0 ≤ x3 then ((r09_Named.f k ((rd_T40 x0 x3).f0)).bind fun t122 => (if t122 = true then (if ((rd_T40 x0 x3).f1).toList = ([] : List UInt8) then (if ((rd_T40 x0 x3).f2).toList = ([] : List UInt8) then (r09_wrong.j1 k x0 x3 (((rd_T40 x0 x3).f2).toList == ([] : List UInt8)) ((rd_T40 x0 x3).f0) ((rd_T40 x0 x3).f1) ((rd_T40 x0 x3).f2)) else ((r02_Named.f k ((rd_T40 x0 x3).f2)).bind fun t123 => (if t123 = true then (r09_wrong.j1 k x0 x3 (((rd_T40 x0 x3).f2).toList == ([] : List UInt8)) ((rd_T40 x0 x3).f0) ((rd_T40 x0 x3).f1) ((rd_T40 x0 x3).f2)) else (r09_wrong.j1 k x0 x3 true ((rd_T40 x0 x3).f0) ((rd_T40 x0 x3).f1) ((rd_T40 x0 x3).f2))))) else ((r02_Named.f k ((rd_T40 x0 x3).f1)).bind fun t124 => (if t124 = true then (if ((rd_T40 x0 x3).f2).toList = ([] : List UInt8) then (r09_wrong.j1 k x0 x3 false ((rd_T40 x0 x3).f0) ((rd_T40 x0 x3).f1) ((rd_T40 x0 x3).f2)) else ((r02_Named.f k ((rd_T40 x0 x3).f2)).bind fun t125 => (if t125 = true then (r09_wrong.j1 k x0 x3 false ((rd_T40 x0 x3).f0) ((rd_T40 x0 x3).f1) ((rd_T40 x0 x3).f2)) else (r09_wrong.j1 k x0 x3 true ((rd_T40 x0 x3).f0) ((rd_T40 x0 x3).f1) ((rd_T40 x0 x3).f2))))) else (r09_wrong.j1 k x0 x3 true ((rd_T40 x0 x3).f0) ((rd_T40 x0 x3).f1) ((rd_T40 x0 x3).f2))))) else (r09_wrong.j1 k x0 x3 true ((rd_T40 x0 x3).f0) ((rd_T40 x0 x3).f1) ((rd_T40 x0 x3).f2)))) else (none)) else (some (-1))
noncomputable def r09_wrong.j1 : Nat → List (S40) → Int → Bool → ByteArray → ByteArray → ByteArray → Option (Int)
 | 0, _, _, _, _, _, _ => none
 | k + 1, x0, x3, x5, x122000, x122001, x122002 => r09_wrong.l1 k x0 x3 x5 0 x122000 x122001 x122002
noncomputable def r09_wrong.l1 : Nat → List (S40) → Int → Bool → Int → ByteArray → ByteArray → ByteArray → Option (Int)
 | 0, _, _, _, _, _, _, _ => none
 | k + 1, x0, x3, x5, x6, x122000, x122001, x122002 => if x6 < x3 then (if x5 = true then (r09_wrong.l1 k x0 x3 true (wrap64 (x6 + 1)) x122000 x122001 x122002) else (if 0 ≤ x6 then (if x6 < (x0.length : Int) then (r09_wrong.l1 k x0 x3 (((rd_T40 x0 x6).f0).toList == x122000.toList) (wrap64 (x6 + 1)) x122000 x122001 x122002) else (none)) else (none))) else (if x5 = true then (some x3) else (r09_wrong.l0 k x0 (wrap64 (x3 + 1))))
end
noncomputable def r09_wrong.f (k : Nat) (l0 : List (S40)) : Option (Int) := r09_wrong.l0 k l0 0
set_option maxHeartbeats 8000000 in
set_option maxRecDepth 100000 in
theorem r09_wrong.calls (k : Nat) (A0 : Option Addr) (c0 : Nat) (l0 : List (S40)) (r : Int) (w : World) (hr0 : Kd.C k40 w A0 l0.length l0) (hc0 : l0.length ≤ c0) (h : r09_wrong.f k l0 = some r) :
  Calls Tryz.prog 30 #[.slice A0 l0.length c0] w fun e w' => e = .returned (.int .i64 r) ∧ Below w.heap.size w w' := by
 have hu40 := Tryz.underlying40
 have HR0 := Aside0.mk hr0
 have HC0 := Aside0.mk hc0
 clear hr0 hc0
 have HB := Aside0.mk (Below.refl w.heap.size w)
 have H : (r09_wrong.l0 k l0 0) = some r := h
 clear h
 have H' := Aside0.mk H
 clear H
 go_enter Tryz.func30, Tryz.ntmps30
 go_wp2
 repeat (go_quiet (fail); try go_wp2)
 go_loopg [3] k (fun kq v3 w' => ∃ (x3_1 : Int), v3 = .int .i64 x3_1 ∧ Aside0 (r09_wrong.l0 kq l0 x3_1 = some r) ∧ Aside0 (kq ≤ k) ∧ Aside0 (Below w.heap.size w w'))
 case atStart => exact ⟨(0), (by first | rfl | (simp; done) | (simp [*]; done)), H', ⟨Nat.le_refl _⟩, ⟨by repeat (first | (with_reducible first | exact HB.out | apply below_alloc | apply pw_below_drewN | apply below_drew1) | exact HB.out)⟩⟩
 case round =>
  clear H'
  obtain ⟨x3_1, rfl, HA, HK1, HB⟩ := hrel
  cases gk with
  | zero => exact absurd HA.out (by simp [r09_wrong.l0])
  | succ k1 =>
   have H := HA.out
   clear HA
   simp only [r09_wrong.l0] at H
   by_cases c2 : x3_1 < (l0.length : Int)
   ·
    rw [if_pos c2] at H
    have c2b0 : decide (x3_1 < (l0.length : Int)) = true := decide_eq_true c2
    clear c2
    by_cases c3 : 0 ≤ x3_1
    ·
     rw [if_pos c3] at H
     have c3b0 : decide (0 ≤ x3_1) = true := decide_eq_true c3
     clear c3
     have HC4 := Aside0.mk H
     clear H
     have p120 : 0 ≤ (x3_1 : Int) := oda_
     have q120 : x3_1 < (l0.length : Int) := oda_
     obtain ⟨ad120, e120, hx120_0, hx120_1, hx120_2⟩ := at_T40 HR0.out x3_1 p120 q120
     cases e120
     replace hx120_0 := (HB.out.cell (World.block_lt_of_cell? w _ hx120_0)).trans hx120_0
     replace hx120_1 := (HB.out.cell (World.block_lt_of_cell? w _ hx120_1)).trans hx120_1
     replace hx120_2 := (HB.out.cell (World.block_lt_of_cell? w _ hx120_2)).trans hx120_2
     replace p120 := eq_true p120
     replace q120 := eq_true q120
     go_upto_region 5 with (first | ((with_reducible refine gate_dst (N := 4) rfl ?_); refine box_event ?hg (N := 4) ?hd (cs := #[.string (⟨#[]⟩ : ByteArray), .string (⟨#[]⟩ : ByteArray), .string (⟨#[]⟩ : ByteArray)]) (t := 40) ?hr ?_; (case hd => rfl); (case hg => rfl); (case hr => first | (go_simp; done) | (go_simp; rfl)); intro gb121 hg w5 hbox hb; have n0_ := Aside0.mk (below_step (by repeat (first | (with_reducible first | exact HB.out | apply below_alloc | apply pw_below_drewN | apply below_drew1) | exact HB.out)) hb); have n1_ := Aside0.mk (hbox); have n2_ := Aside0.mk ((by rw [hg]; exact (below_size (by repeat (first | (with_reducible first | exact HB.out | apply below_alloc | apply pw_below_drewN | apply below_drew1) | exact HB.out))) : w.heap.size ≤ gb121)); have n3_ := Aside0.mk ((by rw [hg]; exact (below_size (by repeat (first | (with_reducible first | exact HB.out | apply below_alloc | apply pw_below_drewN | apply below_drew1) | exact HB.out))) : w.heap.size ≤ gb121)); clear HB; have HB := n0_; have BK121 := n1_; have GW121 := n2_; have GE121 := n3_; clear n0_ n1_ n2_ n3_; clear hb hbox hg; have hcz6_0 : w5.cell? ⟨gb121, 0, none⟩ = some (.string (⟨#[]⟩ : ByteArray)) := (blk_cell BK121.out 0).trans rfl; have hcz6_1 : w5.cell? ⟨gb121, 1, none⟩ = some (.string (⟨#[]⟩ : ByteArray)) := (blk_cell BK121.out 1).trans rfl; have hcz6_2 : w5.cell? ⟨gb121, 2, none⟩ = some (.string (⟨#[]⟩ : ByteArray)) := (blk_cell BK121.out 2).trans rfl; have hfz6_0 := blk_frozen BK121.out 0; have hfz6_1 := blk_frozen BK121.out 1; have hfz6_2 := blk_frozen BK121.out 2))
     repeat (go_quiet (first | ((with_reducible refine gate_dst (N := 4) rfl ?_); refine box_event ?hg (N := 4) ?hd (cs := #[.string (⟨#[]⟩ : ByteArray), .string (⟨#[]⟩ : ByteArray), .string (⟨#[]⟩ : ByteArray)]) (t := 40) ?hr ?_; (case hd => rfl); (case hg => rfl); (case hr => first | (go_simp; done) | (go_simp; rfl)); intro gb121 hg w5 hbox hb; have n0_ := Aside0.mk (below_step (by repeat (first | (with_reducible first | exact HB.out | apply below_alloc | apply pw_below_drewN | apply below_drew1) | exact HB.out)) hb); have n1_ := Aside0.mk (hbox); have n2_ := Aside0.mk ((by rw [hg]; exact (below_size (by repeat (first | (with_reducible first | exact HB.out | apply below_alloc | apply pw_below_drewN | apply below_drew1) | exact HB.out))) : w.heap.size ≤ gb121)); have n3_ := Aside0.mk ((by rw [hg]; exact (below_size (by repeat (first | (with_reducible first | exact HB.out | apply below_alloc | apply pw_below_drewN | apply below_drew1) | exact HB.out))) : w.heap.size ≤ gb121)); clear HB; have HB := n0_; have BK121 := n1_; have GW121 := n2_; have GE121 := n3_; clear n0_ n1_ n2_ n3_; clear hb hbox hg; have hcz6_0 : w5.cell? ⟨gb121, 0, none⟩ = some (.string (⟨#[]⟩ : ByteArray)) := (blk_cell BK121.out 0).trans rfl; have hcz6_1 : w5.cell? ⟨gb121, 1, none⟩ = some (.string (⟨#[]⟩ : ByteArray)) := (blk_cell BK121.out 1).trans rfl; have hcz6_2 : w5.cell? ⟨gb121, 2, none⟩ = some (.string (⟨#[]⟩ : ByteArray)) := (blk_cell BK121.out 2).trans rfl; have hfz6_0 := blk_frozen BK121.out 0; have hfz6_1 := blk_frozen BK121.out 1; have hfz6_2 := blk_frozen BK121.out 2)); go_upto_region 5 with (first | ((with_reducible refine gate_dst (N := 4) rfl ?_); refine box_event ?hg (N := 4) ?hd (cs := #[.string (⟨#[]⟩ : ByteArray), .string (⟨#[]⟩ : ByteArray), .string (⟨#[]⟩ : ByteArray)]) (t := 40) ?hr ?_; (case hd => rfl); (case hg => rfl); (case hr => first | (go_simp; done) | (go_simp; rfl)); intro gb121 hg w5 hbox hb; have n0_ := Aside0.mk (below_step (by repeat (first | (with_reducible first | exact HB.out | apply below_alloc | apply pw_below_drewN | apply below_drew1) | exact HB.out)) hb); have n1_ := Aside0.mk (hbox); have n2_ := Aside0.mk ((by rw [hg]; exact (below_size (by repeat (first | (with_reducible first | exact HB.out | apply below_alloc | apply pw_below_drewN | apply below_drew1) | exact HB.out))) : w.heap.size ≤ gb121)); have n3_ := Aside0.mk ((by rw [hg]; exact (below_size (by repeat (first | (with_reducible first | exact HB.out | apply below_alloc | apply pw_below_drewN | apply below_drew1) | exact HB.out))) : w.heap.size ≤ gb121)); clear HB; have HB := n0_; have BK121 := n1_; have GW121 := n2_; have GE121 := n3_; clear n0_ n1_ n2_ n3_; clear hb hbox hg; have hcz6_0 : w5.cell? ⟨gb121, 0, none⟩ = some (.string (⟨#[]⟩ : ByteArray)) := (blk_cell BK121.out 0).trans rfl; have hcz6_1 : w5.cell? ⟨gb121, 1, none⟩ = some (.string (⟨#[]⟩ : ByteArray)) := (blk_cell BK121.out 1).trans rfl; have hcz6_2 : w5.cell? ⟨gb121, 2, none⟩ = some (.string (⟨#[]⟩ : ByteArray)) := (blk_cell BK121.out 2).trans rfl; have hfz6_0 := blk_frozen BK121.out 0; have hfz6_1 := blk_frozen BK121.out 1; have hfz6_2 := blk_frozen BK121.out 2)))
     (try simp only [Act.put, List.setIfInBounds_toArray, List.set_cons_zero, List.set_cons_succ])
     go_cut [5] (fun v5 wc => ∃ (kq : Nat) (x5_3 : Bool), v5 = .bool x5_3 ∧ Aside0 (r09_wrong.j1 kq l0 x3_1 x5_3 ((rd_T40 l0 x3_1).f0) ((rd_T40 l0 x3_1).f1) ((rd_T40 l0 x3_1).f2) = some r) ∧ Aside0 (kq ≤ k1) ∧ Aside0 (wc.heap[gb121]? = some (.cells #[.string ((rd_T40 l0 x3_1).f0), .string ((rd_T40 l0 x3_1).f1), .string ((rd_T40 l0 x3_1).f2)] 40 (0, 0))) ∧ Aside0 (Below w.heap.size w wc))
     case first =>
      have H := HC4.out
      clear HC4
      replace H := Option.bind_eq_some_iff.mp H
      obtain ⟨t122, A70, H⟩ := H
      replace H : (if t122 = true then (if ((rd_T40 l0 x3_1).f1).toList = ([] : List UInt8) then (if ((rd_T40 l0 x3_1).f2).toList = ([] : List UInt8) then (r09_wrong.j1 k1 l0 x3_1 (((rd_T40 l0 x3_1).f2).toList == ([] : List UInt8)) ((rd_T40 l0 x3_1).f0) ((rd_T40 l0 x3_1).f1) ((rd_T40 l0 x3_1).f2)) else ((r02_Named.f k1 ((rd_T40 l0 x3_1).f2)).bind fun t123 => (if t123 = true then (r09_wrong.j1 k1 l0 x3_1 (((rd_T40 l0 x3_1).f2).toList == ([] : List UInt8)) ((rd_T40 l0 x3_1).f0) ((rd_T40 l0 x3_1).f1) ((rd_T40 l0 x3_1).f2)) else (r09_wrong.j1 k1 l0 x3_1 true ((rd_T40 l0 x3_1).f0) ((rd_T40 l0 x3_1).f1) ((rd_T40 l0 x3_1).f2))))) else ((r02_Named.f k1 ((rd_T40 l0 x3_1).f1)).bind fun t124 => (if t124 = true then (if ((rd_T40 l0 x3_1).f2).toList = ([] : List UInt8) then (r09_wrong.j1 k1 l0 x3_1 false ((rd_T40 l0 x3_1).f0) ((rd_T40 l0 x3_1).f1) ((rd_T40 l0 x3_1).f2)) else ((r02_Named.f k1 ((rd_T40 l0 x3_1).f2)).bind fun t125 => (if t125 = true then (r09_wrong.j1 k1 l0 x3_1 false ((rd_T40 l0 x3_1).f0) ((rd_T40 l0 x3_1).f1) ((rd_T40 l0 x3_1).f2)) else (r09_wrong.j1 k1 l0 x3_1 true ((rd_T40 l0 x3_1).f0) ((rd_T40 l0 x3_1).f1) ((rd_T40 l0 x3_1).f2))))) else (r09_wrong.j1 k1 l0 x3_1 true ((rd_T40 l0 x3_1).f0) ((rd_T40 l0 x3_1).f1) ((rd_T40 l0 x3_1).f2))))) else (r09_wrong.j1 k1 l0 x3_1 true ((rd_T40 l0 x3_1).f0) ((rd_T40 l0 x3_1).f1) ((rd_T40 l0 x3_1).f2))) = some r := H
      have A7 := Aside0.mk A70
      clear A70
      by_cases c8 : t122 = true
      ·
       subst c8
       have H1 : (if ((rd_T40 l0 x3_1).f1).toList = ([] : List UInt8) then (if ((rd_T40 l0 x3_1).f2).toList = ([] : List UInt8) then (r09_wrong.j1 k1 l0 x3_1 (((rd_T40 l0 x3_1).f2).toList == ([] : List UInt8)) ((rd_T40 l0 x3_1).f0) ((rd_T40 l0 x3_1).f1) ((rd_T40 l0 x3_1).f2)) else ((r02_Named.f k1 ((rd_T40 l0 x3_1).f2)).bind fun t123 => (if t123 = true then (r09_wrong.j1 k1 l0 x3_1 (((rd_T40 l0 x3_1).f2).toList == ([] : List UInt8)) ((rd_T40 l0 x3_1).f0) ((rd_T40 l0 x3_1).f1) ((rd_T40 l0 x3_1).f2)) else (r09_wrong.j1 k1 l0 x3_1 true ((rd_T40 l0 x3_1).f0) ((rd_T40 l0 x3_1).f1) ((rd_T40 l0 x3_1).f2))))) else ((r02_Named.f k1 ((rd_T40 l0 x3_1).f1)).bind fun t124 => (if t124 = true then (if ((rd_T40 l0 x3_1).f2).toList = ([] : List UInt8) then (r09_wrong.j1 k1 l0 x3_1 false ((rd_T40 l0 x3_1).f0) ((rd_T40 l0 x3_1).f1) ((rd_T40 l0 x3_1).f2)) else ((r02_Named.f k1 ((rd_T40 l0 x3_1).f2)).bind fun t125 => (if t125 = true then (r09_wrong.j1 k1 l0 x3_1 false ((rd_T40 l0 x3_1).f0) ((rd_T40 l0 x3_1).f1) ((rd_T40 l0 x3_1).f2)) else (r09_wrong.j1 k1 l0 x3_1 true ((rd_T40 l0 x3_1).f0) ((rd_T40 l0 x3_1).f1) ((rd_T40 l0 x3_1).f2))))) else (r09_wrong.j1 k1 l0 x3_1 true ((rd_T40 l0 x3_1).f0) ((rd_T40 l0 x3_1).f1) ((rd_T40 l0 x3_1).f2))))) = some r := by rw [if_pos rfl] at H; exact H
       clear H
       have H := H1
       clear H1
       by_cases c9 : ((rd_T40 l0 x3_1).f1).toList = ([] : List UInt8)
       ·
        rw [if_pos c9] at H
        have c9b0 : (((rd_T40 l0 x3_1).f1).toList == ([] : List UInt8)) = true := beq_iff_eq.mpr c9
        have c9b1 : (((rd_T40 l0 x3_1).f1).toList != ([] : List UInt8)) = false := bne_eq_false_iff_eq.mpr c9
        clear c9
        (first | rw [c9b0] | (simp only [i64_w, i32_w]; rw [c9b0]) | skip)
        by_cases c10 : ((rd_T40 l0 x3_1).f2).toList = ([] : List UInt8)
        ·
         rw [if_pos c10] at H
         have c10b0 : (((rd_T40 l0 x3_1).f2).toList == ([] : List UInt8)) = true := beq_iff_eq.mpr c10
         have c10b1 : (((rd_T40 l0 x3_1).f2).toList != ([] : List UInt8)) = false := bne_eq_false_iff_eq.mpr c10
         clear c10
         have H' := Aside0.mk H
         clear H
         have hcz11_0 : w5.cell? ⟨gb121, 0, none⟩ = some (.string (⟨#[]⟩ : ByteArray)) := (blk_cell BK121.out 0).trans rfl
         have hcz11_1 : w5.cell? ⟨gb121, 1, none⟩ = some (.string (⟨#[]⟩ : ByteArray)) := (blk_cell BK121.out 1).trans rfl
         have hcz11_2 : w5.cell? ⟨gb121, 2, none⟩ = some (.string (⟨#[]⟩ : ByteArray)) := (blk_cell BK121.out 2).trans rfl
         have hfz11_0 := blk_frozen BK121.out 0
         have hfz11_1 := blk_frozen BK121.out 1
         have hfz11_2 := blk_frozen BK121.out 2
         go_wp2_with (first | (go_at_call 10; (with_reducible refine (r09_Named.calls k1 ((rd_T40 l0 x3_1).f0) true _ A7.out).mono ?_); rintro e w12 ⟨rfl, hb⟩; have n0_ := Aside0.mk (blk_below (g := gb121) (o := .cells #[.string ((rd_T40 l0 x3_1).f0), .string ((rd_T40 l0 x3_1).f1), .string ((rd_T40 l0 x3_1).f2)] 40 (0, 0)) (by (with_reducible repeat (first | refine blk_drewN ?_ _ | refine blk_drew ?_ | refine blk_alloc ?_ _)); refine blk_put (cs := #[.string ((rd_T40 l0 x3_1).f0), .string ((rd_T40 l0 x3_1).f1), .string (⟨#[]⟩ : ByteArray)]) ?_ 2 _ rfl; (with_reducible repeat (first | refine blk_drewN ?_ _ | refine blk_drew ?_ | refine blk_alloc ?_ _)); refine blk_put (cs := #[.string ((rd_T40 l0 x3_1).f0), .string (⟨#[]⟩ : ByteArray), .string (⟨#[]⟩ : ByteArray)]) ?_ 1 _ rfl; (with_reducible repeat (first | refine blk_drewN ?_ _ | refine blk_drew ?_ | refine blk_alloc ?_ _)); refine blk_put (cs := #[.string (⟨#[]⟩ : ByteArray), .string (⟨#[]⟩ : ByteArray), .string (⟨#[]⟩ : ByteArray)]) ?_ 0 _ rfl; (with_reducible repeat (first | refine blk_drewN ?_ _ | refine blk_drew ?_ | refine blk_alloc ?_ _)); exact BK121.out) hb); have n1_ := Aside0.mk (below_step (by repeat (first | (with_reducible first | exact HB.out | apply below_alloc | apply pw_below_drewN | apply below_drew1 | refine below_set ?_ GE121.out) | exact HB.out)) hb); clear BK121; clear HB; have BK121 := n0_; have HB := n1_; clear n0_ n1_; (try clear hb); (try clear hb2); (try clear hk); (try clear hi); have hcz13_0 : w12.cell? ⟨gb121, 0, none⟩ = some (.string ((rd_T40 l0 x3_1).f0)) := (blk_cell BK121.out 0).trans rfl; have hcz13_1 : w12.cell? ⟨gb121, 1, none⟩ = some (.string ((rd_T40 l0 x3_1).f1)) := (blk_cell BK121.out 1).trans rfl; have hcz13_2 : w12.cell? ⟨gb121, 2, none⟩ = some (.string ((rd_T40 l0 x3_1).f2)) := (blk_cell BK121.out 2).trans rfl; have hfz13_0 := blk_frozen BK121.out 0; have hfz13_1 := blk_frozen BK121.out 1; have hfz13_2 := blk_frozen BK121.out 2))
         repeat (go_quiet (first | (go_at_call 10; (with_reducible refine (r09_Named.calls k1 ((rd_T40 l0 x3_1).f0) true _ A7.out).mono ?_); rintro e w12 ⟨rfl, hb⟩; have n0_ := Aside0.mk (blk_below (g := gb121) (o := .cells #[.string ((rd_T40 l0 x3_1).f0), .string ((rd_T40 l0 x3_1).f1), .string ((rd_T40 l0 x3_1).f2)] 40 (0, 0)) (by (with_reducible repeat (first | refine blk_drewN ?_ _ | refine blk_drew ?_ | refine blk_alloc ?_ _)); refine blk_put (cs := #[.string ((rd_T40 l0 x3_1).f0), .string ((rd_T40 l0 x3_1).f1), .string (⟨#[]⟩ : ByteArray)]) ?_ 2 _ rfl; (with_reducible repeat (first | refine blk_drewN ?_ _ | refine blk_drew ?_ | refine blk_alloc ?_ _)); refine blk_put (cs := #[.string ((rd_T40 l0 x3_1).f0), .string (⟨#[]⟩ : ByteArray), .string (⟨#[]⟩ : ByteArray)]) ?_ 1 _ rfl; (with_reducible repeat (first | refine blk_drewN ?_ _ | refine blk_drew ?_ | refine blk_alloc ?_ _)); refine blk_put (cs := #[.string (⟨#[]⟩ : ByteArray), .string (⟨#[]⟩ : ByteArray), .string (⟨#[]⟩ : ByteArray)]) ?_ 0 _ rfl; (with_reducible repeat (first | refine blk_drewN ?_ _ | refine blk_drew ?_ | refine blk_alloc ?_ _)); exact BK121.out) hb); have n1_ := Aside0.mk (below_step (by repeat (first | (with_reducible first | exact HB.out | apply below_alloc | apply pw_below_drewN | apply below_drew1 | refine below_set ?_ GE121.out) | exact HB.out)) hb); clear BK121; clear HB; have BK121 := n0_; have HB := n1_; clear n0_ n1_; (try clear hb); (try clear hb2); (try clear hk); (try clear hi); have hcz13_0 : w12.cell? ⟨gb121, 0, none⟩ = some (.string ((rd_T40 l0 x3_1).f0)) := (blk_cell BK121.out 0).trans rfl; have hcz13_1 : w12.cell? ⟨gb121, 1, none⟩ = some (.string ((rd_T40 l0 x3_1).f1)) := (blk_cell BK121.out 1).trans rfl; have hcz13_2 : w12.cell? ⟨gb121, 2, none⟩ = some (.string ((rd_T40 l0 x3_1).f2)) := (blk_cell BK121.out 2).trans rfl; have hfz13_0 := blk_frozen BK121.out 0; have hfz13_1 := blk_frozen BK121.out 1; have hfz13_2 := blk_frozen BK121.out 2)); try go_wp2_with (first | (go_at_call 10; (with_reducible refine (r09_Named.calls k1 ((rd_T40 l0 x3_1).f0) true _ A7.out).mono ?_); rintro e w12 ⟨rfl, hb⟩; have n0_ := Aside0.mk (blk_below (g := gb121) (o := .cells #[.string ((rd_T40 l0 x3_1).f0), .string ((rd_T40 l0 x3_1).f1), .string ((rd_T40 l0 x3_1).f2)] 40 (0, 0)) (by (with_reducible repeat (first | refine blk_drewN ?_ _ | refine blk_drew ?_ | refine blk_alloc ?_ _)); refine blk_put (cs := #[.string ((rd_T40 l0 x3_1).f0), .string ((rd_T40 l0 x3_1).f1), .string (⟨#[]⟩ : ByteArray)]) ?_ 2 _ rfl; (with_reducible repeat (first | refine blk_drewN ?_ _ | refine blk_drew ?_ | refine blk_alloc ?_ _)); refine blk_put (cs := #[.string ((rd_T40 l0 x3_1).f0), .string (⟨#[]⟩ : ByteArray), .string (⟨#[]⟩ : ByteArray)]) ?_ 1 _ rfl; (with_reducible repeat (first | refine blk_drewN ?_ _ | refine blk_drew ?_ | refine blk_alloc ?_ _)); refine blk_put (cs := #[.string (⟨#[]⟩ : ByteArray), .string (⟨#[]⟩ : ByteArray), .string (⟨#[]⟩ : ByteArray)]) ?_ 0 _ rfl; (with_reducible repeat (first | refine blk_drewN ?_ _ | refine blk_drew ?_ | refine blk_alloc ?_ _)); exact BK121.out) hb); have n1_ := Aside0.mk (below_step (by repeat (first | (with_reducible first | exact HB.out | apply below_alloc | apply pw_below_drewN | apply below_drew1 | refine below_set ?_ GE121.out) | exact HB.out)) hb); clear BK121; clear HB; have BK121 := n0_; have HB := n1_; clear n0_ n1_; (try clear hb); (try clear hb2); (try clear hk); (try clear hi); have hcz13_0 : w12.cell? ⟨gb121, 0, none⟩ = some (.string ((rd_T40 l0 x3_1).f0)) := (blk_cell BK121.out 0).trans rfl; have hcz13_1 : w12.cell? ⟨gb121, 1, none⟩ = some (.string ((rd_T40 l0 x3_1).f1)) := (blk_cell BK121.out 1).trans rfl; have hcz13_2 : w12.cell? ⟨gb121, 2, none⟩ = some (.string ((rd_T40 l0 x3_1).f2)) := (blk_cell BK121.out 2).trans rfl; have hfz13_0 := blk_frozen BK121.out 0; have hfz13_1 := blk_frozen BK121.out 1; have hfz13_2 := blk_frozen BK121.out 2)))
         go_meet
         case rel => exact ⟨_, ((((rd_T40 l0 x3_1).f2).toList == ([] : List UInt8))), (by first | rfl | (simp; done) | (simp [*]; done)), H', ⟨by have := HK1.out; first | omega | exact Nat.le_refl _⟩, ⟨by (with_reducible repeat (first | refine blk_drewN ?_ _ | refine blk_drew ?_ | refine blk_alloc ?_ _)); exact BK121.out⟩, ⟨by repeat (first | (with_reducible first | exact HB.out | apply below_alloc | apply pw_below_drewN | apply below_drew1 | refine below_set ?_ GE121.out) | exact HB.out)⟩⟩
        ·
         rw [if_neg c10] at H
         have c10b0 : (((rd_T40 l0 x3_1).f2).toList == ([] : List UInt8)) = false := beq_eq_false_iff_ne.mpr c10
         have c10b1 : (((rd_T40 l0 x3_1).f2).toList != ([] : List UInt8)) = true := bne_iff_ne.mpr c10
         replace H := Option.bind_eq_some_iff.mp H
         obtain ⟨t123, A140, H⟩ := H
         replace H : (if t123 = true then (r09_wrong.j1 k1 l0 x3_1 (((rd_T40 l0 x3_1).f2).toList == ([] : List UInt8)) ((rd_T40 l0 x3_1).f0) ((rd_T40 l0 x3_1).f1) ((rd_T40 l0 x3_1).f2)) else (r09_wrong.j1 k1 l0 x3_1 true ((rd_T40 l0 x3_1).f0) ((rd_T40 l0 x3_1).f1) ((rd_T40 l0 x3_1).f2))) = some r := H
         have A14 := Aside0.mk A140
         clear A140
         by_cases c15 : t123 = true
         ·
          subst c15
          have H1 : (r09_wrong.j1 k1 l0 x3_1 (((rd_T40 l0 x3_1).f2).toList == ([] : List UInt8)) ((rd_T40 l0 x3_1).f0) ((rd_T40 l0 x3_1).f1) ((rd_T40 l0 x3_1).f2)) = some r := by rw [if_pos rfl] at H; exact H
          clear H
          have H := H1
          clear H1
          have H' := Aside0.mk H
          clear H
          have hcz16_0 : w5.cell? ⟨gb121, 0, none⟩ = some (.string (⟨#[]⟩ : ByteArray)) := (blk_cell BK121.out 0).trans rfl
          have hcz16_1 : w5.cell? ⟨gb121, 1, none⟩ = some (.string (⟨#[]⟩ : ByteArray)) := (blk_cell BK121.out 1).trans rfl
          have hcz16_2 : w5.cell? ⟨gb121, 2, none⟩ = some (.string (⟨#[]⟩ : ByteArray)) := (blk_cell BK121.out 2).trans rfl
          have hfz16_0 := blk_frozen BK121.out 0
          have hfz16_1 := blk_frozen BK121.out 1
          have hfz16_2 := blk_frozen BK121.out 2
          go_wp2_with (first | (go_at_call 10; (with_reducible refine (r09_Named.calls k1 ((rd_T40 l0 x3_1).f0) true _ A7.out).mono ?_); rintro e w17 ⟨rfl, hb⟩; have n0_ := Aside0.mk (blk_below (g := gb121) (o := .cells #[.string ((rd_T40 l0 x3_1).f0), .string ((rd_T40 l0 x3_1).f1), .string ((rd_T40 l0 x3_1).f2)] 40 (0, 0)) (by (with_reducible repeat (first | refine blk_drewN ?_ _ | refine blk_drew ?_ | refine blk_alloc ?_ _)); refine blk_put (cs := #[.string ((rd_T40 l0 x3_1).f0), .string ((rd_T40 l0 x3_1).f1), .string (⟨#[]⟩ : ByteArray)]) ?_ 2 _ rfl; (with_reducible repeat (first | refine blk_drewN ?_ _ | refine blk_drew ?_ | refine blk_alloc ?_ _)); refine blk_put (cs := #[.string ((rd_T40 l0 x3_1).f0), .string (⟨#[]⟩ : ByteArray), .string (⟨#[]⟩ : ByteArray)]) ?_ 1 _ rfl; (with_reducible repeat (first | refine blk_drewN ?_ _ | refine blk_drew ?_ | refine blk_alloc ?_ _)); refine blk_put (cs := #[.string (⟨#[]⟩ : ByteArray), .string (⟨#[]⟩ : ByteArray), .string (⟨#[]⟩ : ByteArray)]) ?_ 0 _ rfl; (with_reducible repeat (first | refine blk_drewN ?_ _ | refine blk_drew ?_ | refine blk_alloc ?_ _)); exact BK121.out) hb); have n1_ := Aside0.mk (below_step (by repeat (first | (with_reducible first | exact HB.out | apply below_alloc | apply pw_below_drewN | apply below_drew1 | refine below_set ?_ GE121.out) | exact HB.out)) hb); clear BK121; clear HB; have BK121 := n0_; have HB := n1_; clear n0_ n1_; (try clear hb); (try clear hb2); (try clear hk); (try clear hi); have hcz18_0 : w17.cell? ⟨gb121, 0, none⟩ = some (.string ((rd_T40 l0 x3_1).f0)) := (blk_cell BK121.out 0).trans rfl; have hcz18_1 : w17.cell? ⟨gb121, 1, none⟩ = some (.string ((rd_T40 l0 x3_1).f1)) := (blk_cell BK121.out 1).trans rfl; have hcz18_2 : w17.cell? ⟨gb121, 2, none⟩ = some (.string ((rd_T40 l0 x3_1).f2)) := (blk_cell BK121.out 2).trans rfl; have hfz18_0 := blk_frozen BK121.out 0; have hfz18_1 := blk_frozen BK121.out 1; have hfz18_2 := blk_frozen BK121.out 2) | (go_at_call 40; (with_reducible refine (r02_Named.calls k1 ((rd_T40 l0 x3_1).f2) true _ A14.out).mono ?_); rintro e w' ⟨rfl, ⟨nd, rfl⟩⟩; (try first | exact ⟨rfl, _, World.drewN_drewN _ _ _⟩ | exact ⟨rfl, _, Eq.trans (World.drewN_drewN _ _ _) (congrArg (World.drewN _) (Nat.add_assoc _ _ _))⟩)))
          repeat (go_quiet (first | (go_at_call 10; (with_reducible refine (r09_Named.calls k1 ((rd_T40 l0 x3_1).f0) true _ A7.out).mono ?_); rintro e w17 ⟨rfl, hb⟩; have n0_ := Aside0.mk (blk_below (g := gb121) (o := .cells #[.string ((rd_T40 l0 x3_1).f0), .string ((rd_T40 l0 x3_1).f1), .string ((rd_T40 l0 x3_1).f2)] 40 (0, 0)) (by (with_reducible repeat (first | refine blk_drewN ?_ _ | refine blk_drew ?_ | refine blk_alloc ?_ _)); refine blk_put (cs := #[.string ((rd_T40 l0 x3_1).f0), .string ((rd_T40 l0 x3_1).f1), .string (⟨#[]⟩ : ByteArray)]) ?_ 2 _ rfl; (with_reducible repeat (first | refine blk_drewN ?_ _ | refine blk_drew ?_ | refine blk_alloc ?_ _)); refine blk_put (cs := #[.string ((rd_T40 l0 x3_1).f0), .string (⟨#[]⟩ : ByteArray), .string (⟨#[]⟩ : ByteArray)]) ?_ 1 _ rfl; (with_reducible repeat (first | refine blk_drewN ?_ _ | refine blk_drew ?_ | refine blk_alloc ?_ _)); refine blk_put (cs := #[.string (⟨#[]⟩ : ByteArray), .string (⟨#[]⟩ : ByteArray), .string (⟨#[]⟩ : ByteArray)]) ?_ 0 _ rfl; (with_reducible repeat (first | refine blk_drewN ?_ _ | refine blk_drew ?_ | refine blk_alloc ?_ _)); exact BK121.out) hb); have n1_ := Aside0.mk (below_step (by repeat (first | (with_reducible first | exact HB.out | apply below_alloc | apply pw_below_drewN | apply below_drew1 | refine below_set ?_ GE121.out) | exact HB.out)) hb); clear BK121; clear HB; have BK121 := n0_; have HB := n1_; clear n0_ n1_; (try clear hb); (try clear hb2); (try clear hk); (try clear hi); have hcz18_0 : w17.cell? ⟨gb121, 0, none⟩ = some (.string ((rd_T40 l0 x3_1).f0)) := (blk_cell BK121.out 0).trans rfl; have hcz18_1 : w17.cell? ⟨gb121, 1, none⟩ = some (.string ((rd_T40 l0 x3_1).f1)) := (blk_cell BK121.out 1).trans rfl; have hcz18_2 : w17.cell? ⟨gb121, 2, none⟩ = some (.string ((rd_T40 l0 x3_1).f2)) := (blk_cell BK121.out 2).trans rfl; have hfz18_0 := blk_frozen BK121.out 0; have hfz18_1 := blk_frozen BK121.out 1; have hfz18_2 := blk_frozen BK121.out 2) | (go_at_call 40; (with_reducible refine (r02_Named.calls k1 ((rd_T40 l0 x3_1).f2) true _ A14.out).mono ?_); rintro e w' ⟨rfl, ⟨nd, rfl⟩⟩; (try first | exact ⟨rfl, _, World.drewN_drewN _ _ _⟩ | exact ⟨rfl, _, Eq.trans (World.drewN_drewN _ _ _) (congrArg (World.drewN _) (Nat.add_assoc _ _ _))⟩))); try go_wp2_with (first | (go_at_call 10; (with_reducible refine (r09_Named.calls k1 ((rd_T40 l0 x3_1).f0) true _ A7.out).mono ?_); rintro e w17 ⟨rfl, hb⟩; have n0_ := Aside0.mk (blk_below (g := gb121) (o := .cells #[.string ((rd_T40 l0 x3_1).f0), .string ((rd_T40 l0 x3_1).f1), .string ((rd_T40 l0 x3_1).f2)] 40 (0, 0)) (by (with_reducible repeat (first | refine blk_drewN ?_ _ | refine blk_drew ?_ | refine blk_alloc ?_ _)); refine blk_put (cs := #[.string ((rd_T40 l0 x3_1).f0), .string ((rd_T40 l0 x3_1).f1), .string (⟨#[]⟩ : ByteArray)]) ?_ 2 _ rfl; (with_reducible repeat (first | refine blk_drewN ?_ _ | refine blk_drew ?_ | refine blk_alloc ?_ _)); refine blk_put (cs := #[.string ((rd_T40 l0 x3_1).f0), .string (⟨#[]⟩ : ByteArray), .string (⟨#[]⟩ : ByteArray)]) ?_ 1 _ rfl; (with_reducible repeat (first | refine blk_drewN ?_ _ | refine blk_drew ?_ | refine blk_alloc ?_ _)); refine blk_put (cs := #[.string (⟨#[]⟩ : ByteArray), .string (⟨#[]⟩ : ByteArray), .string (⟨#[]⟩ : ByteArray)]) ?_ 0 _ rfl; (with_reducible repeat (first | refine blk_drewN ?_ _ | refine blk_drew ?_ | refine blk_alloc ?_ _)); exact BK121.out) hb); have n1_ := Aside0.mk (below_step (by repeat (first | (with_reducible first | exact HB.out | apply below_alloc | apply pw_below_drewN | apply below_drew1 | refine below_set ?_ GE121.out) | exact HB.out)) hb); clear BK121; clear HB; have BK121 := n0_; have HB := n1_; clear n0_ n1_; (try clear hb); (try clear hb2); (try clear hk); (try clear hi); have hcz18_0 : w17.cell? ⟨gb121, 0, none⟩ = some (.string ((rd_T40 l0 x3_1).f0)) := (blk_cell BK121.out 0).trans rfl; have hcz18_1 : w17.cell? ⟨gb121, 1, none⟩ = some (.string ((rd_T40 l0 x3_1).f1)) := (blk_cell BK121.out 1).trans rfl; have hcz18_2 : w17.cell? ⟨gb121, 2, none⟩ = some (.string ((rd_T40 l0 x3_1).f2)) := (blk_cell BK121.out 2).trans rfl; have hfz18_0 := blk_frozen BK121.out 0; have hfz18_1 := blk_frozen BK121.out 1; have hfz18_2 := blk_frozen BK121.out 2) | (go_at_call 40; (with_reducible refine (r02_Named.calls k1 ((rd_T40 l0 x3_1).f2) true _ A14.out).mono ?_); rintro e w' ⟨rfl, ⟨nd, rfl⟩⟩; (try first | exact ⟨rfl, _, World.drewN_drewN _ _ _⟩ | exact ⟨rfl, _, Eq.trans (World.drewN_drewN _ _ _) (congrArg (World.drewN _) (Nat.add_assoc _ _ _))⟩))))
          go_meet
          case rel => exact ⟨_, ((((rd_T40 l0 x3_1).f2).toList == ([] : List UInt8))), (by first | rfl | (simp; done) | (simp [*]; done)), H', ⟨by have := HK1.out; first | omega | exact Nat.le_refl _⟩, ⟨by (with_reducible repeat (first | refine blk_drewN ?_ _ | refine blk_drew ?_ | refine blk_alloc ?_ _)); exact BK121.out⟩, ⟨by repeat (first | (with_reducible first | exact HB.out | apply below_alloc | apply pw_below_drewN | apply below_drew1 | refine below_set ?_ GE121.out) | exact HB.out)⟩⟩
         ·
          replace c15 := Bool.eq_false_iff.mpr c15
          subst c15
          have H1 : (r09_wrong.j1 k1 l0 x3_1 true ((rd_T40 l0 x3_1).f0) ((rd_T40 l0 x3_1).f1) ((rd_T40 l0 x3_1).f2)) = some r := by rw [if_neg (show ¬ (false = true) by decide)] at H; exact H
          clear H
          have H := H1
          clear H1
          have H' := Aside0.mk H
          clear H
          have hcz19_0 : w5.cell? ⟨gb121, 0, none⟩ = some (.string (⟨#[]⟩ : ByteArray)) := (blk_cell BK121.out 0).trans rfl
          have hcz19_1 : w5.cell? ⟨gb121, 1, none⟩ = some (.string (⟨#[]⟩ : ByteArray)) := (blk_cell BK121.out 1).trans rfl
          have hcz19_2 : w5.cell? ⟨gb121, 2, none⟩ = some (.string (⟨#[]⟩ : ByteArray)) := (blk_cell BK121.out 2).trans rfl
          have hfz19_0 := blk_frozen BK121.out 0
          have hfz19_1 := blk_frozen BK121.out 1
          have hfz19_2 := blk_frozen BK121.out 2
          go_wp2_with (first | (go_at_call 10; (with_reducible refine (r09_Named.calls k1 ((rd_T40 l0 x3_1).f0) true _ A7.out).mono ?_); rintro e w20 ⟨rfl, hb⟩; have n0_ := Aside0.mk (blk_below (g := gb121) (o := .cells #[.string ((rd_T40 l0 x3_1).f0), .string ((rd_T40 l0 x3_1).f1), .string ((rd_T40 l0 x3_1).f2)] 40 (0, 0)) (by (with_reducible repeat (first | refine blk_drewN ?_ _ | refine blk_drew ?_ | refine blk_alloc ?_ _)); refine blk_put (cs := #[.string ((rd_T40 l0 x3_1).f0), .string ((rd_T40 l0 x3_1).f1), .string (⟨#[]⟩ : ByteArray)]) ?_ 2 _ rfl; (with_reducible repeat (first | refine blk_drewN ?_ _ | refine blk_drew ?_ | refine blk_alloc ?_ _)); refine blk_put (cs := #[.string ((rd_T40 l0 x3_1).f0), .string (⟨#[]⟩ : ByteArray), .string (⟨#[]⟩ : ByteArray)]) ?_ 1 _ rfl; (with_reducible repeat (first | refine blk_drewN ?_ _ | refine blk_drew ?_ | refine blk_alloc ?_ _)); refine blk_put (cs := #[.string (⟨#[]⟩ : ByteArray), .string (⟨#[]⟩ : ByteArray), .string (⟨#[]⟩ : ByteArray)]) ?_ 0 _ rfl; (with_reducible repeat (first | refine blk_drewN ?_ _ | refine blk_drew ?_ | refine blk_alloc ?_ _)); exact BK121.out) hb); have n1_ := Aside0.mk (below_step (by repeat (first | (with_reducible first | exact HB.out | apply below_alloc | apply pw_below_drewN | apply below_drew1 | refine below_set ?_ GE121.out) | exact HB.out)) hb); clear BK121; clear HB; have BK121 := n0_; have HB := n1_; clear n0_ n1_; (try clear hb); (try clear hb2); (try clear hk); (try clear hi); have hcz21_0 : w20.cell? ⟨gb121, 0, none⟩ = some (.string ((rd_T40 l0 x3_1).f0)) := (blk_cell BK121.out 0).trans rfl; have hcz21_1 : w20.cell? ⟨gb121, 1, none⟩ = some (.string ((rd_T40 l0 x3_1).f1)) := (blk_cell BK121.out 1).trans rfl; have hcz21_2 : w20.cell? ⟨gb121, 2, none⟩ = some (.string ((rd_T40 l0 x3_1).f2)) := (blk_cell BK121.out 2).trans rfl; have hfz21_0 := blk_frozen BK121.out 0; have hfz21_1 := blk_frozen BK121.out 1; have hfz21_2 := blk_frozen BK121.out 2) | (go_at_call 40; (with_reducible refine (r02_Named.calls k1 ((rd_T40 l0 x3_1).f2) false _ A14.out).mono ?_); rintro e w' ⟨rfl, ⟨nd, rfl⟩⟩; (try first | exact ⟨rfl, _, World.drewN_drewN _ _ _⟩ | exact ⟨rfl, _, Eq.trans (World.drewN_drewN _ _ _) (congrArg (World.drewN _) (Nat.add_assoc _ _ _))⟩)))
          repeat (go_quiet (first | (go_at_call 10; (with_reducible refine (r09_Named.calls k1 ((rd_T40 l0 x3_1).f0) true _ A7.out).mono ?_); rintro e w20 ⟨rfl, hb⟩; have n0_ := Aside0.mk (blk_below (g := gb121) (o := .cells #[.string ((rd_T40 l0 x3_1).f0), .string ((rd_T40 l0 x3_1).f1), .string ((rd_T40 l0 x3_1).f2)] 40 (0, 0)) (by (with_reducible repeat (first | refine blk_drewN ?_ _ | refine blk_drew ?_ | refine blk_alloc ?_ _)); refine blk_put (cs := #[.string ((rd_T40 l0 x3_1).f0), .string ((rd_T40 l0 x3_1).f1), .string (⟨#[]⟩ : ByteArray)]) ?_ 2 _ rfl; (with_reducible repeat (first | refine blk_drewN ?_ _ | refine blk_drew ?_ | refine blk_alloc ?_ _)); refine blk_put (cs := #[.string ((rd_T40 l0 x3_1).f0), .string (⟨#[]⟩ : ByteArray), .string (⟨#[]⟩ : ByteArray)]) ?_ 1 _ rfl; (with_reducible repeat (first | refine blk_drewN ?_ _ | refine blk_drew ?_ | refine blk_alloc ?_ _)); refine blk_put (cs := #[.string (⟨#[]⟩ : ByteArray), .string (⟨#[]⟩ : ByteArray), .string (⟨#[]⟩ : ByteArray)]) ?_ 0 _ rfl; (with_reducible repeat (first | refine blk_drewN ?_ _ | refine blk_drew ?_ | refine blk_alloc ?_ _)); exact BK121.out) hb); have n1_ := Aside0.mk (below_step (by repeat (first | (with_reducible first | exact HB.out | apply below_alloc | apply pw_below_drewN | apply below_drew1 | refine below_set ?_ GE121.out) | exact HB.out)) hb); clear BK121; clear HB; have BK121 := n0_; have HB := n1_; clear n0_ n1_; (try clear hb); (try clear hb2); (try clear hk); (try clear hi); have hcz21_0 : w20.cell? ⟨gb121, 0, none⟩ = some (.string ((rd_T40 l0 x3_1).f0)) := (blk_cell BK121.out 0).trans rfl; have hcz21_1 : w20.cell? ⟨gb121, 1, none⟩ = some (.string ((rd_T40 l0 x3_1).f1)) := (blk_cell BK121.out 1).trans rfl; have hcz21_2 : w20.cell? ⟨gb121, 2, none⟩ = some (.string ((rd_T40 l0 x3_1).f2)) := (blk_cell BK121.out 2).trans rfl; have hfz21_0 := blk_frozen BK121.out 0; have hfz21_1 := blk_frozen BK121.out 1; have hfz21_2 := blk_frozen BK121.out 2) | (go_at_call 40; (with_reducible refine (r02_Named.calls k1 ((rd_T40 l0 x3_1).f2) false _ A14.out).mono ?_); rintro e w' ⟨rfl, ⟨nd, rfl⟩⟩; (try first | exact ⟨rfl, _, World.drewN_drewN _ _ _⟩ | exact ⟨rfl, _, Eq.trans (World.drewN_drewN _ _ _) (congrArg (World.drewN _) (Nat.add_assoc _ _ _))⟩))); try go_wp2_with (first | (go_at_call 10; (with_reducible refine (r09_Named.calls k1 ((rd_T40 l0 x3_1).f0) true _ A7.out).mono ?_); rintro e w20 ⟨rfl, hb⟩; have n0_ := Aside0.mk (blk_below (g := gb121) (o := .cells #[.string ((rd_T40 l0 x3_1).f0), .string ((rd_T40 l0 x3_1).f1), .string ((rd_T40 l0 x3_1).f2)] 40 (0, 0)) (by (with_reducible repeat (first | refine blk_drewN ?_ _ | refine blk_drew ?_ | refine blk_alloc ?_ _)); refine blk_put (cs := #[.string ((rd_T40 l0 x3_1).f0), .string ((rd_T40 l0 x3_1).f1), .string (⟨#[]⟩ : ByteArray)]) ?_ 2 _ rfl; (with_reducible repeat (first | refine blk_drewN ?_ _ | refine blk_drew ?_ | refine blk_alloc ?_ _)); refine blk_put (cs := #[.string ((rd_T40 l0 x3_1).f0), .string (⟨#[]⟩ : ByteArray), .string (⟨#[]⟩ : ByteArray)]) ?_ 1 _ rfl; (with_reducible repeat (first | refine blk_drewN ?_ _ | refine blk_drew ?_ | refine blk_alloc ?_ _)); refine blk_put (cs := #[.string (⟨#[]⟩ : ByteArray), .string (⟨#[]⟩ : ByteArray), .string (⟨#[]⟩ : ByteArray)]) ?_ 0 _ rfl; (with_reducible repeat (first | refine blk_drewN ?_ _ | refine blk_drew ?_ | refine blk_alloc ?_ _)); exact BK121.out) hb); have n1_ := Aside0.mk (below_step (by repeat (first | (with_reducible first | exact HB.out | apply below_alloc | apply pw_below_drewN | apply below_drew1 | refine below_set ?_ GE121.out) | exact HB.out)) hb); clear BK121; clear HB; have BK121 := n0_; have HB := n1_; clear n0_ n1_; (try clear hb); (try clear hb2); (try clear hk); (try clear hi); have hcz21_0 : w20.cell? ⟨gb121, 0, none⟩ = some (.string ((rd_T40 l0 x3_1).f0)) := (blk_cell BK121.out 0).trans rfl; have hcz21_1 : w20.cell? ⟨gb121, 1, none⟩ = some (.string ((rd_T40 l0 x3_1).f1)) := (blk_cell BK121.out 1).trans rfl; have hcz21_2 : w20.cell? ⟨gb121, 2, none⟩ = some (.string ((rd_T40 l0 x3_1).f2)) := (blk_cell BK121.out 2).trans rfl; have hfz21_0 := blk_frozen BK121.out 0; have hfz21_1 := blk_frozen BK121.out 1; have hfz21_2 := blk_frozen BK121.out 2) | (go_at_call 40; (with_reducible refine (r02_Named.calls k1 ((rd_T40 l0 x3_1).f2) false _ A14.out).mono ?_); rintro e w' ⟨rfl, ⟨nd, rfl⟩⟩; (try first | exact ⟨rfl, _, World.drewN_drewN _ _ _⟩ | exact ⟨rfl, _, Eq.trans (World.drewN_drewN _ _ _) (congrArg (World.drewN _) (Nat.add_assoc _ _ _))⟩))))
          go_meet
          case rel => exact ⟨_, (true), (by first | rfl | (simp; done) | (simp [*]; done)), H', ⟨by have := HK1.out; first | omega | exact Nat.le_refl _⟩, ⟨by (with_reducible repeat (first | refine blk_drewN ?_ _ | refine blk_drew ?_ | refine blk_alloc ?_ _)); exact BK121.out⟩, ⟨by repeat (first | (with_reducible first | exact HB.out | apply below_alloc | apply pw_below_drewN | apply below_drew1 | refine below_set ?_ GE121.out) | exact HB.out)⟩⟩
       ·
        rw [if_neg c9] at H
        have c9b0 : (((rd_T40 l0 x3_1).f1).toList == ([] : List UInt8)) = false := beq_eq_false_iff_ne.mpr c9
        have c9b1 : (((rd_T40 l0 x3_1).f1).toList != ([] : List UInt8)) = true := bne_iff_ne.mpr c9
        (first | rw [c9b0] | (simp only [i64_w, i32_w]; rw [c9b0]) | skip)
        replace H := Option.bind_eq_some_iff.mp H
        obtain ⟨t124, A220, H⟩ := H
        replace H : (if t124 = true then (if ((rd_T40 l0 x3_1).f2).toList = ([] : List UInt8) then (r09_wrong.j1 k1 l0 x3_1 false ((rd_T40 l0 x3_1).f0) ((rd_T40 l0 x3_1).f1) ((rd_T40 l0 x3_1).f2)) else ((r02_Named.f k1 ((rd_T40 l0 x3_1).f2)).bind fun t125 => (if t125 = true then (r09_wrong.j1 k1 l0 x3_1 false ((rd_T40 l0 x3_1).f0) ((rd_T40 l0 x3_1).f1) ((rd_T40 l0 x3_1).f2)) else (r09_wrong.j1 k1 l0 x3_1 true ((rd_T40 l0 x3_1).f0) ((rd_T40 l0 x3_1).f1) ((rd_T40 l0 x3_1).f2))))) else (r09_wrong.j1 k1 l0 x3_1 true ((rd_T40 l0 x3_1).f0) ((rd_T40 l0 x3_1).f1) ((rd_T40 l0 x3_1).f2))) = some r := H
        have A22 := Aside0.mk A220
        clear A220
        by_cases c23 : t124 = true
        ·
         subst c23
         have H1 : (if ((rd_T40 l0 x3_1).f2).toList = ([] : List UInt8) then (r09_wrong.j1 k1 l0 x3_1 false ((rd_T40 l0 x3_1).f0) ((rd_T40 l0 x3_1).f1) ((rd_T40 l0 x3_1).f2)) else ((r02_Named.f k1 ((rd_T40 l0 x3_1).f2)).bind fun t125 => (if t125 = true then (r09_wrong.j1 k1 l0 x3_1 false ((rd_T40 l0 x3_1).f0) ((rd_T40 l0 x3_1).f1) ((rd_T40 l0 x3_1).f2)) else (r09_wrong.j1 k1 l0 x3_1 true ((rd_T40 l0 x3_1).f0) ((rd_T40 l0 x3_1).f1) ((rd_T40 l0 x3_1).f2))))) = some r := by rw [if_pos rfl] at H; exact H
         clear H
         have H := H1
         clear H1
         by_cases c24 : ((rd_T40 l0 x3_1).f2).toList = ([] : List UInt8)
         ·
          rw [if_pos c24] at H
          have c24b0 : (((rd_T40 l0 x3_1).f2).toList == ([] : List UInt8)) = true := beq_iff_eq.mpr c24
          have c24b1 : (((rd_T40 l0 x3_1).f2).toList != ([] : List UInt8)) = false := bne_eq_false_iff_eq.mpr c24
          clear c24
          have H' := Aside0.mk H
          clear H
          have hcz25_0 : w5.cell? ⟨gb121, 0, none⟩ = some (.string (⟨#[]⟩ : ByteArray)) := (blk_cell BK121.out 0).trans rfl
          have hcz25_1 : w5.cell? ⟨gb121, 1, none⟩ = some (.string (⟨#[]⟩ : ByteArray)) := (blk_cell BK121.out 1).trans rfl
          have hcz25_2 : w5.cell? ⟨gb121, 2, none⟩ = some (.string (⟨#[]⟩ : ByteArray)) := (blk_cell BK121.out 2).trans rfl
          have hfz25_0 := blk_frozen BK121.out 0
          have hfz25_1 := blk_frozen BK121.out 1
          have hfz25_2 := blk_frozen BK121.out 2
          go_wp2_with (first | (go_at_call 10; (with_reducible refine (r09_Named.calls k1 ((rd_T40 l0 x3_1).f0) true _ A7.out).mono ?_); rintro e w26 ⟨rfl, hb⟩; have n0_ := Aside0.mk (blk_below (g := gb121) (o := .cells #[.string ((rd_T40 l0 x3_1).f0), .string ((rd_T40 l0 x3_1).f1), .string ((rd_T40 l0 x3_1).f2)] 40 (0, 0)) (by (with_reducible repeat (first | refine blk_drewN ?_ _ | refine blk_drew ?_ | refine blk_alloc ?_ _)); refine blk_put (cs := #[.string ((rd_T40 l0 x3_1).f0), .string ((rd_T40 l0 x3_1).f1), .string (⟨#[]⟩ : ByteArray)]) ?_ 2 _ rfl; (with_reducible repeat (first | refine blk_drewN ?_ _ | refine blk_drew ?_ | refine blk_alloc ?_ _)); refine blk_put (cs := #[.string ((rd_T40 l0 x3_1).f0), .string (⟨#[]⟩ : ByteArray), .string (⟨#[]⟩ : ByteArray)]) ?_ 1 _ rfl; (with_reducible repeat (first | refine blk_drewN ?_ _ | refine blk_drew ?_ | refine blk_alloc ?_ _)); refine blk_put (cs := #[.string (⟨#[]⟩ : ByteArray), .string (⟨#[]⟩ : ByteArray), .string (⟨#[]⟩ : ByteArray)]) ?_ 0 _ rfl; (with_reducible repeat (first | refine blk_drewN ?_ _ | refine blk_drew ?_ | refine blk_alloc ?_ _)); exact BK121.out) hb); have n1_ := Aside0.mk (below_step (by repeat (first | (with_reducible first | exact HB.out | apply below_alloc | apply pw_below_drewN | apply below_drew1 | refine below_set ?_ GE121.out) | exact HB.out)) hb); clear BK121; clear HB; have BK121 := n0_; have HB := n1_; clear n0_ n1_; (try clear hb); (try clear hb2); (try clear hk); (try clear hi); have hcz27_0 : w26.cell? ⟨gb121, 0, none⟩ = some (.string ((rd_T40 l0 x3_1).f0)) := (blk_cell BK121.out 0).trans rfl; have hcz27_1 : w26.cell? ⟨gb121, 1, none⟩ = some (.string ((rd_T40 l0 x3_1).f1)) := (blk_cell BK121.out 1).trans rfl; have hcz27_2 : w26.cell? ⟨gb121, 2, none⟩ = some (.string ((rd_T40 l0 x3_1).f2)) := (blk_cell BK121.out 2).trans rfl; have hfz27_0 := blk_frozen BK121.out 0; have hfz27_1 := blk_frozen BK121.out 1; have hfz27_2 := blk_frozen BK121.out 2) | (go_at_call 40; (with_reducible refine (r02_Named.calls k1 ((rd_T40 l0 x3_1).f1) true _ A22.out).mono ?_); rintro e w' ⟨rfl, ⟨nd, rfl⟩⟩; (try first | exact ⟨rfl, _, World.drewN_drewN _ _ _⟩ | exact ⟨rfl, _, Eq.trans (World.drewN_drewN _ _ _) (congrArg (World.drewN _) (Nat.add_assoc _ _ _))⟩)))
          repeat (go_quiet (first | (go_at_call 10; (with_reducible refine (r09_Named.calls k1 ((rd_T40 l0 x3_1).f0) true _ A7.out).mono ?_); rintro e w26 ⟨rfl, hb⟩; have n0_ := Aside0.mk (blk_below (g := gb121) (o := .cells #[.string ((rd_T40 l0 x3_1).f0), .string ((rd_T40 l0 x3_1).f1), .string ((rd_T40 l0 x3_1).f2)] 40 (0, 0)) (by (with_reducible repeat (first | refine blk_drewN ?_ _ | refine blk_drew ?_ | refine blk_alloc ?_ _)); refine blk_put (cs := #[.string ((rd_T40 l0 x3_1).f0), .string ((rd_T40 l0 x3_1).f1), .string (⟨#[]⟩ : ByteArray)]) ?_ 2 _ rfl; (with_reducible repeat (first | refine blk_drewN ?_ _ | refine blk_drew ?_ | refine blk_alloc ?_ _)); refine blk_put (cs := #[.string ((rd_T40 l0 x3_1).f0), .string (⟨#[]⟩ : ByteArray), .string (⟨#[]⟩ : ByteArray)]) ?_ 1 _ rfl; (with_reducible repeat (first | refine blk_drewN ?_ _ | refine blk_drew ?_ | refine blk_alloc ?_ _)); refine blk_put (cs := #[.string (⟨#[]⟩ : ByteArray), .string (⟨#[]⟩ : ByteArray), .string (⟨#[]⟩ : ByteArray)]) ?_ 0 _ rfl; (with_reducible repeat (first | refine blk_drewN ?_ _ | refine blk_drew ?_ | refine blk_alloc ?_ _)); exact BK121.out) hb); have n1_ := Aside0.mk (below_step (by repeat (first | (with_reducible first | exact HB.out | apply below_alloc | apply pw_below_drewN | apply below_drew1 | refine below_set ?_ GE121.out) | exact HB.out)) hb); clear BK121; clear HB; have BK121 := n0_; have HB := n1_; clear n0_ n1_; (try clear hb); (try clear hb2); (try clear hk); (try clear hi); have hcz27_0 : w26.cell? ⟨gb121, 0, none⟩ = some (.string ((rd_T40 l0 x3_1).f0)) := (blk_cell BK121.out 0).trans rfl; have hcz27_1 : w26.cell? ⟨gb121, 1, none⟩ = some (.string ((rd_T40 l0 x3_1).f1)) := (blk_cell BK121.out 1).trans rfl; have hcz27_2 : w26.cell? ⟨gb121, 2, none⟩ = some (.string ((rd_T40 l0 x3_1).f2)) := (blk_cell BK121.out 2).trans rfl; have hfz27_0 := blk_frozen BK121.out 0; have hfz27_1 := blk_frozen BK121.out 1; have hfz27_2 := blk_frozen BK121.out 2) | (go_at_call 40; (with_reducible refine (r02_Named.calls k1 ((rd_T40 l0 x3_1).f1) true _ A22.out).mono ?_); rintro e w' ⟨rfl, ⟨nd, rfl⟩⟩; (try first | exact ⟨rfl, _, World.drewN_drewN _ _ _⟩ | exact ⟨rfl, _, Eq.trans (World.drewN_drewN _ _ _) (congrArg (World.drewN _) (Nat.add_assoc _ _ _))⟩))); try go_wp2_with (first | (go_at_call 10; (with_reducible refine (r09_Named.calls k1 ((rd_T40 l0 x3_1).f0) true _ A7.out).mono ?_); rintro e w26 ⟨rfl, hb⟩; have n0_ := Aside0.mk (blk_below (g := gb121) (o := .cells #[.string ((rd_T40 l0 x3_1).f0), .string ((rd_T40 l0 x3_1).f1), .string ((rd_T40 l0 x3_1).f2)] 40 (0, 0)) (by (with_reducible repeat (first | refine blk_drewN ?_ _ | refine blk_drew ?_ | refine blk_alloc ?_ _)); refine blk_put (cs := #[.string ((rd_T40 l0 x3_1).f0), .string ((rd_T40 l0 x3_1).f1), .string (⟨#[]⟩ : ByteArray)]) ?_ 2 _ rfl; (with_reducible repeat (first | refine blk_drewN ?_ _ | refine blk_drew ?_ | refine blk_alloc ?_ _)); refine blk_put (cs := #[.string ((rd_T40 l0 x3_1).f0), .string (⟨#[]⟩ : ByteArray), .string (⟨#[]⟩ : ByteArray)]) ?_ 1 _ rfl; (with_reducible repeat (first | refine blk_drewN ?_ _ | refine blk_drew ?_ | refine blk_alloc ?_ _)); refine blk_put (cs := #[.string (⟨#[]⟩ : ByteArray), .string (⟨#[]⟩ : ByteArray), .string (⟨#[]⟩ : ByteArray)]) ?_ 0 _ rfl; (with_reducible repeat (first | refine blk_drewN ?_ _ | refine blk_drew ?_ | refine blk_alloc ?_ _)); exact BK121.out) hb); have n1_ := Aside0.mk (below_step (by repeat (first | (with_reducible first | exact HB.out | apply below_alloc | apply pw_below_drewN | apply below_drew1 | refine below_set ?_ GE121.out) | exact HB.out)) hb); clear BK121; clear HB; have BK121 := n0_; have HB := n1_; clear n0_ n1_; (try clear hb); (try clear hb2); (try clear hk); (try clear hi); have hcz27_0 : w26.cell? ⟨gb121, 0, none⟩ = some (.string ((rd_T40 l0 x3_1).f0)) := (blk_cell BK121.out 0).trans rfl; have hcz27_1 : w26.cell? ⟨gb121, 1, none⟩ = some (.string ((rd_T40 l0 x3_1).f1)) := (blk_cell BK121.out 1).trans rfl; have hcz27_2 : w26.cell? ⟨gb121, 2, none⟩ = some (.string ((rd_T40 l0 x3_1).f2)) := (blk_cell BK121.out 2).trans rfl; have hfz27_0 := blk_frozen BK121.out 0; have hfz27_1 := blk_frozen BK121.out 1; have hfz27_2 := blk_frozen BK121.out 2) | (go_at_call 40; (with_reducible refine (r02_Named.calls k1 ((rd_T40 l0 x3_1).f1) true _ A22.out).mono ?_); rintro e w' ⟨rfl, ⟨nd, rfl⟩⟩; (try first | exact ⟨rfl, _, World.drewN_drewN _ _ _⟩ | exact ⟨rfl, _, Eq.trans (World.drewN_drewN _ _ _) (congrArg (World.drewN _) (Nat.add_assoc _ _ _))⟩))))
          go_meet
          case rel => exact ⟨_, (false), (by first | rfl | (simp; done) | (simp [*]; done)), H', ⟨by have := HK1.out; first | omega | exact Nat.le_refl _⟩, ⟨by (with_reducible repeat (first | refine blk_drewN ?_ _ | refine blk_drew ?_ | refine blk_alloc ?_ _)); exact BK121.out⟩, ⟨by repeat (first | (with_reducible first | exact HB.out | apply below_alloc | apply pw_below_drewN | apply below_drew1 | refine below_set ?_ GE121.out) | exact HB.out)⟩⟩
         ·
          rw [if_neg c24] at H
          have c24b0 : (((rd_T40 l0 x3_1).f2).toList == ([] : List UInt8)) = false := beq_eq_false_iff_ne.mpr c24
          have c24b1 : (((rd_T40 l0 x3_1).f2).toList != ([] : List UInt8)) = true := bne_iff_ne.mpr c24
          replace H := Option.bind_eq_some_iff.mp H
          obtain ⟨t125, A280, H⟩ := H
          replace H : (if t125 = true then (r09_wrong.j1 k1 l0 x3_1 false ((rd_T40 l0 x3_1).f0) ((rd_T40 l0 x3_1).f1) ((rd_T40 l0 x3_1).f2)) else (r09_wrong.j1 k1 l0 x3_1 true ((rd_T40 l0 x3_1).f0) ((rd_T40 l0 x3_1).f1) ((rd_T40 l0 x3_1).f2))) = some r := H
          have A28 := Aside0.mk A280
          clear A280
          by_cases c29 : t125 = true
          ·
           subst c29
           have H1 : (r09_wrong.j1 k1 l0 x3_1 false ((rd_T40 l0 x3_1).f0) ((rd_T40 l0 x3_1).f1) ((rd_T40 l0 x3_1).f2)) = some r := by rw [if_pos rfl] at H; exact H
           clear H
           have H := H1
           clear H1
           have H' := Aside0.mk H
           clear H
           have hcz30_0 : w5.cell? ⟨gb121, 0, none⟩ = some (.string (⟨#[]⟩ : ByteArray)) := (blk_cell BK121.out 0).trans rfl
           have hcz30_1 : w5.cell? ⟨gb121, 1, none⟩ = some (.string (⟨#[]⟩ : ByteArray)) := (blk_cell BK121.out 1).trans rfl
           have hcz30_2 : w5.cell? ⟨gb121, 2, none⟩ = some (.string (⟨#[]⟩ : ByteArray)) := (blk_cell BK121.out 2).trans rfl
           have hfz30_0 := blk_frozen BK121.out 0
           have hfz30_1 := blk_frozen BK121.out 1
           have hfz30_2 := blk_frozen BK121.out 2
           go_wp2_with (first | (go_at_call 10; (with_reducible refine (r09_Named.calls k1 ((rd_T40 l0 x3_1).f0) true _ A7.out).mono ?_); rintro e w31 ⟨rfl, hb⟩; have n0_ := Aside0.mk (blk_below (g := gb121) (o := .cells #[.string ((rd_T40 l0 x3_1).f0), .string ((rd_T40 l0 x3_1).f1), .string ((rd_T40 l0 x3_1).f2)] 40 (0, 0)) (by (with_reducible repeat (first | refine blk_drewN ?_ _ | refine blk_drew ?_ | refine blk_alloc ?_ _)); refine blk_put (cs := #[.string ((rd_T40 l0 x3_1).f0), .string ((rd_T40 l0 x3_1).f1), .string (⟨#[]⟩ : ByteArray)]) ?_ 2 _ rfl; (with_reducible repeat (first | refine blk_drewN ?_ _ | refine blk_drew ?_ | refine blk_alloc ?_ _)); refine blk_put (cs := #[.string ((rd_T40 l0 x3_1).f0), .string (⟨#[]⟩ : ByteArray), .string (⟨#[]⟩ : ByteArray)]) ?_ 1 _ rfl; (with_reducible repeat (first | refine blk_drewN ?_ _ | refine blk_drew ?_ | refine blk_alloc ?_ _)); refine blk_put (cs := #[.string (⟨#[]⟩ : ByteArray), .string (⟨#[]⟩ : ByteArray), .string (⟨#[]⟩ : ByteArray)]) ?_ 0 _ rfl; (with_reducible repeat (first | refine blk_drewN ?_ _ | refine blk_drew ?_ | refine blk_alloc ?_ _)); exact BK121.out) hb); have n1_ := Aside0.mk (below_step (by repeat (first | (with_reducible first | exact HB.out | apply below_alloc | apply pw_below_drewN | apply below_drew1 | refine below_set ?_ GE121.out) | exact HB.out)) hb); clear BK121; clear HB; have BK121 := n0_; have HB := n1_; clear n0_ n1_; (try clear hb); (try clear hb2); (try clear hk); (try clear hi); have hcz32_0 : w31.cell? ⟨gb121, 0, none⟩ = some (.string ((rd_T40 l0 x3_1).f0)) := (blk_cell BK121.out 0).trans rfl; have hcz32_1 : w31.cell? ⟨gb121, 1, none⟩ = some (.string ((rd_T40 l0 x3_1).f1)) := (blk_cell BK121.out 1).trans rfl; have hcz32_2 : w31.cell? ⟨gb121, 2, none⟩ = some (.string ((rd_T40 l0 x3_1).f2)) := (blk_cell BK121.out 2).trans rfl; have hfz32_0 := blk_frozen BK121.out 0; have hfz32_1 := blk_frozen BK121.out 1; have hfz32_2 := blk_frozen BK121.out 2) | (go_at_call 40; (with_reducible refine (r02_Named.calls k1 ((rd_T40 l0 x3_1).f1) true _ A22.out).mono ?_); rintro e w' ⟨rfl, ⟨nd, rfl⟩⟩; (try first | exact ⟨rfl, _, World.drewN_drewN _ _ _⟩ | exact ⟨rfl, _, Eq.trans (World.drewN_drewN _ _ _) (congrArg (World.drewN _) (Nat.add_assoc _ _ _))⟩)) | (go_at_call 40; (with_reducible refine (r02_Named.calls k1 ((rd_T40 l0 x3_1).f2) true _ A28.out).mono ?_); rintro e w' ⟨rfl, ⟨nd, rfl⟩⟩; (try first | exact ⟨rfl, _, World.drewN_drewN _ _ _⟩ | exact ⟨rfl, _, Eq.trans (World.drewN_drewN _ _ _) (congrArg (World.drewN _) (Nat.add_assoc _ _ _))⟩)))
           repeat (go_quiet (first | (go_at_call 10; (with_reducible refine (r09_Named.calls k1 ((rd_T40 l0 x3_1).f0) true _ A7.out).mono ?_); rintro e w31 ⟨rfl, hb⟩; have n0_ := Aside0.mk (blk_below (g := gb121) (o := .cells #[.string ((rd_T40 l0 x3_1).f0), .string ((rd_T40 l0 x3_1).f1), .string ((rd_T40 l0 x3_1).f2)] 40 (0, 0)) (by (with_reducible repeat (first | refine blk_drewN ?_ _ | refine blk_drew ?_ | refine blk_alloc ?_ _)); refine blk_put (cs := #[.string ((rd_T40 l0 x3_1).f0), .string ((rd_T40 l0 x3_1).f1), .string (⟨#[]⟩ : ByteArray)]) ?_ 2 _ rfl; (with_reducible repeat (first | refine blk_drewN ?_ _ | refine blk_drew ?_ | refine blk_alloc ?_ _)); refine blk_put (cs := #[.string ((rd_T40 l0 x3_1).f0), .string (⟨#[]⟩ : ByteArray), .string (⟨#[]⟩ : ByteArray)]) ?_ 1 _ rfl; (with_reducible repeat (first | refine blk_drewN ?_ _ | refine blk_drew ?_ | refine blk_alloc ?_ _)); refine blk_put (cs := #[.string (⟨#[]⟩ : ByteArray), .string (⟨#[]⟩ : ByteArray), .string (⟨#[]⟩ : ByteArray)]) ?_ 0 _ rfl; (with_reducible repeat (first | refine blk_drewN ?_ _ | refine blk_drew ?_ | refine blk_alloc ?_ _)); exact BK121.out) hb); have n1_ := Aside0.mk (below_step (by repeat (first | (with_reducible first | exact HB.out | apply below_alloc | apply pw_below_drewN | apply below_drew1 | refine below_set ?_ GE121.out) | exact HB.out)) hb); clear BK121; clear HB; have BK121 := n0_; have HB := n1_; clear n0_ n1_; (try clear hb); (try clear hb2); (try clear hk); (try clear hi); have hcz32_0 : w31.cell? ⟨gb121, 0, none⟩ = some (.string ((rd_T40 l0 x3_1).f0)) := (blk_cell BK121.out 0).trans rfl; have hcz32_1 : w31.cell? ⟨gb121, 1, none⟩ = some (.string ((rd_T40 l0 x3_1).f1)) := (blk_cell BK121.out 1).trans rfl; have hcz32_2 : w31.cell? ⟨gb121, 2, none⟩ = some (.string ((rd_T40 l0 x3_1).f2)) := (blk_cell BK121.out 2).trans rfl; have hfz32_0 := blk_frozen BK121.out 0; have hfz32_1 := blk_frozen BK121.out 1; have hfz32_2 := blk_frozen BK121.out 2) | (go_at_call 40; (with_reducible refine (r02_Named.calls k1 ((rd_T40 l0 x3_1).f1) true _ A22.out).mono ?_); rintro e w' ⟨rfl, ⟨nd, rfl⟩⟩; (try first | exact ⟨rfl, _, World.drewN_drewN _ _ _⟩ | exact ⟨rfl, _, Eq.trans (World.drewN_drewN _ _ _) (congrArg (World.drewN _) (Nat.add_assoc _ _ _))⟩)) | (go_at_call 40; (with_reducible refine (r02_Named.calls k1 ((rd_T40 l0 x3_1).f2) true _ A28.out).mono ?_); rintro e w' ⟨rfl, ⟨nd, rfl⟩⟩; (try first | exact ⟨rfl, _, World.drewN_drewN _ _ _⟩ | exact ⟨rfl, _, Eq.trans (World.drewN_drewN _ _ _) (congrArg (World.drewN _) (Nat.add_assoc _ _ _))⟩))); try go_wp2_with (first | (go_at_call 10; (with_reducible refine (r09_Named.calls k1 ((rd_T40 l0 x3_1).f0) true _ A7.out).mono ?_); rintro e w31 ⟨rfl, hb⟩; have n0_ := Aside0.mk (blk_below (g := gb121) (o := .cells #[.string ((rd_T40 l0 x3_1).f0), .string ((rd_T40 l0 x3_1).f1), .string ((rd_T40 l0 x3_1).f2)] 40 (0, 0)) (by (with_reducible repeat (first | refine blk_drewN ?_ _ | refine blk_drew ?_ | refine blk_alloc ?_ _)); refine blk_put (cs := #[.string ((rd_T40 l0 x3_1).f0), .string ((rd_T40 l0 x3_1).f1), .string (⟨#[]⟩ : ByteArray)]) ?_ 2 _ rfl; (with_reducible repeat (first | refine blk_drewN ?_ _ | refine blk_drew ?_ | refine blk_alloc ?_ _)); refine blk_put (cs := #[.string ((rd_T40 l0 x3_1).f0), .string (⟨#[]⟩ : ByteArray), .string (⟨#[]⟩ : ByteArray)]) ?_ 1 _ rfl; (with_reducible repeat (first | refine blk_drewN ?_ _ | refine blk_drew ?_ | refine blk_alloc ?_ _)); refine blk_put (cs := #[.string (⟨#[]⟩ : ByteArray), .string (⟨#[]⟩ : ByteArray), .string (⟨#[]⟩ : ByteArray)]) ?_ 0 _ rfl; (with_reducible repeat (first | refine blk_drewN ?_ _ | refine blk_drew ?_ | refine blk_alloc ?_ _)); exact BK121.out) hb); have n1_ := Aside0.mk (below_step (by repeat (first | (with_reducible first | exact HB.out | apply below_alloc | apply pw_below_drewN | apply below_drew1 | refine below_set ?_ GE121.out) | exact HB.out)) hb); clear BK121; clear HB; have BK121 := n0_; have HB := n1_; clear n0_ n1_; (try clear hb); (try clear hb2); (try clear hk); (try clear hi); have hcz32_0 : w31.cell? ⟨gb121, 0, none⟩ = some (.string ((rd_T40 l0 x3_1).f0)) := (blk_cell BK121.out 0).trans rfl; have hcz32_1 : w31.cell? ⟨gb121, 1, none⟩ = some (.string ((rd_T40 l0 x3_1).f1)) := (blk_cell BK121.out 1).trans rfl; have hcz32_2 : w31.cell? ⟨gb121, 2, none⟩ = some (.string ((rd_T40 l0 x3_1).f2)) := (blk_cell BK121.out 2).trans rfl; have hfz32_0 := blk_frozen BK121.out 0; have hfz32_1 := blk_frozen BK121.out 1; have hfz32_2 := blk_frozen BK121.out 2) | (go_at_call 40; (with_reducible refine (r02_Named.calls k1 ((rd_T40 l0 x3_1).f1) true _ A22.out).mono ?_); rintro e w' ⟨rfl, ⟨nd, rfl⟩⟩; (try first | exact ⟨rfl, _, World.drewN_drewN _ _ _⟩ | exact ⟨rfl, _, Eq.trans (World.drewN_drewN _ _ _) (congrArg (World.drewN _) (Nat.add_assoc _ _ _))⟩)) | (go_at_call 40; (with_reducible refine (r02_Named.calls k1 ((rd_T40 l0 x3_1).f2) true _ A28.out).mono ?_); rintro e w' ⟨rfl, ⟨nd, rfl⟩⟩; (try first | exact ⟨rfl, _, World.drewN_drewN _ _ _⟩ | exact ⟨rfl, _, Eq.trans (World.drewN_drewN _ _ _) (congrArg (World.drewN _) (Nat.add_assoc _ _ _))⟩))))
           go_meet
           case rel => exact ⟨_, (false), (by first | rfl | (simp; done) | (simp [*]; done)), H', ⟨by have := HK1.out; first | omega | exact Nat.le_refl _⟩, ⟨by (with_reducible repeat (first | refine blk_drewN ?_ _ | refine blk_drew ?_ | refine blk_alloc ?_ _)); exact BK121.out⟩, ⟨by repeat (first | (with_reducible first | exact HB.out | apply below_alloc | apply pw_below_drewN | apply below_drew1 | refine below_set ?_ GE121.out) | exact HB.out)⟩⟩
          ·
           replace c29 := Bool.eq_false_iff.mpr c29
           subst c29
           have H1 : (r09_wrong.j1 k1 l0 x3_1 true ((rd_T40 l0 x3_1).f0) ((rd_T40 l0 x3_1).f1) ((rd_T40 l0 x3_1).f2)) = some r := by rw [if_neg (show ¬ (false = true) by decide)] at H; exact H
           clear H
           have H := H1
           clear H1
           have H' := Aside0.mk H
           clear H
           have hcz33_0 : w5.cell? ⟨gb121, 0, none⟩ = some (.string (⟨#[]⟩ : ByteArray)) := (blk_cell BK121.out 0).trans rfl
           have hcz33_1 : w5.cell? ⟨gb121, 1, none⟩ = some (.string (⟨#[]⟩ : ByteArray)) := (blk_cell BK121.out 1).trans rfl
           have hcz33_2 : w5.cell? ⟨gb121, 2, none⟩ = some (.string (⟨#[]⟩ : ByteArray)) := (blk_cell BK121.out 2).trans rfl
           have hfz33_0 := blk_frozen BK121.out 0
           have hfz33_1 := blk_frozen BK121.out 1
           have hfz33_2 := blk_frozen BK121.out 2
           go_wp2_with (first | (go_at_call 10; (with_reducible refine (r09_Named.calls k1 ((rd_T40 l0 x3_1).f0) true _ A7.out).mono ?_); rintro e w34 ⟨rfl, hb⟩; have n0_ := Aside0.mk (blk_below (g := gb121) (o := .cells #[.string ((rd_T40 l0 x3_1).f0), .string ((rd_T40 l0 x3_1).f1), .string ((rd_T40 l0 x3_1).f2)] 40 (0, 0)) (by (with_reducible repeat (first | refine blk_drewN ?_ _ | refine blk_drew ?_ | refine blk_alloc ?_ _)); refine blk_put (cs := #[.string ((rd_T40 l0 x3_1).f0), .string ((rd_T40 l0 x3_1).f1), .string (⟨#[]⟩ : ByteArray)]) ?_ 2 _ rfl; (with_reducible repeat (first | refine blk_drewN ?_ _ | refine blk_drew ?_ | refine blk_alloc ?_ _)); refine blk_put (cs := #[.string ((rd_T40 l0 x3_1).f0), .string (⟨#[]⟩ : ByteArray), .string (⟨#[]⟩ : ByteArray)]) ?_ 1 _ rfl; (with_reducible repeat (first | refine blk_drewN ?_ _ | refine blk_drew ?_ | refine blk_alloc ?_ _)); refine blk_put (cs := #[.string (⟨#[]⟩ : ByteArray), .string (⟨#[]⟩ : ByteArray), .string (⟨#[]⟩ : ByteArray)]) ?_ 0 _ rfl; (with_reducible repeat (first | refine blk_drewN ?_ _ | refine blk_drew ?_ | refine blk_alloc ?_ _)); exact BK121.out) hb); have n1_ := Aside0.mk (below_step (by repeat (first | (with_reducible first | exact HB.out | apply below_alloc | apply pw_below_drewN | apply below_drew1 | refine below_set ?_ GE121.out) | exact HB.out)) hb); clear BK121; clear HB; have BK121 := n0_; have HB := n1_; clear n0_ n1_; (try clear hb); (try clear hb2); (try clear hk); (try clear hi); have hcz35_0 : w34.cell? ⟨gb121, 0, none⟩ = some (.string ((rd_T40 l0 x3_1).f0)) := (blk_cell BK121.out 0).trans rfl; have hcz35_1 : w34.cell? ⟨gb121, 1, none⟩ = some (.string ((rd_T40 l0 x3_1).f1)) := (blk_cell BK121.out 1).trans rfl; have hcz35_2 : w34.cell? ⟨gb121, 2, none⟩ = some (.string ((rd_T40 l0 x3_1).f2)) := (blk_cell BK121.out 2).trans rfl; have hfz35_0 := blk_frozen BK121.out 0; have hfz35_1 := blk_frozen BK121.out 1; have hfz35_2 := blk_frozen BK121.out 2) | (go_at_call 40; (with_reducible refine (r02_Named.calls k1 ((rd_T40 l0 x3_1).f1) true _ A22.out).mono ?_); rintro e w' ⟨rfl, ⟨nd, rfl⟩⟩; (try first | exact ⟨rfl, _, World.drewN_drewN _ _ _⟩ | exact ⟨rfl, _, Eq.trans (World.drewN_drewN _ _ _) (congrArg (World.drewN _) (Nat.add_assoc _ _ _))⟩)) | (go_at_call 40; (with_reducible refine (r02_Named.calls k1 ((rd_T40 l0 x3_1).f2) false _ A28.out).mono ?_); rintro e w' ⟨rfl, ⟨nd, rfl⟩⟩; (try first | exact ⟨rfl, _, World.drewN_drewN _ _ _⟩ | exact ⟨rfl, _, Eq.trans (World.drewN_drewN _ _ _) (congrArg (World.drewN _) (Nat.add_assoc _ _ _))⟩)))
           repeat (go_quiet (first | (go_at_call 10; (with_reducible refine (r09_Named.calls k1 ((rd_T40 l0 x3_1).f0) true _ A7.out).mono ?_); rintro e w34 ⟨rfl, hb⟩; have n0_ := Aside0.mk (blk_below (g := gb121) (o := .cells #[.string ((rd_T40 l0 x3_1).f0), .string ((rd_T40 l0 x3_1).f1), .string ((rd_T40 l0 x3_1).f2)] 40 (0, 0)) (by (with_reducible repeat (first | refine blk_drewN ?_ _ | refine blk_drew ?_ | refine blk_alloc ?_ _)); refine blk_put (cs := #[.string ((rd_T40 l0 x3_1).f0), .string ((rd_T40 l0 x3_1).f1), .string (⟨#[]⟩ : ByteArray)]) ?_ 2 _ rfl; (with_reducible repeat (first | refine blk_drewN ?_ _ | refine blk_drew ?_ | refine blk_alloc ?_ _)); refine blk_put (cs := #[.string ((rd_T40 l0 x3_1).f0), .string (⟨#[]⟩ : ByteArray), .string (⟨#[]⟩ : ByteArray)]) ?_ 1 _ rfl; (with_reducible repeat (first | refine blk_drewN ?_ _ | refine blk_drew ?_ | refine blk_alloc ?_ _)); refine blk_put (cs := #[.string (⟨#[]⟩ : ByteArray), .string (⟨#[]⟩ : ByteArray), .string (⟨#[]⟩ : ByteArray)]) ?_ 0 _ rfl; (with_reducible repeat (first | refine blk_drewN ?_ _ | refine blk_drew ?_ | refine blk_alloc ?_ _)); exact BK121.out) hb); have n1_ := Aside0.mk (below_step (by repeat (first | (with_reducible first | exact HB.out | apply below_alloc | apply pw_below_drewN | apply below_drew1 | refine below_set ?_ GE121.out) | exact HB.out)) hb); clear BK121; clear HB; have BK121 := n0_; have HB := n1_; clear n0_ n1_; (try clear hb); (try clear hb2); (try clear hk); (try clear hi); have hcz35_0 : w34.cell? ⟨gb121, 0, none⟩ = some (.string ((rd_T40 l0 x3_1).f0)) := (blk_cell BK121.out 0).trans rfl; have hcz35_1 : w34.cell? ⟨gb121, 1, none⟩ = some (.string ((rd_T40 l0 x3_1).f1)) := (blk_cell BK121.out 1).trans rfl; have hcz35_2 : w34.cell? ⟨gb121, 2, none⟩ = some (.string ((rd_T40 l0 x3_1).f2)) := (blk_cell BK121.out 2).trans rfl; have hfz35_0 := blk_frozen BK121.out 0; have hfz35_1 := blk_frozen BK121.out 1; have hfz35_2 := blk_frozen BK121.out 2) | (go_at_call 40; (with_reducible refine (r02_Named.calls k1 ((rd_T40 l0 x3_1).f1) true _ A22.out).mono ?_); rintro e w' ⟨rfl, ⟨nd, rfl⟩⟩; (try first | exact ⟨rfl, _, World.drewN_drewN _ _ _⟩ | exact ⟨rfl, _, Eq.trans (World.drewN_drewN _ _ _) (congrArg (World.drewN _) (Nat.add_assoc _ _ _))⟩)) | (go_at_call 40; (with_reducible refine (r02_Named.calls k1 ((rd_T40 l0 x3_1).f2) false _ A28.out).mono ?_); rintro e w' ⟨rfl, ⟨nd, rfl⟩⟩; (try first | exact ⟨rfl, _, World.drewN_drewN _ _ _⟩ | exact ⟨rfl, _, Eq.trans (World.drewN_drewN _ _ _) (congrArg (World.drewN _) (Nat.add_assoc _ _ _))⟩))); try go_wp2_with (first | (go_at_call 10; (with_reducible refine (r09_Named.calls k1 ((rd_T40 l0 x3_1).f0) true _ A7.out).mono ?_); rintro e w34 ⟨rfl, hb⟩; have n0_ := Aside0.mk (blk_below (g := gb121) (o := .cells #[.string ((rd_T40 l0 x3_1).f0), .string ((rd_T40 l0 x3_1).f1), .string ((rd_T40 l0 x3_1).f2)] 40 (0, 0)) (by (with_reducible repeat (first | refine blk_drewN ?_ _ | refine blk_drew ?_ | refine blk_alloc ?_ _)); refine blk_put (cs := #[.string ((rd_T40 l0 x3_1).f0), .string ((rd_T40 l0 x3_1).f1), .string (⟨#[]⟩ : ByteArray)]) ?_ 2 _ rfl; (with_reducible repeat (first | refine blk_drewN ?_ _ | refine blk_drew ?_ | refine blk_alloc ?_ _)); refine blk_put (cs := #[.string ((rd_T40 l0 x3_1).f0), .string (⟨#[]⟩ : ByteArray), .string (⟨#[]⟩ : ByteArray)]) ?_ 1 _ rfl; (with_reducible repeat (first | refine blk_drewN ?_ _ | refine blk_drew ?_ | refine blk_alloc ?_ _)); refine blk_put (cs := #[.string (⟨#[]⟩ : ByteArray), .string (⟨#[]⟩ : ByteArray), .string (⟨#[]⟩ : ByteArray)]) ?_ 0 _ rfl; (with_reducible repeat (first | refine blk_drewN ?_ _ | refine blk_drew ?_ | refine blk_alloc ?_ _)); exact BK121.out) hb); have n1_ := Aside0.mk (below_step (by repeat (first | (with_reducible first | exact HB.out | apply below_alloc | apply pw_below_drewN | apply below_drew1 | refine below_set ?_ GE121.out) | exact HB.out)) hb); clear BK121; clear HB; have BK121 := n0_; have HB := n1_; clear n0_ n1_; (try clear hb); (try clear hb2); (try clear hk); (try clear hi); have hcz35_0 : w34.cell? ⟨gb121, 0, none⟩ = some (.string ((rd_T40 l0 x3_1).f0)) := (blk_cell BK121.out 0).trans rfl; have hcz35_1 : w34.cell? ⟨gb121, 1, none⟩ = some (.string ((rd_T40 l0 x3_1).f1)) := (blk_cell BK121.out 1).trans rfl; have hcz35_2 : w34.cell? ⟨gb121, 2, none⟩ = some (.string ((rd_T40 l0 x3_1).f2)) := (blk_cell BK121.out 2).trans rfl; have hfz35_0 := blk_frozen BK121.out 0; have hfz35_1 := blk_frozen BK121.out 1; have hfz35_2 := blk_frozen BK121.out 2) | (go_at_call 40; (with_reducible refine (r02_Named.calls k1 ((rd_T40 l0 x3_1).f1) true _ A22.out).mono ?_); rintro e w' ⟨rfl, ⟨nd, rfl⟩⟩; (try first | exact ⟨rfl, _, World.drewN_drewN _ _ _⟩ | exact ⟨rfl, _, Eq.trans (World.drewN_drewN _ _ _) (congrArg (World.drewN _) (Nat.add_assoc _ _ _))⟩)) | (go_at_call 40; (with_reducible refine (r02_Named.calls k1 ((rd_T40 l0 x3_1).f2) false _ A28.out).mono ?_); rintro e w' ⟨rfl, ⟨nd, rfl⟩⟩; (try first | exact ⟨rfl, _, World.drewN_drewN _ _ _⟩ | exact ⟨rfl, _, Eq.trans (World.drewN_drewN _ _ _) (congrArg (World.drewN _) (Nat.add_assoc _ _ _))⟩))))
           go_meet
           case rel => exact ⟨_, (true), (by first | rfl | (simp; done) | (simp [*]; done)), H', ⟨by have := HK1.out; first | omega | exact Nat.le_refl _⟩, ⟨by (with_reducible repeat (first | refine blk_drewN ?_ _ | refine blk_drew ?_ | refine blk_alloc ?_ _)); exact BK121.out⟩, ⟨by repeat (first | (with_reducible first | exact HB.out | apply below_alloc | apply pw_below_drewN | apply below_drew1 | refine below_set ?_ GE121.out) | exact HB.out)⟩⟩
        ·
         replace c23 := Bool.eq_false_iff.mpr c23
         subst c23
         have H1 : (r09_wrong.j1 k1 l0 x3_1 true ((rd_T40 l0 x3_1).f0) ((rd_T40 l0 x3_1).f1) ((rd_T40 l0 x3_1).f2)) = some r := by rw [if_neg (show ¬ (false = true) by decide)] at H; exact H
         clear H
         have H := H1
         clear H1
         have H' := Aside0.mk H
         clear H
         have hcz36_0 : w5.cell? ⟨gb121, 0, none⟩ = some (.string (⟨#[]⟩ : ByteArray)) := (blk_cell BK121.out 0).trans rfl
         have hcz36_1 : w5.cell? ⟨gb121, 1, none⟩ = some (.string (⟨#[]⟩ : ByteArray)) := (blk_cell BK121.out 1).trans rfl
         have hcz36_2 : w5.cell? ⟨gb121, 2, none⟩ = some (.string (⟨#[]⟩ : ByteArray)) := (blk_cell BK121.out 2).trans rfl
         have hfz36_0 := blk_frozen BK121.out 0
         have hfz36_1 := blk_frozen BK121.out 1
         have hfz36_2 := blk_frozen BK121.out 2
         go_wp2_with (first | (go_at_call 10; (with_reducible refine (r09_Named.calls k1 ((rd_T40 l0 x3_1).f0) true _ A7.out).mono ?_); rintro e w37 ⟨rfl, hb⟩; have n0_ := Aside0.mk (blk_below (g := gb121) (o := .cells #[.string ((rd_T40 l0 x3_1).f0), .string ((rd_T40 l0 x3_1).f1), .string ((rd_T40 l0 x3_1).f2)] 40 (0, 0)) (by (with_reducible repeat (first | refine blk_drewN ?_ _ | refine blk_drew ?_ | refine blk_alloc ?_ _)); refine blk_put (cs := #[.string ((rd_T40 l0 x3_1).f0), .string ((rd_T40 l0 x3_1).f1), .string (⟨#[]⟩ : ByteArray)]) ?_ 2 _ rfl; (with_reducible repeat (first | refine blk_drewN ?_ _ | refine blk_drew ?_ | refine blk_alloc ?_ _)); refine blk_put (cs := #[.string ((rd_T40 l0 x3_1).f0), .string (⟨#[]⟩ : ByteArray), .string (⟨#[]⟩ : ByteArray)]) ?_ 1 _ rfl; (with_reducible repeat (first | refine blk_drewN ?_ _ | refine blk_drew ?_ | refine blk_alloc ?_ _)); refine blk_put (cs := #[.string (⟨#[]⟩ : ByteArray), .string (⟨#[]⟩ : ByteArray), .string (⟨#[]⟩ : ByteArray)]) ?_ 0 _ rfl; (with_reducible repeat (first | refine blk_drewN ?_ _ | refine blk_drew ?_ | refine blk_alloc ?_ _)); exact BK121.out) hb); have n1_ := Aside0.mk (below_step (by repeat (first | (with_reducible first | exact HB.out | apply below_alloc | apply pw_below_drewN | apply below_drew1 | refine below_set ?_ GE121.out) | exact HB.out)) hb); clear BK121; clear HB; have BK121 := n0_; have HB := n1_; clear n0_ n1_; (try clear hb); (try clear hb2); (try clear hk); (try clear hi); have hcz38_0 : w37.cell? ⟨gb121, 0, none⟩ = some (.string ((rd_T40 l0 x3_1).f0)) := (blk_cell BK121.out 0).trans rfl; have hcz38_1 : w37.cell? ⟨gb121, 1, none⟩ = some (.string ((rd_T40 l0 x3_1).f1)) := (blk_cell BK121.out 1).trans rfl; have hcz38_2 : w37.cell? ⟨gb121, 2, none⟩ = some (.string ((rd_T40 l0 x3_1).f2)) := (blk_cell BK121.out 2).trans rfl; have hfz38_0 := blk_frozen BK121.out 0; have hfz38_1 := blk_frozen BK121.out 1; have hfz38_2 := blk_frozen BK121.out 2) | (go_at_call 40; (with_reducible refine (r02_Named.calls k1 ((rd_T40 l0 x3_1).f1) false _ A22.out).mono ?_); rintro e w' ⟨rfl, ⟨nd, rfl⟩⟩; (try first | exact ⟨rfl, _, World.drewN_drewN _ _ _⟩ | exact ⟨rfl, _, Eq.trans (World.drewN_drewN _ _ _) (congrArg (World.drewN _) (Nat.add_assoc _ _ _))⟩)))
         repeat (go_quiet (first | (go_at_call 10; (with_reducible refine (r09_Named.calls k1 ((rd_T40 l0 x3_1).f0) true _ A7.out).mono ?_); rintro e w37 ⟨rfl, hb⟩; have n0_ := Aside0.mk (blk_below (g := gb121) (o := .cells #[.string ((rd_T40 l0 x3_1).f0), .string ((rd_T40 l0 x3_1).f1), .string ((rd_T40 l0 x3_1).f2)] 40 (0, 0)) (by (with_reducible repeat (first | refine blk_drewN ?_ _ | refine blk_drew ?_ | refine blk_alloc ?_ _)); refine blk_put (cs := #[.string ((rd_T40 l0 x3_1).f0), .string ((rd_T40 l0 x3_1).f1), .string (⟨#[]⟩ : ByteArray)]) ?_ 2 _ rfl; (with_reducible repeat (first | refine blk_drewN ?_ _ | refine blk_drew ?_ | refine blk_alloc ?_ _)); refine blk_put (cs := #[.string ((rd_T40 l0 x3_1).f0), .string (⟨#[]⟩ : ByteArray), .string (⟨#[]⟩ : ByteArray)]) ?_ 1 _ rfl; (with_reducible repeat (first | refine blk_drewN ?_ _ | refine blk_drew ?_ | refine blk_alloc ?_ _)); refine blk_put (cs := #[.string (⟨#[]⟩ : ByteArray), .string (⟨#[]⟩ : ByteArray), .string (⟨#[]⟩ : ByteArray)]) ?_ 0 _ rfl; (with_reducible repeat (first | refine blk_drewN ?_ _ | refine blk_drew ?_ | refine blk_alloc ?_ _)); exact BK121.out) hb); have n1_ := Aside0.mk (below_step (by repeat (first | (with_reducible first | exact HB.out | apply below_alloc | apply pw_below_drewN | apply below_drew1 | refine below_set ?_ GE121.out) | exact HB.out)) hb); clear BK121; clear HB; have BK121 := n0_; have HB := n1_; clear n0_ n1_; (try clear hb); (try clear hb2); (try clear hk); (try clear hi); have hcz38_0 : w37.cell? ⟨gb121, 0, none⟩ = some (.string ((rd_T40 l0 x3_1).f0)) := (blk_cell BK121.out 0).trans rfl; have hcz38_1 : w37.cell? ⟨gb121, 1, none⟩ = some (.string ((rd_T40 l0 x3_1).f1)) := (blk_cell BK121.out 1).trans rfl; have hcz38_2 : w37.cell? ⟨gb121, 2, none⟩ = some (.string ((rd_T40 l0 x3_1).f2)) := (blk_cell BK121.out 2).trans rfl; have hfz38_0 := blk_frozen BK121.out 0; have hfz38_1 := blk_frozen BK121.out 1; have hfz38_2 := blk_frozen BK121.out 2) | (go_at_call 40; (with_reducible refine (r02_Named.calls k1 ((rd_T40 l0 x3_1).f1) false _ A22.out).mono ?_); rintro e w' ⟨rfl, ⟨nd, rfl⟩⟩; (try first | exact ⟨rfl, _, World.drewN_drewN _ _ _⟩ | exact ⟨rfl, _, Eq.trans (World.drewN_drewN _ _ _) (congrArg (World.drewN _) (Nat.add_assoc _ _ _))⟩))); try go_wp2_with (first | (go_at_call 10; (with_reducible refine (r09_Named.calls k1 ((rd_T40 l0 x3_1).f0) true _ A7.out).mono ?_); rintro e w37 ⟨rfl, hb⟩; have n0_ := Aside0.mk (blk_below (g := gb121) (o := .cells #[.string ((rd_T40 l0 x3_1).f0), .string ((rd_T40 l0 x3_1).f1), .string ((rd_T40 l0 x3_1).f2)] 40 (0, 0)) (by (with_reducible repeat (first | refine blk_drewN ?_ _ | refine blk_drew ?_ | refine blk_alloc ?_ _)); refine blk_put (cs := #[.string ((rd_T40 l0 x3_1).f0), .string ((rd_T40 l0 x3_1).f1), .string (⟨#[]⟩ : ByteArray)]) ?_ 2 _ rfl; (with_reducible repeat (first | refine blk_drewN ?_ _ | refine blk_drew ?_ | refine blk_alloc ?_ _)); refine blk_put (cs := #[.string ((rd_T40 l0 x3_1).f0), .string (⟨#[]⟩ : ByteArray), .string (⟨#[]⟩ : ByteArray)]) ?_ 1 _ rfl; (with_reducible repeat (first | refine blk_drewN ?_ _ | refine blk_drew ?_ | refine blk_alloc ?_ _)); refine blk_put (cs := #[.string (⟨#[]⟩ : ByteArray), .string (⟨#[]⟩ : ByteArray), .string (⟨#[]⟩ : ByteArray)]) ?_ 0 _ rfl; (with_reducible repeat (first | refine blk_drewN ?_ _ | refine blk_drew ?_ | refine blk_alloc ?_ _)); exact BK121.out) hb); have n1_ := Aside0.mk (below_step (by repeat (first | (with_reducible first | exact HB.out | apply below_alloc | apply pw_below_drewN | apply below_drew1 | refine below_set ?_ GE121.out) | exact HB.out)) hb); clear BK121; clear HB; have BK121 := n0_; have HB := n1_; clear n0_ n1_; (try clear hb); (try clear hb2); (try clear hk); (try clear hi); have hcz38_0 : w37.cell? ⟨gb121, 0, none⟩ = some (.string ((rd_T40 l0 x3_1).f0)) := (blk_cell BK121.out 0).trans rfl; have hcz38_1 : w37.cell? ⟨gb121, 1, none⟩ = some (.string ((rd_T40 l0 x3_1).f1)) := (blk_cell BK121.out 1).trans rfl; have hcz38_2 : w37.cell? ⟨gb121, 2, none⟩ = some (.string ((rd_T40 l0 x3_1).f2)) := (blk_cell BK121.out 2).trans rfl; have hfz38_0 := blk_frozen BK121.out 0; have hfz38_1 := blk_frozen BK121.out 1; have hfz38_2 := blk_frozen BK121.out 2) | (go_at_call 40; (with_reducible refine (r02_Named.calls k1 ((rd_T40 l0 x3_1).f1) false _ A22.out).mono ?_); rintro e w' ⟨rfl, ⟨nd, rfl⟩⟩; (try first | exact ⟨rfl, _, World.drewN_drewN _ _ _⟩ | exact ⟨rfl, _, Eq.trans (World.drewN_drewN _ _ _) (congrArg (World.drewN _) (Nat.add_assoc _ _ _))⟩))))
         go_meet
         case rel => exact ⟨_, (true), (by first | rfl | (simp; done) | (simp [*]; done)), H', ⟨by have := HK1.out; first | omega | exact Nat.le_refl _⟩, ⟨by (with_reducible repeat (first | refine blk_drewN ?_ _ | refine blk_drew ?_ | refine blk_alloc ?_ _)); exact BK121.out⟩, ⟨by repeat (first | (with_reducible first | exact HB.out | apply below_alloc | apply pw_below_drewN | apply below_drew1 | refine below_set ?_ GE121.out) | exact HB.out)⟩⟩
      ·
       replace c8 := Bool.eq_false_iff.mpr c8
       subst c8
       have H1 : (r09_wrong.j1 k1 l0 x3_1 true ((rd_T40 l0 x3_1).f0) ((rd_T40 l0 x3_1).f1) ((rd_T40 l0 x3_1).f2)) = some r := by rw [if_neg (show ¬ (false = true) by decide)] at H; exact H
       clear H
       have H := H1
       clear H1
       have H' := Aside0.mk H
       clear H
       have hcz39_0 : w5.cell? ⟨gb121, 0, none⟩ = some (.string (⟨#[]⟩ : ByteArray)) := (blk_cell BK121.out 0).trans rfl
       have hcz39_1 : w5.cell? ⟨gb121, 1, none⟩ = some (.string (⟨#[]⟩ : ByteArray)) := (blk_cell BK121.out 1).trans rfl
       have hcz39_2 : w5.cell? ⟨gb121, 2, none⟩ = some (.string (⟨#[]⟩ : ByteArray)) := (blk_cell BK121.out 2).trans rfl
       have hfz39_0 := blk_frozen BK121.out 0
       have hfz39_1 := blk_frozen BK121.out 1
       have hfz39_2 := blk_frozen BK121.out 2
       go_wp2_with (first | (go_at_call 10; (with_reducible refine (r09_Named.calls k1 ((rd_T40 l0 x3_1).f0) false _ A7.out).mono ?_); rintro e w40 ⟨rfl, hb⟩; have n0_ := Aside0.mk (blk_below (g := gb121) (o := .cells #[.string ((rd_T40 l0 x3_1).f0), .string ((rd_T40 l0 x3_1).f1), .string ((rd_T40 l0 x3_1).f2)] 40 (0, 0)) (by (with_reducible repeat (first | refine blk_drewN ?_ _ | refine blk_drew ?_ | refine blk_alloc ?_ _)); refine blk_put (cs := #[.string ((rd_T40 l0 x3_1).f0), .string ((rd_T40 l0 x3_1).f1), .string (⟨#[]⟩ : ByteArray)]) ?_ 2 _ rfl; (with_reducible repeat (first | refine blk_drewN ?_ _ | refine blk_drew ?_ | refine blk_alloc ?_ _)); refine blk_put (cs := #[.string ((rd_T40 l0 x3_1).f0), .string (⟨#[]⟩ : ByteArray), .string (⟨#[]⟩ : ByteArray)]) ?_ 1 _ rfl; (with_reducible repeat (first | refine blk_drewN ?_ _ | refine blk_drew ?_ | refine blk_alloc ?_ _)); refine blk_put (cs := #[.string (⟨#[]⟩ : ByteArray), .string (⟨#[]⟩ : ByteArray), .string (⟨#[]⟩ : ByteArray)]) ?_ 0 _ rfl; (with_reducible repeat (first | refine blk_drewN ?_ _ | refine blk_drew ?_ | refine blk_alloc ?_ _)); exact BK121.out) hb); have n1_ := Aside0.mk (below_step (by repeat (first | (with_reducible first | exact HB.out | apply below_alloc | apply pw_below_drewN | apply below_drew1 | refine below_set ?_ GE121.out) | exact HB.out)) hb); clear BK121; clear HB; have BK121 := n0_; have HB := n1_; clear n0_ n1_; (try clear hb); (try clear hb2); (try clear hk); (try clear hi)))
       repeat (go_quiet (first | (go_at_call 10; (with_reducible refine (r09_Named.calls k1 ((rd_T40 l0 x3_1).f0) false _ A7.out).mono ?_); rintro e w40 ⟨rfl, hb⟩; have n0_ := Aside0.mk (blk_below (g := gb121) (o := .cells #[.string ((rd_T40 l0 x3_1).f0), .string ((rd_T40 l0 x3_1).f1), .string ((rd_T40 l0 x3_1).f2)] 40 (0, 0)) (by (with_reducible repeat (first | refine blk_drewN ?_ _ | refine blk_drew ?_ | refine blk_alloc ?_ _)); refine blk_put (cs := #[.string ((rd_T40 l0 x3_1).f0), .string ((rd_T40 l0 x3_1).f1), .string (⟨#[]⟩ : ByteArray)]) ?_ 2 _ rfl; (with_reducible repeat (first | refine blk_drewN ?_ _ | refine blk_drew ?_ | refine blk_alloc ?_ _)); refine blk_put (cs := #[.string ((rd_T40 l0 x3_1).f0), .string (⟨#[]⟩ : ByteArray), .string (⟨#[]⟩ : ByteArray)]) ?_ 1 _ rfl; (with_reducible repeat (first | refine blk_drewN ?_ _ | refine blk_drew ?_ | refine blk_alloc ?_ _)); refine blk_put (cs := #[.string (⟨#[]⟩ : ByteArray), .string (⟨#[]⟩ : ByteArray), .string (⟨#[]⟩ : ByteArray)]) ?_ 0 _ rfl; (with_reducible repeat (first | refine blk_drewN ?_ _ | refine blk_drew ?_ | refine blk_alloc ?_ _)); exact BK121.out) hb); have n1_ := Aside0.mk (below_step (by repeat (first | (with_reducible first | exact HB.out | apply below_alloc | apply pw_below_drewN | apply below_drew1 | refine below_set ?_ GE121.out) | exact HB.out)) hb); clear BK121; clear HB; have BK121 := n0_; have HB := n1_; clear n0_ n1_; (try clear hb); (try clear hb2); (try clear hk); (try clear hi))); try go_wp2_with (first | (go_at_call 10; (with_reducible refine (r09_Named.calls k1 ((rd_T40 l0 x3_1).f0) false _ A7.out).mono ?_); rintro e w40 ⟨rfl, hb⟩; have n0_ := Aside0.mk (blk_below (g := gb121) (o := .cells #[.string ((rd_T40 l0 x3_1).f0), .string ((rd_T40 l0 x3_1).f1), .string ((rd_T40 l0 x3_1).f2)] 40 (0, 0)) (by (with_reducible repeat (first | refine blk_drewN ?_ _ | refine blk_drew ?_ | refine blk_alloc ?_ _)); refine blk_put (cs := #[.string ((rd_T40 l0 x3_1).f0), .string ((rd_T40 l0 x3_1).f1), .string (⟨#[]⟩ : ByteArray)]) ?_ 2 _ rfl; (with_reducible repeat (first | refine blk_drewN ?_ _ | refine blk_drew ?_ | refine blk_alloc ?_ _)); refine blk_put (cs := #[.string ((rd_T40 l0 x3_1).f0), .string (⟨#[]⟩ : ByteArray), .string (⟨#[]⟩ : ByteArray)]) ?_ 1 _ rfl; (with_reducible repeat (first | refine blk_drewN ?_ _ | refine blk_drew ?_ | refine blk_alloc ?_ _)); refine blk_put (cs := #[.string (⟨#[]⟩ : ByteArray), .string (⟨#[]⟩ : ByteArray), .string (⟨#[]⟩ : ByteArray)]) ?_ 0 _ rfl; (with_reducible repeat (first | refine blk_drewN ?_ _ | refine blk_drew ?_ | refine blk_alloc ?_ _)); exact BK121.out) hb); have n1_ := Aside0.mk (below_step (by repeat (first | (with_reducible first | exact HB.out | apply below_alloc | apply pw_below_drewN | apply below_drew1 | refine below_set ?_ GE121.out) | exact HB.out)) hb); clear BK121; clear HB; have BK121 := n0_; have HB := n1_; clear n0_ n1_; (try clear hb); (try clear hb2); (try clear hk); (try clear hi))))
       go_meet
       case rel => exact ⟨_, (true), (by first | rfl | (simp; done) | (simp [*]; done)), H', ⟨by have := HK1.out; first | omega | exact Nat.le_refl _⟩, ⟨by (with_reducible repeat (first | refine blk_drewN ?_ _ | refine blk_drew ?_ | refine blk_alloc ?_ _)); exact BK121.out⟩, ⟨by repeat (first | (with_reducible first | exact HB.out | apply below_alloc | apply pw_below_drewN | apply below_drew1 | refine below_set ?_ GE121.out) | exact HB.out)⟩⟩
     case rest =>
      clear HC4
      try clear c1
      try clear p1
      try clear q1
      try clear hx1
      try clear c2
      try clear c2b0
      try clear p2
      try clear c3
      try clear c3b0
      try clear c8
      try clear c9
      try clear c9b0
      try clear c9b1
      try clear c10
      try clear c10b0
      try clear c10b1
      try clear p12
      try clear q12
      try clear hx12
      try clear c15
      try clear c23
      try clear c24
      try clear c24b0
      try clear c24b1
      try clear c29
      try clear c30
      try clear hcz11_0
      try clear hcz11_1
      try clear hcz11_2
      try clear hcz13_0
      try clear hcz13_1
      try clear hcz13_2
      try clear hcz16_0
      try clear hcz16_1
      try clear hcz16_2
      try clear hcz18_0
      try clear hcz18_1
      try clear hcz18_2
      try clear hcz19_0
      try clear hcz19_1
      try clear hcz19_2
      try clear hcz21_0
      try clear hcz21_1
      try clear hcz21_2
      try clear hcz25_0
      try clear hcz25_1
      try clear hcz25_2
      try clear hcz27_0
      try clear hcz27_1
      try clear hcz27_2
      try clear hcz30_0
      try clear hcz30_1
      try clear hcz30_2
      try clear hcz32_0
      try clear hcz32_1
      try clear hcz32_2
      try clear hcz33_0
      try clear hcz33_1
      try clear hcz33_2
      try clear hcz35_0
      try clear hcz35_1
      try clear hcz35_2
      try clear hcz36_0
      try clear hcz36_1
      try clear hcz36_2
      try clear hcz38_0
      try clear hcz38_1
      try clear hcz38_2
      try clear hcz39_0
      try clear hcz39_1
      try clear hcz39_2
      try clear hcz6_0
      try clear hcz6_1
      try clear hcz6_2
      try clear hfz11_0
      try clear hfz11_1
      try clear hfz11_2
      try clear hfz13_0
      try clear hfz13_1
      try clear hfz13_2
      try clear hfz16_0
      try clear hfz16_1
      try clear hfz16_2
      try clear hfz18_0
      try clear hfz18_1
      try clear hfz18_2
      try clear hfz19_0
      try clear hfz19_1
      try clear hfz19_2
      try clear hfz21_0
      try clear hfz21_1
      try clear hfz21_2
      try clear hfz25_0
      try clear hfz25_1
      try clear hfz25_2
      try clear hfz27_0
      try clear hfz27_1
      try clear hfz27_2
      try clear hfz30_0
      try clear hfz30_1
      try clear hfz30_2
      try clear hfz32_0
      try clear hfz32_1
      try clear hfz32_2
      try clear hfz33_0
      try clear hfz33_1
      try clear hfz33_2
      try clear hfz35_0
      try clear hfz35_1
      try clear hfz35_2
      try clear hfz36_0
      try clear hfz36_1
      try clear hfz36_2
      try clear hfz38_0
      try clear hfz38_1
      try clear hfz38_2
      try clear hfz39_0
      try clear hfz39_1
      try clear hfz39_2
      try clear hfz6_0
      try clear hfz6_1
      try clear hfz6_2
      try clear hx120_0
      try clear hx120_1
      try clear hx120_2
      try clear p120
      try clear q120
      obtain ⟨kq, x5_3, rfl, HA, HJ3, BK121, HB⟩ := hcut
      cases kq with
      | zero => exact absurd HA.out (by simp [r09_wrong.j1])
      | succ kj3 =>
       have H := HA.out
       clear HA
       simp only [r09_wrong.j1] at H
       have H' := Aside0.mk H
       clear H
       go_wp2
       repeat (go_quiet (fail); try go_wp2)
       go_loopg [5, 6] kj3 (fun kq v5 v6 w' => ∃ (x5_3 : Bool) (x6_3 : Int), v5 = .bool x5_3 ∧ v6 = .int .i64 x6_3 ∧ Aside0 (r09_wrong.l1 kq l0 x3_1 x5_3 x6_3 ((rd_T40 l0 x3_1).f0) ((rd_T40 l0 x3_1).f1) ((rd_T40 l0 x3_1).f2) = some r) ∧ Aside0 (kq ≤ kj3) ∧ Aside0 (w'.heap[gb121]? = some (.cells #[.string ((rd_T40 l0 x3_1).f0), .string ((rd_T40 l0 x3_1).f1), .string ((rd_T40 l0 x3_1).f2)] 40 (0, 0))) ∧ Aside0 (Below w.heap.size w w'))
       case atStart => exact ⟨(x5_3), (0), (by first | rfl | (simp; done) | (simp [*]; done)), (by first | rfl | (simp; done) | (simp [*]; done)), H', ⟨Nat.le_refl _⟩, ⟨by (with_reducible repeat (first | refine blk_drewN ?_ _ | refine blk_drew ?_ | refine blk_alloc ?_ _)); exact BK121.out⟩, ⟨by repeat (first | (with_reducible first | exact HB.out | apply below_alloc | apply pw_below_drewN | apply below_drew1 | refine below_set ?_ GE121.out) | exact HB.out)⟩⟩
       case round =>
        clear H'
        try clear c1
        try clear p1
        try clear q1
        try clear hx1
        try clear c2
        try clear c2b0
        try clear p2
        try clear c3
        try clear c3b0
        try clear c8
        try clear c9
        try clear c9b0
        try clear c9b1
        try clear c10
        try clear c10b0
        try clear c10b1
        try clear p12
        try clear q12
        try clear hx12
        try clear c15
        try clear c23
        try clear c24
        try clear c24b0
        try clear c24b1
        try clear c29
        try clear c30
        try clear hcz11_0
        try clear hcz11_1
        try clear hcz11_2
        try clear hcz13_0
        try clear hcz13_1
        try clear hcz13_2
        try clear hcz16_0
        try clear hcz16_1
        try clear hcz16_2
        try clear hcz18_0
        try clear hcz18_1
        try clear hcz18_2
        try clear hcz19_0
        try clear hcz19_1
        try clear hcz19_2
        try clear hcz21_0
        try clear hcz21_1
        try clear hcz21_2
        try clear hcz25_0
        try clear hcz25_1
        try clear hcz25_2
        try clear hcz27_0
        try clear hcz27_1
        try clear hcz27_2
        try clear hcz30_0
        try clear hcz30_1
        try clear hcz30_2
        try clear hcz32_0
        try clear hcz32_1
        try clear hcz32_2
        try clear hcz33_0
        try clear hcz33_1
        try clear hcz33_2
        try clear hcz35_0
        try clear hcz35_1
        try clear hcz35_2
        try clear hcz36_0
        try clear hcz36_1
        try clear hcz36_2
        try clear hcz38_0
        try clear hcz38_1
        try clear hcz38_2
        try clear hcz39_0
        try clear hcz39_1
        try clear hcz39_2
        try clear hcz6_0
        try clear hcz6_1
        try clear hcz6_2
        try clear hfz11_0
        try clear hfz11_1
        try clear hfz11_2
        try clear hfz13_0
        try clear hfz13_1
        try clear hfz13_2
        try clear hfz16_0
        try clear hfz16_1
        try clear hfz16_2
        try clear hfz18_0
        try clear hfz18_1
        try clear hfz18_2
        try clear hfz19_0
        try clear hfz19_1
        try clear hfz19_2
        try clear hfz21_0
        try clear hfz21_1
        try clear hfz21_2
        try clear hfz25_0
        try clear hfz25_1
        try clear hfz25_2
        try clear hfz27_0
        try clear hfz27_1
        try clear hfz27_2
        try clear hfz30_0
        try clear hfz30_1
        try clear hfz30_2
        try clear hfz32_0
        try clear hfz32_1
        try clear hfz32_2
        try clear hfz33_0
        try clear hfz33_1
        try clear hfz33_2
        try clear hfz35_0
        try clear hfz35_1
        try clear hfz35_2
        try clear hfz36_0
        try clear hfz36_1
        try clear hfz36_2
        try clear hfz38_0
        try clear hfz38_1
        try clear hfz38_2
        try clear hfz39_0
        try clear hfz39_1
        try clear hfz39_2
        try clear hfz6_0
        try clear hfz6_1
        try clear hfz6_2
        try clear hx120_0
        try clear hx120_1
        try clear hx120_2
        try clear p1
        try clear p12
        try clear p120
        try clear p2
        try clear q1
        try clear q12
        try clear q120
        obtain ⟨x5_3, x6_3, rfl, rfl, HA, HK3, BK121, HB⟩ := hrel
        cases gk with
        | zero => exact absurd HA.out (by simp [r09_wrong.l1])
        | succ k3 =>
         have H := HA.out
         clear HA
         simp only [r09_wrong.l1] at H
         by_cases c41 : x6_3 < x3_1
         ·
          rw [if_pos c41] at H
          have c41b0 : decide (x6_3 < x3_1) = true := decide_eq_true c41
          clear c41
          by_cases c42 : x5_3 = true
          ·
           subst c42
           have H1 : (r09_wrong.l1 k3 l0 x3_1 true (wrap64 (x6_3 + 1)) ((rd_T40 l0 x3_1).f0) ((rd_T40 l0 x3_1).f1) ((rd_T40 l0 x3_1).f2)) = some r := by rw [if_pos rfl] at H; exact H
           clear H
           have H := H1
           clear H1
           have H' := Aside0.mk H
           clear H
           go_wp2
           repeat (go_quiet (fail); try go_wp2)
           go_roundg k3
           case measure => have := HK1.out; have := HJ3.out; have := HK3.out; omega
           case rel => exact ⟨(true), (wrap64 (x6_3 + 1)), (by first | rfl | (simp; done) | (simp [*]; done)), (by first | rfl | (simp; done) | (simp [*]; done)), H', ⟨by have := HK1.out; have := HJ3.out; have := HK3.out; omega⟩, ⟨by (with_reducible repeat (first | refine blk_drewN ?_ _ | refine blk_drew ?_ | refine blk_alloc ?_ _)); exact BK121.out⟩, ⟨by repeat (first | (with_reducible first | exact HB.out | apply below_alloc | apply pw_below_drewN | apply below_drew1 | refine below_set ?_ GE121.out) | exact HB.out)⟩⟩
          ·
           replace c42 := Bool.eq_false_iff.mpr c42
           subst c42
           have H1 : (if 0 ≤ x6_3 then (if x6_3 < (l0.length : Int) then (r09_wrong.l1 k3 l0 x3_1 (((rd_T40 l0 x6_3).f0).toList == ((rd_T40 l0 x3_1).f0).toList) (wrap64 (x6_3 + 1)) ((rd_T40 l0 x3_1).f0) ((rd_T40 l0 x3_1).f1) ((rd_T40 l0 x3_1).f2)) else (none)) else (none)) = some r := by rw [if_neg (show ¬ (false = true) by decide)] at H; exact H
           clear H
           have H := H1
           clear H1
           by_cases c43 : 0 ≤ x6_3
           ·
            rw [if_pos c43] at H
            have c43b0 : decide (0 ≤ x6_3) = true := decide_eq_true c43
            clear c43
            by_cases c44 : x6_3 < (l0.length : Int)
            ·
             rw [if_pos c44] at H
             have c44b0 : decide (x6_3 < (l0.length : Int)) = true := decide_eq_true c44
             clear c44
             have H' := Aside0.mk H
             clear H
             have p126 : 0 ≤ (x6_3 : Int) := oda_
             have q126 : x6_3 < (l0.length : Int) := oda_
             obtain ⟨ad126, e126, hx126_0, hx126_1, hx126_2⟩ := at_T40 HR0.out x6_3 p126 q126
             obtain rfl : ad120 = ad126 := (by injection e126)
             replace hx126_0 := (HB.out.cell (World.block_lt_of_cell? w _ hx126_0)).trans hx126_0
             replace hx126_1 := (HB.out.cell (World.block_lt_of_cell? w _ hx126_1)).trans hx126_1
             replace hx126_2 := (HB.out.cell (World.block_lt_of_cell? w _ hx126_2)).trans hx126_2
             replace p126 := eq_true p126
             replace q126 := eq_true q126
             have hcz45_0 : wr.cell? ⟨gb121, 0, none⟩ = some (.string ((rd_T40 l0 x3_1).f0)) := (blk_cell BK121.out 0).trans rfl
             have hcz45_1 : wr.cell? ⟨gb121, 1, none⟩ = some (.string ((rd_T40 l0 x3_1).f1)) := (blk_cell BK121.out 1).trans rfl
             have hcz45_2 : wr.cell? ⟨gb121, 2, none⟩ = some (.string ((rd_T40 l0 x3_1).f2)) := (blk_cell BK121.out 2).trans rfl
             have hfz45_0 := blk_frozen BK121.out 0
             have hfz45_1 := blk_frozen BK121.out 1
             have hfz45_2 := blk_frozen BK121.out 2
             go_wp2
             repeat (go_quiet (fail); try go_wp2)
             go_roundg k3
             case measure => have := HK1.out; have := HJ3.out; have := HK3.out; omega
             case rel => exact ⟨((((rd_T40 l0 x6_3).f0).toList == ((rd_T40 l0 x3_1).f0).toList)), (wrap64 (x6_3 + 1)), (by first | rfl | (simp; done) | (simp [*]; done)), (by first | rfl | (simp; done) | (simp [*]; done)), H', ⟨by have := HK1.out; have := HJ3.out; have := HK3.out; omega⟩, ⟨by (with_reducible repeat (first | refine blk_drewN ?_ _ | refine blk_drew ?_ | refine blk_alloc ?_ _)); exact BK121.out⟩, ⟨by repeat (first | (with_reducible first | exact HB.out | apply below_alloc | apply pw_below_drewN | apply below_drew1 | refine below_set ?_ GE121.out) | exact HB.out)⟩⟩
            ·
             rw [if_neg c44] at H
             exact absurd H (by simp)
           ·
            rw [if_neg c43] at H
            exact absurd H (by simp)
         ·
          rw [if_neg c41] at H
          have c41b0 : decide (x6_3 < x3_1) = false := decide_eq_false c41
          clear c41
          by_cases c46 : x5_3 = true
          ·
           subst c46
           have H1 : (some x3_1) = some r := by rw [if_pos rfl] at H; exact H
           clear H
           have H := H1
           clear H1
           obtain rfl := Option.some.inj H
           go_wp2
           repeat (go_quiet (fail); try go_wp2)
           go_ret
           exact ⟨by first | rfl | (simp [errW_none, errW_some] <;> rfl) | (simp [*, errW_none, errW_some] <;> rfl), by repeat (first | (with_reducible first | exact HB.out | apply below_alloc | apply pw_below_drewN | apply below_drew1 | refine below_set ?_ GE121.out) | exact HB.out)⟩
          ·
           replace c46 := Bool.eq_false_iff.mpr c46
           subst c46
           have H1 : (r09_wrong.l0 k3 l0 (wrap64 (x3_1 + 1))) = some r := by rw [if_neg (show ¬ (false = true) by decide)] at H; exact H
           clear H
           have H := H1
           clear H1
           have H' := Aside0.mk H
           clear H
           go_wp2
           repeat (go_quiet (fail); try go_wp2)
           go_roundg k3
           case measure => have := HK1.out; have := HJ3.out; have := HK3.out; omega
           case rel => exact ⟨(wrap64 (x3_1 + 1)), (by first | rfl | (simp; done) | (simp [*]; done)), H', ⟨by have := HK1.out; have := HJ3.out; have := HK3.out; omega⟩, ⟨by repeat (first | (with_reducible first | exact HB.out | apply below_alloc | apply pw_below_drewN | apply below_drew1 | refine below_set ?_ GE121.out) | exact HB.out)⟩⟩
    ·
     rw [if_neg c3] at H
     exact absurd H (by simp)
   ·
    rw [if_neg c2] at H
    have c2b0 : decide (x3_1 < (l0.length : Int)) = false := decide_eq_false c2
    clear c2
    obtain rfl := Option.some.inj H
    go_wp2
    repeat (go_quiet (fail); try go_wp2)
    go_ret
    exact ⟨by first | rfl | (simp [errW_none, errW_some] <;> rfl) | (simp [*, errW_none, errW_some] <;> rfl), by repeat (first | (with_reducible first | exact HB.out | apply below_alloc | apply pw_below_drewN | apply below_drew1) | exact HB.out)⟩
end Go.Proofs.YtacgchklilfcaaaGreatDoor.PRfBase
