/- Functions as the kit's printer (print.py) writes them, over contracts that this seat's own texts give. No condition but the reach of what comes in. -/
import Derived.Test.YtacgchklilfcaaaGreatDoorZPRfBasex0
namespace Go.Proofs.YtacgchklilfcaaaGreatDoor.PRfBase
open Go.RowKit Go.Proofs.YtacgchklilfcaaaGreatDoorW.PrintWords Go.Proofs.YtacgchklilfcaaaGreatDoorW.PrintLast Go.Proofs.YtacgchklilfcaaaGreatDoorW.PrintMore
attribute [local go_sem] StrSem.leq_str StrSem.geq_str StrSem.gtr_str max2_int min2_int max_two min_two max_three min_three max_four min_four   -- for this text's walks alone
set_option linter.unusedVariables false
set_option linter.unusedSimpArgs false
mutual
noncomputable def r09_put.l0 : Nat → List (S46) → List (S46) → Bool → Int → ByteArray → ByteArray → Option ((List (S46)))
 | 0, _, _, _, _, _, _ => none
 | k + 1, x0, x5, x6, x7, x128000, x128001 => if x7 < (x0.length : Int) then (if x6 = true then (r09_put.j1 k x0 x5 x6 x7 false x128000 x128001) else (if 0 ≤ x7 then (r09_put.j1 k x0 x5 x6 x7 (!(Op.bytesLess (((rd_T46 x0 x7).f0).toList) x128000.toList)) x128000 x128001) else (none))) else (if x6 = true then (some x5) else (if x5.length < 4398046511104 then (some (x5 ++ [(⟨x128000, x128001⟩ : S46)])) else (none)))
noncomputable def r09_put.j1 : Nat → List (S46) → List (S46) → Bool → Int → Bool → ByteArray → ByteArray → Option ((List (S46)))
 | 0, _, _, _, _, _, _, _ => none
 | k + 1, x0, x5, x6, x7, x28, x128000, x128001 => if x28 = true then (if x5.length < 4398046511104 then ((some (x5 ++ [(⟨x128000, x128001⟩ : S46)] : List (S46))).bind fun y132 => (if 0 ≤ x7 then (if x7 < (x0.length : Int) then (if ((rd_T46 x0 x7).f0).toList = x128000.toList then (r09_put.l0 k x0 y132 true (wrap64 (x7 + 1)) x128000 x128001) else (if y132.length < 4398046511104 then (r09_put.l0 k x0 (y132 ++ [(⟨(rd_T46 x0 x7).f0, (rd_T46 x0 x7).f1⟩ : S46)]) true (wrap64 (x7 + 1)) x128000 x128001) else (none))) else (none)) else (none))) else (none)) else (if 0 ≤ x7 then (if x7 < (x0.length : Int) then (if ((rd_T46 x0 x7).f0).toList = x128000.toList then (r09_put.l0 k x0 x5 x6 (wrap64 (x7 + 1)) x128000 x128001) else (if x5.length < 4398046511104 then (r09_put.l0 k x0 (x5 ++ [(⟨(rd_T46 x0 x7).f0, (rd_T46 x0 x7).f1⟩ : S46)]) x6 (wrap64 (x7 + 1)) x128000 x128001) else (none))) else (none)) else (none))
end
noncomputable def r09_put.f (k : Nat) (l0 : List (S46)) (a1_0 : ByteArray) (a1_1 : ByteArray) : Option ((List (S46))) := r09_put.l0 k l0 ([] : List (S46)) (a1_1.toList == ([] : List UInt8)) 0 a1_0 a1_1
set_option maxHeartbeats 8000000 in
set_option maxRecDepth 100000 in
theorem r09_put.calls (k : Nat) (A0 : Option Addr) (c0 : Nat) (l0 : List (S46)) (a1_0 : ByteArray) (a1_1 : ByteArray) (r : List (S46)) (w : World) (hr0 : Kd.C k46 w A0 l0.length l0) (hc0 : l0.length ≤ c0) (h : r09_put.f k l0 a1_0 a1_1 = some r) :
  Calls Tryz.prog 31 #[.slice A0 l0.length c0, .agg #[.string a1_0, .string a1_1]] w fun e w' => ∃ v0_ : Value, e = .returned (v0_) ∧ Kd.R k46 46 w' w.heap.size (fun _ => True) v0_ r ∧ Below w.heap.size w w' := by
 have hu46 := Tryz.underlying46
 have HR0 := Aside0.mk hr0
 have HC0 := Aside0.mk hc0
 clear hr0 hc0
 have HB := Aside0.mk (Below.refl w.heap.size w)
 have H : (r09_put.l0 k l0 ([] : List (S46)) (a1_1.toList == ([] : List UInt8)) 0 a1_0 a1_1) = some r := h
 clear h
 have H' := Aside0.mk H
 clear H
 go_enter Tryz.func31, Tryz.ntmps31
 go_wp2_with (first | ((with_reducible refine gate_dst (N := 3) rfl ?_); refine box_event ?hg (N := 3) ?hd (cs := #[.string a1_0, .string a1_1]) (t := 46) ?hr ?_; (case hd => rfl); (case hg => rfl); (case hr => first | (go_simp; done) | (go_simp; rfl)); intro gb127 hg w3 hbox hb; have n0_ := Aside0.mk (below_step (by repeat (first | (with_reducible first | exact HB.out | apply below_alloc | apply pw_below_drewN | apply below_drew1) | exact HB.out)) hb); have n1_ := Aside0.mk (hbox); have n2_ := Aside0.mk ((by rw [hg]; exact (below_size (by repeat (first | (with_reducible first | exact HB.out | apply below_alloc | apply pw_below_drewN | apply below_drew1) | exact HB.out))) : w.heap.size ≤ gb127)); have n3_ := Aside0.mk ((by rw [hg]; exact (below_size (by repeat (first | (with_reducible first | exact HB.out | apply below_alloc | apply pw_below_drewN | apply below_drew1) | exact HB.out))) : w.heap.size ≤ gb127)); clear HB; have HB := n0_; have BK127 := n1_; have GW127 := n2_; have GE127 := n3_; clear n0_ n1_ n2_ n3_; clear hb hbox hg; have hcz4_0 : w3.cell? ⟨gb127, 0, none⟩ = some (.string a1_0) := (blk_cell BK127.out 0).trans rfl; have hcz4_1 : w3.cell? ⟨gb127, 1, none⟩ = some (.string a1_1) := (blk_cell BK127.out 1).trans rfl; have hfz4_0 := blk_frozen BK127.out 0; have hfz4_1 := blk_frozen BK127.out 1))
 repeat (go_quiet (first | ((with_reducible refine gate_dst (N := 3) rfl ?_); refine box_event ?hg (N := 3) ?hd (cs := #[.string a1_0, .string a1_1]) (t := 46) ?hr ?_; (case hd => rfl); (case hg => rfl); (case hr => first | (go_simp; done) | (go_simp; rfl)); intro gb127 hg w3 hbox hb; have n0_ := Aside0.mk (below_step (by repeat (first | (with_reducible first | exact HB.out | apply below_alloc | apply pw_below_drewN | apply below_drew1) | exact HB.out)) hb); have n1_ := Aside0.mk (hbox); have n2_ := Aside0.mk ((by rw [hg]; exact (below_size (by repeat (first | (with_reducible first | exact HB.out | apply below_alloc | apply pw_below_drewN | apply below_drew1) | exact HB.out))) : w.heap.size ≤ gb127)); have n3_ := Aside0.mk ((by rw [hg]; exact (below_size (by repeat (first | (with_reducible first | exact HB.out | apply below_alloc | apply pw_below_drewN | apply below_drew1) | exact HB.out))) : w.heap.size ≤ gb127)); clear HB; have HB := n0_; have BK127 := n1_; have GW127 := n2_; have GE127 := n3_; clear n0_ n1_ n2_ n3_; clear hb hbox hg; have hcz4_0 : w3.cell? ⟨gb127, 0, none⟩ = some (.string a1_0) := (blk_cell BK127.out 0).trans rfl; have hcz4_1 : w3.cell? ⟨gb127, 1, none⟩ = some (.string a1_1) := (blk_cell BK127.out 1).trans rfl; have hfz4_0 := blk_frozen BK127.out 0; have hfz4_1 := blk_frozen BK127.out 1)); try go_wp2_with (first | ((with_reducible refine gate_dst (N := 3) rfl ?_); refine box_event ?hg (N := 3) ?hd (cs := #[.string a1_0, .string a1_1]) (t := 46) ?hr ?_; (case hd => rfl); (case hg => rfl); (case hr => first | (go_simp; done) | (go_simp; rfl)); intro gb127 hg w3 hbox hb; have n0_ := Aside0.mk (below_step (by repeat (first | (with_reducible first | exact HB.out | apply below_alloc | apply pw_below_drewN | apply below_drew1) | exact HB.out)) hb); have n1_ := Aside0.mk (hbox); have n2_ := Aside0.mk ((by rw [hg]; exact (below_size (by repeat (first | (with_reducible first | exact HB.out | apply below_alloc | apply pw_below_drewN | apply below_drew1) | exact HB.out))) : w.heap.size ≤ gb127)); have n3_ := Aside0.mk ((by rw [hg]; exact (below_size (by repeat (first | (with_reducible first | exact HB.out | apply below_alloc | apply pw_below_drewN | apply below_drew1) | exact HB.out))) : w.heap.size ≤ gb127)); clear HB; have HB := n0_; have BK127 := n1_; have GW127 := n2_; have GE127 := n3_; clear n0_ n1_ n2_ n3_; clear hb hbox hg; have hcz4_0 : w3.cell? ⟨gb127, 0, none⟩ = some (.string a1_0) := (blk_cell BK127.out 0).trans rfl; have hcz4_1 : w3.cell? ⟨gb127, 1, none⟩ = some (.string a1_1) := (blk_cell BK127.out 1).trans rfl; have hfz4_0 := blk_frozen BK127.out 0; have hfz4_1 := blk_frozen BK127.out 1)))
 go_loopg [5, 6, 7] k (fun kq v5 v6 v7 w' => ∃ (x5_1 : List (S46)) (x6_1 : Bool) (x7_1 : Int), v6 = .bool x6_1 ∧ v7 = .int .i64 x7_1 ∧ Aside0 (r09_put.l0 kq l0 x5_1 x6_1 x7_1 a1_0 a1_1 = some r) ∧ Aside0 (kq ≤ k) ∧ Aside0 (Kd.R k46 46 w' w.heap.size (fun k_ => k_ ≠ gb127) v5 x5_1) ∧ Aside0 (w'.heap[gb127]? = some (.cells #[.string a1_0, .string a1_1] 46 (0, 0))) ∧ Aside0 (Below w.heap.size w w'))
 case atStart => exact ⟨(([] : List (S46))), ((a1_1.toList == ([] : List UInt8))), (0), (by first | rfl | (simp; done) | (simp [*]; done)), (by first | rfl | (simp; done) | (simp [*]; done)), H', ⟨Nat.le_refl _⟩, ⟨by first | exact Kd.R_nil _ _ _ _ _ | exact Kd.N_nil _ _ _ _ _ | exact Kd.V_nil _ _ _ _ _ | exact Kd.Q_nil _ _ _ _ _ | exact Kd.S_nil _ _ _ _ _⟩, ⟨by (with_reducible repeat (first | refine blk_drewN ?_ _ | refine blk_drew ?_ | refine blk_alloc ?_ _)); exact BK127.out⟩, ⟨by repeat (first | (with_reducible first | exact HB.out | apply below_alloc | apply pw_below_drewN | apply below_drew1 | refine below_set ?_ GE127.out) | exact HB.out)⟩⟩
 case round =>
  clear H'
  try clear p2
  try clear c3
  try clear hcz4_0
  try clear hcz4_1
  try clear hfz4_0
  try clear hfz4_1
  obtain ⟨x5_1, x6_1, x7_1, rfl, rfl, HA, HK1, HO_5, BK127, HB⟩ := hrel
  cases gk with
  | zero => exact absurd HA.out (by simp [r09_put.l0])
  | succ k1 =>
   have H := HA.out
   clear HA
   simp only [r09_put.l0] at H
   by_cases c5 : x7_1 < (l0.length : Int)
   ·
    rw [if_pos c5] at H
    have c5b0 : decide (x7_1 < (l0.length : Int)) = true := decide_eq_true c5
    clear c5
    have HC6 := Aside0.mk H
    clear H
    go_upto_region 6 with (fail)
    repeat (go_quiet (fail); go_upto_region 6 with (fail))
    go_cut [28] (fun v28 wc => ∃ (kq : Nat) (x28_5 : Bool), v28 = .bool x28_5 ∧ Aside0 (r09_put.j1 kq l0 x5_1 x6_1 x7_1 x28_5 a1_0 a1_1 = some r) ∧ Aside0 (kq ≤ k1) ∧ Aside0 (Kd.R k46 46 wc w.heap.size (fun k_ => k_ ≠ gb127) u5 x5_1) ∧ Aside0 (wc.heap[gb127]? = some (.cells #[.string a1_0, .string a1_1] 46 (0, 0))) ∧ Aside0 (Below w.heap.size w wc))
    case first =>
     have H := HC6.out
     clear HC6
     by_cases c7 : x6_1 = true
     ·
      subst c7
      have H1 : (r09_put.j1 k1 l0 x5_1 true x7_1 false a1_0 a1_1) = some r := by rw [if_pos rfl] at H; exact H
      clear H
      have H := H1
      clear H1
      have H' := Aside0.mk H
      clear H
      go_wp2
      repeat (go_quiet (fail); try go_wp2)
      go_meet
      case rel => exact ⟨_, (false), (by first | rfl | (simp; done) | (simp [*]; done)), H', ⟨by have := HK1.out; first | omega | exact Nat.le_refl _⟩, ⟨by (with_reducible repeat (first | apply Kd.R_alloc | apply Kd.R_drewN | apply Kd.R_drew)); exact HO_5.out⟩, ⟨by (with_reducible repeat (first | refine blk_drewN ?_ _ | refine blk_drew ?_ | refine blk_alloc ?_ _)); exact BK127.out⟩, ⟨by repeat (first | (with_reducible first | exact HB.out | apply below_alloc | apply pw_below_drewN | apply below_drew1 | refine below_set ?_ GE127.out) | exact HB.out)⟩⟩
     ·
      replace c7 := Bool.eq_false_iff.mpr c7
      subst c7
      have H1 : (if 0 ≤ x7_1 then (r09_put.j1 k1 l0 x5_1 false x7_1 (!(Op.bytesLess (((rd_T46 l0 x7_1).f0).toList) a1_0.toList)) a1_0 a1_1) else (none)) = some r := by rw [if_neg (show ¬ (false = true) by decide)] at H; exact H
      clear H
      have H := H1
      clear H1
      by_cases c8 : 0 ≤ x7_1
      ·
       rw [if_pos c8] at H
       have c8b0 : decide (0 ≤ x7_1) = true := decide_eq_true c8
       clear c8
       (first | rw [c8b0] | (simp only [i64_w, i32_w]; rw [c8b0]) | skip)
       have H' := Aside0.mk H
       clear H
       have p131 : 0 ≤ (x7_1 : Int) := oda_
       have q131 : x7_1 < (l0.length : Int) := oda_
       obtain ⟨ad131, e131, hx131_0, hx131_1⟩ := at_T46 HR0.out x7_1 p131 q131
       cases e131
       replace hx131_0 := (HB.out.cell (World.block_lt_of_cell? w _ hx131_0)).trans hx131_0
       replace hx131_1 := (HB.out.cell (World.block_lt_of_cell? w _ hx131_1)).trans hx131_1
       replace p131 := eq_true p131
       replace q131 := eq_true q131
       have hcz9_0 : wr.cell? ⟨gb127, 0, none⟩ = some (.string a1_0) := (blk_cell BK127.out 0).trans rfl
       have hcz9_1 : wr.cell? ⟨gb127, 1, none⟩ = some (.string a1_1) := (blk_cell BK127.out 1).trans rfl
       have hfz9_0 := blk_frozen BK127.out 0
       have hfz9_1 := blk_frozen BK127.out 1
       go_wp2
       repeat (go_quiet (fail); try go_wp2)
       go_meet
       case rel => exact ⟨_, (!(Op.bytesLess (((rd_T46 l0 x7_1).f0).toList) a1_0.toList)), (by first | rfl | (simp; done) | (simp [*]; done)), H', ⟨by have := HK1.out; first | omega | exact Nat.le_refl _⟩, ⟨by (with_reducible repeat (first | apply Kd.R_alloc | apply Kd.R_drewN | apply Kd.R_drew)); exact HO_5.out⟩, ⟨by (with_reducible repeat (first | refine blk_drewN ?_ _ | refine blk_drew ?_ | refine blk_alloc ?_ _)); exact BK127.out⟩, ⟨by repeat (first | (with_reducible first | exact HB.out | apply below_alloc | apply pw_below_drewN | apply below_drew1 | refine below_set ?_ GE127.out) | exact HB.out)⟩⟩
      ·
       rw [if_neg c8] at H
       exact absurd H (by simp)
    case rest =>
     clear HC6
     try clear p1
     try clear q1
     try clear hx1
     try clear p2
     try clear c3
     try clear c5
     try clear c5b0
     try clear c7
     try clear c8
     try clear c8b0
     try clear hcz4_0
     try clear hcz4_1
     try clear hcz9_0
     try clear hcz9_1
     try clear hfz4_0
     try clear hfz4_1
     try clear hfz9_0
     try clear hfz9_1
     try clear hx131_0
     try clear hx131_1
     try clear p131
     try clear p2
     try clear q131
     obtain ⟨kq, x28_5, rfl, HA, HJ5, HO_5, BK127, HB⟩ := hcut
     cases kq with
     | zero => exact absurd HA.out (by simp [r09_put.j1])
     | succ kj5 =>
      have H := HA.out
      clear HA
      simp only [r09_put.j1] at H
      by_cases c10 : x28_5 = true
      ·
       subst c10
       have H1 : (if x5_1.length < 4398046511104 then ((some (x5_1 ++ [(⟨a1_0, a1_1⟩ : S46)] : List (S46))).bind fun y132 => (if 0 ≤ x7_1 then (if x7_1 < (l0.length : Int) then (if ((rd_T46 l0 x7_1).f0).toList = a1_0.toList then (r09_put.l0 kj5 l0 y132 true (wrap64 (x7_1 + 1)) a1_0 a1_1) else (if y132.length < 4398046511104 then (r09_put.l0 kj5 l0 (y132 ++ [(⟨(rd_T46 l0 x7_1).f0, (rd_T46 l0 x7_1).f1⟩ : S46)]) true (wrap64 (x7_1 + 1)) a1_0 a1_1) else (none))) else (none)) else (none))) else (none)) = some r := by rw [if_pos rfl] at H; exact H
       clear H
       have H := H1
       clear H1
       by_cases c11 : x5_1.length < 4398046511104
       ·
        rw [if_pos c11] at H
        have LMc11 := Aside0.mk c11
        clear c11
        obtain ⟨y132, hy132⟩ : ∃ y_ : List (S46), y_ = (x5_1 ++ [(⟨a1_0, a1_1⟩ : S46)]) := ⟨_, rfl⟩
        replace H : (if 0 ≤ x7_1 then (if x7_1 < (l0.length : Int) then (if ((rd_T46 l0 x7_1).f0).toList = a1_0.toList then (r09_put.l0 kj5 l0 y132 true (wrap64 (x7_1 + 1)) a1_0 a1_1) else (if y132.length < 4398046511104 then (r09_put.l0 kj5 l0 (y132 ++ [(⟨(rd_T46 l0 x7_1).f0, (rd_T46 l0 x7_1).f1⟩ : S46)]) true (wrap64 (x7_1 + 1)) a1_0 a1_1) else (none))) else (none)) else (none)) = some r := by first | (rw [hy132]; with_reducible exact H) | (have H2_ := (Option.bind_some _ _).symm.trans H; rw [hy132]; with_reducible exact H2_) | (have H2_ := (Option.bind_some _ _).symm.trans H; with_reducible exact H2_) | with_reducible exact H | (rw [hy132]; exact H) | exact H
        have Ny132 := Aside0.mk hy132
        clear hy132
        by_cases c12 : 0 ≤ x7_1
        ·
         rw [if_pos c12] at H
         have c12b0 : decide (0 ≤ x7_1) = true := decide_eq_true c12
         clear c12
         by_cases c13 : x7_1 < (l0.length : Int)
         ·
          rw [if_pos c13] at H
          have c13b0 : decide (x7_1 < (l0.length : Int)) = true := decide_eq_true c13
          clear c13
          by_cases c14 : ((rd_T46 l0 x7_1).f0).toList = a1_0.toList
          ·
           rw [if_pos c14] at H
           have c14b0 : (((rd_T46 l0 x7_1).f0).toList == a1_0.toList) = true := beq_iff_eq.mpr c14
           have c14b1 : (((rd_T46 l0 x7_1).f0).toList != a1_0.toList) = false := bne_eq_false_iff_eq.mpr c14
           clear c14
           have H' := Aside0.mk H
           clear H
           have hcz15_0 : wc.cell? ⟨gb127, 0, none⟩ = some (.string a1_0) := (blk_cell BK127.out 0).trans rfl
           have hcz15_1 : wc.cell? ⟨gb127, 1, none⟩ = some (.string a1_1) := (blk_cell BK127.out 1).trans rfl
           have hfz15_0 := blk_frozen BK127.out 0
           have hfz15_1 := blk_frozen BK127.out 1
           go_wp2_with (first | ((with_reducible refine gate_builtin (b := .append) (xs := #[.tmp 29, .tmp 31]) rfl ?_); at_builtin; refine Kd.R_append k46 (w0 := w) w.heap.size rfl (.tmp 29) (.tmp 31) 22 46 (.agg #[(.string ⟨#[]⟩), (.string ⟨#[]⟩)]) 32 rfl Tryz.underlying22 info46 rfl (by decide) (by omega) u5 x5_1 (⟨a1_0, a1_1⟩ : S46) [.string a1_0, .string a1_1] (fun k_ => k_ ≠ gb127) (fun _ => False) rfl rfl ?aP (fun _ hk => hk.elim) ?aF ?aO ?aB ?aS ?aL ?_; (case aP => exact k46_mkM _ _ _ (⟨a1_0, a1_1⟩ : S46)); (case aB => exact (by repeat (first | (with_reducible first | exact HB.out | apply below_alloc | apply pw_below_drewN | apply below_drew1 | refine below_set ?_ GE127.out) | exact HB.out))); (case aF => exact (fun k_ hk => Kd.freshB (g := gb127) (o := .cells #[.string a1_0, .string a1_1] 46 (0, 0)) (by (with_reducible repeat (first | refine blk_drewN ?_ _ | refine blk_drew ?_ | refine blk_alloc ?_ _)); exact BK127.out) k_ hk)); (case aO => exact (by (with_reducible repeat (first | apply Kd.R_alloc | apply Kd.R_drewN | apply Kd.R_drew)); exact HO_5.out)); (case aS => exact (below_size (by repeat (first | (with_reducible first | exact HB.out | apply below_alloc | apply pw_below_drewN | apply below_drew1 | refine below_set ?_ GE127.out) | exact HB.out)))); (case aL => have := LMc11.out; omega); intro v133 w16 ho hb hg hat; rw [← Ny132.out] at ho; have n0_ := Aside0.mk (blk_grown (g := gb127) (o := .cells #[.string a1_0, .string a1_1] 46 (0, 0)) (by (with_reducible repeat (first | refine blk_drewN ?_ _ | refine blk_drew ?_ | refine blk_alloc ?_ _)); exact BK127.out) hg (Kd.R_away HO_5.out (fun _ hk => hk))); have n1_ := Aside0.mk (hb); have n2_ := Aside0.mk (ho); clear BK127; clear HB; clear HO_5; have BK127 := n0_; have HB := n1_; have HO134 := n2_; clear n0_ n1_ n2_; clear ho hb hg hat; have p135 : 0 ≤ (x7_1 : Int) := oda_; have q135 : x7_1 < (l0.length : Int) := oda_; obtain ⟨ad135, e135, hx135_0, hx135_1⟩ := at_T46 HR0.out x7_1 p135 q135; cases e135; replace hx135_0 := (HB.out.cell (World.block_lt_of_cell? w _ hx135_0)).trans hx135_0; replace hx135_1 := (HB.out.cell (World.block_lt_of_cell? w _ hx135_1)).trans hx135_1; replace p135 := eq_true p135; replace q135 := eq_true q135; have hcz17_0 : w16.cell? ⟨gb127, 0, none⟩ = some (.string a1_0) := (blk_cell BK127.out 0).trans rfl; have hcz17_1 : w16.cell? ⟨gb127, 1, none⟩ = some (.string a1_1) := (blk_cell BK127.out 1).trans rfl; have hfz17_0 := blk_frozen BK127.out 0; have hfz17_1 := blk_frozen BK127.out 1))
           repeat (go_quiet (first | ((with_reducible refine gate_builtin (b := .append) (xs := #[.tmp 29, .tmp 31]) rfl ?_); at_builtin; refine Kd.R_append k46 (w0 := w) w.heap.size rfl (.tmp 29) (.tmp 31) 22 46 (.agg #[(.string ⟨#[]⟩), (.string ⟨#[]⟩)]) 32 rfl Tryz.underlying22 info46 rfl (by decide) (by omega) u5 x5_1 (⟨a1_0, a1_1⟩ : S46) [.string a1_0, .string a1_1] (fun k_ => k_ ≠ gb127) (fun _ => False) rfl rfl ?aP (fun _ hk => hk.elim) ?aF ?aO ?aB ?aS ?aL ?_; (case aP => exact k46_mkM _ _ _ (⟨a1_0, a1_1⟩ : S46)); (case aB => exact (by repeat (first | (with_reducible first | exact HB.out | apply below_alloc | apply pw_below_drewN | apply below_drew1 | refine below_set ?_ GE127.out) | exact HB.out))); (case aF => exact (fun k_ hk => Kd.freshB (g := gb127) (o := .cells #[.string a1_0, .string a1_1] 46 (0, 0)) (by (with_reducible repeat (first | refine blk_drewN ?_ _ | refine blk_drew ?_ | refine blk_alloc ?_ _)); exact BK127.out) k_ hk)); (case aO => exact (by (with_reducible repeat (first | apply Kd.R_alloc | apply Kd.R_drewN | apply Kd.R_drew)); exact HO_5.out)); (case aS => exact (below_size (by repeat (first | (with_reducible first | exact HB.out | apply below_alloc | apply pw_below_drewN | apply below_drew1 | refine below_set ?_ GE127.out) | exact HB.out)))); (case aL => have := LMc11.out; omega); intro v133 w16 ho hb hg hat; rw [← Ny132.out] at ho; have n0_ := Aside0.mk (blk_grown (g := gb127) (o := .cells #[.string a1_0, .string a1_1] 46 (0, 0)) (by (with_reducible repeat (first | refine blk_drewN ?_ _ | refine blk_drew ?_ | refine blk_alloc ?_ _)); exact BK127.out) hg (Kd.R_away HO_5.out (fun _ hk => hk))); have n1_ := Aside0.mk (hb); have n2_ := Aside0.mk (ho); clear BK127; clear HB; clear HO_5; have BK127 := n0_; have HB := n1_; have HO134 := n2_; clear n0_ n1_ n2_; clear ho hb hg hat; have p135 : 0 ≤ (x7_1 : Int) := oda_; have q135 : x7_1 < (l0.length : Int) := oda_; obtain ⟨ad135, e135, hx135_0, hx135_1⟩ := at_T46 HR0.out x7_1 p135 q135; cases e135; replace hx135_0 := (HB.out.cell (World.block_lt_of_cell? w _ hx135_0)).trans hx135_0; replace hx135_1 := (HB.out.cell (World.block_lt_of_cell? w _ hx135_1)).trans hx135_1; replace p135 := eq_true p135; replace q135 := eq_true q135; have hcz17_0 : w16.cell? ⟨gb127, 0, none⟩ = some (.string a1_0) := (blk_cell BK127.out 0).trans rfl; have hcz17_1 : w16.cell? ⟨gb127, 1, none⟩ = some (.string a1_1) := (blk_cell BK127.out 1).trans rfl; have hfz17_0 := blk_frozen BK127.out 0; have hfz17_1 := blk_frozen BK127.out 1)); try go_wp2_with (first | ((with_reducible refine gate_builtin (b := .append) (xs := #[.tmp 29, .tmp 31]) rfl ?_); at_builtin; refine Kd.R_append k46 (w0 := w) w.heap.size rfl (.tmp 29) (.tmp 31) 22 46 (.agg #[(.string ⟨#[]⟩), (.string ⟨#[]⟩)]) 32 rfl Tryz.underlying22 info46 rfl (by decide) (by omega) u5 x5_1 (⟨a1_0, a1_1⟩ : S46) [.string a1_0, .string a1_1] (fun k_ => k_ ≠ gb127) (fun _ => False) rfl rfl ?aP (fun _ hk => hk.elim) ?aF ?aO ?aB ?aS ?aL ?_; (case aP => exact k46_mkM _ _ _ (⟨a1_0, a1_1⟩ : S46)); (case aB => exact (by repeat (first | (with_reducible first | exact HB.out | apply below_alloc | apply pw_below_drewN | apply below_drew1 | refine below_set ?_ GE127.out) | exact HB.out))); (case aF => exact (fun k_ hk => Kd.freshB (g := gb127) (o := .cells #[.string a1_0, .string a1_1] 46 (0, 0)) (by (with_reducible repeat (first | refine blk_drewN ?_ _ | refine blk_drew ?_ | refine blk_alloc ?_ _)); exact BK127.out) k_ hk)); (case aO => exact (by (with_reducible repeat (first | apply Kd.R_alloc | apply Kd.R_drewN | apply Kd.R_drew)); exact HO_5.out)); (case aS => exact (below_size (by repeat (first | (with_reducible first | exact HB.out | apply below_alloc | apply pw_below_drewN | apply below_drew1 | refine below_set ?_ GE127.out) | exact HB.out)))); (case aL => have := LMc11.out; omega); intro v133 w16 ho hb hg hat; rw [← Ny132.out] at ho; have n0_ := Aside0.mk (blk_grown (g := gb127) (o := .cells #[.string a1_0, .string a1_1] 46 (0, 0)) (by (with_reducible repeat (first | refine blk_drewN ?_ _ | refine blk_drew ?_ | refine blk_alloc ?_ _)); exact BK127.out) hg (Kd.R_away HO_5.out (fun _ hk => hk))); have n1_ := Aside0.mk (hb); have n2_ := Aside0.mk (ho); clear BK127; clear HB; clear HO_5; have BK127 := n0_; have HB := n1_; have HO134 := n2_; clear n0_ n1_ n2_; clear ho hb hg hat; have p135 : 0 ≤ (x7_1 : Int) := oda_; have q135 : x7_1 < (l0.length : Int) := oda_; obtain ⟨ad135, e135, hx135_0, hx135_1⟩ := at_T46 HR0.out x7_1 p135 q135; cases e135; replace hx135_0 := (HB.out.cell (World.block_lt_of_cell? w _ hx135_0)).trans hx135_0; replace hx135_1 := (HB.out.cell (World.block_lt_of_cell? w _ hx135_1)).trans hx135_1; replace p135 := eq_true p135; replace q135 := eq_true q135; have hcz17_0 : w16.cell? ⟨gb127, 0, none⟩ = some (.string a1_0) := (blk_cell BK127.out 0).trans rfl; have hcz17_1 : w16.cell? ⟨gb127, 1, none⟩ = some (.string a1_1) := (blk_cell BK127.out 1).trans rfl; have hfz17_0 := blk_frozen BK127.out 0; have hfz17_1 := blk_frozen BK127.out 1)))
           go_roundg kj5
           case measure => have := HK1.out; have := HJ5.out; omega
           case rel => exact ⟨(y132), (true), (wrap64 (x7_1 + 1)), (by first | rfl | (simp; done) | (simp [*]; done)), (by first | rfl | (simp; done) | (simp [*]; done)), H', ⟨by have := HK1.out; have := HJ5.out; omega⟩, ⟨by (with_reducible repeat (first | apply Kd.R_alloc | apply Kd.R_drewN | apply Kd.R_drew)); exact HO134.out⟩, ⟨by (with_reducible repeat (first | refine blk_drewN ?_ _ | refine blk_drew ?_ | refine blk_alloc ?_ _)); exact BK127.out⟩, ⟨by repeat (first | (with_reducible first | exact HB.out | apply below_alloc | apply pw_below_drewN | apply below_drew1 | refine below_set ?_ GE127.out) | exact HB.out)⟩⟩
          ·
           rw [if_neg c14] at H
           have c14b0 : (((rd_T46 l0 x7_1).f0).toList == a1_0.toList) = false := beq_eq_false_iff_ne.mpr c14
           have c14b1 : (((rd_T46 l0 x7_1).f0).toList != a1_0.toList) = true := bne_iff_ne.mpr c14
           by_cases c18 : y132.length < 4398046511104
           ·
            rw [if_pos c18] at H
            have LMc18 := Aside0.mk c18
            clear c18
            obtain ⟨y137, hy137⟩ : ∃ y_ : List (S46), y_ = (y132 ++ [(⟨(rd_T46 l0 x7_1).f0, (rd_T46 l0 x7_1).f1⟩ : S46)]) := ⟨_, rfl⟩
            replace H : (r09_put.l0 kj5 l0 y137 true (wrap64 (x7_1 + 1)) a1_0 a1_1) = some r := by first | (rw [hy137]; with_reducible exact H) | (have H2_ := (Option.bind_some _ _).symm.trans H; rw [hy137]; with_reducible exact H2_) | (have H2_ := (Option.bind_some _ _).symm.trans H; with_reducible exact H2_) | with_reducible exact H | (rw [hy137]; exact H) | exact H
            have Ny137 := Aside0.mk hy137
            clear hy137
            have H' := Aside0.mk H
            clear H
            have hcz19_0 : wc.cell? ⟨gb127, 0, none⟩ = some (.string a1_0) := (blk_cell BK127.out 0).trans rfl
            have hcz19_1 : wc.cell? ⟨gb127, 1, none⟩ = some (.string a1_1) := (blk_cell BK127.out 1).trans rfl
            have hfz19_0 := blk_frozen BK127.out 0
            have hfz19_1 := blk_frozen BK127.out 1
            go_wp2_with (first | ((with_reducible refine gate_builtin (b := .append) (xs := #[.tmp 29, .tmp 31]) rfl ?_); at_builtin; refine Kd.R_append k46 (w0 := w) w.heap.size rfl (.tmp 29) (.tmp 31) 22 46 (.agg #[(.string ⟨#[]⟩), (.string ⟨#[]⟩)]) 32 rfl Tryz.underlying22 info46 rfl (by decide) (by omega) u5 x5_1 (⟨a1_0, a1_1⟩ : S46) [.string a1_0, .string a1_1] (fun k_ => k_ ≠ gb127) (fun _ => False) rfl rfl ?aP (fun _ hk => hk.elim) ?aF ?aO ?aB ?aS ?aL ?_; (case aP => exact k46_mkM _ _ _ (⟨a1_0, a1_1⟩ : S46)); (case aB => exact (by repeat (first | (with_reducible first | exact HB.out | apply below_alloc | apply pw_below_drewN | apply below_drew1 | refine below_set ?_ GE127.out) | exact HB.out))); (case aF => exact (fun k_ hk => Kd.freshB (g := gb127) (o := .cells #[.string a1_0, .string a1_1] 46 (0, 0)) (by (with_reducible repeat (first | refine blk_drewN ?_ _ | refine blk_drew ?_ | refine blk_alloc ?_ _)); exact BK127.out) k_ hk)); (case aO => exact (by (with_reducible repeat (first | apply Kd.R_alloc | apply Kd.R_drewN | apply Kd.R_drew)); exact HO_5.out)); (case aS => exact (below_size (by repeat (first | (with_reducible first | exact HB.out | apply below_alloc | apply pw_below_drewN | apply below_drew1 | refine below_set ?_ GE127.out) | exact HB.out)))); (case aL => have := LMc11.out; omega); intro v133 w20 ho hb hg hat; rw [← Ny132.out] at ho; have n0_ := Aside0.mk (blk_grown (g := gb127) (o := .cells #[.string a1_0, .string a1_1] 46 (0, 0)) (by (with_reducible repeat (first | refine blk_drewN ?_ _ | refine blk_drew ?_ | refine blk_alloc ?_ _)); exact BK127.out) hg (Kd.R_away HO_5.out (fun _ hk => hk))); have n1_ := Aside0.mk (hb); have n2_ := Aside0.mk (ho); clear BK127; clear HB; clear HO_5; have BK127 := n0_; have HB := n1_; have HO134 := n2_; clear n0_ n1_ n2_; clear ho hb hg hat; have p135 : 0 ≤ (x7_1 : Int) := oda_; have q135 : x7_1 < (l0.length : Int) := oda_; obtain ⟨ad135, e135, hx135_0, hx135_1⟩ := at_T46 HR0.out x7_1 p135 q135; cases e135; replace hx135_0 := (HB.out.cell (World.block_lt_of_cell? w _ hx135_0)).trans hx135_0; replace hx135_1 := (HB.out.cell (World.block_lt_of_cell? w _ hx135_1)).trans hx135_1; replace p135 := eq_true p135; replace q135 := eq_true q135; have hcz21_0 : w20.cell? ⟨gb127, 0, none⟩ = some (.string a1_0) := (blk_cell BK127.out 0).trans rfl; have hcz21_1 : w20.cell? ⟨gb127, 1, none⟩ = some (.string a1_1) := (blk_cell BK127.out 1).trans rfl; have hfz21_0 := blk_frozen BK127.out 0; have hfz21_1 := blk_frozen BK127.out 1; have p136 : 0 ≤ (x7_1 : Int) := oda_; have q136 : x7_1 < (l0.length : Int) := oda_; obtain ⟨ad136, e136, hx136_0, hx136_1⟩ := at_T46 HR0.out x7_1 p136 q136; obtain rfl : ad135 = ad136 := (by injection e136); replace hx136_0 := (HB.out.cell (World.block_lt_of_cell? w _ hx136_0)).trans hx136_0; replace hx136_1 := (HB.out.cell (World.block_lt_of_cell? w _ hx136_1)).trans hx136_1; replace p136 := eq_true p136; replace q136 := eq_true q136) | ((with_reducible refine gate_builtin (b := .append) (xs := #[.tmp 41, .tmp 46]) rfl ?_); at_builtin; refine Kd.R_append k46 (w0 := w) w.heap.size rfl (.tmp 41) (.tmp 46) 22 46 (.agg #[(.string ⟨#[]⟩), (.string ⟨#[]⟩)]) 32 rfl Tryz.underlying22 info46 rfl (by decide) (by omega) v133 y132 (⟨(rd_T46 l0 x7_1).f0, (rd_T46 l0 x7_1).f1⟩ : S46) [.string ((rd_T46 l0 x7_1).f0), .string ((rd_T46 l0 x7_1).f1)] (fun k_ => k_ ≠ gb127) (fun _ => False) rfl rfl ?aP (fun _ hk => hk.elim) ?aF ?aO ?aB ?aS ?aL ?_; (case aP => exact k46_mkM _ _ _ (⟨(rd_T46 l0 x7_1).f0, (rd_T46 l0 x7_1).f1⟩ : S46)); (case aB => exact (by repeat (first | (with_reducible first | exact HB.out | apply below_alloc | apply pw_below_drewN | apply below_drew1 | refine below_set ?_ GE127.out) | exact HB.out))); (case aF => exact (fun k_ hk => Kd.freshB (g := gb127) (o := .cells #[.string a1_0, .string a1_1] 46 (0, 0)) (by (with_reducible repeat (first | refine blk_drewN ?_ _ | refine blk_drew ?_ | refine blk_alloc ?_ _)); exact BK127.out) k_ hk)); (case aO => exact (by (with_reducible repeat (first | apply Kd.R_alloc | apply Kd.R_drewN | apply Kd.R_drew)); exact HO134.out)); (case aS => exact (below_size (by repeat (first | (with_reducible first | exact HB.out | apply below_alloc | apply pw_below_drewN | apply below_drew1 | refine below_set ?_ GE127.out) | exact HB.out)))); (case aL => have := LMc18.out; omega); intro v138 w22 ho hb hg hat; rw [← Ny137.out] at ho; have n0_ := Aside0.mk (blk_grown (g := gb127) (o := .cells #[.string a1_0, .string a1_1] 46 (0, 0)) (by (with_reducible repeat (first | refine blk_drewN ?_ _ | refine blk_drew ?_ | refine blk_alloc ?_ _)); exact BK127.out) hg (Kd.R_away HO134.out (fun _ hk => hk))); have n1_ := Aside0.mk (hb); have n2_ := Aside0.mk (ho); clear BK127; clear HB; clear HO134; have BK127 := n0_; have HB := n1_; have HO139 := n2_; clear n0_ n1_ n2_; clear ho hb hg hat))
            repeat (go_quiet (first | ((with_reducible refine gate_builtin (b := .append) (xs := #[.tmp 29, .tmp 31]) rfl ?_); at_builtin; refine Kd.R_append k46 (w0 := w) w.heap.size rfl (.tmp 29) (.tmp 31) 22 46 (.agg #[(.string ⟨#[]⟩), (.string ⟨#[]⟩)]) 32 rfl Tryz.underlying22 info46 rfl (by decide) (by omega) u5 x5_1 (⟨a1_0, a1_1⟩ : S46) [.string a1_0, .string a1_1] (fun k_ => k_ ≠ gb127) (fun _ => False) rfl rfl ?aP (fun _ hk => hk.elim) ?aF ?aO ?aB ?aS ?aL ?_; (case aP => exact k46_mkM _ _ _ (⟨a1_0, a1_1⟩ : S46)); (case aB => exact (by repeat (first | (with_reducible first | exact HB.out | apply below_alloc | apply pw_below_drewN | apply below_drew1 | refine below_set ?_ GE127.out) | exact HB.out))); (case aF => exact (fun k_ hk => Kd.freshB (g := gb127) (o := .cells #[.string a1_0, .string a1_1] 46 (0, 0)) (by (with_reducible repeat (first | refine blk_drewN ?_ _ | refine blk_drew ?_ | refine blk_alloc ?_ _)); exact BK127.out) k_ hk)); (case aO => exact (by (with_reducible repeat (first | apply Kd.R_alloc | apply Kd.R_drewN | apply Kd.R_drew)); exact HO_5.out)); (case aS => exact (below_size (by repeat (first | (with_reducible first | exact HB.out | apply below_alloc | apply pw_below_drewN | apply below_drew1 | refine below_set ?_ GE127.out) | exact HB.out)))); (case aL => have := LMc11.out; omega); intro v133 w20 ho hb hg hat; rw [← Ny132.out] at ho; have n0_ := Aside0.mk (blk_grown (g := gb127) (o := .cells #[.string a1_0, .string a1_1] 46 (0, 0)) (by (with_reducible repeat (first | refine blk_drewN ?_ _ | refine blk_drew ?_ | refine blk_alloc ?_ _)); exact BK127.out) hg (Kd.R_away HO_5.out (fun _ hk => hk))); have n1_ := Aside0.mk (hb); have n2_ := Aside0.mk (ho); clear BK127; clear HB; clear HO_5; have BK127 := n0_; have HB := n1_; have HO134 := n2_; clear n0_ n1_ n2_; clear ho hb hg hat; have p135 : 0 ≤ (x7_1 : Int) := oda_; have q135 : x7_1 < (l0.length : Int) := oda_; obtain ⟨ad135, e135, hx135_0, hx135_1⟩ := at_T46 HR0.out x7_1 p135 q135; cases e135; replace hx135_0 := (HB.out.cell (World.block_lt_of_cell? w _ hx135_0)).trans hx135_0; replace hx135_1 := (HB.out.cell (World.block_lt_of_cell? w _ hx135_1)).trans hx135_1; replace p135 := eq_true p135; replace q135 := eq_true q135; have hcz21_0 : w20.cell? ⟨gb127, 0, none⟩ = some (.string a1_0) := (blk_cell BK127.out 0).trans rfl; have hcz21_1 : w20.cell? ⟨gb127, 1, none⟩ = some (.string a1_1) := (blk_cell BK127.out 1).trans rfl; have hfz21_0 := blk_frozen BK127.out 0; have hfz21_1 := blk_frozen BK127.out 1; have p136 : 0 ≤ (x7_1 : Int) := oda_; have q136 : x7_1 < (l0.length : Int) := oda_; obtain ⟨ad136, e136, hx136_0, hx136_1⟩ := at_T46 HR0.out x7_1 p136 q136; obtain rfl : ad135 = ad136 := (by injection e136); replace hx136_0 := (HB.out.cell (World.block_lt_of_cell? w _ hx136_0)).trans hx136_0; replace hx136_1 := (HB.out.cell (World.block_lt_of_cell? w _ hx136_1)).trans hx136_1; replace p136 := eq_true p136; replace q136 := eq_true q136) | ((with_reducible refine gate_builtin (b := .append) (xs := #[.tmp 41, .tmp 46]) rfl ?_); at_builtin; refine Kd.R_append k46 (w0 := w) w.heap.size rfl (.tmp 41) (.tmp 46) 22 46 (.agg #[(.string ⟨#[]⟩), (.string ⟨#[]⟩)]) 32 rfl Tryz.underlying22 info46 rfl (by decide) (by omega) v133 y132 (⟨(rd_T46 l0 x7_1).f0, (rd_T46 l0 x7_1).f1⟩ : S46) [.string ((rd_T46 l0 x7_1).f0), .string ((rd_T46 l0 x7_1).f1)] (fun k_ => k_ ≠ gb127) (fun _ => False) rfl rfl ?aP (fun _ hk => hk.elim) ?aF ?aO ?aB ?aS ?aL ?_; (case aP => exact k46_mkM _ _ _ (⟨(rd_T46 l0 x7_1).f0, (rd_T46 l0 x7_1).f1⟩ : S46)); (case aB => exact (by repeat (first | (with_reducible first | exact HB.out | apply below_alloc | apply pw_below_drewN | apply below_drew1 | refine below_set ?_ GE127.out) | exact HB.out))); (case aF => exact (fun k_ hk => Kd.freshB (g := gb127) (o := .cells #[.string a1_0, .string a1_1] 46 (0, 0)) (by (with_reducible repeat (first | refine blk_drewN ?_ _ | refine blk_drew ?_ | refine blk_alloc ?_ _)); exact BK127.out) k_ hk)); (case aO => exact (by (with_reducible repeat (first | apply Kd.R_alloc | apply Kd.R_drewN | apply Kd.R_drew)); exact HO134.out)); (case aS => exact (below_size (by repeat (first | (with_reducible first | exact HB.out | apply below_alloc | apply pw_below_drewN | apply below_drew1 | refine below_set ?_ GE127.out) | exact HB.out)))); (case aL => have := LMc18.out; omega); intro v138 w22 ho hb hg hat; rw [← Ny137.out] at ho; have n0_ := Aside0.mk (blk_grown (g := gb127) (o := .cells #[.string a1_0, .string a1_1] 46 (0, 0)) (by (with_reducible repeat (first | refine blk_drewN ?_ _ | refine blk_drew ?_ | refine blk_alloc ?_ _)); exact BK127.out) hg (Kd.R_away HO134.out (fun _ hk => hk))); have n1_ := Aside0.mk (hb); have n2_ := Aside0.mk (ho); clear BK127; clear HB; clear HO134; have BK127 := n0_; have HB := n1_; have HO139 := n2_; clear n0_ n1_ n2_; clear ho hb hg hat)); try go_wp2_with (first | ((with_reducible refine gate_builtin (b := .append) (xs := #[.tmp 29, .tmp 31]) rfl ?_); at_builtin; refine Kd.R_append k46 (w0 := w) w.heap.size rfl (.tmp 29) (.tmp 31) 22 46 (.agg #[(.string ⟨#[]⟩), (.string ⟨#[]⟩)]) 32 rfl Tryz.underlying22 info46 rfl (by decide) (by omega) u5 x5_1 (⟨a1_0, a1_1⟩ : S46) [.string a1_0, .string a1_1] (fun k_ => k_ ≠ gb127) (fun _ => False) rfl rfl ?aP (fun _ hk => hk.elim) ?aF ?aO ?aB ?aS ?aL ?_; (case aP => exact k46_mkM _ _ _ (⟨a1_0, a1_1⟩ : S46)); (case aB => exact (by repeat (first | (with_reducible first | exact HB.out | apply below_alloc | apply pw_below_drewN | apply below_drew1 | refine below_set ?_ GE127.out) | exact HB.out))); (case aF => exact (fun k_ hk => Kd.freshB (g := gb127) (o := .cells #[.string a1_0, .string a1_1] 46 (0, 0)) (by (with_reducible repeat (first | refine blk_drewN ?_ _ | refine blk_drew ?_ | refine blk_alloc ?_ _)); exact BK127.out) k_ hk)); (case aO => exact (by (with_reducible repeat (first | apply Kd.R_alloc | apply Kd.R_drewN | apply Kd.R_drew)); exact HO_5.out)); (case aS => exact (below_size (by repeat (first | (with_reducible first | exact HB.out | apply below_alloc | apply pw_below_drewN | apply below_drew1 | refine below_set ?_ GE127.out) | exact HB.out)))); (case aL => have := LMc11.out; omega); intro v133 w20 ho hb hg hat; rw [← Ny132.out] at ho; have n0_ := Aside0.mk (blk_grown (g := gb127) (o := .cells #[.string a1_0, .string a1_1] 46 (0, 0)) (by (with_reducible repeat (first | refine blk_drewN ?_ _ | refine blk_drew ?_ | refine blk_alloc ?_ _)); exact BK127.out) hg (Kd.R_away HO_5.out (fun _ hk => hk))); have n1_ := Aside0.mk (hb); have n2_ := Aside0.mk (ho); clear BK127; clear HB; clear HO_5; have BK127 := n0_; have HB := n1_; have HO134 := n2_; clear n0_ n1_ n2_; clear ho hb hg hat; have p135 : 0 ≤ (x7_1 : Int) := oda_; have q135 : x7_1 < (l0.length : Int) := oda_; obtain ⟨ad135, e135, hx135_0, hx135_1⟩ := at_T46 HR0.out x7_1 p135 q135; cases e135; replace hx135_0 := (HB.out.cell (World.block_lt_of_cell? w _ hx135_0)).trans hx135_0; replace hx135_1 := (HB.out.cell (World.block_lt_of_cell? w _ hx135_1)).trans hx135_1; replace p135 := eq_true p135; replace q135 := eq_true q135; have hcz21_0 : w20.cell? ⟨gb127, 0, none⟩ = some (.string a1_0) := (blk_cell BK127.out 0).trans rfl; have hcz21_1 : w20.cell? ⟨gb127, 1, none⟩ = some (.string a1_1) := (blk_cell BK127.out 1).trans rfl; have hfz21_0 := blk_frozen BK127.out 0; have hfz21_1 := blk_frozen BK127.out 1; have p136 : 0 ≤ (x7_1 : Int) := oda_; have q136 : x7_1 < (l0.length : Int) := oda_; obtain ⟨ad136, e136, hx136_0, hx136_1⟩ := at_T46 HR0.out x7_1 p136 q136; obtain rfl : ad135 = ad136 := (by injection e136); replace hx136_0 := (HB.out.cell (World.block_lt_of_cell? w _ hx136_0)).trans hx136_0; replace hx136_1 := (HB.out.cell (World.block_lt_of_cell? w _ hx136_1)).trans hx136_1; replace p136 := eq_true p136; replace q136 := eq_true q136) | ((with_reducible refine gate_builtin (b := .append) (xs := #[.tmp 41, .tmp 46]) rfl ?_); at_builtin; refine Kd.R_append k46 (w0 := w) w.heap.size rfl (.tmp 41) (.tmp 46) 22 46 (.agg #[(.string ⟨#[]⟩), (.string ⟨#[]⟩)]) 32 rfl Tryz.underlying22 info46 rfl (by decide) (by omega) v133 y132 (⟨(rd_T46 l0 x7_1).f0, (rd_T46 l0 x7_1).f1⟩ : S46) [.string ((rd_T46 l0 x7_1).f0), .string ((rd_T46 l0 x7_1).f1)] (fun k_ => k_ ≠ gb127) (fun _ => False) rfl rfl ?aP (fun _ hk => hk.elim) ?aF ?aO ?aB ?aS ?aL ?_; (case aP => exact k46_mkM _ _ _ (⟨(rd_T46 l0 x7_1).f0, (rd_T46 l0 x7_1).f1⟩ : S46)); (case aB => exact (by repeat (first | (with_reducible first | exact HB.out | apply below_alloc | apply pw_below_drewN | apply below_drew1 | refine below_set ?_ GE127.out) | exact HB.out))); (case aF => exact (fun k_ hk => Kd.freshB (g := gb127) (o := .cells #[.string a1_0, .string a1_1] 46 (0, 0)) (by (with_reducible repeat (first | refine blk_drewN ?_ _ | refine blk_drew ?_ | refine blk_alloc ?_ _)); exact BK127.out) k_ hk)); (case aO => exact (by (with_reducible repeat (first | apply Kd.R_alloc | apply Kd.R_drewN | apply Kd.R_drew)); exact HO134.out)); (case aS => exact (below_size (by repeat (first | (with_reducible first | exact HB.out | apply below_alloc | apply pw_below_drewN | apply below_drew1 | refine below_set ?_ GE127.out) | exact HB.out)))); (case aL => have := LMc18.out; omega); intro v138 w22 ho hb hg hat; rw [← Ny137.out] at ho; have n0_ := Aside0.mk (blk_grown (g := gb127) (o := .cells #[.string a1_0, .string a1_1] 46 (0, 0)) (by (with_reducible repeat (first | refine blk_drewN ?_ _ | refine blk_drew ?_ | refine blk_alloc ?_ _)); exact BK127.out) hg (Kd.R_away HO134.out (fun _ hk => hk))); have n1_ := Aside0.mk (hb); have n2_ := Aside0.mk (ho); clear BK127; clear HB; clear HO134; have BK127 := n0_; have HB := n1_; have HO139 := n2_; clear n0_ n1_ n2_; clear ho hb hg hat)))
            go_roundg kj5
            case measure => have := HK1.out; have := HJ5.out; omega
            case rel => exact ⟨(y137), (true), (wrap64 (x7_1 + 1)), (by first | rfl | (simp; done) | (simp [*]; done)), (by first | rfl | (simp; done) | (simp [*]; done)), H', ⟨by have := HK1.out; have := HJ5.out; omega⟩, ⟨by (with_reducible repeat (first | apply Kd.R_alloc | apply Kd.R_drewN | apply Kd.R_drew)); exact HO139.out⟩, ⟨by (with_reducible repeat (first | refine blk_drewN ?_ _ | refine blk_drew ?_ | refine blk_alloc ?_ _)); exact BK127.out⟩, ⟨by repeat (first | (with_reducible first | exact HB.out | apply below_alloc | apply pw_below_drewN | apply below_drew1 | refine below_set ?_ GE127.out) | exact HB.out)⟩⟩
           ·
            rw [if_neg c18] at H
            exact absurd H (by simp)
         ·
          rw [if_neg c13] at H
          exact absurd H (by simp)
        ·
         rw [if_neg c12] at H
         exact absurd H (by simp)
       ·
        rw [if_neg c11] at H
        exact absurd H (by simp)
      ·
       replace c10 := Bool.eq_false_iff.mpr c10
       subst c10
       have H1 : (if 0 ≤ x7_1 then (if x7_1 < (l0.length : Int) then (if ((rd_T46 l0 x7_1).f0).toList = a1_0.toList then (r09_put.l0 kj5 l0 x5_1 x6_1 (wrap64 (x7_1 + 1)) a1_0 a1_1) else (if x5_1.length < 4398046511104 then (r09_put.l0 kj5 l0 (x5_1 ++ [(⟨(rd_T46 l0 x7_1).f0, (rd_T46 l0 x7_1).f1⟩ : S46)]) x6_1 (wrap64 (x7_1 + 1)) a1_0 a1_1) else (none))) else (none)) else (none)) = some r := by rw [if_neg (show ¬ (false = true) by decide)] at H; exact H
       clear H
       have H := H1
       clear H1
       by_cases c23 : 0 ≤ x7_1
       ·
        rw [if_pos c23] at H
        have c23b0 : decide (0 ≤ x7_1) = true := decide_eq_true c23
        clear c23
        by_cases c24 : x7_1 < (l0.length : Int)
        ·
         rw [if_pos c24] at H
         have c24b0 : decide (x7_1 < (l0.length : Int)) = true := decide_eq_true c24
         clear c24
         by_cases c25 : ((rd_T46 l0 x7_1).f0).toList = a1_0.toList
         ·
          rw [if_pos c25] at H
          have c25b0 : (((rd_T46 l0 x7_1).f0).toList == a1_0.toList) = true := beq_iff_eq.mpr c25
          have c25b1 : (((rd_T46 l0 x7_1).f0).toList != a1_0.toList) = false := bne_eq_false_iff_eq.mpr c25
          clear c25
          have H' := Aside0.mk H
          clear H
          have p140 : 0 ≤ (x7_1 : Int) := oda_
          have q140 : x7_1 < (l0.length : Int) := oda_
          obtain ⟨ad140, e140, hx140_0, hx140_1⟩ := at_T46 HR0.out x7_1 p140 q140
          cases e140
          replace hx140_0 := (HB.out.cell (World.block_lt_of_cell? w _ hx140_0)).trans hx140_0
          replace hx140_1 := (HB.out.cell (World.block_lt_of_cell? w _ hx140_1)).trans hx140_1
          replace p140 := eq_true p140
          replace q140 := eq_true q140
          have hcz26_0 : wc.cell? ⟨gb127, 0, none⟩ = some (.string a1_0) := (blk_cell BK127.out 0).trans rfl
          have hcz26_1 : wc.cell? ⟨gb127, 1, none⟩ = some (.string a1_1) := (blk_cell BK127.out 1).trans rfl
          have hfz26_0 := blk_frozen BK127.out 0
          have hfz26_1 := blk_frozen BK127.out 1
          go_wp2
          repeat (go_quiet (fail); try go_wp2)
          go_roundg kj5
          case measure => have := HK1.out; have := HJ5.out; omega
          case rel => exact ⟨(x5_1), (x6_1), (wrap64 (x7_1 + 1)), (by first | rfl | (simp; done) | (simp [*]; done)), (by first | rfl | (simp; done) | (simp [*]; done)), H', ⟨by have := HK1.out; have := HJ5.out; omega⟩, ⟨by (with_reducible repeat (first | apply Kd.R_alloc | apply Kd.R_drewN | apply Kd.R_drew)); exact HO_5.out⟩, ⟨by (with_reducible repeat (first | refine blk_drewN ?_ _ | refine blk_drew ?_ | refine blk_alloc ?_ _)); exact BK127.out⟩, ⟨by repeat (first | (with_reducible first | exact HB.out | apply below_alloc | apply pw_below_drewN | apply below_drew1 | refine below_set ?_ GE127.out) | exact HB.out)⟩⟩
         ·
          rw [if_neg c25] at H
          have c25b0 : (((rd_T46 l0 x7_1).f0).toList == a1_0.toList) = false := beq_eq_false_iff_ne.mpr c25
          have c25b1 : (((rd_T46 l0 x7_1).f0).toList != a1_0.toList) = true := bne_iff_ne.mpr c25
          by_cases c27 : x5_1.length < 4398046511104
          ·
           rw [if_pos c27] at H
           have LMc27 := Aside0.mk c27
           clear c27
           obtain ⟨y142, hy142⟩ : ∃ y_ : List (S46), y_ = (x5_1 ++ [(⟨(rd_T46 l0 x7_1).f0, (rd_T46 l0 x7_1).f1⟩ : S46)]) := ⟨_, rfl⟩
           replace H : (r09_put.l0 kj5 l0 y142 x6_1 (wrap64 (x7_1 + 1)) a1_0 a1_1) = some r := by first | (rw [hy142]; with_reducible exact H) | (have H2_ := (Option.bind_some _ _).symm.trans H; rw [hy142]; with_reducible exact H2_) | (have H2_ := (Option.bind_some _ _).symm.trans H; with_reducible exact H2_) | with_reducible exact H | (rw [hy142]; exact H) | exact H
           have Ny142 := Aside0.mk hy142
           clear hy142
           have H' := Aside0.mk H
           clear H
           have p140 : 0 ≤ (x7_1 : Int) := oda_
           have q140 : x7_1 < (l0.length : Int) := oda_
           obtain ⟨ad140, e140, hx140_0, hx140_1⟩ := at_T46 HR0.out x7_1 p140 q140
           cases e140
           replace hx140_0 := (HB.out.cell (World.block_lt_of_cell? w _ hx140_0)).trans hx140_0
           replace hx140_1 := (HB.out.cell (World.block_lt_of_cell? w _ hx140_1)).trans hx140_1
           replace p140 := eq_true p140
           replace q140 := eq_true q140
           have hcz28_0 : wc.cell? ⟨gb127, 0, none⟩ = some (.string a1_0) := (blk_cell BK127.out 0).trans rfl
           have hcz28_1 : wc.cell? ⟨gb127, 1, none⟩ = some (.string a1_1) := (blk_cell BK127.out 1).trans rfl
           have hfz28_0 := blk_frozen BK127.out 0
           have hfz28_1 := blk_frozen BK127.out 1
           have p141 : 0 ≤ (x7_1 : Int) := oda_
           have q141 : x7_1 < (l0.length : Int) := oda_
           obtain ⟨ad141, e141, hx141_0, hx141_1⟩ := at_T46 HR0.out x7_1 p141 q141
           obtain rfl : ad140 = ad141 := (by injection e141)
           replace hx141_0 := (HB.out.cell (World.block_lt_of_cell? w _ hx141_0)).trans hx141_0
           replace hx141_1 := (HB.out.cell (World.block_lt_of_cell? w _ hx141_1)).trans hx141_1
           replace p141 := eq_true p141
           replace q141 := eq_true q141
           go_wp2_with (first | ((with_reducible refine gate_builtin (b := .append) (xs := #[.tmp 41, .tmp 46]) rfl ?_); at_builtin; refine Kd.R_append k46 (w0 := w) w.heap.size rfl (.tmp 41) (.tmp 46) 22 46 (.agg #[(.string ⟨#[]⟩), (.string ⟨#[]⟩)]) 32 rfl Tryz.underlying22 info46 rfl (by decide) (by omega) u5 x5_1 (⟨(rd_T46 l0 x7_1).f0, (rd_T46 l0 x7_1).f1⟩ : S46) [.string ((rd_T46 l0 x7_1).f0), .string ((rd_T46 l0 x7_1).f1)] (fun k_ => k_ ≠ gb127) (fun _ => False) rfl rfl ?aP (fun _ hk => hk.elim) ?aF ?aO ?aB ?aS ?aL ?_; (case aP => exact k46_mkM _ _ _ (⟨(rd_T46 l0 x7_1).f0, (rd_T46 l0 x7_1).f1⟩ : S46)); (case aB => exact (by repeat (first | (with_reducible first | exact HB.out | apply below_alloc | apply pw_below_drewN | apply below_drew1 | refine below_set ?_ GE127.out) | exact HB.out))); (case aF => exact (fun k_ hk => Kd.freshB (g := gb127) (o := .cells #[.string a1_0, .string a1_1] 46 (0, 0)) (by (with_reducible repeat (first | refine blk_drewN ?_ _ | refine blk_drew ?_ | refine blk_alloc ?_ _)); exact BK127.out) k_ hk)); (case aO => exact (by (with_reducible repeat (first | apply Kd.R_alloc | apply Kd.R_drewN | apply Kd.R_drew)); exact HO_5.out)); (case aS => exact (below_size (by repeat (first | (with_reducible first | exact HB.out | apply below_alloc | apply pw_below_drewN | apply below_drew1 | refine below_set ?_ GE127.out) | exact HB.out)))); (case aL => have := LMc27.out; omega); intro v143 w29 ho hb hg hat; rw [← Ny142.out] at ho; have n0_ := Aside0.mk (blk_grown (g := gb127) (o := .cells #[.string a1_0, .string a1_1] 46 (0, 0)) (by (with_reducible repeat (first | refine blk_drewN ?_ _ | refine blk_drew ?_ | refine blk_alloc ?_ _)); exact BK127.out) hg (Kd.R_away HO_5.out (fun _ hk => hk))); have n1_ := Aside0.mk (hb); have n2_ := Aside0.mk (ho); clear BK127; clear HB; clear HO_5; have BK127 := n0_; have HB := n1_; have HO144 := n2_; clear n0_ n1_ n2_; clear ho hb hg hat))
           repeat (go_quiet (first | ((with_reducible refine gate_builtin (b := .append) (xs := #[.tmp 41, .tmp 46]) rfl ?_); at_builtin; refine Kd.R_append k46 (w0 := w) w.heap.size rfl (.tmp 41) (.tmp 46) 22 46 (.agg #[(.string ⟨#[]⟩), (.string ⟨#[]⟩)]) 32 rfl Tryz.underlying22 info46 rfl (by decide) (by omega) u5 x5_1 (⟨(rd_T46 l0 x7_1).f0, (rd_T46 l0 x7_1).f1⟩ : S46) [.string ((rd_T46 l0 x7_1).f0), .string ((rd_T46 l0 x7_1).f1)] (fun k_ => k_ ≠ gb127) (fun _ => False) rfl rfl ?aP (fun _ hk => hk.elim) ?aF ?aO ?aB ?aS ?aL ?_; (case aP => exact k46_mkM _ _ _ (⟨(rd_T46 l0 x7_1).f0, (rd_T46 l0 x7_1).f1⟩ : S46)); (case aB => exact (by repeat (first | (with_reducible first | exact HB.out | apply below_alloc | apply pw_below_drewN | apply below_drew1 | refine below_set ?_ GE127.out) | exact HB.out))); (case aF => exact (fun k_ hk => Kd.freshB (g := gb127) (o := .cells #[.string a1_0, .string a1_1] 46 (0, 0)) (by (with_reducible repeat (first | refine blk_drewN ?_ _ | refine blk_drew ?_ | refine blk_alloc ?_ _)); exact BK127.out) k_ hk)); (case aO => exact (by (with_reducible repeat (first | apply Kd.R_alloc | apply Kd.R_drewN | apply Kd.R_drew)); exact HO_5.out)); (case aS => exact (below_size (by repeat (first | (with_reducible first | exact HB.out | apply below_alloc | apply pw_below_drewN | apply below_drew1 | refine below_set ?_ GE127.out) | exact HB.out)))); (case aL => have := LMc27.out; omega); intro v143 w29 ho hb hg hat; rw [← Ny142.out] at ho; have n0_ := Aside0.mk (blk_grown (g := gb127) (o := .cells #[.string a1_0, .string a1_1] 46 (0, 0)) (by (with_reducible repeat (first | refine blk_drewN ?_ _ | refine blk_drew ?_ | refine blk_alloc ?_ _)); exact BK127.out) hg (Kd.R_away HO_5.out (fun _ hk => hk))); have n1_ := Aside0.mk (hb); have n2_ := Aside0.mk (ho); clear BK127; clear HB; clear HO_5; have BK127 := n0_; have HB := n1_; have HO144 := n2_; clear n0_ n1_ n2_; clear ho hb hg hat)); try go_wp2_with (first | ((with_reducible refine gate_builtin (b := .append) (xs := #[.tmp 41, .tmp 46]) rfl ?_); at_builtin; refine Kd.R_append k46 (w0 := w) w.heap.size rfl (.tmp 41) (.tmp 46) 22 46 (.agg #[(.string ⟨#[]⟩), (.string ⟨#[]⟩)]) 32 rfl Tryz.underlying22 info46 rfl (by decide) (by omega) u5 x5_1 (⟨(rd_T46 l0 x7_1).f0, (rd_T46 l0 x7_1).f1⟩ : S46) [.string ((rd_T46 l0 x7_1).f0), .string ((rd_T46 l0 x7_1).f1)] (fun k_ => k_ ≠ gb127) (fun _ => False) rfl rfl ?aP (fun _ hk => hk.elim) ?aF ?aO ?aB ?aS ?aL ?_; (case aP => exact k46_mkM _ _ _ (⟨(rd_T46 l0 x7_1).f0, (rd_T46 l0 x7_1).f1⟩ : S46)); (case aB => exact (by repeat (first | (with_reducible first | exact HB.out | apply below_alloc | apply pw_below_drewN | apply below_drew1 | refine below_set ?_ GE127.out) | exact HB.out))); (case aF => exact (fun k_ hk => Kd.freshB (g := gb127) (o := .cells #[.string a1_0, .string a1_1] 46 (0, 0)) (by (with_reducible repeat (first | refine blk_drewN ?_ _ | refine blk_drew ?_ | refine blk_alloc ?_ _)); exact BK127.out) k_ hk)); (case aO => exact (by (with_reducible repeat (first | apply Kd.R_alloc | apply Kd.R_drewN | apply Kd.R_drew)); exact HO_5.out)); (case aS => exact (below_size (by repeat (first | (with_reducible first | exact HB.out | apply below_alloc | apply pw_below_drewN | apply below_drew1 | refine below_set ?_ GE127.out) | exact HB.out)))); (case aL => have := LMc27.out; omega); intro v143 w29 ho hb hg hat; rw [← Ny142.out] at ho; have n0_ := Aside0.mk (blk_grown (g := gb127) (o := .cells #[.string a1_0, .string a1_1] 46 (0, 0)) (by (with_reducible repeat (first | refine blk_drewN ?_ _ | refine blk_drew ?_ | refine blk_alloc ?_ _)); exact BK127.out) hg (Kd.R_away HO_5.out (fun _ hk => hk))); have n1_ := Aside0.mk (hb); have n2_ := Aside0.mk (ho); clear BK127; clear HB; clear HO_5; have BK127 := n0_; have HB := n1_; have HO144 := n2_; clear n0_ n1_ n2_; clear ho hb hg hat)))
           go_roundg kj5
           case measure => have := HK1.out; have := HJ5.out; omega
           case rel => exact ⟨(y142), (x6_1), (wrap64 (x7_1 + 1)), (by first | rfl | (simp; done) | (simp [*]; done)), (by first | rfl | (simp; done) | (simp [*]; done)), H', ⟨by have := HK1.out; have := HJ5.out; omega⟩, ⟨by (with_reducible repeat (first | apply Kd.R_alloc | apply Kd.R_drewN | apply Kd.R_drew)); exact HO144.out⟩, ⟨by (with_reducible repeat (first | refine blk_drewN ?_ _ | refine blk_drew ?_ | refine blk_alloc ?_ _)); exact BK127.out⟩, ⟨by repeat (first | (with_reducible first | exact HB.out | apply below_alloc | apply pw_below_drewN | apply below_drew1 | refine below_set ?_ GE127.out) | exact HB.out)⟩⟩
          ·
           rw [if_neg c27] at H
           exact absurd H (by simp)
        ·
         rw [if_neg c24] at H
         exact absurd H (by simp)
       ·
        rw [if_neg c23] at H
        exact absurd H (by simp)
   ·
    rw [if_neg c5] at H
    have c5b0 : decide (x7_1 < (l0.length : Int)) = false := decide_eq_false c5
    clear c5
    by_cases c30 : x6_1 = true
    ·
     subst c30
     have H1 : (some x5_1) = some r := by rw [if_pos rfl] at H; exact H
     clear H
     have H := H1
     clear H1
     obtain rfl := Option.some.inj H
     go_wp2
     repeat (go_quiet (fail); try go_wp2)
     go_ret
     exact ⟨_, by first | rfl | (simp [errW_none, errW_some] <;> rfl) | (simp [*, errW_none, errW_some] <;> rfl), by (with_reducible repeat (first | apply Kd.R_alloc | apply Kd.R_drewN | apply Kd.R_drew)); exact Kd.R_mono HO_5.out (fun _ hk => trivial), by repeat (first | (with_reducible first | exact HB.out | apply below_alloc | apply pw_below_drewN | apply below_drew1 | refine below_set ?_ GE127.out) | exact HB.out)⟩
    ·
     replace c30 := Bool.eq_false_iff.mpr c30
     subst c30
     have H1 : (if x5_1.length < 4398046511104 then (some (x5_1 ++ [(⟨a1_0, a1_1⟩ : S46)])) else (none)) = some r := by rw [if_neg (show ¬ (false = true) by decide)] at H; exact H
     clear H
     have H := H1
     clear H1
     by_cases c31 : x5_1.length < 4398046511104
     ·
      rw [if_pos c31] at H
      have LMc31 := Aside0.mk c31
      clear c31
      obtain ⟨y128, hy128⟩ : ∃ y_ : List (S46), y_ = (x5_1 ++ [(⟨a1_0, a1_1⟩ : S46)]) := ⟨_, rfl⟩
      replace H : (some y128) = some r := by first | (rw [hy128]; with_reducible exact H) | (have H2_ := (Option.bind_some _ _).symm.trans H; rw [hy128]; with_reducible exact H2_) | (have H2_ := (Option.bind_some _ _).symm.trans H; with_reducible exact H2_) | with_reducible exact H | (rw [hy128]; exact H) | exact H
      have Ny128 := Aside0.mk hy128
      clear hy128
      obtain rfl := Option.some.inj H
      have hcz32_0 : wr.cell? ⟨gb127, 0, none⟩ = some (.string a1_0) := (blk_cell BK127.out 0).trans rfl
      have hcz32_1 : wr.cell? ⟨gb127, 1, none⟩ = some (.string a1_1) := (blk_cell BK127.out 1).trans rfl
      have hfz32_0 := blk_frozen BK127.out 0
      have hfz32_1 := blk_frozen BK127.out 1
      go_wp2_with (first | ((with_reducible refine gate_builtin (b := .append) (xs := #[.tmp 50, .tmp 52]) rfl ?_); at_builtin; refine Kd.R_append k46 (w0 := w) w.heap.size rfl (.tmp 50) (.tmp 52) 22 46 (.agg #[(.string ⟨#[]⟩), (.string ⟨#[]⟩)]) 32 rfl Tryz.underlying22 info46 rfl (by decide) (by omega) u5 x5_1 (⟨a1_0, a1_1⟩ : S46) [.string a1_0, .string a1_1] (fun k_ => k_ ≠ gb127) (fun _ => False) rfl rfl ?aP (fun _ hk => hk.elim) ?aF ?aO ?aB ?aS ?aL ?_; (case aP => exact k46_mkM _ _ _ (⟨a1_0, a1_1⟩ : S46)); (case aB => exact (by repeat (first | (with_reducible first | exact HB.out | apply below_alloc | apply pw_below_drewN | apply below_drew1 | refine below_set ?_ GE127.out) | exact HB.out))); (case aF => exact (fun k_ hk => Kd.freshB (g := gb127) (o := .cells #[.string a1_0, .string a1_1] 46 (0, 0)) (by (with_reducible repeat (first | refine blk_drewN ?_ _ | refine blk_drew ?_ | refine blk_alloc ?_ _)); exact BK127.out) k_ hk)); (case aO => exact (by (with_reducible repeat (first | apply Kd.R_alloc | apply Kd.R_drewN | apply Kd.R_drew)); exact HO_5.out)); (case aS => exact (below_size (by repeat (first | (with_reducible first | exact HB.out | apply below_alloc | apply pw_below_drewN | apply below_drew1 | refine below_set ?_ GE127.out) | exact HB.out)))); (case aL => have := LMc31.out; omega); intro v129 w33 ho hb hg hat; rw [← Ny128.out] at ho; have n0_ := Aside0.mk (blk_grown (g := gb127) (o := .cells #[.string a1_0, .string a1_1] 46 (0, 0)) (by (with_reducible repeat (first | refine blk_drewN ?_ _ | refine blk_drew ?_ | refine blk_alloc ?_ _)); exact BK127.out) hg (Kd.R_away HO_5.out (fun _ hk => hk))); have n1_ := Aside0.mk (hb); have n2_ := Aside0.mk (ho); clear BK127; clear HB; clear HO_5; have BK127 := n0_; have HB := n1_; have HO130 := n2_; clear n0_ n1_ n2_; clear ho hb hg hat))
      repeat (go_quiet (first | ((with_reducible refine gate_builtin (b := .append) (xs := #[.tmp 50, .tmp 52]) rfl ?_); at_builtin; refine Kd.R_append k46 (w0 := w) w.heap.size rfl (.tmp 50) (.tmp 52) 22 46 (.agg #[(.string ⟨#[]⟩), (.string ⟨#[]⟩)]) 32 rfl Tryz.underlying22 info46 rfl (by decide) (by omega) u5 x5_1 (⟨a1_0, a1_1⟩ : S46) [.string a1_0, .string a1_1] (fun k_ => k_ ≠ gb127) (fun _ => False) rfl rfl ?aP (fun _ hk => hk.elim) ?aF ?aO ?aB ?aS ?aL ?_; (case aP => exact k46_mkM _ _ _ (⟨a1_0, a1_1⟩ : S46)); (case aB => exact (by repeat (first | (with_reducible first | exact HB.out | apply below_alloc | apply pw_below_drewN | apply below_drew1 | refine below_set ?_ GE127.out) | exact HB.out))); (case aF => exact (fun k_ hk => Kd.freshB (g := gb127) (o := .cells #[.string a1_0, .string a1_1] 46 (0, 0)) (by (with_reducible repeat (first | refine blk_drewN ?_ _ | refine blk_drew ?_ | refine blk_alloc ?_ _)); exact BK127.out) k_ hk)); (case aO => exact (by (with_reducible repeat (first | apply Kd.R_alloc | apply Kd.R_drewN | apply Kd.R_drew)); exact HO_5.out)); (case aS => exact (below_size (by repeat (first | (with_reducible first | exact HB.out | apply below_alloc | apply pw_below_drewN | apply below_drew1 | refine below_set ?_ GE127.out) | exact HB.out)))); (case aL => have := LMc31.out; omega); intro v129 w33 ho hb hg hat; rw [← Ny128.out] at ho; have n0_ := Aside0.mk (blk_grown (g := gb127) (o := .cells #[.string a1_0, .string a1_1] 46 (0, 0)) (by (with_reducible repeat (first | refine blk_drewN ?_ _ | refine blk_drew ?_ | refine blk_alloc ?_ _)); exact BK127.out) hg (Kd.R_away HO_5.out (fun _ hk => hk))); have n1_ := Aside0.mk (hb); have n2_ := Aside0.mk (ho); clear BK127; clear HB; clear HO_5; have BK127 := n0_; have HB := n1_; have HO130 := n2_; clear n0_ n1_ n2_; clear ho hb hg hat)); try go_wp2_with (first | ((with_reducible refine gate_builtin (b := .append) (xs := #[.tmp 50, .tmp 52]) rfl ?_); at_builtin; refine Kd.R_append k46 (w0 := w) w.heap.size rfl (.tmp 50) (.tmp 52) 22 46 (.agg #[(.string ⟨#[]⟩), (.string ⟨#[]⟩)]) 32 rfl Tryz.underlying22 info46 rfl (by decide) (by omega) u5 x5_1 (⟨a1_0, a1_1⟩ : S46) [.string a1_0, .string a1_1] (fun k_ => k_ ≠ gb127) (fun _ => False) rfl rfl ?aP (fun _ hk => hk.elim) ?aF ?aO ?aB ?aS ?aL ?_; (case aP => exact k46_mkM _ _ _ (⟨a1_0, a1_1⟩ : S46)); (case aB => exact (by repeat (first | (with_reducible first | exact HB.out | apply below_alloc | apply pw_below_drewN | apply below_drew1 | refine below_set ?_ GE127.out) | exact HB.out))); (case aF => exact (fun k_ hk => Kd.freshB (g := gb127) (o := .cells #[.string a1_0, .string a1_1] 46 (0, 0)) (by (with_reducible repeat (first | refine blk_drewN ?_ _ | refine blk_drew ?_ | refine blk_alloc ?_ _)); exact BK127.out) k_ hk)); (case aO => exact (by (with_reducible repeat (first | apply Kd.R_alloc | apply Kd.R_drewN | apply Kd.R_drew)); exact HO_5.out)); (case aS => exact (below_size (by repeat (first | (with_reducible first | exact HB.out | apply below_alloc | apply pw_below_drewN | apply below_drew1 | refine below_set ?_ GE127.out) | exact HB.out)))); (case aL => have := LMc31.out; omega); intro v129 w33 ho hb hg hat; rw [← Ny128.out] at ho; have n0_ := Aside0.mk (blk_grown (g := gb127) (o := .cells #[.string a1_0, .string a1_1] 46 (0, 0)) (by (with_reducible repeat (first | refine blk_drewN ?_ _ | refine blk_drew ?_ | refine blk_alloc ?_ _)); exact BK127.out) hg (Kd.R_away HO_5.out (fun _ hk => hk))); have n1_ := Aside0.mk (hb); have n2_ := Aside0.mk (ho); clear BK127; clear HB; clear HO_5; have BK127 := n0_; have HB := n1_; have HO130 := n2_; clear n0_ n1_ n2_; clear ho hb hg hat)))
      go_ret
      exact ⟨_, by first | rfl | (simp [errW_none, errW_some] <;> rfl) | (simp [*, errW_none, errW_some] <;> rfl), by (with_reducible repeat (first | apply Kd.R_alloc | apply Kd.R_drewN | apply Kd.R_drew)); exact Kd.R_mono HO130.out (fun _ hk => trivial), by repeat (first | (with_reducible first | exact HB.out | apply below_alloc | apply pw_below_drewN | apply below_drew1 | refine below_set ?_ GE127.out) | exact HB.out)⟩
     ·
      rw [if_neg c31] at H
      exact absurd H (by simp)
end Go.Proofs.YtacgchklilfcaaaGreatDoor.PRfBase
