/- Joined texts: PObjectWantsx1. No condition but what stands in each. -/
import Derived.Test.YtefefhhaopjccaaGreatDoorZObjectWantsJ18
namespace Go.Proofs.YtefefhhaopjccaaGreatDoor.PObjectWants
open Go.Proofs.YtefefhhaopjccaaGreatDoor.PObBase Go.Proofs.YtefefhhaopjccaaGreatDoor.PObGet Go.Proofs.YtefefhhaopjccaaGreatDoor.PObRt
open Go.RowKit Go.Proofs.YtefefhhaopjccaaGreatDoorW.PrintWords Go.Proofs.YtefefhhaopjccaaGreatDoorW.PrintLast Go.Proofs.YtefefhhaopjccaaGreatDoorW.PrintMore
attribute [local go_sem] max2_int min2_int max_two min_two max_three min_three max_four min_four   -- for this text's walks alone
set_option linter.unusedVariables false
set_option linter.unusedSimpArgs false
theorem o1_ {p : Prop} (h : p := by repeat (first | (with_reducible first | exact HB.out | apply below_alloc | apply pw_below_drewN | apply below_drew1 | refine below_set ?_ GE101.out | refine below_set ?_ GE102.out) | exact HB.out)) : p := h
theorem o2_ {p : Prop} (h : p := by repeat (first | (with_reducible first | exact HB.out | apply below_alloc | apply pw_below_drewN | apply below_drew1 | refine below_set ?_ GE101.out) | exact HB.out)) : p := h
theorem o3_ {p : Prop} (h : p := by (with_reducible repeat (first | refine blk_drewN ?_ _ | refine blk_drew ?_ | refine blk_alloc ?_ _)); exact BK101.out) : p := h
theorem o4_ {p : Prop} (h : p := by (with_reducible repeat (first | refine blk_drewN ?_ _ | refine blk_drew ?_ | refine blk_alloc ?_ _)); exact BK102.out) : p := h
theorem o5_ {p : Prop} (h : p := by (with_reducible repeat (first | apply Kd.R_alloc | apply Kd.R_drewN | apply Kd.R_drew)); exact HO_14.out) : p := h
theorem o6_ {p : Prop} (h : p := by (with_reducible repeat (first | apply Kd.R_alloc | apply Kd.R_drewN | apply Kd.R_drew)); exact HO119.out) : p := h
mutual
noncomputable def w04_ObjectWants.j0 : Nat → List (S54) → Bool → Bool → ByteArray → List ByteArray → ByteArray → ByteArray → ByteArray → Int → ByteArray → ByteArray → Option (Bool)
 | 0, _, _, _, _, _, _, _, _, _, _, _ => none
 | k + 1, x0, x7, x39, x102000, x102001, x102002, x102003, x103000, x103001, x103002, x103003 => if x39 = true then (some x7) else ((Ob.Gv.putTree.f x0).bind fun bt106 => ((Ob.Gv.wants.f 2 bt106.1).bind fun t108 => (if bt106.2 = true then (w04_ObjectWants.j1 k x0 x7 t108 (decide ((bt106.1.size : Int) ≤ 65536)) x102000 x102001 x102002 x102003 x103000 x103001 x103002 x103003) else (w04_ObjectWants.j1 k x0 x7 t108 false x102000 x102001 x102002 x102003 x103000 x103001 x103002 x103003))))
noncomputable def w04_ObjectWants.j1 : Nat → List (S54) → Bool → List (S58) → Bool → ByteArray → List ByteArray → ByteArray → ByteArray → ByteArray → Int → ByteArray → ByteArray → Option (Bool)
 | 0, _, _, _, _, _, _, _, _, _, _, _, _ => none
 | k + 1, x0, x7, x10, x54, x102000, x102001, x102002, x102003, x103000, x103001, x103002, x103003 => if x54 = true then (if (x10.length : Int) = (x0.length : Int) then (w04_ObjectWants.l0 k x0 x7 x10 0 x102000 x102001 x102002 x102003 x103000 x103001 x103002 x103003) else (some false)) else (w04_ObjectWants.j3 k x7 x102000 x102001 x102002 x102003 x103000 x103001 x103002 x103003)
noncomputable def w04_ObjectWants.j3 : Nat → Bool → ByteArray → List ByteArray → ByteArray → ByteArray → ByteArray → Int → ByteArray → ByteArray → Option (Bool)
 | 0, _, _, _, _, _, _, _, _, _ => none
 | k + 1, x7, x102000, x102001, x102002, x102003, x103000, x103001, x103002, x103003 => (Ob.Gv.putChange.f x102000 x102001 x102002 x102003).bind fun bt115 => ((Ob.Gv.wants.f 3 bt115.1).bind fun t117 => (if bt115.2 = true then (if (t117.length : Int) = (wrap64 (1 + (x102001.length : Int))) then (if 0 < (t117.length : Int) then (if ((rd_T58 t117 0).f0).toList = x102000.toList then (w04_ObjectWants.j4 k x7 t117 (((rd_T58 t117 0).f1) != 2) x102000 x102001 x102002 x102003 x103000 x103001 x103002 x103003) else (w04_ObjectWants.j4 k x7 t117 true x102000 x102001 x102002 x102003 x103000 x103001 x103002 x103003)) else (none)) else (w04_ObjectWants.j4 k x7 t117 true x102000 x102001 x102002 x102003 x103000 x103001 x103002 x103003)) else ((Ob.Gv.putLabel.f x103000 x103001 x103002 x103003).bind fun bt132 => ((Ob.Gv.wants.f 4 bt132.1).bind fun t134 => (if x7 = true then (if bt132.2 = true then (if (t134.length : Int) = 1 then (if 0 < (t134.length : Int) then (if ((rd_T58 t134 0).f0).toList = x103000.toList then (some (((rd_T58 t134 0).f1) == x103001)) else (some false)) else (none)) else (some false)) else (some true)) else (some false))))))
noncomputable def w04_ObjectWants.j4 : Nat → Bool → List (S58) → Bool → ByteArray → List ByteArray → ByteArray → ByteArray → ByteArray → Int → ByteArray → ByteArray → Option (Bool)
 | 0, _, _, _, _, _, _, _, _, _, _, _ => none
 | k + 1, x7, x14, x123, x102000, x102001, x102002, x102003, x103000, x103001, x103002, x103003 => if x123 = true then (some false) else (w04_ObjectWants.l1 k x7 x14 0 x102000 x102001 x102002 x102003 x103000 x103001 x103002 x103003)
noncomputable def w04_ObjectWants.l1 : Nat → Bool → List (S58) → Int → ByteArray → List ByteArray → ByteArray → ByteArray → ByteArray → Int → ByteArray → ByteArray → Option (Bool)
 | 0, _, _, _, _, _, _, _, _, _, _, _ => none
 | k + 1, x7, x14, x15, x102000, x102001, x102002, x102003, x103000, x103001, x103002, x103003 => if x15 < (x102001.length : Int) then (if 0 ≤ (wrap64 (x15 + 1)) then (if (wrap64 (x15 + 1)) < (x14.length : Int) then (if 0 ≤ x15 then (if ((rd_T58 x14 (wrap64 (x15 + 1))).f0).toList = (rdOf ByteArray.empty x102001 x15).toList then (if ((rd_T58 x14 (wrap64 (x15 + 1))).f1) = 3 then (w04_ObjectWants.l1 k x7 x14 (wrap64 (x15 + 1)) x102000 x102001 x102002 x102003 x103000 x103001 x103002 x103003) else (some false)) else (some false)) else (none)) else (none)) else (none)) else ((Ob.Gv.putLabel.f x103000 x103001 x103002 x103003).bind fun bt125 => ((Ob.Gv.wants.f 4 bt125.1).bind fun t127 => (if x7 = true then (if bt125.2 = true then (if (t127.length : Int) = 1 then (if 0 < (t127.length : Int) then (if ((rd_T58 t127 0).f0).toList = x103000.toList then (some (((rd_T58 t127 0).f1) == x103001)) else (some false)) else (none)) else (some false)) else (some true)) else (some false))))
noncomputable def w04_ObjectWants.l0 : Nat → List (S54) → Bool → List (S58) → Int → ByteArray → List ByteArray → ByteArray → ByteArray → ByteArray → Int → ByteArray → ByteArray → Option (Bool)
 | 0, _, _, _, _, _, _, _, _, _, _, _, _ => none
 | k + 1, x0, x7, x10, x11, x102000, x102001, x102002, x102003, x103000, x103001, x103002, x103003 => if x11 < (x0.length : Int) then (if 0 ≤ x11 then (if x11 < (x10.length : Int) then (if ((rd_T58 x10 x11).f0).toList = ((rd_T54 x0 x11).f2).toList then (if ((((rd_T58 x10 x11).f1) == 2) != (((rd_T54 x0 x11).f0) == 3)) = true then (some false) else (w04_ObjectWants.l0 k x0 x7 x10 (wrap64 (x11 + 1)) x102000 x102001 x102002 x102003 x103000 x103001 x103002 x103003)) else (some false)) else (none)) else (none)) else (w04_ObjectWants.j3 k x7 x102000 x102001 x102002 x102003 x103000 x103001 x103002 x103003)
end
noncomputable def w04_ObjectWants.f (k : Nat) (l0 : List (S54)) (a1_0 : ByteArray) (l1_1 : List ByteArray) (a1_2 : ByteArray) (a1_3 : ByteArray) (a2_0 : ByteArray) (a2_1 : Int) (a2_2 : ByteArray) (a2_3 : ByteArray) : Option (Bool) := (Ob.Gv.head.f).bind fun t103 => ((PObBase.w04_GreatItems.f k l0).bind fun t104 => (if t104 = true then (w04_ObjectWants.j0 k l0 t103 true a1_0 l1_1 a1_2 a1_3 a2_0 a2_1 a2_2 a2_3) else ((PObBase.w04_GreatChange.f k a1_0 l1_1 a1_2 a1_3).bind fun t105 => (if t105 = true then (w04_ObjectWants.j0 k l0 t103 true a1_0 l1_1 a1_2 a1_3 a2_0 a2_1 a2_2 a2_3) else (w04_ObjectWants.j0 k l0 t103 (decide ((wrap64 ((wrap64 ((a2_0.size : Int) + (a2_2.size : Int))) + (a2_3.size : Int))) > 9000)) a1_0 l1_1 a1_2 a1_3 a2_0 a2_1 a2_2 a2_3)))))
set_option maxHeartbeats 8000000 in
set_option maxRecDepth 100000 in
theorem w04_ObjectWants.calls (k : Nat) (A0 : Option Addr) (c0 : Nat) (l0 : List (S54)) (a1_0 : ByteArray) (A1_1 : Option Addr) (c1_1 : Nat) (l1_1 : List ByteArray) (a1_2 : ByteArray) (a1_3 : ByteArray) (a2_0 : ByteArray) (a2_1 : Int) (a2_2 : ByteArray) (a2_3 : ByteArray) (r : Bool) (w : World) (hr0 : Kd.C k54 w A0 l0.length l0) (hc0 : l0.length ≤ c0) (hr1_1 : Kd.C Kd.string w A1_1 l1_1.length l1_1) (hc1_1 : l1_1.length ≤ c1_1) (h : w04_ObjectWants.f k l0 a1_0 l1_1 a1_2 a1_3 a2_0 a2_1 a2_2 a2_3 = some r) (ht_ : Lib.TabIs Tryz.prog w "internal/strconv.uint64pow10" .u64 Lib.pow10Tab) :
  Calls Tryz.prog 9 #[.slice A0 l0.length c0, .agg #[.string a1_0, .slice A1_1 l1_1.length c1_1, .string a1_2, .string a1_3], .agg #[.string a2_0, .int .i64 a2_1, .string a2_2, .string a2_3]] w fun e w' => e = .returned (.bool r) ∧ Below w.heap.size w w' := by
 have HTAB_ : Aside0 (∀ w_ : World, Below w.heap.size w w_ → Lib.TabIs Tryz.prog w_ "internal/strconv.uint64pow10" .u64 Lib.pow10Tab) := Aside0.mk (fun w_ hb_ => Lib.tabBelow_of_tabIs ht_ w_ hb_)
 clear ht_
 have hu40 := Tryz.underlying40
 have hu42 := Tryz.underlying42
 have hu23 := Tryz.underlying23
 have HR0 := Aside0.mk hr0
 have HC0 := Aside0.mk hc0
 clear hr0 hc0
 have HR1_1 := Aside0.mk hr1_1
 have HC1_1 := Aside0.mk hc1_1
 clear hr1_1 hc1_1
 have HB := Aside0.mk (Below.refl w.heap.size w)
 have H : ((Ob.Gv.head.f).bind fun t103 => ((PObBase.w04_GreatItems.f k l0).bind fun t104 => (if t104 = true then (w04_ObjectWants.j0 k l0 t103 true a1_0 l1_1 a1_2 a1_3 a2_0 a2_1 a2_2 a2_3) else ((PObBase.w04_GreatChange.f k a1_0 l1_1 a1_2 a1_3).bind fun t105 => (if t105 = true then (w04_ObjectWants.j0 k l0 t103 true a1_0 l1_1 a1_2 a1_3 a2_0 a2_1 a2_2 a2_3) else (w04_ObjectWants.j0 k l0 t103 (decide ((wrap64 ((wrap64 ((a2_0.size : Int) + (a2_2.size : Int))) + (a2_3.size : Int))) > 9000)) a1_0 l1_1 a1_2 a1_3 a2_0 a2_1 a2_2 a2_3)))))) = some r := h
 clear h
 replace H := Option.bind_eq_some_iff.mp H
 obtain ⟨t103, A40, H⟩ := H
 replace H : ((PObBase.w04_GreatItems.f k l0).bind fun t104 => (if t104 = true then (w04_ObjectWants.j0 k l0 t103 true a1_0 l1_1 a1_2 a1_3 a2_0 a2_1 a2_2 a2_3) else ((PObBase.w04_GreatChange.f k a1_0 l1_1 a1_2 a1_3).bind fun t105 => (if t105 = true then (w04_ObjectWants.j0 k l0 t103 true a1_0 l1_1 a1_2 a1_3 a2_0 a2_1 a2_2 a2_3) else (w04_ObjectWants.j0 k l0 t103 (decide ((wrap64 ((wrap64 ((a2_0.size : Int) + (a2_2.size : Int))) + (a2_3.size : Int))) > 9000)) a1_0 l1_1 a1_2 a1_3 a2_0 a2_1 a2_2 a2_3))))) = some r := H
 have A4 := Aside0.mk A40
 clear A40
 have HC5 := Aside0.mk H
 clear H
 go_enter Tryz.func9, Tryz.ntmps9
 go_upto_region 2 with (first | ((with_reducible refine gate_dst (N := 4) rfl ?_); (try (refine gate_guard (by rfl) ?_; dsimp only)); refine box_event ?hg (N := 4) ?hd (cs := #[.string a1_0, .slice A1_1 l1_1.length c1_1, .string a1_2, .string a1_3]) (t := 40) ?hr ?_; (case hd => rfl); (case hg => rfl); (case hr => first | (go_simp; done) | (go_simp; rfl)); intro gb101 hg w6 hbox hb; have n0_ := Aside0.mk (below_step bw_ hb); have n1_ := Aside0.mk (hbox); have n2_ := Aside0.mk ((by rw [hg]; exact (below_size bw_) : w.heap.size ≤ gb101)); have n3_ := Aside0.mk ((by rw [hg]; exact (below_size bw_) : w.heap.size ≤ gb101)); clear HB; have HB := n0_; have BK101 := n1_; have GW101 := n2_; have GE101 := n3_; clear n0_ n1_ n2_ n3_; clear hb hbox hg) | ((with_reducible refine gate_dst (N := 5) rfl ?_); (try (refine gate_guard (by rfl) ?_; dsimp only)); refine box_event ?hg (N := 5) ?hd (cs := #[.string a2_0, .int .i64 a2_1, .string a2_2, .string a2_3]) (t := 42) ?hr ?_; (case hd => rfl); (case hg => rfl); (case hr => first | (go_simp; done) | (go_simp; rfl)); intro gb102 hg w7 hbox hb; have n0_ := Aside0.mk (blk_below (g := gb101) (o := .cells #[.string a1_0, .slice A1_1 l1_1.length c1_1, .string a1_2, .string a1_3] 40 (0, 0)) o3_ hb); have n1_ := Aside0.mk (below_step o2_ hb); have n2_ := Aside0.mk (hbox); have n3_ := Aside0.mk ((by rw [hg]; exact (below_size o2_) : w.heap.size ≤ gb102)); have n4_ := Aside0.mk ((by rw [hg]; exact (below_size o2_) : w.heap.size ≤ gb102)); have n5_ := Aside0.mk ((by rw [hg]; exact Nat.ne_of_lt (blk_lt (g := gb101) (o := .cells #[.string a1_0, .slice A1_1 l1_1.length c1_1, .string a1_2, .string a1_3] 40 (0, 0)) o3_) : gb101 ≠ gb102)); have n6_ := Aside0.mk ((by rw [hg]; exact Nat.ne_of_gt (blk_lt (g := gb101) (o := .cells #[.string a1_0, .slice A1_1 l1_1.length c1_1, .string a1_2, .string a1_3] 40 (0, 0)) o3_) : gb102 ≠ gb101)); clear BK101; clear HB; have BK101 := n0_; have HB := n1_; have BK102 := n2_; have GW102 := n3_; have GE102 := n4_; have NB101_102 := n5_; have NB102_101 := n6_; clear n0_ n1_ n2_ n3_ n4_ n5_ n6_; clear hb hbox hg) | (go_at_call 10; (with_reducible refine (Ob.Gv.head.calls  t103 _ A4.out (HTAB_.out _ (by first | exact Below.refl _ _ | (with_reducible exact Aside0.out (by assumption)) | repeat (first | (with_reducible exact Aside0.out (by assumption)) | apply below_alloc | apply pw_below_drewN | apply below_drew1)))).mono ?_); rintro e w8 ⟨rfl, hb⟩; have n0_ := Aside0.mk (blk_below (g := gb101) (o := .cells #[.string a1_0, .slice A1_1 l1_1.length c1_1, .string a1_2, .string a1_3] 40 (0, 0)) o3_ hb); have n1_ := Aside0.mk (blk_below (g := gb102) (o := .cells #[.string a2_0, .int .i64 a2_1, .string a2_2, .string a2_3] 42 (0, 0)) o4_ hb); have n2_ := Aside0.mk (below_step o1_ hb); clear BK101; clear BK102; clear HB; have BK101 := n0_; have BK102 := n1_; have HB := n2_; clear n0_ n1_ n2_; (try clear hb); (try clear hb2); (try clear hk); (try clear hi)))
 repeat (go_quiet (first | ((with_reducible refine gate_dst (N := 4) rfl ?_); (try (refine gate_guard (by rfl) ?_; dsimp only)); refine box_event ?hg (N := 4) ?hd (cs := #[.string a1_0, .slice A1_1 l1_1.length c1_1, .string a1_2, .string a1_3]) (t := 40) ?hr ?_; (case hd => rfl); (case hg => rfl); (case hr => first | (go_simp; done) | (go_simp; rfl)); intro gb101 hg w6 hbox hb; have n0_ := Aside0.mk (below_step bw_ hb); have n1_ := Aside0.mk (hbox); have n2_ := Aside0.mk ((by rw [hg]; exact (below_size bw_) : w.heap.size ≤ gb101)); have n3_ := Aside0.mk ((by rw [hg]; exact (below_size bw_) : w.heap.size ≤ gb101)); clear HB; have HB := n0_; have BK101 := n1_; have GW101 := n2_; have GE101 := n3_; clear n0_ n1_ n2_ n3_; clear hb hbox hg) | ((with_reducible refine gate_dst (N := 5) rfl ?_); (try (refine gate_guard (by rfl) ?_; dsimp only)); refine box_event ?hg (N := 5) ?hd (cs := #[.string a2_0, .int .i64 a2_1, .string a2_2, .string a2_3]) (t := 42) ?hr ?_; (case hd => rfl); (case hg => rfl); (case hr => first | (go_simp; done) | (go_simp; rfl)); intro gb102 hg w7 hbox hb; have n0_ := Aside0.mk (blk_below (g := gb101) (o := .cells #[.string a1_0, .slice A1_1 l1_1.length c1_1, .string a1_2, .string a1_3] 40 (0, 0)) o3_ hb); have n1_ := Aside0.mk (below_step o2_ hb); have n2_ := Aside0.mk (hbox); have n3_ := Aside0.mk ((by rw [hg]; exact (below_size o2_) : w.heap.size ≤ gb102)); have n4_ := Aside0.mk ((by rw [hg]; exact (below_size o2_) : w.heap.size ≤ gb102)); have n5_ := Aside0.mk ((by rw [hg]; exact Nat.ne_of_lt (blk_lt (g := gb101) (o := .cells #[.string a1_0, .slice A1_1 l1_1.length c1_1, .string a1_2, .string a1_3] 40 (0, 0)) o3_) : gb101 ≠ gb102)); have n6_ := Aside0.mk ((by rw [hg]; exact Nat.ne_of_gt (blk_lt (g := gb101) (o := .cells #[.string a1_0, .slice A1_1 l1_1.length c1_1, .string a1_2, .string a1_3] 40 (0, 0)) o3_) : gb102 ≠ gb101)); clear BK101; clear HB; have BK101 := n0_; have HB := n1_; have BK102 := n2_; have GW102 := n3_; have GE102 := n4_; have NB101_102 := n5_; have NB102_101 := n6_; clear n0_ n1_ n2_ n3_ n4_ n5_ n6_; clear hb hbox hg) | (go_at_call 10; (with_reducible refine (Ob.Gv.head.calls  t103 _ A4.out (HTAB_.out _ (by first | exact Below.refl _ _ | (with_reducible exact Aside0.out (by assumption)) | repeat (first | (with_reducible exact Aside0.out (by assumption)) | apply below_alloc | apply pw_below_drewN | apply below_drew1)))).mono ?_); rintro e w8 ⟨rfl, hb⟩; have n0_ := Aside0.mk (blk_below (g := gb101) (o := .cells #[.string a1_0, .slice A1_1 l1_1.length c1_1, .string a1_2, .string a1_3] 40 (0, 0)) o3_ hb); have n1_ := Aside0.mk (blk_below (g := gb102) (o := .cells #[.string a2_0, .int .i64 a2_1, .string a2_2, .string a2_3] 42 (0, 0)) o4_ hb); have n2_ := Aside0.mk (below_step o1_ hb); clear BK101; clear BK102; clear HB; have BK101 := n0_; have BK102 := n1_; have HB := n2_; clear n0_ n1_ n2_; (try clear hb); (try clear hb2); (try clear hk); (try clear hi))); go_upto_region 2 with (first | ((with_reducible refine gate_dst (N := 4) rfl ?_); (try (refine gate_guard (by rfl) ?_; dsimp only)); refine box_event ?hg (N := 4) ?hd (cs := #[.string a1_0, .slice A1_1 l1_1.length c1_1, .string a1_2, .string a1_3]) (t := 40) ?hr ?_; (case hd => rfl); (case hg => rfl); (case hr => first | (go_simp; done) | (go_simp; rfl)); intro gb101 hg w6 hbox hb; have n0_ := Aside0.mk (below_step bw_ hb); have n1_ := Aside0.mk (hbox); have n2_ := Aside0.mk ((by rw [hg]; exact (below_size bw_) : w.heap.size ≤ gb101)); have n3_ := Aside0.mk ((by rw [hg]; exact (below_size bw_) : w.heap.size ≤ gb101)); clear HB; have HB := n0_; have BK101 := n1_; have GW101 := n2_; have GE101 := n3_; clear n0_ n1_ n2_ n3_; clear hb hbox hg) | ((with_reducible refine gate_dst (N := 5) rfl ?_); (try (refine gate_guard (by rfl) ?_; dsimp only)); refine box_event ?hg (N := 5) ?hd (cs := #[.string a2_0, .int .i64 a2_1, .string a2_2, .string a2_3]) (t := 42) ?hr ?_; (case hd => rfl); (case hg => rfl); (case hr => first | (go_simp; done) | (go_simp; rfl)); intro gb102 hg w7 hbox hb; have n0_ := Aside0.mk (blk_below (g := gb101) (o := .cells #[.string a1_0, .slice A1_1 l1_1.length c1_1, .string a1_2, .string a1_3] 40 (0, 0)) o3_ hb); have n1_ := Aside0.mk (below_step o2_ hb); have n2_ := Aside0.mk (hbox); have n3_ := Aside0.mk ((by rw [hg]; exact (below_size o2_) : w.heap.size ≤ gb102)); have n4_ := Aside0.mk ((by rw [hg]; exact (below_size o2_) : w.heap.size ≤ gb102)); have n5_ := Aside0.mk ((by rw [hg]; exact Nat.ne_of_lt (blk_lt (g := gb101) (o := .cells #[.string a1_0, .slice A1_1 l1_1.length c1_1, .string a1_2, .string a1_3] 40 (0, 0)) o3_) : gb101 ≠ gb102)); have n6_ := Aside0.mk ((by rw [hg]; exact Nat.ne_of_gt (blk_lt (g := gb101) (o := .cells #[.string a1_0, .slice A1_1 l1_1.length c1_1, .string a1_2, .string a1_3] 40 (0, 0)) o3_) : gb102 ≠ gb101)); clear BK101; clear HB; have BK101 := n0_; have HB := n1_; have BK102 := n2_; have GW102 := n3_; have GE102 := n4_; have NB101_102 := n5_; have NB102_101 := n6_; clear n0_ n1_ n2_ n3_ n4_ n5_ n6_; clear hb hbox hg) | (go_at_call 10; (with_reducible refine (Ob.Gv.head.calls  t103 _ A4.out (HTAB_.out _ (by first | exact Below.refl _ _ | (with_reducible exact Aside0.out (by assumption)) | repeat (first | (with_reducible exact Aside0.out (by assumption)) | apply below_alloc | apply pw_below_drewN | apply below_drew1)))).mono ?_); rintro e w8 ⟨rfl, hb⟩; have n0_ := Aside0.mk (blk_below (g := gb101) (o := .cells #[.string a1_0, .slice A1_1 l1_1.length c1_1, .string a1_2, .string a1_3] 40 (0, 0)) o3_ hb); have n1_ := Aside0.mk (blk_below (g := gb102) (o := .cells #[.string a2_0, .int .i64 a2_1, .string a2_2, .string a2_3] 42 (0, 0)) o4_ hb); have n2_ := Aside0.mk (below_step o1_ hb); clear BK101; clear BK102; clear HB; have BK101 := n0_; have BK102 := n1_; have HB := n2_; clear n0_ n1_ n2_; (try clear hb); (try clear hb2); (try clear hk); (try clear hi))))
 (try simp only [Act.put, List.setIfInBounds_toArray, List.set_cons_zero, List.set_cons_succ])
 go_cut [39] (fun v39 wc => ∃ (kq : Nat) (x39_4 : Bool), v39 = .bool x39_4 ∧ Aside0 (w04_ObjectWants.j0 kq l0 t103 x39_4 a1_0 l1_1 a1_2 a1_3 a2_0 a2_1 a2_2 a2_3 = some r) ∧ Aside0 (kq ≤ k) ∧ Aside0 (wc.heap[gb101]? = some (.cells #[.string a1_0, (.slice A1_1 l1_1.length c1_1), .string a1_2, .string a1_3] 40 (0, 0))) ∧ Aside0 (wc.heap[gb102]? = some (.cells #[.string a2_0, .int .i64 a2_1, .string a2_2, .string a2_3] 42 (0, 0))) ∧ Aside0 (Below w.heap.size w wc))
 case first =>
  have H := HC5.out
  clear HC5
  replace H := Option.bind_eq_some_iff.mp H
  obtain ⟨t104, A90, H⟩ := H
  replace H : (if t104 = true then (w04_ObjectWants.j0 k l0 t103 true a1_0 l1_1 a1_2 a1_3 a2_0 a2_1 a2_2 a2_3) else ((PObBase.w04_GreatChange.f k a1_0 l1_1 a1_2 a1_3).bind fun t105 => (if t105 = true then (w04_ObjectWants.j0 k l0 t103 true a1_0 l1_1 a1_2 a1_3 a2_0 a2_1 a2_2 a2_3) else (w04_ObjectWants.j0 k l0 t103 (decide ((wrap64 ((wrap64 ((a2_0.size : Int) + (a2_2.size : Int))) + (a2_3.size : Int))) > 9000)) a1_0 l1_1 a1_2 a1_3 a2_0 a2_1 a2_2 a2_3)))) = some r := H
  have A9 := Aside0.mk A90
  clear A90
  by_cases c10 : t104 = true
  ·
   as_aux_lemma =>
   subst c10
   have H1 : (w04_ObjectWants.j0 k l0 t103 true a1_0 l1_1 a1_2 a1_3 a2_0 a2_1 a2_2 a2_3) = some r := by rw [if_pos rfl] at H; exact H
   clear H
   have H := H1
   clear H1
   have H' := Aside0.mk H
   clear H
   go_wp2_with (first | (go_at_call 18; (with_reducible refine (PObBase.w04_GreatItems.calls k _ _ l0 true _ ?side1 ?side2 A9.out).mono ?_); (case side1 => repeat (first | exact (Kd.C_below HR0.out HB.out) | (with_reducible refine Kd.C_alloc ?_ _) | (with_reducible refine Kd.C_drewN ?_ _) | (with_reducible refine Kd.C_drew ?_))); (case side2 => exact HC0.out); rintro e w11 ⟨rfl, hb⟩; have n0_ := Aside0.mk (blk_below (g := gb101) (o := .cells #[.string a1_0, .slice A1_1 l1_1.length c1_1, .string a1_2, .string a1_3] 40 (0, 0)) o3_ hb); have n1_ := Aside0.mk (blk_below (g := gb102) (o := .cells #[.string a2_0, .int .i64 a2_1, .string a2_2, .string a2_3] 42 (0, 0)) o4_ hb); have n2_ := Aside0.mk (below_step o1_ hb); clear BK101; clear BK102; clear HB; have BK101 := n0_; have BK102 := n1_; have HB := n2_; clear n0_ n1_ n2_; (try clear hb); (try clear hb2); (try clear hk); (try clear hi)))
   repeat (go_quiet (first | (go_at_call 18; (with_reducible refine (PObBase.w04_GreatItems.calls k _ _ l0 true _ ?side1 ?side2 A9.out).mono ?_); (case side1 => repeat (first | exact (Kd.C_below HR0.out HB.out) | (with_reducible refine Kd.C_alloc ?_ _) | (with_reducible refine Kd.C_drewN ?_ _) | (with_reducible refine Kd.C_drew ?_))); (case side2 => exact HC0.out); rintro e w11 ⟨rfl, hb⟩; have n0_ := Aside0.mk (blk_below (g := gb101) (o := .cells #[.string a1_0, .slice A1_1 l1_1.length c1_1, .string a1_2, .string a1_3] 40 (0, 0)) o3_ hb); have n1_ := Aside0.mk (blk_below (g := gb102) (o := .cells #[.string a2_0, .int .i64 a2_1, .string a2_2, .string a2_3] 42 (0, 0)) o4_ hb); have n2_ := Aside0.mk (below_step o1_ hb); clear BK101; clear BK102; clear HB; have BK101 := n0_; have BK102 := n1_; have HB := n2_; clear n0_ n1_ n2_; (try clear hb); (try clear hb2); (try clear hk); (try clear hi))); try go_wp2_with (first | (go_at_call 18; (with_reducible refine (PObBase.w04_GreatItems.calls k _ _ l0 true _ ?side1 ?side2 A9.out).mono ?_); (case side1 => repeat (first | exact (Kd.C_below HR0.out HB.out) | (with_reducible refine Kd.C_alloc ?_ _) | (with_reducible refine Kd.C_drewN ?_ _) | (with_reducible refine Kd.C_drew ?_))); (case side2 => exact HC0.out); rintro e w11 ⟨rfl, hb⟩; have n0_ := Aside0.mk (blk_below (g := gb101) (o := .cells #[.string a1_0, .slice A1_1 l1_1.length c1_1, .string a1_2, .string a1_3] 40 (0, 0)) o3_ hb); have n1_ := Aside0.mk (blk_below (g := gb102) (o := .cells #[.string a2_0, .int .i64 a2_1, .string a2_2, .string a2_3] 42 (0, 0)) o4_ hb); have n2_ := Aside0.mk (below_step o1_ hb); clear BK101; clear BK102; clear HB; have BK101 := n0_; have BK102 := n1_; have HB := n2_; clear n0_ n1_ n2_; (try clear hb); (try clear hb2); (try clear hk); (try clear hi))))
   go_meet
   case rel => exact ⟨_, (true), sd_, H', ⟨by first | omega | exact Nat.le_refl _⟩, ⟨o3_⟩, ⟨o4_⟩, ⟨o1_⟩⟩
  ·
   as_aux_lemma =>
   replace c10 := Bool.eq_false_iff.mpr c10
   subst c10
   have H1 : ((PObBase.w04_GreatChange.f k a1_0 l1_1 a1_2 a1_3).bind fun t105 => (if t105 = true then (w04_ObjectWants.j0 k l0 t103 true a1_0 l1_1 a1_2 a1_3 a2_0 a2_1 a2_2 a2_3) else (w04_ObjectWants.j0 k l0 t103 (decide ((wrap64 ((wrap64 ((a2_0.size : Int) + (a2_2.size : Int))) + (a2_3.size : Int))) > 9000)) a1_0 l1_1 a1_2 a1_3 a2_0 a2_1 a2_2 a2_3))) = some r := by rw [if_neg (show ¬ (false = true) by decide)] at H; exact H
   clear H
   have H := H1
   clear H1
   replace H := Option.bind_eq_some_iff.mp H
   obtain ⟨t105, A120, H⟩ := H
   replace H : (if t105 = true then (w04_ObjectWants.j0 k l0 t103 true a1_0 l1_1 a1_2 a1_3 a2_0 a2_1 a2_2 a2_3) else (w04_ObjectWants.j0 k l0 t103 (decide ((wrap64 ((wrap64 ((a2_0.size : Int) + (a2_2.size : Int))) + (a2_3.size : Int))) > 9000)) a1_0 l1_1 a1_2 a1_3 a2_0 a2_1 a2_2 a2_3)) = some r := H
   have A12 := Aside0.mk A120
   clear A120
   by_cases c13 : t105 = true
   ·
    as_aux_lemma =>
    subst c13
    have H1 : (w04_ObjectWants.j0 k l0 t103 true a1_0 l1_1 a1_2 a1_3 a2_0 a2_1 a2_2 a2_3) = some r := by rw [if_pos rfl] at H; exact H
    clear H
    have H := H1
    clear H1
    have H' := Aside0.mk H
    clear H
    go_wp2_with (first | (go_at_call 18; (with_reducible refine (PObBase.w04_GreatItems.calls k _ _ l0 false _ ?side1 ?side2 A9.out).mono ?_); (case side1 => repeat (first | exact (Kd.C_below HR0.out HB.out) | (with_reducible refine Kd.C_alloc ?_ _) | (with_reducible refine Kd.C_drewN ?_ _) | (with_reducible refine Kd.C_drew ?_))); (case side2 => exact HC0.out); rintro e w14 ⟨rfl, hb⟩; have n0_ := Aside0.mk (blk_below (g := gb101) (o := .cells #[.string a1_0, .slice A1_1 l1_1.length c1_1, .string a1_2, .string a1_3] 40 (0, 0)) o3_ hb); have n1_ := Aside0.mk (blk_below (g := gb102) (o := .cells #[.string a2_0, .int .i64 a2_1, .string a2_2, .string a2_3] 42 (0, 0)) o4_ hb); have n2_ := Aside0.mk (below_step o1_ hb); clear BK101; clear BK102; clear HB; have BK101 := n0_; have BK102 := n1_; have HB := n2_; clear n0_ n1_ n2_; (try clear hb); (try clear hb2); (try clear hk); (try clear hi); have hnb15 := NB101_102.out; have hnc15 := NB102_101.out; have hcz16_0 : w14.cell? ⟨gb101, 0, none⟩ = some (.string a1_0) := (blk_cell BK101.out 0).trans rfl; have hcz16_1 : w14.cell? ⟨gb101, 1, none⟩ = some (.slice A1_1 l1_1.length c1_1) := (blk_cell BK101.out 1).trans rfl; have hcz16_2 : w14.cell? ⟨gb101, 2, none⟩ = some (.string a1_2) := (blk_cell BK101.out 2).trans rfl; have hcz16_3 : w14.cell? ⟨gb101, 3, none⟩ = some (.string a1_3) := (blk_cell BK101.out 3).trans rfl; have hfz16_0 := blk_frozen BK101.out 0; have hfz16_1 := blk_frozen BK101.out 1; have hfz16_2 := blk_frozen BK101.out 2; have hfz16_3 := blk_frozen BK101.out 3) | (go_at_call 24; (with_reducible refine (PObBase.w04_GreatChange.calls k a1_0 _ _ l1_1 a1_2 a1_3 true _ ?side1 ?side2 A12.out).mono ?_); (case side1 => repeat (first | exact (Kd.C_below HR1_1.out HB.out) | (with_reducible refine Kd.C_alloc ?_ _) | (with_reducible refine Kd.C_drewN ?_ _) | (with_reducible refine Kd.C_drew ?_))); (case side2 => exact HC1_1.out); rintro e w17 ⟨rfl, hb⟩; have n0_ := Aside0.mk (blk_below (g := gb101) (o := .cells #[.string a1_0, .slice A1_1 l1_1.length c1_1, .string a1_2, .string a1_3] 40 (0, 0)) o3_ hb); have n1_ := Aside0.mk (blk_below (g := gb102) (o := .cells #[.string a2_0, .int .i64 a2_1, .string a2_2, .string a2_3] 42 (0, 0)) o4_ hb); have n2_ := Aside0.mk (below_step o1_ hb); clear BK101; clear BK102; clear HB; have BK101 := n0_; have BK102 := n1_; have HB := n2_; clear n0_ n1_ n2_; (try clear hb); (try clear hb2); (try clear hk); (try clear hi)))
    repeat (go_quiet (first | (go_at_call 18; (with_reducible refine (PObBase.w04_GreatItems.calls k _ _ l0 false _ ?side1 ?side2 A9.out).mono ?_); (case side1 => repeat (first | exact (Kd.C_below HR0.out HB.out) | (with_reducible refine Kd.C_alloc ?_ _) | (with_reducible refine Kd.C_drewN ?_ _) | (with_reducible refine Kd.C_drew ?_))); (case side2 => exact HC0.out); rintro e w14 ⟨rfl, hb⟩; have n0_ := Aside0.mk (blk_below (g := gb101) (o := .cells #[.string a1_0, .slice A1_1 l1_1.length c1_1, .string a1_2, .string a1_3] 40 (0, 0)) o3_ hb); have n1_ := Aside0.mk (blk_below (g := gb102) (o := .cells #[.string a2_0, .int .i64 a2_1, .string a2_2, .string a2_3] 42 (0, 0)) o4_ hb); have n2_ := Aside0.mk (below_step o1_ hb); clear BK101; clear BK102; clear HB; have BK101 := n0_; have BK102 := n1_; have HB := n2_; clear n0_ n1_ n2_; (try clear hb); (try clear hb2); (try clear hk); (try clear hi); have hnb15 := NB101_102.out; have hnc15 := NB102_101.out; have hcz16_0 : w14.cell? ⟨gb101, 0, none⟩ = some (.string a1_0) := (blk_cell BK101.out 0).trans rfl; have hcz16_1 : w14.cell? ⟨gb101, 1, none⟩ = some (.slice A1_1 l1_1.length c1_1) := (blk_cell BK101.out 1).trans rfl; have hcz16_2 : w14.cell? ⟨gb101, 2, none⟩ = some (.string a1_2) := (blk_cell BK101.out 2).trans rfl; have hcz16_3 : w14.cell? ⟨gb101, 3, none⟩ = some (.string a1_3) := (blk_cell BK101.out 3).trans rfl; have hfz16_0 := blk_frozen BK101.out 0; have hfz16_1 := blk_frozen BK101.out 1; have hfz16_2 := blk_frozen BK101.out 2; have hfz16_3 := blk_frozen BK101.out 3) | (go_at_call 24; (with_reducible refine (PObBase.w04_GreatChange.calls k a1_0 _ _ l1_1 a1_2 a1_3 true _ ?side1 ?side2 A12.out).mono ?_); (case side1 => repeat (first | exact (Kd.C_below HR1_1.out HB.out) | (with_reducible refine Kd.C_alloc ?_ _) | (with_reducible refine Kd.C_drewN ?_ _) | (with_reducible refine Kd.C_drew ?_))); (case side2 => exact HC1_1.out); rintro e w17 ⟨rfl, hb⟩; have n0_ := Aside0.mk (blk_below (g := gb101) (o := .cells #[.string a1_0, .slice A1_1 l1_1.length c1_1, .string a1_2, .string a1_3] 40 (0, 0)) o3_ hb); have n1_ := Aside0.mk (blk_below (g := gb102) (o := .cells #[.string a2_0, .int .i64 a2_1, .string a2_2, .string a2_3] 42 (0, 0)) o4_ hb); have n2_ := Aside0.mk (below_step o1_ hb); clear BK101; clear BK102; clear HB; have BK101 := n0_; have BK102 := n1_; have HB := n2_; clear n0_ n1_ n2_; (try clear hb); (try clear hb2); (try clear hk); (try clear hi))); try go_wp2_with (first | (go_at_call 18; (with_reducible refine (PObBase.w04_GreatItems.calls k _ _ l0 false _ ?side1 ?side2 A9.out).mono ?_); (case side1 => repeat (first | exact (Kd.C_below HR0.out HB.out) | (with_reducible refine Kd.C_alloc ?_ _) | (with_reducible refine Kd.C_drewN ?_ _) | (with_reducible refine Kd.C_drew ?_))); (case side2 => exact HC0.out); rintro e w14 ⟨rfl, hb⟩; have n0_ := Aside0.mk (blk_below (g := gb101) (o := .cells #[.string a1_0, .slice A1_1 l1_1.length c1_1, .string a1_2, .string a1_3] 40 (0, 0)) o3_ hb); have n1_ := Aside0.mk (blk_below (g := gb102) (o := .cells #[.string a2_0, .int .i64 a2_1, .string a2_2, .string a2_3] 42 (0, 0)) o4_ hb); have n2_ := Aside0.mk (below_step o1_ hb); clear BK101; clear BK102; clear HB; have BK101 := n0_; have BK102 := n1_; have HB := n2_; clear n0_ n1_ n2_; (try clear hb); (try clear hb2); (try clear hk); (try clear hi); have hnb15 := NB101_102.out; have hnc15 := NB102_101.out; have hcz16_0 : w14.cell? ⟨gb101, 0, none⟩ = some (.string a1_0) := (blk_cell BK101.out 0).trans rfl; have hcz16_1 : w14.cell? ⟨gb101, 1, none⟩ = some (.slice A1_1 l1_1.length c1_1) := (blk_cell BK101.out 1).trans rfl; have hcz16_2 : w14.cell? ⟨gb101, 2, none⟩ = some (.string a1_2) := (blk_cell BK101.out 2).trans rfl; have hcz16_3 : w14.cell? ⟨gb101, 3, none⟩ = some (.string a1_3) := (blk_cell BK101.out 3).trans rfl; have hfz16_0 := blk_frozen BK101.out 0; have hfz16_1 := blk_frozen BK101.out 1; have hfz16_2 := blk_frozen BK101.out 2; have hfz16_3 := blk_frozen BK101.out 3) | (go_at_call 24; (with_reducible refine (PObBase.w04_GreatChange.calls k a1_0 _ _ l1_1 a1_2 a1_3 true _ ?side1 ?side2 A12.out).mono ?_); (case side1 => repeat (first | exact (Kd.C_below HR1_1.out HB.out) | (with_reducible refine Kd.C_alloc ?_ _) | (with_reducible refine Kd.C_drewN ?_ _) | (with_reducible refine Kd.C_drew ?_))); (case side2 => exact HC1_1.out); rintro e w17 ⟨rfl, hb⟩; have n0_ := Aside0.mk (blk_below (g := gb101) (o := .cells #[.string a1_0, .slice A1_1 l1_1.length c1_1, .string a1_2, .string a1_3] 40 (0, 0)) o3_ hb); have n1_ := Aside0.mk (blk_below (g := gb102) (o := .cells #[.string a2_0, .int .i64 a2_1, .string a2_2, .string a2_3] 42 (0, 0)) o4_ hb); have n2_ := Aside0.mk (below_step o1_ hb); clear BK101; clear BK102; clear HB; have BK101 := n0_; have BK102 := n1_; have HB := n2_; clear n0_ n1_ n2_; (try clear hb); (try clear hb2); (try clear hk); (try clear hi))))
    go_meet
    case rel => exact ⟨_, (true), sd_, H', ⟨by first | omega | exact Nat.le_refl _⟩, ⟨o3_⟩, ⟨o4_⟩, ⟨o1_⟩⟩
   ·
    as_aux_lemma =>
    replace c13 := Bool.eq_false_iff.mpr c13
    subst c13
    have H1 : (w04_ObjectWants.j0 k l0 t103 (decide ((wrap64 ((wrap64 ((a2_0.size : Int) + (a2_2.size : Int))) + (a2_3.size : Int))) > 9000)) a1_0 l1_1 a1_2 a1_3 a2_0 a2_1 a2_2 a2_3) = some r := by rw [if_neg (show ¬ (false = true) by decide)] at H; exact H
    clear H
    have H := H1
    clear H1
    have H' := Aside0.mk H
    clear H
    go_wp2_with (first | (go_at_call 18; (with_reducible refine (PObBase.w04_GreatItems.calls k _ _ l0 false _ ?side1 ?side2 A9.out).mono ?_); (case side1 => repeat (first | exact (Kd.C_below HR0.out HB.out) | (with_reducible refine Kd.C_alloc ?_ _) | (with_reducible refine Kd.C_drewN ?_ _) | (with_reducible refine Kd.C_drew ?_))); (case side2 => exact HC0.out); rintro e w18 ⟨rfl, hb⟩; have n0_ := Aside0.mk (blk_below (g := gb101) (o := .cells #[.string a1_0, .slice A1_1 l1_1.length c1_1, .string a1_2, .string a1_3] 40 (0, 0)) o3_ hb); have n1_ := Aside0.mk (blk_below (g := gb102) (o := .cells #[.string a2_0, .int .i64 a2_1, .string a2_2, .string a2_3] 42 (0, 0)) o4_ hb); have n2_ := Aside0.mk (below_step o1_ hb); clear BK101; clear BK102; clear HB; have BK101 := n0_; have BK102 := n1_; have HB := n2_; clear n0_ n1_ n2_; (try clear hb); (try clear hb2); (try clear hk); (try clear hi); have hnb19 := NB101_102.out; have hnc19 := NB102_101.out; have hcz20_0 : w18.cell? ⟨gb101, 0, none⟩ = some (.string a1_0) := (blk_cell BK101.out 0).trans rfl; have hcz20_1 : w18.cell? ⟨gb101, 1, none⟩ = some (.slice A1_1 l1_1.length c1_1) := (blk_cell BK101.out 1).trans rfl; have hcz20_2 : w18.cell? ⟨gb101, 2, none⟩ = some (.string a1_2) := (blk_cell BK101.out 2).trans rfl; have hcz20_3 : w18.cell? ⟨gb101, 3, none⟩ = some (.string a1_3) := (blk_cell BK101.out 3).trans rfl; have hfz20_0 := blk_frozen BK101.out 0; have hfz20_1 := blk_frozen BK101.out 1; have hfz20_2 := blk_frozen BK101.out 2; have hfz20_3 := blk_frozen BK101.out 3) | (go_at_call 24; (with_reducible refine (PObBase.w04_GreatChange.calls k a1_0 _ _ l1_1 a1_2 a1_3 false _ ?side1 ?side2 A12.out).mono ?_); (case side1 => repeat (first | exact (Kd.C_below HR1_1.out HB.out) | (with_reducible refine Kd.C_alloc ?_ _) | (with_reducible refine Kd.C_drewN ?_ _) | (with_reducible refine Kd.C_drew ?_))); (case side2 => exact HC1_1.out); rintro e w21 ⟨rfl, hb⟩; have n0_ := Aside0.mk (blk_below (g := gb101) (o := .cells #[.string a1_0, .slice A1_1 l1_1.length c1_1, .string a1_2, .string a1_3] 40 (0, 0)) o3_ hb); have n1_ := Aside0.mk (blk_below (g := gb102) (o := .cells #[.string a2_0, .int .i64 a2_1, .string a2_2, .string a2_3] 42 (0, 0)) o4_ hb); have n2_ := Aside0.mk (below_step o1_ hb); clear BK101; clear BK102; clear HB; have BK101 := n0_; have BK102 := n1_; have HB := n2_; clear n0_ n1_ n2_; (try clear hb); (try clear hb2); (try clear hk); (try clear hi); have hcz22_0 : w21.cell? ⟨gb102, 0, none⟩ = some (.string a2_0) := (blk_cell BK102.out 0).trans rfl; have hcz22_1 : w21.cell? ⟨gb102, 1, none⟩ = some (.int .i64 a2_1) := (blk_cell BK102.out 1).trans rfl; have hcz22_2 : w21.cell? ⟨gb102, 2, none⟩ = some (.string a2_2) := (blk_cell BK102.out 2).trans rfl; have hcz22_3 : w21.cell? ⟨gb102, 3, none⟩ = some (.string a2_3) := (blk_cell BK102.out 3).trans rfl; have hfz22_0 := blk_frozen BK102.out 0; have hfz22_1 := blk_frozen BK102.out 1; have hfz22_2 := blk_frozen BK102.out 2; have hfz22_3 := blk_frozen BK102.out 3))
    repeat (go_quiet (first | (go_at_call 18; (with_reducible refine (PObBase.w04_GreatItems.calls k _ _ l0 false _ ?side1 ?side2 A9.out).mono ?_); (case side1 => repeat (first | exact (Kd.C_below HR0.out HB.out) | (with_reducible refine Kd.C_alloc ?_ _) | (with_reducible refine Kd.C_drewN ?_ _) | (with_reducible refine Kd.C_drew ?_))); (case side2 => exact HC0.out); rintro e w18 ⟨rfl, hb⟩; have n0_ := Aside0.mk (blk_below (g := gb101) (o := .cells #[.string a1_0, .slice A1_1 l1_1.length c1_1, .string a1_2, .string a1_3] 40 (0, 0)) o3_ hb); have n1_ := Aside0.mk (blk_below (g := gb102) (o := .cells #[.string a2_0, .int .i64 a2_1, .string a2_2, .string a2_3] 42 (0, 0)) o4_ hb); have n2_ := Aside0.mk (below_step o1_ hb); clear BK101; clear BK102; clear HB; have BK101 := n0_; have BK102 := n1_; have HB := n2_; clear n0_ n1_ n2_; (try clear hb); (try clear hb2); (try clear hk); (try clear hi); have hnb19 := NB101_102.out; have hnc19 := NB102_101.out; have hcz20_0 : w18.cell? ⟨gb101, 0, none⟩ = some (.string a1_0) := (blk_cell BK101.out 0).trans rfl; have hcz20_1 : w18.cell? ⟨gb101, 1, none⟩ = some (.slice A1_1 l1_1.length c1_1) := (blk_cell BK101.out 1).trans rfl; have hcz20_2 : w18.cell? ⟨gb101, 2, none⟩ = some (.string a1_2) := (blk_cell BK101.out 2).trans rfl; have hcz20_3 : w18.cell? ⟨gb101, 3, none⟩ = some (.string a1_3) := (blk_cell BK101.out 3).trans rfl; have hfz20_0 := blk_frozen BK101.out 0; have hfz20_1 := blk_frozen BK101.out 1; have hfz20_2 := blk_frozen BK101.out 2; have hfz20_3 := blk_frozen BK101.out 3) | (go_at_call 24; (with_reducible refine (PObBase.w04_GreatChange.calls k a1_0 _ _ l1_1 a1_2 a1_3 false _ ?side1 ?side2 A12.out).mono ?_); (case side1 => repeat (first | exact (Kd.C_below HR1_1.out HB.out) | (with_reducible refine Kd.C_alloc ?_ _) | (with_reducible refine Kd.C_drewN ?_ _) | (with_reducible refine Kd.C_drew ?_))); (case side2 => exact HC1_1.out); rintro e w21 ⟨rfl, hb⟩; have n0_ := Aside0.mk (blk_below (g := gb101) (o := .cells #[.string a1_0, .slice A1_1 l1_1.length c1_1, .string a1_2, .string a1_3] 40 (0, 0)) o3_ hb); have n1_ := Aside0.mk (blk_below (g := gb102) (o := .cells #[.string a2_0, .int .i64 a2_1, .string a2_2, .string a2_3] 42 (0, 0)) o4_ hb); have n2_ := Aside0.mk (below_step o1_ hb); clear BK101; clear BK102; clear HB; have BK101 := n0_; have BK102 := n1_; have HB := n2_; clear n0_ n1_ n2_; (try clear hb); (try clear hb2); (try clear hk); (try clear hi); have hcz22_0 : w21.cell? ⟨gb102, 0, none⟩ = some (.string a2_0) := (blk_cell BK102.out 0).trans rfl; have hcz22_1 : w21.cell? ⟨gb102, 1, none⟩ = some (.int .i64 a2_1) := (blk_cell BK102.out 1).trans rfl; have hcz22_2 : w21.cell? ⟨gb102, 2, none⟩ = some (.string a2_2) := (blk_cell BK102.out 2).trans rfl; have hcz22_3 : w21.cell? ⟨gb102, 3, none⟩ = some (.string a2_3) := (blk_cell BK102.out 3).trans rfl; have hfz22_0 := blk_frozen BK102.out 0; have hfz22_1 := blk_frozen BK102.out 1; have hfz22_2 := blk_frozen BK102.out 2; have hfz22_3 := blk_frozen BK102.out 3)); try go_wp2_with (first | (go_at_call 18; (with_reducible refine (PObBase.w04_GreatItems.calls k _ _ l0 false _ ?side1 ?side2 A9.out).mono ?_); (case side1 => repeat (first | exact (Kd.C_below HR0.out HB.out) | (with_reducible refine Kd.C_alloc ?_ _) | (with_reducible refine Kd.C_drewN ?_ _) | (with_reducible refine Kd.C_drew ?_))); (case side2 => exact HC0.out); rintro e w18 ⟨rfl, hb⟩; have n0_ := Aside0.mk (blk_below (g := gb101) (o := .cells #[.string a1_0, .slice A1_1 l1_1.length c1_1, .string a1_2, .string a1_3] 40 (0, 0)) o3_ hb); have n1_ := Aside0.mk (blk_below (g := gb102) (o := .cells #[.string a2_0, .int .i64 a2_1, .string a2_2, .string a2_3] 42 (0, 0)) o4_ hb); have n2_ := Aside0.mk (below_step o1_ hb); clear BK101; clear BK102; clear HB; have BK101 := n0_; have BK102 := n1_; have HB := n2_; clear n0_ n1_ n2_; (try clear hb); (try clear hb2); (try clear hk); (try clear hi); have hnb19 := NB101_102.out; have hnc19 := NB102_101.out; have hcz20_0 : w18.cell? ⟨gb101, 0, none⟩ = some (.string a1_0) := (blk_cell BK101.out 0).trans rfl; have hcz20_1 : w18.cell? ⟨gb101, 1, none⟩ = some (.slice A1_1 l1_1.length c1_1) := (blk_cell BK101.out 1).trans rfl; have hcz20_2 : w18.cell? ⟨gb101, 2, none⟩ = some (.string a1_2) := (blk_cell BK101.out 2).trans rfl; have hcz20_3 : w18.cell? ⟨gb101, 3, none⟩ = some (.string a1_3) := (blk_cell BK101.out 3).trans rfl; have hfz20_0 := blk_frozen BK101.out 0; have hfz20_1 := blk_frozen BK101.out 1; have hfz20_2 := blk_frozen BK101.out 2; have hfz20_3 := blk_frozen BK101.out 3) | (go_at_call 24; (with_reducible refine (PObBase.w04_GreatChange.calls k a1_0 _ _ l1_1 a1_2 a1_3 false _ ?side1 ?side2 A12.out).mono ?_); (case side1 => repeat (first | exact (Kd.C_below HR1_1.out HB.out) | (with_reducible refine Kd.C_alloc ?_ _) | (with_reducible refine Kd.C_drewN ?_ _) | (with_reducible refine Kd.C_drew ?_))); (case side2 => exact HC1_1.out); rintro e w21 ⟨rfl, hb⟩; have n0_ := Aside0.mk (blk_below (g := gb101) (o := .cells #[.string a1_0, .slice A1_1 l1_1.length c1_1, .string a1_2, .string a1_3] 40 (0, 0)) o3_ hb); have n1_ := Aside0.mk (blk_below (g := gb102) (o := .cells #[.string a2_0, .int .i64 a2_1, .string a2_2, .string a2_3] 42 (0, 0)) o4_ hb); have n2_ := Aside0.mk (below_step o1_ hb); clear BK101; clear BK102; clear HB; have BK101 := n0_; have BK102 := n1_; have HB := n2_; clear n0_ n1_ n2_; (try clear hb); (try clear hb2); (try clear hk); (try clear hi); have hcz22_0 : w21.cell? ⟨gb102, 0, none⟩ = some (.string a2_0) := (blk_cell BK102.out 0).trans rfl; have hcz22_1 : w21.cell? ⟨gb102, 1, none⟩ = some (.int .i64 a2_1) := (blk_cell BK102.out 1).trans rfl; have hcz22_2 : w21.cell? ⟨gb102, 2, none⟩ = some (.string a2_2) := (blk_cell BK102.out 2).trans rfl; have hcz22_3 : w21.cell? ⟨gb102, 3, none⟩ = some (.string a2_3) := (blk_cell BK102.out 3).trans rfl; have hfz22_0 := blk_frozen BK102.out 0; have hfz22_1 := blk_frozen BK102.out 1; have hfz22_2 := blk_frozen BK102.out 2; have hfz22_3 := blk_frozen BK102.out 3)))
    go_meet
    case rel => exact ⟨_, (decide ((wrap64 ((wrap64 ((a2_0.size : Int) + (a2_2.size : Int))) + (a2_3.size : Int))) > 9000)), sd_, H', ⟨by first | omega | exact Nat.le_refl _⟩, ⟨o3_⟩, ⟨o4_⟩, ⟨o1_⟩⟩
 case rest =>
  clear HC5
  try clear c1
  try clear p2
  try clear p6
  try clear c9
  try clear c10
  try clear c13
  try clear c15
  try clear c19
  try clear hcz16_0
  try clear hcz16_1
  try clear hcz16_2
  try clear hcz16_3
  try clear hcz20_0
  try clear hcz20_1
  try clear hcz20_2
  try clear hcz20_3
  try clear hcz22_0
  try clear hcz22_1
  try clear hcz22_2
  try clear hcz22_3
  try clear hfz16_0
  try clear hfz16_1
  try clear hfz16_2
  try clear hfz16_3
  try clear hfz20_0
  try clear hfz20_1
  try clear hfz20_2
  try clear hfz20_3
  try clear hfz22_0
  try clear hfz22_1
  try clear hfz22_2
  try clear hfz22_3
  obtain ⟨kq, x39_4, rfl, HA, HJ4, BK101, BK102, HB⟩ := hcut
  cases kq with
  | zero => exact absurd HA.out (by simp [w04_ObjectWants.j0])
  | succ kj4 =>
   have H := HA.out
   clear HA
   simp only [w04_ObjectWants.j0] at H
   by_cases c23 : x39_4 = true
   ·
    as_aux_lemma =>
    subst c23
    have H1 : (some t103) = some r := by rw [if_pos rfl] at H; exact H
    clear H
    have H := H1
    clear H1
    obtain rfl := Option.some.inj H
    go_wp2
    repeat (go_quiet (fail); try go_wp2)
    go_ret
    exact ⟨er_, o1_⟩
   ·
    as_aux_lemma =>
    replace c23 := Bool.eq_false_iff.mpr c23
    subst c23
    have H1 : ((Ob.Gv.putTree.f l0).bind fun bt106 => ((Ob.Gv.wants.f 2 bt106.1).bind fun t108 => (if bt106.2 = true then (w04_ObjectWants.j1 kj4 l0 t103 t108 (decide ((bt106.1.size : Int) ≤ 65536)) a1_0 l1_1 a1_2 a1_3 a2_0 a2_1 a2_2 a2_3) else (w04_ObjectWants.j1 kj4 l0 t103 t108 false a1_0 l1_1 a1_2 a1_3 a2_0 a2_1 a2_2 a2_3)))) = some r := by rw [if_neg (show ¬ (false = true) by decide)] at H; exact H
    clear H
    have H := H1
    clear H1
    replace H := Option.bind_eq_some_iff.mp H
    obtain ⟨⟨t106, t107⟩, A240, H⟩ := H
    replace H : ((Ob.Gv.wants.f 2 t106).bind fun t108 => (if t107 = true then (w04_ObjectWants.j1 kj4 l0 t103 t108 (decide ((t106.size : Int) ≤ 65536)) a1_0 l1_1 a1_2 a1_3 a2_0 a2_1 a2_2 a2_3) else (w04_ObjectWants.j1 kj4 l0 t103 t108 false a1_0 l1_1 a1_2 a1_3 a2_0 a2_1 a2_2 a2_3))) = some r := H
    have A24 := Aside0.mk A240
    clear A240
    replace H := Option.bind_eq_some_iff.mp H
    obtain ⟨t108, A250, H⟩ := H
    replace H : (if t107 = true then (w04_ObjectWants.j1 kj4 l0 t103 t108 (decide ((t106.size : Int) ≤ 65536)) a1_0 l1_1 a1_2 a1_3 a2_0 a2_1 a2_2 a2_3) else (w04_ObjectWants.j1 kj4 l0 t103 t108 false a1_0 l1_1 a1_2 a1_3 a2_0 a2_1 a2_2 a2_3)) = some r := H
    have A25 := Aside0.mk A250
    clear A250
    have HC26 := Aside0.mk H
    clear H
    go_upto_region 6 with (first | (go_at_call 19; (with_reducible refine (Ob.Gv.putTree.calls _ _ l0 t106 t107 _ ?side1 ?side2 A24.out (HTAB_.out _ (by first | exact Below.refl _ _ | (with_reducible exact Aside0.out (by assumption)) | repeat (first | (with_reducible exact Aside0.out (by assumption)) | apply below_alloc | apply pw_below_drewN | apply below_drew1)))).mono ?_); (case side1 => repeat (first | exact (Kd.C_below HR0.out HB.out) | (with_reducible refine Kd.C_alloc ?_ _) | (with_reducible refine Kd.C_drewN ?_ _) | (with_reducible refine Kd.C_drew ?_))); (case side2 => exact HC0.out); rintro e w27 ⟨rfl, hb⟩; have n0_ := Aside0.mk (blk_below (g := gb101) (o := .cells #[.string a1_0, .slice A1_1 l1_1.length c1_1, .string a1_2, .string a1_3] 40 (0, 0)) o3_ hb); have n1_ := Aside0.mk (blk_below (g := gb102) (o := .cells #[.string a2_0, .int .i64 a2_1, .string a2_2, .string a2_3] 42 (0, 0)) o4_ hb); have n2_ := Aside0.mk (below_step o1_ hb); clear BK101; clear BK102; clear HB; have BK101 := n0_; have BK102 := n1_; have HB := n2_; clear n0_ n1_ n2_; (try clear hb); (try clear hb2); (try clear hk); (try clear hi)) | (go_at_call 16; (with_reducible refine (Ob.Gv.wants.calls 2 t106 t108 _ A25.out (HTAB_.out _ (by first | exact Below.refl _ _ | (with_reducible exact Aside0.out (by assumption)) | repeat (first | (with_reducible exact Aside0.out (by assumption)) | apply below_alloc | apply pw_below_drewN | apply below_drew1)))).mono ?_); rintro e w28 ⟨v109, rfl, ho0, hb⟩; have n0_ := Aside0.mk (Kd.R_lower ho0 (below_size o1_)); have n1_ := Aside0.mk (blk_below (g := gb101) (o := .cells #[.string a1_0, .slice A1_1 l1_1.length c1_1, .string a1_2, .string a1_3] 40 (0, 0)) o3_ hb); have n2_ := Aside0.mk (blk_below (g := gb102) (o := .cells #[.string a2_0, .int .i64 a2_1, .string a2_2, .string a2_3] 42 (0, 0)) o4_ hb); have n3_ := Aside0.mk (below_step o1_ hb); clear BK101; clear BK102; clear HB; have HO110 := n0_; have BK101 := n1_; have BK102 := n2_; have HB := n3_; clear n0_ n1_ n2_ n3_; (try clear hb); (try clear hb2); (try clear hk); (try clear hi); (try clear ho0)))
    repeat (go_quiet (first | (go_at_call 19; (with_reducible refine (Ob.Gv.putTree.calls _ _ l0 t106 t107 _ ?side1 ?side2 A24.out (HTAB_.out _ (by first | exact Below.refl _ _ | (with_reducible exact Aside0.out (by assumption)) | repeat (first | (with_reducible exact Aside0.out (by assumption)) | apply below_alloc | apply pw_below_drewN | apply below_drew1)))).mono ?_); (case side1 => repeat (first | exact (Kd.C_below HR0.out HB.out) | (with_reducible refine Kd.C_alloc ?_ _) | (with_reducible refine Kd.C_drewN ?_ _) | (with_reducible refine Kd.C_drew ?_))); (case side2 => exact HC0.out); rintro e w27 ⟨rfl, hb⟩; have n0_ := Aside0.mk (blk_below (g := gb101) (o := .cells #[.string a1_0, .slice A1_1 l1_1.length c1_1, .string a1_2, .string a1_3] 40 (0, 0)) o3_ hb); have n1_ := Aside0.mk (blk_below (g := gb102) (o := .cells #[.string a2_0, .int .i64 a2_1, .string a2_2, .string a2_3] 42 (0, 0)) o4_ hb); have n2_ := Aside0.mk (below_step o1_ hb); clear BK101; clear BK102; clear HB; have BK101 := n0_; have BK102 := n1_; have HB := n2_; clear n0_ n1_ n2_; (try clear hb); (try clear hb2); (try clear hk); (try clear hi)) | (go_at_call 16; (with_reducible refine (Ob.Gv.wants.calls 2 t106 t108 _ A25.out (HTAB_.out _ (by first | exact Below.refl _ _ | (with_reducible exact Aside0.out (by assumption)) | repeat (first | (with_reducible exact Aside0.out (by assumption)) | apply below_alloc | apply pw_below_drewN | apply below_drew1)))).mono ?_); rintro e w28 ⟨v109, rfl, ho0, hb⟩; have n0_ := Aside0.mk (Kd.R_lower ho0 (below_size o1_)); have n1_ := Aside0.mk (blk_below (g := gb101) (o := .cells #[.string a1_0, .slice A1_1 l1_1.length c1_1, .string a1_2, .string a1_3] 40 (0, 0)) o3_ hb); have n2_ := Aside0.mk (blk_below (g := gb102) (o := .cells #[.string a2_0, .int .i64 a2_1, .string a2_2, .string a2_3] 42 (0, 0)) o4_ hb); have n3_ := Aside0.mk (below_step o1_ hb); clear BK101; clear BK102; clear HB; have HO110 := n0_; have BK101 := n1_; have BK102 := n2_; have HB := n3_; clear n0_ n1_ n2_ n3_; (try clear hb); (try clear hb2); (try clear hk); (try clear hi); (try clear ho0))); go_upto_region 6 with (first | (go_at_call 19; (with_reducible refine (Ob.Gv.putTree.calls _ _ l0 t106 t107 _ ?side1 ?side2 A24.out (HTAB_.out _ (by first | exact Below.refl _ _ | (with_reducible exact Aside0.out (by assumption)) | repeat (first | (with_reducible exact Aside0.out (by assumption)) | apply below_alloc | apply pw_below_drewN | apply below_drew1)))).mono ?_); (case side1 => repeat (first | exact (Kd.C_below HR0.out HB.out) | (with_reducible refine Kd.C_alloc ?_ _) | (with_reducible refine Kd.C_drewN ?_ _) | (with_reducible refine Kd.C_drew ?_))); (case side2 => exact HC0.out); rintro e w27 ⟨rfl, hb⟩; have n0_ := Aside0.mk (blk_below (g := gb101) (o := .cells #[.string a1_0, .slice A1_1 l1_1.length c1_1, .string a1_2, .string a1_3] 40 (0, 0)) o3_ hb); have n1_ := Aside0.mk (blk_below (g := gb102) (o := .cells #[.string a2_0, .int .i64 a2_1, .string a2_2, .string a2_3] 42 (0, 0)) o4_ hb); have n2_ := Aside0.mk (below_step o1_ hb); clear BK101; clear BK102; clear HB; have BK101 := n0_; have BK102 := n1_; have HB := n2_; clear n0_ n1_ n2_; (try clear hb); (try clear hb2); (try clear hk); (try clear hi)) | (go_at_call 16; (with_reducible refine (Ob.Gv.wants.calls 2 t106 t108 _ A25.out (HTAB_.out _ (by first | exact Below.refl _ _ | (with_reducible exact Aside0.out (by assumption)) | repeat (first | (with_reducible exact Aside0.out (by assumption)) | apply below_alloc | apply pw_below_drewN | apply below_drew1)))).mono ?_); rintro e w28 ⟨v109, rfl, ho0, hb⟩; have n0_ := Aside0.mk (Kd.R_lower ho0 (below_size o1_)); have n1_ := Aside0.mk (blk_below (g := gb101) (o := .cells #[.string a1_0, .slice A1_1 l1_1.length c1_1, .string a1_2, .string a1_3] 40 (0, 0)) o3_ hb); have n2_ := Aside0.mk (blk_below (g := gb102) (o := .cells #[.string a2_0, .int .i64 a2_1, .string a2_2, .string a2_3] 42 (0, 0)) o4_ hb); have n3_ := Aside0.mk (below_step o1_ hb); clear BK101; clear BK102; clear HB; have HO110 := n0_; have BK101 := n1_; have BK102 := n2_; have HB := n3_; clear n0_ n1_ n2_ n3_; (try clear hb); (try clear hb2); (try clear hk); (try clear hi); (try clear ho0))))
    (try simp only [Act.put, List.setIfInBounds_toArray, List.set_cons_zero, List.set_cons_succ])
    go_cut [54] (fun v54 wc => ∃ (kq : Nat) (x54_25 : Bool), v54 = .bool x54_25 ∧ Aside0 (w04_ObjectWants.j1 kq l0 t103 t108 x54_25 a1_0 l1_1 a1_2 a1_3 a2_0 a2_1 a2_2 a2_3 = some r) ∧ Aside0 (kq ≤ kj4) ∧ Aside0 (Kd.R k58 58 wc w.heap.size (fun _ => True) v109 t108) ∧ Aside0 (wc.heap[gb101]? = some (.cells #[.string a1_0, (.slice A1_1 l1_1.length c1_1), .string a1_2, .string a1_3] 40 (0, 0))) ∧ Aside0 (wc.heap[gb102]? = some (.cells #[.string a2_0, .int .i64 a2_1, .string a2_2, .string a2_3] 42 (0, 0))) ∧ Aside0 (Below w.heap.size w wc))
    case first =>
     have H := HC26.out
     clear HC26
     by_cases c29 : t107 = true
     ·
      as_aux_lemma =>
      subst c29
      have H1 : (w04_ObjectWants.j1 kj4 l0 t103 t108 (decide ((t106.size : Int) ≤ 65536)) a1_0 l1_1 a1_2 a1_3 a2_0 a2_1 a2_2 a2_3) = some r := by rw [if_pos rfl] at H; exact H
      clear H
      have H := H1
      clear H1
      have H' := Aside0.mk H
      clear H
      go_wp2
      repeat (go_quiet (fail); try go_wp2)
      go_meet
      case rel => exact ⟨_, (decide ((t106.size : Int) ≤ 65536)), sd_, H', ⟨by have := HJ4.out; first | omega | exact Nat.le_refl _⟩, ⟨by (with_reducible repeat (first | apply Kd.R_alloc | apply Kd.R_drewN | apply Kd.R_drew)); exact HO110.out⟩, ⟨o3_⟩, ⟨o4_⟩, ⟨o1_⟩⟩
     ·
      as_aux_lemma =>
      replace c29 := Bool.eq_false_iff.mpr c29
      subst c29
      have H1 : (w04_ObjectWants.j1 kj4 l0 t103 t108 false a1_0 l1_1 a1_2 a1_3 a2_0 a2_1 a2_2 a2_3) = some r := by rw [if_neg (show ¬ (false = true) by decide)] at H; exact H
      clear H
      have H := H1
      clear H1
      have H' := Aside0.mk H
      clear H
      go_wp2
      repeat (go_quiet (fail); try go_wp2)
      go_meet
      case rel => exact ⟨_, (false), sd_, H', ⟨by have := HJ4.out; first | omega | exact Nat.le_refl _⟩, ⟨by (with_reducible repeat (first | apply Kd.R_alloc | apply Kd.R_drewN | apply Kd.R_drew)); exact HO110.out⟩, ⟨o3_⟩, ⟨o4_⟩, ⟨o1_⟩⟩
    case rest =>
     clear HC26
     try clear c1
     try clear c2
     try clear p2
     try clear p6
     try clear c9
     try clear c10
     try clear c13
     try clear c15
     try clear c19
     try clear c23
     try clear c29
     try clear hcz16_0
     try clear hcz16_1
     try clear hcz16_2
     try clear hcz16_3
     try clear hcz20_0
     try clear hcz20_1
     try clear hcz20_2
     try clear hcz20_3
     try clear hcz22_0
     try clear hcz22_1
     try clear hcz22_2
     try clear hcz22_3
     try clear hfz16_0
     try clear hfz16_1
     try clear hfz16_2
     try clear hfz16_3
     try clear hfz20_0
     try clear hfz20_1
     try clear hfz20_2
     try clear hfz20_3
     try clear hfz22_0
     try clear hfz22_1
     try clear hfz22_2
     try clear hfz22_3
     try clear p2
     try clear p6
     obtain ⟨kq, x54_25, rfl, HA, HJ25, HO_10, BK101, BK102, HB⟩ := hcut
     cases kq with
     | zero => exact absurd HA.out (by simp [w04_ObjectWants.j1])
     | succ kj25 =>
      have H := HA.out
      clear HA
      simp only [w04_ObjectWants.j1] at H
      have HC30 := Aside0.mk H
      clear H
      go_upto_if 54 with (fail)
      repeat (go_quiet (fail); go_upto_if 54 with (fail))
      go_cut [] (fun wc => ∃ (kq : Nat), Aside0 (w04_ObjectWants.j3 kq t103 a1_0 l1_1 a1_2 a1_3 a2_0 a2_1 a2_2 a2_3 = some r) ∧ Aside0 (kq ≤ kj25) ∧ Aside0 (wc.heap[gb101]? = some (.cells #[.string a1_0, (.slice A1_1 l1_1.length c1_1), .string a1_2, .string a1_3] 40 (0, 0))) ∧ Aside0 (wc.heap[gb102]? = some (.cells #[.string a2_0, .int .i64 a2_1, .string a2_2, .string a2_3] 42 (0, 0))) ∧ Aside0 (Below w.heap.size w wc))
      case first =>
       have H := HC30.out
       clear HC30
       by_cases c31 : x54_25 = true
       ·
        as_aux_lemma =>
        subst c31
        have H1 : (if (t108.length : Int) = (l0.length : Int) then (w04_ObjectWants.l0 kj25 l0 t103 t108 0 a1_0 l1_1 a1_2 a1_3 a2_0 a2_1 a2_2 a2_3) else (some false)) = some r := by rw [if_pos rfl] at H; exact H
        clear H
        have H := H1
        clear H1
        by_cases c32 : (t108.length : Int) = (l0.length : Int)
        ·
         as_aux_lemma =>
         rw [if_pos c32] at H
         have c32b0 : ((t108.length : Int) == (l0.length : Int)) = true := beq_iff_eq.mpr c32
         have c32b1 : ((t108.length : Int) != (l0.length : Int)) = false := bne_eq_false_iff_eq.mpr c32
         have c32b2 : (t108.length == l0.length) = true := by first | simpa using c32 | (simp at c32 ⊢; omega)
         clear c32
         (first | rw [c32b0] | (simp only [i64_w, i32_w]; rw [c32b0]) | skip)
         have H' := Aside0.mk H
         clear H
         obtain ⟨Ao33, co33, eo33⟩ := Kd.R_slice HO_10.out
         subst eo33
         go_wp2
         repeat (go_quiet (fail); try go_wp2)
         go_loopg [11] kj25 (fun kq v11 w' => ∃ (x11_3 : Int), v11 = .int .i64 x11_3 ∧ Aside0 (w04_ObjectWants.l0 kq l0 t103 t108 x11_3 a1_0 l1_1 a1_2 a1_3 a2_0 a2_1 a2_2 a2_3 = some r) ∧ Aside0 (kq ≤ kj25) ∧ Aside0 (Kd.R k58 58 w' w.heap.size (fun _ => True) (.slice Ao33 t108.length co33) t108) ∧ Aside0 (w'.heap[gb101]? = some (.cells #[.string a1_0, (.slice A1_1 l1_1.length c1_1), .string a1_2, .string a1_3] 40 (0, 0))) ∧ Aside0 (w'.heap[gb102]? = some (.cells #[.string a2_0, .int .i64 a2_1, .string a2_2, .string a2_3] 42 (0, 0))) ∧ Aside0 (Below w.heap.size w w'))
         case atStart => exact ⟨(0), sd_, H', ⟨Nat.le_refl _⟩, ⟨by (with_reducible repeat (first | apply Kd.R_alloc | apply Kd.R_drewN | apply Kd.R_drew)); exact HO_10.out⟩, ⟨o3_⟩, ⟨o4_⟩, ⟨o1_⟩⟩
         case round =>
          clear H'
          try clear c1
          try clear c2
          try clear p2
          try clear c3
          try clear p6
          try clear c9
          try clear c10
          try clear c13
          try clear c15
          try clear c19
          try clear c23
          try clear c29
          try clear c31
          try clear c32
          try clear c32b0
          try clear c32b1
          try clear c32b2
          try clear hcz16_0
          try clear hcz16_1
          try clear hcz16_2
          try clear hcz16_3
          try clear hcz20_0
          try clear hcz20_1
          try clear hcz20_2
          try clear hcz20_3
          try clear hcz22_0
          try clear hcz22_1
          try clear hcz22_2
          try clear hcz22_3
          try clear hfz16_0
          try clear hfz16_1
          try clear hfz16_2
          try clear hfz16_3
          try clear hfz20_0
          try clear hfz20_1
          try clear hfz20_2
          try clear hfz20_3
          try clear hfz22_0
          try clear hfz22_1
          try clear hfz22_2
          try clear hfz22_3
          try clear p2
          try clear p6
          obtain ⟨x11_3, rfl, HA, HK3, HO_10, BK101, BK102, HB⟩ := hrel
          cases gk with
          | zero => exact absurd HA.out (by simp [w04_ObjectWants.l0])
          | succ k3 =>
           have H := HA.out
           clear HA
           simp only [w04_ObjectWants.l0] at H
           by_cases c34 : x11_3 < (l0.length : Int)
           ·
            as_aux_lemma =>
            rw [if_pos c34] at H
            have c34b0 : decide (x11_3 < (l0.length : Int)) = true := decide_eq_true c34
            clear c34
            by_cases c35 : 0 ≤ x11_3
            ·
             as_aux_lemma =>
             rw [if_pos c35] at H
             have c35b0 : decide (0 ≤ x11_3) = true := decide_eq_true c35
             clear c35
             by_cases c36 : x11_3 < (t108.length : Int)
             ·
              as_aux_lemma =>
              rw [if_pos c36] at H
              have c36b0 : decide (x11_3 < (t108.length : Int)) = true := decide_eq_true c36
              clear c36
              by_cases c37 : ((rd_T58 t108 x11_3).f0).toList = ((rd_T54 l0 x11_3).f2).toList
              ·
               as_aux_lemma =>
               rw [if_pos c37] at H
               have c37b0 : (((rd_T58 t108 x11_3).f0).toList == ((rd_T54 l0 x11_3).f2).toList) = true := beq_iff_eq.mpr c37
               have c37b1 : (((rd_T58 t108 x11_3).f0).toList != ((rd_T54 l0 x11_3).f2).toList) = false := bne_eq_false_iff_eq.mpr c37
               clear c37
               by_cases c38 : ((((rd_T58 t108 x11_3).f1) == 2) != (((rd_T54 l0 x11_3).f0) == 3)) = true
               ·
                as_aux_lemma =>
                rw [if_pos c38] at H
                have c38b0 : ((((rd_T58 t108 x11_3).f1) == 2) != (((rd_T54 l0 x11_3).f0) == 3)) = true := c38
                (try (have c38b1 : decide ((((rd_T58 t108 x11_3).f1) == 2) = (((rd_T54 l0 x11_3).f0) == 3)) = false := by simpa using c38))
                (try (have c38b2 : ((((rd_T58 t108 x11_3).f1) == 2) == (((rd_T54 l0 x11_3).f0) == 3)) = false := by simpa using c38))
                (try (have c38b3 : ¬ ((((rd_T58 t108 x11_3).f1) == 2) = (((rd_T54 l0 x11_3).f0) == 3)) := by simpa using c38))
                clear c38
                obtain rfl := Option.some.inj H
                have p111 : 0 ≤ (x11_3 : Int) := oda_
                have q111 : x11_3 < (t108.length : Int) := oda_
                obtain ⟨ad111, e111, hx111_0, hx111_1⟩ := at_T58 (Kd.R_reads' HO_10.out).2.2 x11_3 p111 q111
                cases e111
                replace p111 := eq_true p111
                replace q111 := eq_true q111
                have p112 : 0 ≤ (x11_3 : Int) := oda_
                have q112 : x11_3 < (l0.length : Int) := oda_
                obtain ⟨ad112, e112, hx112_0, hx112_1, hx112_2⟩ := at_T54 HR0.out x11_3 p112 q112
                cases e112
                replace hx112_0 := (HB.out.cell (World.block_lt_of_cell? w _ hx112_0)).trans hx112_0
                replace hx112_1 := (HB.out.cell (World.block_lt_of_cell? w _ hx112_1)).trans hx112_1
                replace hx112_2 := (HB.out.cell (World.block_lt_of_cell? w _ hx112_2)).trans hx112_2
                replace p112 := eq_true p112
                replace q112 := eq_true q112
                have p113 : 0 ≤ (x11_3 : Int) := oda_
                have q113 : x11_3 < (t108.length : Int) := oda_
                obtain ⟨ad113, e113, hx113_0, hx113_1⟩ := at_T58 (Kd.R_reads' HO_10.out).2.2 x11_3 p113 q113
                obtain rfl : ad111 = ad113 := (by injection e113)
                replace p113 := eq_true p113
                replace q113 := eq_true q113
                have p114 : 0 ≤ (x11_3 : Int) := oda_
                have q114 : x11_3 < (l0.length : Int) := oda_
                obtain ⟨ad114, e114, hx114_0, hx114_1, hx114_2⟩ := at_T54 HR0.out x11_3 p114 q114
                obtain rfl : ad112 = ad114 := (by injection e114)
                replace hx114_0 := (HB.out.cell (World.block_lt_of_cell? w _ hx114_0)).trans hx114_0
                replace hx114_1 := (HB.out.cell (World.block_lt_of_cell? w _ hx114_1)).trans hx114_1
                replace hx114_2 := (HB.out.cell (World.block_lt_of_cell? w _ hx114_2)).trans hx114_2
                replace p114 := eq_true p114
                replace q114 := eq_true q114
                go_wp2
                repeat (go_quiet (fail); try go_wp2)
                go_ret
                exact ⟨er_, o1_⟩
               ·
                as_aux_lemma =>
                rw [if_neg c38] at H
                have c38b0 : ((((rd_T58 t108 x11_3).f1) == 2) != (((rd_T54 l0 x11_3).f0) == 3)) = false := by simpa using c38
                (try (have c38b1 : decide ((((rd_T58 t108 x11_3).f1) == 2) = (((rd_T54 l0 x11_3).f0) == 3)) = true := by simpa using c38))
                (try (have c38b2 : ((((rd_T58 t108 x11_3).f1) == 2) == (((rd_T54 l0 x11_3).f0) == 3)) = true := by simpa using c38))
                clear c38
                have H' := Aside0.mk H
                clear H
                have p111 : 0 ≤ (x11_3 : Int) := oda_
                have q111 : x11_3 < (t108.length : Int) := oda_
                obtain ⟨ad111, e111, hx111_0, hx111_1⟩ := at_T58 (Kd.R_reads' HO_10.out).2.2 x11_3 p111 q111
                cases e111
                replace p111 := eq_true p111
                replace q111 := eq_true q111
                have p112 : 0 ≤ (x11_3 : Int) := oda_
                have q112 : x11_3 < (l0.length : Int) := oda_
                obtain ⟨ad112, e112, hx112_0, hx112_1, hx112_2⟩ := at_T54 HR0.out x11_3 p112 q112
                cases e112
                replace hx112_0 := (HB.out.cell (World.block_lt_of_cell? w _ hx112_0)).trans hx112_0
                replace hx112_1 := (HB.out.cell (World.block_lt_of_cell? w _ hx112_1)).trans hx112_1
                replace hx112_2 := (HB.out.cell (World.block_lt_of_cell? w _ hx112_2)).trans hx112_2
                replace p112 := eq_true p112
                replace q112 := eq_true q112
                have p113 : 0 ≤ (x11_3 : Int) := oda_
                have q113 : x11_3 < (t108.length : Int) := oda_
                obtain ⟨ad113, e113, hx113_0, hx113_1⟩ := at_T58 (Kd.R_reads' HO_10.out).2.2 x11_3 p113 q113
                obtain rfl : ad111 = ad113 := (by injection e113)
                replace p113 := eq_true p113
                replace q113 := eq_true q113
                have p114 : 0 ≤ (x11_3 : Int) := oda_
                have q114 : x11_3 < (l0.length : Int) := oda_
                obtain ⟨ad114, e114, hx114_0, hx114_1, hx114_2⟩ := at_T54 HR0.out x11_3 p114 q114
                obtain rfl : ad112 = ad114 := (by injection e114)
                replace hx114_0 := (HB.out.cell (World.block_lt_of_cell? w _ hx114_0)).trans hx114_0
                replace hx114_1 := (HB.out.cell (World.block_lt_of_cell? w _ hx114_1)).trans hx114_1
                replace hx114_2 := (HB.out.cell (World.block_lt_of_cell? w _ hx114_2)).trans hx114_2
                replace p114 := eq_true p114
                replace q114 := eq_true q114
                go_wp2
                repeat (go_quiet (fail); try go_wp2)
                go_roundg k3
                case measure => have := HJ4.out; have := HJ25.out; have := HK3.out; omega
                case rel => exact ⟨(wrap64 (x11_3 + 1)), sd_, H', ⟨by have := HJ4.out; have := HJ25.out; have := HK3.out; omega⟩, ⟨by (with_reducible repeat (first | apply Kd.R_alloc | apply Kd.R_drewN | apply Kd.R_drew)); exact HO_10.out⟩, ⟨o3_⟩, ⟨o4_⟩, ⟨o1_⟩⟩
              ·
               as_aux_lemma =>
               rw [if_neg c37] at H
               have c37b0 : (((rd_T58 t108 x11_3).f0).toList == ((rd_T54 l0 x11_3).f2).toList) = false := beq_eq_false_iff_ne.mpr c37
               have c37b1 : (((rd_T58 t108 x11_3).f0).toList != ((rd_T54 l0 x11_3).f2).toList) = true := bne_iff_ne.mpr c37
               obtain rfl := Option.some.inj H
               have p111 : 0 ≤ (x11_3 : Int) := oda_
               have q111 : x11_3 < (t108.length : Int) := oda_
               obtain ⟨ad111, e111, hx111_0, hx111_1⟩ := at_T58 (Kd.R_reads' HO_10.out).2.2 x11_3 p111 q111
               cases e111
               replace p111 := eq_true p111
               replace q111 := eq_true q111
               have p112 : 0 ≤ (x11_3 : Int) := oda_
               have q112 : x11_3 < (l0.length : Int) := oda_
               obtain ⟨ad112, e112, hx112_0, hx112_1, hx112_2⟩ := at_T54 HR0.out x11_3 p112 q112
               cases e112
               replace hx112_0 := (HB.out.cell (World.block_lt_of_cell? w _ hx112_0)).trans hx112_0
               replace hx112_1 := (HB.out.cell (World.block_lt_of_cell? w _ hx112_1)).trans hx112_1
               replace hx112_2 := (HB.out.cell (World.block_lt_of_cell? w _ hx112_2)).trans hx112_2
               replace p112 := eq_true p112
               replace q112 := eq_true q112
               go_wp2
               repeat (go_quiet (fail); try go_wp2)
               go_ret
               exact ⟨er_, o1_⟩
             ·
              as_aux_lemma =>
              rw [if_neg c36] at H
              exact absurd H (by simp)
            ·
             as_aux_lemma =>
             rw [if_neg c35] at H
             exact absurd H (by simp)
           ·
            as_aux_lemma =>
            rw [if_neg c34] at H
            have c34b0 : decide (x11_3 < (l0.length : Int)) = false := decide_eq_false c34
            clear c34
            have H' := Aside0.mk H
            clear H
            go_wp2
            repeat (go_quiet (fail); try go_wp2)
            go_meet
            case rel => exact ⟨_, H', ⟨by have := HJ4.out; have := HJ25.out; have := HK3.out; first | omega | exact Nat.le_refl _⟩, ⟨o3_⟩, ⟨o4_⟩, ⟨o1_⟩⟩
        ·
         as_aux_lemma =>
         rw [if_neg c32] at H
         have c32b0 : ((t108.length : Int) == (l0.length : Int)) = false := beq_eq_false_iff_ne.mpr c32
         have c32b1 : ((t108.length : Int) != (l0.length : Int)) = true := bne_iff_ne.mpr c32
         have c32b2 : (t108.length == l0.length) = false := by first | simpa using c32 | (simp at c32 ⊢; omega)
         (first | rw [c32b0] | (simp only [i64_w, i32_w]; rw [c32b0]) | skip)
         obtain rfl := Option.some.inj H
         obtain ⟨Ao39, co39, eo39⟩ := Kd.R_slice HO_10.out
         subst eo39
         go_wp2
         repeat (go_quiet (fail); try go_wp2)
         go_ret
         exact ⟨er_, o1_⟩
       ·
        as_aux_lemma =>
        replace c31 := Bool.eq_false_iff.mpr c31
        subst c31
        have H1 : (w04_ObjectWants.j3 kj25 t103 a1_0 l1_1 a1_2 a1_3 a2_0 a2_1 a2_2 a2_3) = some r := by rw [if_neg (show ¬ (false = true) by decide)] at H; exact H
        clear H
        have H := H1
        clear H1
        have H' := Aside0.mk H
        clear H
        go_wp2
        repeat (go_quiet (fail); try go_wp2)
        go_meet
        case rel => exact ⟨_, H', ⟨by have := HJ4.out; have := HJ25.out; first | omega | exact Nat.le_refl _⟩, ⟨o3_⟩, ⟨o4_⟩, ⟨o1_⟩⟩
      case rest =>
       clear HC30
       try clear c1
       try clear p1
       try clear q1
       try clear hx1
       try clear c2
       try clear p2
       try clear c3
       try clear p6
       try clear c9
       try clear c10
       try clear p11
       try clear q11
       try clear hx11
       try clear c13
       try clear c15
       try clear c19
       try clear c23
       try clear c29
       try clear c31
       try clear c32
       try clear c32b0
       try clear c32b1
       try clear c32b2
       try clear c34
       try clear c34b0
       try clear c35
       try clear c35b0
       try clear c36
       try clear c36b0
       try clear c37
       try clear c37b0
       try clear c37b1
       try clear c38
       try clear c38b0
       try clear c38b1
       try clear c38b2
       try clear hcz16_0
       try clear hcz16_1
       try clear hcz16_2
       try clear hcz16_3
       try clear hcz20_0
       try clear hcz20_1
       try clear hcz20_2
       try clear hcz20_3
       try clear hcz22_0
       try clear hcz22_1
       try clear hcz22_2
       try clear hcz22_3
       try clear hfz16_0
       try clear hfz16_1
       try clear hfz16_2
       try clear hfz16_3
       try clear hfz20_0
       try clear hfz20_1
       try clear hfz20_2
       try clear hfz20_3
       try clear hfz22_0
       try clear hfz22_1
       try clear hfz22_2
       try clear hfz22_3
       try clear hx111_0
       try clear hx111_1
       try clear hx112_0
       try clear hx112_1
       try clear hx112_2
       try clear hx113_0
       try clear hx113_1
       try clear hx114_0
       try clear hx114_1
       try clear hx114_2
       try clear p111
       try clear p112
       try clear p113
       try clear p114
       try clear p2
       try clear p6
       try clear q111
       try clear q112
       try clear q113
       try clear q114
       obtain ⟨kq, HA, HJ29, BK101, BK102, HB⟩ := hcut
       cases kq with
       | zero => exact absurd HA.out (by simp [w04_ObjectWants.j3])
       | succ kj29 =>
        have H := HA.out
        clear HA
        simp only [w04_ObjectWants.j3] at H
        replace H := Option.bind_eq_some_iff.mp H
        obtain ⟨⟨t115, t116⟩, A400, H⟩ := H
        replace H : ((Ob.Gv.wants.f 3 t115).bind fun t117 => (if t116 = true then (if (t117.length : Int) = (wrap64 (1 + (l1_1.length : Int))) then (if 0 < (t117.length : Int) then (if ((rd_T58 t117 0).f0).toList = a1_0.toList then (w04_ObjectWants.j4 kj29 t103 t117 (((rd_T58 t117 0).f1) != 2) a1_0 l1_1 a1_2 a1_3 a2_0 a2_1 a2_2 a2_3) else (w04_ObjectWants.j4 kj29 t103 t117 true a1_0 l1_1 a1_2 a1_3 a2_0 a2_1 a2_2 a2_3)) else (none)) else (w04_ObjectWants.j4 kj29 t103 t117 true a1_0 l1_1 a1_2 a1_3 a2_0 a2_1 a2_2 a2_3)) else ((Ob.Gv.putLabel.f a2_0 a2_1 a2_2 a2_3).bind fun bt132 => ((Ob.Gv.wants.f 4 bt132.1).bind fun t134 => (if t103 = true then (if bt132.2 = true then (if (t134.length : Int) = 1 then (if 0 < (t134.length : Int) then (if ((rd_T58 t134 0).f0).toList = a2_0.toList then (some (((rd_T58 t134 0).f1) == a2_1)) else (some false)) else (none)) else (some false)) else (some true)) else (some false)))))) = some r := H
        have A40 := Aside0.mk A400
        clear A400
        replace H := Option.bind_eq_some_iff.mp H
        obtain ⟨t117, A410, H⟩ := H
        replace H : (if t116 = true then (if (t117.length : Int) = (wrap64 (1 + (l1_1.length : Int))) then (if 0 < (t117.length : Int) then (if ((rd_T58 t117 0).f0).toList = a1_0.toList then (w04_ObjectWants.j4 kj29 t103 t117 (((rd_T58 t117 0).f1) != 2) a1_0 l1_1 a1_2 a1_3 a2_0 a2_1 a2_2 a2_3) else (w04_ObjectWants.j4 kj29 t103 t117 true a1_0 l1_1 a1_2 a1_3 a2_0 a2_1 a2_2 a2_3)) else (none)) else (w04_ObjectWants.j4 kj29 t103 t117 true a1_0 l1_1 a1_2 a1_3 a2_0 a2_1 a2_2 a2_3)) else ((Ob.Gv.putLabel.f a2_0 a2_1 a2_2 a2_3).bind fun bt132 => ((Ob.Gv.wants.f 4 bt132.1).bind fun t134 => (if t103 = true then (if bt132.2 = true then (if (t134.length : Int) = 1 then (if 0 < (t134.length : Int) then (if ((rd_T58 t134 0).f0).toList = a2_0.toList then (some (((rd_T58 t134 0).f1) == a2_1)) else (some false)) else (none)) else (some false)) else (some true)) else (some false))))) = some r := H
        have A41 := Aside0.mk A410
        clear A410
        by_cases c42 : t116 = true
        ·
         as_aux_lemma =>
         subst c42
         have H1 : (if (t117.length : Int) = (wrap64 (1 + (l1_1.length : Int))) then (if 0 < (t117.length : Int) then (if ((rd_T58 t117 0).f0).toList = a1_0.toList then (w04_ObjectWants.j4 kj29 t103 t117 (((rd_T58 t117 0).f1) != 2) a1_0 l1_1 a1_2 a1_3 a2_0 a2_1 a2_2 a2_3) else (w04_ObjectWants.j4 kj29 t103 t117 true a1_0 l1_1 a1_2 a1_3 a2_0 a2_1 a2_2 a2_3)) else (none)) else (w04_ObjectWants.j4 kj29 t103 t117 true a1_0 l1_1 a1_2 a1_3 a2_0 a2_1 a2_2 a2_3)) = some r := by rw [if_pos rfl] at H; exact H
         clear H
         have H := H1
         clear H1
         have HC43 := Aside0.mk H
         clear H
         have hnb44 := NB101_102.out
         have hnc44 := NB102_101.out
         have hcz45_0 : wc.cell? ⟨gb101, 0, none⟩ = some (.string a1_0) := (blk_cell BK101.out 0).trans rfl
         have hcz45_1 : wc.cell? ⟨gb101, 1, none⟩ = some (.slice A1_1 l1_1.length c1_1) := (blk_cell BK101.out 1).trans rfl
         have hcz45_2 : wc.cell? ⟨gb101, 2, none⟩ = some (.string a1_2) := (blk_cell BK101.out 2).trans rfl
         have hcz45_3 : wc.cell? ⟨gb101, 3, none⟩ = some (.string a1_3) := (blk_cell BK101.out 3).trans rfl
         have hfz45_0 := blk_frozen BK101.out 0
         have hfz45_1 := blk_frozen BK101.out 1
         have hfz45_2 := blk_frozen BK101.out 2
         have hfz45_3 := blk_frozen BK101.out 3
         go_upto_region 17 with (first | (go_at_call 25; (with_reducible refine (Ob.Gv.putChange.calls a1_0 _ _ l1_1 a1_2 a1_3 t115 true _ ?side1 ?side2 A40.out).mono ?_); (case side1 => repeat (first | exact (Kd.C_below HR1_1.out HB.out) | (with_reducible refine Kd.C_alloc ?_ _) | (with_reducible refine Kd.C_drewN ?_ _) | (with_reducible refine Kd.C_drew ?_))); (case side2 => exact HC1_1.out); rintro e w46 ⟨rfl, hb⟩; have n0_ := Aside0.mk (blk_below (g := gb101) (o := .cells #[.string a1_0, .slice A1_1 l1_1.length c1_1, .string a1_2, .string a1_3] 40 (0, 0)) o3_ hb); have n1_ := Aside0.mk (blk_below (g := gb102) (o := .cells #[.string a2_0, .int .i64 a2_1, .string a2_2, .string a2_3] 42 (0, 0)) o4_ hb); have n2_ := Aside0.mk (below_step o1_ hb); clear BK101; clear BK102; clear HB; have BK101 := n0_; have BK102 := n1_; have HB := n2_; clear n0_ n1_ n2_; (try clear hb); (try clear hb2); (try clear hk); (try clear hi)) | (go_at_call 16; (with_reducible refine (Ob.Gv.wants.calls 3 t115 t117 _ A41.out (HTAB_.out _ (by first | exact Below.refl _ _ | (with_reducible exact Aside0.out (by assumption)) | repeat (first | (with_reducible exact Aside0.out (by assumption)) | apply below_alloc | apply pw_below_drewN | apply below_drew1)))).mono ?_); rintro e w47 ⟨v118, rfl, ho0, hb⟩; have n0_ := Aside0.mk (Kd.R_lower ho0 (below_size o1_)); have n1_ := Aside0.mk (blk_below (g := gb101) (o := .cells #[.string a1_0, .slice A1_1 l1_1.length c1_1, .string a1_2, .string a1_3] 40 (0, 0)) o3_ hb); have n2_ := Aside0.mk (blk_below (g := gb102) (o := .cells #[.string a2_0, .int .i64 a2_1, .string a2_2, .string a2_3] 42 (0, 0)) o4_ hb); have n3_ := Aside0.mk (below_step o1_ hb); clear BK101; clear BK102; clear HB; have HO119 := n0_; have BK101 := n1_; have BK102 := n2_; have HB := n3_; clear n0_ n1_ n2_ n3_; (try clear hb); (try clear hb2); (try clear hk); (try clear hi); (try clear ho0)))
         repeat (go_quiet (first | (go_at_call 25; (with_reducible refine (Ob.Gv.putChange.calls a1_0 _ _ l1_1 a1_2 a1_3 t115 true _ ?side1 ?side2 A40.out).mono ?_); (case side1 => repeat (first | exact (Kd.C_below HR1_1.out HB.out) | (with_reducible refine Kd.C_alloc ?_ _) | (with_reducible refine Kd.C_drewN ?_ _) | (with_reducible refine Kd.C_drew ?_))); (case side2 => exact HC1_1.out); rintro e w46 ⟨rfl, hb⟩; have n0_ := Aside0.mk (blk_below (g := gb101) (o := .cells #[.string a1_0, .slice A1_1 l1_1.length c1_1, .string a1_2, .string a1_3] 40 (0, 0)) o3_ hb); have n1_ := Aside0.mk (blk_below (g := gb102) (o := .cells #[.string a2_0, .int .i64 a2_1, .string a2_2, .string a2_3] 42 (0, 0)) o4_ hb); have n2_ := Aside0.mk (below_step o1_ hb); clear BK101; clear BK102; clear HB; have BK101 := n0_; have BK102 := n1_; have HB := n2_; clear n0_ n1_ n2_; (try clear hb); (try clear hb2); (try clear hk); (try clear hi)) | (go_at_call 16; (with_reducible refine (Ob.Gv.wants.calls 3 t115 t117 _ A41.out (HTAB_.out _ (by first | exact Below.refl _ _ | (with_reducible exact Aside0.out (by assumption)) | repeat (first | (with_reducible exact Aside0.out (by assumption)) | apply below_alloc | apply pw_below_drewN | apply below_drew1)))).mono ?_); rintro e w47 ⟨v118, rfl, ho0, hb⟩; have n0_ := Aside0.mk (Kd.R_lower ho0 (below_size o1_)); have n1_ := Aside0.mk (blk_below (g := gb101) (o := .cells #[.string a1_0, .slice A1_1 l1_1.length c1_1, .string a1_2, .string a1_3] 40 (0, 0)) o3_ hb); have n2_ := Aside0.mk (blk_below (g := gb102) (o := .cells #[.string a2_0, .int .i64 a2_1, .string a2_2, .string a2_3] 42 (0, 0)) o4_ hb); have n3_ := Aside0.mk (below_step o1_ hb); clear BK101; clear BK102; clear HB; have HO119 := n0_; have BK101 := n1_; have BK102 := n2_; have HB := n3_; clear n0_ n1_ n2_ n3_; (try clear hb); (try clear hb2); (try clear hk); (try clear hi); (try clear ho0))); go_upto_region 17 with (first | (go_at_call 25; (with_reducible refine (Ob.Gv.putChange.calls a1_0 _ _ l1_1 a1_2 a1_3 t115 true _ ?side1 ?side2 A40.out).mono ?_); (case side1 => repeat (first | exact (Kd.C_below HR1_1.out HB.out) | (with_reducible refine Kd.C_alloc ?_ _) | (with_reducible refine Kd.C_drewN ?_ _) | (with_reducible refine Kd.C_drew ?_))); (case side2 => exact HC1_1.out); rintro e w46 ⟨rfl, hb⟩; have n0_ := Aside0.mk (blk_below (g := gb101) (o := .cells #[.string a1_0, .slice A1_1 l1_1.length c1_1, .string a1_2, .string a1_3] 40 (0, 0)) o3_ hb); have n1_ := Aside0.mk (blk_below (g := gb102) (o := .cells #[.string a2_0, .int .i64 a2_1, .string a2_2, .string a2_3] 42 (0, 0)) o4_ hb); have n2_ := Aside0.mk (below_step o1_ hb); clear BK101; clear BK102; clear HB; have BK101 := n0_; have BK102 := n1_; have HB := n2_; clear n0_ n1_ n2_; (try clear hb); (try clear hb2); (try clear hk); (try clear hi)) | (go_at_call 16; (with_reducible refine (Ob.Gv.wants.calls 3 t115 t117 _ A41.out (HTAB_.out _ (by first | exact Below.refl _ _ | (with_reducible exact Aside0.out (by assumption)) | repeat (first | (with_reducible exact Aside0.out (by assumption)) | apply below_alloc | apply pw_below_drewN | apply below_drew1)))).mono ?_); rintro e w47 ⟨v118, rfl, ho0, hb⟩; have n0_ := Aside0.mk (Kd.R_lower ho0 (below_size o1_)); have n1_ := Aside0.mk (blk_below (g := gb101) (o := .cells #[.string a1_0, .slice A1_1 l1_1.length c1_1, .string a1_2, .string a1_3] 40 (0, 0)) o3_ hb); have n2_ := Aside0.mk (blk_below (g := gb102) (o := .cells #[.string a2_0, .int .i64 a2_1, .string a2_2, .string a2_3] 42 (0, 0)) o4_ hb); have n3_ := Aside0.mk (below_step o1_ hb); clear BK101; clear BK102; clear HB; have HO119 := n0_; have BK101 := n1_; have BK102 := n2_; have HB := n3_; clear n0_ n1_ n2_ n3_; (try clear hb); (try clear hb2); (try clear hk); (try clear hi); (try clear ho0))))
         (try simp only [Act.put, List.setIfInBounds_toArray, List.set_cons_zero, List.set_cons_succ])
         go_cut [123] (fun v123 wc => ∃ (kq : Nat) (x123_42 : Bool), v123 = .bool x123_42 ∧ Aside0 (w04_ObjectWants.j4 kq t103 t117 x123_42 a1_0 l1_1 a1_2 a1_3 a2_0 a2_1 a2_2 a2_3 = some r) ∧ Aside0 (kq ≤ kj29) ∧ Aside0 (Kd.R k58 58 wc w.heap.size (fun _ => True) v118 t117) ∧ Aside0 (wc.heap[gb101]? = some (.cells #[.string a1_0, (.slice A1_1 l1_1.length c1_1), .string a1_2, .string a1_3] 40 (0, 0))) ∧ Aside0 (wc.heap[gb102]? = some (.cells #[.string a2_0, .int .i64 a2_1, .string a2_2, .string a2_3] 42 (0, 0))) ∧ Aside0 (Below w.heap.size w wc))
         case first =>
          have H := HC43.out
          clear HC43
          by_cases c48 : (t117.length : Int) = (wrap64 (1 + (l1_1.length : Int)))
          ·
           as_aux_lemma =>
           rw [if_pos c48] at H
           have c48b0 : ((t117.length : Int) == (wrap64 (1 + (l1_1.length : Int)))) = true := beq_iff_eq.mpr c48
           have c48b1 : ((t117.length : Int) != (wrap64 (1 + (l1_1.length : Int)))) = false := bne_eq_false_iff_eq.mpr c48
           clear c48
           (first | rw [c48b0] | (simp only [i64_w, i32_w]; rw [c48b0]) | skip)
           by_cases c49 : 0 < (t117.length : Int)
           ·
            as_aux_lemma =>
            rw [if_pos c49] at H
            have c49b0 : decide (0 < (t117.length : Int)) = true := decide_eq_true c49
            have c49b1 : decide (0 < t117.length) = true := decide_eq_true (by omega)
            clear c49
            by_cases c50 : ((rd_T58 t117 0).f0).toList = a1_0.toList
            ·
             as_aux_lemma =>
             rw [if_pos c50] at H
             have c50b0 : (((rd_T58 t117 0).f0).toList == a1_0.toList) = true := beq_iff_eq.mpr c50
             have c50b1 : (((rd_T58 t117 0).f0).toList != a1_0.toList) = false := bne_eq_false_iff_eq.mpr c50
             clear c50
             have H' := Aside0.mk H
             clear H
             obtain ⟨Ao51, co51, eo51⟩ := Kd.R_slice HO119.out
             subst eo51
             have hnb52 := NB101_102.out
             have hnc52 := NB102_101.out
             have hcz53_0 : w47.cell? ⟨gb101, 0, none⟩ = some (.string a1_0) := (blk_cell BK101.out 0).trans rfl
             have hcz53_1 : w47.cell? ⟨gb101, 1, none⟩ = some (.slice A1_1 l1_1.length c1_1) := (blk_cell BK101.out 1).trans rfl
             have hcz53_2 : w47.cell? ⟨gb101, 2, none⟩ = some (.string a1_2) := (blk_cell BK101.out 2).trans rfl
             have hcz53_3 : w47.cell? ⟨gb101, 3, none⟩ = some (.string a1_3) := (blk_cell BK101.out 3).trans rfl
             have hfz53_0 := blk_frozen BK101.out 0
             have hfz53_1 := blk_frozen BK101.out 1
             have hfz53_2 := blk_frozen BK101.out 2
             have hfz53_3 := blk_frozen BK101.out 3
             have p120 : 0 ≤ (0 : Int) := (by omega)
             have q120 : 0 < (t117.length : Int) := oda_
             obtain ⟨ad120, e120, hx120_0, hx120_1⟩ := at_T58 (Kd.R_reads' HO119.out).2.2 0 p120 q120
             cases e120
             have qi120 : (0 < t117.length) = True := eq_true (by omega)
             (try rw [show ((0 : Int)).toNat = 0 from rfl] at hx120_0)
             (try rw [show 0 * 2 = 0 from rfl] at hx120_0)
             (try rw [Addr.add_zero'] at hx120_0)
             (try rw [show ((0 : Int)).toNat = 0 from rfl] at hx120_1)
             (try rw [show 0 * 2 = 0 from rfl] at hx120_1)
             (try rw [Addr.add_zero'] at hx120_1)
             replace p120 := eq_true p120
             replace q120 := eq_true q120
             have p121 : 0 ≤ (0 : Int) := (by omega)
             have q121 : 0 < (t117.length : Int) := oda_
             obtain ⟨ad121, e121, hx121_0, hx121_1⟩ := at_T58 (Kd.R_reads' HO119.out).2.2 0 p121 q121
             obtain rfl : ad120 = ad121 := (by injection e121)
             have qi121 : (0 < t117.length) = True := eq_true (by omega)
             (try rw [show ((0 : Int)).toNat = 0 from rfl] at hx121_0)
             (try rw [show 0 * 2 = 0 from rfl] at hx121_0)
             (try rw [Addr.add_zero'] at hx121_0)
             (try rw [show ((0 : Int)).toNat = 0 from rfl] at hx121_1)
             (try rw [show 0 * 2 = 0 from rfl] at hx121_1)
             (try rw [Addr.add_zero'] at hx121_1)
             replace p121 := eq_true p121
             replace q121 := eq_true q121
             go_wp2
             repeat (go_quiet (fail); try go_wp2)
             go_meet
             case rel => exact ⟨_, ((((rd_T58 t117 0).f1) != 2)), sd_, H', ⟨by have := HJ4.out; have := HJ25.out; have := HJ29.out; first | omega | exact Nat.le_refl _⟩, ⟨o6_⟩, ⟨o3_⟩, ⟨o4_⟩, ⟨o1_⟩⟩
            ·
             as_aux_lemma =>
             rw [if_neg c50] at H
             have c50b0 : (((rd_T58 t117 0).f0).toList == a1_0.toList) = false := beq_eq_false_iff_ne.mpr c50
             have c50b1 : (((rd_T58 t117 0).f0).toList != a1_0.toList) = true := bne_iff_ne.mpr c50
             have H' := Aside0.mk H
             clear H
             obtain ⟨Ao54, co54, eo54⟩ := Kd.R_slice HO119.out
             subst eo54
             have hnb55 := NB101_102.out
             have hnc55 := NB102_101.out
             have hcz56_0 : w47.cell? ⟨gb101, 0, none⟩ = some (.string a1_0) := (blk_cell BK101.out 0).trans rfl
             have hcz56_1 : w47.cell? ⟨gb101, 1, none⟩ = some (.slice A1_1 l1_1.length c1_1) := (blk_cell BK101.out 1).trans rfl
             have hcz56_2 : w47.cell? ⟨gb101, 2, none⟩ = some (.string a1_2) := (blk_cell BK101.out 2).trans rfl
             have hcz56_3 : w47.cell? ⟨gb101, 3, none⟩ = some (.string a1_3) := (blk_cell BK101.out 3).trans rfl
             have hfz56_0 := blk_frozen BK101.out 0
             have hfz56_1 := blk_frozen BK101.out 1
             have hfz56_2 := blk_frozen BK101.out 2
             have hfz56_3 := blk_frozen BK101.out 3
             have p120 : 0 ≤ (0 : Int) := (by omega)
             have q120 : 0 < (t117.length : Int) := oda_
             obtain ⟨ad120, e120, hx120_0, hx120_1⟩ := at_T58 (Kd.R_reads' HO119.out).2.2 0 p120 q120
             cases e120
             have qi120 : (0 < t117.length) = True := eq_true (by omega)
             (try rw [show ((0 : Int)).toNat = 0 from rfl] at hx120_0)
             (try rw [show 0 * 2 = 0 from rfl] at hx120_0)
             (try rw [Addr.add_zero'] at hx120_0)
             (try rw [show ((0 : Int)).toNat = 0 from rfl] at hx120_1)
             (try rw [show 0 * 2 = 0 from rfl] at hx120_1)
             (try rw [Addr.add_zero'] at hx120_1)
             replace p120 := eq_true p120
             replace q120 := eq_true q120
             go_wp2
             repeat (go_quiet (fail); try go_wp2)
             go_meet
             case rel => exact ⟨_, (true), sd_, H', ⟨by have := HJ4.out; have := HJ25.out; have := HJ29.out; first | omega | exact Nat.le_refl _⟩, ⟨o6_⟩, ⟨o3_⟩, ⟨o4_⟩, ⟨o1_⟩⟩
           ·
            as_aux_lemma =>
            rw [if_neg c49] at H
            exact absurd H (by simp)
          ·
           as_aux_lemma =>
           rw [if_neg c48] at H
           have c48b0 : ((t117.length : Int) == (wrap64 (1 + (l1_1.length : Int)))) = false := beq_eq_false_iff_ne.mpr c48
           have c48b1 : ((t117.length : Int) != (wrap64 (1 + (l1_1.length : Int)))) = true := bne_iff_ne.mpr c48
           (first | rw [c48b0] | (simp only [i64_w, i32_w]; rw [c48b0]) | skip)
           have H' := Aside0.mk H
           clear H
           obtain ⟨Ao57, co57, eo57⟩ := Kd.R_slice HO119.out
           subst eo57
           have hnb58 := NB101_102.out
           have hnc58 := NB102_101.out
           have hcz59_0 : w47.cell? ⟨gb101, 0, none⟩ = some (.string a1_0) := (blk_cell BK101.out 0).trans rfl
           have hcz59_1 : w47.cell? ⟨gb101, 1, none⟩ = some (.slice A1_1 l1_1.length c1_1) := (blk_cell BK101.out 1).trans rfl
           have hcz59_2 : w47.cell? ⟨gb101, 2, none⟩ = some (.string a1_2) := (blk_cell BK101.out 2).trans rfl
           have hcz59_3 : w47.cell? ⟨gb101, 3, none⟩ = some (.string a1_3) := (blk_cell BK101.out 3).trans rfl
           have hfz59_0 := blk_frozen BK101.out 0
           have hfz59_1 := blk_frozen BK101.out 1
           have hfz59_2 := blk_frozen BK101.out 2
           have hfz59_3 := blk_frozen BK101.out 3
           go_wp2
           repeat (go_quiet (fail); try go_wp2)
           go_meet
           case rel => exact ⟨_, (true), sd_, H', ⟨by have := HJ4.out; have := HJ25.out; have := HJ29.out; first | omega | exact Nat.le_refl _⟩, ⟨o6_⟩, ⟨o3_⟩, ⟨o4_⟩, ⟨o1_⟩⟩
         case rest =>
          clear HC43
          try clear c1
          try clear p1
          try clear q1
          try clear hx1
          try clear qi1
          try clear c2
          try clear p2
          try clear c3
          try clear c4
          try clear c5
          try clear p6
          try clear c9
          try clear c10
          try clear p11
          try clear q11
          try clear hx11
          try clear p12
          try clear q12
          try clear hx12
          try clear qi12
          try clear c13
          try clear c15
          try clear c19
          try clear c23
          try clear c29
          try clear c31
          try clear c32
          try clear c32b0
          try clear c32b1
          try clear c32b2
          try clear c34
          try clear c34b0
          try clear c35
          try clear c35b0
          try clear c36
          try clear c36b0
          try clear c37
          try clear c37b0
          try clear c37b1
          try clear c38
          try clear c38b0
          try clear c38b1
          try clear c38b2
          try clear c42
          try clear c44
          try clear c48
          try clear c48b0
          try clear c48b1
          try clear c49
          try clear c49b0
          try clear c49b1
          try clear c50
          try clear c50b0
          try clear c50b1
          try clear c52
          try clear c55
          try clear c58
          try clear hcz16_0
          try clear hcz16_1
          try clear hcz16_2
          try clear hcz16_3
          try clear hcz20_0
          try clear hcz20_1
          try clear hcz20_2
          try clear hcz20_3
          try clear hcz22_0
          try clear hcz22_1
          try clear hcz22_2
          try clear hcz22_3
          try clear hcz45_0
          try clear hcz45_1
          try clear hcz45_2
          try clear hcz45_3
          try clear hcz53_0
          try clear hcz53_1
          try clear hcz53_2
          try clear hcz53_3
          try clear hcz56_0
          try clear hcz56_1
          try clear hcz56_2
          try clear hcz56_3
          try clear hcz59_0
          try clear hcz59_1
          try clear hcz59_2
          try clear hcz59_3
          try clear hfz16_0
          try clear hfz16_1
          try clear hfz16_2
          try clear hfz16_3
          try clear hfz20_0
          try clear hfz20_1
          try clear hfz20_2
          try clear hfz20_3
          try clear hfz22_0
          try clear hfz22_1
          try clear hfz22_2
          try clear hfz22_3
          try clear hfz45_0
          try clear hfz45_1
          try clear hfz45_2
          try clear hfz45_3
          try clear hfz53_0
          try clear hfz53_1
          try clear hfz53_2
          try clear hfz53_3
          try clear hfz56_0
          try clear hfz56_1
          try clear hfz56_2
          try clear hfz56_3
          try clear hfz59_0
          try clear hfz59_1
          try clear hfz59_2
          try clear hfz59_3
          try clear hx111_0
          try clear hx111_1
          try clear hx112_0
          try clear hx112_1
          try clear hx112_2
          try clear hx113_0
          try clear hx113_1
          try clear hx114_0
          try clear hx114_1
          try clear hx114_2
          try clear hx120_0
          try clear hx120_1
          try clear hx121_0
          try clear hx121_1
          try clear p1
          try clear p11
          try clear p111
          try clear p112
          try clear p113
          try clear p114
          try clear p120
          try clear p121
          try clear p2
          try clear p6
          try clear q1
          try clear q11
          try clear q111
          try clear q112
          try clear q113
          try clear q114
          try clear q120
          try clear q121
          obtain ⟨kq, x123_42, rfl, HA, HJ42, HO_14, BK101, BK102, HB⟩ := hcut
          cases kq with
          | zero => exact absurd HA.out (by simp [w04_ObjectWants.j4])
          | succ kj42 =>
           have H := HA.out
           clear HA
           simp only [w04_ObjectWants.j4] at H
           by_cases c60 : x123_42 = true
           ·
            as_aux_lemma =>
            subst c60
            have H1 : (some false) = some r := by rw [if_pos rfl] at H; exact H
            clear H
            have H := H1
            clear H1
            obtain rfl := Option.some.inj H
            go_wp2
            repeat (go_quiet (fail); try go_wp2)
            go_ret
            exact ⟨er_, o1_⟩
           ·
            as_aux_lemma =>
            replace c60 := Bool.eq_false_iff.mpr c60
            subst c60
            have H1 : (w04_ObjectWants.l1 kj42 t103 t117 0 a1_0 l1_1 a1_2 a1_3 a2_0 a2_1 a2_2 a2_3) = some r := by rw [if_neg (show ¬ (false = true) by decide)] at H; exact H
            clear H
            have H := H1
            clear H1
            have H' := Aside0.mk H
            clear H
            go_wp2
            repeat (go_quiet (fail); try go_wp2)
            go_loopg [15] kj42 (fun kq v15 w' => ∃ (x15_5 : Int), v15 = .int .i64 x15_5 ∧ Aside0 (w04_ObjectWants.l1 kq t103 t117 x15_5 a1_0 l1_1 a1_2 a1_3 a2_0 a2_1 a2_2 a2_3 = some r) ∧ Aside0 (kq ≤ kj42) ∧ Aside0 (Kd.R k58 58 w' w.heap.size (fun _ => True) v118 t117) ∧ Aside0 (w'.heap[gb101]? = some (.cells #[.string a1_0, (.slice A1_1 l1_1.length c1_1), .string a1_2, .string a1_3] 40 (0, 0))) ∧ Aside0 (w'.heap[gb102]? = some (.cells #[.string a2_0, .int .i64 a2_1, .string a2_2, .string a2_3] 42 (0, 0))) ∧ Aside0 (Below w.heap.size w w'))
            case atStart => exact ⟨(0), sd_, H', ⟨Nat.le_refl _⟩, ⟨o5_⟩, ⟨o3_⟩, ⟨o4_⟩, ⟨o1_⟩⟩
            case round =>
             clear H'
             try clear c1
             try clear p1
             try clear q1
             try clear hx1
             try clear qi1
             try clear c2
             try clear p2
             try clear c3
             try clear c4
             try clear c5
             try clear c6
             try clear p6
             try clear c9
             try clear c10
             try clear p11
             try clear q11
             try clear hx11
             try clear p12
             try clear q12
             try clear hx12
             try clear qi12
             try clear c13
             try clear c15
             try clear c19
             try clear c23
             try clear c29
             try clear c31
             try clear c32
             try clear c32b0
             try clear c32b1
             try clear c32b2
             try clear c34
             try clear c34b0
             try clear c35
             try clear c35b0
             try clear c36
             try clear c36b0
             try clear c37
             try clear c37b0
             try clear c37b1
             try clear c38
             try clear c38b0
             try clear c38b1
             try clear c38b2
             try clear c42
             try clear c44
             try clear c48
             try clear c48b0
             try clear c48b1
             try clear c49
             try clear c49b0
             try clear c49b1
             try clear c50
             try clear c50b0
             try clear c50b1
             try clear c52
             try clear c55
             try clear c58
             try clear c60
             try clear hcz16_0
             try clear hcz16_1
             try clear hcz16_2
             try clear hcz16_3
             try clear hcz20_0
             try clear hcz20_1
             try clear hcz20_2
             try clear hcz20_3
             try clear hcz22_0
             try clear hcz22_1
             try clear hcz22_2
             try clear hcz22_3
             try clear hcz45_0
             try clear hcz45_1
             try clear hcz45_2
             try clear hcz45_3
             try clear hcz53_0
             try clear hcz53_1
             try clear hcz53_2
             try clear hcz53_3
             try clear hcz56_0
             try clear hcz56_1
             try clear hcz56_2
             try clear hcz56_3
             try clear hcz59_0
             try clear hcz59_1
             try clear hcz59_2
             try clear hcz59_3
             try clear hfz16_0
             try clear hfz16_1
             try clear hfz16_2
             try clear hfz16_3
             try clear hfz20_0
             try clear hfz20_1
             try clear hfz20_2
             try clear hfz20_3
             try clear hfz22_0
             try clear hfz22_1
             try clear hfz22_2
             try clear hfz22_3
             try clear hfz45_0
             try clear hfz45_1
             try clear hfz45_2
             try clear hfz45_3
             try clear hfz53_0
             try clear hfz53_1
             try clear hfz53_2
             try clear hfz53_3
             try clear hfz56_0
             try clear hfz56_1
             try clear hfz56_2
             try clear hfz56_3
             try clear hfz59_0
             try clear hfz59_1
             try clear hfz59_2
             try clear hfz59_3
             try clear hx111_0
             try clear hx111_1
             try clear hx112_0
             try clear hx112_1
             try clear hx112_2
             try clear hx113_0
             try clear hx113_1
             try clear hx114_0
             try clear hx114_1
             try clear hx114_2
             try clear hx120_0
             try clear hx120_1
             try clear hx121_0
             try clear hx121_1
             try clear p1
             try clear p11
             try clear p111
             try clear p112
             try clear p113
             try clear p114
             try clear p12
             try clear p120
             try clear p121
             try clear p2
             try clear p6
             try clear q1
             try clear q11
             try clear q111
             try clear q112
             try clear q113
             try clear q114
             try clear q12
             try clear q120
             try clear q121
             obtain ⟨x15_5, rfl, HA, HK5, HO_14, BK101, BK102, HB⟩ := hrel
             cases gk with
             | zero => exact absurd HA.out (by simp [w04_ObjectWants.l1])
             | succ k5 =>
              have H := HA.out
              clear HA
              simp only [w04_ObjectWants.l1] at H
              by_cases c61 : x15_5 < (l1_1.length : Int)
              ·
               as_aux_lemma =>
               rw [if_pos c61] at H
               have c61b0 : decide (x15_5 < (l1_1.length : Int)) = true := decide_eq_true c61
               clear c61
               obtain ⟨ji62, hji62⟩ : ∃ j_ : Int, (wrap64 (x15_5 + 1)) = j_ := ⟨_, rfl⟩
               replace H : (if 0 ≤ (ji62) then (if (ji62) < (t117.length : Int) then (if 0 ≤ x15_5 then (if ((rd_T58 t117 (ji62)).f0).toList = (rdOf ByteArray.empty l1_1 x15_5).toList then (if ((rd_T58 t117 (ji62)).f1) = 3 then (w04_ObjectWants.l1 k5 t103 t117 ji62 a1_0 l1_1 a1_2 a1_3 a2_0 a2_1 a2_2 a2_3) else (some false)) else (some false)) else (none)) else (none)) else (none)) = some r := by first | (rw [hji62] at H; exact H) | (simp only [hji62] at H ⊢; exact H)
               have hji62w : (IntKind.i64.wrap (x15_5 + 1)) = ji62 := (i64_w _).trans hji62
               by_cases c63 : 0 ≤ (ji62)
               ·
                as_aux_lemma =>
                rw [if_pos c63] at H
                have c63b0 : decide (0 ≤ (ji62)) = true := decide_eq_true c63
                clear c63
                by_cases c64 : (ji62) < (t117.length : Int)
                ·
                 as_aux_lemma =>
                 rw [if_pos c64] at H
                 have c64b0 : decide ((ji62) < (t117.length : Int)) = true := decide_eq_true c64
                 clear c64
                 by_cases c65 : 0 ≤ x15_5
                 ·
                  as_aux_lemma =>
                  rw [if_pos c65] at H
                  have c65b0 : decide (0 ≤ x15_5) = true := decide_eq_true c65
                  clear c65
                  by_cases c66 : ((rd_T58 t117 (ji62)).f0).toList = (rdOf ByteArray.empty l1_1 x15_5).toList
                  ·
                   as_aux_lemma =>
                   rw [if_pos c66] at H
                   have c66b0 : (((rd_T58 t117 (ji62)).f0).toList == (rdOf ByteArray.empty l1_1 x15_5).toList) = true := beq_iff_eq.mpr c66
                   have c66b1 : (((rd_T58 t117 (ji62)).f0).toList != (rdOf ByteArray.empty l1_1 x15_5).toList) = false := bne_eq_false_iff_eq.mpr c66
                   clear c66
                   by_cases c67 : ((rd_T58 t117 (ji62)).f1) = 3
                   ·
                    as_aux_lemma =>
                    rw [if_pos c67] at H
                    have c67b0 : (((rd_T58 t117 (ji62)).f1) == 3) = true := beq_iff_eq.mpr c67
                    have c67b1 : (((rd_T58 t117 (ji62)).f1) != 3) = false := bne_eq_false_iff_eq.mpr c67
                    clear c67
                    have H' := Aside0.mk H
                    clear H
                    have hnb68 := NB101_102.out
                    have hnc68 := NB102_101.out
                    have hcz69_0 : wr.cell? ⟨gb101, 0, none⟩ = some (.string a1_0) := (blk_cell BK101.out 0).trans rfl
                    have hcz69_1 : wr.cell? ⟨gb101, 1, none⟩ = some (.slice A1_1 l1_1.length c1_1) := (blk_cell BK101.out 1).trans rfl
                    have hcz69_2 : wr.cell? ⟨gb101, 2, none⟩ = some (.string a1_2) := (blk_cell BK101.out 2).trans rfl
                    have hcz69_3 : wr.cell? ⟨gb101, 3, none⟩ = some (.string a1_3) := (blk_cell BK101.out 3).trans rfl
                    have hfz69_0 := blk_frozen BK101.out 0
                    have hfz69_1 := blk_frozen BK101.out 1
                    have hfz69_2 := blk_frozen BK101.out 2
                    have hfz69_3 := blk_frozen BK101.out 3
                    obtain ⟨Ao70, co70, eo70⟩ := Kd.R_slice HO_14.out
                    subst eo70
                    have p122 : 0 ≤ ((ji62) : Int) := oda_
                    have q122 : (ji62) < (t117.length : Int) := oda_
                    obtain ⟨ad122, e122, hx122_0, hx122_1⟩ := at_T58 (Kd.R_reads' HO_14.out).2.2 (ji62) p122 q122
                    cases e122
                    replace p122 := eq_true p122
                    replace q122 := eq_true q122
                    have p123 : 0 ≤ (x15_5 : Int) := oda_
                    have q123 : x15_5 < (l1_1.length : Int) := oda_
                    obtain ⟨ad123, e123, hx123_0⟩ := Kd.at_string HR1_1.out x15_5 p123 q123
                    cases e123
                    replace hx123_0 := (HB.out.cell (World.block_lt_of_cell? w _ hx123_0)).trans hx123_0
                    replace p123 := eq_true p123
                    replace q123 := eq_true q123
                    have p124 : 0 ≤ ((ji62) : Int) := oda_
                    have q124 : (ji62) < (t117.length : Int) := oda_
                    obtain ⟨ad124, e124, hx124_0, hx124_1⟩ := at_T58 (Kd.R_reads' HO_14.out).2.2 (ji62) p124 q124
                    obtain rfl : ad122 = ad124 := (by injection e124)
                    replace p124 := eq_true p124
                    replace q124 := eq_true q124
                    go_wp2
                    repeat (go_quiet (fail); try go_wp2)
                    go_roundg k5
                    case measure => have := HJ4.out; have := HJ25.out; have := HJ29.out; have := HJ42.out; have := HK5.out; omega
                    case rel => exact ⟨(ji62), (by first | rfl | (simp; done) | (simp only [← hji62] <;> (first | rfl | simp)) | (simp [*]; done)), H', ⟨by have := HJ4.out; have := HJ25.out; have := HJ29.out; have := HJ42.out; have := HK5.out; omega⟩, ⟨o5_⟩, ⟨o3_⟩, ⟨o4_⟩, ⟨o1_⟩⟩
                   ·
                    as_aux_lemma =>
                    rw [if_neg c67] at H
                    have c67b0 : (((rd_T58 t117 (ji62)).f1) == 3) = false := beq_eq_false_iff_ne.mpr c67
                    have c67b1 : (((rd_T58 t117 (ji62)).f1) != 3) = true := bne_iff_ne.mpr c67
                    obtain rfl := Option.some.inj H
                    have hnb71 := NB101_102.out
                    have hnc71 := NB102_101.out
                    have hcz72_0 : wr.cell? ⟨gb101, 0, none⟩ = some (.string a1_0) := (blk_cell BK101.out 0).trans rfl
                    have hcz72_1 : wr.cell? ⟨gb101, 1, none⟩ = some (.slice A1_1 l1_1.length c1_1) := (blk_cell BK101.out 1).trans rfl
                    have hcz72_2 : wr.cell? ⟨gb101, 2, none⟩ = some (.string a1_2) := (blk_cell BK101.out 2).trans rfl
                    have hcz72_3 : wr.cell? ⟨gb101, 3, none⟩ = some (.string a1_3) := (blk_cell BK101.out 3).trans rfl
                    have hfz72_0 := blk_frozen BK101.out 0
                    have hfz72_1 := blk_frozen BK101.out 1
                    have hfz72_2 := blk_frozen BK101.out 2
                    have hfz72_3 := blk_frozen BK101.out 3
                    obtain ⟨Ao73, co73, eo73⟩ := Kd.R_slice HO_14.out
                    subst eo73
                    have p122 : 0 ≤ ((ji62) : Int) := oda_
                    have q122 : (ji62) < (t117.length : Int) := oda_
                    obtain ⟨ad122, e122, hx122_0, hx122_1⟩ := at_T58 (Kd.R_reads' HO_14.out).2.2 (ji62) p122 q122
                    cases e122
                    replace p122 := eq_true p122
                    replace q122 := eq_true q122
                    have p123 : 0 ≤ (x15_5 : Int) := oda_
                    have q123 : x15_5 < (l1_1.length : Int) := oda_
                    obtain ⟨ad123, e123, hx123_0⟩ := Kd.at_string HR1_1.out x15_5 p123 q123
                    cases e123
                    replace hx123_0 := (HB.out.cell (World.block_lt_of_cell? w _ hx123_0)).trans hx123_0
                    replace p123 := eq_true p123
                    replace q123 := eq_true q123
                    have p124 : 0 ≤ ((ji62) : Int) := oda_
                    have q124 : (ji62) < (t117.length : Int) := oda_
                    obtain ⟨ad124, e124, hx124_0, hx124_1⟩ := at_T58 (Kd.R_reads' HO_14.out).2.2 (ji62) p124 q124
                    obtain rfl : ad122 = ad124 := (by injection e124)
                    replace p124 := eq_true p124
                    replace q124 := eq_true q124
                    go_wp2
                    repeat (go_quiet (fail); try go_wp2)
                    go_ret
                    exact ⟨by first | rfl | (simp [errW_none, errW_some] <;> rfl) | (simp only [← hji62]; first | rfl | (simp [errW_none, errW_some] <;> rfl)) | (simp [*, errW_none, errW_some] <;> rfl), o1_⟩
                  ·
                   as_aux_lemma =>
                   rw [if_neg c66] at H
                   have c66b0 : (((rd_T58 t117 (ji62)).f0).toList == (rdOf ByteArray.empty l1_1 x15_5).toList) = false := beq_eq_false_iff_ne.mpr c66
                   have c66b1 : (((rd_T58 t117 (ji62)).f0).toList != (rdOf ByteArray.empty l1_1 x15_5).toList) = true := bne_iff_ne.mpr c66
                   obtain rfl := Option.some.inj H
                   have hnb74 := NB101_102.out
                   have hnc74 := NB102_101.out
                   have hcz75_0 : wr.cell? ⟨gb101, 0, none⟩ = some (.string a1_0) := (blk_cell BK101.out 0).trans rfl
                   have hcz75_1 : wr.cell? ⟨gb101, 1, none⟩ = some (.slice A1_1 l1_1.length c1_1) := (blk_cell BK101.out 1).trans rfl
                   have hcz75_2 : wr.cell? ⟨gb101, 2, none⟩ = some (.string a1_2) := (blk_cell BK101.out 2).trans rfl
                   have hcz75_3 : wr.cell? ⟨gb101, 3, none⟩ = some (.string a1_3) := (blk_cell BK101.out 3).trans rfl
                   have hfz75_0 := blk_frozen BK101.out 0
                   have hfz75_1 := blk_frozen BK101.out 1
                   have hfz75_2 := blk_frozen BK101.out 2
                   have hfz75_3 := blk_frozen BK101.out 3
                   obtain ⟨Ao76, co76, eo76⟩ := Kd.R_slice HO_14.out
                   subst eo76
                   have p122 : 0 ≤ ((ji62) : Int) := oda_
                   have q122 : (ji62) < (t117.length : Int) := oda_
                   obtain ⟨ad122, e122, hx122_0, hx122_1⟩ := at_T58 (Kd.R_reads' HO_14.out).2.2 (ji62) p122 q122
                   cases e122
                   replace p122 := eq_true p122
                   replace q122 := eq_true q122
                   have p123 : 0 ≤ (x15_5 : Int) := oda_
                   have q123 : x15_5 < (l1_1.length : Int) := oda_
                   obtain ⟨ad123, e123, hx123_0⟩ := Kd.at_string HR1_1.out x15_5 p123 q123
                   cases e123
                   replace hx123_0 := (HB.out.cell (World.block_lt_of_cell? w _ hx123_0)).trans hx123_0
                   replace p123 := eq_true p123
                   replace q123 := eq_true q123
                   go_wp2
                   repeat (go_quiet (fail); try go_wp2)
                   go_ret
                   exact ⟨by first | rfl | (simp [errW_none, errW_some] <;> rfl) | (simp only [← hji62]; first | rfl | (simp [errW_none, errW_some] <;> rfl)) | (simp [*, errW_none, errW_some] <;> rfl), o1_⟩
                 ·
                  as_aux_lemma =>
                  rw [if_neg c65] at H
                  exact absurd H (by simp)
                ·
                 as_aux_lemma =>
                 rw [if_neg c64] at H
                 exact absurd H (by simp)
               ·
                as_aux_lemma =>
                rw [if_neg c63] at H
                exact absurd H (by simp)
              ·
               as_aux_lemma =>
               rw [if_neg c61] at H
               have c61b0 : decide (x15_5 < (l1_1.length : Int)) = false := decide_eq_false c61
               clear c61
               replace H := Option.bind_eq_some_iff.mp H
               obtain ⟨⟨t125, t126⟩, A770, H⟩ := H
               replace H : ((Ob.Gv.wants.f 4 t125).bind fun t127 => (if t103 = true then (if t126 = true then (if (t127.length : Int) = 1 then (if 0 < (t127.length : Int) then (if ((rd_T58 t127 0).f0).toList = a2_0.toList then (some (((rd_T58 t127 0).f1) == a2_1)) else (some false)) else (none)) else (some false)) else (some true)) else (some false))) = some r := H
               have A77 := Aside0.mk A770
               clear A770
               replace H := Option.bind_eq_some_iff.mp H
               obtain ⟨t127, A780, H⟩ := H
               replace H : (if t103 = true then (if t126 = true then (if (t127.length : Int) = 1 then (if 0 < (t127.length : Int) then (if ((rd_T58 t127 0).f0).toList = a2_0.toList then (some (((rd_T58 t127 0).f1) == a2_1)) else (some false)) else (none)) else (some false)) else (some true)) else (some false)) = some r := H
               have A78 := Aside0.mk A780
               clear A780
               by_cases c79 : t103 = true
               ·
                as_aux_lemma =>
                subst c79
                have H1 : (if t126 = true then (if (t127.length : Int) = 1 then (if 0 < (t127.length : Int) then (if ((rd_T58 t127 0).f0).toList = a2_0.toList then (some (((rd_T58 t127 0).f1) == a2_1)) else (some false)) else (none)) else (some false)) else (some true)) = some r := by rw [if_pos rfl] at H; exact H
                clear H
                have H := H1
                clear H1
                by_cases c80 : t126 = true
                ·
                 as_aux_lemma =>
                 subst c80
                 have H1 : (if (t127.length : Int) = 1 then (if 0 < (t127.length : Int) then (if ((rd_T58 t127 0).f0).toList = a2_0.toList then (some (((rd_T58 t127 0).f1) == a2_1)) else (some false)) else (none)) else (some false)) = some r := by rw [if_pos rfl] at H; exact H
                 clear H
                 have H := H1
                 clear H1
                 by_cases c81 : (t127.length : Int) = 1
                 ·
                  as_aux_lemma =>
                  rw [if_pos c81] at H
                  have c81b0 : ((t127.length : Int) == 1) = true := beq_iff_eq.mpr c81
                  have c81b1 : ((t127.length : Int) != 1) = false := bne_eq_false_iff_eq.mpr c81
                  clear c81
                  by_cases c82 : 0 < (t127.length : Int)
                  ·
                   as_aux_lemma =>
                   rw [if_pos c82] at H
                   have c82b0 : decide (0 < (t127.length : Int)) = true := decide_eq_true c82
                   have c82b1 : decide (0 < t127.length) = true := decide_eq_true (by omega)
                   clear c82
                   by_cases c83 : ((rd_T58 t127 0).f0).toList = a2_0.toList
                   ·
                    as_aux_lemma =>
                    rw [if_pos c83] at H
                    have c83b0 : (((rd_T58 t127 0).f0).toList == a2_0.toList) = true := beq_iff_eq.mpr c83
                    have c83b1 : (((rd_T58 t127 0).f0).toList != a2_0.toList) = false := bne_eq_false_iff_eq.mpr c83
                    clear c83
                    obtain rfl := Option.some.inj H
                    have hnb84 := NB101_102.out
                    have hnc84 := NB102_101.out
                    have hcz85_0 : wr.cell? ⟨gb101, 0, none⟩ = some (.string a1_0) := (blk_cell BK101.out 0).trans rfl
                    have hcz85_1 : wr.cell? ⟨gb101, 1, none⟩ = some (.slice A1_1 l1_1.length c1_1) := (blk_cell BK101.out 1).trans rfl
                    have hcz85_2 : wr.cell? ⟨gb101, 2, none⟩ = some (.string a1_2) := (blk_cell BK101.out 2).trans rfl
                    have hcz85_3 : wr.cell? ⟨gb101, 3, none⟩ = some (.string a1_3) := (blk_cell BK101.out 3).trans rfl
                    have hfz85_0 := blk_frozen BK101.out 0
                    have hfz85_1 := blk_frozen BK101.out 1
                    have hfz85_2 := blk_frozen BK101.out 2
                    have hfz85_3 := blk_frozen BK101.out 3
                    have hcz86_0 : wr.cell? ⟨gb102, 0, none⟩ = some (.string a2_0) := (blk_cell BK102.out 0).trans rfl
                    have hcz86_1 : wr.cell? ⟨gb102, 1, none⟩ = some (.int .i64 a2_1) := (blk_cell BK102.out 1).trans rfl
                    have hcz86_2 : wr.cell? ⟨gb102, 2, none⟩ = some (.string a2_2) := (blk_cell BK102.out 2).trans rfl
                    have hcz86_3 : wr.cell? ⟨gb102, 3, none⟩ = some (.string a2_3) := (blk_cell BK102.out 3).trans rfl
                    have hfz86_0 := blk_frozen BK102.out 0
                    have hfz86_1 := blk_frozen BK102.out 1
                    have hfz86_2 := blk_frozen BK102.out 2
                    have hfz86_3 := blk_frozen BK102.out 3
                    go_wp2_with (first | (go_at_call 27; (with_reducible refine (Ob.Gv.putLabel.calls a2_0 a2_1 a2_2 a2_3 t125 true _ A77.out).mono ?_); rintro e w87 ⟨rfl, hb⟩; have n0_ := Aside0.mk (Kd.R_below o5_ hb); have n1_ := Aside0.mk (blk_below (g := gb101) (o := .cells #[.string a1_0, .slice A1_1 l1_1.length c1_1, .string a1_2, .string a1_3] 40 (0, 0)) o3_ hb); have n2_ := Aside0.mk (blk_below (g := gb102) (o := .cells #[.string a2_0, .int .i64 a2_1, .string a2_2, .string a2_3] 42 (0, 0)) o4_ hb); have n3_ := Aside0.mk (below_step o1_ hb); clear HO_14; clear BK101; clear BK102; clear HB; have HO_14 := n0_; have BK101 := n1_; have BK102 := n2_; have HB := n3_; clear n0_ n1_ n2_ n3_; (try clear hb); (try clear hb2); (try clear hk); (try clear hi)) | (go_at_call 16; (with_reducible refine (Ob.Gv.wants.calls 4 t125 t127 _ A78.out (HTAB_.out _ (by first | exact Below.refl _ _ | (with_reducible exact Aside0.out (by assumption)) | repeat (first | (with_reducible exact Aside0.out (by assumption)) | apply below_alloc | apply pw_below_drewN | apply below_drew1)))).mono ?_); rintro e w88 ⟨v128, rfl, ho0, hb⟩; have n0_ := Aside0.mk (Kd.R_elder' o5_ (Kd.R_base ho0) hb); have n1_ := Aside0.mk (Kd.R_lower (Kd.R_new' ho0 (Kd.R_lt o5_)) (below_size o1_)); have n2_ := Aside0.mk (blk_below (g := gb101) (o := .cells #[.string a1_0, .slice A1_1 l1_1.length c1_1, .string a1_2, .string a1_3] 40 (0, 0)) o3_ hb); have n3_ := Aside0.mk (blk_below (g := gb102) (o := .cells #[.string a2_0, .int .i64 a2_1, .string a2_2, .string a2_3] 42 (0, 0)) o4_ hb); have n4_ := Aside0.mk (below_step o1_ hb); clear HO_14; clear BK101; clear BK102; clear HB; have HO_14 := n0_; have HO129 := n1_; have BK101 := n2_; have BK102 := n3_; have HB := n4_; clear n0_ n1_ n2_ n3_ n4_; (try clear hb); (try clear hb2); (try clear hk); (try clear hi); (try clear ho0); obtain ⟨Ao89, co89, eo89⟩ := Kd.R_slice HO129.out; subst eo89; have p130 : 0 ≤ (0 : Int) := (by omega); have q130 : 0 < (t127.length : Int) := oda_; obtain ⟨ad130, e130, hx130_0, hx130_1⟩ := at_T58 (Kd.R_reads' HO129.out).2.2 0 p130 q130; cases e130; have qi130 : (0 < t127.length) = True := eq_true (by omega); (try rw [show ((0 : Int)).toNat = 0 from rfl] at hx130_0); (try rw [show 0 * 2 = 0 from rfl] at hx130_0); (try rw [Addr.add_zero'] at hx130_0); (try rw [show ((0 : Int)).toNat = 0 from rfl] at hx130_1); (try rw [show 0 * 2 = 0 from rfl] at hx130_1); (try rw [Addr.add_zero'] at hx130_1); replace p130 := eq_true p130; replace q130 := eq_true q130; have hcz90_0 : w88.cell? ⟨gb102, 0, none⟩ = some (.string a2_0) := (blk_cell BK102.out 0).trans rfl; have hcz90_1 : w88.cell? ⟨gb102, 1, none⟩ = some (.int .i64 a2_1) := (blk_cell BK102.out 1).trans rfl; have hcz90_2 : w88.cell? ⟨gb102, 2, none⟩ = some (.string a2_2) := (blk_cell BK102.out 2).trans rfl; have hcz90_3 : w88.cell? ⟨gb102, 3, none⟩ = some (.string a2_3) := (blk_cell BK102.out 3).trans rfl; have hfz90_0 := blk_frozen BK102.out 0; have hfz90_1 := blk_frozen BK102.out 1; have hfz90_2 := blk_frozen BK102.out 2; have hfz90_3 := blk_frozen BK102.out 3; have p131 : 0 ≤ (0 : Int) := (by omega); have q131 : 0 < (t127.length : Int) := oda_; obtain ⟨ad131, e131, hx131_0, hx131_1⟩ := at_T58 (Kd.R_reads' HO129.out).2.2 0 p131 q131; obtain rfl : ad130 = ad131 := (by injection e131); have qi131 : (0 < t127.length) = True := eq_true (by omega); (try rw [show ((0 : Int)).toNat = 0 from rfl] at hx131_0); (try rw [show 0 * 2 = 0 from rfl] at hx131_0); (try rw [Addr.add_zero'] at hx131_0); (try rw [show ((0 : Int)).toNat = 0 from rfl] at hx131_1); (try rw [show 0 * 2 = 0 from rfl] at hx131_1); (try rw [Addr.add_zero'] at hx131_1); replace p131 := eq_true p131; replace q131 := eq_true q131))
                    repeat (go_quiet (first | (go_at_call 27; (with_reducible refine (Ob.Gv.putLabel.calls a2_0 a2_1 a2_2 a2_3 t125 true _ A77.out).mono ?_); rintro e w87 ⟨rfl, hb⟩; have n0_ := Aside0.mk (Kd.R_below o5_ hb); have n1_ := Aside0.mk (blk_below (g := gb101) (o := .cells #[.string a1_0, .slice A1_1 l1_1.length c1_1, .string a1_2, .string a1_3] 40 (0, 0)) o3_ hb); have n2_ := Aside0.mk (blk_below (g := gb102) (o := .cells #[.string a2_0, .int .i64 a2_1, .string a2_2, .string a2_3] 42 (0, 0)) o4_ hb); have n3_ := Aside0.mk (below_step o1_ hb); clear HO_14; clear BK101; clear BK102; clear HB; have HO_14 := n0_; have BK101 := n1_; have BK102 := n2_; have HB := n3_; clear n0_ n1_ n2_ n3_; (try clear hb); (try clear hb2); (try clear hk); (try clear hi)) | (go_at_call 16; (with_reducible refine (Ob.Gv.wants.calls 4 t125 t127 _ A78.out (HTAB_.out _ (by first | exact Below.refl _ _ | (with_reducible exact Aside0.out (by assumption)) | repeat (first | (with_reducible exact Aside0.out (by assumption)) | apply below_alloc | apply pw_below_drewN | apply below_drew1)))).mono ?_); rintro e w88 ⟨v128, rfl, ho0, hb⟩; have n0_ := Aside0.mk (Kd.R_elder' o5_ (Kd.R_base ho0) hb); have n1_ := Aside0.mk (Kd.R_lower (Kd.R_new' ho0 (Kd.R_lt o5_)) (below_size o1_)); have n2_ := Aside0.mk (blk_below (g := gb101) (o := .cells #[.string a1_0, .slice A1_1 l1_1.length c1_1, .string a1_2, .string a1_3] 40 (0, 0)) o3_ hb); have n3_ := Aside0.mk (blk_below (g := gb102) (o := .cells #[.string a2_0, .int .i64 a2_1, .string a2_2, .string a2_3] 42 (0, 0)) o4_ hb); have n4_ := Aside0.mk (below_step o1_ hb); clear HO_14; clear BK101; clear BK102; clear HB; have HO_14 := n0_; have HO129 := n1_; have BK101 := n2_; have BK102 := n3_; have HB := n4_; clear n0_ n1_ n2_ n3_ n4_; (try clear hb); (try clear hb2); (try clear hk); (try clear hi); (try clear ho0); obtain ⟨Ao89, co89, eo89⟩ := Kd.R_slice HO129.out; subst eo89; have p130 : 0 ≤ (0 : Int) := (by omega); have q130 : 0 < (t127.length : Int) := oda_; obtain ⟨ad130, e130, hx130_0, hx130_1⟩ := at_T58 (Kd.R_reads' HO129.out).2.2 0 p130 q130; cases e130; have qi130 : (0 < t127.length) = True := eq_true (by omega); (try rw [show ((0 : Int)).toNat = 0 from rfl] at hx130_0); (try rw [show 0 * 2 = 0 from rfl] at hx130_0); (try rw [Addr.add_zero'] at hx130_0); (try rw [show ((0 : Int)).toNat = 0 from rfl] at hx130_1); (try rw [show 0 * 2 = 0 from rfl] at hx130_1); (try rw [Addr.add_zero'] at hx130_1); replace p130 := eq_true p130; replace q130 := eq_true q130; have hcz90_0 : w88.cell? ⟨gb102, 0, none⟩ = some (.string a2_0) := (blk_cell BK102.out 0).trans rfl; have hcz90_1 : w88.cell? ⟨gb102, 1, none⟩ = some (.int .i64 a2_1) := (blk_cell BK102.out 1).trans rfl; have hcz90_2 : w88.cell? ⟨gb102, 2, none⟩ = some (.string a2_2) := (blk_cell BK102.out 2).trans rfl; have hcz90_3 : w88.cell? ⟨gb102, 3, none⟩ = some (.string a2_3) := (blk_cell BK102.out 3).trans rfl; have hfz90_0 := blk_frozen BK102.out 0; have hfz90_1 := blk_frozen BK102.out 1; have hfz90_2 := blk_frozen BK102.out 2; have hfz90_3 := blk_frozen BK102.out 3; have p131 : 0 ≤ (0 : Int) := (by omega); have q131 : 0 < (t127.length : Int) := oda_; obtain ⟨ad131, e131, hx131_0, hx131_1⟩ := at_T58 (Kd.R_reads' HO129.out).2.2 0 p131 q131; obtain rfl : ad130 = ad131 := (by injection e131); have qi131 : (0 < t127.length) = True := eq_true (by omega); (try rw [show ((0 : Int)).toNat = 0 from rfl] at hx131_0); (try rw [show 0 * 2 = 0 from rfl] at hx131_0); (try rw [Addr.add_zero'] at hx131_0); (try rw [show ((0 : Int)).toNat = 0 from rfl] at hx131_1); (try rw [show 0 * 2 = 0 from rfl] at hx131_1); (try rw [Addr.add_zero'] at hx131_1); replace p131 := eq_true p131; replace q131 := eq_true q131)); try go_wp2_with (first | (go_at_call 27; (with_reducible refine (Ob.Gv.putLabel.calls a2_0 a2_1 a2_2 a2_3 t125 true _ A77.out).mono ?_); rintro e w87 ⟨rfl, hb⟩; have n0_ := Aside0.mk (Kd.R_below o5_ hb); have n1_ := Aside0.mk (blk_below (g := gb101) (o := .cells #[.string a1_0, .slice A1_1 l1_1.length c1_1, .string a1_2, .string a1_3] 40 (0, 0)) o3_ hb); have n2_ := Aside0.mk (blk_below (g := gb102) (o := .cells #[.string a2_0, .int .i64 a2_1, .string a2_2, .string a2_3] 42 (0, 0)) o4_ hb); have n3_ := Aside0.mk (below_step o1_ hb); clear HO_14; clear BK101; clear BK102; clear HB; have HO_14 := n0_; have BK101 := n1_; have BK102 := n2_; have HB := n3_; clear n0_ n1_ n2_ n3_; (try clear hb); (try clear hb2); (try clear hk); (try clear hi)) | (go_at_call 16; (with_reducible refine (Ob.Gv.wants.calls 4 t125 t127 _ A78.out (HTAB_.out _ (by first | exact Below.refl _ _ | (with_reducible exact Aside0.out (by assumption)) | repeat (first | (with_reducible exact Aside0.out (by assumption)) | apply below_alloc | apply pw_below_drewN | apply below_drew1)))).mono ?_); rintro e w88 ⟨v128, rfl, ho0, hb⟩; have n0_ := Aside0.mk (Kd.R_elder' o5_ (Kd.R_base ho0) hb); have n1_ := Aside0.mk (Kd.R_lower (Kd.R_new' ho0 (Kd.R_lt o5_)) (below_size o1_)); have n2_ := Aside0.mk (blk_below (g := gb101) (o := .cells #[.string a1_0, .slice A1_1 l1_1.length c1_1, .string a1_2, .string a1_3] 40 (0, 0)) o3_ hb); have n3_ := Aside0.mk (blk_below (g := gb102) (o := .cells #[.string a2_0, .int .i64 a2_1, .string a2_2, .string a2_3] 42 (0, 0)) o4_ hb); have n4_ := Aside0.mk (below_step o1_ hb); clear HO_14; clear BK101; clear BK102; clear HB; have HO_14 := n0_; have HO129 := n1_; have BK101 := n2_; have BK102 := n3_; have HB := n4_; clear n0_ n1_ n2_ n3_ n4_; (try clear hb); (try clear hb2); (try clear hk); (try clear hi); (try clear ho0); obtain ⟨Ao89, co89, eo89⟩ := Kd.R_slice HO129.out; subst eo89; have p130 : 0 ≤ (0 : Int) := (by omega); have q130 : 0 < (t127.length : Int) := oda_; obtain ⟨ad130, e130, hx130_0, hx130_1⟩ := at_T58 (Kd.R_reads' HO129.out).2.2 0 p130 q130; cases e130; have qi130 : (0 < t127.length) = True := eq_true (by omega); (try rw [show ((0 : Int)).toNat = 0 from rfl] at hx130_0); (try rw [show 0 * 2 = 0 from rfl] at hx130_0); (try rw [Addr.add_zero'] at hx130_0); (try rw [show ((0 : Int)).toNat = 0 from rfl] at hx130_1); (try rw [show 0 * 2 = 0 from rfl] at hx130_1); (try rw [Addr.add_zero'] at hx130_1); replace p130 := eq_true p130; replace q130 := eq_true q130; have hcz90_0 : w88.cell? ⟨gb102, 0, none⟩ = some (.string a2_0) := (blk_cell BK102.out 0).trans rfl; have hcz90_1 : w88.cell? ⟨gb102, 1, none⟩ = some (.int .i64 a2_1) := (blk_cell BK102.out 1).trans rfl; have hcz90_2 : w88.cell? ⟨gb102, 2, none⟩ = some (.string a2_2) := (blk_cell BK102.out 2).trans rfl; have hcz90_3 : w88.cell? ⟨gb102, 3, none⟩ = some (.string a2_3) := (blk_cell BK102.out 3).trans rfl; have hfz90_0 := blk_frozen BK102.out 0; have hfz90_1 := blk_frozen BK102.out 1; have hfz90_2 := blk_frozen BK102.out 2; have hfz90_3 := blk_frozen BK102.out 3; have p131 : 0 ≤ (0 : Int) := (by omega); have q131 : 0 < (t127.length : Int) := oda_; obtain ⟨ad131, e131, hx131_0, hx131_1⟩ := at_T58 (Kd.R_reads' HO129.out).2.2 0 p131 q131; obtain rfl : ad130 = ad131 := (by injection e131); have qi131 : (0 < t127.length) = True := eq_true (by omega); (try rw [show ((0 : Int)).toNat = 0 from rfl] at hx131_0); (try rw [show 0 * 2 = 0 from rfl] at hx131_0); (try rw [Addr.add_zero'] at hx131_0); (try rw [show ((0 : Int)).toNat = 0 from rfl] at hx131_1); (try rw [show 0 * 2 = 0 from rfl] at hx131_1); (try rw [Addr.add_zero'] at hx131_1); replace p131 := eq_true p131; replace q131 := eq_true q131)))
                    go_ret
                    exact ⟨er_, o1_⟩
                   ·
                    as_aux_lemma =>
                    rw [if_neg c83] at H
                    have c83b0 : (((rd_T58 t127 0).f0).toList == a2_0.toList) = false := beq_eq_false_iff_ne.mpr c83
                    have c83b1 : (((rd_T58 t127 0).f0).toList != a2_0.toList) = true := bne_iff_ne.mpr c83
                    obtain rfl := Option.some.inj H
                    have hnb91 := NB101_102.out
                    have hnc91 := NB102_101.out
                    have hcz92_0 : wr.cell? ⟨gb101, 0, none⟩ = some (.string a1_0) := (blk_cell BK101.out 0).trans rfl
                    have hcz92_1 : wr.cell? ⟨gb101, 1, none⟩ = some (.slice A1_1 l1_1.length c1_1) := (blk_cell BK101.out 1).trans rfl
                    have hcz92_2 : wr.cell? ⟨gb101, 2, none⟩ = some (.string a1_2) := (blk_cell BK101.out 2).trans rfl
                    have hcz92_3 : wr.cell? ⟨gb101, 3, none⟩ = some (.string a1_3) := (blk_cell BK101.out 3).trans rfl
                    have hfz92_0 := blk_frozen BK101.out 0
                    have hfz92_1 := blk_frozen BK101.out 1
                    have hfz92_2 := blk_frozen BK101.out 2
                    have hfz92_3 := blk_frozen BK101.out 3
                    have hcz93_0 : wr.cell? ⟨gb102, 0, none⟩ = some (.string a2_0) := (blk_cell BK102.out 0).trans rfl
                    have hcz93_1 : wr.cell? ⟨gb102, 1, none⟩ = some (.int .i64 a2_1) := (blk_cell BK102.out 1).trans rfl
                    have hcz93_2 : wr.cell? ⟨gb102, 2, none⟩ = some (.string a2_2) := (blk_cell BK102.out 2).trans rfl
                    have hcz93_3 : wr.cell? ⟨gb102, 3, none⟩ = some (.string a2_3) := (blk_cell BK102.out 3).trans rfl
                    have hfz93_0 := blk_frozen BK102.out 0
                    have hfz93_1 := blk_frozen BK102.out 1
                    have hfz93_2 := blk_frozen BK102.out 2
                    have hfz93_3 := blk_frozen BK102.out 3
                    go_wp2_with (first | (go_at_call 27; (with_reducible refine (Ob.Gv.putLabel.calls a2_0 a2_1 a2_2 a2_3 t125 true _ A77.out).mono ?_); rintro e w94 ⟨rfl, hb⟩; have n0_ := Aside0.mk (Kd.R_below o5_ hb); have n1_ := Aside0.mk (blk_below (g := gb101) (o := .cells #[.string a1_0, .slice A1_1 l1_1.length c1_1, .string a1_2, .string a1_3] 40 (0, 0)) o3_ hb); have n2_ := Aside0.mk (blk_below (g := gb102) (o := .cells #[.string a2_0, .int .i64 a2_1, .string a2_2, .string a2_3] 42 (0, 0)) o4_ hb); have n3_ := Aside0.mk (below_step o1_ hb); clear HO_14; clear BK101; clear BK102; clear HB; have HO_14 := n0_; have BK101 := n1_; have BK102 := n2_; have HB := n3_; clear n0_ n1_ n2_ n3_; (try clear hb); (try clear hb2); (try clear hk); (try clear hi)) | (go_at_call 16; (with_reducible refine (Ob.Gv.wants.calls 4 t125 t127 _ A78.out (HTAB_.out _ (by first | exact Below.refl _ _ | (with_reducible exact Aside0.out (by assumption)) | repeat (first | (with_reducible exact Aside0.out (by assumption)) | apply below_alloc | apply pw_below_drewN | apply below_drew1)))).mono ?_); rintro e w95 ⟨v128, rfl, ho0, hb⟩; have n0_ := Aside0.mk (Kd.R_elder' o5_ (Kd.R_base ho0) hb); have n1_ := Aside0.mk (Kd.R_lower (Kd.R_new' ho0 (Kd.R_lt o5_)) (below_size o1_)); have n2_ := Aside0.mk (blk_below (g := gb101) (o := .cells #[.string a1_0, .slice A1_1 l1_1.length c1_1, .string a1_2, .string a1_3] 40 (0, 0)) o3_ hb); have n3_ := Aside0.mk (blk_below (g := gb102) (o := .cells #[.string a2_0, .int .i64 a2_1, .string a2_2, .string a2_3] 42 (0, 0)) o4_ hb); have n4_ := Aside0.mk (below_step o1_ hb); clear HO_14; clear BK101; clear BK102; clear HB; have HO_14 := n0_; have HO129 := n1_; have BK101 := n2_; have BK102 := n3_; have HB := n4_; clear n0_ n1_ n2_ n3_ n4_; (try clear hb); (try clear hb2); (try clear hk); (try clear hi); (try clear ho0); obtain ⟨Ao96, co96, eo96⟩ := Kd.R_slice HO129.out; subst eo96; have p130 : 0 ≤ (0 : Int) := (by omega); have q130 : 0 < (t127.length : Int) := oda_; obtain ⟨ad130, e130, hx130_0, hx130_1⟩ := at_T58 (Kd.R_reads' HO129.out).2.2 0 p130 q130; cases e130; have qi130 : (0 < t127.length) = True := eq_true (by omega); (try rw [show ((0 : Int)).toNat = 0 from rfl] at hx130_0); (try rw [show 0 * 2 = 0 from rfl] at hx130_0); (try rw [Addr.add_zero'] at hx130_0); (try rw [show ((0 : Int)).toNat = 0 from rfl] at hx130_1); (try rw [show 0 * 2 = 0 from rfl] at hx130_1); (try rw [Addr.add_zero'] at hx130_1); replace p130 := eq_true p130; replace q130 := eq_true q130; have hcz97_0 : w95.cell? ⟨gb102, 0, none⟩ = some (.string a2_0) := (blk_cell BK102.out 0).trans rfl; have hcz97_1 : w95.cell? ⟨gb102, 1, none⟩ = some (.int .i64 a2_1) := (blk_cell BK102.out 1).trans rfl; have hcz97_2 : w95.cell? ⟨gb102, 2, none⟩ = some (.string a2_2) := (blk_cell BK102.out 2).trans rfl; have hcz97_3 : w95.cell? ⟨gb102, 3, none⟩ = some (.string a2_3) := (blk_cell BK102.out 3).trans rfl; have hfz97_0 := blk_frozen BK102.out 0; have hfz97_1 := blk_frozen BK102.out 1; have hfz97_2 := blk_frozen BK102.out 2; have hfz97_3 := blk_frozen BK102.out 3))
                    repeat (go_quiet (first | (go_at_call 27; (with_reducible refine (Ob.Gv.putLabel.calls a2_0 a2_1 a2_2 a2_3 t125 true _ A77.out).mono ?_); rintro e w94 ⟨rfl, hb⟩; have n0_ := Aside0.mk (Kd.R_below o5_ hb); have n1_ := Aside0.mk (blk_below (g := gb101) (o := .cells #[.string a1_0, .slice A1_1 l1_1.length c1_1, .string a1_2, .string a1_3] 40 (0, 0)) o3_ hb); have n2_ := Aside0.mk (blk_below (g := gb102) (o := .cells #[.string a2_0, .int .i64 a2_1, .string a2_2, .string a2_3] 42 (0, 0)) o4_ hb); have n3_ := Aside0.mk (below_step o1_ hb); clear HO_14; clear BK101; clear BK102; clear HB; have HO_14 := n0_; have BK101 := n1_; have BK102 := n2_; have HB := n3_; clear n0_ n1_ n2_ n3_; (try clear hb); (try clear hb2); (try clear hk); (try clear hi)) | (go_at_call 16; (with_reducible refine (Ob.Gv.wants.calls 4 t125 t127 _ A78.out (HTAB_.out _ (by first | exact Below.refl _ _ | (with_reducible exact Aside0.out (by assumption)) | repeat (first | (with_reducible exact Aside0.out (by assumption)) | apply below_alloc | apply pw_below_drewN | apply below_drew1)))).mono ?_); rintro e w95 ⟨v128, rfl, ho0, hb⟩; have n0_ := Aside0.mk (Kd.R_elder' o5_ (Kd.R_base ho0) hb); have n1_ := Aside0.mk (Kd.R_lower (Kd.R_new' ho0 (Kd.R_lt o5_)) (below_size o1_)); have n2_ := Aside0.mk (blk_below (g := gb101) (o := .cells #[.string a1_0, .slice A1_1 l1_1.length c1_1, .string a1_2, .string a1_3] 40 (0, 0)) o3_ hb); have n3_ := Aside0.mk (blk_below (g := gb102) (o := .cells #[.string a2_0, .int .i64 a2_1, .string a2_2, .string a2_3] 42 (0, 0)) o4_ hb); have n4_ := Aside0.mk (below_step o1_ hb); clear HO_14; clear BK101; clear BK102; clear HB; have HO_14 := n0_; have HO129 := n1_; have BK101 := n2_; have BK102 := n3_; have HB := n4_; clear n0_ n1_ n2_ n3_ n4_; (try clear hb); (try clear hb2); (try clear hk); (try clear hi); (try clear ho0); obtain ⟨Ao96, co96, eo96⟩ := Kd.R_slice HO129.out; subst eo96; have p130 : 0 ≤ (0 : Int) := (by omega); have q130 : 0 < (t127.length : Int) := oda_; obtain ⟨ad130, e130, hx130_0, hx130_1⟩ := at_T58 (Kd.R_reads' HO129.out).2.2 0 p130 q130; cases e130; have qi130 : (0 < t127.length) = True := eq_true (by omega); (try rw [show ((0 : Int)).toNat = 0 from rfl] at hx130_0); (try rw [show 0 * 2 = 0 from rfl] at hx130_0); (try rw [Addr.add_zero'] at hx130_0); (try rw [show ((0 : Int)).toNat = 0 from rfl] at hx130_1); (try rw [show 0 * 2 = 0 from rfl] at hx130_1); (try rw [Addr.add_zero'] at hx130_1); replace p130 := eq_true p130; replace q130 := eq_true q130; have hcz97_0 : w95.cell? ⟨gb102, 0, none⟩ = some (.string a2_0) := (blk_cell BK102.out 0).trans rfl; have hcz97_1 : w95.cell? ⟨gb102, 1, none⟩ = some (.int .i64 a2_1) := (blk_cell BK102.out 1).trans rfl; have hcz97_2 : w95.cell? ⟨gb102, 2, none⟩ = some (.string a2_2) := (blk_cell BK102.out 2).trans rfl; have hcz97_3 : w95.cell? ⟨gb102, 3, none⟩ = some (.string a2_3) := (blk_cell BK102.out 3).trans rfl; have hfz97_0 := blk_frozen BK102.out 0; have hfz97_1 := blk_frozen BK102.out 1; have hfz97_2 := blk_frozen BK102.out 2; have hfz97_3 := blk_frozen BK102.out 3)); try go_wp2_with (first | (go_at_call 27; (with_reducible refine (Ob.Gv.putLabel.calls a2_0 a2_1 a2_2 a2_3 t125 true _ A77.out).mono ?_); rintro e w94 ⟨rfl, hb⟩; have n0_ := Aside0.mk (Kd.R_below o5_ hb); have n1_ := Aside0.mk (blk_below (g := gb101) (o := .cells #[.string a1_0, .slice A1_1 l1_1.length c1_1, .string a1_2, .string a1_3] 40 (0, 0)) o3_ hb); have n2_ := Aside0.mk (blk_below (g := gb102) (o := .cells #[.string a2_0, .int .i64 a2_1, .string a2_2, .string a2_3] 42 (0, 0)) o4_ hb); have n3_ := Aside0.mk (below_step o1_ hb); clear HO_14; clear BK101; clear BK102; clear HB; have HO_14 := n0_; have BK101 := n1_; have BK102 := n2_; have HB := n3_; clear n0_ n1_ n2_ n3_; (try clear hb); (try clear hb2); (try clear hk); (try clear hi)) | (go_at_call 16; (with_reducible refine (Ob.Gv.wants.calls 4 t125 t127 _ A78.out (HTAB_.out _ (by first | exact Below.refl _ _ | (with_reducible exact Aside0.out (by assumption)) | repeat (first | (with_reducible exact Aside0.out (by assumption)) | apply below_alloc | apply pw_below_drewN | apply below_drew1)))).mono ?_); rintro e w95 ⟨v128, rfl, ho0, hb⟩; have n0_ := Aside0.mk (Kd.R_elder' o5_ (Kd.R_base ho0) hb); have n1_ := Aside0.mk (Kd.R_lower (Kd.R_new' ho0 (Kd.R_lt o5_)) (below_size o1_)); have n2_ := Aside0.mk (blk_below (g := gb101) (o := .cells #[.string a1_0, .slice A1_1 l1_1.length c1_1, .string a1_2, .string a1_3] 40 (0, 0)) o3_ hb); have n3_ := Aside0.mk (blk_below (g := gb102) (o := .cells #[.string a2_0, .int .i64 a2_1, .string a2_2, .string a2_3] 42 (0, 0)) o4_ hb); have n4_ := Aside0.mk (below_step o1_ hb); clear HO_14; clear BK101; clear BK102; clear HB; have HO_14 := n0_; have HO129 := n1_; have BK101 := n2_; have BK102 := n3_; have HB := n4_; clear n0_ n1_ n2_ n3_ n4_; (try clear hb); (try clear hb2); (try clear hk); (try clear hi); (try clear ho0); obtain ⟨Ao96, co96, eo96⟩ := Kd.R_slice HO129.out; subst eo96; have p130 : 0 ≤ (0 : Int) := (by omega); have q130 : 0 < (t127.length : Int) := oda_; obtain ⟨ad130, e130, hx130_0, hx130_1⟩ := at_T58 (Kd.R_reads' HO129.out).2.2 0 p130 q130; cases e130; have qi130 : (0 < t127.length) = True := eq_true (by omega); (try rw [show ((0 : Int)).toNat = 0 from rfl] at hx130_0); (try rw [show 0 * 2 = 0 from rfl] at hx130_0); (try rw [Addr.add_zero'] at hx130_0); (try rw [show ((0 : Int)).toNat = 0 from rfl] at hx130_1); (try rw [show 0 * 2 = 0 from rfl] at hx130_1); (try rw [Addr.add_zero'] at hx130_1); replace p130 := eq_true p130; replace q130 := eq_true q130; have hcz97_0 : w95.cell? ⟨gb102, 0, none⟩ = some (.string a2_0) := (blk_cell BK102.out 0).trans rfl; have hcz97_1 : w95.cell? ⟨gb102, 1, none⟩ = some (.int .i64 a2_1) := (blk_cell BK102.out 1).trans rfl; have hcz97_2 : w95.cell? ⟨gb102, 2, none⟩ = some (.string a2_2) := (blk_cell BK102.out 2).trans rfl; have hcz97_3 : w95.cell? ⟨gb102, 3, none⟩ = some (.string a2_3) := (blk_cell BK102.out 3).trans rfl; have hfz97_0 := blk_frozen BK102.out 0; have hfz97_1 := blk_frozen BK102.out 1; have hfz97_2 := blk_frozen BK102.out 2; have hfz97_3 := blk_frozen BK102.out 3)))
                    go_ret
                    exact ⟨er_, o1_⟩
                  ·
                   as_aux_lemma =>
                   rw [if_neg c82] at H
                   exact absurd H (by simp)
                 ·
                  as_aux_lemma =>
                  rw [if_neg c81] at H
                  have c81b0 : ((t127.length : Int) == 1) = false := beq_eq_false_iff_ne.mpr c81
                  have c81b1 : ((t127.length : Int) != 1) = true := bne_iff_ne.mpr c81
                  obtain rfl := Option.some.inj H
                  have hnb98 := NB101_102.out
                  have hnc98 := NB102_101.out
                  have hcz99_0 : wr.cell? ⟨gb101, 0, none⟩ = some (.string a1_0) := (blk_cell BK101.out 0).trans rfl
                  have hcz99_1 : wr.cell? ⟨gb101, 1, none⟩ = some (.slice A1_1 l1_1.length c1_1) := (blk_cell BK101.out 1).trans rfl
                  have hcz99_2 : wr.cell? ⟨gb101, 2, none⟩ = some (.string a1_2) := (blk_cell BK101.out 2).trans rfl
                  have hcz99_3 : wr.cell? ⟨gb101, 3, none⟩ = some (.string a1_3) := (blk_cell BK101.out 3).trans rfl
                  have hfz99_0 := blk_frozen BK101.out 0
                  have hfz99_1 := blk_frozen BK101.out 1
                  have hfz99_2 := blk_frozen BK101.out 2
                  have hfz99_3 := blk_frozen BK101.out 3
                  have hcz100_0 : wr.cell? ⟨gb102, 0, none⟩ = some (.string a2_0) := (blk_cell BK102.out 0).trans rfl
                  have hcz100_1 : wr.cell? ⟨gb102, 1, none⟩ = some (.int .i64 a2_1) := (blk_cell BK102.out 1).trans rfl
                  have hcz100_2 : wr.cell? ⟨gb102, 2, none⟩ = some (.string a2_2) := (blk_cell BK102.out 2).trans rfl
                  have hcz100_3 : wr.cell? ⟨gb102, 3, none⟩ = some (.string a2_3) := (blk_cell BK102.out 3).trans rfl
                  have hfz100_0 := blk_frozen BK102.out 0
                  have hfz100_1 := blk_frozen BK102.out 1
                  have hfz100_2 := blk_frozen BK102.out 2
                  have hfz100_3 := blk_frozen BK102.out 3
                  go_wp2_with (first | (go_at_call 27; (with_reducible refine (Ob.Gv.putLabel.calls a2_0 a2_1 a2_2 a2_3 t125 true _ A77.out).mono ?_); rintro e w101 ⟨rfl, hb⟩; have n0_ := Aside0.mk (Kd.R_below o5_ hb); have n1_ := Aside0.mk (blk_below (g := gb101) (o := .cells #[.string a1_0, .slice A1_1 l1_1.length c1_1, .string a1_2, .string a1_3] 40 (0, 0)) o3_ hb); have n2_ := Aside0.mk (blk_below (g := gb102) (o := .cells #[.string a2_0, .int .i64 a2_1, .string a2_2, .string a2_3] 42 (0, 0)) o4_ hb); have n3_ := Aside0.mk (below_step o1_ hb); clear HO_14; clear BK101; clear BK102; clear HB; have HO_14 := n0_; have BK101 := n1_; have BK102 := n2_; have HB := n3_; clear n0_ n1_ n2_ n3_; (try clear hb); (try clear hb2); (try clear hk); (try clear hi)) | (go_at_call 16; (with_reducible refine (Ob.Gv.wants.calls 4 t125 t127 _ A78.out (HTAB_.out _ (by first | exact Below.refl _ _ | (with_reducible exact Aside0.out (by assumption)) | repeat (first | (with_reducible exact Aside0.out (by assumption)) | apply below_alloc | apply pw_below_drewN | apply below_drew1)))).mono ?_); rintro e w102 ⟨v128, rfl, ho0, hb⟩; have n0_ := Aside0.mk (Kd.R_elder' o5_ (Kd.R_base ho0) hb); have n1_ := Aside0.mk (Kd.R_lower (Kd.R_new' ho0 (Kd.R_lt o5_)) (below_size o1_)); have n2_ := Aside0.mk (blk_below (g := gb101) (o := .cells #[.string a1_0, .slice A1_1 l1_1.length c1_1, .string a1_2, .string a1_3] 40 (0, 0)) o3_ hb); have n3_ := Aside0.mk (blk_below (g := gb102) (o := .cells #[.string a2_0, .int .i64 a2_1, .string a2_2, .string a2_3] 42 (0, 0)) o4_ hb); have n4_ := Aside0.mk (below_step o1_ hb); clear HO_14; clear BK101; clear BK102; clear HB; have HO_14 := n0_; have HO129 := n1_; have BK101 := n2_; have BK102 := n3_; have HB := n4_; clear n0_ n1_ n2_ n3_ n4_; (try clear hb); (try clear hb2); (try clear hk); (try clear hi); (try clear ho0); obtain ⟨Ao103, co103, eo103⟩ := Kd.R_slice HO129.out; subst eo103))
                  repeat (go_quiet (first | (go_at_call 27; (with_reducible refine (Ob.Gv.putLabel.calls a2_0 a2_1 a2_2 a2_3 t125 true _ A77.out).mono ?_); rintro e w101 ⟨rfl, hb⟩; have n0_ := Aside0.mk (Kd.R_below o5_ hb); have n1_ := Aside0.mk (blk_below (g := gb101) (o := .cells #[.string a1_0, .slice A1_1 l1_1.length c1_1, .string a1_2, .string a1_3] 40 (0, 0)) o3_ hb); have n2_ := Aside0.mk (blk_below (g := gb102) (o := .cells #[.string a2_0, .int .i64 a2_1, .string a2_2, .string a2_3] 42 (0, 0)) o4_ hb); have n3_ := Aside0.mk (below_step o1_ hb); clear HO_14; clear BK101; clear BK102; clear HB; have HO_14 := n0_; have BK101 := n1_; have BK102 := n2_; have HB := n3_; clear n0_ n1_ n2_ n3_; (try clear hb); (try clear hb2); (try clear hk); (try clear hi)) | (go_at_call 16; (with_reducible refine (Ob.Gv.wants.calls 4 t125 t127 _ A78.out (HTAB_.out _ (by first | exact Below.refl _ _ | (with_reducible exact Aside0.out (by assumption)) | repeat (first | (with_reducible exact Aside0.out (by assumption)) | apply below_alloc | apply pw_below_drewN | apply below_drew1)))).mono ?_); rintro e w102 ⟨v128, rfl, ho0, hb⟩; have n0_ := Aside0.mk (Kd.R_elder' o5_ (Kd.R_base ho0) hb); have n1_ := Aside0.mk (Kd.R_lower (Kd.R_new' ho0 (Kd.R_lt o5_)) (below_size o1_)); have n2_ := Aside0.mk (blk_below (g := gb101) (o := .cells #[.string a1_0, .slice A1_1 l1_1.length c1_1, .string a1_2, .string a1_3] 40 (0, 0)) o3_ hb); have n3_ := Aside0.mk (blk_below (g := gb102) (o := .cells #[.string a2_0, .int .i64 a2_1, .string a2_2, .string a2_3] 42 (0, 0)) o4_ hb); have n4_ := Aside0.mk (below_step o1_ hb); clear HO_14; clear BK101; clear BK102; clear HB; have HO_14 := n0_; have HO129 := n1_; have BK101 := n2_; have BK102 := n3_; have HB := n4_; clear n0_ n1_ n2_ n3_ n4_; (try clear hb); (try clear hb2); (try clear hk); (try clear hi); (try clear ho0); obtain ⟨Ao103, co103, eo103⟩ := Kd.R_slice HO129.out; subst eo103)); try go_wp2_with (first | (go_at_call 27; (with_reducible refine (Ob.Gv.putLabel.calls a2_0 a2_1 a2_2 a2_3 t125 true _ A77.out).mono ?_); rintro e w101 ⟨rfl, hb⟩; have n0_ := Aside0.mk (Kd.R_below o5_ hb); have n1_ := Aside0.mk (blk_below (g := gb101) (o := .cells #[.string a1_0, .slice A1_1 l1_1.length c1_1, .string a1_2, .string a1_3] 40 (0, 0)) o3_ hb); have n2_ := Aside0.mk (blk_below (g := gb102) (o := .cells #[.string a2_0, .int .i64 a2_1, .string a2_2, .string a2_3] 42 (0, 0)) o4_ hb); have n3_ := Aside0.mk (below_step o1_ hb); clear HO_14; clear BK101; clear BK102; clear HB; have HO_14 := n0_; have BK101 := n1_; have BK102 := n2_; have HB := n3_; clear n0_ n1_ n2_ n3_; (try clear hb); (try clear hb2); (try clear hk); (try clear hi)) | (go_at_call 16; (with_reducible refine (Ob.Gv.wants.calls 4 t125 t127 _ A78.out (HTAB_.out _ (by first | exact Below.refl _ _ | (with_reducible exact Aside0.out (by assumption)) | repeat (first | (with_reducible exact Aside0.out (by assumption)) | apply below_alloc | apply pw_below_drewN | apply below_drew1)))).mono ?_); rintro e w102 ⟨v128, rfl, ho0, hb⟩; have n0_ := Aside0.mk (Kd.R_elder' o5_ (Kd.R_base ho0) hb); have n1_ := Aside0.mk (Kd.R_lower (Kd.R_new' ho0 (Kd.R_lt o5_)) (below_size o1_)); have n2_ := Aside0.mk (blk_below (g := gb101) (o := .cells #[.string a1_0, .slice A1_1 l1_1.length c1_1, .string a1_2, .string a1_3] 40 (0, 0)) o3_ hb); have n3_ := Aside0.mk (blk_below (g := gb102) (o := .cells #[.string a2_0, .int .i64 a2_1, .string a2_2, .string a2_3] 42 (0, 0)) o4_ hb); have n4_ := Aside0.mk (below_step o1_ hb); clear HO_14; clear BK101; clear BK102; clear HB; have HO_14 := n0_; have HO129 := n1_; have BK101 := n2_; have BK102 := n3_; have HB := n4_; clear n0_ n1_ n2_ n3_ n4_; (try clear hb); (try clear hb2); (try clear hk); (try clear hi); (try clear ho0); obtain ⟨Ao103, co103, eo103⟩ := Kd.R_slice HO129.out; subst eo103)))
                  go_ret
                  exact ⟨er_, o1_⟩
                ·
                 as_aux_lemma =>
                 replace c80 := Bool.eq_false_iff.mpr c80
                 subst c80
                 have H1 : (some true) = some r := by rw [if_neg (show ¬ (false = true) by decide)] at H; exact H
                 clear H
                 have H := H1
                 clear H1
                 obtain rfl := Option.some.inj H
                 have hnb104 := NB101_102.out
                 have hnc104 := NB102_101.out
                 have hcz105_0 : wr.cell? ⟨gb101, 0, none⟩ = some (.string a1_0) := (blk_cell BK101.out 0).trans rfl
                 have hcz105_1 : wr.cell? ⟨gb101, 1, none⟩ = some (.slice A1_1 l1_1.length c1_1) := (blk_cell BK101.out 1).trans rfl
                 have hcz105_2 : wr.cell? ⟨gb101, 2, none⟩ = some (.string a1_2) := (blk_cell BK101.out 2).trans rfl
                 have hcz105_3 : wr.cell? ⟨gb101, 3, none⟩ = some (.string a1_3) := (blk_cell BK101.out 3).trans rfl
                 have hfz105_0 := blk_frozen BK101.out 0
                 have hfz105_1 := blk_frozen BK101.out 1
                 have hfz105_2 := blk_frozen BK101.out 2
                 have hfz105_3 := blk_frozen BK101.out 3
                 have hcz106_0 : wr.cell? ⟨gb102, 0, none⟩ = some (.string a2_0) := (blk_cell BK102.out 0).trans rfl
                 have hcz106_1 : wr.cell? ⟨gb102, 1, none⟩ = some (.int .i64 a2_1) := (blk_cell BK102.out 1).trans rfl
                 have hcz106_2 : wr.cell? ⟨gb102, 2, none⟩ = some (.string a2_2) := (blk_cell BK102.out 2).trans rfl
                 have hcz106_3 : wr.cell? ⟨gb102, 3, none⟩ = some (.string a2_3) := (blk_cell BK102.out 3).trans rfl
                 have hfz106_0 := blk_frozen BK102.out 0
                 have hfz106_1 := blk_frozen BK102.out 1
                 have hfz106_2 := blk_frozen BK102.out 2
                 have hfz106_3 := blk_frozen BK102.out 3
                 go_wp2_with (first | (go_at_call 27; (with_reducible refine (Ob.Gv.putLabel.calls a2_0 a2_1 a2_2 a2_3 t125 false _ A77.out).mono ?_); rintro e w107 ⟨rfl, hb⟩; have n0_ := Aside0.mk (Kd.R_below o5_ hb); have n1_ := Aside0.mk (blk_below (g := gb101) (o := .cells #[.string a1_0, .slice A1_1 l1_1.length c1_1, .string a1_2, .string a1_3] 40 (0, 0)) o3_ hb); have n2_ := Aside0.mk (blk_below (g := gb102) (o := .cells #[.string a2_0, .int .i64 a2_1, .string a2_2, .string a2_3] 42 (0, 0)) o4_ hb); have n3_ := Aside0.mk (below_step o1_ hb); clear HO_14; clear BK101; clear BK102; clear HB; have HO_14 := n0_; have BK101 := n1_; have BK102 := n2_; have HB := n3_; clear n0_ n1_ n2_ n3_; (try clear hb); (try clear hb2); (try clear hk); (try clear hi)) | (go_at_call 16; (with_reducible refine (Ob.Gv.wants.calls 4 t125 t127 _ A78.out (HTAB_.out _ (by first | exact Below.refl _ _ | (with_reducible exact Aside0.out (by assumption)) | repeat (first | (with_reducible exact Aside0.out (by assumption)) | apply below_alloc | apply pw_below_drewN | apply below_drew1)))).mono ?_); rintro e w108 ⟨v128, rfl, ho0, hb⟩; have n0_ := Aside0.mk (Kd.R_elder' o5_ (Kd.R_base ho0) hb); have n1_ := Aside0.mk (Kd.R_lower (Kd.R_new' ho0 (Kd.R_lt o5_)) (below_size o1_)); have n2_ := Aside0.mk (blk_below (g := gb101) (o := .cells #[.string a1_0, .slice A1_1 l1_1.length c1_1, .string a1_2, .string a1_3] 40 (0, 0)) o3_ hb); have n3_ := Aside0.mk (blk_below (g := gb102) (o := .cells #[.string a2_0, .int .i64 a2_1, .string a2_2, .string a2_3] 42 (0, 0)) o4_ hb); have n4_ := Aside0.mk (below_step o1_ hb); clear HO_14; clear BK101; clear BK102; clear HB; have HO_14 := n0_; have HO129 := n1_; have BK101 := n2_; have BK102 := n3_; have HB := n4_; clear n0_ n1_ n2_ n3_ n4_; (try clear hb); (try clear hb2); (try clear hk); (try clear hi); (try clear ho0)))
                 repeat (go_quiet (first | (go_at_call 27; (with_reducible refine (Ob.Gv.putLabel.calls a2_0 a2_1 a2_2 a2_3 t125 false _ A77.out).mono ?_); rintro e w107 ⟨rfl, hb⟩; have n0_ := Aside0.mk (Kd.R_below o5_ hb); have n1_ := Aside0.mk (blk_below (g := gb101) (o := .cells #[.string a1_0, .slice A1_1 l1_1.length c1_1, .string a1_2, .string a1_3] 40 (0, 0)) o3_ hb); have n2_ := Aside0.mk (blk_below (g := gb102) (o := .cells #[.string a2_0, .int .i64 a2_1, .string a2_2, .string a2_3] 42 (0, 0)) o4_ hb); have n3_ := Aside0.mk (below_step o1_ hb); clear HO_14; clear BK101; clear BK102; clear HB; have HO_14 := n0_; have BK101 := n1_; have BK102 := n2_; have HB := n3_; clear n0_ n1_ n2_ n3_; (try clear hb); (try clear hb2); (try clear hk); (try clear hi)) | (go_at_call 16; (with_reducible refine (Ob.Gv.wants.calls 4 t125 t127 _ A78.out (HTAB_.out _ (by first | exact Below.refl _ _ | (with_reducible exact Aside0.out (by assumption)) | repeat (first | (with_reducible exact Aside0.out (by assumption)) | apply below_alloc | apply pw_below_drewN | apply below_drew1)))).mono ?_); rintro e w108 ⟨v128, rfl, ho0, hb⟩; have n0_ := Aside0.mk (Kd.R_elder' o5_ (Kd.R_base ho0) hb); have n1_ := Aside0.mk (Kd.R_lower (Kd.R_new' ho0 (Kd.R_lt o5_)) (below_size o1_)); have n2_ := Aside0.mk (blk_below (g := gb101) (o := .cells #[.string a1_0, .slice A1_1 l1_1.length c1_1, .string a1_2, .string a1_3] 40 (0, 0)) o3_ hb); have n3_ := Aside0.mk (blk_below (g := gb102) (o := .cells #[.string a2_0, .int .i64 a2_1, .string a2_2, .string a2_3] 42 (0, 0)) o4_ hb); have n4_ := Aside0.mk (below_step o1_ hb); clear HO_14; clear BK101; clear BK102; clear HB; have HO_14 := n0_; have HO129 := n1_; have BK101 := n2_; have BK102 := n3_; have HB := n4_; clear n0_ n1_ n2_ n3_ n4_; (try clear hb); (try clear hb2); (try clear hk); (try clear hi); (try clear ho0))); try go_wp2_with (first | (go_at_call 27; (with_reducible refine (Ob.Gv.putLabel.calls a2_0 a2_1 a2_2 a2_3 t125 false _ A77.out).mono ?_); rintro e w107 ⟨rfl, hb⟩; have n0_ := Aside0.mk (Kd.R_below o5_ hb); have n1_ := Aside0.mk (blk_below (g := gb101) (o := .cells #[.string a1_0, .slice A1_1 l1_1.length c1_1, .string a1_2, .string a1_3] 40 (0, 0)) o3_ hb); have n2_ := Aside0.mk (blk_below (g := gb102) (o := .cells #[.string a2_0, .int .i64 a2_1, .string a2_2, .string a2_3] 42 (0, 0)) o4_ hb); have n3_ := Aside0.mk (below_step o1_ hb); clear HO_14; clear BK101; clear BK102; clear HB; have HO_14 := n0_; have BK101 := n1_; have BK102 := n2_; have HB := n3_; clear n0_ n1_ n2_ n3_; (try clear hb); (try clear hb2); (try clear hk); (try clear hi)) | (go_at_call 16; (with_reducible refine (Ob.Gv.wants.calls 4 t125 t127 _ A78.out (HTAB_.out _ (by first | exact Below.refl _ _ | (with_reducible exact Aside0.out (by assumption)) | repeat (first | (with_reducible exact Aside0.out (by assumption)) | apply below_alloc | apply pw_below_drewN | apply below_drew1)))).mono ?_); rintro e w108 ⟨v128, rfl, ho0, hb⟩; have n0_ := Aside0.mk (Kd.R_elder' o5_ (Kd.R_base ho0) hb); have n1_ := Aside0.mk (Kd.R_lower (Kd.R_new' ho0 (Kd.R_lt o5_)) (below_size o1_)); have n2_ := Aside0.mk (blk_below (g := gb101) (o := .cells #[.string a1_0, .slice A1_1 l1_1.length c1_1, .string a1_2, .string a1_3] 40 (0, 0)) o3_ hb); have n3_ := Aside0.mk (blk_below (g := gb102) (o := .cells #[.string a2_0, .int .i64 a2_1, .string a2_2, .string a2_3] 42 (0, 0)) o4_ hb); have n4_ := Aside0.mk (below_step o1_ hb); clear HO_14; clear BK101; clear BK102; clear HB; have HO_14 := n0_; have HO129 := n1_; have BK101 := n2_; have BK102 := n3_; have HB := n4_; clear n0_ n1_ n2_ n3_ n4_; (try clear hb); (try clear hb2); (try clear hk); (try clear hi); (try clear ho0))))
                 go_ret
                 exact ⟨er_, o1_⟩
               ·
                as_aux_lemma =>
                replace c79 := Bool.eq_false_iff.mpr c79
                subst c79
                have H1 : (some false) = some r := by rw [if_neg (show ¬ (false = true) by decide)] at H; exact H
                clear H
                have H := H1
                clear H1
                obtain rfl := Option.some.inj H
                have hnb109 := NB101_102.out
                have hnc109 := NB102_101.out
                have hcz110_0 : wr.cell? ⟨gb101, 0, none⟩ = some (.string a1_0) := (blk_cell BK101.out 0).trans rfl
                have hcz110_1 : wr.cell? ⟨gb101, 1, none⟩ = some (.slice A1_1 l1_1.length c1_1) := (blk_cell BK101.out 1).trans rfl
                have hcz110_2 : wr.cell? ⟨gb101, 2, none⟩ = some (.string a1_2) := (blk_cell BK101.out 2).trans rfl
                have hcz110_3 : wr.cell? ⟨gb101, 3, none⟩ = some (.string a1_3) := (blk_cell BK101.out 3).trans rfl
                have hfz110_0 := blk_frozen BK101.out 0
                have hfz110_1 := blk_frozen BK101.out 1
                have hfz110_2 := blk_frozen BK101.out 2
                have hfz110_3 := blk_frozen BK101.out 3
                have hcz111_0 : wr.cell? ⟨gb102, 0, none⟩ = some (.string a2_0) := (blk_cell BK102.out 0).trans rfl
                have hcz111_1 : wr.cell? ⟨gb102, 1, none⟩ = some (.int .i64 a2_1) := (blk_cell BK102.out 1).trans rfl
                have hcz111_2 : wr.cell? ⟨gb102, 2, none⟩ = some (.string a2_2) := (blk_cell BK102.out 2).trans rfl
                have hcz111_3 : wr.cell? ⟨gb102, 3, none⟩ = some (.string a2_3) := (blk_cell BK102.out 3).trans rfl
                have hfz111_0 := blk_frozen BK102.out 0
                have hfz111_1 := blk_frozen BK102.out 1
                have hfz111_2 := blk_frozen BK102.out 2
                have hfz111_3 := blk_frozen BK102.out 3
                go_wp2_with (first | (go_at_call 27; (with_reducible refine (Ob.Gv.putLabel.calls a2_0 a2_1 a2_2 a2_3 t125 t126 _ A77.out).mono ?_); rintro e w112 ⟨rfl, hb⟩; have n0_ := Aside0.mk (Kd.R_below o5_ hb); have n1_ := Aside0.mk (blk_below (g := gb101) (o := .cells #[.string a1_0, .slice A1_1 l1_1.length c1_1, .string a1_2, .string a1_3] 40 (0, 0)) o3_ hb); have n2_ := Aside0.mk (blk_below (g := gb102) (o := .cells #[.string a2_0, .int .i64 a2_1, .string a2_2, .string a2_3] 42 (0, 0)) o4_ hb); have n3_ := Aside0.mk (below_step o1_ hb); clear HO_14; clear BK101; clear BK102; clear HB; have HO_14 := n0_; have BK101 := n1_; have BK102 := n2_; have HB := n3_; clear n0_ n1_ n2_ n3_; (try clear hb); (try clear hb2); (try clear hk); (try clear hi)) | (go_at_call 16; (with_reducible refine (Ob.Gv.wants.calls 4 t125 t127 _ A78.out (HTAB_.out _ (by first | exact Below.refl _ _ | (with_reducible exact Aside0.out (by assumption)) | repeat (first | (with_reducible exact Aside0.out (by assumption)) | apply below_alloc | apply pw_below_drewN | apply below_drew1)))).mono ?_); rintro e w113 ⟨v128, rfl, ho0, hb⟩; have n0_ := Aside0.mk (Kd.R_elder' o5_ (Kd.R_base ho0) hb); have n1_ := Aside0.mk (Kd.R_lower (Kd.R_new' ho0 (Kd.R_lt o5_)) (below_size o1_)); have n2_ := Aside0.mk (blk_below (g := gb101) (o := .cells #[.string a1_0, .slice A1_1 l1_1.length c1_1, .string a1_2, .string a1_3] 40 (0, 0)) o3_ hb); have n3_ := Aside0.mk (blk_below (g := gb102) (o := .cells #[.string a2_0, .int .i64 a2_1, .string a2_2, .string a2_3] 42 (0, 0)) o4_ hb); have n4_ := Aside0.mk (below_step o1_ hb); clear HO_14; clear BK101; clear BK102; clear HB; have HO_14 := n0_; have HO129 := n1_; have BK101 := n2_; have BK102 := n3_; have HB := n4_; clear n0_ n1_ n2_ n3_ n4_; (try clear hb); (try clear hb2); (try clear hk); (try clear hi); (try clear ho0)))
                repeat (go_quiet (first | (go_at_call 27; (with_reducible refine (Ob.Gv.putLabel.calls a2_0 a2_1 a2_2 a2_3 t125 t126 _ A77.out).mono ?_); rintro e w112 ⟨rfl, hb⟩; have n0_ := Aside0.mk (Kd.R_below o5_ hb); have n1_ := Aside0.mk (blk_below (g := gb101) (o := .cells #[.string a1_0, .slice A1_1 l1_1.length c1_1, .string a1_2, .string a1_3] 40 (0, 0)) o3_ hb); have n2_ := Aside0.mk (blk_below (g := gb102) (o := .cells #[.string a2_0, .int .i64 a2_1, .string a2_2, .string a2_3] 42 (0, 0)) o4_ hb); have n3_ := Aside0.mk (below_step o1_ hb); clear HO_14; clear BK101; clear BK102; clear HB; have HO_14 := n0_; have BK101 := n1_; have BK102 := n2_; have HB := n3_; clear n0_ n1_ n2_ n3_; (try clear hb); (try clear hb2); (try clear hk); (try clear hi)) | (go_at_call 16; (with_reducible refine (Ob.Gv.wants.calls 4 t125 t127 _ A78.out (HTAB_.out _ (by first | exact Below.refl _ _ | (with_reducible exact Aside0.out (by assumption)) | repeat (first | (with_reducible exact Aside0.out (by assumption)) | apply below_alloc | apply pw_below_drewN | apply below_drew1)))).mono ?_); rintro e w113 ⟨v128, rfl, ho0, hb⟩; have n0_ := Aside0.mk (Kd.R_elder' o5_ (Kd.R_base ho0) hb); have n1_ := Aside0.mk (Kd.R_lower (Kd.R_new' ho0 (Kd.R_lt o5_)) (below_size o1_)); have n2_ := Aside0.mk (blk_below (g := gb101) (o := .cells #[.string a1_0, .slice A1_1 l1_1.length c1_1, .string a1_2, .string a1_3] 40 (0, 0)) o3_ hb); have n3_ := Aside0.mk (blk_below (g := gb102) (o := .cells #[.string a2_0, .int .i64 a2_1, .string a2_2, .string a2_3] 42 (0, 0)) o4_ hb); have n4_ := Aside0.mk (below_step o1_ hb); clear HO_14; clear BK101; clear BK102; clear HB; have HO_14 := n0_; have HO129 := n1_; have BK101 := n2_; have BK102 := n3_; have HB := n4_; clear n0_ n1_ n2_ n3_ n4_; (try clear hb); (try clear hb2); (try clear hk); (try clear hi); (try clear ho0))); try go_wp2_with (first | (go_at_call 27; (with_reducible refine (Ob.Gv.putLabel.calls a2_0 a2_1 a2_2 a2_3 t125 t126 _ A77.out).mono ?_); rintro e w112 ⟨rfl, hb⟩; have n0_ := Aside0.mk (Kd.R_below o5_ hb); have n1_ := Aside0.mk (blk_below (g := gb101) (o := .cells #[.string a1_0, .slice A1_1 l1_1.length c1_1, .string a1_2, .string a1_3] 40 (0, 0)) o3_ hb); have n2_ := Aside0.mk (blk_below (g := gb102) (o := .cells #[.string a2_0, .int .i64 a2_1, .string a2_2, .string a2_3] 42 (0, 0)) o4_ hb); have n3_ := Aside0.mk (below_step o1_ hb); clear HO_14; clear BK101; clear BK102; clear HB; have HO_14 := n0_; have BK101 := n1_; have BK102 := n2_; have HB := n3_; clear n0_ n1_ n2_ n3_; (try clear hb); (try clear hb2); (try clear hk); (try clear hi)) | (go_at_call 16; (with_reducible refine (Ob.Gv.wants.calls 4 t125 t127 _ A78.out (HTAB_.out _ (by first | exact Below.refl _ _ | (with_reducible exact Aside0.out (by assumption)) | repeat (first | (with_reducible exact Aside0.out (by assumption)) | apply below_alloc | apply pw_below_drewN | apply below_drew1)))).mono ?_); rintro e w113 ⟨v128, rfl, ho0, hb⟩; have n0_ := Aside0.mk (Kd.R_elder' o5_ (Kd.R_base ho0) hb); have n1_ := Aside0.mk (Kd.R_lower (Kd.R_new' ho0 (Kd.R_lt o5_)) (below_size o1_)); have n2_ := Aside0.mk (blk_below (g := gb101) (o := .cells #[.string a1_0, .slice A1_1 l1_1.length c1_1, .string a1_2, .string a1_3] 40 (0, 0)) o3_ hb); have n3_ := Aside0.mk (blk_below (g := gb102) (o := .cells #[.string a2_0, .int .i64 a2_1, .string a2_2, .string a2_3] 42 (0, 0)) o4_ hb); have n4_ := Aside0.mk (below_step o1_ hb); clear HO_14; clear BK101; clear BK102; clear HB; have HO_14 := n0_; have HO129 := n1_; have BK101 := n2_; have BK102 := n3_; have HB := n4_; clear n0_ n1_ n2_ n3_ n4_; (try clear hb); (try clear hb2); (try clear hk); (try clear hi); (try clear ho0))))
                go_ret
                exact ⟨er_, o1_⟩
        ·
         as_aux_lemma =>
         replace c42 := Bool.eq_false_iff.mpr c42
         subst c42
         have H1 : ((Ob.Gv.putLabel.f a2_0 a2_1 a2_2 a2_3).bind fun bt132 => ((Ob.Gv.wants.f 4 bt132.1).bind fun t134 => (if t103 = true then (if bt132.2 = true then (if (t134.length : Int) = 1 then (if 0 < (t134.length : Int) then (if ((rd_T58 t134 0).f0).toList = a2_0.toList then (some (((rd_T58 t134 0).f1) == a2_1)) else (some false)) else (none)) else (some false)) else (some true)) else (some false)))) = some r := by rw [if_neg (show ¬ (false = true) by decide)] at H; exact H
         clear H
         have H := H1
         clear H1
         replace H := Option.bind_eq_some_iff.mp H
         obtain ⟨⟨t132, t133⟩, A1140, H⟩ := H
         replace H : ((Ob.Gv.wants.f 4 t132).bind fun t134 => (if t103 = true then (if t133 = true then (if (t134.length : Int) = 1 then (if 0 < (t134.length : Int) then (if ((rd_T58 t134 0).f0).toList = a2_0.toList then (some (((rd_T58 t134 0).f1) == a2_1)) else (some false)) else (none)) else (some false)) else (some true)) else (some false))) = some r := H
         have A114 := Aside0.mk A1140
         clear A1140
         replace H := Option.bind_eq_some_iff.mp H
         obtain ⟨t134, A1150, H⟩ := H
         replace H : (if t103 = true then (if t133 = true then (if (t134.length : Int) = 1 then (if 0 < (t134.length : Int) then (if ((rd_T58 t134 0).f0).toList = a2_0.toList then (some (((rd_T58 t134 0).f1) == a2_1)) else (some false)) else (none)) else (some false)) else (some true)) else (some false)) = some r := H
         have A115 := Aside0.mk A1150
         clear A1150
         by_cases c116 : t103 = true
         ·
          as_aux_lemma =>
          subst c116
          have H1 : (if t133 = true then (if (t134.length : Int) = 1 then (if 0 < (t134.length : Int) then (if ((rd_T58 t134 0).f0).toList = a2_0.toList then (some (((rd_T58 t134 0).f1) == a2_1)) else (some false)) else (none)) else (some false)) else (some true)) = some r := by rw [if_pos rfl] at H; exact H
          clear H
          have H := H1
          clear H1
          by_cases c117 : t133 = true
          ·
           as_aux_lemma =>
           subst c117
           have H1 : (if (t134.length : Int) = 1 then (if 0 < (t134.length : Int) then (if ((rd_T58 t134 0).f0).toList = a2_0.toList then (some (((rd_T58 t134 0).f1) == a2_1)) else (some false)) else (none)) else (some false)) = some r := by rw [if_pos rfl] at H; exact H
           clear H
           have H := H1
           clear H1
           by_cases c118 : (t134.length : Int) = 1
           ·
            as_aux_lemma =>
            rw [if_pos c118] at H
            have c118b0 : ((t134.length : Int) == 1) = true := beq_iff_eq.mpr c118
            have c118b1 : ((t134.length : Int) != 1) = false := bne_eq_false_iff_eq.mpr c118
            clear c118
            by_cases c119 : 0 < (t134.length : Int)
            ·
             as_aux_lemma =>
             rw [if_pos c119] at H
             have c119b0 : decide (0 < (t134.length : Int)) = true := decide_eq_true c119
             have c119b1 : decide (0 < t134.length) = true := decide_eq_true (by omega)
             clear c119
             by_cases c120 : ((rd_T58 t134 0).f0).toList = a2_0.toList
             ·
              as_aux_lemma =>
              rw [if_pos c120] at H
              have c120b0 : (((rd_T58 t134 0).f0).toList == a2_0.toList) = true := beq_iff_eq.mpr c120
              have c120b1 : (((rd_T58 t134 0).f0).toList != a2_0.toList) = false := bne_eq_false_iff_eq.mpr c120
              clear c120
              obtain rfl := Option.some.inj H
              have hnb121 := NB101_102.out
              have hnc121 := NB102_101.out
              have hcz122_0 : wc.cell? ⟨gb101, 0, none⟩ = some (.string a1_0) := (blk_cell BK101.out 0).trans rfl
              have hcz122_1 : wc.cell? ⟨gb101, 1, none⟩ = some (.slice A1_1 l1_1.length c1_1) := (blk_cell BK101.out 1).trans rfl
              have hcz122_2 : wc.cell? ⟨gb101, 2, none⟩ = some (.string a1_2) := (blk_cell BK101.out 2).trans rfl
              have hcz122_3 : wc.cell? ⟨gb101, 3, none⟩ = some (.string a1_3) := (blk_cell BK101.out 3).trans rfl
              have hfz122_0 := blk_frozen BK101.out 0
              have hfz122_1 := blk_frozen BK101.out 1
              have hfz122_2 := blk_frozen BK101.out 2
              have hfz122_3 := blk_frozen BK101.out 3
              go_wp2_with (first | (go_at_call 25; (with_reducible refine (Ob.Gv.putChange.calls a1_0 _ _ l1_1 a1_2 a1_3 t115 false _ ?side1 ?side2 A40.out).mono ?_); (case side1 => repeat (first | exact (Kd.C_below HR1_1.out HB.out) | (with_reducible refine Kd.C_alloc ?_ _) | (with_reducible refine Kd.C_drewN ?_ _) | (with_reducible refine Kd.C_drew ?_))); (case side2 => exact HC1_1.out); rintro e w123 ⟨rfl, hb⟩; have n0_ := Aside0.mk (blk_below (g := gb101) (o := .cells #[.string a1_0, .slice A1_1 l1_1.length c1_1, .string a1_2, .string a1_3] 40 (0, 0)) o3_ hb); have n1_ := Aside0.mk (blk_below (g := gb102) (o := .cells #[.string a2_0, .int .i64 a2_1, .string a2_2, .string a2_3] 42 (0, 0)) o4_ hb); have n2_ := Aside0.mk (below_step o1_ hb); clear BK101; clear BK102; clear HB; have BK101 := n0_; have BK102 := n1_; have HB := n2_; clear n0_ n1_ n2_; (try clear hb); (try clear hb2); (try clear hk); (try clear hi)) | (go_at_call 16; (with_reducible refine (Ob.Gv.wants.calls 3 t115 t117 _ A41.out (HTAB_.out _ (by first | exact Below.refl _ _ | (with_reducible exact Aside0.out (by assumption)) | repeat (first | (with_reducible exact Aside0.out (by assumption)) | apply below_alloc | apply pw_below_drewN | apply below_drew1)))).mono ?_); rintro e w124 ⟨v118, rfl, ho0, hb⟩; have n0_ := Aside0.mk (Kd.R_lower ho0 (below_size o1_)); have n1_ := Aside0.mk (blk_below (g := gb101) (o := .cells #[.string a1_0, .slice A1_1 l1_1.length c1_1, .string a1_2, .string a1_3] 40 (0, 0)) o3_ hb); have n2_ := Aside0.mk (blk_below (g := gb102) (o := .cells #[.string a2_0, .int .i64 a2_1, .string a2_2, .string a2_3] 42 (0, 0)) o4_ hb); have n3_ := Aside0.mk (below_step o1_ hb); clear BK101; clear BK102; clear HB; have HO119 := n0_; have BK101 := n1_; have BK102 := n2_; have HB := n3_; clear n0_ n1_ n2_ n3_; (try clear hb); (try clear hb2); (try clear hk); (try clear hi); (try clear ho0); have hcz125_0 : w124.cell? ⟨gb102, 0, none⟩ = some (.string a2_0) := (blk_cell BK102.out 0).trans rfl; have hcz125_1 : w124.cell? ⟨gb102, 1, none⟩ = some (.int .i64 a2_1) := (blk_cell BK102.out 1).trans rfl; have hcz125_2 : w124.cell? ⟨gb102, 2, none⟩ = some (.string a2_2) := (blk_cell BK102.out 2).trans rfl; have hcz125_3 : w124.cell? ⟨gb102, 3, none⟩ = some (.string a2_3) := (blk_cell BK102.out 3).trans rfl; have hfz125_0 := blk_frozen BK102.out 0; have hfz125_1 := blk_frozen BK102.out 1; have hfz125_2 := blk_frozen BK102.out 2; have hfz125_3 := blk_frozen BK102.out 3) | (go_at_call 27; (with_reducible refine (Ob.Gv.putLabel.calls a2_0 a2_1 a2_2 a2_3 t132 true _ A114.out).mono ?_); rintro e w126 ⟨rfl, hb⟩; have n0_ := Aside0.mk (Kd.R_below o6_ hb); have n1_ := Aside0.mk (blk_below (g := gb101) (o := .cells #[.string a1_0, .slice A1_1 l1_1.length c1_1, .string a1_2, .string a1_3] 40 (0, 0)) o3_ hb); have n2_ := Aside0.mk (blk_below (g := gb102) (o := .cells #[.string a2_0, .int .i64 a2_1, .string a2_2, .string a2_3] 42 (0, 0)) o4_ hb); have n3_ := Aside0.mk (below_step o1_ hb); clear HO119; clear BK101; clear BK102; clear HB; have HO119 := n0_; have BK101 := n1_; have BK102 := n2_; have HB := n3_; clear n0_ n1_ n2_ n3_; (try clear hb); (try clear hb2); (try clear hk); (try clear hi)) | (go_at_call 16; (with_reducible refine (Ob.Gv.wants.calls 4 t132 t134 _ A115.out (HTAB_.out _ (by first | exact Below.refl _ _ | (with_reducible exact Aside0.out (by assumption)) | repeat (first | (with_reducible exact Aside0.out (by assumption)) | apply below_alloc | apply pw_below_drewN | apply below_drew1)))).mono ?_); rintro e w127 ⟨v135, rfl, ho0, hb⟩; have n0_ := Aside0.mk (Kd.R_elder' o6_ (Kd.R_base ho0) hb); have n1_ := Aside0.mk (Kd.R_lower (Kd.R_new' ho0 (Kd.R_lt o6_)) (below_size o1_)); have n2_ := Aside0.mk (blk_below (g := gb101) (o := .cells #[.string a1_0, .slice A1_1 l1_1.length c1_1, .string a1_2, .string a1_3] 40 (0, 0)) o3_ hb); have n3_ := Aside0.mk (blk_below (g := gb102) (o := .cells #[.string a2_0, .int .i64 a2_1, .string a2_2, .string a2_3] 42 (0, 0)) o4_ hb); have n4_ := Aside0.mk (below_step o1_ hb); clear HO119; clear BK101; clear BK102; clear HB; have HO119 := n0_; have HO136 := n1_; have BK101 := n2_; have BK102 := n3_; have HB := n4_; clear n0_ n1_ n2_ n3_ n4_; (try clear hb); (try clear hb2); (try clear hk); (try clear hi); (try clear ho0); obtain ⟨Ao128, co128, eo128⟩ := Kd.R_slice HO136.out; subst eo128; have p137 : 0 ≤ (0 : Int) := (by omega); have q137 : 0 < (t134.length : Int) := oda_; obtain ⟨ad137, e137, hx137_0, hx137_1⟩ := at_T58 (Kd.R_reads' HO136.out).2.2 0 p137 q137; cases e137; have qi137 : (0 < t134.length) = True := eq_true (by omega); (try rw [show ((0 : Int)).toNat = 0 from rfl] at hx137_0); (try rw [show 0 * 2 = 0 from rfl] at hx137_0); (try rw [Addr.add_zero'] at hx137_0); (try rw [show ((0 : Int)).toNat = 0 from rfl] at hx137_1); (try rw [show 0 * 2 = 0 from rfl] at hx137_1); (try rw [Addr.add_zero'] at hx137_1); replace p137 := eq_true p137; replace q137 := eq_true q137; have hcz129_0 : w127.cell? ⟨gb102, 0, none⟩ = some (.string a2_0) := (blk_cell BK102.out 0).trans rfl; have hcz129_1 : w127.cell? ⟨gb102, 1, none⟩ = some (.int .i64 a2_1) := (blk_cell BK102.out 1).trans rfl; have hcz129_2 : w127.cell? ⟨gb102, 2, none⟩ = some (.string a2_2) := (blk_cell BK102.out 2).trans rfl; have hcz129_3 : w127.cell? ⟨gb102, 3, none⟩ = some (.string a2_3) := (blk_cell BK102.out 3).trans rfl; have hfz129_0 := blk_frozen BK102.out 0; have hfz129_1 := blk_frozen BK102.out 1; have hfz129_2 := blk_frozen BK102.out 2; have hfz129_3 := blk_frozen BK102.out 3; have p138 : 0 ≤ (0 : Int) := (by omega); have q138 : 0 < (t134.length : Int) := oda_; obtain ⟨ad138, e138, hx138_0, hx138_1⟩ := at_T58 (Kd.R_reads' HO136.out).2.2 0 p138 q138; obtain rfl : ad137 = ad138 := (by injection e138); have qi138 : (0 < t134.length) = True := eq_true (by omega); (try rw [show ((0 : Int)).toNat = 0 from rfl] at hx138_0); (try rw [show 0 * 2 = 0 from rfl] at hx138_0); (try rw [Addr.add_zero'] at hx138_0); (try rw [show ((0 : Int)).toNat = 0 from rfl] at hx138_1); (try rw [show 0 * 2 = 0 from rfl] at hx138_1); (try rw [Addr.add_zero'] at hx138_1); replace p138 := eq_true p138; replace q138 := eq_true q138))
              repeat (go_quiet (first | (go_at_call 25; (with_reducible refine (Ob.Gv.putChange.calls a1_0 _ _ l1_1 a1_2 a1_3 t115 false _ ?side1 ?side2 A40.out).mono ?_); (case side1 => repeat (first | exact (Kd.C_below HR1_1.out HB.out) | (with_reducible refine Kd.C_alloc ?_ _) | (with_reducible refine Kd.C_drewN ?_ _) | (with_reducible refine Kd.C_drew ?_))); (case side2 => exact HC1_1.out); rintro e w123 ⟨rfl, hb⟩; have n0_ := Aside0.mk (blk_below (g := gb101) (o := .cells #[.string a1_0, .slice A1_1 l1_1.length c1_1, .string a1_2, .string a1_3] 40 (0, 0)) o3_ hb); have n1_ := Aside0.mk (blk_below (g := gb102) (o := .cells #[.string a2_0, .int .i64 a2_1, .string a2_2, .string a2_3] 42 (0, 0)) o4_ hb); have n2_ := Aside0.mk (below_step o1_ hb); clear BK101; clear BK102; clear HB; have BK101 := n0_; have BK102 := n1_; have HB := n2_; clear n0_ n1_ n2_; (try clear hb); (try clear hb2); (try clear hk); (try clear hi)) | (go_at_call 16; (with_reducible refine (Ob.Gv.wants.calls 3 t115 t117 _ A41.out (HTAB_.out _ (by first | exact Below.refl _ _ | (with_reducible exact Aside0.out (by assumption)) | repeat (first | (with_reducible exact Aside0.out (by assumption)) | apply below_alloc | apply pw_below_drewN | apply below_drew1)))).mono ?_); rintro e w124 ⟨v118, rfl, ho0, hb⟩; have n0_ := Aside0.mk (Kd.R_lower ho0 (below_size o1_)); have n1_ := Aside0.mk (blk_below (g := gb101) (o := .cells #[.string a1_0, .slice A1_1 l1_1.length c1_1, .string a1_2, .string a1_3] 40 (0, 0)) o3_ hb); have n2_ := Aside0.mk (blk_below (g := gb102) (o := .cells #[.string a2_0, .int .i64 a2_1, .string a2_2, .string a2_3] 42 (0, 0)) o4_ hb); have n3_ := Aside0.mk (below_step o1_ hb); clear BK101; clear BK102; clear HB; have HO119 := n0_; have BK101 := n1_; have BK102 := n2_; have HB := n3_; clear n0_ n1_ n2_ n3_; (try clear hb); (try clear hb2); (try clear hk); (try clear hi); (try clear ho0); have hcz125_0 : w124.cell? ⟨gb102, 0, none⟩ = some (.string a2_0) := (blk_cell BK102.out 0).trans rfl; have hcz125_1 : w124.cell? ⟨gb102, 1, none⟩ = some (.int .i64 a2_1) := (blk_cell BK102.out 1).trans rfl; have hcz125_2 : w124.cell? ⟨gb102, 2, none⟩ = some (.string a2_2) := (blk_cell BK102.out 2).trans rfl; have hcz125_3 : w124.cell? ⟨gb102, 3, none⟩ = some (.string a2_3) := (blk_cell BK102.out 3).trans rfl; have hfz125_0 := blk_frozen BK102.out 0; have hfz125_1 := blk_frozen BK102.out 1; have hfz125_2 := blk_frozen BK102.out 2; have hfz125_3 := blk_frozen BK102.out 3) | (go_at_call 27; (with_reducible refine (Ob.Gv.putLabel.calls a2_0 a2_1 a2_2 a2_3 t132 true _ A114.out).mono ?_); rintro e w126 ⟨rfl, hb⟩; have n0_ := Aside0.mk (Kd.R_below o6_ hb); have n1_ := Aside0.mk (blk_below (g := gb101) (o := .cells #[.string a1_0, .slice A1_1 l1_1.length c1_1, .string a1_2, .string a1_3] 40 (0, 0)) o3_ hb); have n2_ := Aside0.mk (blk_below (g := gb102) (o := .cells #[.string a2_0, .int .i64 a2_1, .string a2_2, .string a2_3] 42 (0, 0)) o4_ hb); have n3_ := Aside0.mk (below_step o1_ hb); clear HO119; clear BK101; clear BK102; clear HB; have HO119 := n0_; have BK101 := n1_; have BK102 := n2_; have HB := n3_; clear n0_ n1_ n2_ n3_; (try clear hb); (try clear hb2); (try clear hk); (try clear hi)) | (go_at_call 16; (with_reducible refine (Ob.Gv.wants.calls 4 t132 t134 _ A115.out (HTAB_.out _ (by first | exact Below.refl _ _ | (with_reducible exact Aside0.out (by assumption)) | repeat (first | (with_reducible exact Aside0.out (by assumption)) | apply below_alloc | apply pw_below_drewN | apply below_drew1)))).mono ?_); rintro e w127 ⟨v135, rfl, ho0, hb⟩; have n0_ := Aside0.mk (Kd.R_elder' o6_ (Kd.R_base ho0) hb); have n1_ := Aside0.mk (Kd.R_lower (Kd.R_new' ho0 (Kd.R_lt o6_)) (below_size o1_)); have n2_ := Aside0.mk (blk_below (g := gb101) (o := .cells #[.string a1_0, .slice A1_1 l1_1.length c1_1, .string a1_2, .string a1_3] 40 (0, 0)) o3_ hb); have n3_ := Aside0.mk (blk_below (g := gb102) (o := .cells #[.string a2_0, .int .i64 a2_1, .string a2_2, .string a2_3] 42 (0, 0)) o4_ hb); have n4_ := Aside0.mk (below_step o1_ hb); clear HO119; clear BK101; clear BK102; clear HB; have HO119 := n0_; have HO136 := n1_; have BK101 := n2_; have BK102 := n3_; have HB := n4_; clear n0_ n1_ n2_ n3_ n4_; (try clear hb); (try clear hb2); (try clear hk); (try clear hi); (try clear ho0); obtain ⟨Ao128, co128, eo128⟩ := Kd.R_slice HO136.out; subst eo128; have p137 : 0 ≤ (0 : Int) := (by omega); have q137 : 0 < (t134.length : Int) := oda_; obtain ⟨ad137, e137, hx137_0, hx137_1⟩ := at_T58 (Kd.R_reads' HO136.out).2.2 0 p137 q137; cases e137; have qi137 : (0 < t134.length) = True := eq_true (by omega); (try rw [show ((0 : Int)).toNat = 0 from rfl] at hx137_0); (try rw [show 0 * 2 = 0 from rfl] at hx137_0); (try rw [Addr.add_zero'] at hx137_0); (try rw [show ((0 : Int)).toNat = 0 from rfl] at hx137_1); (try rw [show 0 * 2 = 0 from rfl] at hx137_1); (try rw [Addr.add_zero'] at hx137_1); replace p137 := eq_true p137; replace q137 := eq_true q137; have hcz129_0 : w127.cell? ⟨gb102, 0, none⟩ = some (.string a2_0) := (blk_cell BK102.out 0).trans rfl; have hcz129_1 : w127.cell? ⟨gb102, 1, none⟩ = some (.int .i64 a2_1) := (blk_cell BK102.out 1).trans rfl; have hcz129_2 : w127.cell? ⟨gb102, 2, none⟩ = some (.string a2_2) := (blk_cell BK102.out 2).trans rfl; have hcz129_3 : w127.cell? ⟨gb102, 3, none⟩ = some (.string a2_3) := (blk_cell BK102.out 3).trans rfl; have hfz129_0 := blk_frozen BK102.out 0; have hfz129_1 := blk_frozen BK102.out 1; have hfz129_2 := blk_frozen BK102.out 2; have hfz129_3 := blk_frozen BK102.out 3; have p138 : 0 ≤ (0 : Int) := (by omega); have q138 : 0 < (t134.length : Int) := oda_; obtain ⟨ad138, e138, hx138_0, hx138_1⟩ := at_T58 (Kd.R_reads' HO136.out).2.2 0 p138 q138; obtain rfl : ad137 = ad138 := (by injection e138); have qi138 : (0 < t134.length) = True := eq_true (by omega); (try rw [show ((0 : Int)).toNat = 0 from rfl] at hx138_0); (try rw [show 0 * 2 = 0 from rfl] at hx138_0); (try rw [Addr.add_zero'] at hx138_0); (try rw [show ((0 : Int)).toNat = 0 from rfl] at hx138_1); (try rw [show 0 * 2 = 0 from rfl] at hx138_1); (try rw [Addr.add_zero'] at hx138_1); replace p138 := eq_true p138; replace q138 := eq_true q138)); try go_wp2_with (first | (go_at_call 25; (with_reducible refine (Ob.Gv.putChange.calls a1_0 _ _ l1_1 a1_2 a1_3 t115 false _ ?side1 ?side2 A40.out).mono ?_); (case side1 => repeat (first | exact (Kd.C_below HR1_1.out HB.out) | (with_reducible refine Kd.C_alloc ?_ _) | (with_reducible refine Kd.C_drewN ?_ _) | (with_reducible refine Kd.C_drew ?_))); (case side2 => exact HC1_1.out); rintro e w123 ⟨rfl, hb⟩; have n0_ := Aside0.mk (blk_below (g := gb101) (o := .cells #[.string a1_0, .slice A1_1 l1_1.length c1_1, .string a1_2, .string a1_3] 40 (0, 0)) o3_ hb); have n1_ := Aside0.mk (blk_below (g := gb102) (o := .cells #[.string a2_0, .int .i64 a2_1, .string a2_2, .string a2_3] 42 (0, 0)) o4_ hb); have n2_ := Aside0.mk (below_step o1_ hb); clear BK101; clear BK102; clear HB; have BK101 := n0_; have BK102 := n1_; have HB := n2_; clear n0_ n1_ n2_; (try clear hb); (try clear hb2); (try clear hk); (try clear hi)) | (go_at_call 16; (with_reducible refine (Ob.Gv.wants.calls 3 t115 t117 _ A41.out (HTAB_.out _ (by first | exact Below.refl _ _ | (with_reducible exact Aside0.out (by assumption)) | repeat (first | (with_reducible exact Aside0.out (by assumption)) | apply below_alloc | apply pw_below_drewN | apply below_drew1)))).mono ?_); rintro e w124 ⟨v118, rfl, ho0, hb⟩; have n0_ := Aside0.mk (Kd.R_lower ho0 (below_size o1_)); have n1_ := Aside0.mk (blk_below (g := gb101) (o := .cells #[.string a1_0, .slice A1_1 l1_1.length c1_1, .string a1_2, .string a1_3] 40 (0, 0)) o3_ hb); have n2_ := Aside0.mk (blk_below (g := gb102) (o := .cells #[.string a2_0, .int .i64 a2_1, .string a2_2, .string a2_3] 42 (0, 0)) o4_ hb); have n3_ := Aside0.mk (below_step o1_ hb); clear BK101; clear BK102; clear HB; have HO119 := n0_; have BK101 := n1_; have BK102 := n2_; have HB := n3_; clear n0_ n1_ n2_ n3_; (try clear hb); (try clear hb2); (try clear hk); (try clear hi); (try clear ho0); have hcz125_0 : w124.cell? ⟨gb102, 0, none⟩ = some (.string a2_0) := (blk_cell BK102.out 0).trans rfl; have hcz125_1 : w124.cell? ⟨gb102, 1, none⟩ = some (.int .i64 a2_1) := (blk_cell BK102.out 1).trans rfl; have hcz125_2 : w124.cell? ⟨gb102, 2, none⟩ = some (.string a2_2) := (blk_cell BK102.out 2).trans rfl; have hcz125_3 : w124.cell? ⟨gb102, 3, none⟩ = some (.string a2_3) := (blk_cell BK102.out 3).trans rfl; have hfz125_0 := blk_frozen BK102.out 0; have hfz125_1 := blk_frozen BK102.out 1; have hfz125_2 := blk_frozen BK102.out 2; have hfz125_3 := blk_frozen BK102.out 3) | (go_at_call 27; (with_reducible refine (Ob.Gv.putLabel.calls a2_0 a2_1 a2_2 a2_3 t132 true _ A114.out).mono ?_); rintro e w126 ⟨rfl, hb⟩; have n0_ := Aside0.mk (Kd.R_below o6_ hb); have n1_ := Aside0.mk (blk_below (g := gb101) (o := .cells #[.string a1_0, .slice A1_1 l1_1.length c1_1, .string a1_2, .string a1_3] 40 (0, 0)) o3_ hb); have n2_ := Aside0.mk (blk_below (g := gb102) (o := .cells #[.string a2_0, .int .i64 a2_1, .string a2_2, .string a2_3] 42 (0, 0)) o4_ hb); have n3_ := Aside0.mk (below_step o1_ hb); clear HO119; clear BK101; clear BK102; clear HB; have HO119 := n0_; have BK101 := n1_; have BK102 := n2_; have HB := n3_; clear n0_ n1_ n2_ n3_; (try clear hb); (try clear hb2); (try clear hk); (try clear hi)) | (go_at_call 16; (with_reducible refine (Ob.Gv.wants.calls 4 t132 t134 _ A115.out (HTAB_.out _ (by first | exact Below.refl _ _ | (with_reducible exact Aside0.out (by assumption)) | repeat (first | (with_reducible exact Aside0.out (by assumption)) | apply below_alloc | apply pw_below_drewN | apply below_drew1)))).mono ?_); rintro e w127 ⟨v135, rfl, ho0, hb⟩; have n0_ := Aside0.mk (Kd.R_elder' o6_ (Kd.R_base ho0) hb); have n1_ := Aside0.mk (Kd.R_lower (Kd.R_new' ho0 (Kd.R_lt o6_)) (below_size o1_)); have n2_ := Aside0.mk (blk_below (g := gb101) (o := .cells #[.string a1_0, .slice A1_1 l1_1.length c1_1, .string a1_2, .string a1_3] 40 (0, 0)) o3_ hb); have n3_ := Aside0.mk (blk_below (g := gb102) (o := .cells #[.string a2_0, .int .i64 a2_1, .string a2_2, .string a2_3] 42 (0, 0)) o4_ hb); have n4_ := Aside0.mk (below_step o1_ hb); clear HO119; clear BK101; clear BK102; clear HB; have HO119 := n0_; have HO136 := n1_; have BK101 := n2_; have BK102 := n3_; have HB := n4_; clear n0_ n1_ n2_ n3_ n4_; (try clear hb); (try clear hb2); (try clear hk); (try clear hi); (try clear ho0); obtain ⟨Ao128, co128, eo128⟩ := Kd.R_slice HO136.out; subst eo128; have p137 : 0 ≤ (0 : Int) := (by omega); have q137 : 0 < (t134.length : Int) := oda_; obtain ⟨ad137, e137, hx137_0, hx137_1⟩ := at_T58 (Kd.R_reads' HO136.out).2.2 0 p137 q137; cases e137; have qi137 : (0 < t134.length) = True := eq_true (by omega); (try rw [show ((0 : Int)).toNat = 0 from rfl] at hx137_0); (try rw [show 0 * 2 = 0 from rfl] at hx137_0); (try rw [Addr.add_zero'] at hx137_0); (try rw [show ((0 : Int)).toNat = 0 from rfl] at hx137_1); (try rw [show 0 * 2 = 0 from rfl] at hx137_1); (try rw [Addr.add_zero'] at hx137_1); replace p137 := eq_true p137; replace q137 := eq_true q137; have hcz129_0 : w127.cell? ⟨gb102, 0, none⟩ = some (.string a2_0) := (blk_cell BK102.out 0).trans rfl; have hcz129_1 : w127.cell? ⟨gb102, 1, none⟩ = some (.int .i64 a2_1) := (blk_cell BK102.out 1).trans rfl; have hcz129_2 : w127.cell? ⟨gb102, 2, none⟩ = some (.string a2_2) := (blk_cell BK102.out 2).trans rfl; have hcz129_3 : w127.cell? ⟨gb102, 3, none⟩ = some (.string a2_3) := (blk_cell BK102.out 3).trans rfl; have hfz129_0 := blk_frozen BK102.out 0; have hfz129_1 := blk_frozen BK102.out 1; have hfz129_2 := blk_frozen BK102.out 2; have hfz129_3 := blk_frozen BK102.out 3; have p138 : 0 ≤ (0 : Int) := (by omega); have q138 : 0 < (t134.length : Int) := oda_; obtain ⟨ad138, e138, hx138_0, hx138_1⟩ := at_T58 (Kd.R_reads' HO136.out).2.2 0 p138 q138; obtain rfl : ad137 = ad138 := (by injection e138); have qi138 : (0 < t134.length) = True := eq_true (by omega); (try rw [show ((0 : Int)).toNat = 0 from rfl] at hx138_0); (try rw [show 0 * 2 = 0 from rfl] at hx138_0); (try rw [Addr.add_zero'] at hx138_0); (try rw [show ((0 : Int)).toNat = 0 from rfl] at hx138_1); (try rw [show 0 * 2 = 0 from rfl] at hx138_1); (try rw [Addr.add_zero'] at hx138_1); replace p138 := eq_true p138; replace q138 := eq_true q138)))
              go_ret
              exact ⟨er_, o1_⟩
             ·
              as_aux_lemma =>
              rw [if_neg c120] at H
              have c120b0 : (((rd_T58 t134 0).f0).toList == a2_0.toList) = false := beq_eq_false_iff_ne.mpr c120
              have c120b1 : (((rd_T58 t134 0).f0).toList != a2_0.toList) = true := bne_iff_ne.mpr c120
              obtain rfl := Option.some.inj H
              have hnb130 := NB101_102.out
              have hnc130 := NB102_101.out
              have hcz131_0 : wc.cell? ⟨gb101, 0, none⟩ = some (.string a1_0) := (blk_cell BK101.out 0).trans rfl
              have hcz131_1 : wc.cell? ⟨gb101, 1, none⟩ = some (.slice A1_1 l1_1.length c1_1) := (blk_cell BK101.out 1).trans rfl
              have hcz131_2 : wc.cell? ⟨gb101, 2, none⟩ = some (.string a1_2) := (blk_cell BK101.out 2).trans rfl
              have hcz131_3 : wc.cell? ⟨gb101, 3, none⟩ = some (.string a1_3) := (blk_cell BK101.out 3).trans rfl
              have hfz131_0 := blk_frozen BK101.out 0
              have hfz131_1 := blk_frozen BK101.out 1
              have hfz131_2 := blk_frozen BK101.out 2
              have hfz131_3 := blk_frozen BK101.out 3
              go_wp2_with (first | (go_at_call 25; (with_reducible refine (Ob.Gv.putChange.calls a1_0 _ _ l1_1 a1_2 a1_3 t115 false _ ?side1 ?side2 A40.out).mono ?_); (case side1 => repeat (first | exact (Kd.C_below HR1_1.out HB.out) | (with_reducible refine Kd.C_alloc ?_ _) | (with_reducible refine Kd.C_drewN ?_ _) | (with_reducible refine Kd.C_drew ?_))); (case side2 => exact HC1_1.out); rintro e w132 ⟨rfl, hb⟩; have n0_ := Aside0.mk (blk_below (g := gb101) (o := .cells #[.string a1_0, .slice A1_1 l1_1.length c1_1, .string a1_2, .string a1_3] 40 (0, 0)) o3_ hb); have n1_ := Aside0.mk (blk_below (g := gb102) (o := .cells #[.string a2_0, .int .i64 a2_1, .string a2_2, .string a2_3] 42 (0, 0)) o4_ hb); have n2_ := Aside0.mk (below_step o1_ hb); clear BK101; clear BK102; clear HB; have BK101 := n0_; have BK102 := n1_; have HB := n2_; clear n0_ n1_ n2_; (try clear hb); (try clear hb2); (try clear hk); (try clear hi)) | (go_at_call 16; (with_reducible refine (Ob.Gv.wants.calls 3 t115 t117 _ A41.out (HTAB_.out _ (by first | exact Below.refl _ _ | (with_reducible exact Aside0.out (by assumption)) | repeat (first | (with_reducible exact Aside0.out (by assumption)) | apply below_alloc | apply pw_below_drewN | apply below_drew1)))).mono ?_); rintro e w133 ⟨v118, rfl, ho0, hb⟩; have n0_ := Aside0.mk (Kd.R_lower ho0 (below_size o1_)); have n1_ := Aside0.mk (blk_below (g := gb101) (o := .cells #[.string a1_0, .slice A1_1 l1_1.length c1_1, .string a1_2, .string a1_3] 40 (0, 0)) o3_ hb); have n2_ := Aside0.mk (blk_below (g := gb102) (o := .cells #[.string a2_0, .int .i64 a2_1, .string a2_2, .string a2_3] 42 (0, 0)) o4_ hb); have n3_ := Aside0.mk (below_step o1_ hb); clear BK101; clear BK102; clear HB; have HO119 := n0_; have BK101 := n1_; have BK102 := n2_; have HB := n3_; clear n0_ n1_ n2_ n3_; (try clear hb); (try clear hb2); (try clear hk); (try clear hi); (try clear ho0); have hcz134_0 : w133.cell? ⟨gb102, 0, none⟩ = some (.string a2_0) := (blk_cell BK102.out 0).trans rfl; have hcz134_1 : w133.cell? ⟨gb102, 1, none⟩ = some (.int .i64 a2_1) := (blk_cell BK102.out 1).trans rfl; have hcz134_2 : w133.cell? ⟨gb102, 2, none⟩ = some (.string a2_2) := (blk_cell BK102.out 2).trans rfl; have hcz134_3 : w133.cell? ⟨gb102, 3, none⟩ = some (.string a2_3) := (blk_cell BK102.out 3).trans rfl; have hfz134_0 := blk_frozen BK102.out 0; have hfz134_1 := blk_frozen BK102.out 1; have hfz134_2 := blk_frozen BK102.out 2; have hfz134_3 := blk_frozen BK102.out 3) | (go_at_call 27; (with_reducible refine (Ob.Gv.putLabel.calls a2_0 a2_1 a2_2 a2_3 t132 true _ A114.out).mono ?_); rintro e w135 ⟨rfl, hb⟩; have n0_ := Aside0.mk (Kd.R_below o6_ hb); have n1_ := Aside0.mk (blk_below (g := gb101) (o := .cells #[.string a1_0, .slice A1_1 l1_1.length c1_1, .string a1_2, .string a1_3] 40 (0, 0)) o3_ hb); have n2_ := Aside0.mk (blk_below (g := gb102) (o := .cells #[.string a2_0, .int .i64 a2_1, .string a2_2, .string a2_3] 42 (0, 0)) o4_ hb); have n3_ := Aside0.mk (below_step o1_ hb); clear HO119; clear BK101; clear BK102; clear HB; have HO119 := n0_; have BK101 := n1_; have BK102 := n2_; have HB := n3_; clear n0_ n1_ n2_ n3_; (try clear hb); (try clear hb2); (try clear hk); (try clear hi)) | (go_at_call 16; (with_reducible refine (Ob.Gv.wants.calls 4 t132 t134 _ A115.out (HTAB_.out _ (by first | exact Below.refl _ _ | (with_reducible exact Aside0.out (by assumption)) | repeat (first | (with_reducible exact Aside0.out (by assumption)) | apply below_alloc | apply pw_below_drewN | apply below_drew1)))).mono ?_); rintro e w136 ⟨v135, rfl, ho0, hb⟩; have n0_ := Aside0.mk (Kd.R_elder' o6_ (Kd.R_base ho0) hb); have n1_ := Aside0.mk (Kd.R_lower (Kd.R_new' ho0 (Kd.R_lt o6_)) (below_size o1_)); have n2_ := Aside0.mk (blk_below (g := gb101) (o := .cells #[.string a1_0, .slice A1_1 l1_1.length c1_1, .string a1_2, .string a1_3] 40 (0, 0)) o3_ hb); have n3_ := Aside0.mk (blk_below (g := gb102) (o := .cells #[.string a2_0, .int .i64 a2_1, .string a2_2, .string a2_3] 42 (0, 0)) o4_ hb); have n4_ := Aside0.mk (below_step o1_ hb); clear HO119; clear BK101; clear BK102; clear HB; have HO119 := n0_; have HO136 := n1_; have BK101 := n2_; have BK102 := n3_; have HB := n4_; clear n0_ n1_ n2_ n3_ n4_; (try clear hb); (try clear hb2); (try clear hk); (try clear hi); (try clear ho0); obtain ⟨Ao137, co137, eo137⟩ := Kd.R_slice HO136.out; subst eo137; have p137 : 0 ≤ (0 : Int) := (by omega); have q137 : 0 < (t134.length : Int) := oda_; obtain ⟨ad137, e137, hx137_0, hx137_1⟩ := at_T58 (Kd.R_reads' HO136.out).2.2 0 p137 q137; cases e137; have qi137 : (0 < t134.length) = True := eq_true (by omega); (try rw [show ((0 : Int)).toNat = 0 from rfl] at hx137_0); (try rw [show 0 * 2 = 0 from rfl] at hx137_0); (try rw [Addr.add_zero'] at hx137_0); (try rw [show ((0 : Int)).toNat = 0 from rfl] at hx137_1); (try rw [show 0 * 2 = 0 from rfl] at hx137_1); (try rw [Addr.add_zero'] at hx137_1); replace p137 := eq_true p137; replace q137 := eq_true q137; have hcz138_0 : w136.cell? ⟨gb102, 0, none⟩ = some (.string a2_0) := (blk_cell BK102.out 0).trans rfl; have hcz138_1 : w136.cell? ⟨gb102, 1, none⟩ = some (.int .i64 a2_1) := (blk_cell BK102.out 1).trans rfl; have hcz138_2 : w136.cell? ⟨gb102, 2, none⟩ = some (.string a2_2) := (blk_cell BK102.out 2).trans rfl; have hcz138_3 : w136.cell? ⟨gb102, 3, none⟩ = some (.string a2_3) := (blk_cell BK102.out 3).trans rfl; have hfz138_0 := blk_frozen BK102.out 0; have hfz138_1 := blk_frozen BK102.out 1; have hfz138_2 := blk_frozen BK102.out 2; have hfz138_3 := blk_frozen BK102.out 3))
              repeat (go_quiet (first | (go_at_call 25; (with_reducible refine (Ob.Gv.putChange.calls a1_0 _ _ l1_1 a1_2 a1_3 t115 false _ ?side1 ?side2 A40.out).mono ?_); (case side1 => repeat (first | exact (Kd.C_below HR1_1.out HB.out) | (with_reducible refine Kd.C_alloc ?_ _) | (with_reducible refine Kd.C_drewN ?_ _) | (with_reducible refine Kd.C_drew ?_))); (case side2 => exact HC1_1.out); rintro e w132 ⟨rfl, hb⟩; have n0_ := Aside0.mk (blk_below (g := gb101) (o := .cells #[.string a1_0, .slice A1_1 l1_1.length c1_1, .string a1_2, .string a1_3] 40 (0, 0)) o3_ hb); have n1_ := Aside0.mk (blk_below (g := gb102) (o := .cells #[.string a2_0, .int .i64 a2_1, .string a2_2, .string a2_3] 42 (0, 0)) o4_ hb); have n2_ := Aside0.mk (below_step o1_ hb); clear BK101; clear BK102; clear HB; have BK101 := n0_; have BK102 := n1_; have HB := n2_; clear n0_ n1_ n2_; (try clear hb); (try clear hb2); (try clear hk); (try clear hi)) | (go_at_call 16; (with_reducible refine (Ob.Gv.wants.calls 3 t115 t117 _ A41.out (HTAB_.out _ (by first | exact Below.refl _ _ | (with_reducible exact Aside0.out (by assumption)) | repeat (first | (with_reducible exact Aside0.out (by assumption)) | apply below_alloc | apply pw_below_drewN | apply below_drew1)))).mono ?_); rintro e w133 ⟨v118, rfl, ho0, hb⟩; have n0_ := Aside0.mk (Kd.R_lower ho0 (below_size o1_)); have n1_ := Aside0.mk (blk_below (g := gb101) (o := .cells #[.string a1_0, .slice A1_1 l1_1.length c1_1, .string a1_2, .string a1_3] 40 (0, 0)) o3_ hb); have n2_ := Aside0.mk (blk_below (g := gb102) (o := .cells #[.string a2_0, .int .i64 a2_1, .string a2_2, .string a2_3] 42 (0, 0)) o4_ hb); have n3_ := Aside0.mk (below_step o1_ hb); clear BK101; clear BK102; clear HB; have HO119 := n0_; have BK101 := n1_; have BK102 := n2_; have HB := n3_; clear n0_ n1_ n2_ n3_; (try clear hb); (try clear hb2); (try clear hk); (try clear hi); (try clear ho0); have hcz134_0 : w133.cell? ⟨gb102, 0, none⟩ = some (.string a2_0) := (blk_cell BK102.out 0).trans rfl; have hcz134_1 : w133.cell? ⟨gb102, 1, none⟩ = some (.int .i64 a2_1) := (blk_cell BK102.out 1).trans rfl; have hcz134_2 : w133.cell? ⟨gb102, 2, none⟩ = some (.string a2_2) := (blk_cell BK102.out 2).trans rfl; have hcz134_3 : w133.cell? ⟨gb102, 3, none⟩ = some (.string a2_3) := (blk_cell BK102.out 3).trans rfl; have hfz134_0 := blk_frozen BK102.out 0; have hfz134_1 := blk_frozen BK102.out 1; have hfz134_2 := blk_frozen BK102.out 2; have hfz134_3 := blk_frozen BK102.out 3) | (go_at_call 27; (with_reducible refine (Ob.Gv.putLabel.calls a2_0 a2_1 a2_2 a2_3 t132 true _ A114.out).mono ?_); rintro e w135 ⟨rfl, hb⟩; have n0_ := Aside0.mk (Kd.R_below o6_ hb); have n1_ := Aside0.mk (blk_below (g := gb101) (o := .cells #[.string a1_0, .slice A1_1 l1_1.length c1_1, .string a1_2, .string a1_3] 40 (0, 0)) o3_ hb); have n2_ := Aside0.mk (blk_below (g := gb102) (o := .cells #[.string a2_0, .int .i64 a2_1, .string a2_2, .string a2_3] 42 (0, 0)) o4_ hb); have n3_ := Aside0.mk (below_step o1_ hb); clear HO119; clear BK101; clear BK102; clear HB; have HO119 := n0_; have BK101 := n1_; have BK102 := n2_; have HB := n3_; clear n0_ n1_ n2_ n3_; (try clear hb); (try clear hb2); (try clear hk); (try clear hi)) | (go_at_call 16; (with_reducible refine (Ob.Gv.wants.calls 4 t132 t134 _ A115.out (HTAB_.out _ (by first | exact Below.refl _ _ | (with_reducible exact Aside0.out (by assumption)) | repeat (first | (with_reducible exact Aside0.out (by assumption)) | apply below_alloc | apply pw_below_drewN | apply below_drew1)))).mono ?_); rintro e w136 ⟨v135, rfl, ho0, hb⟩; have n0_ := Aside0.mk (Kd.R_elder' o6_ (Kd.R_base ho0) hb); have n1_ := Aside0.mk (Kd.R_lower (Kd.R_new' ho0 (Kd.R_lt o6_)) (below_size o1_)); have n2_ := Aside0.mk (blk_below (g := gb101) (o := .cells #[.string a1_0, .slice A1_1 l1_1.length c1_1, .string a1_2, .string a1_3] 40 (0, 0)) o3_ hb); have n3_ := Aside0.mk (blk_below (g := gb102) (o := .cells #[.string a2_0, .int .i64 a2_1, .string a2_2, .string a2_3] 42 (0, 0)) o4_ hb); have n4_ := Aside0.mk (below_step o1_ hb); clear HO119; clear BK101; clear BK102; clear HB; have HO119 := n0_; have HO136 := n1_; have BK101 := n2_; have BK102 := n3_; have HB := n4_; clear n0_ n1_ n2_ n3_ n4_; (try clear hb); (try clear hb2); (try clear hk); (try clear hi); (try clear ho0); obtain ⟨Ao137, co137, eo137⟩ := Kd.R_slice HO136.out; subst eo137; have p137 : 0 ≤ (0 : Int) := (by omega); have q137 : 0 < (t134.length : Int) := oda_; obtain ⟨ad137, e137, hx137_0, hx137_1⟩ := at_T58 (Kd.R_reads' HO136.out).2.2 0 p137 q137; cases e137; have qi137 : (0 < t134.length) = True := eq_true (by omega); (try rw [show ((0 : Int)).toNat = 0 from rfl] at hx137_0); (try rw [show 0 * 2 = 0 from rfl] at hx137_0); (try rw [Addr.add_zero'] at hx137_0); (try rw [show ((0 : Int)).toNat = 0 from rfl] at hx137_1); (try rw [show 0 * 2 = 0 from rfl] at hx137_1); (try rw [Addr.add_zero'] at hx137_1); replace p137 := eq_true p137; replace q137 := eq_true q137; have hcz138_0 : w136.cell? ⟨gb102, 0, none⟩ = some (.string a2_0) := (blk_cell BK102.out 0).trans rfl; have hcz138_1 : w136.cell? ⟨gb102, 1, none⟩ = some (.int .i64 a2_1) := (blk_cell BK102.out 1).trans rfl; have hcz138_2 : w136.cell? ⟨gb102, 2, none⟩ = some (.string a2_2) := (blk_cell BK102.out 2).trans rfl; have hcz138_3 : w136.cell? ⟨gb102, 3, none⟩ = some (.string a2_3) := (blk_cell BK102.out 3).trans rfl; have hfz138_0 := blk_frozen BK102.out 0; have hfz138_1 := blk_frozen BK102.out 1; have hfz138_2 := blk_frozen BK102.out 2; have hfz138_3 := blk_frozen BK102.out 3)); try go_wp2_with (first | (go_at_call 25; (with_reducible refine (Ob.Gv.putChange.calls a1_0 _ _ l1_1 a1_2 a1_3 t115 false _ ?side1 ?side2 A40.out).mono ?_); (case side1 => repeat (first | exact (Kd.C_below HR1_1.out HB.out) | (with_reducible refine Kd.C_alloc ?_ _) | (with_reducible refine Kd.C_drewN ?_ _) | (with_reducible refine Kd.C_drew ?_))); (case side2 => exact HC1_1.out); rintro e w132 ⟨rfl, hb⟩; have n0_ := Aside0.mk (blk_below (g := gb101) (o := .cells #[.string a1_0, .slice A1_1 l1_1.length c1_1, .string a1_2, .string a1_3] 40 (0, 0)) o3_ hb); have n1_ := Aside0.mk (blk_below (g := gb102) (o := .cells #[.string a2_0, .int .i64 a2_1, .string a2_2, .string a2_3] 42 (0, 0)) o4_ hb); have n2_ := Aside0.mk (below_step o1_ hb); clear BK101; clear BK102; clear HB; have BK101 := n0_; have BK102 := n1_; have HB := n2_; clear n0_ n1_ n2_; (try clear hb); (try clear hb2); (try clear hk); (try clear hi)) | (go_at_call 16; (with_reducible refine (Ob.Gv.wants.calls 3 t115 t117 _ A41.out (HTAB_.out _ (by first | exact Below.refl _ _ | (with_reducible exact Aside0.out (by assumption)) | repeat (first | (with_reducible exact Aside0.out (by assumption)) | apply below_alloc | apply pw_below_drewN | apply below_drew1)))).mono ?_); rintro e w133 ⟨v118, rfl, ho0, hb⟩; have n0_ := Aside0.mk (Kd.R_lower ho0 (below_size o1_)); have n1_ := Aside0.mk (blk_below (g := gb101) (o := .cells #[.string a1_0, .slice A1_1 l1_1.length c1_1, .string a1_2, .string a1_3] 40 (0, 0)) o3_ hb); have n2_ := Aside0.mk (blk_below (g := gb102) (o := .cells #[.string a2_0, .int .i64 a2_1, .string a2_2, .string a2_3] 42 (0, 0)) o4_ hb); have n3_ := Aside0.mk (below_step o1_ hb); clear BK101; clear BK102; clear HB; have HO119 := n0_; have BK101 := n1_; have BK102 := n2_; have HB := n3_; clear n0_ n1_ n2_ n3_; (try clear hb); (try clear hb2); (try clear hk); (try clear hi); (try clear ho0); have hcz134_0 : w133.cell? ⟨gb102, 0, none⟩ = some (.string a2_0) := (blk_cell BK102.out 0).trans rfl; have hcz134_1 : w133.cell? ⟨gb102, 1, none⟩ = some (.int .i64 a2_1) := (blk_cell BK102.out 1).trans rfl; have hcz134_2 : w133.cell? ⟨gb102, 2, none⟩ = some (.string a2_2) := (blk_cell BK102.out 2).trans rfl; have hcz134_3 : w133.cell? ⟨gb102, 3, none⟩ = some (.string a2_3) := (blk_cell BK102.out 3).trans rfl; have hfz134_0 := blk_frozen BK102.out 0; have hfz134_1 := blk_frozen BK102.out 1; have hfz134_2 := blk_frozen BK102.out 2; have hfz134_3 := blk_frozen BK102.out 3) | (go_at_call 27; (with_reducible refine (Ob.Gv.putLabel.calls a2_0 a2_1 a2_2 a2_3 t132 true _ A114.out).mono ?_); rintro e w135 ⟨rfl, hb⟩; have n0_ := Aside0.mk (Kd.R_below o6_ hb); have n1_ := Aside0.mk (blk_below (g := gb101) (o := .cells #[.string a1_0, .slice A1_1 l1_1.length c1_1, .string a1_2, .string a1_3] 40 (0, 0)) o3_ hb); have n2_ := Aside0.mk (blk_below (g := gb102) (o := .cells #[.string a2_0, .int .i64 a2_1, .string a2_2, .string a2_3] 42 (0, 0)) o4_ hb); have n3_ := Aside0.mk (below_step o1_ hb); clear HO119; clear BK101; clear BK102; clear HB; have HO119 := n0_; have BK101 := n1_; have BK102 := n2_; have HB := n3_; clear n0_ n1_ n2_ n3_; (try clear hb); (try clear hb2); (try clear hk); (try clear hi)) | (go_at_call 16; (with_reducible refine (Ob.Gv.wants.calls 4 t132 t134 _ A115.out (HTAB_.out _ (by first | exact Below.refl _ _ | (with_reducible exact Aside0.out (by assumption)) | repeat (first | (with_reducible exact Aside0.out (by assumption)) | apply below_alloc | apply pw_below_drewN | apply below_drew1)))).mono ?_); rintro e w136 ⟨v135, rfl, ho0, hb⟩; have n0_ := Aside0.mk (Kd.R_elder' o6_ (Kd.R_base ho0) hb); have n1_ := Aside0.mk (Kd.R_lower (Kd.R_new' ho0 (Kd.R_lt o6_)) (below_size o1_)); have n2_ := Aside0.mk (blk_below (g := gb101) (o := .cells #[.string a1_0, .slice A1_1 l1_1.length c1_1, .string a1_2, .string a1_3] 40 (0, 0)) o3_ hb); have n3_ := Aside0.mk (blk_below (g := gb102) (o := .cells #[.string a2_0, .int .i64 a2_1, .string a2_2, .string a2_3] 42 (0, 0)) o4_ hb); have n4_ := Aside0.mk (below_step o1_ hb); clear HO119; clear BK101; clear BK102; clear HB; have HO119 := n0_; have HO136 := n1_; have BK101 := n2_; have BK102 := n3_; have HB := n4_; clear n0_ n1_ n2_ n3_ n4_; (try clear hb); (try clear hb2); (try clear hk); (try clear hi); (try clear ho0); obtain ⟨Ao137, co137, eo137⟩ := Kd.R_slice HO136.out; subst eo137; have p137 : 0 ≤ (0 : Int) := (by omega); have q137 : 0 < (t134.length : Int) := oda_; obtain ⟨ad137, e137, hx137_0, hx137_1⟩ := at_T58 (Kd.R_reads' HO136.out).2.2 0 p137 q137; cases e137; have qi137 : (0 < t134.length) = True := eq_true (by omega); (try rw [show ((0 : Int)).toNat = 0 from rfl] at hx137_0); (try rw [show 0 * 2 = 0 from rfl] at hx137_0); (try rw [Addr.add_zero'] at hx137_0); (try rw [show ((0 : Int)).toNat = 0 from rfl] at hx137_1); (try rw [show 0 * 2 = 0 from rfl] at hx137_1); (try rw [Addr.add_zero'] at hx137_1); replace p137 := eq_true p137; replace q137 := eq_true q137; have hcz138_0 : w136.cell? ⟨gb102, 0, none⟩ = some (.string a2_0) := (blk_cell BK102.out 0).trans rfl; have hcz138_1 : w136.cell? ⟨gb102, 1, none⟩ = some (.int .i64 a2_1) := (blk_cell BK102.out 1).trans rfl; have hcz138_2 : w136.cell? ⟨gb102, 2, none⟩ = some (.string a2_2) := (blk_cell BK102.out 2).trans rfl; have hcz138_3 : w136.cell? ⟨gb102, 3, none⟩ = some (.string a2_3) := (blk_cell BK102.out 3).trans rfl; have hfz138_0 := blk_frozen BK102.out 0; have hfz138_1 := blk_frozen BK102.out 1; have hfz138_2 := blk_frozen BK102.out 2; have hfz138_3 := blk_frozen BK102.out 3)))
              go_ret
              exact ⟨er_, o1_⟩
            ·
             as_aux_lemma =>
             rw [if_neg c119] at H
             exact absurd H (by simp)
           ·
            as_aux_lemma =>
            rw [if_neg c118] at H
            have c118b0 : ((t134.length : Int) == 1) = false := beq_eq_false_iff_ne.mpr c118
            have c118b1 : ((t134.length : Int) != 1) = true := bne_iff_ne.mpr c118
            obtain rfl := Option.some.inj H
            have hnb139 := NB101_102.out
            have hnc139 := NB102_101.out
            have hcz140_0 : wc.cell? ⟨gb101, 0, none⟩ = some (.string a1_0) := (blk_cell BK101.out 0).trans rfl
            have hcz140_1 : wc.cell? ⟨gb101, 1, none⟩ = some (.slice A1_1 l1_1.length c1_1) := (blk_cell BK101.out 1).trans rfl
            have hcz140_2 : wc.cell? ⟨gb101, 2, none⟩ = some (.string a1_2) := (blk_cell BK101.out 2).trans rfl
            have hcz140_3 : wc.cell? ⟨gb101, 3, none⟩ = some (.string a1_3) := (blk_cell BK101.out 3).trans rfl
            have hfz140_0 := blk_frozen BK101.out 0
            have hfz140_1 := blk_frozen BK101.out 1
            have hfz140_2 := blk_frozen BK101.out 2
            have hfz140_3 := blk_frozen BK101.out 3
            go_wp2_with (first | (go_at_call 25; (with_reducible refine (Ob.Gv.putChange.calls a1_0 _ _ l1_1 a1_2 a1_3 t115 false _ ?side1 ?side2 A40.out).mono ?_); (case side1 => repeat (first | exact (Kd.C_below HR1_1.out HB.out) | (with_reducible refine Kd.C_alloc ?_ _) | (with_reducible refine Kd.C_drewN ?_ _) | (with_reducible refine Kd.C_drew ?_))); (case side2 => exact HC1_1.out); rintro e w141 ⟨rfl, hb⟩; have n0_ := Aside0.mk (blk_below (g := gb101) (o := .cells #[.string a1_0, .slice A1_1 l1_1.length c1_1, .string a1_2, .string a1_3] 40 (0, 0)) o3_ hb); have n1_ := Aside0.mk (blk_below (g := gb102) (o := .cells #[.string a2_0, .int .i64 a2_1, .string a2_2, .string a2_3] 42 (0, 0)) o4_ hb); have n2_ := Aside0.mk (below_step o1_ hb); clear BK101; clear BK102; clear HB; have BK101 := n0_; have BK102 := n1_; have HB := n2_; clear n0_ n1_ n2_; (try clear hb); (try clear hb2); (try clear hk); (try clear hi)) | (go_at_call 16; (with_reducible refine (Ob.Gv.wants.calls 3 t115 t117 _ A41.out (HTAB_.out _ (by first | exact Below.refl _ _ | (with_reducible exact Aside0.out (by assumption)) | repeat (first | (with_reducible exact Aside0.out (by assumption)) | apply below_alloc | apply pw_below_drewN | apply below_drew1)))).mono ?_); rintro e w142 ⟨v118, rfl, ho0, hb⟩; have n0_ := Aside0.mk (Kd.R_lower ho0 (below_size o1_)); have n1_ := Aside0.mk (blk_below (g := gb101) (o := .cells #[.string a1_0, .slice A1_1 l1_1.length c1_1, .string a1_2, .string a1_3] 40 (0, 0)) o3_ hb); have n2_ := Aside0.mk (blk_below (g := gb102) (o := .cells #[.string a2_0, .int .i64 a2_1, .string a2_2, .string a2_3] 42 (0, 0)) o4_ hb); have n3_ := Aside0.mk (below_step o1_ hb); clear BK101; clear BK102; clear HB; have HO119 := n0_; have BK101 := n1_; have BK102 := n2_; have HB := n3_; clear n0_ n1_ n2_ n3_; (try clear hb); (try clear hb2); (try clear hk); (try clear hi); (try clear ho0); have hcz143_0 : w142.cell? ⟨gb102, 0, none⟩ = some (.string a2_0) := (blk_cell BK102.out 0).trans rfl; have hcz143_1 : w142.cell? ⟨gb102, 1, none⟩ = some (.int .i64 a2_1) := (blk_cell BK102.out 1).trans rfl; have hcz143_2 : w142.cell? ⟨gb102, 2, none⟩ = some (.string a2_2) := (blk_cell BK102.out 2).trans rfl; have hcz143_3 : w142.cell? ⟨gb102, 3, none⟩ = some (.string a2_3) := (blk_cell BK102.out 3).trans rfl; have hfz143_0 := blk_frozen BK102.out 0; have hfz143_1 := blk_frozen BK102.out 1; have hfz143_2 := blk_frozen BK102.out 2; have hfz143_3 := blk_frozen BK102.out 3) | (go_at_call 27; (with_reducible refine (Ob.Gv.putLabel.calls a2_0 a2_1 a2_2 a2_3 t132 true _ A114.out).mono ?_); rintro e w144 ⟨rfl, hb⟩; have n0_ := Aside0.mk (Kd.R_below o6_ hb); have n1_ := Aside0.mk (blk_below (g := gb101) (o := .cells #[.string a1_0, .slice A1_1 l1_1.length c1_1, .string a1_2, .string a1_3] 40 (0, 0)) o3_ hb); have n2_ := Aside0.mk (blk_below (g := gb102) (o := .cells #[.string a2_0, .int .i64 a2_1, .string a2_2, .string a2_3] 42 (0, 0)) o4_ hb); have n3_ := Aside0.mk (below_step o1_ hb); clear HO119; clear BK101; clear BK102; clear HB; have HO119 := n0_; have BK101 := n1_; have BK102 := n2_; have HB := n3_; clear n0_ n1_ n2_ n3_; (try clear hb); (try clear hb2); (try clear hk); (try clear hi)) | (go_at_call 16; (with_reducible refine (Ob.Gv.wants.calls 4 t132 t134 _ A115.out (HTAB_.out _ (by first | exact Below.refl _ _ | (with_reducible exact Aside0.out (by assumption)) | repeat (first | (with_reducible exact Aside0.out (by assumption)) | apply below_alloc | apply pw_below_drewN | apply below_drew1)))).mono ?_); rintro e w145 ⟨v135, rfl, ho0, hb⟩; have n0_ := Aside0.mk (Kd.R_elder' o6_ (Kd.R_base ho0) hb); have n1_ := Aside0.mk (Kd.R_lower (Kd.R_new' ho0 (Kd.R_lt o6_)) (below_size o1_)); have n2_ := Aside0.mk (blk_below (g := gb101) (o := .cells #[.string a1_0, .slice A1_1 l1_1.length c1_1, .string a1_2, .string a1_3] 40 (0, 0)) o3_ hb); have n3_ := Aside0.mk (blk_below (g := gb102) (o := .cells #[.string a2_0, .int .i64 a2_1, .string a2_2, .string a2_3] 42 (0, 0)) o4_ hb); have n4_ := Aside0.mk (below_step o1_ hb); clear HO119; clear BK101; clear BK102; clear HB; have HO119 := n0_; have HO136 := n1_; have BK101 := n2_; have BK102 := n3_; have HB := n4_; clear n0_ n1_ n2_ n3_ n4_; (try clear hb); (try clear hb2); (try clear hk); (try clear hi); (try clear ho0); obtain ⟨Ao146, co146, eo146⟩ := Kd.R_slice HO136.out; subst eo146))
            repeat (go_quiet (first | (go_at_call 25; (with_reducible refine (Ob.Gv.putChange.calls a1_0 _ _ l1_1 a1_2 a1_3 t115 false _ ?side1 ?side2 A40.out).mono ?_); (case side1 => repeat (first | exact (Kd.C_below HR1_1.out HB.out) | (with_reducible refine Kd.C_alloc ?_ _) | (with_reducible refine Kd.C_drewN ?_ _) | (with_reducible refine Kd.C_drew ?_))); (case side2 => exact HC1_1.out); rintro e w141 ⟨rfl, hb⟩; have n0_ := Aside0.mk (blk_below (g := gb101) (o := .cells #[.string a1_0, .slice A1_1 l1_1.length c1_1, .string a1_2, .string a1_3] 40 (0, 0)) o3_ hb); have n1_ := Aside0.mk (blk_below (g := gb102) (o := .cells #[.string a2_0, .int .i64 a2_1, .string a2_2, .string a2_3] 42 (0, 0)) o4_ hb); have n2_ := Aside0.mk (below_step o1_ hb); clear BK101; clear BK102; clear HB; have BK101 := n0_; have BK102 := n1_; have HB := n2_; clear n0_ n1_ n2_; (try clear hb); (try clear hb2); (try clear hk); (try clear hi)) | (go_at_call 16; (with_reducible refine (Ob.Gv.wants.calls 3 t115 t117 _ A41.out (HTAB_.out _ (by first | exact Below.refl _ _ | (with_reducible exact Aside0.out (by assumption)) | repeat (first | (with_reducible exact Aside0.out (by assumption)) | apply below_alloc | apply pw_below_drewN | apply below_drew1)))).mono ?_); rintro e w142 ⟨v118, rfl, ho0, hb⟩; have n0_ := Aside0.mk (Kd.R_lower ho0 (below_size o1_)); have n1_ := Aside0.mk (blk_below (g := gb101) (o := .cells #[.string a1_0, .slice A1_1 l1_1.length c1_1, .string a1_2, .string a1_3] 40 (0, 0)) o3_ hb); have n2_ := Aside0.mk (blk_below (g := gb102) (o := .cells #[.string a2_0, .int .i64 a2_1, .string a2_2, .string a2_3] 42 (0, 0)) o4_ hb); have n3_ := Aside0.mk (below_step o1_ hb); clear BK101; clear BK102; clear HB; have HO119 := n0_; have BK101 := n1_; have BK102 := n2_; have HB := n3_; clear n0_ n1_ n2_ n3_; (try clear hb); (try clear hb2); (try clear hk); (try clear hi); (try clear ho0); have hcz143_0 : w142.cell? ⟨gb102, 0, none⟩ = some (.string a2_0) := (blk_cell BK102.out 0).trans rfl; have hcz143_1 : w142.cell? ⟨gb102, 1, none⟩ = some (.int .i64 a2_1) := (blk_cell BK102.out 1).trans rfl; have hcz143_2 : w142.cell? ⟨gb102, 2, none⟩ = some (.string a2_2) := (blk_cell BK102.out 2).trans rfl; have hcz143_3 : w142.cell? ⟨gb102, 3, none⟩ = some (.string a2_3) := (blk_cell BK102.out 3).trans rfl; have hfz143_0 := blk_frozen BK102.out 0; have hfz143_1 := blk_frozen BK102.out 1; have hfz143_2 := blk_frozen BK102.out 2; have hfz143_3 := blk_frozen BK102.out 3) | (go_at_call 27; (with_reducible refine (Ob.Gv.putLabel.calls a2_0 a2_1 a2_2 a2_3 t132 true _ A114.out).mono ?_); rintro e w144 ⟨rfl, hb⟩; have n0_ := Aside0.mk (Kd.R_below o6_ hb); have n1_ := Aside0.mk (blk_below (g := gb101) (o := .cells #[.string a1_0, .slice A1_1 l1_1.length c1_1, .string a1_2, .string a1_3] 40 (0, 0)) o3_ hb); have n2_ := Aside0.mk (blk_below (g := gb102) (o := .cells #[.string a2_0, .int .i64 a2_1, .string a2_2, .string a2_3] 42 (0, 0)) o4_ hb); have n3_ := Aside0.mk (below_step o1_ hb); clear HO119; clear BK101; clear BK102; clear HB; have HO119 := n0_; have BK101 := n1_; have BK102 := n2_; have HB := n3_; clear n0_ n1_ n2_ n3_; (try clear hb); (try clear hb2); (try clear hk); (try clear hi)) | (go_at_call 16; (with_reducible refine (Ob.Gv.wants.calls 4 t132 t134 _ A115.out (HTAB_.out _ (by first | exact Below.refl _ _ | (with_reducible exact Aside0.out (by assumption)) | repeat (first | (with_reducible exact Aside0.out (by assumption)) | apply below_alloc | apply pw_below_drewN | apply below_drew1)))).mono ?_); rintro e w145 ⟨v135, rfl, ho0, hb⟩; have n0_ := Aside0.mk (Kd.R_elder' o6_ (Kd.R_base ho0) hb); have n1_ := Aside0.mk (Kd.R_lower (Kd.R_new' ho0 (Kd.R_lt o6_)) (below_size o1_)); have n2_ := Aside0.mk (blk_below (g := gb101) (o := .cells #[.string a1_0, .slice A1_1 l1_1.length c1_1, .string a1_2, .string a1_3] 40 (0, 0)) o3_ hb); have n3_ := Aside0.mk (blk_below (g := gb102) (o := .cells #[.string a2_0, .int .i64 a2_1, .string a2_2, .string a2_3] 42 (0, 0)) o4_ hb); have n4_ := Aside0.mk (below_step o1_ hb); clear HO119; clear BK101; clear BK102; clear HB; have HO119 := n0_; have HO136 := n1_; have BK101 := n2_; have BK102 := n3_; have HB := n4_; clear n0_ n1_ n2_ n3_ n4_; (try clear hb); (try clear hb2); (try clear hk); (try clear hi); (try clear ho0); obtain ⟨Ao146, co146, eo146⟩ := Kd.R_slice HO136.out; subst eo146)); try go_wp2_with (first | (go_at_call 25; (with_reducible refine (Ob.Gv.putChange.calls a1_0 _ _ l1_1 a1_2 a1_3 t115 false _ ?side1 ?side2 A40.out).mono ?_); (case side1 => repeat (first | exact (Kd.C_below HR1_1.out HB.out) | (with_reducible refine Kd.C_alloc ?_ _) | (with_reducible refine Kd.C_drewN ?_ _) | (with_reducible refine Kd.C_drew ?_))); (case side2 => exact HC1_1.out); rintro e w141 ⟨rfl, hb⟩; have n0_ := Aside0.mk (blk_below (g := gb101) (o := .cells #[.string a1_0, .slice A1_1 l1_1.length c1_1, .string a1_2, .string a1_3] 40 (0, 0)) o3_ hb); have n1_ := Aside0.mk (blk_below (g := gb102) (o := .cells #[.string a2_0, .int .i64 a2_1, .string a2_2, .string a2_3] 42 (0, 0)) o4_ hb); have n2_ := Aside0.mk (below_step o1_ hb); clear BK101; clear BK102; clear HB; have BK101 := n0_; have BK102 := n1_; have HB := n2_; clear n0_ n1_ n2_; (try clear hb); (try clear hb2); (try clear hk); (try clear hi)) | (go_at_call 16; (with_reducible refine (Ob.Gv.wants.calls 3 t115 t117 _ A41.out (HTAB_.out _ (by first | exact Below.refl _ _ | (with_reducible exact Aside0.out (by assumption)) | repeat (first | (with_reducible exact Aside0.out (by assumption)) | apply below_alloc | apply pw_below_drewN | apply below_drew1)))).mono ?_); rintro e w142 ⟨v118, rfl, ho0, hb⟩; have n0_ := Aside0.mk (Kd.R_lower ho0 (below_size o1_)); have n1_ := Aside0.mk (blk_below (g := gb101) (o := .cells #[.string a1_0, .slice A1_1 l1_1.length c1_1, .string a1_2, .string a1_3] 40 (0, 0)) o3_ hb); have n2_ := Aside0.mk (blk_below (g := gb102) (o := .cells #[.string a2_0, .int .i64 a2_1, .string a2_2, .string a2_3] 42 (0, 0)) o4_ hb); have n3_ := Aside0.mk (below_step o1_ hb); clear BK101; clear BK102; clear HB; have HO119 := n0_; have BK101 := n1_; have BK102 := n2_; have HB := n3_; clear n0_ n1_ n2_ n3_; (try clear hb); (try clear hb2); (try clear hk); (try clear hi); (try clear ho0); have hcz143_0 : w142.cell? ⟨gb102, 0, none⟩ = some (.string a2_0) := (blk_cell BK102.out 0).trans rfl; have hcz143_1 : w142.cell? ⟨gb102, 1, none⟩ = some (.int .i64 a2_1) := (blk_cell BK102.out 1).trans rfl; have hcz143_2 : w142.cell? ⟨gb102, 2, none⟩ = some (.string a2_2) := (blk_cell BK102.out 2).trans rfl; have hcz143_3 : w142.cell? ⟨gb102, 3, none⟩ = some (.string a2_3) := (blk_cell BK102.out 3).trans rfl; have hfz143_0 := blk_frozen BK102.out 0; have hfz143_1 := blk_frozen BK102.out 1; have hfz143_2 := blk_frozen BK102.out 2; have hfz143_3 := blk_frozen BK102.out 3) | (go_at_call 27; (with_reducible refine (Ob.Gv.putLabel.calls a2_0 a2_1 a2_2 a2_3 t132 true _ A114.out).mono ?_); rintro e w144 ⟨rfl, hb⟩; have n0_ := Aside0.mk (Kd.R_below o6_ hb); have n1_ := Aside0.mk (blk_below (g := gb101) (o := .cells #[.string a1_0, .slice A1_1 l1_1.length c1_1, .string a1_2, .string a1_3] 40 (0, 0)) o3_ hb); have n2_ := Aside0.mk (blk_below (g := gb102) (o := .cells #[.string a2_0, .int .i64 a2_1, .string a2_2, .string a2_3] 42 (0, 0)) o4_ hb); have n3_ := Aside0.mk (below_step o1_ hb); clear HO119; clear BK101; clear BK102; clear HB; have HO119 := n0_; have BK101 := n1_; have BK102 := n2_; have HB := n3_; clear n0_ n1_ n2_ n3_; (try clear hb); (try clear hb2); (try clear hk); (try clear hi)) | (go_at_call 16; (with_reducible refine (Ob.Gv.wants.calls 4 t132 t134 _ A115.out (HTAB_.out _ (by first | exact Below.refl _ _ | (with_reducible exact Aside0.out (by assumption)) | repeat (first | (with_reducible exact Aside0.out (by assumption)) | apply below_alloc | apply pw_below_drewN | apply below_drew1)))).mono ?_); rintro e w145 ⟨v135, rfl, ho0, hb⟩; have n0_ := Aside0.mk (Kd.R_elder' o6_ (Kd.R_base ho0) hb); have n1_ := Aside0.mk (Kd.R_lower (Kd.R_new' ho0 (Kd.R_lt o6_)) (below_size o1_)); have n2_ := Aside0.mk (blk_below (g := gb101) (o := .cells #[.string a1_0, .slice A1_1 l1_1.length c1_1, .string a1_2, .string a1_3] 40 (0, 0)) o3_ hb); have n3_ := Aside0.mk (blk_below (g := gb102) (o := .cells #[.string a2_0, .int .i64 a2_1, .string a2_2, .string a2_3] 42 (0, 0)) o4_ hb); have n4_ := Aside0.mk (below_step o1_ hb); clear HO119; clear BK101; clear BK102; clear HB; have HO119 := n0_; have HO136 := n1_; have BK101 := n2_; have BK102 := n3_; have HB := n4_; clear n0_ n1_ n2_ n3_ n4_; (try clear hb); (try clear hb2); (try clear hk); (try clear hi); (try clear ho0); obtain ⟨Ao146, co146, eo146⟩ := Kd.R_slice HO136.out; subst eo146)))
            go_ret
            exact ⟨er_, o1_⟩
          ·
           as_aux_lemma =>
           replace c117 := Bool.eq_false_iff.mpr c117
           subst c117
           have H1 : (some true) = some r := by rw [if_neg (show ¬ (false = true) by decide)] at H; exact H
           clear H
           have H := H1
           clear H1
           obtain rfl := Option.some.inj H
           have hnb147 := NB101_102.out
           have hnc147 := NB102_101.out
           have hcz148_0 : wc.cell? ⟨gb101, 0, none⟩ = some (.string a1_0) := (blk_cell BK101.out 0).trans rfl
           have hcz148_1 : wc.cell? ⟨gb101, 1, none⟩ = some (.slice A1_1 l1_1.length c1_1) := (blk_cell BK101.out 1).trans rfl
           have hcz148_2 : wc.cell? ⟨gb101, 2, none⟩ = some (.string a1_2) := (blk_cell BK101.out 2).trans rfl
           have hcz148_3 : wc.cell? ⟨gb101, 3, none⟩ = some (.string a1_3) := (blk_cell BK101.out 3).trans rfl
           have hfz148_0 := blk_frozen BK101.out 0
           have hfz148_1 := blk_frozen BK101.out 1
           have hfz148_2 := blk_frozen BK101.out 2
           have hfz148_3 := blk_frozen BK101.out 3
           go_wp2_with (first | (go_at_call 25; (with_reducible refine (Ob.Gv.putChange.calls a1_0 _ _ l1_1 a1_2 a1_3 t115 false _ ?side1 ?side2 A40.out).mono ?_); (case side1 => repeat (first | exact (Kd.C_below HR1_1.out HB.out) | (with_reducible refine Kd.C_alloc ?_ _) | (with_reducible refine Kd.C_drewN ?_ _) | (with_reducible refine Kd.C_drew ?_))); (case side2 => exact HC1_1.out); rintro e w149 ⟨rfl, hb⟩; have n0_ := Aside0.mk (blk_below (g := gb101) (o := .cells #[.string a1_0, .slice A1_1 l1_1.length c1_1, .string a1_2, .string a1_3] 40 (0, 0)) o3_ hb); have n1_ := Aside0.mk (blk_below (g := gb102) (o := .cells #[.string a2_0, .int .i64 a2_1, .string a2_2, .string a2_3] 42 (0, 0)) o4_ hb); have n2_ := Aside0.mk (below_step o1_ hb); clear BK101; clear BK102; clear HB; have BK101 := n0_; have BK102 := n1_; have HB := n2_; clear n0_ n1_ n2_; (try clear hb); (try clear hb2); (try clear hk); (try clear hi)) | (go_at_call 16; (with_reducible refine (Ob.Gv.wants.calls 3 t115 t117 _ A41.out (HTAB_.out _ (by first | exact Below.refl _ _ | (with_reducible exact Aside0.out (by assumption)) | repeat (first | (with_reducible exact Aside0.out (by assumption)) | apply below_alloc | apply pw_below_drewN | apply below_drew1)))).mono ?_); rintro e w150 ⟨v118, rfl, ho0, hb⟩; have n0_ := Aside0.mk (Kd.R_lower ho0 (below_size o1_)); have n1_ := Aside0.mk (blk_below (g := gb101) (o := .cells #[.string a1_0, .slice A1_1 l1_1.length c1_1, .string a1_2, .string a1_3] 40 (0, 0)) o3_ hb); have n2_ := Aside0.mk (blk_below (g := gb102) (o := .cells #[.string a2_0, .int .i64 a2_1, .string a2_2, .string a2_3] 42 (0, 0)) o4_ hb); have n3_ := Aside0.mk (below_step o1_ hb); clear BK101; clear BK102; clear HB; have HO119 := n0_; have BK101 := n1_; have BK102 := n2_; have HB := n3_; clear n0_ n1_ n2_ n3_; (try clear hb); (try clear hb2); (try clear hk); (try clear hi); (try clear ho0); have hcz151_0 : w150.cell? ⟨gb102, 0, none⟩ = some (.string a2_0) := (blk_cell BK102.out 0).trans rfl; have hcz151_1 : w150.cell? ⟨gb102, 1, none⟩ = some (.int .i64 a2_1) := (blk_cell BK102.out 1).trans rfl; have hcz151_2 : w150.cell? ⟨gb102, 2, none⟩ = some (.string a2_2) := (blk_cell BK102.out 2).trans rfl; have hcz151_3 : w150.cell? ⟨gb102, 3, none⟩ = some (.string a2_3) := (blk_cell BK102.out 3).trans rfl; have hfz151_0 := blk_frozen BK102.out 0; have hfz151_1 := blk_frozen BK102.out 1; have hfz151_2 := blk_frozen BK102.out 2; have hfz151_3 := blk_frozen BK102.out 3) | (go_at_call 27; (with_reducible refine (Ob.Gv.putLabel.calls a2_0 a2_1 a2_2 a2_3 t132 false _ A114.out).mono ?_); rintro e w152 ⟨rfl, hb⟩; have n0_ := Aside0.mk (Kd.R_below o6_ hb); have n1_ := Aside0.mk (blk_below (g := gb101) (o := .cells #[.string a1_0, .slice A1_1 l1_1.length c1_1, .string a1_2, .string a1_3] 40 (0, 0)) o3_ hb); have n2_ := Aside0.mk (blk_below (g := gb102) (o := .cells #[.string a2_0, .int .i64 a2_1, .string a2_2, .string a2_3] 42 (0, 0)) o4_ hb); have n3_ := Aside0.mk (below_step o1_ hb); clear HO119; clear BK101; clear BK102; clear HB; have HO119 := n0_; have BK101 := n1_; have BK102 := n2_; have HB := n3_; clear n0_ n1_ n2_ n3_; (try clear hb); (try clear hb2); (try clear hk); (try clear hi)) | (go_at_call 16; (with_reducible refine (Ob.Gv.wants.calls 4 t132 t134 _ A115.out (HTAB_.out _ (by first | exact Below.refl _ _ | (with_reducible exact Aside0.out (by assumption)) | repeat (first | (with_reducible exact Aside0.out (by assumption)) | apply below_alloc | apply pw_below_drewN | apply below_drew1)))).mono ?_); rintro e w153 ⟨v135, rfl, ho0, hb⟩; have n0_ := Aside0.mk (Kd.R_elder' o6_ (Kd.R_base ho0) hb); have n1_ := Aside0.mk (Kd.R_lower (Kd.R_new' ho0 (Kd.R_lt o6_)) (below_size o1_)); have n2_ := Aside0.mk (blk_below (g := gb101) (o := .cells #[.string a1_0, .slice A1_1 l1_1.length c1_1, .string a1_2, .string a1_3] 40 (0, 0)) o3_ hb); have n3_ := Aside0.mk (blk_below (g := gb102) (o := .cells #[.string a2_0, .int .i64 a2_1, .string a2_2, .string a2_3] 42 (0, 0)) o4_ hb); have n4_ := Aside0.mk (below_step o1_ hb); clear HO119; clear BK101; clear BK102; clear HB; have HO119 := n0_; have HO136 := n1_; have BK101 := n2_; have BK102 := n3_; have HB := n4_; clear n0_ n1_ n2_ n3_ n4_; (try clear hb); (try clear hb2); (try clear hk); (try clear hi); (try clear ho0)))
           repeat (go_quiet (first | (go_at_call 25; (with_reducible refine (Ob.Gv.putChange.calls a1_0 _ _ l1_1 a1_2 a1_3 t115 false _ ?side1 ?side2 A40.out).mono ?_); (case side1 => repeat (first | exact (Kd.C_below HR1_1.out HB.out) | (with_reducible refine Kd.C_alloc ?_ _) | (with_reducible refine Kd.C_drewN ?_ _) | (with_reducible refine Kd.C_drew ?_))); (case side2 => exact HC1_1.out); rintro e w149 ⟨rfl, hb⟩; have n0_ := Aside0.mk (blk_below (g := gb101) (o := .cells #[.string a1_0, .slice A1_1 l1_1.length c1_1, .string a1_2, .string a1_3] 40 (0, 0)) o3_ hb); have n1_ := Aside0.mk (blk_below (g := gb102) (o := .cells #[.string a2_0, .int .i64 a2_1, .string a2_2, .string a2_3] 42 (0, 0)) o4_ hb); have n2_ := Aside0.mk (below_step o1_ hb); clear BK101; clear BK102; clear HB; have BK101 := n0_; have BK102 := n1_; have HB := n2_; clear n0_ n1_ n2_; (try clear hb); (try clear hb2); (try clear hk); (try clear hi)) | (go_at_call 16; (with_reducible refine (Ob.Gv.wants.calls 3 t115 t117 _ A41.out (HTAB_.out _ (by first | exact Below.refl _ _ | (with_reducible exact Aside0.out (by assumption)) | repeat (first | (with_reducible exact Aside0.out (by assumption)) | apply below_alloc | apply pw_below_drewN | apply below_drew1)))).mono ?_); rintro e w150 ⟨v118, rfl, ho0, hb⟩; have n0_ := Aside0.mk (Kd.R_lower ho0 (below_size o1_)); have n1_ := Aside0.mk (blk_below (g := gb101) (o := .cells #[.string a1_0, .slice A1_1 l1_1.length c1_1, .string a1_2, .string a1_3] 40 (0, 0)) o3_ hb); have n2_ := Aside0.mk (blk_below (g := gb102) (o := .cells #[.string a2_0, .int .i64 a2_1, .string a2_2, .string a2_3] 42 (0, 0)) o4_ hb); have n3_ := Aside0.mk (below_step o1_ hb); clear BK101; clear BK102; clear HB; have HO119 := n0_; have BK101 := n1_; have BK102 := n2_; have HB := n3_; clear n0_ n1_ n2_ n3_; (try clear hb); (try clear hb2); (try clear hk); (try clear hi); (try clear ho0); have hcz151_0 : w150.cell? ⟨gb102, 0, none⟩ = some (.string a2_0) := (blk_cell BK102.out 0).trans rfl; have hcz151_1 : w150.cell? ⟨gb102, 1, none⟩ = some (.int .i64 a2_1) := (blk_cell BK102.out 1).trans rfl; have hcz151_2 : w150.cell? ⟨gb102, 2, none⟩ = some (.string a2_2) := (blk_cell BK102.out 2).trans rfl; have hcz151_3 : w150.cell? ⟨gb102, 3, none⟩ = some (.string a2_3) := (blk_cell BK102.out 3).trans rfl; have hfz151_0 := blk_frozen BK102.out 0; have hfz151_1 := blk_frozen BK102.out 1; have hfz151_2 := blk_frozen BK102.out 2; have hfz151_3 := blk_frozen BK102.out 3) | (go_at_call 27; (with_reducible refine (Ob.Gv.putLabel.calls a2_0 a2_1 a2_2 a2_3 t132 false _ A114.out).mono ?_); rintro e w152 ⟨rfl, hb⟩; have n0_ := Aside0.mk (Kd.R_below o6_ hb); have n1_ := Aside0.mk (blk_below (g := gb101) (o := .cells #[.string a1_0, .slice A1_1 l1_1.length c1_1, .string a1_2, .string a1_3] 40 (0, 0)) o3_ hb); have n2_ := Aside0.mk (blk_below (g := gb102) (o := .cells #[.string a2_0, .int .i64 a2_1, .string a2_2, .string a2_3] 42 (0, 0)) o4_ hb); have n3_ := Aside0.mk (below_step o1_ hb); clear HO119; clear BK101; clear BK102; clear HB; have HO119 := n0_; have BK101 := n1_; have BK102 := n2_; have HB := n3_; clear n0_ n1_ n2_ n3_; (try clear hb); (try clear hb2); (try clear hk); (try clear hi)) | (go_at_call 16; (with_reducible refine (Ob.Gv.wants.calls 4 t132 t134 _ A115.out (HTAB_.out _ (by first | exact Below.refl _ _ | (with_reducible exact Aside0.out (by assumption)) | repeat (first | (with_reducible exact Aside0.out (by assumption)) | apply below_alloc | apply pw_below_drewN | apply below_drew1)))).mono ?_); rintro e w153 ⟨v135, rfl, ho0, hb⟩; have n0_ := Aside0.mk (Kd.R_elder' o6_ (Kd.R_base ho0) hb); have n1_ := Aside0.mk (Kd.R_lower (Kd.R_new' ho0 (Kd.R_lt o6_)) (below_size o1_)); have n2_ := Aside0.mk (blk_below (g := gb101) (o := .cells #[.string a1_0, .slice A1_1 l1_1.length c1_1, .string a1_2, .string a1_3] 40 (0, 0)) o3_ hb); have n3_ := Aside0.mk (blk_below (g := gb102) (o := .cells #[.string a2_0, .int .i64 a2_1, .string a2_2, .string a2_3] 42 (0, 0)) o4_ hb); have n4_ := Aside0.mk (below_step o1_ hb); clear HO119; clear BK101; clear BK102; clear HB; have HO119 := n0_; have HO136 := n1_; have BK101 := n2_; have BK102 := n3_; have HB := n4_; clear n0_ n1_ n2_ n3_ n4_; (try clear hb); (try clear hb2); (try clear hk); (try clear hi); (try clear ho0))); try go_wp2_with (first | (go_at_call 25; (with_reducible refine (Ob.Gv.putChange.calls a1_0 _ _ l1_1 a1_2 a1_3 t115 false _ ?side1 ?side2 A40.out).mono ?_); (case side1 => repeat (first | exact (Kd.C_below HR1_1.out HB.out) | (with_reducible refine Kd.C_alloc ?_ _) | (with_reducible refine Kd.C_drewN ?_ _) | (with_reducible refine Kd.C_drew ?_))); (case side2 => exact HC1_1.out); rintro e w149 ⟨rfl, hb⟩; have n0_ := Aside0.mk (blk_below (g := gb101) (o := .cells #[.string a1_0, .slice A1_1 l1_1.length c1_1, .string a1_2, .string a1_3] 40 (0, 0)) o3_ hb); have n1_ := Aside0.mk (blk_below (g := gb102) (o := .cells #[.string a2_0, .int .i64 a2_1, .string a2_2, .string a2_3] 42 (0, 0)) o4_ hb); have n2_ := Aside0.mk (below_step o1_ hb); clear BK101; clear BK102; clear HB; have BK101 := n0_; have BK102 := n1_; have HB := n2_; clear n0_ n1_ n2_; (try clear hb); (try clear hb2); (try clear hk); (try clear hi)) | (go_at_call 16; (with_reducible refine (Ob.Gv.wants.calls 3 t115 t117 _ A41.out (HTAB_.out _ (by first | exact Below.refl _ _ | (with_reducible exact Aside0.out (by assumption)) | repeat (first | (with_reducible exact Aside0.out (by assumption)) | apply below_alloc | apply pw_below_drewN | apply below_drew1)))).mono ?_); rintro e w150 ⟨v118, rfl, ho0, hb⟩; have n0_ := Aside0.mk (Kd.R_lower ho0 (below_size o1_)); have n1_ := Aside0.mk (blk_below (g := gb101) (o := .cells #[.string a1_0, .slice A1_1 l1_1.length c1_1, .string a1_2, .string a1_3] 40 (0, 0)) o3_ hb); have n2_ := Aside0.mk (blk_below (g := gb102) (o := .cells #[.string a2_0, .int .i64 a2_1, .string a2_2, .string a2_3] 42 (0, 0)) o4_ hb); have n3_ := Aside0.mk (below_step o1_ hb); clear BK101; clear BK102; clear HB; have HO119 := n0_; have BK101 := n1_; have BK102 := n2_; have HB := n3_; clear n0_ n1_ n2_ n3_; (try clear hb); (try clear hb2); (try clear hk); (try clear hi); (try clear ho0); have hcz151_0 : w150.cell? ⟨gb102, 0, none⟩ = some (.string a2_0) := (blk_cell BK102.out 0).trans rfl; have hcz151_1 : w150.cell? ⟨gb102, 1, none⟩ = some (.int .i64 a2_1) := (blk_cell BK102.out 1).trans rfl; have hcz151_2 : w150.cell? ⟨gb102, 2, none⟩ = some (.string a2_2) := (blk_cell BK102.out 2).trans rfl; have hcz151_3 : w150.cell? ⟨gb102, 3, none⟩ = some (.string a2_3) := (blk_cell BK102.out 3).trans rfl; have hfz151_0 := blk_frozen BK102.out 0; have hfz151_1 := blk_frozen BK102.out 1; have hfz151_2 := blk_frozen BK102.out 2; have hfz151_3 := blk_frozen BK102.out 3) | (go_at_call 27; (with_reducible refine (Ob.Gv.putLabel.calls a2_0 a2_1 a2_2 a2_3 t132 false _ A114.out).mono ?_); rintro e w152 ⟨rfl, hb⟩; have n0_ := Aside0.mk (Kd.R_below o6_ hb); have n1_ := Aside0.mk (blk_below (g := gb101) (o := .cells #[.string a1_0, .slice A1_1 l1_1.length c1_1, .string a1_2, .string a1_3] 40 (0, 0)) o3_ hb); have n2_ := Aside0.mk (blk_below (g := gb102) (o := .cells #[.string a2_0, .int .i64 a2_1, .string a2_2, .string a2_3] 42 (0, 0)) o4_ hb); have n3_ := Aside0.mk (below_step o1_ hb); clear HO119; clear BK101; clear BK102; clear HB; have HO119 := n0_; have BK101 := n1_; have BK102 := n2_; have HB := n3_; clear n0_ n1_ n2_ n3_; (try clear hb); (try clear hb2); (try clear hk); (try clear hi)) | (go_at_call 16; (with_reducible refine (Ob.Gv.wants.calls 4 t132 t134 _ A115.out (HTAB_.out _ (by first | exact Below.refl _ _ | (with_reducible exact Aside0.out (by assumption)) | repeat (first | (with_reducible exact Aside0.out (by assumption)) | apply below_alloc | apply pw_below_drewN | apply below_drew1)))).mono ?_); rintro e w153 ⟨v135, rfl, ho0, hb⟩; have n0_ := Aside0.mk (Kd.R_elder' o6_ (Kd.R_base ho0) hb); have n1_ := Aside0.mk (Kd.R_lower (Kd.R_new' ho0 (Kd.R_lt o6_)) (below_size o1_)); have n2_ := Aside0.mk (blk_below (g := gb101) (o := .cells #[.string a1_0, .slice A1_1 l1_1.length c1_1, .string a1_2, .string a1_3] 40 (0, 0)) o3_ hb); have n3_ := Aside0.mk (blk_below (g := gb102) (o := .cells #[.string a2_0, .int .i64 a2_1, .string a2_2, .string a2_3] 42 (0, 0)) o4_ hb); have n4_ := Aside0.mk (below_step o1_ hb); clear HO119; clear BK101; clear BK102; clear HB; have HO119 := n0_; have HO136 := n1_; have BK101 := n2_; have BK102 := n3_; have HB := n4_; clear n0_ n1_ n2_ n3_ n4_; (try clear hb); (try clear hb2); (try clear hk); (try clear hi); (try clear ho0))))
           go_ret
           exact ⟨er_, o1_⟩
         ·
          as_aux_lemma =>
          replace c116 := Bool.eq_false_iff.mpr c116
          subst c116
          have H1 : (some false) = some r := by rw [if_neg (show ¬ (false = true) by decide)] at H; exact H
          clear H
          have H := H1
          clear H1
          obtain rfl := Option.some.inj H
          have hnb154 := NB101_102.out
          have hnc154 := NB102_101.out
          have hcz155_0 : wc.cell? ⟨gb101, 0, none⟩ = some (.string a1_0) := (blk_cell BK101.out 0).trans rfl
          have hcz155_1 : wc.cell? ⟨gb101, 1, none⟩ = some (.slice A1_1 l1_1.length c1_1) := (blk_cell BK101.out 1).trans rfl
          have hcz155_2 : wc.cell? ⟨gb101, 2, none⟩ = some (.string a1_2) := (blk_cell BK101.out 2).trans rfl
          have hcz155_3 : wc.cell? ⟨gb101, 3, none⟩ = some (.string a1_3) := (blk_cell BK101.out 3).trans rfl
          have hfz155_0 := blk_frozen BK101.out 0
          have hfz155_1 := blk_frozen BK101.out 1
          have hfz155_2 := blk_frozen BK101.out 2
          have hfz155_3 := blk_frozen BK101.out 3
          go_wp2_with (first | (go_at_call 25; (with_reducible refine (Ob.Gv.putChange.calls a1_0 _ _ l1_1 a1_2 a1_3 t115 false _ ?side1 ?side2 A40.out).mono ?_); (case side1 => repeat (first | exact (Kd.C_below HR1_1.out HB.out) | (with_reducible refine Kd.C_alloc ?_ _) | (with_reducible refine Kd.C_drewN ?_ _) | (with_reducible refine Kd.C_drew ?_))); (case side2 => exact HC1_1.out); rintro e w156 ⟨rfl, hb⟩; have n0_ := Aside0.mk (blk_below (g := gb101) (o := .cells #[.string a1_0, .slice A1_1 l1_1.length c1_1, .string a1_2, .string a1_3] 40 (0, 0)) o3_ hb); have n1_ := Aside0.mk (blk_below (g := gb102) (o := .cells #[.string a2_0, .int .i64 a2_1, .string a2_2, .string a2_3] 42 (0, 0)) o4_ hb); have n2_ := Aside0.mk (below_step o1_ hb); clear BK101; clear BK102; clear HB; have BK101 := n0_; have BK102 := n1_; have HB := n2_; clear n0_ n1_ n2_; (try clear hb); (try clear hb2); (try clear hk); (try clear hi)) | (go_at_call 16; (with_reducible refine (Ob.Gv.wants.calls 3 t115 t117 _ A41.out (HTAB_.out _ (by first | exact Below.refl _ _ | (with_reducible exact Aside0.out (by assumption)) | repeat (first | (with_reducible exact Aside0.out (by assumption)) | apply below_alloc | apply pw_below_drewN | apply below_drew1)))).mono ?_); rintro e w157 ⟨v118, rfl, ho0, hb⟩; have n0_ := Aside0.mk (Kd.R_lower ho0 (below_size o1_)); have n1_ := Aside0.mk (blk_below (g := gb101) (o := .cells #[.string a1_0, .slice A1_1 l1_1.length c1_1, .string a1_2, .string a1_3] 40 (0, 0)) o3_ hb); have n2_ := Aside0.mk (blk_below (g := gb102) (o := .cells #[.string a2_0, .int .i64 a2_1, .string a2_2, .string a2_3] 42 (0, 0)) o4_ hb); have n3_ := Aside0.mk (below_step o1_ hb); clear BK101; clear BK102; clear HB; have HO119 := n0_; have BK101 := n1_; have BK102 := n2_; have HB := n3_; clear n0_ n1_ n2_ n3_; (try clear hb); (try clear hb2); (try clear hk); (try clear hi); (try clear ho0); have hcz158_0 : w157.cell? ⟨gb102, 0, none⟩ = some (.string a2_0) := (blk_cell BK102.out 0).trans rfl; have hcz158_1 : w157.cell? ⟨gb102, 1, none⟩ = some (.int .i64 a2_1) := (blk_cell BK102.out 1).trans rfl; have hcz158_2 : w157.cell? ⟨gb102, 2, none⟩ = some (.string a2_2) := (blk_cell BK102.out 2).trans rfl; have hcz158_3 : w157.cell? ⟨gb102, 3, none⟩ = some (.string a2_3) := (blk_cell BK102.out 3).trans rfl; have hfz158_0 := blk_frozen BK102.out 0; have hfz158_1 := blk_frozen BK102.out 1; have hfz158_2 := blk_frozen BK102.out 2; have hfz158_3 := blk_frozen BK102.out 3) | (go_at_call 27; (with_reducible refine (Ob.Gv.putLabel.calls a2_0 a2_1 a2_2 a2_3 t132 t133 _ A114.out).mono ?_); rintro e w159 ⟨rfl, hb⟩; have n0_ := Aside0.mk (Kd.R_below o6_ hb); have n1_ := Aside0.mk (blk_below (g := gb101) (o := .cells #[.string a1_0, .slice A1_1 l1_1.length c1_1, .string a1_2, .string a1_3] 40 (0, 0)) o3_ hb); have n2_ := Aside0.mk (blk_below (g := gb102) (o := .cells #[.string a2_0, .int .i64 a2_1, .string a2_2, .string a2_3] 42 (0, 0)) o4_ hb); have n3_ := Aside0.mk (below_step o1_ hb); clear HO119; clear BK101; clear BK102; clear HB; have HO119 := n0_; have BK101 := n1_; have BK102 := n2_; have HB := n3_; clear n0_ n1_ n2_ n3_; (try clear hb); (try clear hb2); (try clear hk); (try clear hi)) | (go_at_call 16; (with_reducible refine (Ob.Gv.wants.calls 4 t132 t134 _ A115.out (HTAB_.out _ (by first | exact Below.refl _ _ | (with_reducible exact Aside0.out (by assumption)) | repeat (first | (with_reducible exact Aside0.out (by assumption)) | apply below_alloc | apply pw_below_drewN | apply below_drew1)))).mono ?_); rintro e w160 ⟨v135, rfl, ho0, hb⟩; have n0_ := Aside0.mk (Kd.R_elder' o6_ (Kd.R_base ho0) hb); have n1_ := Aside0.mk (Kd.R_lower (Kd.R_new' ho0 (Kd.R_lt o6_)) (below_size o1_)); have n2_ := Aside0.mk (blk_below (g := gb101) (o := .cells #[.string a1_0, .slice A1_1 l1_1.length c1_1, .string a1_2, .string a1_3] 40 (0, 0)) o3_ hb); have n3_ := Aside0.mk (blk_below (g := gb102) (o := .cells #[.string a2_0, .int .i64 a2_1, .string a2_2, .string a2_3] 42 (0, 0)) o4_ hb); have n4_ := Aside0.mk (below_step o1_ hb); clear HO119; clear BK101; clear BK102; clear HB; have HO119 := n0_; have HO136 := n1_; have BK101 := n2_; have BK102 := n3_; have HB := n4_; clear n0_ n1_ n2_ n3_ n4_; (try clear hb); (try clear hb2); (try clear hk); (try clear hi); (try clear ho0)))
          repeat (go_quiet (first | (go_at_call 25; (with_reducible refine (Ob.Gv.putChange.calls a1_0 _ _ l1_1 a1_2 a1_3 t115 false _ ?side1 ?side2 A40.out).mono ?_); (case side1 => repeat (first | exact (Kd.C_below HR1_1.out HB.out) | (with_reducible refine Kd.C_alloc ?_ _) | (with_reducible refine Kd.C_drewN ?_ _) | (with_reducible refine Kd.C_drew ?_))); (case side2 => exact HC1_1.out); rintro e w156 ⟨rfl, hb⟩; have n0_ := Aside0.mk (blk_below (g := gb101) (o := .cells #[.string a1_0, .slice A1_1 l1_1.length c1_1, .string a1_2, .string a1_3] 40 (0, 0)) o3_ hb); have n1_ := Aside0.mk (blk_below (g := gb102) (o := .cells #[.string a2_0, .int .i64 a2_1, .string a2_2, .string a2_3] 42 (0, 0)) o4_ hb); have n2_ := Aside0.mk (below_step o1_ hb); clear BK101; clear BK102; clear HB; have BK101 := n0_; have BK102 := n1_; have HB := n2_; clear n0_ n1_ n2_; (try clear hb); (try clear hb2); (try clear hk); (try clear hi)) | (go_at_call 16; (with_reducible refine (Ob.Gv.wants.calls 3 t115 t117 _ A41.out (HTAB_.out _ (by first | exact Below.refl _ _ | (with_reducible exact Aside0.out (by assumption)) | repeat (first | (with_reducible exact Aside0.out (by assumption)) | apply below_alloc | apply pw_below_drewN | apply below_drew1)))).mono ?_); rintro e w157 ⟨v118, rfl, ho0, hb⟩; have n0_ := Aside0.mk (Kd.R_lower ho0 (below_size o1_)); have n1_ := Aside0.mk (blk_below (g := gb101) (o := .cells #[.string a1_0, .slice A1_1 l1_1.length c1_1, .string a1_2, .string a1_3] 40 (0, 0)) o3_ hb); have n2_ := Aside0.mk (blk_below (g := gb102) (o := .cells #[.string a2_0, .int .i64 a2_1, .string a2_2, .string a2_3] 42 (0, 0)) o4_ hb); have n3_ := Aside0.mk (below_step o1_ hb); clear BK101; clear BK102; clear HB; have HO119 := n0_; have BK101 := n1_; have BK102 := n2_; have HB := n3_; clear n0_ n1_ n2_ n3_; (try clear hb); (try clear hb2); (try clear hk); (try clear hi); (try clear ho0); have hcz158_0 : w157.cell? ⟨gb102, 0, none⟩ = some (.string a2_0) := (blk_cell BK102.out 0).trans rfl; have hcz158_1 : w157.cell? ⟨gb102, 1, none⟩ = some (.int .i64 a2_1) := (blk_cell BK102.out 1).trans rfl; have hcz158_2 : w157.cell? ⟨gb102, 2, none⟩ = some (.string a2_2) := (blk_cell BK102.out 2).trans rfl; have hcz158_3 : w157.cell? ⟨gb102, 3, none⟩ = some (.string a2_3) := (blk_cell BK102.out 3).trans rfl; have hfz158_0 := blk_frozen BK102.out 0; have hfz158_1 := blk_frozen BK102.out 1; have hfz158_2 := blk_frozen BK102.out 2; have hfz158_3 := blk_frozen BK102.out 3) | (go_at_call 27; (with_reducible refine (Ob.Gv.putLabel.calls a2_0 a2_1 a2_2 a2_3 t132 t133 _ A114.out).mono ?_); rintro e w159 ⟨rfl, hb⟩; have n0_ := Aside0.mk (Kd.R_below o6_ hb); have n1_ := Aside0.mk (blk_below (g := gb101) (o := .cells #[.string a1_0, .slice A1_1 l1_1.length c1_1, .string a1_2, .string a1_3] 40 (0, 0)) o3_ hb); have n2_ := Aside0.mk (blk_below (g := gb102) (o := .cells #[.string a2_0, .int .i64 a2_1, .string a2_2, .string a2_3] 42 (0, 0)) o4_ hb); have n3_ := Aside0.mk (below_step o1_ hb); clear HO119; clear BK101; clear BK102; clear HB; have HO119 := n0_; have BK101 := n1_; have BK102 := n2_; have HB := n3_; clear n0_ n1_ n2_ n3_; (try clear hb); (try clear hb2); (try clear hk); (try clear hi)) | (go_at_call 16; (with_reducible refine (Ob.Gv.wants.calls 4 t132 t134 _ A115.out (HTAB_.out _ (by first | exact Below.refl _ _ | (with_reducible exact Aside0.out (by assumption)) | repeat (first | (with_reducible exact Aside0.out (by assumption)) | apply below_alloc | apply pw_below_drewN | apply below_drew1)))).mono ?_); rintro e w160 ⟨v135, rfl, ho0, hb⟩; have n0_ := Aside0.mk (Kd.R_elder' o6_ (Kd.R_base ho0) hb); have n1_ := Aside0.mk (Kd.R_lower (Kd.R_new' ho0 (Kd.R_lt o6_)) (below_size o1_)); have n2_ := Aside0.mk (blk_below (g := gb101) (o := .cells #[.string a1_0, .slice A1_1 l1_1.length c1_1, .string a1_2, .string a1_3] 40 (0, 0)) o3_ hb); have n3_ := Aside0.mk (blk_below (g := gb102) (o := .cells #[.string a2_0, .int .i64 a2_1, .string a2_2, .string a2_3] 42 (0, 0)) o4_ hb); have n4_ := Aside0.mk (below_step o1_ hb); clear HO119; clear BK101; clear BK102; clear HB; have HO119 := n0_; have HO136 := n1_; have BK101 := n2_; have BK102 := n3_; have HB := n4_; clear n0_ n1_ n2_ n3_ n4_; (try clear hb); (try clear hb2); (try clear hk); (try clear hi); (try clear ho0))); try go_wp2_with (first | (go_at_call 25; (with_reducible refine (Ob.Gv.putChange.calls a1_0 _ _ l1_1 a1_2 a1_3 t115 false _ ?side1 ?side2 A40.out).mono ?_); (case side1 => repeat (first | exact (Kd.C_below HR1_1.out HB.out) | (with_reducible refine Kd.C_alloc ?_ _) | (with_reducible refine Kd.C_drewN ?_ _) | (with_reducible refine Kd.C_drew ?_))); (case side2 => exact HC1_1.out); rintro e w156 ⟨rfl, hb⟩; have n0_ := Aside0.mk (blk_below (g := gb101) (o := .cells #[.string a1_0, .slice A1_1 l1_1.length c1_1, .string a1_2, .string a1_3] 40 (0, 0)) o3_ hb); have n1_ := Aside0.mk (blk_below (g := gb102) (o := .cells #[.string a2_0, .int .i64 a2_1, .string a2_2, .string a2_3] 42 (0, 0)) o4_ hb); have n2_ := Aside0.mk (below_step o1_ hb); clear BK101; clear BK102; clear HB; have BK101 := n0_; have BK102 := n1_; have HB := n2_; clear n0_ n1_ n2_; (try clear hb); (try clear hb2); (try clear hk); (try clear hi)) | (go_at_call 16; (with_reducible refine (Ob.Gv.wants.calls 3 t115 t117 _ A41.out (HTAB_.out _ (by first | exact Below.refl _ _ | (with_reducible exact Aside0.out (by assumption)) | repeat (first | (with_reducible exact Aside0.out (by assumption)) | apply below_alloc | apply pw_below_drewN | apply below_drew1)))).mono ?_); rintro e w157 ⟨v118, rfl, ho0, hb⟩; have n0_ := Aside0.mk (Kd.R_lower ho0 (below_size o1_)); have n1_ := Aside0.mk (blk_below (g := gb101) (o := .cells #[.string a1_0, .slice A1_1 l1_1.length c1_1, .string a1_2, .string a1_3] 40 (0, 0)) o3_ hb); have n2_ := Aside0.mk (blk_below (g := gb102) (o := .cells #[.string a2_0, .int .i64 a2_1, .string a2_2, .string a2_3] 42 (0, 0)) o4_ hb); have n3_ := Aside0.mk (below_step o1_ hb); clear BK101; clear BK102; clear HB; have HO119 := n0_; have BK101 := n1_; have BK102 := n2_; have HB := n3_; clear n0_ n1_ n2_ n3_; (try clear hb); (try clear hb2); (try clear hk); (try clear hi); (try clear ho0); have hcz158_0 : w157.cell? ⟨gb102, 0, none⟩ = some (.string a2_0) := (blk_cell BK102.out 0).trans rfl; have hcz158_1 : w157.cell? ⟨gb102, 1, none⟩ = some (.int .i64 a2_1) := (blk_cell BK102.out 1).trans rfl; have hcz158_2 : w157.cell? ⟨gb102, 2, none⟩ = some (.string a2_2) := (blk_cell BK102.out 2).trans rfl; have hcz158_3 : w157.cell? ⟨gb102, 3, none⟩ = some (.string a2_3) := (blk_cell BK102.out 3).trans rfl; have hfz158_0 := blk_frozen BK102.out 0; have hfz158_1 := blk_frozen BK102.out 1; have hfz158_2 := blk_frozen BK102.out 2; have hfz158_3 := blk_frozen BK102.out 3) | (go_at_call 27; (with_reducible refine (Ob.Gv.putLabel.calls a2_0 a2_1 a2_2 a2_3 t132 t133 _ A114.out).mono ?_); rintro e w159 ⟨rfl, hb⟩; have n0_ := Aside0.mk (Kd.R_below o6_ hb); have n1_ := Aside0.mk (blk_below (g := gb101) (o := .cells #[.string a1_0, .slice A1_1 l1_1.length c1_1, .string a1_2, .string a1_3] 40 (0, 0)) o3_ hb); have n2_ := Aside0.mk (blk_below (g := gb102) (o := .cells #[.string a2_0, .int .i64 a2_1, .string a2_2, .string a2_3] 42 (0, 0)) o4_ hb); have n3_ := Aside0.mk (below_step o1_ hb); clear HO119; clear BK101; clear BK102; clear HB; have HO119 := n0_; have BK101 := n1_; have BK102 := n2_; have HB := n3_; clear n0_ n1_ n2_ n3_; (try clear hb); (try clear hb2); (try clear hk); (try clear hi)) | (go_at_call 16; (with_reducible refine (Ob.Gv.wants.calls 4 t132 t134 _ A115.out (HTAB_.out _ (by first | exact Below.refl _ _ | (with_reducible exact Aside0.out (by assumption)) | repeat (first | (with_reducible exact Aside0.out (by assumption)) | apply below_alloc | apply pw_below_drewN | apply below_drew1)))).mono ?_); rintro e w160 ⟨v135, rfl, ho0, hb⟩; have n0_ := Aside0.mk (Kd.R_elder' o6_ (Kd.R_base ho0) hb); have n1_ := Aside0.mk (Kd.R_lower (Kd.R_new' ho0 (Kd.R_lt o6_)) (below_size o1_)); have n2_ := Aside0.mk (blk_below (g := gb101) (o := .cells #[.string a1_0, .slice A1_1 l1_1.length c1_1, .string a1_2, .string a1_3] 40 (0, 0)) o3_ hb); have n3_ := Aside0.mk (blk_below (g := gb102) (o := .cells #[.string a2_0, .int .i64 a2_1, .string a2_2, .string a2_3] 42 (0, 0)) o4_ hb); have n4_ := Aside0.mk (below_step o1_ hb); clear HO119; clear BK101; clear BK102; clear HB; have HO119 := n0_; have HO136 := n1_; have BK101 := n2_; have BK102 := n3_; have HB := n4_; clear n0_ n1_ n2_ n3_ n4_; (try clear hb); (try clear hb2); (try clear hk); (try clear hi); (try clear ho0))))
          go_ret
          exact ⟨er_, o1_⟩
end Go.Proofs.YtefefhhaopjccaaGreatDoor.PObjectWants
