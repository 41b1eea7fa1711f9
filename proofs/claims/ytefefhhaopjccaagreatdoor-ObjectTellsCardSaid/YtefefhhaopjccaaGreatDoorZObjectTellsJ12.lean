/- Joined texts: PObDocx7, PObDocx8, PObDocx9. No condition but what stands in each. -/
import Derived.Test.YtefefhhaopjccaaGreatDoorZObjectTellsJ4
import Derived.Test.YtefefhhaopjccaaGreatDoorZObjectTellsJ11
namespace Go.Proofs.YtefefhhaopjccaaGreatDoor.PObDoc
open Go.Proofs.YtefefhhaopjccaaGreatDoor.PObBase
open Go.RowKit Go.Proofs.YtefefhhaopjccaaGreatDoorW.PrintWords Go.Proofs.YtefefhhaopjccaaGreatDoorW.PrintLast Go.Proofs.YtefefhhaopjccaaGreatDoorW.PrintMore
attribute [local go_sem] StrSem.leq_str StrSem.geq_str StrSem.gtr_str max2_int min2_int max_two min_two max_three min_three max_four min_four   -- for this text's walks alone
set_option linter.unusedVariables false
set_option linter.unusedSimpArgs false
mutual
noncomputable def r04_GetChange.j1 : Nat → ByteArray → ByteArray → Bool → ByteArray → List ByteArray → ByteArray → ByteArray → Option (ByteArray × List ByteArray × ByteArray × ByteArray × Bool)
 | 0, _, _, _, _, _, _, _ => none
 | k + 1, x0, x6, x7, x136000, x136001, x136002, x136003 => (r04_line.f k x6 (⟨#[119, 104, 111]⟩ : ByteArray)).bind fun bt145 => (if x7 = true then (if bt145.2.2 = true then (if (bt145.2.1.size : Int) = 0 then (r04_GetChange.j2 k x0 bt145.2.1 true x136000 x136001 bt145.1 x136003) else (if 0 < (bt145.2.1.size : Int) then (r04_GetChange.j2 k x0 bt145.2.1 ((bt bt145.2.1 0) != 10) x136000 x136001 bt145.1 x136003) else (none))) else (r04_GetChange.j2 k x0 bt145.2.1 true x136000 x136001 bt145.1 x136003)) else (r04_GetChange.j2 k x0 bt145.2.1 true x136000 x136001 bt145.1 x136003))
noncomputable def r04_GetChange.j2 : Nat → ByteArray → ByteArray → Bool → ByteArray → List ByteArray → ByteArray → ByteArray → Option (ByteArray × List ByteArray × ByteArray × ByteArray × Bool)
 | 0, _, _, _, _, _, _, _ => none
 | k + 1, x0, x6, x62, x136000, x136001, x136002, x136003 => if x62 = true then (some ((⟨#[]⟩ : ByteArray), ([] : List ByteArray), (⟨#[]⟩ : ByteArray), (⟨#[]⟩ : ByteArray), false)) else (if 1 ≤ (x6.size : Int) then ((r04_PutChange.f k x136000 x136001 x136002 (x6.extract 1 x6.size)).bind fun bt148 => (if bt148.2 = true then (if bt148.1.toList = x0.toList then (some (x136000, x136001, x136002, x6.extract 1 x6.size, true)) else (some ((⟨#[]⟩ : ByteArray), ([] : List ByteArray), (⟨#[]⟩ : ByteArray), (⟨#[]⟩ : ByteArray), false))) else (some ((⟨#[]⟩ : ByteArray), ([] : List ByteArray), (⟨#[]⟩ : ByteArray), (⟨#[]⟩ : ByteArray), false)))) else (none))
noncomputable def r04_GetChange.l0 : Nat → ByteArray → ByteArray → Bool → ByteArray → List ByteArray → ByteArray → ByteArray → Option (ByteArray × List ByteArray × ByteArray × ByteArray × Bool)
 | 0, _, _, _, _, _, _, _ => none
 | k + 1, x0, x6, x7, x136000, x136001, x136002, x136003 => if x7 = true then ((r04_line.f k x6 (⟨#[112, 97, 114, 101, 110, 116]⟩ : ByteArray)).bind fun bt139 => (if bt139.2.2 = true then (if x136001.length < 8796093022208 then (r04_GetChange.l0 k x0 bt139.2.1 x7 x136000 (x136001 ++ [bt139.1]) x136002 x136003) else (none)) else (r04_GetChange.j1 k x0 x6 x7 x136000 x136001 x136002 x136003))) else (r04_GetChange.j1 k x0 x6 x7 x136000 x136001 x136002 x136003)
end
noncomputable def r04_GetChange.f (k : Nat) (a0 : ByteArray) : Option (ByteArray × List ByteArray × ByteArray × ByteArray × Bool) := (r04_line.f k a0 (⟨#[116, 114, 101, 101]⟩ : ByteArray)).bind fun bt136 => (r04_GetChange.l0 k a0 bt136.2.1 bt136.2.2 bt136.1 ([] : List ByteArray) (⟨#[]⟩ : ByteArray) (⟨#[]⟩ : ByteArray))
set_option maxHeartbeats 8000000 in
set_option maxRecDepth 100000 in
theorem r04_GetChange.calls (k : Nat) (a0 : ByteArray) (r1 : ByteArray) (r2 : List ByteArray) (r3 : ByteArray) (r4 : ByteArray) (r5 : Bool) (w : World) (h : r04_GetChange.f k a0 = some (r1, r2, r3, r4, r5)) :
  Calls Tryz.prog 30 #[.string a0] w fun e w' => ∃ v1_ : Value, e = .returned (.tuple #[.agg #[.string r1, v1_, .string r3, .string r4], .bool r5]) ∧ Kd.R Kd.string 9 w' w.heap.size (fun _ => True) v1_ r2 ∧ Below w.heap.size w w' := by
 have hu40 := Tryz.underlying40
 have HB := Aside0.mk (Below.refl w.heap.size w)
 have H : ((r04_line.f k a0 (⟨#[116, 114, 101, 101]⟩ : ByteArray)).bind fun bt136 => (r04_GetChange.l0 k a0 bt136.2.1 bt136.2.2 bt136.1 ([] : List ByteArray) (⟨#[]⟩ : ByteArray) (⟨#[]⟩ : ByteArray))) = some (r1, r2, r3, r4, r5) := h
 clear h
 replace H := Option.bind_eq_some_iff.mp H
 obtain ⟨⟨t136, t137, t138⟩, A20, H⟩ := H
 replace H : (r04_GetChange.l0 k a0 t137 t138 t136 ([] : List ByteArray) (⟨#[]⟩ : ByteArray) (⟨#[]⟩ : ByteArray)) = some (r1, r2, r3, r4, r5) := H
 have A2 := Aside0.mk A20
 clear A20
 have HC3 := Aside0.mk H
 clear H
 go_enter Tryz.func30, Tryz.ntmps30
 go_upto_block 0 with (first | ((with_reducible refine gate_dst (N := 2) rfl ?_); (try (refine gate_guard (by rfl) ?_; dsimp only)); refine box_event ?hg (N := 2) ?hd (cs := #[.string (⟨#[]⟩ : ByteArray), .slice none 0 0, .string (⟨#[]⟩ : ByteArray), .string (⟨#[]⟩ : ByteArray)]) (t := 40) ?hr ?_; (case hd => rfl); (case hg => rfl); (case hr => first | (go_simp; done) | (go_simp; rfl)); intro gb134 hg w4 hbox hb; have n0_ := Aside0.mk (below_step bw_ hb); have n1_ := Aside0.mk (hbox); have n2_ := Aside0.mk ((by rw [hg]; exact (below_size bw_) : w.heap.size ≤ gb134)); have n3_ := Aside0.mk ((by rw [hg]; exact (below_size bw_) : w.heap.size ≤ gb134)); clear HB; have HB := n0_; have BK134 := n1_; have GW134 := n2_; have GE134 := n3_; clear n0_ n1_ n2_ n3_; clear hb hbox hg) | ((with_reducible refine gate_dst (N := 4) rfl ?_); (try (refine gate_guard (by rfl) ?_; dsimp only)); refine box_event ?hg (N := 4) ?hd (cs := #[.string (⟨#[]⟩ : ByteArray), .slice none 0 0, .string (⟨#[]⟩ : ByteArray), .string (⟨#[]⟩ : ByteArray)]) (t := 40) ?hr ?_; (case hd => rfl); (case hg => rfl); (case hr => first | (go_simp; done) | (go_simp; rfl)); intro gb135 hg w5 hbox hb; have n0_ := Aside0.mk (blk_below (g := gb134) (o := .cells #[.string (⟨#[]⟩ : ByteArray), .slice none 0 0, .string (⟨#[]⟩ : ByteArray), .string (⟨#[]⟩ : ByteArray)] 40 (0, 0)) (by (with_reducible repeat (first | refine blk_drewN ?_ _ | refine blk_drew ?_ | refine blk_alloc ?_ _)); exact BK134.out) hb); have n1_ := Aside0.mk (below_step (by repeat (first | (with_reducible first | exact HB.out | apply below_alloc | apply pw_below_drewN | apply below_drew1 | refine below_set ?_ GE134.out) | exact HB.out)) hb); have n2_ := Aside0.mk (hbox); have n3_ := Aside0.mk ((by rw [hg]; exact (below_size (by repeat (first | (with_reducible first | exact HB.out | apply below_alloc | apply pw_below_drewN | apply below_drew1 | refine below_set ?_ GE134.out) | exact HB.out))) : w.heap.size ≤ gb135)); have n4_ := Aside0.mk ((by rw [hg]; exact (below_size (by repeat (first | (with_reducible first | exact HB.out | apply below_alloc | apply pw_below_drewN | apply below_drew1 | refine below_set ?_ GE134.out) | exact HB.out))) : w.heap.size ≤ gb135)); have n5_ := Aside0.mk ((by rw [hg]; exact Nat.ne_of_lt (blk_lt (g := gb134) (o := .cells #[.string (⟨#[]⟩ : ByteArray), .slice none 0 0, .string (⟨#[]⟩ : ByteArray), .string (⟨#[]⟩ : ByteArray)] 40 (0, 0)) (by (with_reducible repeat (first | refine blk_drewN ?_ _ | refine blk_drew ?_ | refine blk_alloc ?_ _)); exact BK134.out)) : gb134 ≠ gb135)); have n6_ := Aside0.mk ((by rw [hg]; exact Nat.ne_of_gt (blk_lt (g := gb134) (o := .cells #[.string (⟨#[]⟩ : ByteArray), .slice none 0 0, .string (⟨#[]⟩ : ByteArray), .string (⟨#[]⟩ : ByteArray)] 40 (0, 0)) (by (with_reducible repeat (first | refine blk_drewN ?_ _ | refine blk_drew ?_ | refine blk_alloc ?_ _)); exact BK134.out)) : gb135 ≠ gb134)); clear BK134; clear HB; have BK134 := n0_; have HB := n1_; have BK135 := n2_; have GW135 := n3_; have GE135 := n4_; have NB134_135 := n5_; have NB135_134 := n6_; clear n0_ n1_ n2_ n3_ n4_ n5_ n6_; clear hb hbox hg) | ((with_reducible refine gate_callee (f := 55) rfl ?_); refine goesL_ (some 17) rfl rfl Tryz.func55 (by kernel_rfl) rfl #[.string a0, .string (⟨#[116, 114, 101, 101]⟩ : ByteArray)] rfl la_ ?_; (with_reducible refine (r04_line.calls k a0 (⟨#[116, 114, 101, 101]⟩ : ByteArray) t136 t137 t138 _ A2.out).mono ?_); rintro e w' ⟨rfl, ⟨nd, rfl⟩⟩; refine ⟨_, rfl, ?_⟩; (try (rw [drewN_self w5]; generalize hq_ : World.drewN w5 _ = w5; have n0_ : Aside0 (w5.heap[gb134]? = some (.cells #[.string (⟨#[]⟩ : ByteArray), .slice none 0 0, .string (⟨#[]⟩ : ByteArray), .string (⟨#[]⟩ : ByteArray)] 40 (0, 0))) := ⟨by rw [← hq_]; exact (by (with_reducible repeat (first | refine blk_drewN ?_ _ | refine blk_drew ?_ | refine blk_alloc ?_ _)); exact BK134.out)⟩; have n1_ : Aside0 (w5.heap[gb135]? = some (.cells #[.string (⟨#[]⟩ : ByteArray), .slice none 0 0, .string (⟨#[]⟩ : ByteArray), .string (⟨#[]⟩ : ByteArray)] 40 (0, 0))) := ⟨by rw [← hq_]; exact (by (with_reducible repeat (first | refine blk_drewN ?_ _ | refine blk_drew ?_ | refine blk_alloc ?_ _)); exact BK135.out)⟩; have n2_ : Aside0 (Below w.heap.size w w5) := ⟨by rw [← hq_]; exact (by repeat (first | (with_reducible first | exact HB.out | apply below_alloc | apply pw_below_drewN | apply below_drew1 | refine below_set ?_ GE134.out | refine below_set ?_ GE135.out) | exact HB.out))⟩; clear BK134 BK135 HB hq_; have BK134 := n0_; have BK135 := n1_; have HB := n2_; clear n0_ n1_ n2_)); have hnb6 := NB135_134.out; have hnc6 := NB134_135.out; have hcz7_0 : w5.cell? ⟨gb135, 0, none⟩ = some (.string (⟨#[]⟩ : ByteArray)) := (blk_cell BK135.out 0).trans rfl; have hcz7_1 : w5.cell? ⟨gb135, 1, none⟩ = some (.slice none 0 0) := (blk_cell BK135.out 1).trans rfl; have hcz7_2 : w5.cell? ⟨gb135, 2, none⟩ = some (.string (⟨#[]⟩ : ByteArray)) := (blk_cell BK135.out 2).trans rfl; have hcz7_3 : w5.cell? ⟨gb135, 3, none⟩ = some (.string (⟨#[]⟩ : ByteArray)) := (blk_cell BK135.out 3).trans rfl; have hfz7_0 := blk_frozen BK135.out 0; have hfz7_1 := blk_frozen BK135.out 1; have hfz7_2 := blk_frozen BK135.out 2; have hfz7_3 := blk_frozen BK135.out 3))
 (try simp only [Act.put, List.setIfInBounds_toArray, List.set_cons_zero, List.set_cons_succ])
 go_cut [6] (fun v6 wc => ∃ (kq : Nat) (x6_2 : ByteArray) (x136001_2 : List ByteArray) (u136001 : Value), v6 = .string x6_2 ∧ Aside0 (r04_GetChange.j1 kq a0 x6_2 t138 t136 x136001_2 (⟨#[]⟩ : ByteArray) (⟨#[]⟩ : ByteArray) = some (r1, r2, r3, r4, r5)) ∧ Aside0 (kq ≤ k) ∧ Aside0 (Kd.R Kd.string 9 wc w.heap.size (fun _ => True) u136001 x136001_2) ∧ Aside0 (wc.heap[gb134]? = some (.cells #[.string (⟨#[]⟩ : ByteArray), (.slice none 0 0), .string (⟨#[]⟩ : ByteArray), .string (⟨#[]⟩ : ByteArray)] 40 (0, 0))) ∧ Aside0 (wc.heap[gb135]? = some (.cells #[.string t136, u136001, .string (⟨#[]⟩ : ByteArray), .string (⟨#[]⟩ : ByteArray)] 40 (0, 0))) ∧ Aside0 (Below w.heap.size w wc))
 case first =>
  have H := HC3.out
  clear HC3
  have H' := Aside0.mk H
  clear H
  go_wp2
  go_loopg [6] k (fun kq v6 w' => ∃ (x6_1 : ByteArray) (x136001_1 : List ByteArray) (u136001 : Value), v6 = .string x6_1 ∧ Aside0 (r04_GetChange.l0 kq a0 x6_1 t138 t136 x136001_1 (⟨#[]⟩ : ByteArray) (⟨#[]⟩ : ByteArray) = some (r1, r2, r3, r4, r5)) ∧ Aside0 (kq ≤ k) ∧ Aside0 (Kd.R Kd.string 9 w' w.heap.size (fun _ => True) u136001 x136001_1) ∧ Aside0 (w'.heap[gb134]? = some (.cells #[.string (⟨#[]⟩ : ByteArray), (.slice none 0 0), .string (⟨#[]⟩ : ByteArray), .string (⟨#[]⟩ : ByteArray)] 40 (0, 0))) ∧ Aside0 (w'.heap[gb135]? = some (.cells #[.string t136, u136001, .string (⟨#[]⟩ : ByteArray), .string (⟨#[]⟩ : ByteArray)] 40 (0, 0))) ∧ Aside0 (Below w.heap.size w w'))
  case atStart => exact ⟨(t137), (([] : List ByteArray)), (.slice none 0 0), sd_, H', ⟨Nat.le_refl _⟩, ⟨kn_⟩, ⟨by (with_reducible repeat (first | refine blk_drewN ?_ _ | refine blk_drew ?_ | refine blk_alloc ?_ _)); refine blk_far ?_ NB134_135.out _; (with_reducible repeat (first | refine blk_drewN ?_ _ | refine blk_drew ?_ | refine blk_alloc ?_ _)); exact BK134.out⟩, ⟨by (with_reducible repeat (first | refine blk_drewN ?_ _ | refine blk_drew ?_ | refine blk_alloc ?_ _)); refine blk_put (cs := #[.string (⟨#[]⟩ : ByteArray), .slice none 0 0, .string (⟨#[]⟩ : ByteArray), .string (⟨#[]⟩ : ByteArray)]) ?_ 0 _ rfl; (with_reducible repeat (first | refine blk_drewN ?_ _ | refine blk_drew ?_ | refine blk_alloc ?_ _)); exact BK135.out⟩, ⟨by repeat (first | (with_reducible first | exact HB.out | apply below_alloc | apply pw_below_drewN | apply below_drew1 | refine below_set ?_ GE134.out | refine below_set ?_ GE135.out) | exact HB.out)⟩⟩
  case round =>
   clear H'
   try clear p2
   try clear c3
   try clear c5
   try clear c6
   try clear hcz7_0
   try clear hcz7_1
   try clear hcz7_2
   try clear hcz7_3
   try clear hfz7_0
   try clear hfz7_1
   try clear hfz7_2
   try clear hfz7_3
   obtain ⟨x6_1, x136001_1, u136001, rfl, HA, HK1, HO_136001, BK134, BK135, HB⟩ := hrel
   cases gk with
   | zero => exact absurd HA.out (by simp [r04_GetChange.l0])
   | succ k1 =>
    have H := HA.out
    clear HA
    simp only [r04_GetChange.l0] at H
    by_cases c8 : t138 = true
    ·
     subst c8
     have H1 : ((r04_line.f k1 x6_1 (⟨#[112, 97, 114, 101, 110, 116]⟩ : ByteArray)).bind fun bt139 => (if bt139.2.2 = true then (if x136001_1.length < 8796093022208 then (r04_GetChange.l0 k1 a0 bt139.2.1 true t136 (x136001_1 ++ [bt139.1]) (⟨#[]⟩ : ByteArray) (⟨#[]⟩ : ByteArray)) else (none)) else (r04_GetChange.j1 k1 a0 x6_1 true t136 x136001_1 (⟨#[]⟩ : ByteArray) (⟨#[]⟩ : ByteArray)))) = some (r1, r2, r3, r4, r5) := by rw [if_pos rfl] at H; exact H
     clear H
     have H := H1
     clear H1
     replace H := Option.bind_eq_some_iff.mp H
     obtain ⟨⟨t139, t140, t141⟩, A90, H⟩ := H
     replace H : (if t141 = true then (if x136001_1.length < 8796093022208 then (r04_GetChange.l0 k1 a0 t140 true t136 (x136001_1 ++ [t139]) (⟨#[]⟩ : ByteArray) (⟨#[]⟩ : ByteArray)) else (none)) else (r04_GetChange.j1 k1 a0 x6_1 true t136 x136001_1 (⟨#[]⟩ : ByteArray) (⟨#[]⟩ : ByteArray))) = some (r1, r2, r3, r4, r5) := H
     have A9 := Aside0.mk A90
     clear A90
     by_cases c10 : t141 = true
     ·
      subst c10
      have H1 : (if x136001_1.length < 8796093022208 then (r04_GetChange.l0 k1 a0 t140 true t136 (x136001_1 ++ [t139]) (⟨#[]⟩ : ByteArray) (⟨#[]⟩ : ByteArray)) else (none)) = some (r1, r2, r3, r4, r5) := by rw [if_pos rfl] at H; exact H
      clear H
      have H := H1
      clear H1
      by_cases c11 : x136001_1.length < 8796093022208
      ·
       rw [if_pos c11] at H
       have LMc11 := Aside0.mk c11
       clear c11
       obtain ⟨y142, hy142⟩ : ∃ y_ : List ByteArray, y_ = (x136001_1 ++ [t139]) := ⟨_, rfl⟩
       replace H : (r04_GetChange.l0 k1 a0 t140 true t136 y142 (⟨#[]⟩ : ByteArray) (⟨#[]⟩ : ByteArray)) = some (r1, r2, r3, r4, r5) := by first | (rw [hy142]; with_reducible exact H) | (have H2_ := (Option.bind_some _ _).symm.trans H; rw [hy142]; with_reducible exact H2_) | (have H2_ := (Option.bind_some _ _).symm.trans H; with_reducible exact H2_) | with_reducible exact H | (rw [hy142]; exact H) | exact H
       have Ny142 := Aside0.mk hy142
       clear hy142
       have H' := Aside0.mk H
       clear H
       go_wp2_with (first | ((with_reducible refine gate_callee (f := 55) rfl ?_); refine goesL_ (some 26) rfl rfl Tryz.func55 (by kernel_rfl) rfl #[.string x6_1, .string (⟨#[112, 97, 114, 101, 110, 116]⟩ : ByteArray)] rfl la_ ?_; (with_reducible refine (r04_line.calls k1 x6_1 (⟨#[112, 97, 114, 101, 110, 116]⟩ : ByteArray) t139 t140 true _ A9.out).mono ?_); rintro e w' ⟨rfl, ⟨nd, rfl⟩⟩; refine ⟨_, rfl, ?_⟩; (try (rw [drewN_self wr]; generalize hq_ : World.drewN wr _ = wr; have n0_ : Aside0 (Kd.R Kd.string 9 wr w.heap.size (fun _ => True) u136001 x136001_1) := ⟨by rw [← hq_]; exact (by (with_reducible repeat (first | apply Kd.R_alloc | apply Kd.R_drewN | apply Kd.R_drew)); exact HO_136001.out)⟩; have n1_ : Aside0 (wr.heap[gb134]? = some (.cells #[.string (⟨#[]⟩ : ByteArray), .slice none 0 0, .string (⟨#[]⟩ : ByteArray), .string (⟨#[]⟩ : ByteArray)] 40 (0, 0))) := ⟨by rw [← hq_]; exact (by (with_reducible repeat (first | refine blk_drewN ?_ _ | refine blk_drew ?_ | refine blk_alloc ?_ _)); exact BK134.out)⟩; have n2_ : Aside0 (wr.heap[gb135]? = some (.cells #[.string t136, u136001, .string (⟨#[]⟩ : ByteArray), .string (⟨#[]⟩ : ByteArray)] 40 (0, 0))) := ⟨by rw [← hq_]; exact (by (with_reducible repeat (first | refine blk_drewN ?_ _ | refine blk_drew ?_ | refine blk_alloc ?_ _)); exact BK135.out)⟩; have n3_ : Aside0 (Below w.heap.size w wr) := ⟨by rw [← hq_]; exact (by repeat (first | (with_reducible first | exact HB.out | apply below_alloc | apply pw_below_drewN | apply below_drew1 | refine below_set ?_ GE134.out | refine below_set ?_ GE135.out) | exact HB.out))⟩; clear HO_136001 BK134 BK135 HB hq_; have HO_136001 := n0_; have BK134 := n1_; have BK135 := n2_; have HB := n3_; clear n0_ n1_ n2_ n3_)); have hnb12 := NB135_134.out; have hnc12 := NB134_135.out; have hcz13_0 : wr.cell? ⟨gb135, 0, none⟩ = some (.string t136) := (blk_cell BK135.out 0).trans rfl; have hcz13_1 : wr.cell? ⟨gb135, 1, none⟩ = some (u136001) := (blk_cell BK135.out 1).trans rfl; have hcz13_2 : wr.cell? ⟨gb135, 2, none⟩ = some (.string (⟨#[]⟩ : ByteArray)) := (blk_cell BK135.out 2).trans rfl; have hcz13_3 : wr.cell? ⟨gb135, 3, none⟩ = some (.string (⟨#[]⟩ : ByteArray)) := (blk_cell BK135.out 3).trans rfl; have hfz13_0 := blk_frozen BK135.out 0; have hfz13_1 := blk_frozen BK135.out 1; have hfz13_2 := blk_frozen BK135.out 2; have hfz13_3 := blk_frozen BK135.out 3) | ((with_reducible refine gate_builtin (b := .append) (xs := #[.tmp 33, .tmp 35]) rfl ?_); (try (refine gate_guard (by rfl) ?_; dsimp only)); at_builtin; refine Kd.R_append Kd.string (w0 := w) w.heap.size rfl (.tmp 33) (.tmp 35) 38 9 (.string ⟨#[]⟩) 16 rfl Tryz.underlying38 info9 rfl (by decide) (by omega) u136001 x136001_1 t139 [.string t139] (fun _ => True) (fun _ => False) rfl rfl ?aP (fun _ hk => hk.elim) ?aF ?aO ?aB ?aS ?aL ?_; (case aP => exact rfl); (case aB => exact (by repeat (first | (with_reducible first | exact HB.out | apply below_alloc | apply pw_below_drewN | apply below_drew1 | refine below_set ?_ GE134.out | refine below_set ?_ GE135.out) | exact HB.out))); (case aF => exact (fun _ _ => trivial)); (case aO => exact (by (with_reducible repeat (first | apply Kd.R_alloc | apply Kd.R_drewN | apply Kd.R_drew)); exact HO_136001.out)); (case aS => exact (below_size (by repeat (first | (with_reducible first | exact HB.out | apply below_alloc | apply pw_below_drewN | apply below_drew1 | refine below_set ?_ GE134.out | refine below_set ?_ GE135.out) | exact HB.out)))); (case aL => have := LMc11.out; omega); intro v143 w14 ho hb hg hat; rw [← Ny142.out] at ho; have n0_ := Aside0.mk (blk_grown (g := gb134) (o := .cells #[.string (⟨#[]⟩ : ByteArray), .slice none 0 0, .string (⟨#[]⟩ : ByteArray), .string (⟨#[]⟩ : ByteArray)] 40 (0, 0)) (by (with_reducible repeat (first | refine blk_drewN ?_ _ | refine blk_drew ?_ | refine blk_alloc ?_ _)); exact BK134.out) hg (Kd.R_ne HO_136001.out BK134.out (by decide))); have n1_ := Aside0.mk (blk_grown (g := gb135) (o := .cells #[.string t136, u136001, .string (⟨#[]⟩ : ByteArray), .string (⟨#[]⟩ : ByteArray)] 40 (0, 0)) (by (with_reducible repeat (first | refine blk_drewN ?_ _ | refine blk_drew ?_ | refine blk_alloc ?_ _)); exact BK135.out) hg (Kd.R_ne HO_136001.out BK135.out (by decide))); have n2_ := Aside0.mk (hb); have n3_ := Aside0.mk (ho); clear BK134; clear BK135; clear HB; clear HO_136001; have BK134 := n0_; have BK135 := n1_; have HB := n2_; have HO144 := n3_; clear n0_ n1_ n2_ n3_; clear ho hb hg hat; obtain ⟨Ao15, co15, eo15⟩ := Kd.R_slice HO144.out; subst eo15; have hcz16_0 : w14.cell? ⟨gb135, 0, none⟩ = some (.string t136) := (blk_cell BK135.out 0).trans rfl; have hcz16_1 : w14.cell? ⟨gb135, 1, none⟩ = some (u136001) := (blk_cell BK135.out 1).trans rfl; have hcz16_2 : w14.cell? ⟨gb135, 2, none⟩ = some (.string (⟨#[]⟩ : ByteArray)) := (blk_cell BK135.out 2).trans rfl; have hcz16_3 : w14.cell? ⟨gb135, 3, none⟩ = some (.string (⟨#[]⟩ : ByteArray)) := (blk_cell BK135.out 3).trans rfl; have hfz16_0 := blk_frozen BK135.out 0; have hfz16_1 := blk_frozen BK135.out 1; have hfz16_2 := blk_frozen BK135.out 2; have hfz16_3 := blk_frozen BK135.out 3))
       go_roundg k1
       case measure => have := HK1.out; omega
       case rel => exact ⟨(t140), (y142), (.slice Ao15 y142.length co15), sd_, H', ⟨by have := HK1.out; omega⟩, ⟨by (with_reducible repeat (first | apply Kd.R_alloc | apply Kd.R_drewN | apply Kd.R_drew)); exact Kd.R_mono (Kd.R_far (p := ⟨gb135, 1, none⟩) (Kd.R_types HO144.out BK135.out (by decide)) (fun _ hk => hk.2) (.slice Ao15 y142.length co15)) (fun _ hk => trivial)⟩, ⟨by (with_reducible repeat (first | refine blk_drewN ?_ _ | refine blk_drew ?_ | refine blk_alloc ?_ _)); refine blk_far ?_ NB134_135.out _; (with_reducible repeat (first | refine blk_drewN ?_ _ | refine blk_drew ?_ | refine blk_alloc ?_ _)); exact BK134.out⟩, ⟨by (with_reducible repeat (first | refine blk_drewN ?_ _ | refine blk_drew ?_ | refine blk_alloc ?_ _)); refine blk_put (cs := #[.string t136, u136001, .string (⟨#[]⟩ : ByteArray), .string (⟨#[]⟩ : ByteArray)]) ?_ 1 _ rfl; (with_reducible repeat (first | refine blk_drewN ?_ _ | refine blk_drew ?_ | refine blk_alloc ?_ _)); exact BK135.out⟩, ⟨by repeat (first | (with_reducible first | exact HB.out | apply below_alloc | apply pw_below_drewN | apply below_drew1 | refine below_set ?_ GE134.out | refine below_set ?_ GE135.out) | exact HB.out)⟩⟩
      ·
       rw [if_neg c11] at H
       exact absurd H (by simp)
     ·
      replace c10 := Bool.eq_false_iff.mpr c10
      subst c10
      have H1 : (r04_GetChange.j1 k1 a0 x6_1 true t136 x136001_1 (⟨#[]⟩ : ByteArray) (⟨#[]⟩ : ByteArray)) = some (r1, r2, r3, r4, r5) := by rw [if_neg (show ¬ (false = true) by decide)] at H; exact H
      clear H
      have H := H1
      clear H1
      have H' := Aside0.mk H
      clear H
      go_wp2_with (first | ((with_reducible refine gate_callee (f := 55) rfl ?_); refine goesL_ (some 26) rfl rfl Tryz.func55 (by kernel_rfl) rfl #[.string x6_1, .string (⟨#[112, 97, 114, 101, 110, 116]⟩ : ByteArray)] rfl la_ ?_; (with_reducible refine (r04_line.calls k1 x6_1 (⟨#[112, 97, 114, 101, 110, 116]⟩ : ByteArray) t139 t140 false _ A9.out).mono ?_); rintro e w' ⟨rfl, ⟨nd, rfl⟩⟩; refine ⟨_, rfl, ?_⟩))
      go_meet
      case rel => exact ⟨_, (x6_1), (x136001_1), (u136001), sd_, H', ⟨by have := HK1.out; first | omega | exact Nat.le_refl _⟩, ⟨by (with_reducible repeat (first | apply Kd.R_alloc | apply Kd.R_drewN | apply Kd.R_drew)); exact HO_136001.out⟩, ⟨by (with_reducible repeat (first | refine blk_drewN ?_ _ | refine blk_drew ?_ | refine blk_alloc ?_ _)); exact BK134.out⟩, ⟨by (with_reducible repeat (first | refine blk_drewN ?_ _ | refine blk_drew ?_ | refine blk_alloc ?_ _)); exact BK135.out⟩, ⟨by repeat (first | (with_reducible first | exact HB.out | apply below_alloc | apply pw_below_drewN | apply below_drew1 | refine below_set ?_ GE134.out | refine below_set ?_ GE135.out) | exact HB.out)⟩⟩
    ·
     replace c8 := Bool.eq_false_iff.mpr c8
     subst c8
     have H1 : (r04_GetChange.j1 k1 a0 x6_1 false t136 x136001_1 (⟨#[]⟩ : ByteArray) (⟨#[]⟩ : ByteArray)) = some (r1, r2, r3, r4, r5) := by rw [if_neg (show ¬ (false = true) by decide)] at H; exact H
     clear H
     have H := H1
     clear H1
     have H' := Aside0.mk H
     clear H
     go_wp2
     go_meet
     case rel => exact ⟨_, (x6_1), (x136001_1), (u136001), sd_, H', ⟨by have := HK1.out; first | omega | exact Nat.le_refl _⟩, ⟨by (with_reducible repeat (first | apply Kd.R_alloc | apply Kd.R_drewN | apply Kd.R_drew)); exact HO_136001.out⟩, ⟨by (with_reducible repeat (first | refine blk_drewN ?_ _ | refine blk_drew ?_ | refine blk_alloc ?_ _)); exact BK134.out⟩, ⟨by (with_reducible repeat (first | refine blk_drewN ?_ _ | refine blk_drew ?_ | refine blk_alloc ?_ _)); exact BK135.out⟩, ⟨by repeat (first | (with_reducible first | exact HB.out | apply below_alloc | apply pw_below_drewN | apply below_drew1 | refine below_set ?_ GE134.out | refine below_set ?_ GE135.out) | exact HB.out)⟩⟩
 case rest =>
  clear HC3
  try clear c1
  try clear p2
  try clear c3
  try clear c5
  try clear c6
  try clear c8
  try clear c10
  try clear c11
  try clear c12
  try clear hcz13_0
  try clear hcz13_1
  try clear hcz13_2
  try clear hcz13_3
  try clear hcz16_0
  try clear hcz16_1
  try clear hcz16_2
  try clear hcz16_3
  try clear hcz7_0
  try clear hcz7_1
  try clear hcz7_2
  try clear hcz7_3
  try clear hfz13_0
  try clear hfz13_1
  try clear hfz13_2
  try clear hfz13_3
  try clear hfz16_0
  try clear hfz16_1
  try clear hfz16_2
  try clear hfz16_3
  try clear hfz7_0
  try clear hfz7_1
  try clear hfz7_2
  try clear hfz7_3
  try clear p2
  obtain ⟨kq, x6_2, x136001_2, u136001, rfl, HA, HJ2, HO_136001, BK134, BK135, HB⟩ := hcut
  cases kq with
  | zero => exact absurd HA.out (by simp [r04_GetChange.j1])
  | succ kj2 =>
   have H := HA.out
   clear HA
   simp only [r04_GetChange.j1] at H
   replace H := Option.bind_eq_some_iff.mp H
   obtain ⟨⟨t145, t146, t147⟩, A170, H⟩ := H
   replace H : (if t138 = true then (if t147 = true then (if (t146.size : Int) = 0 then (r04_GetChange.j2 kj2 a0 t146 true t136 x136001_2 t145 (⟨#[]⟩ : ByteArray)) else (if 0 < (t146.size : Int) then (r04_GetChange.j2 kj2 a0 t146 ((bt t146 0) != 10) t136 x136001_2 t145 (⟨#[]⟩ : ByteArray)) else (none))) else (r04_GetChange.j2 kj2 a0 t146 true t136 x136001_2 t145 (⟨#[]⟩ : ByteArray))) else (r04_GetChange.j2 kj2 a0 t146 true t136 x136001_2 t145 (⟨#[]⟩ : ByteArray))) = some (r1, r2, r3, r4, r5) := H
   have A17 := Aside0.mk A170
   clear A170
   have HC18 := Aside0.mk H
   clear H
   go_upto_region 11 with (first | ((with_reducible refine gate_callee (f := 55) rfl ?_); refine goesL_ (some 41) rfl rfl Tryz.func55 (by kernel_rfl) rfl #[.string x6_2, .string (⟨#[119, 104, 111]⟩ : ByteArray)] rfl la_ ?_; (with_reducible refine (r04_line.calls kj2 x6_2 (⟨#[119, 104, 111]⟩ : ByteArray) t145 t146 t147 _ A17.out).mono ?_); rintro e w' ⟨rfl, ⟨nd, rfl⟩⟩; refine ⟨_, rfl, ?_⟩; (try (rw [drewN_self wc]; generalize hq_ : World.drewN wc _ = wc; have n0_ : Aside0 (Kd.R Kd.string 9 wc w.heap.size (fun _ => True) u136001 x136001_2) := ⟨by rw [← hq_]; exact (by (with_reducible repeat (first | apply Kd.R_alloc | apply Kd.R_drewN | apply Kd.R_drew)); exact HO_136001.out)⟩; have n1_ : Aside0 (wc.heap[gb134]? = some (.cells #[.string (⟨#[]⟩ : ByteArray), .slice none 0 0, .string (⟨#[]⟩ : ByteArray), .string (⟨#[]⟩ : ByteArray)] 40 (0, 0))) := ⟨by rw [← hq_]; exact (by (with_reducible repeat (first | refine blk_drewN ?_ _ | refine blk_drew ?_ | refine blk_alloc ?_ _)); exact BK134.out)⟩; have n2_ : Aside0 (wc.heap[gb135]? = some (.cells #[.string t136, u136001, .string (⟨#[]⟩ : ByteArray), .string (⟨#[]⟩ : ByteArray)] 40 (0, 0))) := ⟨by rw [← hq_]; exact (by (with_reducible repeat (first | refine blk_drewN ?_ _ | refine blk_drew ?_ | refine blk_alloc ?_ _)); exact BK135.out)⟩; have n3_ : Aside0 (Below w.heap.size w wc) := ⟨by rw [← hq_]; exact (by repeat (first | (with_reducible first | exact HB.out | apply below_alloc | apply pw_below_drewN | apply below_drew1 | refine below_set ?_ GE134.out | refine below_set ?_ GE135.out) | exact HB.out))⟩; clear HO_136001 BK134 BK135 HB hq_; have HO_136001 := n0_; have BK134 := n1_; have BK135 := n2_; have HB := n3_; clear n0_ n1_ n2_ n3_)); have hnb19 := NB135_134.out; have hnc19 := NB134_135.out; have hcz20_0 : wc.cell? ⟨gb135, 0, none⟩ = some (.string t136) := (blk_cell BK135.out 0).trans rfl; have hcz20_1 : wc.cell? ⟨gb135, 1, none⟩ = some (u136001) := (blk_cell BK135.out 1).trans rfl; have hcz20_2 : wc.cell? ⟨gb135, 2, none⟩ = some (.string (⟨#[]⟩ : ByteArray)) := (blk_cell BK135.out 2).trans rfl; have hcz20_3 : wc.cell? ⟨gb135, 3, none⟩ = some (.string (⟨#[]⟩ : ByteArray)) := (blk_cell BK135.out 3).trans rfl; have hfz20_0 := blk_frozen BK135.out 0; have hfz20_1 := blk_frozen BK135.out 1; have hfz20_2 := blk_frozen BK135.out 2; have hfz20_3 := blk_frozen BK135.out 3))
   (try simp only [Act.put, List.setIfInBounds_toArray, List.set_cons_zero, List.set_cons_succ])
   go_cut [62] (fun v62 wc => ∃ (kq : Nat) (x62_17 : Bool), v62 = .bool x62_17 ∧ Aside0 (r04_GetChange.j2 kq a0 t146 x62_17 t136 x136001_2 t145 (⟨#[]⟩ : ByteArray) = some (r1, r2, r3, r4, r5)) ∧ Aside0 (kq ≤ kj2) ∧ Aside0 (Kd.R Kd.string 9 wc w.heap.size (fun _ => True) u136001 x136001_2) ∧ Aside0 (wc.heap[gb134]? = some (.cells #[.string (⟨#[]⟩ : ByteArray), (.slice none 0 0), .string (⟨#[]⟩ : ByteArray), .string (⟨#[]⟩ : ByteArray)] 40 (0, 0))) ∧ Aside0 (wc.heap[gb135]? = some (.cells #[.string t136, u136001, .string t145, .string (⟨#[]⟩ : ByteArray)] 40 (0, 0))) ∧ Aside0 (Below w.heap.size w wc))
   case first =>
    have H := HC18.out
    clear HC18
    by_cases c21 : t138 = true
    ·
     subst c21
     have H1 : (if t147 = true then (if (t146.size : Int) = 0 then (r04_GetChange.j2 kj2 a0 t146 true t136 x136001_2 t145 (⟨#[]⟩ : ByteArray)) else (if 0 < (t146.size : Int) then (r04_GetChange.j2 kj2 a0 t146 ((bt t146 0) != 10) t136 x136001_2 t145 (⟨#[]⟩ : ByteArray)) else (none))) else (r04_GetChange.j2 kj2 a0 t146 true t136 x136001_2 t145 (⟨#[]⟩ : ByteArray))) = some (r1, r2, r3, r4, r5) := by rw [if_pos rfl] at H; exact H
     clear H
     have H := H1
     clear H1
     by_cases c22 : t147 = true
     ·
      subst c22
      have H1 : (if (t146.size : Int) = 0 then (r04_GetChange.j2 kj2 a0 t146 true t136 x136001_2 t145 (⟨#[]⟩ : ByteArray)) else (if 0 < (t146.size : Int) then (r04_GetChange.j2 kj2 a0 t146 ((bt t146 0) != 10) t136 x136001_2 t145 (⟨#[]⟩ : ByteArray)) else (none))) = some (r1, r2, r3, r4, r5) := by rw [if_pos rfl] at H; exact H
      clear H
      have H := H1
      clear H1
      by_cases c23 : (t146.size : Int) = 0
      ·
       rw [if_pos c23] at H
       have c23b0 : ((t146.size : Int) == 0) = true := beq_iff_eq.mpr c23
       have c23b1 : ((t146.size : Int) != 0) = false := bne_eq_false_iff_eq.mpr c23
       clear c23
       (first | rw [c23b0] | (simp only [i64_w, i32_w]; rw [c23b0]) | skip)
       have H' := Aside0.mk H
       clear H
       go_wp2
       go_meet
       case rel => exact ⟨_, (true), sd_, H', ⟨by have := HJ2.out; first | omega | exact Nat.le_refl _⟩, ⟨by (with_reducible repeat (first | apply Kd.R_alloc | apply Kd.R_drewN | apply Kd.R_drew)); exact Kd.R_mono (Kd.R_far (p := ⟨gb135, 2, none⟩) (Kd.R_types HO_136001.out BK135.out (by decide)) (fun _ hk => hk.2) (.string t145)) (fun _ hk => trivial)⟩, ⟨by (with_reducible repeat (first | refine blk_drewN ?_ _ | refine blk_drew ?_ | refine blk_alloc ?_ _)); refine blk_far ?_ NB134_135.out _; (with_reducible repeat (first | refine blk_drewN ?_ _ | refine blk_drew ?_ | refine blk_alloc ?_ _)); exact BK134.out⟩, ⟨by (with_reducible repeat (first | refine blk_drewN ?_ _ | refine blk_drew ?_ | refine blk_alloc ?_ _)); refine blk_put (cs := #[.string t136, u136001, .string (⟨#[]⟩ : ByteArray), .string (⟨#[]⟩ : ByteArray)]) ?_ 2 _ rfl; (with_reducible repeat (first | refine blk_drewN ?_ _ | refine blk_drew ?_ | refine blk_alloc ?_ _)); exact BK135.out⟩, ⟨by repeat (first | (with_reducible first | exact HB.out | apply below_alloc | apply pw_below_drewN | apply below_drew1 | refine below_set ?_ GE134.out | refine below_set ?_ GE135.out) | exact HB.out)⟩⟩
      ·
       rw [if_neg c23] at H
       have c23b0 : ((t146.size : Int) == 0) = false := beq_eq_false_iff_ne.mpr c23
       have c23b1 : ((t146.size : Int) != 0) = true := bne_iff_ne.mpr c23
       (first | rw [c23b0] | (simp only [i64_w, i32_w]; rw [c23b0]) | skip)
       by_cases c24 : 0 < (t146.size : Int)
       ·
        rw [if_pos c24] at H
        have c24b0 : decide (0 < (t146.size : Int)) = true := decide_eq_true c24
        have c24b1 : decide (0 < t146.size) = true := decide_eq_true (by omega)
        clear c24
        have H' := Aside0.mk H
        clear H
        have p25 : 0 ≤ (0 : Int) := (by omega)
        have q25 : 0 < t146.size := (by have : (0 : Int) < (t146.size : Int) := oda_; omega)
        have hx25 : ∀ h : 0 < t146.size, ((t146[0]'h).toNat : Int) = bt t146 0 := bt_at t146 0
        clear p25
        have qi25 : (0 < (t146.size : Int)) = True := eq_true (oda_)
        replace q25 := eq_true q25
        go_wp2
        go_meet
        case rel => exact ⟨_, (((bt t146 0) != 10)), sd_, H', ⟨by have := HJ2.out; first | omega | exact Nat.le_refl _⟩, ⟨by (with_reducible repeat (first | apply Kd.R_alloc | apply Kd.R_drewN | apply Kd.R_drew)); exact Kd.R_mono (Kd.R_far (p := ⟨gb135, 2, none⟩) (Kd.R_types HO_136001.out BK135.out (by decide)) (fun _ hk => hk.2) (.string t145)) (fun _ hk => trivial)⟩, ⟨by (with_reducible repeat (first | refine blk_drewN ?_ _ | refine blk_drew ?_ | refine blk_alloc ?_ _)); refine blk_far ?_ NB134_135.out _; (with_reducible repeat (first | refine blk_drewN ?_ _ | refine blk_drew ?_ | refine blk_alloc ?_ _)); exact BK134.out⟩, ⟨by (with_reducible repeat (first | refine blk_drewN ?_ _ | refine blk_drew ?_ | refine blk_alloc ?_ _)); refine blk_put (cs := #[.string t136, u136001, .string (⟨#[]⟩ : ByteArray), .string (⟨#[]⟩ : ByteArray)]) ?_ 2 _ rfl; (with_reducible repeat (first | refine blk_drewN ?_ _ | refine blk_drew ?_ | refine blk_alloc ?_ _)); exact BK135.out⟩, ⟨by repeat (first | (with_reducible first | exact HB.out | apply below_alloc | apply pw_below_drewN | apply below_drew1 | refine below_set ?_ GE134.out | refine below_set ?_ GE135.out) | exact HB.out)⟩⟩
       ·
        rw [if_neg c24] at H
        exact absurd H (by simp)
     ·
      replace c22 := Bool.eq_false_iff.mpr c22
      subst c22
      have H1 : (r04_GetChange.j2 kj2 a0 t146 true t136 x136001_2 t145 (⟨#[]⟩ : ByteArray)) = some (r1, r2, r3, r4, r5) := by rw [if_neg (show ¬ (false = true) by decide)] at H; exact H
      clear H
      have H := H1
      clear H1
      have H' := Aside0.mk H
      clear H
      go_wp2
      go_meet
      case rel => exact ⟨_, (true), sd_, H', ⟨by have := HJ2.out; first | omega | exact Nat.le_refl _⟩, ⟨by (with_reducible repeat (first | apply Kd.R_alloc | apply Kd.R_drewN | apply Kd.R_drew)); exact Kd.R_mono (Kd.R_far (p := ⟨gb135, 2, none⟩) (Kd.R_types HO_136001.out BK135.out (by decide)) (fun _ hk => hk.2) (.string t145)) (fun _ hk => trivial)⟩, ⟨by (with_reducible repeat (first | refine blk_drewN ?_ _ | refine blk_drew ?_ | refine blk_alloc ?_ _)); refine blk_far ?_ NB134_135.out _; (with_reducible repeat (first | refine blk_drewN ?_ _ | refine blk_drew ?_ | refine blk_alloc ?_ _)); exact BK134.out⟩, ⟨by (with_reducible repeat (first | refine blk_drewN ?_ _ | refine blk_drew ?_ | refine blk_alloc ?_ _)); refine blk_put (cs := #[.string t136, u136001, .string (⟨#[]⟩ : ByteArray), .string (⟨#[]⟩ : ByteArray)]) ?_ 2 _ rfl; (with_reducible repeat (first | refine blk_drewN ?_ _ | refine blk_drew ?_ | refine blk_alloc ?_ _)); exact BK135.out⟩, ⟨by repeat (first | (with_reducible first | exact HB.out | apply below_alloc | apply pw_below_drewN | apply below_drew1 | refine below_set ?_ GE134.out | refine below_set ?_ GE135.out) | exact HB.out)⟩⟩
    ·
     replace c21 := Bool.eq_false_iff.mpr c21
     subst c21
     have H1 : (r04_GetChange.j2 kj2 a0 t146 true t136 x136001_2 t145 (⟨#[]⟩ : ByteArray)) = some (r1, r2, r3, r4, r5) := by rw [if_neg (show ¬ (false = true) by decide)] at H; exact H
     clear H
     have H := H1
     clear H1
     have H' := Aside0.mk H
     clear H
     go_wp2
     go_meet
     case rel => exact ⟨_, (true), sd_, H', ⟨by have := HJ2.out; first | omega | exact Nat.le_refl _⟩, ⟨by (with_reducible repeat (first | apply Kd.R_alloc | apply Kd.R_drewN | apply Kd.R_drew)); exact Kd.R_mono (Kd.R_far (p := ⟨gb135, 2, none⟩) (Kd.R_types HO_136001.out BK135.out (by decide)) (fun _ hk => hk.2) (.string t145)) (fun _ hk => trivial)⟩, ⟨by (with_reducible repeat (first | refine blk_drewN ?_ _ | refine blk_drew ?_ | refine blk_alloc ?_ _)); refine blk_far ?_ NB134_135.out _; (with_reducible repeat (first | refine blk_drewN ?_ _ | refine blk_drew ?_ | refine blk_alloc ?_ _)); exact BK134.out⟩, ⟨by (with_reducible repeat (first | refine blk_drewN ?_ _ | refine blk_drew ?_ | refine blk_alloc ?_ _)); refine blk_put (cs := #[.string t136, u136001, .string (⟨#[]⟩ : ByteArray), .string (⟨#[]⟩ : ByteArray)]) ?_ 2 _ rfl; (with_reducible repeat (first | refine blk_drewN ?_ _ | refine blk_drew ?_ | refine blk_alloc ?_ _)); exact BK135.out⟩, ⟨by repeat (first | (with_reducible first | exact HB.out | apply below_alloc | apply pw_below_drewN | apply below_drew1 | refine below_set ?_ GE134.out | refine below_set ?_ GE135.out) | exact HB.out)⟩⟩
   case rest =>
    clear HC18
    try clear c1
    try clear c2
    try clear p2
    try clear q2
    try clear hx2
    try clear qi2
    try clear c3
    try clear c5
    try clear c6
    try clear c8
    try clear c10
    try clear c11
    try clear c12
    try clear c19
    try clear c21
    try clear c22
    try clear c23
    try clear c23b0
    try clear c23b1
    try clear c24
    try clear c24b0
    try clear c24b1
    try clear p25
    try clear q25
    try clear hx25
    try clear qi25
    try clear hcz13_0
    try clear hcz13_1
    try clear hcz13_2
    try clear hcz13_3
    try clear hcz16_0
    try clear hcz16_1
    try clear hcz16_2
    try clear hcz16_3
    try clear hcz20_0
    try clear hcz20_1
    try clear hcz20_2
    try clear hcz20_3
    try clear hcz7_0
    try clear hcz7_1
    try clear hcz7_2
    try clear hcz7_3
    try clear hfz13_0
    try clear hfz13_1
    try clear hfz13_2
    try clear hfz13_3
    try clear hfz16_0
    try clear hfz16_1
    try clear hfz16_2
    try clear hfz16_3
    try clear hfz20_0
    try clear hfz20_1
    try clear hfz20_2
    try clear hfz20_3
    try clear hfz7_0
    try clear hfz7_1
    try clear hfz7_2
    try clear hfz7_3
    try clear p2
    try clear p25
    try clear q25
    obtain ⟨kq, x62_17, rfl, HA, HJ17, HO_136001, BK134, BK135, HB⟩ := hcut
    cases kq with
    | zero => exact absurd HA.out (by simp [r04_GetChange.j2])
    | succ kj17 =>
     have H := HA.out
     clear HA
     simp only [r04_GetChange.j2] at H
     by_cases c26 : x62_17 = true
     ·
      subst c26
      have H1 : (some ((⟨#[]⟩ : ByteArray), ([] : List ByteArray), (⟨#[]⟩ : ByteArray), (⟨#[]⟩ : ByteArray), false)) = some (r1, r2, r3, r4, r5) := by rw [if_pos rfl] at H; exact H
      clear H
      have H := H1
      clear H1
      simp only [Option.some.injEq, Prod.mk.injEq] at H
      obtain ⟨rfl, rfl, rfl, rfl, rfl⟩ := H
      have hnb27 := NB134_135.out
      have hnc27 := NB135_134.out
      have hcz28_0 : wc.cell? ⟨gb134, 0, none⟩ = some (.string (⟨#[]⟩ : ByteArray)) := (blk_cell BK134.out 0).trans rfl
      have hcz28_1 : wc.cell? ⟨gb134, 1, none⟩ = some (.slice none 0 0) := (blk_cell BK134.out 1).trans rfl
      have hcz28_2 : wc.cell? ⟨gb134, 2, none⟩ = some (.string (⟨#[]⟩ : ByteArray)) := (blk_cell BK134.out 2).trans rfl
      have hcz28_3 : wc.cell? ⟨gb134, 3, none⟩ = some (.string (⟨#[]⟩ : ByteArray)) := (blk_cell BK134.out 3).trans rfl
      have hfz28_0 := blk_frozen BK134.out 0
      have hfz28_1 := blk_frozen BK134.out 1
      have hfz28_2 := blk_frozen BK134.out 2
      have hfz28_3 := blk_frozen BK134.out 3
      go_wp2
      refine bodyPost_ret (results_ct rfl _ _ gb134 40 #[.string (⟨#[]⟩ : ByteArray), .slice none 0 0, .string (⟨#[]⟩ : ByteArray), .string (⟨#[]⟩ : ByteArray)] (0, 0) _ rfl (by (with_reducible repeat (first | refine blk_drewN ?_ _ | refine blk_drew ?_ | refine blk_alloc ?_ _)); refine blk_put (cs := #[.string (⟨#[]⟩ : ByteArray), .slice none 0 0, .string (⟨#[]⟩ : ByteArray), .string (⟨#[]⟩ : ByteArray)]) ?_ 3 _ rfl; (with_reducible repeat (first | refine blk_drewN ?_ _ | refine blk_drew ?_ | refine blk_alloc ?_ _)); refine blk_put (cs := #[.string (⟨#[]⟩ : ByteArray), .slice none 0 0, .string (⟨#[]⟩ : ByteArray), .string (⟨#[]⟩ : ByteArray)]) ?_ 2 _ rfl; (with_reducible repeat (first | refine blk_drewN ?_ _ | refine blk_drew ?_ | refine blk_alloc ?_ _)); refine blk_put (cs := #[.string (⟨#[]⟩ : ByteArray), .slice none 0 0, .string (⟨#[]⟩ : ByteArray), .string (⟨#[]⟩ : ByteArray)]) ?_ 1 _ rfl; (with_reducible repeat (first | refine blk_drewN ?_ _ | refine blk_drew ?_ | refine blk_alloc ?_ _)); refine blk_put (cs := #[.string (⟨#[]⟩ : ByteArray), .slice none 0 0, .string (⟨#[]⟩ : ByteArray), .string (⟨#[]⟩ : ByteArray)]) ?_ 0 _ rfl; (with_reducible repeat (first | refine blk_drewN ?_ _ | refine blk_drew ?_ | refine blk_alloc ?_ _)); exact BK134.out) Tryz.underlying40 rfl (by kernel_rfl)) rfl ?_
      exact ⟨_, er_, kn_, by repeat (first | (with_reducible first | exact HB.out | apply below_alloc | apply pw_below_drewN | apply below_drew1 | refine below_set ?_ GE134.out | refine below_set ?_ GE135.out) | exact HB.out)⟩
     ·
      replace c26 := Bool.eq_false_iff.mpr c26
      subst c26
      have H1 : (if 1 ≤ (t146.size : Int) then ((r04_PutChange.f kj17 t136 x136001_2 t145 (t146.extract 1 t146.size)).bind fun bt148 => (if bt148.2 = true then (if bt148.1.toList = a0.toList then (some (t136, x136001_2, t145, t146.extract 1 t146.size, true)) else (some ((⟨#[]⟩ : ByteArray), ([] : List ByteArray), (⟨#[]⟩ : ByteArray), (⟨#[]⟩ : ByteArray), false))) else (some ((⟨#[]⟩ : ByteArray), ([] : List ByteArray), (⟨#[]⟩ : ByteArray), (⟨#[]⟩ : ByteArray), false)))) else (none)) = some (r1, r2, r3, r4, r5) := by rw [if_neg (show ¬ (false = true) by decide)] at H; exact H
      clear H
      have H := H1
      clear H1
      by_cases c29 : 1 ≤ (t146.size : Int)
      ·
       rw [if_pos c29] at H
       have c29b0 := eq_true c29
       have c29b1 : decide (1 ≤ (t146.size : Int)) = true := decide_eq_true c29
       clear c29
       replace H := Option.bind_eq_some_iff.mp H
       obtain ⟨⟨t148, t149⟩, A300, H⟩ := H
       replace H : (if t149 = true then (if t148.toList = a0.toList then (some (t136, x136001_2, t145, t146.extract 1 t146.size, true)) else (some ((⟨#[]⟩ : ByteArray), ([] : List ByteArray), (⟨#[]⟩ : ByteArray), (⟨#[]⟩ : ByteArray), false))) else (some ((⟨#[]⟩ : ByteArray), ([] : List ByteArray), (⟨#[]⟩ : ByteArray), (⟨#[]⟩ : ByteArray), false))) = some (r1, r2, r3, r4, r5) := H
       have A30 := Aside0.mk A300
       clear A300
       by_cases c31 : t149 = true
       ·
        subst c31
        have H1 : (if t148.toList = a0.toList then (some (t136, x136001_2, t145, t146.extract 1 t146.size, true)) else (some ((⟨#[]⟩ : ByteArray), ([] : List ByteArray), (⟨#[]⟩ : ByteArray), (⟨#[]⟩ : ByteArray), false))) = some (r1, r2, r3, r4, r5) := by rw [if_pos rfl] at H; exact H
        clear H
        have H := H1
        clear H1
        by_cases c32 : t148.toList = a0.toList
        ·
         rw [if_pos c32] at H
         have c32b0 : (t148.toList == a0.toList) = true := beq_iff_eq.mpr c32
         have c32b1 : (t148.toList != a0.toList) = false := bne_eq_false_iff_eq.mpr c32
         clear c32
         simp only [Option.some.injEq, Prod.mk.injEq] at H
         obtain ⟨rfl, rfl, rfl, rfl, rfl⟩ := H
         have hnb33 := NB135_134.out
         have hnc33 := NB134_135.out
         have hcz34_0 : wc.cell? ⟨gb135, 0, none⟩ = some (.string t136) := (blk_cell BK135.out 0).trans rfl
         have hcz34_1 : wc.cell? ⟨gb135, 1, none⟩ = some (u136001) := (blk_cell BK135.out 1).trans rfl
         have hcz34_2 : wc.cell? ⟨gb135, 2, none⟩ = some (.string t145) := (blk_cell BK135.out 2).trans rfl
         have hcz34_3 : wc.cell? ⟨gb135, 3, none⟩ = some (.string (⟨#[]⟩ : ByteArray)) := (blk_cell BK135.out 3).trans rfl
         have hfz34_0 := blk_frozen BK135.out 0
         have hfz34_1 := blk_frozen BK135.out 1
         have hfz34_2 := blk_frozen BK135.out 2
         have hfz34_3 := blk_frozen BK135.out 3
         obtain ⟨Ao35, co35, eo35⟩ := Kd.R_slice HO_136001.out
         subst eo35
         go_wp2_with (first | ((with_reducible refine gate_callee (f := 26) rfl ?_); refine goesL_ (some 69) rfl rfl Tryz.func26 (by kernel_rfl) rfl #[.agg #[.string t136, .slice Ao35 x136001_2.length co35, .string t145, .string (t146.extract 1 t146.size)]] rfl la_ ?_; (with_reducible refine (r04_PutChange.calls kj17 t136 _ _ x136001_2 t145 (t146.extract 1 t146.size) t148 true _ ?side1 ?side2 A30.out).mono ?_); (case side1 => refine (Kd.R_reads' (e := 9) (base := w.heap.size) (ok := fun k_ => True) (n := x136001_2.length) (c := co35) ?_).2.2; exact (by (with_reducible repeat (first | apply Kd.R_alloc | apply Kd.R_drewN | apply Kd.R_drew)); exact (Kd.R_mono (Kd.R_far (p := ⟨gb135, 3, none⟩) (Kd.R_types HO_136001.out BK135.out (by decide)) (fun _ hk => hk.2) (.string (t146.extract 1 t146.size))) (fun _ h_ => h_.1)))); (case side2 => exact (Kd.R_reads' HO_136001.out).2.1); rintro e w36 ⟨rfl, hb⟩; refine ⟨_, rfl, ?_⟩; have n0_ := Aside0.mk (Kd.R_below (by (with_reducible repeat (first | apply Kd.R_alloc | apply Kd.R_drewN | apply Kd.R_drew)); exact (Kd.R_mono (Kd.R_far (p := ⟨gb135, 3, none⟩) (Kd.R_types HO_136001.out BK135.out (by decide)) (fun _ hk => hk.2) (.string (t146.extract 1 t146.size))) (fun _ h_ => h_.1))) hb); have n1_ := Aside0.mk (blk_below (g := gb134) (o := .cells #[.string (⟨#[]⟩ : ByteArray), .slice none 0 0, .string (⟨#[]⟩ : ByteArray), .string (⟨#[]⟩ : ByteArray)] 40 (0, 0)) (by (with_reducible repeat (first | refine blk_drewN ?_ _ | refine blk_drew ?_ | refine blk_alloc ?_ _)); refine blk_far ?_ NB134_135.out _; (with_reducible repeat (first | refine blk_drewN ?_ _ | refine blk_drew ?_ | refine blk_alloc ?_ _)); exact BK134.out) hb); have n2_ := Aside0.mk (blk_below (g := gb135) (o := .cells #[.string t136, .slice Ao35 x136001_2.length co35, .string t145, .string (t146.extract 1 t146.size)] 40 (0, 0)) (by (with_reducible repeat (first | refine blk_drewN ?_ _ | refine blk_drew ?_ | refine blk_alloc ?_ _)); refine blk_put (cs := #[.string t136, .slice Ao35 x136001_2.length co35, .string t145, .string (⟨#[]⟩ : ByteArray)]) ?_ 3 _ rfl; (with_reducible repeat (first | refine blk_drewN ?_ _ | refine blk_drew ?_ | refine blk_alloc ?_ _)); exact BK135.out) hb); have n3_ := Aside0.mk (below_step (by repeat (first | (with_reducible first | exact HB.out | apply below_alloc | apply pw_below_drewN | apply below_drew1 | refine below_set ?_ GE134.out | refine below_set ?_ GE135.out) | exact HB.out)) hb); clear HO_136001; clear BK134; clear BK135; clear HB; have HO_136001 := n0_; have BK134 := n1_; have BK135 := n2_; have HB := n3_; clear n0_ n1_ n2_ n3_; (try clear hb); (try clear hb2); (try clear hk); (try clear hi); have hcz37_0 : w36.cell? ⟨gb135, 0, none⟩ = some (.string t136) := (blk_cell BK135.out 0).trans rfl; have hcz37_1 : w36.cell? ⟨gb135, 1, none⟩ = some (.slice Ao35 x136001_2.length co35) := (blk_cell BK135.out 1).trans rfl; have hcz37_2 : w36.cell? ⟨gb135, 2, none⟩ = some (.string t145) := (blk_cell BK135.out 2).trans rfl; have hcz37_3 : w36.cell? ⟨gb135, 3, none⟩ = some (.string (t146.extract 1 t146.size)) := (blk_cell BK135.out 3).trans rfl; have hfz37_0 := blk_frozen BK135.out 0; have hfz37_1 := blk_frozen BK135.out 1; have hfz37_2 := blk_frozen BK135.out 2; have hfz37_3 := blk_frozen BK135.out 3; have hcz38_0 : w36.cell? ⟨gb134, 0, none⟩ = some (.string (⟨#[]⟩ : ByteArray)) := (blk_cell BK134.out 0).trans rfl; have hcz38_1 : w36.cell? ⟨gb134, 1, none⟩ = some (.slice none 0 0) := (blk_cell BK134.out 1).trans rfl; have hcz38_2 : w36.cell? ⟨gb134, 2, none⟩ = some (.string (⟨#[]⟩ : ByteArray)) := (blk_cell BK134.out 2).trans rfl; have hcz38_3 : w36.cell? ⟨gb134, 3, none⟩ = some (.string (⟨#[]⟩ : ByteArray)) := (blk_cell BK134.out 3).trans rfl; have hfz38_0 := blk_frozen BK134.out 0; have hfz38_1 := blk_frozen BK134.out 1; have hfz38_2 := blk_frozen BK134.out 2; have hfz38_3 := blk_frozen BK134.out 3))
         refine bodyPost_ret (results_ct rfl _ _ gb134 40 #[.string t136, .slice Ao35 x136001_2.length co35, .string t145, .string (t146.extract 1 t146.size)] (0, 0) _ rfl (by (with_reducible repeat (first | refine blk_drewN ?_ _ | refine blk_drew ?_ | refine blk_alloc ?_ _)); refine blk_put (cs := #[.string t136, .slice Ao35 x136001_2.length co35, .string t145, .string (⟨#[]⟩ : ByteArray)]) ?_ 3 _ rfl; (with_reducible repeat (first | refine blk_drewN ?_ _ | refine blk_drew ?_ | refine blk_alloc ?_ _)); refine blk_put (cs := #[.string t136, .slice Ao35 x136001_2.length co35, .string (⟨#[]⟩ : ByteArray), .string (⟨#[]⟩ : ByteArray)]) ?_ 2 _ rfl; (with_reducible repeat (first | refine blk_drewN ?_ _ | refine blk_drew ?_ | refine blk_alloc ?_ _)); refine blk_put (cs := #[.string t136, .slice none 0 0, .string (⟨#[]⟩ : ByteArray), .string (⟨#[]⟩ : ByteArray)]) ?_ 1 _ rfl; (with_reducible repeat (first | refine blk_drewN ?_ _ | refine blk_drew ?_ | refine blk_alloc ?_ _)); refine blk_put (cs := #[.string (⟨#[]⟩ : ByteArray), .slice none 0 0, .string (⟨#[]⟩ : ByteArray), .string (⟨#[]⟩ : ByteArray)]) ?_ 0 _ rfl; (with_reducible repeat (first | refine blk_drewN ?_ _ | refine blk_drew ?_ | refine blk_alloc ?_ _)); exact BK134.out) Tryz.underlying40 rfl (by kernel_rfl)) rfl ?_
         exact ⟨_, er_, by (with_reducible repeat (first | apply Kd.R_alloc | apply Kd.R_drewN | apply Kd.R_drew)); exact Kd.R_mono (Kd.R_far (p := ⟨gb134, 3, none⟩) (Kd.R_far (p := ⟨gb134, 2, none⟩) (Kd.R_far (p := ⟨gb134, 1, none⟩) (Kd.R_far (p := ⟨gb134, 0, none⟩) (Kd.R_types HO_136001.out BK134.out (by decide)) (fun _ hk => hk.2) (.string t136)) (fun _ hk => hk.2) (.slice Ao35 x136001_2.length co35)) (fun _ hk => hk.2) (.string t145)) (fun _ hk => hk.2) (.string (t146.extract 1 t146.size))) (fun _ hk => trivial), by repeat (first | (with_reducible first | exact HB.out | apply below_alloc | apply pw_below_drewN | apply below_drew1 | refine below_set ?_ GE134.out | refine below_set ?_ GE135.out) | exact HB.out)⟩
        ·
         rw [if_neg c32] at H
         have c32b0 : (t148.toList == a0.toList) = false := beq_eq_false_iff_ne.mpr c32
         have c32b1 : (t148.toList != a0.toList) = true := bne_iff_ne.mpr c32
         simp only [Option.some.injEq, Prod.mk.injEq] at H
         obtain ⟨rfl, rfl, rfl, rfl, rfl⟩ := H
         have hnb39 := NB135_134.out
         have hnc39 := NB134_135.out
         have hcz40_0 : wc.cell? ⟨gb135, 0, none⟩ = some (.string t136) := (blk_cell BK135.out 0).trans rfl
         have hcz40_1 : wc.cell? ⟨gb135, 1, none⟩ = some (u136001) := (blk_cell BK135.out 1).trans rfl
         have hcz40_2 : wc.cell? ⟨gb135, 2, none⟩ = some (.string t145) := (blk_cell BK135.out 2).trans rfl
         have hcz40_3 : wc.cell? ⟨gb135, 3, none⟩ = some (.string (⟨#[]⟩ : ByteArray)) := (blk_cell BK135.out 3).trans rfl
         have hfz40_0 := blk_frozen BK135.out 0
         have hfz40_1 := blk_frozen BK135.out 1
         have hfz40_2 := blk_frozen BK135.out 2
         have hfz40_3 := blk_frozen BK135.out 3
         obtain ⟨Ao41, co41, eo41⟩ := Kd.R_slice HO_136001.out
         subst eo41
         go_wp2_with (first | ((with_reducible refine gate_callee (f := 26) rfl ?_); refine goesL_ (some 69) rfl rfl Tryz.func26 (by kernel_rfl) rfl #[.agg #[.string t136, .slice Ao41 x136001_2.length co41, .string t145, .string (t146.extract 1 t146.size)]] rfl la_ ?_; (with_reducible refine (r04_PutChange.calls kj17 t136 _ _ x136001_2 t145 (t146.extract 1 t146.size) t148 true _ ?side1 ?side2 A30.out).mono ?_); (case side1 => refine (Kd.R_reads' (e := 9) (base := w.heap.size) (ok := fun k_ => True) (n := x136001_2.length) (c := co41) ?_).2.2; exact (by (with_reducible repeat (first | apply Kd.R_alloc | apply Kd.R_drewN | apply Kd.R_drew)); exact (Kd.R_mono (Kd.R_far (p := ⟨gb135, 3, none⟩) (Kd.R_types HO_136001.out BK135.out (by decide)) (fun _ hk => hk.2) (.string (t146.extract 1 t146.size))) (fun _ h_ => h_.1)))); (case side2 => exact (Kd.R_reads' HO_136001.out).2.1); rintro e w42 ⟨rfl, hb⟩; refine ⟨_, rfl, ?_⟩; have n0_ := Aside0.mk (Kd.R_below (by (with_reducible repeat (first | apply Kd.R_alloc | apply Kd.R_drewN | apply Kd.R_drew)); exact (Kd.R_mono (Kd.R_far (p := ⟨gb135, 3, none⟩) (Kd.R_types HO_136001.out BK135.out (by decide)) (fun _ hk => hk.2) (.string (t146.extract 1 t146.size))) (fun _ h_ => h_.1))) hb); have n1_ := Aside0.mk (blk_below (g := gb134) (o := .cells #[.string (⟨#[]⟩ : ByteArray), .slice none 0 0, .string (⟨#[]⟩ : ByteArray), .string (⟨#[]⟩ : ByteArray)] 40 (0, 0)) (by (with_reducible repeat (first | refine blk_drewN ?_ _ | refine blk_drew ?_ | refine blk_alloc ?_ _)); refine blk_far ?_ NB134_135.out _; (with_reducible repeat (first | refine blk_drewN ?_ _ | refine blk_drew ?_ | refine blk_alloc ?_ _)); exact BK134.out) hb); have n2_ := Aside0.mk (blk_below (g := gb135) (o := .cells #[.string t136, .slice Ao41 x136001_2.length co41, .string t145, .string (t146.extract 1 t146.size)] 40 (0, 0)) (by (with_reducible repeat (first | refine blk_drewN ?_ _ | refine blk_drew ?_ | refine blk_alloc ?_ _)); refine blk_put (cs := #[.string t136, .slice Ao41 x136001_2.length co41, .string t145, .string (⟨#[]⟩ : ByteArray)]) ?_ 3 _ rfl; (with_reducible repeat (first | refine blk_drewN ?_ _ | refine blk_drew ?_ | refine blk_alloc ?_ _)); exact BK135.out) hb); have n3_ := Aside0.mk (below_step (by repeat (first | (with_reducible first | exact HB.out | apply below_alloc | apply pw_below_drewN | apply below_drew1 | refine below_set ?_ GE134.out | refine below_set ?_ GE135.out) | exact HB.out)) hb); clear HO_136001; clear BK134; clear BK135; clear HB; have HO_136001 := n0_; have BK134 := n1_; have BK135 := n2_; have HB := n3_; clear n0_ n1_ n2_ n3_; (try clear hb); (try clear hb2); (try clear hk); (try clear hi); have hcz43_0 : w42.cell? ⟨gb134, 0, none⟩ = some (.string (⟨#[]⟩ : ByteArray)) := (blk_cell BK134.out 0).trans rfl; have hcz43_1 : w42.cell? ⟨gb134, 1, none⟩ = some (.slice none 0 0) := (blk_cell BK134.out 1).trans rfl; have hcz43_2 : w42.cell? ⟨gb134, 2, none⟩ = some (.string (⟨#[]⟩ : ByteArray)) := (blk_cell BK134.out 2).trans rfl; have hcz43_3 : w42.cell? ⟨gb134, 3, none⟩ = some (.string (⟨#[]⟩ : ByteArray)) := (blk_cell BK134.out 3).trans rfl; have hfz43_0 := blk_frozen BK134.out 0; have hfz43_1 := blk_frozen BK134.out 1; have hfz43_2 := blk_frozen BK134.out 2; have hfz43_3 := blk_frozen BK134.out 3))
         refine bodyPost_ret (results_ct rfl _ _ gb134 40 #[.string (⟨#[]⟩ : ByteArray), .slice none 0 0, .string (⟨#[]⟩ : ByteArray), .string (⟨#[]⟩ : ByteArray)] (0, 0) _ rfl (by (with_reducible repeat (first | refine blk_drewN ?_ _ | refine blk_drew ?_ | refine blk_alloc ?_ _)); refine blk_put (cs := #[.string (⟨#[]⟩ : ByteArray), .slice none 0 0, .string (⟨#[]⟩ : ByteArray), .string (⟨#[]⟩ : ByteArray)]) ?_ 3 _ rfl; (with_reducible repeat (first | refine blk_drewN ?_ _ | refine blk_drew ?_ | refine blk_alloc ?_ _)); refine blk_put (cs := #[.string (⟨#[]⟩ : ByteArray), .slice none 0 0, .string (⟨#[]⟩ : ByteArray), .string (⟨#[]⟩ : ByteArray)]) ?_ 2 _ rfl; (with_reducible repeat (first | refine blk_drewN ?_ _ | refine blk_drew ?_ | refine blk_alloc ?_ _)); refine blk_put (cs := #[.string (⟨#[]⟩ : ByteArray), .slice none 0 0, .string (⟨#[]⟩ : ByteArray), .string (⟨#[]⟩ : ByteArray)]) ?_ 1 _ rfl; (with_reducible repeat (first | refine blk_drewN ?_ _ | refine blk_drew ?_ | refine blk_alloc ?_ _)); refine blk_put (cs := #[.string (⟨#[]⟩ : ByteArray), .slice none 0 0, .string (⟨#[]⟩ : ByteArray), .string (⟨#[]⟩ : ByteArray)]) ?_ 0 _ rfl; (with_reducible repeat (first | refine blk_drewN ?_ _ | refine blk_drew ?_ | refine blk_alloc ?_ _)); exact BK134.out) Tryz.underlying40 rfl (by kernel_rfl)) rfl ?_
         exact ⟨_, er_, kn_, by repeat (first | (with_reducible first | exact HB.out | apply below_alloc | apply pw_below_drewN | apply below_drew1 | refine below_set ?_ GE134.out | refine below_set ?_ GE135.out) | exact HB.out)⟩
       ·
        replace c31 := Bool.eq_false_iff.mpr c31
        subst c31
        have H1 : (some ((⟨#[]⟩ : ByteArray), ([] : List ByteArray), (⟨#[]⟩ : ByteArray), (⟨#[]⟩ : ByteArray), false)) = some (r1, r2, r3, r4, r5) := by rw [if_neg (show ¬ (false = true) by decide)] at H; exact H
        clear H
        have H := H1
        clear H1
        simp only [Option.some.injEq, Prod.mk.injEq] at H
        obtain ⟨rfl, rfl, rfl, rfl, rfl⟩ := H
        have hnb44 := NB135_134.out
        have hnc44 := NB134_135.out
        have hcz45_0 : wc.cell? ⟨gb135, 0, none⟩ = some (.string t136) := (blk_cell BK135.out 0).trans rfl
        have hcz45_1 : wc.cell? ⟨gb135, 1, none⟩ = some (u136001) := (blk_cell BK135.out 1).trans rfl
        have hcz45_2 : wc.cell? ⟨gb135, 2, none⟩ = some (.string t145) := (blk_cell BK135.out 2).trans rfl
        have hcz45_3 : wc.cell? ⟨gb135, 3, none⟩ = some (.string (⟨#[]⟩ : ByteArray)) := (blk_cell BK135.out 3).trans rfl
        have hfz45_0 := blk_frozen BK135.out 0
        have hfz45_1 := blk_frozen BK135.out 1
        have hfz45_2 := blk_frozen BK135.out 2
        have hfz45_3 := blk_frozen BK135.out 3
        obtain ⟨Ao46, co46, eo46⟩ := Kd.R_slice HO_136001.out
        subst eo46
        go_wp2_with (first | ((with_reducible refine gate_callee (f := 26) rfl ?_); refine goesL_ (some 69) rfl rfl Tryz.func26 (by kernel_rfl) rfl #[.agg #[.string t136, .slice Ao46 x136001_2.length co46, .string t145, .string (t146.extract 1 t146.size)]] rfl la_ ?_; (with_reducible refine (r04_PutChange.calls kj17 t136 _ _ x136001_2 t145 (t146.extract 1 t146.size) t148 false _ ?side1 ?side2 A30.out).mono ?_); (case side1 => refine (Kd.R_reads' (e := 9) (base := w.heap.size) (ok := fun k_ => True) (n := x136001_2.length) (c := co46) ?_).2.2; exact (by (with_reducible repeat (first | apply Kd.R_alloc | apply Kd.R_drewN | apply Kd.R_drew)); exact (Kd.R_mono (Kd.R_far (p := ⟨gb135, 3, none⟩) (Kd.R_types HO_136001.out BK135.out (by decide)) (fun _ hk => hk.2) (.string (t146.extract 1 t146.size))) (fun _ h_ => h_.1)))); (case side2 => exact (Kd.R_reads' HO_136001.out).2.1); rintro e w47 ⟨rfl, hb⟩; refine ⟨_, rfl, ?_⟩; have n0_ := Aside0.mk (Kd.R_below (by (with_reducible repeat (first | apply Kd.R_alloc | apply Kd.R_drewN | apply Kd.R_drew)); exact (Kd.R_mono (Kd.R_far (p := ⟨gb135, 3, none⟩) (Kd.R_types HO_136001.out BK135.out (by decide)) (fun _ hk => hk.2) (.string (t146.extract 1 t146.size))) (fun _ h_ => h_.1))) hb); have n1_ := Aside0.mk (blk_below (g := gb134) (o := .cells #[.string (⟨#[]⟩ : ByteArray), .slice none 0 0, .string (⟨#[]⟩ : ByteArray), .string (⟨#[]⟩ : ByteArray)] 40 (0, 0)) (by (with_reducible repeat (first | refine blk_drewN ?_ _ | refine blk_drew ?_ | refine blk_alloc ?_ _)); refine blk_far ?_ NB134_135.out _; (with_reducible repeat (first | refine blk_drewN ?_ _ | refine blk_drew ?_ | refine blk_alloc ?_ _)); exact BK134.out) hb); have n2_ := Aside0.mk (blk_below (g := gb135) (o := .cells #[.string t136, .slice Ao46 x136001_2.length co46, .string t145, .string (t146.extract 1 t146.size)] 40 (0, 0)) (by (with_reducible repeat (first | refine blk_drewN ?_ _ | refine blk_drew ?_ | refine blk_alloc ?_ _)); refine blk_put (cs := #[.string t136, .slice Ao46 x136001_2.length co46, .string t145, .string (⟨#[]⟩ : ByteArray)]) ?_ 3 _ rfl; (with_reducible repeat (first | refine blk_drewN ?_ _ | refine blk_drew ?_ | refine blk_alloc ?_ _)); exact BK135.out) hb); have n3_ := Aside0.mk (below_step (by repeat (first | (with_reducible first | exact HB.out | apply below_alloc | apply pw_below_drewN | apply below_drew1 | refine below_set ?_ GE134.out | refine below_set ?_ GE135.out) | exact HB.out)) hb); clear HO_136001; clear BK134; clear BK135; clear HB; have HO_136001 := n0_; have BK134 := n1_; have BK135 := n2_; have HB := n3_; clear n0_ n1_ n2_ n3_; (try clear hb); (try clear hb2); (try clear hk); (try clear hi); have hcz48_0 : w47.cell? ⟨gb134, 0, none⟩ = some (.string (⟨#[]⟩ : ByteArray)) := (blk_cell BK134.out 0).trans rfl; have hcz48_1 : w47.cell? ⟨gb134, 1, none⟩ = some (.slice none 0 0) := (blk_cell BK134.out 1).trans rfl; have hcz48_2 : w47.cell? ⟨gb134, 2, none⟩ = some (.string (⟨#[]⟩ : ByteArray)) := (blk_cell BK134.out 2).trans rfl; have hcz48_3 : w47.cell? ⟨gb134, 3, none⟩ = some (.string (⟨#[]⟩ : ByteArray)) := (blk_cell BK134.out 3).trans rfl; have hfz48_0 := blk_frozen BK134.out 0; have hfz48_1 := blk_frozen BK134.out 1; have hfz48_2 := blk_frozen BK134.out 2; have hfz48_3 := blk_frozen BK134.out 3))
        refine bodyPost_ret (results_ct rfl _ _ gb134 40 #[.string (⟨#[]⟩ : ByteArray), .slice none 0 0, .string (⟨#[]⟩ : ByteArray), .string (⟨#[]⟩ : ByteArray)] (0, 0) _ rfl (by (with_reducible repeat (first | refine blk_drewN ?_ _ | refine blk_drew ?_ | refine blk_alloc ?_ _)); refine blk_put (cs := #[.string (⟨#[]⟩ : ByteArray), .slice none 0 0, .string (⟨#[]⟩ : ByteArray), .string (⟨#[]⟩ : ByteArray)]) ?_ 3 _ rfl; (with_reducible repeat (first | refine blk_drewN ?_ _ | refine blk_drew ?_ | refine blk_alloc ?_ _)); refine blk_put (cs := #[.string (⟨#[]⟩ : ByteArray), .slice none 0 0, .string (⟨#[]⟩ : ByteArray), .string (⟨#[]⟩ : ByteArray)]) ?_ 2 _ rfl; (with_reducible repeat (first | refine blk_drewN ?_ _ | refine blk_drew ?_ | refine blk_alloc ?_ _)); refine blk_put (cs := #[.string (⟨#[]⟩ : ByteArray), .slice none 0 0, .string (⟨#[]⟩ : ByteArray), .string (⟨#[]⟩ : ByteArray)]) ?_ 1 _ rfl; (with_reducible repeat (first | refine blk_drewN ?_ _ | refine blk_drew ?_ | refine blk_alloc ?_ _)); refine blk_put (cs := #[.string (⟨#[]⟩ : ByteArray), .slice none 0 0, .string (⟨#[]⟩ : ByteArray), .string (⟨#[]⟩ : ByteArray)]) ?_ 0 _ rfl; (with_reducible repeat (first | refine blk_drewN ?_ _ | refine blk_drew ?_ | refine blk_alloc ?_ _)); exact BK134.out) Tryz.underlying40 rfl (by kernel_rfl)) rfl ?_
        exact ⟨_, er_, kn_, by repeat (first | (with_reducible first | exact HB.out | apply below_alloc | apply pw_below_drewN | apply below_drew1 | refine below_set ?_ GE134.out | refine below_set ?_ GE135.out) | exact HB.out)⟩
      ·
       rw [if_neg c29] at H
       exact absurd H (by simp)
noncomputable def r04_Word.f (a0 : Int) : Option (ByteArray) := if a0 = 1 then (some (⟨#[98, 108, 111, 98]⟩ : ByteArray)) else (if a0 = 2 then (some (⟨#[116, 114, 101, 101]⟩ : ByteArray)) else (if a0 = 3 then (some (⟨#[99, 111, 109, 109, 105, 116]⟩ : ByteArray)) else (if a0 = 4 then (some (⟨#[116, 97, 103]⟩ : ByteArray)) else (some (⟨#[]⟩ : ByteArray)))))
set_option maxHeartbeats 8000000 in
set_option maxRecDepth 100000 in
theorem r04_Word.calls (a0 : Int) (r : ByteArray) (w : World) (h : r04_Word.f a0 = some r) :
  Calls Tryz.prog 39 #[.int .i64 a0] w fun e w' => e = .returned (.string r) ∧ Drawn0 w w' := by
 have H : (if a0 = 1 then (some (⟨#[98, 108, 111, 98]⟩ : ByteArray)) else (if a0 = 2 then (some (⟨#[116, 114, 101, 101]⟩ : ByteArray)) else (if a0 = 3 then (some (⟨#[99, 111, 109, 109, 105, 116]⟩ : ByteArray)) else (if a0 = 4 then (some (⟨#[116, 97, 103]⟩ : ByteArray)) else (some (⟨#[]⟩ : ByteArray)))))) = some r := h
 clear h
 by_cases c2 : a0 = 1
 ·
  rw [if_pos c2] at H
  have c2b0 : (a0 == 1) = true := beq_iff_eq.mpr c2
  have c2b1 : (a0 != 1) = false := bne_eq_false_iff_eq.mpr c2
  clear c2
  obtain rfl := Option.some.inj H
  go_enter Tryz.func39, Tryz.ntmps39
  go_wp2
  go_ret
  exact ⟨sd_, dr_⟩
 ·
  rw [if_neg c2] at H
  have c2b0 : (a0 == 1) = false := beq_eq_false_iff_ne.mpr c2
  have c2b1 : (a0 != 1) = true := bne_iff_ne.mpr c2
  by_cases c3 : a0 = 2
  ·
   rw [if_pos c3] at H
   have c3b0 : (a0 == 2) = true := beq_iff_eq.mpr c3
   have c3b1 : (a0 != 2) = false := bne_eq_false_iff_eq.mpr c3
   clear c3
   obtain rfl := Option.some.inj H
   go_enter Tryz.func39, Tryz.ntmps39
   go_wp2
   go_ret
   exact ⟨sd_, dr_⟩
  ·
   rw [if_neg c3] at H
   have c3b0 : (a0 == 2) = false := beq_eq_false_iff_ne.mpr c3
   have c3b1 : (a0 != 2) = true := bne_iff_ne.mpr c3
   by_cases c4 : a0 = 3
   ·
    rw [if_pos c4] at H
    have c4b0 : (a0 == 3) = true := beq_iff_eq.mpr c4
    have c4b1 : (a0 != 3) = false := bne_eq_false_iff_eq.mpr c4
    clear c4
    obtain rfl := Option.some.inj H
    go_enter Tryz.func39, Tryz.ntmps39
    go_wp2
    go_ret
    exact ⟨sd_, dr_⟩
   ·
    rw [if_neg c4] at H
    have c4b0 : (a0 == 3) = false := beq_eq_false_iff_ne.mpr c4
    have c4b1 : (a0 != 3) = true := bne_iff_ne.mpr c4
    by_cases c5 : a0 = 4
    ·
     rw [if_pos c5] at H
     have c5b0 : (a0 == 4) = true := beq_iff_eq.mpr c5
     have c5b1 : (a0 != 4) = false := bne_eq_false_iff_eq.mpr c5
     clear c5
     obtain rfl := Option.some.inj H
     go_enter Tryz.func39, Tryz.ntmps39
     go_wp2
     go_ret
     exact ⟨sd_, dr_⟩
    ·
     rw [if_neg c5] at H
     have c5b0 : (a0 == 4) = false := beq_eq_false_iff_ne.mpr c5
     have c5b1 : (a0 != 4) = true := bne_iff_ne.mpr c5
     obtain rfl := Option.some.inj H
     go_enter Tryz.func39, Tryz.ntmps39
     go_wp2
     go_ret
     exact ⟨sd_, dr_⟩
noncomputable def r04_RightLabel.f (k : Nat) (a0_0 : ByteArray) (a0_1 : Int) (a0_2 : ByteArray) (a0_3 : ByteArray) : Option (Bool) := (r02_Named.f k a0_0).bind fun t151 => (if t151 = true then (if a0_1 ≥ 1 then (if a0_1 ≤ 4 then ((r04_Part.f k a0_2).bind fun t152 => (some t152)) else (some false)) else (some false)) else (some false))
set_option maxHeartbeats 8000000 in
set_option maxRecDepth 100000 in
theorem r04_RightLabel.calls (k : Nat) (a0_0 : ByteArray) (a0_1 : Int) (a0_2 : ByteArray) (a0_3 : ByteArray) (r : Bool) (w : World) (h : r04_RightLabel.f k a0_0 a0_1 a0_2 a0_3 = some r) :
  Calls Tryz.prog 51 #[.agg #[.string a0_0, .int .i64 a0_1, .string a0_2, .string a0_3]] w fun e w' => e = .returned (.bool r) ∧ Below w.heap.size w w' := by
 have hu42 := Tryz.underlying42
 have HB := Aside0.mk (Below.refl w.heap.size w)
 have H : ((r02_Named.f k a0_0).bind fun t151 => (if t151 = true then (if a0_1 ≥ 1 then (if a0_1 ≤ 4 then ((r04_Part.f k a0_2).bind fun t152 => (some t152)) else (some false)) else (some false)) else (some false))) = some r := h
 clear h
 replace H := Option.bind_eq_some_iff.mp H
 obtain ⟨t151, A20, H⟩ := H
 replace H : (if t151 = true then (if a0_1 ≥ 1 then (if a0_1 ≤ 4 then ((r04_Part.f k a0_2).bind fun t152 => (some t152)) else (some false)) else (some false)) else (some false)) = some r := H
 have A2 := Aside0.mk A20
 clear A20
 by_cases c3 : t151 = true
 ·
  subst c3
  have H1 : (if a0_1 ≥ 1 then (if a0_1 ≤ 4 then ((r04_Part.f k a0_2).bind fun t152 => (some t152)) else (some false)) else (some false)) = some r := by rw [if_pos rfl] at H; exact H
  clear H
  have H := H1
  clear H1
  by_cases c4 : a0_1 ≥ 1
  ·
   rw [if_pos c4] at H
   have c4b0 : decide (1 ≤ a0_1) = true := decide_eq_true c4
   clear c4
   by_cases c5 : a0_1 ≤ 4
   ·
    rw [if_pos c5] at H
    have c5b0 : decide (a0_1 ≤ 4) = true := decide_eq_true c5
    clear c5
    replace H := Option.bind_eq_some_iff.mp H
    obtain ⟨t152, A60, H⟩ := H
    replace H : (some t152) = some r := H
    have A6 := Aside0.mk A60
    clear A60
    obtain rfl := Option.some.inj H
    go_enter Tryz.func51, Tryz.ntmps51
    go_wp2_with (first | ((with_reducible refine gate_dst (N := 1) rfl ?_); refine box_event ?hg (N := 1) ?hd (cs := #[.string a0_0, .int .i64 a0_1, .string a0_2, .string a0_3]) (t := 42) ?hr ?_; (case hd => rfl); (case hg => rfl); (case hr => first | (go_simp; done) | (go_simp; rfl)); intro gb150 hg w7 hbox hb; have n0_ := Aside0.mk (below_step bw_ hb); have n1_ := Aside0.mk (hbox); have n2_ := Aside0.mk ((by rw [hg]; exact (below_size bw_) : w.heap.size ≤ gb150)); have n3_ := Aside0.mk ((by rw [hg]; exact (below_size bw_) : w.heap.size ≤ gb150)); clear HB; have HB := n0_; have BK150 := n1_; have GW150 := n2_; have GE150 := n3_; clear n0_ n1_ n2_ n3_; clear hb hbox hg; have hcz8_0 : w7.cell? ⟨gb150, 0, none⟩ = some (.string a0_0) := (blk_cell BK150.out 0).trans rfl; have hcz8_1 : w7.cell? ⟨gb150, 1, none⟩ = some (.int .i64 a0_1) := (blk_cell BK150.out 1).trans rfl; have hcz8_2 : w7.cell? ⟨gb150, 2, none⟩ = some (.string a0_2) := (blk_cell BK150.out 2).trans rfl; have hcz8_3 : w7.cell? ⟨gb150, 3, none⟩ = some (.string a0_3) := (blk_cell BK150.out 3).trans rfl; have hfz8_0 := blk_frozen BK150.out 0; have hfz8_1 := blk_frozen BK150.out 1; have hfz8_2 := blk_frozen BK150.out 2; have hfz8_3 := blk_frozen BK150.out 3) | ((with_reducible refine gate_callee (f := 34) rfl ?_); refine goesL_ (some 5) rfl rfl Tryz.func34 (by kernel_rfl) rfl #[.string a0_0] rfl la_ ?_; (with_reducible refine (r02_Named.calls k a0_0 true _ A2.out).mono ?_); rintro e w' ⟨rfl, ⟨nd, rfl⟩⟩; refine ⟨_, rfl, ?_⟩) | (go_at_call 68; (with_reducible refine (r04_Part.calls k a0_2 t152 _ A6.out).mono ?_); rintro e w' ⟨rfl, ⟨nd, rfl⟩⟩))
    go_ret
    exact ⟨er_, by repeat (first | (with_reducible first | exact HB.out | apply below_alloc | apply pw_below_drewN | apply below_drew1 | refine below_set ?_ GE150.out) | exact HB.out)⟩
   ·
    rw [if_neg c5] at H
    have c5b0 : decide (a0_1 ≤ 4) = false := decide_eq_false c5
    clear c5
    obtain rfl := Option.some.inj H
    go_enter Tryz.func51, Tryz.ntmps51
    go_wp2_with (first | ((with_reducible refine gate_dst (N := 1) rfl ?_); refine box_event ?hg (N := 1) ?hd (cs := #[.string a0_0, .int .i64 a0_1, .string a0_2, .string a0_3]) (t := 42) ?hr ?_; (case hd => rfl); (case hg => rfl); (case hr => first | (go_simp; done) | (go_simp; rfl)); intro gb150 hg w9 hbox hb; have n0_ := Aside0.mk (below_step bw_ hb); have n1_ := Aside0.mk (hbox); have n2_ := Aside0.mk ((by rw [hg]; exact (below_size bw_) : w.heap.size ≤ gb150)); have n3_ := Aside0.mk ((by rw [hg]; exact (below_size bw_) : w.heap.size ≤ gb150)); clear HB; have HB := n0_; have BK150 := n1_; have GW150 := n2_; have GE150 := n3_; clear n0_ n1_ n2_ n3_; clear hb hbox hg; have hcz10_0 : w9.cell? ⟨gb150, 0, none⟩ = some (.string a0_0) := (blk_cell BK150.out 0).trans rfl; have hcz10_1 : w9.cell? ⟨gb150, 1, none⟩ = some (.int .i64 a0_1) := (blk_cell BK150.out 1).trans rfl; have hcz10_2 : w9.cell? ⟨gb150, 2, none⟩ = some (.string a0_2) := (blk_cell BK150.out 2).trans rfl; have hcz10_3 : w9.cell? ⟨gb150, 3, none⟩ = some (.string a0_3) := (blk_cell BK150.out 3).trans rfl; have hfz10_0 := blk_frozen BK150.out 0; have hfz10_1 := blk_frozen BK150.out 1; have hfz10_2 := blk_frozen BK150.out 2; have hfz10_3 := blk_frozen BK150.out 3) | ((with_reducible refine gate_callee (f := 34) rfl ?_); refine goesL_ (some 5) rfl rfl Tryz.func34 (by kernel_rfl) rfl #[.string a0_0] rfl la_ ?_; (with_reducible refine (r02_Named.calls k a0_0 true _ A2.out).mono ?_); rintro e w' ⟨rfl, ⟨nd, rfl⟩⟩; refine ⟨_, rfl, ?_⟩))
    go_ret
    exact ⟨er_, by repeat (first | (with_reducible first | exact HB.out | apply below_alloc | apply pw_below_drewN | apply below_drew1 | refine below_set ?_ GE150.out) | exact HB.out)⟩
  ·
   rw [if_neg c4] at H
   have c4b0 : decide (1 ≤ a0_1) = false := decide_eq_false c4
   clear c4
   obtain rfl := Option.some.inj H
   go_enter Tryz.func51, Tryz.ntmps51
   go_wp2_with (first | ((with_reducible refine gate_dst (N := 1) rfl ?_); refine box_event ?hg (N := 1) ?hd (cs := #[.string a0_0, .int .i64 a0_1, .string a0_2, .string a0_3]) (t := 42) ?hr ?_; (case hd => rfl); (case hg => rfl); (case hr => first | (go_simp; done) | (go_simp; rfl)); intro gb150 hg w11 hbox hb; have n0_ := Aside0.mk (below_step bw_ hb); have n1_ := Aside0.mk (hbox); have n2_ := Aside0.mk ((by rw [hg]; exact (below_size bw_) : w.heap.size ≤ gb150)); have n3_ := Aside0.mk ((by rw [hg]; exact (below_size bw_) : w.heap.size ≤ gb150)); clear HB; have HB := n0_; have BK150 := n1_; have GW150 := n2_; have GE150 := n3_; clear n0_ n1_ n2_ n3_; clear hb hbox hg; have hcz12_0 : w11.cell? ⟨gb150, 0, none⟩ = some (.string a0_0) := (blk_cell BK150.out 0).trans rfl; have hcz12_1 : w11.cell? ⟨gb150, 1, none⟩ = some (.int .i64 a0_1) := (blk_cell BK150.out 1).trans rfl; have hcz12_2 : w11.cell? ⟨gb150, 2, none⟩ = some (.string a0_2) := (blk_cell BK150.out 2).trans rfl; have hcz12_3 : w11.cell? ⟨gb150, 3, none⟩ = some (.string a0_3) := (blk_cell BK150.out 3).trans rfl; have hfz12_0 := blk_frozen BK150.out 0; have hfz12_1 := blk_frozen BK150.out 1; have hfz12_2 := blk_frozen BK150.out 2; have hfz12_3 := blk_frozen BK150.out 3) | ((with_reducible refine gate_callee (f := 34) rfl ?_); refine goesL_ (some 5) rfl rfl Tryz.func34 (by kernel_rfl) rfl #[.string a0_0] rfl la_ ?_; (with_reducible refine (r02_Named.calls k a0_0 true _ A2.out).mono ?_); rintro e w' ⟨rfl, ⟨nd, rfl⟩⟩; refine ⟨_, rfl, ?_⟩))
   go_ret
   exact ⟨er_, by repeat (first | (with_reducible first | exact HB.out | apply below_alloc | apply pw_below_drewN | apply below_drew1 | refine below_set ?_ GE150.out) | exact HB.out)⟩
 ·
  replace c3 := Bool.eq_false_iff.mpr c3
  subst c3
  have H1 : (some false) = some r := by rw [if_neg (show ¬ (false = true) by decide)] at H; exact H
  clear H
  have H := H1
  clear H1
  obtain rfl := Option.some.inj H
  go_enter Tryz.func51, Tryz.ntmps51
  go_wp2_with (first | ((with_reducible refine gate_dst (N := 1) rfl ?_); refine box_event ?hg (N := 1) ?hd (cs := #[.string a0_0, .int .i64 a0_1, .string a0_2, .string a0_3]) (t := 42) ?hr ?_; (case hd => rfl); (case hg => rfl); (case hr => first | (go_simp; done) | (go_simp; rfl)); intro gb150 hg w13 hbox hb; have n0_ := Aside0.mk (below_step bw_ hb); have n1_ := Aside0.mk (hbox); have n2_ := Aside0.mk ((by rw [hg]; exact (below_size bw_) : w.heap.size ≤ gb150)); have n3_ := Aside0.mk ((by rw [hg]; exact (below_size bw_) : w.heap.size ≤ gb150)); clear HB; have HB := n0_; have BK150 := n1_; have GW150 := n2_; have GE150 := n3_; clear n0_ n1_ n2_ n3_; clear hb hbox hg; have hcz14_0 : w13.cell? ⟨gb150, 0, none⟩ = some (.string a0_0) := (blk_cell BK150.out 0).trans rfl; have hcz14_1 : w13.cell? ⟨gb150, 1, none⟩ = some (.int .i64 a0_1) := (blk_cell BK150.out 1).trans rfl; have hcz14_2 : w13.cell? ⟨gb150, 2, none⟩ = some (.string a0_2) := (blk_cell BK150.out 2).trans rfl; have hcz14_3 : w13.cell? ⟨gb150, 3, none⟩ = some (.string a0_3) := (blk_cell BK150.out 3).trans rfl; have hfz14_0 := blk_frozen BK150.out 0; have hfz14_1 := blk_frozen BK150.out 1; have hfz14_2 := blk_frozen BK150.out 2; have hfz14_3 := blk_frozen BK150.out 3) | ((with_reducible refine gate_callee (f := 34) rfl ?_); refine goesL_ (some 5) rfl rfl Tryz.func34 (by kernel_rfl) rfl #[.string a0_0] rfl la_ ?_; (with_reducible refine (r02_Named.calls k a0_0 false _ A2.out).mono ?_); rintro e w' ⟨rfl, ⟨nd, rfl⟩⟩; refine ⟨_, rfl, ?_⟩))
  go_ret
  exact ⟨er_, by repeat (first | (with_reducible first | exact HB.out | apply below_alloc | apply pw_below_drewN | apply below_drew1 | refine below_set ?_ GE150.out) | exact HB.out)⟩
noncomputable def r04_PutLabel.f (k : Nat) (a0_0 : ByteArray) (a0_1 : Int) (a0_2 : ByteArray) (a0_3 : ByteArray) : Option (ByteArray × Bool) := (r04_RightLabel.f k a0_0 a0_1 a0_2 a0_3).bind fun t154 => (if t154 = true then (if 7 + a0_0.size ≤ 9223372036854775807 then (if ((⟨#[111, 98, 106, 101, 99, 116, 32]⟩ : ByteArray) ++ a0_0).size + 6 ≤ 9223372036854775807 then ((r04_Word.f a0_1).bind fun t155 => (if (((⟨#[111, 98, 106, 101, 99, 116, 32]⟩ : ByteArray) ++ a0_0) ++ (⟨#[10, 107, 105, 110, 100, 32]⟩ : ByteArray)).size + t155.size ≤ 9223372036854775807 then (if ((((⟨#[111, 98, 106, 101, 99, 116, 32]⟩ : ByteArray) ++ a0_0) ++ (⟨#[10, 107, 105, 110, 100, 32]⟩ : ByteArray)) ++ t155).size + 6 ≤ 9223372036854775807 then (if (((((⟨#[111, 98, 106, 101, 99, 116, 32]⟩ : ByteArray) ++ a0_0) ++ (⟨#[10, 107, 105, 110, 100, 32]⟩ : ByteArray)) ++ t155) ++ (⟨#[10, 110, 97, 109, 101, 32]⟩ : ByteArray)).size + a0_2.size ≤ 9223372036854775807 then (if ((((((⟨#[111, 98, 106, 101, 99, 116, 32]⟩ : ByteArray) ++ a0_0) ++ (⟨#[10, 107, 105, 110, 100, 32]⟩ : ByteArray)) ++ t155) ++ (⟨#[10, 110, 97, 109, 101, 32]⟩ : ByteArray)) ++ a0_2).size + 2 ≤ 9223372036854775807 then (if (((((((⟨#[111, 98, 106, 101, 99, 116, 32]⟩ : ByteArray) ++ a0_0) ++ (⟨#[10, 107, 105, 110, 100, 32]⟩ : ByteArray)) ++ t155) ++ (⟨#[10, 110, 97, 109, 101, 32]⟩ : ByteArray)) ++ a0_2) ++ (⟨#[10, 10]⟩ : ByteArray)).size + a0_3.size ≤ 9223372036854775807 then (some ((((((((⟨#[111, 98, 106, 101, 99, 116, 32]⟩ : ByteArray) ++ a0_0) ++ (⟨#[10, 107, 105, 110, 100, 32]⟩ : ByteArray)) ++ t155) ++ (⟨#[10, 110, 97, 109, 101, 32]⟩ : ByteArray)) ++ a0_2) ++ (⟨#[10, 10]⟩ : ByteArray)) ++ a0_3, true)) else (none)) else (none)) else (none)) else (none)) else (none))) else (none)) else (none)) else (some ((⟨#[]⟩ : ByteArray), false)))
set_option maxHeartbeats 8000000 in
set_option maxRecDepth 100000 in
theorem r04_PutLabel.calls (k : Nat) (a0_0 : ByteArray) (a0_1 : Int) (a0_2 : ByteArray) (a0_3 : ByteArray) (r1 : ByteArray) (r2 : Bool) (w : World) (h : r04_PutLabel.f k a0_0 a0_1 a0_2 a0_3 = some (r1, r2)) :
  Calls Tryz.prog 28 #[.agg #[.string a0_0, .int .i64 a0_1, .string a0_2, .string a0_3]] w fun e w' => e = .returned (.tuple #[.string r1, .bool r2]) ∧ Below w.heap.size w w' := by
 have hu42 := Tryz.underlying42
 have HB := Aside0.mk (Below.refl w.heap.size w)
 have H : ((r04_RightLabel.f k a0_0 a0_1 a0_2 a0_3).bind fun t154 => (if t154 = true then (if 7 + a0_0.size ≤ 9223372036854775807 then (if ((⟨#[111, 98, 106, 101, 99, 116, 32]⟩ : ByteArray) ++ a0_0).size + 6 ≤ 9223372036854775807 then ((r04_Word.f a0_1).bind fun t155 => (if (((⟨#[111, 98, 106, 101, 99, 116, 32]⟩ : ByteArray) ++ a0_0) ++ (⟨#[10, 107, 105, 110, 100, 32]⟩ : ByteArray)).size + t155.size ≤ 9223372036854775807 then (if ((((⟨#[111, 98, 106, 101, 99, 116, 32]⟩ : ByteArray) ++ a0_0) ++ (⟨#[10, 107, 105, 110, 100, 32]⟩ : ByteArray)) ++ t155).size + 6 ≤ 9223372036854775807 then (if (((((⟨#[111, 98, 106, 101, 99, 116, 32]⟩ : ByteArray) ++ a0_0) ++ (⟨#[10, 107, 105, 110, 100, 32]⟩ : ByteArray)) ++ t155) ++ (⟨#[10, 110, 97, 109, 101, 32]⟩ : ByteArray)).size + a0_2.size ≤ 9223372036854775807 then (if ((((((⟨#[111, 98, 106, 101, 99, 116, 32]⟩ : ByteArray) ++ a0_0) ++ (⟨#[10, 107, 105, 110, 100, 32]⟩ : ByteArray)) ++ t155) ++ (⟨#[10, 110, 97, 109, 101, 32]⟩ : ByteArray)) ++ a0_2).size + 2 ≤ 9223372036854775807 then (if (((((((⟨#[111, 98, 106, 101, 99, 116, 32]⟩ : ByteArray) ++ a0_0) ++ (⟨#[10, 107, 105, 110, 100, 32]⟩ : ByteArray)) ++ t155) ++ (⟨#[10, 110, 97, 109, 101, 32]⟩ : ByteArray)) ++ a0_2) ++ (⟨#[10, 10]⟩ : ByteArray)).size + a0_3.size ≤ 9223372036854775807 then (some ((((((((⟨#[111, 98, 106, 101, 99, 116, 32]⟩ : ByteArray) ++ a0_0) ++ (⟨#[10, 107, 105, 110, 100, 32]⟩ : ByteArray)) ++ t155) ++ (⟨#[10, 110, 97, 109, 101, 32]⟩ : ByteArray)) ++ a0_2) ++ (⟨#[10, 10]⟩ : ByteArray)) ++ a0_3, true)) else (none)) else (none)) else (none)) else (none)) else (none))) else (none)) else (none)) else (some ((⟨#[]⟩ : ByteArray), false)))) = some (r1, r2) := h
 clear h
 replace H := Option.bind_eq_some_iff.mp H
 obtain ⟨t154, A20, H⟩ := H
 replace H : (if t154 = true then (if 7 + a0_0.size ≤ 9223372036854775807 then (if ((⟨#[111, 98, 106, 101, 99, 116, 32]⟩ : ByteArray) ++ a0_0).size + 6 ≤ 9223372036854775807 then ((r04_Word.f a0_1).bind fun t155 => (if (((⟨#[111, 98, 106, 101, 99, 116, 32]⟩ : ByteArray) ++ a0_0) ++ (⟨#[10, 107, 105, 110, 100, 32]⟩ : ByteArray)).size + t155.size ≤ 9223372036854775807 then (if ((((⟨#[111, 98, 106, 101, 99, 116, 32]⟩ : ByteArray) ++ a0_0) ++ (⟨#[10, 107, 105, 110, 100, 32]⟩ : ByteArray)) ++ t155).size + 6 ≤ 9223372036854775807 then (if (((((⟨#[111, 98, 106, 101, 99, 116, 32]⟩ : ByteArray) ++ a0_0) ++ (⟨#[10, 107, 105, 110, 100, 32]⟩ : ByteArray)) ++ t155) ++ (⟨#[10, 110, 97, 109, 101, 32]⟩ : ByteArray)).size + a0_2.size ≤ 9223372036854775807 then (if ((((((⟨#[111, 98, 106, 101, 99, 116, 32]⟩ : ByteArray) ++ a0_0) ++ (⟨#[10, 107, 105, 110, 100, 32]⟩ : ByteArray)) ++ t155) ++ (⟨#[10, 110, 97, 109, 101, 32]⟩ : ByteArray)) ++ a0_2).size + 2 ≤ 9223372036854775807 then (if (((((((⟨#[111, 98, 106, 101, 99, 116, 32]⟩ : ByteArray) ++ a0_0) ++ (⟨#[10, 107, 105, 110, 100, 32]⟩ : ByteArray)) ++ t155) ++ (⟨#[10, 110, 97, 109, 101, 32]⟩ : ByteArray)) ++ a0_2) ++ (⟨#[10, 10]⟩ : ByteArray)).size + a0_3.size ≤ 9223372036854775807 then (some ((((((((⟨#[111, 98, 106, 101, 99, 116, 32]⟩ : ByteArray) ++ a0_0) ++ (⟨#[10, 107, 105, 110, 100, 32]⟩ : ByteArray)) ++ t155) ++ (⟨#[10, 110, 97, 109, 101, 32]⟩ : ByteArray)) ++ a0_2) ++ (⟨#[10, 10]⟩ : ByteArray)) ++ a0_3, true)) else (none)) else (none)) else (none)) else (none)) else (none))) else (none)) else (none)) else (some ((⟨#[]⟩ : ByteArray), false))) = some (r1, r2) := H
 have A2 := Aside0.mk A20
 clear A20
 by_cases c3 : t154 = true
 ·
  subst c3
  have H1 : (if 7 + a0_0.size ≤ 9223372036854775807 then (if ((⟨#[111, 98, 106, 101, 99, 116, 32]⟩ : ByteArray) ++ a0_0).size + 6 ≤ 9223372036854775807 then ((r04_Word.f a0_1).bind fun t155 => (if (((⟨#[111, 98, 106, 101, 99, 116, 32]⟩ : ByteArray) ++ a0_0) ++ (⟨#[10, 107, 105, 110, 100, 32]⟩ : ByteArray)).size + t155.size ≤ 9223372036854775807 then (if ((((⟨#[111, 98, 106, 101, 99, 116, 32]⟩ : ByteArray) ++ a0_0) ++ (⟨#[10, 107, 105, 110, 100, 32]⟩ : ByteArray)) ++ t155).size + 6 ≤ 9223372036854775807 then (if (((((⟨#[111, 98, 106, 101, 99, 116, 32]⟩ : ByteArray) ++ a0_0) ++ (⟨#[10, 107, 105, 110, 100, 32]⟩ : ByteArray)) ++ t155) ++ (⟨#[10, 110, 97, 109, 101, 32]⟩ : ByteArray)).size + a0_2.size ≤ 9223372036854775807 then (if ((((((⟨#[111, 98, 106, 101, 99, 116, 32]⟩ : ByteArray) ++ a0_0) ++ (⟨#[10, 107, 105, 110, 100, 32]⟩ : ByteArray)) ++ t155) ++ (⟨#[10, 110, 97, 109, 101, 32]⟩ : ByteArray)) ++ a0_2).size + 2 ≤ 9223372036854775807 then (if (((((((⟨#[111, 98, 106, 101, 99, 116, 32]⟩ : ByteArray) ++ a0_0) ++ (⟨#[10, 107, 105, 110, 100, 32]⟩ : ByteArray)) ++ t155) ++ (⟨#[10, 110, 97, 109, 101, 32]⟩ : ByteArray)) ++ a0_2) ++ (⟨#[10, 10]⟩ : ByteArray)).size + a0_3.size ≤ 9223372036854775807 then (some ((((((((⟨#[111, 98, 106, 101, 99, 116, 32]⟩ : ByteArray) ++ a0_0) ++ (⟨#[10, 107, 105, 110, 100, 32]⟩ : ByteArray)) ++ t155) ++ (⟨#[10, 110, 97, 109, 101, 32]⟩ : ByteArray)) ++ a0_2) ++ (⟨#[10, 10]⟩ : ByteArray)) ++ a0_3, true)) else (none)) else (none)) else (none)) else (none)) else (none))) else (none)) else (none)) = some (r1, r2) := by rw [if_pos rfl] at H; exact H
  clear H
  have H := H1
  clear H1
  by_cases c4 : 7 + a0_0.size ≤ 9223372036854775807
  ·
   rw [if_pos c4] at H
   have c4b0 := eq_true c4
   have c4b1 : decide (7 + a0_0.size ≤ 9223372036854775807) = true := decide_eq_true c4
   try have c4b2 : (9223372036854775807 < 7 + a0_0.size) = False := eq_false (Nat.not_lt.2 c4)
   by_cases c5 : ((⟨#[111, 98, 106, 101, 99, 116, 32]⟩ : ByteArray) ++ a0_0).size + 6 ≤ 9223372036854775807
   ·
    rw [if_pos c5] at H
    have c5b0 := eq_true c5
    have c5b1 : decide (((⟨#[111, 98, 106, 101, 99, 116, 32]⟩ : ByteArray) ++ a0_0).size + 6 ≤ 9223372036854775807) = true := decide_eq_true c5
    try have c5b2 : (9223372036854775807 < ((⟨#[111, 98, 106, 101, 99, 116, 32]⟩ : ByteArray) ++ a0_0).size + 6) = False := eq_false (Nat.not_lt.2 c5)
    try have c5z : ¬ (9223372036854775807 < 7 + a0_0.size + 6) := by (have h_ := c5; simp only [ByteArray.size_append] at h_; have e0_ : (⟨#[111, 98, 106, 101, 99, 116, 32]⟩ : ByteArray).size = 7 := rfl; omega)
    replace H := Option.bind_eq_some_iff.mp H
    obtain ⟨t155, A60, H⟩ := H
    replace H : (if (((⟨#[111, 98, 106, 101, 99, 116, 32]⟩ : ByteArray) ++ a0_0) ++ (⟨#[10, 107, 105, 110, 100, 32]⟩ : ByteArray)).size + t155.size ≤ 9223372036854775807 then (if ((((⟨#[111, 98, 106, 101, 99, 116, 32]⟩ : ByteArray) ++ a0_0) ++ (⟨#[10, 107, 105, 110, 100, 32]⟩ : ByteArray)) ++ t155).size + 6 ≤ 9223372036854775807 then (if (((((⟨#[111, 98, 106, 101, 99, 116, 32]⟩ : ByteArray) ++ a0_0) ++ (⟨#[10, 107, 105, 110, 100, 32]⟩ : ByteArray)) ++ t155) ++ (⟨#[10, 110, 97, 109, 101, 32]⟩ : ByteArray)).size + a0_2.size ≤ 9223372036854775807 then (if ((((((⟨#[111, 98, 106, 101, 99, 116, 32]⟩ : ByteArray) ++ a0_0) ++ (⟨#[10, 107, 105, 110, 100, 32]⟩ : ByteArray)) ++ t155) ++ (⟨#[10, 110, 97, 109, 101, 32]⟩ : ByteArray)) ++ a0_2).size + 2 ≤ 9223372036854775807 then (if (((((((⟨#[111, 98, 106, 101, 99, 116, 32]⟩ : ByteArray) ++ a0_0) ++ (⟨#[10, 107, 105, 110, 100, 32]⟩ : ByteArray)) ++ t155) ++ (⟨#[10, 110, 97, 109, 101, 32]⟩ : ByteArray)) ++ a0_2) ++ (⟨#[10, 10]⟩ : ByteArray)).size + a0_3.size ≤ 9223372036854775807 then (some ((((((((⟨#[111, 98, 106, 101, 99, 116, 32]⟩ : ByteArray) ++ a0_0) ++ (⟨#[10, 107, 105, 110, 100, 32]⟩ : ByteArray)) ++ t155) ++ (⟨#[10, 110, 97, 109, 101, 32]⟩ : ByteArray)) ++ a0_2) ++ (⟨#[10, 10]⟩ : ByteArray)) ++ a0_3, true)) else (none)) else (none)) else (none)) else (none)) else (none)) = some (r1, r2) := H
    have A6 := Aside0.mk A60
    clear A60
    by_cases c7 : (((⟨#[111, 98, 106, 101, 99, 116, 32]⟩ : ByteArray) ++ a0_0) ++ (⟨#[10, 107, 105, 110, 100, 32]⟩ : ByteArray)).size + t155.size ≤ 9223372036854775807
    ·
     rw [if_pos c7] at H
     have c7b0 := eq_true c7
     have c7b1 : decide ((((⟨#[111, 98, 106, 101, 99, 116, 32]⟩ : ByteArray) ++ a0_0) ++ (⟨#[10, 107, 105, 110, 100, 32]⟩ : ByteArray)).size + t155.size ≤ 9223372036854775807) = true := decide_eq_true c7
     try have c7b2 : (9223372036854775807 < (((⟨#[111, 98, 106, 101, 99, 116, 32]⟩ : ByteArray) ++ a0_0) ++ (⟨#[10, 107, 105, 110, 100, 32]⟩ : ByteArray)).size + t155.size) = False := eq_false (Nat.not_lt.2 c7)
     try have c7z : ¬ (9223372036854775807 < 7 + a0_0.size + 6 + t155.size) := by (have h_ := c7; simp only [ByteArray.size_append] at h_; have e0_ : (⟨#[111, 98, 106, 101, 99, 116, 32]⟩ : ByteArray).size = 7 := rfl; have e1_ : (⟨#[10, 107, 105, 110, 100, 32]⟩ : ByteArray).size = 6 := rfl; omega)
     by_cases c8 : ((((⟨#[111, 98, 106, 101, 99, 116, 32]⟩ : ByteArray) ++ a0_0) ++ (⟨#[10, 107, 105, 110, 100, 32]⟩ : ByteArray)) ++ t155).size + 6 ≤ 9223372036854775807
     ·
      rw [if_pos c8] at H
      have c8b0 := eq_true c8
      have c8b1 : decide (((((⟨#[111, 98, 106, 101, 99, 116, 32]⟩ : ByteArray) ++ a0_0) ++ (⟨#[10, 107, 105, 110, 100, 32]⟩ : ByteArray)) ++ t155).size + 6 ≤ 9223372036854775807) = true := decide_eq_true c8
      try have c8b2 : (9223372036854775807 < ((((⟨#[111, 98, 106, 101, 99, 116, 32]⟩ : ByteArray) ++ a0_0) ++ (⟨#[10, 107, 105, 110, 100, 32]⟩ : ByteArray)) ++ t155).size + 6) = False := eq_false (Nat.not_lt.2 c8)
      try have c8z : ¬ (9223372036854775807 < 7 + a0_0.size + 6 + t155.size + 6) := by (have h_ := c8; simp only [ByteArray.size_append] at h_; have e0_ : (⟨#[111, 98, 106, 101, 99, 116, 32]⟩ : ByteArray).size = 7 := rfl; have e1_ : (⟨#[10, 107, 105, 110, 100, 32]⟩ : ByteArray).size = 6 := rfl; omega)
      by_cases c9 : (((((⟨#[111, 98, 106, 101, 99, 116, 32]⟩ : ByteArray) ++ a0_0) ++ (⟨#[10, 107, 105, 110, 100, 32]⟩ : ByteArray)) ++ t155) ++ (⟨#[10, 110, 97, 109, 101, 32]⟩ : ByteArray)).size + a0_2.size ≤ 9223372036854775807
      ·
       rw [if_pos c9] at H
       have c9b0 := eq_true c9
       have c9b1 : decide ((((((⟨#[111, 98, 106, 101, 99, 116, 32]⟩ : ByteArray) ++ a0_0) ++ (⟨#[10, 107, 105, 110, 100, 32]⟩ : ByteArray)) ++ t155) ++ (⟨#[10, 110, 97, 109, 101, 32]⟩ : ByteArray)).size + a0_2.size ≤ 9223372036854775807) = true := decide_eq_true c9
       try have c9b2 : (9223372036854775807 < (((((⟨#[111, 98, 106, 101, 99, 116, 32]⟩ : ByteArray) ++ a0_0) ++ (⟨#[10, 107, 105, 110, 100, 32]⟩ : ByteArray)) ++ t155) ++ (⟨#[10, 110, 97, 109, 101, 32]⟩ : ByteArray)).size + a0_2.size) = False := eq_false (Nat.not_lt.2 c9)
       try have c9z : ¬ (9223372036854775807 < 7 + a0_0.size + 6 + t155.size + 6 + a0_2.size) := by (have h_ := c9; simp only [ByteArray.size_append] at h_; have e0_ : (⟨#[111, 98, 106, 101, 99, 116, 32]⟩ : ByteArray).size = 7 := rfl; have e1_ : (⟨#[10, 107, 105, 110, 100, 32]⟩ : ByteArray).size = 6 := rfl; have e2_ : (⟨#[10, 110, 97, 109, 101, 32]⟩ : ByteArray).size = 6 := rfl; omega)
       by_cases c10 : ((((((⟨#[111, 98, 106, 101, 99, 116, 32]⟩ : ByteArray) ++ a0_0) ++ (⟨#[10, 107, 105, 110, 100, 32]⟩ : ByteArray)) ++ t155) ++ (⟨#[10, 110, 97, 109, 101, 32]⟩ : ByteArray)) ++ a0_2).size + 2 ≤ 9223372036854775807
       ·
        rw [if_pos c10] at H
        have c10b0 := eq_true c10
        have c10b1 : decide (((((((⟨#[111, 98, 106, 101, 99, 116, 32]⟩ : ByteArray) ++ a0_0) ++ (⟨#[10, 107, 105, 110, 100, 32]⟩ : ByteArray)) ++ t155) ++ (⟨#[10, 110, 97, 109, 101, 32]⟩ : ByteArray)) ++ a0_2).size + 2 ≤ 9223372036854775807) = true := decide_eq_true c10
        try have c10b2 : (9223372036854775807 < ((((((⟨#[111, 98, 106, 101, 99, 116, 32]⟩ : ByteArray) ++ a0_0) ++ (⟨#[10, 107, 105, 110, 100, 32]⟩ : ByteArray)) ++ t155) ++ (⟨#[10, 110, 97, 109, 101, 32]⟩ : ByteArray)) ++ a0_2).size + 2) = False := eq_false (Nat.not_lt.2 c10)
        try have c10z : ¬ (9223372036854775807 < 7 + a0_0.size + 6 + t155.size + 6 + a0_2.size + 2) := by (have h_ := c10; simp only [ByteArray.size_append] at h_; have e0_ : (⟨#[111, 98, 106, 101, 99, 116, 32]⟩ : ByteArray).size = 7 := rfl; have e1_ : (⟨#[10, 107, 105, 110, 100, 32]⟩ : ByteArray).size = 6 := rfl; have e2_ : (⟨#[10, 110, 97, 109, 101, 32]⟩ : ByteArray).size = 6 := rfl; omega)
        by_cases c11 : (((((((⟨#[111, 98, 106, 101, 99, 116, 32]⟩ : ByteArray) ++ a0_0) ++ (⟨#[10, 107, 105, 110, 100, 32]⟩ : ByteArray)) ++ t155) ++ (⟨#[10, 110, 97, 109, 101, 32]⟩ : ByteArray)) ++ a0_2) ++ (⟨#[10, 10]⟩ : ByteArray)).size + a0_3.size ≤ 9223372036854775807
        ·
         rw [if_pos c11] at H
         have c11b0 := eq_true c11
         have c11b1 : decide ((((((((⟨#[111, 98, 106, 101, 99, 116, 32]⟩ : ByteArray) ++ a0_0) ++ (⟨#[10, 107, 105, 110, 100, 32]⟩ : ByteArray)) ++ t155) ++ (⟨#[10, 110, 97, 109, 101, 32]⟩ : ByteArray)) ++ a0_2) ++ (⟨#[10, 10]⟩ : ByteArray)).size + a0_3.size ≤ 9223372036854775807) = true := decide_eq_true c11
         try have c11b2 : (9223372036854775807 < (((((((⟨#[111, 98, 106, 101, 99, 116, 32]⟩ : ByteArray) ++ a0_0) ++ (⟨#[10, 107, 105, 110, 100, 32]⟩ : ByteArray)) ++ t155) ++ (⟨#[10, 110, 97, 109, 101, 32]⟩ : ByteArray)) ++ a0_2) ++ (⟨#[10, 10]⟩ : ByteArray)).size + a0_3.size) = False := eq_false (Nat.not_lt.2 c11)
         try have c11z : ¬ (9223372036854775807 < 7 + a0_0.size + 6 + t155.size + 6 + a0_2.size + 2 + a0_3.size) := by (have h_ := c11; simp only [ByteArray.size_append] at h_; have e0_ : (⟨#[111, 98, 106, 101, 99, 116, 32]⟩ : ByteArray).size = 7 := rfl; have e1_ : (⟨#[10, 107, 105, 110, 100, 32]⟩ : ByteArray).size = 6 := rfl; have e2_ : (⟨#[10, 110, 97, 109, 101, 32]⟩ : ByteArray).size = 6 := rfl; have e3_ : (⟨#[10, 10]⟩ : ByteArray).size = 2 := rfl; omega)
         simp only [Option.some.injEq, Prod.mk.injEq] at H
         obtain ⟨rfl, rfl⟩ := H
         go_enter Tryz.func28, Tryz.ntmps28
         go_wp2_with (first | ((with_reducible refine gate_dst (N := 1) rfl ?_); refine box_event ?hg (N := 1) ?hd (cs := #[.string a0_0, .int .i64 a0_1, .string a0_2, .string a0_3]) (t := 42) ?hr ?_; (case hd => rfl); (case hg => rfl); (case hr => first | (go_simp; done) | (go_simp; rfl)); intro gb153 hg w12 hbox hb; have n0_ := Aside0.mk (below_step bw_ hb); have n1_ := Aside0.mk (hbox); have n2_ := Aside0.mk ((by rw [hg]; exact (below_size bw_) : w.heap.size ≤ gb153)); have n3_ := Aside0.mk ((by rw [hg]; exact (below_size bw_) : w.heap.size ≤ gb153)); clear HB; have HB := n0_; have BK153 := n1_; have GW153 := n2_; have GE153 := n3_; clear n0_ n1_ n2_ n3_; clear hb hbox hg; have hcz13_0 : w12.cell? ⟨gb153, 0, none⟩ = some (.string a0_0) := (blk_cell BK153.out 0).trans rfl; have hcz13_1 : w12.cell? ⟨gb153, 1, none⟩ = some (.int .i64 a0_1) := (blk_cell BK153.out 1).trans rfl; have hcz13_2 : w12.cell? ⟨gb153, 2, none⟩ = some (.string a0_2) := (blk_cell BK153.out 2).trans rfl; have hcz13_3 : w12.cell? ⟨gb153, 3, none⟩ = some (.string a0_3) := (blk_cell BK153.out 3).trans rfl; have hfz13_0 := blk_frozen BK153.out 0; have hfz13_1 := blk_frozen BK153.out 1; have hfz13_2 := blk_frozen BK153.out 2; have hfz13_3 := blk_frozen BK153.out 3) | (go_at_call 51; (with_reducible refine (r04_RightLabel.calls k a0_0 a0_1 a0_2 a0_3 true _ A2.out).mono ?_); rintro e w14 ⟨rfl, hb⟩; have n0_ := Aside0.mk (blk_below (g := gb153) (o := .cells #[.string a0_0, .int .i64 a0_1, .string a0_2, .string a0_3] 42 (0, 0)) (by (with_reducible repeat (first | refine blk_drewN ?_ _ | refine blk_drew ?_ | refine blk_alloc ?_ _)); exact BK153.out) hb); have n1_ := Aside0.mk (below_step (by repeat (first | (with_reducible first | exact HB.out | apply below_alloc | apply pw_below_drewN | apply below_drew1 | refine below_set ?_ GE153.out) | exact HB.out)) hb); clear BK153; clear HB; have BK153 := n0_; have HB := n1_; clear n0_ n1_; (try clear hb); (try clear hb2); (try clear hk); (try clear hi); have hcz15_0 : w14.cell? ⟨gb153, 0, none⟩ = some (.string a0_0) := (blk_cell BK153.out 0).trans rfl; have hcz15_1 : w14.cell? ⟨gb153, 1, none⟩ = some (.int .i64 a0_1) := (blk_cell BK153.out 1).trans rfl; have hcz15_2 : w14.cell? ⟨gb153, 2, none⟩ = some (.string a0_2) := (blk_cell BK153.out 2).trans rfl; have hcz15_3 : w14.cell? ⟨gb153, 3, none⟩ = some (.string a0_3) := (blk_cell BK153.out 3).trans rfl; have hfz15_0 := blk_frozen BK153.out 0; have hfz15_1 := blk_frozen BK153.out 1; have hfz15_2 := blk_frozen BK153.out 2; have hfz15_3 := blk_frozen BK153.out 3) | (go_at_call 39; (with_reducible refine (r04_Word.calls a0_1 t155 _ A6.out).mono ?_); rintro e w' ⟨rfl, ⟨nd, rfl⟩⟩; (try first | exact ⟨rfl, _, World.drewN_drewN _ _ _⟩ | exact ⟨rfl, _, Eq.trans (World.drewN_drewN _ _ _) (congrArg (World.drewN _) (Nat.add_assoc _ _ _))⟩)))
         repeat (go_quiet (first | ((with_reducible refine gate_dst (N := 1) rfl ?_); refine box_event ?hg (N := 1) ?hd (cs := #[.string a0_0, .int .i64 a0_1, .string a0_2, .string a0_3]) (t := 42) ?hr ?_; (case hd => rfl); (case hg => rfl); (case hr => first | (go_simp; done) | (go_simp; rfl)); intro gb153 hg w12 hbox hb; have n0_ := Aside0.mk (below_step bw_ hb); have n1_ := Aside0.mk (hbox); have n2_ := Aside0.mk ((by rw [hg]; exact (below_size bw_) : w.heap.size ≤ gb153)); have n3_ := Aside0.mk ((by rw [hg]; exact (below_size bw_) : w.heap.size ≤ gb153)); clear HB; have HB := n0_; have BK153 := n1_; have GW153 := n2_; have GE153 := n3_; clear n0_ n1_ n2_ n3_; clear hb hbox hg; have hcz13_0 : w12.cell? ⟨gb153, 0, none⟩ = some (.string a0_0) := (blk_cell BK153.out 0).trans rfl; have hcz13_1 : w12.cell? ⟨gb153, 1, none⟩ = some (.int .i64 a0_1) := (blk_cell BK153.out 1).trans rfl; have hcz13_2 : w12.cell? ⟨gb153, 2, none⟩ = some (.string a0_2) := (blk_cell BK153.out 2).trans rfl; have hcz13_3 : w12.cell? ⟨gb153, 3, none⟩ = some (.string a0_3) := (blk_cell BK153.out 3).trans rfl; have hfz13_0 := blk_frozen BK153.out 0; have hfz13_1 := blk_frozen BK153.out 1; have hfz13_2 := blk_frozen BK153.out 2; have hfz13_3 := blk_frozen BK153.out 3) | (go_at_call 51; (with_reducible refine (r04_RightLabel.calls k a0_0 a0_1 a0_2 a0_3 true _ A2.out).mono ?_); rintro e w14 ⟨rfl, hb⟩; have n0_ := Aside0.mk (blk_below (g := gb153) (o := .cells #[.string a0_0, .int .i64 a0_1, .string a0_2, .string a0_3] 42 (0, 0)) (by (with_reducible repeat (first | refine blk_drewN ?_ _ | refine blk_drew ?_ | refine blk_alloc ?_ _)); exact BK153.out) hb); have n1_ := Aside0.mk (below_step (by repeat (first | (with_reducible first | exact HB.out | apply below_alloc | apply pw_below_drewN | apply below_drew1 | refine below_set ?_ GE153.out) | exact HB.out)) hb); clear BK153; clear HB; have BK153 := n0_; have HB := n1_; clear n0_ n1_; (try clear hb); (try clear hb2); (try clear hk); (try clear hi); have hcz15_0 : w14.cell? ⟨gb153, 0, none⟩ = some (.string a0_0) := (blk_cell BK153.out 0).trans rfl; have hcz15_1 : w14.cell? ⟨gb153, 1, none⟩ = some (.int .i64 a0_1) := (blk_cell BK153.out 1).trans rfl; have hcz15_2 : w14.cell? ⟨gb153, 2, none⟩ = some (.string a0_2) := (blk_cell BK153.out 2).trans rfl; have hcz15_3 : w14.cell? ⟨gb153, 3, none⟩ = some (.string a0_3) := (blk_cell BK153.out 3).trans rfl; have hfz15_0 := blk_frozen BK153.out 0; have hfz15_1 := blk_frozen BK153.out 1; have hfz15_2 := blk_frozen BK153.out 2; have hfz15_3 := blk_frozen BK153.out 3) | (go_at_call 39; (with_reducible refine (r04_Word.calls a0_1 t155 _ A6.out).mono ?_); rintro e w' ⟨rfl, ⟨nd, rfl⟩⟩; (try first | exact ⟨rfl, _, World.drewN_drewN _ _ _⟩ | exact ⟨rfl, _, Eq.trans (World.drewN_drewN _ _ _) (congrArg (World.drewN _) (Nat.add_assoc _ _ _))⟩))); try go_wp2_with (first | ((with_reducible refine gate_dst (N := 1) rfl ?_); refine box_event ?hg (N := 1) ?hd (cs := #[.string a0_0, .int .i64 a0_1, .string a0_2, .string a0_3]) (t := 42) ?hr ?_; (case hd => rfl); (case hg => rfl); (case hr => first | (go_simp; done) | (go_simp; rfl)); intro gb153 hg w12 hbox hb; have n0_ := Aside0.mk (below_step bw_ hb); have n1_ := Aside0.mk (hbox); have n2_ := Aside0.mk ((by rw [hg]; exact (below_size bw_) : w.heap.size ≤ gb153)); have n3_ := Aside0.mk ((by rw [hg]; exact (below_size bw_) : w.heap.size ≤ gb153)); clear HB; have HB := n0_; have BK153 := n1_; have GW153 := n2_; have GE153 := n3_; clear n0_ n1_ n2_ n3_; clear hb hbox hg; have hcz13_0 : w12.cell? ⟨gb153, 0, none⟩ = some (.string a0_0) := (blk_cell BK153.out 0).trans rfl; have hcz13_1 : w12.cell? ⟨gb153, 1, none⟩ = some (.int .i64 a0_1) := (blk_cell BK153.out 1).trans rfl; have hcz13_2 : w12.cell? ⟨gb153, 2, none⟩ = some (.string a0_2) := (blk_cell BK153.out 2).trans rfl; have hcz13_3 : w12.cell? ⟨gb153, 3, none⟩ = some (.string a0_3) := (blk_cell BK153.out 3).trans rfl; have hfz13_0 := blk_frozen BK153.out 0; have hfz13_1 := blk_frozen BK153.out 1; have hfz13_2 := blk_frozen BK153.out 2; have hfz13_3 := blk_frozen BK153.out 3) | (go_at_call 51; (with_reducible refine (r04_RightLabel.calls k a0_0 a0_1 a0_2 a0_3 true _ A2.out).mono ?_); rintro e w14 ⟨rfl, hb⟩; have n0_ := Aside0.mk (blk_below (g := gb153) (o := .cells #[.string a0_0, .int .i64 a0_1, .string a0_2, .string a0_3] 42 (0, 0)) (by (with_reducible repeat (first | refine blk_drewN ?_ _ | refine blk_drew ?_ | refine blk_alloc ?_ _)); exact BK153.out) hb); have n1_ := Aside0.mk (below_step (by repeat (first | (with_reducible first | exact HB.out | apply below_alloc | apply pw_below_drewN | apply below_drew1 | refine below_set ?_ GE153.out) | exact HB.out)) hb); clear BK153; clear HB; have BK153 := n0_; have HB := n1_; clear n0_ n1_; (try clear hb); (try clear hb2); (try clear hk); (try clear hi); have hcz15_0 : w14.cell? ⟨gb153, 0, none⟩ = some (.string a0_0) := (blk_cell BK153.out 0).trans rfl; have hcz15_1 : w14.cell? ⟨gb153, 1, none⟩ = some (.int .i64 a0_1) := (blk_cell BK153.out 1).trans rfl; have hcz15_2 : w14.cell? ⟨gb153, 2, none⟩ = some (.string a0_2) := (blk_cell BK153.out 2).trans rfl; have hcz15_3 : w14.cell? ⟨gb153, 3, none⟩ = some (.string a0_3) := (blk_cell BK153.out 3).trans rfl; have hfz15_0 := blk_frozen BK153.out 0; have hfz15_1 := blk_frozen BK153.out 1; have hfz15_2 := blk_frozen BK153.out 2; have hfz15_3 := blk_frozen BK153.out 3) | (go_at_call 39; (with_reducible refine (r04_Word.calls a0_1 t155 _ A6.out).mono ?_); rintro e w' ⟨rfl, ⟨nd, rfl⟩⟩; (try first | exact ⟨rfl, _, World.drewN_drewN _ _ _⟩ | exact ⟨rfl, _, Eq.trans (World.drewN_drewN _ _ _) (congrArg (World.drewN _) (Nat.add_assoc _ _ _))⟩))))
         go_ret2
         exact ⟨er_, by repeat (first | (with_reducible first | exact HB.out | apply below_alloc | apply pw_below_drewN | apply below_drew1 | refine below_set ?_ GE153.out) | exact HB.out)⟩
        ·
         rw [if_neg c11] at H
         exact absurd H (by simp)
       ·
        rw [if_neg c10] at H
        exact absurd H (by simp)
      ·
       rw [if_neg c9] at H
       exact absurd H (by simp)
     ·
      rw [if_neg c8] at H
      exact absurd H (by simp)
    ·
     rw [if_neg c7] at H
     exact absurd H (by simp)
   ·
    rw [if_neg c5] at H
    exact absurd H (by simp)
  ·
   rw [if_neg c4] at H
   exact absurd H (by simp)
 ·
  replace c3 := Bool.eq_false_iff.mpr c3
  subst c3
  have H1 : (some ((⟨#[]⟩ : ByteArray), false)) = some (r1, r2) := by rw [if_neg (show ¬ (false = true) by decide)] at H; exact H
  clear H
  have H := H1
  clear H1
  simp only [Option.some.injEq, Prod.mk.injEq] at H
  obtain ⟨rfl, rfl⟩ := H
  go_enter Tryz.func28, Tryz.ntmps28
  go_wp2_with (first | ((with_reducible refine gate_dst (N := 1) rfl ?_); refine box_event ?hg (N := 1) ?hd (cs := #[.string a0_0, .int .i64 a0_1, .string a0_2, .string a0_3]) (t := 42) ?hr ?_; (case hd => rfl); (case hg => rfl); (case hr => first | (go_simp; done) | (go_simp; rfl)); intro gb153 hg w16 hbox hb; have n0_ := Aside0.mk (below_step bw_ hb); have n1_ := Aside0.mk (hbox); have n2_ := Aside0.mk ((by rw [hg]; exact (below_size bw_) : w.heap.size ≤ gb153)); have n3_ := Aside0.mk ((by rw [hg]; exact (below_size bw_) : w.heap.size ≤ gb153)); clear HB; have HB := n0_; have BK153 := n1_; have GW153 := n2_; have GE153 := n3_; clear n0_ n1_ n2_ n3_; clear hb hbox hg; have hcz17_0 : w16.cell? ⟨gb153, 0, none⟩ = some (.string a0_0) := (blk_cell BK153.out 0).trans rfl; have hcz17_1 : w16.cell? ⟨gb153, 1, none⟩ = some (.int .i64 a0_1) := (blk_cell BK153.out 1).trans rfl; have hcz17_2 : w16.cell? ⟨gb153, 2, none⟩ = some (.string a0_2) := (blk_cell BK153.out 2).trans rfl; have hcz17_3 : w16.cell? ⟨gb153, 3, none⟩ = some (.string a0_3) := (blk_cell BK153.out 3).trans rfl; have hfz17_0 := blk_frozen BK153.out 0; have hfz17_1 := blk_frozen BK153.out 1; have hfz17_2 := blk_frozen BK153.out 2; have hfz17_3 := blk_frozen BK153.out 3) | (go_at_call 51; (with_reducible refine (r04_RightLabel.calls k a0_0 a0_1 a0_2 a0_3 false _ A2.out).mono ?_); rintro e w18 ⟨rfl, hb⟩; have n0_ := Aside0.mk (blk_below (g := gb153) (o := .cells #[.string a0_0, .int .i64 a0_1, .string a0_2, .string a0_3] 42 (0, 0)) (by (with_reducible repeat (first | refine blk_drewN ?_ _ | refine blk_drew ?_ | refine blk_alloc ?_ _)); exact BK153.out) hb); have n1_ := Aside0.mk (below_step (by repeat (first | (with_reducible first | exact HB.out | apply below_alloc | apply pw_below_drewN | apply below_drew1 | refine below_set ?_ GE153.out) | exact HB.out)) hb); clear BK153; clear HB; have BK153 := n0_; have HB := n1_; clear n0_ n1_; (try clear hb); (try clear hb2); (try clear hk); (try clear hi)))
  repeat (go_quiet (first | ((with_reducible refine gate_dst (N := 1) rfl ?_); refine box_event ?hg (N := 1) ?hd (cs := #[.string a0_0, .int .i64 a0_1, .string a0_2, .string a0_3]) (t := 42) ?hr ?_; (case hd => rfl); (case hg => rfl); (case hr => first | (go_simp; done) | (go_simp; rfl)); intro gb153 hg w16 hbox hb; have n0_ := Aside0.mk (below_step bw_ hb); have n1_ := Aside0.mk (hbox); have n2_ := Aside0.mk ((by rw [hg]; exact (below_size bw_) : w.heap.size ≤ gb153)); have n3_ := Aside0.mk ((by rw [hg]; exact (below_size bw_) : w.heap.size ≤ gb153)); clear HB; have HB := n0_; have BK153 := n1_; have GW153 := n2_; have GE153 := n3_; clear n0_ n1_ n2_ n3_; clear hb hbox hg; have hcz17_0 : w16.cell? ⟨gb153, 0, none⟩ = some (.string a0_0) := (blk_cell BK153.out 0).trans rfl; have hcz17_1 : w16.cell? ⟨gb153, 1, none⟩ = some (.int .i64 a0_1) := (blk_cell BK153.out 1).trans rfl; have hcz17_2 : w16.cell? ⟨gb153, 2, none⟩ = some (.string a0_2) := (blk_cell BK153.out 2).trans rfl; have hcz17_3 : w16.cell? ⟨gb153, 3, none⟩ = some (.string a0_3) := (blk_cell BK153.out 3).trans rfl; have hfz17_0 := blk_frozen BK153.out 0; have hfz17_1 := blk_frozen BK153.out 1; have hfz17_2 := blk_frozen BK153.out 2; have hfz17_3 := blk_frozen BK153.out 3) | (go_at_call 51; (with_reducible refine (r04_RightLabel.calls k a0_0 a0_1 a0_2 a0_3 false _ A2.out).mono ?_); rintro e w18 ⟨rfl, hb⟩; have n0_ := Aside0.mk (blk_below (g := gb153) (o := .cells #[.string a0_0, .int .i64 a0_1, .string a0_2, .string a0_3] 42 (0, 0)) (by (with_reducible repeat (first | refine blk_drewN ?_ _ | refine blk_drew ?_ | refine blk_alloc ?_ _)); exact BK153.out) hb); have n1_ := Aside0.mk (below_step (by repeat (first | (with_reducible first | exact HB.out | apply below_alloc | apply pw_below_drewN | apply below_drew1 | refine below_set ?_ GE153.out) | exact HB.out)) hb); clear BK153; clear HB; have BK153 := n0_; have HB := n1_; clear n0_ n1_; (try clear hb); (try clear hb2); (try clear hk); (try clear hi))); try go_wp2_with (first | ((with_reducible refine gate_dst (N := 1) rfl ?_); refine box_event ?hg (N := 1) ?hd (cs := #[.string a0_0, .int .i64 a0_1, .string a0_2, .string a0_3]) (t := 42) ?hr ?_; (case hd => rfl); (case hg => rfl); (case hr => first | (go_simp; done) | (go_simp; rfl)); intro gb153 hg w16 hbox hb; have n0_ := Aside0.mk (below_step bw_ hb); have n1_ := Aside0.mk (hbox); have n2_ := Aside0.mk ((by rw [hg]; exact (below_size bw_) : w.heap.size ≤ gb153)); have n3_ := Aside0.mk ((by rw [hg]; exact (below_size bw_) : w.heap.size ≤ gb153)); clear HB; have HB := n0_; have BK153 := n1_; have GW153 := n2_; have GE153 := n3_; clear n0_ n1_ n2_ n3_; clear hb hbox hg; have hcz17_0 : w16.cell? ⟨gb153, 0, none⟩ = some (.string a0_0) := (blk_cell BK153.out 0).trans rfl; have hcz17_1 : w16.cell? ⟨gb153, 1, none⟩ = some (.int .i64 a0_1) := (blk_cell BK153.out 1).trans rfl; have hcz17_2 : w16.cell? ⟨gb153, 2, none⟩ = some (.string a0_2) := (blk_cell BK153.out 2).trans rfl; have hcz17_3 : w16.cell? ⟨gb153, 3, none⟩ = some (.string a0_3) := (blk_cell BK153.out 3).trans rfl; have hfz17_0 := blk_frozen BK153.out 0; have hfz17_1 := blk_frozen BK153.out 1; have hfz17_2 := blk_frozen BK153.out 2; have hfz17_3 := blk_frozen BK153.out 3) | (go_at_call 51; (with_reducible refine (r04_RightLabel.calls k a0_0 a0_1 a0_2 a0_3 false _ A2.out).mono ?_); rintro e w18 ⟨rfl, hb⟩; have n0_ := Aside0.mk (blk_below (g := gb153) (o := .cells #[.string a0_0, .int .i64 a0_1, .string a0_2, .string a0_3] 42 (0, 0)) (by (with_reducible repeat (first | refine blk_drewN ?_ _ | refine blk_drew ?_ | refine blk_alloc ?_ _)); exact BK153.out) hb); have n1_ := Aside0.mk (below_step (by repeat (first | (with_reducible first | exact HB.out | apply below_alloc | apply pw_below_drewN | apply below_drew1 | refine below_set ?_ GE153.out) | exact HB.out)) hb); clear BK153; clear HB; have BK153 := n0_; have HB := n1_; clear n0_ n1_; (try clear hb); (try clear hb2); (try clear hk); (try clear hi))))
  go_ret2
  exact ⟨er_, by repeat (first | (with_reducible first | exact HB.out | apply below_alloc | apply pw_below_drewN | apply below_drew1 | refine below_set ?_ GE153.out) | exact HB.out)⟩
end Go.Proofs.YtefefhhaopjccaaGreatDoor.PObDoc

namespace Go.Proofs.YtefefhhaopjccaaGreatDoor.PObDoc
open Go.Proofs.YtefefhhaopjccaaGreatDoor.PObBase
open Go.RowKit Go.Proofs.YtefefhhaopjccaaGreatDoorW.PrintWords Go.Proofs.YtefefhhaopjccaaGreatDoorW.PrintLast Go.Proofs.YtefefhhaopjccaaGreatDoorW.PrintMore
attribute [local go_sem] StrSem.leq_str StrSem.geq_str StrSem.gtr_str max2_int min2_int max_two min_two max_three min_three max_four min_four   -- for this text's walks alone
set_option linter.unusedVariables false
set_option linter.unusedSimpArgs false
mutual
noncomputable def r04_GetLabel.j0 : Nat → ByteArray → ByteArray → ByteArray → ByteArray → ByteArray → Bool → ByteArray → Int → ByteArray → ByteArray → Option (ByteArray × Int × ByteArray × ByteArray × Bool)
 | 0, _, _, _, _, _, _, _, _, _, _ => none
 | k + 1, x0, x5, x6, x8, x10, x52, x158000, x158001, x158002, x158003 => if x52 = true then (some (x158000, x158001, x158002, x158003, false)) else (r04_GetLabel.l0 k x0 x5 x6 x8 x10 1 x158000 x158001 x158002 x158003)
noncomputable def r04_GetLabel.l0 : Nat → ByteArray → ByteArray → ByteArray → ByteArray → ByteArray → Int → ByteArray → Int → ByteArray → ByteArray → Option (ByteArray × Int × ByteArray × ByteArray × Bool)
 | 0, _, _, _, _, _, _, _, _, _, _ => none
 | k + 1, x0, x5, x6, x8, x10, x12, x158000, x158001, x158002, x158003 => if x12 ≤ 4 then ((r04_Word.f x12).bind fun t167 => (if t167.toList = x8.toList then (r04_GetLabel.l0 k x0 x5 x6 x8 x10 (wrap64 (x12 + 1)) x158000 x12 x158002 x158003) else (r04_GetLabel.l0 k x0 x5 x6 x8 x10 (wrap64 (x12 + 1)) x158000 x158001 x158002 x158003))) else (if 1 ≤ (x6.size : Int) then ((r04_PutLabel.f k x5 x158001 x10 (x6.extract 1 x6.size)).bind fun bt168 => (if bt168.2 = true then (if bt168.1.toList = x0.toList then (some (x5, x158001, x10, x6.extract 1 x6.size, true)) else (some ((⟨#[]⟩ : ByteArray), 0, (⟨#[]⟩ : ByteArray), (⟨#[]⟩ : ByteArray), false))) else (some ((⟨#[]⟩ : ByteArray), 0, (⟨#[]⟩ : ByteArray), (⟨#[]⟩ : ByteArray), false)))) else (none))
end
noncomputable def r04_GetLabel.f (k : Nat) (a0 : ByteArray) : Option (ByteArray × Int × ByteArray × ByteArray × Bool) := (r04_line.f k a0 (⟨#[111, 98, 106, 101, 99, 116]⟩ : ByteArray)).bind fun bt158 => ((r04_line.f k bt158.2.1 (⟨#[107, 105, 110, 100]⟩ : ByteArray)).bind fun bt161 => ((r04_line.f k bt161.2.1 (⟨#[110, 97, 109, 101]⟩ : ByteArray)).bind fun bt164 => (if bt158.2.2 = true then (if bt161.2.2 = true then (if bt164.2.2 = true then (if (bt164.2.1.size : Int) = 0 then (r04_GetLabel.j0 k a0 bt158.1 bt164.2.1 bt161.1 bt164.1 true (⟨#[]⟩ : ByteArray) 0 (⟨#[]⟩ : ByteArray) (⟨#[]⟩ : ByteArray)) else (if 0 < (bt164.2.1.size : Int) then (r04_GetLabel.j0 k a0 bt158.1 bt164.2.1 bt161.1 bt164.1 ((bt bt164.2.1 0) != 10) (⟨#[]⟩ : ByteArray) 0 (⟨#[]⟩ : ByteArray) (⟨#[]⟩ : ByteArray)) else (none))) else (r04_GetLabel.j0 k a0 bt158.1 bt164.2.1 bt161.1 bt164.1 true (⟨#[]⟩ : ByteArray) 0 (⟨#[]⟩ : ByteArray) (⟨#[]⟩ : ByteArray))) else (r04_GetLabel.j0 k a0 bt158.1 bt164.2.1 bt161.1 bt164.1 true (⟨#[]⟩ : ByteArray) 0 (⟨#[]⟩ : ByteArray) (⟨#[]⟩ : ByteArray))) else (r04_GetLabel.j0 k a0 bt158.1 bt164.2.1 bt161.1 bt164.1 true (⟨#[]⟩ : ByteArray) 0 (⟨#[]⟩ : ByteArray) (⟨#[]⟩ : ByteArray)))))
set_option maxHeartbeats 8000000 in
set_option maxRecDepth 100000 in
theorem r04_GetLabel.calls (k : Nat) (a0 : ByteArray) (r1 : ByteArray) (r2 : Int) (r3 : ByteArray) (r4 : ByteArray) (r5 : Bool) (w : World) (h : r04_GetLabel.f k a0 = some (r1, r2, r3, r4, r5)) :
  Calls Tryz.prog 32 #[.string a0] w fun e w' => e = .returned (.tuple #[.agg #[.string r1, .int .i64 r2, .string r3, .string r4], .bool r5]) ∧ Below w.heap.size w w' := by
 have hu42 := Tryz.underlying42
 have HB := Aside0.mk (Below.refl w.heap.size w)
 have H : ((r04_line.f k a0 (⟨#[111, 98, 106, 101, 99, 116]⟩ : ByteArray)).bind fun bt158 => ((r04_line.f k bt158.2.1 (⟨#[107, 105, 110, 100]⟩ : ByteArray)).bind fun bt161 => ((r04_line.f k bt161.2.1 (⟨#[110, 97, 109, 101]⟩ : ByteArray)).bind fun bt164 => (if bt158.2.2 = true then (if bt161.2.2 = true then (if bt164.2.2 = true then (if (bt164.2.1.size : Int) = 0 then (r04_GetLabel.j0 k a0 bt158.1 bt164.2.1 bt161.1 bt164.1 true (⟨#[]⟩ : ByteArray) 0 (⟨#[]⟩ : ByteArray) (⟨#[]⟩ : ByteArray)) else (if 0 < (bt164.2.1.size : Int) then (r04_GetLabel.j0 k a0 bt158.1 bt164.2.1 bt161.1 bt164.1 ((bt bt164.2.1 0) != 10) (⟨#[]⟩ : ByteArray) 0 (⟨#[]⟩ : ByteArray) (⟨#[]⟩ : ByteArray)) else (none))) else (r04_GetLabel.j0 k a0 bt158.1 bt164.2.1 bt161.1 bt164.1 true (⟨#[]⟩ : ByteArray) 0 (⟨#[]⟩ : ByteArray) (⟨#[]⟩ : ByteArray))) else (r04_GetLabel.j0 k a0 bt158.1 bt164.2.1 bt161.1 bt164.1 true (⟨#[]⟩ : ByteArray) 0 (⟨#[]⟩ : ByteArray) (⟨#[]⟩ : ByteArray))) else (r04_GetLabel.j0 k a0 bt158.1 bt164.2.1 bt161.1 bt164.1 true (⟨#[]⟩ : ByteArray) 0 (⟨#[]⟩ : ByteArray) (⟨#[]⟩ : ByteArray)))))) = some (r1, r2, r3, r4, r5) := h
 clear h
 replace H := Option.bind_eq_some_iff.mp H
 obtain ⟨⟨t158, t159, t160⟩, A20, H⟩ := H
 replace H : ((r04_line.f k t159 (⟨#[107, 105, 110, 100]⟩ : ByteArray)).bind fun bt161 => ((r04_line.f k bt161.2.1 (⟨#[110, 97, 109, 101]⟩ : ByteArray)).bind fun bt164 => (if t160 = true then (if bt161.2.2 = true then (if bt164.2.2 = true then (if (bt164.2.1.size : Int) = 0 then (r04_GetLabel.j0 k a0 t158 bt164.2.1 bt161.1 bt164.1 true (⟨#[]⟩ : ByteArray) 0 (⟨#[]⟩ : ByteArray) (⟨#[]⟩ : ByteArray)) else (if 0 < (bt164.2.1.size : Int) then (r04_GetLabel.j0 k a0 t158 bt164.2.1 bt161.1 bt164.1 ((bt bt164.2.1 0) != 10) (⟨#[]⟩ : ByteArray) 0 (⟨#[]⟩ : ByteArray) (⟨#[]⟩ : ByteArray)) else (none))) else (r04_GetLabel.j0 k a0 t158 bt164.2.1 bt161.1 bt164.1 true (⟨#[]⟩ : ByteArray) 0 (⟨#[]⟩ : ByteArray) (⟨#[]⟩ : ByteArray))) else (r04_GetLabel.j0 k a0 t158 bt164.2.1 bt161.1 bt164.1 true (⟨#[]⟩ : ByteArray) 0 (⟨#[]⟩ : ByteArray) (⟨#[]⟩ : ByteArray))) else (r04_GetLabel.j0 k a0 t158 bt164.2.1 bt161.1 bt164.1 true (⟨#[]⟩ : ByteArray) 0 (⟨#[]⟩ : ByteArray) (⟨#[]⟩ : ByteArray))))) = some (r1, r2, r3, r4, r5) := H
 have A2 := Aside0.mk A20
 clear A20
 replace H := Option.bind_eq_some_iff.mp H
 obtain ⟨⟨t161, t162, t163⟩, A30, H⟩ := H
 replace H : ((r04_line.f k t162 (⟨#[110, 97, 109, 101]⟩ : ByteArray)).bind fun bt164 => (if t160 = true then (if t163 = true then (if bt164.2.2 = true then (if (bt164.2.1.size : Int) = 0 then (r04_GetLabel.j0 k a0 t158 bt164.2.1 t161 bt164.1 true (⟨#[]⟩ : ByteArray) 0 (⟨#[]⟩ : ByteArray) (⟨#[]⟩ : ByteArray)) else (if 0 < (bt164.2.1.size : Int) then (r04_GetLabel.j0 k a0 t158 bt164.2.1 t161 bt164.1 ((bt bt164.2.1 0) != 10) (⟨#[]⟩ : ByteArray) 0 (⟨#[]⟩ : ByteArray) (⟨#[]⟩ : ByteArray)) else (none))) else (r04_GetLabel.j0 k a0 t158 bt164.2.1 t161 bt164.1 true (⟨#[]⟩ : ByteArray) 0 (⟨#[]⟩ : ByteArray) (⟨#[]⟩ : ByteArray))) else (r04_GetLabel.j0 k a0 t158 bt164.2.1 t161 bt164.1 true (⟨#[]⟩ : ByteArray) 0 (⟨#[]⟩ : ByteArray) (⟨#[]⟩ : ByteArray))) else (r04_GetLabel.j0 k a0 t158 bt164.2.1 t161 bt164.1 true (⟨#[]⟩ : ByteArray) 0 (⟨#[]⟩ : ByteArray) (⟨#[]⟩ : ByteArray)))) = some (r1, r2, r3, r4, r5) := H
 have A3 := Aside0.mk A30
 clear A30
 replace H := Option.bind_eq_some_iff.mp H
 obtain ⟨⟨t164, t165, t166⟩, A40, H⟩ := H
 replace H : (if t160 = true then (if t163 = true then (if t166 = true then (if (t165.size : Int) = 0 then (r04_GetLabel.j0 k a0 t158 t165 t161 t164 true (⟨#[]⟩ : ByteArray) 0 (⟨#[]⟩ : ByteArray) (⟨#[]⟩ : ByteArray)) else (if 0 < (t165.size : Int) then (r04_GetLabel.j0 k a0 t158 t165 t161 t164 ((bt t165 0) != 10) (⟨#[]⟩ : ByteArray) 0 (⟨#[]⟩ : ByteArray) (⟨#[]⟩ : ByteArray)) else (none))) else (r04_GetLabel.j0 k a0 t158 t165 t161 t164 true (⟨#[]⟩ : ByteArray) 0 (⟨#[]⟩ : ByteArray) (⟨#[]⟩ : ByteArray))) else (r04_GetLabel.j0 k a0 t158 t165 t161 t164 true (⟨#[]⟩ : ByteArray) 0 (⟨#[]⟩ : ByteArray) (⟨#[]⟩ : ByteArray))) else (r04_GetLabel.j0 k a0 t158 t165 t161 t164 true (⟨#[]⟩ : ByteArray) 0 (⟨#[]⟩ : ByteArray) (⟨#[]⟩ : ByteArray))) = some (r1, r2, r3, r4, r5) := H
 have A4 := Aside0.mk A40
 clear A40
 have HC5 := Aside0.mk H
 clear H
 go_enter Tryz.func32, Tryz.ntmps32
 go_upto_region 5 with (first | ((with_reducible refine gate_dst (N := 2) rfl ?_); (try (refine gate_guard (by rfl) ?_; dsimp only)); refine box_event ?hg (N := 2) ?hd (cs := #[.string (⟨#[]⟩ : ByteArray), .int .i64 0, .string (⟨#[]⟩ : ByteArray), .string (⟨#[]⟩ : ByteArray)]) (t := 42) ?hr ?_; (case hd => rfl); (case hg => rfl); (case hr => first | (go_simp; done) | (go_simp; rfl)); intro gb156 hg w6 hbox hb; have n0_ := Aside0.mk (below_step bw_ hb); have n1_ := Aside0.mk (hbox); have n2_ := Aside0.mk ((by rw [hg]; exact (below_size bw_) : w.heap.size ≤ gb156)); have n3_ := Aside0.mk ((by rw [hg]; exact (below_size bw_) : w.heap.size ≤ gb156)); clear HB; have HB := n0_; have BK156 := n1_; have GW156 := n2_; have GE156 := n3_; clear n0_ n1_ n2_ n3_; clear hb hbox hg) | ((with_reducible refine gate_dst (N := 4) rfl ?_); (try (refine gate_guard (by rfl) ?_; dsimp only)); refine box_event ?hg (N := 4) ?hd (cs := #[.string (⟨#[]⟩ : ByteArray), .int .i64 0, .string (⟨#[]⟩ : ByteArray), .string (⟨#[]⟩ : ByteArray)]) (t := 42) ?hr ?_; (case hd => rfl); (case hg => rfl); (case hr => first | (go_simp; done) | (go_simp; rfl)); intro gb157 hg w7 hbox hb; have n0_ := Aside0.mk (blk_below (g := gb156) (o := .cells #[.string (⟨#[]⟩ : ByteArray), .int .i64 0, .string (⟨#[]⟩ : ByteArray), .string (⟨#[]⟩ : ByteArray)] 42 (0, 0)) (by (with_reducible repeat (first | refine blk_drewN ?_ _ | refine blk_drew ?_ | refine blk_alloc ?_ _)); exact BK156.out) hb); have n1_ := Aside0.mk (below_step (by repeat (first | (with_reducible first | exact HB.out | apply below_alloc | apply pw_below_drewN | apply below_drew1 | refine below_set ?_ GE156.out) | exact HB.out)) hb); have n2_ := Aside0.mk (hbox); have n3_ := Aside0.mk ((by rw [hg]; exact (below_size (by repeat (first | (with_reducible first | exact HB.out | apply below_alloc | apply pw_below_drewN | apply below_drew1 | refine below_set ?_ GE156.out) | exact HB.out))) : w.heap.size ≤ gb157)); have n4_ := Aside0.mk ((by rw [hg]; exact (below_size (by repeat (first | (with_reducible first | exact HB.out | apply below_alloc | apply pw_below_drewN | apply below_drew1 | refine below_set ?_ GE156.out) | exact HB.out))) : w.heap.size ≤ gb157)); have n5_ := Aside0.mk ((by rw [hg]; exact Nat.ne_of_lt (blk_lt (g := gb156) (o := .cells #[.string (⟨#[]⟩ : ByteArray), .int .i64 0, .string (⟨#[]⟩ : ByteArray), .string (⟨#[]⟩ : ByteArray)] 42 (0, 0)) (by (with_reducible repeat (first | refine blk_drewN ?_ _ | refine blk_drew ?_ | refine blk_alloc ?_ _)); exact BK156.out)) : gb156 ≠ gb157)); have n6_ := Aside0.mk ((by rw [hg]; exact Nat.ne_of_gt (blk_lt (g := gb156) (o := .cells #[.string (⟨#[]⟩ : ByteArray), .int .i64 0, .string (⟨#[]⟩ : ByteArray), .string (⟨#[]⟩ : ByteArray)] 42 (0, 0)) (by (with_reducible repeat (first | refine blk_drewN ?_ _ | refine blk_drew ?_ | refine blk_alloc ?_ _)); exact BK156.out)) : gb157 ≠ gb156)); clear BK156; clear HB; have BK156 := n0_; have HB := n1_; have BK157 := n2_; have GW157 := n3_; have GE157 := n4_; have NB156_157 := n5_; have NB157_156 := n6_; clear n0_ n1_ n2_ n3_ n4_ n5_ n6_; clear hb hbox hg) | ((with_reducible refine gate_callee (f := 55) rfl ?_); refine goesL_ (some 17) rfl rfl Tryz.func55 (by kernel_rfl) rfl #[.string a0, .string (⟨#[111, 98, 106, 101, 99, 116]⟩ : ByteArray)] rfl la_ ?_; (with_reducible refine (r04_line.calls k a0 (⟨#[111, 98, 106, 101, 99, 116]⟩ : ByteArray) t158 t159 t160 _ A2.out).mono ?_); rintro e w' ⟨rfl, ⟨nd, rfl⟩⟩; refine ⟨_, rfl, ?_⟩) | ((with_reducible refine gate_callee (f := 55) rfl ?_); refine goesL_ (some 23) rfl rfl Tryz.func55 (by kernel_rfl) rfl #[.string t159, .string (⟨#[107, 105, 110, 100]⟩ : ByteArray)] rfl la_ ?_; (with_reducible refine (r04_line.calls k t159 (⟨#[107, 105, 110, 100]⟩ : ByteArray) t161 t162 t163 _ A3.out).mono ?_); rintro e w' ⟨rfl, ⟨nd, rfl⟩⟩; refine ⟨_, rfl, ?_⟩) | ((with_reducible refine gate_callee (f := 55) rfl ?_); refine goesL_ (some 29) rfl rfl Tryz.func55 (by kernel_rfl) rfl #[.string t162, .string (⟨#[110, 97, 109, 101]⟩ : ByteArray)] rfl la_ ?_; (with_reducible refine (r04_line.calls k t162 (⟨#[110, 97, 109, 101]⟩ : ByteArray) t164 t165 t166 _ A4.out).mono ?_); rintro e w' ⟨rfl, ⟨nd, rfl⟩⟩; refine ⟨_, rfl, ?_⟩))
 (try simp only [Act.put, List.setIfInBounds_toArray, List.set_cons_zero, List.set_cons_succ])
 go_cut [52] (fun v52 wc => ∃ (kq : Nat) (x52_4 : Bool), v52 = .bool x52_4 ∧ Aside0 (r04_GetLabel.j0 kq a0 t158 t165 t161 t164 x52_4 (⟨#[]⟩ : ByteArray) 0 (⟨#[]⟩ : ByteArray) (⟨#[]⟩ : ByteArray) = some (r1, r2, r3, r4, r5)) ∧ Aside0 (kq ≤ k) ∧ Aside0 (wc.heap[gb156]? = some (.cells #[.string (⟨#[]⟩ : ByteArray), .int .i64 0, .string (⟨#[]⟩ : ByteArray), .string (⟨#[]⟩ : ByteArray)] 42 (0, 0))) ∧ Aside0 (wc.heap[gb157]? = some (.cells #[.string (⟨#[]⟩ : ByteArray), .int .i64 0, .string (⟨#[]⟩ : ByteArray), .string (⟨#[]⟩ : ByteArray)] 42 (0, 0))) ∧ Aside0 (Below w.heap.size w wc))
 case first =>
  have H := HC5.out
  clear HC5
  by_cases c8 : t160 = true
  ·
   subst c8
   have H1 : (if t163 = true then (if t166 = true then (if (t165.size : Int) = 0 then (r04_GetLabel.j0 k a0 t158 t165 t161 t164 true (⟨#[]⟩ : ByteArray) 0 (⟨#[]⟩ : ByteArray) (⟨#[]⟩ : ByteArray)) else (if 0 < (t165.size : Int) then (r04_GetLabel.j0 k a0 t158 t165 t161 t164 ((bt t165 0) != 10) (⟨#[]⟩ : ByteArray) 0 (⟨#[]⟩ : ByteArray) (⟨#[]⟩ : ByteArray)) else (none))) else (r04_GetLabel.j0 k a0 t158 t165 t161 t164 true (⟨#[]⟩ : ByteArray) 0 (⟨#[]⟩ : ByteArray) (⟨#[]⟩ : ByteArray))) else (r04_GetLabel.j0 k a0 t158 t165 t161 t164 true (⟨#[]⟩ : ByteArray) 0 (⟨#[]⟩ : ByteArray) (⟨#[]⟩ : ByteArray))) = some (r1, r2, r3, r4, r5) := by rw [if_pos rfl] at H; exact H
   clear H
   have H := H1
   clear H1
   by_cases c9 : t163 = true
   ·
    subst c9
    have H1 : (if t166 = true then (if (t165.size : Int) = 0 then (r04_GetLabel.j0 k a0 t158 t165 t161 t164 true (⟨#[]⟩ : ByteArray) 0 (⟨#[]⟩ : ByteArray) (⟨#[]⟩ : ByteArray)) else (if 0 < (t165.size : Int) then (r04_GetLabel.j0 k a0 t158 t165 t161 t164 ((bt t165 0) != 10) (⟨#[]⟩ : ByteArray) 0 (⟨#[]⟩ : ByteArray) (⟨#[]⟩ : ByteArray)) else (none))) else (r04_GetLabel.j0 k a0 t158 t165 t161 t164 true (⟨#[]⟩ : ByteArray) 0 (⟨#[]⟩ : ByteArray) (⟨#[]⟩ : ByteArray))) = some (r1, r2, r3, r4, r5) := by rw [if_pos rfl] at H; exact H
    clear H
    have H := H1
    clear H1
    by_cases c10 : t166 = true
    ·
     subst c10
     have H1 : (if (t165.size : Int) = 0 then (r04_GetLabel.j0 k a0 t158 t165 t161 t164 true (⟨#[]⟩ : ByteArray) 0 (⟨#[]⟩ : ByteArray) (⟨#[]⟩ : ByteArray)) else (if 0 < (t165.size : Int) then (r04_GetLabel.j0 k a0 t158 t165 t161 t164 ((bt t165 0) != 10) (⟨#[]⟩ : ByteArray) 0 (⟨#[]⟩ : ByteArray) (⟨#[]⟩ : ByteArray)) else (none))) = some (r1, r2, r3, r4, r5) := by rw [if_pos rfl] at H; exact H
     clear H
     have H := H1
     clear H1
     by_cases c11 : (t165.size : Int) = 0
     ·
      rw [if_pos c11] at H
      have c11b0 : ((t165.size : Int) == 0) = true := beq_iff_eq.mpr c11
      have c11b1 : ((t165.size : Int) != 0) = false := bne_eq_false_iff_eq.mpr c11
      clear c11
      (first | rw [c11b0] | (simp only [i64_w, i32_w]; rw [c11b0]) | skip)
      have H' := Aside0.mk H
      clear H
      go_wp2
      go_meet
      case rel => exact ⟨_, (true), sd_, H', ⟨by first | omega | exact Nat.le_refl _⟩, ⟨by (with_reducible repeat (first | refine blk_drewN ?_ _ | refine blk_drew ?_ | refine blk_alloc ?_ _)); exact BK156.out⟩, ⟨by (with_reducible repeat (first | refine blk_drewN ?_ _ | refine blk_drew ?_ | refine blk_alloc ?_ _)); exact BK157.out⟩, ⟨by repeat (first | (with_reducible first | exact HB.out | apply below_alloc | apply pw_below_drewN | apply below_drew1 | refine below_set ?_ GE156.out | refine below_set ?_ GE157.out) | exact HB.out)⟩⟩
     ·
      rw [if_neg c11] at H
      have c11b0 : ((t165.size : Int) == 0) = false := beq_eq_false_iff_ne.mpr c11
      have c11b1 : ((t165.size : Int) != 0) = true := bne_iff_ne.mpr c11
      (first | rw [c11b0] | (simp only [i64_w, i32_w]; rw [c11b0]) | skip)
      by_cases c12 : 0 < (t165.size : Int)
      ·
       rw [if_pos c12] at H
       have c12b0 : decide (0 < (t165.size : Int)) = true := decide_eq_true c12
       have c12b1 : decide (0 < t165.size) = true := decide_eq_true (by omega)
       clear c12
       have H' := Aside0.mk H
       clear H
       have p13 : 0 ≤ (0 : Int) := (by omega)
       have q13 : 0 < t165.size := (by have : (0 : Int) < (t165.size : Int) := oda_; omega)
       have hx13 : ∀ h : 0 < t165.size, ((t165[0]'h).toNat : Int) = bt t165 0 := bt_at t165 0
       clear p13
       have qi13 : (0 < (t165.size : Int)) = True := eq_true (oda_)
       replace q13 := eq_true q13
       go_wp2
       go_meet
       case rel => exact ⟨_, (((bt t165 0) != 10)), sd_, H', ⟨by first | omega | exact Nat.le_refl _⟩, ⟨by (with_reducible repeat (first | refine blk_drewN ?_ _ | refine blk_drew ?_ | refine blk_alloc ?_ _)); exact BK156.out⟩, ⟨by (with_reducible repeat (first | refine blk_drewN ?_ _ | refine blk_drew ?_ | refine blk_alloc ?_ _)); exact BK157.out⟩, ⟨by repeat (first | (with_reducible first | exact HB.out | apply below_alloc | apply pw_below_drewN | apply below_drew1 | refine below_set ?_ GE156.out | refine below_set ?_ GE157.out) | exact HB.out)⟩⟩
      ·
       rw [if_neg c12] at H
       exact absurd H (by simp)
    ·
     replace c10 := Bool.eq_false_iff.mpr c10
     subst c10
     have H1 : (r04_GetLabel.j0 k a0 t158 t165 t161 t164 true (⟨#[]⟩ : ByteArray) 0 (⟨#[]⟩ : ByteArray) (⟨#[]⟩ : ByteArray)) = some (r1, r2, r3, r4, r5) := by rw [if_neg (show ¬ (false = true) by decide)] at H; exact H
     clear H
     have H := H1
     clear H1
     have H' := Aside0.mk H
     clear H
     go_wp2
     go_meet
     case rel => exact ⟨_, (true), sd_, H', ⟨by first | omega | exact Nat.le_refl _⟩, ⟨by (with_reducible repeat (first | refine blk_drewN ?_ _ | refine blk_drew ?_ | refine blk_alloc ?_ _)); exact BK156.out⟩, ⟨by (with_reducible repeat (first | refine blk_drewN ?_ _ | refine blk_drew ?_ | refine blk_alloc ?_ _)); exact BK157.out⟩, ⟨by repeat (first | (with_reducible first | exact HB.out | apply below_alloc | apply pw_below_drewN | apply below_drew1 | refine below_set ?_ GE156.out | refine below_set ?_ GE157.out) | exact HB.out)⟩⟩
   ·
    replace c9 := Bool.eq_false_iff.mpr c9
    subst c9
    have H1 : (r04_GetLabel.j0 k a0 t158 t165 t161 t164 true (⟨#[]⟩ : ByteArray) 0 (⟨#[]⟩ : ByteArray) (⟨#[]⟩ : ByteArray)) = some (r1, r2, r3, r4, r5) := by rw [if_neg (show ¬ (false = true) by decide)] at H; exact H
    clear H
    have H := H1
    clear H1
    have H' := Aside0.mk H
    clear H
    go_wp2
    go_meet
    case rel => exact ⟨_, (true), sd_, H', ⟨by first | omega | exact Nat.le_refl _⟩, ⟨by (with_reducible repeat (first | refine blk_drewN ?_ _ | refine blk_drew ?_ | refine blk_alloc ?_ _)); exact BK156.out⟩, ⟨by (with_reducible repeat (first | refine blk_drewN ?_ _ | refine blk_drew ?_ | refine blk_alloc ?_ _)); exact BK157.out⟩, ⟨by repeat (first | (with_reducible first | exact HB.out | apply below_alloc | apply pw_below_drewN | apply below_drew1 | refine below_set ?_ GE156.out | refine below_set ?_ GE157.out) | exact HB.out)⟩⟩
  ·
   replace c8 := Bool.eq_false_iff.mpr c8
   subst c8
   have H1 : (r04_GetLabel.j0 k a0 t158 t165 t161 t164 true (⟨#[]⟩ : ByteArray) 0 (⟨#[]⟩ : ByteArray) (⟨#[]⟩ : ByteArray)) = some (r1, r2, r3, r4, r5) := by rw [if_neg (show ¬ (false = true) by decide)] at H; exact H
   clear H
   have H := H1
   clear H1
   have H' := Aside0.mk H
   clear H
   go_wp2
   go_meet
   case rel => exact ⟨_, (true), sd_, H', ⟨by first | omega | exact Nat.le_refl _⟩, ⟨by (with_reducible repeat (first | refine blk_drewN ?_ _ | refine blk_drew ?_ | refine blk_alloc ?_ _)); exact BK156.out⟩, ⟨by (with_reducible repeat (first | refine blk_drewN ?_ _ | refine blk_drew ?_ | refine blk_alloc ?_ _)); exact BK157.out⟩, ⟨by repeat (first | (with_reducible first | exact HB.out | apply below_alloc | apply pw_below_drewN | apply below_drew1 | refine below_set ?_ GE156.out | refine below_set ?_ GE157.out) | exact HB.out)⟩⟩
 case rest =>
  clear HC5
  try clear c1
  try clear p1
  try clear q1
  try clear hx1
  try clear qi1
  try clear p2
  try clear c3
  try clear c5
  try clear c8
  try clear c9
  try clear c10
  try clear c11
  try clear c11b0
  try clear c11b1
  try clear c12
  try clear c12b0
  try clear c12b1
  try clear p13
  try clear q13
  try clear hx13
  try clear qi13
  try clear p13
  try clear q13
  obtain ⟨kq, x52_4, rfl, HA, HJ4, BK156, BK157, HB⟩ := hcut
  cases kq with
  | zero => exact absurd HA.out (by simp [r04_GetLabel.j0])
  | succ kj4 =>
   have H := HA.out
   clear HA
   simp only [r04_GetLabel.j0] at H
   by_cases c14 : x52_4 = true
   ·
    subst c14
    have H1 : (some ((⟨#[]⟩ : ByteArray), 0, (⟨#[]⟩ : ByteArray), (⟨#[]⟩ : ByteArray), false)) = some (r1, r2, r3, r4, r5) := by rw [if_pos rfl] at H; exact H
    clear H
    have H := H1
    clear H1
    simp only [Option.some.injEq, Prod.mk.injEq] at H
    obtain ⟨rfl, rfl, rfl, rfl, rfl⟩ := H
    have hnb15 := NB157_156.out
    have hnc15 := NB156_157.out
    have hcz16_0 : wc.cell? ⟨gb157, 0, none⟩ = some (.string (⟨#[]⟩ : ByteArray)) := (blk_cell BK157.out 0).trans rfl
    have hcz16_1 : wc.cell? ⟨gb157, 1, none⟩ = some (.int .i64 0) := (blk_cell BK157.out 1).trans rfl
    have hcz16_2 : wc.cell? ⟨gb157, 2, none⟩ = some (.string (⟨#[]⟩ : ByteArray)) := (blk_cell BK157.out 2).trans rfl
    have hcz16_3 : wc.cell? ⟨gb157, 3, none⟩ = some (.string (⟨#[]⟩ : ByteArray)) := (blk_cell BK157.out 3).trans rfl
    have hfz16_0 := blk_frozen BK157.out 0
    have hfz16_1 := blk_frozen BK157.out 1
    have hfz16_2 := blk_frozen BK157.out 2
    have hfz16_3 := blk_frozen BK157.out 3
    have hcz17_0 : wc.cell? ⟨gb156, 0, none⟩ = some (.string (⟨#[]⟩ : ByteArray)) := (blk_cell BK156.out 0).trans rfl
    have hcz17_1 : wc.cell? ⟨gb156, 1, none⟩ = some (.int .i64 0) := (blk_cell BK156.out 1).trans rfl
    have hcz17_2 : wc.cell? ⟨gb156, 2, none⟩ = some (.string (⟨#[]⟩ : ByteArray)) := (blk_cell BK156.out 2).trans rfl
    have hcz17_3 : wc.cell? ⟨gb156, 3, none⟩ = some (.string (⟨#[]⟩ : ByteArray)) := (blk_cell BK156.out 3).trans rfl
    have hfz17_0 := blk_frozen BK156.out 0
    have hfz17_1 := blk_frozen BK156.out 1
    have hfz17_2 := blk_frozen BK156.out 2
    have hfz17_3 := blk_frozen BK156.out 3
    go_wp2
    refine bodyPost_ret (results_ct rfl _ _ gb156 42 #[.string (⟨#[]⟩ : ByteArray), .int .i64 0, .string (⟨#[]⟩ : ByteArray), .string (⟨#[]⟩ : ByteArray)] (0, 0) _ rfl (by (with_reducible repeat (first | refine blk_drewN ?_ _ | refine blk_drew ?_ | refine blk_alloc ?_ _)); refine blk_put (cs := #[.string (⟨#[]⟩ : ByteArray), .int .i64 0, .string (⟨#[]⟩ : ByteArray), .string (⟨#[]⟩ : ByteArray)]) ?_ 3 _ rfl; (with_reducible repeat (first | refine blk_drewN ?_ _ | refine blk_drew ?_ | refine blk_alloc ?_ _)); refine blk_put (cs := #[.string (⟨#[]⟩ : ByteArray), .int .i64 0, .string (⟨#[]⟩ : ByteArray), .string (⟨#[]⟩ : ByteArray)]) ?_ 2 _ rfl; (with_reducible repeat (first | refine blk_drewN ?_ _ | refine blk_drew ?_ | refine blk_alloc ?_ _)); refine blk_put (cs := #[.string (⟨#[]⟩ : ByteArray), .int .i64 0, .string (⟨#[]⟩ : ByteArray), .string (⟨#[]⟩ : ByteArray)]) ?_ 1 _ rfl; (with_reducible repeat (first | refine blk_drewN ?_ _ | refine blk_drew ?_ | refine blk_alloc ?_ _)); refine blk_put (cs := #[.string (⟨#[]⟩ : ByteArray), .int .i64 0, .string (⟨#[]⟩ : ByteArray), .string (⟨#[]⟩ : ByteArray)]) ?_ 0 _ rfl; (with_reducible repeat (first | refine blk_drewN ?_ _ | refine blk_drew ?_ | refine blk_alloc ?_ _)); exact BK156.out) Tryz.underlying42 rfl (by kernel_rfl)) rfl ?_
    exact ⟨er_, by repeat (first | (with_reducible first | exact HB.out | apply below_alloc | apply pw_below_drewN | apply below_drew1 | refine below_set ?_ GE156.out | refine below_set ?_ GE157.out) | exact HB.out)⟩
   ·
    replace c14 := Bool.eq_false_iff.mpr c14
    subst c14
    have H1 : (r04_GetLabel.l0 kj4 a0 t158 t165 t161 t164 1 (⟨#[]⟩ : ByteArray) 0 (⟨#[]⟩ : ByteArray) (⟨#[]⟩ : ByteArray)) = some (r1, r2, r3, r4, r5) := by rw [if_neg (show ¬ (false = true) by decide)] at H; exact H
    clear H
    have H := H1
    clear H1
    have H' := Aside0.mk H
    clear H
    go_wp2
    go_loopg [12] kj4 (fun kq v12 w' => ∃ (x12_2 : Int) (x158001_2 : Int), v12 = .int .i64 x12_2 ∧ Aside0 (r04_GetLabel.l0 kq a0 t158 t165 t161 t164 x12_2 (⟨#[]⟩ : ByteArray) x158001_2 (⟨#[]⟩ : ByteArray) (⟨#[]⟩ : ByteArray) = some (r1, r2, r3, r4, r5)) ∧ Aside0 (kq ≤ kj4) ∧ Aside0 (w'.heap[gb156]? = some (.cells #[.string (⟨#[]⟩ : ByteArray), .int .i64 0, .string (⟨#[]⟩ : ByteArray), .string (⟨#[]⟩ : ByteArray)] 42 (0, 0))) ∧ Aside0 (w'.heap[gb157]? = some (.cells #[.string (⟨#[]⟩ : ByteArray), .int .i64 x158001_2, .string (⟨#[]⟩ : ByteArray), .string (⟨#[]⟩ : ByteArray)] 42 (0, 0))) ∧ Aside0 (Below w.heap.size w w'))
    case atStart => exact ⟨(1), (0), sd_, H', ⟨Nat.le_refl _⟩, ⟨by (with_reducible repeat (first | refine blk_drewN ?_ _ | refine blk_drew ?_ | refine blk_alloc ?_ _)); exact BK156.out⟩, ⟨by (with_reducible repeat (first | refine blk_drewN ?_ _ | refine blk_drew ?_ | refine blk_alloc ?_ _)); exact BK157.out⟩, ⟨by repeat (first | (with_reducible first | exact HB.out | apply below_alloc | apply pw_below_drewN | apply below_drew1 | refine below_set ?_ GE156.out | refine below_set ?_ GE157.out) | exact HB.out)⟩⟩
    case round =>
     clear H'
     try clear c1
     try clear p1
     try clear q1
     try clear hx1
     try clear qi1
     try clear p2
     try clear c3
     try clear c5
     try clear c8
     try clear c9
     try clear c10
     try clear c11
     try clear c11b0
     try clear c11b1
     try clear c12
     try clear c12b0
     try clear c12b1
     try clear p13
     try clear q13
     try clear hx13
     try clear qi13
     try clear c14
     try clear c15
     try clear hcz16_0
     try clear hcz16_1
     try clear hcz16_2
     try clear hcz16_3
     try clear hcz17_0
     try clear hcz17_1
     try clear hcz17_2
     try clear hcz17_3
     try clear hfz16_0
     try clear hfz16_1
     try clear hfz16_2
     try clear hfz16_3
     try clear hfz17_0
     try clear hfz17_1
     try clear hfz17_2
     try clear hfz17_3
     try clear p1
     try clear p13
     try clear p2
     try clear q1
     try clear q13
     obtain ⟨x12_2, x158001_2, rfl, HA, HK2, BK156, BK157, HB⟩ := hrel
     cases gk with
     | zero => exact absurd HA.out (by simp [r04_GetLabel.l0])
     | succ k2 =>
      have H := HA.out
      clear HA
      simp only [r04_GetLabel.l0] at H
      by_cases c18 : x12_2 ≤ 4
      ·
       rw [if_pos c18] at H
       have c18b0 : decide (x12_2 ≤ 4) = true := decide_eq_true c18
       clear c18
       replace H := Option.bind_eq_some_iff.mp H
       obtain ⟨t167, A190, H⟩ := H
       replace H : (if t167.toList = t161.toList then (r04_GetLabel.l0 k2 a0 t158 t165 t161 t164 (wrap64 (x12_2 + 1)) (⟨#[]⟩ : ByteArray) x12_2 (⟨#[]⟩ : ByteArray) (⟨#[]⟩ : ByteArray)) else (r04_GetLabel.l0 k2 a0 t158 t165 t161 t164 (wrap64 (x12_2 + 1)) (⟨#[]⟩ : ByteArray) x158001_2 (⟨#[]⟩ : ByteArray) (⟨#[]⟩ : ByteArray))) = some (r1, r2, r3, r4, r5) := H
       have A19 := Aside0.mk A190
       clear A190
       by_cases c20 : t167.toList = t161.toList
       ·
        rw [if_pos c20] at H
        have c20b0 : (t167.toList == t161.toList) = true := beq_iff_eq.mpr c20
        have c20b1 : (t167.toList != t161.toList) = false := bne_eq_false_iff_eq.mpr c20
        clear c20
        have H' := Aside0.mk H
        clear H
        go_wp2_with (first | ((with_reducible refine gate_callee (f := 39) rfl ?_); refine goesL_ (some 59) rfl rfl Tryz.func39 (by kernel_rfl) rfl #[.int .i64 x12_2] rfl la_ ?_; (with_reducible refine (r04_Word.calls x12_2 t167 _ A19.out).mono ?_); rintro e w' ⟨rfl, ⟨nd, rfl⟩⟩; refine ⟨_, rfl, ?_⟩; (try (rw [drewN_self wr]; generalize hq_ : World.drewN wr _ = wr; have n0_ : Aside0 (wr.heap[gb156]? = some (.cells #[.string (⟨#[]⟩ : ByteArray), .int .i64 0, .string (⟨#[]⟩ : ByteArray), .string (⟨#[]⟩ : ByteArray)] 42 (0, 0))) := ⟨by rw [← hq_]; exact (by (with_reducible repeat (first | refine blk_drewN ?_ _ | refine blk_drew ?_ | refine blk_alloc ?_ _)); exact BK156.out)⟩; have n1_ : Aside0 (wr.heap[gb157]? = some (.cells #[.string (⟨#[]⟩ : ByteArray), .int .i64 x158001_2, .string (⟨#[]⟩ : ByteArray), .string (⟨#[]⟩ : ByteArray)] 42 (0, 0))) := ⟨by rw [← hq_]; exact (by (with_reducible repeat (first | refine blk_drewN ?_ _ | refine blk_drew ?_ | refine blk_alloc ?_ _)); exact BK157.out)⟩; have n2_ : Aside0 (Below w.heap.size w wr) := ⟨by rw [← hq_]; exact (by repeat (first | (with_reducible first | exact HB.out | apply below_alloc | apply pw_below_drewN | apply below_drew1 | refine below_set ?_ GE156.out | refine below_set ?_ GE157.out) | exact HB.out))⟩; clear BK156 BK157 HB hq_; have BK156 := n0_; have BK157 := n1_; have HB := n2_; clear n0_ n1_ n2_)); have hnb21 := NB157_156.out; have hnc21 := NB156_157.out; have hcz22_0 : wr.cell? ⟨gb157, 0, none⟩ = some (.string (⟨#[]⟩ : ByteArray)) := (blk_cell BK157.out 0).trans rfl; have hcz22_1 : wr.cell? ⟨gb157, 1, none⟩ = some (.int .i64 x158001_2) := (blk_cell BK157.out 1).trans rfl; have hcz22_2 : wr.cell? ⟨gb157, 2, none⟩ = some (.string (⟨#[]⟩ : ByteArray)) := (blk_cell BK157.out 2).trans rfl; have hcz22_3 : wr.cell? ⟨gb157, 3, none⟩ = some (.string (⟨#[]⟩ : ByteArray)) := (blk_cell BK157.out 3).trans rfl; have hfz22_0 := blk_frozen BK157.out 0; have hfz22_1 := blk_frozen BK157.out 1; have hfz22_2 := blk_frozen BK157.out 2; have hfz22_3 := blk_frozen BK157.out 3))
        go_roundg k2
        case measure => have := HJ4.out; have := HK2.out; omega
        case rel => exact ⟨(wrap64 (x12_2 + 1)), (x12_2), sd_, H', ⟨by have := HJ4.out; have := HK2.out; omega⟩, ⟨by (with_reducible repeat (first | refine blk_drewN ?_ _ | refine blk_drew ?_ | refine blk_alloc ?_ _)); refine blk_far ?_ NB156_157.out _; (with_reducible repeat (first | refine blk_drewN ?_ _ | refine blk_drew ?_ | refine blk_alloc ?_ _)); exact BK156.out⟩, ⟨by (with_reducible repeat (first | refine blk_drewN ?_ _ | refine blk_drew ?_ | refine blk_alloc ?_ _)); refine blk_put (cs := #[.string (⟨#[]⟩ : ByteArray), .int .i64 x158001_2, .string (⟨#[]⟩ : ByteArray), .string (⟨#[]⟩ : ByteArray)]) ?_ 1 _ rfl; (with_reducible repeat (first | refine blk_drewN ?_ _ | refine blk_drew ?_ | refine blk_alloc ?_ _)); exact BK157.out⟩, ⟨by repeat (first | (with_reducible first | exact HB.out | apply below_alloc | apply pw_below_drewN | apply below_drew1 | refine below_set ?_ GE156.out | refine below_set ?_ GE157.out) | exact HB.out)⟩⟩
       ·
        rw [if_neg c20] at H
        have c20b0 : (t167.toList == t161.toList) = false := beq_eq_false_iff_ne.mpr c20
        have c20b1 : (t167.toList != t161.toList) = true := bne_iff_ne.mpr c20
        have H' := Aside0.mk H
        clear H
        go_wp2_with (first | ((with_reducible refine gate_callee (f := 39) rfl ?_); refine goesL_ (some 59) rfl rfl Tryz.func39 (by kernel_rfl) rfl #[.int .i64 x12_2] rfl la_ ?_; (with_reducible refine (r04_Word.calls x12_2 t167 _ A19.out).mono ?_); rintro e w' ⟨rfl, ⟨nd, rfl⟩⟩; refine ⟨_, rfl, ?_⟩))
        go_roundg k2
        case measure => have := HJ4.out; have := HK2.out; omega
        case rel => exact ⟨(wrap64 (x12_2 + 1)), (x158001_2), sd_, H', ⟨by have := HJ4.out; have := HK2.out; omega⟩, ⟨by (with_reducible repeat (first | refine blk_drewN ?_ _ | refine blk_drew ?_ | refine blk_alloc ?_ _)); exact BK156.out⟩, ⟨by (with_reducible repeat (first | refine blk_drewN ?_ _ | refine blk_drew ?_ | refine blk_alloc ?_ _)); exact BK157.out⟩, ⟨by repeat (first | (with_reducible first | exact HB.out | apply below_alloc | apply pw_below_drewN | apply below_drew1 | refine below_set ?_ GE156.out | refine below_set ?_ GE157.out) | exact HB.out)⟩⟩
      ·
       rw [if_neg c18] at H
       have c18b0 : decide (x12_2 ≤ 4) = false := decide_eq_false c18
       clear c18
       by_cases c23 : 1 ≤ (t165.size : Int)
       ·
        rw [if_pos c23] at H
        have c23b0 := eq_true c23
        have c23b1 : decide (1 ≤ (t165.size : Int)) = true := decide_eq_true c23
        clear c23
        replace H := Option.bind_eq_some_iff.mp H
        obtain ⟨⟨t168, t169⟩, A240, H⟩ := H
        replace H : (if t169 = true then (if t168.toList = a0.toList then (some (t158, x158001_2, t164, t165.extract 1 t165.size, true)) else (some ((⟨#[]⟩ : ByteArray), 0, (⟨#[]⟩ : ByteArray), (⟨#[]⟩ : ByteArray), false))) else (some ((⟨#[]⟩ : ByteArray), 0, (⟨#[]⟩ : ByteArray), (⟨#[]⟩ : ByteArray), false))) = some (r1, r2, r3, r4, r5) := H
        have A24 := Aside0.mk A240
        clear A240
        by_cases c25 : t169 = true
        ·
         subst c25
         have H1 : (if t168.toList = a0.toList then (some (t158, x158001_2, t164, t165.extract 1 t165.size, true)) else (some ((⟨#[]⟩ : ByteArray), 0, (⟨#[]⟩ : ByteArray), (⟨#[]⟩ : ByteArray), false))) = some (r1, r2, r3, r4, r5) := by rw [if_pos rfl] at H; exact H
         clear H
         have H := H1
         clear H1
         by_cases c26 : t168.toList = a0.toList
         ·
          rw [if_pos c26] at H
          have c26b0 : (t168.toList == a0.toList) = true := beq_iff_eq.mpr c26
          have c26b1 : (t168.toList != a0.toList) = false := bne_eq_false_iff_eq.mpr c26
          clear c26
          simp only [Option.some.injEq, Prod.mk.injEq] at H
          obtain ⟨rfl, rfl, rfl, rfl, rfl⟩ := H
          have hnb27 := NB157_156.out
          have hnc27 := NB156_157.out
          have hcz28_0 : wr.cell? ⟨gb157, 0, none⟩ = some (.string (⟨#[]⟩ : ByteArray)) := (blk_cell BK157.out 0).trans rfl
          have hcz28_1 : wr.cell? ⟨gb157, 1, none⟩ = some (.int .i64 x158001_2) := (blk_cell BK157.out 1).trans rfl
          have hcz28_2 : wr.cell? ⟨gb157, 2, none⟩ = some (.string (⟨#[]⟩ : ByteArray)) := (blk_cell BK157.out 2).trans rfl
          have hcz28_3 : wr.cell? ⟨gb157, 3, none⟩ = some (.string (⟨#[]⟩ : ByteArray)) := (blk_cell BK157.out 3).trans rfl
          have hfz28_0 := blk_frozen BK157.out 0
          have hfz28_1 := blk_frozen BK157.out 1
          have hfz28_2 := blk_frozen BK157.out 2
          have hfz28_3 := blk_frozen BK157.out 3
          go_wp2_with (first | ((with_reducible refine gate_callee (f := 28) rfl ?_); refine goesL_ (some 73) rfl rfl Tryz.func28 (by kernel_rfl) rfl #[.agg #[.string t158, .int .i64 x158001_2, .string t164, .string (t165.extract 1 t165.size)]] rfl la_ ?_; (with_reducible refine (r04_PutLabel.calls k2 t158 x158001_2 t164 (t165.extract 1 t165.size) t168 true _ A24.out).mono ?_); rintro e w29 ⟨rfl, hb⟩; refine ⟨_, rfl, ?_⟩; have n0_ := Aside0.mk (blk_below (g := gb156) (o := .cells #[.string (⟨#[]⟩ : ByteArray), .int .i64 0, .string (⟨#[]⟩ : ByteArray), .string (⟨#[]⟩ : ByteArray)] 42 (0, 0)) (by (with_reducible repeat (first | refine blk_drewN ?_ _ | refine blk_drew ?_ | refine blk_alloc ?_ _)); refine blk_far ?_ NB156_157.out _; (with_reducible repeat (first | refine blk_drewN ?_ _ | refine blk_drew ?_ | refine blk_alloc ?_ _)); refine blk_far ?_ NB156_157.out _; (with_reducible repeat (first | refine blk_drewN ?_ _ | refine blk_drew ?_ | refine blk_alloc ?_ _)); refine blk_far ?_ NB156_157.out _; (with_reducible repeat (first | refine blk_drewN ?_ _ | refine blk_drew ?_ | refine blk_alloc ?_ _)); exact BK156.out) hb); have n1_ := Aside0.mk (blk_below (g := gb157) (o := .cells #[.string t158, .int .i64 x158001_2, .string t164, .string (t165.extract 1 t165.size)] 42 (0, 0)) (by (with_reducible repeat (first | refine blk_drewN ?_ _ | refine blk_drew ?_ | refine blk_alloc ?_ _)); refine blk_put (cs := #[.string t158, .int .i64 x158001_2, .string t164, .string (⟨#[]⟩ : ByteArray)]) ?_ 3 _ rfl; (with_reducible repeat (first | refine blk_drewN ?_ _ | refine blk_drew ?_ | refine blk_alloc ?_ _)); refine blk_put (cs := #[.string t158, .int .i64 x158001_2, .string (⟨#[]⟩ : ByteArray), .string (⟨#[]⟩ : ByteArray)]) ?_ 2 _ rfl; (with_reducible repeat (first | refine blk_drewN ?_ _ | refine blk_drew ?_ | refine blk_alloc ?_ _)); refine blk_put (cs := #[.string (⟨#[]⟩ : ByteArray), .int .i64 x158001_2, .string (⟨#[]⟩ : ByteArray), .string (⟨#[]⟩ : ByteArray)]) ?_ 0 _ rfl; (with_reducible repeat (first | refine blk_drewN ?_ _ | refine blk_drew ?_ | refine blk_alloc ?_ _)); exact BK157.out) hb); have n2_ := Aside0.mk (below_step (by repeat (first | (with_reducible first | exact HB.out | apply below_alloc | apply pw_below_drewN | apply below_drew1 | refine below_set ?_ GE156.out | refine below_set ?_ GE157.out) | exact HB.out)) hb); clear BK156; clear BK157; clear HB; have BK156 := n0_; have BK157 := n1_; have HB := n2_; clear n0_ n1_ n2_; (try clear hb); (try clear hb2); (try clear hk); (try clear hi); have hcz30_0 : w29.cell? ⟨gb157, 0, none⟩ = some (.string t158) := (blk_cell BK157.out 0).trans rfl; have hcz30_1 : w29.cell? ⟨gb157, 1, none⟩ = some (.int .i64 x158001_2) := (blk_cell BK157.out 1).trans rfl; have hcz30_2 : w29.cell? ⟨gb157, 2, none⟩ = some (.string t164) := (blk_cell BK157.out 2).trans rfl; have hcz30_3 : w29.cell? ⟨gb157, 3, none⟩ = some (.string (t165.extract 1 t165.size)) := (blk_cell BK157.out 3).trans rfl; have hfz30_0 := blk_frozen BK157.out 0; have hfz30_1 := blk_frozen BK157.out 1; have hfz30_2 := blk_frozen BK157.out 2; have hfz30_3 := blk_frozen BK157.out 3; have hcz31_0 : w29.cell? ⟨gb156, 0, none⟩ = some (.string (⟨#[]⟩ : ByteArray)) := (blk_cell BK156.out 0).trans rfl; have hcz31_1 : w29.cell? ⟨gb156, 1, none⟩ = some (.int .i64 0) := (blk_cell BK156.out 1).trans rfl; have hcz31_2 : w29.cell? ⟨gb156, 2, none⟩ = some (.string (⟨#[]⟩ : ByteArray)) := (blk_cell BK156.out 2).trans rfl; have hcz31_3 : w29.cell? ⟨gb156, 3, none⟩ = some (.string (⟨#[]⟩ : ByteArray)) := (blk_cell BK156.out 3).trans rfl; have hfz31_0 := blk_frozen BK156.out 0; have hfz31_1 := blk_frozen BK156.out 1; have hfz31_2 := blk_frozen BK156.out 2; have hfz31_3 := blk_frozen BK156.out 3))
          refine bodyPost_ret (results_ct rfl _ _ gb156 42 #[.string t158, .int .i64 x158001_2, .string t164, .string (t165.extract 1 t165.size)] (0, 0) _ rfl (by (with_reducible repeat (first | refine blk_drewN ?_ _ | refine blk_drew ?_ | refine blk_alloc ?_ _)); refine blk_put (cs := #[.string t158, .int .i64 x158001_2, .string t164, .string (⟨#[]⟩ : ByteArray)]) ?_ 3 _ rfl; (with_reducible repeat (first | refine blk_drewN ?_ _ | refine blk_drew ?_ | refine blk_alloc ?_ _)); refine blk_put (cs := #[.string t158, .int .i64 x158001_2, .string (⟨#[]⟩ : ByteArray), .string (⟨#[]⟩ : ByteArray)]) ?_ 2 _ rfl; (with_reducible repeat (first | refine blk_drewN ?_ _ | refine blk_drew ?_ | refine blk_alloc ?_ _)); refine blk_put (cs := #[.string t158, .int .i64 0, .string (⟨#[]⟩ : ByteArray), .string (⟨#[]⟩ : ByteArray)]) ?_ 1 _ rfl; (with_reducible repeat (first | refine blk_drewN ?_ _ | refine blk_drew ?_ | refine blk_alloc ?_ _)); refine blk_put (cs := #[.string (⟨#[]⟩ : ByteArray), .int .i64 0, .string (⟨#[]⟩ : ByteArray), .string (⟨#[]⟩ : ByteArray)]) ?_ 0 _ rfl; (with_reducible repeat (first | refine blk_drewN ?_ _ | refine blk_drew ?_ | refine blk_alloc ?_ _)); exact BK156.out) Tryz.underlying42 rfl (by kernel_rfl)) rfl ?_
          exact ⟨er_, by repeat (first | (with_reducible first | exact HB.out | apply below_alloc | apply pw_below_drewN | apply below_drew1 | refine below_set ?_ GE156.out | refine below_set ?_ GE157.out) | exact HB.out)⟩
         ·
          rw [if_neg c26] at H
          have c26b0 : (t168.toList == a0.toList) = false := beq_eq_false_iff_ne.mpr c26
          have c26b1 : (t168.toList != a0.toList) = true := bne_iff_ne.mpr c26
          simp only [Option.some.injEq, Prod.mk.injEq] at H
          obtain ⟨rfl, rfl, rfl, rfl, rfl⟩ := H
          have hnb32 := NB157_156.out
          have hnc32 := NB156_157.out
          have hcz33_0 : wr.cell? ⟨gb157, 0, none⟩ = some (.string (⟨#[]⟩ : ByteArray)) := (blk_cell BK157.out 0).trans rfl
          have hcz33_1 : wr.cell? ⟨gb157, 1, none⟩ = some (.int .i64 x158001_2) := (blk_cell BK157.out 1).trans rfl
          have hcz33_2 : wr.cell? ⟨gb157, 2, none⟩ = some (.string (⟨#[]⟩ : ByteArray)) := (blk_cell BK157.out 2).trans rfl
          have hcz33_3 : wr.cell? ⟨gb157, 3, none⟩ = some (.string (⟨#[]⟩ : ByteArray)) := (blk_cell BK157.out 3).trans rfl
          have hfz33_0 := blk_frozen BK157.out 0
          have hfz33_1 := blk_frozen BK157.out 1
          have hfz33_2 := blk_frozen BK157.out 2
          have hfz33_3 := blk_frozen BK157.out 3
          go_wp2_with (first | ((with_reducible refine gate_callee (f := 28) rfl ?_); refine goesL_ (some 73) rfl rfl Tryz.func28 (by kernel_rfl) rfl #[.agg #[.string t158, .int .i64 x158001_2, .string t164, .string (t165.extract 1 t165.size)]] rfl la_ ?_; (with_reducible refine (r04_PutLabel.calls k2 t158 x158001_2 t164 (t165.extract 1 t165.size) t168 true _ A24.out).mono ?_); rintro e w34 ⟨rfl, hb⟩; refine ⟨_, rfl, ?_⟩; have n0_ := Aside0.mk (blk_below (g := gb156) (o := .cells #[.string (⟨#[]⟩ : ByteArray), .int .i64 0, .string (⟨#[]⟩ : ByteArray), .string (⟨#[]⟩ : ByteArray)] 42 (0, 0)) (by (with_reducible repeat (first | refine blk_drewN ?_ _ | refine blk_drew ?_ | refine blk_alloc ?_ _)); refine blk_far ?_ NB156_157.out _; (with_reducible repeat (first | refine blk_drewN ?_ _ | refine blk_drew ?_ | refine blk_alloc ?_ _)); refine blk_far ?_ NB156_157.out _; (with_reducible repeat (first | refine blk_drewN ?_ _ | refine blk_drew ?_ | refine blk_alloc ?_ _)); refine blk_far ?_ NB156_157.out _; (with_reducible repeat (first | refine blk_drewN ?_ _ | refine blk_drew ?_ | refine blk_alloc ?_ _)); exact BK156.out) hb); have n1_ := Aside0.mk (blk_below (g := gb157) (o := .cells #[.string t158, .int .i64 x158001_2, .string t164, .string (t165.extract 1 t165.size)] 42 (0, 0)) (by (with_reducible repeat (first | refine blk_drewN ?_ _ | refine blk_drew ?_ | refine blk_alloc ?_ _)); refine blk_put (cs := #[.string t158, .int .i64 x158001_2, .string t164, .string (⟨#[]⟩ : ByteArray)]) ?_ 3 _ rfl; (with_reducible repeat (first | refine blk_drewN ?_ _ | refine blk_drew ?_ | refine blk_alloc ?_ _)); refine blk_put (cs := #[.string t158, .int .i64 x158001_2, .string (⟨#[]⟩ : ByteArray), .string (⟨#[]⟩ : ByteArray)]) ?_ 2 _ rfl; (with_reducible repeat (first | refine blk_drewN ?_ _ | refine blk_drew ?_ | refine blk_alloc ?_ _)); refine blk_put (cs := #[.string (⟨#[]⟩ : ByteArray), .int .i64 x158001_2, .string (⟨#[]⟩ : ByteArray), .string (⟨#[]⟩ : ByteArray)]) ?_ 0 _ rfl; (with_reducible repeat (first | refine blk_drewN ?_ _ | refine blk_drew ?_ | refine blk_alloc ?_ _)); exact BK157.out) hb); have n2_ := Aside0.mk (below_step (by repeat (first | (with_reducible first | exact HB.out | apply below_alloc | apply pw_below_drewN | apply below_drew1 | refine below_set ?_ GE156.out | refine below_set ?_ GE157.out) | exact HB.out)) hb); clear BK156; clear BK157; clear HB; have BK156 := n0_; have BK157 := n1_; have HB := n2_; clear n0_ n1_ n2_; (try clear hb); (try clear hb2); (try clear hk); (try clear hi); have hcz35_0 : w34.cell? ⟨gb156, 0, none⟩ = some (.string (⟨#[]⟩ : ByteArray)) := (blk_cell BK156.out 0).trans rfl; have hcz35_1 : w34.cell? ⟨gb156, 1, none⟩ = some (.int .i64 0) := (blk_cell BK156.out 1).trans rfl; have hcz35_2 : w34.cell? ⟨gb156, 2, none⟩ = some (.string (⟨#[]⟩ : ByteArray)) := (blk_cell BK156.out 2).trans rfl; have hcz35_3 : w34.cell? ⟨gb156, 3, none⟩ = some (.string (⟨#[]⟩ : ByteArray)) := (blk_cell BK156.out 3).trans rfl; have hfz35_0 := blk_frozen BK156.out 0; have hfz35_1 := blk_frozen BK156.out 1; have hfz35_2 := blk_frozen BK156.out 2; have hfz35_3 := blk_frozen BK156.out 3))
          refine bodyPost_ret (results_ct rfl _ _ gb156 42 #[.string (⟨#[]⟩ : ByteArray), .int .i64 0, .string (⟨#[]⟩ : ByteArray), .string (⟨#[]⟩ : ByteArray)] (0, 0) _ rfl (by (with_reducible repeat (first | refine blk_drewN ?_ _ | refine blk_drew ?_ | refine blk_alloc ?_ _)); refine blk_put (cs := #[.string (⟨#[]⟩ : ByteArray), .int .i64 0, .string (⟨#[]⟩ : ByteArray), .string (⟨#[]⟩ : ByteArray)]) ?_ 3 _ rfl; (with_reducible repeat (first | refine blk_drewN ?_ _ | refine blk_drew ?_ | refine blk_alloc ?_ _)); refine blk_put (cs := #[.string (⟨#[]⟩ : ByteArray), .int .i64 0, .string (⟨#[]⟩ : ByteArray), .string (⟨#[]⟩ : ByteArray)]) ?_ 2 _ rfl; (with_reducible repeat (first | refine blk_drewN ?_ _ | refine blk_drew ?_ | refine blk_alloc ?_ _)); refine blk_put (cs := #[.string (⟨#[]⟩ : ByteArray), .int .i64 0, .string (⟨#[]⟩ : ByteArray), .string (⟨#[]⟩ : ByteArray)]) ?_ 1 _ rfl; (with_reducible repeat (first | refine blk_drewN ?_ _ | refine blk_drew ?_ | refine blk_alloc ?_ _)); refine blk_put (cs := #[.string (⟨#[]⟩ : ByteArray), .int .i64 0, .string (⟨#[]⟩ : ByteArray), .string (⟨#[]⟩ : ByteArray)]) ?_ 0 _ rfl; (with_reducible repeat (first | refine blk_drewN ?_ _ | refine blk_drew ?_ | refine blk_alloc ?_ _)); exact BK156.out) Tryz.underlying42 rfl (by kernel_rfl)) rfl ?_
          exact ⟨er_, by repeat (first | (with_reducible first | exact HB.out | apply below_alloc | apply pw_below_drewN | apply below_drew1 | refine below_set ?_ GE156.out | refine below_set ?_ GE157.out) | exact HB.out)⟩
        ·
         replace c25 := Bool.eq_false_iff.mpr c25
         subst c25
         have H1 : (some ((⟨#[]⟩ : ByteArray), 0, (⟨#[]⟩ : ByteArray), (⟨#[]⟩ : ByteArray), false)) = some (r1, r2, r3, r4, r5) := by rw [if_neg (show ¬ (false = true) by decide)] at H; exact H
         clear H
         have H := H1
         clear H1
         simp only [Option.some.injEq, Prod.mk.injEq] at H
         obtain ⟨rfl, rfl, rfl, rfl, rfl⟩ := H
         have hnb36 := NB157_156.out
         have hnc36 := NB156_157.out
         have hcz37_0 : wr.cell? ⟨gb157, 0, none⟩ = some (.string (⟨#[]⟩ : ByteArray)) := (blk_cell BK157.out 0).trans rfl
         have hcz37_1 : wr.cell? ⟨gb157, 1, none⟩ = some (.int .i64 x158001_2) := (blk_cell BK157.out 1).trans rfl
         have hcz37_2 : wr.cell? ⟨gb157, 2, none⟩ = some (.string (⟨#[]⟩ : ByteArray)) := (blk_cell BK157.out 2).trans rfl
         have hcz37_3 : wr.cell? ⟨gb157, 3, none⟩ = some (.string (⟨#[]⟩ : ByteArray)) := (blk_cell BK157.out 3).trans rfl
         have hfz37_0 := blk_frozen BK157.out 0
         have hfz37_1 := blk_frozen BK157.out 1
         have hfz37_2 := blk_frozen BK157.out 2
         have hfz37_3 := blk_frozen BK157.out 3
         go_wp2_with (first | ((with_reducible refine gate_callee (f := 28) rfl ?_); refine goesL_ (some 73) rfl rfl Tryz.func28 (by kernel_rfl) rfl #[.agg #[.string t158, .int .i64 x158001_2, .string t164, .string (t165.extract 1 t165.size)]] rfl la_ ?_; (with_reducible refine (r04_PutLabel.calls k2 t158 x158001_2 t164 (t165.extract 1 t165.size) t168 false _ A24.out).mono ?_); rintro e w38 ⟨rfl, hb⟩; refine ⟨_, rfl, ?_⟩; have n0_ := Aside0.mk (blk_below (g := gb156) (o := .cells #[.string (⟨#[]⟩ : ByteArray), .int .i64 0, .string (⟨#[]⟩ : ByteArray), .string (⟨#[]⟩ : ByteArray)] 42 (0, 0)) (by (with_reducible repeat (first | refine blk_drewN ?_ _ | refine blk_drew ?_ | refine blk_alloc ?_ _)); refine blk_far ?_ NB156_157.out _; (with_reducible repeat (first | refine blk_drewN ?_ _ | refine blk_drew ?_ | refine blk_alloc ?_ _)); refine blk_far ?_ NB156_157.out _; (with_reducible repeat (first | refine blk_drewN ?_ _ | refine blk_drew ?_ | refine blk_alloc ?_ _)); refine blk_far ?_ NB156_157.out _; (with_reducible repeat (first | refine blk_drewN ?_ _ | refine blk_drew ?_ | refine blk_alloc ?_ _)); exact BK156.out) hb); have n1_ := Aside0.mk (blk_below (g := gb157) (o := .cells #[.string t158, .int .i64 x158001_2, .string t164, .string (t165.extract 1 t165.size)] 42 (0, 0)) (by (with_reducible repeat (first | refine blk_drewN ?_ _ | refine blk_drew ?_ | refine blk_alloc ?_ _)); refine blk_put (cs := #[.string t158, .int .i64 x158001_2, .string t164, .string (⟨#[]⟩ : ByteArray)]) ?_ 3 _ rfl; (with_reducible repeat (first | refine blk_drewN ?_ _ | refine blk_drew ?_ | refine blk_alloc ?_ _)); refine blk_put (cs := #[.string t158, .int .i64 x158001_2, .string (⟨#[]⟩ : ByteArray), .string (⟨#[]⟩ : ByteArray)]) ?_ 2 _ rfl; (with_reducible repeat (first | refine blk_drewN ?_ _ | refine blk_drew ?_ | refine blk_alloc ?_ _)); refine blk_put (cs := #[.string (⟨#[]⟩ : ByteArray), .int .i64 x158001_2, .string (⟨#[]⟩ : ByteArray), .string (⟨#[]⟩ : ByteArray)]) ?_ 0 _ rfl; (with_reducible repeat (first | refine blk_drewN ?_ _ | refine blk_drew ?_ | refine blk_alloc ?_ _)); exact BK157.out) hb); have n2_ := Aside0.mk (below_step (by repeat (first | (with_reducible first | exact HB.out | apply below_alloc | apply pw_below_drewN | apply below_drew1 | refine below_set ?_ GE156.out | refine below_set ?_ GE157.out) | exact HB.out)) hb); clear BK156; clear BK157; clear HB; have BK156 := n0_; have BK157 := n1_; have HB := n2_; clear n0_ n1_ n2_; (try clear hb); (try clear hb2); (try clear hk); (try clear hi); have hcz39_0 : w38.cell? ⟨gb156, 0, none⟩ = some (.string (⟨#[]⟩ : ByteArray)) := (blk_cell BK156.out 0).trans rfl; have hcz39_1 : w38.cell? ⟨gb156, 1, none⟩ = some (.int .i64 0) := (blk_cell BK156.out 1).trans rfl; have hcz39_2 : w38.cell? ⟨gb156, 2, none⟩ = some (.string (⟨#[]⟩ : ByteArray)) := (blk_cell BK156.out 2).trans rfl; have hcz39_3 : w38.cell? ⟨gb156, 3, none⟩ = some (.string (⟨#[]⟩ : ByteArray)) := (blk_cell BK156.out 3).trans rfl; have hfz39_0 := blk_frozen BK156.out 0; have hfz39_1 := blk_frozen BK156.out 1; have hfz39_2 := blk_frozen BK156.out 2; have hfz39_3 := blk_frozen BK156.out 3))
         refine bodyPost_ret (results_ct rfl _ _ gb156 42 #[.string (⟨#[]⟩ : ByteArray), .int .i64 0, .string (⟨#[]⟩ : ByteArray), .string (⟨#[]⟩ : ByteArray)] (0, 0) _ rfl (by (with_reducible repeat (first | refine blk_drewN ?_ _ | refine blk_drew ?_ | refine blk_alloc ?_ _)); refine blk_put (cs := #[.string (⟨#[]⟩ : ByteArray), .int .i64 0, .string (⟨#[]⟩ : ByteArray), .string (⟨#[]⟩ : ByteArray)]) ?_ 3 _ rfl; (with_reducible repeat (first | refine blk_drewN ?_ _ | refine blk_drew ?_ | refine blk_alloc ?_ _)); refine blk_put (cs := #[.string (⟨#[]⟩ : ByteArray), .int .i64 0, .string (⟨#[]⟩ : ByteArray), .string (⟨#[]⟩ : ByteArray)]) ?_ 2 _ rfl; (with_reducible repeat (first | refine blk_drewN ?_ _ | refine blk_drew ?_ | refine blk_alloc ?_ _)); refine blk_put (cs := #[.string (⟨#[]⟩ : ByteArray), .int .i64 0, .string (⟨#[]⟩ : ByteArray), .string (⟨#[]⟩ : ByteArray)]) ?_ 1 _ rfl; (with_reducible repeat (first | refine blk_drewN ?_ _ | refine blk_drew ?_ | refine blk_alloc ?_ _)); refine blk_put (cs := #[.string (⟨#[]⟩ : ByteArray), .int .i64 0, .string (⟨#[]⟩ : ByteArray), .string (⟨#[]⟩ : ByteArray)]) ?_ 0 _ rfl; (with_reducible repeat (first | refine blk_drewN ?_ _ | refine blk_drew ?_ | refine blk_alloc ?_ _)); exact BK156.out) Tryz.underlying42 rfl (by kernel_rfl)) rfl ?_
         exact ⟨er_, by repeat (first | (with_reducible first | exact HB.out | apply below_alloc | apply pw_below_drewN | apply below_drew1 | refine below_set ?_ GE156.out | refine below_set ?_ GE157.out) | exact HB.out)⟩
       ·
        rw [if_neg c23] at H
        exact absurd H (by simp)
noncomputable def r04_Right.f (k : Nat) (a0_0 : Int) (a0_1 : ByteArray) : Option (Bool) := if (a0_1.size : Int) > 65536 then (some false) else (if a0_0 = 1 then (some true) else (if a0_0 = 2 then ((r04_GetTree.f k a0_1).bind fun bt171 => (some bt171.2)) else (if a0_0 = 3 then ((r04_GetChange.f k a0_1).bind fun bt175 => (some bt175.2.2.2.2)) else (if a0_0 = 4 then ((r04_GetLabel.f k a0_1).bind fun bt183 => (some bt183.2.2.2.2)) else (some false)))))
set_option maxHeartbeats 8000000 in
set_option maxRecDepth 100000 in
theorem r04_Right.calls (k : Nat) (a0_0 : Int) (a0_1 : ByteArray) (r : Bool) (w : World) (h : r04_Right.f k a0_0 a0_1 = some r) :
  Calls Tryz.prog 12 #[.agg #[.int .i64 a0_0, .string a0_1]] w fun e w' => e = .returned (.bool r) ∧ Below w.heap.size w w' := by
 have hu23 := Tryz.underlying23
 have hu40 := Tryz.underlying40
 have hu42 := Tryz.underlying42
 have HB := Aside0.mk (Below.refl w.heap.size w)
 have H : (if (a0_1.size : Int) > 65536 then (some false) else (if a0_0 = 1 then (some true) else (if a0_0 = 2 then ((r04_GetTree.f k a0_1).bind fun bt171 => (some bt171.2)) else (if a0_0 = 3 then ((r04_GetChange.f k a0_1).bind fun bt175 => (some bt175.2.2.2.2)) else (if a0_0 = 4 then ((r04_GetLabel.f k a0_1).bind fun bt183 => (some bt183.2.2.2.2)) else (some false)))))) = some r := h
 clear h
 by_cases c2 : (a0_1.size : Int) > 65536
 ·
  rw [if_pos c2] at H
  have c2b0 : decide (65536 < (a0_1.size : Int)) = true := decide_eq_true c2
  have c2b1 : decide (65536 < a0_1.size) = true := decide_eq_true (by omega)
  clear c2
  obtain rfl := Option.some.inj H
  go_enter Tryz.func12, Tryz.ntmps12
  go_wp2_with (first | ((with_reducible refine gate_dst (N := 1) rfl ?_); refine box_event ?hg (N := 1) ?hd (cs := #[.int .i64 a0_0, .string a0_1]) (t := 23) ?hr ?_; (case hd => rfl); (case hg => rfl); (case hr => first | (go_simp; done) | (go_simp; rfl)); intro gb170 hg w3 hbox hb; have n0_ := Aside0.mk (below_step bw_ hb); have n1_ := Aside0.mk (hbox); have n2_ := Aside0.mk ((by rw [hg]; exact (below_size bw_) : w.heap.size ≤ gb170)); have n3_ := Aside0.mk ((by rw [hg]; exact (below_size bw_) : w.heap.size ≤ gb170)); clear HB; have HB := n0_; have BK170 := n1_; have GW170 := n2_; have GE170 := n3_; clear n0_ n1_ n2_ n3_; clear hb hbox hg; have hcz4_0 : w3.cell? ⟨gb170, 0, none⟩ = some (.int .i64 a0_0) := (blk_cell BK170.out 0).trans rfl; have hcz4_1 : w3.cell? ⟨gb170, 1, none⟩ = some (.string a0_1) := (blk_cell BK170.out 1).trans rfl; have hfz4_0 := blk_frozen BK170.out 0; have hfz4_1 := blk_frozen BK170.out 1))
  go_ret
  exact ⟨er_, by repeat (first | (with_reducible first | exact HB.out | apply below_alloc | apply pw_below_drewN | apply below_drew1 | refine below_set ?_ GE170.out) | exact HB.out)⟩
 ·
  rw [if_neg c2] at H
  have c2b0 : decide (65536 < (a0_1.size : Int)) = false := decide_eq_false c2
  have c2b1 : decide (65536 < a0_1.size) = false := decide_eq_false (by omega)
  clear c2
  by_cases c5 : a0_0 = 1
  ·
   rw [if_pos c5] at H
   have c5b0 : (a0_0 == 1) = true := beq_iff_eq.mpr c5
   have c5b1 : (a0_0 != 1) = false := bne_eq_false_iff_eq.mpr c5
   clear c5
   obtain rfl := Option.some.inj H
   go_enter Tryz.func12, Tryz.ntmps12
   go_wp2_with (first | ((with_reducible refine gate_dst (N := 1) rfl ?_); refine box_event ?hg (N := 1) ?hd (cs := #[.int .i64 a0_0, .string a0_1]) (t := 23) ?hr ?_; (case hd => rfl); (case hg => rfl); (case hr => first | (go_simp; done) | (go_simp; rfl)); intro gb170 hg w6 hbox hb; have n0_ := Aside0.mk (below_step bw_ hb); have n1_ := Aside0.mk (hbox); have n2_ := Aside0.mk ((by rw [hg]; exact (below_size bw_) : w.heap.size ≤ gb170)); have n3_ := Aside0.mk ((by rw [hg]; exact (below_size bw_) : w.heap.size ≤ gb170)); clear HB; have HB := n0_; have BK170 := n1_; have GW170 := n2_; have GE170 := n3_; clear n0_ n1_ n2_ n3_; clear hb hbox hg; have hcz7_0 : w6.cell? ⟨gb170, 0, none⟩ = some (.int .i64 a0_0) := (blk_cell BK170.out 0).trans rfl; have hcz7_1 : w6.cell? ⟨gb170, 1, none⟩ = some (.string a0_1) := (blk_cell BK170.out 1).trans rfl; have hfz7_0 := blk_frozen BK170.out 0; have hfz7_1 := blk_frozen BK170.out 1))
   go_ret
   exact ⟨er_, by repeat (first | (with_reducible first | exact HB.out | apply below_alloc | apply pw_below_drewN | apply below_drew1 | refine below_set ?_ GE170.out) | exact HB.out)⟩
  ·
   rw [if_neg c5] at H
   have c5b0 : (a0_0 == 1) = false := beq_eq_false_iff_ne.mpr c5
   have c5b1 : (a0_0 != 1) = true := bne_iff_ne.mpr c5
   by_cases c8 : a0_0 = 2
   ·
    rw [if_pos c8] at H
    have c8b0 : (a0_0 == 2) = true := beq_iff_eq.mpr c8
    have c8b1 : (a0_0 != 2) = false := bne_eq_false_iff_eq.mpr c8
    clear c8
    replace H := Option.bind_eq_some_iff.mp H
    obtain ⟨⟨t171, t172⟩, A90, H⟩ := H
    replace H : (some t172) = some r := H
    have A9 := Aside0.mk A90
    clear A90
    obtain rfl := Option.some.inj H
    go_enter Tryz.func12, Tryz.ntmps12
    go_wp2_with (first | ((with_reducible refine gate_dst (N := 1) rfl ?_); refine box_event ?hg (N := 1) ?hd (cs := #[.int .i64 a0_0, .string a0_1]) (t := 23) ?hr ?_; (case hd => rfl); (case hg => rfl); (case hr => first | (go_simp; done) | (go_simp; rfl)); intro gb170 hg w10 hbox hb; have n0_ := Aside0.mk (below_step bw_ hb); have n1_ := Aside0.mk (hbox); have n2_ := Aside0.mk ((by rw [hg]; exact (below_size bw_) : w.heap.size ≤ gb170)); have n3_ := Aside0.mk ((by rw [hg]; exact (below_size bw_) : w.heap.size ≤ gb170)); clear HB; have HB := n0_; have BK170 := n1_; have GW170 := n2_; have GE170 := n3_; clear n0_ n1_ n2_ n3_; clear hb hbox hg; have hcz11_0 : w10.cell? ⟨gb170, 0, none⟩ = some (.int .i64 a0_0) := (blk_cell BK170.out 0).trans rfl; have hcz11_1 : w10.cell? ⟨gb170, 1, none⟩ = some (.string a0_1) := (blk_cell BK170.out 1).trans rfl; have hfz11_0 := blk_frozen BK170.out 0; have hfz11_1 := blk_frozen BK170.out 1) | ((with_reducible refine gate_callee (f := 22) rfl ?_); refine goesL_ (some 23) rfl rfl Tryz.func22 (by kernel_rfl) rfl #[.string a0_1] rfl la_ ?_; (with_reducible refine (r04_GetTree.calls k a0_1 t171 t172 _ A9.out).mono ?_); rintro e w12 ⟨v173, rfl, ho0, hb⟩; refine ⟨_, rfl, ?_⟩; have n0_ := Aside0.mk (Kd.R_lower ho0 (below_size (by repeat (first | (with_reducible first | exact HB.out | apply below_alloc | apply pw_below_drewN | apply below_drew1 | refine below_set ?_ GE170.out) | exact HB.out)))); have n1_ := Aside0.mk (blk_below (g := gb170) (o := .cells #[.int .i64 a0_0, .string a0_1] 23 (0, 0)) (by (with_reducible repeat (first | refine blk_drewN ?_ _ | refine blk_drew ?_ | refine blk_alloc ?_ _)); exact BK170.out) hb); have n2_ := Aside0.mk (below_step (by repeat (first | (with_reducible first | exact HB.out | apply below_alloc | apply pw_below_drewN | apply below_drew1 | refine below_set ?_ GE170.out) | exact HB.out)) hb); clear BK170; clear HB; have HO174 := n0_; have BK170 := n1_; have HB := n2_; clear n0_ n1_ n2_; (try clear hb); (try clear hb2); (try clear hk); (try clear hi); (try clear ho0)))
    go_ret
    exact ⟨er_, by repeat (first | (with_reducible first | exact HB.out | apply below_alloc | apply pw_below_drewN | apply below_drew1 | refine below_set ?_ GE170.out) | exact HB.out)⟩
   ·
    rw [if_neg c8] at H
    have c8b0 : (a0_0 == 2) = false := beq_eq_false_iff_ne.mpr c8
    have c8b1 : (a0_0 != 2) = true := bne_iff_ne.mpr c8
    by_cases c13 : a0_0 = 3
    ·
     rw [if_pos c13] at H
     have c13b0 : (a0_0 == 3) = true := beq_iff_eq.mpr c13
     have c13b1 : (a0_0 != 3) = false := bne_eq_false_iff_eq.mpr c13
     clear c13
     replace H := Option.bind_eq_some_iff.mp H
     obtain ⟨⟨t175, t176, t179, t180, t181⟩, A140, H⟩ := H
     replace H : (some t181) = some r := H
     have A14 := Aside0.mk A140
     clear A140
     obtain rfl := Option.some.inj H
     go_enter Tryz.func12, Tryz.ntmps12
     go_wp2_with (first | ((with_reducible refine gate_dst (N := 1) rfl ?_); refine box_event ?hg (N := 1) ?hd (cs := #[.int .i64 a0_0, .string a0_1]) (t := 23) ?hr ?_; (case hd => rfl); (case hg => rfl); (case hr => first | (go_simp; done) | (go_simp; rfl)); intro gb170 hg w15 hbox hb; have n0_ := Aside0.mk (below_step bw_ hb); have n1_ := Aside0.mk (hbox); have n2_ := Aside0.mk ((by rw [hg]; exact (below_size bw_) : w.heap.size ≤ gb170)); have n3_ := Aside0.mk ((by rw [hg]; exact (below_size bw_) : w.heap.size ≤ gb170)); clear HB; have HB := n0_; have BK170 := n1_; have GW170 := n2_; have GE170 := n3_; clear n0_ n1_ n2_ n3_; clear hb hbox hg; have hcz16_0 : w15.cell? ⟨gb170, 0, none⟩ = some (.int .i64 a0_0) := (blk_cell BK170.out 0).trans rfl; have hcz16_1 : w15.cell? ⟨gb170, 1, none⟩ = some (.string a0_1) := (blk_cell BK170.out 1).trans rfl; have hfz16_0 := blk_frozen BK170.out 0; have hfz16_1 := blk_frozen BK170.out 1) | ((with_reducible refine gate_callee (f := 30) rfl ?_); refine goesL_ (some 32) rfl rfl Tryz.func30 (by kernel_rfl) rfl #[.string a0_1] rfl la_ ?_; (with_reducible refine (r04_GetChange.calls k a0_1 t175 t176 t179 t180 t181 _ A14.out).mono ?_); rintro e w17 ⟨v177, rfl, ho0, hb⟩; refine ⟨_, rfl, ?_⟩; have n0_ := Aside0.mk (Kd.R_lower ho0 (below_size (by repeat (first | (with_reducible first | exact HB.out | apply below_alloc | apply pw_below_drewN | apply below_drew1 | refine below_set ?_ GE170.out) | exact HB.out)))); have n1_ := Aside0.mk (blk_below (g := gb170) (o := .cells #[.int .i64 a0_0, .string a0_1] 23 (0, 0)) (by (with_reducible repeat (first | refine blk_drewN ?_ _ | refine blk_drew ?_ | refine blk_alloc ?_ _)); exact BK170.out) hb); have n2_ := Aside0.mk (below_step (by repeat (first | (with_reducible first | exact HB.out | apply below_alloc | apply pw_below_drewN | apply below_drew1 | refine below_set ?_ GE170.out) | exact HB.out)) hb); clear BK170; clear HB; have HO178 := n0_; have BK170 := n1_; have HB := n2_; clear n0_ n1_ n2_; (try clear hb); (try clear hb2); (try clear hk); (try clear hi); (try clear ho0)) | ((with_reducible refine gate_dst (N := 6) rfl ?_); refine box_event ?hg (N := 6) ?hd (cs := #[.string (⟨#[]⟩ : ByteArray), .slice none 0 0, .string (⟨#[]⟩ : ByteArray), .string (⟨#[]⟩ : ByteArray)]) (t := 40) ?hr ?_; (case hd => rfl); (case hg => rfl); (case hr => first | (go_simp; done) | (go_simp; rfl)); intro gb182 hg w18 hbox hb; have n0_ := Aside0.mk (Kd.R_below (by (with_reducible repeat (first | apply Kd.R_alloc | apply Kd.R_drewN | apply Kd.R_drew)); exact HO178.out) hb); have n1_ := Aside0.mk (blk_below (g := gb170) (o := .cells #[.int .i64 a0_0, .string a0_1] 23 (0, 0)) (by (with_reducible repeat (first | refine blk_drewN ?_ _ | refine blk_drew ?_ | refine blk_alloc ?_ _)); exact BK170.out) hb); have n2_ := Aside0.mk (below_step (by repeat (first | (with_reducible first | exact HB.out | apply below_alloc | apply pw_below_drewN | apply below_drew1 | refine below_set ?_ GE170.out) | exact HB.out)) hb); have n3_ := Aside0.mk (hbox); have n4_ := Aside0.mk ((by rw [hg]; exact (below_size (by repeat (first | (with_reducible first | exact HB.out | apply below_alloc | apply pw_below_drewN | apply below_drew1 | refine below_set ?_ GE170.out) | exact HB.out))) : w.heap.size ≤ gb182)); have n5_ := Aside0.mk ((by rw [hg]; exact (below_size (by repeat (first | (with_reducible first | exact HB.out | apply below_alloc | apply pw_below_drewN | apply below_drew1 | refine below_set ?_ GE170.out) | exact HB.out))) : w.heap.size ≤ gb182)); have n6_ := Aside0.mk ((by rw [hg]; exact Nat.ne_of_lt (blk_lt (g := gb170) (o := .cells #[.int .i64 a0_0, .string a0_1] 23 (0, 0)) (by (with_reducible repeat (first | refine blk_drewN ?_ _ | refine blk_drew ?_ | refine blk_alloc ?_ _)); exact BK170.out)) : gb170 ≠ gb182)); have n7_ := Aside0.mk ((by rw [hg]; exact Nat.ne_of_gt (blk_lt (g := gb170) (o := .cells #[.int .i64 a0_0, .string a0_1] 23 (0, 0)) (by (with_reducible repeat (first | refine blk_drewN ?_ _ | refine blk_drew ?_ | refine blk_alloc ?_ _)); exact BK170.out)) : gb182 ≠ gb170)); clear HO178; clear BK170; clear HB; have HO178 := n0_; have BK170 := n1_; have HB := n2_; have BK182 := n3_; have GW182 := n4_; have GE182 := n5_; have NB170_182 := n6_; have NB182_170 := n7_; clear n0_ n1_ n2_ n3_ n4_ n5_ n6_ n7_; clear hb hbox hg; have hnb19 := NB182_170.out; have hnc19 := NB170_182.out; have hcz20_0 : w18.cell? ⟨gb182, 0, none⟩ = some (.string (⟨#[]⟩ : ByteArray)) := (blk_cell BK182.out 0).trans rfl; have hcz20_1 : w18.cell? ⟨gb182, 1, none⟩ = some (.slice none 0 0) := (blk_cell BK182.out 1).trans rfl; have hcz20_2 : w18.cell? ⟨gb182, 2, none⟩ = some (.string (⟨#[]⟩ : ByteArray)) := (blk_cell BK182.out 2).trans rfl; have hcz20_3 : w18.cell? ⟨gb182, 3, none⟩ = some (.string (⟨#[]⟩ : ByteArray)) := (blk_cell BK182.out 3).trans rfl; have hfz20_0 := blk_frozen BK182.out 0; have hfz20_1 := blk_frozen BK182.out 1; have hfz20_2 := blk_frozen BK182.out 2; have hfz20_3 := blk_frozen BK182.out 3; obtain ⟨Ao21, co21, eo21⟩ := Kd.R_slice HO178.out; subst eo21))
     go_ret
     exact ⟨er_, by repeat (first | (with_reducible first | exact HB.out | apply below_alloc | apply pw_below_drewN | apply below_drew1 | refine below_set ?_ GE170.out | refine below_set ?_ GE182.out) | exact HB.out)⟩
    ·
     rw [if_neg c13] at H
     have c13b0 : (a0_0 == 3) = false := beq_eq_false_iff_ne.mpr c13
     have c13b1 : (a0_0 != 3) = true := bne_iff_ne.mpr c13
     by_cases c22 : a0_0 = 4
     ·
      rw [if_pos c22] at H
      have c22b0 : (a0_0 == 4) = true := beq_iff_eq.mpr c22
      have c22b1 : (a0_0 != 4) = false := bne_eq_false_iff_eq.mpr c22
      clear c22
      replace H := Option.bind_eq_some_iff.mp H
      obtain ⟨⟨t183, t184, t185, t186, t187⟩, A230, H⟩ := H
      replace H : (some t187) = some r := H
      have A23 := Aside0.mk A230
      clear A230
      obtain rfl := Option.some.inj H
      go_enter Tryz.func12, Tryz.ntmps12
      go_wp2_with (first | ((with_reducible refine gate_dst (N := 1) rfl ?_); refine box_event ?hg (N := 1) ?hd (cs := #[.int .i64 a0_0, .string a0_1]) (t := 23) ?hr ?_; (case hd => rfl); (case hg => rfl); (case hr => first | (go_simp; done) | (go_simp; rfl)); intro gb170 hg w24 hbox hb; have n0_ := Aside0.mk (below_step bw_ hb); have n1_ := Aside0.mk (hbox); have n2_ := Aside0.mk ((by rw [hg]; exact (below_size bw_) : w.heap.size ≤ gb170)); have n3_ := Aside0.mk ((by rw [hg]; exact (below_size bw_) : w.heap.size ≤ gb170)); clear HB; have HB := n0_; have BK170 := n1_; have GW170 := n2_; have GE170 := n3_; clear n0_ n1_ n2_ n3_; clear hb hbox hg; have hcz25_0 : w24.cell? ⟨gb170, 0, none⟩ = some (.int .i64 a0_0) := (blk_cell BK170.out 0).trans rfl; have hcz25_1 : w24.cell? ⟨gb170, 1, none⟩ = some (.string a0_1) := (blk_cell BK170.out 1).trans rfl; have hfz25_0 := blk_frozen BK170.out 0; have hfz25_1 := blk_frozen BK170.out 1) | ((with_reducible refine gate_callee (f := 32) rfl ?_); refine goesL_ (some 41) rfl rfl Tryz.func32 (by kernel_rfl) rfl #[.string a0_1] rfl la_ ?_; (with_reducible refine (r04_GetLabel.calls k a0_1 t183 t184 t185 t186 t187 _ A23.out).mono ?_); rintro e w26 ⟨rfl, hb⟩; refine ⟨_, rfl, ?_⟩; have n0_ := Aside0.mk (blk_below (g := gb170) (o := .cells #[.int .i64 a0_0, .string a0_1] 23 (0, 0)) (by (with_reducible repeat (first | refine blk_drewN ?_ _ | refine blk_drew ?_ | refine blk_alloc ?_ _)); exact BK170.out) hb); have n1_ := Aside0.mk (below_step (by repeat (first | (with_reducible first | exact HB.out | apply below_alloc | apply pw_below_drewN | apply below_drew1 | refine below_set ?_ GE170.out) | exact HB.out)) hb); clear BK170; clear HB; have BK170 := n0_; have HB := n1_; clear n0_ n1_; (try clear hb); (try clear hb2); (try clear hk); (try clear hi)) | ((with_reducible refine gate_dst (N := 8) rfl ?_); refine box_event ?hg (N := 8) ?hd (cs := #[.string (⟨#[]⟩ : ByteArray), .int .i64 0, .string (⟨#[]⟩ : ByteArray), .string (⟨#[]⟩ : ByteArray)]) (t := 42) ?hr ?_; (case hd => rfl); (case hg => rfl); (case hr => first | (go_simp; done) | (go_simp; rfl)); intro gb188 hg w27 hbox hb; have n0_ := Aside0.mk (blk_below (g := gb170) (o := .cells #[.int .i64 a0_0, .string a0_1] 23 (0, 0)) (by (with_reducible repeat (first | refine blk_drewN ?_ _ | refine blk_drew ?_ | refine blk_alloc ?_ _)); exact BK170.out) hb); have n1_ := Aside0.mk (below_step (by repeat (first | (with_reducible first | exact HB.out | apply below_alloc | apply pw_below_drewN | apply below_drew1 | refine below_set ?_ GE170.out) | exact HB.out)) hb); have n2_ := Aside0.mk (hbox); have n3_ := Aside0.mk ((by rw [hg]; exact (below_size (by repeat (first | (with_reducible first | exact HB.out | apply below_alloc | apply pw_below_drewN | apply below_drew1 | refine below_set ?_ GE170.out) | exact HB.out))) : w.heap.size ≤ gb188)); have n4_ := Aside0.mk ((by rw [hg]; exact (below_size (by repeat (first | (with_reducible first | exact HB.out | apply below_alloc | apply pw_below_drewN | apply below_drew1 | refine below_set ?_ GE170.out) | exact HB.out))) : w.heap.size ≤ gb188)); have n5_ := Aside0.mk ((by rw [hg]; exact Nat.ne_of_lt (blk_lt (g := gb170) (o := .cells #[.int .i64 a0_0, .string a0_1] 23 (0, 0)) (by (with_reducible repeat (first | refine blk_drewN ?_ _ | refine blk_drew ?_ | refine blk_alloc ?_ _)); exact BK170.out)) : gb170 ≠ gb188)); have n6_ := Aside0.mk ((by rw [hg]; exact Nat.ne_of_gt (blk_lt (g := gb170) (o := .cells #[.int .i64 a0_0, .string a0_1] 23 (0, 0)) (by (with_reducible repeat (first | refine blk_drewN ?_ _ | refine blk_drew ?_ | refine blk_alloc ?_ _)); exact BK170.out)) : gb188 ≠ gb170)); clear BK170; clear HB; have BK170 := n0_; have HB := n1_; have BK188 := n2_; have GW188 := n3_; have GE188 := n4_; have NB170_188 := n5_; have NB188_170 := n6_; clear n0_ n1_ n2_ n3_ n4_ n5_ n6_; clear hb hbox hg; have hnb28 := NB188_170.out; have hnc28 := NB170_188.out; have hcz29_0 : w27.cell? ⟨gb188, 0, none⟩ = some (.string (⟨#[]⟩ : ByteArray)) := (blk_cell BK188.out 0).trans rfl; have hcz29_1 : w27.cell? ⟨gb188, 1, none⟩ = some (.int .i64 0) := (blk_cell BK188.out 1).trans rfl; have hcz29_2 : w27.cell? ⟨gb188, 2, none⟩ = some (.string (⟨#[]⟩ : ByteArray)) := (blk_cell BK188.out 2).trans rfl; have hcz29_3 : w27.cell? ⟨gb188, 3, none⟩ = some (.string (⟨#[]⟩ : ByteArray)) := (blk_cell BK188.out 3).trans rfl; have hfz29_0 := blk_frozen BK188.out 0; have hfz29_1 := blk_frozen BK188.out 1; have hfz29_2 := blk_frozen BK188.out 2; have hfz29_3 := blk_frozen BK188.out 3))
      go_ret
      exact ⟨er_, by repeat (first | (with_reducible first | exact HB.out | apply below_alloc | apply pw_below_drewN | apply below_drew1 | refine below_set ?_ GE170.out | refine below_set ?_ GE188.out) | exact HB.out)⟩
     ·
      rw [if_neg c22] at H
      have c22b0 : (a0_0 == 4) = false := beq_eq_false_iff_ne.mpr c22
      have c22b1 : (a0_0 != 4) = true := bne_iff_ne.mpr c22
      obtain rfl := Option.some.inj H
      go_enter Tryz.func12, Tryz.ntmps12
      go_wp2_with (first | ((with_reducible refine gate_dst (N := 1) rfl ?_); refine box_event ?hg (N := 1) ?hd (cs := #[.int .i64 a0_0, .string a0_1]) (t := 23) ?hr ?_; (case hd => rfl); (case hg => rfl); (case hr => first | (go_simp; done) | (go_simp; rfl)); intro gb170 hg w30 hbox hb; have n0_ := Aside0.mk (below_step bw_ hb); have n1_ := Aside0.mk (hbox); have n2_ := Aside0.mk ((by rw [hg]; exact (below_size bw_) : w.heap.size ≤ gb170)); have n3_ := Aside0.mk ((by rw [hg]; exact (below_size bw_) : w.heap.size ≤ gb170)); clear HB; have HB := n0_; have BK170 := n1_; have GW170 := n2_; have GE170 := n3_; clear n0_ n1_ n2_ n3_; clear hb hbox hg; have hcz31_0 : w30.cell? ⟨gb170, 0, none⟩ = some (.int .i64 a0_0) := (blk_cell BK170.out 0).trans rfl; have hcz31_1 : w30.cell? ⟨gb170, 1, none⟩ = some (.string a0_1) := (blk_cell BK170.out 1).trans rfl; have hfz31_0 := blk_frozen BK170.out 0; have hfz31_1 := blk_frozen BK170.out 1))
      go_ret
      exact ⟨er_, by repeat (first | (with_reducible first | exact HB.out | apply below_alloc | apply pw_below_drewN | apply below_drew1 | refine below_set ?_ GE170.out) | exact HB.out)⟩
end Go.Proofs.YtefefhhaopjccaaGreatDoor.PObDoc

namespace Go.Proofs.YtefefhhaopjccaaGreatDoor.PObDoc
open Go.Proofs.YtefefhhaopjccaaGreatDoor.PObBase
open Go.RowKit Go.Proofs.YtefefhhaopjccaaGreatDoorW.PrintWords Go.Proofs.YtefefhhaopjccaaGreatDoorW.PrintLast Go.Proofs.YtefefhhaopjccaaGreatDoorW.PrintMore
attribute [local go_sem] StrSem.leq_str StrSem.geq_str StrSem.gtr_str max2_int min2_int max_two min_two max_three min_three max_four min_four   -- for this text's walks alone
set_option linter.unusedVariables false
set_option linter.unusedSimpArgs false
mutual
noncomputable def r04_Wants.l0 : Nat → List (S58) → List (S54) → Int → Option ((List (S58)))
 | 0, _, _, _ => none
 | k + 1, x3, x4, x6 => if x6 < (x4.length : Int) then (if 0 ≤ x6 then (if ((rd_T54 x4 x6).f0) = 3 then (if x3.length < 5864062014805 then (r04_Wants.l0 k (x3 ++ [(⟨(rd_T54 x4 x6).f2, 2⟩ : S58)]) x4 (wrap64 (x6 + 1))) else (none)) else (if x3.length < 5864062014805 then (r04_Wants.l0 k (x3 ++ [(⟨(rd_T54 x4 x6).f2, 1⟩ : S58)]) x4 (wrap64 (x6 + 1))) else (none))) else (none)) else (some x3)
noncomputable def r04_Wants.l1 : Nat → List (S58) → Int → ByteArray → List ByteArray → ByteArray → ByteArray → Option ((List (S58)))
 | 0, _, _, _, _, _, _ => none
 | k + 1, x3, x10, x212000, x212001, x212002, x212003 => if x10 < (x212001.length : Int) then (if 0 ≤ x10 then (if x3.length < 5864062014805 then (r04_Wants.l1 k (x3 ++ [(⟨rdOf ByteArray.empty x212001 x10, 3⟩ : S58)]) (wrap64 (x10 + 1)) x212000 x212001 x212002 x212003) else (none)) else (none)) else (some x3)
end
noncomputable def r04_Wants.f (k : Nat) (a0_0 : Int) (a0_1 : ByteArray) : Option ((List (S58))) := (r04_Right.f k a0_0 a0_1).bind fun t190 => (if t190 = true then (if a0_0 = 2 then ((r04_GetTree.f k a0_1).bind fun bt191 => (r04_Wants.l0 k ([] : List (S58)) bt191.1 0)) else (if a0_0 = 3 then ((r04_GetChange.f k a0_1).bind fun bt204 => (if ([] : List (S58)).length < 5864062014805 then (r04_Wants.l1 k (([] : List (S58)) ++ [(⟨bt204.1, 2⟩ : S58)]) 0 bt204.1 bt204.2.1 bt204.2.2.1 bt204.2.2.2.1) else (none))) else (if a0_0 = 4 then ((r04_GetLabel.f k a0_1).bind fun bt219 => (if ([] : List (S58)).length < 5864062014805 then (some (([] : List (S58)) ++ [(⟨bt219.1, bt219.2.1⟩ : S58)])) else (none))) else (some ([] : List (S58)))))) else (some ([] : List (S58))))
set_option maxHeartbeats 8000000 in
set_option maxRecDepth 100000 in
theorem r04_Wants.calls (k : Nat) (a0_0 : Int) (a0_1 : ByteArray) (r : List (S58)) (w : World) (h : r04_Wants.f k a0_0 a0_1 = some r) :
  Calls Tryz.prog 17 #[.agg #[.int .i64 a0_0, .string a0_1]] w fun e w' => ∃ v0_ : Value, e = .returned (v0_) ∧ Kd.R k58 58 w' w.heap.size (fun _ => True) v0_ r ∧ Below w.heap.size w w' := by
 have hu23 := Tryz.underlying23
 have hu58 := Tryz.underlying58
 have hu40 := Tryz.underlying40
 have hu42 := Tryz.underlying42
 have HB := Aside0.mk (Below.refl w.heap.size w)
 have H : ((r04_Right.f k a0_0 a0_1).bind fun t190 => (if t190 = true then (if a0_0 = 2 then ((r04_GetTree.f k a0_1).bind fun bt191 => (r04_Wants.l0 k ([] : List (S58)) bt191.1 0)) else (if a0_0 = 3 then ((r04_GetChange.f k a0_1).bind fun bt204 => (if ([] : List (S58)).length < 5864062014805 then (r04_Wants.l1 k (([] : List (S58)) ++ [(⟨bt204.1, 2⟩ : S58)]) 0 bt204.1 bt204.2.1 bt204.2.2.1 bt204.2.2.2.1) else (none))) else (if a0_0 = 4 then ((r04_GetLabel.f k a0_1).bind fun bt219 => (if ([] : List (S58)).length < 5864062014805 then (some (([] : List (S58)) ++ [(⟨bt219.1, bt219.2.1⟩ : S58)])) else (none))) else (some ([] : List (S58)))))) else (some ([] : List (S58))))) = some r := h
 clear h
 replace H := Option.bind_eq_some_iff.mp H
 obtain ⟨t190, A20, H⟩ := H
 replace H : (if t190 = true then (if a0_0 = 2 then ((r04_GetTree.f k a0_1).bind fun bt191 => (r04_Wants.l0 k ([] : List (S58)) bt191.1 0)) else (if a0_0 = 3 then ((r04_GetChange.f k a0_1).bind fun bt204 => (if ([] : List (S58)).length < 5864062014805 then (r04_Wants.l1 k (([] : List (S58)) ++ [(⟨bt204.1, 2⟩ : S58)]) 0 bt204.1 bt204.2.1 bt204.2.2.1 bt204.2.2.2.1) else (none))) else (if a0_0 = 4 then ((r04_GetLabel.f k a0_1).bind fun bt219 => (if ([] : List (S58)).length < 5864062014805 then (some (([] : List (S58)) ++ [(⟨bt219.1, bt219.2.1⟩ : S58)])) else (none))) else (some ([] : List (S58)))))) else (some ([] : List (S58)))) = some r := H
 have A2 := Aside0.mk A20
 clear A20
 by_cases c3 : t190 = true
 ·
  subst c3
  have H1 : (if a0_0 = 2 then ((r04_GetTree.f k a0_1).bind fun bt191 => (r04_Wants.l0 k ([] : List (S58)) bt191.1 0)) else (if a0_0 = 3 then ((r04_GetChange.f k a0_1).bind fun bt204 => (if ([] : List (S58)).length < 5864062014805 then (r04_Wants.l1 k (([] : List (S58)) ++ [(⟨bt204.1, 2⟩ : S58)]) 0 bt204.1 bt204.2.1 bt204.2.2.1 bt204.2.2.2.1) else (none))) else (if a0_0 = 4 then ((r04_GetLabel.f k a0_1).bind fun bt219 => (if ([] : List (S58)).length < 5864062014805 then (some (([] : List (S58)) ++ [(⟨bt219.1, bt219.2.1⟩ : S58)])) else (none))) else (some ([] : List (S58)))))) = some r := by rw [if_pos rfl] at H; exact H
  clear H
  have H := H1
  clear H1
  by_cases c4 : a0_0 = 2
  ·
   rw [if_pos c4] at H
   have c4b0 : (a0_0 == 2) = true := beq_iff_eq.mpr c4
   have c4b1 : (a0_0 != 2) = false := bne_eq_false_iff_eq.mpr c4
   clear c4
   replace H := Option.bind_eq_some_iff.mp H
   obtain ⟨⟨t191, t192⟩, A50, H⟩ := H
   replace H : (r04_Wants.l0 k ([] : List (S58)) t191 0) = some r := H
   have A5 := Aside0.mk A50
   clear A50
   have H' := Aside0.mk H
   clear H
   go_enter Tryz.func17, Tryz.ntmps17
   go_wp2_with (first | ((with_reducible refine gate_dst (N := 1) rfl ?_); refine box_event ?hg (N := 1) ?hd (cs := #[.int .i64 a0_0, .string a0_1]) (t := 23) ?hr ?_; (case hd => rfl); (case hg => rfl); (case hr => first | (go_simp; done) | (go_simp; rfl)); intro gb189 hg w6 hbox hb; have n0_ := Aside0.mk (below_step bw_ hb); have n1_ := Aside0.mk (hbox); have n2_ := Aside0.mk ((by rw [hg]; exact (below_size bw_) : w.heap.size ≤ gb189)); have n3_ := Aside0.mk ((by rw [hg]; exact (below_size bw_) : w.heap.size ≤ gb189)); clear HB; have HB := n0_; have BK189 := n1_; have GW189 := n2_; have GE189 := n3_; clear n0_ n1_ n2_ n3_; clear hb hbox hg; have hcz7_0 : w6.cell? ⟨gb189, 0, none⟩ = some (.int .i64 a0_0) := (blk_cell BK189.out 0).trans rfl; have hcz7_1 : w6.cell? ⟨gb189, 1, none⟩ = some (.string a0_1) := (blk_cell BK189.out 1).trans rfl; have hfz7_0 := blk_frozen BK189.out 0; have hfz7_1 := blk_frozen BK189.out 1) | ((with_reducible refine gate_callee (f := 12) rfl ?_); refine goesL_ (some 14) rfl rfl Tryz.func12 (by kernel_rfl) rfl #[.agg #[.int .i64 a0_0, .string a0_1]] rfl la_ ?_; (with_reducible refine (r04_Right.calls k a0_0 a0_1 true _ A2.out).mono ?_); rintro e w8 ⟨rfl, hb⟩; refine ⟨_, rfl, ?_⟩; have n0_ := Aside0.mk (blk_below (g := gb189) (o := .cells #[.int .i64 a0_0, .string a0_1] 23 (0, 0)) (by (with_reducible repeat (first | refine blk_drewN ?_ _ | refine blk_drew ?_ | refine blk_alloc ?_ _)); exact BK189.out) hb); have n1_ := Aside0.mk (below_step (by repeat (first | (with_reducible first | exact HB.out | apply below_alloc | apply pw_below_drewN | apply below_drew1 | refine below_set ?_ GE189.out) | exact HB.out)) hb); clear BK189; clear HB; have BK189 := n0_; have HB := n1_; clear n0_ n1_; (try clear hb); (try clear hb2); (try clear hk); (try clear hi); have hcz9_0 : w8.cell? ⟨gb189, 0, none⟩ = some (.int .i64 a0_0) := (blk_cell BK189.out 0).trans rfl; have hcz9_1 : w8.cell? ⟨gb189, 1, none⟩ = some (.string a0_1) := (blk_cell BK189.out 1).trans rfl; have hfz9_0 := blk_frozen BK189.out 0; have hfz9_1 := blk_frozen BK189.out 1) | ((with_reducible refine gate_callee (f := 22) rfl ?_); refine goesL_ (some 23) rfl rfl Tryz.func22 (by kernel_rfl) rfl #[.string a0_1] rfl la_ ?_; (with_reducible refine (r04_GetTree.calls k a0_1 t191 t192 _ A5.out).mono ?_); rintro e w10 ⟨v193, rfl, ho0, hb⟩; refine ⟨_, rfl, ?_⟩; have n0_ := Aside0.mk (Kd.R_lower ho0 (below_size (by repeat (first | (with_reducible first | exact HB.out | apply below_alloc | apply pw_below_drewN | apply below_drew1 | refine below_set ?_ GE189.out) | exact HB.out)))); have n1_ := Aside0.mk (blk_below (g := gb189) (o := .cells #[.int .i64 a0_0, .string a0_1] 23 (0, 0)) (by (with_reducible repeat (first | refine blk_drewN ?_ _ | refine blk_drew ?_ | refine blk_alloc ?_ _)); exact BK189.out) hb); have n2_ := Aside0.mk (below_step (by repeat (first | (with_reducible first | exact HB.out | apply below_alloc | apply pw_below_drewN | apply below_drew1 | refine below_set ?_ GE189.out) | exact HB.out)) hb); clear BK189; clear HB; have HO194 := n0_; have BK189 := n1_; have HB := n2_; clear n0_ n1_ n2_; (try clear hb); (try clear hb2); (try clear hk); (try clear hi); (try clear ho0)))
   go_loopg [3, 6] k (fun kq v3 v6 w' => ∃ (x3_1 : List (S58)) (x6_1 : Int), v6 = .int .i64 x6_1 ∧ Aside0 (r04_Wants.l0 kq x3_1 t191 x6_1 = some r) ∧ Aside0 (kq ≤ k) ∧ Aside0 (Kd.R k58 58 w' w.heap.size (fun _ => True) v3 x3_1) ∧ Aside0 (Kd.R k54 54 w' w.heap.size (fun _ => True) v193 t191) ∧ Aside0 (w'.heap[gb189]? = some (.cells #[.int .i64 a0_0, .string a0_1] 23 (0, 0))) ∧ Aside0 (Below w.heap.size w w'))
   case atStart => exact ⟨(([] : List (S58))), (0), sd_, H', ⟨Nat.le_refl _⟩, ⟨kn_⟩, ⟨by (with_reducible repeat (first | apply Kd.R_alloc | apply Kd.R_drewN | apply Kd.R_drew)); exact HO194.out⟩, ⟨by (with_reducible repeat (first | refine blk_drewN ?_ _ | refine blk_drew ?_ | refine blk_alloc ?_ _)); exact BK189.out⟩, ⟨by repeat (first | (with_reducible first | exact HB.out | apply below_alloc | apply pw_below_drewN | apply below_drew1 | refine below_set ?_ GE189.out) | exact HB.out)⟩⟩
   case round =>
    clear H'
    try clear c1
    try clear c2
    try clear p2
    try clear c3
    try clear c4
    try clear c4b0
    try clear c4b1
    try clear hcz7_0
    try clear hcz7_1
    try clear hcz9_0
    try clear hcz9_1
    try clear hfz7_0
    try clear hfz7_1
    try clear hfz9_0
    try clear hfz9_1
    obtain ⟨x3_1, x6_1, rfl, HA, HK1, HO_3, HO_4, BK189, HB⟩ := hrel
    cases gk with
    | zero => exact absurd HA.out (by simp [r04_Wants.l0])
    | succ k1 =>
     have H := HA.out
     clear HA
     simp only [r04_Wants.l0] at H
     by_cases c11 : x6_1 < (t191.length : Int)
     ·
      rw [if_pos c11] at H
      have c11b0 : decide (x6_1 < (t191.length : Int)) = true := decide_eq_true c11
      clear c11
      by_cases c12 : 0 ≤ x6_1
      ·
       rw [if_pos c12] at H
       have c12b0 : decide (0 ≤ x6_1) = true := decide_eq_true c12
       clear c12
       by_cases c13 : ((rd_T54 t191 x6_1).f0) = 3
       ·
        rw [if_pos c13] at H
        have c13b0 : (((rd_T54 t191 x6_1).f0) == 3) = true := beq_iff_eq.mpr c13
        have c13b1 : (((rd_T54 t191 x6_1).f0) != 3) = false := bne_eq_false_iff_eq.mpr c13
        clear c13
        by_cases c14 : x3_1.length < 5864062014805
        ·
         rw [if_pos c14] at H
         have LMc14 := Aside0.mk c14
         clear c14
         obtain ⟨y197, hy197⟩ : ∃ y_ : List (S58), y_ = (x3_1 ++ [(⟨(rd_T54 t191 x6_1).f2, 2⟩ : S58)]) := ⟨_, rfl⟩
         replace H : (r04_Wants.l0 k1 y197 t191 (wrap64 (x6_1 + 1))) = some r := by first | (rw [hy197]; with_reducible exact H) | (have H2_ := (Option.bind_some _ _).symm.trans H; rw [hy197]; with_reducible exact H2_) | (have H2_ := (Option.bind_some _ _).symm.trans H; with_reducible exact H2_) | with_reducible exact H | (rw [hy197]; exact H) | exact H
         have Ny197 := Aside0.mk hy197
         clear hy197
         have H' := Aside0.mk H
         clear H
         obtain ⟨Ao15, co15, eo15⟩ := Kd.R_slice HO_4.out
         subst eo15
         have p195 : 0 ≤ (x6_1 : Int) := oda_
         have q195 : x6_1 < (t191.length : Int) := oda_
         obtain ⟨ad195, e195, hx195_0, hx195_1, hx195_2⟩ := at_T54 (Kd.R_reads' HO_4.out).2.2 x6_1 p195 q195
         cases e195
         replace p195 := eq_true p195
         replace q195 := eq_true q195
         have p196 : 0 ≤ (x6_1 : Int) := oda_
         have q196 : x6_1 < (t191.length : Int) := oda_
         obtain ⟨ad196, e196, hx196_0, hx196_1, hx196_2⟩ := at_T54 (Kd.R_reads' HO_4.out).2.2 x6_1 p196 q196
         obtain rfl : ad195 = ad196 := (by injection e196)
         replace p196 := eq_true p196
         replace q196 := eq_true q196
         go_wp2_with (first | ((with_reducible refine gate_builtin (b := .append) (xs := #[.tmp 38, .tmp 46]) rfl ?_); at_builtin; refine Kd.R_append k58 (w0 := w) w.heap.size rfl (.tmp 38) (.tmp 46) 28 58 (.agg #[(.string ⟨#[]⟩), (.int .i64 0)]) 24 rfl Tryz.underlying28 info58 rfl (by decide) (by omega) u3 x3_1 (⟨(rd_T54 t191 x6_1).f2, 2⟩ : S58) [.string ((rd_T54 t191 x6_1).f2), .int .i64 2] (fun _ => True) (fun _ => False) rfl rfl ?aP (fun _ hk => hk.elim) ?aF ?aO ?aB ?aS ?aL ?_; (case aP => exact k58_mkM _ _ _ (⟨(rd_T54 t191 x6_1).f2, 2⟩ : S58)); (case aB => exact (by repeat (first | (with_reducible first | exact HB.out | apply below_alloc | apply pw_below_drewN | apply below_drew1 | refine below_set ?_ GE189.out) | exact HB.out))); (case aF => exact (fun _ _ => trivial)); (case aO => exact (by (with_reducible repeat (first | apply Kd.R_alloc | apply Kd.R_drewN | apply Kd.R_drew)); exact HO_3.out)); (case aS => exact (below_size (by repeat (first | (with_reducible first | exact HB.out | apply below_alloc | apply pw_below_drewN | apply below_drew1 | refine below_set ?_ GE189.out) | exact HB.out)))); (case aL => have := LMc14.out; omega); intro v198 w16 ho hb hg hat; rw [← Ny197.out] at ho; have n0_ := Aside0.mk (Kd.R_over' (by (with_reducible repeat (first | apply Kd.R_alloc | apply Kd.R_drewN | apply Kd.R_drew)); exact HO_4.out) (Kd.R_typed (by (with_reducible repeat (first | apply Kd.R_alloc | apply Kd.R_drewN | apply Kd.R_drew)); exact HO_3.out)) (by decide) hg); have n1_ := Aside0.mk (blk_grown (g := gb189) (o := .cells #[.int .i64 a0_0, .string a0_1] 23 (0, 0)) (by (with_reducible repeat (first | refine blk_drewN ?_ _ | refine blk_drew ?_ | refine blk_alloc ?_ _)); exact BK189.out) hg (Kd.R_ne HO_3.out BK189.out (by decide))); have n2_ := Aside0.mk (hb); have n3_ := Aside0.mk (ho); clear HO_4; clear BK189; clear HB; clear HO_3; have HO_4 := n0_; have BK189 := n1_; have HB := n2_; have HO199 := n3_; clear n0_ n1_ n2_ n3_; clear ho hb hg hat))
         go_roundg k1
         case measure => have := HK1.out; omega
         case rel => exact ⟨(y197), (wrap64 (x6_1 + 1)), sd_, H', ⟨by have := HK1.out; omega⟩, ⟨by (with_reducible repeat (first | apply Kd.R_alloc | apply Kd.R_drewN | apply Kd.R_drew)); exact HO199.out⟩, ⟨by (with_reducible repeat (first | apply Kd.R_alloc | apply Kd.R_drewN | apply Kd.R_drew)); exact HO_4.out⟩, ⟨by (with_reducible repeat (first | refine blk_drewN ?_ _ | refine blk_drew ?_ | refine blk_alloc ?_ _)); exact BK189.out⟩, ⟨by repeat (first | (with_reducible first | exact HB.out | apply below_alloc | apply pw_below_drewN | apply below_drew1 | refine below_set ?_ GE189.out) | exact HB.out)⟩⟩
        ·
         rw [if_neg c14] at H
         exact absurd H (by simp)
       ·
        rw [if_neg c13] at H
        have c13b0 : (((rd_T54 t191 x6_1).f0) == 3) = false := beq_eq_false_iff_ne.mpr c13
        have c13b1 : (((rd_T54 t191 x6_1).f0) != 3) = true := bne_iff_ne.mpr c13
        by_cases c17 : x3_1.length < 5864062014805
        ·
         rw [if_pos c17] at H
         have LMc17 := Aside0.mk c17
         clear c17
         obtain ⟨y201, hy201⟩ : ∃ y_ : List (S58), y_ = (x3_1 ++ [(⟨(rd_T54 t191 x6_1).f2, 1⟩ : S58)]) := ⟨_, rfl⟩
         replace H : (r04_Wants.l0 k1 y201 t191 (wrap64 (x6_1 + 1))) = some r := by first | (rw [hy201]; with_reducible exact H) | (have H2_ := (Option.bind_some _ _).symm.trans H; rw [hy201]; with_reducible exact H2_) | (have H2_ := (Option.bind_some _ _).symm.trans H; with_reducible exact H2_) | with_reducible exact H | (rw [hy201]; exact H) | exact H
         have Ny201 := Aside0.mk hy201
         clear hy201
         have H' := Aside0.mk H
         clear H
         obtain ⟨Ao18, co18, eo18⟩ := Kd.R_slice HO_4.out
         subst eo18
         have p195 : 0 ≤ (x6_1 : Int) := oda_
         have q195 : x6_1 < (t191.length : Int) := oda_
         obtain ⟨ad195, e195, hx195_0, hx195_1, hx195_2⟩ := at_T54 (Kd.R_reads' HO_4.out).2.2 x6_1 p195 q195
         cases e195
         replace p195 := eq_true p195
         replace q195 := eq_true q195
         have p200 : 0 ≤ (x6_1 : Int) := oda_
         have q200 : x6_1 < (t191.length : Int) := oda_
         obtain ⟨ad200, e200, hx200_0, hx200_1, hx200_2⟩ := at_T54 (Kd.R_reads' HO_4.out).2.2 x6_1 p200 q200
         obtain rfl : ad195 = ad200 := (by injection e200)
         replace p200 := eq_true p200
         replace q200 := eq_true q200
         go_wp2_with (first | ((with_reducible refine gate_builtin (b := .append) (xs := #[.tmp 38, .tmp 46]) rfl ?_); at_builtin; refine Kd.R_append k58 (w0 := w) w.heap.size rfl (.tmp 38) (.tmp 46) 28 58 (.agg #[(.string ⟨#[]⟩), (.int .i64 0)]) 24 rfl Tryz.underlying28 info58 rfl (by decide) (by omega) u3 x3_1 (⟨(rd_T54 t191 x6_1).f2, 1⟩ : S58) [.string ((rd_T54 t191 x6_1).f2), .int .i64 1] (fun _ => True) (fun _ => False) rfl rfl ?aP (fun _ hk => hk.elim) ?aF ?aO ?aB ?aS ?aL ?_; (case aP => exact k58_mkM _ _ _ (⟨(rd_T54 t191 x6_1).f2, 1⟩ : S58)); (case aB => exact (by repeat (first | (with_reducible first | exact HB.out | apply below_alloc | apply pw_below_drewN | apply below_drew1 | refine below_set ?_ GE189.out) | exact HB.out))); (case aF => exact (fun _ _ => trivial)); (case aO => exact (by (with_reducible repeat (first | apply Kd.R_alloc | apply Kd.R_drewN | apply Kd.R_drew)); exact HO_3.out)); (case aS => exact (below_size (by repeat (first | (with_reducible first | exact HB.out | apply below_alloc | apply pw_below_drewN | apply below_drew1 | refine below_set ?_ GE189.out) | exact HB.out)))); (case aL => have := LMc17.out; omega); intro v202 w19 ho hb hg hat; rw [← Ny201.out] at ho; have n0_ := Aside0.mk (Kd.R_over' (by (with_reducible repeat (first | apply Kd.R_alloc | apply Kd.R_drewN | apply Kd.R_drew)); exact HO_4.out) (Kd.R_typed (by (with_reducible repeat (first | apply Kd.R_alloc | apply Kd.R_drewN | apply Kd.R_drew)); exact HO_3.out)) (by decide) hg); have n1_ := Aside0.mk (blk_grown (g := gb189) (o := .cells #[.int .i64 a0_0, .string a0_1] 23 (0, 0)) (by (with_reducible repeat (first | refine blk_drewN ?_ _ | refine blk_drew ?_ | refine blk_alloc ?_ _)); exact BK189.out) hg (Kd.R_ne HO_3.out BK189.out (by decide))); have n2_ := Aside0.mk (hb); have n3_ := Aside0.mk (ho); clear HO_4; clear BK189; clear HB; clear HO_3; have HO_4 := n0_; have BK189 := n1_; have HB := n2_; have HO203 := n3_; clear n0_ n1_ n2_ n3_; clear ho hb hg hat))
         go_roundg k1
         case measure => have := HK1.out; omega
         case rel => exact ⟨(y201), (wrap64 (x6_1 + 1)), sd_, H', ⟨by have := HK1.out; omega⟩, ⟨by (with_reducible repeat (first | apply Kd.R_alloc | apply Kd.R_drewN | apply Kd.R_drew)); exact HO203.out⟩, ⟨by (with_reducible repeat (first | apply Kd.R_alloc | apply Kd.R_drewN | apply Kd.R_drew)); exact HO_4.out⟩, ⟨by (with_reducible repeat (first | refine blk_drewN ?_ _ | refine blk_drew ?_ | refine blk_alloc ?_ _)); exact BK189.out⟩, ⟨by repeat (first | (with_reducible first | exact HB.out | apply below_alloc | apply pw_below_drewN | apply below_drew1 | refine below_set ?_ GE189.out) | exact HB.out)⟩⟩
        ·
         rw [if_neg c17] at H
         exact absurd H (by simp)
      ·
       rw [if_neg c12] at H
       exact absurd H (by simp)
     ·
      rw [if_neg c11] at H
      have c11b0 : decide (x6_1 < (t191.length : Int)) = false := decide_eq_false c11
      clear c11
      obtain rfl := Option.some.inj H
      obtain ⟨Ao20, co20, eo20⟩ := Kd.R_slice HO_4.out
      subst eo20
      go_wp2
      go_ret
      exact ⟨_, er_, by (with_reducible repeat (first | apply Kd.R_alloc | apply Kd.R_drewN | apply Kd.R_drew)); exact HO_3.out, by repeat (first | (with_reducible first | exact HB.out | apply below_alloc | apply pw_below_drewN | apply below_drew1 | refine below_set ?_ GE189.out) | exact HB.out)⟩
  ·
   rw [if_neg c4] at H
   have c4b0 : (a0_0 == 2) = false := beq_eq_false_iff_ne.mpr c4
   have c4b1 : (a0_0 != 2) = true := bne_iff_ne.mpr c4
   by_cases c21 : a0_0 = 3
   ·
    rw [if_pos c21] at H
    have c21b0 : (a0_0 == 3) = true := beq_iff_eq.mpr c21
    have c21b1 : (a0_0 != 3) = false := bne_eq_false_iff_eq.mpr c21
    clear c21
    replace H := Option.bind_eq_some_iff.mp H
    obtain ⟨⟨t204, t205, t208, t209, t210⟩, A220, H⟩ := H
    replace H : (if ([] : List (S58)).length < 5864062014805 then (r04_Wants.l1 k (([] : List (S58)) ++ [(⟨t204, 2⟩ : S58)]) 0 t204 t205 t208 t209) else (none)) = some r := H
    have A22 := Aside0.mk A220
    clear A220
    by_cases c23 : ([] : List (S58)).length < 5864062014805
    ·
     rw [if_pos c23] at H
     have LMc23 := Aside0.mk c23
     clear c23
     obtain ⟨y212, hy212⟩ : ∃ y_ : List (S58), y_ = (([] : List (S58)) ++ [(⟨t204, 2⟩ : S58)]) := ⟨_, rfl⟩
     replace H : (r04_Wants.l1 k y212 0 t204 t205 t208 t209) = some r := by first | (rw [hy212]; with_reducible exact H) | (have H2_ := (Option.bind_some _ _).symm.trans H; rw [hy212]; with_reducible exact H2_) | (have H2_ := (Option.bind_some _ _).symm.trans H; with_reducible exact H2_) | with_reducible exact H | (rw [hy212]; exact H) | exact H
     have Ny212 := Aside0.mk hy212
     clear hy212
     have H' := Aside0.mk H
     clear H
     go_enter Tryz.func17, Tryz.ntmps17
     go_wp2_with (first | ((with_reducible refine gate_dst (N := 1) rfl ?_); refine box_event ?hg (N := 1) ?hd (cs := #[.int .i64 a0_0, .string a0_1]) (t := 23) ?hr ?_; (case hd => rfl); (case hg => rfl); (case hr => first | (go_simp; done) | (go_simp; rfl)); intro gb189 hg w24 hbox hb; have n0_ := Aside0.mk (below_step bw_ hb); have n1_ := Aside0.mk (hbox); have n2_ := Aside0.mk ((by rw [hg]; exact (below_size bw_) : w.heap.size ≤ gb189)); have n3_ := Aside0.mk ((by rw [hg]; exact (below_size bw_) : w.heap.size ≤ gb189)); clear HB; have HB := n0_; have BK189 := n1_; have GW189 := n2_; have GE189 := n3_; clear n0_ n1_ n2_ n3_; clear hb hbox hg; have hcz25_0 : w24.cell? ⟨gb189, 0, none⟩ = some (.int .i64 a0_0) := (blk_cell BK189.out 0).trans rfl; have hcz25_1 : w24.cell? ⟨gb189, 1, none⟩ = some (.string a0_1) := (blk_cell BK189.out 1).trans rfl; have hfz25_0 := blk_frozen BK189.out 0; have hfz25_1 := blk_frozen BK189.out 1) | ((with_reducible refine gate_callee (f := 12) rfl ?_); refine goesL_ (some 14) rfl rfl Tryz.func12 (by kernel_rfl) rfl #[.agg #[.int .i64 a0_0, .string a0_1]] rfl la_ ?_; (with_reducible refine (r04_Right.calls k a0_0 a0_1 true _ A2.out).mono ?_); rintro e w26 ⟨rfl, hb⟩; refine ⟨_, rfl, ?_⟩; have n0_ := Aside0.mk (blk_below (g := gb189) (o := .cells #[.int .i64 a0_0, .string a0_1] 23 (0, 0)) (by (with_reducible repeat (first | refine blk_drewN ?_ _ | refine blk_drew ?_ | refine blk_alloc ?_ _)); exact BK189.out) hb); have n1_ := Aside0.mk (below_step (by repeat (first | (with_reducible first | exact HB.out | apply below_alloc | apply pw_below_drewN | apply below_drew1 | refine below_set ?_ GE189.out) | exact HB.out)) hb); clear BK189; clear HB; have BK189 := n0_; have HB := n1_; clear n0_ n1_; (try clear hb); (try clear hb2); (try clear hk); (try clear hi); have hcz27_0 : w26.cell? ⟨gb189, 0, none⟩ = some (.int .i64 a0_0) := (blk_cell BK189.out 0).trans rfl; have hcz27_1 : w26.cell? ⟨gb189, 1, none⟩ = some (.string a0_1) := (blk_cell BK189.out 1).trans rfl; have hfz27_0 := blk_frozen BK189.out 0; have hfz27_1 := blk_frozen BK189.out 1) | ((with_reducible refine gate_callee (f := 30) rfl ?_); refine goesL_ (some 53) rfl rfl Tryz.func30 (by kernel_rfl) rfl #[.string a0_1] rfl la_ ?_; (with_reducible refine (r04_GetChange.calls k a0_1 t204 t205 t208 t209 t210 _ A22.out).mono ?_); rintro e w28 ⟨v206, rfl, ho0, hb⟩; refine ⟨_, rfl, ?_⟩; have n0_ := Aside0.mk (Kd.R_lower ho0 (below_size (by repeat (first | (with_reducible first | exact HB.out | apply below_alloc | apply pw_below_drewN | apply below_drew1 | refine below_set ?_ GE189.out) | exact HB.out)))); have n1_ := Aside0.mk (blk_below (g := gb189) (o := .cells #[.int .i64 a0_0, .string a0_1] 23 (0, 0)) (by (with_reducible repeat (first | refine blk_drewN ?_ _ | refine blk_drew ?_ | refine blk_alloc ?_ _)); exact BK189.out) hb); have n2_ := Aside0.mk (below_step (by repeat (first | (with_reducible first | exact HB.out | apply below_alloc | apply pw_below_drewN | apply below_drew1 | refine below_set ?_ GE189.out) | exact HB.out)) hb); clear BK189; clear HB; have HO207 := n0_; have BK189 := n1_; have HB := n2_; clear n0_ n1_ n2_; (try clear hb); (try clear hb2); (try clear hk); (try clear hi); (try clear ho0)) | ((with_reducible refine gate_dst (N := 8) rfl ?_); refine box_event ?hg (N := 8) ?hd (cs := #[.string (⟨#[]⟩ : ByteArray), .slice none 0 0, .string (⟨#[]⟩ : ByteArray), .string (⟨#[]⟩ : ByteArray)]) (t := 40) ?hr ?_; (case hd => rfl); (case hg => rfl); (case hr => first | (go_simp; done) | (go_simp; rfl)); intro gb211 hg w29 hbox hb; have n0_ := Aside0.mk (Kd.R_below (by (with_reducible repeat (first | apply Kd.R_alloc | apply Kd.R_drewN | apply Kd.R_drew)); exact HO207.out) hb); have n1_ := Aside0.mk (blk_below (g := gb189) (o := .cells #[.int .i64 a0_0, .string a0_1] 23 (0, 0)) (by (with_reducible repeat (first | refine blk_drewN ?_ _ | refine blk_drew ?_ | refine blk_alloc ?_ _)); exact BK189.out) hb); have n2_ := Aside0.mk (below_step (by repeat (first | (with_reducible first | exact HB.out | apply below_alloc | apply pw_below_drewN | apply below_drew1 | refine below_set ?_ GE189.out) | exact HB.out)) hb); have n3_ := Aside0.mk (hbox); have n4_ := Aside0.mk ((by rw [hg]; exact (below_size (by repeat (first | (with_reducible first | exact HB.out | apply below_alloc | apply pw_below_drewN | apply below_drew1 | refine below_set ?_ GE189.out) | exact HB.out))) : w.heap.size ≤ gb211)); have n5_ := Aside0.mk ((by rw [hg]; exact (below_size (by repeat (first | (with_reducible first | exact HB.out | apply below_alloc | apply pw_below_drewN | apply below_drew1 | refine below_set ?_ GE189.out) | exact HB.out))) : w.heap.size ≤ gb211)); have n6_ := Aside0.mk ((by rw [hg]; exact Nat.ne_of_lt (blk_lt (g := gb189) (o := .cells #[.int .i64 a0_0, .string a0_1] 23 (0, 0)) (by (with_reducible repeat (first | refine blk_drewN ?_ _ | refine blk_drew ?_ | refine blk_alloc ?_ _)); exact BK189.out)) : gb189 ≠ gb211)); have n7_ := Aside0.mk ((by rw [hg]; exact Nat.ne_of_gt (blk_lt (g := gb189) (o := .cells #[.int .i64 a0_0, .string a0_1] 23 (0, 0)) (by (with_reducible repeat (first | refine blk_drewN ?_ _ | refine blk_drew ?_ | refine blk_alloc ?_ _)); exact BK189.out)) : gb211 ≠ gb189)); clear HO207; clear BK189; clear HB; have HO207 := n0_; have BK189 := n1_; have HB := n2_; have BK211 := n3_; have GW211 := n4_; have GE211 := n5_; have NB189_211 := n6_; have NB211_189 := n7_; clear n0_ n1_ n2_ n3_ n4_ n5_ n6_ n7_; clear hb hbox hg; have hnb30 := NB211_189.out; have hnc30 := NB189_211.out; have hcz31_0 : w29.cell? ⟨gb211, 0, none⟩ = some (.string (⟨#[]⟩ : ByteArray)) := (blk_cell BK211.out 0).trans rfl; have hcz31_1 : w29.cell? ⟨gb211, 1, none⟩ = some (.slice none 0 0) := (blk_cell BK211.out 1).trans rfl; have hcz31_2 : w29.cell? ⟨gb211, 2, none⟩ = some (.string (⟨#[]⟩ : ByteArray)) := (blk_cell BK211.out 2).trans rfl; have hcz31_3 : w29.cell? ⟨gb211, 3, none⟩ = some (.string (⟨#[]⟩ : ByteArray)) := (blk_cell BK211.out 3).trans rfl; have hfz31_0 := blk_frozen BK211.out 0; have hfz31_1 := blk_frozen BK211.out 1; have hfz31_2 := blk_frozen BK211.out 2; have hfz31_3 := blk_frozen BK211.out 3; obtain ⟨Ao32, co32, eo32⟩ := Kd.R_slice HO207.out; subst eo32) | ((with_reducible refine gate_builtin (b := .append) (xs := #[.tmp 56, .tmp 60]) rfl ?_); at_builtin; refine Kd.R_append k58 (w0 := w) w.heap.size rfl (.tmp 56) (.tmp 60) 28 58 (.agg #[(.string ⟨#[]⟩), (.int .i64 0)]) 24 rfl Tryz.underlying28 info58 rfl (by decide) (by omega) (.slice none 0 0) ([] : List (S58)) (⟨t204, 2⟩ : S58) [.string t204, .int .i64 2] (fun _ => True) (fun _ => False) rfl (by first | (go_simp; done) | (go_simp; rfl)) ?aP (fun _ hk => hk.elim) ?aF ?aO ?aB ?aS ?aL ?_; (case aP => exact k58_mkM _ _ _ (⟨t204, 2⟩ : S58)); (case aB => exact (by repeat (first | (with_reducible first | exact HB.out | apply below_alloc | apply pw_below_drewN | apply below_drew1 | refine below_set ?_ GE189.out | refine below_set ?_ GE211.out) | exact HB.out))); (case aF => exact (fun _ _ => trivial)); (case aO => exact ((Kd.R_nil _ _ _ _ (fun _ => True)))); (case aS => exact (below_size (by repeat (first | (with_reducible first | exact HB.out | apply below_alloc | apply pw_below_drewN | apply below_drew1 | refine below_set ?_ GE189.out | refine below_set ?_ GE211.out) | exact HB.out)))); (case aL => have := LMc23.out; omega); intro v213 w33 ho hb hg hat; rw [← Ny212.out] at ho; have n0_ := Aside0.mk (blk_grown (g := gb189) (o := .cells #[.int .i64 a0_0, .string a0_1] 23 (0, 0)) (by (with_reducible repeat (first | refine blk_drewN ?_ _ | refine blk_drew ?_ | refine blk_alloc ?_ _)); refine blk_far ?_ NB189_211.out _; (with_reducible repeat (first | refine blk_drewN ?_ _ | refine blk_drew ?_ | refine blk_alloc ?_ _)); refine blk_far ?_ NB189_211.out _; (with_reducible repeat (first | refine blk_drewN ?_ _ | refine blk_drew ?_ | refine blk_alloc ?_ _)); refine blk_far ?_ NB189_211.out _; (with_reducible repeat (first | refine blk_drewN ?_ _ | refine blk_drew ?_ | refine blk_alloc ?_ _)); refine blk_far ?_ NB189_211.out _; (with_reducible repeat (first | refine blk_drewN ?_ _ | refine blk_drew ?_ | refine blk_alloc ?_ _)); exact BK189.out) hg (by simp [Value.ownBlock])); have n1_ := Aside0.mk (Kd.R_grown (by (with_reducible repeat (first | apply Kd.R_alloc | apply Kd.R_drewN | apply Kd.R_drew)); exact (Kd.R_mono (Kd.R_far (p := ⟨gb211, 3, none⟩) (Kd.R_far (p := ⟨gb211, 2, none⟩) (Kd.R_far (p := ⟨gb211, 1, none⟩) (Kd.R_far (p := ⟨gb211, 0, none⟩) (Kd.R_types HO207.out BK211.out (by decide)) (fun _ hk => hk.2) (.string t204)) (fun _ hk => hk.2) (.slice Ao32 t205.length co32)) (fun _ hk => hk.2) (.string t208)) (fun _ hk => hk.2) (.string t209)) (fun _ h_ => h_.1))) hg (fun _ _ => by simp [Value.ownBlock])); have n2_ := Aside0.mk (blk_grown (g := gb211) (o := .cells #[.string t204, .slice Ao32 t205.length co32, .string t208, .string t209] 40 (0, 0)) (by (with_reducible repeat (first | refine blk_drewN ?_ _ | refine blk_drew ?_ | refine blk_alloc ?_ _)); refine blk_put (cs := #[.string t204, .slice Ao32 t205.length co32, .string t208, .string (⟨#[]⟩ : ByteArray)]) ?_ 3 _ rfl; (with_reducible repeat (first | refine blk_drewN ?_ _ | refine blk_drew ?_ | refine blk_alloc ?_ _)); refine blk_put (cs := #[.string t204, .slice Ao32 t205.length co32, .string (⟨#[]⟩ : ByteArray), .string (⟨#[]⟩ : ByteArray)]) ?_ 2 _ rfl; (with_reducible repeat (first | refine blk_drewN ?_ _ | refine blk_drew ?_ | refine blk_alloc ?_ _)); refine blk_put (cs := #[.string t204, .slice none 0 0, .string (⟨#[]⟩ : ByteArray), .string (⟨#[]⟩ : ByteArray)]) ?_ 1 _ rfl; (with_reducible repeat (first | refine blk_drewN ?_ _ | refine blk_drew ?_ | refine blk_alloc ?_ _)); refine blk_put (cs := #[.string (⟨#[]⟩ : ByteArray), .slice none 0 0, .string (⟨#[]⟩ : ByteArray), .string (⟨#[]⟩ : ByteArray)]) ?_ 0 _ rfl; (with_reducible repeat (first | refine blk_drewN ?_ _ | refine blk_drew ?_ | refine blk_alloc ?_ _)); exact BK211.out) hg (by simp [Value.ownBlock])); have n3_ := Aside0.mk (hb); have n4_ := Aside0.mk (ho); clear BK189; clear HO207; clear BK211; clear HB; have BK189 := n0_; have HO207 := n1_; have BK211 := n2_; have HB := n3_; have HO214 := n4_; clear n0_ n1_ n2_ n3_ n4_; clear ho hb hg hat))
     go_loopg [3, 10] k (fun kq v3 v10 w' => ∃ (x3_1 : List (S58)) (x10_1 : Int), v10 = .int .i64 x10_1 ∧ Aside0 (r04_Wants.l1 kq x3_1 x10_1 t204 t205 t208 t209 = some r) ∧ Aside0 (kq ≤ k) ∧ Aside0 (Kd.R k58 58 w' w.heap.size (fun _ => True) v3 x3_1) ∧ Aside0 (Kd.R Kd.string 9 w' w.heap.size (fun _ => True) (.slice Ao32 t205.length co32) t205) ∧ Aside0 (w'.heap[gb189]? = some (.cells #[.int .i64 a0_0, .string a0_1] 23 (0, 0))) ∧ Aside0 (w'.heap[gb211]? = some (.cells #[.string t204, (.slice Ao32 t205.length co32), .string t208, .string t209] 40 (0, 0))) ∧ Aside0 (Below w.heap.size w w'))
     case atStart => exact ⟨(y212), (0), sd_, H', ⟨Nat.le_refl _⟩, ⟨by (with_reducible repeat (first | apply Kd.R_alloc | apply Kd.R_drewN | apply Kd.R_drew)); exact HO214.out⟩, ⟨by (with_reducible repeat (first | apply Kd.R_alloc | apply Kd.R_drewN | apply Kd.R_drew)); exact HO207.out⟩, ⟨by (with_reducible repeat (first | refine blk_drewN ?_ _ | refine blk_drew ?_ | refine blk_alloc ?_ _)); exact BK189.out⟩, ⟨by (with_reducible repeat (first | refine blk_drewN ?_ _ | refine blk_drew ?_ | refine blk_alloc ?_ _)); exact BK211.out⟩, ⟨by repeat (first | (with_reducible first | exact HB.out | apply below_alloc | apply pw_below_drewN | apply below_drew1 | refine below_set ?_ GE189.out | refine below_set ?_ GE211.out) | exact HB.out)⟩⟩
     case round =>
      clear H'
      try clear c1
      try clear p1
      try clear q1
      try clear hx1
      try clear c2
      try clear p2
      try clear q2
      try clear hx2
      try clear c3
      try clear c4
      try clear c4b0
      try clear c4b1
      try clear p6
      try clear c11
      try clear c11b0
      try clear c12
      try clear c12b0
      try clear c13
      try clear c13b0
      try clear c13b1
      try clear c14
      try clear c17
      try clear p19
      try clear q19
      try clear hx19
      try clear p20
      try clear q20
      try clear hx20
      try clear c21
      try clear c21b0
      try clear c21b1
      try clear c22
      try clear c23
      try clear c30
      try clear hcz25_0
      try clear hcz25_1
      try clear hcz27_0
      try clear hcz27_1
      try clear hcz31_0
      try clear hcz31_1
      try clear hcz31_2
      try clear hcz31_3
      try clear hcz7_0
      try clear hcz7_1
      try clear hcz9_0
      try clear hcz9_1
      try clear hfz25_0
      try clear hfz25_1
      try clear hfz27_0
      try clear hfz27_1
      try clear hfz31_0
      try clear hfz31_1
      try clear hfz31_2
      try clear hfz31_3
      try clear hfz7_0
      try clear hfz7_1
      try clear hfz9_0
      try clear hfz9_1
      try clear hx195_0
      try clear hx195_1
      try clear hx195_2
      try clear hx196_0
      try clear hx196_1
      try clear hx196_2
      try clear hx200_0
      try clear hx200_1
      try clear hx200_2
      try clear p195
      try clear p196
      try clear p2
      try clear p200
      try clear q195
      try clear q196
      try clear q200
      obtain ⟨x3_1, x10_1, rfl, HA, HK1, HO_3, HO_212001, BK189, BK211, HB⟩ := hrel
      cases gk with
      | zero => exact absurd HA.out (by simp [r04_Wants.l1])
      | succ k1 =>
       have H := HA.out
       clear HA
       simp only [r04_Wants.l1] at H
       by_cases c34 : x10_1 < (t205.length : Int)
       ·
        rw [if_pos c34] at H
        have c34b0 : decide (x10_1 < (t205.length : Int)) = true := decide_eq_true c34
        clear c34
        by_cases c35 : 0 ≤ x10_1
        ·
         rw [if_pos c35] at H
         have c35b0 : decide (0 ≤ x10_1) = true := decide_eq_true c35
         clear c35
         by_cases c36 : x3_1.length < 5864062014805
         ·
          rw [if_pos c36] at H
          have LMc36 := Aside0.mk c36
          clear c36
          obtain ⟨y216, hy216⟩ : ∃ y_ : List (S58), y_ = (x3_1 ++ [(⟨rdOf ByteArray.empty t205 x10_1, 3⟩ : S58)]) := ⟨_, rfl⟩
          replace H : (r04_Wants.l1 k1 y216 (wrap64 (x10_1 + 1)) t204 t205 t208 t209) = some r := by first | (rw [hy216]; with_reducible exact H) | (have H2_ := (Option.bind_some _ _).symm.trans H; rw [hy216]; with_reducible exact H2_) | (have H2_ := (Option.bind_some _ _).symm.trans H; with_reducible exact H2_) | with_reducible exact H | (rw [hy216]; exact H) | exact H
          have Ny216 := Aside0.mk hy216
          clear hy216
          have H' := Aside0.mk H
          clear H
          have hnb37 := NB211_189.out
          have hnc37 := NB189_211.out
          have hcz38_0 : wr.cell? ⟨gb211, 0, none⟩ = some (.string t204) := (blk_cell BK211.out 0).trans rfl
          have hcz38_1 : wr.cell? ⟨gb211, 1, none⟩ = some (.slice Ao32 t205.length co32) := (blk_cell BK211.out 1).trans rfl
          have hcz38_2 : wr.cell? ⟨gb211, 2, none⟩ = some (.string t208) := (blk_cell BK211.out 2).trans rfl
          have hcz38_3 : wr.cell? ⟨gb211, 3, none⟩ = some (.string t209) := (blk_cell BK211.out 3).trans rfl
          have hfz38_0 := blk_frozen BK211.out 0
          have hfz38_1 := blk_frozen BK211.out 1
          have hfz38_2 := blk_frozen BK211.out 2
          have hfz38_3 := blk_frozen BK211.out 3
          have p215 : 0 ≤ (x10_1 : Int) := oda_
          have q215 : x10_1 < (t205.length : Int) := oda_
          obtain ⟨ad215, e215, hx215_0⟩ := Kd.at_string (Kd.R_reads' HO_212001.out).2.2 x10_1 p215 q215
          cases e215
          replace p215 := eq_true p215
          replace q215 := eq_true q215
          go_wp2_with (first | ((with_reducible refine gate_builtin (b := .append) (xs := #[.tmp 69, .tmp 76]) rfl ?_); at_builtin; refine Kd.R_append k58 (w0 := w) w.heap.size rfl (.tmp 69) (.tmp 76) 28 58 (.agg #[(.string ⟨#[]⟩), (.int .i64 0)]) 24 rfl Tryz.underlying28 info58 rfl (by decide) (by omega) u3 x3_1 (⟨rdOf ByteArray.empty t205 x10_1, 3⟩ : S58) [.string (rdOf ByteArray.empty t205 x10_1), .int .i64 3] (fun _ => True) (fun _ => False) rfl rfl ?aP (fun _ hk => hk.elim) ?aF ?aO ?aB ?aS ?aL ?_; (case aP => exact k58_mkM _ _ _ (⟨rdOf ByteArray.empty t205 x10_1, 3⟩ : S58)); (case aB => exact (by repeat (first | (with_reducible first | exact HB.out | apply below_alloc | apply pw_below_drewN | apply below_drew1 | refine below_set ?_ GE189.out | refine below_set ?_ GE211.out) | exact HB.out))); (case aF => exact (fun _ _ => trivial)); (case aO => exact (by (with_reducible repeat (first | apply Kd.R_alloc | apply Kd.R_drewN | apply Kd.R_drew)); exact HO_3.out)); (case aS => exact (below_size (by repeat (first | (with_reducible first | exact HB.out | apply below_alloc | apply pw_below_drewN | apply below_drew1 | refine below_set ?_ GE189.out | refine below_set ?_ GE211.out) | exact HB.out)))); (case aL => have := LMc36.out; omega); intro v217 w39 ho hb hg hat; rw [← Ny216.out] at ho; have n0_ := Aside0.mk (Kd.R_over' (by (with_reducible repeat (first | apply Kd.R_alloc | apply Kd.R_drewN | apply Kd.R_drew)); exact HO_212001.out) (Kd.R_typed (by (with_reducible repeat (first | apply Kd.R_alloc | apply Kd.R_drewN | apply Kd.R_drew)); exact HO_3.out)) (by decide) hg); have n1_ := Aside0.mk (blk_grown (g := gb189) (o := .cells #[.int .i64 a0_0, .string a0_1] 23 (0, 0)) (by (with_reducible repeat (first | refine blk_drewN ?_ _ | refine blk_drew ?_ | refine blk_alloc ?_ _)); exact BK189.out) hg (Kd.R_ne HO_3.out BK189.out (by decide))); have n2_ := Aside0.mk (blk_grown (g := gb211) (o := .cells #[.string t204, .slice (some ad215) t205.length co32, .string t208, .string t209] 40 (0, 0)) (by (with_reducible repeat (first | refine blk_drewN ?_ _ | refine blk_drew ?_ | refine blk_alloc ?_ _)); exact BK211.out) hg (Kd.R_ne HO_3.out BK211.out (by decide))); have n3_ := Aside0.mk (hb); have n4_ := Aside0.mk (ho); clear HO_212001; clear BK189; clear BK211; clear HB; clear HO_3; have HO_212001 := n0_; have BK189 := n1_; have BK211 := n2_; have HB := n3_; have HO218 := n4_; clear n0_ n1_ n2_ n3_ n4_; clear ho hb hg hat))
          go_roundg k1
          case measure => have := HK1.out; omega
          case rel => exact ⟨(y216), (wrap64 (x10_1 + 1)), sd_, H', ⟨by have := HK1.out; omega⟩, ⟨by (with_reducible repeat (first | apply Kd.R_alloc | apply Kd.R_drewN | apply Kd.R_drew)); exact HO218.out⟩, ⟨by (with_reducible repeat (first | apply Kd.R_alloc | apply Kd.R_drewN | apply Kd.R_drew)); exact HO_212001.out⟩, ⟨by (with_reducible repeat (first | refine blk_drewN ?_ _ | refine blk_drew ?_ | refine blk_alloc ?_ _)); exact BK189.out⟩, ⟨by (with_reducible repeat (first | refine blk_drewN ?_ _ | refine blk_drew ?_ | refine blk_alloc ?_ _)); exact BK211.out⟩, ⟨by repeat (first | (with_reducible first | exact HB.out | apply below_alloc | apply pw_below_drewN | apply below_drew1 | refine below_set ?_ GE189.out | refine below_set ?_ GE211.out) | exact HB.out)⟩⟩
         ·
          rw [if_neg c36] at H
          exact absurd H (by simp)
        ·
         rw [if_neg c35] at H
         exact absurd H (by simp)
       ·
        rw [if_neg c34] at H
        have c34b0 : decide (x10_1 < (t205.length : Int)) = false := decide_eq_false c34
        clear c34
        obtain rfl := Option.some.inj H
        have hnb40 := NB211_189.out
        have hnc40 := NB189_211.out
        have hcz41_0 : wr.cell? ⟨gb211, 0, none⟩ = some (.string t204) := (blk_cell BK211.out 0).trans rfl
        have hcz41_1 : wr.cell? ⟨gb211, 1, none⟩ = some (.slice Ao32 t205.length co32) := (blk_cell BK211.out 1).trans rfl
        have hcz41_2 : wr.cell? ⟨gb211, 2, none⟩ = some (.string t208) := (blk_cell BK211.out 2).trans rfl
        have hcz41_3 : wr.cell? ⟨gb211, 3, none⟩ = some (.string t209) := (blk_cell BK211.out 3).trans rfl
        have hfz41_0 := blk_frozen BK211.out 0
        have hfz41_1 := blk_frozen BK211.out 1
        have hfz41_2 := blk_frozen BK211.out 2
        have hfz41_3 := blk_frozen BK211.out 3
        go_wp2
        go_ret
        exact ⟨_, er_, by (with_reducible repeat (first | apply Kd.R_alloc | apply Kd.R_drewN | apply Kd.R_drew)); exact HO_3.out, by repeat (first | (with_reducible first | exact HB.out | apply below_alloc | apply pw_below_drewN | apply below_drew1 | refine below_set ?_ GE189.out | refine below_set ?_ GE211.out) | exact HB.out)⟩
    ·
     rw [if_neg c23] at H
     exact absurd H (by simp)
   ·
    rw [if_neg c21] at H
    have c21b0 : (a0_0 == 3) = false := beq_eq_false_iff_ne.mpr c21
    have c21b1 : (a0_0 != 3) = true := bne_iff_ne.mpr c21
    by_cases c42 : a0_0 = 4
    ·
     rw [if_pos c42] at H
     have c42b0 : (a0_0 == 4) = true := beq_iff_eq.mpr c42
     have c42b1 : (a0_0 != 4) = false := bne_eq_false_iff_eq.mpr c42
     clear c42
     replace H := Option.bind_eq_some_iff.mp H
     obtain ⟨⟨t219, t220, t221, t222, t223⟩, A430, H⟩ := H
     replace H : (if ([] : List (S58)).length < 5864062014805 then (some (([] : List (S58)) ++ [(⟨t219, t220⟩ : S58)])) else (none)) = some r := H
     have A43 := Aside0.mk A430
     clear A430
     by_cases c44 : ([] : List (S58)).length < 5864062014805
     ·
      rw [if_pos c44] at H
      have LMc44 := Aside0.mk c44
      clear c44
      obtain ⟨y225, hy225⟩ : ∃ y_ : List (S58), y_ = (([] : List (S58)) ++ [(⟨t219, t220⟩ : S58)]) := ⟨_, rfl⟩
      replace H : (some y225) = some r := by first | (rw [hy225]; with_reducible exact H) | (have H2_ := (Option.bind_some _ _).symm.trans H; rw [hy225]; with_reducible exact H2_) | (have H2_ := (Option.bind_some _ _).symm.trans H; with_reducible exact H2_) | with_reducible exact H | (rw [hy225]; exact H) | exact H
      have Ny225 := Aside0.mk hy225
      clear hy225
      obtain rfl := Option.some.inj H
      go_enter Tryz.func17, Tryz.ntmps17
      go_wp2_with (first | ((with_reducible refine gate_dst (N := 1) rfl ?_); refine box_event ?hg (N := 1) ?hd (cs := #[.int .i64 a0_0, .string a0_1]) (t := 23) ?hr ?_; (case hd => rfl); (case hg => rfl); (case hr => first | (go_simp; done) | (go_simp; rfl)); intro gb189 hg w45 hbox hb; have n0_ := Aside0.mk (below_step bw_ hb); have n1_ := Aside0.mk (hbox); have n2_ := Aside0.mk ((by rw [hg]; exact (below_size bw_) : w.heap.size ≤ gb189)); have n3_ := Aside0.mk ((by rw [hg]; exact (below_size bw_) : w.heap.size ≤ gb189)); clear HB; have HB := n0_; have BK189 := n1_; have GW189 := n2_; have GE189 := n3_; clear n0_ n1_ n2_ n3_; clear hb hbox hg; have hcz46_0 : w45.cell? ⟨gb189, 0, none⟩ = some (.int .i64 a0_0) := (blk_cell BK189.out 0).trans rfl; have hcz46_1 : w45.cell? ⟨gb189, 1, none⟩ = some (.string a0_1) := (blk_cell BK189.out 1).trans rfl; have hfz46_0 := blk_frozen BK189.out 0; have hfz46_1 := blk_frozen BK189.out 1) | ((with_reducible refine gate_callee (f := 12) rfl ?_); refine goesL_ (some 14) rfl rfl Tryz.func12 (by kernel_rfl) rfl #[.agg #[.int .i64 a0_0, .string a0_1]] rfl la_ ?_; (with_reducible refine (r04_Right.calls k a0_0 a0_1 true _ A2.out).mono ?_); rintro e w47 ⟨rfl, hb⟩; refine ⟨_, rfl, ?_⟩; have n0_ := Aside0.mk (blk_below (g := gb189) (o := .cells #[.int .i64 a0_0, .string a0_1] 23 (0, 0)) (by (with_reducible repeat (first | refine blk_drewN ?_ _ | refine blk_drew ?_ | refine blk_alloc ?_ _)); exact BK189.out) hb); have n1_ := Aside0.mk (below_step (by repeat (first | (with_reducible first | exact HB.out | apply below_alloc | apply pw_below_drewN | apply below_drew1 | refine below_set ?_ GE189.out) | exact HB.out)) hb); clear BK189; clear HB; have BK189 := n0_; have HB := n1_; clear n0_ n1_; (try clear hb); (try clear hb2); (try clear hk); (try clear hi); have hcz48_0 : w47.cell? ⟨gb189, 0, none⟩ = some (.int .i64 a0_0) := (blk_cell BK189.out 0).trans rfl; have hcz48_1 : w47.cell? ⟨gb189, 1, none⟩ = some (.string a0_1) := (blk_cell BK189.out 1).trans rfl; have hfz48_0 := blk_frozen BK189.out 0; have hfz48_1 := blk_frozen BK189.out 1) | ((with_reducible refine gate_callee (f := 32) rfl ?_); refine goesL_ (some 83) rfl rfl Tryz.func32 (by kernel_rfl) rfl #[.string a0_1] rfl la_ ?_; (with_reducible refine (r04_GetLabel.calls k a0_1 t219 t220 t221 t222 t223 _ A43.out).mono ?_); rintro e w49 ⟨rfl, hb⟩; refine ⟨_, rfl, ?_⟩; have n0_ := Aside0.mk (blk_below (g := gb189) (o := .cells #[.int .i64 a0_0, .string a0_1] 23 (0, 0)) (by (with_reducible repeat (first | refine blk_drewN ?_ _ | refine blk_drew ?_ | refine blk_alloc ?_ _)); exact BK189.out) hb); have n1_ := Aside0.mk (below_step (by repeat (first | (with_reducible first | exact HB.out | apply below_alloc | apply pw_below_drewN | apply below_drew1 | refine below_set ?_ GE189.out) | exact HB.out)) hb); clear BK189; clear HB; have BK189 := n0_; have HB := n1_; clear n0_ n1_; (try clear hb); (try clear hb2); (try clear hk); (try clear hi)) | ((with_reducible refine gate_dst (N := 11) rfl ?_); refine box_event ?hg (N := 11) ?hd (cs := #[.string (⟨#[]⟩ : ByteArray), .int .i64 0, .string (⟨#[]⟩ : ByteArray), .string (⟨#[]⟩ : ByteArray)]) (t := 42) ?hr ?_; (case hd => rfl); (case hg => rfl); (case hr => first | (go_simp; done) | (go_simp; rfl)); intro gb224 hg w50 hbox hb; have n0_ := Aside0.mk (blk_below (g := gb189) (o := .cells #[.int .i64 a0_0, .string a0_1] 23 (0, 0)) (by (with_reducible repeat (first | refine blk_drewN ?_ _ | refine blk_drew ?_ | refine blk_alloc ?_ _)); exact BK189.out) hb); have n1_ := Aside0.mk (below_step (by repeat (first | (with_reducible first | exact HB.out | apply below_alloc | apply pw_below_drewN | apply below_drew1 | refine below_set ?_ GE189.out) | exact HB.out)) hb); have n2_ := Aside0.mk (hbox); have n3_ := Aside0.mk ((by rw [hg]; exact (below_size (by repeat (first | (with_reducible first | exact HB.out | apply below_alloc | apply pw_below_drewN | apply below_drew1 | refine below_set ?_ GE189.out) | exact HB.out))) : w.heap.size ≤ gb224)); have n4_ := Aside0.mk ((by rw [hg]; exact (below_size (by repeat (first | (with_reducible first | exact HB.out | apply below_alloc | apply pw_below_drewN | apply below_drew1 | refine below_set ?_ GE189.out) | exact HB.out))) : w.heap.size ≤ gb224)); have n5_ := Aside0.mk ((by rw [hg]; exact Nat.ne_of_lt (blk_lt (g := gb189) (o := .cells #[.int .i64 a0_0, .string a0_1] 23 (0, 0)) (by (with_reducible repeat (first | refine blk_drewN ?_ _ | refine blk_drew ?_ | refine blk_alloc ?_ _)); exact BK189.out)) : gb189 ≠ gb224)); have n6_ := Aside0.mk ((by rw [hg]; exact Nat.ne_of_gt (blk_lt (g := gb189) (o := .cells #[.int .i64 a0_0, .string a0_1] 23 (0, 0)) (by (with_reducible repeat (first | refine blk_drewN ?_ _ | refine blk_drew ?_ | refine blk_alloc ?_ _)); exact BK189.out)) : gb224 ≠ gb189)); clear BK189; clear HB; have BK189 := n0_; have HB := n1_; have BK224 := n2_; have GW224 := n3_; have GE224 := n4_; have NB189_224 := n5_; have NB224_189 := n6_; clear n0_ n1_ n2_ n3_ n4_ n5_ n6_; clear hb hbox hg; have hnb51 := NB224_189.out; have hnc51 := NB189_224.out; have hcz52_0 : w50.cell? ⟨gb224, 0, none⟩ = some (.string (⟨#[]⟩ : ByteArray)) := (blk_cell BK224.out 0).trans rfl; have hcz52_1 : w50.cell? ⟨gb224, 1, none⟩ = some (.int .i64 0) := (blk_cell BK224.out 1).trans rfl; have hcz52_2 : w50.cell? ⟨gb224, 2, none⟩ = some (.string (⟨#[]⟩ : ByteArray)) := (blk_cell BK224.out 2).trans rfl; have hcz52_3 : w50.cell? ⟨gb224, 3, none⟩ = some (.string (⟨#[]⟩ : ByteArray)) := (blk_cell BK224.out 3).trans rfl; have hfz52_0 := blk_frozen BK224.out 0; have hfz52_1 := blk_frozen BK224.out 1; have hfz52_2 := blk_frozen BK224.out 2; have hfz52_3 := blk_frozen BK224.out 3) | ((with_reducible refine gate_builtin (b := .append) (xs := #[.tmp 86, .tmp 92]) rfl ?_); at_builtin; refine Kd.R_append k58 (w0 := w) w.heap.size rfl (.tmp 86) (.tmp 92) 28 58 (.agg #[(.string ⟨#[]⟩), (.int .i64 0)]) 24 rfl Tryz.underlying28 info58 rfl (by decide) (by omega) (.slice none 0 0) ([] : List (S58)) (⟨t219, t220⟩ : S58) [.string t219, .int .i64 t220] (fun _ => True) (fun _ => False) rfl (by first | (go_simp; done) | (go_simp; rfl)) ?aP (fun _ hk => hk.elim) ?aF ?aO ?aB ?aS ?aL ?_; (case aP => exact k58_mkM _ _ _ (⟨t219, t220⟩ : S58)); (case aB => exact (by repeat (first | (with_reducible first | exact HB.out | apply below_alloc | apply pw_below_drewN | apply below_drew1 | refine below_set ?_ GE189.out | refine below_set ?_ GE224.out) | exact HB.out))); (case aF => exact (fun _ _ => trivial)); (case aO => exact ((Kd.R_nil _ _ _ _ (fun _ => True)))); (case aS => exact (below_size (by repeat (first | (with_reducible first | exact HB.out | apply below_alloc | apply pw_below_drewN | apply below_drew1 | refine below_set ?_ GE189.out | refine below_set ?_ GE224.out) | exact HB.out)))); (case aL => have := LMc44.out; omega); intro v226 w53 ho hb hg hat; rw [← Ny225.out] at ho; have n0_ := Aside0.mk (blk_grown (g := gb189) (o := .cells #[.int .i64 a0_0, .string a0_1] 23 (0, 0)) (by (with_reducible repeat (first | refine blk_drewN ?_ _ | refine blk_drew ?_ | refine blk_alloc ?_ _)); refine blk_far ?_ NB189_224.out _; (with_reducible repeat (first | refine blk_drewN ?_ _ | refine blk_drew ?_ | refine blk_alloc ?_ _)); refine blk_far ?_ NB189_224.out _; (with_reducible repeat (first | refine blk_drewN ?_ _ | refine blk_drew ?_ | refine blk_alloc ?_ _)); refine blk_far ?_ NB189_224.out _; (with_reducible repeat (first | refine blk_drewN ?_ _ | refine blk_drew ?_ | refine blk_alloc ?_ _)); refine blk_far ?_ NB189_224.out _; (with_reducible repeat (first | refine blk_drewN ?_ _ | refine blk_drew ?_ | refine blk_alloc ?_ _)); exact BK189.out) hg (by simp [Value.ownBlock])); have n1_ := Aside0.mk (blk_grown (g := gb224) (o := .cells #[.string t219, .int .i64 t220, .string t221, .string t222] 42 (0, 0)) (by (with_reducible repeat (first | refine blk_drewN ?_ _ | refine blk_drew ?_ | refine blk_alloc ?_ _)); refine blk_put (cs := #[.string t219, .int .i64 t220, .string t221, .string (⟨#[]⟩ : ByteArray)]) ?_ 3 _ rfl; (with_reducible repeat (first | refine blk_drewN ?_ _ | refine blk_drew ?_ | refine blk_alloc ?_ _)); refine blk_put (cs := #[.string t219, .int .i64 t220, .string (⟨#[]⟩ : ByteArray), .string (⟨#[]⟩ : ByteArray)]) ?_ 2 _ rfl; (with_reducible repeat (first | refine blk_drewN ?_ _ | refine blk_drew ?_ | refine blk_alloc ?_ _)); refine blk_put (cs := #[.string t219, .int .i64 0, .string (⟨#[]⟩ : ByteArray), .string (⟨#[]⟩ : ByteArray)]) ?_ 1 _ rfl; (with_reducible repeat (first | refine blk_drewN ?_ _ | refine blk_drew ?_ | refine blk_alloc ?_ _)); refine blk_put (cs := #[.string (⟨#[]⟩ : ByteArray), .int .i64 0, .string (⟨#[]⟩ : ByteArray), .string (⟨#[]⟩ : ByteArray)]) ?_ 0 _ rfl; (with_reducible repeat (first | refine blk_drewN ?_ _ | refine blk_drew ?_ | refine blk_alloc ?_ _)); exact BK224.out) hg (by simp [Value.ownBlock])); have n2_ := Aside0.mk (hb); have n3_ := Aside0.mk (ho); clear BK189; clear BK224; clear HB; have BK189 := n0_; have BK224 := n1_; have HB := n2_; have HO227 := n3_; clear n0_ n1_ n2_ n3_; clear ho hb hg hat))
      go_ret
      exact ⟨_, er_, by (with_reducible repeat (first | apply Kd.R_alloc | apply Kd.R_drewN | apply Kd.R_drew)); exact HO227.out, by repeat (first | (with_reducible first | exact HB.out | apply below_alloc | apply pw_below_drewN | apply below_drew1 | refine below_set ?_ GE189.out | refine below_set ?_ GE224.out) | exact HB.out)⟩
     ·
      rw [if_neg c44] at H
      exact absurd H (by simp)
    ·
     rw [if_neg c42] at H
     have c42b0 : (a0_0 == 4) = false := beq_eq_false_iff_ne.mpr c42
     have c42b1 : (a0_0 != 4) = true := bne_iff_ne.mpr c42
     obtain rfl := Option.some.inj H
     go_enter Tryz.func17, Tryz.ntmps17
     go_wp2_with (first | ((with_reducible refine gate_dst (N := 1) rfl ?_); refine box_event ?hg (N := 1) ?hd (cs := #[.int .i64 a0_0, .string a0_1]) (t := 23) ?hr ?_; (case hd => rfl); (case hg => rfl); (case hr => first | (go_simp; done) | (go_simp; rfl)); intro gb189 hg w54 hbox hb; have n0_ := Aside0.mk (below_step bw_ hb); have n1_ := Aside0.mk (hbox); have n2_ := Aside0.mk ((by rw [hg]; exact (below_size bw_) : w.heap.size ≤ gb189)); have n3_ := Aside0.mk ((by rw [hg]; exact (below_size bw_) : w.heap.size ≤ gb189)); clear HB; have HB := n0_; have BK189 := n1_; have GW189 := n2_; have GE189 := n3_; clear n0_ n1_ n2_ n3_; clear hb hbox hg; have hcz55_0 : w54.cell? ⟨gb189, 0, none⟩ = some (.int .i64 a0_0) := (blk_cell BK189.out 0).trans rfl; have hcz55_1 : w54.cell? ⟨gb189, 1, none⟩ = some (.string a0_1) := (blk_cell BK189.out 1).trans rfl; have hfz55_0 := blk_frozen BK189.out 0; have hfz55_1 := blk_frozen BK189.out 1) | ((with_reducible refine gate_callee (f := 12) rfl ?_); refine goesL_ (some 14) rfl rfl Tryz.func12 (by kernel_rfl) rfl #[.agg #[.int .i64 a0_0, .string a0_1]] rfl la_ ?_; (with_reducible refine (r04_Right.calls k a0_0 a0_1 true _ A2.out).mono ?_); rintro e w56 ⟨rfl, hb⟩; refine ⟨_, rfl, ?_⟩; have n0_ := Aside0.mk (blk_below (g := gb189) (o := .cells #[.int .i64 a0_0, .string a0_1] 23 (0, 0)) (by (with_reducible repeat (first | refine blk_drewN ?_ _ | refine blk_drew ?_ | refine blk_alloc ?_ _)); exact BK189.out) hb); have n1_ := Aside0.mk (below_step (by repeat (first | (with_reducible first | exact HB.out | apply below_alloc | apply pw_below_drewN | apply below_drew1 | refine below_set ?_ GE189.out) | exact HB.out)) hb); clear BK189; clear HB; have BK189 := n0_; have HB := n1_; clear n0_ n1_; (try clear hb); (try clear hb2); (try clear hk); (try clear hi); have hcz57_0 : w56.cell? ⟨gb189, 0, none⟩ = some (.int .i64 a0_0) := (blk_cell BK189.out 0).trans rfl; have hcz57_1 : w56.cell? ⟨gb189, 1, none⟩ = some (.string a0_1) := (blk_cell BK189.out 1).trans rfl; have hfz57_0 := blk_frozen BK189.out 0; have hfz57_1 := blk_frozen BK189.out 1))
     go_ret
     exact ⟨_, er_, kn_, by repeat (first | (with_reducible first | exact HB.out | apply below_alloc | apply pw_below_drewN | apply below_drew1 | refine below_set ?_ GE189.out) | exact HB.out)⟩
 ·
  replace c3 := Bool.eq_false_iff.mpr c3
  subst c3
  have H1 : (some ([] : List (S58))) = some r := by rw [if_neg (show ¬ (false = true) by decide)] at H; exact H
  clear H
  have H := H1
  clear H1
  obtain rfl := Option.some.inj H
  go_enter Tryz.func17, Tryz.ntmps17
  go_wp2_with (first | ((with_reducible refine gate_dst (N := 1) rfl ?_); refine box_event ?hg (N := 1) ?hd (cs := #[.int .i64 a0_0, .string a0_1]) (t := 23) ?hr ?_; (case hd => rfl); (case hg => rfl); (case hr => first | (go_simp; done) | (go_simp; rfl)); intro gb189 hg w58 hbox hb; have n0_ := Aside0.mk (below_step bw_ hb); have n1_ := Aside0.mk (hbox); have n2_ := Aside0.mk ((by rw [hg]; exact (below_size bw_) : w.heap.size ≤ gb189)); have n3_ := Aside0.mk ((by rw [hg]; exact (below_size bw_) : w.heap.size ≤ gb189)); clear HB; have HB := n0_; have BK189 := n1_; have GW189 := n2_; have GE189 := n3_; clear n0_ n1_ n2_ n3_; clear hb hbox hg; have hcz59_0 : w58.cell? ⟨gb189, 0, none⟩ = some (.int .i64 a0_0) := (blk_cell BK189.out 0).trans rfl; have hcz59_1 : w58.cell? ⟨gb189, 1, none⟩ = some (.string a0_1) := (blk_cell BK189.out 1).trans rfl; have hfz59_0 := blk_frozen BK189.out 0; have hfz59_1 := blk_frozen BK189.out 1) | ((with_reducible refine gate_callee (f := 12) rfl ?_); refine goesL_ (some 14) rfl rfl Tryz.func12 (by kernel_rfl) rfl #[.agg #[.int .i64 a0_0, .string a0_1]] rfl la_ ?_; (with_reducible refine (r04_Right.calls k a0_0 a0_1 false _ A2.out).mono ?_); rintro e w60 ⟨rfl, hb⟩; refine ⟨_, rfl, ?_⟩; have n0_ := Aside0.mk (blk_below (g := gb189) (o := .cells #[.int .i64 a0_0, .string a0_1] 23 (0, 0)) (by (with_reducible repeat (first | refine blk_drewN ?_ _ | refine blk_drew ?_ | refine blk_alloc ?_ _)); exact BK189.out) hb); have n1_ := Aside0.mk (below_step (by repeat (first | (with_reducible first | exact HB.out | apply below_alloc | apply pw_below_drewN | apply below_drew1 | refine below_set ?_ GE189.out) | exact HB.out)) hb); clear BK189; clear HB; have BK189 := n0_; have HB := n1_; clear n0_ n1_; (try clear hb); (try clear hb2); (try clear hk); (try clear hi)))
  go_ret
  exact ⟨_, er_, kn_, by repeat (first | (with_reducible first | exact HB.out | apply below_alloc | apply pw_below_drewN | apply below_drew1 | refine below_set ?_ GE189.out) | exact HB.out)⟩
noncomputable def r03_Text.l0 : Nat → Int → ByteArray → Option (ByteArray)
 | 0, _, _ => none
 | k + 1, x0, x3 => if x0 > 0 then ((some (([(wrap64 (48 + (Int.tmod x0 10))) % 256] : List Int) : List Int)).bind fun y231 => (if (strOfNums y231).size + x3.size ≤ 9223372036854775807 then (r03_Text.l0 k (wrap64 (Int.tdiv x0 10)) ((strOfNums y231) ++ x3)) else (none))) else (some x3)
noncomputable def r03_Text.f (k : Nat) (a0 : Int) : Option (ByteArray) := if a0 < 0 then (some (⟨#[]⟩ : ByteArray)) else (r03_Text.l0 k (wrap64 (Int.tdiv a0 10)) (strOfNums (([(wrap64 (48 + (Int.tmod a0 10))) % 256] : List Int))))
set_option maxHeartbeats 8000000 in
set_option maxRecDepth 100000 in
theorem r03_Text.calls (k : Nat) (a0 : Int) (r : ByteArray) (w : World) (h : r03_Text.f k a0 = some r) :
  Calls Tryz.prog 40 #[.int .i64 a0] w fun e w' => e = .returned (.string r) ∧ Below w.heap.size w w' := by
 have HB := Aside0.mk (Below.refl w.heap.size w)
 have H : (if a0 < 0 then (some (⟨#[]⟩ : ByteArray)) else (r03_Text.l0 k (wrap64 (Int.tdiv a0 10)) (strOfNums (([(wrap64 (48 + (Int.tmod a0 10))) % 256] : List Int))))) = some r := h
 clear h
 by_cases c2 : a0 < 0
 ·
  rw [if_pos c2] at H
  have c2b0 : decide (a0 < 0) = true := decide_eq_true c2
  clear c2
  obtain rfl := Option.some.inj H
  go_enter Tryz.func40, Tryz.ntmps40
  go_wp2
  go_ret
  exact ⟨er_, bw_⟩
 ·
  rw [if_neg c2] at H
  have c2b0 : decide (a0 < 0) = false := decide_eq_false c2
  clear c2
  obtain ⟨y228, hy228⟩ : ∃ y_ : List Int, y_ = (([(wrap64 (48 + (Int.tmod a0 10))) % 256] : List Int)) := ⟨_, rfl⟩
  replace H : (r03_Text.l0 k (wrap64 (Int.tdiv a0 10)) (strOfNums y228)) = some r := by first | (rw [hy228]; with_reducible exact H) | (have H2_ := (Option.bind_some _ _).symm.trans H; rw [hy228]; with_reducible exact H2_) | (have H2_ := (Option.bind_some _ _).symm.trans H; with_reducible exact H2_) | with_reducible exact H | (rw [hy228]; exact H) | exact H
  have Ny228 := Aside0.mk hy228
  clear hy228
  have H' := Aside0.mk H
  clear H
  go_enter Tryz.func40, Tryz.ntmps40
  go_wp2_with (first | ((with_reducible refine gate_dst (N := 10) rfl ?_); refine Kd.R_lit (Kd.int .u8) _ 5 ?hg (N := 10) ?hd (xs := ([(wrap64 (48 + (Int.tmod a0 10))) % 256] : List Int)) (inner := [.int .u8 ((wrap64 (48 + (Int.tmod a0 10))) % 256)]) (ok := fun _ => True) (okp := fun _ => True) ?hr ?hp (fun _ hk => hk) trivial (Below.refl _ _) (Nat.le_refl _) (by simp) ?_; (case hd => rfl); (case hg => rfl); (case hr => first | (go_simp; done) | (go_simp; rfl)); (case hp => exact (Reps.one (show Kd.M (Kd.int .u8) _ _ _ ((wrap64 (48 + (Int.tmod a0 10))) % 256) [.int .u8 ((wrap64 (48 + (Int.tmod a0 10))) % 256)] from rfl) (Reps.none _ _))); intro v229 w3 ho4 hb hg_ hnew_; clear hg_ hnew_; (first | rw [← Ny228.out] at ho4 | (simp only [Int.reduceToNat] at ho4; rw [← Ny228.out] at ho4)); have n0_ := Aside0.mk (Kd.R_lower ho4 (below_size bw_)); have n1_ := Aside0.mk (below_step bw_ hb); clear HB; have HO230 := n0_; have HB := n1_; clear n0_ n1_; clear hb ho4; have hcv5 := own_string (P := Tryz.prog) Tryz.underlying62 Tryz.underlying5 Tryz.underlying9 (Kd.own_of_R HO230.out)))
  go_loopg [0, 3] k (fun kq v0 v3 w' => ∃ (x0_1 : Int) (x3_1 : ByteArray), v0 = .int .i64 x0_1 ∧ v3 = .string x3_1 ∧ Aside0 (r03_Text.l0 kq x0_1 x3_1 = some r) ∧ Aside0 (kq ≤ k) ∧ Aside0 (Below w.heap.size w w'))
  case atStart => exact ⟨(wrap64 (Int.tdiv a0 10)), (strOfNums y228), sd_, sd_, H', ⟨Nat.le_refl _⟩, ⟨bw_⟩⟩
  case round =>
   clear H'
   try clear c2
   try clear c2b0
   try clear p2
   try clear c4
   try clear hcv5
   obtain ⟨x0_1, x3_1, rfl, rfl, HA, HK1, HB⟩ := hrel
   cases gk with
   | zero => exact absurd HA.out (by simp [r03_Text.l0])
   | succ k1 =>
    have H := HA.out
    clear HA
    simp only [r03_Text.l0] at H
    by_cases c6 : x0_1 > 0
    ·
     rw [if_pos c6] at H
     have c6b0 : decide (0 < x0_1) = true := decide_eq_true c6
     clear c6
     obtain ⟨y231, hy231⟩ : ∃ y_ : List Int, y_ = (([(wrap64 (48 + (Int.tmod x0_1 10))) % 256] : List Int)) := ⟨_, rfl⟩
     replace H : (if (strOfNums y231).size + x3_1.size ≤ 9223372036854775807 then (r03_Text.l0 k1 (wrap64 (Int.tdiv x0_1 10)) ((strOfNums y231) ++ x3_1)) else (none)) = some r := by first | (rw [hy231]; with_reducible exact H) | (have H2_ := (Option.bind_some _ _).symm.trans H; rw [hy231]; with_reducible exact H2_) | (have H2_ := (Option.bind_some _ _).symm.trans H; with_reducible exact H2_) | with_reducible exact H | (rw [hy231]; exact H) | exact H
     have Ny231 := Aside0.mk hy231
     clear hy231
     by_cases c7 : (strOfNums y231).size + x3_1.size ≤ 9223372036854775807
     ·
      rw [if_pos c7] at H
      have c7b0 := eq_true c7
      have c7b1 : decide ((strOfNums y231).size + x3_1.size ≤ 9223372036854775807) = true := decide_eq_true c7
      try have c7b2 : (9223372036854775807 < (strOfNums y231).size + x3_1.size) = False := eq_false (Nat.not_lt.2 c7)
      have H' := Aside0.mk H
      clear H
      go_wp2_with (first | ((with_reducible refine gate_dst (N := 22) rfl ?_); refine Kd.R_lit (Kd.int .u8) _ 5 ?hg (N := 22) ?hd (xs := ([(wrap64 (48 + (Int.tmod x0_1 10))) % 256] : List Int)) (inner := [.int .u8 ((wrap64 (48 + (Int.tmod x0_1 10))) % 256)]) (ok := fun _ => True) (okp := fun _ => True) ?hr ?hp (fun _ hk => hk) trivial (Below.refl _ _) (Nat.le_refl _) (by simp) ?_; (case hd => rfl); (case hg => rfl); (case hr => first | (go_simp; done) | (go_simp; rfl)); (case hp => exact (Reps.one (show Kd.M (Kd.int .u8) _ _ _ ((wrap64 (48 + (Int.tmod x0_1 10))) % 256) [.int .u8 ((wrap64 (48 + (Int.tmod x0_1 10))) % 256)] from rfl) (Reps.none _ _))); intro v232 w8 ho9 hb hg_ hnew_; clear hg_ hnew_; (first | rw [← Ny231.out] at ho9 | (simp only [Int.reduceToNat] at ho9; rw [← Ny231.out] at ho9)); have n0_ := Aside0.mk (Kd.R_lower ho9 (below_size bw_)); have n1_ := Aside0.mk (below_step bw_ hb); clear HB; have HO233 := n0_; have HB := n1_; clear n0_ n1_; clear hb ho9; have hcv10 := own_string (P := Tryz.prog) Tryz.underlying62 Tryz.underlying5 Tryz.underlying9 (Kd.own_of_R HO233.out)))
      go_roundg k1
      case measure => have := HK1.out; omega
      case rel => exact ⟨(wrap64 (Int.tdiv x0_1 10)), ((strOfNums y231) ++ x3_1), sd_, sd_, H', ⟨by have := HK1.out; omega⟩, ⟨bw_⟩⟩
     ·
      rw [if_neg c7] at H
      exact absurd H (by simp)
    ·
     rw [if_neg c6] at H
     have c6b0 : decide (0 < x0_1) = false := decide_eq_false c6
     clear c6
     obtain rfl := Option.some.inj H
     go_wp2
     go_ret
     exact ⟨er_, bw_⟩
end Go.Proofs.YtefefhhaopjccaaGreatDoor.PObDoc
