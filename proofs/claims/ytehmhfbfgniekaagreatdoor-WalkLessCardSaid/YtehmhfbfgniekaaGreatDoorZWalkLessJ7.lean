/- Joined texts: PObDocx3, PObDocx4, PObDocx9. No condition but what stands in each. -/
import Derived.Test.YtehmhfbfgniekaaGreatDoorZWalkLessJ6
namespace Go.Proofs.YtehmhfbfgniekaaGreatDoor.PObDoc
open Go.Proofs.YtehmhfbfgniekaaGreatDoor.PObBase
open Go.RowKit Go.Proofs.YtehmhfbfgniekaaGreatDoorW.PrintWords Go.Proofs.YtehmhfbfgniekaaGreatDoorW.PrintLast Go.Proofs.YtehmhfbfgniekaaGreatDoorW.PrintMore
attribute [local go_sem] StrSem.leq_str StrSem.geq_str StrSem.gtr_str max2_int min2_int max_two min_two max_three min_three max_four min_four   -- for this text's walks alone
set_option linter.unusedVariables false
set_option linter.unusedSimpArgs false
noncomputable def r04_PutTree.l0 : Nat → List (S58) → ByteArray → Int → Option (ByteArray × Bool)
 | 0, _, _, _ => none
 | k + 1, x0, x4, x5 => if x5 < (x0.length : Int) then (if 0 ≤ x5 then ((some (([(wrap64 (48 + ((rd_T58 x0 x5).f0))) % 256, 32] : List Int) : List Int)).bind fun y112 => (if x4.size + (strOfNums y112).size ≤ 9223372036854775807 then (if (x4 ++ (strOfNums y112)).size + ((rd_T58 x0 x5).f1).size ≤ 9223372036854775807 then (if ((x4 ++ (strOfNums y112)) ++ ((rd_T58 x0 x5).f1)).size + 1 ≤ 9223372036854775807 then (if (((x4 ++ (strOfNums y112)) ++ ((rd_T58 x0 x5).f1)) ++ (⟨#[0]⟩ : ByteArray)).size + ((rd_T58 x0 x5).f2).size ≤ 9223372036854775807 then (r04_PutTree.l0 k x0 ((((x4 ++ (strOfNums y112)) ++ ((rd_T58 x0 x5).f1)) ++ (⟨#[0]⟩ : ByteArray)) ++ ((rd_T58 x0 x5).f2)) (wrap64 (x5 + 1))) else (none)) else (none)) else (none)) else (none))) else (none)) else (some (x4, true))
noncomputable def r04_PutTree.f (k : Nat) (l0 : List (S58)) : Option (ByteArray × Bool) := (r04_RightTree.f k l0).bind fun t110 => (if t110 = true then (r04_PutTree.l0 k l0 (⟨#[]⟩ : ByteArray) 0) else (some ((⟨#[]⟩ : ByteArray), false)))
def r04_PutTree.T7 : Bool × List (List Nat × List Nat) := (true, [([], []), ([], []), ([], []), ([1, 2], [1, 2]), ([3], [3]), ([4], [4]), ([5], [5]), ([6], [6]), ([7], [7]), ([8], [8]), ([0, 9], [0, 9]), ([], []), ([], []), ([11, 12], [11, 12]), ([13], [13]), ([14], [14]), ([10, 15], [10, 15]), ([16], [16]), ([], []), ([], []), ([18, 19], [18, 19]), ([20], [20]), ([21], [21]), ([17, 22], [17, 22]), ([23, 0, 1, 2, 3, 4, 5, 6, 7, 8, 9, 10, 11, 12, 13, 14, 15, 16, 17, 18, 19, 20, 21, 22, 23], [0, 23])])
def r04_PutTree.B7 : List Nat := [0, 0, 0, 6, 14, 30, 62, 126, 254, 510, 1023, 0, 0, 6144, 14336, 30720, 65535, 131071, 0, 0, 786432, 1835008, 3932160, 8388607, 16777215]
theorem r04_PutTree.tab7 : rtab .any (opsOf Tryz.f29 7) = r04_PutTree.T7 := by kernel_rfl
theorem r04_PutTree.bits7 : waitsOk r04_PutTree.T7.2 r04_PutTree.B7 = true := by kernel_rfl
set_option maxHeartbeats 8000000 in
set_option maxRecDepth 100000 in
theorem r04_PutTree.calls (k : Nat) (A0 : Option Addr) (c0 : Nat) (l0 : List (S58)) (r1 : ByteArray) (r2 : Bool) (w : World) (hr0 : Kd.C k58 w A0 l0.length l0) (hc0 : l0.length ≤ c0) (h : r04_PutTree.f k l0 = some (r1, r2)) :
  Calls Tryz.prog 29 #[.slice A0 l0.length c0] w fun e w' => e = .returned (.tuple #[.string r1, .bool r2]) ∧ Below w.heap.size w w' := by
 have HR0 := Aside0.mk hr0
 have HC0 := Aside0.mk hc0
 clear hr0 hc0
 have HB := Aside0.mk (Below.refl w.heap.size w)
 have H : ((r04_RightTree.f k l0).bind fun t110 => (if t110 = true then (r04_PutTree.l0 k l0 (⟨#[]⟩ : ByteArray) 0) else (some ((⟨#[]⟩ : ByteArray), false)))) = some (r1, r2) := h
 clear h
 replace H := Option.bind_eq_some_iff.mp H
 obtain ⟨t110, A20, H⟩ := H
 replace H : (if t110 = true then (r04_PutTree.l0 k l0 (⟨#[]⟩ : ByteArray) 0) else (some ((⟨#[]⟩ : ByteArray), false))) = some (r1, r2) := H
 have A2 := Aside0.mk A20
 clear A20
 by_cases c3 : t110 = true
 ·
  subst c3
  have H1 : (r04_PutTree.l0 k l0 (⟨#[]⟩ : ByteArray) 0) = some (r1, r2) := by rw [if_pos rfl] at H; exact H
  clear H
  have H := H1
  clear H1
  have H' := Aside0.mk H
  clear H
  go_enter Tryz.func29, Tryz.ntmps29
  go_wp2_with (first | ((with_reducible refine gate_callee (f := 44) rfl ?_); refine goesL_ (some 7) rfl rfl Tryz.func44 (by kernel_rfl) rfl #[.slice A0 l0.length c0] rfl la_ ?_; (with_reducible refine (r04_RightTree.calls k _ _ l0 true _ ?side1 ?side2 A2.out).mono ?_); (case side1 => repeat (first | exact HR0.out | (with_reducible refine Kd.C_alloc ?_ _) | (with_reducible refine Kd.C_drewN ?_ _) | (with_reducible refine Kd.C_drew ?_))); (case side2 => exact HC0.out); rintro e w4 ⟨rfl, hb⟩; refine ⟨_, rfl, ?_⟩; have n0_ := Aside0.mk (below_step bw_ hb); clear HB; have HB := n0_; clear n0_; (try clear hb); (try clear hb2); (try clear hk); (try clear hi)))
  go_loopg [4, 5] k (fun kq v4 v5 w' => ∃ (x4_1 : ByteArray) (x5_1 : Int), v4 = .string x4_1 ∧ v5 = .int .i64 x5_1 ∧ Aside0 (r04_PutTree.l0 kq l0 x4_1 x5_1 = some (r1, r2)) ∧ Aside0 (kq ≤ k) ∧ Aside0 (Below w.heap.size w w'))
  case atStart => exact ⟨((⟨#[]⟩ : ByteArray)), (0), sd_, sd_, H', ⟨Nat.le_refl _⟩, ⟨bw_⟩⟩
  case round =>
   clear H'
   try clear c2
   try clear p2
   try clear c3
   try clear c4
   obtain ⟨x4_1, x5_1, rfl, rfl, HA, HK1, HB⟩ := hrel
   cases gk with
   | zero => exact absurd HA.out (by simp [r04_PutTree.l0])
   | succ k1 =>
    have H := HA.out
    clear HA
    simp only [r04_PutTree.l0] at H
    by_cases c5 : x5_1 < (l0.length : Int)
    ·
     rw [if_pos c5] at H
     have c5b0 : decide (x5_1 < (l0.length : Int)) = true := decide_eq_true c5
     clear c5
     by_cases c6 : 0 ≤ x5_1
     ·
      rw [if_pos c6] at H
      have c6b0 : decide (0 ≤ x5_1) = true := decide_eq_true c6
      clear c6
      obtain ⟨y112, hy112⟩ : ∃ y_ : List Int, y_ = (([(wrap64 (48 + ((rd_T58 l0 x5_1).f0))) % 256, 32] : List Int)) := ⟨_, rfl⟩
      replace H : (if x4_1.size + (strOfNums y112).size ≤ 9223372036854775807 then (if (x4_1 ++ (strOfNums y112)).size + ((rd_T58 l0 x5_1).f1).size ≤ 9223372036854775807 then (if ((x4_1 ++ (strOfNums y112)) ++ ((rd_T58 l0 x5_1).f1)).size + 1 ≤ 9223372036854775807 then (if (((x4_1 ++ (strOfNums y112)) ++ ((rd_T58 l0 x5_1).f1)) ++ (⟨#[0]⟩ : ByteArray)).size + ((rd_T58 l0 x5_1).f2).size ≤ 9223372036854775807 then (r04_PutTree.l0 k1 l0 ((((x4_1 ++ (strOfNums y112)) ++ ((rd_T58 l0 x5_1).f1)) ++ (⟨#[0]⟩ : ByteArray)) ++ ((rd_T58 l0 x5_1).f2)) (wrap64 (x5_1 + 1))) else (none)) else (none)) else (none)) else (none)) = some (r1, r2) := by first | (rw [hy112]; with_reducible exact H) | (have H2_ := (Option.bind_some _ _).symm.trans H; rw [hy112]; with_reducible exact H2_) | (have H2_ := (Option.bind_some _ _).symm.trans H; with_reducible exact H2_) | with_reducible exact H | (rw [hy112]; exact H) | exact H
      have Ny112 := Aside0.mk hy112
      clear hy112
      by_cases c7 : x4_1.size + (strOfNums y112).size ≤ 9223372036854775807
      ·
       rw [if_pos c7] at H
       have c7b0 := eq_true c7
       have c7b1 : decide (x4_1.size + (strOfNums y112).size ≤ 9223372036854775807) = true := decide_eq_true c7
       try have c7b2 : (9223372036854775807 < x4_1.size + (strOfNums y112).size) = False := eq_false (Nat.not_lt.2 c7)
       by_cases c8 : (x4_1 ++ (strOfNums y112)).size + ((rd_T58 l0 x5_1).f1).size ≤ 9223372036854775807
       ·
        rw [if_pos c8] at H
        have c8b0 := eq_true c8
        have c8b1 : decide ((x4_1 ++ (strOfNums y112)).size + ((rd_T58 l0 x5_1).f1).size ≤ 9223372036854775807) = true := decide_eq_true c8
        try have c8b2 : (9223372036854775807 < (x4_1 ++ (strOfNums y112)).size + ((rd_T58 l0 x5_1).f1).size) = False := eq_false (Nat.not_lt.2 c8)
        try have c8z : ¬ (9223372036854775807 < x4_1.size + (strOfNums y112).size + ((rd_T58 l0 x5_1).f1).size) := by (have h_ := c8; simp only [ByteArray.size_append] at h_; omega)
        by_cases c9 : ((x4_1 ++ (strOfNums y112)) ++ ((rd_T58 l0 x5_1).f1)).size + 1 ≤ 9223372036854775807
        ·
         rw [if_pos c9] at H
         have c9b0 := eq_true c9
         have c9b1 : decide (((x4_1 ++ (strOfNums y112)) ++ ((rd_T58 l0 x5_1).f1)).size + 1 ≤ 9223372036854775807) = true := decide_eq_true c9
         try have c9b2 : (9223372036854775807 < ((x4_1 ++ (strOfNums y112)) ++ ((rd_T58 l0 x5_1).f1)).size + 1) = False := eq_false (Nat.not_lt.2 c9)
         try have c9z : ¬ (9223372036854775807 < x4_1.size + (strOfNums y112).size + ((rd_T58 l0 x5_1).f1).size + 1) := by (have h_ := c9; simp only [ByteArray.size_append] at h_; omega)
         by_cases c10 : (((x4_1 ++ (strOfNums y112)) ++ ((rd_T58 l0 x5_1).f1)) ++ (⟨#[0]⟩ : ByteArray)).size + ((rd_T58 l0 x5_1).f2).size ≤ 9223372036854775807
         ·
          rw [if_pos c10] at H
          have c10b0 := eq_true c10
          have c10b1 : decide ((((x4_1 ++ (strOfNums y112)) ++ ((rd_T58 l0 x5_1).f1)) ++ (⟨#[0]⟩ : ByteArray)).size + ((rd_T58 l0 x5_1).f2).size ≤ 9223372036854775807) = true := decide_eq_true c10
          try have c10b2 : (9223372036854775807 < (((x4_1 ++ (strOfNums y112)) ++ ((rd_T58 l0 x5_1).f1)) ++ (⟨#[0]⟩ : ByteArray)).size + ((rd_T58 l0 x5_1).f2).size) = False := eq_false (Nat.not_lt.2 c10)
          try have c10z : ¬ (9223372036854775807 < x4_1.size + (strOfNums y112).size + ((rd_T58 l0 x5_1).f1).size + 1 + ((rd_T58 l0 x5_1).f2).size) := by (have h_ := c10; simp only [ByteArray.size_append] at h_; have e0_ : (⟨#[0]⟩ : ByteArray).size = 1 := rfl; omega)
          have H' := Aside0.mk H
          clear H
          try go_wp2
          have n0_ := Aside0.mk (below_drew1 HB.out)
          clear HB
          have HB := n0_
          clear n0_
          have p111 : 0 ≤ (x5_1 : Int) := oda_
          have q111 : x5_1 < (l0.length : Int) := oda_
          obtain ⟨ad111, e111, hx111_0, hx111_1, hx111_2⟩ := at_T58 HR0.out x5_1 p111 q111
          have hw111_2 := hx111_2
          have hw111_1 := hx111_1
          have hw111_0 := hx111_0
          cases e111
          replace hx111_0 := (HB.out.cell (World.block_lt_of_cell? w _ hx111_0)).trans hx111_0
          replace hx111_1 := (HB.out.cell (World.block_lt_of_cell? w _ hx111_1)).trans hx111_1
          replace hx111_2 := (HB.out.cell (World.block_lt_of_cell? w _ hx111_2)).trans hx111_2
          replace p111 := eq_true p111
          replace q111 := eq_true q111
          have p115 : 0 ≤ (x5_1 : Int) := oda_
          have q115 : x5_1 < (l0.length : Int) := oda_
          obtain ⟨ad115, e115, hx115_0, hx115_1, hx115_2⟩ := at_T58 HR0.out x5_1 p115 q115
          have hw115_2 := hx115_2
          have hw115_1 := hx115_1
          have hw115_0 := hx115_0
          obtain rfl : ad111 = ad115 := (by injection e115)
          replace hx115_0 := (HB.out.cell (World.block_lt_of_cell? w _ hx115_0)).trans hx115_0
          replace hx115_1 := (HB.out.cell (World.block_lt_of_cell? w _ hx115_1)).trans hx115_1
          replace hx115_2 := (HB.out.cell (World.block_lt_of_cell? w _ hx115_2)).trans hx115_2
          replace p115 := eq_true p115
          replace q115 := eq_true q115
          have p116 : 0 ≤ (x5_1 : Int) := oda_
          have q116 : x5_1 < (l0.length : Int) := oda_
          obtain ⟨ad116, e116, hx116_0, hx116_1, hx116_2⟩ := at_T58 HR0.out x5_1 p116 q116
          have hw116_2 := hx116_2
          have hw116_1 := hx116_1
          have hw116_0 := hx116_0
          obtain rfl : ad111 = ad116 := (by injection e116)
          replace hx116_0 := (HB.out.cell (World.block_lt_of_cell? w _ hx116_0)).trans hx116_0
          replace hx116_1 := (HB.out.cell (World.block_lt_of_cell? w _ hx116_1)).trans hx116_1
          replace hx116_2 := (HB.out.cell (World.block_lt_of_cell? w _ hx116_2)).trans hx116_2
          replace p116 := eq_true p116
          replace q116 := eq_true q116
          refine start_ (n := 25) (S := fun w' => w'.cell? (ad111.add ((x5_1).toNat * 3)) = some (.int .i64 ((rd_T58 l0 x5_1).f0)) ∧ w'.cell? ⟨(ad111.add ((x5_1).toNat * 3)).block, (ad111.add ((x5_1).toNat * 3)).off + 1, none⟩ = some (.string ((rd_T58 l0 x5_1).f1)) ∧ w'.cell? ⟨(ad111.add ((x5_1).toNat * 3)).block, (ad111.add ((x5_1).toNat * 3)).off + 2, none⟩ = some (.string ((rd_T58 l0 x5_1).f2)) ∧ w'.cell? (ad111.add ((x5_1).toNat * 3)) = some (.int .i64 ((rd_T58 l0 x5_1).f0)) ∧ w'.cell? ⟨(ad111.add ((x5_1).toNat * 3)).block, (ad111.add ((x5_1).toNat * 3)).off + 1, none⟩ = some (.string ((rd_T58 l0 x5_1).f1)) ∧ w'.cell? ⟨(ad111.add ((x5_1).toNat * 3)).block, (ad111.add ((x5_1).toNat * 3)).off + 2, none⟩ = some (.string ((rd_T58 l0 x5_1).f2)) ∧ w'.cell? (ad111.add ((x5_1).toNat * 3)) = some (.int .i64 ((rd_T58 l0 x5_1).f0)) ∧ w'.cell? ⟨(ad111.add ((x5_1).toNat * 3)).block, (ad111.add ((x5_1).toNat * 3)).off + 1, none⟩ = some (.string ((rd_T58 l0 x5_1).f1)) ∧ w'.cell? ⟨(ad111.add ((x5_1).toNat * 3)).block, (ad111.add ((x5_1).toNat * 3)).off + 2, none⟩ = some (.string ((rd_T58 l0 x5_1).f2))) (ds := []) (bl_ 25 0) (by kernel_rfl) rfl rfl ⟨((HB.out.cell (World.block_lt_of_cell? w _ hw111_0)).trans hw111_0), ((HB.out.cell (World.block_lt_of_cell? w _ hw111_1)).trans hw111_1), ((HB.out.cell (World.block_lt_of_cell? w _ hw111_2)).trans hw111_2), ((HB.out.cell (World.block_lt_of_cell? w _ hw115_0)).trans hw115_0), ((HB.out.cell (World.block_lt_of_cell? w _ hw115_1)).trans hw115_1), ((HB.out.cell (World.block_lt_of_cell? w _ hw115_2)).trans hw115_2), ((HB.out.cell (World.block_lt_of_cell? w _ hw116_0)).trans hw116_0), ((HB.out.cell (World.block_lt_of_cell? w _ hw116_1)).trans hw116_1), ((HB.out.cell (World.block_lt_of_cell? w _ hw116_2)).trans hw116_2)⟩ (fun hHeld => ?_); refine with_tabW r04_PutTree.tab7 r04_PutTree.bits7 (fun HT_ HW_ => ?_)
          generalize wr.drew = w11 at HB hx111_0 hx111_1 hx111_2 hx115_0 hx115_1 hx115_2 hx116_0 hx116_1 hx116_2 hHeld ⊢
          refine pv_ 0 15 (bl_ 25 1) ?_
          refine pv_ 1 16 (bl_ 25 3) ?_
          refine pv_ 2 17 (bl_ 25 7) ?_
          refine pv_ 3 18 (bl_ 25 15) ?_
          refine pv_ 4 19 (bl_ 25 31) ?_
          refine pv_ 11 26 (bl_ 25 2079) ?_
          refine pv_ 12 27 (bl_ 25 6175) ?_
          refine pv_ 13 28 (bl_ 25 14367) ?_
          refine pv_ 14 29 (bl_ 25 30751) ?_
          refine pv_ 18 33 (bl_ 25 292895) ?_
          refine pv_ 19 34 (bl_ 25 817183) ?_
          refine pv_ 20 35 (bl_ 25 1865759) ?_
          refine pv_ 21 36 (bl_ 25 3962911) ?_
          refine tk_ 5 20 (bl_ 25 3962943) hHeld (hv := by rintro w' ⟨s0, s1, s2, s3, s4, s5, s6, s7, s8⟩; go_simp; with_reducible rfl) (h := ?_)
          refine pv_ 6 21 (bl_ 25 3963007) ?_
          refine pv_ 7 22 (bl_ 25 3963135) ?_
          refine tk_ 15 30 (bl_ 25 3995903) hHeld (hv := by rintro w' ⟨s0, s1, s2, s3, s4, s5, s6, s7, s8⟩; go_simp; with_reducible rfl) (h := ?_)
          refine tk_ 22 37 (bl_ 25 8190207) hHeld (hv := by rintro w' ⟨s0, s1, s2, s3, s4, s5, s6, s7, s8⟩; go_simp; with_reducible rfl) (h := ?_)
          refine one_ (i := 8) (N := some 23) (bl_ 25 8190463) rfl rfl (one_of HT_.out (by kernel_rfl)) (by decide) (fun K hK => ?_)
          refine Kd.R_lit_step (Kd.int .u8) _ 5 ?hg (N := 23) ?hd (xs := ([(wrap64 (48 + ((rd_T58 l0 x5_1).f0))) % 256, 32] : List Int)) (inner := [.int .u8 ((wrap64 (48 + ((rd_T58 l0 x5_1).f0))) % 256), .int .u8 32]) (ok := fun _ => True) (okp := fun _ => True) ?hr ?hp (fun _ hk => hk) trivial (Below.refl _ _) (Nat.le_refl _) (by simp) ?_; (case hd => rfl); (case hg => rfl); (case hr => first | (go_simp; done) | (go_simp; rfl)); (case hp => exact (Reps.one (show Kd.M (Kd.int .u8) _ _ _ ((wrap64 (48 + ((rd_T58 l0 x5_1).f0))) % 256) [.int .u8 ((wrap64 (48 + ((rd_T58 l0 x5_1).f0))) % 256)] from rfl) (Reps.one (show Kd.M (Kd.int .u8) _ _ _ 32 [.int .u8 32] from rfl) (Reps.none _ _))))
          intro v113 w12 ho13 hb hg_ hnew_
          clear hg_ hnew_
          (first | rw [← Ny112.out] at ho13 | (simp only [Int.reduceToNat] at ho13; rw [← Ny112.out] at ho13))
          have n0_ := Aside0.mk (Kd.R_lower ho13 (below_size bw_))
          have n1_ := Aside0.mk (below_step bw_ hb)
          clear HB
          have HO114 := n0_
          have HB := n1_
          clear n0_ n1_
          clear hb ho13
          refine hK.out _ _ ⟨((HB.out.cell (World.block_lt_of_cell? w _ hw111_0)).trans hw111_0), ((HB.out.cell (World.block_lt_of_cell? w _ hw111_1)).trans hw111_1), ((HB.out.cell (World.block_lt_of_cell? w _ hw111_2)).trans hw111_2), ((HB.out.cell (World.block_lt_of_cell? w _ hw115_0)).trans hw115_0), ((HB.out.cell (World.block_lt_of_cell? w _ hw115_1)).trans hw115_1), ((HB.out.cell (World.block_lt_of_cell? w _ hw115_2)).trans hw115_2), ((HB.out.cell (World.block_lt_of_cell? w _ hw116_0)).trans hw116_0), ((HB.out.cell (World.block_lt_of_cell? w _ hw116_1)).trans hw116_1), ((HB.out.cell (World.block_lt_of_cell? w _ hw116_2)).trans hw116_2)⟩ (fun hHeld => ?_)
          clear hK K
          refine norm_ (a' := ?_) ?_ ?_
          rotate_left
          ·
           show Act.put _ (some 23) _ = _
           simp only [ps_]
           rfl
          refine one_ (i := 9) (N := some 24) (bl_ 25 8190975) rfl rfl (one_of HT_.out (by kernel_rfl)) (by decide) (fun K hK => ?_)
          have hcv14 := own_string (P := Tryz.prog) Tryz.underlying80 Tryz.underlying5 Tryz.underlying9 (Kd.own_of_R HO114.out)
          refine value_ (w1 := ?_) (v := ?_) (by rfl) rfl ?_ ?_
          rotate_left 2
          ·
           go_simp
           constructor
           · rfl
           · rfl
          clear hcv14
          refine hK.out _ _ ⟨((HB.out.cell (World.block_lt_of_cell? w _ hw111_0)).trans hw111_0), ((HB.out.cell (World.block_lt_of_cell? w _ hw111_1)).trans hw111_1), ((HB.out.cell (World.block_lt_of_cell? w _ hw111_2)).trans hw111_2), ((HB.out.cell (World.block_lt_of_cell? w _ hw115_0)).trans hw115_0), ((HB.out.cell (World.block_lt_of_cell? w _ hw115_1)).trans hw115_1), ((HB.out.cell (World.block_lt_of_cell? w _ hw115_2)).trans hw115_2), ((HB.out.cell (World.block_lt_of_cell? w _ hw116_0)).trans hw116_0), ((HB.out.cell (World.block_lt_of_cell? w _ hw116_1)).trans hw116_1), ((HB.out.cell (World.block_lt_of_cell? w _ hw116_2)).trans hw116_2)⟩ (fun hHeld => ?_)
          clear hK K
          refine norm_ (a' := ?_) ?_ ?_
          rotate_left
          ·
           show Act.put _ (some 24) _ = _
           simp only [ps_]
           rfl
          refine pv_ 10 25 (bl_ 25 8191999) ?_
          refine pv_ 16 31 (bl_ 25 8257535) ?_
          refine pv_ 17 32 (bl_ 25 8388607) ?_
          refine pv_ 23 38 (bl_ 25 16777215) ?_
          refine pv_ 24 4 (bl_ 25 33554431) ?_
          refine done_ (done_of HT_.out (by kernel_rfl)) ?_
          try go_wp2
          go_roundg k1
          case measure => have := HK1.out; omega
          case rel => exact ⟨((((x4_1 ++ (strOfNums y112)) ++ ((rd_T58 l0 x5_1).f1)) ++ (⟨#[0]⟩ : ByteArray)) ++ ((rd_T58 l0 x5_1).f2)), (wrap64 (x5_1 + 1)), sd_, sd_, H', ⟨by have := HK1.out; omega⟩, ⟨bw_⟩⟩
         ·
          rw [if_neg c10] at H
          exact absurd H (by simp)
        ·
         rw [if_neg c9] at H
         exact absurd H (by simp)
       ·
        rw [if_neg c8] at H
        exact absurd H (by simp)
      ·
       rw [if_neg c7] at H
       exact absurd H (by simp)
     ·
      rw [if_neg c6] at H
      exact absurd H (by simp)
    ·
     rw [if_neg c5] at H
     have c5b0 : decide (x5_1 < (l0.length : Int)) = false := decide_eq_false c5
     clear c5
     simp only [Option.some.injEq, Prod.mk.injEq] at H
     obtain ⟨rfl, rfl⟩ := H
     go_wp2
     go_ret2
     exact ⟨er_, bw_⟩
 ·
  replace c3 := Bool.eq_false_iff.mpr c3
  subst c3
  have H1 : (some ((⟨#[]⟩ : ByteArray), false)) = some (r1, r2) := by rw [if_neg (show ¬ (false = true) by decide)] at H; exact H
  clear H
  have H := H1
  clear H1
  simp only [Option.some.injEq, Prod.mk.injEq] at H
  obtain ⟨rfl, rfl⟩ := H
  go_enter Tryz.func29, Tryz.ntmps29
  go_wp2_with (first | ((with_reducible refine gate_callee (f := 44) rfl ?_); refine goesL_ (some 7) rfl rfl Tryz.func44 (by kernel_rfl) rfl #[.slice A0 l0.length c0] rfl la_ ?_; (with_reducible refine (r04_RightTree.calls k _ _ l0 false _ ?side1 ?side2 A2.out).mono ?_); (case side1 => repeat (first | exact HR0.out | (with_reducible refine Kd.C_alloc ?_ _) | (with_reducible refine Kd.C_drewN ?_ _) | (with_reducible refine Kd.C_drew ?_))); (case side2 => exact HC0.out); rintro e w15 ⟨rfl, hb⟩; refine ⟨_, rfl, ?_⟩; have n0_ := Aside0.mk (below_step bw_ hb); clear HB; have HB := n0_; clear n0_; (try clear hb); (try clear hb2); (try clear hk); (try clear hi)))
  go_ret2
  exact ⟨er_, bw_⟩
end Go.Proofs.YtehmhfbfgniekaaGreatDoor.PObDoc

namespace Go.Proofs.YtehmhfbfgniekaaGreatDoor.PObDoc
open Go.Proofs.YtehmhfbfgniekaaGreatDoor.PObBase
open Go.RowKit Go.Proofs.YtehmhfbfgniekaaGreatDoorW.PrintWords Go.Proofs.YtehmhfbfgniekaaGreatDoorW.PrintLast Go.Proofs.YtehmhfbfgniekaaGreatDoorW.PrintMore
attribute [local go_sem] StrSem.leq_str StrSem.geq_str StrSem.gtr_str max2_int min2_int max_two min_two max_three min_three max_four min_four   -- for this text's walks alone
set_option linter.unusedVariables false
set_option linter.unusedSimpArgs false
theorem o4_ {p : Prop} (h : p := by (with_reducible repeat (first | apply Kd.R_alloc | apply Kd.R_drewN | apply Kd.R_drew)); exact HO_4.out) : p := h
mutual
noncomputable def r04_GetTree.l0 : Nat → ByteArray → List (S58) → ByteArray → Option ((List (S58)) × Bool)
 | 0, _, _, _ => none
 | k + 1, x0, x4, x5 => if (x0.size : Int) > 0 then (r04_GetTree.l1 k x0 x4 x5 0) else ((r04_PutTree.f k x4).bind fun bt117 => (if bt117.2 = true then (if bt117.1.toList = x5.toList then (some (x4, true)) else (some (([] : List (S58)), false))) else (some (([] : List (S58)), false))))
noncomputable def r04_GetTree.l1 : Nat → ByteArray → List (S58) → ByteArray → Int → Option ((List (S58)) × Bool)
 | 0, _, _, _, _ => none
 | k + 1, x0, x4, x5, x6 => if x6 < (x0.size : Int) then (if 0 ≤ x6 then (if (bt x0 x6) = 0 then (if x6 < 2 then (some (([] : List (S58)), false)) else (if (wrap64 (x6 + 65)) > (x0.size : Int) then (some (([] : List (S58)), false)) else (if 1 < (x0.size : Int) then (if (bt x0 1) = 32 then (if 0 < (x0.size : Int) then (if 2 ≤ x6 then (if x6 ≤ (x0.size : Int) then (if 0 ≤ (wrap64 (x6 + 1)) then (if (wrap64 (x6 + 1)) ≤ (wrap64 (x6 + 65)) then (if (wrap64 (x6 + 65)) ≤ (x0.size : Int) then (if x4.length < 3518437208883 then (if 0 ≤ (wrap64 (x6 + 65)) then (r04_GetTree.l0 k (x0.extract ((wrap64 (x6 + 65)) : Int).toNat x0.size) (x4 ++ [(⟨wrap64 ((wrap64 (bt x0 0)) - 48), x0.extract 2 (x6 : Int).toNat, x0.extract ((wrap64 (x6 + 1)) : Int).toNat ((wrap64 (x6 + 65)) : Int).toNat⟩ : S58)]) x5) else (none)) else (none)) else (none)) else (none)) else (none)) else (none)) else (none)) else (none)) else (some (([] : List (S58)), false))) else (none)))) else (r04_GetTree.l1 k x0 x4 x5 (wrap64 (x6 + 1)))) else (none)) else (if x6 < 2 then (some (([] : List (S58)), false)) else (if (wrap64 (x6 + 65)) > (x0.size : Int) then (some (([] : List (S58)), false)) else (if 1 < (x0.size : Int) then (if (bt x0 1) = 32 then (if 0 < (x0.size : Int) then (if 2 ≤ x6 then (if x6 ≤ (x0.size : Int) then (if 0 ≤ (wrap64 (x6 + 1)) then (if (wrap64 (x6 + 1)) ≤ (wrap64 (x6 + 65)) then (if (wrap64 (x6 + 65)) ≤ (x0.size : Int) then (if x4.length < 3518437208883 then (if 0 ≤ (wrap64 (x6 + 65)) then (r04_GetTree.l0 k (x0.extract ((wrap64 (x6 + 65)) : Int).toNat x0.size) (x4 ++ [(⟨wrap64 ((wrap64 (bt x0 0)) - 48), x0.extract 2 (x6 : Int).toNat, x0.extract ((wrap64 (x6 + 1)) : Int).toNat ((wrap64 (x6 + 65)) : Int).toNat⟩ : S58)]) x5) else (none)) else (none)) else (none)) else (none)) else (none)) else (none)) else (none)) else (none)) else (some (([] : List (S58)), false))) else (none))))
end
noncomputable def r04_GetTree.f (k : Nat) (a0 : ByteArray) : Option ((List (S58)) × Bool) := r04_GetTree.l0 k a0 ([] : List (S58)) a0
def r04_GetTree.T9 : Bool × List (List Nat × List Nat) := (true, [([], []), ([], []), ([1], [1]), ([2], [2]), ([3], [3]), ([], []), ([], []), ([5, 6], [5, 6]), ([], []), ([], []), ([9], [9]), ([], []), ([11], [11]), ([8, 10, 12], [8, 10, 12]), ([4, 7, 13], [4, 7, 13]), ([14], [14]), ([0, 15], [0, 15]), ([16, 16, 0, 1, 2, 3, 4, 5, 6, 7, 8, 9, 10, 11, 12, 13, 14, 15, 16], [0, 16])])
def r04_GetTree.B9 : List Nat := [0, 0, 2, 6, 14, 0, 0, 96, 0, 0, 512, 0, 2048, 7936, 16382, 32766, 65535, 131071]
theorem r04_GetTree.tab9 : rtab .any (opsOf Tryz.f36 9) = r04_GetTree.T9 := by kernel_rfl
theorem r04_GetTree.bits9 : waitsOk r04_GetTree.T9.2 r04_GetTree.B9 = true := by kernel_rfl
set_option maxHeartbeats 8000000 in
set_option maxRecDepth 100000 in
theorem r04_GetTree.calls (k : Nat) (a0 : ByteArray) (r1 : List (S58)) (r2 : Bool) (w : World) (h : r04_GetTree.f k a0 = some (r1, r2)) :
  Calls Tryz.prog 36 #[.string a0] w fun e w' => ∃ v0_ : Value, e = .returned (.tuple #[v0_, .bool r2]) ∧ Kd.R k58 58 w' w.heap.size (fun _ => True) v0_ r1 ∧ Below w.heap.size w w' := by
 have hu58 := Tryz.underlying58
 have HB := Aside0.mk (Below.refl w.heap.size w)
 have H : (r04_GetTree.l0 k a0 ([] : List (S58)) a0) = some (r1, r2) := h
 clear h
 have H' := Aside0.mk H
 clear H
 go_enter Tryz.func36, Tryz.ntmps36
 go_wp2
 go_loopg [0, 4] k (fun kq v0 v4 w' => ∃ (x0_1 : ByteArray) (x4_1 : List (S58)), v0 = .string x0_1 ∧ Aside0 (r04_GetTree.l0 kq x0_1 x4_1 a0 = some (r1, r2)) ∧ Aside0 (kq ≤ k) ∧ Aside0 (Kd.R k58 58 w' w.heap.size (fun _ => True) v4 x4_1) ∧ Aside0 (Below w.heap.size w w'))
 case atStart => exact ⟨(a0), (([] : List (S58))), sd_, H', ⟨Nat.le_refl _⟩, ⟨kn_⟩, ⟨bw_⟩⟩
 case round =>
  clear H'
  obtain ⟨x0_1, x4_1, rfl, HA, HK1, HO_4, HB⟩ := hrel
  cases gk with
  | zero => exact absurd HA.out (by simp [r04_GetTree.l0])
  | succ k1 =>
   have H := HA.out
   clear HA
   simp only [r04_GetTree.l0] at H
   by_cases c2 : (x0_1.size : Int) > 0
   ·
    rw [if_pos c2] at H
    have c2b0 : decide (0 < (x0_1.size : Int)) = true := decide_eq_true c2
    have c2b1 : decide (0 < x0_1.size) = true := decide_eq_true (by omega)
    clear c2
    have H' := Aside0.mk H
    clear H
    go_wp2
    go_loopg [6] k1 (fun kq v6 w' => ∃ (x6_2 : Int), v6 = .int .i64 x6_2 ∧ Aside0 (r04_GetTree.l1 kq x0_1 x4_1 a0 x6_2 = some (r1, r2)) ∧ Aside0 (kq ≤ k1) ∧ Aside0 (Kd.R k58 58 w' w.heap.size (fun _ => True) u4 x4_1) ∧ Aside0 (Below w.heap.size w w'))
    case atStart => exact ⟨(0), sd_, H', ⟨Nat.le_refl _⟩, ⟨o4_⟩, ⟨bw_⟩⟩
    case round =>
     clear H'
     try clear c2
     try clear c2b0
     try clear c2b1
     try clear p2
     obtain ⟨x6_2, rfl, HA, HK2, HO_4, HB⟩ := hrel
     cases gk with
     | zero => exact absurd HA.out (by simp [r04_GetTree.l1])
     | succ k2 =>
      have H := HA.out
      clear HA
      simp only [r04_GetTree.l1] at H
      by_cases c3 : x6_2 < (x0_1.size : Int)
      ·
       rw [if_pos c3] at H
       have c3b0 : decide (x6_2 < (x0_1.size : Int)) = true := decide_eq_true c3
       clear c3
       by_cases c4 : 0 ≤ x6_2
       ·
        rw [if_pos c4] at H
        have c4b0 : decide (0 ≤ x6_2) = true := decide_eq_true c4
        clear c4
        by_cases c6 : (bt x0_1 x6_2) = 0
        ·
         rw [if_pos c6] at H
         have c6b0 : ((bt x0_1 x6_2) == 0) = true := beq_iff_eq.mpr c6
         have c6b1 : ((bt x0_1 x6_2) != 0) = false := bne_eq_false_iff_eq.mpr c6
         clear c6
         by_cases c7 : x6_2 < 2
         ·
          rw [if_pos c7] at H
          have c7b0 : decide (x6_2 < 2) = true := decide_eq_true c7
          clear c7
          simp only [Option.some.injEq, Prod.mk.injEq] at H
          obtain ⟨rfl, rfl⟩ := H
          have p5 : 0 ≤ (x6_2 : Int) := oda_
          have q5 : x6_2 < (x0_1.size : Int) := oda_
          have hx5 := bt_at x0_1 x6_2
          replace p5 := eq_true p5
          replace q5 := eq_true q5
          go_wp2
          go_ret2
          exact ⟨_, er_, kn_, bw_⟩
         ·
          rw [if_neg c7] at H
          have c7b0 : decide (x6_2 < 2) = false := decide_eq_false c7
          clear c7
          by_cases c8 : (wrap64 (x6_2 + 65)) > (x0_1.size : Int)
          ·
           rw [if_pos c8] at H
           have c8b0 : decide ((x0_1.size : Int) < (wrap64 (x6_2 + 65))) = true := decide_eq_true c8
           clear c8
           simp only [Option.some.injEq, Prod.mk.injEq] at H
           obtain ⟨rfl, rfl⟩ := H
           have p5 : 0 ≤ (x6_2 : Int) := oda_
           have q5 : x6_2 < (x0_1.size : Int) := oda_
           have hx5 := bt_at x0_1 x6_2
           replace p5 := eq_true p5
           replace q5 := eq_true q5
           go_wp2
           go_ret2
           exact ⟨_, er_, kn_, bw_⟩
          ·
           rw [if_neg c8] at H
           have c8b0 : decide ((x0_1.size : Int) < (wrap64 (x6_2 + 65))) = false := decide_eq_false c8
           clear c8
           by_cases c9 : 1 < (x0_1.size : Int)
           ·
            rw [if_pos c9] at H
            have c9b0 : decide (1 < (x0_1.size : Int)) = true := decide_eq_true c9
            have c9b1 : decide (1 < x0_1.size) = true := decide_eq_true (by omega)
            clear c9
            by_cases c11 : (bt x0_1 1) = 32
            ·
             rw [if_pos c11] at H
             have c11b0 : ((bt x0_1 1) == 32) = true := beq_iff_eq.mpr c11
             have c11b1 : ((bt x0_1 1) != 32) = false := bne_eq_false_iff_eq.mpr c11
             clear c11
             by_cases c12 : 0 < (x0_1.size : Int)
             ·
              rw [if_pos c12] at H
              have c12b0 : decide (0 < (x0_1.size : Int)) = true := decide_eq_true c12
              have c12b1 : decide (0 < x0_1.size) = true := decide_eq_true (by omega)
              clear c12
              by_cases c14 : 2 ≤ x6_2
              ·
               rw [if_pos c14] at H
               have c14b0 := eq_true c14
               have c14b1 : decide (2 ≤ x6_2) = true := decide_eq_true c14
               clear c14
               by_cases c15 : x6_2 ≤ (x0_1.size : Int)
               ·
                rw [if_pos c15] at H
                have c15b0 := eq_true c15
                have c15b1 : decide (x6_2 ≤ (x0_1.size : Int)) = true := decide_eq_true c15
                clear c15
                obtain ⟨ji16, hji16⟩ : ∃ j_ : Int, (wrap64 (x6_2 + 1)) = j_ := ⟨_, rfl⟩
                replace H : (if 0 ≤ (ji16) then (if (ji16) ≤ (wrap64 (x6_2 + 65)) then (if (wrap64 (x6_2 + 65)) ≤ (x0_1.size : Int) then (if x4_1.length < 3518437208883 then (if 0 ≤ (wrap64 (x6_2 + 65)) then (r04_GetTree.l0 k2 (x0_1.extract ((wrap64 (x6_2 + 65)) : Int).toNat x0_1.size) (x4_1 ++ [(⟨wrap64 ((wrap64 (bt x0_1 0)) - 48), x0_1.extract 2 (x6_2 : Int).toNat, x0_1.extract ((ji16) : Int).toNat ((wrap64 (x6_2 + 65)) : Int).toNat⟩ : S58)]) a0) else (none)) else (none)) else (none)) else (none)) else (none)) = some (r1, r2) := by first | (rw [hji16] at H; exact H) | (simp only [hji16] at H ⊢; exact H)
                have hji16w : (IntKind.i64.wrap (x6_2 + 1)) = ji16 := (i64_w _).trans hji16
                by_cases c17 : 0 ≤ (ji16)
                ·
                 rw [if_pos c17] at H
                 have c17b0 := eq_true c17
                 have c17b1 : decide (0 ≤ (ji16)) = true := decide_eq_true c17
                 clear c17
                 by_cases c18 : (ji16) ≤ (wrap64 (x6_2 + 65))
                 ·
                  rw [if_pos c18] at H
                  have c18b0 := eq_true c18
                  have c18b1 : decide ((ji16) ≤ (wrap64 (x6_2 + 65))) = true := decide_eq_true c18
                  by_cases c19 : (wrap64 (x6_2 + 65)) ≤ (x0_1.size : Int)
                  ·
                   rw [if_pos c19] at H
                   have c19b0 := eq_true c19
                   have c19b1 : decide ((wrap64 (x6_2 + 65)) ≤ (x0_1.size : Int)) = true := decide_eq_true c19
                   by_cases c20 : x4_1.length < 3518437208883
                   ·
                    rw [if_pos c20] at H
                    have LMc20 := Aside0.mk c20
                    clear c20
                    obtain ⟨y119, hy119⟩ : ∃ y_ : List (S58), y_ = (x4_1 ++ [(⟨wrap64 ((wrap64 (bt x0_1 0)) - 48), x0_1.extract 2 (x6_2 : Int).toNat, x0_1.extract ((ji16) : Int).toNat ((wrap64 (x6_2 + 65)) : Int).toNat⟩ : S58)]) := ⟨_, rfl⟩
                    replace H : (if 0 ≤ (wrap64 (x6_2 + 65)) then (r04_GetTree.l0 k2 (x0_1.extract ((wrap64 (x6_2 + 65)) : Int).toNat x0_1.size) y119 a0) else (none)) = some (r1, r2) := by first | (rw [hy119]; with_reducible exact H) | (have H2_ := (Option.bind_some _ _).symm.trans H; rw [hy119]; with_reducible exact H2_) | (have H2_ := (Option.bind_some _ _).symm.trans H; with_reducible exact H2_) | with_reducible exact H | (rw [hy119]; exact H) | exact H
                    have Ny119 := Aside0.mk hy119
                    clear hy119
                    obtain ⟨ji21, hji21⟩ : ∃ j_ : Int, (wrap64 (x6_2 + 65)) = j_ := ⟨_, rfl⟩
                    replace H : (if 0 ≤ (ji21) then (r04_GetTree.l0 k2 (x0_1.extract ((ji21) : Int).toNat x0_1.size) y119 a0) else (none)) = some (r1, r2) := by first | (rw [hji21] at H; exact H) | (simp only [hji21] at H ⊢; exact H)
                    (try rw [hji21] at c8b0)
                    (try rw [hji21] at c18b0)
                    (try rw [hji21] at c18b1)
                    (try rw [hji21] at c18)
                    (try rw [hji21] at c19b0)
                    (try rw [hji21] at c19b1)
                    (try rw [hji21] at c19)
                    (try rw [hji21] at Ny119)
                    have hji21w : (IntKind.i64.wrap (x6_2 + 65)) = ji21 := (i64_w _).trans hji21
                    by_cases c22 : 0 ≤ (ji21)
                    ·
                     rw [if_pos c22] at H
                     have c22b0 := eq_true c22
                     have c22b1 : decide (0 ≤ (ji21)) = true := decide_eq_true c22
                     clear c22
                     have c23b0 := eq_true (oda_ : (ji21) ≤ (x0_1.size : Int))
                     have H' := Aside0.mk H
                     clear H
                     have p5 : 0 ≤ (x6_2 : Int) := oda_
                     have q5 : x6_2 < (x0_1.size : Int) := oda_
                     have hx5 := bt_at x0_1 x6_2
                     replace p5 := eq_true p5
                     replace q5 := eq_true q5
                     have p10 : 0 ≤ (1 : Int) := (by omega)
                     have q10 : 1 < x0_1.size := (by have : (1 : Int) < (x0_1.size : Int) := oda_; omega)
                     have hx10 : ∀ h : 1 < x0_1.size, ((x0_1[1]'h).toNat : Int) = bt x0_1 1 := bt_at x0_1 1
                     clear p10
                     have qi10 : (1 < (x0_1.size : Int)) = True := eq_true (oda_)
                     replace q10 := eq_true q10
                     try go_wp2
                     have n0_ := Aside0.mk (Kd.R_drew HO_4.out)
                     have n1_ := Aside0.mk (below_drew1 HB.out)
                     clear HO_4
                     clear HB
                     have HO_4 := n0_
                     have HB := n1_
                     clear n0_ n1_
                     have p13 : 0 ≤ (0 : Int) := (by omega)
                     have q13 : 0 < x0_1.size := (by have : (0 : Int) < (x0_1.size : Int) := oda_; omega)
                     have hx13 : ∀ h : 0 < x0_1.size, ((x0_1[0]'h).toNat : Int) = bt x0_1 0 := bt_at x0_1 0
                     clear p13
                     have qi13 : (0 < (x0_1.size : Int)) = True := eq_true (oda_)
                     replace q13 := eq_true q13
                     refine start_ (n := 18) (S := fun w' => True) (ds := []) (bl_ 18 0) (by kernel_rfl) rfl rfl trivial (fun hHeld => ?_); refine with_tabW r04_GetTree.tab9 r04_GetTree.bits9 (fun HT_ HW_ => ?_)
                     generalize wr.drew = w24 at HO_4 HB hHeld ⊢
                     refine pv_ 0 39 (bl_ 18 1) ?_
                     refine pv_ 1 40 (bl_ 18 3) ?_
                     refine pv_ 5 44 (bl_ 18 35) ?_
                     refine pv_ 6 45 (bl_ 18 99) ?_
                     refine pv_ 7 46 (bl_ 18 227) ?_
                     refine pv_ 8 47 (bl_ 18 483) ?_
                     refine pv_ 9 48 (bl_ 18 995) ?_
                     refine pv_ 10 49 (bl_ 18 2019) ?_
                     refine pv_ 11 50 (bl_ 18 4067) ?_
                     refine pv_ 12 51 (bl_ 18 8163) ?_
                     refine pv_ 13 52 (bl_ 18 16355) ?_
                     refine tk_ 2 41 (bl_ 18 16359) hHeld (hv := by intro w' _; go_simp; with_reducible rfl) (h := ?_)
                     refine pv_ 3 42 (bl_ 18 16367) ?_
                     refine pv_ 4 43 (bl_ 18 16383) ?_
                     refine pv_ 14 53 (bl_ 18 32767) ?_
                     refine one_ (i := 15) (N := some 54) (bl_ 18 65535) rfl rfl (one_of HT_.out (by kernel_rfl)) (by decide) (fun K hK => ?_)
                     refine value_ (w1 := ?_) (v := ?_) (by rfl) rfl ?_ ?_
                     rotate_left 2
                     ·
                      go_simp
                      constructor
                      · rfl
                      · rfl
                     refine hK.out _ _ trivial (fun hHeld => ?_)
                     clear hK K
                     refine norm_ (a' := ?_) ?_ ?_
                     rotate_left
                     ·
                      show Act.put _ (some 54) _ = _
                      simp only [ps_]
                      rfl
                     refine one_ (i := 16) (N := some 55) (bl_ 18 131071) rfl rfl (one_of HT_.out (by kernel_rfl)) (by decide) (fun K hK => ?_)
                     refine Kd.R_append_step k58 (w0 := w) w.heap.size (by rfl) (.tmp 39) (.tmp 54) 59 58 (.agg #[(.int .i64 0), (.string ⟨#[]⟩), (.string ⟨#[]⟩)]) 40 rfl Tryz.underlying59 info58 rfl (by decide) (by omega) u4 x4_1 (⟨wrap64 ((wrap64 (bt x0_1 0)) - 48), x0_1.extract 2 (x6_2 : Int).toNat, x0_1.extract ((ji16) : Int).toNat ((ji21) : Int).toNat⟩ : S58) [.int .i64 (wrap64 ((wrap64 (bt x0_1 0)) - 48)), .string (x0_1.extract 2 (x6_2 : Int).toNat), .string (x0_1.extract ((ji16) : Int).toNat ((ji21) : Int).toNat)] (fun _ => True) (fun _ => False) rfl rfl ?aP (fun _ hk => hk.elim) ?aF ?aO ?aB ?aS ?aL ?_
                     (case aP => exact k58_mkM _ _ _ (⟨wrap64 ((wrap64 (bt x0_1 0)) - 48), x0_1.extract 2 (x6_2 : Int).toNat, x0_1.extract ((ji16) : Int).toNat ((ji21) : Int).toNat⟩ : S58))
                     (case aB => exact bw_)
                     (case aF => exact (fun _ _ => trivial))
                     (case aO => exact o4_)
                     (case aS => exact (below_size bw_))
                     (case aL => have := LMc20.out; omega)
                     intro v120 w25 ho hb hg hat
                     rw [← Ny119.out] at ho
                     have n0_ := Aside0.mk (hb)
                     have n1_ := Aside0.mk (ho)
                     clear HB
                     clear HO_4
                     have HB := n0_
                     have HO121 := n1_
                     clear n0_ n1_
                     clear ho hb hg hat
                     refine hK.out _ _ trivial (fun hHeld => ?_)
                     clear hK K
                     refine norm_ (a' := ?_) ?_ ?_
                     rotate_left
                     ·
                      show Act.put _ (some 55) _ = _
                      simp only [ps_]
                      rfl
                     refine pv_ 17 4 (bl_ 18 262143) ?_
                     refine done_ (done_of HT_.out (by kernel_rfl)) ?_
                     try go_wp2
                     go_roundg k2
                     case measure => have := HK1.out; have := HK2.out; omega
                     case rel => exact ⟨(x0_1.extract ((ji21) : Int).toNat x0_1.size), (y119), (by first | rfl | (simp; done) | (simp only [← hji21] <;> (first | rfl | simp)) | (simp [*]; done)), H', ⟨by have := HK1.out; have := HK2.out; omega⟩, ⟨by (with_reducible repeat (first | apply Kd.R_alloc | apply Kd.R_drewN | apply Kd.R_drew)); exact HO121.out⟩, ⟨bw_⟩⟩
                    ·
                     rw [if_neg c22] at H
                     exact absurd H (by simp)
                   ·
                    rw [if_neg c20] at H
                    exact absurd H (by simp)
                  ·
                   rw [if_neg c19] at H
                   exact absurd H (by simp)
                 ·
                  rw [if_neg c18] at H
                  exact absurd H (by simp)
                ·
                 rw [if_neg c17] at H
                 exact absurd H (by simp)
               ·
                rw [if_neg c15] at H
                exact absurd H (by simp)
              ·
               rw [if_neg c14] at H
               exact absurd H (by simp)
             ·
              rw [if_neg c12] at H
              exact absurd H (by simp)
            ·
             rw [if_neg c11] at H
             have c11b0 : ((bt x0_1 1) == 32) = false := beq_eq_false_iff_ne.mpr c11
             have c11b1 : ((bt x0_1 1) != 32) = true := bne_iff_ne.mpr c11
             simp only [Option.some.injEq, Prod.mk.injEq] at H
             obtain ⟨rfl, rfl⟩ := H
             have p5 : 0 ≤ (x6_2 : Int) := oda_
             have q5 : x6_2 < (x0_1.size : Int) := oda_
             have hx5 := bt_at x0_1 x6_2
             replace p5 := eq_true p5
             replace q5 := eq_true q5
             have p10 : 0 ≤ (1 : Int) := (by omega)
             have q10 : 1 < x0_1.size := (by have : (1 : Int) < (x0_1.size : Int) := oda_; omega)
             have hx10 : ∀ h : 1 < x0_1.size, ((x0_1[1]'h).toNat : Int) = bt x0_1 1 := bt_at x0_1 1
             clear p10
             have qi10 : (1 < (x0_1.size : Int)) = True := eq_true (oda_)
             replace q10 := eq_true q10
             go_wp2
             go_ret2
             exact ⟨_, er_, kn_, bw_⟩
           ·
            rw [if_neg c9] at H
            exact absurd H (by simp)
        ·
         rw [if_neg c6] at H
         have c6b0 : ((bt x0_1 x6_2) == 0) = false := beq_eq_false_iff_ne.mpr c6
         have c6b1 : ((bt x0_1 x6_2) != 0) = true := bne_iff_ne.mpr c6
         have H' := Aside0.mk H
         clear H
         have p5 : 0 ≤ (x6_2 : Int) := oda_
         have q5 : x6_2 < (x0_1.size : Int) := oda_
         have hx5 := bt_at x0_1 x6_2
         replace p5 := eq_true p5
         replace q5 := eq_true q5
         go_wp2
         go_roundg k2
         case measure => have := HK1.out; have := HK2.out; omega
         case rel => exact ⟨(wrap64 (x6_2 + 1)), sd_, H', ⟨by have := HK1.out; have := HK2.out; omega⟩, ⟨o4_⟩, ⟨bw_⟩⟩
       ·
        rw [if_neg c4] at H
        exact absurd H (by simp)
      ·
       rw [if_neg c3] at H
       have c3b0 : decide (x6_2 < (x0_1.size : Int)) = false := decide_eq_false c3
       clear c3
       by_cases c26 : x6_2 < 2
       ·
        rw [if_pos c26] at H
        have c26b0 : decide (x6_2 < 2) = true := decide_eq_true c26
        clear c26
        simp only [Option.some.injEq, Prod.mk.injEq] at H
        obtain ⟨rfl, rfl⟩ := H
        go_wp2
        go_ret2
        exact ⟨_, er_, kn_, bw_⟩
       ·
        rw [if_neg c26] at H
        have c26b0 : decide (x6_2 < 2) = false := decide_eq_false c26
        clear c26
        by_cases c27 : (wrap64 (x6_2 + 65)) > (x0_1.size : Int)
        ·
         rw [if_pos c27] at H
         have c27b0 : decide ((x0_1.size : Int) < (wrap64 (x6_2 + 65))) = true := decide_eq_true c27
         clear c27
         simp only [Option.some.injEq, Prod.mk.injEq] at H
         obtain ⟨rfl, rfl⟩ := H
         go_wp2
         go_ret2
         exact ⟨_, er_, kn_, bw_⟩
        ·
         rw [if_neg c27] at H
         have c27b0 : decide ((x0_1.size : Int) < (wrap64 (x6_2 + 65))) = false := decide_eq_false c27
         clear c27
         by_cases c28 : 1 < (x0_1.size : Int)
         ·
          rw [if_pos c28] at H
          have c28b0 : decide (1 < (x0_1.size : Int)) = true := decide_eq_true c28
          have c28b1 : decide (1 < x0_1.size) = true := decide_eq_true (by omega)
          clear c28
          by_cases c30 : (bt x0_1 1) = 32
          ·
           rw [if_pos c30] at H
           have c30b0 : ((bt x0_1 1) == 32) = true := beq_iff_eq.mpr c30
           have c30b1 : ((bt x0_1 1) != 32) = false := bne_eq_false_iff_eq.mpr c30
           clear c30
           by_cases c31 : 0 < (x0_1.size : Int)
           ·
            rw [if_pos c31] at H
            have c31b0 : decide (0 < (x0_1.size : Int)) = true := decide_eq_true c31
            have c31b1 : decide (0 < x0_1.size) = true := decide_eq_true (by omega)
            clear c31
            by_cases c33 : 2 ≤ x6_2
            ·
             rw [if_pos c33] at H
             have c33b0 := eq_true c33
             have c33b1 : decide (2 ≤ x6_2) = true := decide_eq_true c33
             clear c33
             by_cases c34 : x6_2 ≤ (x0_1.size : Int)
             ·
              rw [if_pos c34] at H
              have c34b0 := eq_true c34
              have c34b1 : decide (x6_2 ≤ (x0_1.size : Int)) = true := decide_eq_true c34
              clear c34
              obtain ⟨ji35, hji35⟩ : ∃ j_ : Int, (wrap64 (x6_2 + 1)) = j_ := ⟨_, rfl⟩
              replace H : (if 0 ≤ (ji35) then (if (ji35) ≤ (wrap64 (x6_2 + 65)) then (if (wrap64 (x6_2 + 65)) ≤ (x0_1.size : Int) then (if x4_1.length < 3518437208883 then (if 0 ≤ (wrap64 (x6_2 + 65)) then (r04_GetTree.l0 k2 (x0_1.extract ((wrap64 (x6_2 + 65)) : Int).toNat x0_1.size) (x4_1 ++ [(⟨wrap64 ((wrap64 (bt x0_1 0)) - 48), x0_1.extract 2 (x6_2 : Int).toNat, x0_1.extract ((ji35) : Int).toNat ((wrap64 (x6_2 + 65)) : Int).toNat⟩ : S58)]) a0) else (none)) else (none)) else (none)) else (none)) else (none)) = some (r1, r2) := by first | (rw [hji35] at H; exact H) | (simp only [hji35] at H ⊢; exact H)
              have hji35w : (IntKind.i64.wrap (x6_2 + 1)) = ji35 := (i64_w _).trans hji35
              by_cases c36 : 0 ≤ (ji35)
              ·
               rw [if_pos c36] at H
               have c36b0 := eq_true c36
               have c36b1 : decide (0 ≤ (ji35)) = true := decide_eq_true c36
               clear c36
               by_cases c37 : (ji35) ≤ (wrap64 (x6_2 + 65))
               ·
                rw [if_pos c37] at H
                have c37b0 := eq_true c37
                have c37b1 : decide ((ji35) ≤ (wrap64 (x6_2 + 65))) = true := decide_eq_true c37
                by_cases c38 : (wrap64 (x6_2 + 65)) ≤ (x0_1.size : Int)
                ·
                 rw [if_pos c38] at H
                 have c38b0 := eq_true c38
                 have c38b1 : decide ((wrap64 (x6_2 + 65)) ≤ (x0_1.size : Int)) = true := decide_eq_true c38
                 by_cases c39 : x4_1.length < 3518437208883
                 ·
                  rw [if_pos c39] at H
                  have LMc39 := Aside0.mk c39
                  clear c39
                  obtain ⟨y122, hy122⟩ : ∃ y_ : List (S58), y_ = (x4_1 ++ [(⟨wrap64 ((wrap64 (bt x0_1 0)) - 48), x0_1.extract 2 (x6_2 : Int).toNat, x0_1.extract ((ji35) : Int).toNat ((wrap64 (x6_2 + 65)) : Int).toNat⟩ : S58)]) := ⟨_, rfl⟩
                  replace H : (if 0 ≤ (wrap64 (x6_2 + 65)) then (r04_GetTree.l0 k2 (x0_1.extract ((wrap64 (x6_2 + 65)) : Int).toNat x0_1.size) y122 a0) else (none)) = some (r1, r2) := by first | (rw [hy122]; with_reducible exact H) | (have H2_ := (Option.bind_some _ _).symm.trans H; rw [hy122]; with_reducible exact H2_) | (have H2_ := (Option.bind_some _ _).symm.trans H; with_reducible exact H2_) | with_reducible exact H | (rw [hy122]; exact H) | exact H
                  have Ny122 := Aside0.mk hy122
                  clear hy122
                  obtain ⟨ji40, hji40⟩ : ∃ j_ : Int, (wrap64 (x6_2 + 65)) = j_ := ⟨_, rfl⟩
                  replace H : (if 0 ≤ (ji40) then (r04_GetTree.l0 k2 (x0_1.extract ((ji40) : Int).toNat x0_1.size) y122 a0) else (none)) = some (r1, r2) := by first | (rw [hji40] at H; exact H) | (simp only [hji40] at H ⊢; exact H)
                  (try rw [hji40] at c27b0)
                  (try rw [hji40] at c37b0)
                  (try rw [hji40] at c37b1)
                  (try rw [hji40] at c37)
                  (try rw [hji40] at c38b0)
                  (try rw [hji40] at c38b1)
                  (try rw [hji40] at c38)
                  (try rw [hji40] at Ny122)
                  have hji40w : (IntKind.i64.wrap (x6_2 + 65)) = ji40 := (i64_w _).trans hji40
                  by_cases c41 : 0 ≤ (ji40)
                  ·
                   rw [if_pos c41] at H
                   have c41b0 := eq_true c41
                   have c41b1 : decide (0 ≤ (ji40)) = true := decide_eq_true c41
                   clear c41
                   have c42b0 := eq_true (oda_ : (ji40) ≤ (x0_1.size : Int))
                   have H' := Aside0.mk H
                   clear H
                   have p29 : 0 ≤ (1 : Int) := (by omega)
                   have q29 : 1 < x0_1.size := (by have : (1 : Int) < (x0_1.size : Int) := oda_; omega)
                   have hx29 : ∀ h : 1 < x0_1.size, ((x0_1[1]'h).toNat : Int) = bt x0_1 1 := bt_at x0_1 1
                   clear p29
                   have qi29 : (1 < (x0_1.size : Int)) = True := eq_true (oda_)
                   replace q29 := eq_true q29
                   try go_wp2
                   have n0_ := Aside0.mk (Kd.R_drew HO_4.out)
                   have n1_ := Aside0.mk (below_drew1 HB.out)
                   clear HO_4
                   clear HB
                   have HO_4 := n0_
                   have HB := n1_
                   clear n0_ n1_
                   have p32 : 0 ≤ (0 : Int) := (by omega)
                   have q32 : 0 < x0_1.size := (by have : (0 : Int) < (x0_1.size : Int) := oda_; omega)
                   have hx32 : ∀ h : 0 < x0_1.size, ((x0_1[0]'h).toNat : Int) = bt x0_1 0 := bt_at x0_1 0
                   clear p32
                   have qi32 : (0 < (x0_1.size : Int)) = True := eq_true (oda_)
                   replace q32 := eq_true q32
                   refine start_ (n := 18) (S := fun w' => True) (ds := []) (bl_ 18 0) (by kernel_rfl) rfl rfl trivial (fun hHeld => ?_); refine with_tabW r04_GetTree.tab9 r04_GetTree.bits9 (fun HT_ HW_ => ?_)
                   generalize wr.drew = w43 at HO_4 HB hHeld ⊢
                   refine pv_ 0 39 (bl_ 18 1) ?_
                   refine pv_ 1 40 (bl_ 18 3) ?_
                   refine pv_ 5 44 (bl_ 18 35) ?_
                   refine pv_ 6 45 (bl_ 18 99) ?_
                   refine pv_ 7 46 (bl_ 18 227) ?_
                   refine pv_ 8 47 (bl_ 18 483) ?_
                   refine pv_ 9 48 (bl_ 18 995) ?_
                   refine pv_ 10 49 (bl_ 18 2019) ?_
                   refine pv_ 11 50 (bl_ 18 4067) ?_
                   refine pv_ 12 51 (bl_ 18 8163) ?_
                   refine pv_ 13 52 (bl_ 18 16355) ?_
                   refine tk_ 2 41 (bl_ 18 16359) hHeld (hv := by intro w' _; go_simp; with_reducible rfl) (h := ?_)
                   refine pv_ 3 42 (bl_ 18 16367) ?_
                   refine pv_ 4 43 (bl_ 18 16383) ?_
                   refine pv_ 14 53 (bl_ 18 32767) ?_
                   refine one_ (i := 15) (N := some 54) (bl_ 18 65535) rfl rfl (one_of HT_.out (by kernel_rfl)) (by decide) (fun K hK => ?_)
                   refine value_ (w1 := ?_) (v := ?_) (by rfl) rfl ?_ ?_
                   rotate_left 2
                   ·
                    go_simp
                    constructor
                    · rfl
                    · rfl
                   refine hK.out _ _ trivial (fun hHeld => ?_)
                   clear hK K
                   refine norm_ (a' := ?_) ?_ ?_
                   rotate_left
                   ·
                    show Act.put _ (some 54) _ = _
                    simp only [ps_]
                    rfl
                   refine one_ (i := 16) (N := some 55) (bl_ 18 131071) rfl rfl (one_of HT_.out (by kernel_rfl)) (by decide) (fun K hK => ?_)
                   refine Kd.R_append_step k58 (w0 := w) w.heap.size (by rfl) (.tmp 39) (.tmp 54) 59 58 (.agg #[(.int .i64 0), (.string ⟨#[]⟩), (.string ⟨#[]⟩)]) 40 rfl Tryz.underlying59 info58 rfl (by decide) (by omega) u4 x4_1 (⟨wrap64 ((wrap64 (bt x0_1 0)) - 48), x0_1.extract 2 (x6_2 : Int).toNat, x0_1.extract ((ji35) : Int).toNat ((ji40) : Int).toNat⟩ : S58) [.int .i64 (wrap64 ((wrap64 (bt x0_1 0)) - 48)), .string (x0_1.extract 2 (x6_2 : Int).toNat), .string (x0_1.extract ((ji35) : Int).toNat ((ji40) : Int).toNat)] (fun _ => True) (fun _ => False) rfl rfl ?aP (fun _ hk => hk.elim) ?aF ?aO ?aB ?aS ?aL ?_
                   (case aP => exact k58_mkM _ _ _ (⟨wrap64 ((wrap64 (bt x0_1 0)) - 48), x0_1.extract 2 (x6_2 : Int).toNat, x0_1.extract ((ji35) : Int).toNat ((ji40) : Int).toNat⟩ : S58))
                   (case aB => exact bw_)
                   (case aF => exact (fun _ _ => trivial))
                   (case aO => exact o4_)
                   (case aS => exact (below_size bw_))
                   (case aL => have := LMc39.out; omega)
                   intro v123 w44 ho hb hg hat
                   rw [← Ny122.out] at ho
                   have n0_ := Aside0.mk (hb)
                   have n1_ := Aside0.mk (ho)
                   clear HB
                   clear HO_4
                   have HB := n0_
                   have HO124 := n1_
                   clear n0_ n1_
                   clear ho hb hg hat
                   refine hK.out _ _ trivial (fun hHeld => ?_)
                   clear hK K
                   refine norm_ (a' := ?_) ?_ ?_
                   rotate_left
                   ·
                    show Act.put _ (some 55) _ = _
                    simp only [ps_]
                    rfl
                   refine pv_ 17 4 (bl_ 18 262143) ?_
                   refine done_ (done_of HT_.out (by kernel_rfl)) ?_
                   try go_wp2
                   go_roundg k2
                   case measure => have := HK1.out; have := HK2.out; omega
                   case rel => exact ⟨(x0_1.extract ((ji40) : Int).toNat x0_1.size), (y122), (by first | rfl | (simp; done) | (simp only [← hji40] <;> (first | rfl | simp)) | (simp [*]; done)), H', ⟨by have := HK1.out; have := HK2.out; omega⟩, ⟨by (with_reducible repeat (first | apply Kd.R_alloc | apply Kd.R_drewN | apply Kd.R_drew)); exact HO124.out⟩, ⟨bw_⟩⟩
                  ·
                   rw [if_neg c41] at H
                   exact absurd H (by simp)
                 ·
                  rw [if_neg c39] at H
                  exact absurd H (by simp)
                ·
                 rw [if_neg c38] at H
                 exact absurd H (by simp)
               ·
                rw [if_neg c37] at H
                exact absurd H (by simp)
              ·
               rw [if_neg c36] at H
               exact absurd H (by simp)
             ·
              rw [if_neg c34] at H
              exact absurd H (by simp)
            ·
             rw [if_neg c33] at H
             exact absurd H (by simp)
           ·
            rw [if_neg c31] at H
            exact absurd H (by simp)
          ·
           rw [if_neg c30] at H
           have c30b0 : ((bt x0_1 1) == 32) = false := beq_eq_false_iff_ne.mpr c30
           have c30b1 : ((bt x0_1 1) != 32) = true := bne_iff_ne.mpr c30
           simp only [Option.some.injEq, Prod.mk.injEq] at H
           obtain ⟨rfl, rfl⟩ := H
           have p29 : 0 ≤ (1 : Int) := (by omega)
           have q29 : 1 < x0_1.size := (by have : (1 : Int) < (x0_1.size : Int) := oda_; omega)
           have hx29 : ∀ h : 1 < x0_1.size, ((x0_1[1]'h).toNat : Int) = bt x0_1 1 := bt_at x0_1 1
           clear p29
           have qi29 : (1 < (x0_1.size : Int)) = True := eq_true (oda_)
           replace q29 := eq_true q29
           go_wp2
           go_ret2
           exact ⟨_, er_, kn_, bw_⟩
         ·
          rw [if_neg c28] at H
          exact absurd H (by simp)
   ·
    rw [if_neg c2] at H
    have c2b0 : decide (0 < (x0_1.size : Int)) = false := decide_eq_false c2
    have c2b1 : decide (0 < x0_1.size) = false := decide_eq_false (by omega)
    clear c2
    replace H := Option.bind_eq_some_iff.mp H
    obtain ⟨⟨t117, t118⟩, A450, H⟩ := H
    replace H : (if t118 = true then (if t117.toList = a0.toList then (some (x4_1, true)) else (some (([] : List (S58)), false))) else (some (([] : List (S58)), false))) = some (r1, r2) := H
    have A45 := Aside0.mk A450
    clear A450
    by_cases c46 : t118 = true
    ·
     subst c46
     have H1 : (if t117.toList = a0.toList then (some (x4_1, true)) else (some (([] : List (S58)), false))) = some (r1, r2) := by rw [if_pos rfl] at H; exact H
     clear H
     have H := H1
     clear H1
     by_cases c47 : t117.toList = a0.toList
     ·
      rw [if_pos c47] at H
      have c47b0 : (t117.toList == a0.toList) = true := beq_iff_eq.mpr c47
      have c47b1 : (t117.toList != a0.toList) = false := bne_eq_false_iff_eq.mpr c47
      clear c47
      simp only [Option.some.injEq, Prod.mk.injEq] at H
      obtain ⟨rfl, rfl⟩ := H
      obtain ⟨Ao48, co48, eo48⟩ := Kd.R_slice HO_4.out
      subst eo48
      go_wp2_with (first | ((with_reducible refine gate_callee (f := 29) rfl ?_); refine goesL_ (some 62) rfl rfl Tryz.func29 (by kernel_rfl) rfl #[.slice Ao48 x4_1.length co48] rfl la_ ?_; (with_reducible refine (r04_PutTree.calls k1 _ _ x4_1 t117 true _ ?side1 ?side2 A45.out).mono ?_); (case side1 => repeat (first | exact (Kd.R_reads' HO_4.out).2.2 | (with_reducible refine Kd.C_alloc ?_ _) | (with_reducible refine Kd.C_drewN ?_ _) | (with_reducible refine Kd.C_drew ?_))); (case side2 => exact (Kd.R_reads' HO_4.out).2.1); rintro e w49 ⟨rfl, hb⟩; refine ⟨_, rfl, ?_⟩; have n0_ := Aside0.mk (Kd.R_below o4_ hb); have n1_ := Aside0.mk (below_step bw_ hb); clear HO_4; clear HB; have HO_4 := n0_; have HB := n1_; clear n0_ n1_; (try clear hb); (try clear hb2); (try clear hk); (try clear hi)))
      go_ret2
      exact ⟨_, er_, o4_, bw_⟩
     ·
      rw [if_neg c47] at H
      have c47b0 : (t117.toList == a0.toList) = false := beq_eq_false_iff_ne.mpr c47
      have c47b1 : (t117.toList != a0.toList) = true := bne_iff_ne.mpr c47
      simp only [Option.some.injEq, Prod.mk.injEq] at H
      obtain ⟨rfl, rfl⟩ := H
      obtain ⟨Ao50, co50, eo50⟩ := Kd.R_slice HO_4.out
      subst eo50
      go_wp2_with (first | ((with_reducible refine gate_callee (f := 29) rfl ?_); refine goesL_ (some 62) rfl rfl Tryz.func29 (by kernel_rfl) rfl #[.slice Ao50 x4_1.length co50] rfl la_ ?_; (with_reducible refine (r04_PutTree.calls k1 _ _ x4_1 t117 true _ ?side1 ?side2 A45.out).mono ?_); (case side1 => repeat (first | exact (Kd.R_reads' HO_4.out).2.2 | (with_reducible refine Kd.C_alloc ?_ _) | (with_reducible refine Kd.C_drewN ?_ _) | (with_reducible refine Kd.C_drew ?_))); (case side2 => exact (Kd.R_reads' HO_4.out).2.1); rintro e w51 ⟨rfl, hb⟩; refine ⟨_, rfl, ?_⟩; have n0_ := Aside0.mk (Kd.R_below o4_ hb); have n1_ := Aside0.mk (below_step bw_ hb); clear HO_4; clear HB; have HO_4 := n0_; have HB := n1_; clear n0_ n1_; (try clear hb); (try clear hb2); (try clear hk); (try clear hi)))
      go_ret2
      exact ⟨_, er_, kn_, bw_⟩
    ·
     replace c46 := Bool.eq_false_iff.mpr c46
     subst c46
     have H1 : (some (([] : List (S58)), false)) = some (r1, r2) := by rw [if_neg (show ¬ (false = true) by decide)] at H; exact H
     clear H
     have H := H1
     clear H1
     simp only [Option.some.injEq, Prod.mk.injEq] at H
     obtain ⟨rfl, rfl⟩ := H
     obtain ⟨Ao52, co52, eo52⟩ := Kd.R_slice HO_4.out
     subst eo52
     go_wp2_with (first | ((with_reducible refine gate_callee (f := 29) rfl ?_); refine goesL_ (some 62) rfl rfl Tryz.func29 (by kernel_rfl) rfl #[.slice Ao52 x4_1.length co52] rfl la_ ?_; (with_reducible refine (r04_PutTree.calls k1 _ _ x4_1 t117 false _ ?side1 ?side2 A45.out).mono ?_); (case side1 => repeat (first | exact (Kd.R_reads' HO_4.out).2.2 | (with_reducible refine Kd.C_alloc ?_ _) | (with_reducible refine Kd.C_drewN ?_ _) | (with_reducible refine Kd.C_drew ?_))); (case side2 => exact (Kd.R_reads' HO_4.out).2.1); rintro e w53 ⟨rfl, hb⟩; refine ⟨_, rfl, ?_⟩; have n0_ := Aside0.mk (Kd.R_below o4_ hb); have n1_ := Aside0.mk (below_step bw_ hb); clear HO_4; clear HB; have HO_4 := n0_; have HB := n1_; clear n0_ n1_; (try clear hb); (try clear hb2); (try clear hk); (try clear hi)))
     go_ret2
     exact ⟨_, er_, kn_, bw_⟩
end Go.Proofs.YtehmhfbfgniekaaGreatDoor.PObDoc

namespace Go.Proofs.YtehmhfbfgniekaaGreatDoor.PObDoc
open Go.Proofs.YtehmhfbfgniekaaGreatDoor.PObBase
open Go.RowKit Go.Proofs.YtehmhfbfgniekaaGreatDoorW.PrintWords Go.Proofs.YtehmhfbfgniekaaGreatDoorW.PrintLast Go.Proofs.YtehmhfbfgniekaaGreatDoorW.PrintMore
attribute [local go_sem] StrSem.leq_str StrSem.geq_str StrSem.gtr_str max2_int min2_int max_two min_two max_three min_three max_four min_four   -- for this text's walks alone
set_option linter.unusedVariables false
set_option linter.unusedSimpArgs false
noncomputable def r03_Text.l0 : Nat → Int → ByteArray → Option (ByteArray)
 | 0, _, _ => none
 | k + 1, x0, x3 => if x0 > 0 then ((some (([(wrap64 (48 + (Int.tmod x0 10))) % 256] : List Int) : List Int)).bind fun y231 => (if (strOfNums y231).size + x3.size ≤ 9223372036854775807 then (r03_Text.l0 k (wrap64 (Int.tdiv x0 10)) ((strOfNums y231) ++ x3)) else (none))) else (some x3)
noncomputable def r03_Text.f (k : Nat) (a0 : Int) : Option (ByteArray) := if a0 < 0 then (some (⟨#[]⟩ : ByteArray)) else (r03_Text.l0 k (wrap64 (Int.tdiv a0 10)) (strOfNums (([(wrap64 (48 + (Int.tmod a0 10))) % 256] : List Int))))
set_option maxHeartbeats 8000000 in
set_option maxRecDepth 100000 in
theorem r03_Text.calls (k : Nat) (a0 : Int) (r : ByteArray) (w : World) (h : r03_Text.f k a0 = some r) :
  Calls Tryz.prog 43 #[.int .i64 a0] w fun e w' => e = .returned (.string r) ∧ Below w.heap.size w w' := by
 have HB := Aside0.mk (Below.refl w.heap.size w)
 have H : (if a0 < 0 then (some (⟨#[]⟩ : ByteArray)) else (r03_Text.l0 k (wrap64 (Int.tdiv a0 10)) (strOfNums (([(wrap64 (48 + (Int.tmod a0 10))) % 256] : List Int))))) = some r := h
 clear h
 by_cases c2 : a0 < 0
 ·
  rw [if_pos c2] at H
  have c2b0 : decide (a0 < 0) = true := decide_eq_true c2
  clear c2
  obtain rfl := Option.some.inj H
  go_enter Tryz.func43, Tryz.ntmps43
  go_wp2
  go_ret
  exact ⟨er_, bw_⟩
 ·
  rw [if_neg c2] at H
  have c2b0 : decide (a0 < 0) = false := decide_eq_false c2
  clear c2
  obtain ⟨y228, hy228⟩ : ∃ y_ : List Int, y_ = (([(wrap64 (48 + (Int.tmod a0 10))) % 256] : List Int)) := ⟨_, rfl⟩
  replace H : (r03_Text.l0 k (wrap64 (Int.tdiv a0 10)) (strOfNums y228)) = some r := by first | (rw [hy228]; with_reducible exact H) | (have H2_ := (Option.bind_some _ _).symm.trans H; rw [hy228]; with_reducible exact H2_) | (have H2_ := (Option.bind_some _ _).symm.trans H; with_reducible exact H2_) | with_reducible exact H | (rw [hy228]; exact H) | exact H
  have Ny228 := Aside0.mk hy228
  clear hy228
  have H' := Aside0.mk H
  clear H
  go_enter Tryz.func43, Tryz.ntmps43
  go_wp2_with (first | ((with_reducible refine gate_dst (N := 10) rfl ?_); refine Kd.R_lit (Kd.int .u8) _ 5 ?hg (N := 10) ?hd (xs := ([(wrap64 (48 + (Int.tmod a0 10))) % 256] : List Int)) (inner := [.int .u8 ((wrap64 (48 + (Int.tmod a0 10))) % 256)]) (ok := fun _ => True) (okp := fun _ => True) ?hr ?hp (fun _ hk => hk) trivial (Below.refl _ _) (Nat.le_refl _) (by simp) ?_; (case hd => rfl); (case hg => rfl); (case hr => first | (go_simp; done) | (go_simp; rfl)); (case hp => exact (Reps.one (show Kd.M (Kd.int .u8) _ _ _ ((wrap64 (48 + (Int.tmod a0 10))) % 256) [.int .u8 ((wrap64 (48 + (Int.tmod a0 10))) % 256)] from rfl) (Reps.none _ _))); intro v229 w3 ho4 hb hg_ hnew_; clear hg_ hnew_; (first | rw [← Ny228.out] at ho4 | (simp only [Int.reduceToNat] at ho4; rw [← Ny228.out] at ho4)); have n0_ := Aside0.mk (Kd.R_lower ho4 (below_size bw_)); have n1_ := Aside0.mk (below_step bw_ hb); clear HB; have HO230 := n0_; have HB := n1_; clear n0_ n1_; clear hb ho4; have hcv5 := own_string (P := Tryz.prog) Tryz.underlying80 Tryz.underlying5 Tryz.underlying9 (Kd.own_of_R HO230.out)))
  go_loopg [0, 3] k (fun kq v0 v3 w' => ∃ (x0_1 : Int) (x3_1 : ByteArray), v0 = .int .i64 x0_1 ∧ v3 = .string x3_1 ∧ Aside0 (r03_Text.l0 kq x0_1 x3_1 = some r) ∧ Aside0 (kq ≤ k) ∧ Aside0 (Below w.heap.size w w'))
  case atStart => exact ⟨(wrap64 (Int.tdiv a0 10)), (strOfNums y228), sd_, sd_, H', ⟨Nat.le_refl _⟩, ⟨bw_⟩⟩
  case round =>
   clear H'
   try clear c2
   try clear c2b0
   try clear p2
   try clear c4
   try clear hcv5
   obtain ⟨x0_1, x3_1, rfl, rfl, HA, HK1, HB⟩ := hrel
   cases gk with
   | zero => exact absurd HA.out (by simp [r03_Text.l0])
   | succ k1 =>
    have H := HA.out
    clear HA
    simp only [r03_Text.l0] at H
    by_cases c6 : x0_1 > 0
    ·
     rw [if_pos c6] at H
     have c6b0 : decide (0 < x0_1) = true := decide_eq_true c6
     clear c6
     obtain ⟨y231, hy231⟩ : ∃ y_ : List Int, y_ = (([(wrap64 (48 + (Int.tmod x0_1 10))) % 256] : List Int)) := ⟨_, rfl⟩
     replace H : (if (strOfNums y231).size + x3_1.size ≤ 9223372036854775807 then (r03_Text.l0 k1 (wrap64 (Int.tdiv x0_1 10)) ((strOfNums y231) ++ x3_1)) else (none)) = some r := by first | (rw [hy231]; with_reducible exact H) | (have H2_ := (Option.bind_some _ _).symm.trans H; rw [hy231]; with_reducible exact H2_) | (have H2_ := (Option.bind_some _ _).symm.trans H; with_reducible exact H2_) | with_reducible exact H | (rw [hy231]; exact H) | exact H
     have Ny231 := Aside0.mk hy231
     clear hy231
     by_cases c7 : (strOfNums y231).size + x3_1.size ≤ 9223372036854775807
     ·
      rw [if_pos c7] at H
      have c7b0 := eq_true c7
      have c7b1 : decide ((strOfNums y231).size + x3_1.size ≤ 9223372036854775807) = true := decide_eq_true c7
      try have c7b2 : (9223372036854775807 < (strOfNums y231).size + x3_1.size) = False := eq_false (Nat.not_lt.2 c7)
      have H' := Aside0.mk H
      clear H
      go_wp2_with (first | ((with_reducible refine gate_dst (N := 22) rfl ?_); refine Kd.R_lit (Kd.int .u8) _ 5 ?hg (N := 22) ?hd (xs := ([(wrap64 (48 + (Int.tmod x0_1 10))) % 256] : List Int)) (inner := [.int .u8 ((wrap64 (48 + (Int.tmod x0_1 10))) % 256)]) (ok := fun _ => True) (okp := fun _ => True) ?hr ?hp (fun _ hk => hk) trivial (Below.refl _ _) (Nat.le_refl _) (by simp) ?_; (case hd => rfl); (case hg => rfl); (case hr => first | (go_simp; done) | (go_simp; rfl)); (case hp => exact (Reps.one (show Kd.M (Kd.int .u8) _ _ _ ((wrap64 (48 + (Int.tmod x0_1 10))) % 256) [.int .u8 ((wrap64 (48 + (Int.tmod x0_1 10))) % 256)] from rfl) (Reps.none _ _))); intro v232 w8 ho9 hb hg_ hnew_; clear hg_ hnew_; (first | rw [← Ny231.out] at ho9 | (simp only [Int.reduceToNat] at ho9; rw [← Ny231.out] at ho9)); have n0_ := Aside0.mk (Kd.R_lower ho9 (below_size bw_)); have n1_ := Aside0.mk (below_step bw_ hb); clear HB; have HO233 := n0_; have HB := n1_; clear n0_ n1_; clear hb ho9; have hcv10 := own_string (P := Tryz.prog) Tryz.underlying80 Tryz.underlying5 Tryz.underlying9 (Kd.own_of_R HO233.out)))
      go_roundg k1
      case measure => have := HK1.out; omega
      case rel => exact ⟨(wrap64 (Int.tdiv x0_1 10)), ((strOfNums y231) ++ x3_1), sd_, sd_, H', ⟨by have := HK1.out; omega⟩, ⟨bw_⟩⟩
     ·
      rw [if_neg c7] at H
      exact absurd H (by simp)
    ·
     rw [if_neg c6] at H
     have c6b0 : decide (0 < x0_1) = false := decide_eq_false c6
     clear c6
     obtain rfl := Option.some.inj H
     go_wp2
     go_ret
     exact ⟨er_, bw_⟩
end Go.Proofs.YtehmhfbfgniekaaGreatDoor.PObDoc
