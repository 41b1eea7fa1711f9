/- Joined texts: PObDocx3, PObDocx4, PObDocx5, PObDocx6. No condition but what stands in each. -/
import Derived.Test.YtefefhhaopjccaaGreatDoorZObjectTellsJ4
namespace Go.Proofs.YtefefhhaopjccaaGreatDoor.PObDoc
open Go.Proofs.YtefefhhaopjccaaGreatDoor.PObBase
open Go.RowKit Go.Proofs.YtefefhhaopjccaaGreatDoorW.PrintWords Go.Proofs.YtefefhhaopjccaaGreatDoorW.PrintLast Go.Proofs.YtefefhhaopjccaaGreatDoorW.PrintMore
attribute [local go_sem] StrSem.leq_str StrSem.geq_str StrSem.gtr_str max2_int min2_int max_two min_two max_three min_three max_four min_four   -- for this text's walks alone
set_option linter.unusedVariables false
set_option linter.unusedSimpArgs false
noncomputable def r04_PutTree.l0 : Nat → List (S54) → ByteArray → Int → Option (ByteArray × Bool)
 | 0, _, _, _ => none
 | k + 1, x0, x4, x5 => if x5 < (x0.length : Int) then (if 0 ≤ x5 then ((some (([(wrap64 (48 + ((rd_T54 x0 x5).f0))) % 256, 32] : List Int) : List Int)).bind fun y112 => (if x4.size + (strOfNums y112).size ≤ 9223372036854775807 then (if (x4 ++ (strOfNums y112)).size + ((rd_T54 x0 x5).f1).size ≤ 9223372036854775807 then (if ((x4 ++ (strOfNums y112)) ++ ((rd_T54 x0 x5).f1)).size + 1 ≤ 9223372036854775807 then (if (((x4 ++ (strOfNums y112)) ++ ((rd_T54 x0 x5).f1)) ++ (⟨#[0]⟩ : ByteArray)).size + ((rd_T54 x0 x5).f2).size ≤ 9223372036854775807 then (r04_PutTree.l0 k x0 ((((x4 ++ (strOfNums y112)) ++ ((rd_T54 x0 x5).f1)) ++ (⟨#[0]⟩ : ByteArray)) ++ ((rd_T54 x0 x5).f2)) (wrap64 (x5 + 1))) else (none)) else (none)) else (none)) else (none))) else (none)) else (some (x4, true))
noncomputable def r04_PutTree.f (k : Nat) (l0 : List (S54)) : Option (ByteArray × Bool) := (r04_RightTree.f k l0).bind fun t110 => (if t110 = true then (r04_PutTree.l0 k l0 (⟨#[]⟩ : ByteArray) 0) else (some ((⟨#[]⟩ : ByteArray), false)))
def r04_PutTree.T7 : Bool × List (List Nat × List Nat) := (true, [([], []), ([], []), ([], []), ([1, 2], [1, 2]), ([3], [3]), ([4], [4]), ([5], [5]), ([6], [6]), ([7], [7]), ([8], [8]), ([0, 9], [0, 9]), ([], []), ([], []), ([11, 12], [11, 12]), ([13], [13]), ([14], [14]), ([10, 15], [10, 15]), ([16], [16]), ([], []), ([], []), ([18, 19], [18, 19]), ([20], [20]), ([21], [21]), ([17, 22], [17, 22]), ([23, 0, 1, 2, 3, 4, 5, 6, 7, 8, 9, 10, 11, 12, 13, 14, 15, 16, 17, 18, 19, 20, 21, 22, 23], [0, 23])])
def r04_PutTree.B7 : List Nat := [0, 0, 0, 6, 14, 30, 62, 126, 254, 510, 1023, 0, 0, 6144, 14336, 30720, 65535, 131071, 0, 0, 786432, 1835008, 3932160, 8388607, 16777215]
theorem r04_PutTree.tab7 : rtab .any (opsOf Tryz.f20 7) = r04_PutTree.T7 := by kernel_rfl
theorem r04_PutTree.bits7 : waitsOk r04_PutTree.T7.2 r04_PutTree.B7 = true := by kernel_rfl
set_option maxHeartbeats 8000000 in
set_option maxRecDepth 100000 in
theorem r04_PutTree.calls (k : Nat) (A0 : Option Addr) (c0 : Nat) (l0 : List (S54)) (r1 : ByteArray) (r2 : Bool) (w : World) (hr0 : Kd.C k54 w A0 l0.length l0) (hc0 : l0.length ≤ c0) (h : r04_PutTree.f k l0 = some (r1, r2)) :
  Calls Tryz.prog 20 #[.slice A0 l0.length c0] w fun e w' => e = .returned (.tuple #[.string r1, .bool r2]) ∧ Below w.heap.size w w' := by
 have HR0 := Aside0.mk hr0
 have HC0 := Aside0.mk hc0
 clear hr0 hc0
 have HB := Aside0.mk (Below.refl w.heap.size w)
 have H : ((r04_RightTree.f k l0).bind fun t110 => (if t110 = true then (r04_PutTree.l0 k l0 (⟨#[]⟩ : ByteArray) 0) else (some ((⟨#[]⟩ : ByteArray), false)))) = some (r1, r2) := h
 clear h
 replace H := Option.bind_eq_some_iff.mp H
 obtain ⟨t110, A20, H⟩ := H
 replace H : (if t110 = true then (r04_PutTree.l0 k l0 (⟨#[]⟩ : ByteArray) 0) else (some ((⟨#[]⟩ : ByteArray), false))) = some (r1, r2) := H
 have A2 := Aside0.mk A20
 clear A20
 by_cases c3 : t110 = true
 ·
  subst c3
  have H1 : (r04_PutTree.l0 k l0 (⟨#[]⟩ : ByteArray) 0) = some (r1, r2) := by rw [if_pos rfl] at H; exact H
  clear H
  have H := H1
  clear H1
  have H' := Aside0.mk H
  clear H
  go_enter Tryz.func20, Tryz.ntmps20
  go_wp2_with (first | ((with_reducible refine gate_callee (f := 46) rfl ?_); refine goesL_ (some 7) rfl rfl Tryz.func46 (by kernel_rfl) rfl #[.slice A0 l0.length c0] rfl la_ ?_; (with_reducible refine (r04_RightTree.calls k _ _ l0 true _ ?side1 ?side2 A2.out).mono ?_); (case side1 => repeat (first | exact HR0.out | (with_reducible refine Kd.C_alloc ?_ _) | (with_reducible refine Kd.C_drewN ?_ _) | (with_reducible refine Kd.C_drew ?_))); (case side2 => exact HC0.out); rintro e w4 ⟨rfl, hb⟩; refine ⟨_, rfl, ?_⟩; have n0_ := Aside0.mk (below_step bw_ hb); clear HB; have HB := n0_; clear n0_; (try clear hb); (try clear hb2); (try clear hk); (try clear hi)))
  go_loopg [4, 5] k (fun kq v4 v5 w' => ∃ (x4_1 : ByteArray) (x5_1 : Int), v4 = .string x4_1 ∧ v5 = .int .i64 x5_1 ∧ Aside0 (r04_PutTree.l0 kq l0 x4_1 x5_1 = some (r1, r2)) ∧ Aside0 (kq ≤ k) ∧ Aside0 (Below w.heap.size w w'))
  case atStart => exact ⟨((⟨#[]⟩ : ByteArray)), (0), sd_, sd_, H', ⟨Nat.le_refl _⟩, ⟨bw_⟩⟩
  case round =>
   clear H'
   try clear c2
   try clear p2
   try clear c3
   try clear c4
   obtain ⟨x4_1, x5_1, rfl, rfl, HA, HK1, HB⟩ := hrel
   cases gk with
   | zero => exact absurd HA.out (by simp [r04_PutTree.l0])
   | succ k1 =>
    have H := HA.out
    clear HA
    simp only [r04_PutTree.l0] at H
    by_cases c5 : x5_1 < (l0.length : Int)
    ·
     rw [if_pos c5] at H
     have c5b0 : decide (x5_1 < (l0.length : Int)) = true := decide_eq_true c5
     clear c5
     by_cases c6 : 0 ≤ x5_1
     ·
      rw [if_pos c6] at H
      have c6b0 : decide (0 ≤ x5_1) = true := decide_eq_true c6
      clear c6
      obtain ⟨y112, hy112⟩ : ∃ y_ : List Int, y_ = (([(wrap64 (48 + ((rd_T54 l0 x5_1).f0))) % 256, 32] : List Int)) := ⟨_, rfl⟩
      replace H : (if x4_1.size + (strOfNums y112).size ≤ 9223372036854775807 then (if (x4_1 ++ (strOfNums y112)).size + ((rd_T54 l0 x5_1).f1).size ≤ 9223372036854775807 then (if ((x4_1 ++ (strOfNums y112)) ++ ((rd_T54 l0 x5_1).f1)).size + 1 ≤ 9223372036854775807 then (if (((x4_1 ++ (strOfNums y112)) ++ ((rd_T54 l0 x5_1).f1)) ++ (⟨#[0]⟩ : ByteArray)).size + ((rd_T54 l0 x5_1).f2).size ≤ 9223372036854775807 then (r04_PutTree.l0 k1 l0 ((((x4_1 ++ (strOfNums y112)) ++ ((rd_T54 l0 x5_1).f1)) ++ (⟨#[0]⟩ : ByteArray)) ++ ((rd_T54 l0 x5_1).f2)) (wrap64 (x5_1 + 1))) else (none)) else (none)) else (none)) else (none)) = some (r1, r2) := by first | (rw [hy112]; with_reducible exact H) | (have H2_ := (Option.bind_some _ _).symm.trans H; rw [hy112]; with_reducible exact H2_) | (have H2_ := (Option.bind_some _ _).symm.trans H; with_reducible exact H2_) | with_reducible exact H | (rw [hy112]; exact H) | exact H
      have Ny112 := Aside0.mk hy112
      clear hy112
      by_cases c7 : x4_1.size + (strOfNums y112).size ≤ 9223372036854775807
      ·
       rw [if_pos c7] at H
       have c7b0 := eq_true c7
       have c7b1 : decide (x4_1.size + (strOfNums y112).size ≤ 9223372036854775807) = true := decide_eq_true c7
       try have c7b2 : (9223372036854775807 < x4_1.size + (strOfNums y112).size) = False := eq_false (Nat.not_lt.2 c7)
       by_cases c8 : (x4_1 ++ (strOfNums y112)).size + ((rd_T54 l0 x5_1).f1).size ≤ 9223372036854775807
       ·
        rw [if_pos c8] at H
        have c8b0 := eq_true c8
        have c8b1 : decide ((x4_1 ++ (strOfNums y112)).size + ((rd_T54 l0 x5_1).f1).size ≤ 9223372036854775807) = true := decide_eq_true c8
        try have c8b2 : (9223372036854775807 < (x4_1 ++ (strOfNums y112)).size + ((rd_T54 l0 x5_1).f1).size) = False := eq_false (Nat.not_lt.2 c8)
        try have c8z : ¬ (9223372036854775807 < x4_1.size + (strOfNums y112).size + ((rd_T54 l0 x5_1).f1).size) := by (have h_ := c8; simp only [ByteArray.size_append] at h_; omega)
        by_cases c9 : ((x4_1 ++ (strOfNums y112)) ++ ((rd_T54 l0 x5_1).f1)).size + 1 ≤ 9223372036854775807
        ·
         rw [if_pos c9] at H
         have c9b0 := eq_true c9
         have c9b1 : decide (((x4_1 ++ (strOfNums y112)) ++ ((rd_T54 l0 x5_1).f1)).size + 1 ≤ 9223372036854775807) = true := decide_eq_true c9
         try have c9b2 : (9223372036854775807 < ((x4_1 ++ (strOfNums y112)) ++ ((rd_T54 l0 x5_1).f1)).size + 1) = False := eq_false (Nat.not_lt.2 c9)
         try have c9z : ¬ (9223372036854775807 < x4_1.size + (strOfNums y112).size + ((rd_T54 l0 x5_1).f1).size + 1) := by (have h_ := c9; simp only [ByteArray.size_append] at h_; omega)
         by_cases c10 : (((x4_1 ++ (strOfNums y112)) ++ ((rd_T54 l0 x5_1).f1)) ++ (⟨#[0]⟩ : ByteArray)).size + ((rd_T54 l0 x5_1).f2).size ≤ 9223372036854775807
         ·
          rw [if_pos c10] at H
          have c10b0 := eq_true c10
          have c10b1 : decide ((((x4_1 ++ (strOfNums y112)) ++ ((rd_T54 l0 x5_1).f1)) ++ (⟨#[0]⟩ : ByteArray)).size + ((rd_T54 l0 x5_1).f2).size ≤ 9223372036854775807) = true := decide_eq_true c10
          try have c10b2 : (9223372036854775807 < (((x4_1 ++ (strOfNums y112)) ++ ((rd_T54 l0 x5_1).f1)) ++ (⟨#[0]⟩ : ByteArray)).size + ((rd_T54 l0 x5_1).f2).size) = False := eq_false (Nat.not_lt.2 c10)
          try have c10z : ¬ (9223372036854775807 < x4_1.size + (strOfNums y112).size + ((rd_T54 l0 x5_1).f1).size + 1 + ((rd_T54 l0 x5_1).f2).size) := by (have h_ := c10; simp only [ByteArray.size_append] at h_; have e0_ : (⟨#[0]⟩ : ByteArray).size = 1 := rfl; omega)
          have H' := Aside0.mk H
          clear H
          try go_wp2
          have n0_ := Aside0.mk (below_drew1 HB.out)
          clear HB
          have HB := n0_
          clear n0_
          have p111 : 0 ≤ (x5_1 : Int) := oda_
          have q111 : x5_1 < (l0.length : Int) := oda_
          obtain ⟨ad111, e111, hx111_0, hx111_1, hx111_2⟩ := at_T54 HR0.out x5_1 p111 q111
          have hw111_2 := hx111_2
          have hw111_1 := hx111_1
          have hw111_0 := hx111_0
          cases e111
          replace hx111_0 := (HB.out.cell (World.block_lt_of_cell? w _ hx111_0)).trans hx111_0
          replace hx111_1 := (HB.out.cell (World.block_lt_of_cell? w _ hx111_1)).trans hx111_1
          replace hx111_2 := (HB.out.cell (World.block_lt_of_cell? w _ hx111_2)).trans hx111_2
          replace p111 := eq_true p111
          replace q111 := eq_true q111
          have p115 : 0 ≤ (x5_1 : Int) := oda_
          have q115 : x5_1 < (l0.length : Int) := oda_
          obtain ⟨ad115, e115, hx115_0, hx115_1, hx115_2⟩ := at_T54 HR0.out x5_1 p115 q115
          have hw115_2 := hx115_2
          have hw115_1 := hx115_1
          have hw115_0 := hx115_0
          obtain rfl : ad111 = ad115 := (by injection e115)
          replace hx115_0 := (HB.out.cell (World.block_lt_of_cell? w _ hx115_0)).trans hx115_0
          replace hx115_1 := (HB.out.cell (World.block_lt_of_cell? w _ hx115_1)).trans hx115_1
          replace hx115_2 := (HB.out.cell (World.block_lt_of_cell? w _ hx115_2)).trans hx115_2
          replace p115 := eq_true p115
          replace q115 := eq_true q115
          have p116 : 0 ≤ (x5_1 : Int) := oda_
          have q116 : x5_1 < (l0.length : Int) := oda_
          obtain ⟨ad116, e116, hx116_0, hx116_1, hx116_2⟩ := at_T54 HR0.out x5_1 p116 q116
          have hw116_2 := hx116_2
          have hw116_1 := hx116_1
          have hw116_0 := hx116_0
          obtain rfl : ad111 = ad116 := (by injection e116)
          replace hx116_0 := (HB.out.cell (World.block_lt_of_cell? w _ hx116_0)).trans hx116_0
          replace hx116_1 := (HB.out.cell (World.block_lt_of_cell? w _ hx116_1)).trans hx116_1
          replace hx116_2 := (HB.out.cell (World.block_lt_of_cell? w _ hx116_2)).trans hx116_2
          replace p116 := eq_true p116
          replace q116 := eq_true q116
          refine start_ (n := 25) (S := fun w' => w'.cell? (ad111.add ((x5_1).toNat * 3)) = some (.int .i64 ((rd_T54 l0 x5_1).f0)) ∧ w'.cell? ⟨(ad111.add ((x5_1).toNat * 3)).block, (ad111.add ((x5_1).toNat * 3)).off + 1, none⟩ = some (.string ((rd_T54 l0 x5_1).f1)) ∧ w'.cell? ⟨(ad111.add ((x5_1).toNat * 3)).block, (ad111.add ((x5_1).toNat * 3)).off + 2, none⟩ = some (.string ((rd_T54 l0 x5_1).f2)) ∧ w'.cell? (ad111.add ((x5_1).toNat * 3)) = some (.int .i64 ((rd_T54 l0 x5_1).f0)) ∧ w'.cell? ⟨(ad111.add ((x5_1).toNat * 3)).block, (ad111.add ((x5_1).toNat * 3)).off + 1, none⟩ = some (.string ((rd_T54 l0 x5_1).f1)) ∧ w'.cell? ⟨(ad111.add ((x5_1).toNat * 3)).block, (ad111.add ((x5_1).toNat * 3)).off + 2, none⟩ = some (.string ((rd_T54 l0 x5_1).f2)) ∧ w'.cell? (ad111.add ((x5_1).toNat * 3)) = some (.int .i64 ((rd_T54 l0 x5_1).f0)) ∧ w'.cell? ⟨(ad111.add ((x5_1).toNat * 3)).block, (ad111.add ((x5_1).toNat * 3)).off + 1, none⟩ = some (.string ((rd_T54 l0 x5_1).f1)) ∧ w'.cell? ⟨(ad111.add ((x5_1).toNat * 3)).block, (ad111.add ((x5_1).toNat * 3)).off + 2, none⟩ = some (.string ((rd_T54 l0 x5_1).f2))) (ds := []) (bl_ 25 0) (by kernel_rfl) rfl rfl ⟨((HB.out.cell (World.block_lt_of_cell? w _ hw111_0)).trans hw111_0), ((HB.out.cell (World.block_lt_of_cell? w _ hw111_1)).trans hw111_1), ((HB.out.cell (World.block_lt_of_cell? w _ hw111_2)).trans hw111_2), ((HB.out.cell (World.block_lt_of_cell? w _ hw115_0)).trans hw115_0), ((HB.out.cell (World.block_lt_of_cell? w _ hw115_1)).trans hw115_1), ((HB.out.cell (World.block_lt_of_cell? w _ hw115_2)).trans hw115_2), ((HB.out.cell (World.block_lt_of_cell? w _ hw116_0)).trans hw116_0), ((HB.out.cell (World.block_lt_of_cell? w _ hw116_1)).trans hw116_1), ((HB.out.cell (World.block_lt_of_cell? w _ hw116_2)).trans hw116_2)⟩ (fun hHeld => ?_); refine with_tabW r04_PutTree.tab7 r04_PutTree.bits7 (fun HT_ HW_ => ?_)
          generalize wr.drew = w11 at HB hx111_0 hx111_1 hx111_2 hx115_0 hx115_1 hx115_2 hx116_0 hx116_1 hx116_2 hHeld ⊢
          refine pv_ 0 15 (bl_ 25 1) ?_
          refine pv_ 1 16 (bl_ 25 3) ?_
          refine pv_ 2 17 (bl_ 25 7) ?_
          refine pv_ 3 18 (bl_ 25 15) ?_
          refine pv_ 4 19 (bl_ 25 31) ?_
          refine pv_ 11 26 (bl_ 25 2079) ?_
          refine pv_ 12 27 (bl_ 25 6175) ?_
          refine pv_ 13 28 (bl_ 25 14367) ?_
          refine pv_ 14 29 (bl_ 25 30751) ?_
          refine pv_ 18 33 (bl_ 25 292895) ?_
          refine pv_ 19 34 (bl_ 25 817183) ?_
          refine pv_ 20 35 (bl_ 25 1865759) ?_
          refine pv_ 21 36 (bl_ 25 3962911) ?_
          refine tk_ 5 20 (bl_ 25 3962943) hHeld (hv := by rintro w' ⟨s0, s1, s2, s3, s4, s5, s6, s7, s8⟩; go_simp; with_reducible rfl) (h := ?_)
          refine pv_ 6 21 (bl_ 25 3963007) ?_
          refine pv_ 7 22 (bl_ 25 3963135) ?_
          refine tk_ 15 30 (bl_ 25 3995903) hHeld (hv := by rintro w' ⟨s0, s1, s2, s3, s4, s5, s6, s7, s8⟩; go_simp; with_reducible rfl) (h := ?_)
          refine tk_ 22 37 (bl_ 25 8190207) hHeld (hv := by rintro w' ⟨s0, s1, s2, s3, s4, s5, s6, s7, s8⟩; go_simp; with_reducible rfl) (h := ?_)
          refine one_ (i := 8) (N := some 23) (bl_ 25 8190463) rfl rfl (one_of HT_.out (by kernel_rfl)) (by decide) (fun K hK => ?_)
          refine Kd.R_lit_step (Kd.int .u8) _ 5 ?hg (N := 23) ?hd (xs := ([(wrap64 (48 + ((rd_T54 l0 x5_1).f0))) % 256, 32] : List Int)) (inner := [.int .u8 ((wrap64 (48 + ((rd_T54 l0 x5_1).f0))) % 256), .int .u8 32]) (ok := fun _ => True) (okp := fun _ => True) ?hr ?hp (fun _ hk => hk) trivial (Below.refl _ _) (Nat.le_refl _) (by simp) ?_; (case hd => rfl); (case hg => rfl); (case hr => first | (go_simp; done) | (go_simp; rfl)); (case hp => exact (Reps.one (show Kd.M (Kd.int .u8) _ _ _ ((wrap64 (48 + ((rd_T54 l0 x5_1).f0))) % 256) [.int .u8 ((wrap64 (48 + ((rd_T54 l0 x5_1).f0))) % 256)] from rfl) (Reps.one (show Kd.M (Kd.int .u8) _ _ _ 32 [.int .u8 32] from rfl) (Reps.none _ _))))
          intro v113 w12 ho13 hb hg_ hnew_
          clear hg_ hnew_
          (first | rw [← Ny112.out] at ho13 | (simp only [Int.reduceToNat] at ho13; rw [← Ny112.out] at ho13))
          have n0_ := Aside0.mk (Kd.R_lower ho13 (below_size bw_))
          have n1_ := Aside0.mk (below_step bw_ hb)
          clear HB
          have HO114 := n0_
          have HB := n1_
          clear n0_ n1_
          clear hb ho13
          refine hK.out _ _ ⟨((HB.out.cell (World.block_lt_of_cell? w _ hw111_0)).trans hw111_0), ((HB.out.cell (World.block_lt_of_cell? w _ hw111_1)).trans hw111_1), ((HB.out.cell (World.block_lt_of_cell? w _ hw111_2)).trans hw111_2), ((HB.out.cell (World.block_lt_of_cell? w _ hw115_0)).trans hw115_0), ((HB.out.cell (World.block_lt_of_cell? w _ hw115_1)).trans hw115_1), ((HB.out.cell (World.block_lt_of_cell? w _ hw115_2)).trans hw115_2), ((HB.out.cell (World.block_lt_of_cell? w _ hw116_0)).trans hw116_0), ((HB.out.cell (World.block_lt_of_cell? w _ hw116_1)).trans hw116_1), ((HB.out.cell (World.block_lt_of_cell? w _ hw116_2)).trans hw116_2)⟩ (fun hHeld => ?_)
          clear hK K
          refine norm_ (a' := ?_) ?_ ?_
          rotate_left
          ·
           show Act.put _ (some 23) _ = _
           simp only [ps_]
           rfl
          refine one_ (i := 9) (N := some 24) (bl_ 25 8190975) rfl rfl (one_of HT_.out (by kernel_rfl)) (by decide) (fun K hK => ?_)
          have hcv14 := own_string (P := Tryz.prog) Tryz.underlying62 Tryz.underlying5 Tryz.underlying9 (Kd.own_of_R HO114.out)
          refine value_ (w1 := ?_) (v := ?_) (by rfl) rfl ?_ ?_
          rotate_left 2
          ·
           go_simp
           constructor
           · rfl
           · rfl
          clear hcv14
          refine hK.out _ _ ⟨((HB.out.cell (World.block_lt_of_cell? w _ hw111_0)).trans hw111_0), ((HB.out.cell (World.block_lt_of_cell? w _ hw111_1)).trans hw111_1), ((HB.out.cell (World.block_lt_of_cell? w _ hw111_2)).trans hw111_2), ((HB.out.cell (World.block_lt_of_cell? w _ hw115_0)).trans hw115_0), ((HB.out.cell (World.block_lt_of_cell? w _ hw115_1)).trans hw115_1), ((HB.out.cell (World.block_lt_of_cell? w _ hw115_2)).trans hw115_2), ((HB.out.cell (World.block_lt_of_cell? w _ hw116_0)).trans hw116_0), ((HB.out.cell (World.block_lt_of_cell? w _ hw116_1)).trans hw116_1), ((HB.out.cell (World.block_lt_of_cell? w _ hw116_2)).trans hw116_2)⟩ (fun hHeld => ?_)
          clear hK K
          refine norm_ (a' := ?_) ?_ ?_
          rotate_left
          ·
           show Act.put _ (some 24) _ = _
           simp only [ps_]
           rfl
          refine pv_ 10 25 (bl_ 25 8191999) ?_
          refine pv_ 16 31 (bl_ 25 8257535) ?_
          refine pv_ 17 32 (bl_ 25 8388607) ?_
          refine pv_ 23 38 (bl_ 25 16777215) ?_
          refine pv_ 24 4 (bl_ 25 33554431) ?_
          refine done_ (done_of HT_.out (by kernel_rfl)) ?_
          try go_wp2
          go_roundg k1
          case measure => have := HK1.out; omega
          case rel => exact ⟨((((x4_1 ++ (strOfNums y112)) ++ ((rd_T54 l0 x5_1).f1)) ++ (⟨#[0]⟩ : ByteArray)) ++ ((rd_T54 l0 x5_1).f2)), (wrap64 (x5_1 + 1)), sd_, sd_, H', ⟨by have := HK1.out; omega⟩, ⟨bw_⟩⟩
         ·
          rw [if_neg c10] at H
          exact absurd H (by simp)
        ·
         rw [if_neg c9] at H
         exact absurd H (by simp)
       ·
        rw [if_neg c8] at H
        exact absurd H (by simp)
      ·
       rw [if_neg c7] at H
       exact absurd H (by simp)
     ·
      rw [if_neg c6] at H
      exact absurd H (by simp)
    ·
     rw [if_neg c5] at H
     have c5b0 : decide (x5_1 < (l0.length : Int)) = false := decide_eq_false c5
     clear c5
     simp only [Option.some.injEq, Prod.mk.injEq] at H
     obtain ⟨rfl, rfl⟩ := H
     go_wp2
     go_ret2
     exact ⟨er_, bw_⟩
 ·
  replace c3 := Bool.eq_false_iff.mpr c3
  subst c3
  have H1 : (some ((⟨#[]⟩ : ByteArray), false)) = some (r1, r2) := by rw [if_neg (show ¬ (false = true) by decide)] at H; exact H
  clear H
  have H := H1
  clear H1
  simp only [Option.some.injEq, Prod.mk.injEq] at H
  obtain ⟨rfl, rfl⟩ := H
  go_enter Tryz.func20, Tryz.ntmps20
  go_wp2_with (first | ((with_reducible refine gate_callee (f := 46) rfl ?_); refine goesL_ (some 7) rfl rfl Tryz.func46 (by kernel_rfl) rfl #[.slice A0 l0.length c0] rfl la_ ?_; (with_reducible refine (r04_RightTree.calls k _ _ l0 false _ ?side1 ?side2 A2.out).mono ?_); (case side1 => repeat (first | exact HR0.out | (with_reducible refine Kd.C_alloc ?_ _) | (with_reducible refine Kd.C_drewN ?_ _) | (with_reducible refine Kd.C_drew ?_))); (case side2 => exact HC0.out); rintro e w15 ⟨rfl, hb⟩; refine ⟨_, rfl, ?_⟩; have n0_ := Aside0.mk (below_step bw_ hb); clear HB; have HB := n0_; clear n0_; (try clear hb); (try clear hb2); (try clear hk); (try clear hi)))
  go_ret2
  exact ⟨er_, bw_⟩
end Go.Proofs.YtefefhhaopjccaaGreatDoor.PObDoc

namespace Go.Proofs.YtefefhhaopjccaaGreatDoor.PObDoc
open Go.Proofs.YtefefhhaopjccaaGreatDoor.PObBase
open Go.RowKit Go.Proofs.YtefefhhaopjccaaGreatDoorW.PrintWords Go.Proofs.YtefefhhaopjccaaGreatDoorW.PrintLast Go.Proofs.YtefefhhaopjccaaGreatDoorW.PrintMore
attribute [local go_sem] StrSem.leq_str StrSem.geq_str StrSem.gtr_str max2_int min2_int max_two min_two max_three min_three max_four min_four   -- for this text's walks alone
set_option linter.unusedVariables false
set_option linter.unusedSimpArgs false
mutual
noncomputable def r04_GetTree.l0 : Nat → ByteArray → List (S54) → ByteArray → Option ((List (S54)) × Bool)
 | 0, _, _, _ => none
 | k + 1, x0, x4, x5 => if (x0.size : Int) > 0 then (r04_GetTree.l1 k x0 x4 x5 0) else ((r04_PutTree.f k x4).bind fun bt117 => (if bt117.2 = true then (if bt117.1.toList = x5.toList then (some (x4, true)) else (some (([] : List (S54)), false))) else (some (([] : List (S54)), false))))
noncomputable def r04_GetTree.l1 : Nat → ByteArray → List (S54) → ByteArray → Int → Option ((List (S54)) × Bool)
 | 0, _, _, _, _ => none
 | k + 1, x0, x4, x5, x6 => if x6 < (x0.size : Int) then (if 0 ≤ x6 then (if (bt x0 x6) = 0 then (if x6 < 2 then (some (([] : List (S54)), false)) else (if (wrap64 (x6 + 65)) > (x0.size : Int) then (some (([] : List (S54)), false)) else (if 1 < (x0.size : Int) then (if (bt x0 1) = 32 then (if 0 < (x0.size : Int) then (if 2 ≤ x6 then (if x6 ≤ (x0.size : Int) then (if 0 ≤ (wrap64 (x6 + 1)) then (if (wrap64 (x6 + 1)) ≤ (wrap64 (x6 + 65)) then (if (wrap64 (x6 + 65)) ≤ (x0.size : Int) then (if x4.length < 3518437208883 then (if 0 ≤ (wrap64 (x6 + 65)) then (r04_GetTree.l0 k (x0.extract ((wrap64 (x6 + 65)) : Int).toNat x0.size) (x4 ++ [(⟨wrap64 ((wrap64 (bt x0 0)) - 48), x0.extract 2 (x6 : Int).toNat, x0.extract ((wrap64 (x6 + 1)) : Int).toNat ((wrap64 (x6 + 65)) : Int).toNat⟩ : S54)]) x5) else (none)) else (none)) else (none)) else (none)) else (none)) else (none)) else (none)) else (none)) else (some (([] : List (S54)), false))) else (none)))) else (r04_GetTree.l1 k x0 x4 x5 (wrap64 (x6 + 1)))) else (none)) else (if x6 < 2 then (some (([] : List (S54)), false)) else (if (wrap64 (x6 + 65)) > (x0.size : Int) then (some (([] : List (S54)), false)) else (if 1 < (x0.size : Int) then (if (bt x0 1) = 32 then (if 0 < (x0.size : Int) then (if 2 ≤ x6 then (if x6 ≤ (x0.size : Int) then (if 0 ≤ (wrap64 (x6 + 1)) then (if (wrap64 (x6 + 1)) ≤ (wrap64 (x6 + 65)) then (if (wrap64 (x6 + 65)) ≤ (x0.size : Int) then (if x4.length < 3518437208883 then (if 0 ≤ (wrap64 (x6 + 65)) then (r04_GetTree.l0 k (x0.extract ((wrap64 (x6 + 65)) : Int).toNat x0.size) (x4 ++ [(⟨wrap64 ((wrap64 (bt x0 0)) - 48), x0.extract 2 (x6 : Int).toNat, x0.extract ((wrap64 (x6 + 1)) : Int).toNat ((wrap64 (x6 + 65)) : Int).toNat⟩ : S54)]) x5) else (none)) else (none)) else (none)) else (none)) else (none)) else (none)) else (none)) else (none)) else (some (([] : List (S54)), false))) else (none))))
end
noncomputable def r04_GetTree.f (k : Nat) (a0 : ByteArray) : Option ((List (S54)) × Bool) := r04_GetTree.l0 k a0 ([] : List (S54)) a0
def r04_GetTree.T9 : Bool × List (List Nat × List Nat) := (true, [([], []), ([], []), ([1], [1]), ([2], [2]), ([3], [3]), ([], []), ([], []), ([5, 6], [5, 6]), ([], []), ([], []), ([9], [9]), ([], []), ([11], [11]), ([8, 10, 12], [8, 10, 12]), ([4, 7, 13], [4, 7, 13]), ([14], [14]), ([0, 15], [0, 15]), ([16, 16, 0, 1, 2, 3, 4, 5, 6, 7, 8, 9, 10, 11, 12, 13, 14, 15, 16], [0, 16])])
def r04_GetTree.B9 : List Nat := [0, 0, 2, 6, 14, 0, 0, 96, 0, 0, 512, 0, 2048, 7936, 16382, 32766, 65535, 131071]
theorem r04_GetTree.tab9 : rtab .any (opsOf Tryz.f22 9) = r04_GetTree.T9 := by kernel_rfl
theorem r04_GetTree.bits9 : waitsOk r04_GetTree.T9.2 r04_GetTree.B9 = true := by kernel_rfl
set_option maxHeartbeats 8000000 in
set_option maxRecDepth 100000 in
theorem r04_GetTree.calls (k : Nat) (a0 : ByteArray) (r1 : List (S54)) (r2 : Bool) (w : World) (h : r04_GetTree.f k a0 = some (r1, r2)) :
  Calls Tryz.prog 22 #[.string a0] w fun e w' => ∃ v0_ : Value, e = .returned (.tuple #[v0_, .bool r2]) ∧ Kd.R k54 54 w' w.heap.size (fun _ => True) v0_ r1 ∧ Below w.heap.size w w' := by
 have hu54 := Tryz.underlying54
 have HB := Aside0.mk (Below.refl w.heap.size w)
 have H : (r04_GetTree.l0 k a0 ([] : List (S54)) a0) = some (r1, r2) := h
 clear h
 have H' := Aside0.mk H
 clear H
 go_enter Tryz.func22, Tryz.ntmps22
 go_wp2
 go_loopg [0, 4] k (fun kq v0 v4 w' => ∃ (x0_1 : ByteArray) (x4_1 : List (S54)), v0 = .string x0_1 ∧ Aside0 (r04_GetTree.l0 kq x0_1 x4_1 a0 = some (r1, r2)) ∧ Aside0 (kq ≤ k) ∧ Aside0 (Kd.R k54 54 w' w.heap.size (fun _ => True) v4 x4_1) ∧ Aside0 (Below w.heap.size w w'))
 case atStart => exact ⟨(a0), (([] : List (S54))), sd_, H', ⟨Nat.le_refl _⟩, ⟨kn_⟩, ⟨bw_⟩⟩
 case round =>
  clear H'
  obtain ⟨x0_1, x4_1, rfl, HA, HK1, HO_4, HB⟩ := hrel
  cases gk with
  | zero => exact absurd HA.out (by simp [r04_GetTree.l0])
  | succ k1 =>
   have H := HA.out
   clear HA
   simp only [r04_GetTree.l0] at H
   by_cases c2 : (x0_1.size : Int) > 0
   ·
    rw [if_pos c2] at H
    have c2b0 : decide (0 < (x0_1.size : Int)) = true := decide_eq_true c2
    have c2b1 : decide (0 < x0_1.size) = true := decide_eq_true (by omega)
    clear c2
    have H' := Aside0.mk H
    clear H
    go_wp2
    go_loopg [6] k1 (fun kq v6 w' => ∃ (x6_2 : Int), v6 = .int .i64 x6_2 ∧ Aside0 (r04_GetTree.l1 kq x0_1 x4_1 a0 x6_2 = some (r1, r2)) ∧ Aside0 (kq ≤ k1) ∧ Aside0 (Kd.R k54 54 w' w.heap.size (fun _ => True) u4 x4_1) ∧ Aside0 (Below w.heap.size w w'))
    case atStart => exact ⟨(0), sd_, H', ⟨Nat.le_refl _⟩, ⟨by (with_reducible repeat (first | apply Kd.R_alloc | apply Kd.R_drewN | apply Kd.R_drew)); exact HO_4.out⟩, ⟨bw_⟩⟩
    case round =>
     clear H'
     try clear c2
     try clear c2b0
     try clear c2b1
     try clear p2
     obtain ⟨x6_2, rfl, HA, HK2, HO_4, HB⟩ := hrel
     cases gk with
     | zero => exact absurd HA.out (by simp [r04_GetTree.l1])
     | succ k2 =>
      have H := HA.out
      clear HA
      simp only [r04_GetTree.l1] at H
      by_cases c3 : x6_2 < (x0_1.size : Int)
      ·
       rw [if_pos c3] at H
       have c3b0 : decide (x6_2 < (x0_1.size : Int)) = true := decide_eq_true c3
       clear c3
       by_cases c4 : 0 ≤ x6_2
       ·
        rw [if_pos c4] at H
        have c4b0 : decide (0 ≤ x6_2) = true := decide_eq_true c4
        clear c4
        by_cases c6 : (bt x0_1 x6_2) = 0
        ·
         rw [if_pos c6] at H
         have c6b0 : ((bt x0_1 x6_2) == 0) = true := beq_iff_eq.mpr c6
         have c6b1 : ((bt x0_1 x6_2) != 0) = false := bne_eq_false_iff_eq.mpr c6
         clear c6
         by_cases c7 : x6_2 < 2
         ·
          rw [if_pos c7] at H
          have c7b0 : decide (x6_2 < 2) = true := decide_eq_true c7
          clear c7
          simp only [Option.some.injEq, Prod.mk.injEq] at H
          obtain ⟨rfl, rfl⟩ := H
          have p5 : 0 ≤ (x6_2 : Int) := oda_
          have q5 : x6_2 < (x0_1.size : Int) := oda_
          have hx5 := bt_at x0_1 x6_2
          replace p5 := eq_true p5
          replace q5 := eq_true q5
          go_wp2
          go_ret2
          exact ⟨_, er_, kn_, bw_⟩
         ·
          rw [if_neg c7] at H
          have c7b0 : decide (x6_2 < 2) = false := decide_eq_false c7
          clear c7
          by_cases c8 : (wrap64 (x6_2 + 65)) > (x0_1.size : Int)
          ·
           rw [if_pos c8] at H
           have c8b0 : decide ((x0_1.size : Int) < (wrap64 (x6_2 + 65))) = true := decide_eq_true c8
           clear c8
           simp only [Option.some.injEq, Prod.mk.injEq] at H
           obtain ⟨rfl, rfl⟩ := H
           have p5 : 0 ≤ (x6_2 : Int) := oda_
           have q5 : x6_2 < (x0_1.size : Int) := oda_
           have hx5 := bt_at x0_1 x6_2
           replace p5 := eq_true p5
           replace q5 := eq_true q5
           go_wp2
           go_ret2
           exact ⟨_, er_, kn_, bw_⟩
          ·
           rw [if_neg c8] at H
           have c8b0 : decide ((x0_1.size : Int) < (wrap64 (x6_2 + 65))) = false := decide_eq_false c8
           clear c8
           by_cases c9 : 1 < (x0_1.size : Int)
           ·
            rw [if_pos c9] at H
            have c9b0 : decide (1 < (x0_1.size : Int)) = true := decide_eq_true c9
            have c9b1 : decide (1 < x0_1.size) = true := decide_eq_true (by omega)
            clear c9
            by_cases c11 : (bt x0_1 1) = 32
            ·
             rw [if_pos c11] at H
             have c11b0 : ((bt x0_1 1) == 32) = true := beq_iff_eq.mpr c11
             have c11b1 : ((bt x0_1 1) != 32) = false := bne_eq_false_iff_eq.mpr c11
             clear c11
             by_cases c12 : 0 < (x0_1.size : Int)
             ·
              rw [if_pos c12] at H
              have c12b0 : decide (0 < (x0_1.size : Int)) = true := decide_eq_true c12
              have c12b1 : decide (0 < x0_1.size) = true := decide_eq_true (by omega)
              clear c12
              by_cases c14 : 2 ≤ x6_2
              ·
               rw [if_pos c14] at H
               have c14b0 := eq_true c14
               have c14b1 : decide (2 ≤ x6_2) = true := decide_eq_true c14
               clear c14
               by_cases c15 : x6_2 ≤ (x0_1.size : Int)
               ·
                rw [if_pos c15] at H
                have c15b0 := eq_true c15
                have c15b1 : decide (x6_2 ≤ (x0_1.size : Int)) = true := decide_eq_true c15
                clear c15
                obtain ⟨ji16, hji16⟩ : ∃ j_ : Int, (wrap64 (x6_2 + 1)) = j_ := ⟨_, rfl⟩
                replace H : (if 0 ≤ (ji16) then (if (ji16) ≤ (wrap64 (x6_2 + 65)) then (if (wrap64 (x6_2 + 65)) ≤ (x0_1.size : Int) then (if x4_1.length < 3518437208883 then (if 0 ≤ (wrap64 (x6_2 + 65)) then (r04_GetTree.l0 k2 (x0_1.extract ((wrap64 (x6_2 + 65)) : Int).toNat x0_1.size) (x4_1 ++ [(⟨wrap64 ((wrap64 (bt x0_1 0)) - 48), x0_1.extract 2 (x6_2 : Int).toNat, x0_1.extract ((ji16) : Int).toNat ((wrap64 (x6_2 + 65)) : Int).toNat⟩ : S54)]) a0) else (none)) else (none)) else (none)) else (none)) else (none)) = some (r1, r2) := by first | (rw [hji16] at H; exact H) | (simp only [hji16] at H ⊢; exact H)
                have hji16w : (IntKind.i64.wrap (x6_2 + 1)) = ji16 := (i64_w _).trans hji16
                by_cases c17 : 0 ≤ (ji16)
                ·
                 rw [if_pos c17] at H
                 have c17b0 := eq_true c17
                 have c17b1 : decide (0 ≤ (ji16)) = true := decide_eq_true c17
                 clear c17
                 by_cases c18 : (ji16) ≤ (wrap64 (x6_2 + 65))
                 ·
                  rw [if_pos c18] at H
                  have c18b0 := eq_true c18
                  have c18b1 : decide ((ji16) ≤ (wrap64 (x6_2 + 65))) = true := decide_eq_true c18
                  by_cases c19 : (wrap64 (x6_2 + 65)) ≤ (x0_1.size : Int)
                  ·
                   rw [if_pos c19] at H
                   have c19b0 := eq_true c19
                   have c19b1 : decide ((wrap64 (x6_2 + 65)) ≤ (x0_1.size : Int)) = true := decide_eq_true c19
                   by_cases c20 : x4_1.length < 3518437208883
                   ·
                    rw [if_pos c20] at H
                    have LMc20 := Aside0.mk c20
                    clear c20
                    obtain ⟨y119, hy119⟩ : ∃ y_ : List (S54), y_ = (x4_1 ++ [(⟨wrap64 ((wrap64 (bt x0_1 0)) - 48), x0_1.extract 2 (x6_2 : Int).toNat, x0_1.extract ((ji16) : Int).toNat ((wrap64 (x6_2 + 65)) : Int).toNat⟩ : S54)]) := ⟨_, rfl⟩
                    replace H : (if 0 ≤ (wrap64 (x6_2 + 65)) then (r04_GetTree.l0 k2 (x0_1.extract ((wrap64 (x6_2 + 65)) : Int).toNat x0_1.size) y119 a0) else (none)) = some (r1, r2) := by first | (rw [hy119]; with_reducible exact H) | (have H2_ := (Option.bind_some _ _).symm.trans H; rw [hy119]; with_reducible exact H2_) | (have H2_ := (Option.bind_some _ _).symm.trans H; with_reducible exact H2_) | with_reducible exact H | (rw [hy119]; exact H) | exact H
                    have Ny119 := Aside0.mk hy119
                    clear hy119
                    obtain ⟨ji21, hji21⟩ : ∃ j_ : Int, (wrap64 (x6_2 + 65)) = j_ := ⟨_, rfl⟩
                    replace H : (if 0 ≤ (ji21) then (r04_GetTree.l0 k2 (x0_1.extract ((ji21) : Int).toNat x0_1.size) y119 a0) else (none)) = some (r1, r2) := by first | (rw [hji21] at H; exact H) | (simp only [hji21] at H ⊢; exact H)
                    (try rw [hji21] at c8b0)
                    (try rw [hji21] at c18b0)
                    (try rw [hji21] at c18b1)
                    (try rw [hji21] at c18)
                    (try rw [hji21] at c19b0)
                    (try rw [hji21] at c19b1)
                    (try rw [hji21] at c19)
                    (try rw [hji21] at Ny119)
                    have hji21w : (IntKind.i64.wrap (x6_2 + 65)) = ji21 := (i64_w _).trans hji21
                    by_cases c22 : 0 ≤ (ji21)
                    ·
                     rw [if_pos c22] at H
                     have c22b0 := eq_true c22
                     have c22b1 : decide (0 ≤ (ji21)) = true := decide_eq_true c22
                     clear c22
                     have c23b0 := eq_true (oda_ : (ji21) ≤ (x0_1.size : Int))
                     have H' := Aside0.mk H
                     clear H
                     have p5 : 0 ≤ (x6_2 : Int) := oda_
                     have q5 : x6_2 < (x0_1.size : Int) := oda_
                     have hx5 := bt_at x0_1 x6_2
                     replace p5 := eq_true p5
                     replace q5 := eq_true q5
                     have p10 : 0 ≤ (1 : Int) := (by omega)
                     have q10 : 1 < x0_1.size := (by have : (1 : Int) < (x0_1.size : Int) := oda_; omega)
                     have hx10 : ∀ h : 1 < x0_1.size, ((x0_1[1]'h).toNat : Int) = bt x0_1 1 := bt_at x0_1 1
                     clear p10
                     have qi10 : (1 < (x0_1.size : Int)) = True := eq_true (oda_)
                     replace q10 := eq_true q10
                     try go_wp2
                     have n0_ := Aside0.mk (Kd.R_drew HO_4.out)
                     have n1_ := Aside0.mk (below_drew1 HB.out)
                     clear HO_4
                     clear HB
                     have HO_4 := n0_
                     have HB := n1_
                     clear n0_ n1_
                     have p13 : 0 ≤ (0 : Int) := (by omega)
                     have q13 : 0 < x0_1.size := (by have : (0 : Int) < (x0_1.size : Int) := oda_; omega)
                     have hx13 : ∀ h : 0 < x0_1.size, ((x0_1[0]'h).toNat : Int) = bt x0_1 0 := bt_at x0_1 0
                     clear p13
                     have qi13 : (0 < (x0_1.size : Int)) = True := eq_true (oda_)
                     replace q13 := eq_true q13
                     refine start_ (n := 18) (S := fun w' => True) (ds := []) (bl_ 18 0) (by kernel_rfl) rfl rfl trivial (fun hHeld => ?_); refine with_tabW r04_GetTree.tab9 r04_GetTree.bits9 (fun HT_ HW_ => ?_)
                     generalize wr.drew = w24 at HO_4 HB hHeld ⊢
                     refine pv_ 0 39 (bl_ 18 1) ?_
                     refine pv_ 1 40 (bl_ 18 3) ?_
                     refine pv_ 5 44 (bl_ 18 35) ?_
                     refine pv_ 6 45 (bl_ 18 99) ?_
                     refine pv_ 7 46 (bl_ 18 227) ?_
                     refine pv_ 8 47 (bl_ 18 483) ?_
                     refine pv_ 9 48 (bl_ 18 995) ?_
                     refine pv_ 10 49 (bl_ 18 2019) ?_
                     refine pv_ 11 50 (bl_ 18 4067) ?_
                     refine pv_ 12 51 (bl_ 18 8163) ?_
                     refine pv_ 13 52 (bl_ 18 16355) ?_
                     refine tk_ 2 41 (bl_ 18 16359) hHeld (hv := by intro w' _; go_simp; with_reducible rfl) (h := ?_)
                     refine pv_ 3 42 (bl_ 18 16367) ?_
                     refine pv_ 4 43 (bl_ 18 16383) ?_
                     refine pv_ 14 53 (bl_ 18 32767) ?_
                     refine one_ (i := 15) (N := some 54) (bl_ 18 65535) rfl rfl (one_of HT_.out (by kernel_rfl)) (by decide) (fun K hK => ?_)
                     refine value_ (w1 := ?_) (v := ?_) (by rfl) rfl ?_ ?_
                     rotate_left 2
                     ·
                      go_simp
                      constructor
                      · rfl
                      · rfl
                     refine hK.out _ _ trivial (fun hHeld => ?_)
                     clear hK K
                     refine norm_ (a' := ?_) ?_ ?_
                     rotate_left
                     ·
                      show Act.put _ (some 54) _ = _
                      simp only [ps_]
                      rfl
                     refine one_ (i := 16) (N := some 55) (bl_ 18 131071) rfl rfl (one_of HT_.out (by kernel_rfl)) (by decide) (fun K hK => ?_)
                     refine Kd.R_append_step k54 (w0 := w) w.heap.size (by rfl) (.tmp 39) (.tmp 54) 30 54 (.agg #[(.int .i64 0), (.string ⟨#[]⟩), (.string ⟨#[]⟩)]) 40 rfl Tryz.underlying30 info54 rfl (by decide) (by omega) u4 x4_1 (⟨wrap64 ((wrap64 (bt x0_1 0)) - 48), x0_1.extract 2 (x6_2 : Int).toNat, x0_1.extract ((ji16) : Int).toNat ((ji21) : Int).toNat⟩ : S54) [.int .i64 (wrap64 ((wrap64 (bt x0_1 0)) - 48)), .string (x0_1.extract 2 (x6_2 : Int).toNat), .string (x0_1.extract ((ji16) : Int).toNat ((ji21) : Int).toNat)] (fun _ => True) (fun _ => False) rfl rfl ?aP (fun _ hk => hk.elim) ?aF ?aO ?aB ?aS ?aL ?_
                     (case aP => exact k54_mkM _ _ _ (⟨wrap64 ((wrap64 (bt x0_1 0)) - 48), x0_1.extract 2 (x6_2 : Int).toNat, x0_1.extract ((ji16) : Int).toNat ((ji21) : Int).toNat⟩ : S54))
                     (case aB => exact bw_)
                     (case aF => exact (fun _ _ => trivial))
                     (case aO => exact (by (with_reducible repeat (first | apply Kd.R_alloc | apply Kd.R_drewN | apply Kd.R_drew)); exact HO_4.out))
                     (case aS => exact (below_size bw_))
                     (case aL => have := LMc20.out; omega)
                     intro v120 w25 ho hb hg hat
                     rw [← Ny119.out] at ho
                     have n0_ := Aside0.mk (hb)
                     have n1_ := Aside0.mk (ho)
                     clear HB
                     clear HO_4
                     have HB := n0_
                     have HO121 := n1_
                     clear n0_ n1_
                     clear ho hb hg hat
                     refine hK.out _ _ trivial (fun hHeld => ?_)
                     clear hK K
                     refine norm_ (a' := ?_) ?_ ?_
                     rotate_left
                     ·
                      show Act.put _ (some 55) _ = _
                      simp only [ps_]
                      rfl
                     refine pv_ 17 4 (bl_ 18 262143) ?_
                     refine done_ (done_of HT_.out (by kernel_rfl)) ?_
                     try go_wp2
                     go_roundg k2
                     case measure => have := HK1.out; have := HK2.out; omega
                     case rel => exact ⟨(x0_1.extract ((ji21) : Int).toNat x0_1.size), (y119), (by first | rfl | (simp; done) | (simp only [← hji21] <;> (first | rfl | simp)) | (simp [*]; done)), H', ⟨by have := HK1.out; have := HK2.out; omega⟩, ⟨by (with_reducible repeat (first | apply Kd.R_alloc | apply Kd.R_drewN | apply Kd.R_drew)); exact HO121.out⟩, ⟨bw_⟩⟩
                    ·
                     rw [if_neg c22] at H
                     exact absurd H (by simp)
                   ·
                    rw [if_neg c20] at H
                    exact absurd H (by simp)
                  ·
                   rw [if_neg c19] at H
                   exact absurd H (by simp)
                 ·
                  rw [if_neg c18] at H
                  exact absurd H (by simp)
                ·
                 rw [if_neg c17] at H
                 exact absurd H (by simp)
               ·
                rw [if_neg c15] at H
                exact absurd H (by simp)
              ·
               rw [if_neg c14] at H
               exact absurd H (by simp)
             ·
              rw [if_neg c12] at H
              exact absurd H (by simp)
            ·
             rw [if_neg c11] at H
             have c11b0 : ((bt x0_1 1) == 32) = false := beq_eq_false_iff_ne.mpr c11
             have c11b1 : ((bt x0_1 1) != 32) = true := bne_iff_ne.mpr c11
             simp only [Option.some.injEq, Prod.mk.injEq] at H
             obtain ⟨rfl, rfl⟩ := H
             have p5 : 0 ≤ (x6_2 : Int) := oda_
             have q5 : x6_2 < (x0_1.size : Int) := oda_
             have hx5 := bt_at x0_1 x6_2
             replace p5 := eq_true p5
             replace q5 := eq_true q5
             have p10 : 0 ≤ (1 : Int) := (by omega)
             have q10 : 1 < x0_1.size := (by have : (1 : Int) < (x0_1.size : Int) := oda_; omega)
             have hx10 : ∀ h : 1 < x0_1.size, ((x0_1[1]'h).toNat : Int) = bt x0_1 1 := bt_at x0_1 1
             clear p10
             have qi10 : (1 < (x0_1.size : Int)) = True := eq_true (oda_)
             replace q10 := eq_true q10
             go_wp2
             go_ret2
             exact ⟨_, er_, kn_, bw_⟩
           ·
            rw [if_neg c9] at H
            exact absurd H (by simp)
        ·
         rw [if_neg c6] at H
         have c6b0 : ((bt x0_1 x6_2) == 0) = false := beq_eq_false_iff_ne.mpr c6
         have c6b1 : ((bt x0_1 x6_2) != 0) = true := bne_iff_ne.mpr c6
         have H' := Aside0.mk H
         clear H
         have p5 : 0 ≤ (x6_2 : Int) := oda_
         have q5 : x6_2 < (x0_1.size : Int) := oda_
         have hx5 := bt_at x0_1 x6_2
         replace p5 := eq_true p5
         replace q5 := eq_true q5
         go_wp2
         go_roundg k2
         case measure => have := HK1.out; have := HK2.out; omega
         case rel => exact ⟨(wrap64 (x6_2 + 1)), sd_, H', ⟨by have := HK1.out; have := HK2.out; omega⟩, ⟨by (with_reducible repeat (first | apply Kd.R_alloc | apply Kd.R_drewN | apply Kd.R_drew)); exact HO_4.out⟩, ⟨bw_⟩⟩
       ·
        rw [if_neg c4] at H
        exact absurd H (by simp)
      ·
       rw [if_neg c3] at H
       have c3b0 : decide (x6_2 < (x0_1.size : Int)) = false := decide_eq_false c3
       clear c3
       by_cases c26 : x6_2 < 2
       ·
        rw [if_pos c26] at H
        have c26b0 : decide (x6_2 < 2) = true := decide_eq_true c26
        clear c26
        simp only [Option.some.injEq, Prod.mk.injEq] at H
        obtain ⟨rfl, rfl⟩ := H
        go_wp2
        go_ret2
        exact ⟨_, er_, kn_, bw_⟩
       ·
        rw [if_neg c26] at H
        have c26b0 : decide (x6_2 < 2) = false := decide_eq_false c26
        clear c26
        by_cases c27 : (wrap64 (x6_2 + 65)) > (x0_1.size : Int)
        ·
         rw [if_pos c27] at H
         have c27b0 : decide ((x0_1.size : Int) < (wrap64 (x6_2 + 65))) = true := decide_eq_true c27
         clear c27
         simp only [Option.some.injEq, Prod.mk.injEq] at H
         obtain ⟨rfl, rfl⟩ := H
         go_wp2
         go_ret2
         exact ⟨_, er_, kn_, bw_⟩
        ·
         rw [if_neg c27] at H
         have c27b0 : decide ((x0_1.size : Int) < (wrap64 (x6_2 + 65))) = false := decide_eq_false c27
         clear c27
         by_cases c28 : 1 < (x0_1.size : Int)
         ·
          rw [if_pos c28] at H
          have c28b0 : decide (1 < (x0_1.size : Int)) = true := decide_eq_true c28
          have c28b1 : decide (1 < x0_1.size) = true := decide_eq_true (by omega)
          clear c28
          by_cases c30 : (bt x0_1 1) = 32
          ·
           rw [if_pos c30] at H
           have c30b0 : ((bt x0_1 1) == 32) = true := beq_iff_eq.mpr c30
           have c30b1 : ((bt x0_1 1) != 32) = false := bne_eq_false_iff_eq.mpr c30
           clear c30
           by_cases c31 : 0 < (x0_1.size : Int)
           ·
            rw [if_pos c31] at H
            have c31b0 : decide (0 < (x0_1.size : Int)) = true := decide_eq_true c31
            have c31b1 : decide (0 < x0_1.size) = true := decide_eq_true (by omega)
            clear c31
            by_cases c33 : 2 ≤ x6_2
            ·
             rw [if_pos c33] at H
             have c33b0 := eq_true c33
             have c33b1 : decide (2 ≤ x6_2) = true := decide_eq_true c33
             clear c33
             by_cases c34 : x6_2 ≤ (x0_1.size : Int)
             ·
              rw [if_pos c34] at H
              have c34b0 := eq_true c34
              have c34b1 : decide (x6_2 ≤ (x0_1.size : Int)) = true := decide_eq_true c34
              clear c34
              obtain ⟨ji35, hji35⟩ : ∃ j_ : Int, (wrap64 (x6_2 + 1)) = j_ := ⟨_, rfl⟩
              replace H : (if 0 ≤ (ji35) then (if (ji35) ≤ (wrap64 (x6_2 + 65)) then (if (wrap64 (x6_2 + 65)) ≤ (x0_1.size : Int) then (if x4_1.length < 3518437208883 then (if 0 ≤ (wrap64 (x6_2 + 65)) then (r04_GetTree.l0 k2 (x0_1.extract ((wrap64 (x6_2 + 65)) : Int).toNat x0_1.size) (x4_1 ++ [(⟨wrap64 ((wrap64 (bt x0_1 0)) - 48), x0_1.extract 2 (x6_2 : Int).toNat, x0_1.extract ((ji35) : Int).toNat ((wrap64 (x6_2 + 65)) : Int).toNat⟩ : S54)]) a0) else (none)) else (none)) else (none)) else (none)) else (none)) = some (r1, r2) := by first | (rw [hji35] at H; exact H) | (simp only [hji35] at H ⊢; exact H)
              have hji35w : (IntKind.i64.wrap (x6_2 + 1)) = ji35 := (i64_w _).trans hji35
              by_cases c36 : 0 ≤ (ji35)
              ·
               rw [if_pos c36] at H
               have c36b0 := eq_true c36
               have c36b1 : decide (0 ≤ (ji35)) = true := decide_eq_true c36
               clear c36
               by_cases c37 : (ji35) ≤ (wrap64 (x6_2 + 65))
               ·
                rw [if_pos c37] at H
                have c37b0 := eq_true c37
                have c37b1 : decide ((ji35) ≤ (wrap64 (x6_2 + 65))) = true := decide_eq_true c37
                by_cases c38 : (wrap64 (x6_2 + 65)) ≤ (x0_1.size : Int)
                ·
                 rw [if_pos c38] at H
                 have c38b0 := eq_true c38
                 have c38b1 : decide ((wrap64 (x6_2 + 65)) ≤ (x0_1.size : Int)) = true := decide_eq_true c38
                 by_cases c39 : x4_1.length < 3518437208883
                 ·
                  rw [if_pos c39] at H
                  have LMc39 := Aside0.mk c39
                  clear c39
                  obtain ⟨y122, hy122⟩ : ∃ y_ : List (S54), y_ = (x4_1 ++ [(⟨wrap64 ((wrap64 (bt x0_1 0)) - 48), x0_1.extract 2 (x6_2 : Int).toNat, x0_1.extract ((ji35) : Int).toNat ((wrap64 (x6_2 + 65)) : Int).toNat⟩ : S54)]) := ⟨_, rfl⟩
                  replace H : (if 0 ≤ (wrap64 (x6_2 + 65)) then (r04_GetTree.l0 k2 (x0_1.extract ((wrap64 (x6_2 + 65)) : Int).toNat x0_1.size) y122 a0) else (none)) = some (r1, r2) := by first | (rw [hy122]; with_reducible exact H) | (have H2_ := (Option.bind_some _ _).symm.trans H; rw [hy122]; with_reducible exact H2_) | (have H2_ := (Option.bind_some _ _).symm.trans H; with_reducible exact H2_) | with_reducible exact H | (rw [hy122]; exact H) | exact H
                  have Ny122 := Aside0.mk hy122
                  clear hy122
                  obtain ⟨ji40, hji40⟩ : ∃ j_ : Int, (wrap64 (x6_2 + 65)) = j_ := ⟨_, rfl⟩
                  replace H : (if 0 ≤ (ji40) then (r04_GetTree.l0 k2 (x0_1.extract ((ji40) : Int).toNat x0_1.size) y122 a0) else (none)) = some (r1, r2) := by first | (rw [hji40] at H; exact H) | (simp only [hji40] at H ⊢; exact H)
                  (try rw [hji40] at c27b0)
                  (try rw [hji40] at c37b0)
                  (try rw [hji40] at c37b1)
                  (try rw [hji40] at c37)
                  (try rw [hji40] at c38b0)
                  (try rw [hji40] at c38b1)
                  (try rw [hji40] at c38)
                  (try rw [hji40] at Ny122)
                  have hji40w : (IntKind.i64.wrap (x6_2 + 65)) = ji40 := (i64_w _).trans hji40
                  by_cases c41 : 0 ≤ (ji40)
                  ·
                   rw [if_pos c41] at H
                   have c41b0 := eq_true c41
                   have c41b1 : decide (0 ≤ (ji40)) = true := decide_eq_true c41
                   clear c41
                   have c42b0 := eq_true (oda_ : (ji40) ≤ (x0_1.size : Int))
                   have H' := Aside0.mk H
                   clear H
                   have p29 : 0 ≤ (1 : Int) := (by omega)
                   have q29 : 1 < x0_1.size := (by have : (1 : Int) < (x0_1.size : Int) := oda_; omega)
                   have hx29 : ∀ h : 1 < x0_1.size, ((x0_1[1]'h).toNat : Int) = bt x0_1 1 := bt_at x0_1 1
                   clear p29
                   have qi29 : (1 < (x0_1.size : Int)) = True := eq_true (oda_)
                   replace q29 := eq_true q29
                   try go_wp2
                   have n0_ := Aside0.mk (Kd.R_drew HO_4.out)
                   have n1_ := Aside0.mk (below_drew1 HB.out)
                   clear HO_4
                   clear HB
                   have HO_4 := n0_
                   have HB := n1_
                   clear n0_ n1_
                   have p32 : 0 ≤ (0 : Int) := (by omega)
                   have q32 : 0 < x0_1.size := (by have : (0 : Int) < (x0_1.size : Int) := oda_; omega)
                   have hx32 : ∀ h : 0 < x0_1.size, ((x0_1[0]'h).toNat : Int) = bt x0_1 0 := bt_at x0_1 0
                   clear p32
                   have qi32 : (0 < (x0_1.size : Int)) = True := eq_true (oda_)
                   replace q32 := eq_true q32
                   refine start_ (n := 18) (S := fun w' => True) (ds := []) (bl_ 18 0) (by kernel_rfl) rfl rfl trivial (fun hHeld => ?_); refine with_tabW r04_GetTree.tab9 r04_GetTree.bits9 (fun HT_ HW_ => ?_)
                   generalize wr.drew = w43 at HO_4 HB hHeld ⊢
                   refine pv_ 0 39 (bl_ 18 1) ?_
                   refine pv_ 1 40 (bl_ 18 3) ?_
                   refine pv_ 5 44 (bl_ 18 35) ?_
                   refine pv_ 6 45 (bl_ 18 99) ?_
                   refine pv_ 7 46 (bl_ 18 227) ?_
                   refine pv_ 8 47 (bl_ 18 483) ?_
                   refine pv_ 9 48 (bl_ 18 995) ?_
                   refine pv_ 10 49 (bl_ 18 2019) ?_
                   refine pv_ 11 50 (bl_ 18 4067) ?_
                   refine pv_ 12 51 (bl_ 18 8163) ?_
                   refine pv_ 13 52 (bl_ 18 16355) ?_
                   refine tk_ 2 41 (bl_ 18 16359) hHeld (hv := by intro w' _; go_simp; with_reducible rfl) (h := ?_)
                   refine pv_ 3 42 (bl_ 18 16367) ?_
                   refine pv_ 4 43 (bl_ 18 16383) ?_
                   refine pv_ 14 53 (bl_ 18 32767) ?_
                   refine one_ (i := 15) (N := some 54) (bl_ 18 65535) rfl rfl (one_of HT_.out (by kernel_rfl)) (by decide) (fun K hK => ?_)
                   refine value_ (w1 := ?_) (v := ?_) (by rfl) rfl ?_ ?_
                   rotate_left 2
                   ·
                    go_simp
                    constructor
                    · rfl
                    · rfl
                   refine hK.out _ _ trivial (fun hHeld => ?_)
                   clear hK K
                   refine norm_ (a' := ?_) ?_ ?_
                   rotate_left
                   ·
                    show Act.put _ (some 54) _ = _
                    simp only [ps_]
                    rfl
                   refine one_ (i := 16) (N := some 55) (bl_ 18 131071) rfl rfl (one_of HT_.out (by kernel_rfl)) (by decide) (fun K hK => ?_)
                   refine Kd.R_append_step k54 (w0 := w) w.heap.size (by rfl) (.tmp 39) (.tmp 54) 30 54 (.agg #[(.int .i64 0), (.string ⟨#[]⟩), (.string ⟨#[]⟩)]) 40 rfl Tryz.underlying30 info54 rfl (by decide) (by omega) u4 x4_1 (⟨wrap64 ((wrap64 (bt x0_1 0)) - 48), x0_1.extract 2 (x6_2 : Int).toNat, x0_1.extract ((ji35) : Int).toNat ((ji40) : Int).toNat⟩ : S54) [.int .i64 (wrap64 ((wrap64 (bt x0_1 0)) - 48)), .string (x0_1.extract 2 (x6_2 : Int).toNat), .string (x0_1.extract ((ji35) : Int).toNat ((ji40) : Int).toNat)] (fun _ => True) (fun _ => False) rfl rfl ?aP (fun _ hk => hk.elim) ?aF ?aO ?aB ?aS ?aL ?_
                   (case aP => exact k54_mkM _ _ _ (⟨wrap64 ((wrap64 (bt x0_1 0)) - 48), x0_1.extract 2 (x6_2 : Int).toNat, x0_1.extract ((ji35) : Int).toNat ((ji40) : Int).toNat⟩ : S54))
                   (case aB => exact bw_)
                   (case aF => exact (fun _ _ => trivial))
                   (case aO => exact (by (with_reducible repeat (first | apply Kd.R_alloc | apply Kd.R_drewN | apply Kd.R_drew)); exact HO_4.out))
                   (case aS => exact (below_size bw_))
                   (case aL => have := LMc39.out; omega)
                   intro v123 w44 ho hb hg hat
                   rw [← Ny122.out] at ho
                   have n0_ := Aside0.mk (hb)
                   have n1_ := Aside0.mk (ho)
                   clear HB
                   clear HO_4
                   have HB := n0_
                   have HO124 := n1_
                   clear n0_ n1_
                   clear ho hb hg hat
                   refine hK.out _ _ trivial (fun hHeld => ?_)
                   clear hK K
                   refine norm_ (a' := ?_) ?_ ?_
                   rotate_left
                   ·
                    show Act.put _ (some 55) _ = _
                    simp only [ps_]
                    rfl
                   refine pv_ 17 4 (bl_ 18 262143) ?_
                   refine done_ (done_of HT_.out (by kernel_rfl)) ?_
                   try go_wp2
                   go_roundg k2
                   case measure => have := HK1.out; have := HK2.out; omega
                   case rel => exact ⟨(x0_1.extract ((ji40) : Int).toNat x0_1.size), (y122), (by first | rfl | (simp; done) | (simp only [← hji40] <;> (first | rfl | simp)) | (simp [*]; done)), H', ⟨by have := HK1.out; have := HK2.out; omega⟩, ⟨by (with_reducible repeat (first | apply Kd.R_alloc | apply Kd.R_drewN | apply Kd.R_drew)); exact HO124.out⟩, ⟨bw_⟩⟩
                  ·
                   rw [if_neg c41] at H
                   exact absurd H (by simp)
                 ·
                  rw [if_neg c39] at H
                  exact absurd H (by simp)
                ·
                 rw [if_neg c38] at H
                 exact absurd H (by simp)
               ·
                rw [if_neg c37] at H
                exact absurd H (by simp)
              ·
               rw [if_neg c36] at H
               exact absurd H (by simp)
             ·
              rw [if_neg c34] at H
              exact absurd H (by simp)
            ·
             rw [if_neg c33] at H
             exact absurd H (by simp)
           ·
            rw [if_neg c31] at H
            exact absurd H (by simp)
          ·
           rw [if_neg c30] at H
           have c30b0 : ((bt x0_1 1) == 32) = false := beq_eq_false_iff_ne.mpr c30
           have c30b1 : ((bt x0_1 1) != 32) = true := bne_iff_ne.mpr c30
           simp only [Option.some.injEq, Prod.mk.injEq] at H
           obtain ⟨rfl, rfl⟩ := H
           have p29 : 0 ≤ (1 : Int) := (by omega)
           have q29 : 1 < x0_1.size := (by have : (1 : Int) < (x0_1.size : Int) := oda_; omega)
           have hx29 : ∀ h : 1 < x0_1.size, ((x0_1[1]'h).toNat : Int) = bt x0_1 1 := bt_at x0_1 1
           clear p29
           have qi29 : (1 < (x0_1.size : Int)) = True := eq_true (oda_)
           replace q29 := eq_true q29
           go_wp2
           go_ret2
           exact ⟨_, er_, kn_, bw_⟩
         ·
          rw [if_neg c28] at H
          exact absurd H (by simp)
   ·
    rw [if_neg c2] at H
    have c2b0 : decide (0 < (x0_1.size : Int)) = false := decide_eq_false c2
    have c2b1 : decide (0 < x0_1.size) = false := decide_eq_false (by omega)
    clear c2
    replace H := Option.bind_eq_some_iff.mp H
    obtain ⟨⟨t117, t118⟩, A450, H⟩ := H
    replace H : (if t118 = true then (if t117.toList = a0.toList then (some (x4_1, true)) else (some (([] : List (S54)), false))) else (some (([] : List (S54)), false))) = some (r1, r2) := H
    have A45 := Aside0.mk A450
    clear A450
    by_cases c46 : t118 = true
    ·
     subst c46
     have H1 : (if t117.toList = a0.toList then (some (x4_1, true)) else (some (([] : List (S54)), false))) = some (r1, r2) := by rw [if_pos rfl] at H; exact H
     clear H
     have H := H1
     clear H1
     by_cases c47 : t117.toList = a0.toList
     ·
      rw [if_pos c47] at H
      have c47b0 : (t117.toList == a0.toList) = true := beq_iff_eq.mpr c47
      have c47b1 : (t117.toList != a0.toList) = false := bne_eq_false_iff_eq.mpr c47
      clear c47
      simp only [Option.some.injEq, Prod.mk.injEq] at H
      obtain ⟨rfl, rfl⟩ := H
      obtain ⟨Ao48, co48, eo48⟩ := Kd.R_slice HO_4.out
      subst eo48
      go_wp2_with (first | ((with_reducible refine gate_callee (f := 20) rfl ?_); refine goesL_ (some 62) rfl rfl Tryz.func20 (by kernel_rfl) rfl #[.slice Ao48 x4_1.length co48] rfl la_ ?_; (with_reducible refine (r04_PutTree.calls k1 _ _ x4_1 t117 true _ ?side1 ?side2 A45.out).mono ?_); (case side1 => repeat (first | exact (Kd.R_reads' HO_4.out).2.2 | (with_reducible refine Kd.C_alloc ?_ _) | (with_reducible refine Kd.C_drewN ?_ _) | (with_reducible refine Kd.C_drew ?_))); (case side2 => exact (Kd.R_reads' HO_4.out).2.1); rintro e w49 ⟨rfl, hb⟩; refine ⟨_, rfl, ?_⟩; have n0_ := Aside0.mk (Kd.R_below (by (with_reducible repeat (first | apply Kd.R_alloc | apply Kd.R_drewN | apply Kd.R_drew)); exact HO_4.out) hb); have n1_ := Aside0.mk (below_step bw_ hb); clear HO_4; clear HB; have HO_4 := n0_; have HB := n1_; clear n0_ n1_; (try clear hb); (try clear hb2); (try clear hk); (try clear hi)))
      go_ret2
      exact ⟨_, er_, by (with_reducible repeat (first | apply Kd.R_alloc | apply Kd.R_drewN | apply Kd.R_drew)); exact HO_4.out, bw_⟩
     ·
      rw [if_neg c47] at H
      have c47b0 : (t117.toList == a0.toList) = false := beq_eq_false_iff_ne.mpr c47
      have c47b1 : (t117.toList != a0.toList) = true := bne_iff_ne.mpr c47
      simp only [Option.some.injEq, Prod.mk.injEq] at H
      obtain ⟨rfl, rfl⟩ := H
      obtain ⟨Ao50, co50, eo50⟩ := Kd.R_slice HO_4.out
      subst eo50
      go_wp2_with (first | ((with_reducible refine gate_callee (f := 20) rfl ?_); refine goesL_ (some 62) rfl rfl Tryz.func20 (by kernel_rfl) rfl #[.slice Ao50 x4_1.length co50] rfl la_ ?_; (with_reducible refine (r04_PutTree.calls k1 _ _ x4_1 t117 true _ ?side1 ?side2 A45.out).mono ?_); (case side1 => repeat (first | exact (Kd.R_reads' HO_4.out).2.2 | (with_reducible refine Kd.C_alloc ?_ _) | (with_reducible refine Kd.C_drewN ?_ _) | (with_reducible refine Kd.C_drew ?_))); (case side2 => exact (Kd.R_reads' HO_4.out).2.1); rintro e w51 ⟨rfl, hb⟩; refine ⟨_, rfl, ?_⟩; have n0_ := Aside0.mk (Kd.R_below (by (with_reducible repeat (first | apply Kd.R_alloc | apply Kd.R_drewN | apply Kd.R_drew)); exact HO_4.out) hb); have n1_ := Aside0.mk (below_step bw_ hb); clear HO_4; clear HB; have HO_4 := n0_; have HB := n1_; clear n0_ n1_; (try clear hb); (try clear hb2); (try clear hk); (try clear hi)))
      go_ret2
      exact ⟨_, er_, kn_, bw_⟩
    ·
     replace c46 := Bool.eq_false_iff.mpr c46
     subst c46
     have H1 : (some (([] : List (S54)), false)) = some (r1, r2) := by rw [if_neg (show ¬ (false = true) by decide)] at H; exact H
     clear H
     have H := H1
     clear H1
     simp only [Option.some.injEq, Prod.mk.injEq] at H
     obtain ⟨rfl, rfl⟩ := H
     obtain ⟨Ao52, co52, eo52⟩ := Kd.R_slice HO_4.out
     subst eo52
     go_wp2_with (first | ((with_reducible refine gate_callee (f := 20) rfl ?_); refine goesL_ (some 62) rfl rfl Tryz.func20 (by kernel_rfl) rfl #[.slice Ao52 x4_1.length co52] rfl la_ ?_; (with_reducible refine (r04_PutTree.calls k1 _ _ x4_1 t117 false _ ?side1 ?side2 A45.out).mono ?_); (case side1 => repeat (first | exact (Kd.R_reads' HO_4.out).2.2 | (with_reducible refine Kd.C_alloc ?_ _) | (with_reducible refine Kd.C_drewN ?_ _) | (with_reducible refine Kd.C_drew ?_))); (case side2 => exact (Kd.R_reads' HO_4.out).2.1); rintro e w53 ⟨rfl, hb⟩; refine ⟨_, rfl, ?_⟩; have n0_ := Aside0.mk (Kd.R_below (by (with_reducible repeat (first | apply Kd.R_alloc | apply Kd.R_drewN | apply Kd.R_drew)); exact HO_4.out) hb); have n1_ := Aside0.mk (below_step bw_ hb); clear HO_4; clear HB; have HO_4 := n0_; have HB := n1_; clear n0_ n1_; (try clear hb); (try clear hb2); (try clear hk); (try clear hi)))
     go_ret2
     exact ⟨_, er_, kn_, bw_⟩
end Go.Proofs.YtefefhhaopjccaaGreatDoor.PObDoc

namespace Go.Proofs.YtefefhhaopjccaaGreatDoor.PObDoc
open Go.Proofs.YtefefhhaopjccaaGreatDoor.PObBase
open Go.RowKit Go.Proofs.YtefefhhaopjccaaGreatDoorW.PrintWords Go.Proofs.YtefefhhaopjccaaGreatDoorW.PrintLast Go.Proofs.YtefefhhaopjccaaGreatDoorW.PrintMore
attribute [local go_sem] StrSem.leq_str StrSem.geq_str StrSem.gtr_str max2_int min2_int max_two min_two max_three min_three max_four min_four   -- for this text's walks alone
set_option linter.unusedVariables false
set_option linter.unusedSimpArgs false
mutual
noncomputable def r04_RightChange.j0 : Nat → Bool → ByteArray → List ByteArray → ByteArray → ByteArray → Option (Bool)
 | 0, _, _, _, _, _ => none
 | k + 1, x21, x126000, x126001, x126002, x126003 => if x21 = true then (some false) else (r04_RightChange.l0 k 0 x126000 x126001 x126002 x126003)
noncomputable def r04_RightChange.l0 : Nat → Int → ByteArray → List ByteArray → ByteArray → ByteArray → Option (Bool)
 | 0, _, _, _, _, _ => none
 | k + 1, x3, x126000, x126001, x126002, x126003 => if x3 < (x126002.size : Int) then (if 0 ≤ x3 then (if (bt x126002 x3) < 32 then (some false) else (if (bt x126002 x3) > 126 then (some false) else (r04_RightChange.l0 k (wrap64 (x3 + 1)) x126000 x126001 x126002 x126003))) else (none)) else (r04_RightChange.l1 k 0 x126000 x126001 x126002 x126003)
noncomputable def r04_RightChange.l1 : Nat → Int → ByteArray → List ByteArray → ByteArray → ByteArray → Option (Bool)
 | 0, _, _, _, _, _ => none
 | k + 1, x4, x126000, x126001, x126002, x126003 => if x4 < (x126001.length : Int) then (if 0 ≤ x4 then ((r02_Named.f k (rdOf ByteArray.empty x126001 x4)).bind fun t128 => (if t128 = true then (r04_RightChange.l2 k x4 0 x126000 x126001 x126002 x126003) else (some false))) else (none)) else (some true)
noncomputable def r04_RightChange.l2 : Nat → Int → Int → ByteArray → List ByteArray → ByteArray → ByteArray → Option (Bool)
 | 0, _, _, _, _, _, _ => none
 | k + 1, x4, x5, x126000, x126001, x126002, x126003 => if x5 < x4 then (if 0 ≤ x5 then (if x5 < (x126001.length : Int) then (if 0 ≤ x4 then (if x4 < (x126001.length : Int) then (if (rdOf ByteArray.empty x126001 x5).toList = (rdOf ByteArray.empty x126001 x4).toList then (some false) else (r04_RightChange.l2 k x4 (wrap64 (x5 + 1)) x126000 x126001 x126002 x126003)) else (none)) else (none)) else (none)) else (none)) else (r04_RightChange.l1 k (wrap64 (x4 + 1)) x126000 x126001 x126002 x126003)
end
noncomputable def r04_RightChange.f (k : Nat) (a0_0 : ByteArray) (l0_1 : List ByteArray) (a0_2 : ByteArray) (a0_3 : ByteArray) : Option (Bool) := (r02_Named.f k a0_0).bind fun t126 => (if t126 = true then (if (l0_1.length : Int) > 8 then (r04_RightChange.j0 k true a0_0 l0_1 a0_2 a0_3) else (r04_RightChange.j0 k (decide ((a0_2.size : Int) > 100)) a0_0 l0_1 a0_2 a0_3)) else (r04_RightChange.j0 k true a0_0 l0_1 a0_2 a0_3))
set_option maxHeartbeats 8000000 in
set_option maxRecDepth 100000 in
theorem r04_RightChange.calls (k : Nat) (a0_0 : ByteArray) (A0_1 : Option Addr) (c0_1 : Nat) (l0_1 : List ByteArray) (a0_2 : ByteArray) (a0_3 : ByteArray) (r : Bool) (w : World) (hr0_1 : Kd.C Kd.string w A0_1 l0_1.length l0_1) (hc0_1 : l0_1.length ≤ c0_1) (h : r04_RightChange.f k a0_0 l0_1 a0_2 a0_3 = some r) :
  Calls Tryz.prog 49 #[.agg #[.string a0_0, .slice A0_1 l0_1.length c0_1, .string a0_2, .string a0_3]] w fun e w' => e = .returned (.bool r) ∧ Below w.heap.size w w' := by
 have hu40 := Tryz.underlying40
 have HR0_1 := Aside0.mk hr0_1
 have HC0_1 := Aside0.mk hc0_1
 clear hr0_1 hc0_1
 have HB := Aside0.mk (Below.refl w.heap.size w)
 have H : ((r02_Named.f k a0_0).bind fun t126 => (if t126 = true then (if (l0_1.length : Int) > 8 then (r04_RightChange.j0 k true a0_0 l0_1 a0_2 a0_3) else (r04_RightChange.j0 k (decide ((a0_2.size : Int) > 100)) a0_0 l0_1 a0_2 a0_3)) else (r04_RightChange.j0 k true a0_0 l0_1 a0_2 a0_3))) = some r := h
 clear h
 have HC2 := Aside0.mk H
 clear H
 go_enter Tryz.func49, Tryz.ntmps49
 go_upto_region 1 with (first | ((with_reducible refine gate_dst (N := 1) rfl ?_); (try (refine gate_guard (by rfl) ?_; dsimp only)); refine box_event ?hg (N := 1) ?hd (cs := #[.string a0_0, .slice A0_1 l0_1.length c0_1, .string a0_2, .string a0_3]) (t := 40) ?hr ?_; (case hd => rfl); (case hg => rfl); (case hr => first | (go_simp; done) | (go_simp; rfl)); intro gb125 hg w3 hbox hb; have n0_ := Aside0.mk (below_step bw_ hb); have n1_ := Aside0.mk (hbox); have n2_ := Aside0.mk ((by rw [hg]; exact (below_size bw_) : w.heap.size ≤ gb125)); have n3_ := Aside0.mk ((by rw [hg]; exact (below_size bw_) : w.heap.size ≤ gb125)); clear HB; have HB := n0_; have BK125 := n1_; have GW125 := n2_; have GE125 := n3_; clear n0_ n1_ n2_ n3_; clear hb hbox hg))
 repeat (go_quiet (first | ((with_reducible refine gate_dst (N := 1) rfl ?_); (try (refine gate_guard (by rfl) ?_; dsimp only)); refine box_event ?hg (N := 1) ?hd (cs := #[.string a0_0, .slice A0_1 l0_1.length c0_1, .string a0_2, .string a0_3]) (t := 40) ?hr ?_; (case hd => rfl); (case hg => rfl); (case hr => first | (go_simp; done) | (go_simp; rfl)); intro gb125 hg w3 hbox hb; have n0_ := Aside0.mk (below_step bw_ hb); have n1_ := Aside0.mk (hbox); have n2_ := Aside0.mk ((by rw [hg]; exact (below_size bw_) : w.heap.size ≤ gb125)); have n3_ := Aside0.mk ((by rw [hg]; exact (below_size bw_) : w.heap.size ≤ gb125)); clear HB; have HB := n0_; have BK125 := n1_; have GW125 := n2_; have GE125 := n3_; clear n0_ n1_ n2_ n3_; clear hb hbox hg)); go_upto_region 1 with (first | ((with_reducible refine gate_dst (N := 1) rfl ?_); (try (refine gate_guard (by rfl) ?_; dsimp only)); refine box_event ?hg (N := 1) ?hd (cs := #[.string a0_0, .slice A0_1 l0_1.length c0_1, .string a0_2, .string a0_3]) (t := 40) ?hr ?_; (case hd => rfl); (case hg => rfl); (case hr => first | (go_simp; done) | (go_simp; rfl)); intro gb125 hg w3 hbox hb; have n0_ := Aside0.mk (below_step bw_ hb); have n1_ := Aside0.mk (hbox); have n2_ := Aside0.mk ((by rw [hg]; exact (below_size bw_) : w.heap.size ≤ gb125)); have n3_ := Aside0.mk ((by rw [hg]; exact (below_size bw_) : w.heap.size ≤ gb125)); clear HB; have HB := n0_; have BK125 := n1_; have GW125 := n2_; have GE125 := n3_; clear n0_ n1_ n2_ n3_; clear hb hbox hg)))
 (try simp only [Act.put, List.setIfInBounds_toArray, List.set_cons_zero, List.set_cons_succ])
 go_cut [21] (fun v21 wc => ∃ (kq : Nat) (x21_1 : Bool), v21 = .bool x21_1 ∧ Aside0 (r04_RightChange.j0 kq x21_1 a0_0 l0_1 a0_2 a0_3 = some r) ∧ Aside0 (kq ≤ k) ∧ Aside0 (wc.heap[gb125]? = some (.cells #[.string a0_0, (.slice A0_1 l0_1.length c0_1), .string a0_2, .string a0_3] 40 (0, 0))) ∧ Aside0 (Below w.heap.size w wc))
 case first =>
  have H := HC2.out
  clear HC2
  replace H := Option.bind_eq_some_iff.mp H
  obtain ⟨t126, A40, H⟩ := H
  replace H : (if t126 = true then (if (l0_1.length : Int) > 8 then (r04_RightChange.j0 k true a0_0 l0_1 a0_2 a0_3) else (r04_RightChange.j0 k (decide ((a0_2.size : Int) > 100)) a0_0 l0_1 a0_2 a0_3)) else (r04_RightChange.j0 k true a0_0 l0_1 a0_2 a0_3)) = some r := H
  have A4 := Aside0.mk A40
  clear A40
  by_cases c5 : t126 = true
  ·
   subst c5
   have H1 : (if (l0_1.length : Int) > 8 then (r04_RightChange.j0 k true a0_0 l0_1 a0_2 a0_3) else (r04_RightChange.j0 k (decide ((a0_2.size : Int) > 100)) a0_0 l0_1 a0_2 a0_3)) = some r := by rw [if_pos rfl] at H; exact H
   clear H
   have H := H1
   clear H1
   by_cases c6 : (l0_1.length : Int) > 8
   ·
    rw [if_pos c6] at H
    have c6b0 : decide (8 < (l0_1.length : Int)) = true := decide_eq_true c6
    have c6b1 : decide (8 < l0_1.length) = true := decide_eq_true (by omega)
    clear c6
    (first | rw [c6b0] | (simp only [i64_w, i32_w]; rw [c6b0]) | skip)
    have H' := Aside0.mk H
    clear H
    have hcz7_0 : w3.cell? ⟨gb125, 0, none⟩ = some (.string a0_0) := (blk_cell BK125.out 0).trans rfl
    have hcz7_1 : w3.cell? ⟨gb125, 1, none⟩ = some (.slice A0_1 l0_1.length c0_1) := (blk_cell BK125.out 1).trans rfl
    have hcz7_2 : w3.cell? ⟨gb125, 2, none⟩ = some (.string a0_2) := (blk_cell BK125.out 2).trans rfl
    have hcz7_3 : w3.cell? ⟨gb125, 3, none⟩ = some (.string a0_3) := (blk_cell BK125.out 3).trans rfl
    have hfz7_0 := blk_frozen BK125.out 0
    have hfz7_1 := blk_frozen BK125.out 1
    have hfz7_2 := blk_frozen BK125.out 2
    have hfz7_3 := blk_frozen BK125.out 3
    go_wp2_with (first | (go_at_call 34; (with_reducible refine (r02_Named.calls k a0_0 true _ A4.out).mono ?_); rintro e w' ⟨rfl, ⟨nd, rfl⟩⟩; (try first | exact ⟨rfl, _, World.drewN_drewN _ _ _⟩ | exact ⟨rfl, _, Eq.trans (World.drewN_drewN _ _ _) (congrArg (World.drewN _) (Nat.add_assoc _ _ _))⟩)))
    repeat (go_quiet (first | (go_at_call 34; (with_reducible refine (r02_Named.calls k a0_0 true _ A4.out).mono ?_); rintro e w' ⟨rfl, ⟨nd, rfl⟩⟩; (try first | exact ⟨rfl, _, World.drewN_drewN _ _ _⟩ | exact ⟨rfl, _, Eq.trans (World.drewN_drewN _ _ _) (congrArg (World.drewN _) (Nat.add_assoc _ _ _))⟩))); try go_wp2_with (first | (go_at_call 34; (with_reducible refine (r02_Named.calls k a0_0 true _ A4.out).mono ?_); rintro e w' ⟨rfl, ⟨nd, rfl⟩⟩; (try first | exact ⟨rfl, _, World.drewN_drewN _ _ _⟩ | exact ⟨rfl, _, Eq.trans (World.drewN_drewN _ _ _) (congrArg (World.drewN _) (Nat.add_assoc _ _ _))⟩))))
    go_meet
    case rel => exact ⟨_, (true), sd_, H', ⟨by first | omega | exact Nat.le_refl _⟩, ⟨by (with_reducible repeat (first | refine blk_drewN ?_ _ | refine blk_drew ?_ | refine blk_alloc ?_ _)); exact BK125.out⟩, ⟨by repeat (first | (with_reducible first | exact HB.out | apply below_alloc | apply pw_below_drewN | apply below_drew1 | refine below_set ?_ GE125.out) | exact HB.out)⟩⟩
   ·
    rw [if_neg c6] at H
    have c6b0 : decide (8 < (l0_1.length : Int)) = false := decide_eq_false c6
    have c6b1 : decide (8 < l0_1.length) = false := decide_eq_false (by omega)
    clear c6
    (first | rw [c6b0] | (simp only [i64_w, i32_w]; rw [c6b0]) | skip)
    have H' := Aside0.mk H
    clear H
    have hcz8_0 : w3.cell? ⟨gb125, 0, none⟩ = some (.string a0_0) := (blk_cell BK125.out 0).trans rfl
    have hcz8_1 : w3.cell? ⟨gb125, 1, none⟩ = some (.slice A0_1 l0_1.length c0_1) := (blk_cell BK125.out 1).trans rfl
    have hcz8_2 : w3.cell? ⟨gb125, 2, none⟩ = some (.string a0_2) := (blk_cell BK125.out 2).trans rfl
    have hcz8_3 : w3.cell? ⟨gb125, 3, none⟩ = some (.string a0_3) := (blk_cell BK125.out 3).trans rfl
    have hfz8_0 := blk_frozen BK125.out 0
    have hfz8_1 := blk_frozen BK125.out 1
    have hfz8_2 := blk_frozen BK125.out 2
    have hfz8_3 := blk_frozen BK125.out 3
    go_wp2_with (first | (go_at_call 34; (with_reducible refine (r02_Named.calls k a0_0 true _ A4.out).mono ?_); rintro e w' ⟨rfl, ⟨nd, rfl⟩⟩; (try first | exact ⟨rfl, _, World.drewN_drewN _ _ _⟩ | exact ⟨rfl, _, Eq.trans (World.drewN_drewN _ _ _) (congrArg (World.drewN _) (Nat.add_assoc _ _ _))⟩)))
    repeat (go_quiet (first | (go_at_call 34; (with_reducible refine (r02_Named.calls k a0_0 true _ A4.out).mono ?_); rintro e w' ⟨rfl, ⟨nd, rfl⟩⟩; (try first | exact ⟨rfl, _, World.drewN_drewN _ _ _⟩ | exact ⟨rfl, _, Eq.trans (World.drewN_drewN _ _ _) (congrArg (World.drewN _) (Nat.add_assoc _ _ _))⟩))); try go_wp2_with (first | (go_at_call 34; (with_reducible refine (r02_Named.calls k a0_0 true _ A4.out).mono ?_); rintro e w' ⟨rfl, ⟨nd, rfl⟩⟩; (try first | exact ⟨rfl, _, World.drewN_drewN _ _ _⟩ | exact ⟨rfl, _, Eq.trans (World.drewN_drewN _ _ _) (congrArg (World.drewN _) (Nat.add_assoc _ _ _))⟩))))
    go_meet
    case rel => exact ⟨_, (decide ((a0_2.size : Int) > 100)), sd_, H', ⟨by first | omega | exact Nat.le_refl _⟩, ⟨by (with_reducible repeat (first | refine blk_drewN ?_ _ | refine blk_drew ?_ | refine blk_alloc ?_ _)); exact BK125.out⟩, ⟨by repeat (first | (with_reducible first | exact HB.out | apply below_alloc | apply pw_below_drewN | apply below_drew1 | refine below_set ?_ GE125.out) | exact HB.out)⟩⟩
  ·
   replace c5 := Bool.eq_false_iff.mpr c5
   subst c5
   have H1 : (r04_RightChange.j0 k true a0_0 l0_1 a0_2 a0_3) = some r := by rw [if_neg (show ¬ (false = true) by decide)] at H; exact H
   clear H
   have H := H1
   clear H1
   have H' := Aside0.mk H
   clear H
   have hcz9_0 : w3.cell? ⟨gb125, 0, none⟩ = some (.string a0_0) := (blk_cell BK125.out 0).trans rfl
   have hcz9_1 : w3.cell? ⟨gb125, 1, none⟩ = some (.slice A0_1 l0_1.length c0_1) := (blk_cell BK125.out 1).trans rfl
   have hcz9_2 : w3.cell? ⟨gb125, 2, none⟩ = some (.string a0_2) := (blk_cell BK125.out 2).trans rfl
   have hcz9_3 : w3.cell? ⟨gb125, 3, none⟩ = some (.string a0_3) := (blk_cell BK125.out 3).trans rfl
   have hfz9_0 := blk_frozen BK125.out 0
   have hfz9_1 := blk_frozen BK125.out 1
   have hfz9_2 := blk_frozen BK125.out 2
   have hfz9_3 := blk_frozen BK125.out 3
   go_wp2_with (first | (go_at_call 34; (with_reducible refine (r02_Named.calls k a0_0 false _ A4.out).mono ?_); rintro e w' ⟨rfl, ⟨nd, rfl⟩⟩; (try first | exact ⟨rfl, _, World.drewN_drewN _ _ _⟩ | exact ⟨rfl, _, Eq.trans (World.drewN_drewN _ _ _) (congrArg (World.drewN _) (Nat.add_assoc _ _ _))⟩)))
   repeat (go_quiet (first | (go_at_call 34; (with_reducible refine (r02_Named.calls k a0_0 false _ A4.out).mono ?_); rintro e w' ⟨rfl, ⟨nd, rfl⟩⟩; (try first | exact ⟨rfl, _, World.drewN_drewN _ _ _⟩ | exact ⟨rfl, _, Eq.trans (World.drewN_drewN _ _ _) (congrArg (World.drewN _) (Nat.add_assoc _ _ _))⟩))); try go_wp2_with (first | (go_at_call 34; (with_reducible refine (r02_Named.calls k a0_0 false _ A4.out).mono ?_); rintro e w' ⟨rfl, ⟨nd, rfl⟩⟩; (try first | exact ⟨rfl, _, World.drewN_drewN _ _ _⟩ | exact ⟨rfl, _, Eq.trans (World.drewN_drewN _ _ _) (congrArg (World.drewN _) (Nat.add_assoc _ _ _))⟩))))
   go_meet
   case rel => exact ⟨_, (true), sd_, H', ⟨by first | omega | exact Nat.le_refl _⟩, ⟨by (with_reducible repeat (first | refine blk_drewN ?_ _ | refine blk_drew ?_ | refine blk_alloc ?_ _)); exact BK125.out⟩, ⟨by repeat (first | (with_reducible first | exact HB.out | apply below_alloc | apply pw_below_drewN | apply below_drew1 | refine below_set ?_ GE125.out) | exact HB.out)⟩⟩
 case rest =>
  clear HC2
  try clear p2
  try clear c4
  try clear c5
  try clear c6
  try clear c6b0
  try clear c6b1
  try clear hcz7_0
  try clear hcz7_1
  try clear hcz7_2
  try clear hcz7_3
  try clear hcz8_0
  try clear hcz8_1
  try clear hcz8_2
  try clear hcz8_3
  try clear hcz9_0
  try clear hcz9_1
  try clear hcz9_2
  try clear hcz9_3
  try clear hfz7_0
  try clear hfz7_1
  try clear hfz7_2
  try clear hfz7_3
  try clear hfz8_0
  try clear hfz8_1
  try clear hfz8_2
  try clear hfz8_3
  try clear hfz9_0
  try clear hfz9_1
  try clear hfz9_2
  try clear hfz9_3
  obtain ⟨kq, x21_1, rfl, HA, HJ1, BK125, HB⟩ := hcut
  cases kq with
  | zero => exact absurd HA.out (by simp [r04_RightChange.j0])
  | succ kj1 =>
   have H := HA.out
   clear HA
   simp only [r04_RightChange.j0] at H
   by_cases c10 : x21_1 = true
   ·
    subst c10
    have H1 : (some false) = some r := by rw [if_pos rfl] at H; exact H
    clear H
    have H := H1
    clear H1
    obtain rfl := Option.some.inj H
    go_wp2
    repeat (go_quiet (fail); try go_wp2)
    go_ret
    exact ⟨er_, by repeat (first | (with_reducible first | exact HB.out | apply below_alloc | apply pw_below_drewN | apply below_drew1 | refine below_set ?_ GE125.out) | exact HB.out)⟩
   ·
    replace c10 := Bool.eq_false_iff.mpr c10
    subst c10
    have H1 : (r04_RightChange.l0 kj1 0 a0_0 l0_1 a0_2 a0_3) = some r := by rw [if_neg (show ¬ (false = true) by decide)] at H; exact H
    clear H
    have H := H1
    clear H1
    have H' := Aside0.mk H
    clear H
    go_wp2
    repeat (go_quiet (fail); try go_wp2)
    go_loopg [3] kj1 (fun kq v3 w' => ∃ (x3_2 : Int), v3 = .int .i64 x3_2 ∧ Aside0 (r04_RightChange.l0 kq x3_2 a0_0 l0_1 a0_2 a0_3 = some r) ∧ Aside0 (kq ≤ kj1) ∧ Aside0 (w'.heap[gb125]? = some (.cells #[.string a0_0, (.slice A0_1 l0_1.length c0_1), .string a0_2, .string a0_3] 40 (0, 0))) ∧ Aside0 (Below w.heap.size w w'))
    case atStart => exact ⟨(0), sd_, H', ⟨Nat.le_refl _⟩, ⟨by (with_reducible repeat (first | refine blk_drewN ?_ _ | refine blk_drew ?_ | refine blk_alloc ?_ _)); exact BK125.out⟩, ⟨by repeat (first | (with_reducible first | exact HB.out | apply below_alloc | apply pw_below_drewN | apply below_drew1 | refine below_set ?_ GE125.out) | exact HB.out)⟩⟩
    case round =>
     clear H'
     try clear c1
     try clear p2
     try clear c4
     try clear c5
     try clear c6
     try clear c6b0
     try clear c6b1
     try clear c10
     try clear hcz7_0
     try clear hcz7_1
     try clear hcz7_2
     try clear hcz7_3
     try clear hcz8_0
     try clear hcz8_1
     try clear hcz8_2
     try clear hcz8_3
     try clear hcz9_0
     try clear hcz9_1
     try clear hcz9_2
     try clear hcz9_3
     try clear hfz7_0
     try clear hfz7_1
     try clear hfz7_2
     try clear hfz7_3
     try clear hfz8_0
     try clear hfz8_1
     try clear hfz8_2
     try clear hfz8_3
     try clear hfz9_0
     try clear hfz9_1
     try clear hfz9_2
     try clear hfz9_3
     try clear p2
     obtain ⟨x3_2, rfl, HA, HK2, BK125, HB⟩ := hrel
     cases gk with
     | zero => exact absurd HA.out (by simp [r04_RightChange.l0])
     | succ k2 =>
      have H := HA.out
      clear HA
      simp only [r04_RightChange.l0] at H
      by_cases c11 : x3_2 < (a0_2.size : Int)
      ·
       rw [if_pos c11] at H
       have c11b0 : decide (x3_2 < (a0_2.size : Int)) = true := decide_eq_true c11
       clear c11
       by_cases c12 : 0 ≤ x3_2
       ·
        rw [if_pos c12] at H
        have c12b0 : decide (0 ≤ x3_2) = true := decide_eq_true c12
        clear c12
        by_cases c14 : (bt a0_2 x3_2) < 32
        ·
         rw [if_pos c14] at H
         have c14b0 : decide ((bt a0_2 x3_2) < 32) = true := decide_eq_true c14
         clear c14
         obtain rfl := Option.some.inj H
         have hcz15_0 : wr.cell? ⟨gb125, 0, none⟩ = some (.string a0_0) := (blk_cell BK125.out 0).trans rfl
         have hcz15_1 : wr.cell? ⟨gb125, 1, none⟩ = some (.slice A0_1 l0_1.length c0_1) := (blk_cell BK125.out 1).trans rfl
         have hcz15_2 : wr.cell? ⟨gb125, 2, none⟩ = some (.string a0_2) := (blk_cell BK125.out 2).trans rfl
         have hcz15_3 : wr.cell? ⟨gb125, 3, none⟩ = some (.string a0_3) := (blk_cell BK125.out 3).trans rfl
         have hfz15_0 := blk_frozen BK125.out 0
         have hfz15_1 := blk_frozen BK125.out 1
         have hfz15_2 := blk_frozen BK125.out 2
         have hfz15_3 := blk_frozen BK125.out 3
         have p13 : 0 ≤ (x3_2 : Int) := oda_
         have q13 : x3_2 < (a0_2.size : Int) := oda_
         have hx13 := bt_at a0_2 x3_2
         replace p13 := eq_true p13
         replace q13 := eq_true q13
         go_wp2
         repeat (go_quiet (fail); try go_wp2)
         go_ret
         exact ⟨er_, by repeat (first | (with_reducible first | exact HB.out | apply below_alloc | apply pw_below_drewN | apply below_drew1 | refine below_set ?_ GE125.out) | exact HB.out)⟩
        ·
         rw [if_neg c14] at H
         have c14b0 : decide ((bt a0_2 x3_2) < 32) = false := decide_eq_false c14
         clear c14
         by_cases c17 : (bt a0_2 x3_2) > 126
         ·
          rw [if_pos c17] at H
          have c17b0 : decide (126 < (bt a0_2 x3_2)) = true := decide_eq_true c17
          clear c17
          obtain rfl := Option.some.inj H
          have hcz18_0 : wr.cell? ⟨gb125, 0, none⟩ = some (.string a0_0) := (blk_cell BK125.out 0).trans rfl
          have hcz18_1 : wr.cell? ⟨gb125, 1, none⟩ = some (.slice A0_1 l0_1.length c0_1) := (blk_cell BK125.out 1).trans rfl
          have hcz18_2 : wr.cell? ⟨gb125, 2, none⟩ = some (.string a0_2) := (blk_cell BK125.out 2).trans rfl
          have hcz18_3 : wr.cell? ⟨gb125, 3, none⟩ = some (.string a0_3) := (blk_cell BK125.out 3).trans rfl
          have hfz18_0 := blk_frozen BK125.out 0
          have hfz18_1 := blk_frozen BK125.out 1
          have hfz18_2 := blk_frozen BK125.out 2
          have hfz18_3 := blk_frozen BK125.out 3
          have p13 : 0 ≤ (x3_2 : Int) := oda_
          have q13 : x3_2 < (a0_2.size : Int) := oda_
          have hx13 := bt_at a0_2 x3_2
          replace p13 := eq_true p13
          replace q13 := eq_true q13
          have p16 : 0 ≤ (x3_2 : Int) := oda_
          have q16 : x3_2 < (a0_2.size : Int) := oda_
          have hx16 := bt_at a0_2 x3_2
          replace p16 := eq_true p16
          replace q16 := eq_true q16
          go_wp2
          repeat (go_quiet (fail); try go_wp2)
          go_ret
          exact ⟨er_, by repeat (first | (with_reducible first | exact HB.out | apply below_alloc | apply pw_below_drewN | apply below_drew1 | refine below_set ?_ GE125.out) | exact HB.out)⟩
         ·
          rw [if_neg c17] at H
          have c17b0 : decide (126 < (bt a0_2 x3_2)) = false := decide_eq_false c17
          clear c17
          have H' := Aside0.mk H
          clear H
          have hcz19_0 : wr.cell? ⟨gb125, 0, none⟩ = some (.string a0_0) := (blk_cell BK125.out 0).trans rfl
          have hcz19_1 : wr.cell? ⟨gb125, 1, none⟩ = some (.slice A0_1 l0_1.length c0_1) := (blk_cell BK125.out 1).trans rfl
          have hcz19_2 : wr.cell? ⟨gb125, 2, none⟩ = some (.string a0_2) := (blk_cell BK125.out 2).trans rfl
          have hcz19_3 : wr.cell? ⟨gb125, 3, none⟩ = some (.string a0_3) := (blk_cell BK125.out 3).trans rfl
          have hfz19_0 := blk_frozen BK125.out 0
          have hfz19_1 := blk_frozen BK125.out 1
          have hfz19_2 := blk_frozen BK125.out 2
          have hfz19_3 := blk_frozen BK125.out 3
          have p13 : 0 ≤ (x3_2 : Int) := oda_
          have q13 : x3_2 < (a0_2.size : Int) := oda_
          have hx13 := bt_at a0_2 x3_2
          replace p13 := eq_true p13
          replace q13 := eq_true q13
          have p16 : 0 ≤ (x3_2 : Int) := oda_
          have q16 : x3_2 < (a0_2.size : Int) := oda_
          have hx16 := bt_at a0_2 x3_2
          replace p16 := eq_true p16
          replace q16 := eq_true q16
          go_wp2
          repeat (go_quiet (fail); try go_wp2)
          go_roundg k2
          case measure => have := HJ1.out; have := HK2.out; omega
          case rel => exact ⟨(wrap64 (x3_2 + 1)), sd_, H', ⟨by have := HJ1.out; have := HK2.out; omega⟩, ⟨by (with_reducible repeat (first | refine blk_drewN ?_ _ | refine blk_drew ?_ | refine blk_alloc ?_ _)); exact BK125.out⟩, ⟨by repeat (first | (with_reducible first | exact HB.out | apply below_alloc | apply pw_below_drewN | apply below_drew1 | refine below_set ?_ GE125.out) | exact HB.out)⟩⟩
       ·
        rw [if_neg c12] at H
        exact absurd H (by simp)
      ·
       rw [if_neg c11] at H
       have c11b0 : decide (x3_2 < (a0_2.size : Int)) = false := decide_eq_false c11
       clear c11
       have H' := Aside0.mk H
       clear H
       have hcz20_0 : wr.cell? ⟨gb125, 0, none⟩ = some (.string a0_0) := (blk_cell BK125.out 0).trans rfl
       have hcz20_1 : wr.cell? ⟨gb125, 1, none⟩ = some (.slice A0_1 l0_1.length c0_1) := (blk_cell BK125.out 1).trans rfl
       have hcz20_2 : wr.cell? ⟨gb125, 2, none⟩ = some (.string a0_2) := (blk_cell BK125.out 2).trans rfl
       have hcz20_3 : wr.cell? ⟨gb125, 3, none⟩ = some (.string a0_3) := (blk_cell BK125.out 3).trans rfl
       have hfz20_0 := blk_frozen BK125.out 0
       have hfz20_1 := blk_frozen BK125.out 1
       have hfz20_2 := blk_frozen BK125.out 2
       have hfz20_3 := blk_frozen BK125.out 3
       go_wp2
       repeat (go_quiet (fail); try go_wp2)
       go_loopg [4] k2 (fun kq v4 w' => ∃ (x4_3 : Int), v4 = .int .i64 x4_3 ∧ Aside0 (r04_RightChange.l1 kq x4_3 a0_0 l0_1 a0_2 a0_3 = some r) ∧ Aside0 (kq ≤ k2) ∧ Aside0 (w'.heap[gb125]? = some (.cells #[.string a0_0, (.slice A0_1 l0_1.length c0_1), .string a0_2, .string a0_3] 40 (0, 0))) ∧ Aside0 (Below w.heap.size w w'))
       case atStart => exact ⟨(0), sd_, H', ⟨Nat.le_refl _⟩, ⟨by (with_reducible repeat (first | refine blk_drewN ?_ _ | refine blk_drew ?_ | refine blk_alloc ?_ _)); exact BK125.out⟩, ⟨by repeat (first | (with_reducible first | exact HB.out | apply below_alloc | apply pw_below_drewN | apply below_drew1 | refine below_set ?_ GE125.out) | exact HB.out)⟩⟩
       case round =>
        clear H'
        try clear c1
        try clear p1
        try clear q1
        try clear hx1
        try clear p2
        try clear c4
        try clear c5
        try clear c6
        try clear c6b0
        try clear c6b1
        try clear p6
        try clear c10
        try clear c11
        try clear c11b0
        try clear c12
        try clear c12b0
        try clear p13
        try clear q13
        try clear hx13
        try clear c14
        try clear c14b0
        try clear p16
        try clear q16
        try clear hx16
        try clear c17
        try clear c17b0
        try clear hcz15_0
        try clear hcz15_1
        try clear hcz15_2
        try clear hcz15_3
        try clear hcz18_0
        try clear hcz18_1
        try clear hcz18_2
        try clear hcz18_3
        try clear hcz19_0
        try clear hcz19_1
        try clear hcz19_2
        try clear hcz19_3
        try clear hcz20_0
        try clear hcz20_1
        try clear hcz20_2
        try clear hcz20_3
        try clear hcz7_0
        try clear hcz7_1
        try clear hcz7_2
        try clear hcz7_3
        try clear hcz8_0
        try clear hcz8_1
        try clear hcz8_2
        try clear hcz8_3
        try clear hcz9_0
        try clear hcz9_1
        try clear hcz9_2
        try clear hcz9_3
        try clear hfz15_0
        try clear hfz15_1
        try clear hfz15_2
        try clear hfz15_3
        try clear hfz18_0
        try clear hfz18_1
        try clear hfz18_2
        try clear hfz18_3
        try clear hfz19_0
        try clear hfz19_1
        try clear hfz19_2
        try clear hfz19_3
        try clear hfz20_0
        try clear hfz20_1
        try clear hfz20_2
        try clear hfz20_3
        try clear hfz7_0
        try clear hfz7_1
        try clear hfz7_2
        try clear hfz7_3
        try clear hfz8_0
        try clear hfz8_1
        try clear hfz8_2
        try clear hfz8_3
        try clear hfz9_0
        try clear hfz9_1
        try clear hfz9_2
        try clear hfz9_3
        try clear p13
        try clear p16
        try clear p2
        try clear q13
        try clear q16
        obtain ⟨x4_3, rfl, HA, HK3, BK125, HB⟩ := hrel
        cases gk with
        | zero => exact absurd HA.out (by simp [r04_RightChange.l1])
        | succ k3 =>
         have H := HA.out
         clear HA
         simp only [r04_RightChange.l1] at H
         by_cases c21 : x4_3 < (l0_1.length : Int)
         ·
          rw [if_pos c21] at H
          have c21b0 : decide (x4_3 < (l0_1.length : Int)) = true := decide_eq_true c21
          clear c21
          by_cases c22 : 0 ≤ x4_3
          ·
           rw [if_pos c22] at H
           have c22b0 : decide (0 ≤ x4_3) = true := decide_eq_true c22
           clear c22
           replace H := Option.bind_eq_some_iff.mp H
           obtain ⟨t128, A230, H⟩ := H
           replace H : (if t128 = true then (r04_RightChange.l2 k3 x4_3 0 a0_0 l0_1 a0_2 a0_3) else (some false)) = some r := H
           have A23 := Aside0.mk A230
           clear A230
           by_cases c24 : t128 = true
           ·
            subst c24
            have H1 : (r04_RightChange.l2 k3 x4_3 0 a0_0 l0_1 a0_2 a0_3) = some r := by rw [if_pos rfl] at H; exact H
            clear H
            have H := H1
            clear H1
            have H' := Aside0.mk H
            clear H
            have hcz25_0 : wr.cell? ⟨gb125, 0, none⟩ = some (.string a0_0) := (blk_cell BK125.out 0).trans rfl
            have hcz25_1 : wr.cell? ⟨gb125, 1, none⟩ = some (.slice A0_1 l0_1.length c0_1) := (blk_cell BK125.out 1).trans rfl
            have hcz25_2 : wr.cell? ⟨gb125, 2, none⟩ = some (.string a0_2) := (blk_cell BK125.out 2).trans rfl
            have hcz25_3 : wr.cell? ⟨gb125, 3, none⟩ = some (.string a0_3) := (blk_cell BK125.out 3).trans rfl
            have hfz25_0 := blk_frozen BK125.out 0
            have hfz25_1 := blk_frozen BK125.out 1
            have hfz25_2 := blk_frozen BK125.out 2
            have hfz25_3 := blk_frozen BK125.out 3
            have p127 : 0 ≤ (x4_3 : Int) := oda_
            have q127 : x4_3 < (l0_1.length : Int) := oda_
            obtain ⟨ad127, e127, hx127_0⟩ := Kd.at_string HR0_1.out x4_3 p127 q127
            cases e127
            replace hx127_0 := (HB.out.cell (World.block_lt_of_cell? w _ hx127_0)).trans hx127_0
            replace p127 := eq_true p127
            replace q127 := eq_true q127
            go_wp2_with (first | (go_at_call 34; (with_reducible refine (r02_Named.calls k3 (rdOf ByteArray.empty l0_1 x4_3) true _ A23.out).mono ?_); rintro e w' ⟨rfl, ⟨nd, rfl⟩⟩; (try first | exact ⟨rfl, _, World.drewN_drewN _ _ _⟩ | exact ⟨rfl, _, Eq.trans (World.drewN_drewN _ _ _) (congrArg (World.drewN _) (Nat.add_assoc _ _ _))⟩)))
            repeat (go_quiet (first | (go_at_call 34; (with_reducible refine (r02_Named.calls k3 (rdOf ByteArray.empty l0_1 x4_3) true _ A23.out).mono ?_); rintro e w' ⟨rfl, ⟨nd, rfl⟩⟩; (try first | exact ⟨rfl, _, World.drewN_drewN _ _ _⟩ | exact ⟨rfl, _, Eq.trans (World.drewN_drewN _ _ _) (congrArg (World.drewN _) (Nat.add_assoc _ _ _))⟩))); try go_wp2_with (first | (go_at_call 34; (with_reducible refine (r02_Named.calls k3 (rdOf ByteArray.empty l0_1 x4_3) true _ A23.out).mono ?_); rintro e w' ⟨rfl, ⟨nd, rfl⟩⟩; (try first | exact ⟨rfl, _, World.drewN_drewN _ _ _⟩ | exact ⟨rfl, _, Eq.trans (World.drewN_drewN _ _ _) (congrArg (World.drewN _) (Nat.add_assoc _ _ _))⟩))))
            go_loopg [5] k3 (fun kq v5 w' => ∃ (x5_4 : Int), v5 = .int .i64 x5_4 ∧ Aside0 (r04_RightChange.l2 kq x4_3 x5_4 a0_0 l0_1 a0_2 a0_3 = some r) ∧ Aside0 (kq ≤ k3) ∧ Aside0 (w'.heap[gb125]? = some (.cells #[.string a0_0, (.slice (some ad127) l0_1.length c0_1), .string a0_2, .string a0_3] 40 (0, 0))) ∧ Aside0 (Below w.heap.size w w'))
            case atStart => exact ⟨(0), sd_, H', ⟨Nat.le_refl _⟩, ⟨by (with_reducible repeat (first | refine blk_drewN ?_ _ | refine blk_drew ?_ | refine blk_alloc ?_ _)); exact BK125.out⟩, ⟨by repeat (first | (with_reducible first | exact HB.out | apply below_alloc | apply pw_below_drewN | apply below_drew1 | refine below_set ?_ GE125.out) | exact HB.out)⟩⟩
            case round =>
             clear H'
             try clear c1
             try clear p1
             try clear q1
             try clear hx1
             try clear c2
             try clear p2
             try clear c4
             try clear c5
             try clear c6
             try clear c6b0
             try clear c6b1
             try clear p6
             try clear c10
             try clear c11
             try clear c11b0
             try clear c12
             try clear c12b0
             try clear p12
             try clear q12
             try clear hx12
             try clear p13
             try clear q13
             try clear hx13
             try clear c14
             try clear c14b0
             try clear p16
             try clear q16
             try clear hx16
             try clear c17
             try clear c17b0
             try clear c21
             try clear c21b0
             try clear c22
             try clear c22b0
             try clear c24
             try clear hcz15_0
             try clear hcz15_1
             try clear hcz15_2
             try clear hcz15_3
             try clear hcz18_0
             try clear hcz18_1
             try clear hcz18_2
             try clear hcz18_3
             try clear hcz19_0
             try clear hcz19_1
             try clear hcz19_2
             try clear hcz19_3
             try clear hcz20_0
             try clear hcz20_1
             try clear hcz20_2
             try clear hcz20_3
             try clear hcz25_0
             try clear hcz25_1
             try clear hcz25_2
             try clear hcz25_3
             try clear hcz7_0
             try clear hcz7_1
             try clear hcz7_2
             try clear hcz7_3
             try clear hcz8_0
             try clear hcz8_1
             try clear hcz8_2
             try clear hcz8_3
             try clear hcz9_0
             try clear hcz9_1
             try clear hcz9_2
             try clear hcz9_3
             try clear hfz15_0
             try clear hfz15_1
             try clear hfz15_2
             try clear hfz15_3
             try clear hfz18_0
             try clear hfz18_1
             try clear hfz18_2
             try clear hfz18_3
             try clear hfz19_0
             try clear hfz19_1
             try clear hfz19_2
             try clear hfz19_3
             try clear hfz20_0
             try clear hfz20_1
             try clear hfz20_2
             try clear hfz20_3
             try clear hfz25_0
             try clear hfz25_1
             try clear hfz25_2
             try clear hfz25_3
             try clear hfz7_0
             try clear hfz7_1
             try clear hfz7_2
             try clear hfz7_3
             try clear hfz8_0
             try clear hfz8_1
             try clear hfz8_2
             try clear hfz8_3
             try clear hfz9_0
             try clear hfz9_1
             try clear hfz9_2
             try clear hfz9_3
             try clear hx127_0
             try clear p1
             try clear p127
             try clear p13
             try clear p16
             try clear p2
             try clear p6
             try clear q1
             try clear q127
             try clear q13
             try clear q16
             obtain ⟨x5_4, rfl, HA, HK4, BK125, HB⟩ := hrel
             cases gk with
             | zero => exact absurd HA.out (by simp [r04_RightChange.l2])
             | succ k4 =>
              have H := HA.out
              clear HA
              simp only [r04_RightChange.l2] at H
              by_cases c26 : x5_4 < x4_3
              ·
               rw [if_pos c26] at H
               have c26b0 : decide (x5_4 < x4_3) = true := decide_eq_true c26
               clear c26
               by_cases c27 : 0 ≤ x5_4
               ·
                rw [if_pos c27] at H
                have c27b0 : decide (0 ≤ x5_4) = true := decide_eq_true c27
                clear c27
                by_cases c28 : x5_4 < (l0_1.length : Int)
                ·
                 rw [if_pos c28] at H
                 have c28b0 : decide (x5_4 < (l0_1.length : Int)) = true := decide_eq_true c28
                 clear c28
                 by_cases c29 : 0 ≤ x4_3
                 ·
                  rw [if_pos c29] at H
                  have c29b0 : decide (0 ≤ x4_3) = true := decide_eq_true c29
                  clear c29
                  by_cases c30 : x4_3 < (l0_1.length : Int)
                  ·
                   rw [if_pos c30] at H
                   have c30b0 : decide (x4_3 < (l0_1.length : Int)) = true := decide_eq_true c30
                   clear c30
                   by_cases c31 : (rdOf ByteArray.empty l0_1 x5_4).toList = (rdOf ByteArray.empty l0_1 x4_3).toList
                   ·
                    rw [if_pos c31] at H
                    have c31b0 : ((rdOf ByteArray.empty l0_1 x5_4).toList == (rdOf ByteArray.empty l0_1 x4_3).toList) = true := beq_iff_eq.mpr c31
                    have c31b1 : ((rdOf ByteArray.empty l0_1 x5_4).toList != (rdOf ByteArray.empty l0_1 x4_3).toList) = false := bne_eq_false_iff_eq.mpr c31
                    clear c31
                    obtain rfl := Option.some.inj H
                    have hcz32_0 : wr.cell? ⟨gb125, 0, none⟩ = some (.string a0_0) := (blk_cell BK125.out 0).trans rfl
                    have hcz32_1 : wr.cell? ⟨gb125, 1, none⟩ = some (.slice (some ad127) l0_1.length c0_1) := (blk_cell BK125.out 1).trans rfl
                    have hcz32_2 : wr.cell? ⟨gb125, 2, none⟩ = some (.string a0_2) := (blk_cell BK125.out 2).trans rfl
                    have hcz32_3 : wr.cell? ⟨gb125, 3, none⟩ = some (.string a0_3) := (blk_cell BK125.out 3).trans rfl
                    have hfz32_0 := blk_frozen BK125.out 0
                    have hfz32_1 := blk_frozen BK125.out 1
                    have hfz32_2 := blk_frozen BK125.out 2
                    have hfz32_3 := blk_frozen BK125.out 3
                    have p129 : 0 ≤ (x5_4 : Int) := oda_
                    have q129 : x5_4 < (l0_1.length : Int) := oda_
                    obtain ⟨ad129, e129, hx129_0⟩ := Kd.at_string HR0_1.out x5_4 p129 q129
                    obtain rfl : ad127 = ad129 := (by injection e129)
                    replace hx129_0 := (HB.out.cell (World.block_lt_of_cell? w _ hx129_0)).trans hx129_0
                    replace p129 := eq_true p129
                    replace q129 := eq_true q129
                    have p130 : 0 ≤ (x4_3 : Int) := oda_
                    have q130 : x4_3 < (l0_1.length : Int) := oda_
                    obtain ⟨ad130, e130, hx130_0⟩ := Kd.at_string HR0_1.out x4_3 p130 q130
                    obtain rfl : ad127 = ad130 := (by injection e130)
                    replace hx130_0 := (HB.out.cell (World.block_lt_of_cell? w _ hx130_0)).trans hx130_0
                    replace p130 := eq_true p130
                    replace q130 := eq_true q130
                    go_wp2
                    repeat (go_quiet (fail); try go_wp2)
                    go_ret
                    exact ⟨er_, by repeat (first | (with_reducible first | exact HB.out | apply below_alloc | apply pw_below_drewN | apply below_drew1 | refine below_set ?_ GE125.out) | exact HB.out)⟩
                   ·
                    rw [if_neg c31] at H
                    have c31b0 : ((rdOf ByteArray.empty l0_1 x5_4).toList == (rdOf ByteArray.empty l0_1 x4_3).toList) = false := beq_eq_false_iff_ne.mpr c31
                    have c31b1 : ((rdOf ByteArray.empty l0_1 x5_4).toList != (rdOf ByteArray.empty l0_1 x4_3).toList) = true := bne_iff_ne.mpr c31
                    have H' := Aside0.mk H
                    clear H
                    have hcz33_0 : wr.cell? ⟨gb125, 0, none⟩ = some (.string a0_0) := (blk_cell BK125.out 0).trans rfl
                    have hcz33_1 : wr.cell? ⟨gb125, 1, none⟩ = some (.slice (some ad127) l0_1.length c0_1) := (blk_cell BK125.out 1).trans rfl
                    have hcz33_2 : wr.cell? ⟨gb125, 2, none⟩ = some (.string a0_2) := (blk_cell BK125.out 2).trans rfl
                    have hcz33_3 : wr.cell? ⟨gb125, 3, none⟩ = some (.string a0_3) := (blk_cell BK125.out 3).trans rfl
                    have hfz33_0 := blk_frozen BK125.out 0
                    have hfz33_1 := blk_frozen BK125.out 1
                    have hfz33_2 := blk_frozen BK125.out 2
                    have hfz33_3 := blk_frozen BK125.out 3
                    have p129 : 0 ≤ (x5_4 : Int) := oda_
                    have q129 : x5_4 < (l0_1.length : Int) := oda_
                    obtain ⟨ad129, e129, hx129_0⟩ := Kd.at_string HR0_1.out x5_4 p129 q129
                    obtain rfl : ad127 = ad129 := (by injection e129)
                    replace hx129_0 := (HB.out.cell (World.block_lt_of_cell? w _ hx129_0)).trans hx129_0
                    replace p129 := eq_true p129
                    replace q129 := eq_true q129
                    have p130 : 0 ≤ (x4_3 : Int) := oda_
                    have q130 : x4_3 < (l0_1.length : Int) := oda_
                    obtain ⟨ad130, e130, hx130_0⟩ := Kd.at_string HR0_1.out x4_3 p130 q130
                    obtain rfl : ad127 = ad130 := (by injection e130)
                    replace hx130_0 := (HB.out.cell (World.block_lt_of_cell? w _ hx130_0)).trans hx130_0
                    replace p130 := eq_true p130
                    replace q130 := eq_true q130
                    go_wp2
                    repeat (go_quiet (fail); try go_wp2)
                    go_roundg k4
                    case measure => have := HJ1.out; have := HK2.out; have := HK3.out; have := HK4.out; omega
                    case rel => exact ⟨(wrap64 (x5_4 + 1)), sd_, H', ⟨by have := HJ1.out; have := HK2.out; have := HK3.out; have := HK4.out; omega⟩, ⟨by (with_reducible repeat (first | refine blk_drewN ?_ _ | refine blk_drew ?_ | refine blk_alloc ?_ _)); exact BK125.out⟩, ⟨by repeat (first | (with_reducible first | exact HB.out | apply below_alloc | apply pw_below_drewN | apply below_drew1 | refine below_set ?_ GE125.out) | exact HB.out)⟩⟩
                  ·
                   rw [if_neg c30] at H
                   exact absurd H (by simp)
                 ·
                  rw [if_neg c29] at H
                  exact absurd H (by simp)
                ·
                 rw [if_neg c28] at H
                 exact absurd H (by simp)
               ·
                rw [if_neg c27] at H
                exact absurd H (by simp)
              ·
               rw [if_neg c26] at H
               have c26b0 : decide (x5_4 < x4_3) = false := decide_eq_false c26
               clear c26
               have H' := Aside0.mk H
               clear H
               go_wp2
               repeat (go_quiet (fail); try go_wp2)
               go_roundg k4
               case measure => have := HJ1.out; have := HK2.out; have := HK3.out; have := HK4.out; omega
               case rel => exact ⟨(wrap64 (x4_3 + 1)), sd_, H', ⟨by have := HJ1.out; have := HK2.out; have := HK3.out; have := HK4.out; omega⟩, ⟨by (with_reducible repeat (first | refine blk_drewN ?_ _ | refine blk_drew ?_ | refine blk_alloc ?_ _)); exact BK125.out⟩, ⟨by repeat (first | (with_reducible first | exact HB.out | apply below_alloc | apply pw_below_drewN | apply below_drew1 | refine below_set ?_ GE125.out) | exact HB.out)⟩⟩
           ·
            replace c24 := Bool.eq_false_iff.mpr c24
            subst c24
            have H1 : (some false) = some r := by rw [if_neg (show ¬ (false = true) by decide)] at H; exact H
            clear H
            have H := H1
            clear H1
            obtain rfl := Option.some.inj H
            have hcz34_0 : wr.cell? ⟨gb125, 0, none⟩ = some (.string a0_0) := (blk_cell BK125.out 0).trans rfl
            have hcz34_1 : wr.cell? ⟨gb125, 1, none⟩ = some (.slice A0_1 l0_1.length c0_1) := (blk_cell BK125.out 1).trans rfl
            have hcz34_2 : wr.cell? ⟨gb125, 2, none⟩ = some (.string a0_2) := (blk_cell BK125.out 2).trans rfl
            have hcz34_3 : wr.cell? ⟨gb125, 3, none⟩ = some (.string a0_3) := (blk_cell BK125.out 3).trans rfl
            have hfz34_0 := blk_frozen BK125.out 0
            have hfz34_1 := blk_frozen BK125.out 1
            have hfz34_2 := blk_frozen BK125.out 2
            have hfz34_3 := blk_frozen BK125.out 3
            have p127 : 0 ≤ (x4_3 : Int) := oda_
            have q127 : x4_3 < (l0_1.length : Int) := oda_
            obtain ⟨ad127, e127, hx127_0⟩ := Kd.at_string HR0_1.out x4_3 p127 q127
            cases e127
            replace hx127_0 := (HB.out.cell (World.block_lt_of_cell? w _ hx127_0)).trans hx127_0
            replace p127 := eq_true p127
            replace q127 := eq_true q127
            go_wp2_with (first | (go_at_call 34; (with_reducible refine (r02_Named.calls k3 (rdOf ByteArray.empty l0_1 x4_3) false _ A23.out).mono ?_); rintro e w' ⟨rfl, ⟨nd, rfl⟩⟩; (try first | exact ⟨rfl, _, World.drewN_drewN _ _ _⟩ | exact ⟨rfl, _, Eq.trans (World.drewN_drewN _ _ _) (congrArg (World.drewN _) (Nat.add_assoc _ _ _))⟩)))
            repeat (go_quiet (first | (go_at_call 34; (with_reducible refine (r02_Named.calls k3 (rdOf ByteArray.empty l0_1 x4_3) false _ A23.out).mono ?_); rintro e w' ⟨rfl, ⟨nd, rfl⟩⟩; (try first | exact ⟨rfl, _, World.drewN_drewN _ _ _⟩ | exact ⟨rfl, _, Eq.trans (World.drewN_drewN _ _ _) (congrArg (World.drewN _) (Nat.add_assoc _ _ _))⟩))); try go_wp2_with (first | (go_at_call 34; (with_reducible refine (r02_Named.calls k3 (rdOf ByteArray.empty l0_1 x4_3) false _ A23.out).mono ?_); rintro e w' ⟨rfl, ⟨nd, rfl⟩⟩; (try first | exact ⟨rfl, _, World.drewN_drewN _ _ _⟩ | exact ⟨rfl, _, Eq.trans (World.drewN_drewN _ _ _) (congrArg (World.drewN _) (Nat.add_assoc _ _ _))⟩))))
            go_ret
            exact ⟨er_, by repeat (first | (with_reducible first | exact HB.out | apply below_alloc | apply pw_below_drewN | apply below_drew1 | refine below_set ?_ GE125.out) | exact HB.out)⟩
          ·
           rw [if_neg c22] at H
           exact absurd H (by simp)
         ·
          rw [if_neg c21] at H
          have c21b0 : decide (x4_3 < (l0_1.length : Int)) = false := decide_eq_false c21
          clear c21
          obtain rfl := Option.some.inj H
          have hcz35_0 : wr.cell? ⟨gb125, 0, none⟩ = some (.string a0_0) := (blk_cell BK125.out 0).trans rfl
          have hcz35_1 : wr.cell? ⟨gb125, 1, none⟩ = some (.slice A0_1 l0_1.length c0_1) := (blk_cell BK125.out 1).trans rfl
          have hcz35_2 : wr.cell? ⟨gb125, 2, none⟩ = some (.string a0_2) := (blk_cell BK125.out 2).trans rfl
          have hcz35_3 : wr.cell? ⟨gb125, 3, none⟩ = some (.string a0_3) := (blk_cell BK125.out 3).trans rfl
          have hfz35_0 := blk_frozen BK125.out 0
          have hfz35_1 := blk_frozen BK125.out 1
          have hfz35_2 := blk_frozen BK125.out 2
          have hfz35_3 := blk_frozen BK125.out 3
          go_wp2
          repeat (go_quiet (fail); try go_wp2)
          go_ret
          exact ⟨er_, by repeat (first | (with_reducible first | exact HB.out | apply below_alloc | apply pw_below_drewN | apply below_drew1 | refine below_set ?_ GE125.out) | exact HB.out)⟩
end Go.Proofs.YtefefhhaopjccaaGreatDoor.PObDoc

namespace Go.Proofs.YtefefhhaopjccaaGreatDoor.PObDoc
open Go.Proofs.YtefefhhaopjccaaGreatDoor.PObBase
open Go.RowKit Go.Proofs.YtefefhhaopjccaaGreatDoorW.PrintWords Go.Proofs.YtefefhhaopjccaaGreatDoorW.PrintLast Go.Proofs.YtefefhhaopjccaaGreatDoorW.PrintMore
attribute [local go_sem] StrSem.leq_str StrSem.geq_str StrSem.gtr_str max2_int min2_int max_two min_two max_three min_three max_four min_four   -- for this text's walks alone
set_option linter.unusedVariables false
set_option linter.unusedSimpArgs false
noncomputable def r04_PutChange.l0 : Nat → ByteArray → Int → ByteArray → List ByteArray → ByteArray → ByteArray → Option (ByteArray × Bool)
 | 0, _, _, _, _, _, _ => none
 | k + 1, x4, x5, x132000, x132001, x132002, x132003 => if x5 < (x132001.length : Int) then (if x4.size + 7 ≤ 9223372036854775807 then (if 0 ≤ x5 then (if (x4 ++ (⟨#[112, 97, 114, 101, 110, 116, 32]⟩ : ByteArray)).size + (rdOf ByteArray.empty x132001 x5).size ≤ 9223372036854775807 then (if ((x4 ++ (⟨#[112, 97, 114, 101, 110, 116, 32]⟩ : ByteArray)) ++ (rdOf ByteArray.empty x132001 x5)).size + 1 ≤ 9223372036854775807 then (r04_PutChange.l0 k (((x4 ++ (⟨#[112, 97, 114, 101, 110, 116, 32]⟩ : ByteArray)) ++ (rdOf ByteArray.empty x132001 x5)) ++ (⟨#[10]⟩ : ByteArray)) (wrap64 (x5 + 1)) x132000 x132001 x132002 x132003) else (none)) else (none)) else (none)) else (none)) else (if x4.size + 4 ≤ 9223372036854775807 then (if (x4 ++ (⟨#[119, 104, 111, 32]⟩ : ByteArray)).size + x132002.size ≤ 9223372036854775807 then (if ((x4 ++ (⟨#[119, 104, 111, 32]⟩ : ByteArray)) ++ x132002).size + 2 ≤ 9223372036854775807 then (if (((x4 ++ (⟨#[119, 104, 111, 32]⟩ : ByteArray)) ++ x132002) ++ (⟨#[10, 10]⟩ : ByteArray)).size + x132003.size ≤ 9223372036854775807 then (some ((((x4 ++ (⟨#[119, 104, 111, 32]⟩ : ByteArray)) ++ x132002) ++ (⟨#[10, 10]⟩ : ByteArray)) ++ x132003, true)) else (none)) else (none)) else (none)) else (none))
noncomputable def r04_PutChange.f (k : Nat) (a0_0 : ByteArray) (l0_1 : List ByteArray) (a0_2 : ByteArray) (a0_3 : ByteArray) : Option (ByteArray × Bool) := (r04_RightChange.f k a0_0 l0_1 a0_2 a0_3).bind fun t132 => (if t132 = true then (if 5 + a0_0.size ≤ 9223372036854775807 then (if ((⟨#[116, 114, 101, 101, 32]⟩ : ByteArray) ++ a0_0).size + 1 ≤ 9223372036854775807 then (r04_PutChange.l0 k (((⟨#[116, 114, 101, 101, 32]⟩ : ByteArray) ++ a0_0) ++ (⟨#[10]⟩ : ByteArray)) 0 a0_0 l0_1 a0_2 a0_3) else (none)) else (none)) else (some ((⟨#[]⟩ : ByteArray), false)))
set_option maxHeartbeats 8000000 in
set_option maxRecDepth 100000 in
theorem r04_PutChange.calls (k : Nat) (a0_0 : ByteArray) (A0_1 : Option Addr) (c0_1 : Nat) (l0_1 : List ByteArray) (a0_2 : ByteArray) (a0_3 : ByteArray) (r1 : ByteArray) (r2 : Bool) (w : World) (hr0_1 : Kd.C Kd.string w A0_1 l0_1.length l0_1) (hc0_1 : l0_1.length ≤ c0_1) (h : r04_PutChange.f k a0_0 l0_1 a0_2 a0_3 = some (r1, r2)) :
  Calls Tryz.prog 26 #[.agg #[.string a0_0, .slice A0_1 l0_1.length c0_1, .string a0_2, .string a0_3]] w fun e w' => e = .returned (.tuple #[.string r1, .bool r2]) ∧ Below w.heap.size w w' := by
 have hu40 := Tryz.underlying40
 have HR0_1 := Aside0.mk hr0_1
 have HC0_1 := Aside0.mk hc0_1
 clear hr0_1 hc0_1
 have HB := Aside0.mk (Below.refl w.heap.size w)
 have H : ((r04_RightChange.f k a0_0 l0_1 a0_2 a0_3).bind fun t132 => (if t132 = true then (if 5 + a0_0.size ≤ 9223372036854775807 then (if ((⟨#[116, 114, 101, 101, 32]⟩ : ByteArray) ++ a0_0).size + 1 ≤ 9223372036854775807 then (r04_PutChange.l0 k (((⟨#[116, 114, 101, 101, 32]⟩ : ByteArray) ++ a0_0) ++ (⟨#[10]⟩ : ByteArray)) 0 a0_0 l0_1 a0_2 a0_3) else (none)) else (none)) else (some ((⟨#[]⟩ : ByteArray), false)))) = some (r1, r2) := h
 clear h
 replace H := Option.bind_eq_some_iff.mp H
 obtain ⟨t132, A20, H⟩ := H
 replace H : (if t132 = true then (if 5 + a0_0.size ≤ 9223372036854775807 then (if ((⟨#[116, 114, 101, 101, 32]⟩ : ByteArray) ++ a0_0).size + 1 ≤ 9223372036854775807 then (r04_PutChange.l0 k (((⟨#[116, 114, 101, 101, 32]⟩ : ByteArray) ++ a0_0) ++ (⟨#[10]⟩ : ByteArray)) 0 a0_0 l0_1 a0_2 a0_3) else (none)) else (none)) else (some ((⟨#[]⟩ : ByteArray), false))) = some (r1, r2) := H
 have A2 := Aside0.mk A20
 clear A20
 by_cases c3 : t132 = true
 ·
  subst c3
  have H1 : (if 5 + a0_0.size ≤ 9223372036854775807 then (if ((⟨#[116, 114, 101, 101, 32]⟩ : ByteArray) ++ a0_0).size + 1 ≤ 9223372036854775807 then (r04_PutChange.l0 k (((⟨#[116, 114, 101, 101, 32]⟩ : ByteArray) ++ a0_0) ++ (⟨#[10]⟩ : ByteArray)) 0 a0_0 l0_1 a0_2 a0_3) else (none)) else (none)) = some (r1, r2) := by rw [if_pos rfl] at H; exact H
  clear H
  have H := H1
  clear H1
  by_cases c4 : 5 + a0_0.size ≤ 9223372036854775807
  ·
   rw [if_pos c4] at H
   have c4b0 := eq_true c4
   have c4b1 : decide (5 + a0_0.size ≤ 9223372036854775807) = true := decide_eq_true c4
   try have c4b2 : (9223372036854775807 < 5 + a0_0.size) = False := eq_false (Nat.not_lt.2 c4)
   by_cases c5 : ((⟨#[116, 114, 101, 101, 32]⟩ : ByteArray) ++ a0_0).size + 1 ≤ 9223372036854775807
   ·
    rw [if_pos c5] at H
    have c5b0 := eq_true c5
    have c5b1 : decide (((⟨#[116, 114, 101, 101, 32]⟩ : ByteArray) ++ a0_0).size + 1 ≤ 9223372036854775807) = true := decide_eq_true c5
    try have c5b2 : (9223372036854775807 < ((⟨#[116, 114, 101, 101, 32]⟩ : ByteArray) ++ a0_0).size + 1) = False := eq_false (Nat.not_lt.2 c5)
    try have c5z : ¬ (9223372036854775807 < 5 + a0_0.size + 1) := by (have h_ := c5; simp only [ByteArray.size_append] at h_; have e0_ : (⟨#[116, 114, 101, 101, 32]⟩ : ByteArray).size = 5 := rfl; omega)
    have H' := Aside0.mk H
    clear H
    go_enter Tryz.func26, Tryz.ntmps26
    go_wp2_with (first | ((with_reducible refine gate_dst (N := 1) rfl ?_); refine box_event ?hg (N := 1) ?hd (cs := #[.string a0_0, .slice A0_1 l0_1.length c0_1, .string a0_2, .string a0_3]) (t := 40) ?hr ?_; (case hd => rfl); (case hg => rfl); (case hr => first | (go_simp; done) | (go_simp; rfl)); intro gb131 hg w6 hbox hb; have n0_ := Aside0.mk (below_step bw_ hb); have n1_ := Aside0.mk (hbox); have n2_ := Aside0.mk ((by rw [hg]; exact (below_size bw_) : w.heap.size ≤ gb131)); have n3_ := Aside0.mk ((by rw [hg]; exact (below_size bw_) : w.heap.size ≤ gb131)); clear HB; have HB := n0_; have BK131 := n1_; have GW131 := n2_; have GE131 := n3_; clear n0_ n1_ n2_ n3_; clear hb hbox hg; have hcz7_0 : w6.cell? ⟨gb131, 0, none⟩ = some (.string a0_0) := (blk_cell BK131.out 0).trans rfl; have hcz7_1 : w6.cell? ⟨gb131, 1, none⟩ = some (.slice A0_1 l0_1.length c0_1) := (blk_cell BK131.out 1).trans rfl; have hcz7_2 : w6.cell? ⟨gb131, 2, none⟩ = some (.string a0_2) := (blk_cell BK131.out 2).trans rfl; have hcz7_3 : w6.cell? ⟨gb131, 3, none⟩ = some (.string a0_3) := (blk_cell BK131.out 3).trans rfl; have hfz7_0 := blk_frozen BK131.out 0; have hfz7_1 := blk_frozen BK131.out 1; have hfz7_2 := blk_frozen BK131.out 2; have hfz7_3 := blk_frozen BK131.out 3) | ((with_reducible refine gate_callee (f := 49) rfl ?_); refine goesL_ (some 7) rfl rfl Tryz.func49 (by kernel_rfl) rfl #[.agg #[.string a0_0, .slice A0_1 l0_1.length c0_1, .string a0_2, .string a0_3]] rfl la_ ?_; (with_reducible refine (r04_RightChange.calls k a0_0 _ _ l0_1 a0_2 a0_3 true _ ?side1 ?side2 A2.out).mono ?_); (case side1 => repeat (first | exact (Kd.C_below HR0_1.out HB.out) | (with_reducible refine Kd.C_alloc ?_ _) | (with_reducible refine Kd.C_drewN ?_ _) | (with_reducible refine Kd.C_drew ?_))); (case side2 => exact HC0_1.out); rintro e w8 ⟨rfl, hb⟩; refine ⟨_, rfl, ?_⟩; have n0_ := Aside0.mk (blk_below (g := gb131) (o := .cells #[.string a0_0, .slice A0_1 l0_1.length c0_1, .string a0_2, .string a0_3] 40 (0, 0)) (by (with_reducible repeat (first | refine blk_drewN ?_ _ | refine blk_drew ?_ | refine blk_alloc ?_ _)); exact BK131.out) hb); have n1_ := Aside0.mk (below_step (by repeat (first | (with_reducible first | exact HB.out | apply below_alloc | apply pw_below_drewN | apply below_drew1 | refine below_set ?_ GE131.out) | exact HB.out)) hb); clear BK131; clear HB; have BK131 := n0_; have HB := n1_; clear n0_ n1_; (try clear hb); (try clear hb2); (try clear hk); (try clear hi); have hcz9_0 : w8.cell? ⟨gb131, 0, none⟩ = some (.string a0_0) := (blk_cell BK131.out 0).trans rfl; have hcz9_1 : w8.cell? ⟨gb131, 1, none⟩ = some (.slice A0_1 l0_1.length c0_1) := (blk_cell BK131.out 1).trans rfl; have hcz9_2 : w8.cell? ⟨gb131, 2, none⟩ = some (.string a0_2) := (blk_cell BK131.out 2).trans rfl; have hcz9_3 : w8.cell? ⟨gb131, 3, none⟩ = some (.string a0_3) := (blk_cell BK131.out 3).trans rfl; have hfz9_0 := blk_frozen BK131.out 0; have hfz9_1 := blk_frozen BK131.out 1; have hfz9_2 := blk_frozen BK131.out 2; have hfz9_3 := blk_frozen BK131.out 3))
    go_loopg [4, 5] k (fun kq v4 v5 w' => ∃ (x4_1 : ByteArray) (x5_1 : Int), v4 = .string x4_1 ∧ v5 = .int .i64 x5_1 ∧ Aside0 (r04_PutChange.l0 kq x4_1 x5_1 a0_0 l0_1 a0_2 a0_3 = some (r1, r2)) ∧ Aside0 (kq ≤ k) ∧ Aside0 (w'.heap[gb131]? = some (.cells #[.string a0_0, (.slice A0_1 l0_1.length c0_1), .string a0_2, .string a0_3] 40 (0, 0))) ∧ Aside0 (Below w.heap.size w w'))
    case atStart => exact ⟨(((⟨#[116, 114, 101, 101, 32]⟩ : ByteArray) ++ a0_0) ++ (⟨#[10]⟩ : ByteArray)), (0), sd_, sd_, H', ⟨Nat.le_refl _⟩, ⟨by (with_reducible repeat (first | refine blk_drewN ?_ _ | refine blk_drew ?_ | refine blk_alloc ?_ _)); exact BK131.out⟩, ⟨by repeat (first | (with_reducible first | exact HB.out | apply below_alloc | apply pw_below_drewN | apply below_drew1 | refine below_set ?_ GE131.out) | exact HB.out)⟩⟩
    case round =>
     clear H'
     try clear c2
     try clear p2
     try clear c3
     try clear c4
     try clear c4b0
     try clear c4b1
     try clear c4b2
     try clear c5
     try clear c5b0
     try clear c5b1
     try clear c5b2
     try clear hcz7_0
     try clear hcz7_1
     try clear hcz7_2
     try clear hcz7_3
     try clear hcz9_0
     try clear hcz9_1
     try clear hcz9_2
     try clear hcz9_3
     try clear hfz7_0
     try clear hfz7_1
     try clear hfz7_2
     try clear hfz7_3
     try clear hfz9_0
     try clear hfz9_1
     try clear hfz9_2
     try clear hfz9_3
     obtain ⟨x4_1, x5_1, rfl, rfl, HA, HK1, BK131, HB⟩ := hrel
     cases gk with
     | zero => exact absurd HA.out (by simp [r04_PutChange.l0])
     | succ k1 =>
      have H := HA.out
      clear HA
      simp only [r04_PutChange.l0] at H
      by_cases c10 : x5_1 < (l0_1.length : Int)
      ·
       rw [if_pos c10] at H
       have c10b0 : decide (x5_1 < (l0_1.length : Int)) = true := decide_eq_true c10
       clear c10
       by_cases c11 : x4_1.size + 7 ≤ 9223372036854775807
       ·
        rw [if_pos c11] at H
        have c11b0 := eq_true c11
        have c11b1 : decide (x4_1.size + 7 ≤ 9223372036854775807) = true := decide_eq_true c11
        try have c11b2 : (9223372036854775807 < x4_1.size + 7) = False := eq_false (Nat.not_lt.2 c11)
        by_cases c12 : 0 ≤ x5_1
        ·
         rw [if_pos c12] at H
         have c12b0 : decide (0 ≤ x5_1) = true := decide_eq_true c12
         clear c12
         by_cases c13 : (x4_1 ++ (⟨#[112, 97, 114, 101, 110, 116, 32]⟩ : ByteArray)).size + (rdOf ByteArray.empty l0_1 x5_1).size ≤ 9223372036854775807
         ·
          rw [if_pos c13] at H
          have c13b0 := eq_true c13
          have c13b1 : decide ((x4_1 ++ (⟨#[112, 97, 114, 101, 110, 116, 32]⟩ : ByteArray)).size + (rdOf ByteArray.empty l0_1 x5_1).size ≤ 9223372036854775807) = true := decide_eq_true c13
          try have c13b2 : (9223372036854775807 < (x4_1 ++ (⟨#[112, 97, 114, 101, 110, 116, 32]⟩ : ByteArray)).size + (rdOf ByteArray.empty l0_1 x5_1).size) = False := eq_false (Nat.not_lt.2 c13)
          try have c13z : ¬ (9223372036854775807 < x4_1.size + 7 + (rdOf ByteArray.empty l0_1 x5_1).size) := by (have h_ := c13; simp only [ByteArray.size_append] at h_; have e0_ : (⟨#[112, 97, 114, 101, 110, 116, 32]⟩ : ByteArray).size = 7 := rfl; omega)
          by_cases c14 : ((x4_1 ++ (⟨#[112, 97, 114, 101, 110, 116, 32]⟩ : ByteArray)) ++ (rdOf ByteArray.empty l0_1 x5_1)).size + 1 ≤ 9223372036854775807
          ·
           rw [if_pos c14] at H
           have c14b0 := eq_true c14
           have c14b1 : decide (((x4_1 ++ (⟨#[112, 97, 114, 101, 110, 116, 32]⟩ : ByteArray)) ++ (rdOf ByteArray.empty l0_1 x5_1)).size + 1 ≤ 9223372036854775807) = true := decide_eq_true c14
           try have c14b2 : (9223372036854775807 < ((x4_1 ++ (⟨#[112, 97, 114, 101, 110, 116, 32]⟩ : ByteArray)) ++ (rdOf ByteArray.empty l0_1 x5_1)).size + 1) = False := eq_false (Nat.not_lt.2 c14)
           try have c14z : ¬ (9223372036854775807 < x4_1.size + 7 + (rdOf ByteArray.empty l0_1 x5_1).size + 1) := by (have h_ := c14; simp only [ByteArray.size_append] at h_; have e0_ : (⟨#[112, 97, 114, 101, 110, 116, 32]⟩ : ByteArray).size = 7 := rfl; omega)
           have H' := Aside0.mk H
           clear H
           have hcz15_0 : wr.cell? ⟨gb131, 0, none⟩ = some (.string a0_0) := (blk_cell BK131.out 0).trans rfl
           have hcz15_1 : wr.cell? ⟨gb131, 1, none⟩ = some (.slice A0_1 l0_1.length c0_1) := (blk_cell BK131.out 1).trans rfl
           have hcz15_2 : wr.cell? ⟨gb131, 2, none⟩ = some (.string a0_2) := (blk_cell BK131.out 2).trans rfl
           have hcz15_3 : wr.cell? ⟨gb131, 3, none⟩ = some (.string a0_3) := (blk_cell BK131.out 3).trans rfl
           have hfz15_0 := blk_frozen BK131.out 0
           have hfz15_1 := blk_frozen BK131.out 1
           have hfz15_2 := blk_frozen BK131.out 2
           have hfz15_3 := blk_frozen BK131.out 3
           have p133 : 0 ≤ (x5_1 : Int) := oda_
           have q133 : x5_1 < (l0_1.length : Int) := oda_
           obtain ⟨ad133, e133, hx133_0⟩ := Kd.at_string HR0_1.out x5_1 p133 q133
           cases e133
           replace hx133_0 := (HB.out.cell (World.block_lt_of_cell? w _ hx133_0)).trans hx133_0
           replace p133 := eq_true p133
           replace q133 := eq_true q133
           go_wp2
           go_roundg k1
           case measure => have := HK1.out; omega
           case rel => exact ⟨(((x4_1 ++ (⟨#[112, 97, 114, 101, 110, 116, 32]⟩ : ByteArray)) ++ (rdOf ByteArray.empty l0_1 x5_1)) ++ (⟨#[10]⟩ : ByteArray)), (wrap64 (x5_1 + 1)), sd_, sd_, H', ⟨by have := HK1.out; omega⟩, ⟨by (with_reducible repeat (first | refine blk_drewN ?_ _ | refine blk_drew ?_ | refine blk_alloc ?_ _)); exact BK131.out⟩, ⟨by repeat (first | (with_reducible first | exact HB.out | apply below_alloc | apply pw_below_drewN | apply below_drew1 | refine below_set ?_ GE131.out) | exact HB.out)⟩⟩
          ·
           rw [if_neg c14] at H
           exact absurd H (by simp)
         ·
          rw [if_neg c13] at H
          exact absurd H (by simp)
        ·
         rw [if_neg c12] at H
         exact absurd H (by simp)
       ·
        rw [if_neg c11] at H
        exact absurd H (by simp)
      ·
       rw [if_neg c10] at H
       have c10b0 : decide (x5_1 < (l0_1.length : Int)) = false := decide_eq_false c10
       clear c10
       by_cases c16 : x4_1.size + 4 ≤ 9223372036854775807
       ·
        rw [if_pos c16] at H
        have c16b0 := eq_true c16
        have c16b1 : decide (x4_1.size + 4 ≤ 9223372036854775807) = true := decide_eq_true c16
        try have c16b2 : (9223372036854775807 < x4_1.size + 4) = False := eq_false (Nat.not_lt.2 c16)
        by_cases c17 : (x4_1 ++ (⟨#[119, 104, 111, 32]⟩ : ByteArray)).size + a0_2.size ≤ 9223372036854775807
        ·
         rw [if_pos c17] at H
         have c17b0 := eq_true c17
         have c17b1 : decide ((x4_1 ++ (⟨#[119, 104, 111, 32]⟩ : ByteArray)).size + a0_2.size ≤ 9223372036854775807) = true := decide_eq_true c17
         try have c17b2 : (9223372036854775807 < (x4_1 ++ (⟨#[119, 104, 111, 32]⟩ : ByteArray)).size + a0_2.size) = False := eq_false (Nat.not_lt.2 c17)
         try have c17z : ¬ (9223372036854775807 < x4_1.size + 4 + a0_2.size) := by (have h_ := c17; simp only [ByteArray.size_append] at h_; have e0_ : (⟨#[119, 104, 111, 32]⟩ : ByteArray).size = 4 := rfl; omega)
         by_cases c18 : ((x4_1 ++ (⟨#[119, 104, 111, 32]⟩ : ByteArray)) ++ a0_2).size + 2 ≤ 9223372036854775807
         ·
          rw [if_pos c18] at H
          have c18b0 := eq_true c18
          have c18b1 : decide (((x4_1 ++ (⟨#[119, 104, 111, 32]⟩ : ByteArray)) ++ a0_2).size + 2 ≤ 9223372036854775807) = true := decide_eq_true c18
          try have c18b2 : (9223372036854775807 < ((x4_1 ++ (⟨#[119, 104, 111, 32]⟩ : ByteArray)) ++ a0_2).size + 2) = False := eq_false (Nat.not_lt.2 c18)
          try have c18z : ¬ (9223372036854775807 < x4_1.size + 4 + a0_2.size + 2) := by (have h_ := c18; simp only [ByteArray.size_append] at h_; have e0_ : (⟨#[119, 104, 111, 32]⟩ : ByteArray).size = 4 := rfl; omega)
          by_cases c19 : (((x4_1 ++ (⟨#[119, 104, 111, 32]⟩ : ByteArray)) ++ a0_2) ++ (⟨#[10, 10]⟩ : ByteArray)).size + a0_3.size ≤ 9223372036854775807
          ·
           rw [if_pos c19] at H
           have c19b0 := eq_true c19
           have c19b1 : decide ((((x4_1 ++ (⟨#[119, 104, 111, 32]⟩ : ByteArray)) ++ a0_2) ++ (⟨#[10, 10]⟩ : ByteArray)).size + a0_3.size ≤ 9223372036854775807) = true := decide_eq_true c19
           try have c19b2 : (9223372036854775807 < (((x4_1 ++ (⟨#[119, 104, 111, 32]⟩ : ByteArray)) ++ a0_2) ++ (⟨#[10, 10]⟩ : ByteArray)).size + a0_3.size) = False := eq_false (Nat.not_lt.2 c19)
           try have c19z : ¬ (9223372036854775807 < x4_1.size + 4 + a0_2.size + 2 + a0_3.size) := by (have h_ := c19; simp only [ByteArray.size_append] at h_; have e0_ : (⟨#[119, 104, 111, 32]⟩ : ByteArray).size = 4 := rfl; have e1_ : (⟨#[10, 10]⟩ : ByteArray).size = 2 := rfl; omega)
           simp only [Option.some.injEq, Prod.mk.injEq] at H
           obtain ⟨rfl, rfl⟩ := H
           have hcz20_0 : wr.cell? ⟨gb131, 0, none⟩ = some (.string a0_0) := (blk_cell BK131.out 0).trans rfl
           have hcz20_1 : wr.cell? ⟨gb131, 1, none⟩ = some (.slice A0_1 l0_1.length c0_1) := (blk_cell BK131.out 1).trans rfl
           have hcz20_2 : wr.cell? ⟨gb131, 2, none⟩ = some (.string a0_2) := (blk_cell BK131.out 2).trans rfl
           have hcz20_3 : wr.cell? ⟨gb131, 3, none⟩ = some (.string a0_3) := (blk_cell BK131.out 3).trans rfl
           have hfz20_0 := blk_frozen BK131.out 0
           have hfz20_1 := blk_frozen BK131.out 1
           have hfz20_2 := blk_frozen BK131.out 2
           have hfz20_3 := blk_frozen BK131.out 3
           go_wp2
           go_ret2
           exact ⟨er_, by repeat (first | (with_reducible first | exact HB.out | apply below_alloc | apply pw_below_drewN | apply below_drew1 | refine below_set ?_ GE131.out) | exact HB.out)⟩
          ·
           rw [if_neg c19] at H
           exact absurd H (by simp)
         ·
          rw [if_neg c18] at H
          exact absurd H (by simp)
        ·
         rw [if_neg c17] at H
         exact absurd H (by simp)
       ·
        rw [if_neg c16] at H
        exact absurd H (by simp)
   ·
    rw [if_neg c5] at H
    exact absurd H (by simp)
  ·
   rw [if_neg c4] at H
   exact absurd H (by simp)
 ·
  replace c3 := Bool.eq_false_iff.mpr c3
  subst c3
  have H1 : (some ((⟨#[]⟩ : ByteArray), false)) = some (r1, r2) := by rw [if_neg (show ¬ (false = true) by decide)] at H; exact H
  clear H
  have H := H1
  clear H1
  simp only [Option.some.injEq, Prod.mk.injEq] at H
  obtain ⟨rfl, rfl⟩ := H
  go_enter Tryz.func26, Tryz.ntmps26
  go_wp2_with (first | ((with_reducible refine gate_dst (N := 1) rfl ?_); refine box_event ?hg (N := 1) ?hd (cs := #[.string a0_0, .slice A0_1 l0_1.length c0_1, .string a0_2, .string a0_3]) (t := 40) ?hr ?_; (case hd => rfl); (case hg => rfl); (case hr => first | (go_simp; done) | (go_simp; rfl)); intro gb131 hg w21 hbox hb; have n0_ := Aside0.mk (below_step bw_ hb); have n1_ := Aside0.mk (hbox); have n2_ := Aside0.mk ((by rw [hg]; exact (below_size bw_) : w.heap.size ≤ gb131)); have n3_ := Aside0.mk ((by rw [hg]; exact (below_size bw_) : w.heap.size ≤ gb131)); clear HB; have HB := n0_; have BK131 := n1_; have GW131 := n2_; have GE131 := n3_; clear n0_ n1_ n2_ n3_; clear hb hbox hg; have hcz22_0 : w21.cell? ⟨gb131, 0, none⟩ = some (.string a0_0) := (blk_cell BK131.out 0).trans rfl; have hcz22_1 : w21.cell? ⟨gb131, 1, none⟩ = some (.slice A0_1 l0_1.length c0_1) := (blk_cell BK131.out 1).trans rfl; have hcz22_2 : w21.cell? ⟨gb131, 2, none⟩ = some (.string a0_2) := (blk_cell BK131.out 2).trans rfl; have hcz22_3 : w21.cell? ⟨gb131, 3, none⟩ = some (.string a0_3) := (blk_cell BK131.out 3).trans rfl; have hfz22_0 := blk_frozen BK131.out 0; have hfz22_1 := blk_frozen BK131.out 1; have hfz22_2 := blk_frozen BK131.out 2; have hfz22_3 := blk_frozen BK131.out 3) | ((with_reducible refine gate_callee (f := 49) rfl ?_); refine goesL_ (some 7) rfl rfl Tryz.func49 (by kernel_rfl) rfl #[.agg #[.string a0_0, .slice A0_1 l0_1.length c0_1, .string a0_2, .string a0_3]] rfl la_ ?_; (with_reducible refine (r04_RightChange.calls k a0_0 _ _ l0_1 a0_2 a0_3 false _ ?side1 ?side2 A2.out).mono ?_); (case side1 => repeat (first | exact (Kd.C_below HR0_1.out HB.out) | (with_reducible refine Kd.C_alloc ?_ _) | (with_reducible refine Kd.C_drewN ?_ _) | (with_reducible refine Kd.C_drew ?_))); (case side2 => exact HC0_1.out); rintro e w23 ⟨rfl, hb⟩; refine ⟨_, rfl, ?_⟩; have n0_ := Aside0.mk (blk_below (g := gb131) (o := .cells #[.string a0_0, .slice A0_1 l0_1.length c0_1, .string a0_2, .string a0_3] 40 (0, 0)) (by (with_reducible repeat (first | refine blk_drewN ?_ _ | refine blk_drew ?_ | refine blk_alloc ?_ _)); exact BK131.out) hb); have n1_ := Aside0.mk (below_step (by repeat (first | (with_reducible first | exact HB.out | apply below_alloc | apply pw_below_drewN | apply below_drew1 | refine below_set ?_ GE131.out) | exact HB.out)) hb); clear BK131; clear HB; have BK131 := n0_; have HB := n1_; clear n0_ n1_; (try clear hb); (try clear hb2); (try clear hk); (try clear hi)))
  go_ret2
  exact ⟨er_, by repeat (first | (with_reducible first | exact HB.out | apply below_alloc | apply pw_below_drewN | apply below_drew1 | refine below_set ?_ GE131.out) | exact HB.out)⟩
mutual
noncomputable def r04_line.j0 : Nat → ByteArray → ByteArray → Bool → Option (ByteArray × ByteArray × Bool)
 | 0, _, _, _ => none
 | k + 1, x0, x1, x28 => if x28 = true then (some ((⟨#[]⟩ : ByteArray), (⟨#[]⟩ : ByteArray), false)) else (r04_line.l0 k x0 x1 (wrap64 ((x1.size : Int) + 1)))
noncomputable def r04_line.l0 : Nat → ByteArray → ByteArray → Int → Option (ByteArray × ByteArray × Bool)
 | 0, _, _, _ => none
 | k + 1, x0, x1, x7 => if x7 < (x0.size : Int) then (if 0 ≤ x7 then (if (bt x0 x7) = 10 then (if 0 ≤ (wrap64 ((x1.size : Int) + 1)) then (if (wrap64 ((x1.size : Int) + 1)) ≤ x7 then (if x7 ≤ (x0.size : Int) then (if 0 ≤ (wrap64 (x7 + 1)) then (if (wrap64 (x7 + 1)) ≤ (x0.size : Int) then (some (x0.extract ((wrap64 ((x1.size : Int) + 1)) : Int).toNat (x7 : Int).toNat, x0.extract ((wrap64 (x7 + 1)) : Int).toNat x0.size, true)) else (none)) else (none)) else (none)) else (none)) else (none)) else (r04_line.l0 k x0 x1 (wrap64 (x7 + 1)))) else (none)) else (some ((⟨#[]⟩ : ByteArray), (⟨#[]⟩ : ByteArray), false))
end
noncomputable def r04_line.f (k : Nat) (a0 : ByteArray) (a1 : ByteArray) : Option (ByteArray × ByteArray × Bool) := if (a0.size : Int) < (wrap64 ((a1.size : Int) + 1)) then (r04_line.j0 k a0 a1 true) else (if 0 ≤ (a1.size : Int) then (if (a1.size : Int) ≤ (a0.size : Int) then (if (a0.extract 0 ((a1.size : Int) : Int).toNat).toList = a1.toList then (if (a1.size : Int) < (a0.size : Int) then (r04_line.j0 k a0 a1 ((bt a0 (a1.size : Int)) != 32)) else (none)) else (r04_line.j0 k a0 a1 true)) else (none)) else (none))
set_option maxHeartbeats 8000000 in
set_option maxRecDepth 100000 in
theorem r04_line.calls (k : Nat) (a0 : ByteArray) (a1 : ByteArray) (r1 : ByteArray) (r2 : ByteArray) (r3 : Bool) (w : World) (h : r04_line.f k a0 a1 = some (r1, r2, r3)) :
  Calls Tryz.prog 55 #[.string a0, .string a1] w fun e w' => e = .returned (.tuple #[.string r1, .string r2, .bool r3]) ∧ Drawn0 w w' := by
 have H : (if (a0.size : Int) < (wrap64 ((a1.size : Int) + 1)) then (r04_line.j0 k a0 a1 true) else (if 0 ≤ (a1.size : Int) then (if (a1.size : Int) ≤ (a0.size : Int) then (if (a0.extract 0 ((a1.size : Int) : Int).toNat).toList = a1.toList then (if (a1.size : Int) < (a0.size : Int) then (r04_line.j0 k a0 a1 ((bt a0 (a1.size : Int)) != 32)) else (none)) else (r04_line.j0 k a0 a1 true)) else (none)) else (none))) = some (r1, r2, r3) := h
 clear h
 have HC3 := Aside0.mk H
 clear H
 go_enter Tryz.func55, Tryz.ntmps55
 go_upto_region 1 with (fail)
 repeat (go_quiet (fail); go_upto_region 1 with (fail))
 go_cut [28] (fun v28 wc => ∃ (kq : Nat) (x28_2 : Bool), v28 = .bool x28_2 ∧ Aside0 (r04_line.j0 kq a0 a1 x28_2 = some (r1, r2, r3)) ∧ Aside0 (kq ≤ k) ∧ Drawn0 w wc)
 case first =>
  have H := HC3.out
  clear HC3
  by_cases c4 : (a0.size : Int) < (wrap64 ((a1.size : Int) + 1))
  ·
   rw [if_pos c4] at H
   have c4b0 : decide ((a0.size : Int) < (wrap64 ((a1.size : Int) + 1))) = true := decide_eq_true c4
   clear c4
   (first | rw [c4b0] | (simp only [i64_w, i32_w]; rw [c4b0]) | skip)
   have H' := Aside0.mk H
   clear H
   go_wp2
   repeat (go_quiet (fail); try go_wp2)
   go_meet
   case rel => exact ⟨_, (true), sd_, H', ⟨by first | omega | exact Nat.le_refl _⟩, dr_⟩
  ·
   rw [if_neg c4] at H
   have c4b0 : decide ((a0.size : Int) < (wrap64 ((a1.size : Int) + 1))) = false := decide_eq_false c4
   clear c4
   (first | rw [c4b0] | (simp only [i64_w, i32_w]; rw [c4b0]) | skip)
   by_cases c5 : 0 ≤ (a1.size : Int)
   ·
    rw [if_pos c5] at H
    have c5b0 := eq_true c5
    have c5b1 : decide (0 ≤ (a1.size : Int)) = true := decide_eq_true c5
    clear c5
    by_cases c6 : (a1.size : Int) ≤ (a0.size : Int)
    ·
     rw [if_pos c6] at H
     have c6b0 := eq_true c6
     have c6b1 : decide ((a1.size : Int) ≤ (a0.size : Int)) = true := decide_eq_true c6
     clear c6
     by_cases c7 : (a0.extract 0 ((a1.size : Int) : Int).toNat).toList = a1.toList
     ·
      rw [if_pos c7] at H
      have c7b0 : ((a0.extract 0 ((a1.size : Int) : Int).toNat).toList == a1.toList) = true := beq_iff_eq.mpr c7
      (try simp only [Int.toNat_natCast] at c7b0)
      have c7b1 : ((a0.extract 0 ((a1.size : Int) : Int).toNat).toList != a1.toList) = false := bne_eq_false_iff_eq.mpr c7
      (try simp only [Int.toNat_natCast] at c7b1)
      clear c7
      by_cases c8 : (a1.size : Int) < (a0.size : Int)
      ·
       rw [if_pos c8] at H
       have c8b0 : decide ((a1.size : Int) < (a0.size : Int)) = true := decide_eq_true c8
       have c8b1 : decide (a1.size < a0.size) = true := decide_eq_true (Int.ofNat_lt.mp c8)
       clear c8
       have H' := Aside0.mk H
       clear H
       have p9 : 0 ≤ ((a1.size : Int) : Int) := oda_
       have q9 : (a1.size : Int) < (a0.size : Int) := oda_
       have hx9 := bt_at a0 (a1.size : Int)
       have hx9n : ∀ h : a1.size < a0.size, ((a0[a1.size]'h).toNat : Int) = bt a0 (a1.size : Int) := fun h => by simp [bt, h]
       replace p9 := eq_true p9
       replace q9 := eq_true q9
       go_wp2
       repeat (go_quiet (fail); try go_wp2)
       go_meet
       case rel => exact ⟨_, (((bt a0 (a1.size : Int)) != 32)), sd_, H', ⟨by first | omega | exact Nat.le_refl _⟩, dr_⟩
      ·
       rw [if_neg c8] at H
       exact absurd H (by simp)
     ·
      rw [if_neg c7] at H
      have c7b0 : ((a0.extract 0 ((a1.size : Int) : Int).toNat).toList == a1.toList) = false := beq_eq_false_iff_ne.mpr c7
      (try simp only [Int.toNat_natCast] at c7b0)
      have c7b1 : ((a0.extract 0 ((a1.size : Int) : Int).toNat).toList != a1.toList) = true := bne_iff_ne.mpr c7
      (try simp only [Int.toNat_natCast] at c7b1)
      have H' := Aside0.mk H
      clear H
      go_wp2
      repeat (go_quiet (fail); try go_wp2)
      go_meet
      case rel => exact ⟨_, (true), sd_, H', ⟨by first | omega | exact Nat.le_refl _⟩, dr_⟩
    ·
     rw [if_neg c6] at H
     exact absurd H (by simp)
   ·
    rw [if_neg c5] at H
    exact absurd H (by simp)
 case rest =>
  clear HC3
  try clear p2
  try clear c4
  try clear c4b0
  try clear c5
  try clear c5b0
  try clear c5b1
  try clear c6
  try clear c6b0
  try clear c6b1
  try clear p6
  try clear c7
  try clear c7b0
  try clear c7b1
  try clear c8
  try clear c8b0
  try clear c8b1
  try clear p9
  try clear q9
  try clear hx9
  try clear p9
  try clear q9
  obtain ⟨kq, x28_2, rfl, HA, HJ2, ⟨mc2, rfl⟩⟩ := hcut
  cases kq with
  | zero => exact absurd HA.out (by simp [r04_line.j0])
  | succ kj2 =>
   have H := HA.out
   clear HA
   simp only [r04_line.j0] at H
   by_cases c10 : x28_2 = true
   ·
    subst c10
    have H1 : (some ((⟨#[]⟩ : ByteArray), (⟨#[]⟩ : ByteArray), false)) = some (r1, r2, r3) := by rw [if_pos rfl] at H; exact H
    clear H
    have H := H1
    clear H1
    simp only [Option.some.injEq, Prod.mk.injEq] at H
    obtain ⟨rfl, rfl, rfl⟩ := H
    go_wp2
    repeat (go_quiet (fail); try go_wp2)
    go_ret3
    exact ⟨sd_, dr_⟩
   ·
    replace c10 := Bool.eq_false_iff.mpr c10
    subst c10
    have H1 : (r04_line.l0 kj2 a0 a1 (wrap64 ((a1.size : Int) + 1))) = some (r1, r2, r3) := by rw [if_neg (show ¬ (false = true) by decide)] at H; exact H
    clear H
    have H := H1
    clear H1
    have H' := Aside0.mk H
    clear H
    go_wp2
    repeat (go_quiet (fail); try go_wp2)
    go_loopg [7] kj2 (fun kq v7 w' => ∃ (x7_2 : Int), v7 = .int .i64 x7_2 ∧ Aside0 (r04_line.l0 kq a0 a1 x7_2 = some (r1, r2, r3)) ∧ Aside0 (kq ≤ kj2) ∧ Drawn0 w w')
    case atStart => exact ⟨(wrap64 ((a1.size : Int) + 1)), sd_, H', ⟨Nat.le_refl _⟩, dr_⟩
    case round =>
     clear H'
     try clear c1
     try clear c2
     try clear p2
     try clear c4
     try clear c4b0
     try clear c5
     try clear c5b0
     try clear c5b1
     try clear c6
     try clear c6b0
     try clear c6b1
     try clear p6
     try clear c7
     try clear c7b0
     try clear c7b1
     try clear c8
     try clear c8b0
     try clear c8b1
     try clear p9
     try clear q9
     try clear hx9
     try clear c10
     try clear p2
     try clear p6
     try clear p9
     try clear q9
     obtain ⟨x7_2, rfl, HA, HK2, ⟨m2, rfl⟩⟩ := hrel
     cases gk with
     | zero => exact absurd HA.out (by simp [r04_line.l0])
     | succ k2 =>
      have H := HA.out
      clear HA
      simp only [r04_line.l0] at H
      by_cases c11 : x7_2 < (a0.size : Int)
      ·
       rw [if_pos c11] at H
       have c11b0 : decide (x7_2 < (a0.size : Int)) = true := decide_eq_true c11
       clear c11
       by_cases c12 : 0 ≤ x7_2
       ·
        rw [if_pos c12] at H
        have c12b0 : decide (0 ≤ x7_2) = true := decide_eq_true c12
        clear c12
        by_cases c14 : (bt a0 x7_2) = 10
        ·
         rw [if_pos c14] at H
         have c14b0 : ((bt a0 x7_2) == 10) = true := beq_iff_eq.mpr c14
         have c14b1 : ((bt a0 x7_2) != 10) = false := bne_eq_false_iff_eq.mpr c14
         clear c14
         obtain ⟨ji15, hji15⟩ : ∃ j_ : Int, (wrap64 ((a1.size : Int) + 1)) = j_ := ⟨_, rfl⟩
         replace H : (if 0 ≤ (ji15) then (if (ji15) ≤ x7_2 then (if x7_2 ≤ (a0.size : Int) then (if 0 ≤ (wrap64 (x7_2 + 1)) then (if (wrap64 (x7_2 + 1)) ≤ (a0.size : Int) then (some (a0.extract ((ji15) : Int).toNat (x7_2 : Int).toNat, a0.extract ((wrap64 (x7_2 + 1)) : Int).toNat a0.size, true)) else (none)) else (none)) else (none)) else (none)) else (none)) = some (r1, r2, r3) := by first | (rw [hji15] at H; exact H) | (simp only [hji15] at H ⊢; exact H)
         have hji15w : (IntKind.i64.wrap ((a1.size : Int) + 1)) = ji15 := (i64_w _).trans hji15
         by_cases c16 : 0 ≤ (ji15)
         ·
          rw [if_pos c16] at H
          have c16b0 := eq_true c16
          have c16b1 : decide (0 ≤ (ji15)) = true := decide_eq_true c16
          clear c16
          by_cases c17 : (ji15) ≤ x7_2
          ·
           rw [if_pos c17] at H
           have c17b0 := eq_true c17
           have c17b1 : decide ((ji15) ≤ x7_2) = true := decide_eq_true c17
           clear c17
           by_cases c18 : x7_2 ≤ (a0.size : Int)
           ·
            rw [if_pos c18] at H
            have c18b0 := eq_true c18
            have c18b1 : decide (x7_2 ≤ (a0.size : Int)) = true := decide_eq_true c18
            clear c18
            obtain ⟨ji19, hji19⟩ : ∃ j_ : Int, (wrap64 (x7_2 + 1)) = j_ := ⟨_, rfl⟩
            replace H : (if 0 ≤ (ji19) then (if (ji19) ≤ (a0.size : Int) then (some (a0.extract ((ji15) : Int).toNat (x7_2 : Int).toNat, a0.extract ((ji19) : Int).toNat a0.size, true)) else (none)) else (none)) = some (r1, r2, r3) := by first | (rw [hji19] at H; exact H) | (simp only [hji19] at H ⊢; exact H)
            have hji19w : (IntKind.i64.wrap (x7_2 + 1)) = ji19 := (i64_w _).trans hji19
            by_cases c20 : 0 ≤ (ji19)
            ·
             rw [if_pos c20] at H
             have c20b0 := eq_true c20
             have c20b1 : decide (0 ≤ (ji19)) = true := decide_eq_true c20
             clear c20
             by_cases c21 : (ji19) ≤ (a0.size : Int)
             ·
              rw [if_pos c21] at H
              have c21b0 := eq_true c21
              have c21b1 : decide ((ji19) ≤ (a0.size : Int)) = true := decide_eq_true c21
              clear c21
              simp only [Option.some.injEq, Prod.mk.injEq] at H
              obtain ⟨rfl, rfl, rfl⟩ := H
              have p13 : 0 ≤ (x7_2 : Int) := oda_
              have q13 : x7_2 < (a0.size : Int) := oda_
              have hx13 := bt_at a0 x7_2
              replace p13 := eq_true p13
              replace q13 := eq_true q13
              go_wp2
              repeat (go_quiet (fail); try go_wp2)
              go_ret3
              exact ⟨by first | rfl | (simp; done) | (simp only [← hji15, ← hji19] <;> (first | rfl | simp)) | (simp [*]; done), dr_⟩
             ·
              rw [if_neg c21] at H
              exact absurd H (by simp)
            ·
             rw [if_neg c20] at H
             exact absurd H (by simp)
           ·
            rw [if_neg c18] at H
            exact absurd H (by simp)
          ·
           rw [if_neg c17] at H
           exact absurd H (by simp)
         ·
          rw [if_neg c16] at H
          exact absurd H (by simp)
        ·
         rw [if_neg c14] at H
         have c14b0 : ((bt a0 x7_2) == 10) = false := beq_eq_false_iff_ne.mpr c14
         have c14b1 : ((bt a0 x7_2) != 10) = true := bne_iff_ne.mpr c14
         have H' := Aside0.mk H
         clear H
         have p13 : 0 ≤ (x7_2 : Int) := oda_
         have q13 : x7_2 < (a0.size : Int) := oda_
         have hx13 := bt_at a0 x7_2
         replace p13 := eq_true p13
         replace q13 := eq_true q13
         go_wp2
         repeat (go_quiet (fail); try go_wp2)
         go_roundg k2
         case measure => have := HJ2.out; have := HK2.out; omega
         case rel => exact ⟨(wrap64 (x7_2 + 1)), sd_, H', ⟨by have := HJ2.out; have := HK2.out; omega⟩, dr_⟩
       ·
        rw [if_neg c12] at H
        exact absurd H (by simp)
      ·
       rw [if_neg c11] at H
       have c11b0 : decide (x7_2 < (a0.size : Int)) = false := decide_eq_false c11
       clear c11
       simp only [Option.some.injEq, Prod.mk.injEq] at H
       obtain ⟨rfl, rfl, rfl⟩ := H
       go_wp2
       repeat (go_quiet (fail); try go_wp2)
       go_ret3
       exact ⟨sd_, dr_⟩
end Go.Proofs.YtefefhhaopjccaaGreatDoor.PObDoc
