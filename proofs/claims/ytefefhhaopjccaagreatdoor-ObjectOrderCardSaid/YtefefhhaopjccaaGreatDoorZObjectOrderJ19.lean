/- Joined texts: PObjectOrderx1. No condition but what stands in each. -/
import Derived.Test.YtefefhhaopjccaaGreatDoorZObjectOrderJ18
namespace Go.Proofs.YtefefhhaopjccaaGreatDoor.PObjectOrder
open Go.Proofs.YtefefhhaopjccaaGreatDoor.PObBase Go.Proofs.YtefefhhaopjccaaGreatDoor.PObGet Go.Proofs.YtefefhhaopjccaaGreatDoor.PObRt
open Go.RowKit Go.Proofs.YtefefhhaopjccaaGreatDoorW.PrintWords Go.Proofs.YtefefhhaopjccaaGreatDoorW.PrintLast Go.Proofs.YtefefhhaopjccaaGreatDoorW.PrintMore
attribute [local go_sem] StrSem.leq_str StrSem.geq_str StrSem.gtr_str max2_int min2_int max_two min_two max_three min_three max_four min_four   -- for this text's walks alone
set_option linter.unusedVariables false
set_option linter.unusedSimpArgs false
theorem o1_ {p : Prop} (h : p := by (with_reducible repeat (first | apply Kd.R_alloc | apply Kd.R_drewN | apply Kd.R_drew)); exact HO126.out) : p := h
theorem o2_ {p : Prop} (h : p := by (with_reducible repeat (first | apply Kd.R_alloc | apply Kd.R_drewN | apply Kd.R_drew)); exact HO121.out) : p := h
theorem o3_ {p : Prop} (h : p := by (with_reducible repeat (first | apply Kd.R_alloc | apply Kd.R_drewN | apply Kd.R_drew)); exact HO129.out) : p := h
theorem o4_ {p : Prop} (h : p := by (with_reducible repeat (first | apply Kd.R_alloc | apply Kd.R_drewN | apply Kd.R_drew)); exact HO133.out) : p := h
mutual
noncomputable def w04_ObjectOrder.j0 : Nat → List (S54) → Int → Bool → Bool → Option (Bool)
 | 0, _, _, _, _ => none
 | k + 1, x0, x1, x5, x31 => if x31 = true then (some x5) else (w04_ObjectOrder.l0 k x0 x1 x5 1)
noncomputable def w04_ObjectOrder.l0 : Nat → List (S54) → Int → Bool → Int → Option (Bool)
 | 0, _, _, _, _ => none
 | k + 1, x0, x1, x5, x8 => if x8 < (x0.length : Int) then (if 0 ≤ (wrap64 (x8 - 1)) then (if (wrap64 (x8 - 1)) < (x0.length : Int) then (if 0 ≤ x8 then (if ((rd_T54 x0 (wrap64 (x8 - 1))).f0) = 3 then (if ((rd_T54 x0 (wrap64 (x8 - 1))).f1).size + 1 ≤ 9223372036854775807 then (w04_ObjectOrder.j2 k x0 x1 x5 x8 (((rd_T54 x0 (wrap64 (x8 - 1))).f1) ++ (⟨#[47]⟩ : ByteArray)) ((rd_T54 x0 x8).f1)) else (none)) else (w04_ObjectOrder.j2 k x0 x1 x5 x8 ((rd_T54 x0 (wrap64 (x8 - 1))).f1) ((rd_T54 x0 x8).f1))) else (none)) else (none)) else (none)) else (if (x0.length : Int) = 0 then (none) else ((some (([] : List (S54)) : List (S54))).bind fun y105 => (if 0 ≤ (Int.tmod (wrap64 (x1)) (x0.length : Int)) then (if (Int.tmod (wrap64 (x1)) (x0.length : Int)) ≤ (x0.length : Int) then ((some (x0.take ((Int.tmod (wrap64 (x1)) (x0.length : Int)) : Int).toNat : List (S54))).bind fun y108 => (if y105.length + y108.length < 3518437208883 then ((some (y105 ++ y108 : List (S54))).bind fun y112 => (if 0 ≤ (wrap64 ((Int.tmod (wrap64 (x1)) (x0.length : Int)) + 1)) then (if (wrap64 ((Int.tmod (wrap64 (x1)) (x0.length : Int)) + 1)) ≤ (x0.length : Int) then ((some (x0.drop ((wrap64 ((Int.tmod (wrap64 (x1)) (x0.length : Int)) + 1)) : Int).toNat : List (S54))).bind fun y115 => (if y112.length + y115.length < 3518437208883 then ((Ob.Gv.putTree.f (y112 ++ y115)).bind fun bt122 => ((some (([] : List (S54)) : List (S54))).bind fun y124 => (if y124.length + x0.length < 3518437208883 then ((some (y124 ++ x0 : List (S54))).bind fun y127 => (if (Int.tmod (wrap64 (x1)) (x0.length : Int)) < (x0.length : Int) then ((some (([(⟨(rd_T54 x0 (Int.tmod (wrap64 (x1)) (x0.length : Int))).f0, (rd_T54 x0 (Int.tmod (wrap64 (x1)) (x0.length : Int))).f1, (rd_T54 x0 (Int.tmod (wrap64 (x1)) (x0.length : Int))).f2⟩ : S54)] : List (S54)) : List (S54))).bind fun y131 => (if y127.length + y131.length < 3518437208883 then ((Ob.Gv.putTree.f (y127 ++ y131)).bind fun bt137 => (if x5 = true then (if bt122.2 = true then (some (!bt137.2)) else (some false)) else (some false))) else (none))) else (none))) else (none)))) else (none))) else (none)) else (none))) else (none))) else (none)) else (none))))
noncomputable def w04_ObjectOrder.j2 : Nat → List (S54) → Int → Bool → Int → ByteArray → ByteArray → Option (Bool)
 | 0, _, _, _, _, _, _ => none
 | k + 1, x0, x1, x5, x8, x9, x10 => if 0 ≤ x8 then (if x8 < (x0.length : Int) then (if ((rd_T54 x0 x8).f0) = 3 then (if x10.size + 1 ≤ 9223372036854775807 then (if ((Op.bytesLess x9.toList ((x10 ++ (⟨#[47]⟩ : ByteArray)).toList)) = true) then (if 0 ≤ (wrap64 (x8 - 1)) then (if (wrap64 (x8 - 1)) < (x0.length : Int) then (if ((rd_T54 x0 (wrap64 (x8 - 1))).f1).toList = ((rd_T54 x0 x8).f1).toList then (some false) else (w04_ObjectOrder.l0 k x0 x1 x5 (wrap64 (x8 + 1)))) else (none)) else (none)) else (some false)) else (none)) else (if ((Op.bytesLess x9.toList x10.toList) = true) then (if 0 ≤ (wrap64 (x8 - 1)) then (if (wrap64 (x8 - 1)) < (x0.length : Int) then (if ((rd_T54 x0 (wrap64 (x8 - 1))).f1).toList = ((rd_T54 x0 x8).f1).toList then (some false) else (w04_ObjectOrder.l0 k x0 x1 x5 (wrap64 (x8 + 1)))) else (none)) else (none)) else (some false))) else (none)) else (none)
end
noncomputable def w04_ObjectOrder.f (k : Nat) (l0 : List (S54)) (a1 : Int) : Option (Bool) := (Ob.Gv.head.f).bind fun t101 => ((PObBase.w04_GreatItems.f k l0).bind fun t102 => (if t102 = true then (some t101) else ((Ob.Gv.putTree.f l0).bind fun bt103 => (if bt103.2 = true then (w04_ObjectOrder.j0 k l0 a1 t101 ((l0.length : Int) == 0)) else (w04_ObjectOrder.j0 k l0 a1 t101 true)))))
def w04_ObjectOrder.T16 : Bool × List (List Nat × List Nat) := (true, [([], []), ([], []), ([0, 1], [0, 1]), ([2], [2]), ([3], [3]), ([3], [3]), ([5, 3], [3, 5]), ([4, 6, 3], [3, 4, 6]), ([7, 3], [3, 7]), ([8, 3], [3, 8]), ([3], [3]), ([3], [3]), ([10, 11, 3], [3, 10, 11]), ([12, 3], [3, 12]), ([13, 3], [3, 13]), ([9, 14, 3], [3, 9, 14]), ([3, 15], [3, 15])])
def w04_ObjectOrder.B16 : List Nat := [0, 0, 3, 7, 15, 15, 47, 127, 255, 511, 15, 15, 3087, 7183, 15375, 32767, 65535]
theorem w04_ObjectOrder.tab16 : rtab .any (opsOf Tryz.f7 16) = w04_ObjectOrder.T16 := by kernel_rfl
theorem w04_ObjectOrder.bits16 : waitsOk w04_ObjectOrder.T16.2 w04_ObjectOrder.B16 = true := by kernel_rfl
def w04_ObjectOrder.T19 : Bool × List (List Nat × List Nat) := (true, [([], []), ([], []), ([], []), ([1, 2], [1, 2]), ([0, 3], [0, 3]), ([], []), ([], []), ([6], [6]), ([5, 7], [5, 7]), ([4, 8, 4], [4, 8]), ([9, 9], [9]), ([10], [10]), ([11], [11]), ([11], [11]), ([12, 10, 0, 1, 2, 3, 4, 5, 6, 7, 8, 9, 10, 11, 12], [12]), ([13, 14, 0, 1, 2, 3, 4, 5, 6, 7, 8, 9, 10, 11, 12, 13, 14], [13])])
def w04_ObjectOrder.B19 : List Nat := [0, 0, 0, 6, 15, 0, 0, 64, 224, 511, 1023, 2047, 4095, 4095, 8191, 32767]
theorem w04_ObjectOrder.tab19 : rtab .any (opsOf Tryz.f7 19) = w04_ObjectOrder.T19 := by kernel_rfl
theorem w04_ObjectOrder.bits19 : waitsOk w04_ObjectOrder.T19.2 w04_ObjectOrder.B19 = true := by kernel_rfl
def w04_ObjectOrder.T20 : Bool × List (List Nat × List Nat) := (true, [([], []), ([], []), ([0, 1], [0, 1]), ([], []), ([], []), ([3, 4], [3, 4]), ([5], [5]), ([6], [6]), ([2, 7, 2], [2, 7]), ([8, 8], [8]), ([9], [9]), ([10], [10]), ([10], [10]), ([11, 9, 0, 1, 2, 3, 4, 5, 6, 7, 8, 9, 10, 11], [11]), ([12, 13, 0, 1, 2, 3, 4, 5, 6, 7, 8, 9, 10, 11, 12, 13], [12])])
def w04_ObjectOrder.B20 : List Nat := [0, 0, 3, 0, 0, 24, 56, 120, 255, 511, 1023, 2047, 2047, 4095, 16383]
theorem w04_ObjectOrder.tab20 : rtab .any (opsOf Tryz.f7 20) = w04_ObjectOrder.T20 := by kernel_rfl
theorem w04_ObjectOrder.bits20 : waitsOk w04_ObjectOrder.T20.2 w04_ObjectOrder.B20 = true := by kernel_rfl
set_option maxHeartbeats 8000000 in
set_option maxRecDepth 100000 in
theorem w04_ObjectOrder.calls (k : Nat) (A0 : Option Addr) (c0 : Nat) (l0 : List (S54)) (a1 : Int) (r : Bool) (w : World) (hr0 : Kd.C k54 w A0 l0.length l0) (hc0 : l0.length ≤ c0) (h : w04_ObjectOrder.f k l0 a1 = some r) (ht_ : Lib.TabIs Tryz.prog w "internal/strconv.uint64pow10" .u64 Lib.pow10Tab) :
  Calls Tryz.prog 7 #[.slice A0 l0.length c0, .int .u8 a1] w fun e w' => e = .returned (.bool r) ∧ Below w.heap.size w w' := by
 have HTAB_ : Aside0 (∀ w_ : World, Below w.heap.size w w_ → Lib.TabIs Tryz.prog w_ "internal/strconv.uint64pow10" .u64 Lib.pow10Tab) := Aside0.mk (fun w_ hb_ => Lib.tabBelow_of_tabIs ht_ w_ hb_)
 clear ht_
 have hu54 := Tryz.underlying54
 have HR0 := Aside0.mk hr0
 have HC0 := Aside0.mk hc0
 clear hr0 hc0
 have HB := Aside0.mk (Below.refl w.heap.size w)
 have H : ((Ob.Gv.head.f).bind fun t101 => ((PObBase.w04_GreatItems.f k l0).bind fun t102 => (if t102 = true then (some t101) else ((Ob.Gv.putTree.f l0).bind fun bt103 => (if bt103.2 = true then (w04_ObjectOrder.j0 k l0 a1 t101 ((l0.length : Int) == 0)) else (w04_ObjectOrder.j0 k l0 a1 t101 true)))))) = some r := h
 clear h
 replace H := Option.bind_eq_some_iff.mp H
 obtain ⟨t101, A30, H⟩ := H
 replace H : ((PObBase.w04_GreatItems.f k l0).bind fun t102 => (if t102 = true then (some t101) else ((Ob.Gv.putTree.f l0).bind fun bt103 => (if bt103.2 = true then (w04_ObjectOrder.j0 k l0 a1 t101 ((l0.length : Int) == 0)) else (w04_ObjectOrder.j0 k l0 a1 t101 true))))) = some r := H
 have A3 := Aside0.mk A30
 clear A30
 replace H := Option.bind_eq_some_iff.mp H
 obtain ⟨t102, A40, H⟩ := H
 replace H : (if t102 = true then (some t101) else ((Ob.Gv.putTree.f l0).bind fun bt103 => (if bt103.2 = true then (w04_ObjectOrder.j0 k l0 a1 t101 ((l0.length : Int) == 0)) else (w04_ObjectOrder.j0 k l0 a1 t101 true)))) = some r := H
 have A4 := Aside0.mk A40
 clear A40
 by_cases c5 : t102 = true
 ·
  as_aux_lemma =>
  subst c5
  have H1 : (some t101) = some r := by rw [if_pos rfl] at H; exact H
  clear H
  have H := H1
  clear H1
  obtain rfl := Option.some.inj H
  go_enter Tryz.func7, Tryz.ntmps7
  go_wp2_with (first | ((with_reducible refine gate_callee (f := 10) rfl ?_); refine goesL_ (some 16) rfl rfl Tryz.func10 (by kernel_rfl) rfl #[] rfl la_ ?_; (with_reducible refine (Ob.Gv.head.calls  t101 _ A3.out (HTAB_.out _ (by first | exact Below.refl _ _ | (with_reducible exact Aside0.out (by assumption)) | repeat (first | (with_reducible exact Aside0.out (by assumption)) | apply below_alloc | apply pw_below_drewN | apply below_drew1 | (refine below_set ?_ ?_; rotate_left; (with_reducible exact Aside0.out (by assumption))))))).mono ?_); rintro e w6 ⟨rfl, hb⟩; refine ⟨_, rfl, ?_⟩; have n0_ := Aside0.mk (below_step bw_ hb); clear HB; have HB := n0_; clear n0_; (try clear hb); (try clear hb2); (try clear hk); (try clear hi)) | ((with_reducible refine gate_callee (f := 18) rfl ?_); refine goesL_ (some 18) rfl rfl Tryz.func18 (by kernel_rfl) rfl #[.slice A0 l0.length c0] rfl la_ ?_; (with_reducible refine (PObBase.w04_GreatItems.calls k _ _ l0 true _ ?side1 ?side2 A4.out).mono ?_); (case side1 => repeat (first | exact (Kd.C_below HR0.out HB.out) | (with_reducible refine Kd.C_alloc ?_ _) | (with_reducible refine Kd.C_drewN ?_ _) | (with_reducible refine Kd.C_drew ?_))); (case side2 => exact HC0.out); rintro e w7 ⟨rfl, hb⟩; refine ⟨_, rfl, ?_⟩; have n0_ := Aside0.mk (below_step bw_ hb); clear HB; have HB := n0_; clear n0_; (try clear hb); (try clear hb2); (try clear hk); (try clear hi)))
  go_ret
  exact ⟨er_, bw_⟩
 ·
  as_aux_lemma =>
  replace c5 := Bool.eq_false_iff.mpr c5
  subst c5
  have H1 : ((Ob.Gv.putTree.f l0).bind fun bt103 => (if bt103.2 = true then (w04_ObjectOrder.j0 k l0 a1 t101 ((l0.length : Int) == 0)) else (w04_ObjectOrder.j0 k l0 a1 t101 true))) = some r := by rw [if_neg (show ¬ (false = true) by decide)] at H; exact H
  clear H
  have H := H1
  clear H1
  replace H := Option.bind_eq_some_iff.mp H
  obtain ⟨⟨t103, t104⟩, A80, H⟩ := H
  replace H : (if t104 = true then (w04_ObjectOrder.j0 k l0 a1 t101 ((l0.length : Int) == 0)) else (w04_ObjectOrder.j0 k l0 a1 t101 true)) = some r := H
  have A8 := Aside0.mk A80
  clear A80
  have HC9 := Aside0.mk H
  clear H
  go_enter Tryz.func7, Tryz.ntmps7
  go_upto_region 5 with (first | ((with_reducible refine gate_callee (f := 10) rfl ?_); refine goesL_ (some 16) rfl rfl Tryz.func10 (by kernel_rfl) rfl #[] rfl la_ ?_; (with_reducible refine (Ob.Gv.head.calls  t101 _ A3.out (HTAB_.out _ (by first | exact Below.refl _ _ | (with_reducible exact Aside0.out (by assumption)) | repeat (first | (with_reducible exact Aside0.out (by assumption)) | apply below_alloc | apply pw_below_drewN | apply below_drew1 | (refine below_set ?_ ?_; rotate_left; (with_reducible exact Aside0.out (by assumption))))))).mono ?_); rintro e w10 ⟨rfl, hb⟩; refine ⟨_, rfl, ?_⟩; have n0_ := Aside0.mk (below_step bw_ hb); clear HB; have HB := n0_; clear n0_; (try clear hb); (try clear hb2); (try clear hk); (try clear hi)) | ((with_reducible refine gate_callee (f := 18) rfl ?_); refine goesL_ (some 18) rfl rfl Tryz.func18 (by kernel_rfl) rfl #[.slice A0 l0.length c0] rfl la_ ?_; (with_reducible refine (PObBase.w04_GreatItems.calls k _ _ l0 false _ ?side1 ?side2 A4.out).mono ?_); (case side1 => repeat (first | exact (Kd.C_below HR0.out HB.out) | (with_reducible refine Kd.C_alloc ?_ _) | (with_reducible refine Kd.C_drewN ?_ _) | (with_reducible refine Kd.C_drew ?_))); (case side2 => exact HC0.out); rintro e w11 ⟨rfl, hb⟩; refine ⟨_, rfl, ?_⟩; have n0_ := Aside0.mk (below_step bw_ hb); clear HB; have HB := n0_; clear n0_; (try clear hb); (try clear hb2); (try clear hk); (try clear hi)) | ((with_reducible refine gate_callee (f := 19) rfl ?_); refine goesL_ (some 22) rfl rfl Tryz.func19 (by kernel_rfl) rfl #[.slice A0 l0.length c0] rfl la_ ?_; (with_reducible refine (Ob.Gv.putTree.calls _ _ l0 t103 t104 _ ?side1 ?side2 A8.out (HTAB_.out _ (by first | exact Below.refl _ _ | (with_reducible exact Aside0.out (by assumption)) | repeat (first | (with_reducible exact Aside0.out (by assumption)) | apply below_alloc | apply pw_below_drewN | apply below_drew1 | (refine below_set ?_ ?_; rotate_left; (with_reducible exact Aside0.out (by assumption))))))).mono ?_); (case side1 => repeat (first | exact (Kd.C_below HR0.out HB.out) | (with_reducible refine Kd.C_alloc ?_ _) | (with_reducible refine Kd.C_drewN ?_ _) | (with_reducible refine Kd.C_drew ?_))); (case side2 => exact HC0.out); rintro e w12 ⟨rfl, hb⟩; refine ⟨_, rfl, ?_⟩; have n0_ := Aside0.mk (below_step bw_ hb); clear HB; have HB := n0_; clear n0_; (try clear hb); (try clear hb2); (try clear hk); (try clear hi)))
  (try simp only [Act.put, List.setIfInBounds_toArray, List.set_cons_zero, List.set_cons_succ])
  go_cut [31] (fun v31 wc => ∃ (kq : Nat) (x31_8 : Bool), v31 = .bool x31_8 ∧ Aside0 (w04_ObjectOrder.j0 kq l0 a1 t101 x31_8 = some r) ∧ Aside0 (kq ≤ k) ∧ Aside0 (Below w.heap.size w wc))
  case first =>
   have H := HC9.out
   clear HC9
   by_cases c13 : t104 = true
   ·
    as_aux_lemma =>
    subst c13
    have H1 : (w04_ObjectOrder.j0 k l0 a1 t101 ((l0.length : Int) == 0)) = some r := by rw [if_pos rfl] at H; exact H
    clear H
    have H := H1
    clear H1
    have H' := Aside0.mk H
    clear H
    go_wp2
    go_meet
    case rel => exact ⟨_, (((l0.length : Int) == 0)), sd_, H', ⟨by first | omega | exact Nat.le_refl _⟩, ⟨bw_⟩⟩
   ·
    as_aux_lemma =>
    replace c13 := Bool.eq_false_iff.mpr c13
    subst c13
    have H1 : (w04_ObjectOrder.j0 k l0 a1 t101 true) = some r := by rw [if_neg (show ¬ (false = true) by decide)] at H; exact H
    clear H
    have H := H1
    clear H1
    have H' := Aside0.mk H
    clear H
    go_wp2
    go_meet
    case rel => exact ⟨_, (true), sd_, H', ⟨by first | omega | exact Nat.le_refl _⟩, ⟨bw_⟩⟩
  case rest =>
   clear HC9
   try clear c1
   try clear p2
   try clear c5
   try clear c7
   try clear c10
   try clear c13
   obtain ⟨kq, x31_8, rfl, HA, HJ8, HB⟩ := hcut
   cases kq with
   | zero => exact absurd HA.out (by simp [w04_ObjectOrder.j0])
   | succ kj8 =>
    have H := HA.out
    clear HA
    simp only [w04_ObjectOrder.j0] at H
    by_cases c14 : x31_8 = true
    ·
     as_aux_lemma =>
     subst c14
     have H1 : (some t101) = some r := by rw [if_pos rfl] at H; exact H
     clear H
     have H := H1
     clear H1
     obtain rfl := Option.some.inj H
     go_wp2
     go_ret
     exact ⟨er_, bw_⟩
    ·
     as_aux_lemma =>
     replace c14 := Bool.eq_false_iff.mpr c14
     subst c14
     have H1 : (w04_ObjectOrder.l0 kj8 l0 a1 t101 1) = some r := by rw [if_neg (show ¬ (false = true) by decide)] at H; exact H
     clear H
     have H := H1
     clear H1
     have H' := Aside0.mk H
     clear H
     go_wp2
     go_loopg [8] kj8 (fun kq v8 w' => ∃ (x8_2 : Int), v8 = .int .i64 x8_2 ∧ Aside0 (w04_ObjectOrder.l0 kq l0 a1 t101 x8_2 = some r) ∧ Aside0 (kq ≤ kj8) ∧ Aside0 (Below w.heap.size w w'))
     case atStart => exact ⟨(1), sd_, H', ⟨Nat.le_refl _⟩, ⟨bw_⟩⟩
     case round =>
      clear H'
      try clear c1
      try clear p2
      try clear c5
      try clear c7
      try clear c10
      try clear c13
      try clear c14
      try clear p2
      obtain ⟨x8_2, rfl, HA, HK2, HB⟩ := hrel
      cases gk with
      | zero => exact absurd HA.out (by simp [w04_ObjectOrder.l0])
      | succ k2 =>
       have H := HA.out
       clear HA
       simp only [w04_ObjectOrder.l0] at H
       by_cases c15 : x8_2 < (l0.length : Int)
       ·
        as_aux_lemma =>
        rw [if_pos c15] at H
        have c15b0 : decide (x8_2 < (l0.length : Int)) = true := decide_eq_true c15
        clear c15
        obtain ⟨ji16, hji16⟩ : ∃ j_ : Int, (wrap64 (x8_2 - 1)) = j_ := ⟨_, rfl⟩
        replace H : (if 0 ≤ (ji16) then (if (ji16) < (l0.length : Int) then (if 0 ≤ x8_2 then (if ((rd_T54 l0 (ji16)).f0) = 3 then (if ((rd_T54 l0 (ji16)).f1).size + 1 ≤ 9223372036854775807 then (w04_ObjectOrder.j2 k2 l0 a1 t101 x8_2 (((rd_T54 l0 (ji16)).f1) ++ (⟨#[47]⟩ : ByteArray)) ((rd_T54 l0 x8_2).f1)) else (none)) else (w04_ObjectOrder.j2 k2 l0 a1 t101 x8_2 ((rd_T54 l0 (ji16)).f1) ((rd_T54 l0 x8_2).f1))) else (none)) else (none)) else (none)) = some r := by first | (rw [hji16] at H; exact H) | (simp only [hji16] at H ⊢; exact H)
        have hji16w : (IntKind.i64.wrap (x8_2 - 1)) = ji16 := (i64_w _).trans hji16
        by_cases c17 : 0 ≤ (ji16)
        ·
         as_aux_lemma =>
         rw [if_pos c17] at H
         have c17b0 : decide (0 ≤ (ji16)) = true := decide_eq_true c17
         clear c17
         by_cases c18 : (ji16) < (l0.length : Int)
         ·
          as_aux_lemma =>
          rw [if_pos c18] at H
          have c18b0 : decide ((ji16) < (l0.length : Int)) = true := decide_eq_true c18
          clear c18
          by_cases c19 : 0 ≤ x8_2
          ·
           as_aux_lemma =>
           rw [if_pos c19] at H
           have c19b0 : decide (0 ≤ x8_2) = true := decide_eq_true c19
           clear c19
           have HC20 := Aside0.mk H
           clear H
           have p139 : 0 ≤ ((ji16) : Int) := oda_
           have q139 : (ji16) < (l0.length : Int) := oda_
           obtain ⟨ad139, e139, hx139_0, hx139_1, hx139_2⟩ := at_T54 HR0.out (ji16) p139 q139
           cases e139
           replace hx139_0 := (HB.out.cell (World.block_lt_of_cell? w _ hx139_0)).trans hx139_0
           replace hx139_1 := (HB.out.cell (World.block_lt_of_cell? w _ hx139_1)).trans hx139_1
           replace hx139_2 := (HB.out.cell (World.block_lt_of_cell? w _ hx139_2)).trans hx139_2
           replace p139 := eq_true p139
           replace q139 := eq_true q139
           have p140 : 0 ≤ (x8_2 : Int) := oda_
           have q140 : x8_2 < (l0.length : Int) := oda_
           obtain ⟨ad140, e140, hx140_0, hx140_1, hx140_2⟩ := at_T54 HR0.out x8_2 p140 q140
           obtain rfl : ad139 = ad140 := (by injection e140)
           replace hx140_0 := (HB.out.cell (World.block_lt_of_cell? w _ hx140_0)).trans hx140_0
           replace hx140_1 := (HB.out.cell (World.block_lt_of_cell? w _ hx140_1)).trans hx140_1
           replace hx140_2 := (HB.out.cell (World.block_lt_of_cell? w _ hx140_2)).trans hx140_2
           replace p140 := eq_true p140
           replace q140 := eq_true q140
           have p141 : 0 ≤ ((ji16) : Int) := oda_
           have q141 : (ji16) < (l0.length : Int) := oda_
           obtain ⟨ad141, e141, hx141_0, hx141_1, hx141_2⟩ := at_T54 HR0.out (ji16) p141 q141
           obtain rfl : ad139 = ad141 := (by injection e141)
           replace hx141_0 := (HB.out.cell (World.block_lt_of_cell? w _ hx141_0)).trans hx141_0
           replace hx141_1 := (HB.out.cell (World.block_lt_of_cell? w _ hx141_1)).trans hx141_1
           replace hx141_2 := (HB.out.cell (World.block_lt_of_cell? w _ hx141_2)).trans hx141_2
           replace p141 := eq_true p141
           replace q141 := eq_true q141
           go_upto_if 56 with (fail)
           go_cut [9] (fun v9 wc => ∃ (kq : Nat) (x9_19 : ByteArray), v9 = .string x9_19 ∧ Aside0 (w04_ObjectOrder.j2 kq l0 a1 t101 x8_2 x9_19 ((rd_T54 l0 x8_2).f1) = some r) ∧ Aside0 (kq ≤ k2) ∧ Aside0 (Below w.heap.size w wc))
           case first =>
            have H := HC20.out
            clear HC20
            by_cases c21 : ((rd_T54 l0 (ji16)).f0) = 3
            ·
             as_aux_lemma =>
             rw [if_pos c21] at H
             have c21b0 : (((rd_T54 l0 (ji16)).f0) == 3) = true := beq_iff_eq.mpr c21
             have c21b1 : (((rd_T54 l0 (ji16)).f0) != 3) = false := bne_eq_false_iff_eq.mpr c21
             clear c21
             (first | rw [c21b0] | (simp only [i64_w, i32_w]; rw [c21b0]) | skip)
             by_cases c22 : ((rd_T54 l0 (ji16)).f1).size + 1 ≤ 9223372036854775807
             ·
              as_aux_lemma =>
              rw [if_pos c22] at H
              have c22b0 := eq_true c22
              have c22b1 : decide (((rd_T54 l0 (ji16)).f1).size + 1 ≤ 9223372036854775807) = true := decide_eq_true c22
              try have c22b2 : (9223372036854775807 < ((rd_T54 l0 (ji16)).f1).size + 1) = False := eq_false (Nat.not_lt.2 c22)
              have H' := Aside0.mk H
              clear H
              go_wp2
              go_meet
              case rel => exact ⟨_, (((rd_T54 l0 (ji16)).f1) ++ (⟨#[47]⟩ : ByteArray)), (by first | rfl | (simp; done) | (simp only [← hji16] <;> (first | rfl | simp)) | (simp [*]; done)), H', ⟨by have := HJ8.out; have := HK2.out; first | omega | exact Nat.le_refl _⟩, ⟨bw_⟩⟩
             ·
              as_aux_lemma =>
              rw [if_neg c22] at H
              exact absurd H (by simp)
            ·
             as_aux_lemma =>
             rw [if_neg c21] at H
             have c21b0 : (((rd_T54 l0 (ji16)).f0) == 3) = false := beq_eq_false_iff_ne.mpr c21
             have c21b1 : (((rd_T54 l0 (ji16)).f0) != 3) = true := bne_iff_ne.mpr c21
             (first | rw [c21b0] | (simp only [i64_w, i32_w]; rw [c21b0]) | skip)
             have H' := Aside0.mk H
             clear H
             go_wp2
             go_meet
             case rel => exact ⟨_, ((rd_T54 l0 (ji16)).f1), (by first | rfl | (simp; done) | (simp only [← hji16] <;> (first | rfl | simp)) | (simp [*]; done)), H', ⟨by have := HJ8.out; have := HK2.out; first | omega | exact Nat.le_refl _⟩, ⟨bw_⟩⟩
           case rest =>
            clear HC20
            try clear c1
            try clear p1
            try clear q1
            try clear hx1
            try clear c2
            try clear p2
            try clear c5
            try clear p6
            try clear c7
            try clear c10
            try clear c13
            try clear p13
            try clear q13
            try clear hx13
            try clear c14
            try clear p14
            try clear q14
            try clear hx14
            try clear c15
            try clear c15b0
            try clear c17
            try clear c17b0
            try clear c18
            try clear c18b0
            try clear c19
            try clear c19b0
            try clear c21
            try clear c21b0
            try clear c21b1
            try clear c22
            try clear c22b0
            try clear c22b1
            try clear c22b2
            try clear hx139_0
            try clear hx139_1
            try clear hx139_2
            try clear hx140_0
            try clear hx140_1
            try clear hx140_2
            try clear hx141_0
            try clear hx141_1
            try clear hx141_2
            try clear p139
            try clear p140
            try clear p141
            try clear p2
            try clear q139
            try clear q140
            try clear q141
            obtain ⟨kq, x9_19, rfl, HA, HJ19, HB⟩ := hcut
            cases kq with
            | zero => exact absurd HA.out (by simp [w04_ObjectOrder.j2])
            | succ kj19 =>
             have H := HA.out
             clear HA
             simp only [w04_ObjectOrder.j2] at H
             by_cases c23 : 0 ≤ x8_2
             ·
              as_aux_lemma =>
              rw [if_pos c23] at H
              have c23b0 : decide (0 ≤ x8_2) = true := decide_eq_true c23
              clear c23
              by_cases c24 : x8_2 < (l0.length : Int)
              ·
               as_aux_lemma =>
               rw [if_pos c24] at H
               have c24b0 : decide (x8_2 < (l0.length : Int)) = true := decide_eq_true c24
               clear c24
               by_cases c25 : ((rd_T54 l0 x8_2).f0) = 3
               ·
                as_aux_lemma =>
                rw [if_pos c25] at H
                have c25b0 : (((rd_T54 l0 x8_2).f0) == 3) = true := beq_iff_eq.mpr c25
                have c25b1 : (((rd_T54 l0 x8_2).f0) != 3) = false := bne_eq_false_iff_eq.mpr c25
                clear c25
                by_cases c26 : ((rd_T54 l0 x8_2).f1).size + 1 ≤ 9223372036854775807
                ·
                 as_aux_lemma =>
                 rw [if_pos c26] at H
                 have c26b0 := eq_true c26
                 have c26b1 : decide (((rd_T54 l0 x8_2).f1).size + 1 ≤ 9223372036854775807) = true := decide_eq_true c26
                 try have c26b2 : (9223372036854775807 < ((rd_T54 l0 x8_2).f1).size + 1) = False := eq_false (Nat.not_lt.2 c26)
                 by_cases c27 : ((Op.bytesLess x9_19.toList ((((rd_T54 l0 x8_2).f1) ++ (⟨#[47]⟩ : ByteArray)).toList)) = true)
                 ·
                  as_aux_lemma =>
                  rw [if_pos c27] at H
                  have c27b0 : (Op.bytesLess x9_19.toList ((((rd_T54 l0 x8_2).f1) ++ (⟨#[47]⟩ : ByteArray)).toList)) = true := c27
                  clear c27
                  replace H : (if 0 ≤ (ji16) then (if (ji16) < (l0.length : Int) then (if ((rd_T54 l0 (ji16)).f1).toList = ((rd_T54 l0 x8_2).f1).toList then (some false) else (w04_ObjectOrder.l0 kj19 l0 a1 t101 (wrap64 (x8_2 + 1)))) else (none)) else (none)) = some r := by first | (rw [hji16] at H; exact H) | (simp only [hji16] at H ⊢; exact H)
                  by_cases c29 : 0 ≤ (ji16)
                  ·
                   as_aux_lemma =>
                   rw [if_pos c29] at H
                   have c29b0 : decide (0 ≤ (ji16)) = true := decide_eq_true c29
                   clear c29
                   by_cases c30 : (ji16) < (l0.length : Int)
                   ·
                    as_aux_lemma =>
                    rw [if_pos c30] at H
                    have c30b0 : decide ((ji16) < (l0.length : Int)) = true := decide_eq_true c30
                    clear c30
                    by_cases c31 : ((rd_T54 l0 (ji16)).f1).toList = ((rd_T54 l0 x8_2).f1).toList
                    ·
                     as_aux_lemma =>
                     rw [if_pos c31] at H
                     have c31b0 : (((rd_T54 l0 (ji16)).f1).toList == ((rd_T54 l0 x8_2).f1).toList) = true := beq_iff_eq.mpr c31
                     have c31b1 : (((rd_T54 l0 (ji16)).f1).toList != ((rd_T54 l0 x8_2).f1).toList) = false := bne_eq_false_iff_eq.mpr c31
                     clear c31
                     obtain rfl := Option.some.inj H
                     have p142 : 0 ≤ (x8_2 : Int) := oda_
                     have q142 : x8_2 < (l0.length : Int) := oda_
                     obtain ⟨ad142, e142, hx142_0, hx142_1, hx142_2⟩ := at_T54 HR0.out x8_2 p142 q142
                     obtain rfl : ad139 = ad142 := (by injection e142)
                     replace hx142_0 := (HB.out.cell (World.block_lt_of_cell? w _ hx142_0)).trans hx142_0
                     replace hx142_1 := (HB.out.cell (World.block_lt_of_cell? w _ hx142_1)).trans hx142_1
                     replace hx142_2 := (HB.out.cell (World.block_lt_of_cell? w _ hx142_2)).trans hx142_2
                     replace p142 := eq_true p142
                     replace q142 := eq_true q142
                     try go_wp2
                     have n0_ := Aside0.mk (below_drew1 HB.out)
                     clear HB
                     have HB := n0_
                     clear n0_
                     have p143 : 0 ≤ ((ji16) : Int) := oda_
                     have q143 : (ji16) < (l0.length : Int) := oda_
                     obtain ⟨ad143, e143, hx143_0, hx143_1, hx143_2⟩ := at_T54 HR0.out (ji16) p143 q143
                     have hw143_2 := hx143_2
                     have hw143_1 := hx143_1
                     have hw143_0 := hx143_0
                     obtain rfl : ad139 = ad143 := (by injection e143)
                     replace hx143_0 := (HB.out.cell (World.block_lt_of_cell? w _ hx143_0)).trans hx143_0
                     replace hx143_1 := (HB.out.cell (World.block_lt_of_cell? w _ hx143_1)).trans hx143_1
                     replace hx143_2 := (HB.out.cell (World.block_lt_of_cell? w _ hx143_2)).trans hx143_2
                     replace p143 := eq_true p143
                     replace q143 := eq_true q143
                     have p144 : 0 ≤ (x8_2 : Int) := oda_
                     have q144 : x8_2 < (l0.length : Int) := oda_
                     obtain ⟨ad144, e144, hx144_0, hx144_1, hx144_2⟩ := at_T54 HR0.out x8_2 p144 q144
                     have hw144_2 := hx144_2
                     have hw144_1 := hx144_1
                     have hw144_0 := hx144_0
                     obtain rfl : ad139 = ad144 := (by injection e144)
                     replace hx144_0 := (HB.out.cell (World.block_lt_of_cell? w _ hx144_0)).trans hx144_0
                     replace hx144_1 := (HB.out.cell (World.block_lt_of_cell? w _ hx144_1)).trans hx144_1
                     replace hx144_2 := (HB.out.cell (World.block_lt_of_cell? w _ hx144_2)).trans hx144_2
                     replace p144 := eq_true p144
                     replace q144 := eq_true q144
                     refine start_ (n := 17) (S := fun w' => w'.cell? (ad139.add (((ji16)).toNat * 3)) = some (.int .i64 ((rd_T54 l0 (ji16)).f0)) ∧ w'.cell? ⟨(ad139.add (((ji16)).toNat * 3)).block, (ad139.add (((ji16)).toNat * 3)).off + 1, none⟩ = some (.string ((rd_T54 l0 (ji16)).f1)) ∧ w'.cell? ⟨(ad139.add (((ji16)).toNat * 3)).block, (ad139.add (((ji16)).toNat * 3)).off + 2, none⟩ = some (.string ((rd_T54 l0 (ji16)).f2)) ∧ w'.cell? (ad139.add ((x8_2).toNat * 3)) = some (.int .i64 ((rd_T54 l0 x8_2).f0)) ∧ w'.cell? ⟨(ad139.add ((x8_2).toNat * 3)).block, (ad139.add ((x8_2).toNat * 3)).off + 1, none⟩ = some (.string ((rd_T54 l0 x8_2).f1)) ∧ w'.cell? ⟨(ad139.add ((x8_2).toNat * 3)).block, (ad139.add ((x8_2).toNat * 3)).off + 2, none⟩ = some (.string ((rd_T54 l0 x8_2).f2))) (ds := []) (bl_ 17 0) (by kernel_rfl) rfl rfl ⟨((HB.out.cell (World.block_lt_of_cell? w _ hw143_0)).trans hw143_0), ((HB.out.cell (World.block_lt_of_cell? w _ hw143_1)).trans hw143_1), ((HB.out.cell (World.block_lt_of_cell? w _ hw143_2)).trans hw143_2), ((HB.out.cell (World.block_lt_of_cell? w _ hw144_0)).trans hw144_0), ((HB.out.cell (World.block_lt_of_cell? w _ hw144_1)).trans hw144_1), ((HB.out.cell (World.block_lt_of_cell? w _ hw144_2)).trans hw144_2)⟩ (fun hHeld => ?_); refine with_tabW w04_ObjectOrder.tab16 w04_ObjectOrder.bits16 (fun HT_ HW_ => ?_)
                     generalize wc.drew = w32 at HB hx143_0 hx143_1 hx143_2 hx144_0 hx144_1 hx144_2 hHeld ⊢
                     refine pv_ 0 67 (bl_ 17 1) ?_
                     refine pv_ 1 68 (bl_ 17 3) ?_
                     refine pv_ 2 69 (bl_ 17 7) ?_
                     refine pv_ 3 70 (bl_ 17 15) ?_
                     refine pv_ 4 71 (bl_ 17 31) ?_
                     refine pv_ 5 72 (bl_ 17 63) ?_
                     refine pv_ 6 73 (bl_ 17 127) ?_
                     refine pv_ 7 74 (bl_ 17 255) ?_
                     refine pv_ 8 75 (bl_ 17 511) ?_
                     refine pv_ 10 77 (bl_ 17 1535) ?_
                     refine pv_ 11 78 (bl_ 17 3583) ?_
                     refine pv_ 12 79 (bl_ 17 7679) ?_
                     refine pv_ 13 80 (bl_ 17 15871) ?_
                     refine tk_ 9 76 (bl_ 17 16383) hHeld (hv := by rintro w' ⟨s0, s1, s2, s3, s4, s5⟩; go_simp; with_reducible rfl) (h := ?_)
                     refine tk_ 14 81 (bl_ 17 32767) hHeld (hv := by rintro w' ⟨s0, s1, s2, s3, s4, s5⟩; go_simp; with_reducible rfl) (h := ?_)
                     refine pv_ 15 82 (bl_ 17 65535) ?_
                     refine pv_ 16 83 (bl_ 17 131071) ?_
                     refine done_ (done_of HT_.out (by kernel_rfl)) ?_
                     try go_wp2
                     go_ret
                     exact ⟨by first | rfl | (simp [errW_none, errW_some] <;> rfl) | (simp only [← hji16, ← hji16]; first | rfl | (simp [errW_none, errW_some] <;> rfl)) | (simp [*, errW_none, errW_some] <;> rfl), bw_⟩
                    ·
                     as_aux_lemma =>
                     rw [if_neg c31] at H
                     have c31b0 : (((rd_T54 l0 (ji16)).f1).toList == ((rd_T54 l0 x8_2).f1).toList) = false := beq_eq_false_iff_ne.mpr c31
                     have c31b1 : (((rd_T54 l0 (ji16)).f1).toList != ((rd_T54 l0 x8_2).f1).toList) = true := bne_iff_ne.mpr c31
                     have H' := Aside0.mk H
                     clear H
                     have p142 : 0 ≤ (x8_2 : Int) := oda_
                     have q142 : x8_2 < (l0.length : Int) := oda_
                     obtain ⟨ad142, e142, hx142_0, hx142_1, hx142_2⟩ := at_T54 HR0.out x8_2 p142 q142
                     obtain rfl : ad139 = ad142 := (by injection e142)
                     replace hx142_0 := (HB.out.cell (World.block_lt_of_cell? w _ hx142_0)).trans hx142_0
                     replace hx142_1 := (HB.out.cell (World.block_lt_of_cell? w _ hx142_1)).trans hx142_1
                     replace hx142_2 := (HB.out.cell (World.block_lt_of_cell? w _ hx142_2)).trans hx142_2
                     replace p142 := eq_true p142
                     replace q142 := eq_true q142
                     try go_wp2
                     have n0_ := Aside0.mk (below_drew1 HB.out)
                     clear HB
                     have HB := n0_
                     clear n0_
                     have p143 : 0 ≤ ((ji16) : Int) := oda_
                     have q143 : (ji16) < (l0.length : Int) := oda_
                     obtain ⟨ad143, e143, hx143_0, hx143_1, hx143_2⟩ := at_T54 HR0.out (ji16) p143 q143
                     have hw143_2 := hx143_2
                     have hw143_1 := hx143_1
                     have hw143_0 := hx143_0
                     obtain rfl : ad139 = ad143 := (by injection e143)
                     replace hx143_0 := (HB.out.cell (World.block_lt_of_cell? w _ hx143_0)).trans hx143_0
                     replace hx143_1 := (HB.out.cell (World.block_lt_of_cell? w _ hx143_1)).trans hx143_1
                     replace hx143_2 := (HB.out.cell (World.block_lt_of_cell? w _ hx143_2)).trans hx143_2
                     replace p143 := eq_true p143
                     replace q143 := eq_true q143
                     have p144 : 0 ≤ (x8_2 : Int) := oda_
                     have q144 : x8_2 < (l0.length : Int) := oda_
                     obtain ⟨ad144, e144, hx144_0, hx144_1, hx144_2⟩ := at_T54 HR0.out x8_2 p144 q144
                     have hw144_2 := hx144_2
                     have hw144_1 := hx144_1
                     have hw144_0 := hx144_0
                     obtain rfl : ad139 = ad144 := (by injection e144)
                     replace hx144_0 := (HB.out.cell (World.block_lt_of_cell? w _ hx144_0)).trans hx144_0
                     replace hx144_1 := (HB.out.cell (World.block_lt_of_cell? w _ hx144_1)).trans hx144_1
                     replace hx144_2 := (HB.out.cell (World.block_lt_of_cell? w _ hx144_2)).trans hx144_2
                     replace p144 := eq_true p144
                     replace q144 := eq_true q144
                     refine start_ (n := 17) (S := fun w' => w'.cell? (ad139.add (((ji16)).toNat * 3)) = some (.int .i64 ((rd_T54 l0 (ji16)).f0)) ∧ w'.cell? ⟨(ad139.add (((ji16)).toNat * 3)).block, (ad139.add (((ji16)).toNat * 3)).off + 1, none⟩ = some (.string ((rd_T54 l0 (ji16)).f1)) ∧ w'.cell? ⟨(ad139.add (((ji16)).toNat * 3)).block, (ad139.add (((ji16)).toNat * 3)).off + 2, none⟩ = some (.string ((rd_T54 l0 (ji16)).f2)) ∧ w'.cell? (ad139.add ((x8_2).toNat * 3)) = some (.int .i64 ((rd_T54 l0 x8_2).f0)) ∧ w'.cell? ⟨(ad139.add ((x8_2).toNat * 3)).block, (ad139.add ((x8_2).toNat * 3)).off + 1, none⟩ = some (.string ((rd_T54 l0 x8_2).f1)) ∧ w'.cell? ⟨(ad139.add ((x8_2).toNat * 3)).block, (ad139.add ((x8_2).toNat * 3)).off + 2, none⟩ = some (.string ((rd_T54 l0 x8_2).f2))) (ds := []) (bl_ 17 0) (by kernel_rfl) rfl rfl ⟨((HB.out.cell (World.block_lt_of_cell? w _ hw143_0)).trans hw143_0), ((HB.out.cell (World.block_lt_of_cell? w _ hw143_1)).trans hw143_1), ((HB.out.cell (World.block_lt_of_cell? w _ hw143_2)).trans hw143_2), ((HB.out.cell (World.block_lt_of_cell? w _ hw144_0)).trans hw144_0), ((HB.out.cell (World.block_lt_of_cell? w _ hw144_1)).trans hw144_1), ((HB.out.cell (World.block_lt_of_cell? w _ hw144_2)).trans hw144_2)⟩ (fun hHeld => ?_); refine with_tabW w04_ObjectOrder.tab16 w04_ObjectOrder.bits16 (fun HT_ HW_ => ?_)
                     generalize wc.drew = w33 at HB hx143_0 hx143_1 hx143_2 hx144_0 hx144_1 hx144_2 hHeld ⊢
                     refine pv_ 0 67 (bl_ 17 1) ?_
                     refine pv_ 1 68 (bl_ 17 3) ?_
                     refine pv_ 2 69 (bl_ 17 7) ?_
                     refine pv_ 3 70 (bl_ 17 15) ?_
                     refine pv_ 4 71 (bl_ 17 31) ?_
                     refine pv_ 5 72 (bl_ 17 63) ?_
                     refine pv_ 6 73 (bl_ 17 127) ?_
                     refine pv_ 7 74 (bl_ 17 255) ?_
                     refine pv_ 8 75 (bl_ 17 511) ?_
                     refine pv_ 10 77 (bl_ 17 1535) ?_
                     refine pv_ 11 78 (bl_ 17 3583) ?_
                     refine pv_ 12 79 (bl_ 17 7679) ?_
                     refine pv_ 13 80 (bl_ 17 15871) ?_
                     refine tk_ 9 76 (bl_ 17 16383) hHeld (hv := by rintro w' ⟨s0, s1, s2, s3, s4, s5⟩; go_simp; with_reducible rfl) (h := ?_)
                     refine tk_ 14 81 (bl_ 17 32767) hHeld (hv := by rintro w' ⟨s0, s1, s2, s3, s4, s5⟩; go_simp; with_reducible rfl) (h := ?_)
                     refine pv_ 15 82 (bl_ 17 65535) ?_
                     refine pv_ 16 83 (bl_ 17 131071) ?_
                     refine done_ (done_of HT_.out (by kernel_rfl)) ?_
                     try go_wp2
                     go_roundg kj19
                     case measure => have := HJ8.out; have := HK2.out; have := HJ19.out; omega
                     case rel => exact ⟨(wrap64 (x8_2 + 1)), sd_, H', ⟨by have := HJ8.out; have := HK2.out; have := HJ19.out; omega⟩, ⟨bw_⟩⟩
                   ·
                    as_aux_lemma =>
                    rw [if_neg c30] at H
                    exact absurd H (by simp)
                  ·
                   as_aux_lemma =>
                   rw [if_neg c29] at H
                   exact absurd H (by simp)
                 ·
                  as_aux_lemma =>
                  rw [if_neg c27] at H
                  have c27b0 : (Op.bytesLess x9_19.toList ((((rd_T54 l0 x8_2).f1) ++ (⟨#[47]⟩ : ByteArray)).toList)) = false := by simpa using c27
                  clear c27
                  obtain rfl := Option.some.inj H
                  have p142 : 0 ≤ (x8_2 : Int) := oda_
                  have q142 : x8_2 < (l0.length : Int) := oda_
                  obtain ⟨ad142, e142, hx142_0, hx142_1, hx142_2⟩ := at_T54 HR0.out x8_2 p142 q142
                  obtain rfl : ad139 = ad142 := (by injection e142)
                  replace hx142_0 := (HB.out.cell (World.block_lt_of_cell? w _ hx142_0)).trans hx142_0
                  replace hx142_1 := (HB.out.cell (World.block_lt_of_cell? w _ hx142_1)).trans hx142_1
                  replace hx142_2 := (HB.out.cell (World.block_lt_of_cell? w _ hx142_2)).trans hx142_2
                  replace p142 := eq_true p142
                  replace q142 := eq_true q142
                  try go_wp2
                  have n0_ := Aside0.mk (below_drew1 HB.out)
                  clear HB
                  have HB := n0_
                  clear n0_
                  refine start_ (n := 17) (S := fun w' => True) (ds := []) (bl_ 17 0) (by kernel_rfl) rfl rfl trivial (fun hHeld => ?_); refine with_tabW w04_ObjectOrder.tab16 w04_ObjectOrder.bits16 (fun HT_ HW_ => ?_)
                  generalize wc.drew = w34 at HB hHeld ⊢
                  refine pv_ 0 67 (bl_ 17 1) ?_
                  refine pv_ 1 68 (bl_ 17 3) ?_
                  refine pv_ 2 69 (bl_ 17 7) ?_
                  refine pv_ 3 70 (bl_ 17 15) ?_
                  refine pu_ 4 71 (bl_ 17 31) ?_
                  refine pu_ 5 72 (bl_ 17 63) ?_
                  refine pu_ 6 73 (bl_ 17 127) ?_
                  refine pu_ 7 74 (bl_ 17 255) ?_
                  refine pu_ 8 75 (bl_ 17 511) ?_
                  refine pu_ 9 76 (bl_ 17 1023) ?_
                  refine pu_ 10 77 (bl_ 17 2047) ?_
                  refine pu_ 11 78 (bl_ 17 4095) ?_
                  refine pu_ 12 79 (bl_ 17 8191) ?_
                  refine pu_ 13 80 (bl_ 17 16383) ?_
                  refine pu_ 14 81 (bl_ 17 32767) ?_
                  refine pu_ 15 82 (bl_ 17 65535) ?_
                  refine pv_ 16 83 (bl_ 17 131071) ?_
                  refine done_ (done_of HT_.out (by kernel_rfl)) ?_
                  try go_wp2
                  go_ret
                  exact ⟨by first | rfl | (simp [errW_none, errW_some] <;> rfl) | (simp only [← hji16]; first | rfl | (simp [errW_none, errW_some] <;> rfl)) | (simp [*, errW_none, errW_some] <;> rfl), bw_⟩
                ·
                 as_aux_lemma =>
                 rw [if_neg c26] at H
                 exact absurd H (by simp)
               ·
                as_aux_lemma =>
                rw [if_neg c25] at H
                have c25b0 : (((rd_T54 l0 x8_2).f0) == 3) = false := beq_eq_false_iff_ne.mpr c25
                have c25b1 : (((rd_T54 l0 x8_2).f0) != 3) = true := bne_iff_ne.mpr c25
                by_cases c35 : ((Op.bytesLess x9_19.toList ((rd_T54 l0 x8_2).f1).toList) = true)
                ·
                 as_aux_lemma =>
                 rw [if_pos c35] at H
                 have c35b0 : (Op.bytesLess x9_19.toList ((rd_T54 l0 x8_2).f1).toList) = true := c35
                 clear c35
                 replace H : (if 0 ≤ (ji16) then (if (ji16) < (l0.length : Int) then (if ((rd_T54 l0 (ji16)).f1).toList = ((rd_T54 l0 x8_2).f1).toList then (some false) else (w04_ObjectOrder.l0 kj19 l0 a1 t101 (wrap64 (x8_2 + 1)))) else (none)) else (none)) = some r := by first | (rw [hji16] at H; exact H) | (simp only [hji16] at H ⊢; exact H)
                 by_cases c37 : 0 ≤ (ji16)
                 ·
                  as_aux_lemma =>
                  rw [if_pos c37] at H
                  have c37b0 : decide (0 ≤ (ji16)) = true := decide_eq_true c37
                  clear c37
                  by_cases c38 : (ji16) < (l0.length : Int)
                  ·
                   as_aux_lemma =>
                   rw [if_pos c38] at H
                   have c38b0 : decide ((ji16) < (l0.length : Int)) = true := decide_eq_true c38
                   clear c38
                   by_cases c39 : ((rd_T54 l0 (ji16)).f1).toList = ((rd_T54 l0 x8_2).f1).toList
                   ·
                    as_aux_lemma =>
                    rw [if_pos c39] at H
                    have c39b0 : (((rd_T54 l0 (ji16)).f1).toList == ((rd_T54 l0 x8_2).f1).toList) = true := beq_iff_eq.mpr c39
                    have c39b1 : (((rd_T54 l0 (ji16)).f1).toList != ((rd_T54 l0 x8_2).f1).toList) = false := bne_eq_false_iff_eq.mpr c39
                    clear c39
                    obtain rfl := Option.some.inj H
                    have p142 : 0 ≤ (x8_2 : Int) := oda_
                    have q142 : x8_2 < (l0.length : Int) := oda_
                    obtain ⟨ad142, e142, hx142_0, hx142_1, hx142_2⟩ := at_T54 HR0.out x8_2 p142 q142
                    obtain rfl : ad139 = ad142 := (by injection e142)
                    replace hx142_0 := (HB.out.cell (World.block_lt_of_cell? w _ hx142_0)).trans hx142_0
                    replace hx142_1 := (HB.out.cell (World.block_lt_of_cell? w _ hx142_1)).trans hx142_1
                    replace hx142_2 := (HB.out.cell (World.block_lt_of_cell? w _ hx142_2)).trans hx142_2
                    replace p142 := eq_true p142
                    replace q142 := eq_true q142
                    try go_wp2
                    have n0_ := Aside0.mk (below_drew1 HB.out)
                    clear HB
                    have HB := n0_
                    clear n0_
                    have p145 : 0 ≤ ((ji16) : Int) := oda_
                    have q145 : (ji16) < (l0.length : Int) := oda_
                    obtain ⟨ad145, e145, hx145_0, hx145_1, hx145_2⟩ := at_T54 HR0.out (ji16) p145 q145
                    have hw145_2 := hx145_2
                    have hw145_1 := hx145_1
                    have hw145_0 := hx145_0
                    obtain rfl : ad139 = ad145 := (by injection e145)
                    replace hx145_0 := (HB.out.cell (World.block_lt_of_cell? w _ hx145_0)).trans hx145_0
                    replace hx145_1 := (HB.out.cell (World.block_lt_of_cell? w _ hx145_1)).trans hx145_1
                    replace hx145_2 := (HB.out.cell (World.block_lt_of_cell? w _ hx145_2)).trans hx145_2
                    replace p145 := eq_true p145
                    replace q145 := eq_true q145
                    have p146 : 0 ≤ (x8_2 : Int) := oda_
                    have q146 : x8_2 < (l0.length : Int) := oda_
                    obtain ⟨ad146, e146, hx146_0, hx146_1, hx146_2⟩ := at_T54 HR0.out x8_2 p146 q146
                    have hw146_2 := hx146_2
                    have hw146_1 := hx146_1
                    have hw146_0 := hx146_0
                    obtain rfl : ad139 = ad146 := (by injection e146)
                    replace hx146_0 := (HB.out.cell (World.block_lt_of_cell? w _ hx146_0)).trans hx146_0
                    replace hx146_1 := (HB.out.cell (World.block_lt_of_cell? w _ hx146_1)).trans hx146_1
                    replace hx146_2 := (HB.out.cell (World.block_lt_of_cell? w _ hx146_2)).trans hx146_2
                    replace p146 := eq_true p146
                    replace q146 := eq_true q146
                    refine start_ (n := 17) (S := fun w' => w'.cell? (ad139.add (((ji16)).toNat * 3)) = some (.int .i64 ((rd_T54 l0 (ji16)).f0)) ∧ w'.cell? ⟨(ad139.add (((ji16)).toNat * 3)).block, (ad139.add (((ji16)).toNat * 3)).off + 1, none⟩ = some (.string ((rd_T54 l0 (ji16)).f1)) ∧ w'.cell? ⟨(ad139.add (((ji16)).toNat * 3)).block, (ad139.add (((ji16)).toNat * 3)).off + 2, none⟩ = some (.string ((rd_T54 l0 (ji16)).f2)) ∧ w'.cell? (ad139.add ((x8_2).toNat * 3)) = some (.int .i64 ((rd_T54 l0 x8_2).f0)) ∧ w'.cell? ⟨(ad139.add ((x8_2).toNat * 3)).block, (ad139.add ((x8_2).toNat * 3)).off + 1, none⟩ = some (.string ((rd_T54 l0 x8_2).f1)) ∧ w'.cell? ⟨(ad139.add ((x8_2).toNat * 3)).block, (ad139.add ((x8_2).toNat * 3)).off + 2, none⟩ = some (.string ((rd_T54 l0 x8_2).f2))) (ds := []) (bl_ 17 0) (by kernel_rfl) rfl rfl ⟨((HB.out.cell (World.block_lt_of_cell? w _ hw145_0)).trans hw145_0), ((HB.out.cell (World.block_lt_of_cell? w _ hw145_1)).trans hw145_1), ((HB.out.cell (World.block_lt_of_cell? w _ hw145_2)).trans hw145_2), ((HB.out.cell (World.block_lt_of_cell? w _ hw146_0)).trans hw146_0), ((HB.out.cell (World.block_lt_of_cell? w _ hw146_1)).trans hw146_1), ((HB.out.cell (World.block_lt_of_cell? w _ hw146_2)).trans hw146_2)⟩ (fun hHeld => ?_); refine with_tabW w04_ObjectOrder.tab16 w04_ObjectOrder.bits16 (fun HT_ HW_ => ?_)
                    generalize wc.drew = w40 at HB hx145_0 hx145_1 hx145_2 hx146_0 hx146_1 hx146_2 hHeld ⊢
                    refine pv_ 0 67 (bl_ 17 1) ?_
                    refine pv_ 1 68 (bl_ 17 3) ?_
                    refine pv_ 2 69 (bl_ 17 7) ?_
                    refine pv_ 3 70 (bl_ 17 15) ?_
                    refine pv_ 4 71 (bl_ 17 31) ?_
                    refine pv_ 5 72 (bl_ 17 63) ?_
                    refine pv_ 6 73 (bl_ 17 127) ?_
                    refine pv_ 7 74 (bl_ 17 255) ?_
                    refine pv_ 8 75 (bl_ 17 511) ?_
                    refine pv_ 10 77 (bl_ 17 1535) ?_
                    refine pv_ 11 78 (bl_ 17 3583) ?_
                    refine pv_ 12 79 (bl_ 17 7679) ?_
                    refine pv_ 13 80 (bl_ 17 15871) ?_
                    refine tk_ 9 76 (bl_ 17 16383) hHeld (hv := by rintro w' ⟨s0, s1, s2, s3, s4, s5⟩; go_simp; with_reducible rfl) (h := ?_)
                    refine tk_ 14 81 (bl_ 17 32767) hHeld (hv := by rintro w' ⟨s0, s1, s2, s3, s4, s5⟩; go_simp; with_reducible rfl) (h := ?_)
                    refine pv_ 15 82 (bl_ 17 65535) ?_
                    refine pv_ 16 83 (bl_ 17 131071) ?_
                    refine done_ (done_of HT_.out (by kernel_rfl)) ?_
                    try go_wp2
                    go_ret
                    exact ⟨by first | rfl | (simp [errW_none, errW_some] <;> rfl) | (simp only [← hji16, ← hji16]; first | rfl | (simp [errW_none, errW_some] <;> rfl)) | (simp [*, errW_none, errW_some] <;> rfl), bw_⟩
                   ·
                    as_aux_lemma =>
                    rw [if_neg c39] at H
                    have c39b0 : (((rd_T54 l0 (ji16)).f1).toList == ((rd_T54 l0 x8_2).f1).toList) = false := beq_eq_false_iff_ne.mpr c39
                    have c39b1 : (((rd_T54 l0 (ji16)).f1).toList != ((rd_T54 l0 x8_2).f1).toList) = true := bne_iff_ne.mpr c39
                    have H' := Aside0.mk H
                    clear H
                    have p142 : 0 ≤ (x8_2 : Int) := oda_
                    have q142 : x8_2 < (l0.length : Int) := oda_
                    obtain ⟨ad142, e142, hx142_0, hx142_1, hx142_2⟩ := at_T54 HR0.out x8_2 p142 q142
                    obtain rfl : ad139 = ad142 := (by injection e142)
                    replace hx142_0 := (HB.out.cell (World.block_lt_of_cell? w _ hx142_0)).trans hx142_0
                    replace hx142_1 := (HB.out.cell (World.block_lt_of_cell? w _ hx142_1)).trans hx142_1
                    replace hx142_2 := (HB.out.cell (World.block_lt_of_cell? w _ hx142_2)).trans hx142_2
                    replace p142 := eq_true p142
                    replace q142 := eq_true q142
                    try go_wp2
                    have n0_ := Aside0.mk (below_drew1 HB.out)
                    clear HB
                    have HB := n0_
                    clear n0_
                    have p145 : 0 ≤ ((ji16) : Int) := oda_
                    have q145 : (ji16) < (l0.length : Int) := oda_
                    obtain ⟨ad145, e145, hx145_0, hx145_1, hx145_2⟩ := at_T54 HR0.out (ji16) p145 q145
                    have hw145_2 := hx145_2
                    have hw145_1 := hx145_1
                    have hw145_0 := hx145_0
                    obtain rfl : ad139 = ad145 := (by injection e145)
                    replace hx145_0 := (HB.out.cell (World.block_lt_of_cell? w _ hx145_0)).trans hx145_0
                    replace hx145_1 := (HB.out.cell (World.block_lt_of_cell? w _ hx145_1)).trans hx145_1
                    replace hx145_2 := (HB.out.cell (World.block_lt_of_cell? w _ hx145_2)).trans hx145_2
                    replace p145 := eq_true p145
                    replace q145 := eq_true q145
                    have p146 : 0 ≤ (x8_2 : Int) := oda_
                    have q146 : x8_2 < (l0.length : Int) := oda_
                    obtain ⟨ad146, e146, hx146_0, hx146_1, hx146_2⟩ := at_T54 HR0.out x8_2 p146 q146
                    have hw146_2 := hx146_2
                    have hw146_1 := hx146_1
                    have hw146_0 := hx146_0
                    obtain rfl : ad139 = ad146 := (by injection e146)
                    replace hx146_0 := (HB.out.cell (World.block_lt_of_cell? w _ hx146_0)).trans hx146_0
                    replace hx146_1 := (HB.out.cell (World.block_lt_of_cell? w _ hx146_1)).trans hx146_1
                    replace hx146_2 := (HB.out.cell (World.block_lt_of_cell? w _ hx146_2)).trans hx146_2
                    replace p146 := eq_true p146
                    replace q146 := eq_true q146
                    refine start_ (n := 17) (S := fun w' => w'.cell? (ad139.add (((ji16)).toNat * 3)) = some (.int .i64 ((rd_T54 l0 (ji16)).f0)) ∧ w'.cell? ⟨(ad139.add (((ji16)).toNat * 3)).block, (ad139.add (((ji16)).toNat * 3)).off + 1, none⟩ = some (.string ((rd_T54 l0 (ji16)).f1)) ∧ w'.cell? ⟨(ad139.add (((ji16)).toNat * 3)).block, (ad139.add (((ji16)).toNat * 3)).off + 2, none⟩ = some (.string ((rd_T54 l0 (ji16)).f2)) ∧ w'.cell? (ad139.add ((x8_2).toNat * 3)) = some (.int .i64 ((rd_T54 l0 x8_2).f0)) ∧ w'.cell? ⟨(ad139.add ((x8_2).toNat * 3)).block, (ad139.add ((x8_2).toNat * 3)).off + 1, none⟩ = some (.string ((rd_T54 l0 x8_2).f1)) ∧ w'.cell? ⟨(ad139.add ((x8_2).toNat * 3)).block, (ad139.add ((x8_2).toNat * 3)).off + 2, none⟩ = some (.string ((rd_T54 l0 x8_2).f2))) (ds := []) (bl_ 17 0) (by kernel_rfl) rfl rfl ⟨((HB.out.cell (World.block_lt_of_cell? w _ hw145_0)).trans hw145_0), ((HB.out.cell (World.block_lt_of_cell? w _ hw145_1)).trans hw145_1), ((HB.out.cell (World.block_lt_of_cell? w _ hw145_2)).trans hw145_2), ((HB.out.cell (World.block_lt_of_cell? w _ hw146_0)).trans hw146_0), ((HB.out.cell (World.block_lt_of_cell? w _ hw146_1)).trans hw146_1), ((HB.out.cell (World.block_lt_of_cell? w _ hw146_2)).trans hw146_2)⟩ (fun hHeld => ?_); refine with_tabW w04_ObjectOrder.tab16 w04_ObjectOrder.bits16 (fun HT_ HW_ => ?_)
                    generalize wc.drew = w41 at HB hx145_0 hx145_1 hx145_2 hx146_0 hx146_1 hx146_2 hHeld ⊢
                    refine pv_ 0 67 (bl_ 17 1) ?_
                    refine pv_ 1 68 (bl_ 17 3) ?_
                    refine pv_ 2 69 (bl_ 17 7) ?_
                    refine pv_ 3 70 (bl_ 17 15) ?_
                    refine pv_ 4 71 (bl_ 17 31) ?_
                    refine pv_ 5 72 (bl_ 17 63) ?_
                    refine pv_ 6 73 (bl_ 17 127) ?_
                    refine pv_ 7 74 (bl_ 17 255) ?_
                    refine pv_ 8 75 (bl_ 17 511) ?_
                    refine pv_ 10 77 (bl_ 17 1535) ?_
                    refine pv_ 11 78 (bl_ 17 3583) ?_
                    refine pv_ 12 79 (bl_ 17 7679) ?_
                    refine pv_ 13 80 (bl_ 17 15871) ?_
                    refine tk_ 9 76 (bl_ 17 16383) hHeld (hv := by rintro w' ⟨s0, s1, s2, s3, s4, s5⟩; go_simp; with_reducible rfl) (h := ?_)
                    refine tk_ 14 81 (bl_ 17 32767) hHeld (hv := by rintro w' ⟨s0, s1, s2, s3, s4, s5⟩; go_simp; with_reducible rfl) (h := ?_)
                    refine pv_ 15 82 (bl_ 17 65535) ?_
                    refine pv_ 16 83 (bl_ 17 131071) ?_
                    refine done_ (done_of HT_.out (by kernel_rfl)) ?_
                    try go_wp2
                    go_roundg kj19
                    case measure => have := HJ8.out; have := HK2.out; have := HJ19.out; omega
                    case rel => exact ⟨(wrap64 (x8_2 + 1)), sd_, H', ⟨by have := HJ8.out; have := HK2.out; have := HJ19.out; omega⟩, ⟨bw_⟩⟩
                  ·
                   as_aux_lemma =>
                   rw [if_neg c38] at H
                   exact absurd H (by simp)
                 ·
                  as_aux_lemma =>
                  rw [if_neg c37] at H
                  exact absurd H (by simp)
                ·
                 as_aux_lemma =>
                 rw [if_neg c35] at H
                 have c35b0 : (Op.bytesLess x9_19.toList ((rd_T54 l0 x8_2).f1).toList) = false := by simpa using c35
                 clear c35
                 obtain rfl := Option.some.inj H
                 have p142 : 0 ≤ (x8_2 : Int) := oda_
                 have q142 : x8_2 < (l0.length : Int) := oda_
                 obtain ⟨ad142, e142, hx142_0, hx142_1, hx142_2⟩ := at_T54 HR0.out x8_2 p142 q142
                 obtain rfl : ad139 = ad142 := (by injection e142)
                 replace hx142_0 := (HB.out.cell (World.block_lt_of_cell? w _ hx142_0)).trans hx142_0
                 replace hx142_1 := (HB.out.cell (World.block_lt_of_cell? w _ hx142_1)).trans hx142_1
                 replace hx142_2 := (HB.out.cell (World.block_lt_of_cell? w _ hx142_2)).trans hx142_2
                 replace p142 := eq_true p142
                 replace q142 := eq_true q142
                 try go_wp2
                 have n0_ := Aside0.mk (below_drew1 HB.out)
                 clear HB
                 have HB := n0_
                 clear n0_
                 refine start_ (n := 17) (S := fun w' => True) (ds := []) (bl_ 17 0) (by kernel_rfl) rfl rfl trivial (fun hHeld => ?_); refine with_tabW w04_ObjectOrder.tab16 w04_ObjectOrder.bits16 (fun HT_ HW_ => ?_)
                 generalize wc.drew = w42 at HB hHeld ⊢
                 refine pv_ 0 67 (bl_ 17 1) ?_
                 refine pv_ 1 68 (bl_ 17 3) ?_
                 refine pv_ 2 69 (bl_ 17 7) ?_
                 refine pv_ 3 70 (bl_ 17 15) ?_
                 refine pu_ 4 71 (bl_ 17 31) ?_
                 refine pu_ 5 72 (bl_ 17 63) ?_
                 refine pu_ 6 73 (bl_ 17 127) ?_
                 refine pu_ 7 74 (bl_ 17 255) ?_
                 refine pu_ 8 75 (bl_ 17 511) ?_
                 refine pu_ 9 76 (bl_ 17 1023) ?_
                 refine pu_ 10 77 (bl_ 17 2047) ?_
                 refine pu_ 11 78 (bl_ 17 4095) ?_
                 refine pu_ 12 79 (bl_ 17 8191) ?_
                 refine pu_ 13 80 (bl_ 17 16383) ?_
                 refine pu_ 14 81 (bl_ 17 32767) ?_
                 refine pu_ 15 82 (bl_ 17 65535) ?_
                 refine pv_ 16 83 (bl_ 17 131071) ?_
                 refine done_ (done_of HT_.out (by kernel_rfl)) ?_
                 try go_wp2
                 go_ret
                 exact ⟨by first | rfl | (simp [errW_none, errW_some] <;> rfl) | (simp only [← hji16]; first | rfl | (simp [errW_none, errW_some] <;> rfl)) | (simp [*, errW_none, errW_some] <;> rfl), bw_⟩
              ·
               as_aux_lemma =>
               rw [if_neg c24] at H
               exact absurd H (by simp)
             ·
              as_aux_lemma =>
              rw [if_neg c23] at H
              exact absurd H (by simp)
          ·
           as_aux_lemma =>
           rw [if_neg c19] at H
           exact absurd H (by simp)
         ·
          as_aux_lemma =>
          rw [if_neg c18] at H
          exact absurd H (by simp)
        ·
         as_aux_lemma =>
         rw [if_neg c17] at H
         exact absurd H (by simp)
       ·
        as_aux_lemma =>
        rw [if_neg c15] at H
        have c15b0 : decide (x8_2 < (l0.length : Int)) = false := decide_eq_false c15
        clear c15
        by_cases c43 : (l0.length : Int) = 0
        ·
         as_aux_lemma =>
         rw [if_pos c43] at H
         exact absurd H (by simp)
        ·
         as_aux_lemma =>
         rw [if_neg c43] at H
         have c43b0 : ((l0.length : Int) == 0) = false := beq_eq_false_iff_ne.mpr c43
         have c43b1 : ((l0.length : Int) != 0) = true := bne_iff_ne.mpr c43
         have c43b2 : ¬ (l0 = []) := fun h_ => c43 (by rw [h_]; rfl)
         obtain ⟨y105, hy105⟩ : ∃ y_ : List (S54), y_ = (([] : List (S54))) := ⟨_, rfl⟩
         replace H : (if 0 ≤ (Int.tmod (wrap64 (a1)) (l0.length : Int)) then (if (Int.tmod (wrap64 (a1)) (l0.length : Int)) ≤ (l0.length : Int) then ((some (l0.take ((Int.tmod (wrap64 (a1)) (l0.length : Int)) : Int).toNat : List (S54))).bind fun y108 => (if y105.length + y108.length < 3518437208883 then ((some (y105 ++ y108 : List (S54))).bind fun y112 => (if 0 ≤ (wrap64 ((Int.tmod (wrap64 (a1)) (l0.length : Int)) + 1)) then (if (wrap64 ((Int.tmod (wrap64 (a1)) (l0.length : Int)) + 1)) ≤ (l0.length : Int) then ((some (l0.drop ((wrap64 ((Int.tmod (wrap64 (a1)) (l0.length : Int)) + 1)) : Int).toNat : List (S54))).bind fun y115 => (if y112.length + y115.length < 3518437208883 then ((Ob.Gv.putTree.f (y112 ++ y115)).bind fun bt122 => ((some (([] : List (S54)) : List (S54))).bind fun y124 => (if y124.length + l0.length < 3518437208883 then ((some (y124 ++ l0 : List (S54))).bind fun y127 => (if (Int.tmod (wrap64 (a1)) (l0.length : Int)) < (l0.length : Int) then ((some (([(⟨(rd_T54 l0 (Int.tmod (wrap64 (a1)) (l0.length : Int))).f0, (rd_T54 l0 (Int.tmod (wrap64 (a1)) (l0.length : Int))).f1, (rd_T54 l0 (Int.tmod (wrap64 (a1)) (l0.length : Int))).f2⟩ : S54)] : List (S54)) : List (S54))).bind fun y131 => (if y127.length + y131.length < 3518437208883 then ((Ob.Gv.putTree.f (y127 ++ y131)).bind fun bt137 => (if t101 = true then (if bt122.2 = true then (some (!bt137.2)) else (some false)) else (some false))) else (none))) else (none))) else (none)))) else (none))) else (none)) else (none))) else (none))) else (none)) else (none)) = some r := by first | (rw [hy105]; with_reducible exact H) | (have H2_ := (Option.bind_some _ _).symm.trans H; rw [hy105]; with_reducible exact H2_) | (have H2_ := (Option.bind_some _ _).symm.trans H; with_reducible exact H2_) | with_reducible exact H | (rw [hy105]; exact H) | exact H
         have Ny105 := Aside0.mk hy105
         clear hy105
         obtain ⟨ji44, hji44⟩ : ∃ j_ : Int, (Int.tmod (wrap64 (a1)) (l0.length : Int)) = j_ := ⟨_, rfl⟩
         replace H : (if 0 ≤ (ji44) then (if (ji44) ≤ (l0.length : Int) then ((some (l0.take ((ji44) : Int).toNat : List (S54))).bind fun y108 => (if y105.length + y108.length < 3518437208883 then ((some (y105 ++ y108 : List (S54))).bind fun y112 => (if 0 ≤ (wrap64 ((ji44) + 1)) then (if (wrap64 ((ji44) + 1)) ≤ (l0.length : Int) then ((some (l0.drop ((wrap64 ((ji44) + 1)) : Int).toNat : List (S54))).bind fun y115 => (if y112.length + y115.length < 3518437208883 then ((Ob.Gv.putTree.f (y112 ++ y115)).bind fun bt122 => ((some (([] : List (S54)) : List (S54))).bind fun y124 => (if y124.length + l0.length < 3518437208883 then ((some (y124 ++ l0 : List (S54))).bind fun y127 => (if (ji44) < (l0.length : Int) then ((some (([(⟨(rd_T54 l0 (ji44)).f0, (rd_T54 l0 (ji44)).f1, (rd_T54 l0 (ji44)).f2⟩ : S54)] : List (S54)) : List (S54))).bind fun y131 => (if y127.length + y131.length < 3518437208883 then ((Ob.Gv.putTree.f (y127 ++ y131)).bind fun bt137 => (if t101 = true then (if bt122.2 = true then (some (!bt137.2)) else (some false)) else (some false))) else (none))) else (none))) else (none)))) else (none))) else (none)) else (none))) else (none))) else (none)) else (none)) = some r := by first | (rw [hji44] at H; exact H) | (simp only [hji44] at H ⊢; exact H)
         by_cases c45 : 0 ≤ (ji44)
         ·
          as_aux_lemma =>
          rw [if_pos c45] at H
          have c45b0 := eq_true c45
          have c45b1 : decide (0 ≤ (ji44)) = true := decide_eq_true c45
          clear c45
          by_cases c46 : (ji44) ≤ (l0.length : Int)
          ·
           as_aux_lemma =>
           rw [if_pos c46] at H
           have c46b0 := eq_true c46
           have c46b1 : decide ((ji44) ≤ (l0.length : Int)) = true := decide_eq_true c46
           clear c46
           obtain ⟨y108, hy108⟩ : ∃ y_ : List (S54), y_ = (l0.take ((ji44) : Int).toNat) := ⟨_, rfl⟩
           replace H : (if y105.length + y108.length < 3518437208883 then ((some (y105 ++ y108 : List (S54))).bind fun y112 => (if 0 ≤ (wrap64 ((ji44) + 1)) then (if (wrap64 ((ji44) + 1)) ≤ (l0.length : Int) then ((some (l0.drop ((wrap64 ((ji44) + 1)) : Int).toNat : List (S54))).bind fun y115 => (if y112.length + y115.length < 3518437208883 then ((Ob.Gv.putTree.f (y112 ++ y115)).bind fun bt122 => ((some (([] : List (S54)) : List (S54))).bind fun y124 => (if y124.length + l0.length < 3518437208883 then ((some (y124 ++ l0 : List (S54))).bind fun y127 => (if (ji44) < (l0.length : Int) then ((some (([(⟨(rd_T54 l0 (ji44)).f0, (rd_T54 l0 (ji44)).f1, (rd_T54 l0 (ji44)).f2⟩ : S54)] : List (S54)) : List (S54))).bind fun y131 => (if y127.length + y131.length < 3518437208883 then ((Ob.Gv.putTree.f (y127 ++ y131)).bind fun bt137 => (if t101 = true then (if bt122.2 = true then (some (!bt137.2)) else (some false)) else (some false))) else (none))) else (none))) else (none)))) else (none))) else (none)) else (none))) else (none)) = some r := by first | (rw [hy108]; with_reducible exact H) | (have H2_ := (Option.bind_some _ _).symm.trans H; rw [hy108]; with_reducible exact H2_) | (have H2_ := (Option.bind_some _ _).symm.trans H; with_reducible exact H2_) | with_reducible exact H | (rw [hy108]; exact H) | exact H
           have Ny108 := Aside0.mk hy108
           clear hy108
           by_cases c47 : y105.length + y108.length < 3518437208883
           ·
            as_aux_lemma =>
            rw [if_pos c47] at H
            have LMc47 := Aside0.mk c47
            clear c47
            obtain ⟨y112, hy112⟩ : ∃ y_ : List (S54), y_ = (y105 ++ y108) := ⟨_, rfl⟩
            replace H : (if 0 ≤ (wrap64 ((ji44) + 1)) then (if (wrap64 ((ji44) + 1)) ≤ (l0.length : Int) then ((some (l0.drop ((wrap64 ((ji44) + 1)) : Int).toNat : List (S54))).bind fun y115 => (if y112.length + y115.length < 3518437208883 then ((Ob.Gv.putTree.f (y112 ++ y115)).bind fun bt122 => ((some (([] : List (S54)) : List (S54))).bind fun y124 => (if y124.length + l0.length < 3518437208883 then ((some (y124 ++ l0 : List (S54))).bind fun y127 => (if (ji44) < (l0.length : Int) then ((some (([(⟨(rd_T54 l0 (ji44)).f0, (rd_T54 l0 (ji44)).f1, (rd_T54 l0 (ji44)).f2⟩ : S54)] : List (S54)) : List (S54))).bind fun y131 => (if y127.length + y131.length < 3518437208883 then ((Ob.Gv.putTree.f (y127 ++ y131)).bind fun bt137 => (if t101 = true then (if bt122.2 = true then (some (!bt137.2)) else (some false)) else (some false))) else (none))) else (none))) else (none)))) else (none))) else (none)) else (none)) = some r := by first | (rw [hy112]; with_reducible exact H) | (have H2_ := (Option.bind_some _ _).symm.trans H; rw [hy112]; with_reducible exact H2_) | (have H2_ := (Option.bind_some _ _).symm.trans H; with_reducible exact H2_) | with_reducible exact H | (rw [hy112]; exact H) | exact H
            have Ny112 := Aside0.mk hy112
            clear hy112
            obtain ⟨ji48, hji48⟩ : ∃ j_ : Int, (wrap64 ((ji44) + 1)) = j_ := ⟨_, rfl⟩
            replace H : (if 0 ≤ (ji48) then (if (ji48) ≤ (l0.length : Int) then ((some (l0.drop ((ji48) : Int).toNat : List (S54))).bind fun y115 => (if y112.length + y115.length < 3518437208883 then ((Ob.Gv.putTree.f (y112 ++ y115)).bind fun bt122 => ((some (([] : List (S54)) : List (S54))).bind fun y124 => (if y124.length + l0.length < 3518437208883 then ((some (y124 ++ l0 : List (S54))).bind fun y127 => (if (ji44) < (l0.length : Int) then ((some (([(⟨(rd_T54 l0 (ji44)).f0, (rd_T54 l0 (ji44)).f1, (rd_T54 l0 (ji44)).f2⟩ : S54)] : List (S54)) : List (S54))).bind fun y131 => (if y127.length + y131.length < 3518437208883 then ((Ob.Gv.putTree.f (y127 ++ y131)).bind fun bt137 => (if t101 = true then (if bt122.2 = true then (some (!bt137.2)) else (some false)) else (some false))) else (none))) else (none))) else (none)))) else (none))) else (none)) else (none)) = some r := by first | (rw [hji48] at H; exact H) | (simp only [hji48] at H ⊢; exact H)
            have hji48w : (IntKind.i64.wrap ((ji44) + 1)) = ji48 := (i64_w _).trans hji48
            by_cases c49 : 0 ≤ (ji48)
            ·
             as_aux_lemma =>
             rw [if_pos c49] at H
             have c49b0 := eq_true c49
             have c49b1 : decide (0 ≤ (ji48)) = true := decide_eq_true c49
             clear c49
             by_cases c50 : (ji48) ≤ (l0.length : Int)
             ·
              as_aux_lemma =>
              rw [if_pos c50] at H
              have c50b0 := eq_true c50
              have c50b1 : decide ((ji48) ≤ (l0.length : Int)) = true := decide_eq_true c50
              clear c50
              obtain ⟨y115, hy115⟩ : ∃ y_ : List (S54), y_ = (l0.drop ((ji48) : Int).toNat) := ⟨_, rfl⟩
              replace H : (if y112.length + y115.length < 3518437208883 then ((Ob.Gv.putTree.f (y112 ++ y115)).bind fun bt122 => ((some (([] : List (S54)) : List (S54))).bind fun y124 => (if y124.length + l0.length < 3518437208883 then ((some (y124 ++ l0 : List (S54))).bind fun y127 => (if (ji44) < (l0.length : Int) then ((some (([(⟨(rd_T54 l0 (ji44)).f0, (rd_T54 l0 (ji44)).f1, (rd_T54 l0 (ji44)).f2⟩ : S54)] : List (S54)) : List (S54))).bind fun y131 => (if y127.length + y131.length < 3518437208883 then ((Ob.Gv.putTree.f (y127 ++ y131)).bind fun bt137 => (if t101 = true then (if bt122.2 = true then (some (!bt137.2)) else (some false)) else (some false))) else (none))) else (none))) else (none)))) else (none)) = some r := by first | (rw [hy115]; with_reducible exact H) | (have H2_ := (Option.bind_some _ _).symm.trans H; rw [hy115]; with_reducible exact H2_) | (have H2_ := (Option.bind_some _ _).symm.trans H; with_reducible exact H2_) | with_reducible exact H | (rw [hy115]; exact H) | exact H
              have Ny115 := Aside0.mk hy115
              clear hy115
              by_cases c51 : y112.length + y115.length < 3518437208883
              ·
               as_aux_lemma =>
               rw [if_pos c51] at H
               have LMc51 := Aside0.mk c51
               clear c51
               obtain ⟨y119, hy119⟩ : ∃ y_ : List (S54), y_ = (y112 ++ y115) := ⟨_, rfl⟩
               replace H : ((Ob.Gv.putTree.f y119).bind fun bt122 => ((some (([] : List (S54)) : List (S54))).bind fun y124 => (if y124.length + l0.length < 3518437208883 then ((some (y124 ++ l0 : List (S54))).bind fun y127 => (if (ji44) < (l0.length : Int) then ((some (([(⟨(rd_T54 l0 (ji44)).f0, (rd_T54 l0 (ji44)).f1, (rd_T54 l0 (ji44)).f2⟩ : S54)] : List (S54)) : List (S54))).bind fun y131 => (if y127.length + y131.length < 3518437208883 then ((Ob.Gv.putTree.f (y127 ++ y131)).bind fun bt137 => (if t101 = true then (if bt122.2 = true then (some (!bt137.2)) else (some false)) else (some false))) else (none))) else (none))) else (none)))) = some r := by first | (rw [hy119]; with_reducible exact H) | (have H2_ := (Option.bind_some _ _).symm.trans H; rw [hy119]; with_reducible exact H2_) | (have H2_ := (Option.bind_some _ _).symm.trans H; with_reducible exact H2_) | with_reducible exact H | (rw [hy119]; exact H) | exact H
               have Ny119 := Aside0.mk hy119
               clear hy119
               replace H := Option.bind_eq_some_iff.mp H
               obtain ⟨⟨t122, t123⟩, A520, H⟩ := H
               replace H : ((some (([] : List (S54)) : List (S54))).bind fun y124 => (if y124.length + l0.length < 3518437208883 then ((some (y124 ++ l0 : List (S54))).bind fun y127 => (if (ji44) < (l0.length : Int) then ((some (([(⟨(rd_T54 l0 (ji44)).f0, (rd_T54 l0 (ji44)).f1, (rd_T54 l0 (ji44)).f2⟩ : S54)] : List (S54)) : List (S54))).bind fun y131 => (if y127.length + y131.length < 3518437208883 then ((Ob.Gv.putTree.f (y127 ++ y131)).bind fun bt137 => (if t101 = true then (if t123 = true then (some (!bt137.2)) else (some false)) else (some false))) else (none))) else (none))) else (none))) = some r := H
               have A52 := Aside0.mk A520
               clear A520
               obtain ⟨y124, hy124⟩ : ∃ y_ : List (S54), y_ = (([] : List (S54))) := ⟨_, rfl⟩
               replace H : (if y124.length + l0.length < 3518437208883 then ((some (y124 ++ l0 : List (S54))).bind fun y127 => (if (ji44) < (l0.length : Int) then ((some (([(⟨(rd_T54 l0 (ji44)).f0, (rd_T54 l0 (ji44)).f1, (rd_T54 l0 (ji44)).f2⟩ : S54)] : List (S54)) : List (S54))).bind fun y131 => (if y127.length + y131.length < 3518437208883 then ((Ob.Gv.putTree.f (y127 ++ y131)).bind fun bt137 => (if t101 = true then (if t123 = true then (some (!bt137.2)) else (some false)) else (some false))) else (none))) else (none))) else (none)) = some r := by first | (rw [hy124]; with_reducible exact H) | (have H2_ := (Option.bind_some _ _).symm.trans H; rw [hy124]; with_reducible exact H2_) | (have H2_ := (Option.bind_some _ _).symm.trans H; with_reducible exact H2_) | with_reducible exact H | (rw [hy124]; exact H) | exact H
               have Ny124 := Aside0.mk hy124
               clear hy124
               by_cases c53 : y124.length + l0.length < 3518437208883
               ·
                as_aux_lemma =>
                rw [if_pos c53] at H
                have LMc53 := Aside0.mk c53
                clear c53
                obtain ⟨y127, hy127⟩ : ∃ y_ : List (S54), y_ = (y124 ++ l0) := ⟨_, rfl⟩
                replace H : (if (ji44) < (l0.length : Int) then ((some (([(⟨(rd_T54 l0 (ji44)).f0, (rd_T54 l0 (ji44)).f1, (rd_T54 l0 (ji44)).f2⟩ : S54)] : List (S54)) : List (S54))).bind fun y131 => (if y127.length + y131.length < 3518437208883 then ((Ob.Gv.putTree.f (y127 ++ y131)).bind fun bt137 => (if t101 = true then (if t123 = true then (some (!bt137.2)) else (some false)) else (some false))) else (none))) else (none)) = some r := by first | (rw [hy127]; with_reducible exact H) | (have H2_ := (Option.bind_some _ _).symm.trans H; rw [hy127]; with_reducible exact H2_) | (have H2_ := (Option.bind_some _ _).symm.trans H; with_reducible exact H2_) | with_reducible exact H | (rw [hy127]; exact H) | exact H
                have Ny127 := Aside0.mk hy127
                clear hy127
                by_cases c54 : (ji44) < (l0.length : Int)
                ·
                 as_aux_lemma =>
                 rw [if_pos c54] at H
                 have c54b0 : decide ((ji44) < (l0.length : Int)) = true := decide_eq_true c54
                 clear c54
                 obtain ⟨y131, hy131⟩ : ∃ y_ : List (S54), y_ = (([(⟨(rd_T54 l0 (ji44)).f0, (rd_T54 l0 (ji44)).f1, (rd_T54 l0 (ji44)).f2⟩ : S54)] : List (S54))) := ⟨_, rfl⟩
                 replace H : (if y127.length + y131.length < 3518437208883 then ((Ob.Gv.putTree.f (y127 ++ y131)).bind fun bt137 => (if t101 = true then (if t123 = true then (some (!bt137.2)) else (some false)) else (some false))) else (none)) = some r := by first | (rw [hy131]; with_reducible exact H) | (have H2_ := (Option.bind_some _ _).symm.trans H; rw [hy131]; with_reducible exact H2_) | (have H2_ := (Option.bind_some _ _).symm.trans H; with_reducible exact H2_) | with_reducible exact H | (rw [hy131]; exact H) | exact H
                 have Ny131 := Aside0.mk hy131
                 clear hy131
                 by_cases c55 : y127.length + y131.length < 3518437208883
                 ·
                  as_aux_lemma =>
                  rw [if_pos c55] at H
                  have LMc55 := Aside0.mk c55
                  clear c55
                  obtain ⟨y134, hy134⟩ : ∃ y_ : List (S54), y_ = (y127 ++ y131) := ⟨_, rfl⟩
                  replace H : ((Ob.Gv.putTree.f y134).bind fun bt137 => (if t101 = true then (if t123 = true then (some (!bt137.2)) else (some false)) else (some false))) = some r := by first | (rw [hy134]; with_reducible exact H) | (have H2_ := (Option.bind_some _ _).symm.trans H; rw [hy134]; with_reducible exact H2_) | (have H2_ := (Option.bind_some _ _).symm.trans H; with_reducible exact H2_) | with_reducible exact H | (rw [hy134]; exact H) | exact H
                  have Ny134 := Aside0.mk hy134
                  clear hy134
                  replace H := Option.bind_eq_some_iff.mp H
                  obtain ⟨⟨t137, t138⟩, A560, H⟩ := H
                  replace H : (if t101 = true then (if t123 = true then (some (!t138)) else (some false)) else (some false)) = some r := H
                  have A56 := Aside0.mk A560
                  clear A560
                  by_cases c57 : t101 = true
                  ·
                   as_aux_lemma =>
                   subst c57
                   have H1 : (if t123 = true then (some (!t138)) else (some false)) = some r := by rw [if_pos rfl] at H; exact H
                   clear H
                   have H := H1
                   clear H1
                   by_cases c58 : t123 = true
                   ·
                    as_aux_lemma =>
                    subst c58
                    have H1 : (some (!t138)) = some r := by rw [if_pos rfl] at H; exact H
                    clear H
                    have H := H1
                    clear H1
                    obtain rfl := Option.some.inj H
                    try go_wp2
                    have n0_ := Aside0.mk (below_drew1 HB.out)
                    clear HB
                    have HB := n0_
                    clear n0_
                    have q60 : ((ji44) : Int) ≤ ((l0.length : Int) : Int) := oda_
                    obtain ⟨i060, hi060, _, hsz60, _⟩ := info_parts info54
                    have hroom60 : l0.length ≤ c0 := HC0.out
                    have hC60 : Kd.C k54 _ A0 l0.length l0 := HR0.out
                    have hcut60 := cut_to (P := Tryz.prog) 30 54 .i64 Tryz.underlying30 hi060 A0 l0.length c0 (ji44) (oda_) q60 hroom60
                    have hr60 := Kd.C_take (m := ((ji44) : Int).toNat) hC60 (by omega)
                    have hy60 : y108.length = ((ji44) : Int).toNat := (by rw [Ny108.out, List.length_take]; omega)
                    rw [← Ny108.out] at hr60
                    rw [← hy60] at hcut60
                    have HR111 := Aside0.mk hr60
                    have HC111 := Aside0.mk (show y108.length ≤ c0 from by omega)
                    clear hr60 hC60 hroom60 hi060 hsz60
                    have KY60 := Aside0.mk hy60
                    clear hy60
                    replace q60 := eq_true q60
                    have q61 : ((ji48) : Int) ≤ ((l0.length : Int) : Int) := oda_
                    obtain ⟨i061, hi061, _, hsz61, _⟩ := info_parts info54
                    have hroom61 : l0.length ≤ c0 := HC0.out
                    have hC61 : Kd.C k54 _ A0 l0.length l0 := HR0.out
                    have q061 : (0 : Int) ≤ ((ji48) : Int) := oda_
                    have hcut61 := cut_from (P := Tryz.prog) 30 54 .i64 Tryz.underlying30 hi061 3 hsz61 A0 l0.length c0 (ji48) q061 q61
                    have hr61 := Kd.C_drop (m := ((ji48) : Int).toNat) (c := c0) hC61 (by omega) hroom61
                    obtain ⟨A61, hA61⟩ : ∃ A_, A_ = (if c0 = ((ji48) : Int).toNat then A0 else (A0 : Option Addr).map (·.add (((ji48) : Int).toNat * 3))) := ⟨_, rfl⟩
                    obtain ⟨c61, hc61⟩ : ∃ c_, c_ = c0 - ((ji48) : Int).toNat := ⟨_, rfl⟩
                    have hy61 : y115.length = l0.length - ((ji48) : Int).toNat := (by rw [Ny115.out, List.length_drop] <;> omega)
                    rw [show (l0).drop ((ji48) : Int).toNat = y115 from Ny115.out.symm] at hr61
                    replace hr61 : Kd.C k54 _ A61 y115.length y115 := (by rw [hA61]; exact hr61)
                    rw [← hy61, ← hA61, ← hc61] at hcut61
                    have HR118 := Aside0.mk hr61
                    have HC118 := Aside0.mk (show y115.length ≤ c61 from by rw [hy61, hc61]; exact Nat.sub_le_sub_right hroom61 _)
                    clear hr61 hC61 hroom61 hi061 hsz61 hc61
                    have KY61 := Aside0.mk hy61
                    have KA61 := Aside0.mk hA61
                    clear hy61 hA61
                    replace q61 := eq_true q61
                    refine start_ (n := 16) (S := fun w' => True) (ds := []) (bl_ 16 0) (by kernel_rfl) rfl rfl trivial (fun hHeld => ?_); refine with_tabW w04_ObjectOrder.tab19 w04_ObjectOrder.bits19 (fun HT_ HW_ => ?_)
                    generalize wr.drew = w59 at HB HR111 HR118 hHeld ⊢
                    refine pv_ 1 91 (bl_ 16 2) ?_
                    refine pv_ 2 92 (bl_ 16 6) ?_
                    refine pv_ 3 93 (bl_ 16 14) ?_
                    refine pv_ 5 95 (bl_ 16 46) ?_
                    refine pv_ 6 96 (bl_ 16 110) ?_
                    refine pv_ 7 97 (bl_ 16 238) ?_
                    refine pv_ 8 98 (bl_ 16 494) ?_
                    refine one_ (i := 0) (N := some 90) (bl_ 16 495) rfl rfl (one_of HT_.out (by kernel_rfl)) (by decide) (fun K hK => ?_)
                    refine Kd.R_lit_step k54 _ 54 ?hg (N := 90) ?hd (xs := ([] : List (S54))) (inner := []) (ok := fun _ => True) (okp := fun _ => True) ?hr ?hp (fun _ hk => hk) trivial (Below.refl _ _) (Nat.le_refl _) (by simp) ?_; (case hd => rfl); (case hg => rfl); (case hr => first | (go_simp; done) | (go_simp; rfl)); (case hp => exact (Reps.none _ _))
                    intro v106 w62 ho63 hb hg_ hnew_
                    clear hg_ hnew_
                    (first | rw [← Ny105.out] at ho63 | (simp only [Int.reduceToNat] at ho63; rw [← Ny105.out] at ho63))
                    have n0_ := Aside0.mk (Kd.R_lower ho63 (below_size bw_))
                    have n1_ := Aside0.mk (below_step bw_ hb)
                    clear HB
                    have HO107 := n0_
                    have HB := n1_
                    clear n0_ n1_
                    clear hb ho63
                    refine hK.out _ _ trivial (fun hHeld => ?_)
                    clear hK K
                    refine norm_ (a' := ?_) ?_ ?_
                    rotate_left
                    ·
                     show Act.put _ (some 90) _ = _
                     simp only [ps_]
                     rfl
                    refine one_ (i := 4) (N := some 94) (bl_ 16 511) rfl rfl (one_of HT_.out (by kernel_rfl)) (by decide) (fun K hK => ?_)
                    refine Kd.R_append_rows_step k54 (w0 := w) w.heap.size (by rfl) (.tmp 90) (.tmp 93) 30 54 (.agg #[(.int .i64 0), (.string ⟨#[]⟩), (.string ⟨#[]⟩)]) 40 rfl Tryz.underlying30 info54 rfl (by decide) (by omega) v106 y105 y108 _ _ _ (fun _ => True) (fun _ => False) rfl rfl ?aO ?aR (fun _ _ h => h) (fun _ h => h.elim) ?aF ?aB ?aS ?aL ?_
                    (case aR => repeat (first | exact (Kd.C_below HR111.out HB.out) | (with_reducible refine Kd.C_alloc ?_ _) | (with_reducible refine Kd.C_drewN ?_ _) | (with_reducible refine Kd.C_drew ?_)))
                    (case aB => exact bw_)
                    (case aF => exact (fun _ _ => trivial))
                    (case aO => exact (by (with_reducible repeat (first | apply Kd.R_alloc | apply Kd.R_drewN | apply Kd.R_drew)); exact HO107.out))
                    (case aS => exact (below_size bw_))
                    (case aL => have := LMc47.out; omega)
                    intro v113 w64 ho hb hg hat
                    rw [← Ny112.out] at ho
                    have n0_ := Aside0.mk (hb)
                    have n1_ := Aside0.mk (ho)
                    clear HB
                    clear HO107
                    have HB := n0_
                    have HO114 := n1_
                    clear n0_ n1_
                    clear ho hb hg hat
                    refine hK.out _ _ trivial (fun hHeld => ?_)
                    clear hK K
                    refine norm_ (a' := ?_) ?_ ?_
                    rotate_left
                    ·
                     show Act.put _ (some 94) _ = _
                     simp only [ps_]
                     rfl
                    refine one_ (i := 9) (N := some 99) (bl_ 16 1023) rfl rfl (one_of HT_.out (by kernel_rfl)) (by decide) (fun K hK => ?_)
                    refine Kd.R_append_rows_step k54 (w0 := w) w.heap.size (by rfl) (.tmp 94) (.tmp 98) 30 54 (.agg #[(.int .i64 0), (.string ⟨#[]⟩), (.string ⟨#[]⟩)]) 40 rfl Tryz.underlying30 info54 rfl (by decide) (by omega) v113 y112 y115 _ _ _ (fun _ => True) (fun _ => False) rfl rfl ?aO ?aR (fun _ _ h => h) (fun _ h => h.elim) ?aF ?aB ?aS ?aL ?_
                    (case aR => repeat (first | exact (Kd.C_below HR118.out HB.out) | (with_reducible refine Kd.C_alloc ?_ _) | (with_reducible refine Kd.C_drewN ?_ _) | (with_reducible refine Kd.C_drew ?_)))
                    (case aB => exact bw_)
                    (case aF => exact (fun _ _ => trivial))
                    (case aO => exact (by (with_reducible repeat (first | apply Kd.R_alloc | apply Kd.R_drewN | apply Kd.R_drew)); exact HO114.out))
                    (case aS => exact (below_size bw_))
                    (case aL => have := LMc51.out; omega)
                    intro v120 w65 ho hb hg hat
                    rw [← Ny119.out] at ho
                    have n0_ := Aside0.mk (hb)
                    have n1_ := Aside0.mk (ho)
                    clear HB
                    clear HO114
                    have HB := n0_
                    have HO121 := n1_
                    clear n0_ n1_
                    clear ho hb hg hat
                    obtain ⟨Ao66, co66, eo66⟩ := Kd.R_slice HO121.out
                    (first | subst eo66 | (injection eo66 with f1_ f2_ f3_; have f4_ := f1_.symm; have f5_ := f3_.symm; clear f1_ f2_ f3_; subst f4_; subst f5_))
                    refine hK.out _ _ trivial (fun hHeld => ?_)
                    clear hK K
                    refine norm_ (a' := ?_) ?_ ?_
                    rotate_left
                    ·
                     show Act.put _ (some 99) _ = _
                     simp only [ps_]
                     rfl
                    refine one_ (i := 10) (N := some 100) (bl_ 16 2047) rfl rfl (one_of HT_.out (by kernel_rfl)) (by decide) (fun K hK => ?_)
                    refine goes_ Tryz.func19 (by kernel_rfl) rfl #[.slice Ao66 y119.length co66] (by rfl) rfl rfl la_ ?_
                    with_reducible refine (Ob.Gv.putTree.calls _ _ y119 t122 true _ ?side1 ?side2 A52.out (HTAB_.out _ (by first | exact Below.refl _ _ | (with_reducible exact Aside0.out (by assumption)) | repeat (first | (with_reducible exact Aside0.out (by assumption)) | apply below_alloc | apply pw_below_drewN | apply below_drew1 | (refine below_set ?_ ?_; rotate_left; (with_reducible exact Aside0.out (by assumption))))))).mono ?_
                    (case side1 => repeat (first | exact (Kd.R_reads' HO121.out).2.2 | (with_reducible refine Kd.C_alloc ?_ _) | (with_reducible refine Kd.C_drewN ?_ _) | (with_reducible refine Kd.C_drew ?_)))
                    (case side2 => exact (Kd.R_reads' HO121.out).2.1)
                    rintro e w67 ⟨rfl, hb⟩
                    refine ⟨_, rfl, ?_⟩
                    have n0_ := Aside0.mk (Kd.R_below o2_ hb)
                    have n1_ := Aside0.mk (below_step bw_ hb)
                    clear HO121
                    clear HB
                    have HO121 := n0_
                    have HB := n1_
                    clear n0_ n1_
                    (try clear hb)
                    (try clear hb2)
                    (try clear hk)
                    (try clear hi)
                    refine hK.out _ _ trivial (fun hHeld => ?_)
                    clear hK K
                    refine norm_ (a' := ?_) ?_ ?_
                    rotate_left
                    ·
                     show Act.put _ (some 100) _ = _
                     simp only [ps_]
                     rfl
                    refine pv_ 11 89 (bl_ 16 4095) ?_
                    refine pv_ 12 101 (bl_ 16 8191) ?_
                    refine pv_ 13 102 (bl_ 16 16383) ?_
                    refine pv_ 14 12 (bl_ 16 32767) ?_
                    refine pv_ 15 13 (bl_ 16 65535) ?_
                    refine done_ (done_of HT_.out (by kernel_rfl)) ?_
                    try go_wp2
                    have n0_ := Aside0.mk (Kd.R_drew HO121.out)
                    have n1_ := Aside0.mk (below_drew1 HB.out)
                    clear HO121
                    clear HB
                    have HO121 := n0_
                    have HB := n1_
                    clear n0_ n1_
                    have p130 : 0 ≤ ((ji44) : Int) := oda_
                    have q130 : (ji44) < (l0.length : Int) := oda_
                    obtain ⟨ad130, e130, hx130_0, hx130_1, hx130_2⟩ := at_T54 HR0.out (ji44) p130 q130
                    have hw130_2 := hx130_2
                    have hw130_1 := hx130_1
                    have hw130_0 := hx130_0
                    cases e130
                    replace hx130_0 := (HB.out.cell (World.block_lt_of_cell? w _ hx130_0)).trans hx130_0
                    replace hx130_1 := (HB.out.cell (World.block_lt_of_cell? w _ hx130_1)).trans hx130_1
                    replace hx130_2 := (HB.out.cell (World.block_lt_of_cell? w _ hx130_2)).trans hx130_2
                    replace p130 := eq_true p130
                    replace q130 := eq_true q130
                    refine start_ (n := 15) (S := fun w' => w'.cell? (ad130.add (((ji44)).toNat * 3)) = some (.int .i64 ((rd_T54 l0 (ji44)).f0)) ∧ w'.cell? ⟨(ad130.add (((ji44)).toNat * 3)).block, (ad130.add (((ji44)).toNat * 3)).off + 1, none⟩ = some (.string ((rd_T54 l0 (ji44)).f1)) ∧ w'.cell? ⟨(ad130.add (((ji44)).toNat * 3)).block, (ad130.add (((ji44)).toNat * 3)).off + 2, none⟩ = some (.string ((rd_T54 l0 (ji44)).f2))) (ds := []) (bl_ 15 0) (by kernel_rfl) rfl rfl ⟨((HB.out.cell (World.block_lt_of_cell? w _ hw130_0)).trans hw130_0), ((HB.out.cell (World.block_lt_of_cell? w _ hw130_1)).trans hw130_1), ((HB.out.cell (World.block_lt_of_cell? w _ hw130_2)).trans hw130_2)⟩ (fun hHeld => ?_); refine with_tabW w04_ObjectOrder.tab20 w04_ObjectOrder.bits20 (fun HT_ HW_ => ?_)
                    generalize w67.drew = w68 at HO121 HB hx130_0 hx130_1 hx130_2 hHeld ⊢
                    refine pv_ 1 105 (bl_ 15 2) ?_
                    refine pv_ 3 107 (bl_ 15 10) ?_
                    refine pv_ 4 108 (bl_ 15 26) ?_
                    refine pv_ 5 109 (bl_ 15 58) ?_
                    refine tk_ 6 110 (bl_ 15 122) hHeld (hv := by rintro w' ⟨s0, s1, s2⟩; go_simp; with_reducible rfl) (h := ?_)
                    refine join_ (σ := Value × Value × Value) 7 (bl_ 15 255) (fun s_ => [(104, s_.1), (106, s_.2.1), (111, s_.2.2)]) (fun s_ w' => (w'.cell? (ad130.add (((ji44)).toNat * 3)) = some (.int .i64 ((rd_T54 l0 (ji44)).f0)) ∧ w'.cell? ⟨(ad130.add (((ji44)).toNat * 3)).block, (ad130.add (((ji44)).toNat * 3)).off + 1, none⟩ = some (.string ((rd_T54 l0 (ji44)).f1)) ∧ w'.cell? ⟨(ad130.add (((ji44)).toNat * 3)).block, (ad130.add (((ji44)).toNat * 3)).off + 2, none⟩ = some (.string ((rd_T54 l0 (ji44)).f2))) ∧ (Kd.R k54 54 w' w.heap.size (fun k_ => some k_ ≠ (s_.2.1 : Value).ownBlock ∧ some k_ ≠ (s_.2.2 : Value).ownBlock) (.slice Ao66 y119.length co66) y119) ∧ (Kd.R k54 54 w' w.heap.size (fun k_ => some k_ ≠ (.slice Ao66 y119.length co66 : Value).ownBlock ∧ some k_ ≠ (s_.2.2 : Value).ownBlock) s_.2.1 y127) ∧ (Kd.R k54 54 w' w.heap.size (fun k_ => some k_ ≠ (.slice Ao66 y119.length co66 : Value).ownBlock ∧ some k_ ≠ (s_.2.1 : Value).ownBlock) s_.2.2 y131) ∧ (Below w.heap.size w w')) ?_ ?_
                    rotate_left
                    ·
                     intro hCont
                     refine two_ (i := 0) (j := 7) (Ni := some 104) (Nj := some 111) (bl_ 15 123) (bl_ 15 250) rfl rfl rfl rfl (two_of HT_.out (by kernel_rfl)) (by decide) (by decide) (fun K hK => ?_) (fun K hK => ?_)
                     ·
                      skip
                      refine Kd.R_lit_step k54 _ 54 ?hg (N := 104) ?hd (xs := ([] : List (S54))) (inner := []) (ok := fun _ => True) (okp := fun _ => True) ?hr ?hp (fun _ hk => hk) trivial (Below.refl _ _) (Nat.le_refl _) (by simp) ?_; (case hd => rfl); (case hg => rfl); (case hr => first | (go_simp; done) | (go_simp; rfl)); (case hp => exact (Reps.none _ _))
                      intro v125 w69 ho70 hb hg_ hnew_
                      clear hg_ hnew_
                      (first | rw [← Ny124.out] at ho70 | (simp only [Int.reduceToNat] at ho70; rw [← Ny124.out] at ho70))
                      have n0_ := Aside0.mk (Kd.R_elder' o2_ (Kd.R_base ho70) hb)
                      have n1_ := Aside0.mk (Kd.R_lower (Kd.R_new' ho70 (Kd.R_lt o2_)) (below_size bw_))
                      have n2_ := Aside0.mk (below_step bw_ hb)
                      clear HO121
                      clear HB
                      have HO121 := n0_
                      have HO126 := n1_
                      have HB := n2_
                      clear n0_ n1_ n2_
                      clear hb ho70
                      refine hK.out _ _ ⟨((HB.out.cell (World.block_lt_of_cell? w _ hw130_0)).trans hw130_0), ((HB.out.cell (World.block_lt_of_cell? w _ hw130_1)).trans hw130_1), ((HB.out.cell (World.block_lt_of_cell? w _ hw130_2)).trans hw130_2)⟩ (fun hHeld => ?_)
                      clear hK K
                      refine norm_ (a' := ?_) ?_ ?_
                      rotate_left
                      ·
                       show Act.put _ (some 104) _ = _
                       simp only [ps_]
                       rfl
                      refine two_ (i := 2) (j := 7) (Ni := some 106) (Nj := some 111) (bl_ 15 127) (bl_ 15 251) rfl rfl rfl rfl (two_of HT_.out (by kernel_rfl)) (by decide) (by decide) (fun K hK => ?_) (fun K hK => ?_)
                      ·
                       skip
                       refine Kd.R_append_rows_step k54 (w0 := w) w.heap.size (by rfl) (.tmp 104) (.tmp 105) 30 54 (.agg #[(.int .i64 0), (.string ⟨#[]⟩), (.string ⟨#[]⟩)]) 40 rfl Tryz.underlying30 info54 rfl (by decide) (by omega) v125 y124 l0 _ _ _ (fun k_ => some k_ ≠ (.slice Ao66 y119.length co66 : Value).ownBlock) (fun _ => False) rfl rfl ?aO ?aR (fun _ _ h => h) (fun _ h => h.elim) ?aF ?aB ?aS ?aL ?_
                       (case aR => repeat (first | exact (Kd.C_below HR0.out HB.out) | (with_reducible refine Kd.C_alloc ?_ _) | (with_reducible refine Kd.C_drewN ?_ _) | (with_reducible refine Kd.C_drew ?_)))
                       (case aB => exact bw_)
                       (case aF => exact (fun k_ hk => Kd.fresh' (Kd.R_lt o2_) k_ hk))
                       (case aO => exact (by (with_reducible repeat (first | apply Kd.R_alloc | apply Kd.R_drewN | apply Kd.R_drew)); exact Kd.R_mono HO126.out (fun _ hk => hk.2)))
                       (case aS => exact (below_size bw_))
                       (case aL => have := LMc53.out; omega)
                       intro v128 w71 ho hb hg hat
                       rw [← Ny127.out] at ho
                       have n0_ := Aside0.mk (Kd.R_after (ok := (fun _ => True)) o2_ hg hat)
                       have n1_ := Aside0.mk (hb)
                       have n2_ := Aside0.mk (ho)
                       clear HO121
                       clear HB
                       clear HO126
                       have HO121 := n0_
                       have HB := n1_
                       have HO129 := n2_
                       clear n0_ n1_ n2_
                       clear ho hb hg hat
                       refine hK.out _ _ ⟨((HB.out.cell (World.block_lt_of_cell? w _ hw130_0)).trans hw130_0), ((HB.out.cell (World.block_lt_of_cell? w _ hw130_1)).trans hw130_1), ((HB.out.cell (World.block_lt_of_cell? w _ hw130_2)).trans hw130_2)⟩ (fun hHeld => ?_)
                       clear hK K
                       refine norm_ (a' := ?_) ?_ ?_
                       rotate_left
                       ·
                        show Act.put _ (some 106) _ = _
                        simp only [ps_]
                        rfl
                       refine one_ (i := 7) (N := some 111) (bl_ 15 255) rfl rfl (one_of HT_.out (by kernel_rfl)) (by decide) (fun K hK => ?_)
                       refine Kd.R_lit_step k54 _ 54 ?hg (N := 111) ?hd (xs := ([(⟨(rd_T54 l0 (ji44)).f0, (rd_T54 l0 (ji44)).f1, (rd_T54 l0 (ji44)).f2⟩ : S54)] : List (S54))) (inner := [.int .i64 ((rd_T54 l0 (ji44)).f0), .string ((rd_T54 l0 (ji44)).f1), .string ((rd_T54 l0 (ji44)).f2)]) (ok := fun _ => True) (okp := fun _ => True) ?hr ?hp (fun _ hk => hk) trivial (Below.refl _ _) (Nat.le_refl _) (by simp) ?_; (case hd => rfl); (case hg => rfl); (case hr => first | (go_simp; done) | (go_simp; rfl)); (case hp => exact (Reps.c3 (show Kd.M k54 _ _ _ (⟨(rd_T54 l0 (ji44)).f0, (rd_T54 l0 (ji44)).f1, (rd_T54 l0 (ji44)).f2⟩ : S54) [.int .i64 ((rd_T54 l0 (ji44)).f0), .string ((rd_T54 l0 (ji44)).f1), .string ((rd_T54 l0 (ji44)).f2)] from (k54_mkM _ _ _ (⟨(rd_T54 l0 (ji44)).f0, (rd_T54 l0 (ji44)).f1, (rd_T54 l0 (ji44)).f2⟩ : S54) )) (Reps.none _ _)))
                       intro v132 w72 ho73 hb hg_ hnew_
                       clear hg_ hnew_
                       (first | rw [← Ny131.out] at ho73 | (simp only [Int.reduceToNat] at ho73; rw [← Ny131.out] at ho73))
                       have n0_ := Aside0.mk (Kd.R_elder' o2_ (Kd.R_base ho73) hb)
                       have n1_ := Aside0.mk (Kd.R_elder' o3_ (Kd.R_base ho73) hb)
                       have n2_ := Aside0.mk (Kd.R_lower (Kd.R_new' (Kd.R_new' ho73 (Kd.R_lt o2_)) (Kd.R_lt o3_)) (below_size bw_))
                       have n3_ := Aside0.mk (below_step bw_ hb)
                       clear HO121
                       clear HO129
                       clear HB
                       have HO121 := n0_
                       have HO129 := n1_
                       have HO133 := n2_
                       have HB := n3_
                       clear n0_ n1_ n2_ n3_
                       clear hb ho73
                       refine hK.out _ _ ⟨((HB.out.cell (World.block_lt_of_cell? w _ hw130_0)).trans hw130_0), ((HB.out.cell (World.block_lt_of_cell? w _ hw130_1)).trans hw130_1), ((HB.out.cell (World.block_lt_of_cell? w _ hw130_2)).trans hw130_2)⟩ (fun hHeld => ?_)
                       clear hK K
                       refine norm_ (a' := ?_) ?_ ?_
                       rotate_left
                       ·
                        show Act.put _ (some 111) _ = _
                        simp only [ps_]
                        rfl
                       exact norm_ (by simp only [putAll, Act.put, List.setIfInBounds_toArray, List.set_cons_zero, List.set_cons_succ]) (hCont (v125, v128, v132) _ ⟨hHeld, (by (with_reducible repeat (first | apply Kd.R_alloc | apply Kd.R_drewN | apply Kd.R_drew)); exact Kd.R_mono HO121.out (fun _ hk => ⟨hk.1.2, hk.2⟩)), o3_, (by (with_reducible repeat (first | apply Kd.R_alloc | apply Kd.R_drewN | apply Kd.R_drew)); exact Kd.R_mono HO133.out (fun _ hk => ⟨hk.1.2, hk.2⟩)), bw_⟩)
                      ·
                       skip
                       refine Kd.R_lit_step k54 _ 54 ?hg (N := 111) ?hd (xs := ([(⟨(rd_T54 l0 (ji44)).f0, (rd_T54 l0 (ji44)).f1, (rd_T54 l0 (ji44)).f2⟩ : S54)] : List (S54))) (inner := [.int .i64 ((rd_T54 l0 (ji44)).f0), .string ((rd_T54 l0 (ji44)).f1), .string ((rd_T54 l0 (ji44)).f2)]) (ok := fun _ => True) (okp := fun _ => True) ?hr ?hp (fun _ hk => hk) trivial (Below.refl _ _) (Nat.le_refl _) (by simp) ?_; (case hd => rfl); (case hg => rfl); (case hr => first | (go_simp; done) | (go_simp; rfl)); (case hp => exact (Reps.c3 (show Kd.M k54 _ _ _ (⟨(rd_T54 l0 (ji44)).f0, (rd_T54 l0 (ji44)).f1, (rd_T54 l0 (ji44)).f2⟩ : S54) [.int .i64 ((rd_T54 l0 (ji44)).f0), .string ((rd_T54 l0 (ji44)).f1), .string ((rd_T54 l0 (ji44)).f2)] from (k54_mkM _ _ _ (⟨(rd_T54 l0 (ji44)).f0, (rd_T54 l0 (ji44)).f1, (rd_T54 l0 (ji44)).f2⟩ : S54) )) (Reps.none _ _)))
                       intro v132 w71 ho72 hb hg_ hnew_
                       clear hg_ hnew_
                       (first | rw [← Ny131.out] at ho72 | (simp only [Int.reduceToNat] at ho72; rw [← Ny131.out] at ho72))
                       have n0_ := Aside0.mk (Kd.R_elder' o2_ (Kd.R_base ho72) hb)
                       have n1_ := Aside0.mk (Kd.R_elder' o1_ (Kd.R_base ho72) hb)
                       have n2_ := Aside0.mk (Kd.R_lower (Kd.R_new' (Kd.R_new' ho72 (Kd.R_lt o2_)) (Kd.R_lt o1_)) (below_size bw_))
                       have n3_ := Aside0.mk (below_step bw_ hb)
                       clear HO121
                       clear HO126
                       clear HB
                       have HO121 := n0_
                       have HO126 := n1_
                       have HO133 := n2_
                       have HB := n3_
                       clear n0_ n1_ n2_ n3_
                       clear hb ho72
                       refine hK.out _ _ ⟨((HB.out.cell (World.block_lt_of_cell? w _ hw130_0)).trans hw130_0), ((HB.out.cell (World.block_lt_of_cell? w _ hw130_1)).trans hw130_1), ((HB.out.cell (World.block_lt_of_cell? w _ hw130_2)).trans hw130_2)⟩ (fun hHeld => ?_)
                       clear hK K
                       refine norm_ (a' := ?_) ?_ ?_
                       rotate_left
                       ·
                        show Act.put _ (some 111) _ = _
                        simp only [ps_]
                        rfl
                       refine one_ (i := 2) (N := some 106) (bl_ 15 255) rfl rfl (one_of HT_.out (by kernel_rfl)) (by decide) (fun K hK => ?_)
                       refine Kd.R_append_rows_step k54 (w0 := w) w.heap.size (by rfl) (.tmp 104) (.tmp 105) 30 54 (.agg #[(.int .i64 0), (.string ⟨#[]⟩), (.string ⟨#[]⟩)]) 40 rfl Tryz.underlying30 info54 rfl (by decide) (by omega) v125 y124 l0 _ _ _ (fun k_ => some k_ ≠ (.slice Ao66 y119.length co66 : Value).ownBlock ∧ some k_ ≠ (v132 : Value).ownBlock) (fun _ => False) rfl rfl ?aO ?aR (fun _ _ h => h) (fun _ h => h.elim) ?aF ?aB ?aS ?aL ?_
                       (case aR => repeat (first | exact (Kd.C_below HR0.out HB.out) | (with_reducible refine Kd.C_alloc ?_ _) | (with_reducible refine Kd.C_drewN ?_ _) | (with_reducible refine Kd.C_drew ?_)))
                       (case aB => exact bw_)
                       (case aF => exact (fun k_ hk => ⟨Kd.fresh' (Kd.R_lt o2_) k_ hk, Kd.fresh' (Kd.R_lt o4_) k_ hk⟩))
                       (case aO => exact (by (with_reducible repeat (first | apply Kd.R_alloc | apply Kd.R_drewN | apply Kd.R_drew)); exact Kd.R_mono HO126.out (fun _ hk => ⟨hk.1.2, hk.2⟩)))
                       (case aS => exact (below_size bw_))
                       (case aL => have := LMc53.out; omega)
                       intro v128 w73 ho hb hg hat
                       rw [← Ny127.out] at ho
                       have n0_ := Aside0.mk (Kd.R_after (ok := (fun k_ => some k_ ≠ (v132 : Value).ownBlock)) (by (with_reducible repeat (first | apply Kd.R_alloc | apply Kd.R_drewN | apply Kd.R_drew)); exact Kd.R_mono HO121.out (fun _ hk => ⟨hk.2, hk.1.2⟩)) hg hat)
                       have n1_ := Aside0.mk (Kd.R_after (ok := (fun k_ => some k_ ≠ (.slice Ao66 y119.length co66 : Value).ownBlock)) (by (with_reducible repeat (first | apply Kd.R_alloc | apply Kd.R_drewN | apply Kd.R_drew)); exact Kd.R_mono HO133.out (fun _ hk => ⟨hk.1.2, hk.2⟩)) hg hat)
                       have n2_ := Aside0.mk (hb)
                       have n3_ := Aside0.mk (ho)
                       clear HO121
                       clear HO133
                       clear HB
                       clear HO126
                       have HO121 := n0_
                       have HO133 := n1_
                       have HB := n2_
                       have HO129 := n3_
                       clear n0_ n1_ n2_ n3_
                       clear ho hb hg hat
                       refine hK.out _ _ ⟨((HB.out.cell (World.block_lt_of_cell? w _ hw130_0)).trans hw130_0), ((HB.out.cell (World.block_lt_of_cell? w _ hw130_1)).trans hw130_1), ((HB.out.cell (World.block_lt_of_cell? w _ hw130_2)).trans hw130_2)⟩ (fun hHeld => ?_)
                       clear hK K
                       refine norm_ (a' := ?_) ?_ ?_
                       rotate_left
                       ·
                        show Act.put _ (some 106) _ = _
                        simp only [ps_]
                        rfl
                       exact norm_ (by simp only [putAll, Act.put, List.setIfInBounds_toArray, List.set_cons_zero, List.set_cons_succ]) (hCont (v125, v128, v132) _ ⟨hHeld, (by (with_reducible repeat (first | apply Kd.R_alloc | apply Kd.R_drewN | apply Kd.R_drew)); exact Kd.R_mono HO121.out (fun _ hk => ⟨hk.2, hk.1⟩)), o3_, o4_, bw_⟩)
                     ·
                      skip
                      refine Kd.R_lit_step k54 _ 54 ?hg (N := 111) ?hd (xs := ([(⟨(rd_T54 l0 (ji44)).f0, (rd_T54 l0 (ji44)).f1, (rd_T54 l0 (ji44)).f2⟩ : S54)] : List (S54))) (inner := [.int .i64 ((rd_T54 l0 (ji44)).f0), .string ((rd_T54 l0 (ji44)).f1), .string ((rd_T54 l0 (ji44)).f2)]) (ok := fun _ => True) (okp := fun _ => True) ?hr ?hp (fun _ hk => hk) trivial (Below.refl _ _) (Nat.le_refl _) (by simp) ?_; (case hd => rfl); (case hg => rfl); (case hr => first | (go_simp; done) | (go_simp; rfl)); (case hp => exact (Reps.c3 (show Kd.M k54 _ _ _ (⟨(rd_T54 l0 (ji44)).f0, (rd_T54 l0 (ji44)).f1, (rd_T54 l0 (ji44)).f2⟩ : S54) [.int .i64 ((rd_T54 l0 (ji44)).f0), .string ((rd_T54 l0 (ji44)).f1), .string ((rd_T54 l0 (ji44)).f2)] from (k54_mkM _ _ _ (⟨(rd_T54 l0 (ji44)).f0, (rd_T54 l0 (ji44)).f1, (rd_T54 l0 (ji44)).f2⟩ : S54) )) (Reps.none _ _)))
                      intro v132 w69 ho70 hb hg_ hnew_
                      clear hg_ hnew_
                      (first | rw [← Ny131.out] at ho70 | (simp only [Int.reduceToNat] at ho70; rw [← Ny131.out] at ho70))
                      have n0_ := Aside0.mk (Kd.R_elder' o2_ (Kd.R_base ho70) hb)
                      have n1_ := Aside0.mk (Kd.R_lower (Kd.R_new' ho70 (Kd.R_lt o2_)) (below_size bw_))
                      have n2_ := Aside0.mk (below_step bw_ hb)
                      clear HO121
                      clear HB
                      have HO121 := n0_
                      have HO133 := n1_
                      have HB := n2_
                      clear n0_ n1_ n2_
                      clear hb ho70
                      refine hK.out _ _ ⟨((HB.out.cell (World.block_lt_of_cell? w _ hw130_0)).trans hw130_0), ((HB.out.cell (World.block_lt_of_cell? w _ hw130_1)).trans hw130_1), ((HB.out.cell (World.block_lt_of_cell? w _ hw130_2)).trans hw130_2)⟩ (fun hHeld => ?_)
                      clear hK K
                      refine norm_ (a' := ?_) ?_ ?_
                      rotate_left
                      ·
                       show Act.put _ (some 111) _ = _
                       simp only [ps_]
                       rfl
                      refine one_ (i := 0) (N := some 104) (bl_ 15 251) rfl rfl (one_of HT_.out (by kernel_rfl)) (by decide) (fun K hK => ?_)
                      refine Kd.R_lit_step k54 _ 54 ?hg (N := 104) ?hd (xs := ([] : List (S54))) (inner := []) (ok := fun _ => True) (okp := fun _ => True) ?hr ?hp (fun _ hk => hk) trivial (Below.refl _ _) (Nat.le_refl _) (by simp) ?_; (case hd => rfl); (case hg => rfl); (case hr => first | (go_simp; done) | (go_simp; rfl)); (case hp => exact (Reps.none _ _))
                      intro v125 w71 ho72 hb hg_ hnew_
                      clear hg_ hnew_
                      (first | rw [← Ny124.out] at ho72 | (simp only [Int.reduceToNat] at ho72; rw [← Ny124.out] at ho72))
                      have n0_ := Aside0.mk (Kd.R_elder' o2_ (Kd.R_base ho72) hb)
                      have n1_ := Aside0.mk (Kd.R_elder' o4_ (Kd.R_base ho72) hb)
                      have n2_ := Aside0.mk (Kd.R_lower (Kd.R_new' (Kd.R_new' ho72 (Kd.R_lt o2_)) (Kd.R_lt o4_)) (below_size bw_))
                      have n3_ := Aside0.mk (below_step bw_ hb)
                      clear HO121
                      clear HO133
                      clear HB
                      have HO121 := n0_
                      have HO133 := n1_
                      have HO126 := n2_
                      have HB := n3_
                      clear n0_ n1_ n2_ n3_
                      clear hb ho72
                      refine hK.out _ _ ⟨((HB.out.cell (World.block_lt_of_cell? w _ hw130_0)).trans hw130_0), ((HB.out.cell (World.block_lt_of_cell? w _ hw130_1)).trans hw130_1), ((HB.out.cell (World.block_lt_of_cell? w _ hw130_2)).trans hw130_2)⟩ (fun hHeld => ?_)
                      clear hK K
                      refine norm_ (a' := ?_) ?_ ?_
                      rotate_left
                      ·
                       show Act.put _ (some 104) _ = _
                       simp only [ps_]
                       rfl
                      refine one_ (i := 2) (N := some 106) (bl_ 15 255) rfl rfl (one_of HT_.out (by kernel_rfl)) (by decide) (fun K hK => ?_)
                      refine Kd.R_append_rows_step k54 (w0 := w) w.heap.size (by rfl) (.tmp 104) (.tmp 105) 30 54 (.agg #[(.int .i64 0), (.string ⟨#[]⟩), (.string ⟨#[]⟩)]) 40 rfl Tryz.underlying30 info54 rfl (by decide) (by omega) v125 y124 l0 _ _ _ (fun k_ => some k_ ≠ (.slice Ao66 y119.length co66 : Value).ownBlock ∧ some k_ ≠ (v132 : Value).ownBlock) (fun _ => False) rfl rfl ?aO ?aR (fun _ _ h => h) (fun _ h => h.elim) ?aF ?aB ?aS ?aL ?_
                      (case aR => repeat (first | exact (Kd.C_below HR0.out HB.out) | (with_reducible refine Kd.C_alloc ?_ _) | (with_reducible refine Kd.C_drewN ?_ _) | (with_reducible refine Kd.C_drew ?_)))
                      (case aB => exact bw_)
                      (case aF => exact (fun k_ hk => ⟨Kd.fresh' (Kd.R_lt o2_) k_ hk, Kd.fresh' (Kd.R_lt o4_) k_ hk⟩))
                      (case aO => exact (by (with_reducible repeat (first | apply Kd.R_alloc | apply Kd.R_drewN | apply Kd.R_drew)); exact Kd.R_mono HO126.out (fun _ hk => ⟨hk.1.2, hk.2⟩)))
                      (case aS => exact (below_size bw_))
                      (case aL => have := LMc53.out; omega)
                      intro v128 w73 ho hb hg hat
                      rw [← Ny127.out] at ho
                      have n0_ := Aside0.mk (Kd.R_after (ok := (fun k_ => some k_ ≠ (v132 : Value).ownBlock)) (by (with_reducible repeat (first | apply Kd.R_alloc | apply Kd.R_drewN | apply Kd.R_drew)); exact Kd.R_mono HO121.out (fun _ hk => ⟨hk.1.2, hk.2⟩)) hg hat)
                      have n1_ := Aside0.mk (Kd.R_after (ok := (fun k_ => some k_ ≠ (.slice Ao66 y119.length co66 : Value).ownBlock)) (by (with_reducible repeat (first | apply Kd.R_alloc | apply Kd.R_drewN | apply Kd.R_drew)); exact Kd.R_mono HO133.out (fun _ hk => ⟨hk.1.2, hk.2⟩)) hg hat)
                      have n2_ := Aside0.mk (hb)
                      have n3_ := Aside0.mk (ho)
                      clear HO121
                      clear HO133
                      clear HB
                      clear HO126
                      have HO121 := n0_
                      have HO133 := n1_
                      have HB := n2_
                      have HO129 := n3_
                      clear n0_ n1_ n2_ n3_
                      clear ho hb hg hat
                      refine hK.out _ _ ⟨((HB.out.cell (World.block_lt_of_cell? w _ hw130_0)).trans hw130_0), ((HB.out.cell (World.block_lt_of_cell? w _ hw130_1)).trans hw130_1), ((HB.out.cell (World.block_lt_of_cell? w _ hw130_2)).trans hw130_2)⟩ (fun hHeld => ?_)
                      clear hK K
                      refine norm_ (a' := ?_) ?_ ?_
                      rotate_left
                      ·
                       show Act.put _ (some 106) _ = _
                       simp only [ps_]
                       rfl
                      exact norm_ (by simp only [putAll, Act.put, List.setIfInBounds_toArray, List.set_cons_zero, List.set_cons_succ]) (hCont (v125, v128, v132) _ ⟨hHeld, (by (with_reducible repeat (first | apply Kd.R_alloc | apply Kd.R_drewN | apply Kd.R_drew)); exact Kd.R_mono HO121.out (fun _ hk => ⟨hk.2, hk.1⟩)), o3_, o4_, bw_⟩)
                    rintro ⟨v125, v128, v132⟩ w74 ⟨hS_, h0_, h1_, h2_, h3_⟩
                    have n0_ : Aside0 (Kd.R k54 54 w74 w.heap.size (fun k_ => some k_ ≠ (v128 : Value).ownBlock ∧ some k_ ≠ (v132 : Value).ownBlock) (.slice Ao66 y119.length co66) y119) := ⟨h0_⟩
                    have n1_ : Aside0 (Kd.R k54 54 w74 w.heap.size (fun k_ => some k_ ≠ (.slice Ao66 y119.length co66 : Value).ownBlock ∧ some k_ ≠ (v132 : Value).ownBlock) v128 y127) := ⟨h1_⟩
                    have n2_ : Aside0 (Kd.R k54 54 w74 w.heap.size (fun k_ => some k_ ≠ (.slice Ao66 y119.length co66 : Value).ownBlock ∧ some k_ ≠ (v128 : Value).ownBlock) v132 y131) := ⟨h2_⟩
                    have n3_ : Aside0 (Below w.heap.size w w74) := ⟨h3_⟩
                    clear HO121
                    clear HB
                    clear h0_ h1_ h2_ h3_
                    have HO121 := n0_
                    have HO129 := n1_
                    have HO133 := n2_
                    have HB := n3_
                    clear n0_ n1_ n2_ n3_
                    have hHeld : w74.cell? (ad130.add (((ji44)).toNat * 3)) = some (.int .i64 ((rd_T54 l0 (ji44)).f0)) ∧ w74.cell? ⟨(ad130.add (((ji44)).toNat * 3)).block, (ad130.add (((ji44)).toNat * 3)).off + 1, none⟩ = some (.string ((rd_T54 l0 (ji44)).f1)) ∧ w74.cell? ⟨(ad130.add (((ji44)).toNat * 3)).block, (ad130.add (((ji44)).toNat * 3)).off + 2, none⟩ = some (.string ((rd_T54 l0 (ji44)).f2)) := hS_
                    obtain ⟨Ao76, co76, eo76⟩ := Kd.R_slice HO133.out
                    (first | subst eo76 | (injection eo76 with f1_ f2_ f3_; have f4_ := f1_.symm; have f5_ := f3_.symm; clear f1_ f2_ f3_; subst f4_; subst f5_))
                    refine norm_ (a' := ?_) ?_ ?_
                    rotate_left
                    ·
                     simp only [putAll, Act.put, List.setIfInBounds_toArray, List.set_cons_zero, List.set_cons_succ]
                     rfl
                    refine one_ (i := 8) (N := some 112) (bl_ 15 511) rfl rfl (one_of HT_.out (by kernel_rfl)) (by decide) (fun K hK => ?_)
                    refine Kd.R_append_rows_step k54 (w0 := w) w.heap.size (by rfl) (.tmp 106) (.tmp 111) 30 54 (.agg #[(.int .i64 0), (.string ⟨#[]⟩), (.string ⟨#[]⟩)]) 40 rfl Tryz.underlying30 info54 rfl (by decide) (by omega) v128 y127 y131 _ _ _ (fun k_ => some k_ ≠ (.slice Ao66 y119.length co66 : Value).ownBlock ∧ some k_ ≠ (.slice Ao76 y131.length co76 : Value).ownBlock) (fun _ => False) rfl rfl ?aO ?aR (fun _ _ h => h) (fun _ h => h.elim) ?aF ?aB ?aS ?aL ?_
                    (case aR => repeat (first | exact (Kd.R_reads' HO133.out).2.2 | (with_reducible refine Kd.C_alloc ?_ _) | (with_reducible refine Kd.C_drewN ?_ _) | (with_reducible refine Kd.C_drew ?_)))
                    (case aB => exact bw_)
                    (case aF => exact (fun k_ hk => ⟨Kd.fresh' (Kd.R_lt o2_) k_ hk, Kd.fresh' (Kd.R_lt o4_) k_ hk⟩))
                    (case aO => exact o3_)
                    (case aS => exact (below_size bw_))
                    (case aL => have := LMc55.out; omega)
                    intro v135 w75 ho hb hg hat
                    rw [← Ny134.out] at ho
                    have n0_ := Aside0.mk (Kd.R_after (ok := (fun k_ => some k_ ≠ (.slice Ao76 y131.length co76 : Value).ownBlock)) (by (with_reducible repeat (first | apply Kd.R_alloc | apply Kd.R_drewN | apply Kd.R_drew)); exact Kd.R_mono HO121.out (fun _ hk => ⟨hk.2, hk.1⟩)) hg hat)
                    have n1_ := Aside0.mk (Kd.R_after (ok := (fun k_ => some k_ ≠ (.slice Ao66 y119.length co66 : Value).ownBlock)) o4_ hg hat)
                    have n2_ := Aside0.mk (hb)
                    have n3_ := Aside0.mk (ho)
                    clear HO121
                    clear HO133
                    clear HB
                    clear HO129
                    have HO121 := n0_
                    have HO133 := n1_
                    have HB := n2_
                    have HO136 := n3_
                    clear n0_ n1_ n2_ n3_
                    clear ho hb hg hat
                    obtain ⟨Ao77, co77, eo77⟩ := Kd.R_slice HO136.out
                    (first | subst eo77 | (injection eo77 with f1_ f2_ f3_; have f4_ := f1_.symm; have f5_ := f3_.symm; clear f1_ f2_ f3_; subst f4_; subst f5_))
                    refine hK.out _ _ ⟨((HB.out.cell (World.block_lt_of_cell? w _ hw130_0)).trans hw130_0), ((HB.out.cell (World.block_lt_of_cell? w _ hw130_1)).trans hw130_1), ((HB.out.cell (World.block_lt_of_cell? w _ hw130_2)).trans hw130_2)⟩ (fun hHeld => ?_)
                    clear hK K
                    refine norm_ (a' := ?_) ?_ ?_
                    rotate_left
                    ·
                     show Act.put _ (some 112) _ = _
                     simp only [ps_]
                     rfl
                    refine one_ (i := 9) (N := some 113) (bl_ 15 1023) rfl rfl (one_of HT_.out (by kernel_rfl)) (by decide) (fun K hK => ?_)
                    refine goes_ Tryz.func19 (by kernel_rfl) rfl #[.slice Ao77 y134.length co77] (by rfl) rfl rfl la_ ?_
                    with_reducible refine (Ob.Gv.putTree.calls _ _ y134 t137 t138 _ ?side1 ?side2 A56.out (HTAB_.out _ (by first | exact Below.refl _ _ | (with_reducible exact Aside0.out (by assumption)) | repeat (first | (with_reducible exact Aside0.out (by assumption)) | apply below_alloc | apply pw_below_drewN | apply below_drew1 | (refine below_set ?_ ?_; rotate_left; (with_reducible exact Aside0.out (by assumption))))))).mono ?_
                    (case side1 => repeat (first | exact (Kd.R_reads' HO136.out).2.2 | (with_reducible refine Kd.C_alloc ?_ _) | (with_reducible refine Kd.C_drewN ?_ _) | (with_reducible refine Kd.C_drew ?_)))
                    (case side2 => exact (Kd.R_reads' HO136.out).2.1)
                    rintro e w78 ⟨rfl, hb⟩
                    refine ⟨_, rfl, ?_⟩
                    have n0_ := Aside0.mk (Kd.R_below o2_ hb)
                    have n1_ := Aside0.mk (Kd.R_below o4_ hb)
                    have n2_ := Aside0.mk (Kd.R_below (by (with_reducible repeat (first | apply Kd.R_alloc | apply Kd.R_drewN | apply Kd.R_drew)); exact HO136.out) hb)
                    have n3_ := Aside0.mk (below_step bw_ hb)
                    clear HO121
                    clear HO133
                    clear HO136
                    clear HB
                    have HO121 := n0_
                    have HO133 := n1_
                    have HO136 := n2_
                    have HB := n3_
                    clear n0_ n1_ n2_ n3_
                    (try clear hb)
                    (try clear hb2)
                    (try clear hk)
                    (try clear hi)
                    refine hK.out _ _ ⟨((HB.out.cell (World.block_lt_of_cell? w _ hw130_0)).trans hw130_0), ((HB.out.cell (World.block_lt_of_cell? w _ hw130_1)).trans hw130_1), ((HB.out.cell (World.block_lt_of_cell? w _ hw130_2)).trans hw130_2)⟩ (fun hHeld => ?_)
                    clear hK K
                    refine norm_ (a' := ?_) ?_ ?_
                    rotate_left
                    ·
                     show Act.put _ (some 113) _ = _
                     simp only [ps_]
                     rfl
                    refine pv_ 10 103 (bl_ 15 2047) ?_
                    refine pv_ 11 114 (bl_ 15 4095) ?_
                    refine pv_ 12 115 (bl_ 15 8191) ?_
                    refine pv_ 13 14 (bl_ 15 16383) ?_
                    refine pv_ 14 15 (bl_ 15 32767) ?_
                    refine done_ (done_of HT_.out (by kernel_rfl)) ?_
                    try go_wp2
                    go_ret
                    exact ⟨by first | rfl | (simp [errW_none, errW_some] <;> rfl) | (simp only [← hji44, ← hji48]; first | rfl | (simp [errW_none, errW_some] <;> rfl)) | (simp [*, errW_none, errW_some] <;> rfl), bw_⟩
                   ·
                    as_aux_lemma =>
                    replace c58 := Bool.eq_false_iff.mpr c58
                    subst c58
                    have H1 : (some false) = some r := by rw [if_neg (show ¬ (false = true) by decide)] at H; exact H
                    clear H
                    have H := H1
                    clear H1
                    obtain rfl := Option.some.inj H
                    try go_wp2
                    have n0_ := Aside0.mk (below_drew1 HB.out)
                    clear HB
                    have HB := n0_
                    clear n0_
                    have q80 : ((ji44) : Int) ≤ ((l0.length : Int) : Int) := oda_
                    obtain ⟨i080, hi080, _, hsz80, _⟩ := info_parts info54
                    have hroom80 : l0.length ≤ c0 := HC0.out
                    have hC80 : Kd.C k54 _ A0 l0.length l0 := HR0.out
                    have hcut80 := cut_to (P := Tryz.prog) 30 54 .i64 Tryz.underlying30 hi080 A0 l0.length c0 (ji44) (oda_) q80 hroom80
                    have hr80 := Kd.C_take (m := ((ji44) : Int).toNat) hC80 (by omega)
                    have hy80 : y108.length = ((ji44) : Int).toNat := (by rw [Ny108.out, List.length_take]; omega)
                    rw [← Ny108.out] at hr80
                    rw [← hy80] at hcut80
                    have HR111 := Aside0.mk hr80
                    have HC111 := Aside0.mk (show y108.length ≤ c0 from by omega)
                    clear hr80 hC80 hroom80 hi080 hsz80
                    have KY80 := Aside0.mk hy80
                    clear hy80
                    replace q80 := eq_true q80
                    have q81 : ((ji48) : Int) ≤ ((l0.length : Int) : Int) := oda_
                    obtain ⟨i081, hi081, _, hsz81, _⟩ := info_parts info54
                    have hroom81 : l0.length ≤ c0 := HC0.out
                    have hC81 : Kd.C k54 _ A0 l0.length l0 := HR0.out
                    have q081 : (0 : Int) ≤ ((ji48) : Int) := oda_
                    have hcut81 := cut_from (P := Tryz.prog) 30 54 .i64 Tryz.underlying30 hi081 3 hsz81 A0 l0.length c0 (ji48) q081 q81
                    have hr81 := Kd.C_drop (m := ((ji48) : Int).toNat) (c := c0) hC81 (by omega) hroom81
                    obtain ⟨A81, hA81⟩ : ∃ A_, A_ = (if c0 = ((ji48) : Int).toNat then A0 else (A0 : Option Addr).map (·.add (((ji48) : Int).toNat * 3))) := ⟨_, rfl⟩
                    obtain ⟨c81, hc81⟩ : ∃ c_, c_ = c0 - ((ji48) : Int).toNat := ⟨_, rfl⟩
                    have hy81 : y115.length = l0.length - ((ji48) : Int).toNat := (by rw [Ny115.out, List.length_drop] <;> omega)
                    rw [show (l0).drop ((ji48) : Int).toNat = y115 from Ny115.out.symm] at hr81
                    replace hr81 : Kd.C k54 _ A81 y115.length y115 := (by rw [hA81]; exact hr81)
                    rw [← hy81, ← hA81, ← hc81] at hcut81
                    have HR118 := Aside0.mk hr81
                    have HC118 := Aside0.mk (show y115.length ≤ c81 from by rw [hy81, hc81]; exact Nat.sub_le_sub_right hroom81 _)
                    clear hr81 hC81 hroom81 hi081 hsz81 hc81
                    have KY81 := Aside0.mk hy81
                    have KA81 := Aside0.mk hA81
                    clear hy81 hA81
                    replace q81 := eq_true q81
                    refine start_ (n := 16) (S := fun w' => True) (ds := []) (bl_ 16 0) (by kernel_rfl) rfl rfl trivial (fun hHeld => ?_); refine with_tabW w04_ObjectOrder.tab19 w04_ObjectOrder.bits19 (fun HT_ HW_ => ?_)
                    generalize wr.drew = w79 at HB HR111 HR118 hHeld ⊢
                    refine pv_ 1 91 (bl_ 16 2) ?_
                    refine pv_ 2 92 (bl_ 16 6) ?_
                    refine pv_ 3 93 (bl_ 16 14) ?_
                    refine pv_ 5 95 (bl_ 16 46) ?_
                    refine pv_ 6 96 (bl_ 16 110) ?_
                    refine pv_ 7 97 (bl_ 16 238) ?_
                    refine pv_ 8 98 (bl_ 16 494) ?_
                    refine one_ (i := 0) (N := some 90) (bl_ 16 495) rfl rfl (one_of HT_.out (by kernel_rfl)) (by decide) (fun K hK => ?_)
                    refine Kd.R_lit_step k54 _ 54 ?hg (N := 90) ?hd (xs := ([] : List (S54))) (inner := []) (ok := fun _ => True) (okp := fun _ => True) ?hr ?hp (fun _ hk => hk) trivial (Below.refl _ _) (Nat.le_refl _) (by simp) ?_; (case hd => rfl); (case hg => rfl); (case hr => first | (go_simp; done) | (go_simp; rfl)); (case hp => exact (Reps.none _ _))
                    intro v106 w82 ho83 hb hg_ hnew_
                    clear hg_ hnew_
                    (first | rw [← Ny105.out] at ho83 | (simp only [Int.reduceToNat] at ho83; rw [← Ny105.out] at ho83))
                    have n0_ := Aside0.mk (Kd.R_lower ho83 (below_size bw_))
                    have n1_ := Aside0.mk (below_step bw_ hb)
                    clear HB
                    have HO107 := n0_
                    have HB := n1_
                    clear n0_ n1_
                    clear hb ho83
                    refine hK.out _ _ trivial (fun hHeld => ?_)
                    clear hK K
                    refine norm_ (a' := ?_) ?_ ?_
                    rotate_left
                    ·
                     show Act.put _ (some 90) _ = _
                     simp only [ps_]
                     rfl
                    refine one_ (i := 4) (N := some 94) (bl_ 16 511) rfl rfl (one_of HT_.out (by kernel_rfl)) (by decide) (fun K hK => ?_)
                    refine Kd.R_append_rows_step k54 (w0 := w) w.heap.size (by rfl) (.tmp 90) (.tmp 93) 30 54 (.agg #[(.int .i64 0), (.string ⟨#[]⟩), (.string ⟨#[]⟩)]) 40 rfl Tryz.underlying30 info54 rfl (by decide) (by omega) v106 y105 y108 _ _ _ (fun _ => True) (fun _ => False) rfl rfl ?aO ?aR (fun _ _ h => h) (fun _ h => h.elim) ?aF ?aB ?aS ?aL ?_
                    (case aR => repeat (first | exact (Kd.C_below HR111.out HB.out) | (with_reducible refine Kd.C_alloc ?_ _) | (with_reducible refine Kd.C_drewN ?_ _) | (with_reducible refine Kd.C_drew ?_)))
                    (case aB => exact bw_)
                    (case aF => exact (fun _ _ => trivial))
                    (case aO => exact (by (with_reducible repeat (first | apply Kd.R_alloc | apply Kd.R_drewN | apply Kd.R_drew)); exact HO107.out))
                    (case aS => exact (below_size bw_))
                    (case aL => have := LMc47.out; omega)
                    intro v113 w84 ho hb hg hat
                    rw [← Ny112.out] at ho
                    have n0_ := Aside0.mk (hb)
                    have n1_ := Aside0.mk (ho)
                    clear HB
                    clear HO107
                    have HB := n0_
                    have HO114 := n1_
                    clear n0_ n1_
                    clear ho hb hg hat
                    refine hK.out _ _ trivial (fun hHeld => ?_)
                    clear hK K
                    refine norm_ (a' := ?_) ?_ ?_
                    rotate_left
                    ·
                     show Act.put _ (some 94) _ = _
                     simp only [ps_]
                     rfl
                    refine one_ (i := 9) (N := some 99) (bl_ 16 1023) rfl rfl (one_of HT_.out (by kernel_rfl)) (by decide) (fun K hK => ?_)
                    refine Kd.R_append_rows_step k54 (w0 := w) w.heap.size (by rfl) (.tmp 94) (.tmp 98) 30 54 (.agg #[(.int .i64 0), (.string ⟨#[]⟩), (.string ⟨#[]⟩)]) 40 rfl Tryz.underlying30 info54 rfl (by decide) (by omega) v113 y112 y115 _ _ _ (fun _ => True) (fun _ => False) rfl rfl ?aO ?aR (fun _ _ h => h) (fun _ h => h.elim) ?aF ?aB ?aS ?aL ?_
                    (case aR => repeat (first | exact (Kd.C_below HR118.out HB.out) | (with_reducible refine Kd.C_alloc ?_ _) | (with_reducible refine Kd.C_drewN ?_ _) | (with_reducible refine Kd.C_drew ?_)))
                    (case aB => exact bw_)
                    (case aF => exact (fun _ _ => trivial))
                    (case aO => exact (by (with_reducible repeat (first | apply Kd.R_alloc | apply Kd.R_drewN | apply Kd.R_drew)); exact HO114.out))
                    (case aS => exact (below_size bw_))
                    (case aL => have := LMc51.out; omega)
                    intro v120 w85 ho hb hg hat
                    rw [← Ny119.out] at ho
                    have n0_ := Aside0.mk (hb)
                    have n1_ := Aside0.mk (ho)
                    clear HB
                    clear HO114
                    have HB := n0_
                    have HO121 := n1_
                    clear n0_ n1_
                    clear ho hb hg hat
                    obtain ⟨Ao86, co86, eo86⟩ := Kd.R_slice HO121.out
                    (first | subst eo86 | (injection eo86 with f1_ f2_ f3_; have f4_ := f1_.symm; have f5_ := f3_.symm; clear f1_ f2_ f3_; subst f4_; subst f5_))
                    refine hK.out _ _ trivial (fun hHeld => ?_)
                    clear hK K
                    refine norm_ (a' := ?_) ?_ ?_
                    rotate_left
                    ·
                     show Act.put _ (some 99) _ = _
                     simp only [ps_]
                     rfl
                    refine one_ (i := 10) (N := some 100) (bl_ 16 2047) rfl rfl (one_of HT_.out (by kernel_rfl)) (by decide) (fun K hK => ?_)
                    refine goes_ Tryz.func19 (by kernel_rfl) rfl #[.slice Ao86 y119.length co86] (by rfl) rfl rfl la_ ?_
                    with_reducible refine (Ob.Gv.putTree.calls _ _ y119 t122 false _ ?side1 ?side2 A52.out (HTAB_.out _ (by first | exact Below.refl _ _ | (with_reducible exact Aside0.out (by assumption)) | repeat (first | (with_reducible exact Aside0.out (by assumption)) | apply below_alloc | apply pw_below_drewN | apply below_drew1 | (refine below_set ?_ ?_; rotate_left; (with_reducible exact Aside0.out (by assumption))))))).mono ?_
                    (case side1 => repeat (first | exact (Kd.R_reads' HO121.out).2.2 | (with_reducible refine Kd.C_alloc ?_ _) | (with_reducible refine Kd.C_drewN ?_ _) | (with_reducible refine Kd.C_drew ?_)))
                    (case side2 => exact (Kd.R_reads' HO121.out).2.1)
                    rintro e w87 ⟨rfl, hb⟩
                    refine ⟨_, rfl, ?_⟩
                    have n0_ := Aside0.mk (Kd.R_below o2_ hb)
                    have n1_ := Aside0.mk (below_step bw_ hb)
                    clear HO121
                    clear HB
                    have HO121 := n0_
                    have HB := n1_
                    clear n0_ n1_
                    (try clear hb)
                    (try clear hb2)
                    (try clear hk)
                    (try clear hi)
                    refine hK.out _ _ trivial (fun hHeld => ?_)
                    clear hK K
                    refine norm_ (a' := ?_) ?_ ?_
                    rotate_left
                    ·
                     show Act.put _ (some 100) _ = _
                     simp only [ps_]
                     rfl
                    refine pv_ 11 89 (bl_ 16 4095) ?_
                    refine pv_ 12 101 (bl_ 16 8191) ?_
                    refine pv_ 13 102 (bl_ 16 16383) ?_
                    refine pv_ 14 12 (bl_ 16 32767) ?_
                    refine pv_ 15 13 (bl_ 16 65535) ?_
                    refine done_ (done_of HT_.out (by kernel_rfl)) ?_
                    try go_wp2
                    have n0_ := Aside0.mk (Kd.R_drew HO121.out)
                    have n1_ := Aside0.mk (below_drew1 HB.out)
                    clear HO121
                    clear HB
                    have HO121 := n0_
                    have HB := n1_
                    clear n0_ n1_
                    have p130 : 0 ≤ ((ji44) : Int) := oda_
                    have q130 : (ji44) < (l0.length : Int) := oda_
                    obtain ⟨ad130, e130, hx130_0, hx130_1, hx130_2⟩ := at_T54 HR0.out (ji44) p130 q130
                    have hw130_2 := hx130_2
                    have hw130_1 := hx130_1
                    have hw130_0 := hx130_0
                    cases e130
                    replace hx130_0 := (HB.out.cell (World.block_lt_of_cell? w _ hx130_0)).trans hx130_0
                    replace hx130_1 := (HB.out.cell (World.block_lt_of_cell? w _ hx130_1)).trans hx130_1
                    replace hx130_2 := (HB.out.cell (World.block_lt_of_cell? w _ hx130_2)).trans hx130_2
                    replace p130 := eq_true p130
                    replace q130 := eq_true q130
                    refine start_ (n := 15) (S := fun w' => w'.cell? (ad130.add (((ji44)).toNat * 3)) = some (.int .i64 ((rd_T54 l0 (ji44)).f0)) ∧ w'.cell? ⟨(ad130.add (((ji44)).toNat * 3)).block, (ad130.add (((ji44)).toNat * 3)).off + 1, none⟩ = some (.string ((rd_T54 l0 (ji44)).f1)) ∧ w'.cell? ⟨(ad130.add (((ji44)).toNat * 3)).block, (ad130.add (((ji44)).toNat * 3)).off + 2, none⟩ = some (.string ((rd_T54 l0 (ji44)).f2))) (ds := []) (bl_ 15 0) (by kernel_rfl) rfl rfl ⟨((HB.out.cell (World.block_lt_of_cell? w _ hw130_0)).trans hw130_0), ((HB.out.cell (World.block_lt_of_cell? w _ hw130_1)).trans hw130_1), ((HB.out.cell (World.block_lt_of_cell? w _ hw130_2)).trans hw130_2)⟩ (fun hHeld => ?_); refine with_tabW w04_ObjectOrder.tab20 w04_ObjectOrder.bits20 (fun HT_ HW_ => ?_)
                    generalize w87.drew = w88 at HO121 HB hx130_0 hx130_1 hx130_2 hHeld ⊢
                    refine pv_ 1 105 (bl_ 15 2) ?_
                    refine pv_ 3 107 (bl_ 15 10) ?_
                    refine pv_ 4 108 (bl_ 15 26) ?_
                    refine pv_ 5 109 (bl_ 15 58) ?_
                    refine tk_ 6 110 (bl_ 15 122) hHeld (hv := by rintro w' ⟨s0, s1, s2⟩; go_simp; with_reducible rfl) (h := ?_)
                    refine join_ (σ := Value × Value × Value) 7 (bl_ 15 255) (fun s_ => [(104, s_.1), (106, s_.2.1), (111, s_.2.2)]) (fun s_ w' => (w'.cell? (ad130.add (((ji44)).toNat * 3)) = some (.int .i64 ((rd_T54 l0 (ji44)).f0)) ∧ w'.cell? ⟨(ad130.add (((ji44)).toNat * 3)).block, (ad130.add (((ji44)).toNat * 3)).off + 1, none⟩ = some (.string ((rd_T54 l0 (ji44)).f1)) ∧ w'.cell? ⟨(ad130.add (((ji44)).toNat * 3)).block, (ad130.add (((ji44)).toNat * 3)).off + 2, none⟩ = some (.string ((rd_T54 l0 (ji44)).f2))) ∧ (Kd.R k54 54 w' w.heap.size (fun k_ => some k_ ≠ (s_.2.1 : Value).ownBlock ∧ some k_ ≠ (s_.2.2 : Value).ownBlock) (.slice Ao86 y119.length co86) y119) ∧ (Kd.R k54 54 w' w.heap.size (fun k_ => some k_ ≠ (.slice Ao86 y119.length co86 : Value).ownBlock ∧ some k_ ≠ (s_.2.2 : Value).ownBlock) s_.2.1 y127) ∧ (Kd.R k54 54 w' w.heap.size (fun k_ => some k_ ≠ (.slice Ao86 y119.length co86 : Value).ownBlock ∧ some k_ ≠ (s_.2.1 : Value).ownBlock) s_.2.2 y131) ∧ (Below w.heap.size w w')) ?_ ?_
                    rotate_left
                    ·
                     intro hCont
                     refine two_ (i := 0) (j := 7) (Ni := some 104) (Nj := some 111) (bl_ 15 123) (bl_ 15 250) rfl rfl rfl rfl (two_of HT_.out (by kernel_rfl)) (by decide) (by decide) (fun K hK => ?_) (fun K hK => ?_)
                     ·
                      skip
                      refine Kd.R_lit_step k54 _ 54 ?hg (N := 104) ?hd (xs := ([] : List (S54))) (inner := []) (ok := fun _ => True) (okp := fun _ => True) ?hr ?hp (fun _ hk => hk) trivial (Below.refl _ _) (Nat.le_refl _) (by simp) ?_; (case hd => rfl); (case hg => rfl); (case hr => first | (go_simp; done) | (go_simp; rfl)); (case hp => exact (Reps.none _ _))
                      intro v125 w89 ho90 hb hg_ hnew_
                      clear hg_ hnew_
                      (first | rw [← Ny124.out] at ho90 | (simp only [Int.reduceToNat] at ho90; rw [← Ny124.out] at ho90))
                      have n0_ := Aside0.mk (Kd.R_elder' o2_ (Kd.R_base ho90) hb)
                      have n1_ := Aside0.mk (Kd.R_lower (Kd.R_new' ho90 (Kd.R_lt o2_)) (below_size bw_))
                      have n2_ := Aside0.mk (below_step bw_ hb)
                      clear HO121
                      clear HB
                      have HO121 := n0_
                      have HO126 := n1_
                      have HB := n2_
                      clear n0_ n1_ n2_
                      clear hb ho90
                      refine hK.out _ _ ⟨((HB.out.cell (World.block_lt_of_cell? w _ hw130_0)).trans hw130_0), ((HB.out.cell (World.block_lt_of_cell? w _ hw130_1)).trans hw130_1), ((HB.out.cell (World.block_lt_of_cell? w _ hw130_2)).trans hw130_2)⟩ (fun hHeld => ?_)
                      clear hK K
                      refine norm_ (a' := ?_) ?_ ?_
                      rotate_left
                      ·
                       show Act.put _ (some 104) _ = _
                       simp only [ps_]
                       rfl
                      refine two_ (i := 2) (j := 7) (Ni := some 106) (Nj := some 111) (bl_ 15 127) (bl_ 15 251) rfl rfl rfl rfl (two_of HT_.out (by kernel_rfl)) (by decide) (by decide) (fun K hK => ?_) (fun K hK => ?_)
                      ·
                       skip
                       refine Kd.R_append_rows_step k54 (w0 := w) w.heap.size (by rfl) (.tmp 104) (.tmp 105) 30 54 (.agg #[(.int .i64 0), (.string ⟨#[]⟩), (.string ⟨#[]⟩)]) 40 rfl Tryz.underlying30 info54 rfl (by decide) (by omega) v125 y124 l0 _ _ _ (fun k_ => some k_ ≠ (.slice Ao86 y119.length co86 : Value).ownBlock) (fun _ => False) rfl rfl ?aO ?aR (fun _ _ h => h) (fun _ h => h.elim) ?aF ?aB ?aS ?aL ?_
                       (case aR => repeat (first | exact (Kd.C_below HR0.out HB.out) | (with_reducible refine Kd.C_alloc ?_ _) | (with_reducible refine Kd.C_drewN ?_ _) | (with_reducible refine Kd.C_drew ?_)))
                       (case aB => exact bw_)
                       (case aF => exact (fun k_ hk => Kd.fresh' (Kd.R_lt o2_) k_ hk))
                       (case aO => exact (by (with_reducible repeat (first | apply Kd.R_alloc | apply Kd.R_drewN | apply Kd.R_drew)); exact Kd.R_mono HO126.out (fun _ hk => hk.2)))
                       (case aS => exact (below_size bw_))
                       (case aL => have := LMc53.out; omega)
                       intro v128 w91 ho hb hg hat
                       rw [← Ny127.out] at ho
                       have n0_ := Aside0.mk (Kd.R_after (ok := (fun _ => True)) o2_ hg hat)
                       have n1_ := Aside0.mk (hb)
                       have n2_ := Aside0.mk (ho)
                       clear HO121
                       clear HB
                       clear HO126
                       have HO121 := n0_
                       have HB := n1_
                       have HO129 := n2_
                       clear n0_ n1_ n2_
                       clear ho hb hg hat
                       refine hK.out _ _ ⟨((HB.out.cell (World.block_lt_of_cell? w _ hw130_0)).trans hw130_0), ((HB.out.cell (World.block_lt_of_cell? w _ hw130_1)).trans hw130_1), ((HB.out.cell (World.block_lt_of_cell? w _ hw130_2)).trans hw130_2)⟩ (fun hHeld => ?_)
                       clear hK K
                       refine norm_ (a' := ?_) ?_ ?_
                       rotate_left
                       ·
                        show Act.put _ (some 106) _ = _
                        simp only [ps_]
                        rfl
                       refine one_ (i := 7) (N := some 111) (bl_ 15 255) rfl rfl (one_of HT_.out (by kernel_rfl)) (by decide) (fun K hK => ?_)
                       refine Kd.R_lit_step k54 _ 54 ?hg (N := 111) ?hd (xs := ([(⟨(rd_T54 l0 (ji44)).f0, (rd_T54 l0 (ji44)).f1, (rd_T54 l0 (ji44)).f2⟩ : S54)] : List (S54))) (inner := [.int .i64 ((rd_T54 l0 (ji44)).f0), .string ((rd_T54 l0 (ji44)).f1), .string ((rd_T54 l0 (ji44)).f2)]) (ok := fun _ => True) (okp := fun _ => True) ?hr ?hp (fun _ hk => hk) trivial (Below.refl _ _) (Nat.le_refl _) (by simp) ?_; (case hd => rfl); (case hg => rfl); (case hr => first | (go_simp; done) | (go_simp; rfl)); (case hp => exact (Reps.c3 (show Kd.M k54 _ _ _ (⟨(rd_T54 l0 (ji44)).f0, (rd_T54 l0 (ji44)).f1, (rd_T54 l0 (ji44)).f2⟩ : S54) [.int .i64 ((rd_T54 l0 (ji44)).f0), .string ((rd_T54 l0 (ji44)).f1), .string ((rd_T54 l0 (ji44)).f2)] from (k54_mkM _ _ _ (⟨(rd_T54 l0 (ji44)).f0, (rd_T54 l0 (ji44)).f1, (rd_T54 l0 (ji44)).f2⟩ : S54) )) (Reps.none _ _)))
                       intro v132 w92 ho93 hb hg_ hnew_
                       clear hg_ hnew_
                       (first | rw [← Ny131.out] at ho93 | (simp only [Int.reduceToNat] at ho93; rw [← Ny131.out] at ho93))
                       have n0_ := Aside0.mk (Kd.R_elder' o2_ (Kd.R_base ho93) hb)
                       have n1_ := Aside0.mk (Kd.R_elder' o3_ (Kd.R_base ho93) hb)
                       have n2_ := Aside0.mk (Kd.R_lower (Kd.R_new' (Kd.R_new' ho93 (Kd.R_lt o2_)) (Kd.R_lt o3_)) (below_size bw_))
                       have n3_ := Aside0.mk (below_step bw_ hb)
                       clear HO121
                       clear HO129
                       clear HB
                       have HO121 := n0_
                       have HO129 := n1_
                       have HO133 := n2_
                       have HB := n3_
                       clear n0_ n1_ n2_ n3_
                       clear hb ho93
                       refine hK.out _ _ ⟨((HB.out.cell (World.block_lt_of_cell? w _ hw130_0)).trans hw130_0), ((HB.out.cell (World.block_lt_of_cell? w _ hw130_1)).trans hw130_1), ((HB.out.cell (World.block_lt_of_cell? w _ hw130_2)).trans hw130_2)⟩ (fun hHeld => ?_)
                       clear hK K
                       refine norm_ (a' := ?_) ?_ ?_
                       rotate_left
                       ·
                        show Act.put _ (some 111) _ = _
                        simp only [ps_]
                        rfl
                       exact norm_ (by simp only [putAll, Act.put, List.setIfInBounds_toArray, List.set_cons_zero, List.set_cons_succ]) (hCont (v125, v128, v132) _ ⟨hHeld, (by (with_reducible repeat (first | apply Kd.R_alloc | apply Kd.R_drewN | apply Kd.R_drew)); exact Kd.R_mono HO121.out (fun _ hk => ⟨hk.1.2, hk.2⟩)), o3_, (by (with_reducible repeat (first | apply Kd.R_alloc | apply Kd.R_drewN | apply Kd.R_drew)); exact Kd.R_mono HO133.out (fun _ hk => ⟨hk.1.2, hk.2⟩)), bw_⟩)
                      ·
                       skip
                       refine Kd.R_lit_step k54 _ 54 ?hg (N := 111) ?hd (xs := ([(⟨(rd_T54 l0 (ji44)).f0, (rd_T54 l0 (ji44)).f1, (rd_T54 l0 (ji44)).f2⟩ : S54)] : List (S54))) (inner := [.int .i64 ((rd_T54 l0 (ji44)).f0), .string ((rd_T54 l0 (ji44)).f1), .string ((rd_T54 l0 (ji44)).f2)]) (ok := fun _ => True) (okp := fun _ => True) ?hr ?hp (fun _ hk => hk) trivial (Below.refl _ _) (Nat.le_refl _) (by simp) ?_; (case hd => rfl); (case hg => rfl); (case hr => first | (go_simp; done) | (go_simp; rfl)); (case hp => exact (Reps.c3 (show Kd.M k54 _ _ _ (⟨(rd_T54 l0 (ji44)).f0, (rd_T54 l0 (ji44)).f1, (rd_T54 l0 (ji44)).f2⟩ : S54) [.int .i64 ((rd_T54 l0 (ji44)).f0), .string ((rd_T54 l0 (ji44)).f1), .string ((rd_T54 l0 (ji44)).f2)] from (k54_mkM _ _ _ (⟨(rd_T54 l0 (ji44)).f0, (rd_T54 l0 (ji44)).f1, (rd_T54 l0 (ji44)).f2⟩ : S54) )) (Reps.none _ _)))
                       intro v132 w91 ho92 hb hg_ hnew_
                       clear hg_ hnew_
                       (first | rw [← Ny131.out] at ho92 | (simp only [Int.reduceToNat] at ho92; rw [← Ny131.out] at ho92))
                       have n0_ := Aside0.mk (Kd.R_elder' o2_ (Kd.R_base ho92) hb)
                       have n1_ := Aside0.mk (Kd.R_elder' o1_ (Kd.R_base ho92) hb)
                       have n2_ := Aside0.mk (Kd.R_lower (Kd.R_new' (Kd.R_new' ho92 (Kd.R_lt o2_)) (Kd.R_lt o1_)) (below_size bw_))
                       have n3_ := Aside0.mk (below_step bw_ hb)
                       clear HO121
                       clear HO126
                       clear HB
                       have HO121 := n0_
                       have HO126 := n1_
                       have HO133 := n2_
                       have HB := n3_
                       clear n0_ n1_ n2_ n3_
                       clear hb ho92
                       refine hK.out _ _ ⟨((HB.out.cell (World.block_lt_of_cell? w _ hw130_0)).trans hw130_0), ((HB.out.cell (World.block_lt_of_cell? w _ hw130_1)).trans hw130_1), ((HB.out.cell (World.block_lt_of_cell? w _ hw130_2)).trans hw130_2)⟩ (fun hHeld => ?_)
                       clear hK K
                       refine norm_ (a' := ?_) ?_ ?_
                       rotate_left
                       ·
                        show Act.put _ (some 111) _ = _
                        simp only [ps_]
                        rfl
                       refine one_ (i := 2) (N := some 106) (bl_ 15 255) rfl rfl (one_of HT_.out (by kernel_rfl)) (by decide) (fun K hK => ?_)
                       refine Kd.R_append_rows_step k54 (w0 := w) w.heap.size (by rfl) (.tmp 104) (.tmp 105) 30 54 (.agg #[(.int .i64 0), (.string ⟨#[]⟩), (.string ⟨#[]⟩)]) 40 rfl Tryz.underlying30 info54 rfl (by decide) (by omega) v125 y124 l0 _ _ _ (fun k_ => some k_ ≠ (.slice Ao86 y119.length co86 : Value).ownBlock ∧ some k_ ≠ (v132 : Value).ownBlock) (fun _ => False) rfl rfl ?aO ?aR (fun _ _ h => h) (fun _ h => h.elim) ?aF ?aB ?aS ?aL ?_
                       (case aR => repeat (first | exact (Kd.C_below HR0.out HB.out) | (with_reducible refine Kd.C_alloc ?_ _) | (with_reducible refine Kd.C_drewN ?_ _) | (with_reducible refine Kd.C_drew ?_)))
                       (case aB => exact bw_)
                       (case aF => exact (fun k_ hk => ⟨Kd.fresh' (Kd.R_lt o2_) k_ hk, Kd.fresh' (Kd.R_lt o4_) k_ hk⟩))
                       (case aO => exact (by (with_reducible repeat (first | apply Kd.R_alloc | apply Kd.R_drewN | apply Kd.R_drew)); exact Kd.R_mono HO126.out (fun _ hk => ⟨hk.1.2, hk.2⟩)))
                       (case aS => exact (below_size bw_))
                       (case aL => have := LMc53.out; omega)
                       intro v128 w93 ho hb hg hat
                       rw [← Ny127.out] at ho
                       have n0_ := Aside0.mk (Kd.R_after (ok := (fun k_ => some k_ ≠ (v132 : Value).ownBlock)) (by (with_reducible repeat (first | apply Kd.R_alloc | apply Kd.R_drewN | apply Kd.R_drew)); exact Kd.R_mono HO121.out (fun _ hk => ⟨hk.2, hk.1.2⟩)) hg hat)
                       have n1_ := Aside0.mk (Kd.R_after (ok := (fun k_ => some k_ ≠ (.slice Ao86 y119.length co86 : Value).ownBlock)) (by (with_reducible repeat (first | apply Kd.R_alloc | apply Kd.R_drewN | apply Kd.R_drew)); exact Kd.R_mono HO133.out (fun _ hk => ⟨hk.1.2, hk.2⟩)) hg hat)
                       have n2_ := Aside0.mk (hb)
                       have n3_ := Aside0.mk (ho)
                       clear HO121
                       clear HO133
                       clear HB
                       clear HO126
                       have HO121 := n0_
                       have HO133 := n1_
                       have HB := n2_
                       have HO129 := n3_
                       clear n0_ n1_ n2_ n3_
                       clear ho hb hg hat
                       refine hK.out _ _ ⟨((HB.out.cell (World.block_lt_of_cell? w _ hw130_0)).trans hw130_0), ((HB.out.cell (World.block_lt_of_cell? w _ hw130_1)).trans hw130_1), ((HB.out.cell (World.block_lt_of_cell? w _ hw130_2)).trans hw130_2)⟩ (fun hHeld => ?_)
                       clear hK K
                       refine norm_ (a' := ?_) ?_ ?_
                       rotate_left
                       ·
                        show Act.put _ (some 106) _ = _
                        simp only [ps_]
                        rfl
                       exact norm_ (by simp only [putAll, Act.put, List.setIfInBounds_toArray, List.set_cons_zero, List.set_cons_succ]) (hCont (v125, v128, v132) _ ⟨hHeld, (by (with_reducible repeat (first | apply Kd.R_alloc | apply Kd.R_drewN | apply Kd.R_drew)); exact Kd.R_mono HO121.out (fun _ hk => ⟨hk.2, hk.1⟩)), o3_, o4_, bw_⟩)
                     ·
                      skip
                      refine Kd.R_lit_step k54 _ 54 ?hg (N := 111) ?hd (xs := ([(⟨(rd_T54 l0 (ji44)).f0, (rd_T54 l0 (ji44)).f1, (rd_T54 l0 (ji44)).f2⟩ : S54)] : List (S54))) (inner := [.int .i64 ((rd_T54 l0 (ji44)).f0), .string ((rd_T54 l0 (ji44)).f1), .string ((rd_T54 l0 (ji44)).f2)]) (ok := fun _ => True) (okp := fun _ => True) ?hr ?hp (fun _ hk => hk) trivial (Below.refl _ _) (Nat.le_refl _) (by simp) ?_; (case hd => rfl); (case hg => rfl); (case hr => first | (go_simp; done) | (go_simp; rfl)); (case hp => exact (Reps.c3 (show Kd.M k54 _ _ _ (⟨(rd_T54 l0 (ji44)).f0, (rd_T54 l0 (ji44)).f1, (rd_T54 l0 (ji44)).f2⟩ : S54) [.int .i64 ((rd_T54 l0 (ji44)).f0), .string ((rd_T54 l0 (ji44)).f1), .string ((rd_T54 l0 (ji44)).f2)] from (k54_mkM _ _ _ (⟨(rd_T54 l0 (ji44)).f0, (rd_T54 l0 (ji44)).f1, (rd_T54 l0 (ji44)).f2⟩ : S54) )) (Reps.none _ _)))
                      intro v132 w89 ho90 hb hg_ hnew_
                      clear hg_ hnew_
                      (first | rw [← Ny131.out] at ho90 | (simp only [Int.reduceToNat] at ho90; rw [← Ny131.out] at ho90))
                      have n0_ := Aside0.mk (Kd.R_elder' o2_ (Kd.R_base ho90) hb)
                      have n1_ := Aside0.mk (Kd.R_lower (Kd.R_new' ho90 (Kd.R_lt o2_)) (below_size bw_))
                      have n2_ := Aside0.mk (below_step bw_ hb)
                      clear HO121
                      clear HB
                      have HO121 := n0_
                      have HO133 := n1_
                      have HB := n2_
                      clear n0_ n1_ n2_
                      clear hb ho90
                      refine hK.out _ _ ⟨((HB.out.cell (World.block_lt_of_cell? w _ hw130_0)).trans hw130_0), ((HB.out.cell (World.block_lt_of_cell? w _ hw130_1)).trans hw130_1), ((HB.out.cell (World.block_lt_of_cell? w _ hw130_2)).trans hw130_2)⟩ (fun hHeld => ?_)
                      clear hK K
                      refine norm_ (a' := ?_) ?_ ?_
                      rotate_left
                      ·
                       show Act.put _ (some 111) _ = _
                       simp only [ps_]
                       rfl
                      refine one_ (i := 0) (N := some 104) (bl_ 15 251) rfl rfl (one_of HT_.out (by kernel_rfl)) (by decide) (fun K hK => ?_)
                      refine Kd.R_lit_step k54 _ 54 ?hg (N := 104) ?hd (xs := ([] : List (S54))) (inner := []) (ok := fun _ => True) (okp := fun _ => True) ?hr ?hp (fun _ hk => hk) trivial (Below.refl _ _) (Nat.le_refl _) (by simp) ?_; (case hd => rfl); (case hg => rfl); (case hr => first | (go_simp; done) | (go_simp; rfl)); (case hp => exact (Reps.none _ _))
                      intro v125 w91 ho92 hb hg_ hnew_
                      clear hg_ hnew_
                      (first | rw [← Ny124.out] at ho92 | (simp only [Int.reduceToNat] at ho92; rw [← Ny124.out] at ho92))
                      have n0_ := Aside0.mk (Kd.R_elder' o2_ (Kd.R_base ho92) hb)
                      have n1_ := Aside0.mk (Kd.R_elder' o4_ (Kd.R_base ho92) hb)
                      have n2_ := Aside0.mk (Kd.R_lower (Kd.R_new' (Kd.R_new' ho92 (Kd.R_lt o2_)) (Kd.R_lt o4_)) (below_size bw_))
                      have n3_ := Aside0.mk (below_step bw_ hb)
                      clear HO121
                      clear HO133
                      clear HB
                      have HO121 := n0_
                      have HO133 := n1_
                      have HO126 := n2_
                      have HB := n3_
                      clear n0_ n1_ n2_ n3_
                      clear hb ho92
                      refine hK.out _ _ ⟨((HB.out.cell (World.block_lt_of_cell? w _ hw130_0)).trans hw130_0), ((HB.out.cell (World.block_lt_of_cell? w _ hw130_1)).trans hw130_1), ((HB.out.cell (World.block_lt_of_cell? w _ hw130_2)).trans hw130_2)⟩ (fun hHeld => ?_)
                      clear hK K
                      refine norm_ (a' := ?_) ?_ ?_
                      rotate_left
                      ·
                       show Act.put _ (some 104) _ = _
                       simp only [ps_]
                       rfl
                      refine one_ (i := 2) (N := some 106) (bl_ 15 255) rfl rfl (one_of HT_.out (by kernel_rfl)) (by decide) (fun K hK => ?_)
                      refine Kd.R_append_rows_step k54 (w0 := w) w.heap.size (by rfl) (.tmp 104) (.tmp 105) 30 54 (.agg #[(.int .i64 0), (.string ⟨#[]⟩), (.string ⟨#[]⟩)]) 40 rfl Tryz.underlying30 info54 rfl (by decide) (by omega) v125 y124 l0 _ _ _ (fun k_ => some k_ ≠ (.slice Ao86 y119.length co86 : Value).ownBlock ∧ some k_ ≠ (v132 : Value).ownBlock) (fun _ => False) rfl rfl ?aO ?aR (fun _ _ h => h) (fun _ h => h.elim) ?aF ?aB ?aS ?aL ?_
                      (case aR => repeat (first | exact (Kd.C_below HR0.out HB.out) | (with_reducible refine Kd.C_alloc ?_ _) | (with_reducible refine Kd.C_drewN ?_ _) | (with_reducible refine Kd.C_drew ?_)))
                      (case aB => exact bw_)
                      (case aF => exact (fun k_ hk => ⟨Kd.fresh' (Kd.R_lt o2_) k_ hk, Kd.fresh' (Kd.R_lt o4_) k_ hk⟩))
                      (case aO => exact (by (with_reducible repeat (first | apply Kd.R_alloc | apply Kd.R_drewN | apply Kd.R_drew)); exact Kd.R_mono HO126.out (fun _ hk => ⟨hk.1.2, hk.2⟩)))
                      (case aS => exact (below_size bw_))
                      (case aL => have := LMc53.out; omega)
                      intro v128 w93 ho hb hg hat
                      rw [← Ny127.out] at ho
                      have n0_ := Aside0.mk (Kd.R_after (ok := (fun k_ => some k_ ≠ (v132 : Value).ownBlock)) (by (with_reducible repeat (first | apply Kd.R_alloc | apply Kd.R_drewN | apply Kd.R_drew)); exact Kd.R_mono HO121.out (fun _ hk => ⟨hk.1.2, hk.2⟩)) hg hat)
                      have n1_ := Aside0.mk (Kd.R_after (ok := (fun k_ => some k_ ≠ (.slice Ao86 y119.length co86 : Value).ownBlock)) (by (with_reducible repeat (first | apply Kd.R_alloc | apply Kd.R_drewN | apply Kd.R_drew)); exact Kd.R_mono HO133.out (fun _ hk => ⟨hk.1.2, hk.2⟩)) hg hat)
                      have n2_ := Aside0.mk (hb)
                      have n3_ := Aside0.mk (ho)
                      clear HO121
                      clear HO133
                      clear HB
                      clear HO126
                      have HO121 := n0_
                      have HO133 := n1_
                      have HB := n2_
                      have HO129 := n3_
                      clear n0_ n1_ n2_ n3_
                      clear ho hb hg hat
                      refine hK.out _ _ ⟨((HB.out.cell (World.block_lt_of_cell? w _ hw130_0)).trans hw130_0), ((HB.out.cell (World.block_lt_of_cell? w _ hw130_1)).trans hw130_1), ((HB.out.cell (World.block_lt_of_cell? w _ hw130_2)).trans hw130_2)⟩ (fun hHeld => ?_)
                      clear hK K
                      refine norm_ (a' := ?_) ?_ ?_
                      rotate_left
                      ·
                       show Act.put _ (some 106) _ = _
                       simp only [ps_]
                       rfl
                      exact norm_ (by simp only [putAll, Act.put, List.setIfInBounds_toArray, List.set_cons_zero, List.set_cons_succ]) (hCont (v125, v128, v132) _ ⟨hHeld, (by (with_reducible repeat (first | apply Kd.R_alloc | apply Kd.R_drewN | apply Kd.R_drew)); exact Kd.R_mono HO121.out (fun _ hk => ⟨hk.2, hk.1⟩)), o3_, o4_, bw_⟩)
                    rintro ⟨v125, v128, v132⟩ w94 ⟨hS_, h0_, h1_, h2_, h3_⟩
                    have n0_ : Aside0 (Kd.R k54 54 w94 w.heap.size (fun k_ => some k_ ≠ (v128 : Value).ownBlock ∧ some k_ ≠ (v132 : Value).ownBlock) (.slice Ao86 y119.length co86) y119) := ⟨h0_⟩
                    have n1_ : Aside0 (Kd.R k54 54 w94 w.heap.size (fun k_ => some k_ ≠ (.slice Ao86 y119.length co86 : Value).ownBlock ∧ some k_ ≠ (v132 : Value).ownBlock) v128 y127) := ⟨h1_⟩
                    have n2_ : Aside0 (Kd.R k54 54 w94 w.heap.size (fun k_ => some k_ ≠ (.slice Ao86 y119.length co86 : Value).ownBlock ∧ some k_ ≠ (v128 : Value).ownBlock) v132 y131) := ⟨h2_⟩
                    have n3_ : Aside0 (Below w.heap.size w w94) := ⟨h3_⟩
                    clear HO121
                    clear HB
                    clear h0_ h1_ h2_ h3_
                    have HO121 := n0_
                    have HO129 := n1_
                    have HO133 := n2_
                    have HB := n3_
                    clear n0_ n1_ n2_ n3_
                    have hHeld : w94.cell? (ad130.add (((ji44)).toNat * 3)) = some (.int .i64 ((rd_T54 l0 (ji44)).f0)) ∧ w94.cell? ⟨(ad130.add (((ji44)).toNat * 3)).block, (ad130.add (((ji44)).toNat * 3)).off + 1, none⟩ = some (.string ((rd_T54 l0 (ji44)).f1)) ∧ w94.cell? ⟨(ad130.add (((ji44)).toNat * 3)).block, (ad130.add (((ji44)).toNat * 3)).off + 2, none⟩ = some (.string ((rd_T54 l0 (ji44)).f2)) := hS_
                    obtain ⟨Ao96, co96, eo96⟩ := Kd.R_slice HO133.out
                    (first | subst eo96 | (injection eo96 with f1_ f2_ f3_; have f4_ := f1_.symm; have f5_ := f3_.symm; clear f1_ f2_ f3_; subst f4_; subst f5_))
                    refine norm_ (a' := ?_) ?_ ?_
                    rotate_left
                    ·
                     simp only [putAll, Act.put, List.setIfInBounds_toArray, List.set_cons_zero, List.set_cons_succ]
                     rfl
                    refine one_ (i := 8) (N := some 112) (bl_ 15 511) rfl rfl (one_of HT_.out (by kernel_rfl)) (by decide) (fun K hK => ?_)
                    refine Kd.R_append_rows_step k54 (w0 := w) w.heap.size (by rfl) (.tmp 106) (.tmp 111) 30 54 (.agg #[(.int .i64 0), (.string ⟨#[]⟩), (.string ⟨#[]⟩)]) 40 rfl Tryz.underlying30 info54 rfl (by decide) (by omega) v128 y127 y131 _ _ _ (fun k_ => some k_ ≠ (.slice Ao86 y119.length co86 : Value).ownBlock ∧ some k_ ≠ (.slice Ao96 y131.length co96 : Value).ownBlock) (fun _ => False) rfl rfl ?aO ?aR (fun _ _ h => h) (fun _ h => h.elim) ?aF ?aB ?aS ?aL ?_
                    (case aR => repeat (first | exact (Kd.R_reads' HO133.out).2.2 | (with_reducible refine Kd.C_alloc ?_ _) | (with_reducible refine Kd.C_drewN ?_ _) | (with_reducible refine Kd.C_drew ?_)))
                    (case aB => exact bw_)
                    (case aF => exact (fun k_ hk => ⟨Kd.fresh' (Kd.R_lt o2_) k_ hk, Kd.fresh' (Kd.R_lt o4_) k_ hk⟩))
                    (case aO => exact o3_)
                    (case aS => exact (below_size bw_))
                    (case aL => have := LMc55.out; omega)
                    intro v135 w95 ho hb hg hat
                    rw [← Ny134.out] at ho
                    have n0_ := Aside0.mk (Kd.R_after (ok := (fun k_ => some k_ ≠ (.slice Ao96 y131.length co96 : Value).ownBlock)) (by (with_reducible repeat (first | apply Kd.R_alloc | apply Kd.R_drewN | apply Kd.R_drew)); exact Kd.R_mono HO121.out (fun _ hk => ⟨hk.2, hk.1⟩)) hg hat)
                    have n1_ := Aside0.mk (Kd.R_after (ok := (fun k_ => some k_ ≠ (.slice Ao86 y119.length co86 : Value).ownBlock)) o4_ hg hat)
                    have n2_ := Aside0.mk (hb)
                    have n3_ := Aside0.mk (ho)
                    clear HO121
                    clear HO133
                    clear HB
                    clear HO129
                    have HO121 := n0_
                    have HO133 := n1_
                    have HB := n2_
                    have HO136 := n3_
                    clear n0_ n1_ n2_ n3_
                    clear ho hb hg hat
                    obtain ⟨Ao97, co97, eo97⟩ := Kd.R_slice HO136.out
                    (first | subst eo97 | (injection eo97 with f1_ f2_ f3_; have f4_ := f1_.symm; have f5_ := f3_.symm; clear f1_ f2_ f3_; subst f4_; subst f5_))
                    refine hK.out _ _ ⟨((HB.out.cell (World.block_lt_of_cell? w _ hw130_0)).trans hw130_0), ((HB.out.cell (World.block_lt_of_cell? w _ hw130_1)).trans hw130_1), ((HB.out.cell (World.block_lt_of_cell? w _ hw130_2)).trans hw130_2)⟩ (fun hHeld => ?_)
                    clear hK K
                    refine norm_ (a' := ?_) ?_ ?_
                    rotate_left
                    ·
                     show Act.put _ (some 112) _ = _
                     simp only [ps_]
                     rfl
                    refine one_ (i := 9) (N := some 113) (bl_ 15 1023) rfl rfl (one_of HT_.out (by kernel_rfl)) (by decide) (fun K hK => ?_)
                    refine goes_ Tryz.func19 (by kernel_rfl) rfl #[.slice Ao97 y134.length co97] (by rfl) rfl rfl la_ ?_
                    with_reducible refine (Ob.Gv.putTree.calls _ _ y134 t137 t138 _ ?side1 ?side2 A56.out (HTAB_.out _ (by first | exact Below.refl _ _ | (with_reducible exact Aside0.out (by assumption)) | repeat (first | (with_reducible exact Aside0.out (by assumption)) | apply below_alloc | apply pw_below_drewN | apply below_drew1 | (refine below_set ?_ ?_; rotate_left; (with_reducible exact Aside0.out (by assumption))))))).mono ?_
                    (case side1 => repeat (first | exact (Kd.R_reads' HO136.out).2.2 | (with_reducible refine Kd.C_alloc ?_ _) | (with_reducible refine Kd.C_drewN ?_ _) | (with_reducible refine Kd.C_drew ?_)))
                    (case side2 => exact (Kd.R_reads' HO136.out).2.1)
                    rintro e w98 ⟨rfl, hb⟩
                    refine ⟨_, rfl, ?_⟩
                    have n0_ := Aside0.mk (Kd.R_below o2_ hb)
                    have n1_ := Aside0.mk (Kd.R_below o4_ hb)
                    have n2_ := Aside0.mk (Kd.R_below (by (with_reducible repeat (first | apply Kd.R_alloc | apply Kd.R_drewN | apply Kd.R_drew)); exact HO136.out) hb)
                    have n3_ := Aside0.mk (below_step bw_ hb)
                    clear HO121
                    clear HO133
                    clear HO136
                    clear HB
                    have HO121 := n0_
                    have HO133 := n1_
                    have HO136 := n2_
                    have HB := n3_
                    clear n0_ n1_ n2_ n3_
                    (try clear hb)
                    (try clear hb2)
                    (try clear hk)
                    (try clear hi)
                    refine hK.out _ _ ⟨((HB.out.cell (World.block_lt_of_cell? w _ hw130_0)).trans hw130_0), ((HB.out.cell (World.block_lt_of_cell? w _ hw130_1)).trans hw130_1), ((HB.out.cell (World.block_lt_of_cell? w _ hw130_2)).trans hw130_2)⟩ (fun hHeld => ?_)
                    clear hK K
                    refine norm_ (a' := ?_) ?_ ?_
                    rotate_left
                    ·
                     show Act.put _ (some 113) _ = _
                     simp only [ps_]
                     rfl
                    refine pv_ 10 103 (bl_ 15 2047) ?_
                    refine pv_ 11 114 (bl_ 15 4095) ?_
                    refine pv_ 12 115 (bl_ 15 8191) ?_
                    refine pv_ 13 14 (bl_ 15 16383) ?_
                    refine pv_ 14 15 (bl_ 15 32767) ?_
                    refine done_ (done_of HT_.out (by kernel_rfl)) ?_
                    try go_wp2
                    go_ret
                    exact ⟨by first | rfl | (simp [errW_none, errW_some] <;> rfl) | (simp only [← hji44, ← hji48]; first | rfl | (simp [errW_none, errW_some] <;> rfl)) | (simp [*, errW_none, errW_some] <;> rfl), bw_⟩
                  ·
                   as_aux_lemma =>
                   replace c57 := Bool.eq_false_iff.mpr c57
                   subst c57
                   have H1 : (some false) = some r := by rw [if_neg (show ¬ (false = true) by decide)] at H; exact H
                   clear H
                   have H := H1
                   clear H1
                   obtain rfl := Option.some.inj H
                   try go_wp2
                   have n0_ := Aside0.mk (below_drew1 HB.out)
                   clear HB
                   have HB := n0_
                   clear n0_
                   have q100 : ((ji44) : Int) ≤ ((l0.length : Int) : Int) := oda_
                   obtain ⟨i0100, hi0100, _, hsz100, _⟩ := info_parts info54
                   have hroom100 : l0.length ≤ c0 := HC0.out
                   have hC100 : Kd.C k54 _ A0 l0.length l0 := HR0.out
                   have hcut100 := cut_to (P := Tryz.prog) 30 54 .i64 Tryz.underlying30 hi0100 A0 l0.length c0 (ji44) (oda_) q100 hroom100
                   have hr100 := Kd.C_take (m := ((ji44) : Int).toNat) hC100 (by omega)
                   have hy100 : y108.length = ((ji44) : Int).toNat := (by rw [Ny108.out, List.length_take]; omega)
                   rw [← Ny108.out] at hr100
                   rw [← hy100] at hcut100
                   have HR111 := Aside0.mk hr100
                   have HC111 := Aside0.mk (show y108.length ≤ c0 from by omega)
                   clear hr100 hC100 hroom100 hi0100 hsz100
                   have KY100 := Aside0.mk hy100
                   clear hy100
                   replace q100 := eq_true q100
                   have q101 : ((ji48) : Int) ≤ ((l0.length : Int) : Int) := oda_
                   obtain ⟨i0101, hi0101, _, hsz101, _⟩ := info_parts info54
                   have hroom101 : l0.length ≤ c0 := HC0.out
                   have hC101 : Kd.C k54 _ A0 l0.length l0 := HR0.out
                   have q0101 : (0 : Int) ≤ ((ji48) : Int) := oda_
                   have hcut101 := cut_from (P := Tryz.prog) 30 54 .i64 Tryz.underlying30 hi0101 3 hsz101 A0 l0.length c0 (ji48) q0101 q101
                   have hr101 := Kd.C_drop (m := ((ji48) : Int).toNat) (c := c0) hC101 (by omega) hroom101
                   obtain ⟨A101, hA101⟩ : ∃ A_, A_ = (if c0 = ((ji48) : Int).toNat then A0 else (A0 : Option Addr).map (·.add (((ji48) : Int).toNat * 3))) := ⟨_, rfl⟩
                   obtain ⟨c101, hc101⟩ : ∃ c_, c_ = c0 - ((ji48) : Int).toNat := ⟨_, rfl⟩
                   have hy101 : y115.length = l0.length - ((ji48) : Int).toNat := (by rw [Ny115.out, List.length_drop] <;> omega)
                   rw [show (l0).drop ((ji48) : Int).toNat = y115 from Ny115.out.symm] at hr101
                   replace hr101 : Kd.C k54 _ A101 y115.length y115 := (by rw [hA101]; exact hr101)
                   rw [← hy101, ← hA101, ← hc101] at hcut101
                   have HR118 := Aside0.mk hr101
                   have HC118 := Aside0.mk (show y115.length ≤ c101 from by rw [hy101, hc101]; exact Nat.sub_le_sub_right hroom101 _)
                   clear hr101 hC101 hroom101 hi0101 hsz101 hc101
                   have KY101 := Aside0.mk hy101
                   have KA101 := Aside0.mk hA101
                   clear hy101 hA101
                   replace q101 := eq_true q101
                   refine start_ (n := 16) (S := fun w' => True) (ds := []) (bl_ 16 0) (by kernel_rfl) rfl rfl trivial (fun hHeld => ?_); refine with_tabW w04_ObjectOrder.tab19 w04_ObjectOrder.bits19 (fun HT_ HW_ => ?_)
                   generalize wr.drew = w99 at HB HR111 HR118 hHeld ⊢
                   refine pv_ 1 91 (bl_ 16 2) ?_
                   refine pv_ 2 92 (bl_ 16 6) ?_
                   refine pv_ 3 93 (bl_ 16 14) ?_
                   refine pv_ 5 95 (bl_ 16 46) ?_
                   refine pv_ 6 96 (bl_ 16 110) ?_
                   refine pv_ 7 97 (bl_ 16 238) ?_
                   refine pv_ 8 98 (bl_ 16 494) ?_
                   refine one_ (i := 0) (N := some 90) (bl_ 16 495) rfl rfl (one_of HT_.out (by kernel_rfl)) (by decide) (fun K hK => ?_)
                   refine Kd.R_lit_step k54 _ 54 ?hg (N := 90) ?hd (xs := ([] : List (S54))) (inner := []) (ok := fun _ => True) (okp := fun _ => True) ?hr ?hp (fun _ hk => hk) trivial (Below.refl _ _) (Nat.le_refl _) (by simp) ?_; (case hd => rfl); (case hg => rfl); (case hr => first | (go_simp; done) | (go_simp; rfl)); (case hp => exact (Reps.none _ _))
                   intro v106 w102 ho103 hb hg_ hnew_
                   clear hg_ hnew_
                   (first | rw [← Ny105.out] at ho103 | (simp only [Int.reduceToNat] at ho103; rw [← Ny105.out] at ho103))
                   have n0_ := Aside0.mk (Kd.R_lower ho103 (below_size bw_))
                   have n1_ := Aside0.mk (below_step bw_ hb)
                   clear HB
                   have HO107 := n0_
                   have HB := n1_
                   clear n0_ n1_
                   clear hb ho103
                   refine hK.out _ _ trivial (fun hHeld => ?_)
                   clear hK K
                   refine norm_ (a' := ?_) ?_ ?_
                   rotate_left
                   ·
                    show Act.put _ (some 90) _ = _
                    simp only [ps_]
                    rfl
                   refine one_ (i := 4) (N := some 94) (bl_ 16 511) rfl rfl (one_of HT_.out (by kernel_rfl)) (by decide) (fun K hK => ?_)
                   refine Kd.R_append_rows_step k54 (w0 := w) w.heap.size (by rfl) (.tmp 90) (.tmp 93) 30 54 (.agg #[(.int .i64 0), (.string ⟨#[]⟩), (.string ⟨#[]⟩)]) 40 rfl Tryz.underlying30 info54 rfl (by decide) (by omega) v106 y105 y108 _ _ _ (fun _ => True) (fun _ => False) rfl rfl ?aO ?aR (fun _ _ h => h) (fun _ h => h.elim) ?aF ?aB ?aS ?aL ?_
                   (case aR => repeat (first | exact (Kd.C_below HR111.out HB.out) | (with_reducible refine Kd.C_alloc ?_ _) | (with_reducible refine Kd.C_drewN ?_ _) | (with_reducible refine Kd.C_drew ?_)))
                   (case aB => exact bw_)
                   (case aF => exact (fun _ _ => trivial))
                   (case aO => exact (by (with_reducible repeat (first | apply Kd.R_alloc | apply Kd.R_drewN | apply Kd.R_drew)); exact HO107.out))
                   (case aS => exact (below_size bw_))
                   (case aL => have := LMc47.out; omega)
                   intro v113 w104 ho hb hg hat
                   rw [← Ny112.out] at ho
                   have n0_ := Aside0.mk (hb)
                   have n1_ := Aside0.mk (ho)
                   clear HB
                   clear HO107
                   have HB := n0_
                   have HO114 := n1_
                   clear n0_ n1_
                   clear ho hb hg hat
                   refine hK.out _ _ trivial (fun hHeld => ?_)
                   clear hK K
                   refine norm_ (a' := ?_) ?_ ?_
                   rotate_left
                   ·
                    show Act.put _ (some 94) _ = _
                    simp only [ps_]
                    rfl
                   refine one_ (i := 9) (N := some 99) (bl_ 16 1023) rfl rfl (one_of HT_.out (by kernel_rfl)) (by decide) (fun K hK => ?_)
                   refine Kd.R_append_rows_step k54 (w0 := w) w.heap.size (by rfl) (.tmp 94) (.tmp 98) 30 54 (.agg #[(.int .i64 0), (.string ⟨#[]⟩), (.string ⟨#[]⟩)]) 40 rfl Tryz.underlying30 info54 rfl (by decide) (by omega) v113 y112 y115 _ _ _ (fun _ => True) (fun _ => False) rfl rfl ?aO ?aR (fun _ _ h => h) (fun _ h => h.elim) ?aF ?aB ?aS ?aL ?_
                   (case aR => repeat (first | exact (Kd.C_below HR118.out HB.out) | (with_reducible refine Kd.C_alloc ?_ _) | (with_reducible refine Kd.C_drewN ?_ _) | (with_reducible refine Kd.C_drew ?_)))
                   (case aB => exact bw_)
                   (case aF => exact (fun _ _ => trivial))
                   (case aO => exact (by (with_reducible repeat (first | apply Kd.R_alloc | apply Kd.R_drewN | apply Kd.R_drew)); exact HO114.out))
                   (case aS => exact (below_size bw_))
                   (case aL => have := LMc51.out; omega)
                   intro v120 w105 ho hb hg hat
                   rw [← Ny119.out] at ho
                   have n0_ := Aside0.mk (hb)
                   have n1_ := Aside0.mk (ho)
                   clear HB
                   clear HO114
                   have HB := n0_
                   have HO121 := n1_
                   clear n0_ n1_
                   clear ho hb hg hat
                   obtain ⟨Ao106, co106, eo106⟩ := Kd.R_slice HO121.out
                   (first | subst eo106 | (injection eo106 with f1_ f2_ f3_; have f4_ := f1_.symm; have f5_ := f3_.symm; clear f1_ f2_ f3_; subst f4_; subst f5_))
                   refine hK.out _ _ trivial (fun hHeld => ?_)
                   clear hK K
                   refine norm_ (a' := ?_) ?_ ?_
                   rotate_left
                   ·
                    show Act.put _ (some 99) _ = _
                    simp only [ps_]
                    rfl
                   refine one_ (i := 10) (N := some 100) (bl_ 16 2047) rfl rfl (one_of HT_.out (by kernel_rfl)) (by decide) (fun K hK => ?_)
                   refine goes_ Tryz.func19 (by kernel_rfl) rfl #[.slice Ao106 y119.length co106] (by rfl) rfl rfl la_ ?_
                   with_reducible refine (Ob.Gv.putTree.calls _ _ y119 t122 t123 _ ?side1 ?side2 A52.out (HTAB_.out _ (by first | exact Below.refl _ _ | (with_reducible exact Aside0.out (by assumption)) | repeat (first | (with_reducible exact Aside0.out (by assumption)) | apply below_alloc | apply pw_below_drewN | apply below_drew1 | (refine below_set ?_ ?_; rotate_left; (with_reducible exact Aside0.out (by assumption))))))).mono ?_
                   (case side1 => repeat (first | exact (Kd.R_reads' HO121.out).2.2 | (with_reducible refine Kd.C_alloc ?_ _) | (with_reducible refine Kd.C_drewN ?_ _) | (with_reducible refine Kd.C_drew ?_)))
                   (case side2 => exact (Kd.R_reads' HO121.out).2.1)
                   rintro e w107 ⟨rfl, hb⟩
                   refine ⟨_, rfl, ?_⟩
                   have n0_ := Aside0.mk (Kd.R_below o2_ hb)
                   have n1_ := Aside0.mk (below_step bw_ hb)
                   clear HO121
                   clear HB
                   have HO121 := n0_
                   have HB := n1_
                   clear n0_ n1_
                   (try clear hb)
                   (try clear hb2)
                   (try clear hk)
                   (try clear hi)
                   refine hK.out _ _ trivial (fun hHeld => ?_)
                   clear hK K
                   refine norm_ (a' := ?_) ?_ ?_
                   rotate_left
                   ·
                    show Act.put _ (some 100) _ = _
                    simp only [ps_]
                    rfl
                   refine pv_ 11 89 (bl_ 16 4095) ?_
                   refine pv_ 12 101 (bl_ 16 8191) ?_
                   refine pv_ 13 102 (bl_ 16 16383) ?_
                   refine pv_ 14 12 (bl_ 16 32767) ?_
                   refine pv_ 15 13 (bl_ 16 65535) ?_
                   refine done_ (done_of HT_.out (by kernel_rfl)) ?_
                   try go_wp2
                   have n0_ := Aside0.mk (Kd.R_drew HO121.out)
                   have n1_ := Aside0.mk (below_drew1 HB.out)
                   clear HO121
                   clear HB
                   have HO121 := n0_
                   have HB := n1_
                   clear n0_ n1_
                   have p130 : 0 ≤ ((ji44) : Int) := oda_
                   have q130 : (ji44) < (l0.length : Int) := oda_
                   obtain ⟨ad130, e130, hx130_0, hx130_1, hx130_2⟩ := at_T54 HR0.out (ji44) p130 q130
                   have hw130_2 := hx130_2
                   have hw130_1 := hx130_1
                   have hw130_0 := hx130_0
                   cases e130
                   replace hx130_0 := (HB.out.cell (World.block_lt_of_cell? w _ hx130_0)).trans hx130_0
                   replace hx130_1 := (HB.out.cell (World.block_lt_of_cell? w _ hx130_1)).trans hx130_1
                   replace hx130_2 := (HB.out.cell (World.block_lt_of_cell? w _ hx130_2)).trans hx130_2
                   replace p130 := eq_true p130
                   replace q130 := eq_true q130
                   refine start_ (n := 15) (S := fun w' => w'.cell? (ad130.add (((ji44)).toNat * 3)) = some (.int .i64 ((rd_T54 l0 (ji44)).f0)) ∧ w'.cell? ⟨(ad130.add (((ji44)).toNat * 3)).block, (ad130.add (((ji44)).toNat * 3)).off + 1, none⟩ = some (.string ((rd_T54 l0 (ji44)).f1)) ∧ w'.cell? ⟨(ad130.add (((ji44)).toNat * 3)).block, (ad130.add (((ji44)).toNat * 3)).off + 2, none⟩ = some (.string ((rd_T54 l0 (ji44)).f2))) (ds := []) (bl_ 15 0) (by kernel_rfl) rfl rfl ⟨((HB.out.cell (World.block_lt_of_cell? w _ hw130_0)).trans hw130_0), ((HB.out.cell (World.block_lt_of_cell? w _ hw130_1)).trans hw130_1), ((HB.out.cell (World.block_lt_of_cell? w _ hw130_2)).trans hw130_2)⟩ (fun hHeld => ?_); refine with_tabW w04_ObjectOrder.tab20 w04_ObjectOrder.bits20 (fun HT_ HW_ => ?_)
                   generalize w107.drew = w108 at HO121 HB hx130_0 hx130_1 hx130_2 hHeld ⊢
                   refine pv_ 1 105 (bl_ 15 2) ?_
                   refine pv_ 3 107 (bl_ 15 10) ?_
                   refine pv_ 4 108 (bl_ 15 26) ?_
                   refine pv_ 5 109 (bl_ 15 58) ?_
                   refine tk_ 6 110 (bl_ 15 122) hHeld (hv := by rintro w' ⟨s0, s1, s2⟩; go_simp; with_reducible rfl) (h := ?_)
                   refine join_ (σ := Value × Value × Value) 7 (bl_ 15 255) (fun s_ => [(104, s_.1), (106, s_.2.1), (111, s_.2.2)]) (fun s_ w' => (w'.cell? (ad130.add (((ji44)).toNat * 3)) = some (.int .i64 ((rd_T54 l0 (ji44)).f0)) ∧ w'.cell? ⟨(ad130.add (((ji44)).toNat * 3)).block, (ad130.add (((ji44)).toNat * 3)).off + 1, none⟩ = some (.string ((rd_T54 l0 (ji44)).f1)) ∧ w'.cell? ⟨(ad130.add (((ji44)).toNat * 3)).block, (ad130.add (((ji44)).toNat * 3)).off + 2, none⟩ = some (.string ((rd_T54 l0 (ji44)).f2))) ∧ (Kd.R k54 54 w' w.heap.size (fun k_ => some k_ ≠ (s_.2.1 : Value).ownBlock ∧ some k_ ≠ (s_.2.2 : Value).ownBlock) (.slice Ao106 y119.length co106) y119) ∧ (Kd.R k54 54 w' w.heap.size (fun k_ => some k_ ≠ (.slice Ao106 y119.length co106 : Value).ownBlock ∧ some k_ ≠ (s_.2.2 : Value).ownBlock) s_.2.1 y127) ∧ (Kd.R k54 54 w' w.heap.size (fun k_ => some k_ ≠ (.slice Ao106 y119.length co106 : Value).ownBlock ∧ some k_ ≠ (s_.2.1 : Value).ownBlock) s_.2.2 y131) ∧ (Below w.heap.size w w')) ?_ ?_
                   rotate_left
                   ·
                    intro hCont
                    refine two_ (i := 0) (j := 7) (Ni := some 104) (Nj := some 111) (bl_ 15 123) (bl_ 15 250) rfl rfl rfl rfl (two_of HT_.out (by kernel_rfl)) (by decide) (by decide) (fun K hK => ?_) (fun K hK => ?_)
                    ·
                     skip
                     refine Kd.R_lit_step k54 _ 54 ?hg (N := 104) ?hd (xs := ([] : List (S54))) (inner := []) (ok := fun _ => True) (okp := fun _ => True) ?hr ?hp (fun _ hk => hk) trivial (Below.refl _ _) (Nat.le_refl _) (by simp) ?_; (case hd => rfl); (case hg => rfl); (case hr => first | (go_simp; done) | (go_simp; rfl)); (case hp => exact (Reps.none _ _))
                     intro v125 w109 ho110 hb hg_ hnew_
                     clear hg_ hnew_
                     (first | rw [← Ny124.out] at ho110 | (simp only [Int.reduceToNat] at ho110; rw [← Ny124.out] at ho110))
                     have n0_ := Aside0.mk (Kd.R_elder' o2_ (Kd.R_base ho110) hb)
                     have n1_ := Aside0.mk (Kd.R_lower (Kd.R_new' ho110 (Kd.R_lt o2_)) (below_size bw_))
                     have n2_ := Aside0.mk (below_step bw_ hb)
                     clear HO121
                     clear HB
                     have HO121 := n0_
                     have HO126 := n1_
                     have HB := n2_
                     clear n0_ n1_ n2_
                     clear hb ho110
                     refine hK.out _ _ ⟨((HB.out.cell (World.block_lt_of_cell? w _ hw130_0)).trans hw130_0), ((HB.out.cell (World.block_lt_of_cell? w _ hw130_1)).trans hw130_1), ((HB.out.cell (World.block_lt_of_cell? w _ hw130_2)).trans hw130_2)⟩ (fun hHeld => ?_)
                     clear hK K
                     refine norm_ (a' := ?_) ?_ ?_
                     rotate_left
                     ·
                      show Act.put _ (some 104) _ = _
                      simp only [ps_]
                      rfl
                     refine two_ (i := 2) (j := 7) (Ni := some 106) (Nj := some 111) (bl_ 15 127) (bl_ 15 251) rfl rfl rfl rfl (two_of HT_.out (by kernel_rfl)) (by decide) (by decide) (fun K hK => ?_) (fun K hK => ?_)
                     ·
                      skip
                      refine Kd.R_append_rows_step k54 (w0 := w) w.heap.size (by rfl) (.tmp 104) (.tmp 105) 30 54 (.agg #[(.int .i64 0), (.string ⟨#[]⟩), (.string ⟨#[]⟩)]) 40 rfl Tryz.underlying30 info54 rfl (by decide) (by omega) v125 y124 l0 _ _ _ (fun k_ => some k_ ≠ (.slice Ao106 y119.length co106 : Value).ownBlock) (fun _ => False) rfl rfl ?aO ?aR (fun _ _ h => h) (fun _ h => h.elim) ?aF ?aB ?aS ?aL ?_
                      (case aR => repeat (first | exact (Kd.C_below HR0.out HB.out) | (with_reducible refine Kd.C_alloc ?_ _) | (with_reducible refine Kd.C_drewN ?_ _) | (with_reducible refine Kd.C_drew ?_)))
                      (case aB => exact bw_)
                      (case aF => exact (fun k_ hk => Kd.fresh' (Kd.R_lt o2_) k_ hk))
                      (case aO => exact (by (with_reducible repeat (first | apply Kd.R_alloc | apply Kd.R_drewN | apply Kd.R_drew)); exact Kd.R_mono HO126.out (fun _ hk => hk.2)))
                      (case aS => exact (below_size bw_))
                      (case aL => have := LMc53.out; omega)
                      intro v128 w111 ho hb hg hat
                      rw [← Ny127.out] at ho
                      have n0_ := Aside0.mk (Kd.R_after (ok := (fun _ => True)) o2_ hg hat)
                      have n1_ := Aside0.mk (hb)
                      have n2_ := Aside0.mk (ho)
                      clear HO121
                      clear HB
                      clear HO126
                      have HO121 := n0_
                      have HB := n1_
                      have HO129 := n2_
                      clear n0_ n1_ n2_
                      clear ho hb hg hat
                      refine hK.out _ _ ⟨((HB.out.cell (World.block_lt_of_cell? w _ hw130_0)).trans hw130_0), ((HB.out.cell (World.block_lt_of_cell? w _ hw130_1)).trans hw130_1), ((HB.out.cell (World.block_lt_of_cell? w _ hw130_2)).trans hw130_2)⟩ (fun hHeld => ?_)
                      clear hK K
                      refine norm_ (a' := ?_) ?_ ?_
                      rotate_left
                      ·
                       show Act.put _ (some 106) _ = _
                       simp only [ps_]
                       rfl
                      refine one_ (i := 7) (N := some 111) (bl_ 15 255) rfl rfl (one_of HT_.out (by kernel_rfl)) (by decide) (fun K hK => ?_)
                      refine Kd.R_lit_step k54 _ 54 ?hg (N := 111) ?hd (xs := ([(⟨(rd_T54 l0 (ji44)).f0, (rd_T54 l0 (ji44)).f1, (rd_T54 l0 (ji44)).f2⟩ : S54)] : List (S54))) (inner := [.int .i64 ((rd_T54 l0 (ji44)).f0), .string ((rd_T54 l0 (ji44)).f1), .string ((rd_T54 l0 (ji44)).f2)]) (ok := fun _ => True) (okp := fun _ => True) ?hr ?hp (fun _ hk => hk) trivial (Below.refl _ _) (Nat.le_refl _) (by simp) ?_; (case hd => rfl); (case hg => rfl); (case hr => first | (go_simp; done) | (go_simp; rfl)); (case hp => exact (Reps.c3 (show Kd.M k54 _ _ _ (⟨(rd_T54 l0 (ji44)).f0, (rd_T54 l0 (ji44)).f1, (rd_T54 l0 (ji44)).f2⟩ : S54) [.int .i64 ((rd_T54 l0 (ji44)).f0), .string ((rd_T54 l0 (ji44)).f1), .string ((rd_T54 l0 (ji44)).f2)] from (k54_mkM _ _ _ (⟨(rd_T54 l0 (ji44)).f0, (rd_T54 l0 (ji44)).f1, (rd_T54 l0 (ji44)).f2⟩ : S54) )) (Reps.none _ _)))
                      intro v132 w112 ho113 hb hg_ hnew_
                      clear hg_ hnew_
                      (first | rw [← Ny131.out] at ho113 | (simp only [Int.reduceToNat] at ho113; rw [← Ny131.out] at ho113))
                      have n0_ := Aside0.mk (Kd.R_elder' o2_ (Kd.R_base ho113) hb)
                      have n1_ := Aside0.mk (Kd.R_elder' o3_ (Kd.R_base ho113) hb)
                      have n2_ := Aside0.mk (Kd.R_lower (Kd.R_new' (Kd.R_new' ho113 (Kd.R_lt o2_)) (Kd.R_lt o3_)) (below_size bw_))
                      have n3_ := Aside0.mk (below_step bw_ hb)
                      clear HO121
                      clear HO129
                      clear HB
                      have HO121 := n0_
                      have HO129 := n1_
                      have HO133 := n2_
                      have HB := n3_
                      clear n0_ n1_ n2_ n3_
                      clear hb ho113
                      refine hK.out _ _ ⟨((HB.out.cell (World.block_lt_of_cell? w _ hw130_0)).trans hw130_0), ((HB.out.cell (World.block_lt_of_cell? w _ hw130_1)).trans hw130_1), ((HB.out.cell (World.block_lt_of_cell? w _ hw130_2)).trans hw130_2)⟩ (fun hHeld => ?_)
                      clear hK K
                      refine norm_ (a' := ?_) ?_ ?_
                      rotate_left
                      ·
                       show Act.put _ (some 111) _ = _
                       simp only [ps_]
                       rfl
                      exact norm_ (by simp only [putAll, Act.put, List.setIfInBounds_toArray, List.set_cons_zero, List.set_cons_succ]) (hCont (v125, v128, v132) _ ⟨hHeld, (by (with_reducible repeat (first | apply Kd.R_alloc | apply Kd.R_drewN | apply Kd.R_drew)); exact Kd.R_mono HO121.out (fun _ hk => ⟨hk.1.2, hk.2⟩)), o3_, (by (with_reducible repeat (first | apply Kd.R_alloc | apply Kd.R_drewN | apply Kd.R_drew)); exact Kd.R_mono HO133.out (fun _ hk => ⟨hk.1.2, hk.2⟩)), bw_⟩)
                     ·
                      skip
                      refine Kd.R_lit_step k54 _ 54 ?hg (N := 111) ?hd (xs := ([(⟨(rd_T54 l0 (ji44)).f0, (rd_T54 l0 (ji44)).f1, (rd_T54 l0 (ji44)).f2⟩ : S54)] : List (S54))) (inner := [.int .i64 ((rd_T54 l0 (ji44)).f0), .string ((rd_T54 l0 (ji44)).f1), .string ((rd_T54 l0 (ji44)).f2)]) (ok := fun _ => True) (okp := fun _ => True) ?hr ?hp (fun _ hk => hk) trivial (Below.refl _ _) (Nat.le_refl _) (by simp) ?_; (case hd => rfl); (case hg => rfl); (case hr => first | (go_simp; done) | (go_simp; rfl)); (case hp => exact (Reps.c3 (show Kd.M k54 _ _ _ (⟨(rd_T54 l0 (ji44)).f0, (rd_T54 l0 (ji44)).f1, (rd_T54 l0 (ji44)).f2⟩ : S54) [.int .i64 ((rd_T54 l0 (ji44)).f0), .string ((rd_T54 l0 (ji44)).f1), .string ((rd_T54 l0 (ji44)).f2)] from (k54_mkM _ _ _ (⟨(rd_T54 l0 (ji44)).f0, (rd_T54 l0 (ji44)).f1, (rd_T54 l0 (ji44)).f2⟩ : S54) )) (Reps.none _ _)))
                      intro v132 w111 ho112 hb hg_ hnew_
                      clear hg_ hnew_
                      (first | rw [← Ny131.out] at ho112 | (simp only [Int.reduceToNat] at ho112; rw [← Ny131.out] at ho112))
                      have n0_ := Aside0.mk (Kd.R_elder' o2_ (Kd.R_base ho112) hb)
                      have n1_ := Aside0.mk (Kd.R_elder' o1_ (Kd.R_base ho112) hb)
                      have n2_ := Aside0.mk (Kd.R_lower (Kd.R_new' (Kd.R_new' ho112 (Kd.R_lt o2_)) (Kd.R_lt o1_)) (below_size bw_))
                      have n3_ := Aside0.mk (below_step bw_ hb)
                      clear HO121
                      clear HO126
                      clear HB
                      have HO121 := n0_
                      have HO126 := n1_
                      have HO133 := n2_
                      have HB := n3_
                      clear n0_ n1_ n2_ n3_
                      clear hb ho112
                      refine hK.out _ _ ⟨((HB.out.cell (World.block_lt_of_cell? w _ hw130_0)).trans hw130_0), ((HB.out.cell (World.block_lt_of_cell? w _ hw130_1)).trans hw130_1), ((HB.out.cell (World.block_lt_of_cell? w _ hw130_2)).trans hw130_2)⟩ (fun hHeld => ?_)
                      clear hK K
                      refine norm_ (a' := ?_) ?_ ?_
                      rotate_left
                      ·
                       show Act.put _ (some 111) _ = _
                       simp only [ps_]
                       rfl
                      refine one_ (i := 2) (N := some 106) (bl_ 15 255) rfl rfl (one_of HT_.out (by kernel_rfl)) (by decide) (fun K hK => ?_)
                      refine Kd.R_append_rows_step k54 (w0 := w) w.heap.size (by rfl) (.tmp 104) (.tmp 105) 30 54 (.agg #[(.int .i64 0), (.string ⟨#[]⟩), (.string ⟨#[]⟩)]) 40 rfl Tryz.underlying30 info54 rfl (by decide) (by omega) v125 y124 l0 _ _ _ (fun k_ => some k_ ≠ (.slice Ao106 y119.length co106 : Value).ownBlock ∧ some k_ ≠ (v132 : Value).ownBlock) (fun _ => False) rfl rfl ?aO ?aR (fun _ _ h => h) (fun _ h => h.elim) ?aF ?aB ?aS ?aL ?_
                      (case aR => repeat (first | exact (Kd.C_below HR0.out HB.out) | (with_reducible refine Kd.C_alloc ?_ _) | (with_reducible refine Kd.C_drewN ?_ _) | (with_reducible refine Kd.C_drew ?_)))
                      (case aB => exact bw_)
                      (case aF => exact (fun k_ hk => ⟨Kd.fresh' (Kd.R_lt o2_) k_ hk, Kd.fresh' (Kd.R_lt o4_) k_ hk⟩))
                      (case aO => exact (by (with_reducible repeat (first | apply Kd.R_alloc | apply Kd.R_drewN | apply Kd.R_drew)); exact Kd.R_mono HO126.out (fun _ hk => ⟨hk.1.2, hk.2⟩)))
                      (case aS => exact (below_size bw_))
                      (case aL => have := LMc53.out; omega)
                      intro v128 w113 ho hb hg hat
                      rw [← Ny127.out] at ho
                      have n0_ := Aside0.mk (Kd.R_after (ok := (fun k_ => some k_ ≠ (v132 : Value).ownBlock)) (by (with_reducible repeat (first | apply Kd.R_alloc | apply Kd.R_drewN | apply Kd.R_drew)); exact Kd.R_mono HO121.out (fun _ hk => ⟨hk.2, hk.1.2⟩)) hg hat)
                      have n1_ := Aside0.mk (Kd.R_after (ok := (fun k_ => some k_ ≠ (.slice Ao106 y119.length co106 : Value).ownBlock)) (by (with_reducible repeat (first | apply Kd.R_alloc | apply Kd.R_drewN | apply Kd.R_drew)); exact Kd.R_mono HO133.out (fun _ hk => ⟨hk.1.2, hk.2⟩)) hg hat)
                      have n2_ := Aside0.mk (hb)
                      have n3_ := Aside0.mk (ho)
                      clear HO121
                      clear HO133
                      clear HB
                      clear HO126
                      have HO121 := n0_
                      have HO133 := n1_
                      have HB := n2_
                      have HO129 := n3_
                      clear n0_ n1_ n2_ n3_
                      clear ho hb hg hat
                      refine hK.out _ _ ⟨((HB.out.cell (World.block_lt_of_cell? w _ hw130_0)).trans hw130_0), ((HB.out.cell (World.block_lt_of_cell? w _ hw130_1)).trans hw130_1), ((HB.out.cell (World.block_lt_of_cell? w _ hw130_2)).trans hw130_2)⟩ (fun hHeld => ?_)
                      clear hK K
                      refine norm_ (a' := ?_) ?_ ?_
                      rotate_left
                      ·
                       show Act.put _ (some 106) _ = _
                       simp only [ps_]
                       rfl
                      exact norm_ (by simp only [putAll, Act.put, List.setIfInBounds_toArray, List.set_cons_zero, List.set_cons_succ]) (hCont (v125, v128, v132) _ ⟨hHeld, (by (with_reducible repeat (first | apply Kd.R_alloc | apply Kd.R_drewN | apply Kd.R_drew)); exact Kd.R_mono HO121.out (fun _ hk => ⟨hk.2, hk.1⟩)), o3_, o4_, bw_⟩)
                    ·
                     skip
                     refine Kd.R_lit_step k54 _ 54 ?hg (N := 111) ?hd (xs := ([(⟨(rd_T54 l0 (ji44)).f0, (rd_T54 l0 (ji44)).f1, (rd_T54 l0 (ji44)).f2⟩ : S54)] : List (S54))) (inner := [.int .i64 ((rd_T54 l0 (ji44)).f0), .string ((rd_T54 l0 (ji44)).f1), .string ((rd_T54 l0 (ji44)).f2)]) (ok := fun _ => True) (okp := fun _ => True) ?hr ?hp (fun _ hk => hk) trivial (Below.refl _ _) (Nat.le_refl _) (by simp) ?_; (case hd => rfl); (case hg => rfl); (case hr => first | (go_simp; done) | (go_simp; rfl)); (case hp => exact (Reps.c3 (show Kd.M k54 _ _ _ (⟨(rd_T54 l0 (ji44)).f0, (rd_T54 l0 (ji44)).f1, (rd_T54 l0 (ji44)).f2⟩ : S54) [.int .i64 ((rd_T54 l0 (ji44)).f0), .string ((rd_T54 l0 (ji44)).f1), .string ((rd_T54 l0 (ji44)).f2)] from (k54_mkM _ _ _ (⟨(rd_T54 l0 (ji44)).f0, (rd_T54 l0 (ji44)).f1, (rd_T54 l0 (ji44)).f2⟩ : S54) )) (Reps.none _ _)))
                     intro v132 w109 ho110 hb hg_ hnew_
                     clear hg_ hnew_
                     (first | rw [← Ny131.out] at ho110 | (simp only [Int.reduceToNat] at ho110; rw [← Ny131.out] at ho110))
                     have n0_ := Aside0.mk (Kd.R_elder' o2_ (Kd.R_base ho110) hb)
                     have n1_ := Aside0.mk (Kd.R_lower (Kd.R_new' ho110 (Kd.R_lt o2_)) (below_size bw_))
                     have n2_ := Aside0.mk (below_step bw_ hb)
                     clear HO121
                     clear HB
                     have HO121 := n0_
                     have HO133 := n1_
                     have HB := n2_
                     clear n0_ n1_ n2_
                     clear hb ho110
                     refine hK.out _ _ ⟨((HB.out.cell (World.block_lt_of_cell? w _ hw130_0)).trans hw130_0), ((HB.out.cell (World.block_lt_of_cell? w _ hw130_1)).trans hw130_1), ((HB.out.cell (World.block_lt_of_cell? w _ hw130_2)).trans hw130_2)⟩ (fun hHeld => ?_)
                     clear hK K
                     refine norm_ (a' := ?_) ?_ ?_
                     rotate_left
                     ·
                      show Act.put _ (some 111) _ = _
                      simp only [ps_]
                      rfl
                     refine one_ (i := 0) (N := some 104) (bl_ 15 251) rfl rfl (one_of HT_.out (by kernel_rfl)) (by decide) (fun K hK => ?_)
                     refine Kd.R_lit_step k54 _ 54 ?hg (N := 104) ?hd (xs := ([] : List (S54))) (inner := []) (ok := fun _ => True) (okp := fun _ => True) ?hr ?hp (fun _ hk => hk) trivial (Below.refl _ _) (Nat.le_refl _) (by simp) ?_; (case hd => rfl); (case hg => rfl); (case hr => first | (go_simp; done) | (go_simp; rfl)); (case hp => exact (Reps.none _ _))
                     intro v125 w111 ho112 hb hg_ hnew_
                     clear hg_ hnew_
                     (first | rw [← Ny124.out] at ho112 | (simp only [Int.reduceToNat] at ho112; rw [← Ny124.out] at ho112))
                     have n0_ := Aside0.mk (Kd.R_elder' o2_ (Kd.R_base ho112) hb)
                     have n1_ := Aside0.mk (Kd.R_elder' o4_ (Kd.R_base ho112) hb)
                     have n2_ := Aside0.mk (Kd.R_lower (Kd.R_new' (Kd.R_new' ho112 (Kd.R_lt o2_)) (Kd.R_lt o4_)) (below_size bw_))
                     have n3_ := Aside0.mk (below_step bw_ hb)
                     clear HO121
                     clear HO133
                     clear HB
                     have HO121 := n0_
                     have HO133 := n1_
                     have HO126 := n2_
                     have HB := n3_
                     clear n0_ n1_ n2_ n3_
                     clear hb ho112
                     refine hK.out _ _ ⟨((HB.out.cell (World.block_lt_of_cell? w _ hw130_0)).trans hw130_0), ((HB.out.cell (World.block_lt_of_cell? w _ hw130_1)).trans hw130_1), ((HB.out.cell (World.block_lt_of_cell? w _ hw130_2)).trans hw130_2)⟩ (fun hHeld => ?_)
                     clear hK K
                     refine norm_ (a' := ?_) ?_ ?_
                     rotate_left
                     ·
                      show Act.put _ (some 104) _ = _
                      simp only [ps_]
                      rfl
                     refine one_ (i := 2) (N := some 106) (bl_ 15 255) rfl rfl (one_of HT_.out (by kernel_rfl)) (by decide) (fun K hK => ?_)
                     refine Kd.R_append_rows_step k54 (w0 := w) w.heap.size (by rfl) (.tmp 104) (.tmp 105) 30 54 (.agg #[(.int .i64 0), (.string ⟨#[]⟩), (.string ⟨#[]⟩)]) 40 rfl Tryz.underlying30 info54 rfl (by decide) (by omega) v125 y124 l0 _ _ _ (fun k_ => some k_ ≠ (.slice Ao106 y119.length co106 : Value).ownBlock ∧ some k_ ≠ (v132 : Value).ownBlock) (fun _ => False) rfl rfl ?aO ?aR (fun _ _ h => h) (fun _ h => h.elim) ?aF ?aB ?aS ?aL ?_
                     (case aR => repeat (first | exact (Kd.C_below HR0.out HB.out) | (with_reducible refine Kd.C_alloc ?_ _) | (with_reducible refine Kd.C_drewN ?_ _) | (with_reducible refine Kd.C_drew ?_)))
                     (case aB => exact bw_)
                     (case aF => exact (fun k_ hk => ⟨Kd.fresh' (Kd.R_lt o2_) k_ hk, Kd.fresh' (Kd.R_lt o4_) k_ hk⟩))
                     (case aO => exact (by (with_reducible repeat (first | apply Kd.R_alloc | apply Kd.R_drewN | apply Kd.R_drew)); exact Kd.R_mono HO126.out (fun _ hk => ⟨hk.1.2, hk.2⟩)))
                     (case aS => exact (below_size bw_))
                     (case aL => have := LMc53.out; omega)
                     intro v128 w113 ho hb hg hat
                     rw [← Ny127.out] at ho
                     have n0_ := Aside0.mk (Kd.R_after (ok := (fun k_ => some k_ ≠ (v132 : Value).ownBlock)) (by (with_reducible repeat (first | apply Kd.R_alloc | apply Kd.R_drewN | apply Kd.R_drew)); exact Kd.R_mono HO121.out (fun _ hk => ⟨hk.1.2, hk.2⟩)) hg hat)
                     have n1_ := Aside0.mk (Kd.R_after (ok := (fun k_ => some k_ ≠ (.slice Ao106 y119.length co106 : Value).ownBlock)) (by (with_reducible repeat (first | apply Kd.R_alloc | apply Kd.R_drewN | apply Kd.R_drew)); exact Kd.R_mono HO133.out (fun _ hk => ⟨hk.1.2, hk.2⟩)) hg hat)
                     have n2_ := Aside0.mk (hb)
                     have n3_ := Aside0.mk (ho)
                     clear HO121
                     clear HO133
                     clear HB
                     clear HO126
                     have HO121 := n0_
                     have HO133 := n1_
                     have HB := n2_
                     have HO129 := n3_
                     clear n0_ n1_ n2_ n3_
                     clear ho hb hg hat
                     refine hK.out _ _ ⟨((HB.out.cell (World.block_lt_of_cell? w _ hw130_0)).trans hw130_0), ((HB.out.cell (World.block_lt_of_cell? w _ hw130_1)).trans hw130_1), ((HB.out.cell (World.block_lt_of_cell? w _ hw130_2)).trans hw130_2)⟩ (fun hHeld => ?_)
                     clear hK K
                     refine norm_ (a' := ?_) ?_ ?_
                     rotate_left
                     ·
                      show Act.put _ (some 106) _ = _
                      simp only [ps_]
                      rfl
                     exact norm_ (by simp only [putAll, Act.put, List.setIfInBounds_toArray, List.set_cons_zero, List.set_cons_succ]) (hCont (v125, v128, v132) _ ⟨hHeld, (by (with_reducible repeat (first | apply Kd.R_alloc | apply Kd.R_drewN | apply Kd.R_drew)); exact Kd.R_mono HO121.out (fun _ hk => ⟨hk.2, hk.1⟩)), o3_, o4_, bw_⟩)
                   rintro ⟨v125, v128, v132⟩ w114 ⟨hS_, h0_, h1_, h2_, h3_⟩
                   have n0_ : Aside0 (Kd.R k54 54 w114 w.heap.size (fun k_ => some k_ ≠ (v128 : Value).ownBlock ∧ some k_ ≠ (v132 : Value).ownBlock) (.slice Ao106 y119.length co106) y119) := ⟨h0_⟩
                   have n1_ : Aside0 (Kd.R k54 54 w114 w.heap.size (fun k_ => some k_ ≠ (.slice Ao106 y119.length co106 : Value).ownBlock ∧ some k_ ≠ (v132 : Value).ownBlock) v128 y127) := ⟨h1_⟩
                   have n2_ : Aside0 (Kd.R k54 54 w114 w.heap.size (fun k_ => some k_ ≠ (.slice Ao106 y119.length co106 : Value).ownBlock ∧ some k_ ≠ (v128 : Value).ownBlock) v132 y131) := ⟨h2_⟩
                   have n3_ : Aside0 (Below w.heap.size w w114) := ⟨h3_⟩
                   clear HO121
                   clear HB
                   clear h0_ h1_ h2_ h3_
                   have HO121 := n0_
                   have HO129 := n1_
                   have HO133 := n2_
                   have HB := n3_
                   clear n0_ n1_ n2_ n3_
                   have hHeld : w114.cell? (ad130.add (((ji44)).toNat * 3)) = some (.int .i64 ((rd_T54 l0 (ji44)).f0)) ∧ w114.cell? ⟨(ad130.add (((ji44)).toNat * 3)).block, (ad130.add (((ji44)).toNat * 3)).off + 1, none⟩ = some (.string ((rd_T54 l0 (ji44)).f1)) ∧ w114.cell? ⟨(ad130.add (((ji44)).toNat * 3)).block, (ad130.add (((ji44)).toNat * 3)).off + 2, none⟩ = some (.string ((rd_T54 l0 (ji44)).f2)) := hS_
                   obtain ⟨Ao116, co116, eo116⟩ := Kd.R_slice HO133.out
                   (first | subst eo116 | (injection eo116 with f1_ f2_ f3_; have f4_ := f1_.symm; have f5_ := f3_.symm; clear f1_ f2_ f3_; subst f4_; subst f5_))
                   refine norm_ (a' := ?_) ?_ ?_
                   rotate_left
                   ·
                    simp only [putAll, Act.put, List.setIfInBounds_toArray, List.set_cons_zero, List.set_cons_succ]
                    rfl
                   refine one_ (i := 8) (N := some 112) (bl_ 15 511) rfl rfl (one_of HT_.out (by kernel_rfl)) (by decide) (fun K hK => ?_)
                   refine Kd.R_append_rows_step k54 (w0 := w) w.heap.size (by rfl) (.tmp 106) (.tmp 111) 30 54 (.agg #[(.int .i64 0), (.string ⟨#[]⟩), (.string ⟨#[]⟩)]) 40 rfl Tryz.underlying30 info54 rfl (by decide) (by omega) v128 y127 y131 _ _ _ (fun k_ => some k_ ≠ (.slice Ao106 y119.length co106 : Value).ownBlock ∧ some k_ ≠ (.slice Ao116 y131.length co116 : Value).ownBlock) (fun _ => False) rfl rfl ?aO ?aR (fun _ _ h => h) (fun _ h => h.elim) ?aF ?aB ?aS ?aL ?_
                   (case aR => repeat (first | exact (Kd.R_reads' HO133.out).2.2 | (with_reducible refine Kd.C_alloc ?_ _) | (with_reducible refine Kd.C_drewN ?_ _) | (with_reducible refine Kd.C_drew ?_)))
                   (case aB => exact bw_)
                   (case aF => exact (fun k_ hk => ⟨Kd.fresh' (Kd.R_lt o2_) k_ hk, Kd.fresh' (Kd.R_lt o4_) k_ hk⟩))
                   (case aO => exact o3_)
                   (case aS => exact (below_size bw_))
                   (case aL => have := LMc55.out; omega)
                   intro v135 w115 ho hb hg hat
                   rw [← Ny134.out] at ho
                   have n0_ := Aside0.mk (Kd.R_after (ok := (fun k_ => some k_ ≠ (.slice Ao116 y131.length co116 : Value).ownBlock)) (by (with_reducible repeat (first | apply Kd.R_alloc | apply Kd.R_drewN | apply Kd.R_drew)); exact Kd.R_mono HO121.out (fun _ hk => ⟨hk.2, hk.1⟩)) hg hat)
                   have n1_ := Aside0.mk (Kd.R_after (ok := (fun k_ => some k_ ≠ (.slice Ao106 y119.length co106 : Value).ownBlock)) o4_ hg hat)
                   have n2_ := Aside0.mk (hb)
                   have n3_ := Aside0.mk (ho)
                   clear HO121
                   clear HO133
                   clear HB
                   clear HO129
                   have HO121 := n0_
                   have HO133 := n1_
                   have HB := n2_
                   have HO136 := n3_
                   clear n0_ n1_ n2_ n3_
                   clear ho hb hg hat
                   obtain ⟨Ao117, co117, eo117⟩ := Kd.R_slice HO136.out
                   (first | subst eo117 | (injection eo117 with f1_ f2_ f3_; have f4_ := f1_.symm; have f5_ := f3_.symm; clear f1_ f2_ f3_; subst f4_; subst f5_))
                   refine hK.out _ _ ⟨((HB.out.cell (World.block_lt_of_cell? w _ hw130_0)).trans hw130_0), ((HB.out.cell (World.block_lt_of_cell? w _ hw130_1)).trans hw130_1), ((HB.out.cell (World.block_lt_of_cell? w _ hw130_2)).trans hw130_2)⟩ (fun hHeld => ?_)
                   clear hK K
                   refine norm_ (a' := ?_) ?_ ?_
                   rotate_left
                   ·
                    show Act.put _ (some 112) _ = _
                    simp only [ps_]
                    rfl
                   refine one_ (i := 9) (N := some 113) (bl_ 15 1023) rfl rfl (one_of HT_.out (by kernel_rfl)) (by decide) (fun K hK => ?_)
                   refine goes_ Tryz.func19 (by kernel_rfl) rfl #[.slice Ao117 y134.length co117] (by rfl) rfl rfl la_ ?_
                   with_reducible refine (Ob.Gv.putTree.calls _ _ y134 t137 t138 _ ?side1 ?side2 A56.out (HTAB_.out _ (by first | exact Below.refl _ _ | (with_reducible exact Aside0.out (by assumption)) | repeat (first | (with_reducible exact Aside0.out (by assumption)) | apply below_alloc | apply pw_below_drewN | apply below_drew1 | (refine below_set ?_ ?_; rotate_left; (with_reducible exact Aside0.out (by assumption))))))).mono ?_
                   (case side1 => repeat (first | exact (Kd.R_reads' HO136.out).2.2 | (with_reducible refine Kd.C_alloc ?_ _) | (with_reducible refine Kd.C_drewN ?_ _) | (with_reducible refine Kd.C_drew ?_)))
                   (case side2 => exact (Kd.R_reads' HO136.out).2.1)
                   rintro e w118 ⟨rfl, hb⟩
                   refine ⟨_, rfl, ?_⟩
                   have n0_ := Aside0.mk (Kd.R_below o2_ hb)
                   have n1_ := Aside0.mk (Kd.R_below o4_ hb)
                   have n2_ := Aside0.mk (Kd.R_below (by (with_reducible repeat (first | apply Kd.R_alloc | apply Kd.R_drewN | apply Kd.R_drew)); exact HO136.out) hb)
                   have n3_ := Aside0.mk (below_step bw_ hb)
                   clear HO121
                   clear HO133
                   clear HO136
                   clear HB
                   have HO121 := n0_
                   have HO133 := n1_
                   have HO136 := n2_
                   have HB := n3_
                   clear n0_ n1_ n2_ n3_
                   (try clear hb)
                   (try clear hb2)
                   (try clear hk)
                   (try clear hi)
                   refine hK.out _ _ ⟨((HB.out.cell (World.block_lt_of_cell? w _ hw130_0)).trans hw130_0), ((HB.out.cell (World.block_lt_of_cell? w _ hw130_1)).trans hw130_1), ((HB.out.cell (World.block_lt_of_cell? w _ hw130_2)).trans hw130_2)⟩ (fun hHeld => ?_)
                   clear hK K
                   refine norm_ (a' := ?_) ?_ ?_
                   rotate_left
                   ·
                    show Act.put _ (some 113) _ = _
                    simp only [ps_]
                    rfl
                   refine pv_ 10 103 (bl_ 15 2047) ?_
                   refine pv_ 11 114 (bl_ 15 4095) ?_
                   refine pv_ 12 115 (bl_ 15 8191) ?_
                   refine pv_ 13 14 (bl_ 15 16383) ?_
                   refine pv_ 14 15 (bl_ 15 32767) ?_
                   refine done_ (done_of HT_.out (by kernel_rfl)) ?_
                   try go_wp2
                   go_ret
                   exact ⟨by first | rfl | (simp [errW_none, errW_some] <;> rfl) | (simp only [← hji44, ← hji48]; first | rfl | (simp [errW_none, errW_some] <;> rfl)) | (simp [*, errW_none, errW_some] <;> rfl), bw_⟩
                 ·
                  as_aux_lemma =>
                  rw [if_neg c55] at H
                  exact absurd H (by simp)
                ·
                 as_aux_lemma =>
                 rw [if_neg c54] at H
                 exact absurd H (by simp)
               ·
                as_aux_lemma =>
                rw [if_neg c53] at H
                exact absurd H (by simp)
              ·
               as_aux_lemma =>
               rw [if_neg c51] at H
               exact absurd H (by simp)
             ·
              as_aux_lemma =>
              rw [if_neg c50] at H
              exact absurd H (by simp)
            ·
             as_aux_lemma =>
             rw [if_neg c49] at H
             exact absurd H (by simp)
           ·
            as_aux_lemma =>
            rw [if_neg c47] at H
            exact absurd H (by simp)
          ·
           as_aux_lemma =>
           rw [if_neg c46] at H
           exact absurd H (by simp)
         ·
          as_aux_lemma =>
          rw [if_neg c45] at H
          exact absurd H (by simp)
end Go.Proofs.YtefefhhaopjccaaGreatDoor.PObjectOrder
