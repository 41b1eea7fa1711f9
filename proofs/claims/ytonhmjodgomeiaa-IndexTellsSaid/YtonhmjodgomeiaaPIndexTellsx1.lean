/- Functions as the kit's printer (print.py) writes them, over contracts that this seat's own texts give. No condition but the reach of what comes in. -/
import Derived.Test.YtonhmjodgomeiaaPIndexTellsx0
namespace Go.Proofs.Ytonhmjodgomeiaa.PIndexTells
open Go.RowKit Go.Proofs.YtonhmjodgomeiaaW.PrintWords Go.Proofs.YtonhmjodgomeiaaW.PrintLast Go.Proofs.YtonhmjodgomeiaaW.PrintMore
attribute [local go_sem] Go.Proofs.Ytonhmjodgomeiaa.Ix.leq_str Go.Proofs.Ytonhmjodgomeiaa.Ix.geq_str max2_int min2_int max_two min_two max_three min_three max_four min_four   -- for this text's walks alone
set_option linter.unusedVariables false
set_option linter.unusedSimpArgs false

/-! ### sacristyref08_names: function 34 -/
mutual
noncomputable def sacristyref08_names.j0 : Nat → List Int → Bool → Option (List ByteArray × Bool)
  | 0, _, _ => none
  | k + 1, x0, x20 => if x20 = true then (some (([] : List ByteArray), false)) else (if (wrap64 (Int.tdiv (wrap64 ((x0.length : Int) - 544)) 34)) > 512 then (some (([] : List ByteArray), false)) else (if 0 ≤ (wrap64 (Int.tdiv (wrap64 ((x0.length : Int) - 544)) 34)) then (if (wrap64 (Int.tdiv (wrap64 ((x0.length : Int) - 544)) 34) : Int).toNat ≤ 17592186044416 then (sacristyref08_names.l0 k x0 (wrap64 (Int.tdiv (wrap64 ((x0.length : Int) - 544)) 34)) (List.replicate (wrap64 (Int.tdiv (wrap64 ((x0.length : Int) - 544)) 34) : Int).toNat (⟨#[]⟩ : ByteArray)) 0) else (none)) else (none)))
noncomputable def sacristyref08_names.l0 : Nat → List Int → Int → List ByteArray → Int → Option (List ByteArray × Bool)
  | 0, _, _, _, _ => none
  | k + 1, x0, x4, x5, x6 => if x6 < x4 then (if 0 ≤ (wrap64 ((wrap64 (512 + (wrap64 (34 * x6)))) + 32)) then (if (wrap64 ((wrap64 (512 + (wrap64 (34 * x6)))) + 32)) < (x0.length : Int) then (if 0 ≤ (wrap64 ((wrap64 (512 + (wrap64 (34 * x6)))) + 33)) then (if (wrap64 ((wrap64 (512 + (wrap64 (34 * x6)))) + 33)) < (x0.length : Int) then (if (wrap64 ((wrap64 ((wrap64 (rd x0 (wrap64 ((wrap64 (512 + (wrap64 (34 * x6)))) + 32)))) * 256)) + (wrap64 (rd x0 (wrap64 ((wrap64 (512 + (wrap64 (34 * x6)))) + 33)))))) ≥ x4 then (some (([] : List ByteArray), false)) else (if 0 ≤ (wrap64 (512 + (wrap64 (34 * x6)))) then (if (wrap64 (512 + (wrap64 (34 * x6)))) ≤ (wrap64 ((wrap64 (512 + (wrap64 (34 * x6)))) + 32)) then (if (wrap64 ((wrap64 (512 + (wrap64 (34 * x6)))) + 32)) ≤ (x0.length : Int) then ((Go.Proofs.Ytonhmjodgomeiaa.Ix.Gv.rtold.f ((x0.take ((wrap64 ((wrap64 (512 + (wrap64 (34 * x6)))) + 32)) : Int).toNat).drop ((wrap64 (512 + (wrap64 (34 * x6)))) : Int).toNat)).bind fun t107 => (if 0 ≤ (wrap64 ((wrap64 ((wrap64 (rd x0 (wrap64 ((wrap64 (512 + (wrap64 (34 * x6)))) + 32)))) * 256)) + (wrap64 (rd x0 (wrap64 ((wrap64 (512 + (wrap64 (34 * x6)))) + 33)))))) then (if (wrap64 ((wrap64 ((wrap64 (rd x0 (wrap64 ((wrap64 (512 + (wrap64 (34 * x6)))) + 32)))) * 256)) + (wrap64 (rd x0 (wrap64 ((wrap64 (512 + (wrap64 (34 * x6)))) + 33)))))) < (x5.length : Int) then (sacristyref08_names.l0 k x0 x4 (x5.set ((wrap64 ((wrap64 ((wrap64 (rd x0 (wrap64 ((wrap64 (512 + (wrap64 (34 * x6)))) + 32)))) * 256)) + (wrap64 (rd x0 (wrap64 ((wrap64 (512 + (wrap64 (34 * x6)))) + 33)))))) : Int).toNat t107) (wrap64 (x6 + 1))) else (none)) else (none))) else (none)) else (none)) else (none))) else (none)) else (none)) else (none)) else (none)) else ((Go.Proofs.Ytonhmjodgomeiaa.Ix.Gv.rput.f x5).bind fun bt109 => (if bt109.2 = 0 then (if (strOfNums bt109.1).toList = (strOfNums x0).toList then (some (x5, true)) else (some (([] : List ByteArray), false))) else (some (([] : List ByteArray), false))))
end
noncomputable def sacristyref08_names.f (k : Nat) (l0 : List Int) : Option (List ByteArray × Bool) := if (l0.length : Int) < 544 then (sacristyref08_names.j0 k l0 true) else (sacristyref08_names.j0 k l0 ((Int.tmod (wrap64 ((l0.length : Int) - 544)) 34) != 0))
theorem sacristyref08_names.mono_l : ∀ k, (∀ y0 y1, LeO (sacristyref08_names.j0 k y0 y1) (sacristyref08_names.j0 (k + 1) y0 y1)) ∧ (∀ y0 y1 y2 y3, LeO (sacristyref08_names.l0 k y0 y1 y2 y3) (sacristyref08_names.l0 (k + 1) y0 y1 y2 y3))
  | 0 => ⟨fun _ _ r h => by simp [sacristyref08_names.j0] at h, fun _ _ _ _ r h => by simp [sacristyref08_names.l0] at h⟩
  | k + 1 => by
    obtain ⟨ih0, ih1⟩ := sacristyref08_names.mono_l k
    refine ⟨?_, ?_⟩
    · intro y0 y1
      unfold sacristyref08_names.j0
      repeat' first
      | (with_reducible exact ih0 _ _)
      | (with_reducible exact ih1 _ _ _ _)
      | (with_reducible exact LeO.refl _)
      | (with_reducible exact LeO.none _)
      | (with_reducible refine LeO.ite ?_ ?_)
      | (with_reducible refine LeO.bind ?_ (fun _ => ?_))
      | exact ih0 _ _
      | exact ih1 _ _ _ _
      | exact LeO.none _
      | refine LeO.ite ?_ ?_
      | refine LeO.bind ?_ (fun _ => ?_)
    · intro y0 y1 y2 y3
      unfold sacristyref08_names.l0
      repeat' first
      | (with_reducible exact ih0 _ _)
      | (with_reducible exact ih1 _ _ _ _)
      | (with_reducible exact LeO.refl _)
      | (with_reducible exact LeO.none _)
      | (with_reducible refine LeO.ite ?_ ?_)
      | (with_reducible refine LeO.bind ?_ (fun _ => ?_))
      | exact ih0 _ _
      | exact ih1 _ _ _ _
      | exact LeO.none _
      | refine LeO.ite ?_ ?_
      | refine LeO.bind ?_ (fun _ => ?_)
theorem sacristyref08_names.mono : ∀ a0 k, LeO (sacristyref08_names.f k a0) (sacristyref08_names.f (k + 1) a0) := by
  intro a0 k
  obtain ⟨ih0, ih1⟩ := sacristyref08_names.mono_l k
  unfold sacristyref08_names.f
  repeat' first
      | (with_reducible exact ih0 _ _)
      | (with_reducible exact ih1 _ _ _ _)
      | (with_reducible exact LeO.refl _)
      | (with_reducible exact LeO.none _)
      | (with_reducible refine LeO.ite ?_ ?_)
      | (with_reducible refine LeO.bind ?_ (fun _ => ?_))
      | exact ih0 _ _
      | exact ih1 _ _ _ _
      | exact LeO.none _
      | refine LeO.ite ?_ ?_
      | refine LeO.bind ?_ (fun _ => ?_)
set_option maxHeartbeats 8000000 in
set_option maxRecDepth 100000 in
theorem sacristyref08_names.calls (k : Nat) (A0 : Option Addr) (c0 : Nat) (l0 : List Int) (r1 : List ByteArray) (r2 : Bool) (w : World) (hr0 : Kd.C (Kd.int .u8) w A0 l0.length l0) (hc0 : l0.length ≤ c0) (h : sacristyref08_names.f k l0 = some (r1, r2)) :
    Calls Try.prog 34 #[.slice A0 l0.length c0] w fun e w' => ∃ v0_ : Value, e = .returned (.tuple #[v0_, .bool r2]) ∧ Kd.R Kd.string 9 w' w.heap.size (fun _ => True) v0_ r1 ∧ Below w.heap.size w w' := by
  have HR0 := Aside0.mk hr0
  have HC0 := Aside0.mk hc0
  clear hr0 hc0
  have HB := Aside0.mk (Below.refl w.heap.size w)
  have H : (if (l0.length : Int) < 544 then (sacristyref08_names.j0 k l0 true) else (sacristyref08_names.j0 k l0 ((Int.tmod (wrap64 ((l0.length : Int) - 544)) 34) != 0))) = some (r1, r2) := h
  clear h
  have HC2 := Aside0.mk H
  clear H
  go_enter Try.func34, Try.ntmps34
  go_upto_region 1 with (fail)
  repeat (go_quiet (fail); go_upto_region 1 with (fail))
  go_cut [20] (fun v20 wc => ∃ (kq : Nat) (x20_1 : Bool), v20 = .bool x20_1 ∧ Aside0 (sacristyref08_names.j0 kq l0 x20_1 = some (r1, r2)) ∧ Aside0 (kq ≤ k) ∧ Aside0 (Below w.heap.size w wc))
  case first =>
    have H := HC2.out
    clear HC2
    by_cases c3 : (l0.length : Int) < 544
    · rw [if_pos c3] at H
      have c3b0 : decide ((l0.length : Int) < 544) = true := decide_eq_true c3
      have c3b1 : decide (l0.length < 544) = true := decide_eq_true (by omega)
      clear c3
      (first | rw [c3b0] | (simp only [i64_w, i32_w]; rw [c3b0]) | skip)
      have H' := Aside0.mk H
      clear H
      go_wp2
      repeat (go_quiet (fail); try go_wp2)
      go_meet
      case rel => exact ⟨_, (true), (by first | rfl | (simp; done) | (simp [*]; done)), H', ⟨by first | omega | exact Nat.le_refl _⟩, ⟨by repeat (first | (with_reducible first | exact HB.out | apply below_alloc | apply pw_below_drewN | apply below_drew1) | exact HB.out)⟩⟩
    · rw [if_neg c3] at H
      have c3b0 : decide ((l0.length : Int) < 544) = false := decide_eq_false c3
      have c3b1 : decide (l0.length < 544) = false := decide_eq_false (by omega)
      clear c3
      (first | rw [c3b0] | (simp only [i64_w, i32_w]; rw [c3b0]) | skip)
      have H' := Aside0.mk H
      clear H
      go_wp2
      repeat (go_quiet (fail); try go_wp2)
      go_meet
      case rel => exact ⟨_, (((Int.tmod (wrap64 ((l0.length : Int) - 544)) 34) != 0)), (by first | rfl | (simp; done) | (simp [*]; done)), H', ⟨by first | omega | exact Nat.le_refl _⟩, ⟨by repeat (first | (with_reducible first | exact HB.out | apply below_alloc | apply pw_below_drewN | apply below_drew1) | exact HB.out)⟩⟩
  case rest =>
    clear HC2
    try clear p2
    try clear c3
    try clear c3b0
    try clear c3b1
    obtain ⟨kq, x20_1, rfl, HA, HJ1, HB⟩ := hcut
    cases kq with
    | zero => exact absurd HA.out (by simp [sacristyref08_names.j0])
    | succ kj1 =>
      have H := HA.out
      clear HA
      simp only [sacristyref08_names.j0] at H
      by_cases c4 : x20_1 = true
      · subst c4
        have H1 : (some (([] : List ByteArray), false)) = some (r1, r2) := by rw [if_pos rfl] at H; exact H
        clear H
        have H := H1
        clear H1
        simp only [Option.some.injEq, Prod.mk.injEq] at H
        obtain ⟨rfl, rfl⟩ := H
        go_wp2
        repeat (go_quiet (fail); try go_wp2)
        go_ret2
        exact ⟨_, by first | rfl | (simp [errW_none, errW_some] <;> rfl) | (simp [*, errW_none, errW_some] <;> rfl), by first | exact Kd.R_nil _ _ _ _ _ | exact Kd.N_nil _ _ _ _ _ | exact Kd.V_nil _ _ _ _ _ | exact Kd.Q_nil _ _ _ _ _ | exact Kd.S_nil _ _ _ _ _, by repeat (first | (with_reducible first | exact HB.out | apply below_alloc | apply pw_below_drewN | apply below_drew1) | exact HB.out)⟩
      · replace c4 := Bool.eq_false_iff.mpr c4
        subst c4
        have H1 : (if (wrap64 (Int.tdiv (wrap64 ((l0.length : Int) - 544)) 34)) > 512 then (some (([] : List ByteArray), false)) else (if 0 ≤ (wrap64 (Int.tdiv (wrap64 ((l0.length : Int) - 544)) 34)) then (if (wrap64 (Int.tdiv (wrap64 ((l0.length : Int) - 544)) 34) : Int).toNat ≤ 17592186044416 then (sacristyref08_names.l0 kj1 l0 (wrap64 (Int.tdiv (wrap64 ((l0.length : Int) - 544)) 34)) (List.replicate (wrap64 (Int.tdiv (wrap64 ((l0.length : Int) - 544)) 34) : Int).toNat (⟨#[]⟩ : ByteArray)) 0) else (none)) else (none))) = some (r1, r2) := by rw [if_neg (show ¬ (false = true) by decide)] at H; exact H
        clear H
        have H := H1
        clear H1
        by_cases c5 : (wrap64 (Int.tdiv (wrap64 ((l0.length : Int) - 544)) 34)) > 512
        · rw [if_pos c5] at H
          have c5b0 : decide (512 < (wrap64 (Int.tdiv (wrap64 ((l0.length : Int) - 544)) 34))) = true := decide_eq_true c5
          clear c5
          simp only [Option.some.injEq, Prod.mk.injEq] at H
          obtain ⟨rfl, rfl⟩ := H
          go_wp2
          repeat (go_quiet (fail); try go_wp2)
          go_ret2
          exact ⟨_, by first | rfl | (simp [errW_none, errW_some] <;> rfl) | (simp [*, errW_none, errW_some] <;> rfl), by first | exact Kd.R_nil _ _ _ _ _ | exact Kd.N_nil _ _ _ _ _ | exact Kd.V_nil _ _ _ _ _ | exact Kd.Q_nil _ _ _ _ _ | exact Kd.S_nil _ _ _ _ _, by repeat (first | (with_reducible first | exact HB.out | apply below_alloc | apply pw_below_drewN | apply below_drew1) | exact HB.out)⟩
        · rw [if_neg c5] at H
          have c5b0 : decide (512 < (wrap64 (Int.tdiv (wrap64 ((l0.length : Int) - 544)) 34))) = false := decide_eq_false c5
          clear c5
          obtain ⟨ji6, hji6⟩ : ∃ j_ : Int, (wrap64 (Int.tdiv (wrap64 ((l0.length : Int) - 544)) 34)) = j_ := ⟨_, rfl⟩
          replace H : (if 0 ≤ (ji6) then (if (ji6 : Int).toNat ≤ 17592186044416 then (sacristyref08_names.l0 kj1 l0 ji6 (List.replicate (ji6 : Int).toNat (⟨#[]⟩ : ByteArray)) 0) else (none)) else (none)) = some (r1, r2) := by first | (rw [hji6] at H; exact H) | (simp only [hji6] at H ⊢; exact H)
          (try rw [hji6] at c5b0)
          have hji6w : (IntKind.i64.wrap (Int.tdiv (wrap64 ((l0.length : Int) - 544)) 34)) = ji6 := (i64_w _).trans hji6
          by_cases c7 : 0 ≤ (ji6)
          · rw [if_pos c7] at H
            have c7b0 := eq_true c7
            have c7b1 : decide (0 ≤ (ji6)) = true := decide_eq_true c7
            clear c7
            by_cases c8 : (ji6 : Int).toNat ≤ 17592186044416
            · rw [if_pos c8] at H
              have c8b0 := eq_true c8
              have c8b1 : decide ((ji6 : Int).toNat ≤ 17592186044416) = true := decide_eq_true c8
              clear c8
              obtain ⟨y101, hy101⟩ : ∃ y_ : List ByteArray, y_ = (List.replicate (ji6 : Int).toNat (⟨#[]⟩ : ByteArray)) := ⟨_, rfl⟩
              replace H : (sacristyref08_names.l0 kj1 l0 ji6 y101 0) = some (r1, r2) := by first | (rw [hy101]; with_reducible exact H) | (have H2_ := (Option.bind_some _ _).symm.trans H; rw [hy101]; with_reducible exact H2_) | (have H2_ := (Option.bind_some _ _).symm.trans H; with_reducible exact H2_) | with_reducible exact H | (rw [hy101]; exact H) | exact H
              have Ny101 := Aside0.mk hy101
              clear hy101
              have H' := Aside0.mk H
              clear H
              go_wp2_with (first | ((with_reducible refine gate_dst (N := 28) rfl ?_); (try (refine gate_guard (by rfl) ?_; dsimp only)); refine Kd.R_make Kd.string _ 9 rfl (N := 28) rfl 22 _ _ rfl ji6 rfl rfl Try.underlying22 (.string ⟨#[]⟩) 16 info9 rfl (by decide) (by omega) (⟨#[]⟩ : ByteArray) (ok := fun _ => True) (okp := fun _ => True) rfl (fun _ hk => hk) trivial (of_decide_eq_true (by first | (with_reducible assumption) | assumption)) (Nat.le_trans (Nat.mul_le_mul_right _ (of_decide_eq_true (by first | (with_reducible assumption) | assumption) : ji6.toNat ≤ 17592186044416)) (by omega)) (Below.refl _ _) (Nat.le_refl _) ?_; intro v102 w9 ho10 hb hg_ hnew_; clear hg_ hnew_; (first | rw [← Ny101.out] at ho10 | (simp only [Int.reduceToNat] at ho10; rw [← Ny101.out] at ho10)); have n0_ := Aside0.mk (Kd.R_lower ho10 (below_size (by repeat (first | (with_reducible first | exact HB.out | apply below_alloc | apply pw_below_drewN | apply below_drew1) | exact HB.out)))); have n1_ := Aside0.mk (below_step (by repeat (first | (with_reducible first | exact HB.out | apply below_alloc | apply pw_below_drewN | apply below_drew1) | exact HB.out)) hb); clear HB; have HO103 := n0_; have HB := n1_; clear n0_ n1_; clear hb ho10))
              repeat (go_quiet (first | ((with_reducible refine gate_dst (N := 28) rfl ?_); (try (refine gate_guard (by rfl) ?_; dsimp only)); refine Kd.R_make Kd.string _ 9 rfl (N := 28) rfl 22 _ _ rfl ji6 rfl rfl Try.underlying22 (.string ⟨#[]⟩) 16 info9 rfl (by decide) (by omega) (⟨#[]⟩ : ByteArray) (ok := fun _ => True) (okp := fun _ => True) rfl (fun _ hk => hk) trivial (of_decide_eq_true (by first | (with_reducible assumption) | assumption)) (Nat.le_trans (Nat.mul_le_mul_right _ (of_decide_eq_true (by first | (with_reducible assumption) | assumption) : ji6.toNat ≤ 17592186044416)) (by omega)) (Below.refl _ _) (Nat.le_refl _) ?_; intro v102 w9 ho10 hb hg_ hnew_; clear hg_ hnew_; (first | rw [← Ny101.out] at ho10 | (simp only [Int.reduceToNat] at ho10; rw [← Ny101.out] at ho10)); have n0_ := Aside0.mk (Kd.R_lower ho10 (below_size (by repeat (first | (with_reducible first | exact HB.out | apply below_alloc | apply pw_below_drewN | apply below_drew1) | exact HB.out)))); have n1_ := Aside0.mk (below_step (by repeat (first | (with_reducible first | exact HB.out | apply below_alloc | apply pw_below_drewN | apply below_drew1) | exact HB.out)) hb); clear HB; have HO103 := n0_; have HB := n1_; clear n0_ n1_; clear hb ho10)); try go_wp2_with (first | ((with_reducible refine gate_dst (N := 28) rfl ?_); (try (refine gate_guard (by rfl) ?_; dsimp only)); refine Kd.R_make Kd.string _ 9 rfl (N := 28) rfl 22 _ _ rfl ji6 rfl rfl Try.underlying22 (.string ⟨#[]⟩) 16 info9 rfl (by decide) (by omega) (⟨#[]⟩ : ByteArray) (ok := fun _ => True) (okp := fun _ => True) rfl (fun _ hk => hk) trivial (of_decide_eq_true (by first | (with_reducible assumption) | assumption)) (Nat.le_trans (Nat.mul_le_mul_right _ (of_decide_eq_true (by first | (with_reducible assumption) | assumption) : ji6.toNat ≤ 17592186044416)) (by omega)) (Below.refl _ _) (Nat.le_refl _) ?_; intro v102 w9 ho10 hb hg_ hnew_; clear hg_ hnew_; (first | rw [← Ny101.out] at ho10 | (simp only [Int.reduceToNat] at ho10; rw [← Ny101.out] at ho10)); have n0_ := Aside0.mk (Kd.R_lower ho10 (below_size (by repeat (first | (with_reducible first | exact HB.out | apply below_alloc | apply pw_below_drewN | apply below_drew1) | exact HB.out)))); have n1_ := Aside0.mk (below_step (by repeat (first | (with_reducible first | exact HB.out | apply below_alloc | apply pw_below_drewN | apply below_drew1) | exact HB.out)) hb); clear HB; have HO103 := n0_; have HB := n1_; clear n0_ n1_; clear hb ho10)))
              go_loopg [6] kj1 (fun kq v6 w' => ∃ (x5_2 : List ByteArray) (x6_2 : Int), v6 = .int .i64 x6_2 ∧ Aside0 (sacristyref08_names.l0 kq l0 ji6 x5_2 x6_2 = some (r1, r2)) ∧ Aside0 (kq ≤ kj1) ∧ Aside0 (Kd.R Kd.string 9 w' w.heap.size (fun _ => True) v102 x5_2) ∧ Aside0 (Below w.heap.size w w'))
              case atStart => exact ⟨(y101), (0), (by first | rfl | (simp; done) | (simp [*]; done)), H', ⟨Nat.le_refl _⟩, ⟨by (with_reducible repeat (first | apply Kd.R_alloc | apply Kd.R_drewN | apply Kd.R_drew)); exact HO103.out⟩, ⟨by repeat (first | (with_reducible first | exact HB.out | apply below_alloc | apply pw_below_drewN | apply below_drew1) | exact HB.out)⟩⟩
              case round =>
                clear H'
                try clear p2
                try clear c3
                try clear c3b0
                try clear c3b1
                try clear c4
                try clear c5
                try clear c5b0
                try clear p6
                try clear c7
                try clear c7b0
                try clear c7b1
                try clear c8
                try clear c8b0
                try clear c8b1
                try clear p2
                obtain ⟨x5_2, x6_2, rfl, HA, HK2, HO_5, HB⟩ := hrel
                cases gk with
                | zero => exact absurd HA.out (by simp [sacristyref08_names.l0])
                | succ k2 =>
                  have H := HA.out
                  clear HA
                  simp only [sacristyref08_names.l0] at H
                  by_cases c11 : x6_2 < ji6
                  · rw [if_pos c11] at H
                    have c11b0 : decide (x6_2 < ji6) = true := decide_eq_true c11
                    clear c11
                    obtain ⟨ji12, hji12⟩ : ∃ j_ : Int, (wrap64 ((wrap64 (512 + (wrap64 (34 * x6_2)))) + 32)) = j_ := ⟨_, rfl⟩
                    replace H : (if 0 ≤ (ji12) then (if (ji12) < (l0.length : Int) then (if 0 ≤ (wrap64 ((wrap64 (512 + (wrap64 (34 * x6_2)))) + 33)) then (if (wrap64 ((wrap64 (512 + (wrap64 (34 * x6_2)))) + 33)) < (l0.length : Int) then (if (wrap64 ((wrap64 ((wrap64 (rd l0 (ji12))) * 256)) + (wrap64 (rd l0 (wrap64 ((wrap64 (512 + (wrap64 (34 * x6_2)))) + 33)))))) ≥ ji6 then (some (([] : List ByteArray), false)) else (if 0 ≤ (wrap64 (512 + (wrap64 (34 * x6_2)))) then (if (wrap64 (512 + (wrap64 (34 * x6_2)))) ≤ (ji12) then (if (ji12) ≤ (l0.length : Int) then ((Go.Proofs.Ytonhmjodgomeiaa.Ix.Gv.rtold.f ((l0.take ((ji12) : Int).toNat).drop ((wrap64 (512 + (wrap64 (34 * x6_2)))) : Int).toNat)).bind fun t107 => (if 0 ≤ (wrap64 ((wrap64 ((wrap64 (rd l0 (ji12))) * 256)) + (wrap64 (rd l0 (wrap64 ((wrap64 (512 + (wrap64 (34 * x6_2)))) + 33)))))) then (if (wrap64 ((wrap64 ((wrap64 (rd l0 (ji12))) * 256)) + (wrap64 (rd l0 (wrap64 ((wrap64 (512 + (wrap64 (34 * x6_2)))) + 33)))))) < (x5_2.length : Int) then (sacristyref08_names.l0 k2 l0 ji6 (x5_2.set ((wrap64 ((wrap64 ((wrap64 (rd l0 (ji12))) * 256)) + (wrap64 (rd l0 (wrap64 ((wrap64 (512 + (wrap64 (34 * x6_2)))) + 33)))))) : Int).toNat t107) (wrap64 (x6_2 + 1))) else (none)) else (none))) else (none)) else (none)) else (none))) else (none)) else (none)) else (none)) else (none)) = some (r1, r2) := by first | (rw [hji12] at H; exact H) | (simp only [hji12] at H ⊢; exact H)
                    have hji12w : (IntKind.i64.wrap ((wrap64 (512 + (wrap64 (34 * x6_2)))) + 32)) = ji12 := (i64_w _).trans hji12
                    by_cases c13 : 0 ≤ (ji12)
                    · rw [if_pos c13] at H
                      have c13b0 : decide (0 ≤ (ji12)) = true := decide_eq_true c13
                      clear c13
                      by_cases c14 : (ji12) < (l0.length : Int)
                      · rw [if_pos c14] at H
                        have c14b0 : decide ((ji12) < (l0.length : Int)) = true := decide_eq_true c14
                        clear c14
                        obtain ⟨ji15, hji15⟩ : ∃ j_ : Int, (wrap64 ((wrap64 (512 + (wrap64 (34 * x6_2)))) + 33)) = j_ := ⟨_, rfl⟩
                        replace H : (if 0 ≤ (ji15) then (if (ji15) < (l0.length : Int) then (if (wrap64 ((wrap64 ((wrap64 (rd l0 (ji12))) * 256)) + (wrap64 (rd l0 (ji15))))) ≥ ji6 then (some (([] : List ByteArray), false)) else (if 0 ≤ (wrap64 (512 + (wrap64 (34 * x6_2)))) then (if (wrap64 (512 + (wrap64 (34 * x6_2)))) ≤ (ji12) then (if (ji12) ≤ (l0.length : Int) then ((Go.Proofs.Ytonhmjodgomeiaa.Ix.Gv.rtold.f ((l0.take ((ji12) : Int).toNat).drop ((wrap64 (512 + (wrap64 (34 * x6_2)))) : Int).toNat)).bind fun t107 => (if 0 ≤ (wrap64 ((wrap64 ((wrap64 (rd l0 (ji12))) * 256)) + (wrap64 (rd l0 (ji15))))) then (if (wrap64 ((wrap64 ((wrap64 (rd l0 (ji12))) * 256)) + (wrap64 (rd l0 (ji15))))) < (x5_2.length : Int) then (sacristyref08_names.l0 k2 l0 ji6 (x5_2.set ((wrap64 ((wrap64 ((wrap64 (rd l0 (ji12))) * 256)) + (wrap64 (rd l0 (ji15))))) : Int).toNat t107) (wrap64 (x6_2 + 1))) else (none)) else (none))) else (none)) else (none)) else (none))) else (none)) else (none)) = some (r1, r2) := by first | (rw [hji15] at H; exact H) | (simp only [hji15] at H ⊢; exact H)
                        have hji15w : (IntKind.i64.wrap ((wrap64 (512 + (wrap64 (34 * x6_2)))) + 33)) = ji15 := (i64_w _).trans hji15
                        by_cases c16 : 0 ≤ (ji15)
                        · rw [if_pos c16] at H
                          have c16b0 : decide (0 ≤ (ji15)) = true := decide_eq_true c16
                          clear c16
                          by_cases c17 : (ji15) < (l0.length : Int)
                          · rw [if_pos c17] at H
                            have c17b0 : decide ((ji15) < (l0.length : Int)) = true := decide_eq_true c17
                            clear c17
                            by_cases c18 : (wrap64 ((wrap64 ((wrap64 (rd l0 (ji12))) * 256)) + (wrap64 (rd l0 (ji15))))) ≥ ji6
                            · rw [if_pos c18] at H
                              have c18b0 : decide (ji6 ≤ (wrap64 ((wrap64 ((wrap64 (rd l0 (ji12))) * 256)) + (wrap64 (rd l0 (ji15)))))) = true := decide_eq_true c18
                              clear c18
                              simp only [Option.some.injEq, Prod.mk.injEq] at H
                              obtain ⟨rfl, rfl⟩ := H
                              have p104 : 0 ≤ ((ji12) : Int) := of_decide_eq_true (by first | (with_reducible assumption) | assumption)
                              have q104 : (ji12) < (l0.length : Int) := of_decide_eq_true (by first | (with_reducible assumption) | assumption)
                              obtain ⟨ad104, e104, hx104_0⟩ := Kd.at_int HR0.out (ji12) p104 q104
                              cases e104
                              replace hx104_0 := (HB.out.cell (World.block_lt_of_cell? w _ hx104_0)).trans hx104_0
                              replace p104 := eq_true p104
                              replace q104 := eq_true q104
                              have p105 : 0 ≤ ((ji15) : Int) := of_decide_eq_true (by first | (with_reducible assumption) | assumption)
                              have q105 : (ji15) < (l0.length : Int) := of_decide_eq_true (by first | (with_reducible assumption) | assumption)
                              obtain ⟨ad105, e105, hx105_0⟩ := Kd.at_int HR0.out (ji15) p105 q105
                              obtain rfl : ad104 = ad105 := (by injection e105)
                              replace hx105_0 := (HB.out.cell (World.block_lt_of_cell? w _ hx105_0)).trans hx105_0
                              replace p105 := eq_true p105
                              replace q105 := eq_true q105
                              go_wp2
                              repeat (go_quiet (fail); try go_wp2)
                              go_ret2
                              exact ⟨_, by first | rfl | (simp [errW_none, errW_some] <;> rfl) | (simp only [← hji6, ← hji12, ← hji15]; first | rfl | (simp [errW_none, errW_some] <;> rfl)) | (simp [*, errW_none, errW_some] <;> rfl), by first | exact Kd.R_nil _ _ _ _ _ | exact Kd.N_nil _ _ _ _ _ | exact Kd.V_nil _ _ _ _ _ | exact Kd.Q_nil _ _ _ _ _ | exact Kd.S_nil _ _ _ _ _, by repeat (first | (with_reducible first | exact HB.out | apply below_alloc | apply pw_below_drewN | apply below_drew1) | exact HB.out)⟩
                            · rw [if_neg c18] at H
                              have c18b0 : decide (ji6 ≤ (wrap64 ((wrap64 ((wrap64 (rd l0 (ji12))) * 256)) + (wrap64 (rd l0 (ji15)))))) = false := decide_eq_false c18
                              clear c18
                              obtain ⟨ji19, hji19⟩ : ∃ j_ : Int, (wrap64 (512 + (wrap64 (34 * x6_2)))) = j_ := ⟨_, rfl⟩
                              replace H : (if 0 ≤ (ji19) then (if (ji19) ≤ (ji12) then (if (ji12) ≤ (l0.length : Int) then ((Go.Proofs.Ytonhmjodgomeiaa.Ix.Gv.rtold.f ((l0.take ((ji12) : Int).toNat).drop ((ji19) : Int).toNat)).bind fun t107 => (if 0 ≤ (wrap64 ((wrap64 ((wrap64 (rd l0 (ji12))) * 256)) + (wrap64 (rd l0 (ji15))))) then (if (wrap64 ((wrap64 ((wrap64 (rd l0 (ji12))) * 256)) + (wrap64 (rd l0 (ji15))))) < (x5_2.length : Int) then (sacristyref08_names.l0 k2 l0 ji6 (x5_2.set ((wrap64 ((wrap64 ((wrap64 (rd l0 (ji12))) * 256)) + (wrap64 (rd l0 (ji15))))) : Int).toNat t107) (wrap64 (x6_2 + 1))) else (none)) else (none))) else (none)) else (none)) else (none)) = some (r1, r2) := by first | (rw [hji19] at H; exact H) | (simp only [hji19] at H ⊢; exact H)
                              have hji19w : (IntKind.i64.wrap (512 + (wrap64 (34 * x6_2)))) = ji19 := (i64_w _).trans hji19
                              have hji12x19 : (IntKind.i64.wrap (ji19 + 32)) = ji12 := by rw [← hji19]; exact hji12w
                              have hji15x19 : (IntKind.i64.wrap (ji19 + 33)) = ji15 := by rw [← hji19]; exact hji15w
                              by_cases c20 : 0 ≤ (ji19)
                              · rw [if_pos c20] at H
                                have c20b0 := eq_true c20
                                have c20b1 : decide (0 ≤ (ji19)) = true := decide_eq_true c20
                                clear c20
                                by_cases c21 : (ji19) ≤ (ji12)
                                · rw [if_pos c21] at H
                                  have c21b0 := eq_true c21
                                  have c21b1 : decide ((ji19) ≤ (ji12)) = true := decide_eq_true c21
                                  clear c21
                                  by_cases c22 : (ji12) ≤ (l0.length : Int)
                                  · rw [if_pos c22] at H
                                    have c22b0 := eq_true c22
                                    have c22b1 : decide ((ji12) ≤ (l0.length : Int)) = true := decide_eq_true c22
                                    clear c22
                                    replace H := Option.bind_eq_some_iff.mp H
                                    obtain ⟨t107, A230, H⟩ := H
                                    replace H : (if 0 ≤ (wrap64 ((wrap64 ((wrap64 (rd l0 (ji12))) * 256)) + (wrap64 (rd l0 (ji15))))) then (if (wrap64 ((wrap64 ((wrap64 (rd l0 (ji12))) * 256)) + (wrap64 (rd l0 (ji15))))) < (x5_2.length : Int) then (sacristyref08_names.l0 k2 l0 ji6 (x5_2.set ((wrap64 ((wrap64 ((wrap64 (rd l0 (ji12))) * 256)) + (wrap64 (rd l0 (ji15))))) : Int).toNat t107) (wrap64 (x6_2 + 1))) else (none)) else (none)) = some (r1, r2) := H
                                    have A23 := Aside0.mk A230
                                    clear A230
                                    obtain ⟨ji24, hji24⟩ : ∃ j_ : Int, (wrap64 ((wrap64 ((wrap64 (rd l0 (ji12))) * 256)) + (wrap64 (rd l0 (ji15))))) = j_ := ⟨_, rfl⟩
                                    replace H : (if 0 ≤ (ji24) then (if (ji24) < (x5_2.length : Int) then (sacristyref08_names.l0 k2 l0 ji6 (x5_2.set ((ji24) : Int).toNat t107) (wrap64 (x6_2 + 1))) else (none)) else (none)) = some (r1, r2) := by first | (rw [hji24] at H; exact H) | (simp only [hji24] at H ⊢; exact H)
                                    (try rw [hji24] at c18b0)
                                    (try rw [hji24] at A23)
                                    have hji24w : (IntKind.i64.wrap ((wrap64 ((wrap64 (rd l0 (ji12))) * 256)) + (wrap64 (rd l0 (ji15))))) = ji24 := (i64_w _).trans hji24
                                    by_cases c25 : 0 ≤ (ji24)
                                    · rw [if_pos c25] at H
                                      have c25b0 : decide (0 ≤ (ji24)) = true := decide_eq_true c25
                                      clear c25
                                      by_cases c26 : (ji24) < (x5_2.length : Int)
                                      · rw [if_pos c26] at H
                                        have c26b0 : decide ((ji24) < (x5_2.length : Int)) = true := decide_eq_true c26
                                        clear c26
                                        obtain ⟨y108, hy108⟩ : ∃ y_ : List ByteArray, y_ = (x5_2.set ((ji24) : Int).toNat t107) := ⟨_, rfl⟩
                                        replace H : (sacristyref08_names.l0 k2 l0 ji6 y108 (wrap64 (x6_2 + 1))) = some (r1, r2) := by first | (rw [hy108]; with_reducible exact H) | (have H2_ := (Option.bind_some _ _).symm.trans H; rw [hy108]; with_reducible exact H2_) | (have H2_ := (Option.bind_some _ _).symm.trans H; with_reducible exact H2_) | with_reducible exact H | (rw [hy108]; exact H) | exact H
                                        have Ny108 := Aside0.mk hy108
                                        clear hy108
                                        have H' := Aside0.mk H
                                        clear H
                                        have p104 : 0 ≤ ((ji12) : Int) := of_decide_eq_true (by first | (with_reducible assumption) | assumption)
                                        have q104 : (ji12) < (l0.length : Int) := of_decide_eq_true (by first | (with_reducible assumption) | assumption)
                                        obtain ⟨ad104, e104, hx104_0⟩ := Kd.at_int HR0.out (ji12) p104 q104
                                        cases e104
                                        replace hx104_0 := (HB.out.cell (World.block_lt_of_cell? w _ hx104_0)).trans hx104_0
                                        replace p104 := eq_true p104
                                        replace q104 := eq_true q104
                                        have p105 : 0 ≤ ((ji15) : Int) := of_decide_eq_true (by first | (with_reducible assumption) | assumption)
                                        have q105 : (ji15) < (l0.length : Int) := of_decide_eq_true (by first | (with_reducible assumption) | assumption)
                                        obtain ⟨ad105, e105, hx105_0⟩ := Kd.at_int HR0.out (ji15) p105 q105
                                        obtain rfl : ad104 = ad105 := (by injection e105)
                                        replace hx105_0 := (HB.out.cell (World.block_lt_of_cell? w _ hx105_0)).trans hx105_0
                                        replace p105 := eq_true p105
                                        replace q105 := eq_true q105
                                        obtain ⟨i028, hi028, _, hsz28, _⟩ := info_parts info5
                                        obtain ⟨A28, hcut28, hA28, hC28⟩ := print_mid_of (P := Try.prog) (Value.int .u8) 0 23 5 .i64 .i64 Try.underlying23 hi028 hsz28 (some ad104) c0 l0 (ji19) (ji12) (of_decide_eq_true (by first | (with_reducible assumption) | assumption)) (by first | omega | exact of_decide_eq_true (by first | (with_reducible assumption) | assumption)) (of_decide_eq_true (by first | (with_reducible assumption) | assumption)) HC0.out
                                        have HR106 := Aside0.mk (Kd.C_of_reads (h1 := fun _ => rfl) (hA28 _ (Kd.reads_of_C HR0.out)))
                                        have HC106 := Aside0.mk hC28
                                        clear hA28 hC28 hi028 hsz28
                                        go_wp2_with (first | (go_at_call 37; (first | (with_reducible refine (Go.Proofs.Ytonhmjodgomeiaa.Ix.Gv.rtold.calls _ _ ((l0.take ((ji12) : Int).toNat).drop ((ji19) : Int).toNat) t107 _ ?side1 ?side2 A23.out).mono ?_) | (rw [show ((ji12) : Int).toNat - ((ji19) : Int).toNat = ((l0.take ((ji12) : Int).toNat).drop ((ji19) : Int).toNat).length from (by rw [List.length_drop, List.length_take]; have h_ : ((ji12) : Int) ≤ (l0.length : Int) := (of_decide_eq_true (by first | (with_reducible assumption) | assumption)); omega)]; (with_reducible refine (Go.Proofs.Ytonhmjodgomeiaa.Ix.Gv.rtold.calls _ _ ((l0.take ((ji12) : Int).toNat).drop ((ji19) : Int).toNat) t107 _ ?side1 ?side2 A23.out).mono ?_))); (case side1 => repeat (first | exact (Kd.C_below HR106.out HB.out) | (with_reducible refine Kd.C_alloc ?_ _) | (with_reducible refine Kd.C_drewN ?_ _) | (with_reducible refine Kd.C_drew ?_))); (case side2 => exact HC106.out); rintro e w29 ⟨rfl, hb⟩; have n0_ := Aside0.mk (Kd.R_below (by (with_reducible repeat (first | apply Kd.R_alloc | apply Kd.R_drewN | apply Kd.R_drew)); exact HO_5.out) hb); have n1_ := Aside0.mk (below_step (by repeat (first | (with_reducible first | exact HB.out | apply below_alloc | apply pw_below_drewN | apply below_drew1) | exact HB.out)) hb); clear HO_5; clear HB; have HO_5 := n0_; have HB := n1_; clear n0_ n1_; (try clear hb); (try clear hb2); (try clear hk); (try clear hi); have p27 : 0 ≤ ((ji24) : Int) := of_decide_eq_true (by first | (with_reducible assumption) | assumption); have q27 : ((ji24) : Int) < ((x5_2.length : Int) : Int) := of_decide_eq_true (by first | (with_reducible assumption) | assumption); obtain ⟨go27, co27, eo27, gb27, gl27, cl27, HG27⟩ := Kd.R_form HO_5.out (by omega); (first | cases eo27 | (injection eo27 with ea_ en_ ec_; (first | subst ea_ | (injection ea_ with ea_; subst ea_)); subst ec_; clear en_)); have GB27 := Aside0.mk gb27; have GG27 := Aside0.mk HG27; clear gb27 gl27 HG27; obtain ⟨hx27_0, hf27_0⟩ := Kd.R_celln (⟨#[]⟩ : ByteArray) HO_5.out ((ji24) : Int) p27 q27; replace p27 := eq_true p27; replace q27 := eq_true q27; obtain ⟨hy30_, hz30_⟩ := Kd.R_celln (⟨#[]⟩ : ByteArray) HO_5.out ((ji24) : Int) (of_decide_eq_true (by first | (with_reducible assumption) | assumption)) (of_decide_eq_true (by first | (with_reducible assumption) | assumption)); have HP30 := Kd.R_putg HO_5.out ((ji24) : Int) t107) | ((with_reducible refine gate_store (t := 9) (p := 62) rfl ?_); (try (rw [drewN_self w29]; generalize hq_ : World.drewN w29 _ = w29; have n0_ := Aside0.mk (Kd.R_at hq_ HO_5.out); have n1_ := Aside0.mk (below_at hq_ HB.out); clear hq_ HO_5 HB; have HO_5 := n0_; have HB := n1_; clear n0_ n1_; (try (obtain ⟨hy30_, hz30_⟩ := Kd.R_celln (⟨#[]⟩ : ByteArray) HO_5.out ((ji24) : Int) (of_decide_eq_true (by first | (with_reducible assumption) | assumption)) (of_decide_eq_true (by first | (with_reducible assumption) | assumption)))); (try (have HP30 := Kd.R_putg HO_5.out ((ji24) : Int) t107)))); refine store_event (t := 9) (p := 62) (v := ?vo_w31) (w1 := (w29.setCell ⟨go27, ((ji24) : Int).toNat, none⟩ (.string t107))) ?hg ?ho ?hn ?hr ?_; (case ho => rfl); (case hg => rfl); (case hn => rfl); (case hr => first | (go_simp; done) | (go_simp; rfl)); intro w31 hw; have hg : w29.grownBy w31 (some go27) := (by rw [hw]; exact HP30.2); have hp_ : Kd.R Kd.string 9 w31 w.heap.size (fun _ => True) (.slice (some ⟨go27, 0, none⟩) x5_2.length co27) y108 := (by rw [hw, Ny108.out]; exact HP30.1); clear HP30; have n0_ := Aside0.mk (hp_); have n1_ := Aside0.mk ((by rw [hw]; exact below_set (HB.out) GB27.out : Below w.heap.size w w31)); clear HO_5; clear HB; have HO_5 := n0_; have HB := n1_; clear n0_ n1_; clear hg hw hp_))
                                        repeat (go_quiet (first | (go_at_call 37; (first | (with_reducible refine (Go.Proofs.Ytonhmjodgomeiaa.Ix.Gv.rtold.calls _ _ ((l0.take ((ji12) : Int).toNat).drop ((ji19) : Int).toNat) t107 _ ?side1 ?side2 A23.out).mono ?_) | (rw [show ((ji12) : Int).toNat - ((ji19) : Int).toNat = ((l0.take ((ji12) : Int).toNat).drop ((ji19) : Int).toNat).length from (by rw [List.length_drop, List.length_take]; have h_ : ((ji12) : Int) ≤ (l0.length : Int) := (of_decide_eq_true (by first | (with_reducible assumption) | assumption)); omega)]; (with_reducible refine (Go.Proofs.Ytonhmjodgomeiaa.Ix.Gv.rtold.calls _ _ ((l0.take ((ji12) : Int).toNat).drop ((ji19) : Int).toNat) t107 _ ?side1 ?side2 A23.out).mono ?_))); (case side1 => repeat (first | exact (Kd.C_below HR106.out HB.out) | (with_reducible refine Kd.C_alloc ?_ _) | (with_reducible refine Kd.C_drewN ?_ _) | (with_reducible refine Kd.C_drew ?_))); (case side2 => exact HC106.out); rintro e w29 ⟨rfl, hb⟩; have n0_ := Aside0.mk (Kd.R_below (by (with_reducible repeat (first | apply Kd.R_alloc | apply Kd.R_drewN | apply Kd.R_drew)); exact HO_5.out) hb); have n1_ := Aside0.mk (below_step (by repeat (first | (with_reducible first | exact HB.out | apply below_alloc | apply pw_below_drewN | apply below_drew1) | exact HB.out)) hb); clear HO_5; clear HB; have HO_5 := n0_; have HB := n1_; clear n0_ n1_; (try clear hb); (try clear hb2); (try clear hk); (try clear hi); have p27 : 0 ≤ ((ji24) : Int) := of_decide_eq_true (by first | (with_reducible assumption) | assumption); have q27 : ((ji24) : Int) < ((x5_2.length : Int) : Int) := of_decide_eq_true (by first | (with_reducible assumption) | assumption); obtain ⟨go27, co27, eo27, gb27, gl27, cl27, HG27⟩ := Kd.R_form HO_5.out (by omega); (first | cases eo27 | (injection eo27 with ea_ en_ ec_; (first | subst ea_ | (injection ea_ with ea_; subst ea_)); subst ec_; clear en_)); have GB27 := Aside0.mk gb27; have GG27 := Aside0.mk HG27; clear gb27 gl27 HG27; obtain ⟨hx27_0, hf27_0⟩ := Kd.R_celln (⟨#[]⟩ : ByteArray) HO_5.out ((ji24) : Int) p27 q27; replace p27 := eq_true p27; replace q27 := eq_true q27; obtain ⟨hy30_, hz30_⟩ := Kd.R_celln (⟨#[]⟩ : ByteArray) HO_5.out ((ji24) : Int) (of_decide_eq_true (by first | (with_reducible assumption) | assumption)) (of_decide_eq_true (by first | (with_reducible assumption) | assumption)); have HP30 := Kd.R_putg HO_5.out ((ji24) : Int) t107) | ((with_reducible refine gate_store (t := 9) (p := 62) rfl ?_); (try (rw [drewN_self w29]; generalize hq_ : World.drewN w29 _ = w29; have n0_ := Aside0.mk (Kd.R_at hq_ HO_5.out); have n1_ := Aside0.mk (below_at hq_ HB.out); clear hq_ HO_5 HB; have HO_5 := n0_; have HB := n1_; clear n0_ n1_; (try (obtain ⟨hy30_, hz30_⟩ := Kd.R_celln (⟨#[]⟩ : ByteArray) HO_5.out ((ji24) : Int) (of_decide_eq_true (by first | (with_reducible assumption) | assumption)) (of_decide_eq_true (by first | (with_reducible assumption) | assumption)))); (try (have HP30 := Kd.R_putg HO_5.out ((ji24) : Int) t107)))); refine store_event (t := 9) (p := 62) (v := ?vo_w31) (w1 := (w29.setCell ⟨go27, ((ji24) : Int).toNat, none⟩ (.string t107))) ?hg ?ho ?hn ?hr ?_; (case ho => rfl); (case hg => rfl); (case hn => rfl); (case hr => first | (go_simp; done) | (go_simp; rfl)); intro w31 hw; have hg : w29.grownBy w31 (some go27) := (by rw [hw]; exact HP30.2); have hp_ : Kd.R Kd.string 9 w31 w.heap.size (fun _ => True) (.slice (some ⟨go27, 0, none⟩) x5_2.length co27) y108 := (by rw [hw, Ny108.out]; exact HP30.1); clear HP30; have n0_ := Aside0.mk (hp_); have n1_ := Aside0.mk ((by rw [hw]; exact below_set (HB.out) GB27.out : Below w.heap.size w w31)); clear HO_5; clear HB; have HO_5 := n0_; have HB := n1_; clear n0_ n1_; clear hg hw hp_)); try go_wp2_with (first | (go_at_call 37; (first | (with_reducible refine (Go.Proofs.Ytonhmjodgomeiaa.Ix.Gv.rtold.calls _ _ ((l0.take ((ji12) : Int).toNat).drop ((ji19) : Int).toNat) t107 _ ?side1 ?side2 A23.out).mono ?_) | (rw [show ((ji12) : Int).toNat - ((ji19) : Int).toNat = ((l0.take ((ji12) : Int).toNat).drop ((ji19) : Int).toNat).length from (by rw [List.length_drop, List.length_take]; have h_ : ((ji12) : Int) ≤ (l0.length : Int) := (of_decide_eq_true (by first | (with_reducible assumption) | assumption)); omega)]; (with_reducible refine (Go.Proofs.Ytonhmjodgomeiaa.Ix.Gv.rtold.calls _ _ ((l0.take ((ji12) : Int).toNat).drop ((ji19) : Int).toNat) t107 _ ?side1 ?side2 A23.out).mono ?_))); (case side1 => repeat (first | exact (Kd.C_below HR106.out HB.out) | (with_reducible refine Kd.C_alloc ?_ _) | (with_reducible refine Kd.C_drewN ?_ _) | (with_reducible refine Kd.C_drew ?_))); (case side2 => exact HC106.out); rintro e w29 ⟨rfl, hb⟩; have n0_ := Aside0.mk (Kd.R_below (by (with_reducible repeat (first | apply Kd.R_alloc | apply Kd.R_drewN | apply Kd.R_drew)); exact HO_5.out) hb); have n1_ := Aside0.mk (below_step (by repeat (first | (with_reducible first | exact HB.out | apply below_alloc | apply pw_below_drewN | apply below_drew1) | exact HB.out)) hb); clear HO_5; clear HB; have HO_5 := n0_; have HB := n1_; clear n0_ n1_; (try clear hb); (try clear hb2); (try clear hk); (try clear hi); have p27 : 0 ≤ ((ji24) : Int) := of_decide_eq_true (by first | (with_reducible assumption) | assumption); have q27 : ((ji24) : Int) < ((x5_2.length : Int) : Int) := of_decide_eq_true (by first | (with_reducible assumption) | assumption); obtain ⟨go27, co27, eo27, gb27, gl27, cl27, HG27⟩ := Kd.R_form HO_5.out (by omega); (first | cases eo27 | (injection eo27 with ea_ en_ ec_; (first | subst ea_ | (injection ea_ with ea_; subst ea_)); subst ec_; clear en_)); have GB27 := Aside0.mk gb27; have GG27 := Aside0.mk HG27; clear gb27 gl27 HG27; obtain ⟨hx27_0, hf27_0⟩ := Kd.R_celln (⟨#[]⟩ : ByteArray) HO_5.out ((ji24) : Int) p27 q27; replace p27 := eq_true p27; replace q27 := eq_true q27; obtain ⟨hy30_, hz30_⟩ := Kd.R_celln (⟨#[]⟩ : ByteArray) HO_5.out ((ji24) : Int) (of_decide_eq_true (by first | (with_reducible assumption) | assumption)) (of_decide_eq_true (by first | (with_reducible assumption) | assumption)); have HP30 := Kd.R_putg HO_5.out ((ji24) : Int) t107) | ((with_reducible refine gate_store (t := 9) (p := 62) rfl ?_); (try (rw [drewN_self w29]; generalize hq_ : World.drewN w29 _ = w29; have n0_ := Aside0.mk (Kd.R_at hq_ HO_5.out); have n1_ := Aside0.mk (below_at hq_ HB.out); clear hq_ HO_5 HB; have HO_5 := n0_; have HB := n1_; clear n0_ n1_; (try (obtain ⟨hy30_, hz30_⟩ := Kd.R_celln (⟨#[]⟩ : ByteArray) HO_5.out ((ji24) : Int) (of_decide_eq_true (by first | (with_reducible assumption) | assumption)) (of_decide_eq_true (by first | (with_reducible assumption) | assumption)))); (try (have HP30 := Kd.R_putg HO_5.out ((ji24) : Int) t107)))); refine store_event (t := 9) (p := 62) (v := ?vo_w31) (w1 := (w29.setCell ⟨go27, ((ji24) : Int).toNat, none⟩ (.string t107))) ?hg ?ho ?hn ?hr ?_; (case ho => rfl); (case hg => rfl); (case hn => rfl); (case hr => first | (go_simp; done) | (go_simp; rfl)); intro w31 hw; have hg : w29.grownBy w31 (some go27) := (by rw [hw]; exact HP30.2); have hp_ : Kd.R Kd.string 9 w31 w.heap.size (fun _ => True) (.slice (some ⟨go27, 0, none⟩) x5_2.length co27) y108 := (by rw [hw, Ny108.out]; exact HP30.1); clear HP30; have n0_ := Aside0.mk (hp_); have n1_ := Aside0.mk ((by rw [hw]; exact below_set (HB.out) GB27.out : Below w.heap.size w w31)); clear HO_5; clear HB; have HO_5 := n0_; have HB := n1_; clear n0_ n1_; clear hg hw hp_)))
                                        go_roundg k2
                                        case measure => have := HJ1.out; have := HK2.out; omega
                                        case rel => exact ⟨(y108), (wrap64 (x6_2 + 1)), (by first | rfl | (simp; done) | (simp [*]; done)), H', ⟨by have := HJ1.out; have := HK2.out; omega⟩, ⟨by (with_reducible repeat (first | apply Kd.R_alloc | apply Kd.R_drewN | apply Kd.R_drew)); exact HO_5.out⟩, ⟨by repeat (first | (with_reducible first | exact HB.out | apply below_alloc | apply pw_below_drewN | apply below_drew1) | exact HB.out)⟩⟩
                                      · rw [if_neg c26] at H
                                        exact absurd H (by simp)
                                    · rw [if_neg c25] at H
                                      exact absurd H (by simp)
                                  · rw [if_neg c22] at H
                                    exact absurd H (by simp)
                                · rw [if_neg c21] at H
                                  exact absurd H (by simp)
                              · rw [if_neg c20] at H
                                exact absurd H (by simp)
                          · rw [if_neg c17] at H
                            exact absurd H (by simp)
                        · rw [if_neg c16] at H
                          exact absurd H (by simp)
                      · rw [if_neg c14] at H
                        exact absurd H (by simp)
                    · rw [if_neg c13] at H
                      exact absurd H (by simp)
                  · rw [if_neg c11] at H
                    have c11b0 : decide (x6_2 < ji6) = false := decide_eq_false c11
                    clear c11
                    replace H := Option.bind_eq_some_iff.mp H
                    obtain ⟨⟨t109, t110⟩, A320, H⟩ := H
                    replace H : (if t110 = 0 then (if (strOfNums t109).toList = (strOfNums l0).toList then (some (x5_2, true)) else (some (([] : List ByteArray), false))) else (some (([] : List ByteArray), false))) = some (r1, r2) := H
                    have A32 := Aside0.mk A320
                    clear A320
                    by_cases c33 : t110 = 0
                    · rw [if_pos c33] at H
                      have c33b0 : (t110 == 0) = true := beq_iff_eq.mpr c33
                      have c33b1 : (t110 != 0) = false := bne_eq_false_iff_eq.mpr c33
                      clear c33
                      by_cases c34 : (strOfNums t109).toList = (strOfNums l0).toList
                      · rw [if_pos c34] at H
                        have c34b0 : ((strOfNums t109).toList == (strOfNums l0).toList) = true := beq_iff_eq.mpr c34
                        have c34b1 : ((strOfNums t109).toList != (strOfNums l0).toList) = false := bne_eq_false_iff_eq.mpr c34
                        clear c34
                        simp only [Option.some.injEq, Prod.mk.injEq] at H
                        obtain ⟨rfl, rfl⟩ := H
                        obtain ⟨Ao35, co35, eo35⟩ := Kd.R_slice HO_5.out
                        subst eo35
                        go_wp2_with (first | (go_at_call 12; (with_reducible refine (Go.Proofs.Ytonhmjodgomeiaa.Ix.Gv.rput.calls _ _ x5_2 t109 t110 _ ?side1 ?side2 A32.out).mono ?_); (case side1 => repeat (first | exact (Kd.R_reads' HO_5.out).2.2 | (with_reducible refine Kd.C_alloc ?_ _) | (with_reducible refine Kd.C_drewN ?_ _) | (with_reducible refine Kd.C_drew ?_))); (case side2 => exact (Kd.R_reads' HO_5.out).2.1); rintro e w36 ⟨v111, rfl, ho0, hb⟩; have n0_ := Aside0.mk (Kd.R_below (by (with_reducible repeat (first | apply Kd.R_alloc | apply Kd.R_drewN | apply Kd.R_drew)); exact HO_5.out) hb); have n1_ := Aside0.mk (Kd.R_lower ho0 (below_size (by repeat (first | (with_reducible first | exact HB.out | apply below_alloc | apply pw_below_drewN | apply below_drew1) | exact HB.out)))); have n2_ := Aside0.mk (below_step (by repeat (first | (with_reducible first | exact HB.out | apply below_alloc | apply pw_below_drewN | apply below_drew1) | exact HB.out)) hb); clear HO_5; clear HB; have HO_5 := n0_; have HO112 := n1_; have HB := n2_; clear n0_ n1_ n2_; (try clear hb); (try clear hb2); (try clear hk); (try clear hi); (try clear ho0); have hcv37 := own_string (P := Try.prog) Try.underlying23 Try.underlying5 Try.underlying9 (Kd.own_of_R HO112.out); have hcv38 := Kd.C_string (P := Try.prog) (A := A0) (c := c0) Try.underlying23 Try.underlying5 Try.underlying9 (Kd.C_below HR0.out HB.out)))
                        repeat (go_quiet (first | (go_at_call 12; (with_reducible refine (Go.Proofs.Ytonhmjodgomeiaa.Ix.Gv.rput.calls _ _ x5_2 t109 t110 _ ?side1 ?side2 A32.out).mono ?_); (case side1 => repeat (first | exact (Kd.R_reads' HO_5.out).2.2 | (with_reducible refine Kd.C_alloc ?_ _) | (with_reducible refine Kd.C_drewN ?_ _) | (with_reducible refine Kd.C_drew ?_))); (case side2 => exact (Kd.R_reads' HO_5.out).2.1); rintro e w36 ⟨v111, rfl, ho0, hb⟩; have n0_ := Aside0.mk (Kd.R_below (by (with_reducible repeat (first | apply Kd.R_alloc | apply Kd.R_drewN | apply Kd.R_drew)); exact HO_5.out) hb); have n1_ := Aside0.mk (Kd.R_lower ho0 (below_size (by repeat (first | (with_reducible first | exact HB.out | apply below_alloc | apply pw_below_drewN | apply below_drew1) | exact HB.out)))); have n2_ := Aside0.mk (below_step (by repeat (first | (with_reducible first | exact HB.out | apply below_alloc | apply pw_below_drewN | apply below_drew1) | exact HB.out)) hb); clear HO_5; clear HB; have HO_5 := n0_; have HO112 := n1_; have HB := n2_; clear n0_ n1_ n2_; (try clear hb); (try clear hb2); (try clear hk); (try clear hi); (try clear ho0); have hcv37 := own_string (P := Try.prog) Try.underlying23 Try.underlying5 Try.underlying9 (Kd.own_of_R HO112.out); have hcv38 := Kd.C_string (P := Try.prog) (A := A0) (c := c0) Try.underlying23 Try.underlying5 Try.underlying9 (Kd.C_below HR0.out HB.out))); try go_wp2_with (first | (go_at_call 12; (with_reducible refine (Go.Proofs.Ytonhmjodgomeiaa.Ix.Gv.rput.calls _ _ x5_2 t109 t110 _ ?side1 ?side2 A32.out).mono ?_); (case side1 => repeat (first | exact (Kd.R_reads' HO_5.out).2.2 | (with_reducible refine Kd.C_alloc ?_ _) | (with_reducible refine Kd.C_drewN ?_ _) | (with_reducible refine Kd.C_drew ?_))); (case side2 => exact (Kd.R_reads' HO_5.out).2.1); rintro e w36 ⟨v111, rfl, ho0, hb⟩; have n0_ := Aside0.mk (Kd.R_below (by (with_reducible repeat (first | apply Kd.R_alloc | apply Kd.R_drewN | apply Kd.R_drew)); exact HO_5.out) hb); have n1_ := Aside0.mk (Kd.R_lower ho0 (below_size (by repeat (first | (with_reducible first | exact HB.out | apply below_alloc | apply pw_below_drewN | apply below_drew1) | exact HB.out)))); have n2_ := Aside0.mk (below_step (by repeat (first | (with_reducible first | exact HB.out | apply below_alloc | apply pw_below_drewN | apply below_drew1) | exact HB.out)) hb); clear HO_5; clear HB; have HO_5 := n0_; have HO112 := n1_; have HB := n2_; clear n0_ n1_ n2_; (try clear hb); (try clear hb2); (try clear hk); (try clear hi); (try clear ho0); have hcv37 := own_string (P := Try.prog) Try.underlying23 Try.underlying5 Try.underlying9 (Kd.own_of_R HO112.out); have hcv38 := Kd.C_string (P := Try.prog) (A := A0) (c := c0) Try.underlying23 Try.underlying5 Try.underlying9 (Kd.C_below HR0.out HB.out))))
                        go_ret2
                        exact ⟨_, by first | rfl | (simp [errW_none, errW_some] <;> rfl) | (simp only [← hji6]; first | rfl | (simp [errW_none, errW_some] <;> rfl)) | (simp [*, errW_none, errW_some] <;> rfl), by (with_reducible repeat (first | apply Kd.R_alloc | apply Kd.R_drewN | apply Kd.R_drew)); exact HO_5.out, by repeat (first | (with_reducible first | exact HB.out | apply below_alloc | apply pw_below_drewN | apply below_drew1) | exact HB.out)⟩
                      · rw [if_neg c34] at H
                        have c34b0 : ((strOfNums t109).toList == (strOfNums l0).toList) = false := beq_eq_false_iff_ne.mpr c34
                        have c34b1 : ((strOfNums t109).toList != (strOfNums l0).toList) = true := bne_iff_ne.mpr c34
                        simp only [Option.some.injEq, Prod.mk.injEq] at H
                        obtain ⟨rfl, rfl⟩ := H
                        obtain ⟨Ao39, co39, eo39⟩ := Kd.R_slice HO_5.out
                        subst eo39
                        go_wp2_with (first | (go_at_call 12; (with_reducible refine (Go.Proofs.Ytonhmjodgomeiaa.Ix.Gv.rput.calls _ _ x5_2 t109 t110 _ ?side1 ?side2 A32.out).mono ?_); (case side1 => repeat (first | exact (Kd.R_reads' HO_5.out).2.2 | (with_reducible refine Kd.C_alloc ?_ _) | (with_reducible refine Kd.C_drewN ?_ _) | (with_reducible refine Kd.C_drew ?_))); (case side2 => exact (Kd.R_reads' HO_5.out).2.1); rintro e w40 ⟨v111, rfl, ho0, hb⟩; have n0_ := Aside0.mk (Kd.R_below (by (with_reducible repeat (first | apply Kd.R_alloc | apply Kd.R_drewN | apply Kd.R_drew)); exact HO_5.out) hb); have n1_ := Aside0.mk (Kd.R_lower ho0 (below_size (by repeat (first | (with_reducible first | exact HB.out | apply below_alloc | apply pw_below_drewN | apply below_drew1) | exact HB.out)))); have n2_ := Aside0.mk (below_step (by repeat (first | (with_reducible first | exact HB.out | apply below_alloc | apply pw_below_drewN | apply below_drew1) | exact HB.out)) hb); clear HO_5; clear HB; have HO_5 := n0_; have HO112 := n1_; have HB := n2_; clear n0_ n1_ n2_; (try clear hb); (try clear hb2); (try clear hk); (try clear hi); (try clear ho0); have hcv41 := own_string (P := Try.prog) Try.underlying23 Try.underlying5 Try.underlying9 (Kd.own_of_R HO112.out); have hcv42 := Kd.C_string (P := Try.prog) (A := A0) (c := c0) Try.underlying23 Try.underlying5 Try.underlying9 (Kd.C_below HR0.out HB.out)))
                        repeat (go_quiet (first | (go_at_call 12; (with_reducible refine (Go.Proofs.Ytonhmjodgomeiaa.Ix.Gv.rput.calls _ _ x5_2 t109 t110 _ ?side1 ?side2 A32.out).mono ?_); (case side1 => repeat (first | exact (Kd.R_reads' HO_5.out).2.2 | (with_reducible refine Kd.C_alloc ?_ _) | (with_reducible refine Kd.C_drewN ?_ _) | (with_reducible refine Kd.C_drew ?_))); (case side2 => exact (Kd.R_reads' HO_5.out).2.1); rintro e w40 ⟨v111, rfl, ho0, hb⟩; have n0_ := Aside0.mk (Kd.R_below (by (with_reducible repeat (first | apply Kd.R_alloc | apply Kd.R_drewN | apply Kd.R_drew)); exact HO_5.out) hb); have n1_ := Aside0.mk (Kd.R_lower ho0 (below_size (by repeat (first | (with_reducible first | exact HB.out | apply below_alloc | apply pw_below_drewN | apply below_drew1) | exact HB.out)))); have n2_ := Aside0.mk (below_step (by repeat (first | (with_reducible first | exact HB.out | apply below_alloc | apply pw_below_drewN | apply below_drew1) | exact HB.out)) hb); clear HO_5; clear HB; have HO_5 := n0_; have HO112 := n1_; have HB := n2_; clear n0_ n1_ n2_; (try clear hb); (try clear hb2); (try clear hk); (try clear hi); (try clear ho0); have hcv41 := own_string (P := Try.prog) Try.underlying23 Try.underlying5 Try.underlying9 (Kd.own_of_R HO112.out); have hcv42 := Kd.C_string (P := Try.prog) (A := A0) (c := c0) Try.underlying23 Try.underlying5 Try.underlying9 (Kd.C_below HR0.out HB.out))); try go_wp2_with (first | (go_at_call 12; (with_reducible refine (Go.Proofs.Ytonhmjodgomeiaa.Ix.Gv.rput.calls _ _ x5_2 t109 t110 _ ?side1 ?side2 A32.out).mono ?_); (case side1 => repeat (first | exact (Kd.R_reads' HO_5.out).2.2 | (with_reducible refine Kd.C_alloc ?_ _) | (with_reducible refine Kd.C_drewN ?_ _) | (with_reducible refine Kd.C_drew ?_))); (case side2 => exact (Kd.R_reads' HO_5.out).2.1); rintro e w40 ⟨v111, rfl, ho0, hb⟩; have n0_ := Aside0.mk (Kd.R_below (by (with_reducible repeat (first | apply Kd.R_alloc | apply Kd.R_drewN | apply Kd.R_drew)); exact HO_5.out) hb); have n1_ := Aside0.mk (Kd.R_lower ho0 (below_size (by repeat (first | (with_reducible first | exact HB.out | apply below_alloc | apply pw_below_drewN | apply below_drew1) | exact HB.out)))); have n2_ := Aside0.mk (below_step (by repeat (first | (with_reducible first | exact HB.out | apply below_alloc | apply pw_below_drewN | apply below_drew1) | exact HB.out)) hb); clear HO_5; clear HB; have HO_5 := n0_; have HO112 := n1_; have HB := n2_; clear n0_ n1_ n2_; (try clear hb); (try clear hb2); (try clear hk); (try clear hi); (try clear ho0); have hcv41 := own_string (P := Try.prog) Try.underlying23 Try.underlying5 Try.underlying9 (Kd.own_of_R HO112.out); have hcv42 := Kd.C_string (P := Try.prog) (A := A0) (c := c0) Try.underlying23 Try.underlying5 Try.underlying9 (Kd.C_below HR0.out HB.out))))
                        go_ret2
                        exact ⟨_, by first | rfl | (simp [errW_none, errW_some] <;> rfl) | (simp only [← hji6]; first | rfl | (simp [errW_none, errW_some] <;> rfl)) | (simp [*, errW_none, errW_some] <;> rfl), by first | exact Kd.R_nil _ _ _ _ _ | exact Kd.N_nil _ _ _ _ _ | exact Kd.V_nil _ _ _ _ _ | exact Kd.Q_nil _ _ _ _ _ | exact Kd.S_nil _ _ _ _ _, by repeat (first | (with_reducible first | exact HB.out | apply below_alloc | apply pw_below_drewN | apply below_drew1) | exact HB.out)⟩
                    · rw [if_neg c33] at H
                      have c33b0 : (t110 == 0) = false := beq_eq_false_iff_ne.mpr c33
                      have c33b1 : (t110 != 0) = true := bne_iff_ne.mpr c33
                      simp only [Option.some.injEq, Prod.mk.injEq] at H
                      obtain ⟨rfl, rfl⟩ := H
                      obtain ⟨Ao43, co43, eo43⟩ := Kd.R_slice HO_5.out
                      subst eo43
                      go_wp2_with (first | (go_at_call 12; (with_reducible refine (Go.Proofs.Ytonhmjodgomeiaa.Ix.Gv.rput.calls _ _ x5_2 t109 t110 _ ?side1 ?side2 A32.out).mono ?_); (case side1 => repeat (first | exact (Kd.R_reads' HO_5.out).2.2 | (with_reducible refine Kd.C_alloc ?_ _) | (with_reducible refine Kd.C_drewN ?_ _) | (with_reducible refine Kd.C_drew ?_))); (case side2 => exact (Kd.R_reads' HO_5.out).2.1); rintro e w44 ⟨v111, rfl, ho0, hb⟩; have n0_ := Aside0.mk (Kd.R_below (by (with_reducible repeat (first | apply Kd.R_alloc | apply Kd.R_drewN | apply Kd.R_drew)); exact HO_5.out) hb); have n1_ := Aside0.mk (Kd.R_lower ho0 (below_size (by repeat (first | (with_reducible first | exact HB.out | apply below_alloc | apply pw_below_drewN | apply below_drew1) | exact HB.out)))); have n2_ := Aside0.mk (below_step (by repeat (first | (with_reducible first | exact HB.out | apply below_alloc | apply pw_below_drewN | apply below_drew1) | exact HB.out)) hb); clear HO_5; clear HB; have HO_5 := n0_; have HO112 := n1_; have HB := n2_; clear n0_ n1_ n2_; (try clear hb); (try clear hb2); (try clear hk); (try clear hi); (try clear ho0)))
                      repeat (go_quiet (first | (go_at_call 12; (with_reducible refine (Go.Proofs.Ytonhmjodgomeiaa.Ix.Gv.rput.calls _ _ x5_2 t109 t110 _ ?side1 ?side2 A32.out).mono ?_); (case side1 => repeat (first | exact (Kd.R_reads' HO_5.out).2.2 | (with_reducible refine Kd.C_alloc ?_ _) | (with_reducible refine Kd.C_drewN ?_ _) | (with_reducible refine Kd.C_drew ?_))); (case side2 => exact (Kd.R_reads' HO_5.out).2.1); rintro e w44 ⟨v111, rfl, ho0, hb⟩; have n0_ := Aside0.mk (Kd.R_below (by (with_reducible repeat (first | apply Kd.R_alloc | apply Kd.R_drewN | apply Kd.R_drew)); exact HO_5.out) hb); have n1_ := Aside0.mk (Kd.R_lower ho0 (below_size (by repeat (first | (with_reducible first | exact HB.out | apply below_alloc | apply pw_below_drewN | apply below_drew1) | exact HB.out)))); have n2_ := Aside0.mk (below_step (by repeat (first | (with_reducible first | exact HB.out | apply below_alloc | apply pw_below_drewN | apply below_drew1) | exact HB.out)) hb); clear HO_5; clear HB; have HO_5 := n0_; have HO112 := n1_; have HB := n2_; clear n0_ n1_ n2_; (try clear hb); (try clear hb2); (try clear hk); (try clear hi); (try clear ho0))); try go_wp2_with (first | (go_at_call 12; (with_reducible refine (Go.Proofs.Ytonhmjodgomeiaa.Ix.Gv.rput.calls _ _ x5_2 t109 t110 _ ?side1 ?side2 A32.out).mono ?_); (case side1 => repeat (first | exact (Kd.R_reads' HO_5.out).2.2 | (with_reducible refine Kd.C_alloc ?_ _) | (with_reducible refine Kd.C_drewN ?_ _) | (with_reducible refine Kd.C_drew ?_))); (case side2 => exact (Kd.R_reads' HO_5.out).2.1); rintro e w44 ⟨v111, rfl, ho0, hb⟩; have n0_ := Aside0.mk (Kd.R_below (by (with_reducible repeat (first | apply Kd.R_alloc | apply Kd.R_drewN | apply Kd.R_drew)); exact HO_5.out) hb); have n1_ := Aside0.mk (Kd.R_lower ho0 (below_size (by repeat (first | (with_reducible first | exact HB.out | apply below_alloc | apply pw_below_drewN | apply below_drew1) | exact HB.out)))); have n2_ := Aside0.mk (below_step (by repeat (first | (with_reducible first | exact HB.out | apply below_alloc | apply pw_below_drewN | apply below_drew1) | exact HB.out)) hb); clear HO_5; clear HB; have HO_5 := n0_; have HO112 := n1_; have HB := n2_; clear n0_ n1_ n2_; (try clear hb); (try clear hb2); (try clear hk); (try clear hi); (try clear ho0))))
                      go_ret2
                      exact ⟨_, by first | rfl | (simp [errW_none, errW_some] <;> rfl) | (simp only [← hji6]; first | rfl | (simp [errW_none, errW_some] <;> rfl)) | (simp [*, errW_none, errW_some] <;> rfl), by first | exact Kd.R_nil _ _ _ _ _ | exact Kd.N_nil _ _ _ _ _ | exact Kd.V_nil _ _ _ _ _ | exact Kd.Q_nil _ _ _ _ _ | exact Kd.S_nil _ _ _ _ _, by repeat (first | (with_reducible first | exact HB.out | apply below_alloc | apply pw_below_drewN | apply below_drew1) | exact HB.out)⟩
            · rw [if_neg c8] at H
              exact absurd H (by simp)
          · rw [if_neg c7] at H
            exact absurd H (by simp)

/-! ### sacristyref08_Find: function 14 -/
noncomputable def sacristyref08_Find.l0 : Nat → ByteArray → List ByteArray → Int → Option (Int × Bool)
  | 0, _, _, _ => none
  | k + 1, x1, x6, x8 => if x8 < (x6.length : Int) then (if 0 ≤ x8 then (if (rdOf ByteArray.empty x6 x8).toList = x1.toList then (some (x8, true)) else (sacristyref08_Find.l0 k x1 x6 (wrap64 (x8 + 1)))) else (none)) else (some (0, false))
noncomputable def sacristyref08_Find.f (k : Nat) (l0 : List Int) (a1 : ByteArray) : Option (Int × Bool) := (sacristyref08_names.f k l0).bind fun bt113 => (sacristyref08_Find.l0 k a1 bt113.1 0)
theorem sacristyref08_Find.mono_l : ∀ k, (∀ y0 y1 y2, LeO (sacristyref08_Find.l0 k y0 y1 y2) (sacristyref08_Find.l0 (k + 1) y0 y1 y2))
  | 0 => fun _ _ _ r h => by simp [sacristyref08_Find.l0] at h
  | k + 1 => by
    have ih0 := sacristyref08_Find.mono_l k
    · intro y0 y1 y2
      unfold sacristyref08_Find.l0
      repeat' first
      | (with_reducible exact ih0 _ _ _)
      | (with_reducible exact sacristyref08_names.mono _ _)
      | (with_reducible exact LeO.refl _)
      | (with_reducible exact LeO.none _)
      | (with_reducible refine LeO.ite ?_ ?_)
      | (with_reducible refine LeO.bind ?_ (fun _ => ?_))
      | exact ih0 _ _ _
      | exact sacristyref08_names.mono _ _
      | exact LeO.none _
      | refine LeO.ite ?_ ?_
      | refine LeO.bind ?_ (fun _ => ?_)
theorem sacristyref08_Find.mono : ∀ a0 a1 k, LeO (sacristyref08_Find.f k a0 a1) (sacristyref08_Find.f (k + 1) a0 a1) := by
  intro a0 a1 k
  have ih0 := sacristyref08_Find.mono_l k
  unfold sacristyref08_Find.f
  repeat' first
      | (with_reducible exact ih0 _ _ _)
      | (with_reducible exact sacristyref08_names.mono _ _)
      | (with_reducible exact LeO.refl _)
      | (with_reducible exact LeO.none _)
      | (with_reducible refine LeO.ite ?_ ?_)
      | (with_reducible refine LeO.bind ?_ (fun _ => ?_))
      | exact ih0 _ _ _
      | exact sacristyref08_names.mono _ _
      | exact LeO.none _
      | refine LeO.ite ?_ ?_
      | refine LeO.bind ?_ (fun _ => ?_)
set_option maxHeartbeats 8000000 in
set_option maxRecDepth 100000 in
theorem sacristyref08_Find.calls (k : Nat) (A0 : Option Addr) (c0 : Nat) (l0 : List Int) (a1 : ByteArray) (r1 : Int) (r2 : Bool) (w : World) (hr0 : Kd.C (Kd.int .u8) w A0 l0.length l0) (hc0 : l0.length ≤ c0) (h : sacristyref08_Find.f k l0 a1 = some (r1, r2)) :
    Calls Try.prog 14 #[.slice A0 l0.length c0, .string a1] w fun e w' => e = .returned (.tuple #[.int .i64 r1, .bool r2]) ∧ Below w.heap.size w w' := by
  have HR0 := Aside0.mk hr0
  have HC0 := Aside0.mk hc0
  clear hr0 hc0
  have HB := Aside0.mk (Below.refl w.heap.size w)
  have H : ((sacristyref08_names.f k l0).bind fun bt113 => (sacristyref08_Find.l0 k a1 bt113.1 0)) = some (r1, r2) := h
  clear h
  replace H := Option.bind_eq_some_iff.mp H
  obtain ⟨⟨t113, t114⟩, A30, H⟩ := H
  replace H : (sacristyref08_Find.l0 k a1 t113 0) = some (r1, r2) := H
  have A3 := Aside0.mk A30
  clear A30
  have H' := Aside0.mk H
  clear H
  go_enter Try.func14, Try.ntmps14
  go_wp2_with (first | ((with_reducible refine gate_callee (f := 34) rfl ?_); refine goesL_ (some 11) rfl rfl Try.func34 (by kernel_rfl) rfl #[.slice A0 l0.length c0] rfl (by (try simp only [List.map_toArray, List.map_cons, List.map_nil]); first | done | rfl | (simp only [List.length_drop, List.length_take]; rfl)) ?_; (with_reducible refine (sacristyref08_names.calls k _ _ l0 t113 t114 _ ?side1 ?side2 A3.out).mono ?_); (case side1 => repeat (first | exact HR0.out | (with_reducible refine Kd.C_alloc ?_ _) | (with_reducible refine Kd.C_drewN ?_ _) | (with_reducible refine Kd.C_drew ?_))); (case side2 => exact HC0.out); rintro e w4 ⟨v115, rfl, ho0, hb⟩; refine ⟨_, rfl, ?_⟩; have n0_ := Aside0.mk (Kd.R_lower ho0 (below_size (by repeat (first | (with_reducible first | exact HB.out | apply below_alloc | apply pw_below_drewN | apply below_drew1) | exact HB.out)))); have n1_ := Aside0.mk (below_step (by repeat (first | (with_reducible first | exact HB.out | apply below_alloc | apply pw_below_drewN | apply below_drew1) | exact HB.out)) hb); clear HB; have HO116 := n0_; have HB := n1_; clear n0_ n1_; (try clear hb); (try clear hb2); (try clear hk); (try clear hi); (try clear ho0)))
  go_loopg [8] k (fun kq v8 w' => ∃ (x8_1 : Int), v8 = .int .i64 x8_1 ∧ Aside0 (sacristyref08_Find.l0 kq a1 t113 x8_1 = some (r1, r2)) ∧ Aside0 (kq ≤ k) ∧ Aside0 (Kd.R Kd.string 9 w' w.heap.size (fun _ => True) v115 t113) ∧ Aside0 (Below w.heap.size w w'))
  case atStart => exact ⟨(0), (by first | rfl | (simp; done) | (simp [*]; done)), H', ⟨Nat.le_refl _⟩, ⟨by (with_reducible repeat (first | apply Kd.R_alloc | apply Kd.R_drewN | apply Kd.R_drew)); exact HO116.out⟩, ⟨by repeat (first | (with_reducible first | exact HB.out | apply below_alloc | apply pw_below_drewN | apply below_drew1) | exact HB.out)⟩⟩
  case round =>
    clear H'
    try clear c1
    try clear p2
    try clear c3
    obtain ⟨x8_1, rfl, HA, HK1, HO_6, HB⟩ := hrel
    cases gk with
    | zero => exact absurd HA.out (by simp [sacristyref08_Find.l0])
    | succ k1 =>
      have H := HA.out
      clear HA
      simp only [sacristyref08_Find.l0] at H
      by_cases c5 : x8_1 < (t113.length : Int)
      · rw [if_pos c5] at H
        have c5b0 : decide (x8_1 < (t113.length : Int)) = true := decide_eq_true c5
        clear c5
        by_cases c6 : 0 ≤ x8_1
        · rw [if_pos c6] at H
          have c6b0 : decide (0 ≤ x8_1) = true := decide_eq_true c6
          clear c6
          by_cases c7 : (rdOf ByteArray.empty t113 x8_1).toList = a1.toList
          · rw [if_pos c7] at H
            have c7b0 : ((rdOf ByteArray.empty t113 x8_1).toList == a1.toList) = true := beq_iff_eq.mpr c7
            have c7b1 : ((rdOf ByteArray.empty t113 x8_1).toList != a1.toList) = false := bne_eq_false_iff_eq.mpr c7
            clear c7
            simp only [Option.some.injEq, Prod.mk.injEq] at H
            obtain ⟨rfl, rfl⟩ := H
            obtain ⟨Ao8, co8, eo8⟩ := Kd.R_slice HO_6.out
            subst eo8
            have p117 : 0 ≤ (x8_1 : Int) := of_decide_eq_true (by first | (with_reducible assumption) | assumption)
            have q117 : x8_1 < (t113.length : Int) := of_decide_eq_true (by first | (with_reducible assumption) | assumption)
            obtain ⟨ad117, e117, hx117_0⟩ := Kd.at_string (Kd.R_reads' HO_6.out).2.2 x8_1 p117 q117
            cases e117
            replace p117 := eq_true p117
            replace q117 := eq_true q117
            go_wp2
            go_ret2
            exact ⟨by first | rfl | (simp [errW_none, errW_some] <;> rfl) | (simp [*, errW_none, errW_some] <;> rfl), by repeat (first | (with_reducible first | exact HB.out | apply below_alloc | apply pw_below_drewN | apply below_drew1) | exact HB.out)⟩
          · rw [if_neg c7] at H
            have c7b0 : ((rdOf ByteArray.empty t113 x8_1).toList == a1.toList) = false := beq_eq_false_iff_ne.mpr c7
            have c7b1 : ((rdOf ByteArray.empty t113 x8_1).toList != a1.toList) = true := bne_iff_ne.mpr c7
            have H' := Aside0.mk H
            clear H
            obtain ⟨Ao9, co9, eo9⟩ := Kd.R_slice HO_6.out
            subst eo9
            have p117 : 0 ≤ (x8_1 : Int) := of_decide_eq_true (by first | (with_reducible assumption) | assumption)
            have q117 : x8_1 < (t113.length : Int) := of_decide_eq_true (by first | (with_reducible assumption) | assumption)
            obtain ⟨ad117, e117, hx117_0⟩ := Kd.at_string (Kd.R_reads' HO_6.out).2.2 x8_1 p117 q117
            cases e117
            replace p117 := eq_true p117
            replace q117 := eq_true q117
            go_wp2
            go_roundg k1
            case measure => have := HK1.out; omega
            case rel => exact ⟨(wrap64 (x8_1 + 1)), (by first | rfl | (simp; done) | (simp [*]; done)), H', ⟨by have := HK1.out; omega⟩, ⟨by (with_reducible repeat (first | apply Kd.R_alloc | apply Kd.R_drewN | apply Kd.R_drew)); exact HO_6.out⟩, ⟨by repeat (first | (with_reducible first | exact HB.out | apply below_alloc | apply pw_below_drewN | apply below_drew1) | exact HB.out)⟩⟩
        · rw [if_neg c6] at H
          exact absurd H (by simp)
      · rw [if_neg c5] at H
        have c5b0 : decide (x8_1 < (t113.length : Int)) = false := decide_eq_false c5
        clear c5
        simp only [Option.some.injEq, Prod.mk.injEq] at H
        obtain ⟨rfl, rfl⟩ := H
        obtain ⟨Ao10, co10, eo10⟩ := Kd.R_slice HO_6.out
        subst eo10
        go_wp2
        go_ret2
        exact ⟨by first | rfl | (simp [errW_none, errW_some] <;> rfl) | (simp [*, errW_none, errW_some] <;> rfl), by repeat (first | (with_reducible first | exact HB.out | apply below_alloc | apply pw_below_drewN | apply below_drew1) | exact HB.out)⟩

/-! ### sacristyref08_Right: function 16 -/
noncomputable def sacristyref08_Right.f (k : Nat) (l0 : List Int) : Option (Bool) := (sacristyref08_names.f k l0).bind fun bt118 => (some bt118.2)
theorem sacristyref08_Right.mono : ∀ a0 k, LeO (sacristyref08_Right.f k a0) (sacristyref08_Right.f (k + 1) a0) := by
  intro a0 k
  unfold sacristyref08_Right.f
  repeat' first
      | (with_reducible exact sacristyref08_names.mono _ _)
      | (with_reducible exact LeO.refl _)
      | (with_reducible exact LeO.none _)
      | (with_reducible refine LeO.ite ?_ ?_)
      | (with_reducible refine LeO.bind ?_ (fun _ => ?_))
      | exact sacristyref08_names.mono _ _
      | exact LeO.none _
      | refine LeO.ite ?_ ?_
      | refine LeO.bind ?_ (fun _ => ?_)
set_option maxHeartbeats 8000000 in
set_option maxRecDepth 100000 in
theorem sacristyref08_Right.calls (k : Nat) (A0 : Option Addr) (c0 : Nat) (l0 : List Int) (r : Bool) (w : World) (hr0 : Kd.C (Kd.int .u8) w A0 l0.length l0) (hc0 : l0.length ≤ c0) (h : sacristyref08_Right.f k l0 = some r) :
    Calls Try.prog 16 #[.slice A0 l0.length c0] w fun e w' => e = .returned (.bool r) ∧ Below w.heap.size w w' := by
  have HR0 := Aside0.mk hr0
  have HC0 := Aside0.mk hc0
  clear hr0 hc0
  have HB := Aside0.mk (Below.refl w.heap.size w)
  have H : ((sacristyref08_names.f k l0).bind fun bt118 => (some bt118.2)) = some r := h
  clear h
  replace H := Option.bind_eq_some_iff.mp H
  obtain ⟨⟨t118, t119⟩, A20, H⟩ := H
  replace H : (some t119) = some r := H
  have A2 := Aside0.mk A20
  clear A20
  obtain rfl := Option.some.inj H
  go_enter Try.func16, Try.ntmps16
  go_wp2_with (first | ((with_reducible refine gate_callee (f := 34) rfl ?_); refine goesL_ (some 7) rfl rfl Try.func34 (by kernel_rfl) rfl #[.slice A0 l0.length c0] rfl (by (try simp only [List.map_toArray, List.map_cons, List.map_nil]); first | done | rfl | (simp only [List.length_drop, List.length_take]; rfl)) ?_; (with_reducible refine (sacristyref08_names.calls k _ _ l0 t118 t119 _ ?side1 ?side2 A2.out).mono ?_); (case side1 => repeat (first | exact HR0.out | (with_reducible refine Kd.C_alloc ?_ _) | (with_reducible refine Kd.C_drewN ?_ _) | (with_reducible refine Kd.C_drew ?_))); (case side2 => exact HC0.out); rintro e w3 ⟨v120, rfl, ho0, hb⟩; refine ⟨_, rfl, ?_⟩; have n0_ := Aside0.mk (Kd.R_lower ho0 (below_size (by repeat (first | (with_reducible first | exact HB.out | apply below_alloc | apply pw_below_drewN | apply below_drew1) | exact HB.out)))); have n1_ := Aside0.mk (below_step (by repeat (first | (with_reducible first | exact HB.out | apply below_alloc | apply pw_below_drewN | apply below_drew1) | exact HB.out)) hb); clear HB; have HO121 := n0_; have HB := n1_; clear n0_ n1_; (try clear hb); (try clear hb2); (try clear hk); (try clear hi); (try clear ho0)))
  go_ret
  exact ⟨by first | rfl | (simp [errW_none, errW_some] <;> rfl) | (simp [*, errW_none, errW_some] <;> rfl), by repeat (first | (with_reducible first | exact HB.out | apply below_alloc | apply pw_below_drewN | apply below_drew1) | exact HB.out)⟩

/-! ### sacristyref08_All: function 19 -/
noncomputable def sacristyref08_All.l0 : Nat → List Int → List ByteArray → Int → Option (List ByteArray)
  | 0, _, _, _ => none
  | k + 1, x0, x3, x4 => if (wrap64 (x4 + 66)) ≤ (x0.length : Int) then (if 0 ≤ x4 then (if x4 ≤ (wrap64 (x4 + 32)) then (if (wrap64 (x4 + 32)) ≤ (x0.length : Int) then ((Go.Proofs.Ytonhmjodgomeiaa.Ix.Gv.rtold.f ((x0.take ((wrap64 (x4 + 32)) : Int).toNat).drop (x4 : Int).toNat)).bind fun t124 => (if x3.length < 8796093022208 then (sacristyref08_All.l0 k x0 (x3 ++ [t124]) (wrap64 (x4 + 34))) else (none))) else (none)) else (none)) else (none)) else (some x3)
noncomputable def sacristyref08_All.f (k : Nat) (l0 : List Int) : Option (List ByteArray) := (sacristyref08_Right.f k l0).bind fun t122 => (if t122 = true then (sacristyref08_All.l0 k l0 ([] : List ByteArray) 512) else (some ([] : List ByteArray)))
theorem sacristyref08_All.mono_l : ∀ k, (∀ y0 y1 y2, LeO (sacristyref08_All.l0 k y0 y1 y2) (sacristyref08_All.l0 (k + 1) y0 y1 y2))
  | 0 => fun _ _ _ r h => by simp [sacristyref08_All.l0] at h
  | k + 1 => by
    have ih0 := sacristyref08_All.mono_l k
    · intro y0 y1 y2
      unfold sacristyref08_All.l0
      repeat' first
      | (with_reducible exact ih0 _ _ _)
      | (with_reducible exact sacristyref08_Right.mono _ _)
      | (with_reducible exact LeO.refl _)
      | (with_reducible exact LeO.none _)
      | (with_reducible refine LeO.ite ?_ ?_)
      | (with_reducible refine LeO.bind ?_ (fun _ => ?_))
      | exact ih0 _ _ _
      | exact sacristyref08_Right.mono _ _
      | exact LeO.none _
      | refine LeO.ite ?_ ?_
      | refine LeO.bind ?_ (fun _ => ?_)
theorem sacristyref08_All.mono : ∀ a0 k, LeO (sacristyref08_All.f k a0) (sacristyref08_All.f (k + 1) a0) := by
  intro a0 k
  have ih0 := sacristyref08_All.mono_l k
  unfold sacristyref08_All.f
  repeat' first
      | (with_reducible exact ih0 _ _ _)
      | (with_reducible exact sacristyref08_Right.mono _ _)
      | (with_reducible exact LeO.refl _)
      | (with_reducible exact LeO.none _)
      | (with_reducible refine LeO.ite ?_ ?_)
      | (with_reducible refine LeO.bind ?_ (fun _ => ?_))
      | exact ih0 _ _ _
      | exact sacristyref08_Right.mono _ _
      | exact LeO.none _
      | refine LeO.ite ?_ ?_
      | refine LeO.bind ?_ (fun _ => ?_)
set_option maxHeartbeats 8000000 in
set_option maxRecDepth 100000 in
theorem sacristyref08_All.calls (k : Nat) (A0 : Option Addr) (c0 : Nat) (l0 : List Int) (r : List ByteArray) (w : World) (hr0 : Kd.C (Kd.int .u8) w A0 l0.length l0) (hc0 : l0.length ≤ c0) (h : sacristyref08_All.f k l0 = some r) :
    Calls Try.prog 19 #[.slice A0 l0.length c0] w fun e w' => ∃ v0_ : Value, e = .returned (v0_) ∧ Kd.R Kd.string 9 w' w.heap.size (fun _ => True) v0_ r ∧ Below w.heap.size w w' := by
  have HR0 := Aside0.mk hr0
  have HC0 := Aside0.mk hc0
  clear hr0 hc0
  have HB := Aside0.mk (Below.refl w.heap.size w)
  have H : ((sacristyref08_Right.f k l0).bind fun t122 => (if t122 = true then (sacristyref08_All.l0 k l0 ([] : List ByteArray) 512) else (some ([] : List ByteArray)))) = some r := h
  clear h
  replace H := Option.bind_eq_some_iff.mp H
  obtain ⟨t122, A20, H⟩ := H
  replace H : (if t122 = true then (sacristyref08_All.l0 k l0 ([] : List ByteArray) 512) else (some ([] : List ByteArray))) = some r := H
  have A2 := Aside0.mk A20
  clear A20
  by_cases c3 : t122 = true
  · subst c3
    have H1 : (sacristyref08_All.l0 k l0 ([] : List ByteArray) 512) = some r := by rw [if_pos rfl] at H; exact H
    clear H
    have H := H1
    clear H1
    have H' := Aside0.mk H
    clear H
    go_enter Try.func19, Try.ntmps19
    go_wp2_with (first | ((with_reducible refine gate_callee (f := 16) rfl ?_); refine goesL_ (some 6) rfl rfl Try.func16 (by kernel_rfl) rfl #[.slice A0 l0.length c0] rfl (by (try simp only [List.map_toArray, List.map_cons, List.map_nil]); first | done | rfl | (simp only [List.length_drop, List.length_take]; rfl)) ?_; (with_reducible refine (sacristyref08_Right.calls k _ _ l0 true _ ?side1 ?side2 A2.out).mono ?_); (case side1 => repeat (first | exact HR0.out | (with_reducible refine Kd.C_alloc ?_ _) | (with_reducible refine Kd.C_drewN ?_ _) | (with_reducible refine Kd.C_drew ?_))); (case side2 => exact HC0.out); rintro e w4 ⟨rfl, hb⟩; refine ⟨_, rfl, ?_⟩; have n0_ := Aside0.mk (below_step (by repeat (first | (with_reducible first | exact HB.out | apply below_alloc | apply pw_below_drewN | apply below_drew1) | exact HB.out)) hb); clear HB; have HB := n0_; clear n0_; (try clear hb); (try clear hb2); (try clear hk); (try clear hi)))
    go_loopg [3, 4] k (fun kq v3 v4 w' => ∃ (x3_1 : List ByteArray) (x4_1 : Int), v4 = .int .i64 x4_1 ∧ Aside0 (sacristyref08_All.l0 kq l0 x3_1 x4_1 = some r) ∧ Aside0 (kq ≤ k) ∧ Aside0 (Kd.R Kd.string 9 w' w.heap.size (fun _ => True) v3 x3_1) ∧ Aside0 (Below w.heap.size w w'))
    case atStart => exact ⟨(([] : List ByteArray)), (512), (by first | rfl | (simp; done) | (simp [*]; done)), H', ⟨Nat.le_refl _⟩, ⟨by first | exact Kd.R_nil _ _ _ _ _ | exact Kd.N_nil _ _ _ _ _ | exact Kd.V_nil _ _ _ _ _ | exact Kd.Q_nil _ _ _ _ _ | exact Kd.S_nil _ _ _ _ _⟩, ⟨by repeat (first | (with_reducible first | exact HB.out | apply below_alloc | apply pw_below_drewN | apply below_drew1) | exact HB.out)⟩⟩
    case round =>
      clear H'
      try clear c1
      try clear p2
      try clear c3
      obtain ⟨x3_1, x4_1, rfl, HA, HK1, HO_3, HB⟩ := hrel
      cases gk with
      | zero => exact absurd HA.out (by simp [sacristyref08_All.l0])
      | succ k1 =>
        have H := HA.out
        clear HA
        simp only [sacristyref08_All.l0] at H
        by_cases c5 : (wrap64 (x4_1 + 66)) ≤ (l0.length : Int)
        · rw [if_pos c5] at H
          have c5b0 : decide ((wrap64 (x4_1 + 66)) ≤ (l0.length : Int)) = true := decide_eq_true c5
          clear c5
          by_cases c6 : 0 ≤ x4_1
          · rw [if_pos c6] at H
            have c6b0 := eq_true c6
            have c6b1 : decide (0 ≤ x4_1) = true := decide_eq_true c6
            clear c6
            by_cases c7 : x4_1 ≤ (wrap64 (x4_1 + 32))
            · rw [if_pos c7] at H
              have c7b0 := eq_true c7
              have c7b1 : decide (x4_1 ≤ (wrap64 (x4_1 + 32))) = true := decide_eq_true c7
              by_cases c8 : (wrap64 (x4_1 + 32)) ≤ (l0.length : Int)
              · rw [if_pos c8] at H
                have c8b0 := eq_true c8
                have c8b1 : decide ((wrap64 (x4_1 + 32)) ≤ (l0.length : Int)) = true := decide_eq_true c8
                replace H := Option.bind_eq_some_iff.mp H
                obtain ⟨t124, A90, H⟩ := H
                replace H : (if x3_1.length < 8796093022208 then (sacristyref08_All.l0 k1 l0 (x3_1 ++ [t124]) (wrap64 (x4_1 + 34))) else (none)) = some r := H
                have A9 := Aside0.mk A90
                clear A90
                by_cases c10 : x3_1.length < 8796093022208
                · rw [if_pos c10] at H
                  have LMc10 := Aside0.mk c10
                  clear c10
                  obtain ⟨y125, hy125⟩ : ∃ y_ : List ByteArray, y_ = (x3_1 ++ [t124]) := ⟨_, rfl⟩
                  replace H : (sacristyref08_All.l0 k1 l0 y125 (wrap64 (x4_1 + 34))) = some r := by first | (rw [hy125]; with_reducible exact H) | (have H2_ := (Option.bind_some _ _).symm.trans H; rw [hy125]; with_reducible exact H2_) | (have H2_ := (Option.bind_some _ _).symm.trans H; with_reducible exact H2_) | with_reducible exact H | (rw [hy125]; exact H) | exact H
                  have Ny125 := Aside0.mk hy125
                  clear hy125
                  have H' := Aside0.mk H
                  clear H
                  obtain ⟨i011, hi011, _, hsz11, _⟩ := info_parts info5
                  obtain ⟨A11, hcut11, hA11, hC11⟩ := print_mid_of (P := Try.prog) (Value.int .u8) 0 23 5 .i64 .i64 Try.underlying23 hi011 hsz11 A0 c0 l0 x4_1 (wrap64 (x4_1 + 32)) (of_decide_eq_true (by first | (with_reducible assumption) | assumption)) (by first | omega | exact of_decide_eq_true (by first | (with_reducible assumption) | assumption)) (of_decide_eq_true (by first | (with_reducible assumption) | assumption)) HC0.out
                  have HR123 := Aside0.mk (Kd.C_of_reads (h1 := fun _ => rfl) (hA11 _ (Kd.reads_of_C HR0.out)))
                  have HC123 := Aside0.mk hC11
                  clear hA11 hC11 hi011 hsz11
                  go_wp2_with (first | ((with_reducible refine gate_callee (f := 37) rfl ?_); refine goesL_ (some 21) rfl rfl Try.func37 (by kernel_rfl) rfl #[.slice A11 ((l0.take ((wrap64 (x4_1 + 32)) : Int).toNat).drop (x4_1 : Int).toNat).length (c0 - x4_1.toNat)] rfl (by (try simp only [List.map_toArray, List.map_cons, List.map_nil]); first | done | (rw [show ((l0.take ((wrap64 (x4_1 + 32)) : Int).toNat).drop (x4_1 : Int).toNat).length = ((wrap64 (x4_1 + 32)).toNat - x4_1.toNat) from (by rw [List.length_drop, List.length_take]; have h_ : ((wrap64 (x4_1 + 32)) : Int) ≤ (l0.length : Int) := of_decide_eq_true (by first | (with_reducible assumption) | assumption); omega)] <;> rfl) | rfl | (simp only [List.length_drop, List.length_take]; rfl)) ?_; (with_reducible refine (Go.Proofs.Ytonhmjodgomeiaa.Ix.Gv.rtold.calls _ _ ((l0.take ((wrap64 (x4_1 + 32)) : Int).toNat).drop (x4_1 : Int).toNat) t124 _ ?side1 ?side2 A9.out).mono ?_); (case side1 => repeat (first | exact (Kd.C_below HR123.out HB.out) | (with_reducible refine Kd.C_alloc ?_ _) | (with_reducible refine Kd.C_drewN ?_ _) | (with_reducible refine Kd.C_drew ?_))); (case side2 => exact HC123.out); rintro e w12 ⟨rfl, hb⟩; refine ⟨_, rfl, ?_⟩; have n0_ := Aside0.mk (Kd.R_below (by (with_reducible repeat (first | apply Kd.R_alloc | apply Kd.R_drewN | apply Kd.R_drew)); exact HO_3.out) hb); have n1_ := Aside0.mk (below_step (by repeat (first | (with_reducible first | exact HB.out | apply below_alloc | apply pw_below_drewN | apply below_drew1) | exact HB.out)) hb); clear HO_3; clear HB; have HO_3 := n0_; have HB := n1_; clear n0_ n1_; (try clear hb); (try clear hb2); (try clear hk); (try clear hi)) | ((with_reducible refine gate_builtin (b := .append) (xs := #[.tmp 15, .tmp 22]) rfl ?_); at_builtin; refine Kd.R_append Kd.string (w0 := w) w.heap.size rfl (.tmp 15) (.tmp 22) 22 9 (.string ⟨#[]⟩) 16 rfl Try.underlying22 info9 rfl (by decide) (by omega) u3 x3_1 t124 [.string t124] (fun _ => True) (fun _ => False) rfl rfl ?aP (fun _ hk => hk.elim) ?aF ?aO ?aB ?aS ?aL ?_; (case aP => exact rfl); (case aB => exact (by repeat (first | (with_reducible first | exact HB.out | apply below_alloc | apply pw_below_drewN | apply below_drew1) | exact HB.out))); (case aF => exact (fun _ _ => trivial)); (case aO => exact (by (with_reducible repeat (first | apply Kd.R_alloc | apply Kd.R_drewN | apply Kd.R_drew)); exact HO_3.out)); (case aS => exact (below_size (by repeat (first | (with_reducible first | exact HB.out | apply below_alloc | apply pw_below_drewN | apply below_drew1) | exact HB.out)))); (case aL => have := LMc10.out; omega); intro v126 w13 ho hb hg hat; rw [← Ny125.out] at ho; have n0_ := Aside0.mk (hb); have n1_ := Aside0.mk (ho); clear HB; clear HO_3; have HB := n0_; have HO127 := n1_; clear n0_ n1_; clear ho hb hg hat))
                  go_roundg k1
                  case measure => have := HK1.out; omega
                  case rel => exact ⟨(y125), (wrap64 (x4_1 + 34)), (by first | rfl | (simp; done) | (simp [*]; done)), H', ⟨by have := HK1.out; omega⟩, ⟨by (with_reducible repeat (first | apply Kd.R_alloc | apply Kd.R_drewN | apply Kd.R_drew)); exact HO127.out⟩, ⟨by repeat (first | (with_reducible first | exact HB.out | apply below_alloc | apply pw_below_drewN | apply below_drew1) | exact HB.out)⟩⟩
                · rw [if_neg c10] at H
                  exact absurd H (by simp)
              · rw [if_neg c8] at H
                exact absurd H (by simp)
            · rw [if_neg c7] at H
              exact absurd H (by simp)
          · rw [if_neg c6] at H
            exact absurd H (by simp)
        · rw [if_neg c5] at H
          have c5b0 : decide ((wrap64 (x4_1 + 66)) ≤ (l0.length : Int)) = false := decide_eq_false c5
          clear c5
          obtain rfl := Option.some.inj H
          go_wp2
          go_ret
          exact ⟨_, by first | rfl | (simp [errW_none, errW_some] <;> rfl) | (simp [*, errW_none, errW_some] <;> rfl), by (with_reducible repeat (first | apply Kd.R_alloc | apply Kd.R_drewN | apply Kd.R_drew)); exact HO_3.out, by repeat (first | (with_reducible first | exact HB.out | apply below_alloc | apply pw_below_drewN | apply below_drew1) | exact HB.out)⟩
  · replace c3 := Bool.eq_false_iff.mpr c3
    subst c3
    have H1 : (some ([] : List ByteArray)) = some r := by rw [if_neg (show ¬ (false = true) by decide)] at H; exact H
    clear H
    have H := H1
    clear H1
    obtain rfl := Option.some.inj H
    go_enter Try.func19, Try.ntmps19
    go_wp2_with (first | ((with_reducible refine gate_callee (f := 16) rfl ?_); refine goesL_ (some 6) rfl rfl Try.func16 (by kernel_rfl) rfl #[.slice A0 l0.length c0] rfl (by (try simp only [List.map_toArray, List.map_cons, List.map_nil]); first | done | rfl | (simp only [List.length_drop, List.length_take]; rfl)) ?_; (with_reducible refine (sacristyref08_Right.calls k _ _ l0 false _ ?side1 ?side2 A2.out).mono ?_); (case side1 => repeat (first | exact HR0.out | (with_reducible refine Kd.C_alloc ?_ _) | (with_reducible refine Kd.C_drewN ?_ _) | (with_reducible refine Kd.C_drew ?_))); (case side2 => exact HC0.out); rintro e w14 ⟨rfl, hb⟩; refine ⟨_, rfl, ?_⟩; have n0_ := Aside0.mk (below_step (by repeat (first | (with_reducible first | exact HB.out | apply below_alloc | apply pw_below_drewN | apply below_drew1) | exact HB.out)) hb); clear HB; have HB := n0_; clear n0_; (try clear hb); (try clear hb2); (try clear hk); (try clear hi)))
    go_ret
    exact ⟨_, by first | rfl | (simp [errW_none, errW_some] <;> rfl) | (simp [*, errW_none, errW_some] <;> rfl), by first | exact Kd.R_nil _ _ _ _ _ | exact Kd.N_nil _ _ _ _ _ | exact Kd.V_nil _ _ _ _ _ | exact Kd.Q_nil _ _ _ _ _ | exact Kd.S_nil _ _ _ _ _, by repeat (first | (with_reducible first | exact HB.out | apply below_alloc | apply pw_below_drewN | apply below_drew1) | exact HB.out)⟩

end Go.Proofs.Ytonhmjodgomeiaa.PIndexTells
