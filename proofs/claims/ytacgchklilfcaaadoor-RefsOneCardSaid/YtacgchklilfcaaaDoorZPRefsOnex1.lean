/- Functions as the kit's printer (print.py) writes them, over contracts that this seat's own texts give. No condition but the reach of what comes in. -/
import Derived.Test.YtacgchklilfcaaaDoorZPRefsOnex0
namespace Go.Proofs.YtacgchklilfcaaaDoor.PRefsOne
open Go.Proofs.YtacgchklilfcaaaDoor.PRfBase Go.Proofs.YtacgchklilfcaaaDoor.PRfGet
open Go.RowKit Go.Proofs.YtacgchklilfcaaaDoorW.PrintWords Go.Proofs.YtacgchklilfcaaaDoorW.PrintLast Go.Proofs.YtacgchklilfcaaaDoorW.PrintMore
attribute [local go_sem] Go.Proofs.YtacgchklilfcaaaDoor.StrSem.leq_str Go.Proofs.YtacgchklilfcaaaDoor.StrSem.geq_str Go.Proofs.YtacgchklilfcaaaDoor.StrSem.gtr_str max2_int min2_int max_two min_two max_three min_three max_four min_four   -- for this text's walks alone
set_option linter.unusedVariables false
set_option linter.unusedSimpArgs false
mutual
noncomputable def sacristylaw09_RefsOne.j0 : Nat → List (S40) → List (S38) → Bool → Bool → Option (Bool)
  | 0, _, _, _, _ => none
  | k + 1, x0, x1, x5, x20 => if x20 = true then (some x5) else ((Go.Proofs.YtacgchklilfcaaaDoor.Rf.Gv.apply.f x0 x1).bind fun bt104 => (sacristylaw09_RefsOne.l0 k x1 x5 bt104.1 bt104.2.1 x0 0))
noncomputable def sacristylaw09_RefsOne.l0 : Nat → List (S38) → Bool → List (S40) → Int → List (S40) → Int → Option (Bool)
  | 0, _, _, _, _, _, _ => none
  | k + 1, x1, x5, x6, x7, x9, x10 => if x10 < (x1.length : Int) then (if 0 ≤ x10 then (if x10 ≤ (wrap64 (x10 + 1)) then (if (wrap64 (x10 + 1)) ≤ (x1.length : Int) then ((Go.Proofs.YtacgchklilfcaaaDoor.Rf.Gv.apply.f x9 ((x1.take ((wrap64 (x10 + 1)) : Int).toNat).drop (x10 : Int).toNat)).bind fun bt113 => (if bt113.2.1 = 0 then (sacristylaw09_RefsOne.l0 k x1 x5 x6 x7 bt113.1 (wrap64 (x10 + 1))) else (some x5))) else (none)) else (none)) else (none)) else (if x5 = true then (if x7 = 0 then ((Go.Proofs.YtacgchklilfcaaaDoor.PRfBase.sacristyref09_Same.f k x6 x9).bind fun t118 => (if t118 = true then (some true) else (if (x1.length : Int) = 0 then (some true) else (if (x1.length : Int) > 16 then (some true) else (some (x7 == 1)))))) else (if (x1.length : Int) = 0 then (some true) else (if (x1.length : Int) > 16 then (some true) else (some (x7 == 1))))) else (some false))
end
noncomputable def sacristylaw09_RefsOne.f (k : Nat) (l0 : List (S40)) (l1 : List (S38)) : Option (Bool) := (Go.Proofs.YtacgchklilfcaaaDoor.Rf.Gv.head.f).bind fun t101 => ((Go.Proofs.YtacgchklilfcaaaDoor.PRfBase.sacristylaw09_Great.f k l0).bind fun t102 => (if t102 = true then (sacristylaw09_RefsOne.j0 k l0 l1 t101 true) else ((Go.Proofs.YtacgchklilfcaaaDoor.PRfBase.sacristylaw09_GreatUpdates.f k l1).bind fun t103 => (sacristylaw09_RefsOne.j0 k l0 l1 t101 t103))))
set_option maxHeartbeats 8000000 in
set_option maxRecDepth 100000 in
theorem sacristylaw09_RefsOne.calls (k : Nat) (P0_ : Nat → Prop) (A0 : Option Addr) (c0 : Nat) (l0 : List (S40)) (A1 : Option Addr) (c1 : Nat) (l1 : List (S38)) (r : Bool) (w : World) (hs0 : Kd.V k40 40 w w.heap.size (fun k_ => P0_ k_) (.slice A0 l0.length c0) l0) (hr1 : Kd.C k38 w A1 l1.length l1) (hc1 : l1.length ≤ c1) (h : sacristylaw09_RefsOne.f k l0 l1 = some r) :
    Calls Tryd.prog 8 #[.slice A0 l0.length c0, .slice A1 l1.length c1] w fun e w' => e = .returned (.bool r) ∧ Below w.heap.size w w' := by
  have HO0 := Aside0.mk (show Kd.V k40 40 w w.heap.size (fun k_ => (P0_ k_ ∨ w.heap.size ≤ k_)) (.slice A0 l0.length c0) l0 from Kd.V_mono hs0 (fun k_ hk => .inl hk))
  have HR1 := Aside0.mk hr1
  have HC1 := Aside0.mk hc1
  clear hr1 hc1
  have HB := Aside0.mk (Below.refl w.heap.size w)
  have H : ((Go.Proofs.YtacgchklilfcaaaDoor.Rf.Gv.head.f).bind fun t101 => ((Go.Proofs.YtacgchklilfcaaaDoor.PRfBase.sacristylaw09_Great.f k l0).bind fun t102 => (if t102 = true then (sacristylaw09_RefsOne.j0 k l0 l1 t101 true) else ((Go.Proofs.YtacgchklilfcaaaDoor.PRfBase.sacristylaw09_GreatUpdates.f k l1).bind fun t103 => (sacristylaw09_RefsOne.j0 k l0 l1 t101 t103))))) = some r := h
  clear h
  replace H := Option.bind_eq_some_iff.mp H
  obtain ⟨t101, A30, H⟩ := H
  replace H : ((Go.Proofs.YtacgchklilfcaaaDoor.PRfBase.sacristylaw09_Great.f k l0).bind fun t102 => (if t102 = true then (sacristylaw09_RefsOne.j0 k l0 l1 t101 true) else ((Go.Proofs.YtacgchklilfcaaaDoor.PRfBase.sacristylaw09_GreatUpdates.f k l1).bind fun t103 => (sacristylaw09_RefsOne.j0 k l0 l1 t101 t103)))) = some r := H
  have A3 := Aside0.mk A30
  clear A30
  have HC4 := Aside0.mk H
  clear H
  go_enter Tryd.func8, Tryd.ntmps8
  go_upto_region 2 with (first | ((with_reducible refine gate_callee (f := 9) rfl ?_); refine goesL_ (some 14) rfl rfl Tryd.func9 (by kernel_rfl) rfl #[] rfl (by (try simp only [List.map_toArray, List.map_cons, List.map_nil]); first | done | rfl | (simp only [List.length_drop, List.length_take]; rfl)) ?_; (with_reducible refine (Go.Proofs.YtacgchklilfcaaaDoor.Rf.Gv.head.calls  t101 _ A3.out).mono ?_); rintro e w5 ⟨rfl, hb⟩; refine ⟨_, rfl, ?_⟩; have n0_ := Aside0.mk (Kd.V_below (by (with_reducible repeat (first | apply Kd.V_alloc | apply Kd.V_drewN | apply Kd.V_drew)); exact HO0.out) hb); have n1_ := Aside0.mk (below_step (by repeat (first | (with_reducible first | exact HB.out | apply below_alloc | apply pw_below_drewN | apply below_drew1) | exact HB.out)) hb); clear HO0; clear HB; have HO0 := n0_; have HB := n1_; clear n0_ n1_; (try clear hb); (try clear hb2); (try clear hk); (try clear hi)))
  (try simp only [Act.put, List.setIfInBounds_toArray, List.set_cons_zero, List.set_cons_succ])
  go_cut [20] (fun v20 wc => ∃ (kq : Nat) (x20_3 : Bool), v20 = .bool x20_3 ∧ Aside0 (sacristylaw09_RefsOne.j0 kq l0 l1 t101 x20_3 = some r) ∧ Aside0 (kq ≤ k) ∧ Aside0 (Kd.V k40 40 wc w.heap.size (fun k_ => (P0_ k_ ∨ w.heap.size ≤ k_)) (.slice A0 l0.length c0) l0) ∧ Aside0 (Below w.heap.size w wc))
  case first =>
    have H := HC4.out
    clear HC4
    replace H := Option.bind_eq_some_iff.mp H
    obtain ⟨t102, A60, H⟩ := H
    replace H : (if t102 = true then (sacristylaw09_RefsOne.j0 k l0 l1 t101 true) else ((Go.Proofs.YtacgchklilfcaaaDoor.PRfBase.sacristylaw09_GreatUpdates.f k l1).bind fun t103 => (sacristylaw09_RefsOne.j0 k l0 l1 t101 t103))) = some r := H
    have A6 := Aside0.mk A60
    clear A60
    by_cases c7 : t102 = true
    · subst c7
      have H1 : (sacristylaw09_RefsOne.j0 k l0 l1 t101 true) = some r := by rw [if_pos rfl] at H; exact H
      clear H
      have H := H1
      clear H1
      have H' := Aside0.mk H
      clear H
      go_wp2_with (first | ((with_reducible refine gate_callee (f := 10) rfl ?_); refine goesL_ (some 16) rfl rfl Tryd.func10 (by kernel_rfl) rfl #[.slice A0 l0.length c0] rfl (by (try simp only [List.map_toArray, List.map_cons, List.map_nil]); first | done | rfl | (simp only [List.length_drop, List.length_take]; rfl)) ?_; (with_reducible refine (Go.Proofs.YtacgchklilfcaaaDoor.PRfBase.sacristylaw09_Great.calls k _ _ l0 true _ ?side1 ?side2 A6.out).mono ?_); (case side1 => repeat (first | exact (Kd.V_reads' HO0.out).2.2 | (with_reducible refine Kd.C_alloc ?_ _) | (with_reducible refine Kd.C_drewN ?_ _) | (with_reducible refine Kd.C_drew ?_))); (case side2 => exact (Kd.V_reads' HO0.out).2.1); rintro e w8 ⟨rfl, hb⟩; refine ⟨_, rfl, ?_⟩; have n0_ := Aside0.mk (Kd.V_below (by (with_reducible repeat (first | apply Kd.V_alloc | apply Kd.V_drewN | apply Kd.V_drew)); exact HO0.out) hb); have n1_ := Aside0.mk (below_step (by repeat (first | (with_reducible first | exact HB.out | apply below_alloc | apply pw_below_drewN | apply below_drew1) | exact HB.out)) hb); clear HO0; clear HB; have HO0 := n0_; have HB := n1_; clear n0_ n1_; (try clear hb); (try clear hb2); (try clear hk); (try clear hi)))
      go_meet
      case rel => exact ⟨_, (true), (by first | rfl | (simp; done) | (simp [*]; done)), H', ⟨by first | omega | exact Nat.le_refl _⟩, ⟨by (with_reducible repeat (first | apply Kd.V_alloc | apply Kd.V_drewN | apply Kd.V_drew)); exact HO0.out⟩, ⟨by repeat (first | (with_reducible first | exact HB.out | apply below_alloc | apply pw_below_drewN | apply below_drew1) | exact HB.out)⟩⟩
    · replace c7 := Bool.eq_false_iff.mpr c7
      subst c7
      have H1 : ((Go.Proofs.YtacgchklilfcaaaDoor.PRfBase.sacristylaw09_GreatUpdates.f k l1).bind fun t103 => (sacristylaw09_RefsOne.j0 k l0 l1 t101 t103)) = some r := by rw [if_neg (show ¬ (false = true) by decide)] at H; exact H
      clear H
      have H := H1
      clear H1
      replace H := Option.bind_eq_some_iff.mp H
      obtain ⟨t103, A90, H⟩ := H
      replace H : (sacristylaw09_RefsOne.j0 k l0 l1 t101 t103) = some r := H
      have A9 := Aside0.mk A90
      clear A90
      have H' := Aside0.mk H
      clear H
      go_wp2_with (first | ((with_reducible refine gate_callee (f := 10) rfl ?_); refine goesL_ (some 16) rfl rfl Tryd.func10 (by kernel_rfl) rfl #[.slice A0 l0.length c0] rfl (by (try simp only [List.map_toArray, List.map_cons, List.map_nil]); first | done | rfl | (simp only [List.length_drop, List.length_take]; rfl)) ?_; (with_reducible refine (Go.Proofs.YtacgchklilfcaaaDoor.PRfBase.sacristylaw09_Great.calls k _ _ l0 false _ ?side1 ?side2 A6.out).mono ?_); (case side1 => repeat (first | exact (Kd.V_reads' HO0.out).2.2 | (with_reducible refine Kd.C_alloc ?_ _) | (with_reducible refine Kd.C_drewN ?_ _) | (with_reducible refine Kd.C_drew ?_))); (case side2 => exact (Kd.V_reads' HO0.out).2.1); rintro e w10 ⟨rfl, hb⟩; refine ⟨_, rfl, ?_⟩; have n0_ := Aside0.mk (Kd.V_below (by (with_reducible repeat (first | apply Kd.V_alloc | apply Kd.V_drewN | apply Kd.V_drew)); exact HO0.out) hb); have n1_ := Aside0.mk (below_step (by repeat (first | (with_reducible first | exact HB.out | apply below_alloc | apply pw_below_drewN | apply below_drew1) | exact HB.out)) hb); clear HO0; clear HB; have HO0 := n0_; have HB := n1_; clear n0_ n1_; (try clear hb); (try clear hb2); (try clear hk); (try clear hi)) | (go_at_call 16; (with_reducible refine (Go.Proofs.YtacgchklilfcaaaDoor.PRfBase.sacristylaw09_GreatUpdates.calls k _ _ l1 t103 _ ?side1 ?side2 A9.out).mono ?_); (case side1 => repeat (first | exact (Kd.C_below HR1.out HB.out) | (with_reducible refine Kd.C_alloc ?_ _) | (with_reducible refine Kd.C_drewN ?_ _) | (with_reducible refine Kd.C_drew ?_))); (case side2 => exact HC1.out); rintro e w11 ⟨rfl, hb⟩; have n0_ := Aside0.mk (Kd.V_below (by (with_reducible repeat (first | apply Kd.V_alloc | apply Kd.V_drewN | apply Kd.V_drew)); exact HO0.out) hb); have n1_ := Aside0.mk (below_step (by repeat (first | (with_reducible first | exact HB.out | apply below_alloc | apply pw_below_drewN | apply below_drew1) | exact HB.out)) hb); clear HO0; clear HB; have HO0 := n0_; have HB := n1_; clear n0_ n1_; (try clear hb); (try clear hb2); (try clear hk); (try clear hi)))
      go_meet
      case rel => exact ⟨_, (t103), (by first | rfl | (simp; done) | (simp [*]; done)), H', ⟨by first | omega | exact Nat.le_refl _⟩, ⟨by (with_reducible repeat (first | apply Kd.V_alloc | apply Kd.V_drewN | apply Kd.V_drew)); exact HO0.out⟩, ⟨by repeat (first | (with_reducible first | exact HB.out | apply below_alloc | apply pw_below_drewN | apply below_drew1) | exact HB.out)⟩⟩
  case rest =>
    clear HC4
    try clear c1
    try clear p2
    try clear c7
    try clear c8
    try clear c9
    try clear c10
    obtain ⟨kq, x20_3, rfl, HA, HJ3, HO_0, HB⟩ := hcut
    cases kq with
    | zero => exact absurd HA.out (by simp [sacristylaw09_RefsOne.j0])
    | succ kj3 =>
      have H := HA.out
      clear HA
      simp only [sacristylaw09_RefsOne.j0] at H
      by_cases c12 : x20_3 = true
      · subst c12
        have H1 : (some t101) = some r := by rw [if_pos rfl] at H; exact H
        clear H
        have H := H1
        clear H1
        obtain rfl := Option.some.inj H
        go_wp2
        go_ret
        exact ⟨by first | rfl | (simp [errW_none, errW_some] <;> rfl) | (simp [*, errW_none, errW_some] <;> rfl), by repeat (first | (with_reducible first | exact HB.out | apply below_alloc | apply pw_below_drewN | apply below_drew1) | exact HB.out)⟩
      · replace c12 := Bool.eq_false_iff.mpr c12
        subst c12
        have H1 : ((Go.Proofs.YtacgchklilfcaaaDoor.Rf.Gv.apply.f l0 l1).bind fun bt104 => (sacristylaw09_RefsOne.l0 kj3 l1 t101 bt104.1 bt104.2.1 l0 0)) = some r := by rw [if_neg (show ¬ (false = true) by decide)] at H; exact H
        clear H
        have H := H1
        clear H1
        replace H := Option.bind_eq_some_iff.mp H
        obtain ⟨⟨t104, t107, t108⟩, A130, H⟩ := H
        replace H : (sacristylaw09_RefsOne.l0 kj3 l1 t101 t104 t107 l0 0) = some r := H
        have A13 := Aside0.mk A130
        clear A130
        have H' := Aside0.mk H
        clear H
        go_wp2_with (first | ((with_reducible refine gate_callee (f := 17) rfl ?_); refine goesL_ (some 25) rfl rfl Tryd.func17 (by kernel_rfl) rfl #[.slice A0 l0.length c0, .slice A1 l1.length c1] rfl (by (try simp only [List.map_toArray, List.map_cons, List.map_nil]); first | done | rfl | (simp only [List.length_drop, List.length_take]; rfl)) ?_; (with_reducible refine (Go.Proofs.YtacgchklilfcaaaDoor.Rf.Gv.apply.calls (fun k_ => (P0_ k_ ∨ w.heap.size ≤ k_)) _ _ l0 _ _ l1 t104 t107 t108 _ ?side1 ?side2 ?side3 A13.out).mono ?_); (case side1 => exact HO_0.out); (case side2 => repeat (first | exact (Kd.C_below HR1.out HB.out) | (with_reducible refine Kd.C_alloc ?_ _) | (with_reducible refine Kd.C_drewN ?_ _) | (with_reducible refine Kd.C_drew ?_))); (case side3 => exact HC1.out); rintro e w14 ⟨v105, rfl, ho0, hb⟩; refine ⟨_, rfl, ?_⟩; have n0_ := Aside0.mk (Kd.V_below (by (with_reducible repeat (first | apply Kd.V_alloc | apply Kd.V_drewN | apply Kd.V_drew)); exact HO_0.out) hb); have n1_ := Aside0.mk (Kd.V_lower (Kd.V_mono (ok' := fun k_ => (P0_ k_ ∨ w.heap.size ≤ k_)) ho0 (fun k_ hk_ => Or.elim hk_ (fun hs_ => hs_) (fun hn_ => (.inr (Nat.le_trans (below_size (by repeat (first | (with_reducible first | exact HB.out | apply below_alloc | apply pw_below_drewN | apply below_drew1) | exact HB.out))) hn_))))) (below_size (by repeat (first | (with_reducible first | exact HB.out | apply below_alloc | apply pw_below_drewN | apply below_drew1) | exact HB.out)))); have n2_ := Aside0.mk (below_step (by repeat (first | (with_reducible first | exact HB.out | apply below_alloc | apply pw_below_drewN | apply below_drew1) | exact HB.out)) hb); clear HO_0; clear HB; have HO_0 := n0_; have HO106 := n1_; have HB := n2_; clear n0_ n1_ n2_; (try clear hb); (try clear hb2); (try clear hk); (try clear hi); (try clear ho0)))
        go_loopg [9, 10] kj3 (fun kq v9 v10 w' => ∃ (x9_2 : List (S40)) (x10_2 : Int), v10 = .int .i64 x10_2 ∧ Aside0 (sacristylaw09_RefsOne.l0 kq l1 t101 t104 t107 x9_2 x10_2 = some r) ∧ Aside0 (kq ≤ kj3) ∧ Aside0 (Kd.V k40 40 w' w.heap.size (fun k_ => (P0_ k_ ∨ w.heap.size ≤ k_)) v105 t104) ∧ Aside0 (Kd.V k40 40 w' w.heap.size (fun k_ => (P0_ k_ ∨ w.heap.size ≤ k_)) v9 x9_2) ∧ Aside0 (Below w.heap.size w w'))
        case atStart => exact ⟨(l0), (0), (by first | rfl | (simp; done) | (simp [*]; done)), H', ⟨Nat.le_refl _⟩, ⟨by (with_reducible repeat (first | apply Kd.V_alloc | apply Kd.V_drewN | apply Kd.V_drew)); exact HO106.out⟩, ⟨by (with_reducible repeat (first | apply Kd.V_alloc | apply Kd.V_drewN | apply Kd.V_drew)); exact HO_0.out⟩, ⟨by repeat (first | (with_reducible first | exact HB.out | apply below_alloc | apply pw_below_drewN | apply below_drew1) | exact HB.out)⟩⟩
        case round =>
          clear H'
          try clear c1
          try clear p2
          try clear c7
          try clear c8
          try clear c9
          try clear c10
          try clear c12
          try clear p2
          obtain ⟨x9_2, x10_2, rfl, HA, HK2, HO_6, HO_9, HB⟩ := hrel
          cases gk with
          | zero => exact absurd HA.out (by simp [sacristylaw09_RefsOne.l0])
          | succ k2 =>
            have H := HA.out
            clear HA
            simp only [sacristylaw09_RefsOne.l0] at H
            by_cases c15 : x10_2 < (l1.length : Int)
            · rw [if_pos c15] at H
              have c15b0 : decide (x10_2 < (l1.length : Int)) = true := decide_eq_true c15
              clear c15
              by_cases c16 : 0 ≤ x10_2
              · rw [if_pos c16] at H
                have c16b0 := eq_true c16
                have c16b1 : decide (0 ≤ x10_2) = true := decide_eq_true c16
                clear c16
                by_cases c17 : x10_2 ≤ (wrap64 (x10_2 + 1))
                · rw [if_pos c17] at H
                  have c17b0 := eq_true c17
                  have c17b1 : decide (x10_2 ≤ (wrap64 (x10_2 + 1))) = true := decide_eq_true c17
                  by_cases c18 : (wrap64 (x10_2 + 1)) ≤ (l1.length : Int)
                  · rw [if_pos c18] at H
                    have c18b0 := eq_true c18
                    have c18b1 : decide ((wrap64 (x10_2 + 1)) ≤ (l1.length : Int)) = true := decide_eq_true c18
                    obtain ⟨y109, hy109⟩ : ∃ y_ : List (S38), y_ = ((l1.take ((wrap64 (x10_2 + 1)) : Int).toNat).drop (x10_2 : Int).toNat) := ⟨_, rfl⟩
                    replace H : ((Go.Proofs.YtacgchklilfcaaaDoor.Rf.Gv.apply.f x9_2 y109).bind fun bt113 => (if bt113.2.1 = 0 then (sacristylaw09_RefsOne.l0 k2 l1 t101 t104 t107 bt113.1 (wrap64 (x10_2 + 1))) else (some t101))) = some r := by first | (rw [hy109]; with_reducible exact H) | (have H2_ := (Option.bind_some _ _).symm.trans H; rw [hy109]; with_reducible exact H2_) | (have H2_ := (Option.bind_some _ _).symm.trans H; with_reducible exact H2_) | with_reducible exact H | (rw [hy109]; exact H) | exact H
                    have Ny109 := Aside0.mk hy109
                    clear hy109
                    replace H := Option.bind_eq_some_iff.mp H
                    obtain ⟨⟨t113, t116, t117⟩, A190, H⟩ := H
                    replace H : (if t116 = 0 then (sacristylaw09_RefsOne.l0 k2 l1 t101 t104 t107 t113 (wrap64 (x10_2 + 1))) else (some t101)) = some r := H
                    have A19 := Aside0.mk A190
                    clear A190
                    by_cases c20 : t116 = 0
                    · rw [if_pos c20] at H
                      have c20b0 : (t116 == 0) = true := beq_iff_eq.mpr c20
                      have c20b1 : (t116 != 0) = false := bne_eq_false_iff_eq.mpr c20
                      clear c20
                      have H' := Aside0.mk H
                      clear H
                      have q21 : ((wrap64 (x10_2 + 1)) : Int) ≤ ((l1.length : Int) : Int) := of_decide_eq_true (by first | (with_reducible assumption) | assumption)
                      obtain ⟨i021, hi021, _, hsz21, _⟩ := info_parts info38
                      have hroom21 : l1.length ≤ c1 := HC1.out
                      have hC21 : Kd.C k38 _ A1 l1.length l1 := HR1.out
                      have ql21 : (x10_2 : Int) ≤ ((wrap64 (x10_2 + 1)) : Int) := of_decide_eq_true (by first | (with_reducible assumption) | assumption)
                      have q021 : (0 : Int) ≤ (x10_2 : Int) := of_decide_eq_true (by first | (with_reducible assumption) | assumption)
                      have hcut21 := cut_mid (P := Tryd.prog) 31 38 .i64 .i64 Tryd.underlying31 hi021 3 hsz21 A1 l1.length c1 x10_2 (wrap64 (x10_2 + 1)) q021 ql21 q21 hroom21
                      have hr21 := Kd.C_mid (lo := (x10_2 : Int).toNat) (hi := ((wrap64 (x10_2 + 1)) : Int).toNat) (c := c1) hC21 (by omega) (by omega) hroom21
                      obtain ⟨A21, hA21⟩ : ∃ A_, A_ = (if c1 = (x10_2 : Int).toNat then A1 else (A1 : Option Addr).map (·.add ((x10_2 : Int).toNat * 3))) := ⟨_, rfl⟩
                      obtain ⟨c21, hc21⟩ : ∃ c_, c_ = c1 - (x10_2 : Int).toNat := ⟨_, rfl⟩
                      have hy21 : y109.length = ((wrap64 (x10_2 + 1)) : Int).toNat - (x10_2 : Int).toNat := (by rw [Ny109.out, List.length_drop, List.length_take] <;> omega)
                      rw [show ((l1).take ((wrap64 (x10_2 + 1)) : Int).toNat).drop (x10_2 : Int).toNat = y109 from Ny109.out.symm] at hr21
                      replace hr21 : Kd.C k38 _ A21 y109.length y109 := (by rw [hA21]; exact hr21)
                      rw [← hy21, ← hA21, ← hc21] at hcut21
                      have HR112 := Aside0.mk hr21
                      have HC112 := Aside0.mk (show y109.length ≤ c21 from by rw [hy21, hc21]; exact Nat.sub_le_sub_right (Nat.le_trans (by omega) hroom21) _)
                      clear hr21 hC21 hroom21 hi021 hsz21 hc21
                      have KY21 := Aside0.mk hy21
                      have KA21 := Aside0.mk hA21
                      clear hy21 hA21
                      replace q21 := eq_true q21
                      obtain ⟨Ao22, co22, eo22⟩ := Kd.V_slice HO_9.out
                      subst eo22
                      go_wp2_with (first | ((with_reducible refine gate_callee (f := 17) rfl ?_); refine goesL_ (some 43) rfl rfl Tryd.func17 (by kernel_rfl) rfl #[.slice Ao22 x9_2.length co22, .slice A21 y109.length c21] rfl (by (try simp only [List.map_toArray, List.map_cons, List.map_nil]); first | done | rfl | (simp only [List.length_drop, List.length_take]; rfl)) ?_; (with_reducible refine (Go.Proofs.YtacgchklilfcaaaDoor.Rf.Gv.apply.calls (fun k_ => (P0_ k_ ∨ w.heap.size ≤ k_)) _ _ x9_2 _ _ y109 t113 t116 t117 _ ?side1 ?side2 ?side3 A19.out).mono ?_); (case side1 => exact HO_9.out); (case side2 => repeat (first | exact (Kd.C_below HR112.out HB.out) | (with_reducible refine Kd.C_alloc ?_ _) | (with_reducible refine Kd.C_drewN ?_ _) | (with_reducible refine Kd.C_drew ?_))); (case side3 => exact HC112.out); rintro e w23 ⟨v114, rfl, ho0, hb⟩; refine ⟨_, rfl, ?_⟩; have n0_ := Aside0.mk (Kd.V_below (by (with_reducible repeat (first | apply Kd.V_alloc | apply Kd.V_drewN | apply Kd.V_drew)); exact HO_6.out) hb); have n1_ := Aside0.mk (Kd.V_below (by (with_reducible repeat (first | apply Kd.V_alloc | apply Kd.V_drewN | apply Kd.V_drew)); exact HO_9.out) hb); have n2_ := Aside0.mk (Kd.V_lower (Kd.V_mono (ok' := fun k_ => (P0_ k_ ∨ w.heap.size ≤ k_)) ho0 (fun k_ hk_ => Or.elim hk_ (fun hs_ => hs_) (fun hn_ => (.inr (Nat.le_trans (below_size (by repeat (first | (with_reducible first | exact HB.out | apply below_alloc | apply pw_below_drewN | apply below_drew1) | exact HB.out))) hn_))))) (below_size (by repeat (first | (with_reducible first | exact HB.out | apply below_alloc | apply pw_below_drewN | apply below_drew1) | exact HB.out)))); have n3_ := Aside0.mk (below_step (by repeat (first | (with_reducible first | exact HB.out | apply below_alloc | apply pw_below_drewN | apply below_drew1) | exact HB.out)) hb); clear HO_6; clear HO_9; clear HB; have HO_6 := n0_; have HO_9 := n1_; have HO115 := n2_; have HB := n3_; clear n0_ n1_ n2_ n3_; (try clear hb); (try clear hb2); (try clear hk); (try clear hi); (try clear ho0)))
                      go_roundg k2
                      case measure => have := HJ3.out; have := HK2.out; omega
                      case rel => exact ⟨(t113), (wrap64 (x10_2 + 1)), (by first | rfl | (simp; done) | (simp [*]; done)), H', ⟨by have := HJ3.out; have := HK2.out; omega⟩, ⟨by (with_reducible repeat (first | apply Kd.V_alloc | apply Kd.V_drewN | apply Kd.V_drew)); exact HO_6.out⟩, ⟨by (with_reducible repeat (first | apply Kd.V_alloc | apply Kd.V_drewN | apply Kd.V_drew)); exact HO115.out⟩, ⟨by repeat (first | (with_reducible first | exact HB.out | apply below_alloc | apply pw_below_drewN | apply below_drew1) | exact HB.out)⟩⟩
                    · rw [if_neg c20] at H
                      have c20b0 : (t116 == 0) = false := beq_eq_false_iff_ne.mpr c20
                      have c20b1 : (t116 != 0) = true := bne_iff_ne.mpr c20
                      obtain rfl := Option.some.inj H
                      have q24 : ((wrap64 (x10_2 + 1)) : Int) ≤ ((l1.length : Int) : Int) := of_decide_eq_true (by first | (with_reducible assumption) | assumption)
                      obtain ⟨i024, hi024, _, hsz24, _⟩ := info_parts info38
                      have hroom24 : l1.length ≤ c1 := HC1.out
                      have hC24 : Kd.C k38 _ A1 l1.length l1 := HR1.out
                      have ql24 : (x10_2 : Int) ≤ ((wrap64 (x10_2 + 1)) : Int) := of_decide_eq_true (by first | (with_reducible assumption) | assumption)
                      have q024 : (0 : Int) ≤ (x10_2 : Int) := of_decide_eq_true (by first | (with_reducible assumption) | assumption)
                      have hcut24 := cut_mid (P := Tryd.prog) 31 38 .i64 .i64 Tryd.underlying31 hi024 3 hsz24 A1 l1.length c1 x10_2 (wrap64 (x10_2 + 1)) q024 ql24 q24 hroom24
                      have hr24 := Kd.C_mid (lo := (x10_2 : Int).toNat) (hi := ((wrap64 (x10_2 + 1)) : Int).toNat) (c := c1) hC24 (by omega) (by omega) hroom24
                      obtain ⟨A24, hA24⟩ : ∃ A_, A_ = (if c1 = (x10_2 : Int).toNat then A1 else (A1 : Option Addr).map (·.add ((x10_2 : Int).toNat * 3))) := ⟨_, rfl⟩
                      obtain ⟨c24, hc24⟩ : ∃ c_, c_ = c1 - (x10_2 : Int).toNat := ⟨_, rfl⟩
                      have hy24 : y109.length = ((wrap64 (x10_2 + 1)) : Int).toNat - (x10_2 : Int).toNat := (by rw [Ny109.out, List.length_drop, List.length_take] <;> omega)
                      rw [show ((l1).take ((wrap64 (x10_2 + 1)) : Int).toNat).drop (x10_2 : Int).toNat = y109 from Ny109.out.symm] at hr24
                      replace hr24 : Kd.C k38 _ A24 y109.length y109 := (by rw [hA24]; exact hr24)
                      rw [← hy24, ← hA24, ← hc24] at hcut24
                      have HR112 := Aside0.mk hr24
                      have HC112 := Aside0.mk (show y109.length ≤ c24 from by rw [hy24, hc24]; exact Nat.sub_le_sub_right (Nat.le_trans (by omega) hroom24) _)
                      clear hr24 hC24 hroom24 hi024 hsz24 hc24
                      have KY24 := Aside0.mk hy24
                      have KA24 := Aside0.mk hA24
                      clear hy24 hA24
                      replace q24 := eq_true q24
                      obtain ⟨Ao25, co25, eo25⟩ := Kd.V_slice HO_9.out
                      subst eo25
                      go_wp2_with (first | ((with_reducible refine gate_callee (f := 17) rfl ?_); refine goesL_ (some 43) rfl rfl Tryd.func17 (by kernel_rfl) rfl #[.slice Ao25 x9_2.length co25, .slice A24 y109.length c24] rfl (by (try simp only [List.map_toArray, List.map_cons, List.map_nil]); first | done | rfl | (simp only [List.length_drop, List.length_take]; rfl)) ?_; (with_reducible refine (Go.Proofs.YtacgchklilfcaaaDoor.Rf.Gv.apply.calls (fun k_ => (P0_ k_ ∨ w.heap.size ≤ k_)) _ _ x9_2 _ _ y109 t113 t116 t117 _ ?side1 ?side2 ?side3 A19.out).mono ?_); (case side1 => exact HO_9.out); (case side2 => repeat (first | exact (Kd.C_below HR112.out HB.out) | (with_reducible refine Kd.C_alloc ?_ _) | (with_reducible refine Kd.C_drewN ?_ _) | (with_reducible refine Kd.C_drew ?_))); (case side3 => exact HC112.out); rintro e w26 ⟨v114, rfl, ho0, hb⟩; refine ⟨_, rfl, ?_⟩; have n0_ := Aside0.mk (Kd.V_below (by (with_reducible repeat (first | apply Kd.V_alloc | apply Kd.V_drewN | apply Kd.V_drew)); exact HO_6.out) hb); have n1_ := Aside0.mk (Kd.V_below (by (with_reducible repeat (first | apply Kd.V_alloc | apply Kd.V_drewN | apply Kd.V_drew)); exact HO_9.out) hb); have n2_ := Aside0.mk (Kd.V_lower (Kd.V_mono (ok' := fun k_ => (P0_ k_ ∨ w.heap.size ≤ k_)) ho0 (fun k_ hk_ => Or.elim hk_ (fun hs_ => hs_) (fun hn_ => (.inr (Nat.le_trans (below_size (by repeat (first | (with_reducible first | exact HB.out | apply below_alloc | apply pw_below_drewN | apply below_drew1) | exact HB.out))) hn_))))) (below_size (by repeat (first | (with_reducible first | exact HB.out | apply below_alloc | apply pw_below_drewN | apply below_drew1) | exact HB.out)))); have n3_ := Aside0.mk (below_step (by repeat (first | (with_reducible first | exact HB.out | apply below_alloc | apply pw_below_drewN | apply below_drew1) | exact HB.out)) hb); clear HO_6; clear HO_9; clear HB; have HO_6 := n0_; have HO_9 := n1_; have HO115 := n2_; have HB := n3_; clear n0_ n1_ n2_ n3_; (try clear hb); (try clear hb2); (try clear hk); (try clear hi); (try clear ho0)))
                      go_ret
                      exact ⟨by first | rfl | (simp [errW_none, errW_some] <;> rfl) | (simp [*, errW_none, errW_some] <;> rfl), by repeat (first | (with_reducible first | exact HB.out | apply below_alloc | apply pw_below_drewN | apply below_drew1) | exact HB.out)⟩
                  · rw [if_neg c18] at H
                    exact absurd H (by simp)
                · rw [if_neg c17] at H
                  exact absurd H (by simp)
              · rw [if_neg c16] at H
                exact absurd H (by simp)
            · rw [if_neg c15] at H
              have c15b0 : decide (x10_2 < (l1.length : Int)) = false := decide_eq_false c15
              clear c15
              by_cases c27 : t101 = true
              · subst c27
                have H1 : (if t107 = 0 then ((Go.Proofs.YtacgchklilfcaaaDoor.PRfBase.sacristyref09_Same.f k2 t104 x9_2).bind fun t118 => (if t118 = true then (some true) else (if (l1.length : Int) = 0 then (some true) else (if (l1.length : Int) > 16 then (some true) else (some (t107 == 1)))))) else (if (l1.length : Int) = 0 then (some true) else (if (l1.length : Int) > 16 then (some true) else (some (t107 == 1))))) = some r := by rw [if_pos rfl] at H; exact H
                clear H
                have H := H1
                clear H1
                by_cases c28 : t107 = 0
                · rw [if_pos c28] at H
                  have c28b0 : (t107 == 0) = true := beq_iff_eq.mpr c28
                  have c28b1 : (t107 != 0) = false := bne_eq_false_iff_eq.mpr c28
                  clear c28
                  replace H := Option.bind_eq_some_iff.mp H
                  obtain ⟨t118, A290, H⟩ := H
                  replace H : (if t118 = true then (some true) else (if (l1.length : Int) = 0 then (some true) else (if (l1.length : Int) > 16 then (some true) else (some (t107 == 1))))) = some r := H
                  have A29 := Aside0.mk A290
                  clear A290
                  by_cases c30 : t118 = true
                  · subst c30
                    have H1 : (some true) = some r := by rw [if_pos rfl] at H; exact H
                    clear H
                    have H := H1
                    clear H1
                    obtain rfl := Option.some.inj H
                    obtain ⟨Ao31, co31, eo31⟩ := Kd.V_slice HO_6.out
                    subst eo31
                    obtain ⟨Ao32, co32, eo32⟩ := Kd.V_slice HO_9.out
                    subst eo32
                    go_wp2_with (first | (go_at_call 15; (with_reducible refine (Go.Proofs.YtacgchklilfcaaaDoor.PRfBase.sacristyref09_Same.calls k2 _ _ t104 _ _ x9_2 true _ ?side1 ?side2 ?side3 ?side4 A29.out).mono ?_); (case side1 => repeat (first | exact (Kd.V_reads' HO_6.out).2.2 | (with_reducible refine Kd.C_alloc ?_ _) | (with_reducible refine Kd.C_drewN ?_ _) | (with_reducible refine Kd.C_drew ?_))); (case side2 => exact (Kd.V_reads' HO_6.out).2.1); (case side3 => repeat (first | exact (Kd.V_reads' HO_9.out).2.2 | (with_reducible refine Kd.C_alloc ?_ _) | (with_reducible refine Kd.C_drewN ?_ _) | (with_reducible refine Kd.C_drew ?_))); (case side4 => exact (Kd.V_reads' HO_9.out).2.1); rintro e w' ⟨rfl, ⟨nd, rfl⟩⟩))
                    go_ret
                    exact ⟨by first | rfl | (simp [errW_none, errW_some] <;> rfl) | (simp [*, errW_none, errW_some] <;> rfl), by repeat (first | (with_reducible first | exact HB.out | apply below_alloc | apply pw_below_drewN | apply below_drew1) | exact HB.out)⟩
                  · replace c30 := Bool.eq_false_iff.mpr c30
                    subst c30
                    have H1 : (if (l1.length : Int) = 0 then (some true) else (if (l1.length : Int) > 16 then (some true) else (some (t107 == 1)))) = some r := by rw [if_neg (show ¬ (false = true) by decide)] at H; exact H
                    clear H
                    have H := H1
                    clear H1
                    by_cases c33 : (l1.length : Int) = 0
                    · rw [if_pos c33] at H
                      have c33b0 : ((l1.length : Int) == 0) = true := beq_iff_eq.mpr c33
                      have c33b1 : ((l1.length : Int) != 0) = false := bne_eq_false_iff_eq.mpr c33
                      clear c33
                      obtain rfl := Option.some.inj H
                      obtain ⟨Ao34, co34, eo34⟩ := Kd.V_slice HO_6.out
                      subst eo34
                      obtain ⟨Ao35, co35, eo35⟩ := Kd.V_slice HO_9.out
                      subst eo35
                      go_wp2_with (first | (go_at_call 15; (with_reducible refine (Go.Proofs.YtacgchklilfcaaaDoor.PRfBase.sacristyref09_Same.calls k2 _ _ t104 _ _ x9_2 false _ ?side1 ?side2 ?side3 ?side4 A29.out).mono ?_); (case side1 => repeat (first | exact (Kd.V_reads' HO_6.out).2.2 | (with_reducible refine Kd.C_alloc ?_ _) | (with_reducible refine Kd.C_drewN ?_ _) | (with_reducible refine Kd.C_drew ?_))); (case side2 => exact (Kd.V_reads' HO_6.out).2.1); (case side3 => repeat (first | exact (Kd.V_reads' HO_9.out).2.2 | (with_reducible refine Kd.C_alloc ?_ _) | (with_reducible refine Kd.C_drewN ?_ _) | (with_reducible refine Kd.C_drew ?_))); (case side4 => exact (Kd.V_reads' HO_9.out).2.1); rintro e w' ⟨rfl, ⟨nd, rfl⟩⟩))
                      go_ret
                      exact ⟨by first | rfl | (simp [errW_none, errW_some] <;> rfl) | (simp [*, errW_none, errW_some] <;> rfl), by repeat (first | (with_reducible first | exact HB.out | apply below_alloc | apply pw_below_drewN | apply below_drew1) | exact HB.out)⟩
                    · rw [if_neg c33] at H
                      have c33b0 : ((l1.length : Int) == 0) = false := beq_eq_false_iff_ne.mpr c33
                      have c33b1 : ((l1.length : Int) != 0) = true := bne_iff_ne.mpr c33
                      have c33b2 : ¬ (l1 = []) := fun h_ => c33 (by rw [h_]; rfl)
                      by_cases c36 : (l1.length : Int) > 16
                      · rw [if_pos c36] at H
                        have c36b0 : decide (16 < (l1.length : Int)) = true := decide_eq_true c36
                        have c36b1 : decide (16 < l1.length) = true := decide_eq_true (by omega)
                        clear c36
                        obtain rfl := Option.some.inj H
                        obtain ⟨Ao37, co37, eo37⟩ := Kd.V_slice HO_6.out
                        subst eo37
                        obtain ⟨Ao38, co38, eo38⟩ := Kd.V_slice HO_9.out
                        subst eo38
                        go_wp2_with (first | (go_at_call 15; (with_reducible refine (Go.Proofs.YtacgchklilfcaaaDoor.PRfBase.sacristyref09_Same.calls k2 _ _ t104 _ _ x9_2 false _ ?side1 ?side2 ?side3 ?side4 A29.out).mono ?_); (case side1 => repeat (first | exact (Kd.V_reads' HO_6.out).2.2 | (with_reducible refine Kd.C_alloc ?_ _) | (with_reducible refine Kd.C_drewN ?_ _) | (with_reducible refine Kd.C_drew ?_))); (case side2 => exact (Kd.V_reads' HO_6.out).2.1); (case side3 => repeat (first | exact (Kd.V_reads' HO_9.out).2.2 | (with_reducible refine Kd.C_alloc ?_ _) | (with_reducible refine Kd.C_drewN ?_ _) | (with_reducible refine Kd.C_drew ?_))); (case side4 => exact (Kd.V_reads' HO_9.out).2.1); rintro e w' ⟨rfl, ⟨nd, rfl⟩⟩))
                        go_ret
                        exact ⟨by first | rfl | (simp [errW_none, errW_some] <;> rfl) | (simp [*, errW_none, errW_some] <;> rfl), by repeat (first | (with_reducible first | exact HB.out | apply below_alloc | apply pw_below_drewN | apply below_drew1) | exact HB.out)⟩
                      · rw [if_neg c36] at H
                        have c36b0 : decide (16 < (l1.length : Int)) = false := decide_eq_false c36
                        have c36b1 : decide (16 < l1.length) = false := decide_eq_false (by omega)
                        clear c36
                        obtain rfl := Option.some.inj H
                        obtain ⟨Ao39, co39, eo39⟩ := Kd.V_slice HO_6.out
                        subst eo39
                        obtain ⟨Ao40, co40, eo40⟩ := Kd.V_slice HO_9.out
                        subst eo40
                        go_wp2_with (first | (go_at_call 15; (with_reducible refine (Go.Proofs.YtacgchklilfcaaaDoor.PRfBase.sacristyref09_Same.calls k2 _ _ t104 _ _ x9_2 false _ ?side1 ?side2 ?side3 ?side4 A29.out).mono ?_); (case side1 => repeat (first | exact (Kd.V_reads' HO_6.out).2.2 | (with_reducible refine Kd.C_alloc ?_ _) | (with_reducible refine Kd.C_drewN ?_ _) | (with_reducible refine Kd.C_drew ?_))); (case side2 => exact (Kd.V_reads' HO_6.out).2.1); (case side3 => repeat (first | exact (Kd.V_reads' HO_9.out).2.2 | (with_reducible refine Kd.C_alloc ?_ _) | (with_reducible refine Kd.C_drewN ?_ _) | (with_reducible refine Kd.C_drew ?_))); (case side4 => exact (Kd.V_reads' HO_9.out).2.1); rintro e w' ⟨rfl, ⟨nd, rfl⟩⟩))
                        go_ret
                        exact ⟨by first | rfl | (simp [errW_none, errW_some] <;> rfl) | (simp [*, errW_none, errW_some] <;> rfl), by repeat (first | (with_reducible first | exact HB.out | apply below_alloc | apply pw_below_drewN | apply below_drew1) | exact HB.out)⟩
                · rw [if_neg c28] at H
                  have c28b0 : (t107 == 0) = false := beq_eq_false_iff_ne.mpr c28
                  have c28b1 : (t107 != 0) = true := bne_iff_ne.mpr c28
                  by_cases c41 : (l1.length : Int) = 0
                  · rw [if_pos c41] at H
                    have c41b0 : ((l1.length : Int) == 0) = true := beq_iff_eq.mpr c41
                    have c41b1 : ((l1.length : Int) != 0) = false := bne_eq_false_iff_eq.mpr c41
                    clear c41
                    obtain rfl := Option.some.inj H
                    go_wp2
                    go_ret
                    exact ⟨by first | rfl | (simp [errW_none, errW_some] <;> rfl) | (simp [*, errW_none, errW_some] <;> rfl), by repeat (first | (with_reducible first | exact HB.out | apply below_alloc | apply pw_below_drewN | apply below_drew1) | exact HB.out)⟩
                  · rw [if_neg c41] at H
                    have c41b0 : ((l1.length : Int) == 0) = false := beq_eq_false_iff_ne.mpr c41
                    have c41b1 : ((l1.length : Int) != 0) = true := bne_iff_ne.mpr c41
                    have c41b2 : ¬ (l1 = []) := fun h_ => c41 (by rw [h_]; rfl)
                    by_cases c42 : (l1.length : Int) > 16
                    · rw [if_pos c42] at H
                      have c42b0 : decide (16 < (l1.length : Int)) = true := decide_eq_true c42
                      have c42b1 : decide (16 < l1.length) = true := decide_eq_true (by omega)
                      clear c42
                      obtain rfl := Option.some.inj H
                      go_wp2
                      go_ret
                      exact ⟨by first | rfl | (simp [errW_none, errW_some] <;> rfl) | (simp [*, errW_none, errW_some] <;> rfl), by repeat (first | (with_reducible first | exact HB.out | apply below_alloc | apply pw_below_drewN | apply below_drew1) | exact HB.out)⟩
                    · rw [if_neg c42] at H
                      have c42b0 : decide (16 < (l1.length : Int)) = false := decide_eq_false c42
                      have c42b1 : decide (16 < l1.length) = false := decide_eq_false (by omega)
                      clear c42
                      obtain rfl := Option.some.inj H
                      go_wp2
                      go_ret
                      exact ⟨by first | rfl | (simp [errW_none, errW_some] <;> rfl) | (simp [*, errW_none, errW_some] <;> rfl), by repeat (first | (with_reducible first | exact HB.out | apply below_alloc | apply pw_below_drewN | apply below_drew1) | exact HB.out)⟩
              · replace c27 := Bool.eq_false_iff.mpr c27
                subst c27
                have H1 : (some false) = some r := by rw [if_neg (show ¬ (false = true) by decide)] at H; exact H
                clear H
                have H := H1
                clear H1
                obtain rfl := Option.some.inj H
                go_wp2
                go_ret
                exact ⟨by first | rfl | (simp [errW_none, errW_some] <;> rfl) | (simp [*, errW_none, errW_some] <;> rfl), by repeat (first | (with_reducible first | exact HB.out | apply below_alloc | apply pw_below_drewN | apply below_drew1) | exact HB.out)⟩
end Go.Proofs.YtacgchklilfcaaaDoor.PRefsOne
