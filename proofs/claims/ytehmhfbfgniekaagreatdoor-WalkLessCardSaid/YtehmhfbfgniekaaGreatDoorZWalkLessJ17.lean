/- Joined texts: DigTake1. No condition but what stands in each. -/
import Derived.Test.YtehmhfbfgniekaaGreatDoorZWalkLessJ15
import Derived.Deep.LoopGhost
import Derived.Deep.DeepCutAuto
import Derived.BigRegion
import Derived.LoopTactic
namespace Go.Proofs.YtehmhfbfgniekaaGreatDoor.Dg
set_option linter.unusedVariables false
set_option linter.unusedSimpArgs false
open Go.RowKit Blk
def V (x : W) : Value := .int .u32 (u x)
def B (x : Int) : Value := .int .u8 x
theorem sch_set (m : List Int) (i : Nat) (hi : i < 64) :
    ((sch m i ++ List.replicate (64 - i) 0).map V).set i (V (nxt m (sch m i) i)) = (sch m (i + 1) ++ List.replicate (64 - (i + 1)) 0).map V := by
  obtain ⟨d, rfl⟩ : ∃ d, i = 63 - d := ⟨63 - i, by omega⟩
  have h1 : 64 - (63 - d) = (64 - (63 - d + 1)) + 1 := by omega
  rw [h1, List.replicate_succ, ← List.map_set]
  congr 1
  rw [List.set_append_right _ _ (by rw [sch_length]; exact Nat.le_refl _), sch_length, Nat.sub_self, List.set_cons_zero]
  simp [sch]
theorem sch_at (m : List Int) (i j : Nat) (h : j < i) : ((sch m i ++ List.replicate (64 - i) 0).map V)[j]? = some (V ((sch m i).getD j 0)) := by
  rw [List.getElem?_map, List.getElem?_append_left (by rw [sch_length]; exact h)]
  simp [sch_length, h]
theorem idx0 (x0 x1 x2 x3 x4 x5 x6 x7 : Value) (w : World) : (Instr.index 121 (.agg #[x0, x1, x2, x3, x4, x5, x6, x7]) (.int .i64 0)).run Tryz.prog w = .ok x0 w := by kernel_rfl
theorem idx1 (x0 x1 x2 x3 x4 x5 x6 x7 : Value) (w : World) : (Instr.index 121 (.agg #[x0, x1, x2, x3, x4, x5, x6, x7]) (.int .i64 1)).run Tryz.prog w = .ok x1 w := by kernel_rfl
theorem idx2 (x0 x1 x2 x3 x4 x5 x6 x7 : Value) (w : World) : (Instr.index 121 (.agg #[x0, x1, x2, x3, x4, x5, x6, x7]) (.int .i64 2)).run Tryz.prog w = .ok x2 w := by kernel_rfl
theorem idx3 (x0 x1 x2 x3 x4 x5 x6 x7 : Value) (w : World) : (Instr.index 121 (.agg #[x0, x1, x2, x3, x4, x5, x6, x7]) (.int .i64 3)).run Tryz.prog w = .ok x3 w := by kernel_rfl
theorem idx4 (x0 x1 x2 x3 x4 x5 x6 x7 : Value) (w : World) : (Instr.index 121 (.agg #[x0, x1, x2, x3, x4, x5, x6, x7]) (.int .i64 4)).run Tryz.prog w = .ok x4 w := by kernel_rfl
theorem idx5 (x0 x1 x2 x3 x4 x5 x6 x7 : Value) (w : World) : (Instr.index 121 (.agg #[x0, x1, x2, x3, x4, x5, x6, x7]) (.int .i64 5)).run Tryz.prog w = .ok x5 w := by kernel_rfl
theorem idx6 (x0 x1 x2 x3 x4 x5 x6 x7 : Value) (w : World) : (Instr.index 121 (.agg #[x0, x1, x2, x3, x4, x5, x6, x7]) (.int .i64 6)).run Tryz.prog w = .ok x6 w := by kernel_rfl
theorem idx7 (x0 x1 x2 x3 x4 x5 x6 x7 : Value) (w : World) : (Instr.index 121 (.agg #[x0, x1, x2, x3, x4, x5, x6, x7]) (.int .i64 7)).run Tryz.prog w = .ok x7 w := by kernel_rfl
theorem ks_at (H ks : List W) (i : Nat) (h : i < ks.length) (hH : H.length = 8 := by rfl) : ((H ++ ks).map V)[8 + i]? = some (V (ks.getD i 0)) := by
  rw [List.getElem?_map, List.getElem?_append_right (by omega), hH]
  simp [h]
def mix (H S : List W) (i : Nat) : List W := List.zipWith (· + ·) (H.take i) (S.take i) ++ H.drop i
set_option maxHeartbeats 4000000 in
set_option maxRecDepth 100000 in
theorem take_calls (bs bb off cap : Nat) (H ks : List W) (m : List Int) (w : World) (hH : H.length = 8) (hk : ks.length = 64) (hm : m.length = 64)
    (hS : Row w bs 143 ((H ++ ks).map V))
    (hB : ∀ i < 64, w.cell? ⟨bb, off + i, none⟩ = some (.int .u8 (m.getD i 0))) (hm8 : ∀ x ∈ m, 0 ≤ x ∧ x < 256) (hlt : bb < w.heap.size) :
    Calls Tryz.prog 102 #[.pointer (some ⟨bs, 0, none⟩), .slice (some ⟨bb, off, none⟩) 64 cap] w fun e w' =>
      e = .returned (.tuple #[]) ∧ Row w' bs 143 ((blk ks m H ++ ks).map V) ∧ But w.heap.size bs w w' := by
  go_enter Tryz.func102, Tryz.ntmps102
  go_wp2
  have hR0 : Row (w.alloc (.cells ((List.replicate 64 (V 0)).toArray) 141 (0, 0))) w.heap.size 141 ((sch m 0 ++ List.replicate (64 - 0) 0).map V) := by
    have := Row.new w (List.replicate 64 (V 0)) 141
    simpa [sch] using this
  have hR := As.mk hR0
  clear hR0
  have HS := As.mk hS
  clear hS
  have HB := As.mk hB
  clear hB
  have HH := As.mk hH
  clear hH
  have HK := As.mk hk
  clear hk
  have HM := As.mk hm
  clear hm
  have H8 := As.mk hm8
  clear hm8
  go_loopw [21] (fun v21 wr => ∃ i : Nat, i ≤ 64 ∧ v21 = .int .i64 i ∧ As (Row wr w.heap.size 141 ((sch m i ++ List.replicate (64 - i) 0).map V)) ∧ As (Below w.heap.size w wr)) (fun v21 _ => 64 - (intOf v21).toNat)
  case atStart => exact ⟨0, by omega, rfl, hR, ⟨(Below.refl _ _).alloc (Nat.le_refl _) _⟩⟩
  case round =>
    clear hR
    obtain ⟨i, hi, rfl, hR, hb⟩ := hrel
    by_cases h64 : i < 64
    · by_cases h16 : i < 16
      · have hr (j : Nat) (hj : j < 64) : wr.cell? ⟨bb, off + j, none⟩ = some (.int .u8 (m.getD j 0)) ∧ 0 ≤ m.getD j 0 ∧ m.getD j 0 < 256 := by
          refine ⟨(hb.out.cell hlt).trans (HB.out j hj), ?_⟩
          have hj' : j < m.length := by rw [HM.out]; exact hj
          have := H8.out (m.getD j 0) (by simp [hj'])
          exact this
        obtain ⟨x0, h0, a0, b0⟩ : ∃ x, m.getD (4 * i) 0 = x ∧ 0 ≤ x ∧ x < 256 := ⟨_, rfl, (hr (4 * i) (by omega)).2⟩
        obtain ⟨x1, h1, a1, b1⟩ : ∃ x, m.getD (4 * i + 1) 0 = x ∧ 0 ≤ x ∧ x < 256 := ⟨_, rfl, (hr (4 * i + 1) (by omega)).2⟩
        obtain ⟨x2, h2, a2, b2⟩ : ∃ x, m.getD (4 * i + 2) 0 = x ∧ 0 ≤ x ∧ x < 256 := ⟨_, rfl, (hr (4 * i + 2) (by omega)).2⟩
        obtain ⟨x3, h3, a3, b3⟩ : ∃ x, m.getD (4 * i + 3) 0 = x ∧ 0 ≤ x ∧ x < 256 := ⟨_, rfl, (hr (4 * i + 3) (by omega)).2⟩
        have c0 := (hr (4 * i) (by omega)).1
        have c1 := (hr (4 * i + 1) (by omega)).1
        have c2 := (hr (4 * i + 2) (by omega)).1
        have c3 := (hr (4 * i + 3) (by omega)).1
        rw [h0] at c0
        rw [h1] at c1
        rw [h2] at c2
        rw [h3] at c3
        have E := As.mk (And.intro h0 (And.intro h1 (And.intro h2 h3)))
        clear h0 h1 h2 h3 hr
        have hlen : ((sch m i ++ List.replicate (64 - i) 0).map V).length = 64 := by simp [sch_length]; omega
        obtain ⟨vz, hvz⟩ : ∃ v, ((sch m i ++ List.replicate (64 - i) 0).map V)[i]? = some v := ⟨_, List.getElem?_eq_getElem (by omega)⟩
        have hcw := hR.out.cell hvz
        have hfw := hR.out.free i none
        clear hlen hvz
        go_wp2
        refine QTail.wp_region_lit 35 (by kernel_rfl) (by kernel_rfl) ?_
        simp only [List.take_succ_cons, List.take_zero, List.drop_succ_cons, List.drop_zero]
        repeat (go_big_quiet_step (fail))
        refine wpQuiet_nil ?_
        intro _ hw'
        obtain ⟨nq, rfl⟩ := hw'
        go_wp2
        go_roundw
        case measure => simp [intOf]; omega
        case rel =>
          refine ⟨i + 1, by omega, by go_num, ⟨?_⟩, ⟨(pw_drewN hb.out nq).setCell (by simp) _⟩⟩
          rw [or_word _ _ _ _ a0 b0 a1 b1 a2 b2 a3 b3]
          have := (hR.out.drewN nq).set i (V (nxt m (sch m i) i))
          rw [sch_set m i h64] at this
          have hn : nxt m (sch m i) i = w4 x0 x1 x2 x3 := by
            rw [nxt, if_pos h16, word, E.out.1, E.out.2.1, E.out.2.2.1, E.out.2.2.2]
          rw [hn] at this
          exact this
      · have hb16 : 16 ≤ i := by omega
        have cell (j : Nat) (hj : j < i) := hR.out.cell (sch_at m i j hj)
        obtain ⟨x2, h2⟩ : ∃ x, (sch m i).getD (i - 2) 0 = x := ⟨_, rfl⟩
        obtain ⟨x7, h7⟩ : ∃ x, (sch m i).getD (i - 7) 0 = x := ⟨_, rfl⟩
        obtain ⟨x15, h15⟩ : ∃ x, (sch m i).getD (i - 15) 0 = x := ⟨_, rfl⟩
        obtain ⟨x16, h16'⟩ : ∃ x, (sch m i).getD (i - 16) 0 = x := ⟨_, rfl⟩
        have c2 := cell (i - 2) (by omega)
        have c7 := cell (i - 7) (by omega)
        have c15 := cell (i - 15) (by omega)
        have c16 := cell (i - 16) (by omega)
        rw [h2] at c2
        rw [h7] at c7
        rw [h15] at c15
        rw [h16'] at c16
        unfold V at c2 c7 c15 c16
        have E := As.mk (And.intro h2 (And.intro h7 (And.intro h15 h16')))
        clear h2 h7 h15 h16' cell
        go_wp2
        go_quiet (fail)
        have hfw := (hR.out.drewN nq).free i none
        have hlen : ((sch m i ++ List.replicate (64 - i) 0).map V).length = 64 := by simp [sch_length]; omega
        obtain ⟨vz, hvz⟩ : ∃ v, ((sch m i ++ List.replicate (64 - i) 0).map V)[i]? = some v := ⟨_, List.getElem?_eq_getElem (by omega)⟩
        have hcw := hR.out.cell hvz
        clear hlen hvz
        go_wp2
        replace c2 : (wr.drewN nq).cell? ⟨w.heap.size, i - 2, none⟩ = _ := c2
        replace c7 : (wr.drewN nq).cell? ⟨w.heap.size, i - 7, none⟩ = _ := c7
        replace c15 : (wr.drewN nq).cell? ⟨w.heap.size, i - 15, none⟩ = _ := c15
        replace c16 : (wr.drewN nq).cell? ⟨w.heap.size, i - 16, none⟩ = _ := c16
        replace hcw : (wr.drewN nq).cell? ⟨w.heap.size, i, none⟩ = _ := hcw
        have hR1 := As.mk (hR.out.drewN nq)
        have hb1 := As.mk (pw_drewN hb.out nq)
        clear hR hb
        generalize wr.drewN nq = wq at *
        clear wr
        refine QTail.wp_region_lit 29 (by kernel_rfl) (by kernel_rfl) ?_
        simp only [List.take_succ_cons, List.take_zero, List.drop_succ_cons, List.drop_zero]
        repeat (go_big_quiet_step (exact Calls.quiet_of_same (right_any _ _ _ (by decide))))
        refine wpQuiet_nil ?_
        intro _ hw'
        obtain ⟨nq, rfl⟩ := hw'
        go_wp2
        go_roundw
        case measure => simp [intOf]; omega
        case rel =>
          refine ⟨i + 1, by omega, by go_num, ⟨?_⟩, ⟨(pw_drewN hb1.out nq).setCell (by simp) _⟩⟩
          rw [sched_word]
          have := (hR1.out.drewN nq).set i (V (nxt m (sch m i) i))
          rw [sch_set m i h64] at this
          have hn : nxt m (sch m i) i = s1 x2 + x7 + s0 x15 + x16 := by
            rw [nxt, if_neg h16, E.out.1, E.out.2.1, E.out.2.2.1, E.out.2.2.2]
          rw [hn] at this
          exact this
    · have : i = 64 := by omega
      subst this
      obtain ⟨a, b, c, d, e, f, g, h, rfl⟩ : ∃ a b c d e f g h, H = [a, b, c, d, e, f, g, h] := by
        have := HH.out
        match H, this with
        | [a, b, c, d, e, f, g, h], _ => exact ⟨a, b, c, d, e, f, g, h, rfl⟩
      have hS1 : Row wr bs 143 (([a, b, c, d, e, f, g, h] ++ ks).map V) := HS.out.below' hb.out
      have c0 := hS1.cell (i := 0) (v := V a) (by simp)
      have c1 := hS1.cell (i := 1) (v := V b) (by simp)
      have c2 := hS1.cell (i := 2) (v := V c) (by simp)
      have c3 := hS1.cell (i := 3) (v := V d) (by simp)
      have c4 := hS1.cell (i := 4) (v := V e) (by simp)
      have c5 := hS1.cell (i := 5) (v := V f) (by simp)
      have c6 := hS1.cell (i := 6) (v := V g) (by simp)
      have c7 := hS1.cell (i := 7) (v := V h) (by simp)
      unfold V at c0 c1 c2 c3 c4 c5 c6 c7
      have HS1 := As.mk hS1
      clear hS1
      go_wp2
      go_quiet (fail)
      replace hb := As.mk (pw_drewN hb.out nq)
      replace hR := As.mk (hR.out.drewN nq)
      replace HS1 := As.mk (HS1.out.drewN nq)
      replace c4 : (wr.drewN nq).cell? ⟨bs, 4, none⟩ = _ := c4
      replace c5 : (wr.drewN nq).cell? ⟨bs, 5, none⟩ = _ := c5
      replace c6 : (wr.drewN nq).cell? ⟨bs, 6, none⟩ = _ := c6
      replace c7 : (wr.drewN nq).cell? ⟨bs, 7, none⟩ = _ := c7
      clear c0 c1 c2 c3
      generalize wr.drewN nq = w1 at *
      clear wr
      go_wp2
      go_quiet (fail)
      replace hb := As.mk (pw_drewN hb.out nq)
      replace hR := As.mk (hR.out.drewN nq)
      replace HS1 := As.mk (HS1.out.drewN nq)
      clear c4 c5 c6 c7
      generalize w1.drewN nq = w2 at *
      clear w1
      go_wp2
      go_loopw [8, 9, 10, 11, 12, 13, 14, 15, 139] (fun v8 v9 v10 v11 v12 v13 v14 v15 v139 wr => ∃ (i : Nat) (s : St), i ≤ 64 ∧ v139 = .int .i64 i ∧ v8 = .int .u32 (u s.a) ∧ v9 = .int .u32 (u s.b) ∧ v10 = .int .u32 (u s.c) ∧ v11 = .int .u32 (u s.d) ∧ v12 = .int .u32 (u s.e) ∧ v13 = .int .u32 (u s.f) ∧ v14 = .int .u32 (u s.g) ∧ v15 = .int .u32 (u s.h) ∧ As (s = rnds ks (sch m 64) (St.of [a, b, c, d, e, f, g, h]) i) ∧ As (Row wr w.heap.size 141 ((sch m 64 ++ List.replicate (64 - 64) 0).map V)) ∧ As (Row wr bs 143 (([a, b, c, d, e, f, g, h] ++ ks).map V)) ∧ As (Below w.heap.size w wr)) (fun _ _ _ _ _ _ _ _ v139 _ => 64 - (intOf v139).toNat)
      case atStart => exact ⟨0, ⟨a, b, c, d, e, f, g, h⟩, by omega, rfl, rfl, rfl, rfl, rfl, rfl, rfl, rfl, rfl, ⟨rfl⟩, hR, HS1, hb⟩
      case round =>
        clear hR HS1 hb w2
        obtain ⟨i, s, hi, rfl, rfl, rfl, rfl, rfl, rfl, rfl, rfl, rfl, Hs, hR, HS1, hb⟩ := hrel
        by_cases h64 : i < 64
        · have ck := HS1.out.cell (i := 8 + i) (v := V (ks.getD i 0)) (ks_at _ ks i (by rw [HK.out]; exact h64))
          have cw := hR.out.cell (i := i) (v := V ((sch m 64).getD i 0)) (sch_at m 64 i h64)
          obtain ⟨k, hk⟩ : ∃ x, ks.getD i 0 = x := ⟨_, rfl⟩
          obtain ⟨x, hx⟩ : ∃ x, (sch m 64).getD i 0 = x := ⟨_, rfl⟩
          rw [hk] at ck
          rw [hx] at cw
          have E := As.mk (And.intro hk hx)
          clear hk hx
          unfold V at ck cw
          obtain ⟨a1, b1, c1, d1, e1, f1, g1, h1⟩ := s
          simp only
          go_wp2
          go_quiet (exact Calls.quiet_of_same (right_any _ _ _ (by decide)))
          go_wp2_with (go_at_call 122; refine (right_any _ _ _ (by decide)).mono ?_; rintro e w' ⟨rfl, rfl⟩)
          go_roundw
          case measure => simp [intOf]; omega
          case rel =>
            refine ⟨_, _, _, _, _, _, _, _, _, _, _, _, _, _, _, _, _, _, _, _, _, _, _, _, _, _, _, _, _, _, _, _, _, _, _, _, _, _, _, _, _, _, _, _, _, _, _, _, _, _, _, _, _, _, _, _, _, _, _, _, _, _, _, _, _, _, _, _, _, _, _, _, _, _, ?_, rfl⟩
            refine ⟨i + 1, rnd k x ⟨a1, b1, c1, d1, e1, f1, g1, h1⟩, by omega, by go_num, ?_, rfl, rfl, rfl, ?_, rfl, rfl, rfl, ⟨?_⟩, ⟨hR.out.drewN nq⟩, ⟨HS1.out.drewN nq⟩, ⟨pw_drewN hb.out nq⟩⟩
            · simp only [u_xor, u_and, u_or, mod_u5, mod_u2]; rfl
            · simp only [u_xor, u_and, mod_u5, mod_u2]; rfl
            · rw [rnds, ← Hs.out, E.out.1, E.out.2]
        · have : i = 64 := by omega
          subst this
          go_wp2
          go_loopw [211] (fun v211 wr => ∃ (i : Nat), i ≤ 8 ∧ v211 = .int .i64 i ∧ As (Row wr bs 143 ((mix [a, b, c, d, e, f, g, h] s.list i ++ ks).map V)) ∧ As (But w.heap.size bs w wr)) (fun v211 _ => 8 - (intOf v211).toNat)
          case atStart => exact ⟨0, by omega, rfl, HS1, ⟨But.of_below hb.out⟩⟩
          case round =>
            clear hR HS1 hb
            obtain ⟨i, hi, rfl, HS1, hb⟩ := hrel
            obtain ⟨a1, b1, c1, d1, e1, f1, g1, h1⟩ := s
            simp only
            have hlt := HS.out.lt
            rcases (show i = 0 ∨ i = 1 ∨ i = 2 ∨ i = 3 ∨ i = 4 ∨ i = 5 ∨ i = 6 ∨ i = 7 ∨ i = 8 by omega) with rfl | rfl | rfl | rfl | rfl | rfl | rfl | rfl | rfl
            · have ck := HS1.out.cell (i := 0) (v := V a) (by rfl)
              have fk := HS1.out.free 0 none
              have ix := idx0 (.int .u32 (u a1)) (.int .u32 (u b1)) (.int .u32 (u c1)) (.int .u32 (u d1)) (.int .u32 (u e1)) (.int .u32 (u f1)) (.int .u32 (u g1)) (.int .u32 (u h1))
              unfold V at ck
              go_wp2
              refine QTail.wp_region_lit 11 (by kernel_rfl) (by kernel_rfl) ?_
              simp only [List.take_succ_cons, List.take_zero, List.drop_succ_cons, List.drop_zero]
              repeat (go_big_quiet_step (fail))
              refine wpQuiet_nil ?_
              intro _ hw'
              obtain ⟨nq, rfl⟩ := hw'
              go_wp2
              go_roundw
              case measure => simp [intOf]
              case rel =>
                refine ⟨1, by omega, by go_num, ⟨?_⟩, ⟨(hb.out.drewN nq).setCell (Or.inl rfl) _⟩⟩
                rw [u_add']
                have := (HS1.out.drewN nq).set 0 (V (a + a1))
                exact this
            · have ck := HS1.out.cell (i := 1) (v := V b) (by rfl)
              have fk := HS1.out.free 1 none
              have ix := idx1 (.int .u32 (u a1)) (.int .u32 (u b1)) (.int .u32 (u c1)) (.int .u32 (u d1)) (.int .u32 (u e1)) (.int .u32 (u f1)) (.int .u32 (u g1)) (.int .u32 (u h1))
              unfold V at ck
              go_wp2
              refine QTail.wp_region_lit 11 (by kernel_rfl) (by kernel_rfl) ?_
              simp only [List.take_succ_cons, List.take_zero, List.drop_succ_cons, List.drop_zero]
              repeat (go_big_quiet_step (fail))
              refine wpQuiet_nil ?_
              intro _ hw'
              obtain ⟨nq, rfl⟩ := hw'
              go_wp2
              go_roundw
              case measure => simp [intOf]
              case rel =>
                refine ⟨2, by omega, by go_num, ⟨?_⟩, ⟨(hb.out.drewN nq).setCell (Or.inl rfl) _⟩⟩
                rw [u_add']
                have := (HS1.out.drewN nq).set 1 (V (b + b1))
                exact this
            · have ck := HS1.out.cell (i := 2) (v := V c) (by rfl)
              have fk := HS1.out.free 2 none
              have ix := idx2 (.int .u32 (u a1)) (.int .u32 (u b1)) (.int .u32 (u c1)) (.int .u32 (u d1)) (.int .u32 (u e1)) (.int .u32 (u f1)) (.int .u32 (u g1)) (.int .u32 (u h1))
              unfold V at ck
              go_wp2
              refine QTail.wp_region_lit 11 (by kernel_rfl) (by kernel_rfl) ?_
              simp only [List.take_succ_cons, List.take_zero, List.drop_succ_cons, List.drop_zero]
              repeat (go_big_quiet_step (fail))
              refine wpQuiet_nil ?_
              intro _ hw'
              obtain ⟨nq, rfl⟩ := hw'
              go_wp2
              go_roundw
              case measure => simp [intOf]
              case rel =>
                refine ⟨3, by omega, by go_num, ⟨?_⟩, ⟨(hb.out.drewN nq).setCell (Or.inl rfl) _⟩⟩
                rw [u_add']
                have := (HS1.out.drewN nq).set 2 (V (c + c1))
                exact this
            · have ck := HS1.out.cell (i := 3) (v := V d) (by rfl)
              have fk := HS1.out.free 3 none
              have ix := idx3 (.int .u32 (u a1)) (.int .u32 (u b1)) (.int .u32 (u c1)) (.int .u32 (u d1)) (.int .u32 (u e1)) (.int .u32 (u f1)) (.int .u32 (u g1)) (.int .u32 (u h1))
              unfold V at ck
              go_wp2
              refine QTail.wp_region_lit 11 (by kernel_rfl) (by kernel_rfl) ?_
              simp only [List.take_succ_cons, List.take_zero, List.drop_succ_cons, List.drop_zero]
              repeat (go_big_quiet_step (fail))
              refine wpQuiet_nil ?_
              intro _ hw'
              obtain ⟨nq, rfl⟩ := hw'
              go_wp2
              go_roundw
              case measure => simp [intOf]
              case rel =>
                refine ⟨4, by omega, by go_num, ⟨?_⟩, ⟨(hb.out.drewN nq).setCell (Or.inl rfl) _⟩⟩
                rw [u_add']
                have := (HS1.out.drewN nq).set 3 (V (d + d1))
                exact this
            · have ck := HS1.out.cell (i := 4) (v := V e) (by rfl)
              have fk := HS1.out.free 4 none
              have ix := idx4 (.int .u32 (u a1)) (.int .u32 (u b1)) (.int .u32 (u c1)) (.int .u32 (u d1)) (.int .u32 (u e1)) (.int .u32 (u f1)) (.int .u32 (u g1)) (.int .u32 (u h1))
              unfold V at ck
              go_wp2
              refine QTail.wp_region_lit 11 (by kernel_rfl) (by kernel_rfl) ?_
              simp only [List.take_succ_cons, List.take_zero, List.drop_succ_cons, List.drop_zero]
              repeat (go_big_quiet_step (fail))
              refine wpQuiet_nil ?_
              intro _ hw'
              obtain ⟨nq, rfl⟩ := hw'
              go_wp2
              go_roundw
              case measure => simp [intOf]
              case rel =>
                refine ⟨5, by omega, by go_num, ⟨?_⟩, ⟨(hb.out.drewN nq).setCell (Or.inl rfl) _⟩⟩
                rw [u_add']
                have := (HS1.out.drewN nq).set 4 (V (e + e1))
                exact this
            · have ck := HS1.out.cell (i := 5) (v := V f) (by rfl)
              have fk := HS1.out.free 5 none
              have ix := idx5 (.int .u32 (u a1)) (.int .u32 (u b1)) (.int .u32 (u c1)) (.int .u32 (u d1)) (.int .u32 (u e1)) (.int .u32 (u f1)) (.int .u32 (u g1)) (.int .u32 (u h1))
              unfold V at ck
              go_wp2
              refine QTail.wp_region_lit 11 (by kernel_rfl) (by kernel_rfl) ?_
              simp only [List.take_succ_cons, List.take_zero, List.drop_succ_cons, List.drop_zero]
              repeat (go_big_quiet_step (fail))
              refine wpQuiet_nil ?_
              intro _ hw'
              obtain ⟨nq, rfl⟩ := hw'
              go_wp2
              go_roundw
              case measure => simp [intOf]
              case rel =>
                refine ⟨6, by omega, by go_num, ⟨?_⟩, ⟨(hb.out.drewN nq).setCell (Or.inl rfl) _⟩⟩
                rw [u_add']
                have := (HS1.out.drewN nq).set 5 (V (f + f1))
                exact this
            · have ck := HS1.out.cell (i := 6) (v := V g) (by rfl)
              have fk := HS1.out.free 6 none
              have ix := idx6 (.int .u32 (u a1)) (.int .u32 (u b1)) (.int .u32 (u c1)) (.int .u32 (u d1)) (.int .u32 (u e1)) (.int .u32 (u f1)) (.int .u32 (u g1)) (.int .u32 (u h1))
              unfold V at ck
              go_wp2
              refine QTail.wp_region_lit 11 (by kernel_rfl) (by kernel_rfl) ?_
              simp only [List.take_succ_cons, List.take_zero, List.drop_succ_cons, List.drop_zero]
              repeat (go_big_quiet_step (fail))
              refine wpQuiet_nil ?_
              intro _ hw'
              obtain ⟨nq, rfl⟩ := hw'
              go_wp2
              go_roundw
              case measure => simp [intOf]
              case rel =>
                refine ⟨7, by omega, by go_num, ⟨?_⟩, ⟨(hb.out.drewN nq).setCell (Or.inl rfl) _⟩⟩
                rw [u_add']
                have := (HS1.out.drewN nq).set 6 (V (g + g1))
                exact this
            · have ck := HS1.out.cell (i := 7) (v := V h) (by rfl)
              have fk := HS1.out.free 7 none
              have ix := idx7 (.int .u32 (u a1)) (.int .u32 (u b1)) (.int .u32 (u c1)) (.int .u32 (u d1)) (.int .u32 (u e1)) (.int .u32 (u f1)) (.int .u32 (u g1)) (.int .u32 (u h1))
              unfold V at ck
              go_wp2
              refine QTail.wp_region_lit 11 (by kernel_rfl) (by kernel_rfl) ?_
              simp only [List.take_succ_cons, List.take_zero, List.drop_succ_cons, List.drop_zero]
              repeat (go_big_quiet_step (fail))
              refine wpQuiet_nil ?_
              intro _ hw'
              obtain ⟨nq, rfl⟩ := hw'
              go_wp2
              go_roundw
              case measure => simp [intOf]
              case rel =>
                refine ⟨8, by omega, by go_num, ⟨?_⟩, ⟨(hb.out.drewN nq).setCell (Or.inl rfl) _⟩⟩
                rw [u_add']
                have := (HS1.out.drewN nq).set 7 (V (h + h1))
                exact this
            · go_wp2
              go_end0
              refine ⟨rfl, ?_, hb.out⟩
              have := HS1.out
              rw [blk, ← Hs.out]
              exact this
end Go.Proofs.YtehmhfbfgniekaaGreatDoor.Dg
