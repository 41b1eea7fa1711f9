/- The contract of the reference's schedule. No condition. -/
import Derived.Test.YtnajnjjkgojphaaRefRounds
import Derived.Test.YtnajnjjkgojphaaDigSum
import Derived.Test.YtnajnjjkgojphaaQTail
namespace Go.Proofs.Ytnajnjjkgojphaa.Dg
set_option linter.unusedVariables false
set_option linter.unusedSimpArgs false
open Go.RowKit Blk Go.Proofs.YtnajnjjkgojphaaW.PrintWords Go.Proofs.YtnajnjjkgojphaaW.PrintLast Go.Proofs.YtnajnjjkgojphaaW.PrintMore

/-- The first i bytes of word t. -/
def part4 (m : List Int) (t : Nat) : Nat → W
  | 0 => 0
  | i + 1 => part4 m t i * 256#32 + BitVec.ofInt 32 (m.getD (4 * t + i) 0)
theorem part4_word (m : List Int) (t : Nat) : part4 m t 4 = word m t := by
  simp only [part4, word, w4, BitVec.ofInt_add, BitVec.ofInt_mul, Nat.add_zero]
  generalize BitVec.ofInt 32 (m.getD (4 * t) 0) = a
  generalize BitVec.ofInt 32 (m.getD (4 * t + 1) 0) = b
  generalize BitVec.ofInt 32 (m.getD (4 * t + 2) 0) = c
  generalize BitVec.ofInt 32 (m.getD (4 * t + 3) 0) = d
  rw [show BitVec.ofInt 32 16777216 = 256#32 * 256#32 * 256#32 by decide, show BitVec.ofInt 32 65536 = 256#32 * 256#32 by decide, show BitVec.ofInt 32 256 = 256#32 by decide]
  grind
theorem mul_u (x : W) (n : Int) : (u x * 256 + n) % 4294967296 = u (x * 256#32 + BitVec.ofInt 32 n) := by
  rw [mod_u, BitVec.ofInt_add, BitVec.ofInt_mul, u_ofInt]; rfl
/-- Word t of the schedule while it is made. -/
def inner (m : List Int) (t i : Nat) : List Value := (sch m t ++ part4 m t i :: List.replicate (63 - t) 0).map V
theorem inner_0 (m : List Int) (t : Nat) (h : t < 64) : (sch m t ++ List.replicate (64 - t) 0).map V = inner m t 0 := by
  unfold inner
  rw [show 64 - t = (63 - t) + 1 by omega, List.replicate_succ]; rfl
theorem inner_at (m : List Int) (t i : Nat) : (inner m t i)[t]? = some (V (part4 m t i)) := by
  unfold inner
  rw [List.getElem?_map, List.getElem?_append_right (by rw [sch_length]; exact Nat.le_refl _), sch_length, Nat.sub_self]
  rfl
theorem inner_set (m : List Int) (t i : Nat) (x : W) (h : x = part4 m t (i + 1)) : (inner m t i).set t (V x) = inner m t (i + 1) := by
  subst h
  unfold inner
  rw [← List.map_set, List.set_append_right _ _ (by rw [sch_length]; exact Nat.le_refl _), sch_length, Nat.sub_self, List.set_cons_zero]
theorem inner_4 (m : List Int) (t : Nat) (h : t < 16) : inner m t 4 = (sch m (t + 1) ++ List.replicate (64 - (t + 1)) 0).map V := by
  unfold inner
  rw [part4_word, sch, nxt, if_pos h, show 64 - (t + 1) = 63 - t by omega]
  simp

theorem all_V (l : List W) : ((l.map V).toArray).all (·.oneCell') = true := by simp [V, Value.oneCell']
theorem cell_at' {w : World} {b o n : Nat} {v : Value} (h : w.cell? ((⟨b, o, none⟩ : Addr).add n) = some v) : w.cell? ⟨b, o + n, none⟩ = some v := by
  unfold Addr.add at h
  split at h
  · rename_i e; subst e; exact h
  · exact h
set_option maxHeartbeats 4000000 in
set_option maxRecDepth 100000 in
theorem schedule_calls (A : Option Addr) (cap : Nat) (m : List Int) (w : World) (hm : m.length = 64) (hm8 : ∀ x ∈ m, 0 ≤ x ∧ x < 256) (hC : (Kd.int .u8).C w A 64 m) :
    Calls Try.prog 26 #[.slice A 64 cap] w fun e w' => e = .returned (.agg ((sch m 64).map V).toArray) ∧ Below w.heap.size w w' := by
  have hz := zero_64
  obtain ⟨ad, rfl, _⟩ := Kd.at_int hC (0 : Int) (by omega) (by omega)
  obtain ⟨bb, off, sp⟩ := ad
  have hsp : sp = none := by simpa [Addr.add] using cell_spot (cell_of_C hC 0 (by omega))
  subst hsp
  have HC := As.mk hC
  have HM := As.mk hm
  have H8 := As.mk hm8
  have hR0 : As (Row ((w.alloc (.cells Z64 39)).alloc (.cells Z64 39)) (w.heap.size + 1) 39 ((sch m 0 ++ List.replicate (64 - 0) 0).map V)) := ⟨by
    have := Row.new (w.alloc (.cells Z64 39)) (List.replicate 64 (V 0)) 39
    rw [show (w.alloc (.cells Z64 39)).heap.size = w.heap.size + 1 from by simp] at this
    exact this⟩
  have hX0 : As (Row ((w.alloc (.cells Z64 39)).alloc (.cells Z64 39)) w.heap.size 39 (List.replicate 64 (V 0))) := ⟨(Row.new w (List.replicate 64 (V 0)) 39).alloc _⟩
  have hB0 : As (Below w.heap.size w ((w.alloc (.cells Z64 39)).alloc (.cells Z64 39))) := ⟨((Below.refl _ _).alloc (Nat.le_refl _) _).alloc (by simp) _⟩
  clear hC hm hm8
  go_enter Try.func26, Try.ntmps26
  go_wp2
  go_loopw [4] (fun v4 wr => ∃ t : Nat, t ≤ 64 ∧ v4 = .int .i64 t ∧ As (Row wr (w.heap.size + 1) 39 ((sch m t ++ List.replicate (64 - t) 0).map V)) ∧ As (Row wr w.heap.size 39 (List.replicate 64 (V 0))) ∧ As (Below w.heap.size w wr)) (fun v4 _ => 64 - (intOf v4).toNat)
  case atStart => exact ⟨0, by omega, rfl, hR0, hX0, hB0⟩
  case round =>
    clear hR0 hX0 hB0 hz
    obtain ⟨t, ht, rfl, hR, hX, hB⟩ := hrel
    by_cases h64 : t < 64
    · by_cases h16 : t < 16
      · go_wp2
        obtain ⟨wo, hwo⟩ : ∃ wo : World, wo = wr := ⟨_, rfl⟩
        subst hwo
        go_loopw [5] (fun v5 wr => ∃ i : Nat, i ≤ 4 ∧ v5 = .int .i64 i ∧ As (Row wr (w.heap.size + 1) 39 (inner m t i)) ∧ As (Row wr w.heap.size 39 (List.replicate 64 (V 0))) ∧ As (Below w.heap.size w wr)) (fun v5 _ => 4 - (intOf v5).toNat)
        case atStart => exact ⟨0, by omega, rfl, ⟨by rw [← inner_0 m t h64]; exact hR.out⟩, hX, hB⟩
        case round =>
          clear hR hX hB wo
          obtain ⟨i, hi, rfl, hR, hX, hB⟩ := hrel
          by_cases h4 : i < 4
          · have hcell := cell_at' (cell_of_C (Kd.C_below HC.out hB.out) (4 * t + i) (by omega))
            obtain ⟨x, hx, x0, x1⟩ : ∃ x, m.getD (4 * t + i) 0 = x ∧ 0 ≤ x ∧ x < 256 := ⟨_, rfl, H8.out _ (by
              have : 4 * t + i < m.length := by rw [HM.out]; omega
              simp [this])⟩
            rw [hx] at hcell
            have hw := hR.out.cell (inner_at m t i)
            have hf := hR.out.free t none
            obtain ⟨p, hp⟩ : ∃ p, part4 m t i = p := ⟨_, rfl⟩
            rw [hp] at hw
            unfold V at hw
            have E := As.mk (And.intro hx hp)
            clear hx hp
            go_wp2
            refine QTail.wp_region_lit 15 (by kernel_rfl) (by kernel_rfl) ?_
            simp only [List.take_succ_cons, List.take_zero, List.drop_succ_cons, List.drop_zero]
            repeat (go_big_quiet_step (fail))
            refine wpQuiet_nil ?_
            intro _ hw'
            obtain ⟨nq, rfl⟩ := hw'
            go_wp2
            go_roundw
            case measure => simp [intOf]; omega
            case rel =>
              refine ⟨i + 1, by omega, by go_num, ⟨?_⟩, ⟨(hX.out.drewN nq).set_ne (by simp) _⟩, ⟨(Blk.pw_drewN hB.out nq).setCell (by simp) _⟩⟩
              rw [show u p * 256 % 4294967296 + x = (u p * 256 + x) % 4294967296 by omega, mul_u]
              have := (hR.out.drewN nq).set t (V (p * 256#32 + BitVec.ofInt 32 x))
              rw [inner_set m t i _ (by rw [part4, E.out.1, E.out.2])] at this
              exact this
          · have : i = 4 := by omega
            subst this
            go_wp2
            refine ⟨⟨t + 1, by omega, by go_num, ⟨?_⟩, hX, hB⟩, by simp [intOf]; omega⟩
            rw [← inner_4 m t h16]
            exact hR.out
      · have hb16 : 16 ≤ t := by omega
        have cell (j : Nat) (hj : j < t) := hR.out.cell (sch_at m t j hj)
        obtain ⟨x2, h2⟩ : ∃ x, (sch m t).getD (t - 2) 0 = x := ⟨_, rfl⟩
        obtain ⟨x7, h7⟩ : ∃ x, (sch m t).getD (t - 7) 0 = x := ⟨_, rfl⟩
        obtain ⟨x15, h15⟩ : ∃ x, (sch m t).getD (t - 15) 0 = x := ⟨_, rfl⟩
        obtain ⟨x16, h16'⟩ : ∃ x, (sch m t).getD (t - 16) 0 = x := ⟨_, rfl⟩
        have c2 := cell (t - 2) (by omega)
        have c7 := cell (t - 7) (by omega)
        have c15 := cell (t - 15) (by omega)
        have c16 := cell (t - 16) (by omega)
        rw [h2] at c2
        rw [h7] at c7
        rw [h15] at c15
        rw [h16'] at c16
        unfold V at c2 c7 c15 c16
        have E := As.mk (And.intro h2 (And.intro h7 (And.intro h15 h16')))
        clear h2 h7 h15 h16' cell
        obtain ⟨vz, hvz⟩ : ∃ v, ((sch m t ++ List.replicate (64 - t) 0).map V)[t]? = some v := ⟨_, List.getElem?_eq_getElem (by simp [sch_length]; omega)⟩
        have hcw := hR.out.cell hvz
        have hfw := hR.out.free t none
        clear hvz
        go_wp2
        go_quiet (first | (go_at_call 28; exact Calls.quiet_of (turn_any _ _ _ (by decide))) | (go_at_call 27; exact Calls.quiet_of (three_any _ _ _ _)))
        replace c7 : (wr.drewN nq).cell? ⟨w.heap.size + 1, t - 7, none⟩ = _ := c7
        replace c15 : (wr.drewN nq).cell? ⟨w.heap.size + 1, t - 15, none⟩ = _ := c15
        replace c16 : (wr.drewN nq).cell? ⟨w.heap.size + 1, t - 16, none⟩ = _ := c16
        replace hcw : (wr.drewN nq).cell? ⟨w.heap.size + 1, t, none⟩ = _ := hcw
        replace hfw : (wr.drewN nq).frozen? ⟨w.heap.size + 1, t, none⟩ = _ := hfw
        replace hR := As.mk (hR.out.drewN nq)
        replace hX := As.mk (hX.out.drewN nq)
        replace hB := As.mk (Blk.pw_drewN hB.out nq)
        clear c2
        generalize wr.drewN nq = wq at *
        clear wr
        go_wp2
        go_quiet (first | (go_at_call 28; exact Calls.quiet_of (turn_any _ _ _ (by decide))) | (go_at_call 27; exact Calls.quiet_of (three_any _ _ _ _)))
        replace c7 : (wq.drewN nq).cell? ⟨w.heap.size + 1, t - 7, none⟩ = _ := c7
        replace c16 : (wq.drewN nq).cell? ⟨w.heap.size + 1, t - 16, none⟩ = _ := c16
        replace hcw : (wq.drewN nq).cell? ⟨w.heap.size + 1, t, none⟩ = _ := hcw
        replace hfw : (wq.drewN nq).frozen? ⟨w.heap.size + 1, t, none⟩ = _ := hfw
        replace hR := As.mk (hR.out.drewN nq)
        replace hX := As.mk (hX.out.drewN nq)
        replace hB := As.mk (Blk.pw_drewN hB.out nq)
        clear c15
        generalize wq.drewN nq = wz at *
        clear wq
        go_wp2
        refine QTail.wp_region_lit 15 (by kernel_rfl) (by kernel_rfl) ?_
        simp only [List.take_succ_cons, List.take_zero, List.drop_succ_cons, List.drop_zero]
        repeat (go_big_quiet_step (fail))
        refine wpQuiet_nil ?_
        intro _ hw'
        obtain ⟨nq, rfl⟩ := hw'
        go_wp2
        go_roundw
        case measure => simp [intOf]; omega
        case rel =>
          refine ⟨t + 1, by omega, by go_num, ⟨?_⟩, ⟨(hX.out.drewN nq).set_ne (by simp) _⟩, ⟨(Blk.pw_drewN hB.out nq).setCell (by simp) _⟩⟩
          have := (hR.out.drewN nq).set t (V (nxt m (sch m t) t))
          rw [sch_set m t h64] at this
          have hn : nxt m (sch m t) t = s1 x2 + x7 + s0 x15 + x16 := by
            rw [nxt, if_neg h16, E.out.1, E.out.2.1, E.out.2.2.1, E.out.2.2.2]
          rw [hn] at this
          rw [sched_word]
          exact this
    · have : t = 64 := by omega
      subst this
      go_wp2_with (first
        | (refine wpList_load_row rfl 39 (.tmp 3) rfl (w.heap.size + 1) rfl 39 _ (0, 0) _ hR.out Try.underlying39 rfl (by rw [info_64]; simp [sch_length]) ?_)
        | (refine wpList_store_row rfl 39 (.tmp 2) (.tmp 80) rfl w.heap.size ((sch m 64 ++ List.replicate (64 - 64) 0).map V).toArray rfl rfl 39 _ hX.out (by rw [info_64]; simp [sch_length]) (by simp [sch_length]) (all_V _) ?_)
        | fail)
      refine bodyPost_ret (v := .agg ((sch m 64 ++ List.replicate (64 - 64) 0).map V).toArray) (results_cell_row rfl _ _ w.heap.size 39 _ (0, 0) _ rfl (setRow_heap _ _ _ _ _ _ hX.out) Try.underlying39 rfl (by rw [info_64]; simp [sch_length])) rfl ⟨?_, below_setRow hB.out (Nat.le_refl _) _⟩
      simp
end Go.Proofs.Ytnajnjjkgojphaa.Dg
