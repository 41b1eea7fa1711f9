/- The document's told: the name that bytes say. No condition but the bytes' number. -/
import Derived.Test.YtonhmjodgomeiaaMIxA
namespace Go.Proofs.Ytonhmjodgomeiaa.Ix
set_option linter.unusedVariables false
set_option linter.unusedSimpArgs false
open Go.RowKit Blk Dg Go.Proofs.YtonhmjodgomeiaaW.PrintWords Go.Proofs.YtonhmjodgomeiaaW.PrintLast Go.Proofs.YtonhmjodgomeiaaW.PrintMore

set_option maxHeartbeats 4000000 in
set_option maxRecDepth 100000 in
theorem rtold_calls (A : Option Addr) (c n : Nat) (r : List Int) (w : World) (hC : (Kd.int .u8).C w A n r) (hn : r.length = n) (hc : n ≤ c) (hz : n ≤ 1073741824) (h8 : ∀ x ∈ r, 0 ≤ x ∧ x < 256) :
    Calls Try.prog 37 #[.slice A n c] w fun e w' => e = .returned (.string (toldS r)) ∧ Below w.heap.size w w' := by
  have HC := As.mk hC
  have H8 := As.mk h8
  have HN := As.mk hn
  clear hC h8 hn
  go_enter Try.func37, Try.ntmps37
  go_wp2_with (fail)
  go_loopw [4, 5] (fun v3 v12 wr => ∃ i : Nat, i ≤ n ∧ v12 = .int .i64 i ∧ As ((Kd.int .u8).R 5 wr w.heap.size (fun _ => True) v3 (nameL (r.take i))) ∧ As (Below w.heap.size w wr)) (fun _ v12 _ => n - (intOf v12).toNat)
  case atStart => exact ⟨0, by omega, rfl, ⟨Kd.R_nil _ _ _ _ _⟩, ⟨Below.refl _ _⟩⟩
  case round =>
    obtain ⟨i, hi, rfl, HO, HB⟩ := hrel
    by_cases hlt : i < n
    · obtain ⟨ad, rfl, hcell⟩ := Kd.at_int (Kd.C_below HC.out HB.out) (i : Int) (by omega) (by omega)
      rw [Int.toNat_natCast] at hcell
      obtain ⟨x, hx⟩ : ∃ x, rd r i = x := ⟨_, rfl⟩
      have hxr : r[i]? = some x := by
        rw [← hx]
        have : i < r.length := by rw [HN.out]; exact hlt
        simp [rd, this]
      have hx8 := H8.out x (List.mem_of_getElem? hxr)
      rw [hx] at hcell
      have hx0 := hx8.1
      have hx1 := hx8.2
      have q1 := fun w => digit_at (x / 16) (by omega) (by omega) w
      have q2 := fun w => digit_at (x % 16) (by omega) (by omega) w
      obtain ⟨y1, hy1⟩ : ∃ y, hexd (x / 16) = y := ⟨_, rfl⟩
      obtain ⟨y2, hy2⟩ : ∃ y, hexd (x % 16) = y := ⟨_, rfl⟩
      rw [hy1] at q1
      rw [hy2] at q2
      have HNX : As (nameL (r.take (i + 1)) = nameL (r.take i) ++ [y1, y2]) := ⟨by
        have hil : i < r.length := by rw [HN.out]; exact hlt
        rw [nameL_snoc r i hil, show r.getD i 0 = x by rw [List.getD_eq_getElem?_getD, hxr]; rfl, hy1, hy2]⟩
      have hnl : (nameL (r.take i)).length = 2 * i := by rw [nameL_len, List.length_take, HN.out]; omega
      have HNL := As.mk hnl
      clear hx hx8 hxr hy1 hy2 hnl
      go_wp2_with (fail)
      refine QTail.wp_region_pre 1 15 (by kernel_rfl) (by kernel_rfl) (by intro _ _ d _ _ h; cases d <;> exact h) ?_
      simp only [List.take_succ_cons, List.take_zero, List.drop_succ_cons, List.drop_zero, QTail.pre]
      go_simp
      repeat (go_big_quiet_step (fail))
      refine wpQuiet_nil ?_
      intro nq
      have HO1 : As ((Kd.int .u8).R 5 ((wr.drewN nq).alloc (.cells #[.int .u8 y1, .int .u8 y2] 5)) w.heap.size (fun _ => True) u4 (nameL (r.take i))) := ⟨Kd.R_alloc (Kd.R_drewN HO.out nq) _⟩
      have HB1 : As (Below w.heap.size w ((wr.drewN nq).alloc (.cells #[.int .u8 y1, .int .u8 y2] 5))) := ⟨(Blk.pw_drewN HB.out nq).alloc (below_size (Blk.pw_drewN HB.out nq)) _⟩
      have HC2 := As.mk (C_new2 (wr.drewN nq) y1 y2)
      have hll : ((nameL (r.take i)).length + 2) * 1 ≤ 140737488355328 := by rw [HNL.out]; omega
      go_wp2_with (first
        | ((with_reducible refine gate_builtin (b := .append) (xs := #[.tmp 12, .tmp 27]) rfl ?_); at_builtin; refine Kd.R_append_rows (Kd.int .u8) (Rr := (Kd.int .u8).K ((wr.drewN nq).alloc (.cells #[.int .u8 y1, .int .u8 y2] 5))) (w0 := w) w.heap.size rfl (.tmp 12) (.tmp 27) 23 5 (.int .u8 0) 1 rfl Try.underlying23 info_u8 rfl (by decide) (by omega) _ (nameL (r.take i)) [y1, y2] (some ⟨wr.heap.size, 0, none⟩) 2 2 (fun _ => True) (fun _ => False) rfl rfl HO1.out HC2.out (fun _ _ h => h) (fun _ hk => hk.elim) (fun _ _ => trivial) HB1.out (below_size HB1.out) hll ?_; intro v1 w1 ho hb1 hg hat; have HO2 := As.mk ho; have HB2 := As.mk hb1; clear ho hb1 hat hg)
        | fail)
      refine ⟨⟨i + 1, by omega, by go_num, ⟨by rw [HNX.out]; exact HO2.out⟩, HB2⟩, by simp [intOf]; omega⟩
    · have : i = n := by omega
      subst this
      obtain ⟨A1, c1, rfl, hc1, hC1⟩ := Kd.R_reads HO.out
      have hcv := Kd.C_string (P := Try.prog) (A := A1) (c := c1) Try.underlying23 Try.underlying5 Try.underlying9 hC1
      have ht : r.take i = r := List.take_of_length_le (by rw [HN.out]; exact Nat.le_refl _)
      have HT : As (toldS r = strOfNums (nameL (r.take i))) := ⟨by rw [toldS, ht]⟩
      clear hC1 ht
      go_wp2_with (fail)
      go_ret
      refine ⟨by rw [HT.out]; rfl, HB.out⟩
end Go.Proofs.Ytonhmjodgomeiaa.Ix
