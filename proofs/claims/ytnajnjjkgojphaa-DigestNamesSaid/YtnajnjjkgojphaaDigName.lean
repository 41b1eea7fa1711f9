/- The contract of digest.Name. -/
import Derived.Test.YtnajnjjkgojphaaDigSum
import Derived.Outline
namespace Go.Proofs.Ytnajnjjkgojphaa.Dg
open Go.RowKit Blk Go.Proofs.YtnajnjjkgojphaaW.PrintWords Go.Proofs.YtnajnjjkgojphaaW.PrintLast Go.Proofs.YtnajnjjkgojphaaW.PrintMore
set_option linter.unusedVariables false
set_option linter.unusedSimpArgs false

/-- The digit of a number below 16. -/
def hexd (n : Int) : Int := if n < 10 then 48 + n else 87 + n
def nameL (r : List Int) : List Int := r.flatMap fun c => [hexd (c / 16), hexd (c % 16)]
theorem index_32 (r : List Int) (i : Nat) (hr : r.length = 32) (hi : i < 32) (w : World) :
    (Instr.index 24 (.agg (r.map (Value.int .u8)).toArray) (.int .i64 (i : Int))).run Try.prog w = .ok (.int .u8 (r.getD i 0)) w := by
  have hs : (Try.prog.info? 5).map (·.size) = some 1 := by kernel_rfl
  obtain ⟨inf, h1, h2⟩ := Option.map_eq_some_iff.1 hs
  have h3 : (i : Int) < 32 := by omega
  simp [Instr.index, asIntOf, Try.underlying24, h3, sizeOf, typeInfo, h1, h2, part]
  have h4 : i < r.length := by omega
  rw [if_pos hi]
  simp [h4]
theorem C_new2 (W : World) (x y : Int) : (Kd.int .u8).C (W.alloc (.cells #[.int .u8 x, .int .u8 y] 5)) (some ⟨W.heap.size, 0, none⟩) 2 [x, y] := by
  refine Kd.C_of_reads (enc := Value.int .u8) (d := (0 : Int)) ⟨rfl, by decide, fun _ => ⟨_, rfl, fun j hj => ?_⟩⟩
  have h := Row.new W [.int .u8 x, .int .u8 y] 5
  rcases (show j = 0 ∨ j = 1 by omega) with rfl | rfl
  · exact h.cell (i := 0) rfl
  · exact h.cell (i := 1) rfl
theorem outp_len8 (H : List W) (h : H.length = 8) : (outp H 8).length = 32 := by
  match H, h with
  | [a, b, c, d, e, f, g, h], _ => rfl
theorem shaL_len (l : List Int) : (shaL l).length = 32 := outp_len8 _ (runs_len _ _ _ (runs_len _ _ _ IV_len))
theorem nameL_len (r : List Int) : (nameL r).length = 2 * r.length := by
  induction r with
  | nil => rfl
  | cons a r ih => simp [nameL] at ih ⊢; omega
theorem shaL_8 (l : List Int) : ∀ x ∈ shaL l, 0 ≤ x ∧ x < 256 := by
  unfold shaL outp
  intro x hx
  simp only [List.mem_append, List.mem_flatMap, be, List.mem_cons, List.not_mem_nil, or_false, List.mem_replicate] at hx
  rcases hx with ⟨a, _, h⟩ | h <;> omega


def digs : ByteArray := ⟨#[48, 49, 50, 51, 52, 53, 54, 55, 56, 57, 97, 98, 99, 100, 101, 102]⟩
theorem digit_at (n : Int) (h0 : 0 ≤ n) (h1 : n < 16) (w : World) :
    (Instr.index 9 (.string ⟨#[48, 49, 50, 51, 52, 53, 54, 55, 56, 57, 97, 98, 99, 100, 101, 102]⟩) (.int .u8 n)).run Try.prog w = .ok (.int .u8 (hexd n)) w := by
  rcases (show n = 0 ∨ n = 1 ∨ n = 2 ∨ n = 3 ∨ n = 4 ∨ n = 5 ∨ n = 6 ∨ n = 7 ∨ n = 8 ∨ n = 9 ∨ n = 10 ∨ n = 11 ∨ n = 12 ∨ n = 13 ∨ n = 14 ∨ n = 15 by omega) with rfl | rfl | rfl | rfl | rfl | rfl | rfl | rfl | rfl | rfl | rfl | rfl | rfl | rfl | rfl | rfl <;> kernel_rfl
theorem hexd_8 (n : Int) (h0 : 0 ≤ n) (h1 : n < 16) : 0 ≤ hexd n ∧ hexd n < 256 := by unfold hexd; split <;> omega
theorem nameL_snoc (r : List Int) (i : Nat) (h : i < r.length) : nameL (r.take (i + 1)) = nameL (r.take i) ++ [hexd (r.getD i 0 / 16), hexd (r.getD i 0 % 16)] := by
  rw [List.take_succ_eq_append_getElem h, nameL, List.flatMap_append]
  simp [nameL, h]

set_option maxHeartbeats 4000000 in
theorem name_calls (A : Option Addr) (c : Nat) (l : List Int) (w : World) (hC : (Kd.int .u8).C w A l.length l) (hc : l.length ≤ c) (hl : l.length ≤ 1099511627776) (h8 : ∀ x ∈ l, 0 ≤ x ∧ x < 256) :
    Calls Try.prog 12 #[.slice A l.length c] w fun e w' => e = .returned (.string (strOfNums (nameL (shaL l)))) ∧ Below w.heap.size w w' := by
  go_enter Try.func12, Try.ntmps12
  go_wp2_with (fail)
  refine (sum_calls A c l _ hC hc hl h8).mono ?_
  rintro e w1 ⟨rfl, hb⟩
  go_wp2_with (fail)
  have HB := As.mk hb
  clear hb
  have hlen := shaL_len l
  have h8s := shaL_8 l
  obtain ⟨r, hS⟩ : ∃ r, shaL l = r := ⟨_, rfl⟩
  rw [hS]
  rw [hS] at hlen h8s
  have HL := As.mk hlen
  have H8 := As.mk h8s
  have HSS := As.mk hS
  clear hlen h8s hS
  go_loopw [3, 8] (fun v3 v8 wr => ∃ i : Nat, i ≤ 32 ∧ v8 = .int .i64 i ∧ As ((Kd.int .u8).R 5 wr w.heap.size (fun _ => True) v3 (nameL (r.take i))) ∧ As (Below w.heap.size w wr)) (fun _ v8 _ => 32 - (intOf v8).toNat)
  case atStart => exact ⟨0, by omega, rfl, ⟨Kd.R_nil _ _ _ _ _⟩, HB⟩
  case round =>
    clear HB
    obtain ⟨i, hi, rfl, HO, HB⟩ := hrel
    by_cases hlt : i < 32
    · have hix := fun w => index_32 r i HL.out hlt w
      obtain ⟨x, hx⟩ : ∃ x, r.getD i 0 = x := ⟨_, rfl⟩
      have hx8 : 0 ≤ x ∧ x < 256 := by
        rw [← hx]
        refine H8.out _ ?_
        have : i < r.length := by rw [HL.out]; exact hlt
        simp [this]
      rw [hx] at hix
      have hx0 := hx8.1
      have hx1 := hx8.2
      have q1 := fun w => digit_at (x / 16) (by omega) (by omega) w
      have q2 := fun w => digit_at (x % 16) (by omega) (by omega) w
      generalize hy1 : hexd (x / 16) = y1 at *
      generalize hy2 : hexd (x % 16) = y2 at *
      have HY := As.mk (And.intro hy1 hy2)
      clear hy1 hy2
      have HX := As.mk hx
      clear hx hx8
      go_wp2
      refine QTail.wp_region_pre 1 7 (by kernel_rfl) (by kernel_rfl) (by intro _ _ d _ _ h; cases d <;> exact h) ?_
      simp only [List.take_succ_cons, List.take_zero, List.drop_succ_cons, List.drop_zero, QTail.pre]
      go_simp
      repeat (go_big_quiet_step (fail))
      refine wpQuiet_nil ?_
      intro nq
      have HO1 : As ((Kd.int .u8).R 5 ((wr.drewN nq).alloc (.cells #[.int .u8 y1, .int .u8 y2] 5)) w.heap.size (fun _ => True) u3 (nameL (r.take i))) := ⟨Kd.R_alloc (Kd.R_drewN HO.out nq) _⟩
      have HB1 : As (Below w.heap.size w ((wr.drewN nq).alloc (.cells #[.int .u8 y1, .int .u8 y2] 5))) := ⟨(Blk.pw_drewN HB.out nq).alloc (below_size (Blk.pw_drewN HB.out nq)) _⟩
      have HC := As.mk (C_new2 (wr.drewN nq) y1 y2)
      go_wp2_with (first
        | ((with_reducible refine gate_builtin (b := .append) (xs := #[.tmp 11, .tmp 18]) rfl ?_); at_builtin; refine Kd.R_append_rows (Kd.int .u8) (Rr := (Kd.int .u8).K ((wr.drewN nq).alloc (.cells #[.int .u8 y1, .int .u8 y2] 5))) (w0 := w) w.heap.size rfl (.tmp 11) (.tmp 18) 22 5 (.int .u8 0) 1 rfl Try.underlying22 info_u8 rfl (by decide) (by omega) _ (nameL (r.take i)) [y1, y2] (some ⟨wr.heap.size, 0, none⟩) 2 2 (fun _ => True) (fun _ => False) rfl rfl HO1.out HC.out (fun _ _ h => h) (fun _ hk => hk.elim) (fun _ _ => trivial) HB1.out (below_size HB1.out) (by rw [nameL_len]; simp; omega) ?_; intro v1 w1 ho hb1 hg hat; have HO2 := As.mk ho; have HB2 := As.mk hb1; clear ho hb1 hat hg)
        | fail)
      refine ⟨⟨i + 1, by omega, by go_num, ⟨?_⟩, HB2⟩, by simp [intOf]; omega⟩
      rw [nameL_snoc r i (by rw [HL.out]; exact hlt), HX.out, HY.out.1, HY.out.2]
      exact HO2.out
    · have : i = 32 := by omega
      subst this
      obtain ⟨A1, c1, rfl, hc1, hC1⟩ := Kd.R_reads HO.out
      have hcv := Kd.C_string (P := Try.prog) (A := A1) (c := c1) Try.underlying22 Try.underlying5 Try.underlying9 hC1
      clear hC1
      go_wp2
      go_ret
      refine ⟨?_, HB.out⟩
      rw [HSS.out]
      have ht : r.take 32 = r := List.take_of_length_le (by rw [HL.out]; exact Nat.le_refl _)
      rw [ht]
      rfl
end Go.Proofs.Ytnajnjjkgojphaa.Dg
