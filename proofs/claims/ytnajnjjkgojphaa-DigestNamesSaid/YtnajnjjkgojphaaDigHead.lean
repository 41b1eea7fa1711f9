/- The live question of the statements of layer 2 is answered yes. No condition. -/
import Derived.Test.YtnajnjjkgojphaaDigNamed
import Derived.Lib.SlBytesConst
namespace Go.Proofs.Ytnajnjjkgojphaa.Dg
open Go.RowKit Blk Go.Proofs.YtnajnjjkgojphaaW.PrintWords Go.Proofs.YtnajnjjkgojphaaW.PrintLast Go.Proofs.YtnajnjjkgojphaaW.PrintMore
set_option linter.unusedVariables false
set_option linter.unusedSimpArgs false

theorem C_row (w : World) (b T : Nat) (l : List Int) (h : Row w b T (l.map (Value.int .u8))) (hl : l.length ≤ 9223372036854775807) : (Kd.int .u8).C w (some ⟨b, 0, none⟩) l.length l := by
  refine Kd.C_of_reads (enc := Value.int .u8) (d := (0 : Int)) ⟨rfl, hl, fun _ => ⟨_, rfl, fun j hj => ?_⟩⟩
  have hadd : (⟨b, 0, none⟩ : Addr).add j = ⟨b, j, none⟩ := by unfold Addr.add; split <;> simp_all
  rw [hadd]
  exact h.cell (by simp [hj])

theorem data_abc : (strOfNums (nameL (shaL [97, 98, 99]))).data = #[98, 97, 55, 56, 49, 54, 98, 102, 56, 102, 48, 49, 99, 102, 101, 97, 52, 49, 52, 49, 52, 48, 100, 101, 53, 100, 97, 101, 50, 50, 50, 51, 98, 48, 48, 51, 54, 49, 97, 51, 57, 54, 49, 55, 55, 97, 57, 99, 98, 52, 49, 48, 102, 102, 54, 49, 102, 50, 48, 48, 49, 53, 97, 100] := by decide +kernel
theorem name_abc : strOfNums (nameL (shaL [97, 98, 99])) = ⟨#[98, 97, 55, 56, 49, 54, 98, 102, 56, 102, 48, 49, 99, 102, 101, 97, 52, 49, 52, 49, 52, 48, 100, 101, 53, 100, 97, 101, 50, 50, 50, 51, 98, 48, 48, 51, 54, 49, 97, 51, 57, 54, 49, 55, 55, 97, 57, 99, 98, 52, 49, 48, 102, 102, 54, 49, 102, 50, 48, 48, 49, 53, 97, 100]⟩ := by
  rw [← data_abc]
theorem hexd_named (n : Int) (h0 : 0 ≤ n) (h1 : n < 16) : hexc (hexd n) = true := by
  unfold hexd hexc
  split <;> simp <;> omega
theorem nameL_8 (r : List Int) (h : ∀ x ∈ r, 0 ≤ x ∧ x < 256) : ∀ x ∈ nameL r, 0 ≤ x ∧ x < 256 := by
  intro x hx
  simp only [nameL, List.mem_flatMap, List.mem_cons, List.not_mem_nil, or_false] at hx
  obtain ⟨a, ha, h1 | h1⟩ := hx
  · rw [h1]; exact hexd_8 _ (by have := h a ha; omega) (by have := h a ha; omega)
  · rw [h1]; exact hexd_8 _ (by omega) (by omega)
/-- A name is one. -/
theorem named_name (l : List Int) : namedL (bytesOf (strOfNums (nameL (shaL l)))) = true := by
  rw [bytesOf_str _ (nameL_8 _ (shaL_8 l)), namedL, nameL_len, shaL_len]
  simp only [decide_true, Bool.true_and, List.all_eq_true]
  intro x hx
  simp only [nameL, List.mem_flatMap, List.mem_cons, List.not_mem_nil, or_false] at hx
  obtain ⟨a, ha, h1 | h1⟩ := hx
  · rw [h1]; exact hexd_named _ (by have := shaL_8 l a ha; omega) (by have := shaL_8 l a ha; omega)
  · rw [h1]; exact hexd_named _ (by omega) (by omega)
theorem size_name (l : List Int) : (strOfNums (nameL (shaL l))).size = 64 := by
  have h := bytesOf_length (strOfNums (nameL (shaL l)))
  rw [bytesOf_str _ (nameL_8 _ (shaL_8 l)), nameL_len, shaL_len] at h
  omega

set_option maxHeartbeats 4000000 in
set_option maxRecDepth 100000 in
theorem head_calls (w : World) : Calls Try.prog 9 #[] w fun e w' => e = .returned (.bool true) ∧ Below w.heap.size w w' := by
  have HC : As ((Kd.int .u8).C (w.alloc (.cells #[.int .u8 97, .int .u8 98, .int .u8 99] 5 (3, 4))) (some ⟨w.heap.size, 0, none⟩) 3 [97, 98, 99]) := by
    refine ⟨Kd.C_of_reads (enc := Value.int .u8) (d := (0 : Int)) ⟨rfl, by decide, fun _ => ⟨_, rfl, fun j hj => ?_⟩⟩⟩
    have hb : (w.alloc (.cells #[.int .u8 97, .int .u8 98, .int .u8 99] 5 (3, 4))).heap[w.heap.size]? = some (.cells #[.int .u8 97, .int .u8 98, .int .u8 99] 5 (3, 4)) := by
      show (w.heap.push _)[w.heap.size]? = _
      simp
    rcases (show j = 0 ∨ j = 1 ∨ j = 2 by omega) with rfl | rfl | rfl <;> (unfold World.cell? Addr.add; simp only [Nat.reduceEqDiff, if_true, if_false]; rw [hb]; rfl)
  have hcv := Lib.run_convert_bytes_const (P := Try.prog) w 22 5 #[.int .u8 97, .int .u8 98, .int .u8 99] 3 3 Try.underlying22 Try.underlying5
  go_enter Try.func9, Try.ntmps9
  go_wp2_with (fail)
  refine (name_calls _ 3 [97, 98, 99] _ HC.out (by decide) (by decide) (by decide)).mono ?_
  rintro e w1 ⟨rfl, hb⟩
  rw [name_abc]
  have HB := As.mk hb
  clear hb
  go_wp2_with (fail)
  refine (name_calls none 0 [] _ (Kd.C_nil _ _) (by decide) (by decide) (by decide)).mono ?_
  rintro e w2 ⟨rfl, hb⟩
  have HB2 := As.mk hb
  clear hb
  go_wp2_with (fail)
  refine (named_calls _ _ (by rw [size_name]; decide)).mono ?_
  rintro e w3 ⟨rfl, hb⟩
  rw [named_name]
  have HB3 := As.mk hb
  clear hb
  go_wp2_with (fail)
  refine (named_calls _ _ (by decide)).mono ?_
  rintro e w4 ⟨rfl, hb⟩
  rw [show namedL (bytesOf ⟨#[97, 98, 99]⟩) = false by decide]
  have HB4 := As.mk hb
  clear hb
  go_wp2_with (fail)
  go_ret
  refine ⟨rfl, ?_⟩
  have h1 := ((Below.refl w.heap.size w).alloc (Nat.le_refl _) (.cells #[.int .u8 97, .int .u8 98, .int .u8 99] 5 (3, 4))).trans (HB.out.mono (by simp))
  have h2 := h1.trans (HB2.out.mono h1.size)
  have h3 := h2.trans (HB3.out.mono h2.size)
  exact h3.trans (HB4.out.mono h3.size)
end Go.Proofs.Ytnajnjjkgojphaa.Dg
