/- The walk of DigestPads: the bytes, and some more behind. -/
import Derived.Test.YtnajnjjkgojphaaLawLong
namespace Go.Proofs.Ytnajnjjkgojphaa.Dg
set_option linter.unusedVariables false
set_option linter.unusedSimpArgs false
open Go.RowKit Blk Go.Proofs.YtnajnjjkgojphaaW.PrintWords Go.Proofs.YtnajnjjkgojphaaW.PrintLast Go.Proofs.YtnajnjjkgojphaaW.PrintMore

theorem diff_32 (l m : List Int) (h : shaL l ≠ shaL m) (w : World) : (Op.equalIn 10000 24 (.agg ((shaL l).map (Value.int .u8)).toArray) (.agg ((shaL m).map (Value.int .u8)).toArray)).run Try.prog w = .ok false w := by
  rw [run_equalIn_32 w 9998 _ _ (shaL_len l) (shaL_len m)]
  simp [h]
theorem hexd_inj {a b : Int} (ha : 0 ≤ a ∧ a < 16) (hb : 0 ≤ b ∧ b < 16) (h : hexd a = hexd b) : a = b := by
  unfold hexd at h
  split at h <;> split at h <;> omega
theorem nameL_inj : ∀ {a b : List Int}, (∀ x ∈ a, 0 ≤ x ∧ x < 256) → (∀ x ∈ b, 0 ≤ x ∧ x < 256) → nameL a = nameL b → a = b
  | [], [], _, _, _ => rfl
  | [], _ :: _, _, _, h => by simp [nameL] at h
  | _ :: _, [], _, _, h => by simp [nameL] at h
  | x :: a, y :: b, ha, hb, h => by
    simp only [nameL, List.flatMap_cons, List.cons_append, List.nil_append, List.cons.injEq] at h
    obtain ⟨h1, h2, h3⟩ := h
    have hx := ha x (by simp)
    have hy := hb y (by simp)
    have e1 := hexd_inj (by omega) (by omega) h1
    have e2 := hexd_inj (by omega) (by omega) h2
    rw [nameL_inj (fun z hz => ha z (by simp [hz])) (fun z hz => hb z (by simp [hz])) h3, show x = y by omega]
theorem str_ne (l m : List Int) (h : shaL l ≠ shaL m) : ((strOfNums (nameL (shaL l))).toList == (strOfNums (nameL (shaL m))).toList) = false := by
  rw [ByteArray.toList_eq, ByteArray.toList_eq]
  refine Bool.eq_false_iff.2 fun e => ?_
  have e1 := eq_of_beq e
  have e2 : bytesOf (strOfNums (nameL (shaL l))) = bytesOf (strOfNums (nameL (shaL m))) := by unfold bytesOf; rw [e1]
  rw [bytesOf_str _ (nameL_8 _ (shaL_8 l)), bytesOf_str _ (nameL_8 _ (shaL_8 m))] at e2
  exact h (nameL_inj (shaL_8 l) (shaL_8 m) e2)

set_option maxHeartbeats 4000000 in
set_option maxRecDepth 100000 in
theorem pads_law (A : Option Addr) (c : Nat) (l : List Int) (t : Int) (y : Int) (w : World) (hC : (Kd.int .u8).C w A l.length l) (hc : l.length ≤ c) (hl : l.length ≤ 9223372036854775807) (h8 : ∀ x ∈ l, 0 ≤ x ∧ x < 256)
    (ht0 : 0 ≤ t) (ht1 : t < 256) (hy0 : 0 ≤ y) (hy1 : y < 256) :
    Calls Try.prog 5 #[.slice A l.length c, .int .u8 t, .int .u8 y] w fun e w' => e = .returned (.bool true) ∧ Below w.heap.size w w' := by
  have HC := As.mk hC
  have H8 := As.mk h8
  clear hC h8
  by_cases hbig : 20000 < l.length
  · go_enter Try.func5, Try.ntmps5
    go_wp2_with (fail)
    refine (head_calls _).mono ?_
    rintro e w1 ⟨rfl, hb⟩
    have HB := As.mk hb
    clear hb
    go_wp2_with (fail)
    go_ret
    exact ⟨rfl, HB.out⟩
  · have hq := guard_32
    go_enter Try.func5, Try.ntmps5
    go_wp2_with (fail)
    refine (head_calls _).mono ?_
    rintro e w1 ⟨rfl, hb⟩
    have HB := As.mk hb
    have hE := As.mk (own_empty w1 w.heap.size hb.size)
    have HB1 : As (Below w.heap.size w (w1.alloc (.cells #[] 5))) := ⟨hb.alloc hb.size _⟩
    have hCr := As.mk (Kd.C_below HC.out HB1.out)
    clear hb
    go_wp2_with (first
      | ((with_reducible refine gate_builtin (b := .append) (xs := #[.tmp 15, .tmp 16]) rfl ?_); at_builtin; refine Kd.R_append_rows (Kd.int .u8) (Rr := (Kd.int .u8).K (w1.alloc (.cells #[] 5))) (w0 := w) w.heap.size rfl (.tmp 15) (.tmp 16) 22 5 (.int .u8 0) 1 rfl Try.underlying22 info_u8 rfl (by decide) (by omega) (.slice (some ⟨w1.heap.size, 0, none⟩) 0 0) [] l A l.length c (fun _ => True) (fun _ => False) rfl rfl hE.out hCr.out (fun _ _ h => h) (fun _ hk => hk.elim) (fun _ _ => trivial) HB1.out (below_size HB1.out) (by simp; omega) ?_; intro v2 w2 ho hb1 hg hat; rw [List.nil_append] at ho; have HO := As.mk ho; have HB2 := As.mk hb1; clear ho hb1 hat hg)
      | fail)
    clear HB HB1 hCr hE
    go_loopw [8, 9] (fun v8 v9 wr => ∃ i : Nat, (i : Int) ≤ t ∧ v9 = .int .i64 i ∧ As ((Kd.int .u8).R 5 wr w.heap.size (fun _ => True) v8 (l ++ List.replicate i y)) ∧ As (Below w.heap.size w wr)) (fun _ v9 _ => 256 - (intOf v9).toNat)
    case atStart => exact ⟨0, by omega, rfl, ⟨by rw [List.replicate_zero, List.append_nil]; exact HO.out⟩, HB2⟩
    case round =>
      clear HO HB2
      obtain ⟨i, hi, rfl, HO, HB⟩ := hrel
      by_cases hlt : (i : Int) < t
      · go_wp2_with (first
          | ((with_reducible refine gate_builtin (b := .append) (xs := #[.tmp 24, .tmp 26]) rfl ?_); at_builtin; refine Kd.R_append (Kd.int .u8) (w0 := w) w.heap.size rfl (.tmp 24) (.tmp 26) 22 5 (.int .u8 0) 1 rfl Try.underlying22 info_u8 rfl (by decide) (by omega) _ (l ++ List.replicate i y) y [.int .u8 y] (fun _ => True) (fun _ => False) rfl rfl rfl (fun _ hk => hk.elim) (fun _ _ => trivial) HO.out HB.out (below_size HB.out) (by simp; omega) ?_; intro v1 w1 ho hb1 hg hat; have HO2 := As.mk ho; have HB2 := As.mk hb1; clear ho hb1 hat hg)
          | fail)
        refine ⟨⟨i + 1, by omega, by go_num, ⟨?_⟩, HB2⟩, by simp [intOf]; omega⟩
        rw [List.replicate_succ', ← List.append_assoc]
        exact HO2.out
      · obtain ⟨A1, c1, rfl, hc1, hC1⟩ := Kd.R_reads HO.out
        have hcap : (l ++ List.replicate i y).length ≤ 21000 := by simp; omega
        have h10 : ∀ x ∈ l ++ List.replicate i y, 0 ≤ x ∧ x < 256 := fun x hx => (List.mem_append.1 hx).elim (H8.out x) (fun h => by rw [(List.mem_replicate.1 h).2]; exact ⟨hy0, hy1⟩)
        obtain ⟨m, hm⟩ : ∃ m, l ++ List.replicate i y = m := ⟨_, rfl⟩
        rw [hm] at hcap h10 hc1 hC1 ⊢
        clear hm HO
        have HC1 := As.mk hC1
        have H10 := As.mk h10
        clear hC1 h10
        have he := same_32 m
        by_cases hlm : shaL m = shaL l
        · have he2 : ∀ w, (Op.equalIn 10000 24 (.agg ((shaL m).map (Value.int .u8)).toArray) (.agg ((shaL l).map (Value.int .u8)).toArray)).run Try.prog w = .ok true w := by rw [← hlm]; exact he
          have hs : strOfNums (nameL (shaL m)) = strOfNums (nameL (shaL l)) := by rw [hlm]
          clear hlm
          go_wp2_with (fail)
          refine (sum_calls A1 c1 m _ HC1.out hc1 (by omega) H10.out).mono ?_
          rintro e w3 ⟨rfl, hb⟩
          replace HC1 := As.mk (Kd.C_below HC1.out hb)
          replace HB : As (Below w.heap.size w w3) := ⟨HB.out.trans (hb.mono HB.out.size)⟩
          clear hb
          go_wp2_with (fail)
          refine (rsum_any A1 c1 m _ HC1.out hc1 (by omega) H10.out).mono ?_
          rintro e w4 ⟨rfl, hb⟩
          replace HC1 := As.mk (Kd.C_below HC1.out hb)
          replace HB : As (Below w.heap.size w w4) := ⟨HB.out.trans (hb.mono HB.out.size)⟩
          clear hb
          go_wp2_with (fail)
          refine (name_calls A1 c1 m _ HC1.out hc1 (by omega) H10.out).mono ?_
          rintro e w5 ⟨rfl, hb⟩
          replace HC1 := As.mk (Kd.C_below HC1.out hb)
          replace HB : As (Below w.heap.size w w5) := ⟨HB.out.trans (hb.mono HB.out.size)⟩
          clear hb
          go_wp2_with (fail)
          refine (name_calls A c l _ (Kd.C_below HC.out HB.out) hc (by omega) H8.out).mono ?_
          rintro e w6 ⟨rfl, hb⟩
          replace HC1 := As.mk (Kd.C_below HC1.out hb)
          replace HB : As (Below w.heap.size w w6) := ⟨HB.out.trans (hb.mono HB.out.size)⟩
          clear hb
          go_wp2_with (fail)
          refine (sum_calls A1 c1 m _ HC1.out hc1 (by omega) H10.out).mono ?_
          rintro e w7 ⟨rfl, hb⟩
          replace HC1 := As.mk (Kd.C_below HC1.out hb)
          replace HB : As (Below w.heap.size w w7) := ⟨HB.out.trans (hb.mono HB.out.size)⟩
          clear hb
          go_wp2_with (fail)
          refine (sum_calls A c l _ (Kd.C_below HC.out HB.out) hc (by omega) H8.out).mono ?_
          rintro e w8 ⟨rfl, hb⟩
          replace HB : As (Below w.heap.size w w8) := ⟨HB.out.trans (hb.mono HB.out.size)⟩
          clear hb
          go_wp2_with (fail)
          go_ret
          exact ⟨rfl, HB.out⟩
        · have he2 := diff_32 m l hlm
          have hs := str_ne m l hlm
          clear hlm
          go_wp2_with (fail)
          refine (sum_calls A1 c1 m _ HC1.out hc1 (by omega) H10.out).mono ?_
          rintro e w3 ⟨rfl, hb⟩
          replace HC1 := As.mk (Kd.C_below HC1.out hb)
          replace HB : As (Below w.heap.size w w3) := ⟨HB.out.trans (hb.mono HB.out.size)⟩
          clear hb
          go_wp2_with (fail)
          refine (rsum_any A1 c1 m _ HC1.out hc1 (by omega) H10.out).mono ?_
          rintro e w4 ⟨rfl, hb⟩
          replace HC1 := As.mk (Kd.C_below HC1.out hb)
          replace HB : As (Below w.heap.size w w4) := ⟨HB.out.trans (hb.mono HB.out.size)⟩
          clear hb
          go_wp2_with (fail)
          refine (name_calls A1 c1 m _ HC1.out hc1 (by omega) H10.out).mono ?_
          rintro e w5 ⟨rfl, hb⟩
          replace HC1 := As.mk (Kd.C_below HC1.out hb)
          replace HB : As (Below w.heap.size w w5) := ⟨HB.out.trans (hb.mono HB.out.size)⟩
          clear hb
          go_wp2_with (fail)
          refine (name_calls A c l _ (Kd.C_below HC.out HB.out) hc (by omega) H8.out).mono ?_
          rintro e w6 ⟨rfl, hb⟩
          replace HC1 := As.mk (Kd.C_below HC1.out hb)
          replace HB : As (Below w.heap.size w w6) := ⟨HB.out.trans (hb.mono HB.out.size)⟩
          clear hb
          go_wp2_with (fail)
          refine (sum_calls A1 c1 m _ HC1.out hc1 (by omega) H10.out).mono ?_
          rintro e w7 ⟨rfl, hb⟩
          replace HC1 := As.mk (Kd.C_below HC1.out hb)
          replace HB : As (Below w.heap.size w w7) := ⟨HB.out.trans (hb.mono HB.out.size)⟩
          clear hb
          go_wp2_with (fail)
          refine (sum_calls A c l _ (Kd.C_below HC.out HB.out) hc (by omega) H8.out).mono ?_
          rintro e w8 ⟨rfl, hb⟩
          replace HB : As (Below w.heap.size w w8) := ⟨HB.out.trans (hb.mono HB.out.size)⟩
          clear hb
          go_wp2_with (fail)
          go_ret
          exact ⟨rfl, HB.out⟩
end Go.Proofs.Ytnajnjjkgojphaa.Dg
