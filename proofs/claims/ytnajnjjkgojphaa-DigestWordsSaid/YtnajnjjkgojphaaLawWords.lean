/- The walk of DigestWords: two appends, then the sums and the names side by side. -/
import Derived.Test.YtnajnjjkgojphaaLawTells
namespace Go.Proofs.Ytnajnjjkgojphaa.Dg
set_option linter.unusedVariables false
set_option linter.unusedSimpArgs false
open Go.RowKit Blk Go.Proofs.YtnajnjjkgojphaaW.PrintWords Go.Proofs.YtnajnjjkgojphaaW.PrintLast Go.Proofs.YtnajnjjkgojphaaW.PrintMore

set_option maxHeartbeats 4000000 in
set_option maxRecDepth 100000 in
theorem words_law (A : Option Addr) (c : Nat) (l : List Int) (B : Option Addr) (d : Nat) (k : List Int) (w : World) (hC : (Kd.int .u8).C w A l.length l) (hc : l.length ≤ c) (hl : l.length ≤ 9223372036854775807) (h8 : ∀ x ∈ l, 0 ≤ x ∧ x < 256)
    (hD : (Kd.int .u8).C w B k.length k) (hd : k.length ≤ d) (hk : k.length ≤ 9223372036854775807) (h9 : ∀ x ∈ k, 0 ≤ x ∧ x < 256) :
    Calls Try.prog 6 #[.slice A l.length c, .slice B k.length d] w fun e w' => e = .returned (.bool true) ∧ Below w.heap.size w w' := by
  have HC := As.mk hC
  have H8 := As.mk h8
  have HD := As.mk hD
  have H9 := As.mk h9
  clear hC h8 hD h9
  by_cases hbig : 9000 < l.length
  · go_enter Try.func6, Try.ntmps6
    go_wp2_with (fail)
    refine (head_calls _).mono ?_
    rintro e w1 ⟨rfl, hb⟩
    have HB := As.mk hb
    clear hb
    go_wp2_with (fail)
    go_ret
    exact ⟨rfl, HB.out⟩
  · by_cases hbig2 : 9000 < k.length
    · go_enter Try.func6, Try.ntmps6
      go_wp2_with (fail)
      refine (head_calls _).mono ?_
      rintro e w1 ⟨rfl, hb⟩
      have HB := As.mk hb
      clear hb
      go_wp2_with (fail)
      go_ret
      exact ⟨rfl, HB.out⟩
    · have hq := guard_32
      have he := same_32 (l ++ k)
      have he2 := same_32 l
      go_enter Try.func6, Try.ntmps6
      go_wp2_with (fail)
      refine (head_calls _).mono ?_
      rintro e w1 ⟨rfl, hb⟩
      have HB := As.mk hb
      have hE := As.mk (own_empty w1 w.heap.size hb.size)
      have HB1 : As (Below w.heap.size w (w1.alloc (.cells #[] 5))) := ⟨hb.alloc hb.size _⟩
      have hCr := As.mk (Kd.C_below HC.out HB1.out)
      clear hb
      go_wp2_with (first
        | ((with_reducible refine gate_builtin (b := .append) (xs := #[.tmp 17, .tmp 18]) rfl ?_); at_builtin; refine Kd.R_append_rows (Kd.int .u8) (Rr := (Kd.int .u8).K (w1.alloc (.cells #[] 5))) (w0 := w) w.heap.size rfl (.tmp 17) (.tmp 18) 22 5 (.int .u8 0) 1 rfl Try.underlying22 info_u8 rfl (by decide) (by omega) (.slice (some ⟨w1.heap.size, 0, none⟩) 0 0) [] l A l.length c (fun _ => True) (fun _ => False) rfl rfl hE.out hCr.out (fun _ _ h => h) (fun _ hk => hk.elim) (fun _ _ => trivial) HB1.out (below_size HB1.out) (by simp; omega) ?_; intro v2 w2 ho hb1 hg hat; have HO := As.mk ho; have HB2 := As.mk hb1; clear ho hb1 hat hg)
        | ((with_reducible refine gate_builtin (b := .append) (xs := #[.tmp 19, .tmp 20]) rfl ?_); at_builtin; refine Kd.R_append_rows (Kd.int .u8) (Rr := (Kd.int .u8).K w2) (w0 := w) w.heap.size rfl (.tmp 19) (.tmp 20) 22 5 (.int .u8 0) 1 rfl Try.underlying22 info_u8 rfl (by decide) (by omega) v2 ([] ++ l) k B k.length d (fun _ => True) (fun _ => False) rfl rfl HO.out (Kd.C_below HD.out HB2.out) (fun _ _ h => h) (fun _ hk => hk.elim) (fun _ _ => trivial) HB2.out (below_size HB2.out) (by simp; omega) ?_; intro v3 w3 ho hb1 hg hat; have HO3 := As.mk ho; have HB3 := As.mk hb1; clear ho hb1 hat hg)
        | fail)
      rw [List.nil_append] at HO3
      have h10 : ∀ x ∈ l ++ k, 0 ≤ x ∧ x < 256 := fun x hx => (List.mem_append.1 hx).elim (H8.out x) (H9.out x)
      have hlk : (l ++ k).length ≤ 1099511627776 := by simp; omega
      obtain ⟨m, hm⟩ : ∃ m, l ++ k = m := ⟨_, rfl⟩
      rw [hm] at HO3 he h10 hlk
      clear hm
      obtain ⟨A3, c3, hv3, hc3, hC3⟩ := Kd.R_reads HO3.out
      have HC3 := As.mk hC3
      have H10 := As.mk h10
      have HLK := As.mk hlk
      clear h10 hC3 hlk
      subst hv3
      clear HO HO3
      go_wp2_with (fail)
      refine (sum_calls A3 c3 m _ HC3.out hc3 HLK.out H10.out).mono ?_
      rintro e w4 ⟨rfl, hb⟩
      replace HC3 := As.mk (Kd.C_below HC3.out hb)
      replace HB3 : As (Below w.heap.size w w4) := ⟨HB3.out.trans (hb.mono HB3.out.size)⟩
      clear hb
      go_wp2_with (fail)
      refine (rsum_any A3 c3 m _ HC3.out hc3 HLK.out H10.out).mono ?_
      rintro e w5 ⟨rfl, hb⟩
      replace HC3 := As.mk (Kd.C_below HC3.out hb)
      replace HB3 : As (Below w.heap.size w w5) := ⟨HB3.out.trans (hb.mono HB3.out.size)⟩
      clear hb
      go_wp2_with (fail)
      refine (sum_calls A c l _ (Kd.C_below HC.out HB3.out) hc (by omega) H8.out).mono ?_
      rintro e w6 ⟨rfl, hb⟩
      replace HB3 : As (Below w.heap.size w w6) := ⟨HB3.out.trans (hb.mono HB3.out.size)⟩
      clear hb
      go_wp2_with (fail)
      refine (rsum_any A c l _ (Kd.C_below HC.out HB3.out) hc (by omega) H8.out).mono ?_
      rintro e w7 ⟨rfl, hb⟩
      replace HB3 : As (Below w.heap.size w w7) := ⟨HB3.out.trans (hb.mono HB3.out.size)⟩
      clear hb
      go_wp2_with (fail)
      refine (name_calls B d k _ (Kd.C_below HD.out HB3.out) hd (by omega) H9.out).mono ?_
      rintro e w8 ⟨rfl, hb⟩
      replace HB3 : As (Below w.heap.size w w8) := ⟨HB3.out.trans (hb.mono HB3.out.size)⟩
      clear hb
      go_wp2_with (fail)
      refine (rname_calls B d k _ (Kd.C_below HD.out HB3.out) hd (by omega) H9.out).mono ?_
      rintro e w9 ⟨rfl, hb⟩
      replace HB3 : As (Below w.heap.size w w9) := ⟨HB3.out.trans (hb.mono HB3.out.size)⟩
      clear hb
      go_wp2_with (fail)
      go_ret
      exact ⟨rfl, HB3.out⟩
end Go.Proofs.Ytnajnjjkgojphaa.Dg
