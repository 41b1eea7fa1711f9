/- The walks of the statements of layer 2 that compare with the reference. No condition but the reach of what came in. -/
import Derived.Test.YtnajnjjkgojphaaLawStill
import Derived.Test.YtnajnjjkgojphaaRefName
namespace Go.Proofs.Ytnajnjjkgojphaa.Dg
set_option linter.unusedVariables false
set_option linter.unusedSimpArgs false
open Go.RowKit Blk Go.Proofs.YtnajnjjkgojphaaW.PrintWords Go.Proofs.YtnajnjjkgojphaaW.PrintLast Go.Proofs.YtnajnjjkgojphaaW.PrintMore

theorem rsum_any (A : Option Addr) (c : Nat) (l : List Int) (w : World) (hC : (Kd.int .u8).C w A l.length l) (hc : l.length ≤ c) (hl : l.length ≤ 1099511627776) (h8 : ∀ x ∈ l, 0 ≤ x ∧ x < 256) :
    Calls Try.prog 11 #[.slice A l.length c] w fun e w' => e = .returned (.agg ((shaL l).map (Value.int .u8)).toArray) ∧ Below w.heap.size w w' := by
  rw [← shaR_eq]; exact rsum_calls A c l w hC hc hl h8
theorem guard_32 : Try.prog.eqGuardType Try.prog.depth 24 = false := by kernel_rfl
theorem same_32 (l : List Int) (w : World) : (Op.equalIn 10000 24 (.agg ((shaL l).map (Value.int .u8)).toArray) (.agg ((shaL l).map (Value.int .u8)).toArray)).run Try.prog w = .ok true w := by
  rw [run_equalIn_32 w 9998 _ _ (shaL_len l) (shaL_len l)]
  simp

set_option maxHeartbeats 4000000 in
set_option maxRecDepth 100000 in
theorem tells_law (A : Option Addr) (c : Nat) (l : List Int) (s : ByteArray) (w : World) (hC : (Kd.int .u8).C w A l.length l) (hc : l.length ≤ c) (hl : l.length ≤ 9223372036854775807) (h8 : ∀ x ∈ l, 0 ≤ x ∧ x < 256) (hs : s.size ≤ 9223372036854775807) :
    Calls Try.prog 3 #[.slice A l.length c, .string s] w fun e w' => e = .returned (.bool true) ∧ Below w.heap.size w w' := by
  have HC := As.mk hC
  have H8 := As.mk h8
  clear hC h8
  by_cases hbig : 20000 < l.length
  · go_enter Try.func3, Try.ntmps3
    go_wp2_with (fail)
    refine (head_calls _).mono ?_
    rintro e w1 ⟨rfl, hb⟩
    have HB := As.mk hb
    clear hb
    go_wp2_with (fail)
    go_ret
    exact ⟨rfl, HB.out⟩
  · by_cases hsb : 3000 < s.size
    · go_enter Try.func3, Try.ntmps3
      go_wp2_with (fail)
      refine (head_calls _).mono ?_
      rintro e w1 ⟨rfl, hb⟩
      have HB := As.mk hb
      clear hb
      go_wp2_with (fail)
      go_ret
      exact ⟨rfl, HB.out⟩
    · have hq := guard_32
      have he := same_32 l
      go_enter Try.func3, Try.ntmps3
      go_wp2_with (fail)
      refine (head_calls _).mono ?_
      rintro e w1 ⟨rfl, hb⟩
      have HB := As.mk hb
      clear hb
      go_wp2_with (fail)
      refine (sum_calls A c l _ (Kd.C_below HC.out HB.out) hc (by omega) H8.out).mono ?_
      rintro e w2 ⟨rfl, hb⟩
      replace HB : As (Below w.heap.size w w2) := ⟨HB.out.trans (hb.mono HB.out.size)⟩
      clear hb
      go_wp2_with (fail)
      refine (rsum_any A c l _ (Kd.C_below HC.out HB.out) hc (by omega) H8.out).mono ?_
      rintro e w3 ⟨rfl, hb⟩
      replace HB : As (Below w.heap.size w w3) := ⟨HB.out.trans (hb.mono HB.out.size)⟩
      clear hb
      go_wp2_with (fail)
      refine (name_calls A c l _ (Kd.C_below HC.out HB.out) hc (by omega) H8.out).mono ?_
      rintro e w4 ⟨rfl, hb⟩
      replace HB : As (Below w.heap.size w w4) := ⟨HB.out.trans (hb.mono HB.out.size)⟩
      clear hb
      go_wp2_with (fail)
      refine (rname_calls A c l _ (Kd.C_below HC.out HB.out) hc (by omega) H8.out).mono ?_
      rintro e w5 ⟨rfl, hb⟩
      replace HB : As (Below w.heap.size w w5) := ⟨HB.out.trans (hb.mono HB.out.size)⟩
      clear hb
      go_wp2_with (fail)
      refine (named_calls s _ (by omega)).mono ?_
      rintro e w6 ⟨rfl, hb⟩
      replace HB : As (Below w.heap.size w w6) := ⟨HB.out.trans (hb.mono HB.out.size)⟩
      clear hb
      go_wp2_with (fail)
      refine (rnamed_calls s _).mono ?_
      rintro e w7 ⟨rfl, hb⟩
      replace HB : As (Below w.heap.size w w7) := ⟨HB.out.trans (hb.mono HB.out.size)⟩
      clear hb
      go_wp2_with (fail)
      go_ret
      exact ⟨rfl, HB.out⟩

end Go.Proofs.Ytnajnjjkgojphaa.Dg
