/- The contracts of the reference's turn and three. No condition. -/
import Derived.Test.YtnajnjjkgojphaaProg
import Derived.Test.YtnajnjjkgojphaaW32
import Derived.Test.YtnajnjjkgojphaaSha
import Derived.Deep.QuietTactic
import Derived.BigQuiet
import Derived.WalkKit
import Derived.KernelRfl
namespace Go.Proofs.Ytnajnjjkgojphaa.Dg
set_option linter.unusedVariables false
set_option linter.unusedSimpArgs false
open Go.RowKit

theorem rr_add (x : BitVec 32) (n : Nat) (h : n < 32) (h0 : 0 < n) : x >>> n + x <<< (32 - n) = rr x n := by
  unfold rr
  have hz : x >>> n &&& x <<< (32 - n) = 0#32 := by
    ext i hi
    by_cases h2 : i < 32 - n
    · simp [h2]
    · have := BitVec.getLsbD_of_ge x (n + i) (by omega)
      simp [this]
  rw [BitVec.add_eq_or_of_and_eq_zero _ _ hz, BitVec.or_comm]
theorem turn2 (x : BitVec 32) (w : World) :
    Calls Try.prog 28 #[.int .u32 (u x), .int .i64 2] w fun e w' => e = .returned (.int .u32 (u (rr x 2))) ∧ ∃ m, w' = w.drewN m := by
  have h0 := u_nonneg x
  have h1 := u_lt x
  go_enter Try.func28, Try.ntmps28
  go_wp2
  go_quiet (fail)
  go_wp2
  go_ret
  refine ⟨congrArg (fun z => Ending.returned (.int .u32 z)) ?_, _, rfl⟩
  have e : u x / 4 + u x * 1073741824 % 4294967296 = (u x / 4 + u x * 1073741824 % 4294967296) % 4294967296 := by omega
  refine e.trans ?_
  rw [u_shlc x 30 1073741824 (by decide), u_shrc x 2 4 (by decide), mod_u2, rr_add x 2 (by decide) (by decide)]
theorem turn6 (x : BitVec 32) (w : World) :
    Calls Try.prog 28 #[.int .u32 (u x), .int .i64 6] w fun e w' => e = .returned (.int .u32 (u (rr x 6))) ∧ ∃ m, w' = w.drewN m := by
  have h0 := u_nonneg x
  have h1 := u_lt x
  go_enter Try.func28, Try.ntmps28
  go_wp2
  go_quiet (fail)
  go_wp2
  go_ret
  refine ⟨congrArg (fun z => Ending.returned (.int .u32 z)) ?_, _, rfl⟩
  have e : u x / 64 + u x * 67108864 % 4294967296 = (u x / 64 + u x * 67108864 % 4294967296) % 4294967296 := by omega
  refine e.trans ?_
  rw [u_shlc x 26 67108864 (by decide), u_shrc x 6 64 (by decide), mod_u2, rr_add x 6 (by decide) (by decide)]
theorem turn7 (x : BitVec 32) (w : World) :
    Calls Try.prog 28 #[.int .u32 (u x), .int .i64 7] w fun e w' => e = .returned (.int .u32 (u (rr x 7))) ∧ ∃ m, w' = w.drewN m := by
  have h0 := u_nonneg x
  have h1 := u_lt x
  go_enter Try.func28, Try.ntmps28
  go_wp2
  go_quiet (fail)
  go_wp2
  go_ret
  refine ⟨congrArg (fun z => Ending.returned (.int .u32 z)) ?_, _, rfl⟩
  have e : u x / 128 + u x * 33554432 % 4294967296 = (u x / 128 + u x * 33554432 % 4294967296) % 4294967296 := by omega
  refine e.trans ?_
  rw [u_shlc x 25 33554432 (by decide), u_shrc x 7 128 (by decide), mod_u2, rr_add x 7 (by decide) (by decide)]
theorem turn11 (x : BitVec 32) (w : World) :
    Calls Try.prog 28 #[.int .u32 (u x), .int .i64 11] w fun e w' => e = .returned (.int .u32 (u (rr x 11))) ∧ ∃ m, w' = w.drewN m := by
  have h0 := u_nonneg x
  have h1 := u_lt x
  go_enter Try.func28, Try.ntmps28
  go_wp2
  go_quiet (fail)
  go_wp2
  go_ret
  refine ⟨congrArg (fun z => Ending.returned (.int .u32 z)) ?_, _, rfl⟩
  have e : u x / 2048 + u x * 2097152 % 4294967296 = (u x / 2048 + u x * 2097152 % 4294967296) % 4294967296 := by omega
  refine e.trans ?_
  rw [u_shlc x 21 2097152 (by decide), u_shrc x 11 2048 (by decide), mod_u2, rr_add x 11 (by decide) (by decide)]
theorem turn13 (x : BitVec 32) (w : World) :
    Calls Try.prog 28 #[.int .u32 (u x), .int .i64 13] w fun e w' => e = .returned (.int .u32 (u (rr x 13))) ∧ ∃ m, w' = w.drewN m := by
  have h0 := u_nonneg x
  have h1 := u_lt x
  go_enter Try.func28, Try.ntmps28
  go_wp2
  go_quiet (fail)
  go_wp2
  go_ret
  refine ⟨congrArg (fun z => Ending.returned (.int .u32 z)) ?_, _, rfl⟩
  have e : u x / 8192 + u x * 524288 % 4294967296 = (u x / 8192 + u x * 524288 % 4294967296) % 4294967296 := by omega
  refine e.trans ?_
  rw [u_shlc x 19 524288 (by decide), u_shrc x 13 8192 (by decide), mod_u2, rr_add x 13 (by decide) (by decide)]
theorem turn17 (x : BitVec 32) (w : World) :
    Calls Try.prog 28 #[.int .u32 (u x), .int .i64 17] w fun e w' => e = .returned (.int .u32 (u (rr x 17))) ∧ ∃ m, w' = w.drewN m := by
  have h0 := u_nonneg x
  have h1 := u_lt x
  go_enter Try.func28, Try.ntmps28
  go_wp2
  go_quiet (fail)
  go_wp2
  go_ret
  refine ⟨congrArg (fun z => Ending.returned (.int .u32 z)) ?_, _, rfl⟩
  have e : u x / 131072 + u x * 32768 % 4294967296 = (u x / 131072 + u x * 32768 % 4294967296) % 4294967296 := by omega
  refine e.trans ?_
  rw [u_shlc x 15 32768 (by decide), u_shrc x 17 131072 (by decide), mod_u2, rr_add x 17 (by decide) (by decide)]
theorem turn18 (x : BitVec 32) (w : World) :
    Calls Try.prog 28 #[.int .u32 (u x), .int .i64 18] w fun e w' => e = .returned (.int .u32 (u (rr x 18))) ∧ ∃ m, w' = w.drewN m := by
  have h0 := u_nonneg x
  have h1 := u_lt x
  go_enter Try.func28, Try.ntmps28
  go_wp2
  go_quiet (fail)
  go_wp2
  go_ret
  refine ⟨congrArg (fun z => Ending.returned (.int .u32 z)) ?_, _, rfl⟩
  have e : u x / 262144 + u x * 16384 % 4294967296 = (u x / 262144 + u x * 16384 % 4294967296) % 4294967296 := by omega
  refine e.trans ?_
  rw [u_shlc x 14 16384 (by decide), u_shrc x 18 262144 (by decide), mod_u2, rr_add x 18 (by decide) (by decide)]
theorem turn19 (x : BitVec 32) (w : World) :
    Calls Try.prog 28 #[.int .u32 (u x), .int .i64 19] w fun e w' => e = .returned (.int .u32 (u (rr x 19))) ∧ ∃ m, w' = w.drewN m := by
  have h0 := u_nonneg x
  have h1 := u_lt x
  go_enter Try.func28, Try.ntmps28
  go_wp2
  go_quiet (fail)
  go_wp2
  go_ret
  refine ⟨congrArg (fun z => Ending.returned (.int .u32 z)) ?_, _, rfl⟩
  have e : u x / 524288 + u x * 8192 % 4294967296 = (u x / 524288 + u x * 8192 % 4294967296) % 4294967296 := by omega
  refine e.trans ?_
  rw [u_shlc x 13 8192 (by decide), u_shrc x 19 524288 (by decide), mod_u2, rr_add x 19 (by decide) (by decide)]
theorem turn22 (x : BitVec 32) (w : World) :
    Calls Try.prog 28 #[.int .u32 (u x), .int .i64 22] w fun e w' => e = .returned (.int .u32 (u (rr x 22))) ∧ ∃ m, w' = w.drewN m := by
  have h0 := u_nonneg x
  have h1 := u_lt x
  go_enter Try.func28, Try.ntmps28
  go_wp2
  go_quiet (fail)
  go_wp2
  go_ret
  refine ⟨congrArg (fun z => Ending.returned (.int .u32 z)) ?_, _, rfl⟩
  have e : u x / 4194304 + u x * 1024 % 4294967296 = (u x / 4194304 + u x * 1024 % 4294967296) % 4294967296 := by omega
  refine e.trans ?_
  rw [u_shlc x 10 1024 (by decide), u_shrc x 22 4194304 (by decide), mod_u2, rr_add x 22 (by decide) (by decide)]
theorem turn25 (x : BitVec 32) (w : World) :
    Calls Try.prog 28 #[.int .u32 (u x), .int .i64 25] w fun e w' => e = .returned (.int .u32 (u (rr x 25))) ∧ ∃ m, w' = w.drewN m := by
  have h0 := u_nonneg x
  have h1 := u_lt x
  go_enter Try.func28, Try.ntmps28
  go_wp2
  go_quiet (fail)
  go_wp2
  go_ret
  refine ⟨congrArg (fun z => Ending.returned (.int .u32 z)) ?_, _, rfl⟩
  have e : u x / 33554432 + u x * 128 % 4294967296 = (u x / 33554432 + u x * 128 % 4294967296) % 4294967296 := by omega
  refine e.trans ?_
  rw [u_shlc x 7 128 (by decide), u_shrc x 25 33554432 (by decide), mod_u2, rr_add x 25 (by decide) (by decide)]
theorem turn_any (x : BitVec 32) (n : Int) (w : World) (h : n ∈ [(2 : Int), 6, 7, 11, 13, 17, 18, 19, 22, 25]) :
    Calls Try.prog 28 #[.int .u32 (u x), .int .i64 n] w fun e w' => e = .returned (.int .u32 (u (rr x n.toNat))) ∧ ∃ m, w' = w.drewN m := by
  simp only [List.mem_cons, List.not_mem_nil, or_false] at h
  rcases h with rfl | rfl | rfl | rfl | rfl | rfl | rfl | rfl | rfl | rfl
  · exact turn2 x w
  · exact turn6 x w
  · exact turn7 x w
  · exact turn11 x w
  · exact turn13 x w
  · exact turn17 x w
  · exact turn18 x w
  · exact turn19 x w
  · exact turn22 x w
  · exact turn25 x w
theorem three_any (x y z : Int) (w : World) :
    Calls Try.prog 27 #[.int .u32 x, .int .u32 y, .int .u32 z] w fun e w' => e = .returned (.int .u32 (bits .xor .u32 (bits .xor .u32 x y) z)) ∧ ∃ m, w' = w.drewN m := by
  go_enter Try.func27, Try.ntmps27
  go_wp2
  go_ret
  exact ⟨rfl, 0, rfl⟩
end Go.Proofs.Ytnajnjjkgojphaa.Dg
