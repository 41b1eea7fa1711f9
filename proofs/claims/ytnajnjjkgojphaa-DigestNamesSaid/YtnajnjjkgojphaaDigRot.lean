/- The contract of digest.right at each of its counts. No condition. -/
import Derived.Test.YtnajnjjkgojphaaProg
import Derived.Test.YtnajnjjkgojphaaW32
import Derived.WalkKit
import Derived.KernelRfl
namespace Go.Proofs.Ytnajnjjkgojphaa.Dg
set_option linter.unusedVariables false
set_option linter.unusedSimpArgs false
open Go.RowKit

theorem rr2 (x : BitVec 32) : bits .or .u32 (u x * 1073741824 % 4294967296) (u x / 4) = u (rr x 2) := by
  rw [u_shlc x 30 1073741824 (by decide), u_shrc x 2 4 (by decide), u_or]; rfl
theorem right2 (x : BitVec 32) (w : World) :
    Calls Try.prog 24 #[.int .u32 (u x), .int .i64 2] w fun e w' => e = .returned (.int .u32 (u (rr x 2))) ∧ w' = w := by
  have h0 := u_nonneg x
  have h1 := u_lt x
  have e1 : bits .and .u64 (IntKind.u64.wrap (-2)) 31 = 30 := by decide
  go_enter Try.func24, Try.ntmps24
  go_wp2
  go_ret
  exact ⟨congrArg (fun z => Ending.returned (.int .u32 z)) (rr2 x), rfl⟩
theorem rr6 (x : BitVec 32) : bits .or .u32 (u x * 67108864 % 4294967296) (u x / 64) = u (rr x 6) := by
  rw [u_shlc x 26 67108864 (by decide), u_shrc x 6 64 (by decide), u_or]; rfl
theorem right6 (x : BitVec 32) (w : World) :
    Calls Try.prog 24 #[.int .u32 (u x), .int .i64 6] w fun e w' => e = .returned (.int .u32 (u (rr x 6))) ∧ w' = w := by
  have h0 := u_nonneg x
  have h1 := u_lt x
  have e1 : bits .and .u64 (IntKind.u64.wrap (-6)) 31 = 26 := by decide
  go_enter Try.func24, Try.ntmps24
  go_wp2
  go_ret
  exact ⟨congrArg (fun z => Ending.returned (.int .u32 z)) (rr6 x), rfl⟩
theorem rr7 (x : BitVec 32) : bits .or .u32 (u x * 33554432 % 4294967296) (u x / 128) = u (rr x 7) := by
  rw [u_shlc x 25 33554432 (by decide), u_shrc x 7 128 (by decide), u_or]; rfl
theorem right7 (x : BitVec 32) (w : World) :
    Calls Try.prog 24 #[.int .u32 (u x), .int .i64 7] w fun e w' => e = .returned (.int .u32 (u (rr x 7))) ∧ w' = w := by
  have h0 := u_nonneg x
  have h1 := u_lt x
  have e1 : bits .and .u64 (IntKind.u64.wrap (-7)) 31 = 25 := by decide
  go_enter Try.func24, Try.ntmps24
  go_wp2
  go_ret
  exact ⟨congrArg (fun z => Ending.returned (.int .u32 z)) (rr7 x), rfl⟩
theorem rr11 (x : BitVec 32) : bits .or .u32 (u x * 2097152 % 4294967296) (u x / 2048) = u (rr x 11) := by
  rw [u_shlc x 21 2097152 (by decide), u_shrc x 11 2048 (by decide), u_or]; rfl
theorem right11 (x : BitVec 32) (w : World) :
    Calls Try.prog 24 #[.int .u32 (u x), .int .i64 11] w fun e w' => e = .returned (.int .u32 (u (rr x 11))) ∧ w' = w := by
  have h0 := u_nonneg x
  have h1 := u_lt x
  have e1 : bits .and .u64 (IntKind.u64.wrap (-11)) 31 = 21 := by decide
  go_enter Try.func24, Try.ntmps24
  go_wp2
  go_ret
  exact ⟨congrArg (fun z => Ending.returned (.int .u32 z)) (rr11 x), rfl⟩
theorem rr13 (x : BitVec 32) : bits .or .u32 (u x * 524288 % 4294967296) (u x / 8192) = u (rr x 13) := by
  rw [u_shlc x 19 524288 (by decide), u_shrc x 13 8192 (by decide), u_or]; rfl
theorem right13 (x : BitVec 32) (w : World) :
    Calls Try.prog 24 #[.int .u32 (u x), .int .i64 13] w fun e w' => e = .returned (.int .u32 (u (rr x 13))) ∧ w' = w := by
  have h0 := u_nonneg x
  have h1 := u_lt x
  have e1 : bits .and .u64 (IntKind.u64.wrap (-13)) 31 = 19 := by decide
  go_enter Try.func24, Try.ntmps24
  go_wp2
  go_ret
  exact ⟨congrArg (fun z => Ending.returned (.int .u32 z)) (rr13 x), rfl⟩
theorem rr17 (x : BitVec 32) : bits .or .u32 (u x * 32768 % 4294967296) (u x / 131072) = u (rr x 17) := by
  rw [u_shlc x 15 32768 (by decide), u_shrc x 17 131072 (by decide), u_or]; rfl
theorem right17 (x : BitVec 32) (w : World) :
    Calls Try.prog 24 #[.int .u32 (u x), .int .i64 17] w fun e w' => e = .returned (.int .u32 (u (rr x 17))) ∧ w' = w := by
  have h0 := u_nonneg x
  have h1 := u_lt x
  have e1 : bits .and .u64 (IntKind.u64.wrap (-17)) 31 = 15 := by decide
  go_enter Try.func24, Try.ntmps24
  go_wp2
  go_ret
  exact ⟨congrArg (fun z => Ending.returned (.int .u32 z)) (rr17 x), rfl⟩
theorem rr18 (x : BitVec 32) : bits .or .u32 (u x * 16384 % 4294967296) (u x / 262144) = u (rr x 18) := by
  rw [u_shlc x 14 16384 (by decide), u_shrc x 18 262144 (by decide), u_or]; rfl
theorem right18 (x : BitVec 32) (w : World) :
    Calls Try.prog 24 #[.int .u32 (u x), .int .i64 18] w fun e w' => e = .returned (.int .u32 (u (rr x 18))) ∧ w' = w := by
  have h0 := u_nonneg x
  have h1 := u_lt x
  have e1 : bits .and .u64 (IntKind.u64.wrap (-18)) 31 = 14 := by decide
  go_enter Try.func24, Try.ntmps24
  go_wp2
  go_ret
  exact ⟨congrArg (fun z => Ending.returned (.int .u32 z)) (rr18 x), rfl⟩
theorem rr19 (x : BitVec 32) : bits .or .u32 (u x * 8192 % 4294967296) (u x / 524288) = u (rr x 19) := by
  rw [u_shlc x 13 8192 (by decide), u_shrc x 19 524288 (by decide), u_or]; rfl
theorem right19 (x : BitVec 32) (w : World) :
    Calls Try.prog 24 #[.int .u32 (u x), .int .i64 19] w fun e w' => e = .returned (.int .u32 (u (rr x 19))) ∧ w' = w := by
  have h0 := u_nonneg x
  have h1 := u_lt x
  have e1 : bits .and .u64 (IntKind.u64.wrap (-19)) 31 = 13 := by decide
  go_enter Try.func24, Try.ntmps24
  go_wp2
  go_ret
  exact ⟨congrArg (fun z => Ending.returned (.int .u32 z)) (rr19 x), rfl⟩
theorem rr22 (x : BitVec 32) : bits .or .u32 (u x * 1024 % 4294967296) (u x / 4194304) = u (rr x 22) := by
  rw [u_shlc x 10 1024 (by decide), u_shrc x 22 4194304 (by decide), u_or]; rfl
theorem right22 (x : BitVec 32) (w : World) :
    Calls Try.prog 24 #[.int .u32 (u x), .int .i64 22] w fun e w' => e = .returned (.int .u32 (u (rr x 22))) ∧ w' = w := by
  have h0 := u_nonneg x
  have h1 := u_lt x
  have e1 : bits .and .u64 (IntKind.u64.wrap (-22)) 31 = 10 := by decide
  go_enter Try.func24, Try.ntmps24
  go_wp2
  go_ret
  exact ⟨congrArg (fun z => Ending.returned (.int .u32 z)) (rr22 x), rfl⟩
theorem rr25 (x : BitVec 32) : bits .or .u32 (u x * 128 % 4294967296) (u x / 33554432) = u (rr x 25) := by
  rw [u_shlc x 7 128 (by decide), u_shrc x 25 33554432 (by decide), u_or]; rfl
theorem right25 (x : BitVec 32) (w : World) :
    Calls Try.prog 24 #[.int .u32 (u x), .int .i64 25] w fun e w' => e = .returned (.int .u32 (u (rr x 25))) ∧ w' = w := by
  have h0 := u_nonneg x
  have h1 := u_lt x
  have e1 : bits .and .u64 (IntKind.u64.wrap (-25)) 31 = 7 := by decide
  go_enter Try.func24, Try.ntmps24
  go_wp2
  go_ret
  exact ⟨congrArg (fun z => Ending.returned (.int .u32 z)) (rr25 x), rfl⟩

theorem right_any (x : BitVec 32) (n : Int) (w : World) (h : n ∈ [(2 : Int), 6, 7, 11, 13, 17, 18, 19, 22, 25]) :
    Calls Try.prog 24 #[.int .u32 (u x), .int .i64 n] w fun e w' => e = .returned (.int .u32 (u (rr x n.toNat))) ∧ w' = w := by
  simp only [List.mem_cons, List.not_mem_nil, or_false] at h
  rcases h with rfl | rfl | rfl | rfl | rfl | rfl | rfl | rfl | rfl | rfl
  · exact right2 x w
  · exact right6 x w
  · exact right7 x w
  · exact right11 x w
  · exact right13 x w
  · exact right17 x w
  · exact right18 x w
  · exact right19 x w
  · exact right22 x w
  · exact right25 x w
end Go.Proofs.Ytnajnjjkgojphaa.Dg
