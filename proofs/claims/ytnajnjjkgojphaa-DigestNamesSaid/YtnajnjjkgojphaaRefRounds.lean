/- The contract of the reference's rounds. No condition. -/
import Derived.Test.YtnajnjjkgojphaaRefRot
import Derived.Test.YtnajnjjkgojphaaDigTake1
import Derived.Test.YtnajnjjkgojphaaDigBegin
import Derived.Laws.Rows
import Derived.Outline
namespace Go.Proofs.Ytnajnjjkgojphaa.Dg
set_option linter.unusedVariables false
set_option linter.unusedSimpArgs false
open Go.RowKit Blk Go.Proofs.YtnajnjjkgojphaaW.PrintWords Go.Proofs.YtnajnjjkgojphaaW.PrintLast Go.Proofs.YtnajnjjkgojphaaW.PrintMore

theorem below_setRow' {B g : Nat} {w w' : World} (h : Below B w w') (hg : B ≤ g) (cs : Array Value) : Below B w (w'.setRow g cs) :=
  h.trans ⟨rfl, rfl, rfl, by simp, fun k hk => setRow_other w' g k cs (by omega)⟩
def Z64 : Array Value := (List.replicate 64 (V 0)).toArray
theorem zero_8x8 (w : World) : (zeroValue 49).run Try.prog w = .ok (.agg Z64) w := by kernel_rfl
theorem zero_64 (w : World) : (zeroValue 39).run Try.prog w = .ok (.agg Z64) w := by kernel_rfl
def KV : Array Value := (KK.map V).toArray
def KL : Array Value := #[.int .u32 1116352408, .int .u32 1899447441, .int .u32 3049323471, .int .u32 3921009573, .int .u32 961987163, .int .u32 1508970993, .int .u32 2453635748, .int .u32 2870763221, .int .u32 3624381080, .int .u32 310598401, .int .u32 607225278, .int .u32 1426881987, .int .u32 1925078388, .int .u32 2162078206, .int .u32 2614888103, .int .u32 3248222580, .int .u32 3835390401, .int .u32 4022224774, .int .u32 264347078, .int .u32 604807628, .int .u32 770255983, .int .u32 1249150122, .int .u32 1555081692, .int .u32 1996064986, .int .u32 2554220882, .int .u32 2821834349, .int .u32 2952996808, .int .u32 3210313671, .int .u32 3336571891, .int .u32 3584528711, .int .u32 113926993, .int .u32 338241895, .int .u32 666307205, .int .u32 773529912, .int .u32 1294757372, .int .u32 1396182291, .int .u32 1695183700, .int .u32 1986661051, .int .u32 2177026350, .int .u32 2456956037, .int .u32 2730485921, .int .u32 2820302411, .int .u32 3259730800, .int .u32 3345764771, .int .u32 3516065817, .int .u32 3600352804, .int .u32 4094571909, .int .u32 275423344, .int .u32 430227734, .int .u32 506948616, .int .u32 659060556, .int .u32 883997877, .int .u32 958139571, .int .u32 1322822218, .int .u32 1537002063, .int .u32 1747873779, .int .u32 1955562222, .int .u32 2024104815, .int .u32 2227730452, .int .u32 2361852424, .int .u32 2428436474, .int .u32 2756734187, .int .u32 3204031479, .int .u32 3329325298]
theorem KV_eq : KV = KL := by
  unfold KV
  rw [KK_eq]
  rfl

theorem info_8x8 : (Try.prog.info? 49).map (·.size) = some 64 := by kernel_rfl
theorem info_64 : (Try.prog.info? 39).map (·.size) = some 64 := by kernel_rfl
theorem info_8 : (Try.prog.info? 38).map (·.size) = some 8 := by kernel_rfl

set_option maxHeartbeats 4000000 in
set_option maxRecDepth 100000 in
theorem rounds_calls (w : World) : Calls Try.prog 25 #[] w fun e w' => e = .returned (.agg KV) ∧ Below w.heap.size w w' := by
  have hz := zero_8x8
  have hnew : (w.alloc (.cells Z64 49)).heap[w.heap.size]? = some (.cells Z64 49 (0, 0)) := Row.new w (List.replicate 64 (V 0)) 49
  have HN := As.mk hnew
  clear hnew
  go_enter Try.func25, Try.ntmps25
  go_wp2_with (first
    | (refine wpList_store_row rfl 49 (.tmp 0) (.tmp 9) rfl w.heap.size KL rfl (by kernel_rfl) 49 _ HN.out (by kernel_rfl) (by kernel_rfl) (by kernel_rfl) ?_)
    | fail)
  refine bodyPost_ret (v := .agg KL) (results_cell_row rfl _ _ w.heap.size 49 _ (0, 0) _ rfl (setRow_heap _ _ _ _ _ _ HN.out) Try.underlying49 rfl (by kernel_rfl)) rfl ⟨?_, below_setRow' ((Below.refl _ _).alloc (Nat.le_refl _) _) (Nat.le_refl _) _⟩
  rw [KV_eq]
end Go.Proofs.Ytnajnjjkgojphaa.Dg
