/- A byte's digits, as the statement IndexFan says them. No condition but that it is a byte. -/
import Derived.Test.YtonhmjodgomeiaaIxLeaf
import Derived.Test.YtonhmjodgomeiaaMBase
import Derived.BigRegion
namespace Go.Proofs.Ytonhmjodgomeiaa.Ix
set_option linter.unusedVariables false
set_option linter.unusedSimpArgs false
open Go.RowKit Blk Go.Proofs.YtonhmjodgomeiaaW.PrintWords Go.Proofs.YtonhmjodgomeiaaW.PrintLast Go.Proofs.YtonhmjodgomeiaaW.PrintMore

theorem text_cut (t y : ByteArray) (i j : Nat) (hy : t.extract i j = y) (h0 : i ≤ j) (h : j ≤ t.size) (x z : Int) (hx : x = i) (hz : z = j) (wx : World) :
    (Instr.slice 9 (.string t) (some (.int .i64 x)) (some (.int .i64 z)) none).run Try.prog wx = .ok (.string y) wx := by
  subst hz hx
  have := run_slice_string (P := Try.prog) wx 9 t .i64 .i64 (i : Int) (j : Int) Try.underlying9 (by omega) (by omega) (by omega)
  rw [this, Int.toNat_natCast, Int.toNat_natCast, hy]
theorem two_walk (c : Nat) (hc : c < 256) (w : World) (a b r : ByteArray) (ha : (⟨#[48, 49, 50, 51, 52, 53, 54, 55, 56, 57, 97, 98, 99, 100, 101, 102]⟩ : ByteArray).extract (c / 16) (c / 16 + 1) = a) (hb : (⟨#[48, 49, 50, 51, 52, 53, 54, 55, 56, 57, 97, 98, 99, 100, 101, 102]⟩ : ByteArray).extract (c % 16) (c % 16 + 1) = b) (hab : a ++ b = r) :
    Calls Try.prog 20 #[.int .i64 (c : Int)] w fun e w' => e = .returned (.string r) ∧ Below w.heap.size w w' := by
  have hsz : (⟨#[48, 49, 50, 51, 52, 53, 54, 55, 56, 57, 97, 98, 99, 100, 101, 102]⟩ : ByteArray).size = 16 := rfl
  have e1 := text_cut _ a (c / 16) (c / 16 + 1) ha (by omega) (by rw [hsz]; omega) ((c : Int) / 16) ((c : Int) / 16 + 1) (by omega) (by omega)
  have e2 := text_cut _ b (c % 16) (c % 16 + 1) hb (by omega) (by rw [hsz]; omega) ((c : Int) % 16) ((c : Int) % 16 + 1) (by omega) (by omega)
  have hza : a.size = 1 := by rw [← ha, ByteArray.size_extract, hsz]; omega
  have hzb : b.size = 1 := by rw [← hb, ByteArray.size_extract, hsz]; omega
  have hs1 : ¬ 9223372036854775807 < a.size + b.size := by omega
  have hs2 : ¬ 9223372036854775807 < 1 + 1 := by omega
  clear hsz ha hb
  go_enter Try.func20, Try.ntmps20
  go_wp2_with (fail)
  go_region
  go_wp2_with (fail)
  go_ret
  exact ⟨rfl, (Below.refl _ _).drew⟩
end Go.Proofs.Ytonhmjodgomeiaa.Ix
