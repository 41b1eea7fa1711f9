/- Words of 32 bits as the machine holds them: sums, bits and shifts of integers within their range are those of BitVec 32. No condition. -/
import Derived.Laws.BitsLemmas
import Derived.RowKit
namespace Go.Proofs.Ytnajnjjkgojphaa.Dg
set_option linter.unusedVariables false
set_option linter.unusedSimpArgs false
open Go.RowKit

/-- A word as the machine holds it. -/
def u (x : BitVec 32) : Int := (x.toNat : Int)
theorem u_nonneg (x : BitVec 32) : 0 ≤ u x := Int.natCast_nonneg _
theorem u_lt (x : BitVec 32) : u x < 4294967296 := by unfold u; have := x.isLt; omega
theorem u_ofInt (x : BitVec 32) : BitVec.ofInt 32 (u x) = x := by unfold u; simp
theorem wrap_u (n : Int) : IntKind.u32.wrap n = u (BitVec.ofInt 32 n) := by
  rw [IntKind.wrap_u32]; unfold u; rw [BitVec.toNat_ofInt]
  omega
theorem mod_u (n : Int) : n % 4294967296 = u (BitVec.ofInt 32 n) := by rw [← IntKind.wrap_u32, wrap_u]
theorem u_add (x y : BitVec 32) : IntKind.u32.wrap (u x + u y) = u (x + y) := by
  rw [wrap_u, BitVec.ofInt_add, u_ofInt, u_ofInt]
theorem u_add' (x y : BitVec 32) : (u x + u y) % 4294967296 = u (x + y) := by rw [← IntKind.wrap_u32, u_add]
theorem u_bits (op : BinOp) (x y : BitVec 32) (f : BitVec 32 → BitVec 32 → BitVec 32) (h : ∀ a b : Int, bits op .u32 a b = IntKind.u32.wrap (f (BitVec.ofInt 32 a) (BitVec.ofInt 32 b)).toNat) :
    bits op .u32 (u x) (u y) = u (f x y) := by
  rw [h, u_ofInt, u_ofInt, IntKind.wrap_u32]; unfold u
  have := (f x y).isLt
  omega
theorem u_xor (x y : BitVec 32) : bits .xor .u32 (u x) (u y) = u (x ^^^ y) := u_bits _ _ _ _ (fun _ _ => rfl)
theorem u_and (x y : BitVec 32) : bits .and .u32 (u x) (u y) = u (x &&& y) := u_bits _ _ _ _ (fun _ _ => rfl)
theorem u_or (x y : BitVec 32) : bits .or .u32 (u x) (u y) = u (x ||| y) := u_bits _ _ _ _ (fun _ _ => rfl)
theorem u_shr (x : BitVec 32) (n : Nat) : u x / (2 ^ n : Nat) = u (x >>> n) := by
  unfold u; rw [BitVec.toNat_ushiftRight, Nat.shiftRight_eq_div_pow]; simp
theorem u_shl (x : BitVec 32) (n : Nat) : IntKind.u32.wrap (u x * (2 ^ n : Nat)) = u (x <<< n) := by
  rw [IntKind.wrap_u32]; unfold u; rw [BitVec.toNat_shiftLeft, Nat.shiftLeft_eq]; omega
theorem u_shl' (x : BitVec 32) (n : Nat) : (u x * (2 ^ n : Nat)) % 4294967296 = u (x <<< n) := by rw [← IntKind.wrap_u32, u_shl]

theorem u_shlc (x : BitVec 32) (n : Nat) (c : Int) (h : c = (2 ^ n : Nat)) : u x * c % 4294967296 = u (x <<< n) := by subst h; exact u_shl' x n
theorem u_shrc (x : BitVec 32) (n : Nat) (c : Int) (h : c = (2 ^ n : Nat)) : u x / c = u (x >>> n) := by subst h; exact u_shr x n
/-- A word turned right. -/
def rr (x : BitVec 32) (n : Nat) : BitVec 32 := x <<< (32 - n) ||| x >>> n

end Go.Proofs.Ytnajnjjkgojphaa.Dg
