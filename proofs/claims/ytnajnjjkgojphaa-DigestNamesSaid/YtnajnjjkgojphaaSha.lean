/- SHA-256 as plain functions on words of 32 bits: what both texts are shown to compute. No condition. -/
import Derived.Test.YtnajnjjkgojphaaW32
namespace Go.Proofs.Ytnajnjjkgojphaa.Dg
set_option linter.unusedVariables false
set_option linter.unusedSimpArgs false

abbrev W := BitVec 32
def s0 (x : W) : W := rr x 7 ^^^ rr x 18 ^^^ x >>> 3
def s1 (x : W) : W := rr x 17 ^^^ rr x 19 ^^^ x >>> 10
def S0 (x : W) : W := rr x 2 ^^^ rr x 13 ^^^ rr x 22
def S1 (x : W) : W := rr x 6 ^^^ rr x 11 ^^^ rr x 25
def ch (e f g : W) : W := g ^^^ (e &&& (f ^^^ g))
def maj (a b c : W) : W := (a &&& b) ||| (c &&& (a ||| b))

/-- Four bytes as a word. -/
def w4 (a b c d : Int) : W := BitVec.ofInt 32 (a * 16777216 + b * 65536 + c * 256 + d)
/-- Word i of a block. -/
def word (m : List Int) (i : Nat) : W := w4 (m.getD (4 * i) 0) (m.getD (4 * i + 1) 0) (m.getD (4 * i + 2) 0) (m.getD (4 * i + 3) 0)
/-- The next word of the schedule. -/
def nxt (m : List Int) (ws : List W) (i : Nat) : W :=
  if i < 16 then word m i else s1 (ws.getD (i - 2) 0) + ws.getD (i - 7) 0 + s0 (ws.getD (i - 15) 0) + ws.getD (i - 16) 0
def sch (m : List Int) : Nat → List W
  | 0 => []
  | i + 1 => sch m i ++ [nxt m (sch m i) i]

structure St where
  (a b c d e f g h : W)
def rnd (k w : W) (s : St) : St :=
  let x := s.h + S1 s.e + ch s.e s.f s.g + k + w
  let y := S0 s.a + maj s.a s.b s.c
  ⟨x + y, s.a, s.b, s.c, s.d + x, s.e, s.f, s.g⟩
def rnds (ks ws : List W) (s : St) : Nat → St
  | 0 => s
  | i + 1 => rnd (ks.getD i 0) (ws.getD i 0) (rnds ks ws s i)
def St.of (H : List W) : St := ⟨H.getD 0 0, H.getD 1 0, H.getD 2 0, H.getD 3 0, H.getD 4 0, H.getD 5 0, H.getD 6 0, H.getD 7 0⟩
def St.list (s : St) : List W := [s.a, s.b, s.c, s.d, s.e, s.f, s.g, s.h]
/-- H behind a block of 64 bytes. -/
def blk (ks : List W) (m : List Int) (H : List W) : List W :=
  List.zipWith (· + ·) H (rnds ks (sch m 64) (St.of H) 64).list

theorem sch_length (m : List Int) (i : Nat) : (sch m i).length = i := by
  induction i with
  | zero => rfl
  | succ i ih => simp [sch, ih]

theorem or_word (a b c d : Int) (a0 : 0 ≤ a) (a1 : a < 256) (b0 : 0 ≤ b) (b1 : b < 256) (c0 : 0 ≤ c) (c1 : c < 256) (d0 : 0 ≤ d) (d1 : d < 256) :
    bits .or .u32 (bits .or .u32 (bits .or .u32 (a * 16777216) (b * 65536)) (c * 256)) d = u (w4 a b c d) := by
  have hk : ∀ n : Int, 0 ≤ n → n < 2 ^ 32 → IntKind.u32.wrap n = n := fun n h0 h1 => by rw [IntKind.wrap_u32]; omega
  rw [bits_join .u32 32 (by decide) hk 24 (a * 16777216) (b * 65536) (by omega) (by omega) (by omega) (by omega) (by omega) (by omega)]
  rw [bits_join .u32 32 (by decide) hk 16 (a * 16777216 + b * 65536) (c * 256) (by omega) (by omega) (by omega) (by omega) (by omega) (by omega)]
  rw [bits_join .u32 32 (by decide) hk 8 (a * 16777216 + b * 65536 + c * 256) d (by omega) (by omega) (by omega) (by omega) (by omega) (by omega)]
  rw [w4, ← mod_u]
  omega

theorem mod_u2 (a b : W) : (u a + u b) % 4294967296 = u (a + b) := u_add' a b
theorem mod_u3 (a b c : W) : (u a + u b + u c) % 4294967296 = u (a + b + c) := by
  rw [mod_u, BitVec.ofInt_add, BitVec.ofInt_add, u_ofInt, u_ofInt, u_ofInt]
theorem mod_u4 (a b c d : W) : (u a + u b + u c + u d) % 4294967296 = u (a + b + c + d) := by
  rw [mod_u, BitVec.ofInt_add, BitVec.ofInt_add, BitVec.ofInt_add, u_ofInt, u_ofInt, u_ofInt, u_ofInt]
theorem mod_u5 (a b c d e : W) : (u a + u b + u c + u d + u e) % 4294967296 = u (a + b + c + d + e) := by
  rw [mod_u, BitVec.ofInt_add, BitVec.ofInt_add, BitVec.ofInt_add, BitVec.ofInt_add, u_ofInt, u_ofInt, u_ofInt, u_ofInt, u_ofInt]
theorem sched_word (x2 x7 x15 x16 : W) :
    (bits .xor .u32 (bits .xor .u32 (u (rr x2 17)) (u (rr x2 19))) (u x2 / 1024) + u x7 + bits .xor .u32 (bits .xor .u32 (u (rr x15 7)) (u (rr x15 18))) (u x15 / 8) + u x16) % 4294967296
      = u (s1 x2 + x7 + s0 x15 + x16) := by
  rw [u_shrc x2 10 1024 (by decide), u_shrc x15 3 8 (by decide), u_xor, u_xor, u_xor, u_xor, mod_u4]; rfl

end Go.Proofs.Ytnajnjjkgojphaa.Dg
