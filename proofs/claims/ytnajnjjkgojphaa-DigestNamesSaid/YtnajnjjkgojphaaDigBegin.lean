/- The contracts of digest.primes and digest.begin. No condition. -/
import Derived.Test.YtnajnjjkgojphaaDigLeaf
import Derived.Test.YtnajnjjkgojphaaSha
import Derived.Test.YtnajnjjkgojphaaRows2
import Derived.Test.YtnajnjjkgojphaaQTail
import Derived.LoopTactic
namespace Go.Proofs.Ytnajnjjkgojphaa.Dg
set_option linter.unusedVariables false
set_option linter.unusedSimpArgs false
open Go.RowKit Blk Go.Proofs.YtnajnjjkgojphaaW.PrintWords Go.Proofs.YtnajnjjkgojphaaW.PrintLast Go.Proofs.YtnajnjjkgojphaaW.PrintMore

theorem info_u64 : (Try.prog.info? 35).map (fun i => (i.zero, i.size, i.bytes)) = some (some (.int .u64 0), 1, 8) := by kernel_rfl

def pr (n : Int) (xs : List Int) : Bool := xs.foldl (fun b p => b && decide (n % p > 0)) true
theorem pr_snoc (n : Int) (xs : List Int) (p : Int) : pr n (xs ++ [p]) = (pr n xs && decide (n % p > 0)) := by simp [pr]
theorem pr_take (n : Int) (xs : List Int) (j : Nat) (h : j < xs.length) : pr n (xs.take (j + 1)) = (pr n (xs.take j) && decide (n % rd xs (j : Int) > 0)) := by
  rw [List.take_succ_eq_append_getElem h, pr_snoc]
  simp [rd, h]
theorem rd_mem (xs : List Int) (j : Nat) (h : j < xs.length) : rd xs (j : Int) ∈ xs := by
  simp [rd, h]

def primesL : Nat → Int → Int → List Int → Option (List Int)
  | 0, _, _, _ => none
  | k + 1, many, n, out =>
    if (out.length : Int) < many then
      if pr n out = true then primesL k many (n + 1) (out ++ [n]) else primesL k many (n + 1) out
    else some out

set_option maxHeartbeats 1000000 in
theorem primes_calls (k : Nat) (many : Int) (r : List Int) (w : World) (hk : k ≤ 100000) (h : primesL k many 2 [] = some r) :
    Calls Try.prog 21 #[.int .i64 many] w fun e w' => ∃ v0_ : Value, e = .returned (v0_) ∧ Kd.R (Kd.int .u64) 35 w' w.heap.size (fun _ => True) v0_ r ∧ Below w.heap.size w w' := by
  have H' := Aside0.mk h
  clear h
  have HK := Aside0.mk hk
  clear hk
  go_enter Try.func21, Try.ntmps21
  go_wp2
  go_loopg [3, 4] k (fun kq v3 v4 w' => ∃ (n : Int) (out : List Int), v4 = .int .u64 n ∧ Aside0 (primesL kq many n out = some r) ∧ Aside0 (n + kq ≤ 200002 ∧ 2 ≤ n ∧ out.length ≤ 200002 - kq ∧ ∀ p ∈ out, 2 ≤ p) ∧ Aside0 (Kd.R (Kd.int .u64) 35 w' w.heap.size (fun _ => True) v3 out) ∧ Aside0 (Below w.heap.size w w'))
  case atStart => exact ⟨2, [], rfl, H', ⟨by have := HK.out; simp; omega⟩, ⟨Kd.R_nil _ _ _ _ _⟩, ⟨Below.refl _ _⟩⟩
  case round =>
    obtain ⟨n, out, rfl, HA, HN, HO, HB⟩ := hrel
    clear H'
    cases gk with
    | zero => exact absurd HA.out (by simp [primesL])
    | succ k2 =>
      have H := HA.out
      clear HA
      simp only [primesL] at H
      obtain ⟨A, c, rfl, hc, hC⟩ := Kd.R_reads HO.out
      have HC := Aside0.mk hC
      clear hC
      by_cases c5 : (out.length : Int) < many
      · rw [if_pos c5] at H
        have H1 := Aside0.mk H
        clear H
        go_wp2
        go_loop [5, 16] (fun b i => ∃ j : Nat, j ≤ out.length ∧ i = .int .i64 j ∧ b = .bool (pr n (out.take j))) (fun _ i => out.length - (intOf i).toNat)
        case atStart => exact ⟨0, Nat.zero_le _, rfl, rfl⟩
        case round =>
          obtain ⟨j, hj, rfl, rfl⟩ := hrel
          have hn := HN.out.1
          have hn2 := HN.out.2.1
          have hl := HN.out.2.2.1
          by_cases hlt : j < out.length
          · obtain ⟨ad, rfl, hcell⟩ := Kd.at_int HC.out (j : Int) (by omega) (by omega)
            rw [Int.toNat_natCast] at hcell
            have hp2 : 2 ≤ rd out (j : Int) := HN.out.2.2.2 _ (rd_mem _ _ hlt)
            have HS := Aside0.mk (pr_take n out j hlt)
            cases hb : pr n (out.take j)
            · go_wp2
              go_round
              case rel => exact ⟨j + 1, by omega, by go_num, by rw [HS.out, hb]; rfl⟩
              case measure => simp [intOf]; omega
            · go_wp2
              go_round
              case rel => exact ⟨j + 1, by omega, by go_num, by rw [HS.out, hb]; rfl⟩
              case measure => simp [intOf]; omega
          · have : j = out.length := by omega
            subst this
            rw [List.take_of_length_le (Nat.le_refl _)]
            cases hb : pr n out
            · have H2 : primesL k2 many (n + 1) out = some r := by have := H1.out; rw [hb] at this; simpa using this
              have H3 := Aside0.mk H2
              clear H2
              go_wp2
              go_roundg k2
              case measure => omega
              case rel => exact ⟨n + 1, out, rfl, H3, ⟨by omega, by omega, by omega, HN.out.2.2.2⟩, HO, HB⟩
            · have H2 : primesL k2 many (n + 1) (out ++ [n]) = some r := by have := H1.out; rw [hb] at this; simpa using this
              have H3 := Aside0.mk H2
              clear H2
              go_wp2_with (first | ((with_reducible refine gate_builtin (b := .append) (xs := #[.tmp 29, .tmp 31]) rfl ?_); at_builtin; refine Kd.R_append (Kd.int .u64) (w0 := w) w.heap.size rfl (.tmp 29) (.tmp 31) 45 35 (.int .u64 0) 8 rfl Try.underlying45 info_u64 rfl (by decide) (by omega) (.slice A out.length c) out n [.int .u64 n] (fun _ => True) (fun _ => False) rfl rfl rfl (fun _ hk => hk.elim) (fun _ _ => trivial) ?aO ?aB ?aS ?aL ?_; (case aO => exact HO.out); (case aB => exact HB.out); (case aS => exact (below_size HB.out)); (case aL => omega); intro v1 w1 ho hb1 hg hat; clear hg hat; have HO1 := Aside0.mk ho; have HB1 := Aside0.mk hb1; clear ho hb1))
              go_roundg k2
              case measure => omega
              case rel => exact ⟨n + 1, out ++ [n], rfl, H3, ⟨by omega, by omega, by simp; omega, by intro p hp; simp at hp; rcases hp with hp | rfl; exact HN.out.2.2.2 _ hp; omega⟩, HO1, HB1⟩
      · rw [if_neg c5] at H
        obtain rfl := Option.some.inj H
        go_wp2
        go_ret
        exact ⟨_, rfl, HO.out, HB.out⟩

/-- The first 64 primes. -/
def P64 : List Int := (primesL 400 64 2 []).getD []
theorem P64_ok : primesL 400 64 2 [] = some P64 := by decide +kernel
theorem P64_len : P64.length = 64 := by decide +kernel
def root1 (p : Int) : W := BitVec.ofInt 32 ((Dl.digest_root.f 40 p).getD 0)
def side1 (p : Int) : W := BitVec.ofInt 32 ((Dl.digest_side.f 40 p).getD 0)
/-- The words of the rounds, and the first eight. -/
def KK : List W := P64.map root1
def IV : List W := (P64.take 8).map side1
theorem roots_ok : P64.all (fun p => Dl.digest_root.f 40 p == some (u (root1 p))) = true := by decide +kernel
theorem sides_ok : P64.all (fun p => Dl.digest_side.f 40 p == some (u (side1 p))) = true := by decide +kernel
theorem KK_eq : KK = [0x428a2f98, 0x71374491, 0xb5c0fbcf, 0xe9b5dba5, 0x3956c25b, 0x59f111f1, 0x923f82a4, 0xab1c5ed5,
 0xd807aa98, 0x12835b01, 0x243185be, 0x550c7dc3, 0x72be5d74, 0x80deb1fe, 0x9bdc06a7, 0xc19bf174,
 0xe49b69c1, 0xefbe4786, 0x0fc19dc6, 0x240ca1cc, 0x2de92c6f, 0x4a7484aa, 0x5cb0a9dc, 0x76f988da,
 0x983e5152, 0xa831c66d, 0xb00327c8, 0xbf597fc7, 0xc6e00bf3, 0xd5a79147, 0x06ca6351, 0x14292967,
 0x27b70a85, 0x2e1b2138, 0x4d2c6dfc, 0x53380d13, 0x650a7354, 0x766a0abb, 0x81c2c92e, 0x92722c85,
 0xa2bfe8a1, 0xa81a664b, 0xc24b8b70, 0xc76c51a3, 0xd192e819, 0xd6990624, 0xf40e3585, 0x106aa070,
 0x19a4c116, 0x1e376c08, 0x2748774c, 0x34b0bcb5, 0x391c0cb3, 0x4ed8aa4a, 0x5b9cca4f, 0x682e6ff3,
 0x748f82ee, 0x78a5636f, 0x84c87814, 0x8cc70208, 0x90befffa, 0xa4506ceb, 0xbef9a3f7, 0xc67178f2] := by decide +kernel
theorem IV_eq : IV = [0x6a09e667, 0xbb67ae85, 0x3c6ef372, 0xa54ff53a, 0x510e527f, 0x9b05688c, 0x1f83d9ab, 0x5be0cd19] := by decide +kernel

end Go.Proofs.Ytnajnjjkgojphaa.Dg
