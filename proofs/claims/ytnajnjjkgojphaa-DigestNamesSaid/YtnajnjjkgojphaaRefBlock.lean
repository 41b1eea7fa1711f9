/- The contract of the reference's block. No condition. -/
import Derived.Test.YtnajnjjkgojphaaRefSched
import Derived.Outline
namespace Go.Proofs.Ytnajnjjkgojphaa.Dg
set_option linter.unusedVariables false
set_option linter.unusedSimpArgs false
open Go.RowKit Blk Go.Proofs.YtnajnjjkgojphaaW.PrintWords Go.Proofs.YtnajnjjkgojphaaW.PrintLast Go.Proofs.YtnajnjjkgojphaaW.PrintMore

def Z8 : Array Value := (List.replicate 8 (V 0)).toArray
theorem zero_8 (w : World) : (zeroValue 38).run Try.prog w = .ok (.agg Z8) w := by kernel_rfl

/-- What block holds in memory. -/
structure Bk (w : World) (H : List W) (m : List Int) (b5 b6 b7 : Nat) (v : List W) (wr : World) : Prop where
  h : Row wr w.heap.size 38 (H.map V)
  res : Row wr (w.heap.size + 1) 38 (List.replicate 8 (V 0))
  k : Row wr b5 49 (KK.map V)
  ws : Row wr b6 39 ((sch m 64).map V)
  vs : Row wr b7 38 (v.map V)
  below : Below w.heap.size w wr

theorem Bk.drewN {w wr : World} {H : List W} {m : List Int} {b5 b6 b7 : Nat} {v : List W} (h : Bk w H m b5 b6 b7 v wr) (n : Nat) : Bk w H m b5 b6 b7 v (wr.drewN n) :=
  ⟨h.h.drewN n, h.res.drewN n, h.k.drewN n, h.ws.drewN n, h.vs.drewN n, Blk.pw_drewN h.below n⟩
theorem Bk.set {w wr : World} {H : List W} {m : List Int} {b5 b6 b7 : Nat} {v : List W} (h : Bk w H m b5 b6 b7 v wr) (hn : w.heap.size + 1 < b5 ∧ b5 < b6 ∧ b6 < b7) (i : Nat) (x : W) :
    Bk w H m b5 b6 b7 (v.set i x) (wr.setCell ⟨b7, i, none⟩ (.int .u32 (u x))) :=
  ⟨h.h.set_ne (by simp; omega) _, h.res.set_ne (by simp; omega) _, h.k.set_ne (by simp; omega) _, h.ws.set_ne (by simp; omega) _, by
    have := h.vs.set i (V x)
    rw [← List.map_set] at this
    exact this, h.below.setCell (by simp; omega) _⟩
theorem ch_eq (e f g : W) : (e &&& f) ^^^ ((4294967295#32 ^^^ e) &&& g) = ch e f g := by
  unfold ch
  rw [show 4294967295#32 = BitVec.allOnes 32 by decide, BitVec.allOnes_xor]
  ext i hi
  simp
  cases e[i] <;> cases f[i] <;> cases g[i] <;> rfl
theorem maj_eq (a b c : W) : (a &&& b) ^^^ (a &&& c) ^^^ (b &&& c) = maj a b c := by
  unfold maj
  ext i hi
  simp
  cases a[i] <;> cases b[i] <;> cases c[i] <;> rfl
theorem max_u : IntKind.u32.max = u 4294967295#32 := by decide
theorem blk_x (h e f g k x : W) : ((u h + bits .xor .u32 (bits .xor .u32 (u (rr e 6)) (u (rr e 11))) (u (rr e 25)) + bits .xor .u32 (bits .and .u32 (u e) (u f)) (bits .and .u32 (bits .xor .u32 IntKind.u32.max (u e)) (u g)) + u k) % 4294967296 + u x) % 4294967296
    = u (h + S1 e + ch e f g + k + x) := by
  rw [max_u]
  simp only [u_xor, u_and]
  rw [ch_eq, mod_u4, mod_u2]
  rfl
theorem blk_y (a b c : W) : (bits .xor .u32 (bits .xor .u32 (u (rr a 2)) (u (rr a 13))) (u (rr a 22)) + bits .xor .u32 (bits .xor .u32 (bits .and .u32 (u a) (u b)) (bits .and .u32 (u a) (u c))) (bits .and .u32 (u b) (u c))) % 4294967296
    = u (S0 a + maj a b c) := by
  simp only [u_xor, u_and]
  rw [maj_eq, mod_u2]
  rfl
/-- The row of v while it is moved up: the places above q are done. -/
def up (a b c d e f g h : W) (q : Nat) : List W := [a] ++ [if 1 > q then a else b] ++ [if 2 > q then b else c] ++ [if 3 > q then c else d] ++ [if 4 > q then d else e] ++ [if 5 > q then e else f] ++ [if 6 > q then f else g] ++ [if 7 > q then g else h]

set_option maxHeartbeats 8000000 in
set_option maxRecDepth 100000 in
theorem block_calls (A : Option Addr) (cap : Nat) (H : List W) (m : List Int) (w : World) (hH : H.length = 8) (hm : m.length = 64) (hm8 : ∀ x ∈ m, 0 ≤ x ∧ x < 256) (hC : (Kd.int .u8).C w A 64 m) :
    Calls Try.prog 19 #[.agg (H.map V).toArray, .slice A 64 cap] w fun e w' => e = .returned (.agg ((blk KK m H).map V).toArray) ∧ Below w.heap.size w w' := by
  have hz := zero_8
  have hz2 := zero_8x8
  have hz3 := zero_64
  have HC := As.mk hC
  have HM := As.mk hm
  have H8 := As.mk hm8
  have HH := As.mk hH
  clear hC hm hm8 hH
  go_enter Try.func19, Try.ntmps19
  go_wp2_with (fail)
  refine (rounds_calls _).mono ?_
  rintro e w1 ⟨rfl, hb⟩
  have h1 : As (Row w1 w.heap.size 38 (H.map V)) := ⟨((Row.new w (H.map V) 38).alloc _).below' hb⟩
  have h2 : As (Row w1 (w.heap.size + 1) 38 (List.replicate 8 (V 0))) := ⟨by
    have := (Row.new (w.alloc (.cells (H.map V).toArray 38)) (List.replicate 8 (V 0)) 38).below' hb
    rw [show (w.alloc (.cells (H.map V).toArray 38)).heap.size = w.heap.size + 1 from by simp] at this
    exact this⟩
  have h0 : As (Below w.heap.size w w1) := ⟨(((Below.refl _ _).alloc (Nat.le_refl _) _).alloc (by simp) _).trans (hb.mono (by simp; omega))⟩
  clear hb
  have hk : As ((w1.alloc (.cells Z64 49)).heap[w1.heap.size]? = some (.cells Z64 49 (0, 0))) := ⟨Row.new w1 (List.replicate 64 (V 0)) 49⟩
  have hkv : KV.size = 64 := by simp [KV, KK_len]
  have hka : KV.all (·.oneCell') = true := all_V KK
  have HK := As.mk (And.intro hkv hka)
  clear hkv hka
  go_wp2_with (first
    | (refine wpList_store_row rfl 49 (.tmp 5) (.tmp 15) rfl w1.heap.size KV rfl rfl 49 _ hk.out (by rw [info_8x8, HK.out.1]) (by rw [HK.out.1]; rfl) HK.out.2 ?_)
    | fail)
  have g1 : As (Row ((w1.alloc (.cells Z64 49)).setRow w1.heap.size KV) w.heap.size 38 (H.map V)) := ⟨(h1.out.alloc _).setRow_ne (by have := h1.out.lt; omega) _⟩
  have g2 : As (Row ((w1.alloc (.cells Z64 49)).setRow w1.heap.size KV) (w.heap.size + 1) 38 (List.replicate 8 (V 0))) := ⟨(h2.out.alloc _).setRow_ne (by have := h2.out.lt; omega) _⟩
  have g3 : As (Row ((w1.alloc (.cells Z64 49)).setRow w1.heap.size KV) w1.heap.size 49 (KK.map V)) := ⟨setRow_heap _ _ _ _ _ _ hk.out⟩
  have g0 : As (Below w.heap.size w ((w1.alloc (.cells Z64 49)).setRow w1.heap.size KV)) := ⟨below_setRow (h0.out.alloc h0.out.size _) h0.out.size _⟩
  have hlt := h2.out.lt
  clear h1 h2 h0 hk
  obtain ⟨b5, hb5⟩ : ∃ b, w1.heap.size = b := ⟨_, rfl⟩
  rw [hb5] at g1 g2 g3 g0 hlt ⊢
  generalize ((w1.alloc (.cells Z64 49)).setRow b5 KV) = w2 at *
  refine (schedule_calls A cap m _ HM.out H8.out (Kd.C_below HC.out g0.out)).mono ?_
  rintro e w3 ⟨rfl, hb⟩
  replace g1 := As.mk (g1.out.below' hb)
  replace g2 := As.mk (g2.out.below' hb)
  replace g3 := As.mk (g3.out.below' hb)
  replace g0 := As.mk (g0.out.trans (hb.mono g0.out.size))
  clear hb hb5
  have hk : As ((w3.alloc (.cells Z64 39)).heap[w3.heap.size]? = some (.cells Z64 39 (0, 0))) := ⟨Row.new w3 (List.replicate 64 (V 0)) 39⟩
  have HS : As (((sch m 64).map V).toArray.size = 64) := ⟨by simp [sch_length]⟩
  have HHS : As ((H.map V).toArray.size = 8) := ⟨by simp [HH.out]⟩
  go_upto_region 3 with (first
    | (refine wpList_store_row rfl 39 (.tmp 6) (.tmp 17) rfl w3.heap.size ((sch m 64).map V).toArray rfl rfl 39 _ hk.out (by rw [info_64, HS.out]) (by rw [HS.out]; rfl) (all_V _) ?_)
    | fail)
  replace g1 : As (Row ((w3.alloc (.cells Z64 39)).setRow w3.heap.size ((sch m 64).map V).toArray) w.heap.size 38 (H.map V)) := ⟨(g1.out.alloc _).setRow_ne (by have := g1.out.lt; omega) _⟩
  replace g2 : As (Row ((w3.alloc (.cells Z64 39)).setRow w3.heap.size ((sch m 64).map V).toArray) (w.heap.size + 1) 38 (List.replicate 8 (V 0))) := ⟨(g2.out.alloc _).setRow_ne (by have := g2.out.lt; omega) _⟩
  have hlt5 := g3.out.lt
  replace g3 : As (Row ((w3.alloc (.cells Z64 39)).setRow w3.heap.size ((sch m 64).map V).toArray) b5 49 (KK.map V)) := ⟨(g3.out.alloc _).setRow_ne (by omega) _⟩
  have g4 : As (Row ((w3.alloc (.cells Z64 39)).setRow w3.heap.size ((sch m 64).map V).toArray) w3.heap.size 39 ((sch m 64).map V)) := ⟨setRow_heap _ _ _ _ _ _ hk.out⟩
  replace g0 : As (Below w.heap.size w ((w3.alloc (.cells Z64 39)).setRow w3.heap.size ((sch m 64).map V).toArray)) := ⟨below_setRow (g0.out.alloc g0.out.size _) g0.out.size _⟩
  clear hk
  obtain ⟨b6, hb6⟩ : ∃ b, w3.heap.size = b := ⟨_, rfl⟩
  rw [hb6] at g1 g2 g3 g4 g0 hlt5 ⊢
  generalize ((w3.alloc (.cells Z64 39)).setRow b6 ((sch m 64).map V).toArray) = w4 at *
  clear hb6
  have hk : As ((w4.alloc (.cells Z8 38)).heap[w4.heap.size]? = some (.cells Z8 38 (0, 0))) := ⟨Row.new w4 (List.replicate 8 (V 0)) 38⟩
  go_upto_region 4 with (first
    | (refine wpList_load_row rfl 38 (.tmp 2) rfl w.heap.size rfl 38 _ (0, 0) _ g1.out Try.underlying38 rfl (by rw [info_8, HHS.out]) ?_)
    | (refine wpList_store_row rfl 38 (.tmp 7) (.tmp 18) rfl w4.heap.size (H.map V).toArray rfl rfl 38 _ hk.out (by rw [info_8, HHS.out]) (by rw [HHS.out]; rfl) (all_V _) ?_)
    | fail)
  have hlt6 := g4.out.lt
  replace g1 : As (Row ((w4.alloc (.cells Z8 38)).setRow w4.heap.size (H.map V).toArray) w.heap.size 38 (H.map V)) := ⟨(g1.out.alloc _).setRow_ne (by have := g1.out.lt; omega) _⟩
  replace g2 : As (Row ((w4.alloc (.cells Z8 38)).setRow w4.heap.size (H.map V).toArray) (w.heap.size + 1) 38 (List.replicate 8 (V 0))) := ⟨(g2.out.alloc _).setRow_ne (by have := g2.out.lt; omega) _⟩
  replace g3 : As (Row ((w4.alloc (.cells Z8 38)).setRow w4.heap.size (H.map V).toArray) b5 49 (KK.map V)) := ⟨(g3.out.alloc _).setRow_ne (by have := g3.out.lt; omega) _⟩
  replace g4 : As (Row ((w4.alloc (.cells Z8 38)).setRow w4.heap.size (H.map V).toArray) b6 39 ((sch m 64).map V)) := ⟨(g4.out.alloc _).setRow_ne (by omega) _⟩
  have g5 : As (Row ((w4.alloc (.cells Z8 38)).setRow w4.heap.size (H.map V).toArray) w4.heap.size 38 (H.map V)) := ⟨setRow_heap _ _ _ _ _ _ hk.out⟩
  replace g0 : As (Below w.heap.size w ((w4.alloc (.cells Z8 38)).setRow w4.heap.size (H.map V).toArray)) := ⟨below_setRow (g0.out.alloc g0.out.size _) g0.out.size _⟩
  clear hk
  obtain ⟨b7, hb7⟩ : ∃ b, w4.heap.size = b := ⟨_, rfl⟩
  rw [hb7] at g1 g2 g3 g4 g5 g0 hlt6 ⊢
  generalize ((w4.alloc (.cells Z8 38)).setRow b7 (H.map V).toArray) = w5 at *
  clear hb7
  have h57 : w.heap.size + 1 < b5 ∧ b5 < b6 ∧ b6 < b7 := ⟨hlt, hlt5, hlt6⟩
  obtain ⟨a, b, c, d, e, f, g, z, hHH⟩ : ∃ a b c d e f g z, H = [a, b, c, d, e, f, g, z] := by
    have := HH.out
    match H, this with
    | [a, b, c, d, e, f, g, h], _ => exact ⟨a, b, c, d, e, f, g, h, rfl⟩
  subst hHH
  have HB : As (Bk w [a, b, c, d, e, f, g, z] m b5 b6 b7 [a, b, c, d, e, f, g, z] w5) := ⟨⟨g1.out, g2.out, g3.out, g4.out, g5.out, g0.out⟩⟩
  clear g1 g2 g3 g4 g5 g0 hlt hlt5 hlt6 hz hz2 hz3 HK HHS HS
  go_wp2
  go_loopw [8] (fun v8 wr => ∃ (t : Nat) (s : St), t ≤ 64 ∧ v8 = .int .i64 t ∧ As (s = rnds KK (sch m 64) (St.of [a, b, c, d, e, f, g, z]) t) ∧ As (Bk w [a, b, c, d, e, f, g, z] m b5 b6 b7 s.list wr)) (fun v8 _ => 64 - (intOf v8).toNat)
  case atStart => exact ⟨0, ⟨a, b, c, d, e, f, g, z⟩, by omega, rfl, ⟨rfl⟩, HB⟩
  case round =>
    clear HB w5
    obtain ⟨t, s, ht, rfl, Hs, HB⟩ := hrel
    by_cases h64 : t < 64
    · have hck := HB.out.k.cell (i := t) (v := V (KK.getD t 0)) (by
        have : t < KK.length := by rw [KK_len]; exact h64
        simp [this])
      have hcw := HB.out.ws.cell (i := t) (v := V ((sch m 64).getD t 0)) (by
        have : t < (sch m 64).length := by rw [sch_length]; exact h64
        simp [this])
      obtain ⟨k, hk⟩ : ∃ x, KK.getD t 0 = x := ⟨_, rfl⟩
      obtain ⟨x, hx⟩ : ∃ x, (sch m 64).getD t 0 = x := ⟨_, rfl⟩
      rw [hk] at hck
      rw [hx] at hcw
      have E := As.mk (And.intro hk hx)
      clear hk hx
      obtain ⟨a1, b1, c1, d1, e1, f1, g1, h1⟩ := s
      have q0 := HB.out.vs.cell (i := 0) (v := V a1) rfl
      have q1 := HB.out.vs.cell (i := 1) (v := V b1) rfl
      have q2 := HB.out.vs.cell (i := 2) (v := V c1) rfl
      have q3 := HB.out.vs.cell (i := 3) (v := V d1) rfl
      have q4 := HB.out.vs.cell (i := 4) (v := V e1) rfl
      have q5 := HB.out.vs.cell (i := 5) (v := V f1) rfl
      have q6 := HB.out.vs.cell (i := 6) (v := V g1) rfl
      have q7 := HB.out.vs.cell (i := 7) (v := V h1) rfl
      have hck' : wr.cell? ⟨b5, t / 8 * 8 + t % 8, none⟩ = some (V k) := by rw [show t / 8 * 8 + t % 8 = t by omega]; exact hck
      clear hck
      unfold V at q0 q1 q2 q3 q4 q5 q6 q7 hck' hcw
      go_wp2
      go_quiet (first | (go_at_call 28; exact Calls.quiet_of (turn_any _ _ _ (by decide))) | (go_at_call 27; exact Calls.quiet_of (three_any _ _ _ _)))
      rw [blk_x]
      replace q0 : (wr.drewN nq).cell? ⟨b7, 0, none⟩ = _ := q0
      have HB1 : As (Bk w [a, b, c, d, e, f, g, z] m b5 b6 b7 [a1, b1, c1, d1, e1, f1, g1, h1] (wr.drewN nq)) := ⟨HB.out.drewN nq⟩
      clear q1 q2 q3 q4 q5 q6 q7 hck' hcw HB
      generalize wr.drewN nq = w2 at *
      clear wr
      go_wp2
      go_quiet (first | (go_at_call 28; exact Calls.quiet_of (turn_any _ _ _ (by decide))) | (go_at_call 27; exact Calls.quiet_of (three_any _ _ _ _)))
      rw [blk_y]
      have HB2 : As (Bk w [a, b, c, d, e, f, g, z] m b5 b6 b7 (up a1 b1 c1 d1 e1 f1 g1 h1 7) (w2.drewN nq)) := ⟨HB1.out.drewN nq⟩
      clear q0 HB1
      generalize w2.drewN nq = w3 at *
      clear w2
      go_wp2
      go_loopw [13] (fun v13 wr => ∃ (i : Nat), i ≤ 7 ∧ v13 = .int .i64 i ∧ As (Bk w [a, b, c, d, e, f, g, z] m b5 b6 b7 (up a1 b1 c1 d1 e1 f1 g1 h1 i) wr)) (fun v13 _ => (intOf v13).toNat)
      case atStart => exact ⟨7, by omega, rfl, HB2⟩
      case round =>
        clear HB2 w3
        obtain ⟨i, hi, rfl, HB⟩ := hrel
        rcases (show i = 0 ∨ i = 1 ∨ i = 2 ∨ i = 3 ∨ i = 4 ∨ i = 5 ∨ i = 6 ∨ i = 7 by omega) with rfl | rfl | rfl | rfl | rfl | rfl | rfl | rfl
        · have k4 := HB.out.vs.cell (i := 4) (v := V d1) rfl
          have k0 := HB.out.vs.cell (i := 0) (v := V a1) rfl
          have kf : ∀ (o : Nat) (s : Option Nat), wr.frozen? ⟨b7, o, s⟩ = false := fun o s => HB.out.vs.free o s
          unfold V at k4 k0
          obtain ⟨X, hX⟩ : ∃ X, h1 + S1 e1 + ch e1 f1 g1 + k + x = X := ⟨_, rfl⟩
          obtain ⟨Y, hY⟩ : ∃ Y, S0 a1 + maj a1 b1 c1 = Y := ⟨_, rfl⟩
          rw [hX, hY]
          have EX := As.mk (And.intro hX hY)
          clear hX hY
          go_wp2
          go_roundw
          case measure => simp [intOf]; omega
          case rel =>
            refine ⟨t + 1, rnd k x ⟨a1, b1, c1, d1, e1, f1, g1, h1⟩, by omega, by go_num, ⟨?_⟩, ⟨?_⟩⟩
            · rw [rnds, ← Hs.out, E.out.1, E.out.2]
            · have := (HB.out.set h57 4 (d1 + X)).set h57 0 (X + Y)
              rw [mod_u2, mod_u2]
              have hl : ((up a1 b1 c1 d1 e1 f1 g1 h1 0).set 4 (d1 + X)).set 0 (X + Y) = (rnd k x ⟨a1, b1, c1, d1, e1, f1, g1, h1⟩).list := by
                rw [rnd, EX.out.1, EX.out.2]; rfl
              rw [hl] at this
              exact this
        · have k0 := HB.out.vs.cell (i := 0) (v := V a1) rfl
          have k1 := HB.out.vs.cell (i := 1) (v := V b1) rfl
          have kf := HB.out.vs.free 1 none
          unfold V at k0 k1
          go_wp2
          refine ⟨⟨0, by omega, rfl, ⟨HB.out.set h57 1 a1⟩⟩, by simp [intOf]⟩
        · have k0 := HB.out.vs.cell (i := 1) (v := V b1) rfl
          have k1 := HB.out.vs.cell (i := 2) (v := V c1) rfl
          have kf := HB.out.vs.free 2 none
          unfold V at k0 k1
          go_wp2
          refine ⟨⟨1, by omega, rfl, ⟨HB.out.set h57 2 b1⟩⟩, by simp [intOf]⟩
        · have k0 := HB.out.vs.cell (i := 2) (v := V c1) rfl
          have k1 := HB.out.vs.cell (i := 3) (v := V d1) rfl
          have kf := HB.out.vs.free 3 none
          unfold V at k0 k1
          go_wp2
          refine ⟨⟨2, by omega, rfl, ⟨HB.out.set h57 3 c1⟩⟩, by simp [intOf]⟩
        · have k0 := HB.out.vs.cell (i := 3) (v := V d1) rfl
          have k1 := HB.out.vs.cell (i := 4) (v := V e1) rfl
          have kf := HB.out.vs.free 4 none
          unfold V at k0 k1
          go_wp2
          refine ⟨⟨3, by omega, rfl, ⟨HB.out.set h57 4 d1⟩⟩, by simp [intOf]⟩
        · have k0 := HB.out.vs.cell (i := 4) (v := V e1) rfl
          have k1 := HB.out.vs.cell (i := 5) (v := V f1) rfl
          have kf := HB.out.vs.free 5 none
          unfold V at k0 k1
          go_wp2
          refine ⟨⟨4, by omega, rfl, ⟨HB.out.set h57 5 e1⟩⟩, by simp [intOf]⟩
        · have k0 := HB.out.vs.cell (i := 5) (v := V f1) rfl
          have k1 := HB.out.vs.cell (i := 6) (v := V g1) rfl
          have kf := HB.out.vs.free 6 none
          unfold V at k0 k1
          go_wp2
          refine ⟨⟨5, by omega, rfl, ⟨HB.out.set h57 6 f1⟩⟩, by simp [intOf]⟩
        · have k0 := HB.out.vs.cell (i := 6) (v := V g1) rfl
          have k1 := HB.out.vs.cell (i := 7) (v := V h1) rfl
          have kf := HB.out.vs.free 7 none
          unfold V at k0 k1
          go_wp2
          refine ⟨⟨6, by omega, rfl, ⟨HB.out.set h57 7 g1⟩⟩, by simp [intOf]⟩
    · have : t = 64 := by omega
      subst this
      obtain ⟨a1, b1, c1, d1, e1, f1, g1, h1⟩ := s
      go_wp2
      go_loopw [14] (fun v14 wr => ∃ i : Nat, i ≤ 8 ∧ v14 = .int .i64 i ∧ As (Row wr w.heap.size 38 ((mix [a, b, c, d, e, f, g, z] [a1, b1, c1, d1, e1, f1, g1, h1] i).map V)) ∧ As (Row wr (w.heap.size + 1) 38 (List.replicate 8 (V 0))) ∧ As (Row wr b7 38 (([a1, b1, c1, d1, e1, f1, g1, h1] : List W).map V)) ∧ As (Below w.heap.size w wr)) (fun v14 _ => 8 - (intOf v14).toNat)
      case atStart => exact ⟨0, by omega, rfl, ⟨HB.out.h⟩, ⟨HB.out.res⟩, ⟨HB.out.vs⟩, ⟨HB.out.below⟩⟩
      case round =>
        clear HB
        obtain ⟨i, hi, rfl, hH, hX, hV, hB⟩ := hrel
        rcases (show i = 0 ∨ i = 1 ∨ i = 2 ∨ i = 3 ∨ i = 4 ∨ i = 5 ∨ i = 6 ∨ i = 7 ∨ i = 8 by omega) with rfl | rfl | rfl | rfl | rfl | rfl | rfl | rfl | rfl
        · have k0 := hH.out.cell (i := 0) (v := V a) rfl
          have k1 := hV.out.cell (i := 0) (v := V a1) rfl
          have kf := hH.out.free 0 none
          unfold V at k0 k1
          go_wp2
          refine QTail.wp_region_lit 9 (by kernel_rfl) (by kernel_rfl) ?_
          simp only [List.take_succ_cons, List.take_zero, List.drop_succ_cons, List.drop_zero]
          repeat (go_big_quiet_step (fail))
          refine wpQuiet_nil ?_
          intro _ hw'
          obtain ⟨nq, rfl⟩ := hw'
          go_wp2
          refine ⟨⟨1, by omega, rfl, ⟨?_⟩, ⟨(hX.out.drewN nq).set_ne (by simp) _⟩, ⟨(hV.out.drewN nq).set_ne (by simp; omega) _⟩, ⟨(Blk.pw_drewN hB.out nq).setCell (by simp) _⟩⟩, by simp [intOf]⟩
          rw [mod_u2]
          exact (hH.out.drewN nq).set 0 (V (a + a1))
        · have k0 := hH.out.cell (i := 1) (v := V b) rfl
          have k1 := hV.out.cell (i := 1) (v := V b1) rfl
          have kf := hH.out.free 1 none
          unfold V at k0 k1
          go_wp2
          refine QTail.wp_region_lit 9 (by kernel_rfl) (by kernel_rfl) ?_
          simp only [List.take_succ_cons, List.take_zero, List.drop_succ_cons, List.drop_zero]
          repeat (go_big_quiet_step (fail))
          refine wpQuiet_nil ?_
          intro _ hw'
          obtain ⟨nq, rfl⟩ := hw'
          go_wp2
          refine ⟨⟨2, by omega, rfl, ⟨?_⟩, ⟨(hX.out.drewN nq).set_ne (by simp) _⟩, ⟨(hV.out.drewN nq).set_ne (by simp; omega) _⟩, ⟨(Blk.pw_drewN hB.out nq).setCell (by simp) _⟩⟩, by simp [intOf]⟩
          rw [mod_u2]
          exact (hH.out.drewN nq).set 1 (V (b + b1))
        · have k0 := hH.out.cell (i := 2) (v := V c) rfl
          have k1 := hV.out.cell (i := 2) (v := V c1) rfl
          have kf := hH.out.free 2 none
          unfold V at k0 k1
          go_wp2
          refine QTail.wp_region_lit 9 (by kernel_rfl) (by kernel_rfl) ?_
          simp only [List.take_succ_cons, List.take_zero, List.drop_succ_cons, List.drop_zero]
          repeat (go_big_quiet_step (fail))
          refine wpQuiet_nil ?_
          intro _ hw'
          obtain ⟨nq, rfl⟩ := hw'
          go_wp2
          refine ⟨⟨3, by omega, rfl, ⟨?_⟩, ⟨(hX.out.drewN nq).set_ne (by simp) _⟩, ⟨(hV.out.drewN nq).set_ne (by simp; omega) _⟩, ⟨(Blk.pw_drewN hB.out nq).setCell (by simp) _⟩⟩, by simp [intOf]⟩
          rw [mod_u2]
          exact (hH.out.drewN nq).set 2 (V (c + c1))
        · have k0 := hH.out.cell (i := 3) (v := V d) rfl
          have k1 := hV.out.cell (i := 3) (v := V d1) rfl
          have kf := hH.out.free 3 none
          unfold V at k0 k1
          go_wp2
          refine QTail.wp_region_lit 9 (by kernel_rfl) (by kernel_rfl) ?_
          simp only [List.take_succ_cons, List.take_zero, List.drop_succ_cons, List.drop_zero]
          repeat (go_big_quiet_step (fail))
          refine wpQuiet_nil ?_
          intro _ hw'
          obtain ⟨nq, rfl⟩ := hw'
          go_wp2
          refine ⟨⟨4, by omega, rfl, ⟨?_⟩, ⟨(hX.out.drewN nq).set_ne (by simp) _⟩, ⟨(hV.out.drewN nq).set_ne (by simp; omega) _⟩, ⟨(Blk.pw_drewN hB.out nq).setCell (by simp) _⟩⟩, by simp [intOf]⟩
          rw [mod_u2]
          exact (hH.out.drewN nq).set 3 (V (d + d1))
        · have k0 := hH.out.cell (i := 4) (v := V e) rfl
          have k1 := hV.out.cell (i := 4) (v := V e1) rfl
          have kf := hH.out.free 4 none
          unfold V at k0 k1
          go_wp2
          refine QTail.wp_region_lit 9 (by kernel_rfl) (by kernel_rfl) ?_
          simp only [List.take_succ_cons, List.take_zero, List.drop_succ_cons, List.drop_zero]
          repeat (go_big_quiet_step (fail))
          refine wpQuiet_nil ?_
          intro _ hw'
          obtain ⟨nq, rfl⟩ := hw'
          go_wp2
          refine ⟨⟨5, by omega, rfl, ⟨?_⟩, ⟨(hX.out.drewN nq).set_ne (by simp) _⟩, ⟨(hV.out.drewN nq).set_ne (by simp; omega) _⟩, ⟨(Blk.pw_drewN hB.out nq).setCell (by simp) _⟩⟩, by simp [intOf]⟩
          rw [mod_u2]
          exact (hH.out.drewN nq).set 4 (V (e + e1))
        · have k0 := hH.out.cell (i := 5) (v := V f) rfl
          have k1 := hV.out.cell (i := 5) (v := V f1) rfl
          have kf := hH.out.free 5 none
          unfold V at k0 k1
          go_wp2
          refine QTail.wp_region_lit 9 (by kernel_rfl) (by kernel_rfl) ?_
          simp only [List.take_succ_cons, List.take_zero, List.drop_succ_cons, List.drop_zero]
          repeat (go_big_quiet_step (fail))
          refine wpQuiet_nil ?_
          intro _ hw'
          obtain ⟨nq, rfl⟩ := hw'
          go_wp2
          refine ⟨⟨6, by omega, rfl, ⟨?_⟩, ⟨(hX.out.drewN nq).set_ne (by simp) _⟩, ⟨(hV.out.drewN nq).set_ne (by simp; omega) _⟩, ⟨(Blk.pw_drewN hB.out nq).setCell (by simp) _⟩⟩, by simp [intOf]⟩
          rw [mod_u2]
          exact (hH.out.drewN nq).set 5 (V (f + f1))
        · have k0 := hH.out.cell (i := 6) (v := V g) rfl
          have k1 := hV.out.cell (i := 6) (v := V g1) rfl
          have kf := hH.out.free 6 none
          unfold V at k0 k1
          go_wp2
          refine QTail.wp_region_lit 9 (by kernel_rfl) (by kernel_rfl) ?_
          simp only [List.take_succ_cons, List.take_zero, List.drop_succ_cons, List.drop_zero]
          repeat (go_big_quiet_step (fail))
          refine wpQuiet_nil ?_
          intro _ hw'
          obtain ⟨nq, rfl⟩ := hw'
          go_wp2
          refine ⟨⟨7, by omega, rfl, ⟨?_⟩, ⟨(hX.out.drewN nq).set_ne (by simp) _⟩, ⟨(hV.out.drewN nq).set_ne (by simp; omega) _⟩, ⟨(Blk.pw_drewN hB.out nq).setCell (by simp) _⟩⟩, by simp [intOf]⟩
          rw [mod_u2]
          exact (hH.out.drewN nq).set 6 (V (g + g1))
        · have k0 := hH.out.cell (i := 7) (v := V z) rfl
          have k1 := hV.out.cell (i := 7) (v := V h1) rfl
          have kf := hH.out.free 7 none
          unfold V at k0 k1
          go_wp2
          refine QTail.wp_region_lit 9 (by kernel_rfl) (by kernel_rfl) ?_
          simp only [List.take_succ_cons, List.take_zero, List.drop_succ_cons, List.drop_zero]
          repeat (go_big_quiet_step (fail))
          refine wpQuiet_nil ?_
          intro _ hw'
          obtain ⟨nq, rfl⟩ := hw'
          go_wp2
          refine ⟨⟨8, by omega, rfl, ⟨?_⟩, ⟨(hX.out.drewN nq).set_ne (by simp) _⟩, ⟨(hV.out.drewN nq).set_ne (by simp; omega) _⟩, ⟨(Blk.pw_drewN hB.out nq).setCell (by simp) _⟩⟩, by simp [intOf]⟩
          rw [mod_u2]
          exact (hH.out.drewN nq).set 7 (V (z + h1))
        · have HL : As ((((mix [a, b, c, d, e, f, g, z] [a1, b1, c1, d1, e1, f1, g1, h1] 8).map V).toArray).size = 8) := ⟨rfl⟩
          go_wp2_with (first
            | (refine wpList_load_row rfl 38 (.tmp 2) rfl w.heap.size rfl 38 _ (0, 0) _ hH.out Try.underlying38 rfl (by rw [info_8, HL.out]) ?_)
            | (refine wpList_store_row rfl 38 (.tmp 4) (.tmp 123) rfl (w.heap.size + 1) ((mix [a, b, c, d, e, f, g, z] [a1, b1, c1, d1, e1, f1, g1, h1] 8).map V).toArray rfl rfl 38 _ hX.out (by rw [info_8, HL.out]) (by rw [HL.out]; rfl) (all_V _) ?_)
            | fail)
          refine bodyPost_ret (v := .agg ((mix [a, b, c, d, e, f, g, z] [a1, b1, c1, d1, e1, f1, g1, h1] 8).map V).toArray) (results_cell_row rfl _ _ (w.heap.size + 1) 38 _ (0, 0) _ rfl (setRow_heap _ _ _ _ _ _ hX.out) Try.underlying38 rfl (by rw [info_8, HL.out])) rfl ⟨?_, below_setRow hB.out (by omega) _⟩
          rw [blk, ← Hs.out]
          rfl
end Go.Proofs.Ytnajnjjkgojphaa.Dg
