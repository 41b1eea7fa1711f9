/- The reference's sum is the program's; the contracts of its Name and Named. No condition. -/
import Derived.Test.YtnajnjjkgojphaaRefSum
import Derived.Test.YtnajnjjkgojphaaRefLeaf
import Derived.Test.YtnajnjjkgojphaaDigNamed
namespace Go.Proofs.Ytnajnjjkgojphaa.Dg
set_option linter.unusedVariables false
set_option linter.unusedSimpArgs false
open Go.RowKit Blk Go.Proofs.YtnajnjjkgojphaaW.PrintWords Go.Proofs.YtnajnjjkgojphaaW.PrintLast Go.Proofs.YtnajnjjkgojphaaW.PrintMore

theorem runs_add (a b : Nat) : ∀ (l : List Int) (H : List W), runs (a + b) l H = runs b (l.drop (64 * a)) (runs a l H) := by
  induction a with
  | zero => intro l H; simp [runs]
  | succ a ih =>
    intro l H
    rw [show a + 1 + b = (a + b) + 1 by omega, runs, ih, runs, List.drop_drop, show 64 + 64 * a = 64 * (a + 1) by omega]
theorem runs_append (n : Nat) : ∀ (l t : List Int) (H : List W), 64 * n ≤ l.length → runs n (l ++ t) H = runs n l H := by
  induction n with
  | zero => intro l t H h; rfl
  | succ n ih =>
    intro l t H h
    rw [runs, runs, List.drop_append_of_le_length (by omega), List.take_append_of_le_length (by omega)]
    exact ih _ _ _ (by simp; omega)
/-- The two texts' sums are one. -/
theorem shaR_eq (l : List Int) : shaR l = shaL l := by
  unfold shaR shaL
  congr 1
  have hd : (padded l l.length).drop (64 * (l.length / 64)) = padded (l.drop (64 * (l.length / 64))) l.length := by
    unfold padded
    rw [List.append_assoc, List.append_assoc, List.drop_append_of_le_length (by omega), List.append_assoc, List.append_assoc]
  have hlen : (padded l l.length).length = 64 * (l.length / 64) + (padded (l.drop (64 * (l.length / 64))) l.length).length := by
    rw [← hd, List.length_drop]
    have : l.length ≤ (padded l l.length).length := by simp [padded]
    omega
  have h1 : (padded l l.length).length / 64 = l.length / 64 + (padded (l.drop (64 * (l.length / 64))) l.length).length / 64 := by omega
  rw [h1, runs_add, hd]
  congr 1
  have : padded l l.length = l ++ ([128] ++ List.replicate (zs l.length) 0 ++ lenb l.length) := by simp [padded]
  rw [this]
  exact runs_append _ _ _ _ (by omega)

theorem digit_calls (n : Int) (w : World) (h0 : 0 ≤ n) (h1 : n < 16) :
    Calls Try.prog 20 #[.int .u8 n] w fun e w' => e = .returned (.int .u8 (hexd n)) ∧ ∃ m, w' = w.drewN m := by
  have h : Rl.sacristyref02_digit.f n = some (hexd n) := by
    unfold Rl.sacristyref02_digit.f hexd
    by_cases h : n < 10
    · rw [if_pos h, if_pos h]; congr 1; omega
    · rw [if_neg h, if_neg h]; congr 1; omega
  exact (Rl.sacristyref02_digit.calls n _ w h).mono fun _ _ ⟨h, n, hn⟩ => ⟨h, n, hn⟩

theorem rnamed_l0 (s : ByteArray) (hs : s.size = 64) : ∀ (d k i : Nat), i ≤ 64 → 64 - i = d → d < k →
    Rl.sacristyref02_Named.l0 k s (i : Int) = some (((bytesOf s).drop i).all hexc) := by
  intro d
  induction d with
  | zero =>
    intro k i hi hd hk
    obtain ⟨k, rfl⟩ : ∃ m, k = m + 1 := ⟨k - 1, by omega⟩
    simp only [Rl.sacristyref02_Named.l0]
    rw [if_neg (by omega), List.drop_of_length_le (by rw [bytesOf_length]; omega)]
    rfl
  | succ d ih =>
    intro k i hi hd hk
    obtain ⟨k, rfl⟩ : ∃ m, k = m + 1 := ⟨k - 1, by omega⟩
    have hlt : i < s.size := by omega
    have hw : wrap64 ((i : Int) + 1) = ((i + 1 : Nat) : Int) := by unfold wrap64; omega
    have hd1 : (bytesOf s).drop i = bt s i :: (bytesOf s).drop (i + 1) := by
      rw [List.drop_eq_getElem_cons (by rw [bytesOf_length]; exact hlt)]
      congr 1
      rw [← rd_bytesOf]
      simp [rd, bytesOf_length, hlt]
    have ih' := ih k (i + 1) (by omega) (by omega) (by omega)
    simp only [Rl.sacristyref02_Named.l0]
    rw [if_pos (by omega), if_pos (by omega), if_pos (by omega), hw, ih', hd1, List.all_cons]
    generalize bt s i = c
    generalize ((bytesOf s).drop (i + 1)).all hexc = r
    unfold hexc
    by_cases h1 : c ≥ 48
    · rw [if_pos h1]
      by_cases h2 : c ≤ 57
      · rw [if_pos h2]
        simp [show 48 ≤ c by omega, h2]
      · rw [if_neg h2]
        by_cases h3 : c ≥ 97
        · rw [if_pos h3]
          by_cases h4 : c ≤ 102
          · rw [if_pos h4]
            simp [show 97 ≤ c by omega, h4]
          · rw [if_neg h4]
            simp [h2, h4]
        · rw [if_neg h3]
          simp [h2, show ¬ 97 ≤ c by omega]
    · rw [if_neg h1, if_neg (by omega)]
      simp [show ¬ 48 ≤ c by omega, show ¬ 97 ≤ c by omega]

theorem rnamed_calls (s : ByteArray) (w : World) :
    Calls Try.prog 15 #[.string s] w fun e w' => e = .returned (.bool (namedL (bytesOf s))) ∧ Below w.heap.size w w' := by
  have h : Rl.sacristyref02_Named.f 65 s = some (namedL (bytesOf s)) := by
    unfold Rl.sacristyref02_Named.f namedL
    rw [bytesOf_length]
    by_cases hs : s.size = 64
    · have h0 := rnamed_l0 s hs 64 65 0 (by omega) (by omega) (by omega)
      rw [show ((0 : Nat) : Int) = 0 from rfl] at h0
      rw [if_pos (by omega), h0]
      simp [hs]
    · rw [if_neg (by omega)]
      simp [hs]
  refine (Rl.sacristyref02_Named.calls 65 s _ w h).mono fun e w' ⟨he, n, hn⟩ => ⟨he, ?_⟩
  rw [hn]; exact Blk.pw_drewN (Below.refl _ _) n

set_option maxHeartbeats 4000000 in
set_option maxRecDepth 100000 in
theorem rname_calls (A : Option Addr) (c : Nat) (l : List Int) (w : World) (hC : (Kd.int .u8).C w A l.length l) (hc : l.length ≤ c) (hl : l.length ≤ 1099511627776) (h8 : ∀ x ∈ l, 0 ≤ x ∧ x < 256) :
    Calls Try.prog 13 #[.slice A l.length c] w fun e w' => e = .returned (.string (strOfNums (nameL (shaL l)))) ∧ Below w.heap.size w w' := by
  have hz := zero_32
  go_enter Try.func13, Try.ntmps13
  go_wp2_with (fail)
  refine (rsum_calls A c l _ hC hc hl h8).mono ?_
  rintro e w1 ⟨rfl, hb⟩
  rw [shaR_eq]
  have hlen := shaL_len l
  have h8s := shaL_8 l
  obtain ⟨r, hS⟩ : ∃ r, shaL l = r := ⟨_, rfl⟩
  rw [hS] at hlen h8s ⊢
  have HL := As.mk hlen
  have H8 := As.mk h8s
  have HSS := As.mk hS
  have hnew : As ((w1.alloc (.cells Z32 24)).heap[w1.heap.size]? = some (.cells Z32 24 (0, 0))) := ⟨Row.new w1 (List.replicate 32 (.int .u8 0)) 24⟩
  have HZ : As ((r.map (Value.int .u8)).toArray.size = 32) := ⟨by simp [hlen]⟩
  clear hlen h8s hS
  go_wp2_with (first
    | (refine wpList_store_row rfl 24 (.tmp 3) (.tmp 7) rfl w1.heap.size (r.map (Value.int .u8)).toArray rfl rfl 24 _ hnew.out (by rw [info_32, HZ.out]) (by rw [HZ.out]; rfl) (all_u8 _) ?_)
    | fail)
  have hR0 : As (Row ((w1.alloc (.cells Z32 24)).setRow w1.heap.size (r.map (Value.int .u8)).toArray) w1.heap.size 24 (r.map (Value.int .u8))) := ⟨setRow_heap _ _ _ _ _ _ hnew.out⟩
  have hB0 : As (Below (w1.heap.size + 1) ((w1.alloc (.cells Z32 24)).setRow w1.heap.size (r.map (Value.int .u8)).toArray) ((w1.alloc (.cells Z32 24)).setRow w1.heap.size (r.map (Value.int .u8)).toArray)) := ⟨Below.refl _ _⟩
  have hW0 : As (Below w.heap.size w ((w1.alloc (.cells Z32 24)).setRow w1.heap.size (r.map (Value.int .u8)).toArray)) := ⟨below_setRow (hb.alloc hb.size _) hb.size _⟩
  have hsz : ((w1.alloc (.cells Z32 24)).setRow w1.heap.size (r.map (Value.int .u8)).toArray).heap.size = w1.heap.size + 1 := by simp
  have HSZ := As.mk hsz
  clear hb hnew hsz
  obtain ⟨g, hg⟩ : ∃ g, w1.heap.size = g := ⟨_, rfl⟩
  rw [hg] at hR0 hB0 hW0 HSZ ⊢
  obtain ⟨w2, hw2⟩ : ∃ x, ((w1.alloc (.cells Z32 24)).setRow g (r.map (Value.int .u8)).toArray) = x := ⟨_, rfl⟩
  rw [hw2] at hR0 hB0 hW0 HSZ ⊢
  clear hw2 hg w1
  go_loopw [4, 5] (fun v4 v5 wr => ∃ i : Nat, i ≤ 32 ∧ v5 = .int .i64 i ∧ As ((Kd.int .u8).R 5 wr (g + 1) (fun _ => True) v4 (nameL (r.take i))) ∧ As (Below (g + 1) w2 wr)) (fun _ v5 _ => 32 - (intOf v5).toNat)
  case atStart => exact ⟨0, by omega, rfl, ⟨Kd.R_nil _ _ _ _ _⟩, hB0⟩
  case round =>
    clear hB0
    obtain ⟨i, hi, rfl, HO, HB⟩ := hrel
    have hsg : g + 1 ≤ wr.heap.size := by have := HB.out.size; rw [HSZ.out] at this; exact this
    by_cases hlt : i < 32
    · obtain ⟨x, hx⟩ : ∃ x, r.getD i 0 = x := ⟨_, rfl⟩
      have hcell : wr.cell? ⟨g, i, none⟩ = some (.int .u8 x) := by
        have := (hR0.out.below (B := g + 1) (by omega) HB.out).cell (i := i) (v := .int .u8 (r.getD i 0)) (by
          have : i < r.length := by rw [HL.out]; exact hlt
          simp [this])
        rw [hx] at this; exact this
      have hx8 : 0 ≤ x ∧ x < 256 := by
        rw [← hx]
        refine H8.out _ ?_
        have : i < r.length := by rw [HL.out]; exact hlt
        simp [this]
      have hx0 := hx8.1
      have hx1 := hx8.2
      have HX := As.mk hx
      clear hx hx8
      go_wp2
      refine QTail.wp_region_pre 1 11 (by kernel_rfl) (by kernel_rfl) (by intro _ _ d _ _ h; cases d <;> exact h) ?_
      simp only [List.take_succ_cons, List.take_zero, List.drop_succ_cons, List.drop_zero, QTail.pre]
      go_simp
      repeat (go_big_quiet_step (exact Calls.quiet_of (digit_calls _ _ (by omega) (by omega))))
      refine wpQuiet_nil ?_
      intro nq
      obtain ⟨y1, hy1⟩ : ∃ y, hexd (x / 16) = y := ⟨_, rfl⟩
      obtain ⟨y2, hy2⟩ : ∃ y, hexd (x % 16) = y := ⟨_, rfl⟩
      rw [hy1, hy2]
      have HY := As.mk (And.intro hy1 hy2)
      clear hy1 hy2
      have HO1 : As ((Kd.int .u8).R 5 ((wr.drewN nq).alloc (.cells #[.int .u8 y1, .int .u8 y2] 5)) (g + 1) (fun _ => True) u4 (nameL (r.take i))) := ⟨Kd.R_alloc (Kd.R_drewN HO.out nq) _⟩
      have HB1 : As (Below (g + 1) w2 ((wr.drewN nq).alloc (.cells #[.int .u8 y1, .int .u8 y2] 5))) := ⟨(Blk.pw_drewN HB.out nq).alloc hsg _⟩
      have HC := As.mk (C_new2 (wr.drewN nq) y1 y2)
      go_wp2_with (first
        | ((with_reducible refine gate_builtin (b := .append) (xs := #[.tmp 12, .tmp 23]) rfl ?_); at_builtin; refine Kd.R_append_rows (Kd.int .u8) (Rr := (Kd.int .u8).K ((wr.drewN nq).alloc (.cells #[.int .u8 y1, .int .u8 y2] 5))) (w0 := w2) (g + 1) rfl (.tmp 12) (.tmp 23) 22 5 (.int .u8 0) 1 rfl Try.underlying22 info_u8 rfl (by decide) (by omega) _ (nameL (r.take i)) [y1, y2] (some ⟨wr.heap.size, 0, none⟩) 2 2 (fun _ => True) (fun _ => False) rfl rfl HO1.out HC.out (fun _ _ h => h) (fun _ hk => hk.elim) (fun _ _ => trivial) HB1.out (by simp; omega) (by rw [nameL_len]; simp; omega) ?_; intro v1 w1 ho hb1 hg hat; have HO2 := As.mk ho; have HB2 := As.mk hb1; clear ho hb1 hat hg)
        | fail)
      refine ⟨⟨i + 1, by omega, by go_num, ⟨?_⟩, HB2⟩, by simp [intOf]; omega⟩
      rw [nameL_snoc r i (by rw [HL.out]; exact hlt), HX.out, HY.out.1, HY.out.2]
      exact HO2.out
    · have : i = 32 := by omega
      subst this
      obtain ⟨A1, c1, rfl, hc1, hC1⟩ := Kd.R_reads HO.out
      have hcv := Kd.C_string (P := Try.prog) (A := A1) (c := c1) Try.underlying22 Try.underlying5 Try.underlying9 hC1
      clear hC1
      go_wp2
      go_ret
      refine ⟨?_, hW0.out.trans (HB.out.mono (by have := hW0.out.size; have := HSZ.out; omega))⟩
      have ht : r.take 32 = r := List.take_of_length_le (by rw [HL.out]; exact Nat.le_refl _)
      rw [HSS.out, ht]
      rfl
end Go.Proofs.Ytnajnjjkgojphaa.Dg
