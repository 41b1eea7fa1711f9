/- The walk of DigestLong: the bytes, some times over, and one byte more. -/
import Derived.Test.YtnajnjjkgojphaaLawTells
namespace Go.Proofs.Ytnajnjjkgojphaa.Dg
set_option linter.unusedVariables false
set_option linter.unusedSimpArgs false
open Go.RowKit Blk Go.Proofs.YtnajnjjkgojphaaW.PrintWords Go.Proofs.YtnajnjjkgojphaaW.PrintLast Go.Proofs.YtnajnjjkgojphaaW.PrintMore

theorem unguard {P : Program} {ops : Array Oper} {Q : Exit → Act → World → Prop} {rest : List Oper} {a : Act} {W : World} (o : Oper) (hw : Region.wanted o (yielded ops a.tmps) = true)
    (h : wpList P ops Q ({ o with guard := none } :: rest) a W) : wpList P ops Q (o :: rest) a W := by
  cases o
  simp only [wpList] at h ⊢
  rw [if_pos hw]
  try rw [if_pos rfl] at h
  exact h

/-- A list some times over. -/
def rep (l : List Int) : Nat → List Int
  | 0 => []
  | i + 1 => rep l i ++ l
theorem rep_len (l : List Int) (i : Nat) : (rep l i).length = i * l.length := by
  induction i with
  | zero => simp [rep]
  | succ i ih => simp [rep, ih, Nat.succ_mul]
theorem rep_8 {l : List Int} (h : ∀ x ∈ l, 0 ≤ x ∧ x < 256) (i : Nat) : ∀ x ∈ rep l i, 0 ≤ x ∧ x < 256 := by
  induction i with
  | zero => simp [rep]
  | succ i ih => intro x hx; exact (List.mem_append.1 hx).elim (ih x) (h x)

set_option maxHeartbeats 4000000 in
set_option maxRecDepth 100000 in
theorem long_law (A : Option Addr) (c : Nat) (l : List Int) (t : Int) (y : Int) (w : World) (hC : (Kd.int .u8).C w A l.length l) (hc : l.length ≤ c) (hl : l.length ≤ 9223372036854775807) (h8 : ∀ x ∈ l, 0 ≤ x ∧ x < 256)
    (ht0 : 0 ≤ t) (ht1 : t < 256) (hy0 : 0 ≤ y) (hy1 : y < 256) :
    Calls Try.prog 8 #[.slice A l.length c, .int .u8 t, .int .u8 y] w fun e w' => e = .returned (.bool true) ∧ Below w.heap.size w w' := by
  have HC := As.mk hC
  have H8 := As.mk h8
  clear hC h8
  by_cases hbig : 200 < l.length
  · go_enter Try.func8, Try.ntmps8
    go_wp2_with (fail)
    refine (head_calls _).mono ?_
    rintro e w1 ⟨rfl, hb⟩
    have HB := As.mk hb
    clear hb
    go_wp2_with (fail)
    go_ret
    exact ⟨rfl, HB.out⟩
  · go_enter Try.func8, Try.ntmps8
    go_wp2_with (fail)
    refine (head_calls _).mono ?_
    rintro e w1 ⟨rfl, hb⟩
    have HB := As.mk hb
    clear hb
    go_wp2_with (fail)
    go_loopw [8, 9] (fun v8 v9 wr => ∃ i : Nat, (i : Int) ≤ t % 40 ∧ v9 = .int .i64 i ∧ As ((Kd.int .u8).R 5 wr w.heap.size (fun _ => True) v8 (rep l i)) ∧ As (Below w.heap.size w wr)) (fun _ v9 _ => 40 - (intOf v9).toNat)
    case atStart => exact ⟨0, by omega, rfl, ⟨Kd.R_nil _ _ _ _ _⟩, HB⟩
    case round =>
      clear HB
      obtain ⟨i, hi, rfl, HO, HB⟩ := hrel
      by_cases hlt : (i : Int) < t % 40
      · have hcap : (rep l i).length ≤ 8000 := by
          rw [rep_len]
          exact Nat.le_trans (Nat.mul_le_mul (show i ≤ 40 by omega) (show l.length ≤ 200 by omega)) (by decide)
        go_wp2_with (first
          | ((with_reducible refine gate_builtin (b := .append) (xs := #[.tmp 24, .tmp 25]) rfl ?_); at_builtin; refine Kd.R_append_rows (Kd.int .u8) (Rr := (Kd.int .u8).K wr) (w0 := w) w.heap.size rfl (.tmp 24) (.tmp 25) 22 5 (.int .u8 0) 1 rfl Try.underlying22 info_u8 rfl (by decide) (by omega) _ (rep l i) l A l.length c (fun _ => True) (fun _ => False) rfl rfl HO.out (Kd.C_below HC.out HB.out) (fun _ _ h => h) (fun _ hk => hk.elim) (fun _ _ => trivial) HB.out (below_size HB.out) (by omega) ?_; intro v1 w1 ho hb1 hg hat; have HO2 := As.mk ho; have HB2 := As.mk hb1; clear ho hb1 hat hg)
          | fail)
        refine ⟨⟨i + 1, by omega, by go_num, HO2, HB2⟩, by simp [intOf]; omega⟩
      · obtain ⟨A1, c1, rfl, hc1, hC1⟩ := Kd.R_reads HO.out
        have hcap : (rep l i).length ≤ 8000 := by
          rw [rep_len]
          exact Nat.le_trans (Nat.mul_le_mul (show i ≤ 40 by omega) (show l.length ≤ 200 by omega)) (by decide)
        have h10 := rep_8 H8.out i
        obtain ⟨m, hm⟩ : ∃ m, rep l i = m := ⟨_, rfl⟩
        rw [hm] at hcap h10 hc1 hC1 ⊢
        clear hm HO
        have HC1 := As.mk hC1
        have H10 := As.mk h10
        clear hC1 h10
        go_wp2_with (fail)
        refine (name_calls A1 c1 m _ HC1.out hc1 (by omega) H10.out).mono ?_
        rintro e w2 ⟨rfl, hb⟩
        replace HC1 := As.mk (Kd.C_below HC1.out hb)
        replace HB : As (Below w.heap.size w w2) := ⟨HB.out.trans (hb.mono HB.out.size)⟩
        clear hb
        have hE := As.mk (own_empty w2 w2.heap.size (Nat.le_refl _))
        have HB1 : As (Below w2.heap.size w2 (w2.alloc (.cells #[] 5))) := ⟨(Below.refl _ _).alloc (Nat.le_refl _) _⟩
        have HC2 := As.mk (Kd.C_alloc HC1.out (.cells #[] 5))
        go_wp2_with (first
          | ((with_reducible refine gate_builtin (b := .append) (xs := #[.tmp 29, .tmp 30]) rfl ?_); at_builtin; refine Kd.R_append_rows (Kd.int .u8) (Rr := (Kd.int .u8).K (w2.alloc (.cells #[] 5))) (w0 := w2) w2.heap.size rfl (.tmp 29) (.tmp 30) 22 5 (.int .u8 0) 1 rfl Try.underlying22 info_u8 rfl (by decide) (by omega) (.slice (some ⟨w2.heap.size, 0, none⟩) 0 0) [] m A1 m.length c1 (fun _ => True) (fun _ => False) rfl rfl hE.out HC2.out (fun _ _ h => h) (fun _ hk => hk.elim) (fun _ _ => trivial) HB1.out (below_size HB1.out) (by simp; omega) ?_; intro vw3 w3 ho hb1 hg hat; rw [List.nil_append] at ho; have HO := As.mk ho; have HB2 := As.mk hb1; clear ho hb1 hat hg)
          | ((with_reducible refine gate_builtin (b := .append) (xs := #[.tmp 31, .tmp 33]) rfl ?_); at_builtin; refine Kd.R_append (Kd.int .u8) (w0 := w2) w2.heap.size rfl (.tmp 31) (.tmp 33) 22 5 (.int .u8 0) 1 rfl Try.underlying22 info_u8 rfl (by decide) (by omega) _ m y [.int .u8 y] (fun _ => True) (fun _ => False) rfl rfl rfl (fun _ hk => hk.elim) (fun _ _ => trivial) HO.out HB2.out (below_size HB2.out) (by simp; omega) ?_; intro vw4 w4 ho hb1 hg hat; have HO2 := As.mk ho; have HB3 := As.mk hb1; clear ho hb1 hat hg)
          | fail)
        have hq8 : ∀ x ∈ m ++ [y], 0 ≤ x ∧ x < 256 := fun x hx => (List.mem_append.1 hx).elim (H10.out x) (fun h => by rw [List.mem_singleton.1 h]; exact ⟨hy0, hy1⟩)
        have hqn : (m ++ [y]).length ≤ 1099511627776 := by simp; omega
        obtain ⟨q, hq⟩ : ∃ q, m ++ [y] = q := ⟨_, rfl⟩
        rw [hq] at HO2 hq8 hqn
        have HQ := As.mk hq
        have HQ8 := As.mk hq8
        have HQN := As.mk hqn
        clear hq hq8 hqn
        obtain ⟨A4, c4, rfl, hc4, hC4⟩ := Kd.R_reads HO2.out
        refine (name_calls A4 c4 q _ hC4 hc4 HQN.out HQ8.out).mono ?_
        rintro e w5 ⟨rfl, hb⟩
        replace HB3 := As.mk (HB3.out.trans (hb.mono HB3.out.size))
        replace HC1 := As.mk (Kd.C_below HC1.out HB3.out)
        replace HB : As (Below w.heap.size w w5) := ⟨HB.out.trans (HB3.out.mono HB.out.size)⟩
        clear hb hC4 HO HO2 HB2 HB1 HC2 hE HB3 hc4
        go_wp2_with (fail)
        refine (rname_calls A1 c1 m _ HC1.out hc1 (by omega) H10.out).mono ?_
        rintro e w6 ⟨rfl, hb⟩
        replace HC1 := As.mk (Kd.C_below HC1.out hb)
        replace HB : As (Below w.heap.size w w6) := ⟨HB.out.trans (hb.mono HB.out.size)⟩
        clear hb
        have hE := As.mk (own_empty w6 w6.heap.size (Nat.le_refl _))
        have HB1 : As (Below w6.heap.size w6 (w6.alloc (.cells #[] 5))) := ⟨(Below.refl _ _).alloc (Nat.le_refl _) _⟩
        have HC2 := As.mk (Kd.C_alloc HC1.out (.cells #[] 5))
        go_wp2_with (first
          | ((with_reducible refine gate_builtin (b := .append) (xs := #[.tmp 45, .tmp 46]) rfl ?_); at_builtin; refine unguard _ (by rfl) ?_; refine Kd.R_append_rows (Kd.int .u8) (Rr := (Kd.int .u8).K (w6.alloc (.cells #[] 5))) (w0 := w6) w6.heap.size rfl (.tmp 45) (.tmp 46) 22 5 (.int .u8 0) 1 rfl Try.underlying22 info_u8 rfl (by decide) (by omega) (.slice (some ⟨w6.heap.size, 0, none⟩) 0 0) [] m A1 m.length c1 (fun _ => True) (fun _ => False) rfl rfl hE.out HC2.out (fun _ _ h => h) (fun _ hk => hk.elim) (fun _ _ => trivial) HB1.out (below_size HB1.out) (by simp; omega) ?_; intro vw7 w7 ho hb1 hg hat; rw [List.nil_append] at ho; have HO := As.mk ho; have HB2 := As.mk hb1; clear ho hb1 hat hg)
          | ((with_reducible refine gate_builtin (b := .append) (xs := #[.tmp 47, .tmp 49]) rfl ?_); at_builtin; refine unguard _ (by rfl) ?_; refine Kd.R_append (Kd.int .u8) (w0 := w6) w6.heap.size rfl (.tmp 47) (.tmp 49) 22 5 (.int .u8 0) 1 rfl Try.underlying22 info_u8 rfl (by decide) (by omega) _ m y [.int .u8 y] (fun _ => True) (fun _ => False) rfl rfl rfl (fun _ hk => hk.elim) (fun _ _ => trivial) HO.out HB2.out (below_size HB2.out) (by simp; omega) ?_; intro vw8 w8 ho hb1 hg hat; have HO2 := As.mk ho; have HB3 := As.mk hb1; clear ho hb1 hat hg)
          | fail)
        rw [HQ.out] at HO2
        obtain ⟨A5, c5, rfl, hc5, hC5⟩ := Kd.R_reads HO2.out
        refine (rname_calls A5 c5 q _ hC5 hc5 HQN.out HQ8.out).mono ?_
        rintro e w9 ⟨rfl, hb⟩
        replace HB3 := As.mk (HB3.out.trans (hb.mono HB3.out.size))
        replace HB : As (Below w.heap.size w w9) := ⟨HB.out.trans (HB3.out.mono HB.out.size)⟩
        clear hb hC5 HO HO2 HB2 HB1 HC2 hE HB3 hc5
        go_wp2_with (fail)
        go_ret
        exact ⟨rfl, HB.out⟩
end Go.Proofs.Ytnajnjjkgojphaa.Dg
