/- The walk of NumCut. No condition but the reach of what comes in, and the library's table as its text lays it. -/
import Derived.Test.YticagpejankjcaaDoorNumPut
namespace Go.Proofs.YticagpejankjcaaDoor.Nb
set_option linter.unusedVariables false
set_option linter.unusedSimpArgs false
open Go.RowKit Go.Proofs.YticagpejankjcaaDoorW.PrintWords Go.Proofs.YticagpejankjcaaDoorW.PrintLast Go.Proofs.YticagpejankjcaaDoorW.PrintMore

theorem put_calls (n : Int) (w : World) :
    Calls Tryd.prog 13 #[.int .i64 n] w fun e w' => ∃ v0_ : Value, e = .returned (v0_) ∧ Kd.R (Kd.int .u8) 5 w' w.heap.size (fun _ => True) v0_ (putL n) ∧ Below w.heap.size w w' :=
  Nl.num_Put.calls 7 n (putL n) w (put_f n)
theorem get_calls (A : Option Addr) (c : Nat) (l : List Int) (w : World) (hC : (Kd.int .u8).C w A l.length l) (hc : l.length ≤ c) (h8 : ∀ x ∈ l, 0 ≤ x ∧ x < 256) :
    Calls Tryd.prog 9 #[.slice A l.length c] w fun e w' => e = .returned (.tuple #[.int .i64 (tri (getR l 0 0)).1, .int .i64 (tri (getR l 0 0)).2.1, .bool (tri (getR l 0 0)).2.2]) ∧ Below w.heap.size w w' :=
  Nl.num_Get.calls 8 A c l _ _ _ w hC hc (get_f l h8)

theorem get_at (A : Option Addr) (c m : Nat) (l : List Int) (r : Option (Int × Nat)) (w : World) (hm : l.length = m) (hC : (Kd.int .u8).C w A l.length l) (hc : m ≤ c) (h8 : ∀ x ∈ l, 0 ≤ x ∧ x < 256) (hr : getR l 0 0 = r) :
    Calls Tryd.prog 9 #[.slice A m c] w fun e w' => e = .returned (.tuple #[.int .i64 (tri r).1, .int .i64 (tri r).2.1, .bool (tri r).2.2]) ∧ Below w.heap.size w w' := by
  subst hm; subst hr
  exact get_calls A c l w hC hc h8
theorem own_empty (w1 : World) (B : Nat) (h : B ≤ w1.heap.size) : (Kd.int .u8).R 5 (w1.alloc (.cells #[] 5)) B (fun _ => True) (.slice (some ⟨w1.heap.size, 0, none⟩) 0 0) [] := by
  refine ⟨fun _ _ => trivial, [], ?_, rfl, fun i p hp => by simp at hp⟩
  have := World.ownsRow_lit (base := B) (e := 5) (size := 1) w1 #[] 0 h (by decide) (by simp)
  exact (by simpa using this : (w1.alloc (.cells #[] 5)).ownsRow B 5 1 (.slice (some ⟨w1.heap.size, 0, none⟩) 0 0) 0 [])
theorem below_size {w w' : World} (h : Below w.heap.size w w') : w.heap.size ≤ w'.heap.size := h.size
theorem info_u8 : (Tryd.prog.info? 5).map (fun i => (i.zero, i.size, i.bytes)) = some (some (Value.int .u8 0), 1, 1) := by kernel_rfl
theorem putN_len : ∀ (k n : Nat), (putN k n).length ≤ k
  | 0, _ => Nat.le_refl _
  | k + 1, n => by
    rw [putN]
    split
    · simp
    · have := putN_len k (n / 128); simp; omega
theorem putN_8 : ∀ (k n : Nat), ∀ x ∈ putN k n, 0 ≤ x ∧ x < 256
  | 0, _, x, h => by cases h
  | k + 1, n, x, h => by
    rw [putN] at h
    split at h
    · rw [List.mem_singleton] at h; omega
    · rcases List.mem_cons.1 h with h | h
      · omega
      · exact putN_8 k _ x h
theorem putN_pos (k n : Nat) : 0 < (putN (k + 1) n).length := by
  rw [putN]; split <;> simp
theorem putL_bad (n : Int) (h : n < 0 ∨ 1099511627776 < n) : putL n = [] := by rw [putL, if_pos h]
theorem putL_good (n : Int) (h0 : 0 ≤ n) (h1 : n ≤ 1099511627776) : putL n = putN 6 n.toNat := by rw [putL, if_neg (by omega)]
theorem putL_len (n : Int) : (putL n).length ≤ 6 := by
  rw [putL]; split
  · simp
  · exact putN_len _ _
theorem putL_8 (n : Int) : ∀ x ∈ putL n, 0 ≤ x ∧ x < 256 := by
  rw [putL]; split
  · intro x h; cases h
  · exact putN_8 _ _
theorem putL_pos (n : Int) (h0 : 0 ≤ n) (h1 : n ≤ 1099511627776) : 0 < (putL n).length := by rw [putL_good n h0 h1]; exact putN_pos _ _
/-- Read with any bytes behind it is read. -/
theorem get_putL (n : Int) (more : List Int) (h0 : 0 ≤ n) (h1 : n ≤ 1099511627776) : getR (putL n ++ more) 0 0 = some (n, (putL n).length) := by
  rw [putL_good n h0 h1, get_put 6 n.toNat 0 0 more (by omega) (by decide) (by decide) (.inl rfl) (by omega)]
  congr 2 <;> omega
theorem cut_putL (n : Int) (j : Nat) (h : j < (putL n).length) : getR ((putL n).take j) 0 0 = none := by
  rw [putL] at h ⊢
  split
  · rename_i hc; rw [if_pos hc] at h; simp at h
  · rename_i hc; rw [if_neg hc] at h; exact get_cut 6 _ 0 j 0 h

set_option maxHeartbeats 4000000 in
set_option maxRecDepth 100000 in
theorem cut_law (n t : Int) (A : Option Addr) (c : Nat) (l : List Int) (w : World) (hC : (Kd.int .u8).C w A l.length l) (hc : l.length ≤ c) (hl : l.length ≤ 9223372036854775807) (h8 : ∀ x ∈ l, 0 ≤ x ∧ x < 256)
    (hn0 : -9223372036854775808 ≤ n) (hn1 : n ≤ 9223372036854775807)
    (ht0 : 0 ≤ t) (ht1 : t < 256) (ht : Lib.TabIs Tryd.prog w "internal/strconv.uint64pow10" .u64 Lib.pow10Tab) :
    Calls Tryd.prog 6 #[.int .i64 n, .int .u8 t, .slice A l.length c] w fun e w' => e = .returned (.bool true) ∧ Below w.heap.size w w' := by
  have HC := As.mk hC
  have H8 := As.mk h8
  have HT := As.mk ht
  clear hC h8 ht
  obtain ⟨p, hp⟩ : ∃ p, putL n = p := ⟨_, rfl⟩
  have hp6 : p.length ≤ 6 := by rw [← hp]; exact putL_len n
  by_cases hn : n < 0 ∨ 1099511627776 < n
  · have hpe : p = [] := by rw [← hp]; exact putL_bad n hn
    subst hpe
    have HP := As.mk hp
    clear hp
    have q : (if n < 0 then true else decide (1099511627776 < n)) = true := by
      split
      · rfl
      · rename_i h; exact decide_eq_true (hn.elim (fun h2 => absurd h2 h) id)
    go_enter Tryd.func6, Tryd.ntmps6
    go_wp2_with (fail)
    refine (head_calls _ HT.out).mono ?_
    rintro e w1 ⟨rfl, hb⟩
    have HB := As.mk hb
    clear hb
    go_wp2_with (fail)
    refine (put_calls n _).mono ?_
    rintro e w2 ⟨v, rfl, hR, hb⟩
    have HB2 : As (Below w.heap.size w w2) := ⟨HB.out.trans (hb.mono HB.out.size)⟩
    rw [HP.out] at hR
    obtain ⟨A1, c1, rfl, hc1, hC1⟩ := Kd.R_reads hR
    clear hR hb hC1
    rcases hn with hn | hn
    · go_wp2_with (fail)
      go_ret
      exact ⟨rfl, HB2.out⟩
    · have hn2 : decide (n < 0) = false := decide_eq_false (by omega)
      go_wp2_with (fail)
      go_ret
      exact ⟨rfl, HB2.out⟩
  · have hp0 : 0 < p.length := by rw [← hp]; exact putL_pos n (by omega) (by omega)
    by_cases hbig : 1000 < l.length
    · have HP := As.mk hp
      clear hp
      have hpz : ((p.length : Int) == 0) = false := beq_eq_false_iff_ne.2 (by omega)
      go_enter Tryd.func6, Tryd.ntmps6
      go_wp2_with (fail)
      refine (head_calls _ HT.out).mono ?_
      rintro e w1 ⟨rfl, hb⟩
      have HB := As.mk hb
      clear hb
      go_wp2_with (fail)
      refine (put_calls n _).mono ?_
      rintro e w2 ⟨v, rfl, hR, hb⟩
      have HB2 : As (Below w.heap.size w w2) := ⟨HB.out.trans (hb.mono HB.out.size)⟩
      rw [HP.out] at hR
      obtain ⟨A1, c1, rfl, hc1, hC1⟩ := Kd.R_reads hR
      clear hR hb hC1
      go_wp2_with (fail)
      go_ret
      exact ⟨rfl, HB2.out⟩
    · have hpz : ((p.length : Int) == 0) = false := beq_eq_false_iff_ne.2 (by omega)
      obtain ⟨j, hj⟩ : ∃ j : Nat, Int.tmod t p.length = j := ⟨(Int.tmod t p.length).toNat, by rw [Int.tmod_eq_emod_of_nonneg ht0]; have := Int.emod_nonneg t (show (p.length : Int) ≠ 0 by omega); omega⟩
      have hj1 : j < p.length := by
        have := Int.emod_lt_of_pos t (show (0 : Int) < p.length by omega)
        rw [Int.tmod_eq_emod_of_nonneg ht0] at hj; omega
      have hg1 : getR (p.take j) 0 0 = none := by rw [← hp]; exact cut_putL n j (by rw [hp]; exact hj1)
      have hg2 : getR (p ++ l) 0 0 = some (n, p.length) := by rw [← hp]; exact get_putL n l (by omega) (by omega)
      have hp8 : ∀ x ∈ p, 0 ≤ x ∧ x < 256 := by rw [← hp]; exact putL_8 n
      have HP := As.mk hp
      have HG1 := As.mk hg1
      have HG2 := As.mk hg2
      have HP8 := As.mk hp8
      clear hp hg1 hg2 hp8
      go_enter Tryd.func6, Tryd.ntmps6
      go_wp2_with (fail)
      refine (head_calls _ HT.out).mono ?_
      rintro e w1 ⟨rfl, hb⟩
      have HB := As.mk hb
      clear hb
      go_wp2_with (fail)
      refine (put_calls n _).mono ?_
      rintro e w2 ⟨v, rfl, hR, hb⟩
      have HB2 : As (Below w.heap.size w w2) := ⟨HB.out.trans (hb.mono HB.out.size)⟩
      rw [HP.out] at hR
      obtain ⟨g, c1, rfl, hg, hgl, hgc⟩ := Kd.R_form hR hp0
      have hC1 := (Kd.R_reads' hR).2.2
      have hc1 := (Kd.R_reads' hR).2.1
      have HC1 := As.mk hC1
      clear hR hb hC1 hgc
      go_wp2_with (fail)
      refine (get_at _ _ _ (p.take j) none _ (by rw [List.length_take]; omega) (Kd.C_take HC1.out (Nat.le_of_lt hj1)) (by omega) (fun x hx => HP8.out x (List.mem_of_mem_take hx)) HG1.out).mono ?_
      rintro e w3 ⟨rfl, hb⟩
      simp only [tri]
      have HB3 : As (Below w.heap.size w w3) := ⟨HB2.out.trans (hb.mono HB2.out.size)⟩
      have HC3 := As.mk (Kd.C_below HC1.out hb)
      clear hb
      have hE := As.mk (own_empty w3 w.heap.size HB3.out.size)
      have HB4 : As (Below w.heap.size w (w3.alloc (.cells #[] 5))) := ⟨HB3.out.alloc HB3.out.size _⟩
      have HC4 := As.mk (Kd.C_below HC3.out ((Below.refl w3.heap.size w3).alloc (Nat.le_refl _) (.cells #[] 5)))
      go_wp2_with (first
        | ((with_reducible refine gate_builtin (b := .append) (xs := #[.tmp 53, .tmp 54]) rfl ?_); at_builtin; refine Kd.R_append_rows (Kd.int .u8) (Rr := (Kd.int .u8).K (w3.alloc (.cells #[] 5))) (w0 := w) w.heap.size rfl (.tmp 53) (.tmp 54) 22 5 (.int .u8 0) 1 rfl Tryd.underlying22 info_u8 rfl (by decide) (by omega) (.slice (some ⟨w3.heap.size, 0, none⟩) 0 0) [] p (some ⟨g, 0, none⟩) p.length c1 (fun _ => True) (fun _ => False) rfl rfl hE.out HC4.out (fun _ _ h => h) (fun _ hk => hk.elim) (fun _ _ => trivial) HB4.out (below_size HB4.out) (by simp; omega) ?_; intro v2 w4 ho hb1 hg2 hat; have HO := As.mk ho; have HB5 := As.mk hb1; clear ho hb1 hat hg2)
        | ((with_reducible refine gate_builtin (b := .append) (xs := #[.tmp 55, .tmp 56]) rfl ?_); at_builtin; refine Kd.R_append_rows (Kd.int .u8) (Rr := (Kd.int .u8).K w4) (w0 := w) w.heap.size rfl (.tmp 55) (.tmp 56) 22 5 (.int .u8 0) 1 rfl Tryd.underlying22 info_u8 rfl (by decide) (by omega) v2 ([] ++ p) l A l.length c (fun _ => True) (fun _ => False) rfl rfl HO.out (Kd.C_below HC.out HB5.out) (fun _ _ h => h) (fun _ hk => hk.elim) (fun _ _ => trivial) HB5.out (below_size HB5.out) (by simp; omega) ?_; intro v3 w5 ho hb1 hg2 hat; have HO3 := As.mk ho; have HB6 := As.mk hb1; clear ho hb1 hat hg2)
        | fail)
      rw [List.nil_append] at HO3
      obtain ⟨m, hm⟩ : ∃ m, p ++ l = m := ⟨_, rfl⟩
      have hm8 : ∀ x ∈ m, 0 ≤ x ∧ x < 256 := by rw [← hm]; exact fun x hx => (List.mem_append.1 hx).elim (HP8.out x) (H8.out x)
      rw [hm] at HO3 HG2
      clear hm
      have HM8 := As.mk hm8
      clear hm8
      obtain ⟨A3, c3, hv3, hc3, hC3⟩ := Kd.R_reads HO3.out
      have HC5 := As.mk hC3
      clear hC3
      subst hv3
      clear HO HO3
      go_wp2_with (fail)
      refine (get_at A3 c3 _ m _ _ rfl HC5.out hc3 HM8.out HG2.out).mono ?_
      rintro e w6 ⟨rfl, hb⟩
      simp only [tri]
      have HB7 : As (Below w.heap.size w w6) := ⟨HB6.out.trans (hb.mono HB6.out.size)⟩
      clear hb
      go_wp2_with (fail)
      go_ret
      exact ⟨rfl, HB7.out⟩
end Go.Proofs.YticagpejankjcaaDoor.Nb
