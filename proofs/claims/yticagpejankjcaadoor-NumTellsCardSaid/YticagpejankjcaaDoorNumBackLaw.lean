/- The walk of NumBack. No condition but the reach of what comes in, and the library's table as its text lays it. -/
import Derived.Test.YticagpejankjcaaDoorNumApartLaw
import Derived.Deep.RegionWith
namespace Go.Proofs.YticagpejankjcaaDoor.Nb
set_option linter.unusedVariables false
set_option linter.unusedSimpArgs false
open Go.RowKit Go.Proofs.YticagpejankjcaaDoorW.PrintWords Go.Proofs.YticagpejankjcaaDoorW.PrintLast Go.Proofs.YticagpejankjcaaDoorW.PrintMore

/-- What Get reads has the bytes that it was read of. -/
theorem get_inv : ∀ (l : List Int) (i : Nat) (n z : Int) (k : Nat), (∀ x ∈ l, 0 ≤ x ∧ x < 256) → i ≤ 6 → getR l i n = some (z, k) →
    ∃ m u : Nat, k = i + m ∧ 1 ≤ m ∧ m ≤ l.length ∧ z = n + u * 2 ^ (7 * i) ∧ putN (6 - i) u = l.take m ∧ (i = 0 ∨ 0 < u) ∧ z ≤ 1099511627776
  | [], i, n, z, k, _, _, h => by cases h
  | b :: r, i, n, z, k, h8, hi, h => by
    rw [getR] at h
    by_cases h6 : i = 6
    · rw [if_pos h6] at h; cases h
    have hb := h8 b List.mem_cons_self
    have hi6 : 6 - i = (6 - (i + 1)) + 1 := by omega
    rw [if_neg h6] at h
    by_cases hge : 128 ≤ b
    · rw [if_pos hge] at h
      obtain ⟨m, u, e1, e2, e3, e4, e5, e6, e7⟩ := get_inv r (i + 1) _ z k (fun x hx => h8 x (List.mem_cons_of_mem _ hx)) (by omega) h
      have hu : 0 < u := by rcases e6 with h | h <;> omega
      obtain ⟨c, hc⟩ := Int.eq_ofNat_of_zero_le hb.1
      subst hc
      refine ⟨m + 1, c % 128 + 128 * u, by omega, by omega, by simpa using e3, ?_, ?_, .inr (by omega), e7⟩
      · rw [e4]
        have e : (2 : Int) ^ (7 * (i + 1)) = 128 * 2 ^ (7 * i) := by rw [show 7 * (i + 1) = 7 * i + 7 by omega, Int.pow_add, Int.mul_comm]; rfl
        rw [e]
        push_cast
        rw [Int.add_mul, Int.add_assoc, Int.mul_comm 128 (u : Int), Int.mul_assoc]
      · rw [hi6, putN, if_neg (by omega), List.take_succ_cons, show (c % 128 + 128 * u) / 128 = u by omega, e5]
        congr 1
        omega
    · rw [if_neg hge] at h
      by_cases h0 : i = 0 ∨ 0 < b
      · rw [if_pos h0] at h
        by_cases hle : n + b % 128 * 2 ^ (7 * i) ≤ 1099511627776
        · rw [if_pos hle] at h
          cases h
          obtain ⟨c, hc⟩ := Int.eq_ofNat_of_zero_le hb.1
          subst hc
          refine ⟨1, c, rfl, by omega, by simp, ?_, ?_, by omega, hle⟩
          · congr 2; omega
          · rw [hi6, putN, if_pos (by omega)]; rfl
        · rw [if_neg hle] at h; cases h
      · rw [if_neg h0] at h; cases h
theorem get_back (l : List Int) (z : Int) (k : Nat) (h8 : ∀ x ∈ l, 0 ≤ x ∧ x < 256) (h : getR l 0 0 = some (z, k)) :
    1 ≤ k ∧ k ≤ l.length ∧ putL z = l.take k ∧ 0 ≤ z ∧ z ≤ 1099511627776 := by
  obtain ⟨m, u, e1, e2, e3, e4, e5, _, e7⟩ := get_inv l 0 0 z k h8 (by decide) h
  have hz : z = u := by rw [e4]; simp
  have hk : k = m := by omega
  subst hz; subst hk
  exact ⟨e2, e3, by rw [putL_good _ (by omega) e7]; exact e5, by omega, e7⟩

theorem decimal_at (s : ByteArray) (d : Option Int) (w : World) (hs : s.size ≤ 9223372036854775807) (ht : Lib.TabIs Tryd.prog w "internal/strconv.uint64pow10" .u64 Lib.pow10Tab) (hd : decS s = d) :
    Calls Tryd.prog 11 #[.string s] w fun e w' => e = .returned (.tuple #[.int .i64 (d.getD 0), .bool d.isSome]) ∧ Below w.heap.size w w' := by
  subst hd
  exact decimal_calls s w hs ht
theorem text_at (n : Int) (s : ByteArray) (w : World) (h0 : -9223372036854775808 ≤ n) (h1 : n ≤ 9223372036854775807) (ht : Lib.TabIs Tryd.prog w "internal/strconv.uint64pow10" .u64 Lib.pow10Tab) (hs : textS n = s) :
    Calls Tryd.prog 15 #[.int .i64 n] w fun e w' => e = .returned (.string s) ∧ Below w.heap.size w w' := by
  subst hs
  exact text_calls n w h0 h1 ht

set_option maxHeartbeats 8000000 in
set_option maxRecDepth 100000 in
theorem back_law (n : Int) (A : Option Addr) (c : Nat) (l : List Int) (s : ByteArray) (w : World) (hC : (Kd.int .u8).C w A l.length l) (hc : l.length ≤ c) (hl : l.length ≤ 9223372036854775807) (h8 : ∀ x ∈ l, 0 ≤ x ∧ x < 256)
    (hn0 : -9223372036854775808 ≤ n) (hn1 : n ≤ 9223372036854775807) (hs : s.size ≤ 9223372036854775807)
    (ht : Lib.TabIs Tryd.prog w "internal/strconv.uint64pow10" .u64 Lib.pow10Tab) :
    Calls Tryd.prog 4 #[.int .i64 n, .slice A l.length c, .string s] w fun e w' => e = .returned (.bool true) ∧ Below w.heap.size w w' := by
  have HC := As.mk hC
  have H8 := As.mk h8
  have HT := As.mk (Lib.tabBelow_of_tabIs ht)
  clear hC h8 ht
  by_cases hbig : 3000 < l.length ∨ 3000 < s.size
  · rcases (show 3000 < l.length ∨ (l.length ≤ 3000 ∧ 3000 < s.size) by omega) with hbig | ⟨h1, hbig⟩
    · go_enter Tryd.func4, Tryd.ntmps4
      go_wp2_with (fail)
      refine (head_calls _ HT.out.here).mono ?_
      rintro e w1 ⟨rfl, hb⟩
      have HB := As.mk hb
      clear hb
      go_wp2_with (fail)
      go_ret
      exact ⟨rfl, HB.out⟩
    · have e1 : decide (3000 < (l.length : Int)) = false := decide_eq_false (by omega)
      go_enter Tryd.func4, Tryd.ntmps4
      go_wp2_with (fail)
      refine (head_calls _ HT.out.here).mono ?_
      rintro e w1 ⟨rfl, hb⟩
      have HB := As.mk hb
      clear hb
      go_wp2_with (fail)
      go_ret
      exact ⟨rfl, HB.out⟩
  have hl3 : l.length ≤ 3000 := by omega
  have e1 : decide (3000 < (l.length : Int)) = false := decide_eq_false (by omega)
  have e2 : decide (3000 < (s.size : Int)) = false := decide_eq_false (by omega)
  clear hbig
  obtain ⟨p, hp⟩ : ∃ p, putL n = p := ⟨_, rfl⟩
  have hp6 : p.length ≤ 6 := by rw [← hp]; exact putL_len n
  by_cases hn : 0 ≤ n ∧ n ≤ 1099511627776
  case' pos =>
    have hp0 : 0 < p.length := by rw [← hp]; exact putL_pos n hn.1 hn.2
    have hg2 : getR (p ++ l) 0 0 = some (n, p.length) := by rw [← hp]; exact get_putL n l (by omega) (by omega)
    have hp8 : ∀ x ∈ p, 0 ≤ x ∧ x < 256 := by rw [← hp]; exact putL_8 n
    have hd : decS (textS n) = some n := (decS_iff _ _).2 ⟨hn.1, hn.2, rfl⟩
    have hts : (textS n).size ≤ 9223372036854775807 := by
      obtain ⟨u, rfl⟩ := Int.eq_ofNat_of_zero_le hn.1
      have := congrArg List.length (bytesOf_textS u)
      rw [bytesOf_length] at this
      rw [this]
      have := digs_len_le 13 u (by omega) (by decide)
      omega
    have e3 := hn.1
    have e4 := hn.2
    have HP := As.mk hp
    have HG2 := As.mk hg2
    have HP8 := As.mk hp8
    have HD := As.mk hd
    clear hp hg2 hp8 hn hd
    go_enter Tryd.func4, Tryd.ntmps4
    go_wp2_with (fail)
    refine (head_calls _ HT.out.here).mono ?_
    rintro e w1 ⟨rfl, hb⟩
    have HB := As.mk hb
    clear hb
    go_wp2_with (fail)
    refine (put_calls n _).mono ?_
    rintro e w2 ⟨v, rfl, hR, hb⟩
    have HB2 : As (Below w.heap.size w w2) := ⟨HB.out.trans (hb.mono HB.out.size)⟩
    rw [HP.out] at hR
    obtain ⟨g, c1, rfl, hg, hgl, hgc⟩ := Kd.R_form hR hp0
    have hC1 := (Kd.R_reads' hR).2.2
    have hc1 := (Kd.R_reads' hR).2.1
    have HC1 := As.mk hC1
    clear hR hb hC1 hgc hgl hg
    have hE := As.mk (own_empty w2 w.heap.size HB2.out.size)
    have HB4 : As (Below w.heap.size w (w2.alloc (.cells #[] 5))) := ⟨HB2.out.alloc HB2.out.size _⟩
    have HC4 := As.mk (Kd.C_below HC1.out ((Below.refl w2.heap.size w2).alloc (Nat.le_refl _) (.cells #[] 5)))
    go_wp2_with (first
      | ((with_reducible refine gate_builtin (b := .append) (xs := #[.tmp 38, .tmp 39]) rfl ?_); at_builtin; refine Kd.R_append_rows (Kd.int .u8) (Rr := (Kd.int .u8).K (w2.alloc (.cells #[] 5))) (w0 := w) w.heap.size rfl (.tmp 38) (.tmp 39) 22 5 (.int .u8 0) 1 rfl Tryd.underlying22 info_u8 rfl (by decide) (by omega) (.slice (some ⟨w2.heap.size, 0, none⟩) 0 0) [] p (some ⟨g, 0, none⟩) p.length c1 (fun _ => True) (fun _ => False) rfl rfl hE.out HC4.out (fun _ _ h => h) (fun _ hk => hk.elim) (fun _ _ => trivial) HB4.out (below_size HB4.out) (by simp; omega) ?_; intro v2 w4 ho hb1 hg2 hat; have HO := As.mk ho; have HB5 := As.mk hb1; clear ho hb1 hat hg2)
      | ((with_reducible refine gate_builtin (b := .append) (xs := #[.tmp 40, .tmp 41]) rfl ?_); at_builtin; refine Kd.R_append_rows (Kd.int .u8) (Rr := (Kd.int .u8).K w4) (w0 := w) w.heap.size rfl (.tmp 40) (.tmp 41) 22 5 (.int .u8 0) 1 rfl Tryd.underlying22 info_u8 rfl (by decide) (by omega) v2 ([] ++ p) l A l.length c (fun _ => True) (fun _ => False) rfl rfl HO.out (Kd.C_below HC.out HB5.out) (fun _ _ h => h) (fun _ hk => hk.elim) (fun _ _ => trivial) HB5.out (below_size HB5.out) (by simp; omega) ?_; intro v3 w5 ho hb1 hg2 hat; have HO3 := As.mk ho; have HB6 := As.mk hb1; clear ho hb1 hat hg2)
      | fail)
    rw [List.nil_append] at HO3
    obtain ⟨m, hm⟩ : ∃ m, p ++ l = m := ⟨_, rfl⟩
    have hm8 : ∀ x ∈ m, 0 ≤ x ∧ x < 256 := by rw [← hm]; exact fun x hx => (List.mem_append.1 hx).elim (HP8.out x) (H8.out x)
    rw [hm] at HO3 HG2
    clear hm
    have HM8 := As.mk hm8
    clear hm8
    obtain ⟨A3, c3, hv3, hc3, hC3⟩ := Kd.R_reads HO3.out
    have HC5 := As.mk hC3
    clear hC3
    subst hv3
    clear HO HO3
    go_wp2_with (fail)
    refine (get_at A3 c3 _ m _ _ rfl HC5.out hc3 HM8.out HG2.out).mono ?_
    rintro e w6 ⟨rfl, hb⟩
    simp only [tri]
    have HB7 : As (Below w.heap.size w w6) := ⟨HB6.out.trans (hb.mono HB6.out.size)⟩
    have HT7 := As.mk (HT.out.on HB7.out)
    clear hb
    go_wp2_with (fail)
    refine (text_calls n _ (by omega) (by omega) HT7.out.here).mono ?_
    rintro e w7 ⟨rfl, hb⟩
    have HB8 : As (Below w.heap.size w w7) := ⟨HB7.out.trans (hb.mono HB7.out.size)⟩
    have HT8 := As.mk (HT.out.on HB8.out)
    clear hb HT7
    go_wp2_with (fail)
    refine (decimal_calls (textS n) _ hts HT8.out.here).mono ?_
    rintro e w8 ⟨rfl, hb⟩
    rw [HD.out]
    have HB9 : As (Below w.heap.size w w8) := ⟨HB8.out.trans (hb.mono HB8.out.size)⟩
    clear hb HT8
    have HB10 := HB9
    go_wp2_with (fail)
  case' neg =>
    have hpe : p = [] := by rw [← hp]; exact putL_bad n (by omega)
    subst hpe
    have HP := As.mk hp
    clear hp hp6
    have hpn := hn
    have q1 : (decide (0 ≤ n) && decide (n ≤ 1099511627776)) = false := by
      rw [← Bool.not_eq_true, Bool.and_eq_true, decide_eq_true_iff, decide_eq_true_iff]; exact hn
    go_enter Tryd.func4, Tryd.ntmps4
    go_wp2_with (fail)
    refine (head_calls _ HT.out.here).mono ?_
    rintro e w1 ⟨rfl, hb⟩
    have HB := As.mk hb
    clear hb
    go_wp2_with (fail)
    refine (put_calls n _).mono ?_
    rintro e w8 ⟨v, rfl, hR, hb⟩
    have HB10 : As (Below w.heap.size w w8) := ⟨HB.out.trans (hb.mono HB.out.size)⟩
    rw [HP.out] at hR
    obtain ⟨A1, c1, rfl, hc1, hC1⟩ := Kd.R_reads hR
    clear hR hb hC1
    by_cases hn2 : n < 0
    case' pos =>
      have q2 : decide (0 ≤ n) = false := decide_eq_false (by omega)
      go_wp2_with (fail)
    case' neg =>
      have q2 : decide (n ≤ 1099511627776) = false := decide_eq_false (by omega)
      have q3 : 0 ≤ n := by omega
      go_wp2_with (fail)
  all_goals
    obtain ⟨r, hr⟩ : ∃ r, getR l 0 0 = r := ⟨_, rfl⟩
    refine (get_at A c l.length l r _ rfl (Kd.C_below HC.out HB10.out) hc H8.out hr).mono ?_
    rintro e w9 ⟨rfl, hb⟩
    have HB11 : As (Below w.heap.size w w9) := ⟨HB10.out.trans (hb.mono HB10.out.size)⟩
    clear hb
    cases r
    case' none =>
      simp only [tri]
      have hB12 : As (Below w.heap.size w w9.drew) := ⟨HB11.out.drew⟩
      go_wp2_with (fail)
      refine start_ (n := 21) (S := fun w' => True) (ds := []) #[false, false, false, false, false, false, false, false, false, false, false, false, false, false, false, false, false, false, false, false, false] (by kernel_rfl) rfl rfl trivial (fun hHeld => ?_)
      refine pure_ (i := 0) (N := some 84) (v := ?_) (a' := ?_) #[true, false, false, false, false, false, false, false, false, false, false, false, false, false, false, false, false, false, false, false, false] rfl rfl (by kernel_rfl) (fun _ _ _ h => h) (Or.inl ⟨by rfl, ?_⟩) ?_ ?_
      rotate_left
      · intro w'
        go_simp
        with_reducible rfl
      rotate_left
      · simp only [Act.put, List.setIfInBounds_toArray, List.set_cons_zero, List.set_cons_succ, i64_w, i32_w]
        rfl
      refine pure_ (i := 1) (N := some 85) (v := ?_) (a' := ?_) #[true, true, false, false, false, false, false, false, false, false, false, false, false, false, false, false, false, false, false, false, false] rfl rfl (by kernel_rfl) (fun _ _ _ h => h) (Or.inl ⟨by rfl, ?_⟩) ?_ ?_
      rotate_left
      · intro w'
        go_simp
        with_reducible rfl
      rotate_left
      · simp only [Act.put, List.setIfInBounds_toArray, List.set_cons_zero, List.set_cons_succ, i64_w, i32_w]
        rfl
      refine pure_ (i := 2) (N := some 86) (v := undef) (a' := ?_) #[true, true, true, false, false, false, false, false, false, false, false, false, false, false, false, false, false, false, false, false, false] rfl rfl (by kernel_rfl) (fun _ _ _ h => h) (Or.inr ⟨by rfl, rfl⟩) ?_ ?_
      rotate_left
      · simp only [Act.put, List.setIfInBounds_toArray, List.set_cons_zero, List.set_cons_succ, i64_w, i32_w]
        rfl
      refine pure_ (i := 3) (N := some 87) (v := undef) (a' := ?_) #[true, true, true, true, false, false, false, false, false, false, false, false, false, false, false, false, false, false, false, false, false] rfl rfl (by kernel_rfl) (fun _ _ _ h => h) (Or.inr ⟨by rfl, rfl⟩) ?_ ?_
      rotate_left
      · simp only [Act.put, List.setIfInBounds_toArray, List.set_cons_zero, List.set_cons_succ, i64_w, i32_w]
        rfl
      refine pure_ (i := 4) (N := some 88) (v := undef) (a' := ?_) #[true, true, true, true, true, false, false, false, false, false, false, false, false, false, false, false, false, false, false, false, false] rfl rfl (by kernel_rfl) (fun _ _ _ h => h) (Or.inr ⟨by rfl, rfl⟩) ?_ ?_
      rotate_left
      · simp only [Act.put, List.setIfInBounds_toArray, List.set_cons_zero, List.set_cons_succ, i64_w, i32_w]
        rfl
      refine pure_ (i := 5) (N := some 89) (v := undef) (a' := ?_) #[true, true, true, true, true, true, false, false, false, false, false, false, false, false, false, false, false, false, false, false, false] rfl rfl (by kernel_rfl) (fun _ _ _ h => h) (Or.inr ⟨by rfl, rfl⟩) ?_ ?_
      rotate_left
      · simp only [Act.put, List.setIfInBounds_toArray, List.set_cons_zero, List.set_cons_succ, i64_w, i32_w]
        rfl
      refine pure_ (i := 6) (N := some 90) (v := undef) (a' := ?_) #[true, true, true, true, true, true, true, false, false, false, false, false, false, false, false, false, false, false, false, false, false] rfl rfl (by kernel_rfl) (fun _ _ _ h => h) (Or.inr ⟨by rfl, rfl⟩) ?_ ?_
      rotate_left
      · simp only [Act.put, List.setIfInBounds_toArray, List.set_cons_zero, List.set_cons_succ, i64_w, i32_w]
        rfl
      refine pure_ (i := 7) (N := some 91) (v := undef) (a' := ?_) #[true, true, true, true, true, true, true, true, false, false, false, false, false, false, false, false, false, false, false, false, false] rfl rfl (by kernel_rfl) (fun _ _ _ h => h) (Or.inr ⟨by rfl, rfl⟩) ?_ ?_
      rotate_left
      · simp only [Act.put, List.setIfInBounds_toArray, List.set_cons_zero, List.set_cons_succ, i64_w, i32_w]
        rfl
      refine pure_ (i := 8) (N := some 92) (v := undef) (a' := ?_) #[true, true, true, true, true, true, true, true, true, false, false, false, false, false, false, false, false, false, false, false, false] rfl rfl (by kernel_rfl) (fun _ _ _ h => h) (Or.inr ⟨by rfl, rfl⟩) ?_ ?_
      rotate_left
      · simp only [Act.put, List.setIfInBounds_toArray, List.set_cons_zero, List.set_cons_succ, i64_w, i32_w]
        rfl
      refine pure_ (i := 9) (N := some 93) (v := undef) (a' := ?_) #[true, true, true, true, true, true, true, true, true, true, false, false, false, false, false, false, false, false, false, false, false] rfl rfl (by kernel_rfl) (fun _ _ _ h => h) (Or.inr ⟨by rfl, rfl⟩) ?_ ?_
      rotate_left
      · simp only [Act.put, List.setIfInBounds_toArray, List.set_cons_zero, List.set_cons_succ, i64_w, i32_w]
        rfl
      refine pure_ (i := 10) (N := some 94) (v := undef) (a' := ?_) #[true, true, true, true, true, true, true, true, true, true, true, false, false, false, false, false, false, false, false, false, false] rfl rfl (by kernel_rfl) (fun _ _ _ h => h) (Or.inr ⟨by rfl, rfl⟩) ?_ ?_
      rotate_left
      · simp only [Act.put, List.setIfInBounds_toArray, List.set_cons_zero, List.set_cons_succ, i64_w, i32_w]
        rfl
      refine pure_ (i := 11) (N := some 95) (v := undef) (a' := ?_) #[true, true, true, true, true, true, true, true, true, true, true, true, false, false, false, false, false, false, false, false, false] rfl rfl (by kernel_rfl) (fun _ _ _ h => h) (Or.inr ⟨by rfl, rfl⟩) ?_ ?_
      rotate_left
      · simp only [Act.put, List.setIfInBounds_toArray, List.set_cons_zero, List.set_cons_succ, i64_w, i32_w]
        rfl
      refine pure_ (i := 12) (N := some 96) (v := undef) (a' := ?_) #[true, true, true, true, true, true, true, true, true, true, true, true, true, false, false, false, false, false, false, false, false] rfl rfl (by kernel_rfl) (fun _ _ _ h => h) (Or.inr ⟨by rfl, rfl⟩) ?_ ?_
      rotate_left
      · simp only [Act.put, List.setIfInBounds_toArray, List.set_cons_zero, List.set_cons_succ, i64_w, i32_w]
        rfl
      refine pure_ (i := 13) (N := some 97) (v := undef) (a' := ?_) #[true, true, true, true, true, true, true, true, true, true, true, true, true, true, false, false, false, false, false, false, false] rfl rfl (by kernel_rfl) (fun _ _ _ h => h) (Or.inr ⟨by rfl, rfl⟩) ?_ ?_
      rotate_left
      · simp only [Act.put, List.setIfInBounds_toArray, List.set_cons_zero, List.set_cons_succ, i64_w, i32_w]
        rfl
      refine pure_ (i := 14) (N := some 98) (v := undef) (a' := ?_) #[true, true, true, true, true, true, true, true, true, true, true, true, true, true, true, false, false, false, false, false, false] rfl rfl (by kernel_rfl) (fun _ _ _ h => h) (Or.inr ⟨by rfl, rfl⟩) ?_ ?_
      rotate_left
      · simp only [Act.put, List.setIfInBounds_toArray, List.set_cons_zero, List.set_cons_succ, i64_w, i32_w]
        rfl
      refine pure_ (i := 15) (N := some 99) (v := undef) (a' := ?_) #[true, true, true, true, true, true, true, true, true, true, true, true, true, true, true, true, false, false, false, false, false] rfl rfl (by kernel_rfl) (fun _ _ _ h => h) (Or.inr ⟨by rfl, rfl⟩) ?_ ?_
      rotate_left
      · simp only [Act.put, List.setIfInBounds_toArray, List.set_cons_zero, List.set_cons_succ, i64_w, i32_w]
        rfl
      refine pure_ (i := 16) (N := some 100) (v := undef) (a' := ?_) #[true, true, true, true, true, true, true, true, true, true, true, true, true, true, true, true, true, false, false, false, false] rfl rfl (by kernel_rfl) (fun _ _ _ h => h) (Or.inr ⟨by rfl, rfl⟩) ?_ ?_
      rotate_left
      · simp only [Act.put, List.setIfInBounds_toArray, List.set_cons_zero, List.set_cons_succ, i64_w, i32_w]
        rfl
      refine pure_ (i := 17) (N := some 101) (v := undef) (a' := ?_) #[true, true, true, true, true, true, true, true, true, true, true, true, true, true, true, true, true, true, false, false, false] rfl rfl (by kernel_rfl) (fun _ _ _ h => h) (Or.inr ⟨by rfl, rfl⟩) ?_ ?_
      rotate_left
      · simp only [Act.put, List.setIfInBounds_toArray, List.set_cons_zero, List.set_cons_succ, i64_w, i32_w]
        rfl
      refine pure_ (i := 18) (N := some 102) (v := undef) (a' := ?_) #[true, true, true, true, true, true, true, true, true, true, true, true, true, true, true, true, true, true, true, false, false] rfl rfl (by kernel_rfl) (fun _ _ _ h => h) (Or.inr ⟨by rfl, rfl⟩) ?_ ?_
      rotate_left
      · simp only [Act.put, List.setIfInBounds_toArray, List.set_cons_zero, List.set_cons_succ, i64_w, i32_w]
        rfl
      refine pure_ (i := 19) (N := some 103) (v := undef) (a' := ?_) #[true, true, true, true, true, true, true, true, true, true, true, true, true, true, true, true, true, true, true, true, false] rfl rfl (by kernel_rfl) (fun _ _ _ h => h) (Or.inr ⟨by rfl, rfl⟩) ?_ ?_
      rotate_left
      · simp only [Act.put, List.setIfInBounds_toArray, List.set_cons_zero, List.set_cons_succ, i64_w, i32_w]
        rfl
      refine pure_ (i := 20) (N := some 104) (v := ?_) (a' := ?_) #[true, true, true, true, true, true, true, true, true, true, true, true, true, true, true, true, true, true, true, true, true] rfl rfl (by kernel_rfl) (fun _ _ _ h => h) (Or.inl ⟨by rfl, ?_⟩) ?_ ?_
      rotate_left
      · intro w'
        go_simp
        with_reducible rfl
      rotate_left
      · simp only [Act.put, List.setIfInBounds_toArray, List.set_cons_zero, List.set_cons_succ, i64_w, i32_w]
        rfl
      refine done_ (by kernel_rfl) ?_
      generalize w9.drew = w10 at hB12 ⊢
      have HB13 := hB12
    case' some zk =>
      obtain ⟨z, k⟩ := zk
      obtain ⟨hk0, hk1, hzp, hz0, hz1⟩ := get_back l z k H8.out hr
      obtain ⟨q, hq⟩ : ∃ q, l.take k = q := ⟨_, rfl⟩
      have hqk : q.length = k := by rw [← hq, List.length_take]; omega
      have hcv := Kd.C_string (P := Tryd.prog) (c := c) Tryd.underlying22 Tryd.underlying5 Tryd.underlying9 (Kd.C_drew (Kd.C_take (Kd.C_below HC.out HB11.out) hk1))
      rw [hq] at hzp hcv
      rw [hqk] at hcv
      have HQ := As.mk hq
      have HZ := As.mk hzp
      obtain ⟨s1, hs1⟩ : ∃ s, strOfNums q = s := ⟨_, rfl⟩
      rw [hs1] at hcv
      have HS1 := As.mk hs1
      clear hr hq hs1 hzp
      simp only [tri]
      have hB12 : As (Below w.heap.size w w9.drew) := ⟨HB11.out.drew⟩
      have e5 : decide ((k : Int) < 1) = false := decide_eq_false (by omega)
      have e6 : decide ((l.length : Int) < k) = false := decide_eq_false (by omega)
      have e9 : decide (l.length < k) = false := decide_eq_false (by omega)
      have e7 : (k : Int) ≤ c := by omega
      have e8 : (0 : Int) ≤ k := by omega
      go_wp2_with (fail)
      refine start_ (n := 21) (S := fun w' => (convert 22 9 (.slice A k c)).run Tryd.prog w' = .ok (.string s1) w') (ds := []) #[false, false, false, false, false, false, false, false, false, false, false, false, false, false, false, false, false, false, false, false, false] (by kernel_rfl) rfl rfl (hcv) (fun hHeld => ?_)
      refine pure_ (i := 0) (N := some 84) (v := ?_) (a' := ?_) #[true, false, false, false, false, false, false, false, false, false, false, false, false, false, false, false, false, false, false, false, false] rfl rfl (by kernel_rfl) (fun _ _ _ h => h) (Or.inl ⟨by rfl, ?_⟩) ?_ ?_
      rotate_left
      · intro w'
        go_simp
        with_reducible rfl
      rotate_left
      · simp only [Act.put, List.setIfInBounds_toArray, List.set_cons_zero, List.set_cons_succ, i64_w, i32_w]
        rfl
      refine pure_ (i := 1) (N := some 85) (v := ?_) (a' := ?_) #[true, true, false, false, false, false, false, false, false, false, false, false, false, false, false, false, false, false, false, false, false] rfl rfl (by kernel_rfl) (fun _ _ _ h => h) (Or.inl ⟨by rfl, ?_⟩) ?_ ?_
      rotate_left
      · intro w'
        go_simp
        with_reducible rfl
      rotate_left
      · simp only [Act.put, List.setIfInBounds_toArray, List.set_cons_zero, List.set_cons_succ, i64_w, i32_w]
        rfl
      refine pure_ (i := 2) (N := some 86) (v := ?_) (a' := ?_) #[true, true, true, false, false, false, false, false, false, false, false, false, false, false, false, false, false, false, false, false, false] rfl rfl (by kernel_rfl) (fun _ _ _ h => h) (Or.inl ⟨by rfl, ?_⟩) ?_ ?_
      rotate_left
      · intro w'
        go_simp
        with_reducible rfl
      rotate_left
      · simp only [Act.put, List.setIfInBounds_toArray, List.set_cons_zero, List.set_cons_succ, i64_w, i32_w]
        rfl
      refine pure_ (i := 3) (N := some 87) (v := ?_) (a' := ?_) #[true, true, true, true, false, false, false, false, false, false, false, false, false, false, false, false, false, false, false, false, false] rfl rfl (by kernel_rfl) (fun _ _ _ h => h) (Or.inl ⟨by rfl, ?_⟩) ?_ ?_
      rotate_left
      · intro w'
        go_simp
        with_reducible rfl
      rotate_left
      · simp only [Act.put, List.setIfInBounds_toArray, List.set_cons_zero, List.set_cons_succ, i64_w, i32_w]
        rfl
      refine pure_ (i := 4) (N := some 88) (v := ?_) (a' := ?_) #[true, true, true, true, true, false, false, false, false, false, false, false, false, false, false, false, false, false, false, false, false] rfl rfl (by kernel_rfl) (fun _ _ _ h => h) (Or.inl ⟨by rfl, ?_⟩) ?_ ?_
      rotate_left
      · intro w'
        go_simp
        with_reducible rfl
      rotate_left
      · simp only [Act.put, List.setIfInBounds_toArray, List.set_cons_zero, List.set_cons_succ, i64_w, i32_w]
        rfl
      refine pure_ (i := 5) (N := some 89) (v := ?_) (a' := ?_) #[true, true, true, true, true, true, false, false, false, false, false, false, false, false, false, false, false, false, false, false, false] rfl rfl (by kernel_rfl) (fun _ _ _ h => h) (Or.inl ⟨by rfl, ?_⟩) ?_ ?_
      rotate_left
      · intro w'
        go_simp
        with_reducible rfl
      rotate_left
      · simp only [Act.put, List.setIfInBounds_toArray, List.set_cons_zero, List.set_cons_succ, i64_w, i32_w]
        rfl
      refine pure_ (i := 6) (N := some 90) (v := ?_) (a' := ?_) #[true, true, true, true, true, true, true, false, false, false, false, false, false, false, false, false, false, false, false, false, false] rfl rfl (by kernel_rfl) (fun _ _ _ h => h) (Or.inl ⟨by rfl, ?_⟩) ?_ ?_
      rotate_left
      · intro w'
        go_simp
        with_reducible rfl
      rotate_left
      · simp only [Act.put, List.setIfInBounds_toArray, List.set_cons_zero, List.set_cons_succ, i64_w, i32_w]
        rfl
      refine pure_ (i := 7) (N := some 91) (v := ?_) (a' := ?_) #[true, true, true, true, true, true, true, true, false, false, false, false, false, false, false, false, false, false, false, false, false] rfl rfl (by kernel_rfl) (fun _ _ _ h => h) (Or.inl ⟨by rfl, ?_⟩) ?_ ?_
      rotate_left
      · intro w'
        go_simp
        with_reducible rfl
      rotate_left
      · simp only [Act.put, List.setIfInBounds_toArray, List.set_cons_zero, List.set_cons_succ, i64_w, i32_w]
        rfl
      refine pure_ (i := 8) (N := some 92) (v := ?_) (a' := ?_) #[true, true, true, true, true, true, true, true, true, false, false, false, false, false, false, false, false, false, false, false, false] rfl rfl (by kernel_rfl) (fun _ _ _ h => h) (Or.inl ⟨by rfl, ?_⟩) ?_ ?_
      rotate_left
      · intro w'
        go_simp
        with_reducible rfl
      rotate_left
      · simp only [Act.put, List.setIfInBounds_toArray, List.set_cons_zero, List.set_cons_succ, i64_w, i32_w]
        rfl
      refine pure_ (i := 9) (N := some 93) (v := ?_) (a' := ?_) #[true, true, true, true, true, true, true, true, true, true, false, false, false, false, false, false, false, false, false, false, false] rfl rfl (by kernel_rfl) (fun _ _ _ h => h) (Or.inl ⟨by rfl, ?_⟩) ?_ ?_
      rotate_left
      · intro w'
        go_simp
        with_reducible rfl
      rotate_left
      · simp only [Act.put, List.setIfInBounds_toArray, List.set_cons_zero, List.set_cons_succ, i64_w, i32_w]
        rfl
      refine pure_ (i := 10) (N := some 94) (v := ?_) (a' := ?_) #[true, true, true, true, true, true, true, true, true, true, true, false, false, false, false, false, false, false, false, false, false] rfl rfl (by kernel_rfl) (fun _ _ _ h => h) (Or.inl ⟨by rfl, ?_⟩) ?_ ?_
      rotate_left
      · intro w'
        go_simp
        with_reducible rfl
      rotate_left
      · simp only [Act.put, List.setIfInBounds_toArray, List.set_cons_zero, List.set_cons_succ, i64_w, i32_w]
        rfl
      refine pure_ (i := 11) (N := some 95) (v := ?_) (a' := ?_) #[true, true, true, true, true, true, true, true, true, true, true, true, false, false, false, false, false, false, false, false, false] rfl rfl (by kernel_rfl) (fun _ _ _ h => h) (Or.inl ⟨by rfl, ?_⟩) ?_ ?_
      rotate_left
      · intro w'
        go_simp
        with_reducible rfl
      rotate_left
      · simp only [Act.put, List.setIfInBounds_toArray, List.set_cons_zero, List.set_cons_succ, i64_w, i32_w]
        rfl
      refine pure_ (i := 14) (N := some 98) (v := ?_) (a' := ?_) #[true, true, true, true, true, true, true, true, true, true, true, true, false, false, true, false, false, false, false, false, false] rfl rfl (by kernel_rfl) (fun _ _ _ h => h) (Or.inl ⟨by rfl, ?_⟩) ?_ ?_
      rotate_left
      · intro w'
        go_simp
        with_reducible rfl
      rotate_left
      · simp only [Act.put, List.setIfInBounds_toArray, List.set_cons_zero, List.set_cons_succ, i64_w, i32_w]
        rfl
      refine pure_ (i := 15) (N := some 99) (v := ?_) (a' := ?_) #[true, true, true, true, true, true, true, true, true, true, true, true, false, false, true, true, false, false, false, false, false] rfl rfl (by kernel_rfl) (fun _ _ _ h => h) (Or.inl ⟨by rfl, ?_⟩) ?_ ?_
      rotate_left
      · intro w'
        go_simp
        with_reducible rfl
      rotate_left
      · simp only [Act.put, List.setIfInBounds_toArray, List.set_cons_zero, List.set_cons_succ, i64_w, i32_w]
        rfl
      refine pure_ (i := 16) (N := some 100) (v := ?_) (a' := ?_) #[true, true, true, true, true, true, true, true, true, true, true, true, false, false, true, true, true, false, false, false, false] rfl rfl (by kernel_rfl) (fun _ _ _ h => h) (Or.inl ⟨by rfl, ?_⟩) ?_ ?_
      rotate_left
      · intro w'
        go_simp
        with_reducible rfl
      rotate_left
      · simp only [Act.put, List.setIfInBounds_toArray, List.set_cons_zero, List.set_cons_succ, i64_w, i32_w]
        rfl
      refine take_ (i := 17) (N := some 101) (v := ?_) (a' := ?_) #[true, true, true, true, true, true, true, true, true, true, true, true, false, false, true, true, true, true, false, false, false] rfl rfl (by kernel_rfl) (fun _ _ _ h => h) (Or.inl ⟨by rfl, ?_⟩) hHeld ?_ ?_
      rotate_left
      · intro w' s0
        go_simp
        with_reducible rfl
      rotate_left
      · simp only [Act.put, List.setIfInBounds_toArray, List.set_cons_zero, List.set_cons_succ, i64_w, i32_w]
        rfl
      refine one_ (i := 12) (N := some 96) #[true, true, true, true, true, true, true, true, true, true, true, true, true, false, true, true, true, true, false, false, false] rfl rfl (by kernel_rfl) (by decide) (fun K hK => ?_)
      refine goes_ Tryd.func13 (by kernel_rfl) rfl #[.int .i64 z] (by rfl) rfl rfl (by simp only [List.map_toArray, List.map_cons, List.map_nil]; rfl) ?_
      with_reducible refine (put_calls z _).mono ?_
      rintro e w10 ⟨v, rfl, hR, hb⟩
      refine ⟨_, rfl, ?_⟩
      rw [HZ.out] at hR
      obtain ⟨g4, c4, rfl, hg4, hgl4, hgc4⟩ := Kd.R_form hR (by omega)
      have HB13 : As (Below w.heap.size w w10) := ⟨hB12.out.trans (hb.mono hB12.out.size)⟩
      have hcw := Kd.C_string (P := Tryd.prog) (c := c4) Tryd.underlying22 Tryd.underlying5 Tryd.underlying9 (Kd.R_reads' hR).2.2
      have hcx := Kd.C_string (P := Tryd.prog) (c := c) Tryd.underlying22 Tryd.underlying5 Tryd.underlying9 (Kd.C_take (Kd.C_below HC.out HB13.out) hk1)
      rw [HQ.out, HS1.out] at hcx
      rw [HS1.out] at hcw
      rw [hqk] at hcx hcw
      clear hR hb hgc4 hcv
      refine hK.out _ _ (hcx) (fun hHeld => ?_)
      clear hK K
      refine norm_ (a' := ?_) ?_ ?_
      rotate_left
      · show Act.put _ (some 96) _ = _
        simp only [Act.put, List.setIfInBounds_toArray, List.set_cons_zero, List.set_cons_succ, i64_w, i32_w]
        rfl
      refine one_ (i := 13) (N := some 97) #[true, true, true, true, true, true, true, true, true, true, true, true, true, true, true, true, true, true, false, false, false] rfl rfl (by kernel_rfl) (by decide) (fun K hK => ?_)
      refine value_ (w1 := ?_) (v := ?_) (by rfl) rfl ?_ ?_
      rotate_left 2
      · go_simp
        constructor
        · rfl
        · rfl
      refine hK.out _ _ (hHeld) (fun hHeld => ?_)
      clear hK K
      refine norm_ (a' := ?_) ?_ ?_
      rotate_left
      · show Act.put _ (some 97) _ = _
        simp only [Act.put, List.setIfInBounds_toArray, List.set_cons_zero, List.set_cons_succ, i64_w, i32_w]
        rfl
      refine pure_ (i := 18) (N := some 102) (v := ?_) (a' := ?_) #[true, true, true, true, true, true, true, true, true, true, true, true, true, true, true, true, true, true, true, false, false] rfl rfl (by kernel_rfl) (fun _ _ _ h => h) (Or.inl ⟨by rfl, ?_⟩) ?_ ?_
      rotate_left
      · intro w'
        go_simp
        with_reducible rfl
      rotate_left
      · simp only [Act.put, List.setIfInBounds_toArray, List.set_cons_zero, List.set_cons_succ, i64_w, i32_w]
        rfl
      refine pure_ (i := 19) (N := some 103) (v := ?_) (a' := ?_) #[true, true, true, true, true, true, true, true, true, true, true, true, true, true, true, true, true, true, true, true, false] rfl rfl (by kernel_rfl) (fun _ _ _ h => h) (Or.inl ⟨by rfl, ?_⟩) ?_ ?_
      rotate_left
      · intro w'
        go_simp
        with_reducible rfl
      rotate_left
      · simp only [Act.put, List.setIfInBounds_toArray, List.set_cons_zero, List.set_cons_succ, i64_w, i32_w]
        rfl
      refine pure_ (i := 20) (N := some 104) (v := ?_) (a' := ?_) #[true, true, true, true, true, true, true, true, true, true, true, true, true, true, true, true, true, true, true, true, true] rfl rfl (by kernel_rfl) (fun _ _ _ h => h) (Or.inl ⟨by rfl, ?_⟩) ?_ ?_
      rotate_left
      · intro w'
        go_simp
        with_reducible rfl
      rotate_left
      · simp only [Act.put, List.setIfInBounds_toArray, List.set_cons_zero, List.set_cons_succ, i64_w, i32_w]
        rfl
      refine done_ (by kernel_rfl) ?_
    all_goals
      go_wp2_with (fail)
      obtain ⟨d, hd⟩ : ∃ d, decS s = d := ⟨_, rfl⟩
      refine (decimal_at s d _ hs (HT.out.on HB13.out).here hd).mono ?_
      rintro e w11 ⟨rfl, hb⟩
      have HB14 : As (Below w.heap.size w w11) := ⟨HB13.out.trans (hb.mono HB13.out.size)⟩
      clear hb
      rcases d with _ | u
      · simp only [Option.getD_none, Option.isSome_none]
        clear hd
        go_wp2_with (fail)
        go_ret
        exact ⟨rfl, HB14.out⟩
      · simp only [Option.getD_some, Option.isSome_some]
        obtain ⟨hu0, hu1, hu2⟩ := (decS_iff _ _).1 hd
        have HU := As.mk hu2
        clear hd hu2
        go_wp2_with (fail)
        refine (text_at u s _ (by omega) (by omega) (HT.out.on HB14.out).here HU.out).mono ?_
        rintro e w12 ⟨rfl, hb⟩
        have HB15 : As (Below w.heap.size w w12) := ⟨HB14.out.trans (hb.mono HB14.out.size)⟩
        clear hb
        go_wp2_with (fail)
        go_ret
        exact ⟨rfl, HB15.out⟩
end Go.Proofs.YticagpejankjcaaDoor.Nb
