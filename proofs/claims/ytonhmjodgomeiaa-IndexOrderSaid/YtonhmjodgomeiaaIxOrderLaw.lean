/- The walk of IndexOrder. No condition but the reach of what comes in. -/
import Derived.Test.YtonhmjodgomeiaaMIxD
namespace Go.Proofs.Ytonhmjodgomeiaa.Ix
set_option linter.unusedVariables false
set_option linter.unusedSimpArgs false
open Go.RowKit Blk Dg Go.Proofs.YtonhmjodgomeiaaW.PrintWords Go.Proofs.YtonhmjodgomeiaaW.PrintLast Go.Proofs.YtonhmjodgomeiaaW.PrintMore

set_option maxHeartbeats 4000000 in
set_option maxRecDepth 100000 in
theorem order_law (A : Option Addr) (c n : Nat) (ids : List ByteArray) (at_ : Int) (w : World) (hC : Kd.string.C w A n ids) (hn : ids.length = n) (hc : n ≤ c) (hl : n ≤ 9223372036854775807) (ha : 0 ≤ at_ ∧ at_ < 256) :
    Calls Try.prog 6 #[.slice A n c, .int .u8 at_] w fun e w' => e = .returned (.bool true) ∧ Below w.heap.size w w' := by
  have HC := As.mk hC
  have HN := As.mk hn
  clear hC hn
  obtain ⟨g, hg⟩ : ∃ g, greatB ids = g := ⟨_, rfl⟩
  by_cases hbig : g = true ∨ 60 < n ∨ n = 0
  · rcases (show g = true ∨ (g = false ∧ 60 < n) ∨ (g = false ∧ n = 0) by rcases g <;> simp at hbig ⊢ <;> omega) with h1 | ⟨h1, h2⟩ | ⟨h1, rfl⟩
    all_goals
      subst h1
      go_enter Try.func6, Try.ntmps6
      go_wp2_with (fail)
      refine (head_calls _).mono ?_
      rintro e w1 ⟨rfl, hb⟩
      have HB := As.mk hb
      have HC1 := As.mk (Kd.C_below HC.out hb)
      clear hb
      go_wp2_with (fail)
      refine (great_calls _ _ _ _ _ HC1.out HN.out hc).mono ?_
      rintro e w2 ⟨rfl, hb⟩
      rw [hg]
      have HB2 : As (Below w.heap.size w w2) := ⟨HB.out.trans (hb.mono HB.out.size)⟩
      clear hb
      go_wp2_with (fail)
      go_ret
      exact ⟨rfl, HB2.out⟩
  · rw [not_or, not_or] at hbig
    obtain ⟨h1, h2, h3⟩ := hbig
    rw [Bool.not_eq_true] at h1
    subst h1
    have hsm := greatB_small hg
    have HZ : As (∀ s ∈ ids, s.size ≤ 4611686018427387904) := ⟨fun s hs => by have := hsm.2 s hs; omega⟩
    clear hsm
    have e1 : decide (60 < (n : Int)) = false := decide_eq_false (by omega)
    have e3 : ((n : Int) == 0) = false := by rw [beq_eq_false_iff_ne]; omega
    have e4 : ¬ (n : Int) = 0 := by omega
    obtain ⟨k, hk⟩ : ∃ k : Nat, at_.tmod (n : Int) = (k : Int) := ⟨(at_.tmod (n : Int)).toNat, by have := Int.tmod_nonneg (n : Int) ha.1; omega⟩
    have hkn : k < n := by have := Int.tmod_lt_of_pos at_ (show (0 : Int) < n by omega); omega
    obtain ⟨A1, n1, c1, r1, hr1, hl1', hc1, hs1, hC1⟩ := slice_drop_s .i64 A n c ids (k : Int) (by omega) HN.out (by omega) hc
    obtain ⟨n2, r2, hr2, hl2', hc2, hs2, hC2⟩ := slice_take_s .i64 A n c ids (k : Int) (by omega) HN.out (by omega) hc
    rw [Int.toNat_natCast] at hr1 hr2
    obtain ⟨jds, hj⟩ : ∃ jds, ([] : List ByteArray) ++ r1 ++ r2 = jds := ⟨_, rfl⟩
    have hjp : jds.Perm ids := by
      rw [← hj, ← hr1, ← hr2, List.nil_append]
      refine List.perm_append_comm.trans ?_
      rw [List.take_append_drop]
    have hl1 : (([] : List ByteArray).length + n1) * 16 ≤ 140737488355328 := by
      rw [← hl1', ← hr1, List.length_drop, HN.out, List.length_nil]; omega
    have hl2 : ((([] : List ByteArray) ++ r1).length + n2) * 16 ≤ 140737488355328 := by
      rw [List.nil_append, ← hl2', ← hr1, ← hr2, List.length_drop, List.length_take, HN.out]; omega
    have HJ := As.mk hj
    have HJL : As (jds.length = n) := ⟨by rw [hjp.length_eq]; exact HN.out⟩
    have HZJ : As (∀ s ∈ jds, s.size ≤ 4611686018427387904) := ⟨fun s hs => HZ.out s (hjp.subset hs)⟩
    have HJP := As.mk hjp
    have HK1 := As.mk hC1
    have HK2 := As.mk hC2
    clear hj hjp hr1 hr2 hl1' hl2' hC1 hC2
    go_enter Try.func6, Try.ntmps6
    go_wp2_with (fail)
    refine (head_calls _).mono ?_
    rintro e w1 ⟨rfl, hb⟩
    have HB := As.mk hb
    clear hb
    go_wp2_with (fail)
    refine (great_calls _ _ _ _ _ (Kd.C_below HC.out HB.out) HN.out hc).mono ?_
    rintro e w2 ⟨rfl, hb⟩
    rw [hg]
    have HB2 : As (Below w.heap.size w w2) := ⟨HB.out.trans (hb.mono HB.out.size)⟩
    clear hb HB
    go_wp2_with (fail)
    refine (put_calls _ _ _ _ _ (Kd.C_below HC.out HB2.out) HN.out hc HZ.out).mono ?_
    rintro e w3 ⟨vx, x, z, rfl, hp, hR, hb⟩
    have HB3 : As (Below w.heap.size w w3) := ⟨HB2.out.trans (hb.mono HB2.out.size)⟩
    have hx8 := putR_8 hp
    obtain ⟨Ax, cx, rfl, hcx, hCx⟩ := Kd.R_reads hR
    have HCX := As.mk hCx
    have HCd1 := As.mk (Kd.C_below (HK1.out w HC.out) (HB3.out.drew))
    have HCd2 := As.mk (Kd.C_below (HK2.out w HC.out) (HB3.out.drew))
    have HP := As.mk hp
    have HX8 := As.mk hx8
    clear hb hR HB2 hCx hp hx8
    go_wp2_with (fail)
    refine start_ (n := 15) (S := fun w' => Below (w3).drew.heap.size (w3).drew w') (ds := []) #[false, false, false, false, false, false, false, false, false, false, false, false, false, false, false] (by kernel_rfl) rfl rfl (Below.refl _ _) (fun hHeld => ?_)
    refine pure_ (i := 1) (N := some 37) (v := ?_) (a' := ?_) #[false, true, false, false, false, false, false, false, false, false, false, false, false, false, false] rfl rfl (by kernel_rfl) (fun _ _ _ h => h) (Or.inl ⟨by rfl, ?_⟩) ?_ ?_
    rotate_left
    · intro w'
      go_simp
      with_reducible rfl
    rotate_left
    · simp only [Act.put, List.setIfInBounds_toArray, List.set_cons_zero, List.set_cons_succ, i64_w, i32_w]
      rfl
    refine pure_ (i := 2) (N := some 38) (v := ?_) (a' := ?_) #[false, true, true, false, false, false, false, false, false, false, false, false, false, false, false] rfl rfl (by kernel_rfl) (fun _ _ _ h => h) (Or.inl ⟨by rfl, ?_⟩) ?_ ?_
    rotate_left
    · intro w'
      go_simp
      with_reducible rfl
    rotate_left
    · simp only [Act.put, List.setIfInBounds_toArray, List.set_cons_zero, List.set_cons_succ, i64_w, i32_w]
      rfl
    refine pure_ (i := 5) (N := some 41) (v := ?_) (a' := ?_) #[false, true, true, false, false, true, false, false, false, false, false, false, false, false, false] rfl rfl (by kernel_rfl) (fun _ _ _ h => h) (Or.inl ⟨by rfl, ?_⟩) ?_ ?_
    rotate_left
    · intro w'
      go_simp
      with_reducible rfl
    rotate_left
    · simp only [Act.put, List.setIfInBounds_toArray, List.set_cons_zero, List.set_cons_succ, i64_w, i32_w]
      rfl
    refine pure_ (i := 6) (N := some 42) (v := ?_) (a' := ?_) #[false, true, true, false, false, true, true, false, false, false, false, false, false, false, false] rfl rfl (by kernel_rfl) (fun _ _ _ h => h) (Or.inl ⟨by rfl, ?_⟩) ?_ ?_
    rotate_left
    · intro w'
      go_simp
      with_reducible rfl
    rotate_left
    · simp only [Act.put, List.setIfInBounds_toArray, List.set_cons_zero, List.set_cons_succ, i64_w, i32_w]
      rfl
    refine take_ (i := 3) (N := some 39) (v := ?_) (a' := ?_) #[false, true, true, true, false, true, true, false, false, false, false, false, false, false, false] rfl rfl (by kernel_rfl) (fun _ _ _ h => h) (Or.inl ⟨by rfl, ?_⟩) hHeld ?_ ?_
    rotate_left
    · intro w' s0
      go_simp
      with_reducible rfl
    rotate_left
    · simp only [Act.put, List.setIfInBounds_toArray, List.set_cons_zero, List.set_cons_succ, i64_w, i32_w]
      rfl
    refine take_ (i := 7) (N := some 43) (v := ?_) (a' := ?_) #[false, true, true, true, false, true, true, true, false, false, false, false, false, false, false] rfl rfl (by kernel_rfl) (fun _ _ _ h => h) (Or.inl ⟨by rfl, ?_⟩) hHeld ?_ ?_
    rotate_left
    · intro w' s0
      go_simp
      with_reducible rfl
    rotate_left
    · simp only [Act.put, List.setIfInBounds_toArray, List.set_cons_zero, List.set_cons_succ, i64_w, i32_w]
      rfl
    refine one_ (i := 0) (N := some 36) #[true, true, true, true, false, true, true, true, false, false, false, false, false, false, false] rfl rfl (by kernel_rfl) (by decide) (fun K hK => ?_)
    refine value_ (v := .slice (some ⟨(w3).drew.heap.size, 0, none⟩) 0 0) (w1 := ((w3).drew.alloc (.cells #[] 9))) rfl rfl ?_ ?_
    · first | (go_simp; done) | (go_simp; with_reducible rfl)
    refine hK.out _ _ ((Below.refl _ _).alloc (Nat.le_refl _) _) (fun hHeld => ?_)
    clear hK K
    refine norm_ (a' := ?_) ?_ ?_
    rotate_left
    · show Act.put _ (some 36) _ = _
      simp only [Act.put, List.setIfInBounds_toArray, List.set_cons_zero, List.set_cons_succ, i64_w, i32_w]
      rfl
    refine one_ (i := 4) (N := some 40) #[true, true, true, true, true, true, true, true, false, false, false, false, false, false, false] rfl rfl (by kernel_rfl) (by decide) (fun K hK => ?_)
    have HE := As.mk (own_empty_s (w3).drew (w3).drew.heap.size (Nat.le_refl _))
    have hbe : Below (w3).drew.heap.size (w3).drew ((w3).drew.alloc (.cells #[] 9)) := (Below.refl _ _).alloc (Nat.le_refl _) _
    have HC1 := As.mk (Kd.C_below HCd1.out hbe)
    refine Kd.R_append_rows_step Kd.string (Rr := Kd.string.K ((w3).drew.alloc (.cells #[] 9))) (w0 := (w3).drew) (W := ((w3).drew.alloc (.cells #[] 9))) (w3).drew.heap.size rfl (.tmp 36) (.tmp 39) 22 9 (.string ⟨#[]⟩) 16 rfl Try.underlying22 info_str rfl (by decide) (by decide) (.slice (some ⟨(w3).drew.heap.size, 0, none⟩) 0 0) [] r1 A1 n1 c1 (fun _ => True) (fun _ => False) rfl rfl HE.out HC1.out (fun _ _ h => h) (fun _ hk => hk.elim) (fun _ _ => trivial) hbe hbe.size hl1 ?_
    intro v4 w4 ho4 hb4 hg4 hat4
    refine hK.out _ _ (hb4) (fun hHeld => ?_)
    clear hK K
    refine norm_ (a' := ?_) ?_ ?_
    rotate_left
    · show Act.put _ (some 40) _ = _
      simp only [Act.put, List.setIfInBounds_toArray, List.set_cons_zero, List.set_cons_succ, i64_w, i32_w]
      rfl
    refine one_ (i := 8) (N := some 44) #[true, true, true, true, true, true, true, true, true, false, false, false, false, false, false] rfl rfl (by kernel_rfl) (by decide) (fun K hK => ?_)
    have HC2 := As.mk (Kd.C_below HCd2.out hb4)
    refine Kd.R_append_rows_step Kd.string (Rr := Kd.string.K w4) (w0 := (w3).drew) (W := w4) (w3).drew.heap.size rfl (.tmp 40) (.tmp 43) 22 9 (.string ⟨#[]⟩) 16 rfl Try.underlying22 info_str rfl (by decide) (by decide) v4 ([] ++ r1) r2 A n2 c (fun _ => True) (fun _ => False) rfl rfl ho4 HC2.out (fun _ _ h => h) (fun _ hk => hk.elim) (fun _ _ => trivial) hb4 hb4.size hl2 ?_
    intro v5 w5 ho5 hb5 hg5 hat5
    refine hK.out _ _ (hb5) (fun hHeld => ?_)
    clear hK K
    refine norm_ (a' := ?_) ?_ ?_
    rotate_left
    · show Act.put _ (some 44) _ = _
      simp only [Act.put, List.setIfInBounds_toArray, List.set_cons_zero, List.set_cons_succ, i64_w, i32_w]
      rfl
    refine one_ (i := 9) (N := some 45) #[true, true, true, true, true, true, true, true, true, true, false, false, false, false, false] rfl rfl (by kernel_rfl) (by decide) (fun K hK => ?_)
    rw [HJ.out] at ho5
    obtain ⟨Aj, cj, rfl, hcj, hCj⟩ := Kd.R_reads ho5
    rw [HJL.out] at hcj hCj ⊢
    clear ho5 hg5 hat5 ho4 hg4 hat4
    refine goes_ Try.func11 (by kernel_rfl) rfl #[.slice Aj n cj] (by rfl) rfl rfl (by simp only [List.map_toArray, List.map_cons, List.map_nil]; rfl) ?_
    with_reducible refine (put_calls Aj cj n jds w5 hCj HJL.out hcj HZJ.out).mono ?_
    rintro e w6 ⟨vy, y, z2, rfl, hp2, hR2, hb6⟩
    refine ⟨_, rfl, ?_⟩
    refine hK.out _ _ (hb5.trans (hb6.mono hb5.size)) (fun hHeld => ?_)
    clear hK K
    refine norm_ (a' := ?_) ?_ ?_
    rotate_left
    · show Act.put _ (some 45) _ = _
      simp only [Act.put, List.setIfInBounds_toArray, List.set_cons_zero, List.set_cons_succ, i64_w, i32_w]
      rfl
    refine pure_ (i := 10) (N := some 35) (v := ?_) (a' := ?_) #[true, true, true, true, true, true, true, true, true, true, true, false, false, false, false] rfl rfl (by kernel_rfl) (fun _ _ _ h => h) (Or.inl ⟨by rfl, ?_⟩) ?_ ?_
    rotate_left
    · intro w'
      go_simp
      with_reducible rfl
    rotate_left
    · simp only [Act.put, List.setIfInBounds_toArray, List.set_cons_zero, List.set_cons_succ, i64_w, i32_w]
      rfl
    refine pure_ (i := 11) (N := some 46) (v := ?_) (a' := ?_) #[true, true, true, true, true, true, true, true, true, true, true, true, false, false, false] rfl rfl (by kernel_rfl) (fun _ _ _ h => h) (Or.inl ⟨by rfl, ?_⟩) ?_ ?_
    rotate_left
    · intro w'
      go_simp
      with_reducible rfl
    rotate_left
    · simp only [Act.put, List.setIfInBounds_toArray, List.set_cons_zero, List.set_cons_succ, i64_w, i32_w]
      rfl
    refine pure_ (i := 12) (N := some 47) (v := ?_) (a' := ?_) #[true, true, true, true, true, true, true, true, true, true, true, true, true, false, false] rfl rfl (by kernel_rfl) (fun _ _ _ h => h) (Or.inl ⟨by rfl, ?_⟩) ?_ ?_
    rotate_left
    · intro w'
      go_simp
      with_reducible rfl
    rotate_left
    · simp only [Act.put, List.setIfInBounds_toArray, List.set_cons_zero, List.set_cons_succ, i64_w, i32_w]
      rfl
    refine pure_ (i := 13) (N := some 9) (v := ?_) (a' := ?_) #[true, true, true, true, true, true, true, true, true, true, true, true, true, true, false] rfl rfl (by kernel_rfl) (fun _ _ _ h => h) (Or.inl ⟨by rfl, ?_⟩) ?_ ?_
    rotate_left
    · intro w'
      go_simp
      with_reducible rfl
    rotate_left
    · simp only [Act.put, List.setIfInBounds_toArray, List.set_cons_zero, List.set_cons_succ, i64_w, i32_w]
      rfl
    refine pure_ (i := 14) (N := some 10) (v := ?_) (a' := ?_) #[true, true, true, true, true, true, true, true, true, true, true, true, true, true, true] rfl rfl (by kernel_rfl) (fun _ _ _ h => h) (Or.inl ⟨by rfl, ?_⟩) ?_ ?_
    rotate_left
    · intro w'
      go_simp
      with_reducible rfl
    rotate_left
    · simp only [Act.put, List.setIfInBounds_toArray, List.set_cons_zero, List.set_cons_succ, i64_w, i32_w]
      rfl
    refine done_ (by kernel_rfl) ?_
    have HB6 : As (Below w.heap.size w w6) := ⟨HB3.out.trans (((Below.refl _ w3).drew.trans ((hb5.trans (hb6.mono hb5.size)).mono (Nat.le_refl _))).mono HB3.out.size)⟩
    have HCX6 := As.mk (Kd.C_below HCX.out ((Below.refl _ w3).drew.trans ((hb5.trans (hb6.mono hb5.size)).mono (Nat.le_refl _))))
    have hy8 := putR_8 hp2
    obtain ⟨Ay, cy, rfl, hcy, hCy⟩ := Kd.R_reads hR2
    have hzz : z2 = z := by rw [hp2.1, HP.out.1]; exact putE_perm HJP.out
    subst hzz
    have hxy : y.length = x.length ∧ allL y = allL x ∧ x.length ≤ 1073741824 := by
      by_cases h0 : z2 = 0
      · subst h0
        have e1 := (put_right hp2).2.2
        have e2 := (put_right HP.out).2.2
        have e3 := put_few HP.out
        rw [HJP.out.length_eq] at e1
        exact ⟨by omega, all_perm HP.out hp2 HJP.out, by omega⟩
      · rw [hp2.2.2 h0, HP.out.2.2 h0]
        exact ⟨rfl, rfl, by decide⟩
    obtain ⟨hxy, hal, hxz⟩ := hxy
    have hax := fun W h => all_calls Ax cx x.length x W h rfl hcx hxz HX8.out
    have hay := fun W h => all_calls Ay cy y.length y W h rfl hcy (by omega) hy8
    obtain ⟨m, hm⟩ : ∃ m, x.length = m := ⟨_, rfl⟩
    rw [hxy] at hay hCy ⊢
    rw [hal] at hay
    rw [hm] at hax hay hCy ⊢
    have HCX7 := HCX6.out
    rw [hm] at HCX7
    have HX7 := As.mk HCX7
    have HCY := As.mk hCy
    have HAX := As.mk hax
    have HAY := As.mk hay
    obtain ⟨al, hale⟩ : ∃ al, allL x = al := ⟨_, rfl⟩
    have HLa : As (al.length < 1000000000) := ⟨by
      by_cases h0 : z2 = 0
      · subst h0
        have := put_few HP.out
        rw [← hale, all_len HP.out]; omega
      · rw [← hale, HP.out.2.2 h0, allL, if_neg (by rw [right_nil]; decide)]; decide⟩
    rw [hale] at HAX HAY
    have e5 : decide (z2 = z2) = true := decide_eq_true rfl
    clear hb4 hb5 hb6 hHeld hp2 hR2 hax hay hy8 hCy HCX6 hxy hal hm hale hcy hcx hxz HP HJP HX8 HCX HCX7
    go_wp2_with (fail)
    refine (HAX.out _ HX7.out).mono ?_
    rintro e w7 ⟨va, rfl, hRa, hb7⟩
    have HB7 : As (Below w.heap.size w w7) := ⟨HB6.out.trans (hb7.mono HB6.out.size)⟩
    have HCY7 := As.mk (Kd.C_below HCY.out hb7)
    obtain ⟨Aa, ca, rfl, hca, hCa⟩ := Kd.R_reads hRa
    have HCa := As.mk hCa
    clear hb7 hRa hCa HAX HB6 HCY HX7
    go_wp2_with (fail)
    refine (HAY.out _ HCY7.out).mono ?_
    rintro e w8 ⟨vb, rfl, hRb, hb8⟩
    have HB8 : As (Below w.heap.size w w8) := ⟨HB7.out.trans (hb8.mono HB7.out.size)⟩
    have HCa8 := As.mk (Kd.C_below HCa.out hb8)
    obtain ⟨Ab, cb, rfl, hcb, hCb⟩ := Kd.R_reads hRb
    have HCb := As.mk hCb
    clear hb8 hRb hCb HAY HB7 HCa HCY7
    go_wp2_with (fail)
    refine (same_calls Aa Ab ca cb al.length al.length al al w8 HCa8.out rfl hca HCb.out rfl hcb HLa.out).mono ?_
    rintro e w9 ⟨rfl, hb9⟩
    rw [show sameB al al = true from sameB_iff.2 rfl]
    have HB9 : As (Below w.heap.size w w9) := ⟨HB8.out.trans (hb9.mono HB8.out.size)⟩
    clear hb9
    go_wp2_with (fail)
    go_ret
    exact ⟨rfl, HB9.out⟩
end Go.Proofs.Ytonhmjodgomeiaa.Ix
