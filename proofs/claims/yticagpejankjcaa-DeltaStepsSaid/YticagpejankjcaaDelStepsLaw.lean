/- The walk of DeltaSteps. No condition but the reach of what comes in. -/
import Derived.Test.YticagpejankjcaaDelPut
import Derived.Test.YticagpejankjcaaRegW
namespace Go.Proofs.Yticagpejankjcaa.Db
set_option linter.unusedVariables false
set_option linter.unusedSimpArgs false
open Go.RowKit Go.Proofs.YticagpejankjcaaW.PrintWords Go.Proofs.YticagpejankjcaaW.PrintLast Go.Proofs.YticagpejankjcaaW.PrintMore

theorem wrap_small (x : Int) (h0 : 0 ≤ x) (h1 : x < 65536) : wrap64 x = x := wr64 _ (by omega) (by omega)
theorem byte_small (n : Nat) (h : n ≤ 127) : IntKind.u8.wrap (n : Int) = n := by
  rw [show IntKind.u8.wrap (n : Int) = (n : Int) % 256 from rfl]; omega
theorem one_cell (w : World) (x : Int) : ∃ w1 : World, w.alloc (.cells #[.int .u8 x] 5) = w1 ∧ Below w.heap.size w w1 ∧ (Kd.int .u8).C w1 (some ⟨w.heap.size, 0, none⟩) 1 [x] := by
  refine ⟨_, rfl, (Below.refl _ w).alloc (Nat.le_refl _) _, ?_⟩
  have h := C_new w [x] (by simp)
  simpa using h
theorem steps_bytes (b t : ByteArray) (k m : Nat) (hb : b.size ≤ 600) (ht : t.size ≤ 127) (hk : k < 256) (hm : m < 256) :
    bytesOf (strOfNums (putL b.size) ++ strOfNums (putL (t.size + m : Int)) ++ strOfNums [(t.size : Int)] ++ t ++ ⟨#[128]⟩ ++ strOfNums (putL k) ++ strOfNums (putL m)) =
      putL b.size ++ (putL (t.size + m : Nat) ++ ((t.size : Int) :: (bytesOf t ++ (128 :: (putL k ++ putL m))))) := by
  have h8 : ∀ n : Int, ∀ x ∈ putL n, 0 ≤ x ∧ x < 256 := fun n => putL_8 n
  rw [bytesOf_append, bytesOf_append, bytesOf_append, bytesOf_append, bytesOf_append, bytesOf_append, bytesOf_str _ (h8 _), bytesOf_str _ (h8 _), bytesOf_str _ (h8 _), bytesOf_str _ (h8 _),
    bytesOf_str _ (by intro x hx; rw [List.mem_singleton] at hx; subst hx; omega), show bytesOf ⟨#[128]⟩ = [128] from rfl]
  simp only [List.append_assoc, List.singleton_append, List.cons_append, List.nil_append, Int.natCast_add]
theorem steps_good (b t d g : ByteArray) (k m : Nat) (w : World) (hb : b.size ≤ 600) (h0 : 0 < t.size) (ht : t.size ≤ 127) (hk : k < 256) (hm : m < 256) (h1 : 1 ≤ m) (h2 : k + m ≤ b.size)
    (hd : strOfNums (putL b.size) ++ strOfNums (putL (t.size + m : Int)) ++ strOfNums [(t.size : Int)] ++ t ++ ⟨#[128]⟩ ++ strOfNums (putL k) ++ strOfNums (putL m) = d) (hz : d.size ≤ 1000) (hg : t ++ b.extract k (k + m) = g) :
    Calls Try.prog 10 #[.string b, .string d] w fun e w' => e = .returned (.tuple #[.string g, .int .i64 0]) ∧ Below w.heap.size w w' := by
  refine apply_good b d g w (by omega) (by omega) ?_
  rw [← hd, ← hg, steps_bytes b t k m hb ht hk hm]
  exact steps_do b t k m (by omega) h0 ht h1 h2
theorem steps_bad (b t d : ByteArray) (k m : Nat) (w : World) (hb : b.size ≤ 600) (h0 : 0 < t.size) (ht : t.size ≤ 127) (hk : k < 256) (hm : m < 256) (h : ¬ (1 ≤ m ∧ k + m ≤ b.size))
    (hd : strOfNums (putL b.size) ++ strOfNums (putL (t.size + m : Int)) ++ strOfNums [(t.size : Int)] ++ t ++ ⟨#[128]⟩ ++ strOfNums (putL k) ++ strOfNums (putL m) = d) (hz : d.size ≤ 1000) :
    Calls Try.prog 10 #[.string b, .string d] w fun e w' => e = .returned (.tuple #[.string ⟨#[]⟩, .int .i64 3]) ∧ Below w.heap.size w w' := by
  refine apply_bad b d w (by omega) (by omega) ?_
  rw [← hd, steps_bytes b t k m hb ht hk hm]
  exact steps_not b t k m (by omega) (by omega) (by omega) h0 ht h (by omega)
theorem steps_cut (b y : ByteArray) (k m : Nat) (hy : b.extract k (k + m) = y) (h : k + m ≤ b.size) (wx : World) :
    (Instr.slice 9 (.string b) (some (.int .i64 (k : Int))) (some (.int .i64 ((k : Int) + m))) none).run Try.prog wx = .ok (.string y) wx := by
  have := run_slice_string (P := Try.prog) wx 9 b .i64 .i64 (k : Int) ((k : Int) + m) Try.underlying9 (by omega) (by omega) (by omega)
  rw [this, Int.toNat_natCast, show ((k : Int) + m).toNat = k + m by omega, hy]
set_option maxHeartbeats 4000000 in
set_option maxRecDepth 100000 in
theorem steps_law (b t : ByteArray) (k m : Nat) (w : World) (kb : b.size ≤ 9223372036854775807) (kt : t.size ≤ 9223372036854775807) (hk : k < 256) (hm : m < 256) :
    Calls Try.prog 5 #[.string b, .string t, .int .u8 (k : Int), .int .u8 (m : Int)] w fun e w' => e = .returned (.bool true) ∧ Below w.heap.size w w' := by
  by_cases hbig : 600 < b.size ∨ 127 < t.size ∨ t.size = 0
  · rcases (show 600 < b.size ∨ (b.size ≤ 600 ∧ 127 < t.size) ∨ (b.size ≤ 600 ∧ t.size ≤ 127 ∧ t.size = 0) by omega) with h1 | ⟨h1, h2⟩ | ⟨h1, h2, h3⟩
    all_goals
      go_enter Try.func5, Try.ntmps5
      go_wp2_with (fail)
      refine (head_calls _).mono ?_
      rintro e w1 ⟨rfl, hb⟩
      have HB := As.mk hb
      clear hb
      go_wp2_with (fail)
      go_ret
      exact ⟨rfl, HB.out⟩
  · rw [not_or, not_or] at hbig
    have e1 : decide (600 < (b.size : Int)) = false := decide_eq_false (by omega)
    have e2 : decide (127 < (t.size : Int)) = false := decide_eq_false (by omega)
    have e3 : ((t.size : Int) == 0) = false := by rw [beq_eq_false_iff_ne]; omega
    have hs0 : (0 : Int) ≤ b.size := by omega
    have hs1 : (b.size : Int) ≤ 1099511627776 := by omega
    have hs2 : (0 : Int) ≤ t.size + m := by omega
    have hs3 : (t.size + m : Int) ≤ 1099511627776 := by omega
    have hs4 : (0 : Int) ≤ k := by omega
    have hs5 : (k : Int) ≤ 1099511627776 := by omega
    have hs6 : (0 : Int) ≤ m := by omega
    have hs7 : (m : Int) ≤ 1099511627776 := by omega
    obtain ⟨p0, hp0⟩ : ∃ p, putL b.size = p := ⟨_, rfl⟩
    obtain ⟨s0', hq0⟩ : ∃ s, strOfNums p0 = s := ⟨_, rfl⟩
    obtain ⟨p1, hp1⟩ : ∃ p, putL (t.size + m : Int) = p := ⟨_, rfl⟩
    obtain ⟨s1, hq1⟩ : ∃ s, strOfNums p1 = s := ⟨_, rfl⟩
    obtain ⟨s2, hq2⟩ : ∃ s, strOfNums [(t.size : Int)] = s := ⟨_, rfl⟩
    obtain ⟨p3, hp3⟩ : ∃ p, putL (k : Int) = p := ⟨_, rfl⟩
    obtain ⟨s3, hq3⟩ : ∃ s, strOfNums p3 = s := ⟨_, rfl⟩
    obtain ⟨p4, hp4⟩ : ∃ p, putL (m : Int) = p := ⟨_, rfl⟩
    obtain ⟨s4, hq4⟩ : ∃ s, strOfNums p4 = s := ⟨_, rfl⟩
    obtain ⟨d, hd⟩ : ∃ d, s0' ++ s1 ++ s2 ++ t ++ ⟨#[128]⟩ ++ s3 ++ s4 = d := ⟨_, rfl⟩
    have z0 : s0'.size ≤ 6 := by rw [← hq0, strOfNums_size, ← hp0]; exact putL_len _
    have z1 : s1.size ≤ 6 := by rw [← hq1, strOfNums_size, ← hp1]; exact putL_len _
    have z2 : s2.size = 1 := by rw [← hq2, strOfNums_size]; rfl
    have z3 : s3.size ≤ 6 := by rw [← hq3, strOfNums_size, ← hp3]; exact putL_len _
    have z4 : s4.size ≤ 6 := by rw [← hq4, strOfNums_size, ← hp4]; exact putL_len _
    have y1 : (s0' ++ s1).size = s0'.size + s1.size := ByteArray.size_append
    have y2 : (s0' ++ s1 ++ s2).size = s0'.size + s1.size + 1 := by rw [ByteArray.size_append, y1, z2]
    have y3 : (s0' ++ s1 ++ s2 ++ t).size = s0'.size + s1.size + 1 + t.size := by rw [ByteArray.size_append, y2]
    have y4 : (s0' ++ s1 ++ s2 ++ t ++ ⟨#[128]⟩).size = s0'.size + s1.size + 1 + t.size + 1 := by rw [ByteArray.size_append, y3]; rfl
    have y5 : (s0' ++ s1 ++ s2 ++ t ++ ⟨#[128]⟩ ++ s3).size = s0'.size + s1.size + 1 + t.size + 1 + s3.size := by rw [ByteArray.size_append, y4]
    have y6 : d.size = s0'.size + s1.size + 1 + t.size + 1 + s3.size + s4.size := by rw [← hd, ByteArray.size_append, y5]
    have q1 : ¬ 9223372036854775807 < s0'.size + s1.size := by omega
    have q2 : ¬ 9223372036854775807 < s0'.size + s1.size + 1 := by omega
    have q3 : ¬ 9223372036854775807 < s0'.size + s1.size + 1 + t.size := by omega
    have q4 : ¬ 9223372036854775807 < s0'.size + s1.size + 1 + t.size + 1 := by omega
    have q5 : ¬ 9223372036854775807 < s0'.size + s1.size + 1 + t.size + 1 + s3.size := by omega
    have q6 : ¬ 9223372036854775807 < s0'.size + s1.size + 1 + t.size + 1 + s3.size + s4.size := by omega
    have HM1 := As.mk (byte_small t.size (by omega))
    have HM2 := As.mk (wrap_small ((t.size : Int) + m) (by omega) (by omega))
    have hzd : d.size ≤ 1000 := by omega
    have HDD : As (strOfNums (putL b.size) ++ strOfNums (putL (t.size + m : Int)) ++ strOfNums [(t.size : Int)] ++ t ++ ⟨#[128]⟩ ++ strOfNums (putL k) ++ strOfNums (putL m) = d) := ⟨by rw [hp0, hq0, hp1, hq1, hq2, hp3, hq3, hp4, hq4, hd]⟩
    have HD := As.mk hd
    have HS0 := As.mk hq0
    have HS1 := As.mk hq1
    have HS2 := As.mk hq2
    have HS3 := As.mk hq3
    have HS4 := As.mk hq4
    have HP0 := As.mk hp0
    have HP1 := As.mk hp1
    have HP3 := As.mk hp3
    have HP4 := As.mk hp4
    clear hd hq0 hq1 hq2 hq3 hq4 hp0 hp1 hp3 hp4 y6
    go_enter Try.func5, Try.ntmps5
    go_wp2_with (fail)
    refine (head_calls _).mono ?_
    rintro e w1 ⟨rfl, hb⟩
    have HB := As.mk hb
    clear hb
    go_wp2_with (fail)
    refine start_ (n := 29) (S := fun w' => Below (w1).drew.heap.size (w1).drew w') (ds := []) #[false, false, false, false, false, false, false, false, false, false, false, false, false, false, false, false, false, false, false, false, false, false, false, false, false, false, false, false, false] (by kernel_rfl) rfl rfl (Below.refl _ _) (fun hHeld => ?_)
    refine pure_ (i := 0) (N := some 34) (v := ?_) (a' := ?_) #[true, false, false, false, false, false, false, false, false, false, false, false, false, false, false, false, false, false, false, false, false, false, false, false, false, false, false, false, false] rfl rfl (by kernel_rfl) (fun _ _ _ h => h) (Or.inl ⟨by rfl, ?_⟩) ?_ ?_
    rotate_left
    · intro w'
      go_simp
      with_reducible rfl
    rotate_left
    · simp only [Act.put, List.setIfInBounds_toArray, List.set_cons_zero, List.set_cons_succ, i64_w, i32_w]
      rfl
    refine pure_ (i := 1) (N := some 35) (v := ?_) (a' := ?_) #[true, true, false, false, false, false, false, false, false, false, false, false, false, false, false, false, false, false, false, false, false, false, false, false, false, false, false, false, false] rfl rfl (by kernel_rfl) (fun _ _ _ h => h) (Or.inl ⟨by rfl, ?_⟩) ?_ ?_
    rotate_left
    · intro w'
      go_simp
      with_reducible rfl
    rotate_left
    · simp only [Act.put, List.setIfInBounds_toArray, List.set_cons_zero, List.set_cons_succ, i64_w, i32_w]
      rfl
    refine pure_ (i := 4) (N := some 38) (v := ?_) (a' := ?_) #[true, true, false, false, true, false, false, false, false, false, false, false, false, false, false, false, false, false, false, false, false, false, false, false, false, false, false, false, false] rfl rfl (by kernel_rfl) (fun _ _ _ h => h) (Or.inl ⟨by rfl, ?_⟩) ?_ ?_
    rotate_left
    · intro w'
      go_simp
      with_reducible rfl
    rotate_left
    · simp only [Act.put, List.setIfInBounds_toArray, List.set_cons_zero, List.set_cons_succ, i64_w, i32_w]
      rfl
    refine pure_ (i := 5) (N := some 39) (v := ?_) (a' := ?_) #[true, true, false, false, true, true, false, false, false, false, false, false, false, false, false, false, false, false, false, false, false, false, false, false, false, false, false, false, false] rfl rfl (by kernel_rfl) (fun _ _ _ h => h) (Or.inl ⟨by rfl, ?_⟩) ?_ ?_
    rotate_left
    · intro w'
      go_simp
      with_reducible rfl
    rotate_left
    · simp only [Act.put, List.setIfInBounds_toArray, List.set_cons_zero, List.set_cons_succ, i64_w, i32_w]
      rfl
    refine pure_ (i := 6) (N := some 40) (v := ?_) (a' := ?_) #[true, true, false, false, true, true, true, false, false, false, false, false, false, false, false, false, false, false, false, false, false, false, false, false, false, false, false, false, false] rfl rfl (by kernel_rfl) (fun _ _ _ h => h) (Or.inl ⟨by rfl, ?_⟩) ?_ ?_
    rotate_left
    · intro w'
      go_simp
      with_reducible rfl
    rotate_left
    · simp only [Act.put, List.setIfInBounds_toArray, List.set_cons_zero, List.set_cons_succ, i64_w, i32_w]
      rfl
    refine pure_ (i := 7) (N := some 41) (v := ?_) (a' := ?_) #[true, true, false, false, true, true, true, true, false, false, false, false, false, false, false, false, false, false, false, false, false, false, false, false, false, false, false, false, false] rfl rfl (by kernel_rfl) (fun _ _ _ h => h) (Or.inl ⟨by rfl, ?_⟩) ?_ ?_
    rotate_left
    · intro w'
      go_simp
      with_reducible rfl
    rotate_left
    · simp only [Act.put, List.setIfInBounds_toArray, List.set_cons_zero, List.set_cons_succ, i64_w, i32_w]
      rw [HM2.out]
    refine pure_ (i := 11) (N := some 45) (v := ?_) (a' := ?_) #[true, true, false, false, true, true, true, true, false, false, false, true, false, false, false, false, false, false, false, false, false, false, false, false, false, false, false, false, false] rfl rfl (by kernel_rfl) (fun _ _ _ h => h) (Or.inl ⟨by rfl, ?_⟩) ?_ ?_
    rotate_left
    · intro w'
      go_simp
      with_reducible rfl
    rotate_left
    · simp only [Act.put, List.setIfInBounds_toArray, List.set_cons_zero, List.set_cons_succ, i64_w, i32_w]
      rfl
    refine pure_ (i := 12) (N := some 46) (v := ?_) (a' := ?_) #[true, true, false, false, true, true, true, true, false, false, false, true, true, false, false, false, false, false, false, false, false, false, false, false, false, false, false, false, false] rfl rfl (by kernel_rfl) (fun _ _ _ h => h) (Or.inl ⟨by rfl, ?_⟩) ?_ ?_
    rotate_left
    · intro w'
      go_simp
      with_reducible rfl
    rotate_left
    · simp only [Act.put, List.setIfInBounds_toArray, List.set_cons_zero, List.set_cons_succ, i64_w, i32_w]
      rfl
    refine pure_ (i := 13) (N := some 47) (v := ?_) (a' := ?_) #[true, true, false, false, true, true, true, true, false, false, false, true, true, true, false, false, false, false, false, false, false, false, false, false, false, false, false, false, false] rfl rfl (by kernel_rfl) (fun _ _ _ h => h) (Or.inl ⟨by rfl, ?_⟩) ?_ ?_
    rotate_left
    · intro w'
      go_simp
      with_reducible rfl
    rotate_left
    · simp only [Act.put, List.setIfInBounds_toArray, List.set_cons_zero, List.set_cons_succ, i64_w, i32_w]
      rfl
    refine pure_ (i := 17) (N := some 51) (v := ?_) (a' := ?_) #[true, true, false, false, true, true, true, true, false, false, false, true, true, true, false, false, false, true, false, false, false, false, false, false, false, false, false, false, false] rfl rfl (by kernel_rfl) (fun _ _ _ h => h) (Or.inl ⟨by rfl, ?_⟩) ?_ ?_
    rotate_left
    · intro w'
      go_simp
      with_reducible rfl
    rotate_left
    · simp only [Act.put, List.setIfInBounds_toArray, List.set_cons_zero, List.set_cons_succ, i64_w, i32_w]
      rfl
    refine pure_ (i := 20) (N := some 54) (v := ?_) (a' := ?_) #[true, true, false, false, true, true, true, true, false, false, false, true, true, true, false, false, false, true, false, false, true, false, false, false, false, false, false, false, false] rfl rfl (by kernel_rfl) (fun _ _ _ h => h) (Or.inl ⟨by rfl, ?_⟩) ?_ ?_
    rotate_left
    · intro w'
      go_simp
      with_reducible rfl
    rotate_left
    · simp only [Act.put, List.setIfInBounds_toArray, List.set_cons_zero, List.set_cons_succ, i64_w, i32_w]
      rfl
    refine pure_ (i := 24) (N := some 58) (v := ?_) (a' := ?_) #[true, true, false, false, true, true, true, true, false, false, false, true, true, true, false, false, false, true, false, false, true, false, false, false, true, false, false, false, false] rfl rfl (by kernel_rfl) (fun _ _ _ h => h) (Or.inl ⟨by rfl, ?_⟩) ?_ ?_
    rotate_left
    · intro w'
      go_simp
      with_reducible rfl
    rotate_left
    · simp only [Act.put, List.setIfInBounds_toArray, List.set_cons_zero, List.set_cons_succ, i64_w, i32_w]
      rfl
    refine two_ (i := 2) (j := 14) (Ni := some 36) (Nj := some 48) #[true, true, true, false, true, true, true, true, false, false, false, true, true, true, false, false, false, true, false, false, true, false, false, false, true, false, false, false, false] #[true, true, false, false, true, true, true, true, false, false, false, true, true, true, true, false, false, true, false, false, true, false, false, false, true, false, false, false, false] rfl rfl rfl rfl (by kernel_rfl) (by decide) (by decide) (fun K hK => ?_) (fun K hK => ?_)
    · skip
      refine goes_ Try.func14 (by kernel_rfl) rfl #[.int .i64 b.size] (by rfl) rfl rfl (by simp only [List.map_toArray, List.map_cons, List.map_nil]; rfl) ?_
      with_reducible refine (lput_calls b.size p0 _ hs0 hs1 HP0.out).mono ?_
      rintro e x1 ⟨v1, rfl, hR, hb1⟩
      refine ⟨_, rfl, ?_⟩
      obtain ⟨A1, c1, rfl, hc1, hC1⟩ := Kd.R_reads hR
      clear hR
      have HX1 := RegW.thru HB.out.drew hb1
      refine hK.out _ _ (hb1) (fun hHeld => ?_)
      clear hK K
      refine norm_ (a' := ?_) ?_ ?_
      rotate_left
      · show Act.put _ (some 36) _ = _
        simp only [Act.put, List.setIfInBounds_toArray, List.set_cons_zero, List.set_cons_succ, i64_w, i32_w]
        rfl
      refine RegW.change_ hHeld ?_
      clear hHeld
      have hHeld := Below.refl x1.heap.size x1
      refine take_ (i := 3) (N := some 37) (v := ?_) (a' := ?_) #[true, true, true, true, true, true, true, true, false, false, false, true, true, true, false, false, false, true, false, false, true, false, false, false, true, false, false, false, false] rfl rfl (by kernel_rfl) (fun _ _ _ h => h) (Or.inl ⟨by rfl, ?_⟩) hHeld ?_ ?_
      rotate_left
      · intro w' s0
        have hcv := Kd.C_string (P := Try.prog) (A := A1) (c := c1) Try.underlying29 Try.underlying5 Try.underlying9 (Kd.C_below hC1 s0)
        rw [HS0.out] at hcv
        go_simp
        with_reducible rfl
      rotate_left
      · simp only [Act.put, List.setIfInBounds_toArray, List.set_cons_zero, List.set_cons_succ, i64_w, i32_w]
        rfl
      refine two_ (i := 8) (j := 14) (Ni := some 42) (Nj := some 48) #[true, true, true, true, true, true, true, true, true, false, false, true, true, true, false, false, false, true, false, false, true, false, false, false, true, false, false, false, false] #[true, true, true, true, true, true, true, true, false, false, false, true, true, true, true, false, false, true, false, false, true, false, false, false, true, false, false, false, false] rfl rfl rfl rfl (by kernel_rfl) (by decide) (by decide) (fun K hK => ?_) (fun K hK => ?_)
      · skip
        refine goes_ Try.func14 (by kernel_rfl) rfl #[.int .i64 (t.size + m : Int)] (by rfl) rfl rfl (by simp only [List.map_toArray, List.map_cons, List.map_nil]; rfl) ?_
        with_reducible refine (lput_calls (t.size + m : Int) p1 _ hs2 hs3 HP1.out).mono ?_
        rintro e x2 ⟨v2, rfl, hR, hb2⟩
        refine ⟨_, rfl, ?_⟩
        obtain ⟨A2, c2, rfl, hc2, hC2⟩ := Kd.R_reads hR
        clear hR
        have HX2 := RegW.thru HX1 hb2
        refine hK.out _ _ (hb2) (fun hHeld => ?_)
        clear hK K
        refine norm_ (a' := ?_) ?_ ?_
        rotate_left
        · show Act.put _ (some 42) _ = _
          simp only [Act.put, List.setIfInBounds_toArray, List.set_cons_zero, List.set_cons_succ, i64_w, i32_w]
          rfl
        refine RegW.change_ hHeld ?_
        clear hHeld
        have hHeld := Below.refl x2.heap.size x2
        refine take_ (i := 9) (N := some 43) (v := ?_) (a' := ?_) #[true, true, true, true, true, true, true, true, true, true, false, true, true, true, false, false, false, true, false, false, true, false, false, false, true, false, false, false, false] rfl rfl (by kernel_rfl) (fun _ _ _ h => h) (Or.inl ⟨by rfl, ?_⟩) hHeld ?_ ?_
        rotate_left
        · intro w' s0
          have hcv := Kd.C_string (P := Try.prog) (A := A2) (c := c2) Try.underlying29 Try.underlying5 Try.underlying9 (Kd.C_below hC2 s0)
          rw [HS1.out] at hcv
          go_simp
          with_reducible rfl
        rotate_left
        · simp only [Act.put, List.setIfInBounds_toArray, List.set_cons_zero, List.set_cons_succ, i64_w, i32_w]
          rfl
        refine pure_ (i := 10) (N := some 44) (v := ?_) (a' := ?_) #[true, true, true, true, true, true, true, true, true, true, true, true, true, true, false, false, false, true, false, false, true, false, false, false, true, false, false, false, false] rfl rfl (by kernel_rfl) (fun _ _ _ h => h) (Or.inl ⟨by rfl, ?_⟩) ?_ ?_
        rotate_left
        · intro w'
          go_simp
          with_reducible rfl
        rotate_left
        · simp only [Act.put, List.setIfInBounds_toArray, List.set_cons_zero, List.set_cons_succ, i64_w, i32_w]
          rfl
        refine two_ (i := 14) (j := 21) (Ni := some 48) (Nj := some 55) #[true, true, true, true, true, true, true, true, true, true, true, true, true, true, true, false, false, true, false, false, true, false, false, false, true, false, false, false, false] #[true, true, true, true, true, true, true, true, true, true, true, true, true, true, false, false, false, true, false, false, true, true, false, false, true, false, false, false, false] rfl rfl rfl rfl (by kernel_rfl) (by decide) (by decide) (fun K hK => ?_) (fun K hK => ?_)
        · skip
          refine value_ (v := .slice (some ⟨(x2).heap.size, 0, none⟩) 1 1) (w1 := (x2).alloc (.cells #[.int .u8 (t.size : Int)] 5)) rfl rfl ?_ ?_
          · go_simp
            first | done | rw [HM1.out] | with_reducible rfl
          obtain ⟨x3, hx3, hb3, hC3⟩ := one_cell (x2) (t.size : Int)
          rw [hx3]
          clear hx3
          generalize (x2).heap.size = z3 at hC3 ⊢
          have HX3 := RegW.thru HX2 hb3
          refine hK.out _ _ (hb3) (fun hHeld => ?_)
          clear hK K
          refine norm_ (a' := ?_) ?_ ?_
          rotate_left
          · show Act.put _ (some 48) _ = _
            simp only [Act.put, List.setIfInBounds_toArray, List.set_cons_zero, List.set_cons_succ, i64_w, i32_w]
            rfl
          refine RegW.change_ hHeld ?_
          clear hHeld
          have hHeld := Below.refl x3.heap.size x3
          refine take_ (i := 15) (N := some 49) (v := ?_) (a' := ?_) #[true, true, true, true, true, true, true, true, true, true, true, true, true, true, true, true, false, true, false, false, true, false, false, false, true, false, false, false, false] rfl rfl (by kernel_rfl) (fun _ _ _ h => h) (Or.inl ⟨by rfl, ?_⟩) hHeld ?_ ?_
          rotate_left
          · intro w' s0
            have hcv := Kd.C_string (P := Try.prog) (A := some ⟨z3, 0, none⟩) (c := 1) Try.underlying29 Try.underlying5 Try.underlying9 (Kd.C_below hC3 s0)
            rw [HS2.out] at hcv
            go_simp
            with_reducible rfl
          rotate_left
          · simp only [Act.put, List.setIfInBounds_toArray, List.set_cons_zero, List.set_cons_succ, i64_w, i32_w]
            rfl
          refine pure_ (i := 16) (N := some 50) (v := ?_) (a' := ?_) #[true, true, true, true, true, true, true, true, true, true, true, true, true, true, true, true, true, true, false, false, true, false, false, false, true, false, false, false, false] rfl rfl (by kernel_rfl) (fun _ _ _ h => h) (Or.inl ⟨by rfl, ?_⟩) ?_ ?_
          rotate_left
          · intro w'
            go_simp
            with_reducible rfl
          rotate_left
          · simp only [Act.put, List.setIfInBounds_toArray, List.set_cons_zero, List.set_cons_succ, i64_w, i32_w]
            rfl
          refine pure_ (i := 18) (N := some 52) (v := ?_) (a' := ?_) #[true, true, true, true, true, true, true, true, true, true, true, true, true, true, true, true, true, true, true, false, true, false, false, false, true, false, false, false, false] rfl rfl (by kernel_rfl) (fun _ _ _ h => h) (Or.inl ⟨by rfl, ?_⟩) ?_ ?_
          rotate_left
          · intro w'
            go_simp
            with_reducible rfl
          rotate_left
          · simp only [Act.put, List.setIfInBounds_toArray, List.set_cons_zero, List.set_cons_succ, i64_w, i32_w]
            rfl
          refine pure_ (i := 19) (N := some 53) (v := ?_) (a' := ?_) #[true, true, true, true, true, true, true, true, true, true, true, true, true, true, true, true, true, true, true, true, true, false, false, false, true, false, false, false, false] rfl rfl (by kernel_rfl) (fun _ _ _ h => h) (Or.inl ⟨by rfl, ?_⟩) ?_ ?_
          rotate_left
          · intro w'
            go_simp
            with_reducible rfl
          rotate_left
          · simp only [Act.put, List.setIfInBounds_toArray, List.set_cons_zero, List.set_cons_succ, i64_w, i32_w]
            rfl
          refine one_ (i := 21) (N := some 55) #[true, true, true, true, true, true, true, true, true, true, true, true, true, true, true, true, true, true, true, true, true, true, false, false, true, false, false, false, false] rfl rfl (by kernel_rfl) (by decide) (fun K hK => ?_)
          refine goes_ Try.func14 (by kernel_rfl) rfl #[.int .i64 (k : Int)] (by rfl) rfl rfl (by simp only [List.map_toArray, List.map_cons, List.map_nil]; rfl) ?_
          with_reducible refine (lput_calls (k : Int) p3 _ hs4 hs5 HP3.out).mono ?_
          rintro e x4 ⟨v4, rfl, hR, hb4⟩
          refine ⟨_, rfl, ?_⟩
          obtain ⟨A4, c4, rfl, hc4, hC4⟩ := Kd.R_reads hR
          clear hR
          have HX4 := RegW.thru HX3 hb4
          refine hK.out _ _ (hb4) (fun hHeld => ?_)
          clear hK K
          refine norm_ (a' := ?_) ?_ ?_
          rotate_left
          · show Act.put _ (some 55) _ = _
            simp only [Act.put, List.setIfInBounds_toArray, List.set_cons_zero, List.set_cons_succ, i64_w, i32_w]
            rfl
          refine RegW.change_ hHeld ?_
          clear hHeld
          have hHeld := Below.refl x4.heap.size x4
          refine take_ (i := 22) (N := some 56) (v := ?_) (a' := ?_) #[true, true, true, true, true, true, true, true, true, true, true, true, true, true, true, true, true, true, true, true, true, true, true, false, true, false, false, false, false] rfl rfl (by kernel_rfl) (fun _ _ _ h => h) (Or.inl ⟨by rfl, ?_⟩) hHeld ?_ ?_
          rotate_left
          · intro w' s0
            have hcv := Kd.C_string (P := Try.prog) (A := A4) (c := c4) Try.underlying29 Try.underlying5 Try.underlying9 (Kd.C_below hC4 s0)
            rw [HS3.out] at hcv
            go_simp
            with_reducible rfl
          rotate_left
          · simp only [Act.put, List.setIfInBounds_toArray, List.set_cons_zero, List.set_cons_succ, i64_w, i32_w]
            rfl
          refine pure_ (i := 23) (N := some 57) (v := ?_) (a' := ?_) #[true, true, true, true, true, true, true, true, true, true, true, true, true, true, true, true, true, true, true, true, true, true, true, true, true, false, false, false, false] rfl rfl (by kernel_rfl) (fun _ _ _ h => h) (Or.inl ⟨by rfl, ?_⟩) ?_ ?_
          rotate_left
          · intro w'
            go_simp
            with_reducible rfl
          rotate_left
          · simp only [Act.put, List.setIfInBounds_toArray, List.set_cons_zero, List.set_cons_succ, i64_w, i32_w]
            rfl
          refine one_ (i := 25) (N := some 59) #[true, true, true, true, true, true, true, true, true, true, true, true, true, true, true, true, true, true, true, true, true, true, true, true, true, true, false, false, false] rfl rfl (by kernel_rfl) (by decide) (fun K hK => ?_)
          refine goes_ Try.func14 (by kernel_rfl) rfl #[.int .i64 (m : Int)] (by rfl) rfl rfl (by simp only [List.map_toArray, List.map_cons, List.map_nil]; rfl) ?_
          with_reducible refine (lput_calls (m : Int) p4 _ hs6 hs7 HP4.out).mono ?_
          rintro e x5 ⟨v5, rfl, hR, hb5⟩
          refine ⟨_, rfl, ?_⟩
          obtain ⟨A5, c5, rfl, hc5, hC5⟩ := Kd.R_reads hR
          clear hR
          have HX5 := RegW.thru HX4 hb5
          refine hK.out _ _ (hb5) (fun hHeld => ?_)
          clear hK K
          refine norm_ (a' := ?_) ?_ ?_
          rotate_left
          · show Act.put _ (some 59) _ = _
            simp only [Act.put, List.setIfInBounds_toArray, List.set_cons_zero, List.set_cons_succ, i64_w, i32_w]
            rfl
          refine RegW.change_ hHeld ?_
          clear hHeld
          have hHeld := Below.refl x5.heap.size x5
          refine take_ (i := 26) (N := some 60) (v := ?_) (a' := ?_) #[true, true, true, true, true, true, true, true, true, true, true, true, true, true, true, true, true, true, true, true, true, true, true, true, true, true, true, false, false] rfl rfl (by kernel_rfl) (fun _ _ _ h => h) (Or.inl ⟨by rfl, ?_⟩) hHeld ?_ ?_
          rotate_left
          · intro w' s0
            have hcv := Kd.C_string (P := Try.prog) (A := A5) (c := c5) Try.underlying29 Try.underlying5 Try.underlying9 (Kd.C_below hC5 s0)
            rw [HS4.out] at hcv
            go_simp
            with_reducible rfl
          rotate_left
          · simp only [Act.put, List.setIfInBounds_toArray, List.set_cons_zero, List.set_cons_succ, i64_w, i32_w]
            rfl
          refine pure_ (i := 27) (N := some 61) (v := ?_) (a' := ?_) #[true, true, true, true, true, true, true, true, true, true, true, true, true, true, true, true, true, true, true, true, true, true, true, true, true, true, true, true, false] rfl rfl (by kernel_rfl) (fun _ _ _ h => h) (Or.inl ⟨by rfl, ?_⟩) ?_ ?_
          rotate_left
          · intro w'
            go_simp
            with_reducible rfl
          rotate_left
          · simp only [Act.put, List.setIfInBounds_toArray, List.set_cons_zero, List.set_cons_succ, i64_w, i32_w]
            rfl
          refine pure_ (i := 28) (N := some 12) (v := ?_) (a' := ?_) #[true, true, true, true, true, true, true, true, true, true, true, true, true, true, true, true, true, true, true, true, true, true, true, true, true, true, true, true, true] rfl rfl (by kernel_rfl) (fun _ _ _ h => h) (Or.inl ⟨by rfl, ?_⟩) ?_ ?_
          rotate_left
          · intro w'
            go_simp
            with_reducible rfl
          rotate_left
          · simp only [Act.put, List.setIfInBounds_toArray, List.set_cons_zero, List.set_cons_succ, i64_w, i32_w]
            rfl
          refine done_ (by kernel_rfl) ?_
          rw [HD.out]
          have HB2 := As.mk HX5
          generalize x5 = wx at HB2 ⊢
          by_cases hgd : 1 ≤ m ∧ k + m ≤ b.size
          · obtain ⟨y, hy⟩ : ∃ y, b.extract k (k + m) = y := ⟨_, rfl⟩
            obtain ⟨g, hg⟩ : ∃ g, t ++ y = g := ⟨_, rfl⟩
            have hyz : y.size = m := by rw [← hy, ByteArray.size_extract]; omega
            have hsl := fun wx => steps_cut b y k m hy hgd.2 wx
            have hgs : ¬ 9223372036854775807 < t.size + m := by omega
            have HG := As.mk hg
            have HGG : As (t ++ b.extract k (k + m) = g) := ⟨by rw [hy, hg]⟩
            clear hg hy
            go_wp2_with (fail)
            refine (steps_good b t d g k m _ (by omega) (by omega) (by omega) hk hm hgd.1 hgd.2 HDD.out hzd HGG.out).mono ?_
            rintro e w3 ⟨rfl, hb⟩
            have HB3 : As (Below w.heap.size w w3) := ⟨HB2.out.trans (hb.mono HB2.out.size)⟩
            clear hb HB2
            go_wp2_with (fail)
            rw [HG.out]
            simp only [beq_self_eq_true]
            go_ret
            exact ⟨rfl, HB3.out⟩
          · go_wp2_with (fail)
            refine (steps_bad b t d k m _ (by omega) (by omega) (by omega) hk hm hgd HDD.out hzd).mono ?_
            rintro e w3 ⟨rfl, hb⟩
            have HB3 : As (Below w.heap.size w w3) := ⟨HB2.out.trans (hb.mono HB2.out.size)⟩
            clear hb HB2
            go_wp2_with (fail)
            all_goals
              go_ret
              exact ⟨rfl, HB3.out⟩
        · skip
          refine goes_ Try.func14 (by kernel_rfl) rfl #[.int .i64 (k : Int)] (by rfl) rfl rfl (by simp only [List.map_toArray, List.map_cons, List.map_nil]; rfl) ?_
          with_reducible refine (lput_calls (k : Int) p3 _ hs4 hs5 HP3.out).mono ?_
          rintro e x6 ⟨v6, rfl, hR, hb6⟩
          refine ⟨_, rfl, ?_⟩
          obtain ⟨A6, c6, rfl, hc6, hC6⟩ := Kd.R_reads hR
          clear hR
          have HX6 := RegW.thru HX2 hb6
          refine hK.out _ _ (hb6) (fun hHeld => ?_)
          clear hK K
          refine norm_ (a' := ?_) ?_ ?_
          rotate_left
          · show Act.put _ (some 55) _ = _
            simp only [Act.put, List.setIfInBounds_toArray, List.set_cons_zero, List.set_cons_succ, i64_w, i32_w]
            rfl
          refine RegW.change_ hHeld ?_
          clear hHeld
          have hHeld := Below.refl x6.heap.size x6
          refine take_ (i := 22) (N := some 56) (v := ?_) (a' := ?_) #[true, true, true, true, true, true, true, true, true, true, true, true, true, true, false, false, false, true, false, false, true, true, true, false, true, false, false, false, false] rfl rfl (by kernel_rfl) (fun _ _ _ h => h) (Or.inl ⟨by rfl, ?_⟩) hHeld ?_ ?_
          rotate_left
          · intro w' s0
            have hcv := Kd.C_string (P := Try.prog) (A := A6) (c := c6) Try.underlying29 Try.underlying5 Try.underlying9 (Kd.C_below hC6 s0)
            rw [HS3.out] at hcv
            go_simp
            with_reducible rfl
          rotate_left
          · simp only [Act.put, List.setIfInBounds_toArray, List.set_cons_zero, List.set_cons_succ, i64_w, i32_w]
            rfl
          refine two_ (i := 14) (j := 25) (Ni := some 48) (Nj := some 59) #[true, true, true, true, true, true, true, true, true, true, true, true, true, true, true, false, false, true, false, false, true, true, true, false, true, false, false, false, false] #[true, true, true, true, true, true, true, true, true, true, true, true, true, true, false, false, false, true, false, false, true, true, true, false, true, true, false, false, false] rfl rfl rfl rfl (by kernel_rfl) (by decide) (by decide) (fun K hK => ?_) (fun K hK => ?_)
          · skip
            refine value_ (v := .slice (some ⟨(x6).heap.size, 0, none⟩) 1 1) (w1 := (x6).alloc (.cells #[.int .u8 (t.size : Int)] 5)) rfl rfl ?_ ?_
            · go_simp
              first | done | rw [HM1.out] | with_reducible rfl
            obtain ⟨x7, hx7, hb7, hC7⟩ := one_cell (x6) (t.size : Int)
            rw [hx7]
            clear hx7
            generalize (x6).heap.size = z7 at hC7 ⊢
            have HX7 := RegW.thru HX6 hb7
            refine hK.out _ _ (hb7) (fun hHeld => ?_)
            clear hK K
            refine norm_ (a' := ?_) ?_ ?_
            rotate_left
            · show Act.put _ (some 48) _ = _
              simp only [Act.put, List.setIfInBounds_toArray, List.set_cons_zero, List.set_cons_succ, i64_w, i32_w]
              rfl
            refine RegW.change_ hHeld ?_
            clear hHeld
            have hHeld := Below.refl x7.heap.size x7
            refine take_ (i := 15) (N := some 49) (v := ?_) (a' := ?_) #[true, true, true, true, true, true, true, true, true, true, true, true, true, true, true, true, false, true, false, false, true, true, true, false, true, false, false, false, false] rfl rfl (by kernel_rfl) (fun _ _ _ h => h) (Or.inl ⟨by rfl, ?_⟩) hHeld ?_ ?_
            rotate_left
            · intro w' s0
              have hcv := Kd.C_string (P := Try.prog) (A := some ⟨z7, 0, none⟩) (c := 1) Try.underlying29 Try.underlying5 Try.underlying9 (Kd.C_below hC7 s0)
              rw [HS2.out] at hcv
              go_simp
              with_reducible rfl
            rotate_left
            · simp only [Act.put, List.setIfInBounds_toArray, List.set_cons_zero, List.set_cons_succ, i64_w, i32_w]
              rfl
            refine pure_ (i := 16) (N := some 50) (v := ?_) (a' := ?_) #[true, true, true, true, true, true, true, true, true, true, true, true, true, true, true, true, true, true, false, false, true, true, true, false, true, false, false, false, false] rfl rfl (by kernel_rfl) (fun _ _ _ h => h) (Or.inl ⟨by rfl, ?_⟩) ?_ ?_
            rotate_left
            · intro w'
              go_simp
              with_reducible rfl
            rotate_left
            · simp only [Act.put, List.setIfInBounds_toArray, List.set_cons_zero, List.set_cons_succ, i64_w, i32_w]
              rfl
            refine pure_ (i := 18) (N := some 52) (v := ?_) (a' := ?_) #[true, true, true, true, true, true, true, true, true, true, true, true, true, true, true, true, true, true, true, false, true, true, true, false, true, false, false, false, false] rfl rfl (by kernel_rfl) (fun _ _ _ h => h) (Or.inl ⟨by rfl, ?_⟩) ?_ ?_
            rotate_left
            · intro w'
              go_simp
              with_reducible rfl
            rotate_left
            · simp only [Act.put, List.setIfInBounds_toArray, List.set_cons_zero, List.set_cons_succ, i64_w, i32_w]
              rfl
            refine pure_ (i := 19) (N := some 53) (v := ?_) (a' := ?_) #[true, true, true, true, true, true, true, true, true, true, true, true, true, true, true, true, true, true, true, true, true, true, true, false, true, false, false, false, false] rfl rfl (by kernel_rfl) (fun _ _ _ h => h) (Or.inl ⟨by rfl, ?_⟩) ?_ ?_
            rotate_left
            · intro w'
              go_simp
              with_reducible rfl
            rotate_left
            · simp only [Act.put, List.setIfInBounds_toArray, List.set_cons_zero, List.set_cons_succ, i64_w, i32_w]
              rfl
            refine pure_ (i := 23) (N := some 57) (v := ?_) (a' := ?_) #[true, true, true, true, true, true, true, true, true, true, true, true, true, true, true, true, true, true, true, true, true, true, true, true, true, false, false, false, false] rfl rfl (by kernel_rfl) (fun _ _ _ h => h) (Or.inl ⟨by rfl, ?_⟩) ?_ ?_
            rotate_left
            · intro w'
              go_simp
              with_reducible rfl
            rotate_left
            · simp only [Act.put, List.setIfInBounds_toArray, List.set_cons_zero, List.set_cons_succ, i64_w, i32_w]
              rfl
            refine one_ (i := 25) (N := some 59) #[true, true, true, true, true, true, true, true, true, true, true, true, true, true, true, true, true, true, true, true, true, true, true, true, true, true, false, false, false] rfl rfl (by kernel_rfl) (by decide) (fun K hK => ?_)
            refine goes_ Try.func14 (by kernel_rfl) rfl #[.int .i64 (m : Int)] (by rfl) rfl rfl (by simp only [List.map_toArray, List.map_cons, List.map_nil]; rfl) ?_
            with_reducible refine (lput_calls (m : Int) p4 _ hs6 hs7 HP4.out).mono ?_
            rintro e x8 ⟨v8, rfl, hR, hb8⟩
            refine ⟨_, rfl, ?_⟩
            obtain ⟨A8, c8, rfl, hc8, hC8⟩ := Kd.R_reads hR
            clear hR
            have HX8 := RegW.thru HX7 hb8
            refine hK.out _ _ (hb8) (fun hHeld => ?_)
            clear hK K
            refine norm_ (a' := ?_) ?_ ?_
            rotate_left
            · show Act.put _ (some 59) _ = _
              simp only [Act.put, List.setIfInBounds_toArray, List.set_cons_zero, List.set_cons_succ, i64_w, i32_w]
              rfl
            refine RegW.change_ hHeld ?_
            clear hHeld
            have hHeld := Below.refl x8.heap.size x8
            refine take_ (i := 26) (N := some 60) (v := ?_) (a' := ?_) #[true, true, true, true, true, true, true, true, true, true, true, true, true, true, true, true, true, true, true, true, true, true, true, true, true, true, true, false, false] rfl rfl (by kernel_rfl) (fun _ _ _ h => h) (Or.inl ⟨by rfl, ?_⟩) hHeld ?_ ?_
            rotate_left
            · intro w' s0
              have hcv := Kd.C_string (P := Try.prog) (A := A8) (c := c8) Try.underlying29 Try.underlying5 Try.underlying9 (Kd.C_below hC8 s0)
              rw [HS4.out] at hcv
              go_simp
              with_reducible rfl
            rotate_left
            · simp only [Act.put, List.setIfInBounds_toArray, List.set_cons_zero, List.set_cons_succ, i64_w, i32_w]
              rfl
            refine pure_ (i := 27) (N := some 61) (v := ?_) (a' := ?_) #[true, true, true, true, true, true, true, true, true, true, true, true, true, true, true, true, true, true, true, true, true, true, true, true, true, true, true, true, false] rfl rfl (by kernel_rfl) (fun _ _ _ h => h) (Or.inl ⟨by rfl, ?_⟩) ?_ ?_
            rotate_left
            · intro w'
              go_simp
              with_reducible rfl
            rotate_left
            · simp only [Act.put, List.setIfInBounds_toArray, List.set_cons_zero, List.set_cons_succ, i64_w, i32_w]
              rfl
            refine pure_ (i := 28) (N := some 12) (v := ?_) (a' := ?_) #[true, true, true, true, true, true, true, true, true, true, true, true, true, true, true, true, true, true, true, true, true, true, true, true, true, true, true, true, true] rfl rfl (by kernel_rfl) (fun _ _ _ h => h) (Or.inl ⟨by rfl, ?_⟩) ?_ ?_
            rotate_left
            · intro w'
              go_simp
              with_reducible rfl
            rotate_left
            · simp only [Act.put, List.setIfInBounds_toArray, List.set_cons_zero, List.set_cons_succ, i64_w, i32_w]
              rfl
            refine done_ (by kernel_rfl) ?_
            rw [HD.out]
            have HB2 := As.mk HX8
            generalize x8 = wx at HB2 ⊢
            by_cases hgd : 1 ≤ m ∧ k + m ≤ b.size
            · obtain ⟨y, hy⟩ : ∃ y, b.extract k (k + m) = y := ⟨_, rfl⟩
              obtain ⟨g, hg⟩ : ∃ g, t ++ y = g := ⟨_, rfl⟩
              have hyz : y.size = m := by rw [← hy, ByteArray.size_extract]; omega
              have hsl := fun wx => steps_cut b y k m hy hgd.2 wx
              have hgs : ¬ 9223372036854775807 < t.size + m := by omega
              have HG := As.mk hg
              have HGG : As (t ++ b.extract k (k + m) = g) := ⟨by rw [hy, hg]⟩
              clear hg hy
              go_wp2_with (fail)
              refine (steps_good b t d g k m _ (by omega) (by omega) (by omega) hk hm hgd.1 hgd.2 HDD.out hzd HGG.out).mono ?_
              rintro e w3 ⟨rfl, hb⟩
              have HB3 : As (Below w.heap.size w w3) := ⟨HB2.out.trans (hb.mono HB2.out.size)⟩
              clear hb HB2
              go_wp2_with (fail)
              rw [HG.out]
              simp only [beq_self_eq_true]
              go_ret
              exact ⟨rfl, HB3.out⟩
            · go_wp2_with (fail)
              refine (steps_bad b t d k m _ (by omega) (by omega) (by omega) hk hm hgd HDD.out hzd).mono ?_
              rintro e w3 ⟨rfl, hb⟩
              have HB3 : As (Below w.heap.size w w3) := ⟨HB2.out.trans (hb.mono HB2.out.size)⟩
              clear hb HB2
              go_wp2_with (fail)
              all_goals
                go_ret
                exact ⟨rfl, HB3.out⟩
          · skip
            refine goes_ Try.func14 (by kernel_rfl) rfl #[.int .i64 (m : Int)] (by rfl) rfl rfl (by simp only [List.map_toArray, List.map_cons, List.map_nil]; rfl) ?_
            with_reducible refine (lput_calls (m : Int) p4 _ hs6 hs7 HP4.out).mono ?_
            rintro e x9 ⟨v9, rfl, hR, hb9⟩
            refine ⟨_, rfl, ?_⟩
            obtain ⟨A9, c9, rfl, hc9, hC9⟩ := Kd.R_reads hR
            clear hR
            have HX9 := RegW.thru HX6 hb9
            refine hK.out _ _ (hb9) (fun hHeld => ?_)
            clear hK K
            refine norm_ (a' := ?_) ?_ ?_
            rotate_left
            · show Act.put _ (some 59) _ = _
              simp only [Act.put, List.setIfInBounds_toArray, List.set_cons_zero, List.set_cons_succ, i64_w, i32_w]
              rfl
            refine RegW.change_ hHeld ?_
            clear hHeld
            have hHeld := Below.refl x9.heap.size x9
            refine take_ (i := 26) (N := some 60) (v := ?_) (a' := ?_) #[true, true, true, true, true, true, true, true, true, true, true, true, true, true, false, false, false, true, false, false, true, true, true, false, true, true, true, false, false] rfl rfl (by kernel_rfl) (fun _ _ _ h => h) (Or.inl ⟨by rfl, ?_⟩) hHeld ?_ ?_
            rotate_left
            · intro w' s0
              have hcv := Kd.C_string (P := Try.prog) (A := A9) (c := c9) Try.underlying29 Try.underlying5 Try.underlying9 (Kd.C_below hC9 s0)
              rw [HS4.out] at hcv
              go_simp
              with_reducible rfl
            rotate_left
            · simp only [Act.put, List.setIfInBounds_toArray, List.set_cons_zero, List.set_cons_succ, i64_w, i32_w]
              rfl
            refine one_ (i := 14) (N := some 48) #[true, true, true, true, true, true, true, true, true, true, true, true, true, true, true, false, false, true, false, false, true, true, true, false, true, true, true, false, false] rfl rfl (by kernel_rfl) (by decide) (fun K hK => ?_)
            refine value_ (v := .slice (some ⟨(x9).heap.size, 0, none⟩) 1 1) (w1 := (x9).alloc (.cells #[.int .u8 (t.size : Int)] 5)) rfl rfl ?_ ?_
            · go_simp
              first | done | rw [HM1.out] | with_reducible rfl
            obtain ⟨x10, hx10, hb10, hC10⟩ := one_cell (x9) (t.size : Int)
            rw [hx10]
            clear hx10
            generalize (x9).heap.size = z10 at hC10 ⊢
            have HX10 := RegW.thru HX9 hb10
            refine hK.out _ _ (hb10) (fun hHeld => ?_)
            clear hK K
            refine norm_ (a' := ?_) ?_ ?_
            rotate_left
            · show Act.put _ (some 48) _ = _
              simp only [Act.put, List.setIfInBounds_toArray, List.set_cons_zero, List.set_cons_succ, i64_w, i32_w]
              rfl
            refine RegW.change_ hHeld ?_
            clear hHeld
            have hHeld := Below.refl x10.heap.size x10
            refine take_ (i := 15) (N := some 49) (v := ?_) (a' := ?_) #[true, true, true, true, true, true, true, true, true, true, true, true, true, true, true, true, false, true, false, false, true, true, true, false, true, true, true, false, false] rfl rfl (by kernel_rfl) (fun _ _ _ h => h) (Or.inl ⟨by rfl, ?_⟩) hHeld ?_ ?_
            rotate_left
            · intro w' s0
              have hcv := Kd.C_string (P := Try.prog) (A := some ⟨z10, 0, none⟩) (c := 1) Try.underlying29 Try.underlying5 Try.underlying9 (Kd.C_below hC10 s0)
              rw [HS2.out] at hcv
              go_simp
              with_reducible rfl
            rotate_left
            · simp only [Act.put, List.setIfInBounds_toArray, List.set_cons_zero, List.set_cons_succ, i64_w, i32_w]
              rfl
            refine pure_ (i := 16) (N := some 50) (v := ?_) (a' := ?_) #[true, true, true, true, true, true, true, true, true, true, true, true, true, true, true, true, true, true, false, false, true, true, true, false, true, true, true, false, false] rfl rfl (by kernel_rfl) (fun _ _ _ h => h) (Or.inl ⟨by rfl, ?_⟩) ?_ ?_
            rotate_left
            · intro w'
              go_simp
              with_reducible rfl
            rotate_left
            · simp only [Act.put, List.setIfInBounds_toArray, List.set_cons_zero, List.set_cons_succ, i64_w, i32_w]
              rfl
            refine pure_ (i := 18) (N := some 52) (v := ?_) (a' := ?_) #[true, true, true, true, true, true, true, true, true, true, true, true, true, true, true, true, true, true, true, false, true, true, true, false, true, true, true, false, false] rfl rfl (by kernel_rfl) (fun _ _ _ h => h) (Or.inl ⟨by rfl, ?_⟩) ?_ ?_
            rotate_left
            · intro w'
              go_simp
              with_reducible rfl
            rotate_left
            · simp only [Act.put, List.setIfInBounds_toArray, List.set_cons_zero, List.set_cons_succ, i64_w, i32_w]
              rfl
            refine pure_ (i := 19) (N := some 53) (v := ?_) (a' := ?_) #[true, true, true, true, true, true, true, true, true, true, true, true, true, true, true, true, true, true, true, true, true, true, true, false, true, true, true, false, false] rfl rfl (by kernel_rfl) (fun _ _ _ h => h) (Or.inl ⟨by rfl, ?_⟩) ?_ ?_
            rotate_left
            · intro w'
              go_simp
              with_reducible rfl
            rotate_left
            · simp only [Act.put, List.setIfInBounds_toArray, List.set_cons_zero, List.set_cons_succ, i64_w, i32_w]
              rfl
            refine pure_ (i := 23) (N := some 57) (v := ?_) (a' := ?_) #[true, true, true, true, true, true, true, true, true, true, true, true, true, true, true, true, true, true, true, true, true, true, true, true, true, true, true, false, false] rfl rfl (by kernel_rfl) (fun _ _ _ h => h) (Or.inl ⟨by rfl, ?_⟩) ?_ ?_
            rotate_left
            · intro w'
              go_simp
              with_reducible rfl
            rotate_left
            · simp only [Act.put, List.setIfInBounds_toArray, List.set_cons_zero, List.set_cons_succ, i64_w, i32_w]
              rfl
            refine pure_ (i := 27) (N := some 61) (v := ?_) (a' := ?_) #[true, true, true, true, true, true, true, true, true, true, true, true, true, true, true, true, true, true, true, true, true, true, true, true, true, true, true, true, false] rfl rfl (by kernel_rfl) (fun _ _ _ h => h) (Or.inl ⟨by rfl, ?_⟩) ?_ ?_
            rotate_left
            · intro w'
              go_simp
              with_reducible rfl
            rotate_left
            · simp only [Act.put, List.setIfInBounds_toArray, List.set_cons_zero, List.set_cons_succ, i64_w, i32_w]
              rfl
            refine pure_ (i := 28) (N := some 12) (v := ?_) (a' := ?_) #[true, true, true, true, true, true, true, true, true, true, true, true, true, true, true, true, true, true, true, true, true, true, true, true, true, true, true, true, true] rfl rfl (by kernel_rfl) (fun _ _ _ h => h) (Or.inl ⟨by rfl, ?_⟩) ?_ ?_
            rotate_left
            · intro w'
              go_simp
              with_reducible rfl
            rotate_left
            · simp only [Act.put, List.setIfInBounds_toArray, List.set_cons_zero, List.set_cons_succ, i64_w, i32_w]
              rfl
            refine done_ (by kernel_rfl) ?_
            rw [HD.out]
            have HB2 := As.mk HX10
            generalize x10 = wx at HB2 ⊢
            by_cases hgd : 1 ≤ m ∧ k + m ≤ b.size
            · obtain ⟨y, hy⟩ : ∃ y, b.extract k (k + m) = y := ⟨_, rfl⟩
              obtain ⟨g, hg⟩ : ∃ g, t ++ y = g := ⟨_, rfl⟩
              have hyz : y.size = m := by rw [← hy, ByteArray.size_extract]; omega
              have hsl := fun wx => steps_cut b y k m hy hgd.2 wx
              have hgs : ¬ 9223372036854775807 < t.size + m := by omega
              have HG := As.mk hg
              have HGG : As (t ++ b.extract k (k + m) = g) := ⟨by rw [hy, hg]⟩
              clear hg hy
              go_wp2_with (fail)
              refine (steps_good b t d g k m _ (by omega) (by omega) (by omega) hk hm hgd.1 hgd.2 HDD.out hzd HGG.out).mono ?_
              rintro e w3 ⟨rfl, hb⟩
              have HB3 : As (Below w.heap.size w w3) := ⟨HB2.out.trans (hb.mono HB2.out.size)⟩
              clear hb HB2
              go_wp2_with (fail)
              rw [HG.out]
              simp only [beq_self_eq_true]
              go_ret
              exact ⟨rfl, HB3.out⟩
            · go_wp2_with (fail)
              refine (steps_bad b t d k m _ (by omega) (by omega) (by omega) hk hm hgd HDD.out hzd).mono ?_
              rintro e w3 ⟨rfl, hb⟩
              have HB3 : As (Below w.heap.size w w3) := ⟨HB2.out.trans (hb.mono HB2.out.size)⟩
              clear hb HB2
              go_wp2_with (fail)
              all_goals
                go_ret
                exact ⟨rfl, HB3.out⟩
      · skip
        refine value_ (v := .slice (some ⟨(x1).heap.size, 0, none⟩) 1 1) (w1 := (x1).alloc (.cells #[.int .u8 (t.size : Int)] 5)) rfl rfl ?_ ?_
        · go_simp
          first | done | rw [HM1.out] | with_reducible rfl
        obtain ⟨x11, hx11, hb11, hC11⟩ := one_cell (x1) (t.size : Int)
        rw [hx11]
        clear hx11
        generalize (x1).heap.size = z11 at hC11 ⊢
        have HX11 := RegW.thru HX1 hb11
        refine hK.out _ _ (hb11) (fun hHeld => ?_)
        clear hK K
        refine norm_ (a' := ?_) ?_ ?_
        rotate_left
        · show Act.put _ (some 48) _ = _
          simp only [Act.put, List.setIfInBounds_toArray, List.set_cons_zero, List.set_cons_succ, i64_w, i32_w]
          rfl
        refine RegW.change_ hHeld ?_
        clear hHeld
        have hHeld := Below.refl x11.heap.size x11
        refine take_ (i := 15) (N := some 49) (v := ?_) (a' := ?_) #[true, true, true, true, true, true, true, true, false, false, false, true, true, true, true, true, false, true, false, false, true, false, false, false, true, false, false, false, false] rfl rfl (by kernel_rfl) (fun _ _ _ h => h) (Or.inl ⟨by rfl, ?_⟩) hHeld ?_ ?_
        rotate_left
        · intro w' s0
          have hcv := Kd.C_string (P := Try.prog) (A := some ⟨z11, 0, none⟩) (c := 1) Try.underlying29 Try.underlying5 Try.underlying9 (Kd.C_below hC11 s0)
          rw [HS2.out] at hcv
          go_simp
          with_reducible rfl
        rotate_left
        · simp only [Act.put, List.setIfInBounds_toArray, List.set_cons_zero, List.set_cons_succ, i64_w, i32_w]
          rfl
        refine one_ (i := 8) (N := some 42) #[true, true, true, true, true, true, true, true, true, false, false, true, true, true, true, true, false, true, false, false, true, false, false, false, true, false, false, false, false] rfl rfl (by kernel_rfl) (by decide) (fun K hK => ?_)
        refine goes_ Try.func14 (by kernel_rfl) rfl #[.int .i64 (t.size + m : Int)] (by rfl) rfl rfl (by simp only [List.map_toArray, List.map_cons, List.map_nil]; rfl) ?_
        with_reducible refine (lput_calls (t.size + m : Int) p1 _ hs2 hs3 HP1.out).mono ?_
        rintro e x12 ⟨v12, rfl, hR, hb12⟩
        refine ⟨_, rfl, ?_⟩
        obtain ⟨A12, c12, rfl, hc12, hC12⟩ := Kd.R_reads hR
        clear hR
        have HX12 := RegW.thru HX11 hb12
        refine hK.out _ _ (hb12) (fun hHeld => ?_)
        clear hK K
        refine norm_ (a' := ?_) ?_ ?_
        rotate_left
        · show Act.put _ (some 42) _ = _
          simp only [Act.put, List.setIfInBounds_toArray, List.set_cons_zero, List.set_cons_succ, i64_w, i32_w]
          rfl
        refine RegW.change_ hHeld ?_
        clear hHeld
        have hHeld := Below.refl x12.heap.size x12
        refine take_ (i := 9) (N := some 43) (v := ?_) (a' := ?_) #[true, true, true, true, true, true, true, true, true, true, false, true, true, true, true, true, false, true, false, false, true, false, false, false, true, false, false, false, false] rfl rfl (by kernel_rfl) (fun _ _ _ h => h) (Or.inl ⟨by rfl, ?_⟩) hHeld ?_ ?_
        rotate_left
        · intro w' s0
          have hcv := Kd.C_string (P := Try.prog) (A := A12) (c := c12) Try.underlying29 Try.underlying5 Try.underlying9 (Kd.C_below hC12 s0)
          rw [HS1.out] at hcv
          go_simp
          with_reducible rfl
        rotate_left
        · simp only [Act.put, List.setIfInBounds_toArray, List.set_cons_zero, List.set_cons_succ, i64_w, i32_w]
          rfl
        refine pure_ (i := 10) (N := some 44) (v := ?_) (a' := ?_) #[true, true, true, true, true, true, true, true, true, true, true, true, true, true, true, true, false, true, false, false, true, false, false, false, true, false, false, false, false] rfl rfl (by kernel_rfl) (fun _ _ _ h => h) (Or.inl ⟨by rfl, ?_⟩) ?_ ?_
        rotate_left
        · intro w'
          go_simp
          with_reducible rfl
        rotate_left
        · simp only [Act.put, List.setIfInBounds_toArray, List.set_cons_zero, List.set_cons_succ, i64_w, i32_w]
          rfl
        refine pure_ (i := 16) (N := some 50) (v := ?_) (a' := ?_) #[true, true, true, true, true, true, true, true, true, true, true, true, true, true, true, true, true, true, false, false, true, false, false, false, true, false, false, false, false] rfl rfl (by kernel_rfl) (fun _ _ _ h => h) (Or.inl ⟨by rfl, ?_⟩) ?_ ?_
        rotate_left
        · intro w'
          go_simp
          with_reducible rfl
        rotate_left
        · simp only [Act.put, List.setIfInBounds_toArray, List.set_cons_zero, List.set_cons_succ, i64_w, i32_w]
          rfl
        refine pure_ (i := 18) (N := some 52) (v := ?_) (a' := ?_) #[true, true, true, true, true, true, true, true, true, true, true, true, true, true, true, true, true, true, true, false, true, false, false, false, true, false, false, false, false] rfl rfl (by kernel_rfl) (fun _ _ _ h => h) (Or.inl ⟨by rfl, ?_⟩) ?_ ?_
        rotate_left
        · intro w'
          go_simp
          with_reducible rfl
        rotate_left
        · simp only [Act.put, List.setIfInBounds_toArray, List.set_cons_zero, List.set_cons_succ, i64_w, i32_w]
          rfl
        refine pure_ (i := 19) (N := some 53) (v := ?_) (a' := ?_) #[true, true, true, true, true, true, true, true, true, true, true, true, true, true, true, true, true, true, true, true, true, false, false, false, true, false, false, false, false] rfl rfl (by kernel_rfl) (fun _ _ _ h => h) (Or.inl ⟨by rfl, ?_⟩) ?_ ?_
        rotate_left
        · intro w'
          go_simp
          with_reducible rfl
        rotate_left
        · simp only [Act.put, List.setIfInBounds_toArray, List.set_cons_zero, List.set_cons_succ, i64_w, i32_w]
          rfl
        refine one_ (i := 21) (N := some 55) #[true, true, true, true, true, true, true, true, true, true, true, true, true, true, true, true, true, true, true, true, true, true, false, false, true, false, false, false, false] rfl rfl (by kernel_rfl) (by decide) (fun K hK => ?_)
        refine goes_ Try.func14 (by kernel_rfl) rfl #[.int .i64 (k : Int)] (by rfl) rfl rfl (by simp only [List.map_toArray, List.map_cons, List.map_nil]; rfl) ?_
        with_reducible refine (lput_calls (k : Int) p3 _ hs4 hs5 HP3.out).mono ?_
        rintro e x13 ⟨v13, rfl, hR, hb13⟩
        refine ⟨_, rfl, ?_⟩
        obtain ⟨A13, c13, rfl, hc13, hC13⟩ := Kd.R_reads hR
        clear hR
        have HX13 := RegW.thru HX12 hb13
        refine hK.out _ _ (hb13) (fun hHeld => ?_)
        clear hK K
        refine norm_ (a' := ?_) ?_ ?_
        rotate_left
        · show Act.put _ (some 55) _ = _
          simp only [Act.put, List.setIfInBounds_toArray, List.set_cons_zero, List.set_cons_succ, i64_w, i32_w]
          rfl
        refine RegW.change_ hHeld ?_
        clear hHeld
        have hHeld := Below.refl x13.heap.size x13
        refine take_ (i := 22) (N := some 56) (v := ?_) (a' := ?_) #[true, true, true, true, true, true, true, true, true, true, true, true, true, true, true, true, true, true, true, true, true, true, true, false, true, false, false, false, false] rfl rfl (by kernel_rfl) (fun _ _ _ h => h) (Or.inl ⟨by rfl, ?_⟩) hHeld ?_ ?_
        rotate_left
        · intro w' s0
          have hcv := Kd.C_string (P := Try.prog) (A := A13) (c := c13) Try.underlying29 Try.underlying5 Try.underlying9 (Kd.C_below hC13 s0)
          rw [HS3.out] at hcv
          go_simp
          with_reducible rfl
        rotate_left
        · simp only [Act.put, List.setIfInBounds_toArray, List.set_cons_zero, List.set_cons_succ, i64_w, i32_w]
          rfl
        refine pure_ (i := 23) (N := some 57) (v := ?_) (a' := ?_) #[true, true, true, true, true, true, true, true, true, true, true, true, true, true, true, true, true, true, true, true, true, true, true, true, true, false, false, false, false] rfl rfl (by kernel_rfl) (fun _ _ _ h => h) (Or.inl ⟨by rfl, ?_⟩) ?_ ?_
        rotate_left
        · intro w'
          go_simp
          with_reducible rfl
        rotate_left
        · simp only [Act.put, List.setIfInBounds_toArray, List.set_cons_zero, List.set_cons_succ, i64_w, i32_w]
          rfl
        refine one_ (i := 25) (N := some 59) #[true, true, true, true, true, true, true, true, true, true, true, true, true, true, true, true, true, true, true, true, true, true, true, true, true, true, false, false, false] rfl rfl (by kernel_rfl) (by decide) (fun K hK => ?_)
        refine goes_ Try.func14 (by kernel_rfl) rfl #[.int .i64 (m : Int)] (by rfl) rfl rfl (by simp only [List.map_toArray, List.map_cons, List.map_nil]; rfl) ?_
        with_reducible refine (lput_calls (m : Int) p4 _ hs6 hs7 HP4.out).mono ?_
        rintro e x14 ⟨v14, rfl, hR, hb14⟩
        refine ⟨_, rfl, ?_⟩
        obtain ⟨A14, c14, rfl, hc14, hC14⟩ := Kd.R_reads hR
        clear hR
        have HX14 := RegW.thru HX13 hb14
        refine hK.out _ _ (hb14) (fun hHeld => ?_)
        clear hK K
        refine norm_ (a' := ?_) ?_ ?_
        rotate_left
        · show Act.put _ (some 59) _ = _
          simp only [Act.put, List.setIfInBounds_toArray, List.set_cons_zero, List.set_cons_succ, i64_w, i32_w]
          rfl
        refine RegW.change_ hHeld ?_
        clear hHeld
        have hHeld := Below.refl x14.heap.size x14
        refine take_ (i := 26) (N := some 60) (v := ?_) (a' := ?_) #[true, true, true, true, true, true, true, true, true, true, true, true, true, true, true, true, true, true, true, true, true, true, true, true, true, true, true, false, false] rfl rfl (by kernel_rfl) (fun _ _ _ h => h) (Or.inl ⟨by rfl, ?_⟩) hHeld ?_ ?_
        rotate_left
        · intro w' s0
          have hcv := Kd.C_string (P := Try.prog) (A := A14) (c := c14) Try.underlying29 Try.underlying5 Try.underlying9 (Kd.C_below hC14 s0)
          rw [HS4.out] at hcv
          go_simp
          with_reducible rfl
        rotate_left
        · simp only [Act.put, List.setIfInBounds_toArray, List.set_cons_zero, List.set_cons_succ, i64_w, i32_w]
          rfl
        refine pure_ (i := 27) (N := some 61) (v := ?_) (a' := ?_) #[true, true, true, true, true, true, true, true, true, true, true, true, true, true, true, true, true, true, true, true, true, true, true, true, true, true, true, true, false] rfl rfl (by kernel_rfl) (fun _ _ _ h => h) (Or.inl ⟨by rfl, ?_⟩) ?_ ?_
        rotate_left
        · intro w'
          go_simp
          with_reducible rfl
        rotate_left
        · simp only [Act.put, List.setIfInBounds_toArray, List.set_cons_zero, List.set_cons_succ, i64_w, i32_w]
          rfl
        refine pure_ (i := 28) (N := some 12) (v := ?_) (a' := ?_) #[true, true, true, true, true, true, true, true, true, true, true, true, true, true, true, true, true, true, true, true, true, true, true, true, true, true, true, true, true] rfl rfl (by kernel_rfl) (fun _ _ _ h => h) (Or.inl ⟨by rfl, ?_⟩) ?_ ?_
        rotate_left
        · intro w'
          go_simp
          with_reducible rfl
        rotate_left
        · simp only [Act.put, List.setIfInBounds_toArray, List.set_cons_zero, List.set_cons_succ, i64_w, i32_w]
          rfl
        refine done_ (by kernel_rfl) ?_
        rw [HD.out]
        have HB2 := As.mk HX14
        generalize x14 = wx at HB2 ⊢
        by_cases hgd : 1 ≤ m ∧ k + m ≤ b.size
        · obtain ⟨y, hy⟩ : ∃ y, b.extract k (k + m) = y := ⟨_, rfl⟩
          obtain ⟨g, hg⟩ : ∃ g, t ++ y = g := ⟨_, rfl⟩
          have hyz : y.size = m := by rw [← hy, ByteArray.size_extract]; omega
          have hsl := fun wx => steps_cut b y k m hy hgd.2 wx
          have hgs : ¬ 9223372036854775807 < t.size + m := by omega
          have HG := As.mk hg
          have HGG : As (t ++ b.extract k (k + m) = g) := ⟨by rw [hy, hg]⟩
          clear hg hy
          go_wp2_with (fail)
          refine (steps_good b t d g k m _ (by omega) (by omega) (by omega) hk hm hgd.1 hgd.2 HDD.out hzd HGG.out).mono ?_
          rintro e w3 ⟨rfl, hb⟩
          have HB3 : As (Below w.heap.size w w3) := ⟨HB2.out.trans (hb.mono HB2.out.size)⟩
          clear hb HB2
          go_wp2_with (fail)
          rw [HG.out]
          simp only [beq_self_eq_true]
          go_ret
          exact ⟨rfl, HB3.out⟩
        · go_wp2_with (fail)
          refine (steps_bad b t d k m _ (by omega) (by omega) (by omega) hk hm hgd HDD.out hzd).mono ?_
          rintro e w3 ⟨rfl, hb⟩
          have HB3 : As (Below w.heap.size w w3) := ⟨HB2.out.trans (hb.mono HB2.out.size)⟩
          clear hb HB2
          go_wp2_with (fail)
          all_goals
            go_ret
            exact ⟨rfl, HB3.out⟩
    · skip
      refine value_ (v := .slice (some ⟨((w1).drew).heap.size, 0, none⟩) 1 1) (w1 := ((w1).drew).alloc (.cells #[.int .u8 (t.size : Int)] 5)) rfl rfl ?_ ?_
      · go_simp
        first | done | rw [HM1.out] | with_reducible rfl
      obtain ⟨x15, hx15, hb15, hC15⟩ := one_cell ((w1).drew) (t.size : Int)
      rw [hx15]
      clear hx15
      generalize ((w1).drew).heap.size = z15 at hC15 ⊢
      have HX15 := RegW.thru HB.out.drew hb15
      refine hK.out _ _ (hb15) (fun hHeld => ?_)
      clear hK K
      refine norm_ (a' := ?_) ?_ ?_
      rotate_left
      · show Act.put _ (some 48) _ = _
        simp only [Act.put, List.setIfInBounds_toArray, List.set_cons_zero, List.set_cons_succ, i64_w, i32_w]
        rfl
      refine RegW.change_ hHeld ?_
      clear hHeld
      have hHeld := Below.refl x15.heap.size x15
      refine take_ (i := 15) (N := some 49) (v := ?_) (a' := ?_) #[true, true, false, false, true, true, true, true, false, false, false, true, true, true, true, true, false, true, false, false, true, false, false, false, true, false, false, false, false] rfl rfl (by kernel_rfl) (fun _ _ _ h => h) (Or.inl ⟨by rfl, ?_⟩) hHeld ?_ ?_
      rotate_left
      · intro w' s0
        have hcv := Kd.C_string (P := Try.prog) (A := some ⟨z15, 0, none⟩) (c := 1) Try.underlying29 Try.underlying5 Try.underlying9 (Kd.C_below hC15 s0)
        rw [HS2.out] at hcv
        go_simp
        with_reducible rfl
      rotate_left
      · simp only [Act.put, List.setIfInBounds_toArray, List.set_cons_zero, List.set_cons_succ, i64_w, i32_w]
        rfl
      refine one_ (i := 2) (N := some 36) #[true, true, true, false, true, true, true, true, false, false, false, true, true, true, true, true, false, true, false, false, true, false, false, false, true, false, false, false, false] rfl rfl (by kernel_rfl) (by decide) (fun K hK => ?_)
      refine goes_ Try.func14 (by kernel_rfl) rfl #[.int .i64 b.size] (by rfl) rfl rfl (by simp only [List.map_toArray, List.map_cons, List.map_nil]; rfl) ?_
      with_reducible refine (lput_calls b.size p0 _ hs0 hs1 HP0.out).mono ?_
      rintro e x16 ⟨v16, rfl, hR, hb16⟩
      refine ⟨_, rfl, ?_⟩
      obtain ⟨A16, c16, rfl, hc16, hC16⟩ := Kd.R_reads hR
      clear hR
      have HX16 := RegW.thru HX15 hb16
      refine hK.out _ _ (hb16) (fun hHeld => ?_)
      clear hK K
      refine norm_ (a' := ?_) ?_ ?_
      rotate_left
      · show Act.put _ (some 36) _ = _
        simp only [Act.put, List.setIfInBounds_toArray, List.set_cons_zero, List.set_cons_succ, i64_w, i32_w]
        rfl
      refine RegW.change_ hHeld ?_
      clear hHeld
      have hHeld := Below.refl x16.heap.size x16
      refine take_ (i := 3) (N := some 37) (v := ?_) (a' := ?_) #[true, true, true, true, true, true, true, true, false, false, false, true, true, true, true, true, false, true, false, false, true, false, false, false, true, false, false, false, false] rfl rfl (by kernel_rfl) (fun _ _ _ h => h) (Or.inl ⟨by rfl, ?_⟩) hHeld ?_ ?_
      rotate_left
      · intro w' s0
        have hcv := Kd.C_string (P := Try.prog) (A := A16) (c := c16) Try.underlying29 Try.underlying5 Try.underlying9 (Kd.C_below hC16 s0)
        rw [HS0.out] at hcv
        go_simp
        with_reducible rfl
      rotate_left
      · simp only [Act.put, List.setIfInBounds_toArray, List.set_cons_zero, List.set_cons_succ, i64_w, i32_w]
        rfl
      refine one_ (i := 8) (N := some 42) #[true, true, true, true, true, true, true, true, true, false, false, true, true, true, true, true, false, true, false, false, true, false, false, false, true, false, false, false, false] rfl rfl (by kernel_rfl) (by decide) (fun K hK => ?_)
      refine goes_ Try.func14 (by kernel_rfl) rfl #[.int .i64 (t.size + m : Int)] (by rfl) rfl rfl (by simp only [List.map_toArray, List.map_cons, List.map_nil]; rfl) ?_
      with_reducible refine (lput_calls (t.size + m : Int) p1 _ hs2 hs3 HP1.out).mono ?_
      rintro e x17 ⟨v17, rfl, hR, hb17⟩
      refine ⟨_, rfl, ?_⟩
      obtain ⟨A17, c17, rfl, hc17, hC17⟩ := Kd.R_reads hR
      clear hR
      have HX17 := RegW.thru HX16 hb17
      refine hK.out _ _ (hb17) (fun hHeld => ?_)
      clear hK K
      refine norm_ (a' := ?_) ?_ ?_
      rotate_left
      · show Act.put _ (some 42) _ = _
        simp only [Act.put, List.setIfInBounds_toArray, List.set_cons_zero, List.set_cons_succ, i64_w, i32_w]
        rfl
      refine RegW.change_ hHeld ?_
      clear hHeld
      have hHeld := Below.refl x17.heap.size x17
      refine take_ (i := 9) (N := some 43) (v := ?_) (a' := ?_) #[true, true, true, true, true, true, true, true, true, true, false, true, true, true, true, true, false, true, false, false, true, false, false, false, true, false, false, false, false] rfl rfl (by kernel_rfl) (fun _ _ _ h => h) (Or.inl ⟨by rfl, ?_⟩) hHeld ?_ ?_
      rotate_left
      · intro w' s0
        have hcv := Kd.C_string (P := Try.prog) (A := A17) (c := c17) Try.underlying29 Try.underlying5 Try.underlying9 (Kd.C_below hC17 s0)
        rw [HS1.out] at hcv
        go_simp
        with_reducible rfl
      rotate_left
      · simp only [Act.put, List.setIfInBounds_toArray, List.set_cons_zero, List.set_cons_succ, i64_w, i32_w]
        rfl
      refine pure_ (i := 10) (N := some 44) (v := ?_) (a' := ?_) #[true, true, true, true, true, true, true, true, true, true, true, true, true, true, true, true, false, true, false, false, true, false, false, false, true, false, false, false, false] rfl rfl (by kernel_rfl) (fun _ _ _ h => h) (Or.inl ⟨by rfl, ?_⟩) ?_ ?_
      rotate_left
      · intro w'
        go_simp
        with_reducible rfl
      rotate_left
      · simp only [Act.put, List.setIfInBounds_toArray, List.set_cons_zero, List.set_cons_succ, i64_w, i32_w]
        rfl
      refine pure_ (i := 16) (N := some 50) (v := ?_) (a' := ?_) #[true, true, true, true, true, true, true, true, true, true, true, true, true, true, true, true, true, true, false, false, true, false, false, false, true, false, false, false, false] rfl rfl (by kernel_rfl) (fun _ _ _ h => h) (Or.inl ⟨by rfl, ?_⟩) ?_ ?_
      rotate_left
      · intro w'
        go_simp
        with_reducible rfl
      rotate_left
      · simp only [Act.put, List.setIfInBounds_toArray, List.set_cons_zero, List.set_cons_succ, i64_w, i32_w]
        rfl
      refine pure_ (i := 18) (N := some 52) (v := ?_) (a' := ?_) #[true, true, true, true, true, true, true, true, true, true, true, true, true, true, true, true, true, true, true, false, true, false, false, false, true, false, false, false, false] rfl rfl (by kernel_rfl) (fun _ _ _ h => h) (Or.inl ⟨by rfl, ?_⟩) ?_ ?_
      rotate_left
      · intro w'
        go_simp
        with_reducible rfl
      rotate_left
      · simp only [Act.put, List.setIfInBounds_toArray, List.set_cons_zero, List.set_cons_succ, i64_w, i32_w]
        rfl
      refine pure_ (i := 19) (N := some 53) (v := ?_) (a' := ?_) #[true, true, true, true, true, true, true, true, true, true, true, true, true, true, true, true, true, true, true, true, true, false, false, false, true, false, false, false, false] rfl rfl (by kernel_rfl) (fun _ _ _ h => h) (Or.inl ⟨by rfl, ?_⟩) ?_ ?_
      rotate_left
      · intro w'
        go_simp
        with_reducible rfl
      rotate_left
      · simp only [Act.put, List.setIfInBounds_toArray, List.set_cons_zero, List.set_cons_succ, i64_w, i32_w]
        rfl
      refine one_ (i := 21) (N := some 55) #[true, true, true, true, true, true, true, true, true, true, true, true, true, true, true, true, true, true, true, true, true, true, false, false, true, false, false, false, false] rfl rfl (by kernel_rfl) (by decide) (fun K hK => ?_)
      refine goes_ Try.func14 (by kernel_rfl) rfl #[.int .i64 (k : Int)] (by rfl) rfl rfl (by simp only [List.map_toArray, List.map_cons, List.map_nil]; rfl) ?_
      with_reducible refine (lput_calls (k : Int) p3 _ hs4 hs5 HP3.out).mono ?_
      rintro e x18 ⟨v18, rfl, hR, hb18⟩
      refine ⟨_, rfl, ?_⟩
      obtain ⟨A18, c18, rfl, hc18, hC18⟩ := Kd.R_reads hR
      clear hR
      have HX18 := RegW.thru HX17 hb18
      refine hK.out _ _ (hb18) (fun hHeld => ?_)
      clear hK K
      refine norm_ (a' := ?_) ?_ ?_
      rotate_left
      · show Act.put _ (some 55) _ = _
        simp only [Act.put, List.setIfInBounds_toArray, List.set_cons_zero, List.set_cons_succ, i64_w, i32_w]
        rfl
      refine RegW.change_ hHeld ?_
      clear hHeld
      have hHeld := Below.refl x18.heap.size x18
      refine take_ (i := 22) (N := some 56) (v := ?_) (a' := ?_) #[true, true, true, true, true, true, true, true, true, true, true, true, true, true, true, true, true, true, true, true, true, true, true, false, true, false, false, false, false] rfl rfl (by kernel_rfl) (fun _ _ _ h => h) (Or.inl ⟨by rfl, ?_⟩) hHeld ?_ ?_
      rotate_left
      · intro w' s0
        have hcv := Kd.C_string (P := Try.prog) (A := A18) (c := c18) Try.underlying29 Try.underlying5 Try.underlying9 (Kd.C_below hC18 s0)
        rw [HS3.out] at hcv
        go_simp
        with_reducible rfl
      rotate_left
      · simp only [Act.put, List.setIfInBounds_toArray, List.set_cons_zero, List.set_cons_succ, i64_w, i32_w]
        rfl
      refine pure_ (i := 23) (N := some 57) (v := ?_) (a' := ?_) #[true, true, true, true, true, true, true, true, true, true, true, true, true, true, true, true, true, true, true, true, true, true, true, true, true, false, false, false, false] rfl rfl (by kernel_rfl) (fun _ _ _ h => h) (Or.inl ⟨by rfl, ?_⟩) ?_ ?_
      rotate_left
      · intro w'
        go_simp
        with_reducible rfl
      rotate_left
      · simp only [Act.put, List.setIfInBounds_toArray, List.set_cons_zero, List.set_cons_succ, i64_w, i32_w]
        rfl
      refine one_ (i := 25) (N := some 59) #[true, true, true, true, true, true, true, true, true, true, true, true, true, true, true, true, true, true, true, true, true, true, true, true, true, true, false, false, false] rfl rfl (by kernel_rfl) (by decide) (fun K hK => ?_)
      refine goes_ Try.func14 (by kernel_rfl) rfl #[.int .i64 (m : Int)] (by rfl) rfl rfl (by simp only [List.map_toArray, List.map_cons, List.map_nil]; rfl) ?_
      with_reducible refine (lput_calls (m : Int) p4 _ hs6 hs7 HP4.out).mono ?_
      rintro e x19 ⟨v19, rfl, hR, hb19⟩
      refine ⟨_, rfl, ?_⟩
      obtain ⟨A19, c19, rfl, hc19, hC19⟩ := Kd.R_reads hR
      clear hR
      have HX19 := RegW.thru HX18 hb19
      refine hK.out _ _ (hb19) (fun hHeld => ?_)
      clear hK K
      refine norm_ (a' := ?_) ?_ ?_
      rotate_left
      · show Act.put _ (some 59) _ = _
        simp only [Act.put, List.setIfInBounds_toArray, List.set_cons_zero, List.set_cons_succ, i64_w, i32_w]
        rfl
      refine RegW.change_ hHeld ?_
      clear hHeld
      have hHeld := Below.refl x19.heap.size x19
      refine take_ (i := 26) (N := some 60) (v := ?_) (a' := ?_) #[true, true, true, true, true, true, true, true, true, true, true, true, true, true, true, true, true, true, true, true, true, true, true, true, true, true, true, false, false] rfl rfl (by kernel_rfl) (fun _ _ _ h => h) (Or.inl ⟨by rfl, ?_⟩) hHeld ?_ ?_
      rotate_left
      · intro w' s0
        have hcv := Kd.C_string (P := Try.prog) (A := A19) (c := c19) Try.underlying29 Try.underlying5 Try.underlying9 (Kd.C_below hC19 s0)
        rw [HS4.out] at hcv
        go_simp
        with_reducible rfl
      rotate_left
      · simp only [Act.put, List.setIfInBounds_toArray, List.set_cons_zero, List.set_cons_succ, i64_w, i32_w]
        rfl
      refine pure_ (i := 27) (N := some 61) (v := ?_) (a' := ?_) #[true, true, true, true, true, true, true, true, true, true, true, true, true, true, true, true, true, true, true, true, true, true, true, true, true, true, true, true, false] rfl rfl (by kernel_rfl) (fun _ _ _ h => h) (Or.inl ⟨by rfl, ?_⟩) ?_ ?_
      rotate_left
      · intro w'
        go_simp
        with_reducible rfl
      rotate_left
      · simp only [Act.put, List.setIfInBounds_toArray, List.set_cons_zero, List.set_cons_succ, i64_w, i32_w]
        rfl
      refine pure_ (i := 28) (N := some 12) (v := ?_) (a' := ?_) #[true, true, true, true, true, true, true, true, true, true, true, true, true, true, true, true, true, true, true, true, true, true, true, true, true, true, true, true, true] rfl rfl (by kernel_rfl) (fun _ _ _ h => h) (Or.inl ⟨by rfl, ?_⟩) ?_ ?_
      rotate_left
      · intro w'
        go_simp
        with_reducible rfl
      rotate_left
      · simp only [Act.put, List.setIfInBounds_toArray, List.set_cons_zero, List.set_cons_succ, i64_w, i32_w]
        rfl
      refine done_ (by kernel_rfl) ?_
      rw [HD.out]
      have HB2 := As.mk HX19
      generalize x19 = wx at HB2 ⊢
      by_cases hgd : 1 ≤ m ∧ k + m ≤ b.size
      · obtain ⟨y, hy⟩ : ∃ y, b.extract k (k + m) = y := ⟨_, rfl⟩
        obtain ⟨g, hg⟩ : ∃ g, t ++ y = g := ⟨_, rfl⟩
        have hyz : y.size = m := by rw [← hy, ByteArray.size_extract]; omega
        have hsl := fun wx => steps_cut b y k m hy hgd.2 wx
        have hgs : ¬ 9223372036854775807 < t.size + m := by omega
        have HG := As.mk hg
        have HGG : As (t ++ b.extract k (k + m) = g) := ⟨by rw [hy, hg]⟩
        clear hg hy
        go_wp2_with (fail)
        refine (steps_good b t d g k m _ (by omega) (by omega) (by omega) hk hm hgd.1 hgd.2 HDD.out hzd HGG.out).mono ?_
        rintro e w3 ⟨rfl, hb⟩
        have HB3 : As (Below w.heap.size w w3) := ⟨HB2.out.trans (hb.mono HB2.out.size)⟩
        clear hb HB2
        go_wp2_with (fail)
        rw [HG.out]
        simp only [beq_self_eq_true]
        go_ret
        exact ⟨rfl, HB3.out⟩
      · go_wp2_with (fail)
        refine (steps_bad b t d k m _ (by omega) (by omega) (by omega) hk hm hgd HDD.out hzd).mono ?_
        rintro e w3 ⟨rfl, hb⟩
        have HB3 : As (Below w.heap.size w w3) := ⟨HB2.out.trans (hb.mono HB2.out.size)⟩
        clear hb HB2
        go_wp2_with (fail)
        all_goals
          go_ret
          exact ⟨rfl, HB3.out⟩
end Go.Proofs.Yticagpejankjcaa.Db
