/- The document's deltas: what its inserts makes of a text. No condition but the texts' length. -/
import Derived.Test.YticagpejankjcaaDelHead
import Derived.Test.YticagpejankjcaaRegW
namespace Go.Proofs.Yticagpejankjcaa.Db
set_option linter.unusedVariables false
set_option linter.unusedSimpArgs false
open Go.RowKit Go.Proofs.YticagpejankjcaaW.PrintWords Go.Proofs.YticagpejankjcaaW.PrintLast Go.Proofs.YticagpejankjcaaW.PrintMore

section
variable {P : Program} {ops : Array Oper} {o : Oper} {a : Act} {Q : Exit → Act → World → Prop} {Kc : Act → World → Prop}
/-- append([]byte, s...), s a string, in a region that draws. -/
theorem R_append_str_step {w0 W : World} (base : Nat) (hw : Region.wanted o (yielded ops a.tmps) = true) (s x : Operand) (t u e : TypeId)
    (ho : o.op = .call { callee := .builtin .append, args := #[s, x], argTypes := #[t, u] })
    (ht : P.underlying t = some (.slice e)) (hu : P.underlying u = some .string) (hinfo : (P.info? e).map (fun i => (i.zero, i.size, i.bytes)) = some (some (.int .u8 0), 1, 1))
    (v : Value) (xs : List Int) (y : ByteArray) (hs : a.eval s = v) (hx : a.eval x = .string y)
    (HO : (Kd.int .u8).R e W base (fun _ => True) v xs) (HB : Below base w0 W) (hbase : base ≤ W.heap.size) (hl : xs.length + y.size ≤ 140737488355328)
    (h : ∀ v1 w1, (Kd.int .u8).R e w1 base (fun _ => True) v1 (xs ++ bytesOf y) → Below base w0 w1 → Kc (a.put o.dst v1) w1) :
    if Region.wanted o (yielded ops a.tmps) = true then Oper.wp P o a W Kc Q else Kc (a.put o.dst undef) W := by
  obtain ⟨i0, hi, hzz⟩ := Option.map_eq_some_iff.1 hinfo
  simp only [Prod.mk.injEq] at hzz
  obtain ⟨hz0, hz1, hz2⟩ := hzz
  have hown := Kd.own_of_R HO
  obtain ⟨v', w', hr, h2, h3, h4⟩ := Lib.run_append_own_string (P := P) W base t u o.type e i0 ht hu hi hz0 hz1 hz2 v xs.length _ hown y (by simp only [maxLen]; omega) hl hbase
  rw [if_pos hw]
  unfold Oper.wp execOp
  simp only [ho, resolve, invoke, builtin, Sem.run_bind, Sem.run_pure, Result.andThen_ok, List.map_toArray, List.map_cons, List.map_nil, hs, hx, hr]
  have hl2 : (xs ++ bytesOf y).length = xs.length + y.size := by rw [List.length_append, bytesOf_length]
  have hc : nums .u8 (xs ++ bytesOf y) = nums .u8 xs ++ Lib.strCells y := by
    rw [nums_append]
    congr 1
    simp [nums, bytesOf, Lib.strCells]
  exact h v' w' (Kd.R_of_own (by rw [hl2, show encs (Value.int .u8) (xs ++ bytesOf y) = nums .u8 (xs ++ bytesOf y) from rfl, hc]; exact h2) (fun _ _ => trivial)) (HB.grown h3 hbase (own_base hown))
end
theorem byte_small (n : Nat) (h : n ≤ 127) : IntKind.u8.wrap (n : Int) = n := by
  rw [show IntKind.u8.wrap (n : Int) = (n : Int) % 256 from rfl]; omega
theorem ins_str (y : ByteArray) (n : Nat) (h0 : 0 < y.size) (hn : n = min y.size 127) : ins (bytesOf y) = (n : Int) :: (bytesOf (y.extract 0 n) ++ ins (bytesOf (y.extract n y.size))) := by
  have h := ins_part y 0 y.size n h0 (Nat.le_refl _) (by rw [hn]; rfl)
  simp only [part, List.drop_zero, Nat.sub_zero, Nat.zero_add] at h
  have e0 : (bytesOf y).take y.size = bytesOf y := List.take_of_length_le (by rw [bytesOf_length]; exact Nat.le_refl _)
  rw [e0] at h
  rw [h, bytesOf_ext, bytesOf_ext, List.drop_zero, Nat.sub_zero]
set_option maxHeartbeats 4000000 in
set_option maxRecDepth 100000 in
theorem inserts_calls (s : ByteArray) (T : List Int) (w : World) (hs : s.size ≤ 1099511627776) (hT : ins (bytesOf s) = T) :
    Calls Try.prog 29 #[.string s] w fun e w' => ∃ v, e = .returned v ∧ Kd.R (Kd.int .u8) 5 w' w.heap.size (fun _ => True) v T ∧ Below w.heap.size w w' := by
  have HT := As.mk hT
  clear hT
  go_enter Try.func29, Try.ntmps29
  go_wp2_with (fail)
  go_loopg [0, 3] (s.size + 1) (fun kq v0 v3 w' => ∃ (y : ByteArray) (xs : List Int), v0 = .string y ∧ y.size < kq ∧ y.size ≤ s.size ∧ xs.length + 2 * y.size ≤ 4398046511104 ∧ As (xs ++ ins (bytesOf y) = T) ∧ As (Kd.R (Kd.int .u8) 5 w' w.heap.size (fun _ => True) v3 xs) ∧ As (Below w.heap.size w w'))
  case atStart => exact ⟨s, [], rfl, by omega, by omega, by simp; omega, ⟨by rw [List.nil_append]; exact HT.out⟩, ⟨Kd.R_nil _ _ _ _ _⟩, ⟨Below.refl _ _⟩⟩
  case round =>
    obtain ⟨y, xs, rfl, hyk, hys, hxl, HTa, HO, HB⟩ := hrel
    by_cases h0 : 0 < y.size
    · cases gk with
      | zero => omega
      | succ k2 =>
        obtain ⟨n, hn⟩ : ∃ n, n = min y.size 127 := ⟨_, rfl⟩
        have hn0 : 0 < n := by omega
        have hn1 : n ≤ 127 := by omega
        have hn2 : (n : Int) ≤ y.size := by omega
        obtain ⟨y1, hy1⟩ : ∃ z, y.extract 0 n = z := ⟨_, rfl⟩
        obtain ⟨y2, hy2⟩ : ∃ z, y.extract n y.size = z := ⟨_, rfl⟩
        have hy1s : y1.size = n := by rw [← hy1]; simp; omega
        have hy2s : y2.size = y.size - n := by rw [← hy2]; simp
        have HN1 := As.mk (byte_small n hn1)
        have HNX : As ((xs ++ [(n : Int)] ++ bytesOf y1) ++ ins (bytesOf y2) = T) := ⟨by rw [← HTa.out, ins_str y n h0 hn, hy1, hy2]; simp⟩
        have HY1 := As.mk hy1
        have HY2 := As.mk hy2
        have HN := As.mk hn
        clear hy1 hy2 hn HTa
        go_wp2_with (fail)
        have hq : min (y.size : Int) 127 = n := by have := HN.out; omega
        rw [hq]
        clear hq
        refine start_ (n := 10) (S := fun w' => Below w.heap.size w w') (ds := []) #[false, false, false, false, false, false, false, false, false, false] (by kernel_rfl) rfl rfl (HB.out.drew) (fun hHeld => ?_)
        refine pure_ (i := 0) (N := some 11) (v := ?_) (a' := ?_) #[true, false, false, false, false, false, false, false, false, false] rfl rfl (by kernel_rfl) (fun _ _ _ h => h) (Or.inl ⟨by rfl, ?_⟩) ?_ ?_
        rotate_left
        · intro w'
          go_simp
          with_reducible rfl
        rotate_left
        · simp only [Act.put, List.setIfInBounds_toArray, List.set_cons_zero, List.set_cons_succ, i64_w, i32_w]
          rfl
        refine pure_ (i := 1) (N := some 12) (v := ?_) (a' := ?_) #[true, true, false, false, false, false, false, false, false, false] rfl rfl (by kernel_rfl) (fun _ _ _ h => h) (Or.inl ⟨by rfl, ?_⟩) ?_ ?_
        rotate_left
        · intro w'
          go_simp
          with_reducible rfl
        rotate_left
        · simp only [Act.put, List.setIfInBounds_toArray, List.set_cons_zero, List.set_cons_succ, i64_w, i32_w]
          rfl
        refine pure_ (i := 2) (N := some 13) (v := ?_) (a' := ?_) #[true, true, true, false, false, false, false, false, false, false] rfl rfl (by kernel_rfl) (fun _ _ _ h => h) (Or.inl ⟨by rfl, ?_⟩) ?_ ?_
        rotate_left
        · intro w'
          go_simp
          with_reducible rfl
        rotate_left
        · simp only [Act.put, List.setIfInBounds_toArray, List.set_cons_zero, List.set_cons_succ, i64_w, i32_w]
          rfl
        refine pure_ (i := 5) (N := some 16) (v := ?_) (a' := ?_) #[true, true, true, false, false, true, false, false, false, false] rfl rfl (by kernel_rfl) (fun _ _ _ h => h) (Or.inl ⟨by rfl, ?_⟩) ?_ ?_
        rotate_left
        · intro w'
          go_simp
          with_reducible rfl
        rotate_left
        · simp only [Act.put, List.setIfInBounds_toArray, List.set_cons_zero, List.set_cons_succ, i64_w, i32_w]
          rfl
        refine pure_ (i := 6) (N := some 17) (v := ?_) (a' := ?_) #[true, true, true, false, false, true, true, false, false, false] rfl rfl (by kernel_rfl) (fun _ _ _ h => h) (Or.inl ⟨by rfl, ?_⟩) ?_ ?_
        rotate_left
        · intro w'
          go_simp
          with_reducible rfl
        rotate_left
        · simp only [Act.put, List.setIfInBounds_toArray, List.set_cons_zero, List.set_cons_succ, i64_w, i32_w]
          rfl
        refine pure_ (i := 7) (N := some 18) (v := ?_) (a' := ?_) #[true, true, true, false, false, true, true, true, false, false] rfl rfl (by kernel_rfl) (fun _ _ _ h => h) (Or.inl ⟨by rfl, ?_⟩) ?_ ?_
        rotate_left
        · intro w'
          go_simp
          with_reducible rfl
        rotate_left
        · simp only [Act.put, List.setIfInBounds_toArray, List.set_cons_zero, List.set_cons_succ, i64_w, i32_w]
          rfl
        refine one_ (i := 3) (N := some 14) #[true, true, true, true, false, true, true, true, false, false] rfl rfl (by kernel_rfl) (by decide) (fun K hK => ?_)
        refine value_ (v := .slice (some ⟨wr.drew.heap.size, 0, none⟩) 1 1) (w1 := wr.drew.alloc (.cells #[.int .u8 (n : Int)] 5)) rfl rfl ?_ ?_
        · go_simp
          first | done | rw [HN1.out] | with_reducible rfl
        refine hK.out _ _ (HB.out.drew.alloc (HB.out.size) _) (fun hHeld => ?_)
        clear hK K
        refine norm_ (a' := ?_) ?_ ?_
        rotate_left
        · show Act.put _ (some 14) _ = _
          simp only [Act.put, List.setIfInBounds_toArray, List.set_cons_zero, List.set_cons_succ, i64_w, i32_w]
          rfl
        refine one_ (i := 4) (N := some 15) #[true, true, true, true, true, true, true, true, false, false] rfl rfl (by kernel_rfl) (by decide) (fun K hK => ?_)
        refine Kd.R_append_step (Kd.int .u8) (w0 := w) (W := wr.drew) w.heap.size rfl (.tmp 11) (.tmp 14) 29 5 (.int .u8 0) 1 rfl Try.underlying29 Nl.info5 rfl (by decide) (by decide) u3 xs (n : Int) [.int .u8 (n : Int)] (fun _ => True) (fun _ => False) rfl rfl rfl (fun _ hk => hk.elim) (fun _ _ => trivial) (Kd.R_drew HO.out) HB.out.drew HB.out.size (by omega) ?_
        intro v4 w4 ho4 hb4 hg4 hat4
        refine hK.out _ _ (hb4) (fun hHeld => ?_)
        clear hK K
        refine norm_ (a' := ?_) ?_ ?_
        rotate_left
        · show Act.put _ (some 15) _ = _
          simp only [Act.put, List.setIfInBounds_toArray, List.set_cons_zero, List.set_cons_succ, i64_w, i32_w]
          rfl
        refine one_ (i := 8) (N := some 19) #[true, true, true, true, true, true, true, true, true, false] rfl rfl (by kernel_rfl) (by decide) (fun K hK => ?_)
        refine R_append_str_step (w0 := w) (W := w4) w.heap.size rfl (.tmp 15) (.tmp 18) 29 9 5 rfl Try.underlying29 Try.underlying9 Nl.info5 v4 (xs ++ [(n : Int)]) y1 rfl (by rw [← HY1.out]; rfl) ho4 hb4 hb4.size (by simp; omega) ?_
        intro v5 w5 ho5 hb5
        refine hK.out _ _ (hb5) (fun hHeld => ?_)
        clear hK K
        refine norm_ (a' := ?_) ?_ ?_
        rotate_left
        · show Act.put _ (some 19) _ = _
          simp only [Act.put, List.setIfInBounds_toArray, List.set_cons_zero, List.set_cons_succ, i64_w, i32_w]
          rfl
        refine pure_ (i := 9) (N := some 3) (v := ?_) (a' := ?_) #[true, true, true, true, true, true, true, true, true, true] rfl rfl (by kernel_rfl) (fun _ _ _ h => h) (Or.inl ⟨by rfl, ?_⟩) ?_ ?_
        rotate_left
        · intro w'
          go_simp
          with_reducible rfl
        rotate_left
        · simp only [Act.put, List.setIfInBounds_toArray, List.set_cons_zero, List.set_cons_succ, i64_w, i32_w]
          rfl
        refine done_ (by kernel_rfl) ?_
        have HO5 := As.mk ho5
        have HB5 := As.mk hb5
        clear ho5 hb5 ho4 hb4 hg4 hat4 hHeld HO HB
        go_wp2_with (fail)
        go_roundg k2
        case measure => omega
        case rel =>
          have a1 : y2.size < k2 := by omega
          have a2 : y2.size ≤ s.size := by omega
          have a3 : (xs ++ [(n : Int)] ++ bytesOf y1).length + 2 * y2.size ≤ 4398046511104 := by rw [List.length_append, List.length_append, bytesOf_length, List.length_singleton]; omega
          refine ⟨y2, xs ++ [(n : Int)] ++ bytesOf y1, ?_, a1, a2, a3, HNX, HO5, HB5⟩
          rw [← HY2.out]
          try rfl
    · have hz : bytesOf y = [] := List.eq_nil_of_length_eq_zero (by rw [bytesOf_length]; omega)
      have hT2 : As (xs = T) := ⟨by rw [← HTa.out, hz, ins_nil, List.append_nil]⟩
      clear HTa hz
      go_wp2_with (fail)
      go_ret
      exact ⟨_, rfl, by rw [← hT2.out]; exact HO.out, HB.out⟩
end Go.Proofs.Yticagpejankjcaa.Db
