/- Joined texts: RfRight, RfWrong. No condition but what stands in each. -/
import Derived.Test.YtacgchklilfcaaaGreatDoorZRfS2
import Derived.Test.YtacgchklilfcaaaGreatDoorZRfS3
import Derived.Test.YtacgchklilfcaaaGreatDoorZRfS1
import Derived.Sort.Walk0
namespace Go.Proofs.YtacgchklilfcaaaGreatDoor.Rf
set_option linter.unusedVariables false
set_option linter.unusedSimpArgs false
open Go Go.RowKit Go.Proofs.YtacgchklilfcaaaGreatDoorW.PrintWords Go.Proofs.YtacgchklilfcaaaGreatDoorW.PrintLast Go.Proofs.YtacgchklilfcaaaGreatDoorW.PrintMore PRfBase Go.Proofs.YtacgchklilfcaaaGreatDoor.Gl
def Zsh (l : List Ref) : Prop := ∀ x ∈ l, x.f0.size ≤ 1000000000 ∧ x.f1.size ≤ 1000000000
set_option maxHeartbeats 4000000 in
set_option maxRecDepth 100000 in
theorem right1 (x y : Ref) (ad : Addr) (hx : x.f0.size ≤ 1000000000) (hy : y.f0.size ≤ 1000000000) (w : World) (h : w.cell? (ad.add 0) = some (.string x.f0)) :
    Calls Tryz.prog 39 #[.agg #[.string y.f0, .string y.f1], .pointer (some ad)] w fun e w' => e = .returned (.bool (aboveB y.f0 x.f0)) ∧ Below w.heap.size w w' := by
  have h1 : ∀ o, (w.alloc o).cell? ad = some (.string x.f0) := fun o => by
    have hadd : ad.add 0 = ad := by unfold Addr.add; simp
    rw [hadd] at h
    exact pw_cell_below ((Below.refl _ _).alloc (Nat.le_refl _) o) h
  have hadd : ad.add 0 = ad := by unfold Addr.add; simp
  go_enter Tryz.func39, Tryz.ntmps39
  go_wp2_with (fail)
  refine (above_walk y.f0 x.f0 (by omega) (by omega) _).mono ?_
  rintro e w1 ⟨rfl, hb⟩
  have hb0 : Below w.heap.size w (w.alloc (.cells #[.string y.f0, .string y.f1] 46)) := (Below.refl _ _).alloc (Nat.le_refl _) _
  go_wp2_with (fail)
  go_ret
  exact ⟨rfl, hb0.trans (hb.mono hb0.size)⟩
def noRef : Ref := ⟨⟨#[]⟩, ⟨#[]⟩⟩
def okAt (l : List Ref) (i : Nat) (x : Ref) : Bool := nameB x.f0 && nmB x.f1 && (i == 0 || decide (L ((l[i - 1]?.getD noRef).f0) < L x.f0)) && !l.any (fun y => aboveB y.f0 x.f0)
def rightB (l : List Ref) : Bool := l.zipIdx.all (fun p => okAt l p.2 p.1) && decide (l.length ≤ 64)
theorem rightB_false {l : List Ref} {i : Nat} {x : Ref} (hx : l[i]? = some x) (h : okAt l i x = false) : rightB l = false := by
  unfold rightB
  rw [show l.zipIdx.all (fun p => okAt l p.2 p.1) = false from ?_, Bool.false_and]
  rw [← Bool.not_eq_true, List.all_eq_true]
  intro k
  have := k (x, i) (List.mem_of_getElem? (i := i) (by simp [List.getElem?_zipIdx, hx]))
  rw [h] at this
  cases this
theorem rightB_true {l : List Ref} (h : ∀ j x, l[j]? = some x → okAt l j x = true) : rightB l = decide (l.length ≤ 64) := by
  unfold rightB
  rw [show l.zipIdx.all (fun p => okAt l p.2 p.1) = true from ?_, Bool.true_and]
  rw [List.all_eq_true]
  intro p hp
  obtain ⟨j, hj⟩ := List.getElem?_of_mem hp
  rw [List.getElem?_zipIdx] at hj
  cases hl : l[j]? with
  | none => rw [hl] at hj; cases hj
  | some z => rw [hl] at hj; simp at hj; subst hj; exact h j z hl
set_option maxHeartbeats 16000000 in
set_option maxRecDepth 100000 in
theorem right_walk (A : Option Addr) (c n : Nat) (l : List Ref) (w : World) (hC : Kd.C k46 w A n l) (hn : l.length = n) (hc : n ≤ c) (hsh : Zsh l) :
    Calls Tryz.prog 11 #[.slice A n c] w fun e w' => e = .returned (.bool (rightB l)) ∧ Below w.heap.size w w' := by
  have HC := As.mk hC
  have HN := As.mk hn
  have HSH := As.mk hsh
  have hmax := Kd.C_max hC
  clear hC hn hsh
  go_enter Tryz.func11, Tryz.ntmps11
  go_wp2_with (fail)
  go_loopw [7] (fun v7 wr => ∃ i : Nat, v7 = .int .i64 i ∧ i ≤ n ∧ As (∀ j x, j < i → l[j]? = some x → okAt l j x = true) ∧ As (Below w.heap.size w wr)) (fun v7 _ => n - (intOf v7).toNat)
  case atStart => exact ⟨0, rfl, by omega, ⟨fun j x h => by omega⟩, ⟨Below.refl _ _⟩⟩
  case round =>
    obtain ⟨i, rfl, hi, HOK, HB⟩ := hrel
    by_cases hlt : i < n
    · have hil : i < l.length := by rw [HN.out]; exact hlt
      obtain ⟨ad, rfl, h0, h1⟩ := at_T46 (Kd.C_below HC.out HB.out) (i : Int) (by omega) (by omega)
      rw [Int.toNat_natCast] at h0 h1
      obtain ⟨x, hx⟩ : ∃ x, rd_T46 l (i : Int) = x := ⟨_, rfl⟩
      have hxi : l[i]? = some x := rd_Ref_at hil hx
      rw [hx] at h0 h1
      have HX := As.mk hxi
      clear hx hxi hil
      go_wp2_with (fail)
      have HBb : As (Below w.heap.size w (wr.alloc (.cells #[.string x.f0, .string x.f1] 46))) := ⟨HB.out.alloc HB.out.size _⟩
      have hbx0 : (wr.alloc (.cells #[.string x.f0, .string x.f1] 46)).cell? ⟨wr.heap.size, 0, none⟩ = some (.string x.f0) := by simp
      have hbx1 : (wr.alloc (.cells #[.string x.f0, .string x.f1] 46)).cell? ⟨wr.heap.size, 1, none⟩ = some (.string x.f1) := by simp
      obtain ⟨wb, hwb⟩ : ∃ wb, wr.alloc (.cells #[.string x.f0, .string x.f1] 46) = wb := ⟨_, rfl⟩
      rw [hwb] at HBb hbx0 hbx1 ⊢
      clear hwb
      have HZ := As.mk (HSH.out x (List.mem_of_getElem? HX.out))
      have HCN := As.mk (named_walk x.f0 HZ.out.1)
      have HCD := As.mk (dnamed_walk x.f1 (by have := HZ.out.2; omega))
      rcases hnb : nameB x.f0 with _ | _
      · rw [hnb] at HCN
        refine start_ (n := 25) (S := fun w' => Below wb.heap.size wb w') (ds := []) #[false, false, false, false, false, false, false, false, false, false, false, false, false, false, false, false, false, false, false, false, false, false, false, false, false] (by kernel_rfl) rfl rfl (below_drew (Below.refl _ _)) (fun hHeld => ?_)
        refine pure_ (i := 0) (N := some 12) (v := ?_) (a' := ?_) #[true, false, false, false, false, false, false, false, false, false, false, false, false, false, false, false, false, false, false, false, false, false, false, false, false] rfl rfl (by kernel_rfl) (fun _ _ _ h => h) (Or.inl ⟨by rfl, ?_⟩) ?_ ?_
        rotate_left
        · intro w'
          go_simp
          with_reducible rfl
        rotate_left
        · simp only [Act.put, List.setIfInBounds_toArray, List.set_cons_zero, List.set_cons_succ, i64_w, i32_w]
          rfl
        refine take_ (i := 1) (N := some 13) (v := ?_) (a' := ?_) #[true, true, false, false, false, false, false, false, false, false, false, false, false, false, false, false, false, false, false, false, false, false, false, false, false] rfl rfl (by kernel_rfl) (fun _ _ _ h => h) (Or.inl ⟨by rfl, ?_⟩) hHeld ?_ ?_
        rotate_left
        · intro w' s0
          have hc := pw_cell_below s0 hbx0
          go_simp
          with_reducible rfl
        rotate_left
        · simp only [Act.put, List.setIfInBounds_toArray, List.set_cons_zero, List.set_cons_succ, i64_w, i32_w]
          rfl
        refine one_ (i := 2) (N := some 14) #[true, true, true, false, false, false, false, false, false, false, false, false, false, false, false, false, false, false, false, false, false, false, false, false, false] rfl rfl (by kernel_rfl) (by decide) (fun K hK => ?_)
        refine goes_ Tryz.func9 (by kernel_rfl) rfl #[.string x.f0] (by rfl) rfl rfl (by simp only [List.map_toArray, List.map_cons, List.map_nil]; rfl) ?_
        with_reducible refine (HCN.out _).mono ?_
        rintro e w1 ⟨rfl, hb1⟩
        refine ⟨_, rfl, ?_⟩
        refine hK.out _ _ (hHeld.trans (hb1.mono hHeld.size)) (fun hHeld => ?_)
        clear hK K
        refine norm_ (a' := ?_) ?_ ?_
        rotate_left
        · show Act.put _ (some 14) _ = _
          simp only [Act.put, List.setIfInBounds_toArray, List.set_cons_zero, List.set_cons_succ, i64_w, i32_w]
          rfl
        refine pure_ (i := 3) (N := some 15) (v := ?_) (a' := ?_) #[true, true, true, true, false, false, false, false, false, false, false, false, false, false, false, false, false, false, false, false, false, false, false, false, false] rfl rfl (by kernel_rfl) (fun _ _ _ h => h) (Or.inl ⟨by rfl, ?_⟩) ?_ ?_
        rotate_left
        · intro w'
          go_simp
          with_reducible rfl
        rotate_left
        · simp only [Act.put, List.setIfInBounds_toArray, List.set_cons_zero, List.set_cons_succ, i64_w, i32_w]
          rfl
        refine pure_ (i := 4) (N := some 16) (v := ?_) (a' := ?_) #[true, true, true, true, true, false, false, false, false, false, false, false, false, false, false, false, false, false, false, false, false, false, false, false, false] rfl rfl (by kernel_rfl) (fun _ _ _ h => h) (Or.inl ⟨by rfl, ?_⟩) ?_ ?_
        rotate_left
        · intro w'
          go_simp
          with_reducible rfl
        rotate_left
        · simp only [Act.put, List.setIfInBounds_toArray, List.set_cons_zero, List.set_cons_succ, i64_w, i32_w]
          rfl
        refine pure_ (i := 5) (N := some 17) (v := undef) (a' := ?_) #[true, true, true, true, true, true, false, false, false, false, false, false, false, false, false, false, false, false, false, false, false, false, false, false, false] rfl rfl (by kernel_rfl) (fun _ _ _ h => h) (Or.inr ⟨by rfl, rfl⟩) ?_ ?_
        rotate_left
        · simp only [Act.put, List.setIfInBounds_toArray, List.set_cons_zero, List.set_cons_succ, i64_w, i32_w]
          rfl
        refine pure_ (i := 6) (N := some 18) (v := undef) (a' := ?_) #[true, true, true, true, true, true, true, false, false, false, false, false, false, false, false, false, false, false, false, false, false, false, false, false, false] rfl rfl (by kernel_rfl) (fun _ _ _ h => h) (Or.inr ⟨by rfl, rfl⟩) ?_ ?_
        rotate_left
        · simp only [Act.put, List.setIfInBounds_toArray, List.set_cons_zero, List.set_cons_succ, i64_w, i32_w]
          rfl
        refine pure_ (i := 7) (N := some 19) (v := undef) (a' := ?_) #[true, true, true, true, true, true, true, true, false, false, false, false, false, false, false, false, false, false, false, false, false, false, false, false, false] rfl rfl (by kernel_rfl) (fun _ _ _ h => h) (Or.inr ⟨by rfl, rfl⟩) ?_ ?_
        rotate_left
        · simp only [Act.put, List.setIfInBounds_toArray, List.set_cons_zero, List.set_cons_succ, i64_w, i32_w]
          rfl
        refine pure_ (i := 8) (N := some 20) (v := undef) (a' := ?_) #[true, true, true, true, true, true, true, true, true, false, false, false, false, false, false, false, false, false, false, false, false, false, false, false, false] rfl rfl (by kernel_rfl) (fun _ _ _ h => h) (Or.inr ⟨by rfl, rfl⟩) ?_ ?_
        rotate_left
        · simp only [Act.put, List.setIfInBounds_toArray, List.set_cons_zero, List.set_cons_succ, i64_w, i32_w]
          rfl
        refine pure_ (i := 9) (N := some 21) (v := ?_) (a' := ?_) #[true, true, true, true, true, true, true, true, true, true, false, false, false, false, false, false, false, false, false, false, false, false, false, false, false] rfl rfl (by kernel_rfl) (fun _ _ _ h => h) (Or.inl ⟨by rfl, ?_⟩) ?_ ?_
        rotate_left
        · intro w'
          go_simp
          with_reducible rfl
        rotate_left
        · simp only [Act.put, List.setIfInBounds_toArray, List.set_cons_zero, List.set_cons_succ, i64_w, i32_w]
          rfl
        refine pure_ (i := 10) (N := some 22) (v := ?_) (a' := ?_) #[true, true, true, true, true, true, true, true, true, true, true, false, false, false, false, false, false, false, false, false, false, false, false, false, false] rfl rfl (by kernel_rfl) (fun _ _ _ h => h) (Or.inl ⟨by rfl, ?_⟩) ?_ ?_
        rotate_left
        · intro w'
          go_simp
          with_reducible rfl
        rotate_left
        · simp only [Act.put, List.setIfInBounds_toArray, List.set_cons_zero, List.set_cons_succ, i64_w, i32_w]
          rfl
        refine pure_ (i := 11) (N := some 23) (v := undef) (a' := ?_) #[true, true, true, true, true, true, true, true, true, true, true, true, false, false, false, false, false, false, false, false, false, false, false, false, false] rfl rfl (by kernel_rfl) (fun _ _ _ h => h) (Or.inr ⟨by rfl, rfl⟩) ?_ ?_
        rotate_left
        · simp only [Act.put, List.setIfInBounds_toArray, List.set_cons_zero, List.set_cons_succ, i64_w, i32_w]
          rfl
        refine pure_ (i := 12) (N := some 24) (v := undef) (a' := ?_) #[true, true, true, true, true, true, true, true, true, true, true, true, true, false, false, false, false, false, false, false, false, false, false, false, false] rfl rfl (by kernel_rfl) (fun _ _ _ h => h) (Or.inr ⟨by rfl, rfl⟩) ?_ ?_
        rotate_left
        · simp only [Act.put, List.setIfInBounds_toArray, List.set_cons_zero, List.set_cons_succ, i64_w, i32_w]
          rfl
        refine pure_ (i := 13) (N := some 25) (v := undef) (a' := ?_) #[true, true, true, true, true, true, true, true, true, true, true, true, true, true, false, false, false, false, false, false, false, false, false, false, false] rfl rfl (by kernel_rfl) (fun _ _ _ h => h) (Or.inr ⟨by rfl, rfl⟩) ?_ ?_
        rotate_left
        · simp only [Act.put, List.setIfInBounds_toArray, List.set_cons_zero, List.set_cons_succ, i64_w, i32_w]
          rfl
        refine pure_ (i := 14) (N := some 26) (v := undef) (a' := ?_) #[true, true, true, true, true, true, true, true, true, true, true, true, true, true, true, false, false, false, false, false, false, false, false, false, false] rfl rfl (by kernel_rfl) (fun _ _ _ h => h) (Or.inr ⟨by rfl, rfl⟩) ?_ ?_
        rotate_left
        · simp only [Act.put, List.setIfInBounds_toArray, List.set_cons_zero, List.set_cons_succ, i64_w, i32_w]
          rfl
        refine pure_ (i := 15) (N := some 27) (v := undef) (a' := ?_) #[true, true, true, true, true, true, true, true, true, true, true, true, true, true, true, true, false, false, false, false, false, false, false, false, false] rfl rfl (by kernel_rfl) (fun _ _ _ h => h) (Or.inr ⟨by rfl, rfl⟩) ?_ ?_
        rotate_left
        · simp only [Act.put, List.setIfInBounds_toArray, List.set_cons_zero, List.set_cons_succ, i64_w, i32_w]
          rfl
        refine pure_ (i := 16) (N := some 28) (v := undef) (a' := ?_) #[true, true, true, true, true, true, true, true, true, true, true, true, true, true, true, true, true, false, false, false, false, false, false, false, false] rfl rfl (by kernel_rfl) (fun _ _ _ h => h) (Or.inr ⟨by rfl, rfl⟩) ?_ ?_
        rotate_left
        · simp only [Act.put, List.setIfInBounds_toArray, List.set_cons_zero, List.set_cons_succ, i64_w, i32_w]
          rfl
        refine pure_ (i := 17) (N := some 29) (v := undef) (a' := ?_) #[true, true, true, true, true, true, true, true, true, true, true, true, true, true, true, true, true, true, false, false, false, false, false, false, false] rfl rfl (by kernel_rfl) (fun _ _ _ h => h) (Or.inr ⟨by rfl, rfl⟩) ?_ ?_
        rotate_left
        · simp only [Act.put, List.setIfInBounds_toArray, List.set_cons_zero, List.set_cons_succ, i64_w, i32_w]
          rfl
        refine pure_ (i := 18) (N := some 30) (v := undef) (a' := ?_) #[true, true, true, true, true, true, true, true, true, true, true, true, true, true, true, true, true, true, true, false, false, false, false, false, false] rfl rfl (by kernel_rfl) (fun _ _ _ h => h) (Or.inr ⟨by rfl, rfl⟩) ?_ ?_
        rotate_left
        · simp only [Act.put, List.setIfInBounds_toArray, List.set_cons_zero, List.set_cons_succ, i64_w, i32_w]
          rfl
        refine pure_ (i := 19) (N := some 31) (v := undef) (a' := ?_) #[true, true, true, true, true, true, true, true, true, true, true, true, true, true, true, true, true, true, true, true, false, false, false, false, false] rfl rfl (by kernel_rfl) (fun _ _ _ h => h) (Or.inr ⟨by rfl, rfl⟩) ?_ ?_
        rotate_left
        · simp only [Act.put, List.setIfInBounds_toArray, List.set_cons_zero, List.set_cons_succ, i64_w, i32_w]
          rfl
        refine pure_ (i := 20) (N := some 32) (v := undef) (a' := ?_) #[true, true, true, true, true, true, true, true, true, true, true, true, true, true, true, true, true, true, true, true, true, false, false, false, false] rfl rfl (by kernel_rfl) (fun _ _ _ h => h) (Or.inr ⟨by rfl, rfl⟩) ?_ ?_
        rotate_left
        · simp only [Act.put, List.setIfInBounds_toArray, List.set_cons_zero, List.set_cons_succ, i64_w, i32_w]
          rfl
        refine pure_ (i := 21) (N := some 33) (v := undef) (a' := ?_) #[true, true, true, true, true, true, true, true, true, true, true, true, true, true, true, true, true, true, true, true, true, true, false, false, false] rfl rfl (by kernel_rfl) (fun _ _ _ h => h) (Or.inr ⟨by rfl, rfl⟩) ?_ ?_
        rotate_left
        · simp only [Act.put, List.setIfInBounds_toArray, List.set_cons_zero, List.set_cons_succ, i64_w, i32_w]
          rfl
        refine pure_ (i := 22) (N := some 34) (v := undef) (a' := ?_) #[true, true, true, true, true, true, true, true, true, true, true, true, true, true, true, true, true, true, true, true, true, true, true, false, false] rfl rfl (by kernel_rfl) (fun _ _ _ h => h) (Or.inr ⟨by rfl, rfl⟩) ?_ ?_
        rotate_left
        · simp only [Act.put, List.setIfInBounds_toArray, List.set_cons_zero, List.set_cons_succ, i64_w, i32_w]
          rfl
        refine pure_ (i := 23) (N := some 35) (v := undef) (a' := ?_) #[true, true, true, true, true, true, true, true, true, true, true, true, true, true, true, true, true, true, true, true, true, true, true, true, false] rfl rfl (by kernel_rfl) (fun _ _ _ h => h) (Or.inr ⟨by rfl, rfl⟩) ?_ ?_
        rotate_left
        · simp only [Act.put, List.setIfInBounds_toArray, List.set_cons_zero, List.set_cons_succ, i64_w, i32_w]
          rfl
        refine pure_ (i := 24) (N := some 36) (v := ?_) (a' := ?_) #[true, true, true, true, true, true, true, true, true, true, true, true, true, true, true, true, true, true, true, true, true, true, true, true, true] rfl rfl (by kernel_rfl) (fun _ _ _ h => h) (Or.inl ⟨by rfl, ?_⟩) ?_ ?_
        rotate_left
        · intro w'
          go_simp
          with_reducible rfl
        rotate_left
        · simp only [Act.put, List.setIfInBounds_toArray, List.set_cons_zero, List.set_cons_succ, i64_w, i32_w]
          rfl
        refine done_ (by kernel_rfl) ?_
        go_wp2_with (fail)
        go_ret
        exact ⟨by rw [rightB_false HX.out (by rw [okAt, hnb]; rfl)]; rfl, HBb.out.trans (hHeld.mono HBb.out.size)⟩
      · rw [hnb] at HCN
        rcases hdb : nmB x.f1 with _ | _
        · rw [hdb] at HCD
          refine start_ (n := 25) (S := fun w' => Below wb.heap.size wb w') (ds := []) #[false, false, false, false, false, false, false, false, false, false, false, false, false, false, false, false, false, false, false, false, false, false, false, false, false] (by kernel_rfl) rfl rfl (below_drew (Below.refl _ _)) (fun hHeld => ?_)
          refine pure_ (i := 0) (N := some 12) (v := ?_) (a' := ?_) #[true, false, false, false, false, false, false, false, false, false, false, false, false, false, false, false, false, false, false, false, false, false, false, false, false] rfl rfl (by kernel_rfl) (fun _ _ _ h => h) (Or.inl ⟨by rfl, ?_⟩) ?_ ?_
          rotate_left
          · intro w'
            go_simp
            with_reducible rfl
          rotate_left
          · simp only [Act.put, List.setIfInBounds_toArray, List.set_cons_zero, List.set_cons_succ, i64_w, i32_w]
            rfl
          refine take_ (i := 1) (N := some 13) (v := ?_) (a' := ?_) #[true, true, false, false, false, false, false, false, false, false, false, false, false, false, false, false, false, false, false, false, false, false, false, false, false] rfl rfl (by kernel_rfl) (fun _ _ _ h => h) (Or.inl ⟨by rfl, ?_⟩) hHeld ?_ ?_
          rotate_left
          · intro w' s0
            have hc := pw_cell_below s0 hbx0
            go_simp
            with_reducible rfl
          rotate_left
          · simp only [Act.put, List.setIfInBounds_toArray, List.set_cons_zero, List.set_cons_succ, i64_w, i32_w]
            rfl
          refine one_ (i := 2) (N := some 14) #[true, true, true, false, false, false, false, false, false, false, false, false, false, false, false, false, false, false, false, false, false, false, false, false, false] rfl rfl (by kernel_rfl) (by decide) (fun K hK => ?_)
          refine goes_ Tryz.func9 (by kernel_rfl) rfl #[.string x.f0] (by rfl) rfl rfl (by simp only [List.map_toArray, List.map_cons, List.map_nil]; rfl) ?_
          with_reducible refine (HCN.out _).mono ?_
          rintro e w1 ⟨rfl, hb1⟩
          refine ⟨_, rfl, ?_⟩
          refine hK.out _ _ (hHeld.trans (hb1.mono hHeld.size)) (fun hHeld => ?_)
          clear hK K
          refine norm_ (a' := ?_) ?_ ?_
          rotate_left
          · show Act.put _ (some 14) _ = _
            simp only [Act.put, List.setIfInBounds_toArray, List.set_cons_zero, List.set_cons_succ, i64_w, i32_w]
            rfl
          refine pure_ (i := 3) (N := some 15) (v := ?_) (a' := ?_) #[true, true, true, true, false, false, false, false, false, false, false, false, false, false, false, false, false, false, false, false, false, false, false, false, false] rfl rfl (by kernel_rfl) (fun _ _ _ h => h) (Or.inl ⟨by rfl, ?_⟩) ?_ ?_
          rotate_left
          · intro w'
            go_simp
            with_reducible rfl
          rotate_left
          · simp only [Act.put, List.setIfInBounds_toArray, List.set_cons_zero, List.set_cons_succ, i64_w, i32_w]
            rfl
          refine pure_ (i := 4) (N := some 16) (v := ?_) (a' := ?_) #[true, true, true, true, true, false, false, false, false, false, false, false, false, false, false, false, false, false, false, false, false, false, false, false, false] rfl rfl (by kernel_rfl) (fun _ _ _ h => h) (Or.inl ⟨by rfl, ?_⟩) ?_ ?_
          rotate_left
          · intro w'
            go_simp
            with_reducible rfl
          rotate_left
          · simp only [Act.put, List.setIfInBounds_toArray, List.set_cons_zero, List.set_cons_succ, i64_w, i32_w]
            rfl
          refine pure_ (i := 5) (N := some 17) (v := ?_) (a' := ?_) #[true, true, true, true, true, true, false, false, false, false, false, false, false, false, false, false, false, false, false, false, false, false, false, false, false] rfl rfl (by kernel_rfl) (fun _ _ _ h => h) (Or.inl ⟨by rfl, ?_⟩) ?_ ?_
          rotate_left
          · intro w'
            go_simp
            with_reducible rfl
          rotate_left
          · simp only [Act.put, List.setIfInBounds_toArray, List.set_cons_zero, List.set_cons_succ, i64_w, i32_w]
            rfl
          refine take_ (i := 6) (N := some 18) (v := ?_) (a' := ?_) #[true, true, true, true, true, true, true, false, false, false, false, false, false, false, false, false, false, false, false, false, false, false, false, false, false] rfl rfl (by kernel_rfl) (fun _ _ _ h => h) (Or.inl ⟨by rfl, ?_⟩) hHeld ?_ ?_
          rotate_left
          · intro w' s0
            have hc := pw_cell_below s0 hbx1
            go_simp
            with_reducible rfl
          rotate_left
          · simp only [Act.put, List.setIfInBounds_toArray, List.set_cons_zero, List.set_cons_succ, i64_w, i32_w]
            rfl
          refine one_ (i := 7) (N := some 19) #[true, true, true, true, true, true, true, true, false, false, false, false, false, false, false, false, false, false, false, false, false, false, false, false, false] rfl rfl (by kernel_rfl) (by decide) (fun K hK => ?_)
          refine goes_ Tryz.func38 (by kernel_rfl) rfl #[.string x.f1] (by rfl) rfl rfl (by simp only [List.map_toArray, List.map_cons, List.map_nil]; rfl) ?_
          with_reducible refine (HCD.out _).mono ?_
          rintro e w2 ⟨rfl, hb2⟩
          refine ⟨_, rfl, ?_⟩
          refine hK.out _ _ (hHeld.trans (hb2.mono hHeld.size)) (fun hHeld => ?_)
          clear hK K
          refine norm_ (a' := ?_) ?_ ?_
          rotate_left
          · show Act.put _ (some 19) _ = _
            simp only [Act.put, List.setIfInBounds_toArray, List.set_cons_zero, List.set_cons_succ, i64_w, i32_w]
            rfl
          refine pure_ (i := 8) (N := some 20) (v := ?_) (a' := ?_) #[true, true, true, true, true, true, true, true, true, false, false, false, false, false, false, false, false, false, false, false, false, false, false, false, false] rfl rfl (by kernel_rfl) (fun _ _ _ h => h) (Or.inl ⟨by rfl, ?_⟩) ?_ ?_
          rotate_left
          · intro w'
            go_simp
            with_reducible rfl
          rotate_left
          · simp only [Act.put, List.setIfInBounds_toArray, List.set_cons_zero, List.set_cons_succ, i64_w, i32_w]
            rfl
          refine pure_ (i := 9) (N := some 21) (v := ?_) (a' := ?_) #[true, true, true, true, true, true, true, true, true, true, false, false, false, false, false, false, false, false, false, false, false, false, false, false, false] rfl rfl (by kernel_rfl) (fun _ _ _ h => h) (Or.inl ⟨by rfl, ?_⟩) ?_ ?_
          rotate_left
          · intro w'
            go_simp
            with_reducible rfl
          rotate_left
          · simp only [Act.put, List.setIfInBounds_toArray, List.set_cons_zero, List.set_cons_succ, i64_w, i32_w]
            rfl
          refine pure_ (i := 10) (N := some 22) (v := ?_) (a' := ?_) #[true, true, true, true, true, true, true, true, true, true, true, false, false, false, false, false, false, false, false, false, false, false, false, false, false] rfl rfl (by kernel_rfl) (fun _ _ _ h => h) (Or.inl ⟨by rfl, ?_⟩) ?_ ?_
          rotate_left
          · intro w'
            go_simp
            with_reducible rfl
          rotate_left
          · simp only [Act.put, List.setIfInBounds_toArray, List.set_cons_zero, List.set_cons_succ, i64_w, i32_w]
            rfl
          refine pure_ (i := 11) (N := some 23) (v := undef) (a' := ?_) #[true, true, true, true, true, true, true, true, true, true, true, true, false, false, false, false, false, false, false, false, false, false, false, false, false] rfl rfl (by kernel_rfl) (fun _ _ _ h => h) (Or.inr ⟨by rfl, rfl⟩) ?_ ?_
          rotate_left
          · simp only [Act.put, List.setIfInBounds_toArray, List.set_cons_zero, List.set_cons_succ, i64_w, i32_w]
            rfl
          refine pure_ (i := 12) (N := some 24) (v := undef) (a' := ?_) #[true, true, true, true, true, true, true, true, true, true, true, true, true, false, false, false, false, false, false, false, false, false, false, false, false] rfl rfl (by kernel_rfl) (fun _ _ _ h => h) (Or.inr ⟨by rfl, rfl⟩) ?_ ?_
          rotate_left
          · simp only [Act.put, List.setIfInBounds_toArray, List.set_cons_zero, List.set_cons_succ, i64_w, i32_w]
            rfl
          refine pure_ (i := 13) (N := some 25) (v := undef) (a' := ?_) #[true, true, true, true, true, true, true, true, true, true, true, true, true, true, false, false, false, false, false, false, false, false, false, false, false] rfl rfl (by kernel_rfl) (fun _ _ _ h => h) (Or.inr ⟨by rfl, rfl⟩) ?_ ?_
          rotate_left
          · simp only [Act.put, List.setIfInBounds_toArray, List.set_cons_zero, List.set_cons_succ, i64_w, i32_w]
            rfl
          refine pure_ (i := 14) (N := some 26) (v := undef) (a' := ?_) #[true, true, true, true, true, true, true, true, true, true, true, true, true, true, true, false, false, false, false, false, false, false, false, false, false] rfl rfl (by kernel_rfl) (fun _ _ _ h => h) (Or.inr ⟨by rfl, rfl⟩) ?_ ?_
          rotate_left
          · simp only [Act.put, List.setIfInBounds_toArray, List.set_cons_zero, List.set_cons_succ, i64_w, i32_w]
            rfl
          refine pure_ (i := 15) (N := some 27) (v := undef) (a' := ?_) #[true, true, true, true, true, true, true, true, true, true, true, true, true, true, true, true, false, false, false, false, false, false, false, false, false] rfl rfl (by kernel_rfl) (fun _ _ _ h => h) (Or.inr ⟨by rfl, rfl⟩) ?_ ?_
          rotate_left
          · simp only [Act.put, List.setIfInBounds_toArray, List.set_cons_zero, List.set_cons_succ, i64_w, i32_w]
            rfl
          refine pure_ (i := 16) (N := some 28) (v := undef) (a' := ?_) #[true, true, true, true, true, true, true, true, true, true, true, true, true, true, true, true, true, false, false, false, false, false, false, false, false] rfl rfl (by kernel_rfl) (fun _ _ _ h => h) (Or.inr ⟨by rfl, rfl⟩) ?_ ?_
          rotate_left
          · simp only [Act.put, List.setIfInBounds_toArray, List.set_cons_zero, List.set_cons_succ, i64_w, i32_w]
            rfl
          refine pure_ (i := 17) (N := some 29) (v := undef) (a' := ?_) #[true, true, true, true, true, true, true, true, true, true, true, true, true, true, true, true, true, true, false, false, false, false, false, false, false] rfl rfl (by kernel_rfl) (fun _ _ _ h => h) (Or.inr ⟨by rfl, rfl⟩) ?_ ?_
          rotate_left
          · simp only [Act.put, List.setIfInBounds_toArray, List.set_cons_zero, List.set_cons_succ, i64_w, i32_w]
            rfl
          refine pure_ (i := 18) (N := some 30) (v := undef) (a' := ?_) #[true, true, true, true, true, true, true, true, true, true, true, true, true, true, true, true, true, true, true, false, false, false, false, false, false] rfl rfl (by kernel_rfl) (fun _ _ _ h => h) (Or.inr ⟨by rfl, rfl⟩) ?_ ?_
          rotate_left
          · simp only [Act.put, List.setIfInBounds_toArray, List.set_cons_zero, List.set_cons_succ, i64_w, i32_w]
            rfl
          refine pure_ (i := 19) (N := some 31) (v := undef) (a' := ?_) #[true, true, true, true, true, true, true, true, true, true, true, true, true, true, true, true, true, true, true, true, false, false, false, false, false] rfl rfl (by kernel_rfl) (fun _ _ _ h => h) (Or.inr ⟨by rfl, rfl⟩) ?_ ?_
          rotate_left
          · simp only [Act.put, List.setIfInBounds_toArray, List.set_cons_zero, List.set_cons_succ, i64_w, i32_w]
            rfl
          refine pure_ (i := 20) (N := some 32) (v := undef) (a' := ?_) #[true, true, true, true, true, true, true, true, true, true, true, true, true, true, true, true, true, true, true, true, true, false, false, false, false] rfl rfl (by kernel_rfl) (fun _ _ _ h => h) (Or.inr ⟨by rfl, rfl⟩) ?_ ?_
          rotate_left
          · simp only [Act.put, List.setIfInBounds_toArray, List.set_cons_zero, List.set_cons_succ, i64_w, i32_w]
            rfl
          refine pure_ (i := 21) (N := some 33) (v := undef) (a' := ?_) #[true, true, true, true, true, true, true, true, true, true, true, true, true, true, true, true, true, true, true, true, true, true, false, false, false] rfl rfl (by kernel_rfl) (fun _ _ _ h => h) (Or.inr ⟨by rfl, rfl⟩) ?_ ?_
          rotate_left
          · simp only [Act.put, List.setIfInBounds_toArray, List.set_cons_zero, List.set_cons_succ, i64_w, i32_w]
            rfl
          refine pure_ (i := 22) (N := some 34) (v := undef) (a' := ?_) #[true, true, true, true, true, true, true, true, true, true, true, true, true, true, true, true, true, true, true, true, true, true, true, false, false] rfl rfl (by kernel_rfl) (fun _ _ _ h => h) (Or.inr ⟨by rfl, rfl⟩) ?_ ?_
          rotate_left
          · simp only [Act.put, List.setIfInBounds_toArray, List.set_cons_zero, List.set_cons_succ, i64_w, i32_w]
            rfl
          refine pure_ (i := 23) (N := some 35) (v := undef) (a' := ?_) #[true, true, true, true, true, true, true, true, true, true, true, true, true, true, true, true, true, true, true, true, true, true, true, true, false] rfl rfl (by kernel_rfl) (fun _ _ _ h => h) (Or.inr ⟨by rfl, rfl⟩) ?_ ?_
          rotate_left
          · simp only [Act.put, List.setIfInBounds_toArray, List.set_cons_zero, List.set_cons_succ, i64_w, i32_w]
            rfl
          refine pure_ (i := 24) (N := some 36) (v := ?_) (a' := ?_) #[true, true, true, true, true, true, true, true, true, true, true, true, true, true, true, true, true, true, true, true, true, true, true, true, true] rfl rfl (by kernel_rfl) (fun _ _ _ h => h) (Or.inl ⟨by rfl, ?_⟩) ?_ ?_
          rotate_left
          · intro w'
            go_simp
            with_reducible rfl
          rotate_left
          · simp only [Act.put, List.setIfInBounds_toArray, List.set_cons_zero, List.set_cons_succ, i64_w, i32_w]
            rfl
          refine done_ (by kernel_rfl) ?_
          go_wp2_with (fail)
          go_ret
          exact ⟨by rw [rightB_false HX.out (by rw [okAt, hnb, hdb]; rfl)]; rfl, HBb.out.trans (hHeld.mono HBb.out.size)⟩
        · rw [hdb] at HCD
          have HAS : As (∀ W : World, Below wb.heap.size wb W → Calls Tryz.prog 26 #[.slice (some ad) n c, .func (.func 39) #[] #[.pointer (some ⟨wr.heap.size, 0, none⟩)]] W fun e w' => e = .returned (.bool (l.any (fun y => aboveB y.f0 x.f0))) ∧ Below W.heap.size W w') := ⟨fun W hW => by
            refine hasRef1 (some ad) c n l 39 (.pointer (some ⟨wr.heap.size, 0, none⟩)) (fun y => aboveB y.f0 x.f0) W (Kd.C_below HC.out (HBb.out.trans (hW.mono HBb.out.size))) HN.out hc (enters_of Tryz.func39 (by kernel_rfl) rfl) (fun W2 y hW2 hy => right1 x y _ HZ.out.1 (HSH.out y hy).1 W2 ?_)
            have := pw_cell_below (hW.trans (hW2.mono hW.size)) hbx0
            simpa [Addr.add] using this⟩
          obtain ⟨i1, hi1⟩ : ∃ i1, i1 = i + 1 := ⟨_, rfl⟩
          by_cases hi0 : i = 0
          · subst hi0
            have HORD : As ((0 == 0 || decide (L ((l[0 - 1]?.getD noRef).f0) < L x.f0)) = true) := ⟨rfl⟩
            refine start_ (n := 25) (S := fun w' => Below wb.heap.size wb w') (ds := []) #[false, false, false, false, false, false, false, false, false, false, false, false, false, false, false, false, false, false, false, false, false, false, false, false, false] (by kernel_rfl) rfl rfl (below_drew (Below.refl _ _)) (fun hHeld => ?_)
            refine pure_ (i := 0) (N := some 12) (v := ?_) (a' := ?_) #[true, false, false, false, false, false, false, false, false, false, false, false, false, false, false, false, false, false, false, false, false, false, false, false, false] rfl rfl (by kernel_rfl) (fun _ _ _ h => h) (Or.inl ⟨by rfl, ?_⟩) ?_ ?_
            rotate_left
            · intro w'
              go_simp
              with_reducible rfl
            rotate_left
            · simp only [Act.put, List.setIfInBounds_toArray, List.set_cons_zero, List.set_cons_succ, i64_w, i32_w]
              rfl
            refine take_ (i := 1) (N := some 13) (v := ?_) (a' := ?_) #[true, true, false, false, false, false, false, false, false, false, false, false, false, false, false, false, false, false, false, false, false, false, false, false, false] rfl rfl (by kernel_rfl) (fun _ _ _ h => h) (Or.inl ⟨by rfl, ?_⟩) hHeld ?_ ?_
            rotate_left
            · intro w' s0
              have hc := pw_cell_below s0 hbx0
              go_simp
              with_reducible rfl
            rotate_left
            · simp only [Act.put, List.setIfInBounds_toArray, List.set_cons_zero, List.set_cons_succ, i64_w, i32_w]
              rfl
            refine one_ (i := 2) (N := some 14) #[true, true, true, false, false, false, false, false, false, false, false, false, false, false, false, false, false, false, false, false, false, false, false, false, false] rfl rfl (by kernel_rfl) (by decide) (fun K hK => ?_)
            refine goes_ Tryz.func9 (by kernel_rfl) rfl #[.string x.f0] (by rfl) rfl rfl (by simp only [List.map_toArray, List.map_cons, List.map_nil]; rfl) ?_
            with_reducible refine (HCN.out _).mono ?_
            rintro e w1 ⟨rfl, hb1⟩
            refine ⟨_, rfl, ?_⟩
            refine hK.out _ _ (hHeld.trans (hb1.mono hHeld.size)) (fun hHeld => ?_)
            clear hK K
            refine norm_ (a' := ?_) ?_ ?_
            rotate_left
            · show Act.put _ (some 14) _ = _
              simp only [Act.put, List.setIfInBounds_toArray, List.set_cons_zero, List.set_cons_succ, i64_w, i32_w]
              rfl
            refine pure_ (i := 3) (N := some 15) (v := ?_) (a' := ?_) #[true, true, true, true, false, false, false, false, false, false, false, false, false, false, false, false, false, false, false, false, false, false, false, false, false] rfl rfl (by kernel_rfl) (fun _ _ _ h => h) (Or.inl ⟨by rfl, ?_⟩) ?_ ?_
            rotate_left
            · intro w'
              go_simp
              with_reducible rfl
            rotate_left
            · simp only [Act.put, List.setIfInBounds_toArray, List.set_cons_zero, List.set_cons_succ, i64_w, i32_w]
              rfl
            refine pure_ (i := 4) (N := some 16) (v := ?_) (a' := ?_) #[true, true, true, true, true, false, false, false, false, false, false, false, false, false, false, false, false, false, false, false, false, false, false, false, false] rfl rfl (by kernel_rfl) (fun _ _ _ h => h) (Or.inl ⟨by rfl, ?_⟩) ?_ ?_
            rotate_left
            · intro w'
              go_simp
              with_reducible rfl
            rotate_left
            · simp only [Act.put, List.setIfInBounds_toArray, List.set_cons_zero, List.set_cons_succ, i64_w, i32_w]
              rfl
            refine pure_ (i := 5) (N := some 17) (v := ?_) (a' := ?_) #[true, true, true, true, true, true, false, false, false, false, false, false, false, false, false, false, false, false, false, false, false, false, false, false, false] rfl rfl (by kernel_rfl) (fun _ _ _ h => h) (Or.inl ⟨by rfl, ?_⟩) ?_ ?_
            rotate_left
            · intro w'
              go_simp
              with_reducible rfl
            rotate_left
            · simp only [Act.put, List.setIfInBounds_toArray, List.set_cons_zero, List.set_cons_succ, i64_w, i32_w]
              rfl
            refine take_ (i := 6) (N := some 18) (v := ?_) (a' := ?_) #[true, true, true, true, true, true, true, false, false, false, false, false, false, false, false, false, false, false, false, false, false, false, false, false, false] rfl rfl (by kernel_rfl) (fun _ _ _ h => h) (Or.inl ⟨by rfl, ?_⟩) hHeld ?_ ?_
            rotate_left
            · intro w' s0
              have hc := pw_cell_below s0 hbx1
              go_simp
              with_reducible rfl
            rotate_left
            · simp only [Act.put, List.setIfInBounds_toArray, List.set_cons_zero, List.set_cons_succ, i64_w, i32_w]
              rfl
            refine one_ (i := 7) (N := some 19) #[true, true, true, true, true, true, true, true, false, false, false, false, false, false, false, false, false, false, false, false, false, false, false, false, false] rfl rfl (by kernel_rfl) (by decide) (fun K hK => ?_)
            refine goes_ Tryz.func38 (by kernel_rfl) rfl #[.string x.f1] (by rfl) rfl rfl (by simp only [List.map_toArray, List.map_cons, List.map_nil]; rfl) ?_
            with_reducible refine (HCD.out _).mono ?_
            rintro e w2 ⟨rfl, hb2⟩
            refine ⟨_, rfl, ?_⟩
            refine hK.out _ _ (hHeld.trans (hb2.mono hHeld.size)) (fun hHeld => ?_)
            clear hK K
            refine norm_ (a' := ?_) ?_ ?_
            rotate_left
            · show Act.put _ (some 19) _ = _
              simp only [Act.put, List.setIfInBounds_toArray, List.set_cons_zero, List.set_cons_succ, i64_w, i32_w]
              rfl
            refine pure_ (i := 8) (N := some 20) (v := ?_) (a' := ?_) #[true, true, true, true, true, true, true, true, true, false, false, false, false, false, false, false, false, false, false, false, false, false, false, false, false] rfl rfl (by kernel_rfl) (fun _ _ _ h => h) (Or.inl ⟨by rfl, ?_⟩) ?_ ?_
            rotate_left
            · intro w'
              go_simp
              with_reducible rfl
            rotate_left
            · simp only [Act.put, List.setIfInBounds_toArray, List.set_cons_zero, List.set_cons_succ, i64_w, i32_w]
              rfl
            refine pure_ (i := 9) (N := some 21) (v := ?_) (a' := ?_) #[true, true, true, true, true, true, true, true, true, true, false, false, false, false, false, false, false, false, false, false, false, false, false, false, false] rfl rfl (by kernel_rfl) (fun _ _ _ h => h) (Or.inl ⟨by rfl, ?_⟩) ?_ ?_
            rotate_left
            · intro w'
              go_simp
              with_reducible rfl
            rotate_left
            · simp only [Act.put, List.setIfInBounds_toArray, List.set_cons_zero, List.set_cons_succ, i64_w, i32_w]
              rfl
            refine pure_ (i := 10) (N := some 22) (v := ?_) (a' := ?_) #[true, true, true, true, true, true, true, true, true, true, true, false, false, false, false, false, false, false, false, false, false, false, false, false, false] rfl rfl (by kernel_rfl) (fun _ _ _ h => h) (Or.inl ⟨by rfl, ?_⟩) ?_ ?_
            rotate_left
            · intro w'
              go_simp
              with_reducible rfl
            rotate_left
            · simp only [Act.put, List.setIfInBounds_toArray, List.set_cons_zero, List.set_cons_succ, i64_w, i32_w]
              rfl
            refine pure_ (i := 11) (N := some 23) (v := ?_) (a' := ?_) #[true, true, true, true, true, true, true, true, true, true, true, true, false, false, false, false, false, false, false, false, false, false, false, false, false] rfl rfl (by kernel_rfl) (fun _ _ _ h => h) (Or.inl ⟨by rfl, ?_⟩) ?_ ?_
            rotate_left
            · intro w'
              go_simp
              with_reducible rfl
            rotate_left
            · simp only [Act.put, List.setIfInBounds_toArray, List.set_cons_zero, List.set_cons_succ, i64_w, i32_w]
              rfl
            refine pure_ (i := 12) (N := some 24) (v := ?_) (a' := ?_) #[true, true, true, true, true, true, true, true, true, true, true, true, true, false, false, false, false, false, false, false, false, false, false, false, false] rfl rfl (by kernel_rfl) (fun _ _ _ h => h) (Or.inl ⟨by rfl, ?_⟩) ?_ ?_
            rotate_left
            · intro w'
              go_simp
              with_reducible rfl
            rotate_left
            · simp only [Act.put, List.setIfInBounds_toArray, List.set_cons_zero, List.set_cons_succ, i64_w, i32_w]
              rfl
            refine pure_ (i := 13) (N := some 25) (v := ?_) (a' := ?_) #[true, true, true, true, true, true, true, true, true, true, true, true, true, true, false, false, false, false, false, false, false, false, false, false, false] rfl rfl (by kernel_rfl) (fun _ _ _ h => h) (Or.inl ⟨by rfl, ?_⟩) ?_ ?_
            rotate_left
            · intro w'
              go_simp
              with_reducible rfl
            rotate_left
            · simp only [Act.put, List.setIfInBounds_toArray, List.set_cons_zero, List.set_cons_succ, i64_w, i32_w]
              rfl
            refine pure_ (i := 14) (N := some 26) (v := undef) (a' := ?_) #[true, true, true, true, true, true, true, true, true, true, true, true, true, true, true, false, false, false, false, false, false, false, false, false, false] rfl rfl (by kernel_rfl) (fun _ _ _ h => h) (Or.inr ⟨by rfl, rfl⟩) ?_ ?_
            rotate_left
            · simp only [Act.put, List.setIfInBounds_toArray, List.set_cons_zero, List.set_cons_succ, i64_w, i32_w]
              rfl
            refine pure_ (i := 15) (N := some 27) (v := undef) (a' := ?_) #[true, true, true, true, true, true, true, true, true, true, true, true, true, true, true, true, false, false, false, false, false, false, false, false, false] rfl rfl (by kernel_rfl) (fun _ _ _ h => h) (Or.inr ⟨by rfl, rfl⟩) ?_ ?_
            rotate_left
            · simp only [Act.put, List.setIfInBounds_toArray, List.set_cons_zero, List.set_cons_succ, i64_w, i32_w]
              rfl
            refine pure_ (i := 16) (N := some 28) (v := undef) (a' := ?_) #[true, true, true, true, true, true, true, true, true, true, true, true, true, true, true, true, true, false, false, false, false, false, false, false, false] rfl rfl (by kernel_rfl) (fun _ _ _ h => h) (Or.inr ⟨by rfl, rfl⟩) ?_ ?_
            rotate_left
            · simp only [Act.put, List.setIfInBounds_toArray, List.set_cons_zero, List.set_cons_succ, i64_w, i32_w]
              rfl
            refine pure_ (i := 17) (N := some 29) (v := undef) (a' := ?_) #[true, true, true, true, true, true, true, true, true, true, true, true, true, true, true, true, true, true, false, false, false, false, false, false, false] rfl rfl (by kernel_rfl) (fun _ _ _ h => h) (Or.inr ⟨by rfl, rfl⟩) ?_ ?_
            rotate_left
            · simp only [Act.put, List.setIfInBounds_toArray, List.set_cons_zero, List.set_cons_succ, i64_w, i32_w]
              rfl
            refine pure_ (i := 18) (N := some 30) (v := undef) (a' := ?_) #[true, true, true, true, true, true, true, true, true, true, true, true, true, true, true, true, true, true, true, false, false, false, false, false, false] rfl rfl (by kernel_rfl) (fun _ _ _ h => h) (Or.inr ⟨by rfl, rfl⟩) ?_ ?_
            rotate_left
            · simp only [Act.put, List.setIfInBounds_toArray, List.set_cons_zero, List.set_cons_succ, i64_w, i32_w]
              rfl
            refine pure_ (i := 19) (N := some 31) (v := undef) (a' := ?_) #[true, true, true, true, true, true, true, true, true, true, true, true, true, true, true, true, true, true, true, true, false, false, false, false, false] rfl rfl (by kernel_rfl) (fun _ _ _ h => h) (Or.inr ⟨by rfl, rfl⟩) ?_ ?_
            rotate_left
            · simp only [Act.put, List.setIfInBounds_toArray, List.set_cons_zero, List.set_cons_succ, i64_w, i32_w]
              rfl
            refine pure_ (i := 20) (N := some 32) (v := undef) (a' := ?_) #[true, true, true, true, true, true, true, true, true, true, true, true, true, true, true, true, true, true, true, true, true, false, false, false, false] rfl rfl (by kernel_rfl) (fun _ _ _ h => h) (Or.inr ⟨by rfl, rfl⟩) ?_ ?_
            rotate_left
            · simp only [Act.put, List.setIfInBounds_toArray, List.set_cons_zero, List.set_cons_succ, i64_w, i32_w]
              rfl
            refine pure_ (i := 21) (N := some 33) (v := undef) (a' := ?_) #[true, true, true, true, true, true, true, true, true, true, true, true, true, true, true, true, true, true, true, true, true, true, false, false, false] rfl rfl (by kernel_rfl) (fun _ _ _ h => h) (Or.inr ⟨by rfl, rfl⟩) ?_ ?_
            rotate_left
            · simp only [Act.put, List.setIfInBounds_toArray, List.set_cons_zero, List.set_cons_succ, i64_w, i32_w]
              rfl
            refine pure_ (i := 22) (N := some 34) (v := undef) (a' := ?_) #[true, true, true, true, true, true, true, true, true, true, true, true, true, true, true, true, true, true, true, true, true, true, true, false, false] rfl rfl (by kernel_rfl) (fun _ _ _ h => h) (Or.inr ⟨by rfl, rfl⟩) ?_ ?_
            rotate_left
            · simp only [Act.put, List.setIfInBounds_toArray, List.set_cons_zero, List.set_cons_succ, i64_w, i32_w]
              rfl
            refine pure_ (i := 23) (N := some 35) (v := ?_) (a' := ?_) #[true, true, true, true, true, true, true, true, true, true, true, true, true, true, true, true, true, true, true, true, true, true, true, true, false] rfl rfl (by kernel_rfl) (fun _ _ _ h => h) (Or.inl ⟨by rfl, ?_⟩) ?_ ?_
            rotate_left
            · intro w'
              go_simp
              with_reducible rfl
            rotate_left
            · simp only [Act.put, List.setIfInBounds_toArray, List.set_cons_zero, List.set_cons_succ, i64_w, i32_w]
              rfl
            refine pure_ (i := 24) (N := some 36) (v := ?_) (a' := ?_) #[true, true, true, true, true, true, true, true, true, true, true, true, true, true, true, true, true, true, true, true, true, true, true, true, true] rfl rfl (by kernel_rfl) (fun _ _ _ h => h) (Or.inl ⟨by rfl, ?_⟩) ?_ ?_
            rotate_left
            · intro w'
              go_simp
              with_reducible rfl
            rotate_left
            · simp only [Act.put, List.setIfInBounds_toArray, List.set_cons_zero, List.set_cons_succ, i64_w, i32_w]
              rfl
            refine done_ (by kernel_rfl) ?_
            have HBh := As.mk (HBb.out.trans (hHeld.mono HBb.out.size))
            have HHAS := As.mk (HAS.out _ hHeld)
            clear hHeld hbx0 hbx1
            go_wp2_with (fail)
            refine HHAS.out.mono ?_
            rintro e w9 ⟨rfl, hb⟩
            have HB9 := As.mk (HBh.out.trans (hb.mono HBh.out.size))
            clear hb
            rcases hany : l.any (fun y => aboveB y.f0 x.f0) with _ | _
            · go_wp2_with (fail)
              exact ⟨⟨i1, by rw [hi1]; go_num, by omega, ⟨fun j2 y hj hy => by
                rw [hi1] at hj
                rcases Nat.lt_succ_iff_lt_or_eq.1 hj with hj | rfl
                · exact HOK.out j2 y hj hy
                · rw [HX.out] at hy
                  cases hy
                  have h9 := HORD.out
                  rw [okAt, hnb, hdb, hany, h9]; rfl⟩, HB9⟩, by simp [intOf]; omega⟩
            · go_wp2_with (fail)
              go_ret
              exact ⟨by rw [rightB_false HX.out (by rw [okAt, hany]; simp)]; rfl, HB9.out⟩
          · obtain ⟨j, rfl⟩ : ∃ j, i = j + 1 := ⟨i - 1, by omega⟩
            obtain ⟨p, hp⟩ : ∃ p, rd_T46 l (j : Int) = p := ⟨_, rfl⟩
            have HP := As.mk (rd_Ref_at (by rw [HN.out]; omega) hp)
            obtain ⟨ad', had', h0', h1'⟩ := at_T46 (Kd.C_below HC.out HBb.out) (j : Int) (by omega) (by omega)
            cases had'
            rw [Int.toNat_natCast, hp] at h0' h1'
            have hadp := h0'
            have hjn : j < n := by omega
            have hwj : wrap64 (j : Int) = j := w64 _ (by omega) (by omega)
            clear h0' h1' hp
            refine start_ (n := 25) (S := fun w' => Below wb.heap.size wb w') (ds := []) #[false, false, false, false, false, false, false, false, false, false, false, false, false, false, false, false, false, false, false, false, false, false, false, false, false] (by kernel_rfl) rfl rfl (below_drew (Below.refl _ _)) (fun hHeld => ?_)
            refine pure_ (i := 0) (N := some 12) (v := ?_) (a' := ?_) #[true, false, false, false, false, false, false, false, false, false, false, false, false, false, false, false, false, false, false, false, false, false, false, false, false] rfl rfl (by kernel_rfl) (fun _ _ _ h => h) (Or.inl ⟨by rfl, ?_⟩) ?_ ?_
            rotate_left
            · intro w'
              go_simp
              with_reducible rfl
            rotate_left
            · simp only [Act.put, List.setIfInBounds_toArray, List.set_cons_zero, List.set_cons_succ, i64_w, i32_w]
              rfl
            refine take_ (i := 1) (N := some 13) (v := ?_) (a' := ?_) #[true, true, false, false, false, false, false, false, false, false, false, false, false, false, false, false, false, false, false, false, false, false, false, false, false] rfl rfl (by kernel_rfl) (fun _ _ _ h => h) (Or.inl ⟨by rfl, ?_⟩) hHeld ?_ ?_
            rotate_left
            · intro w' s0
              have hc := pw_cell_below s0 hbx0
              go_simp
              with_reducible rfl
            rotate_left
            · simp only [Act.put, List.setIfInBounds_toArray, List.set_cons_zero, List.set_cons_succ, i64_w, i32_w]
              rfl
            refine one_ (i := 2) (N := some 14) #[true, true, true, false, false, false, false, false, false, false, false, false, false, false, false, false, false, false, false, false, false, false, false, false, false] rfl rfl (by kernel_rfl) (by decide) (fun K hK => ?_)
            refine goes_ Tryz.func9 (by kernel_rfl) rfl #[.string x.f0] (by rfl) rfl rfl (by simp only [List.map_toArray, List.map_cons, List.map_nil]; rfl) ?_
            with_reducible refine (HCN.out _).mono ?_
            rintro e w1 ⟨rfl, hb1⟩
            refine ⟨_, rfl, ?_⟩
            refine hK.out _ _ (hHeld.trans (hb1.mono hHeld.size)) (fun hHeld => ?_)
            clear hK K
            refine norm_ (a' := ?_) ?_ ?_
            rotate_left
            · show Act.put _ (some 14) _ = _
              simp only [Act.put, List.setIfInBounds_toArray, List.set_cons_zero, List.set_cons_succ, i64_w, i32_w]
              rfl
            refine pure_ (i := 3) (N := some 15) (v := ?_) (a' := ?_) #[true, true, true, true, false, false, false, false, false, false, false, false, false, false, false, false, false, false, false, false, false, false, false, false, false] rfl rfl (by kernel_rfl) (fun _ _ _ h => h) (Or.inl ⟨by rfl, ?_⟩) ?_ ?_
            rotate_left
            · intro w'
              go_simp
              with_reducible rfl
            rotate_left
            · simp only [Act.put, List.setIfInBounds_toArray, List.set_cons_zero, List.set_cons_succ, i64_w, i32_w]
              rfl
            refine pure_ (i := 4) (N := some 16) (v := ?_) (a' := ?_) #[true, true, true, true, true, false, false, false, false, false, false, false, false, false, false, false, false, false, false, false, false, false, false, false, false] rfl rfl (by kernel_rfl) (fun _ _ _ h => h) (Or.inl ⟨by rfl, ?_⟩) ?_ ?_
            rotate_left
            · intro w'
              go_simp
              with_reducible rfl
            rotate_left
            · simp only [Act.put, List.setIfInBounds_toArray, List.set_cons_zero, List.set_cons_succ, i64_w, i32_w]
              rfl
            refine pure_ (i := 5) (N := some 17) (v := ?_) (a' := ?_) #[true, true, true, true, true, true, false, false, false, false, false, false, false, false, false, false, false, false, false, false, false, false, false, false, false] rfl rfl (by kernel_rfl) (fun _ _ _ h => h) (Or.inl ⟨by rfl, ?_⟩) ?_ ?_
            rotate_left
            · intro w'
              go_simp
              with_reducible rfl
            rotate_left
            · simp only [Act.put, List.setIfInBounds_toArray, List.set_cons_zero, List.set_cons_succ, i64_w, i32_w]
              rfl
            refine take_ (i := 6) (N := some 18) (v := ?_) (a' := ?_) #[true, true, true, true, true, true, true, false, false, false, false, false, false, false, false, false, false, false, false, false, false, false, false, false, false] rfl rfl (by kernel_rfl) (fun _ _ _ h => h) (Or.inl ⟨by rfl, ?_⟩) hHeld ?_ ?_
            rotate_left
            · intro w' s0
              have hc := pw_cell_below s0 hbx1
              go_simp
              with_reducible rfl
            rotate_left
            · simp only [Act.put, List.setIfInBounds_toArray, List.set_cons_zero, List.set_cons_succ, i64_w, i32_w]
              rfl
            refine one_ (i := 7) (N := some 19) #[true, true, true, true, true, true, true, true, false, false, false, false, false, false, false, false, false, false, false, false, false, false, false, false, false] rfl rfl (by kernel_rfl) (by decide) (fun K hK => ?_)
            refine goes_ Tryz.func38 (by kernel_rfl) rfl #[.string x.f1] (by rfl) rfl rfl (by simp only [List.map_toArray, List.map_cons, List.map_nil]; rfl) ?_
            with_reducible refine (HCD.out _).mono ?_
            rintro e w2 ⟨rfl, hb2⟩
            refine ⟨_, rfl, ?_⟩
            refine hK.out _ _ (hHeld.trans (hb2.mono hHeld.size)) (fun hHeld => ?_)
            clear hK K
            refine norm_ (a' := ?_) ?_ ?_
            rotate_left
            · show Act.put _ (some 19) _ = _
              simp only [Act.put, List.setIfInBounds_toArray, List.set_cons_zero, List.set_cons_succ, i64_w, i32_w]
              rfl
            refine pure_ (i := 8) (N := some 20) (v := ?_) (a' := ?_) #[true, true, true, true, true, true, true, true, true, false, false, false, false, false, false, false, false, false, false, false, false, false, false, false, false] rfl rfl (by kernel_rfl) (fun _ _ _ h => h) (Or.inl ⟨by rfl, ?_⟩) ?_ ?_
            rotate_left
            · intro w'
              go_simp
              with_reducible rfl
            rotate_left
            · simp only [Act.put, List.setIfInBounds_toArray, List.set_cons_zero, List.set_cons_succ, i64_w, i32_w]
              rfl
            refine pure_ (i := 9) (N := some 21) (v := ?_) (a' := ?_) #[true, true, true, true, true, true, true, true, true, true, false, false, false, false, false, false, false, false, false, false, false, false, false, false, false] rfl rfl (by kernel_rfl) (fun _ _ _ h => h) (Or.inl ⟨by rfl, ?_⟩) ?_ ?_
            rotate_left
            · intro w'
              go_simp
              with_reducible rfl
            rotate_left
            · simp only [Act.put, List.setIfInBounds_toArray, List.set_cons_zero, List.set_cons_succ, i64_w, i32_w]
              rfl
            refine pure_ (i := 10) (N := some 22) (v := ?_) (a' := ?_) #[true, true, true, true, true, true, true, true, true, true, true, false, false, false, false, false, false, false, false, false, false, false, false, false, false] rfl rfl (by kernel_rfl) (fun _ _ _ h => h) (Or.inl ⟨by rfl, ?_⟩) ?_ ?_
            rotate_left
            · intro w'
              go_simp
              with_reducible rfl
            rotate_left
            · simp only [Act.put, List.setIfInBounds_toArray, List.set_cons_zero, List.set_cons_succ, i64_w, i32_w]
              rfl
            refine pure_ (i := 11) (N := some 23) (v := ?_) (a' := ?_) #[true, true, true, true, true, true, true, true, true, true, true, true, false, false, false, false, false, false, false, false, false, false, false, false, false] rfl rfl (by kernel_rfl) (fun _ _ _ h => h) (Or.inl ⟨by rfl, ?_⟩) ?_ ?_
            rotate_left
            · intro w'
              go_simp
              with_reducible rfl
            rotate_left
            · simp only [Act.put, List.setIfInBounds_toArray, List.set_cons_zero, List.set_cons_succ, i64_w, i32_w]
              rfl
            refine pure_ (i := 12) (N := some 24) (v := ?_) (a' := ?_) #[true, true, true, true, true, true, true, true, true, true, true, true, true, false, false, false, false, false, false, false, false, false, false, false, false] rfl rfl (by kernel_rfl) (fun _ _ _ h => h) (Or.inl ⟨by rfl, ?_⟩) ?_ ?_
            rotate_left
            · intro w'
              go_simp
              with_reducible rfl
            rotate_left
            · simp only [Act.put, List.setIfInBounds_toArray, List.set_cons_zero, List.set_cons_succ, i64_w, i32_w]
              rfl
            refine pure_ (i := 13) (N := some 25) (v := ?_) (a' := ?_) #[true, true, true, true, true, true, true, true, true, true, true, true, true, true, false, false, false, false, false, false, false, false, false, false, false] rfl rfl (by kernel_rfl) (fun _ _ _ h => h) (Or.inl ⟨by rfl, ?_⟩) ?_ ?_
            rotate_left
            · intro w'
              go_simp
              with_reducible rfl
            rotate_left
            · simp only [Act.put, List.setIfInBounds_toArray, List.set_cons_zero, List.set_cons_succ, i64_w, i32_w]
              rfl
            refine pure_ (i := 14) (N := some 26) (v := ?_) (a' := ?_) #[true, true, true, true, true, true, true, true, true, true, true, true, true, true, true, false, false, false, false, false, false, false, false, false, false] rfl rfl (by kernel_rfl) (fun _ _ _ h => h) (Or.inl ⟨by rfl, ?_⟩) ?_ ?_
            rotate_left
            · intro w'
              go_simp
              with_reducible rfl
            rotate_left
            · simp only [Act.put, List.setIfInBounds_toArray, List.set_cons_zero, List.set_cons_succ, i64_w, i32_w]
              rfl
            refine pure_ (i := 15) (N := some 27) (v := ?_) (a' := ?_) #[true, true, true, true, true, true, true, true, true, true, true, true, true, true, true, true, false, false, false, false, false, false, false, false, false] rfl rfl (by kernel_rfl) (fun _ _ _ h => h) (Or.inl ⟨by rfl, ?_⟩) ?_ ?_
            rotate_left
            · intro w'
              go_simp
              with_reducible rfl
            rotate_left
            · simp only [Act.put, List.setIfInBounds_toArray, List.set_cons_zero, List.set_cons_succ, i64_w, i32_w]
              rfl
            refine pure_ (i := 16) (N := some 28) (v := ?_) (a' := ?_) #[true, true, true, true, true, true, true, true, true, true, true, true, true, true, true, true, true, false, false, false, false, false, false, false, false] rfl rfl (by kernel_rfl) (fun _ _ _ h => h) (Or.inl ⟨by rfl, ?_⟩) ?_ ?_
            rotate_left
            · intro w'
              go_simp
              with_reducible rfl
            rotate_left
            · simp only [Act.put, List.setIfInBounds_toArray, List.set_cons_zero, List.set_cons_succ, i64_w, i32_w]
              rw [hwj]
            refine pure_ (i := 17) (N := some 29) (v := ?_) (a' := ?_) #[true, true, true, true, true, true, true, true, true, true, true, true, true, true, true, true, true, true, false, false, false, false, false, false, false] rfl rfl (by kernel_rfl) (fun _ _ _ h => h) (Or.inl ⟨by rfl, ?_⟩) ?_ ?_
            rotate_left
            · intro w'
              go_simp
              with_reducible rfl
            rotate_left
            · simp only [Act.put, List.setIfInBounds_toArray, List.set_cons_zero, List.set_cons_succ, i64_w, i32_w]
              rfl
            refine pure_ (i := 18) (N := some 30) (v := ?_) (a' := ?_) #[true, true, true, true, true, true, true, true, true, true, true, true, true, true, true, true, true, true, true, false, false, false, false, false, false] rfl rfl (by kernel_rfl) (fun _ _ _ h => h) (Or.inl ⟨by rfl, ?_⟩) ?_ ?_
            rotate_left
            · intro w'
              go_simp
              with_reducible rfl
            rotate_left
            · simp only [Act.put, List.setIfInBounds_toArray, List.set_cons_zero, List.set_cons_succ, i64_w, i32_w]
              rfl
            refine pure_ (i := 20) (N := some 32) (v := ?_) (a' := ?_) #[true, true, true, true, true, true, true, true, true, true, true, true, true, true, true, true, true, true, true, false, true, false, false, false, false] rfl rfl (by kernel_rfl) (fun _ _ _ h => h) (Or.inl ⟨by rfl, ?_⟩) ?_ ?_
            rotate_left
            · intro w'
              go_simp
              with_reducible rfl
            rotate_left
            · simp only [Act.put, List.setIfInBounds_toArray, List.set_cons_zero, List.set_cons_succ, i64_w, i32_w]
              rfl
            refine take_ (i := 19) (N := some 31) (v := ?_) (a' := ?_) #[true, true, true, true, true, true, true, true, true, true, true, true, true, true, true, true, true, true, true, true, true, false, false, false, false] rfl rfl (by kernel_rfl) (fun _ _ _ h => h) (Or.inl ⟨by rfl, ?_⟩) hHeld ?_ ?_
            rotate_left
            · intro w' s0
              have hc := pw_cell_below s0 hadp
              go_simp
              with_reducible rfl
            rotate_left
            · simp only [Act.put, List.setIfInBounds_toArray, List.set_cons_zero, List.set_cons_succ, i64_w, i32_w]
              rfl
            refine take_ (i := 21) (N := some 33) (v := ?_) (a' := ?_) #[true, true, true, true, true, true, true, true, true, true, true, true, true, true, true, true, true, true, true, true, true, true, false, false, false] rfl rfl (by kernel_rfl) (fun _ _ _ h => h) (Or.inl ⟨by rfl, ?_⟩) hHeld ?_ ?_
            rotate_left
            · intro w' s0
              have hc := pw_cell_below s0 hbx0
              go_simp
              with_reducible rfl
            rotate_left
            · simp only [Act.put, List.setIfInBounds_toArray, List.set_cons_zero, List.set_cons_succ, i64_w, i32_w]
              rfl
            refine take_ (i := 22) (N := some 34) (v := ?_) (a' := ?_) #[true, true, true, true, true, true, true, true, true, true, true, true, true, true, true, true, true, true, true, true, true, true, true, false, false] rfl rfl (by kernel_rfl) (fun _ _ _ h => h) (Or.inl ⟨by rfl, ?_⟩) hHeld ?_ ?_
            rotate_left
            · intro w' s0
              go_simp
              rw [StrSem.geq_str]
              simp only [Sem.run_pure, Result.andThen]
              with_reducible rfl
            rotate_left
            · simp only [Act.put, List.setIfInBounds_toArray, List.set_cons_zero, List.set_cons_succ, i64_w, i32_w]
              rfl
            refine pure_ (i := 23) (N := some 35) (v := ?_) (a' := ?_) #[true, true, true, true, true, true, true, true, true, true, true, true, true, true, true, true, true, true, true, true, true, true, true, true, false] rfl rfl (by kernel_rfl) (fun _ _ _ h => h) (Or.inl ⟨by rfl, ?_⟩) ?_ ?_
            rotate_left
            · intro w'
              go_simp
              with_reducible rfl
            rotate_left
            · simp only [Act.put, List.setIfInBounds_toArray, List.set_cons_zero, List.set_cons_succ, i64_w, i32_w]
              rfl
            refine pure_ (i := 24) (N := some 36) (v := ?_) (a' := ?_) #[true, true, true, true, true, true, true, true, true, true, true, true, true, true, true, true, true, true, true, true, true, true, true, true, true] rfl rfl (by kernel_rfl) (fun _ _ _ h => h) (Or.inl ⟨by rfl, ?_⟩) ?_ ?_
            rotate_left
            · intro w'
              go_simp
              with_reducible rfl
            rotate_left
            · simp only [Act.put, List.setIfInBounds_toArray, List.set_cons_zero, List.set_cons_succ, i64_w, i32_w]
              rfl
            refine done_ (by kernel_rfl) ?_
            rw [show Op.bytesLess p.f0.toList x.f0.toList = decide (L p.f0 < L x.f0) by rw [toL, toL, bytesLess_eq]]
            rcases hlt2 : decide (L p.f0 < L x.f0) with _ | _
            · have HBh := As.mk (HBb.out.trans (hHeld.mono HBb.out.size))
              clear hHeld hbx0 hbx1 hadp
              go_wp2_with (fail)
              go_ret
              exact ⟨by rw [rightB_false HX.out (by rw [okAt, Nat.add_sub_cancel, HP.out, Option.getD_some, hlt2]; simp)]; rfl, HBh.out⟩
            · have HORD : As ((j + 1 == 0 || decide (L ((l[j + 1 - 1]?.getD noRef).f0) < L x.f0)) = true) := ⟨by rw [Nat.add_sub_cancel, HP.out, Option.getD_some, hlt2]; rfl⟩
              clear hadp
              have HBh := As.mk (HBb.out.trans (hHeld.mono HBb.out.size))
              have HHAS := As.mk (HAS.out _ hHeld)
              clear hHeld hbx0 hbx1
              go_wp2_with (fail)
              refine HHAS.out.mono ?_
              rintro e w9 ⟨rfl, hb⟩
              have HB9 := As.mk (HBh.out.trans (hb.mono HBh.out.size))
              clear hb
              rcases hany : l.any (fun y => aboveB y.f0 x.f0) with _ | _
              · go_wp2_with (fail)
                exact ⟨⟨i1, by rw [hi1]; go_num, by omega, ⟨fun j2 y hj hy => by
                  rw [hi1] at hj
                  rcases Nat.lt_succ_iff_lt_or_eq.1 hj with hj | rfl
                  · exact HOK.out j2 y hj hy
                  · rw [HX.out] at hy
                    cases hy
                    have h9 := HORD.out
                    rw [okAt, hnb, hdb, hany, h9]; rfl⟩, HB9⟩, by simp [intOf]; omega⟩
              · go_wp2_with (fail)
                go_ret
                exact ⟨by rw [rightB_false HX.out (by rw [okAt, hany]; simp)]; rfl, HB9.out⟩
    · have hin : i = n := by omega
      subst hin
      have HR := As.mk (rightB_true (l := l) (fun j x hj => HOK.out j x (by rw [← HN.out]; exact (List.getElem?_eq_some_iff.1 hj).1) hj))
      go_wp2_with (fail)
      go_ret
      exact ⟨by
        rw [HR.out, HN.out]
        show Ending.returned (.bool (decide ((i : Int) ≤ 64))) = _
        congr 2
        rw [Bool.eq_iff_iff, decide_eq_true_iff, decide_eq_true_iff]; omega, HB.out⟩
end Go.Proofs.YtacgchklilfcaaaGreatDoor.Rf
namespace Go.Proofs.YtacgchklilfcaaaGreatDoor.Rf
set_option linter.unusedVariables false
set_option linter.unusedSimpArgs false
open Go Go.RowKit Go.Proofs.YtacgchklilfcaaaGreatDoorW.PrintWords Go.Proofs.YtacgchklilfcaaaGreatDoorW.PrintLast Go.Proofs.YtacgchklilfcaaaGreatDoorW.PrintMore PRfBase Mp
def mayB (s : ByteArray) : Bool := decide (s.size = 0) || nmB s
theorem may_walk (s : ByteArray) (hs : s.size ≤ 1000000000000) (w : World) : Calls Tryz.prog 50 #[.string s] w fun e w' => e = .returned (.bool (mayB s)) ∧ Below w.heap.size w w' := by
  obtain ⟨k, hk⟩ := (may_ev s hs).rounds
  exact (refs_may.calls k s _ w hk).mono fun e w' h => ⟨h.1, h.2.below⟩
def badB (c : Nat) (x : Upd) : Bool := !nameB x.f0 || decide (0 < c) || !mayB x.f1 || !mayB x.f2 || decide (x.f1.size + x.f2.size = 0)
def Ush1 (x : Upd) : Prop := x.f0.size ≤ 1000000000 ∧ x.f1.size ≤ 1000000000 ∧ x.f2.size ≤ 1000000000
set_option maxHeartbeats 8000000 in
set_option maxRecDepth 100000 in
theorem wrong1 (x : Upd) (hx : Ush1 x) (b bx i c base : Nat) (m : ByteArray → Option Value) (W : World) (hbox : W.heap[bx]? = some (.cells #[.map (some b)] 62 (0, 0))) (hM : MapOf Tryz.prog 9 W b i m) (hi : i ≤ 1000000000) (hm : (m x.f0).getD (.int .i64 0) = .int .i64 (c : Nat)) (hci : c ≤ i) (hbase : base ≤ b) (hne : bx ≠ b) :
    Calls Tryz.prog 49 #[.agg #[.string x.f0, .string x.f1, .string x.f2], .pointer (some ⟨bx, 0, none⟩)] W fun e w' => e = .returned (.bool (badB c x)) ∧ Below base W w' ∧ MapOf Tryz.prog 9 w' b (i + 1) (put m x.f0 (.int .i64 ((c + 1 : Nat) : Int))) ∧ w'.heap[bx]? = some (.cells #[.map (some b)] 62 (0, 0)) := by
  have hbl := hM.lt
  have hbxl := blk_lt hbox
  have hmax : Go.maxLen = 9223372036854775807 := rfl
  have hx1 : As (x.f0.size ≤ maxLen) := ⟨by have := hx.1; omega⟩
  have HX := As.mk hx
  obtain ⟨W0, hW0⟩ : ∃ W0, W.alloc (.cells #[.string x.f0, .string x.f1, .string x.f2] 40) = W0 := ⟨_, rfl⟩
  have hb0 : Below W.heap.size W W0 := by rw [← hW0]; exact (Below.refl _ _).alloc (Nat.le_refl _) _
  have HB0 := As.mk hb0
  have HM0 := As.mk (hM.below hb0)
  have hbox0 : W0.heap[bx]? = some (.cells #[.map (some b)] 62 (0, 0)) := (hb0.block bx hbxl).trans hbox
  have hnew0 : W0.heap[W.heap.size]? = some (.cells #[.string x.f0, .string x.f1, .string x.f2] 40 (0, 0)) := by rw [← hW0]; exact blk_new W _
  have hcb : W0.cell? ⟨bx, 0, none⟩ = some (.map (some b)) := by rw [blk_cell hbox0]; rfl
  have hc0 : W0.cell? ⟨W.heap.size, 0, none⟩ = some (.string x.f0) := by rw [blk_cell hnew0]; rfl
  have HBX0 := As.mk hbox0
  have HNW0 := As.mk hnew0
  have HBOX := As.mk hbox
  have HMI := As.mk hM
  have hw1 : wrap64 ((c : Int) + 1) = ((c + 1 : Nat) : Int) := by rw [w64 _ (by omega) (by omega)]; omega
  clear hbox hM hb0 hbox0 hnew0 hx
  go_enter Tryz.func49, Tryz.ntmps49
  go_wp2_with (first | (at_lookup; refine Mp.wpList_look _ rfl _ _ _ rfl 9 3 Tryz.underlying9 Tryz.underlying62 (.int .i64 0) rfl b i m rfl HM0.out x.f0 rfl hx1.out _ hm ?_) | (at_mapUpdate; refine Mp.wpList_store _ rfl _ _ _ _ rfl 9 3 Tryz.underlying9 Tryz.underlying62 b i m rfl HM0.out (by omega) x.f0 _ rfl rfl hx1.out ?_; intro w1 hM1 hT1; have hbox1 := (turned_other hT1 hne).trans HBX0.out; have hnew1 := (turned_other hT1 (Nat.ne_of_gt hbl)).trans HNW0.out; have hcb1 : w1.cell? ⟨bx, 0, none⟩ = some (.map (some b)) := (blk_cell hbox1 0).trans rfl; have hd0 : w1.cell? ⟨W.heap.size, 0, none⟩ = some (.string x.f0) := (blk_cell hnew1 0).trans rfl; have hd1 : w1.cell? ⟨W.heap.size, 1, none⟩ = some (.string x.f1) := (blk_cell hnew1 1).trans rfl; have hd2 : w1.cell? ⟨W.heap.size, 2, none⟩ = some (.string x.f2) := (blk_cell hnew1 2).trans rfl) | fail)
  rw [show ((c : Int) + 1) = ((c + 1 : Nat) : Int) by omega] at hM1
  have HM1 := As.mk hM1
  have HT1 := As.mk hT1
  have HB1 : As (Below base W w1) := ⟨(HB0.out.mono (by omega)).trans (turned_below hT1 hbase)⟩
  have HSZ1 : As (W.heap.size ≤ w1.heap.size) := ⟨by rw [turned_size hT1]; exact HB0.out.size⟩
  have hbase1 : base ≤ w1.heap.size := by rw [turned_size hT1]; have := HB0.out.size; omega
  have HD : As (∀ W2 : World, Below w1.heap.size w1 W2 → W2.cell? ⟨bx, 0, none⟩ = some (.map (some b)) ∧ W2.cell? ⟨W.heap.size, 0, none⟩ = some (.string x.f0) ∧ W2.cell? ⟨W.heap.size, 1, none⟩ = some (.string x.f1) ∧ W2.cell? ⟨W.heap.size, 2, none⟩ = some (.string x.f2)) := ⟨fun W2 h => ⟨pw_cell_below h hcb1, pw_cell_below h hd0, pw_cell_below h hd1, pw_cell_below h hd2⟩⟩
  have HFIN : As (∀ W2 : World, Below w1.heap.size w1 W2 → Below base W W2 ∧ MapOf Tryz.prog 9 W2 b (i + 1) (put m x.f0 (.int .i64 ((c + 1 : Nat) : Int))) ∧ W2.heap[bx]? = some (.cells #[.map (some b)] 62 (0, 0))) := ⟨fun W2 h => ⟨HB1.out.trans (h.mono hbase1), HM1.out.below h, (h.block bx (blk_lt hbox1)).trans hbox1⟩⟩
  have HPUT : As ((put m x.f0 (.int .i64 ((c + 1 : Nat) : Int)) x.f0).getD (.int .i64 0) = .int .i64 ((c + 1 : Nat) : Int)) := ⟨by simp [put]⟩
  clear hM1 hT1 hbox1 hnew1 HBX0 HNW0 HBOX HB0 HM0 hcb hc0 hW0 hm
  have HCN := As.mk (named_walk x.f0 HX.out.1)
  have HC1 := As.mk (may_walk x.f1 (by have := HX.out.2.1; omega))
  have HC2 := As.mk (may_walk x.f2 (by have := HX.out.2.2; omega))
  go_wp2_with (fail)
  refine (HCN.out _).mono ?_
  rintro e w2 ⟨rfl, hb2⟩
  obtain ⟨hcb2, he0, he1, he2⟩ := HD.out _ hb2
  have HB2 := As.mk hb2
  clear hb2 hcb1 hd0 hd1 hd2
  rcases hnb : nameB x.f0 with _ | _
  · go_wp2_with (fail)
    go_ret
    exact ⟨by rw [badB, hnb]; rfl, HFIN.out _ HB2.out⟩
  have hlk := (HM1.out.below HB2.out).run_look (t := 62) (e := 3) Tryz.underlying9 Tryz.underlying62 (z := .int .i64 0) rfl hx1.out HPUT.out
  by_cases hc : 0 < c
  · go_wp2_with (fail)
    go_ret
    exact ⟨by rw [badB, hnb, decide_eq_true hc]; rfl, HFIN.out _ HB2.out⟩
  have hc0 : c = 0 := by omega
  subst hc0
  go_wp2_with (fail)
  refine (HC1.out _).mono ?_
  rintro e w3 ⟨rfl, hb3⟩
  have hb3 := HB2.out.trans (hb3.mono HB2.out.size)
  obtain ⟨hcb3, hf0, hf1, hf2⟩ := HD.out _ hb3
  have HB3 := As.mk hb3
  clear hb3 hcb2 he0 he1 he2
  rcases hm1 : mayB x.f1 with _ | _
  · go_wp2_with (fail)
    go_ret
    exact ⟨by rw [badB, hnb, hm1]; rfl, HFIN.out _ HB3.out⟩
  go_wp2_with (fail)
  refine (HC2.out _).mono ?_
  rintro e w4 ⟨rfl, hb4⟩
  have hb4 := HB3.out.trans (hb4.mono HB3.out.size)
  obtain ⟨hcb4, hg0, hg1, hg2⟩ := HD.out _ hb4
  have HB4 := As.mk hb4
  clear hb4 hcb3 hf0 hf1 hf2
  rcases hm2 : mayB x.f2 with _ | _
  · go_wp2_with (fail)
    go_ret
    exact ⟨by rw [badB, hnb, hm1, hm2]; rfl, HFIN.out _ HB4.out⟩
  have hsum : x.f1.size + x.f2.size ≤ 9223372036854775807 := by have := HX.out.2; omega
  go_wp2_with (fail)
  go_ret
  refine ⟨?_, HFIN.out _ HB4.out⟩
  rw [badB, hnb, hm1, hm2]
  show Ending.returned (.bool (x.f1 ++ x.f2).toList.isEmpty) = _
  congr 2
  rw [Bool.eq_iff_iff, List.isEmpty_iff, toL_nil, ByteArray.size_append]
  simp
def cnt (l : List Upd) (s : ByteArray) : Nat := (l.filter (fun y => decide (y.f0 = s))).length
theorem cnt_le (l : List Upd) (s : ByteArray) : cnt l s ≤ l.length := List.length_filter_le _ _
def Ush (l : List Upd) : Prop := ∀ x ∈ l, Ush1 x
def wrongI (l : List Upd) : Int := fstI (fun i x => badB (cnt (l.take i) x.f0) x) l
set_option maxHeartbeats 8000000 in
set_option maxRecDepth 100000 in
theorem wrong_walk (A : Option Addr) (c n : Nat) (l : List Upd) (w : World) (hC : Kd.C k40 w A n l) (hn : l.length = n) (hc : n ≤ c) (hsh : Ush l) (hnm : n ≤ 1000000000) :
    Calls Tryz.prog 22 #[.slice A n c] w fun e w' => e = .returned (.int .i64 (wrongI l)) ∧ Below w.heap.size w w' := by
  have HC := As.mk hC
  have HN := As.mk hn
  have HSH := As.mk hsh
  have hmm := @run_makeMap Tryz.prog
  have hmax : Go.maxLen = 9223372036854775807 := rfl
  clear hC hn hsh
  go_enter Tryz.func22, Tryz.ntmps22
  go_wp2_with (fail)
  have hB0 : Below w.heap.size w ((w.alloc (.map #[] 0)).alloc (.cells #[.map (some w.heap.size)] 62)) := ((Below.refl _ _).alloc (Nat.le_refl _) _).alloc (by simp) _
  have hM0 := (Mp.mapOf_made w Tryz.prog 9).alloc (.cells #[.map (some w.heap.size)] 62)
  have hbx0 := blk_new (w.alloc (.map #[] 0)) (.cells #[.map (some w.heap.size)] 62)
  rw [World.size_alloc] at hbx0
  refine (idxUpd1 A c n l 49 (.pointer (some ⟨w.heap.size + 1, 0, none⟩)) (fun i x => badB (cnt (l.take i) x.f0) x) (fun i W => i ≤ n ∧ ∃ m, Below w.heap.size w W ∧ W.heap[w.heap.size + 1]? = some (.cells #[.map (some w.heap.size)] 62 (0, 0)) ∧ MapOf Tryz.prog 9 W w.heap.size i m ∧ ∀ s, (m s).getD (.int .i64 0) = .int .i64 ((cnt (l.take i) s : Nat) : Int)) _ (Kd.C_below HC.out hB0) HN.out hc (enters_of Tryz.func49 (by kernel_rfl) rfl) ⟨Nat.zero_le _, _, hB0, hbx0, hM0, fun s => rfl⟩ (fun i W h => Kd.C_below HC.out h.2.choose_spec.1) (fun i W x h hx => ?_)).mono ?_
  · obtain ⟨hi, m, hB, hbx, hM, hm⟩ := h
    have hil := (List.getElem?_eq_some_iff.1 hx).1
    rw [HN.out] at hil
    have hcl := cnt_le (l.take i) x.f0
    rw [List.length_take] at hcl
    refine (wrong1 x (HSH.out x (List.mem_of_getElem? hx)) w.heap.size (w.heap.size + 1) i (cnt (l.take i) x.f0) w.heap.size m W hbx hM (by omega) (hm _) (by omega) (Nat.le_refl _) (by omega)).mono ?_
    rintro e w' ⟨rfl, hb, hM', hbx'⟩
    refine ⟨rfl, by omega, _, ?_, hbx', hM', fun s => ?_⟩
    · exact ⟨hb.os.trans hB.os, hb.tape.trans hB.tape, hb.output.trans hB.output, Nat.le_trans hB.size hb.size, fun j hj => (hb.block j hj).trans (hB.block j hj)⟩
    · have ht := List.take_add_one (l := l) (i := i)
      rw [hx] at ht
      rw [ht]
      unfold put cnt
      rw [List.filter_append]
      by_cases e : s = x.f0
      · rw [if_pos e, e]; simp
      · rw [if_neg e, hm s]
        have : ¬ x.f0 = s := fun h => e h.symm
        simp [cnt, this]
  · rintro e w' ⟨rfl, j, hj, m, hB, _⟩
    have HB := As.mk hB
    clear hB
    go_wp2_with (fail)
    go_ret
    exact ⟨rfl, HB.out⟩
end Go.Proofs.YtacgchklilfcaaaGreatDoor.Rf
