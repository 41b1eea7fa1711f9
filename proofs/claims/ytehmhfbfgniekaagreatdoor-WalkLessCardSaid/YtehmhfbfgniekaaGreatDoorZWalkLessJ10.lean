/- Joined texts: ObTree. No condition but what stands in each. -/
import Derived.Test.YtehmhfbfgniekaaGreatDoorZWalkLessJ8
import Derived.Test.YtehmhfbfgniekaaGreatDoorZWalkLessJ9
import Derived.Test.YtehmhfbfgniekaaGreatDoorZWalkLessJ5
import Derived.WalkKit
namespace Go.Proofs.YtehmhfbfgniekaaGreatDoor.Ob
set_option linter.unusedVariables false
set_option linter.unusedSimpArgs false
open Go Go.RowKit Go.Proofs.YtehmhfbfgniekaaGreatDoorW.PrintWords Go.Proofs.YtehmhfbfgniekaaGreatDoorW.PrintLast Go.Proofs.YtehmhfbfgniekaaGreatDoorW.PrintMore PObBase PObDoc Mp
def ErrIs (ok : Bool) (v : Value) : Prop := (ok = true ∧ v = .nilIface) ∨ (ok = false ∧ ∃ a, v = .iface 156 (.pointer a))
theorem cntI_snoc {l : List It} {i : Nat} {x : It} (hx : l[i]? = some x) (s : ByteArray) : cntI (l.take (i + 1)) s = cntI (l.take i) s + (if x.f1 = s then 1 else 0) := by
  unfold cntI
  rw [List.take_add_one, hx, List.filter_append, List.length_append]
  by_cases h : x.f1 = s
  · simp [h]
  · simp [h]
theorem cntI_le (l : List It) (s : ByteArray) : cntI l s ≤ l.length := List.length_filter_le _ _
theorem rdI {l : List It} {i : Nat} {x : It} (hx : l[i]? = some x) : rd_T58 l (i : Int) = x := by simp [rd_T58, hx]
theorem rdI_at {l : List It} {i : Nat} (hil : i < l.length) {x : It} (hx : rd_T58 l (i : Int) = x) : l[i]? = some x := by rw [← hx]; simp [rd_T58, hil]
set_option maxHeartbeats 16000000 in
set_option maxRecDepth 100000 in
theorem tree_walk (A : Option Addr) (c n : Nat) (l : List It) (w : World) (hC : Kd.C k58 w A n l) (hn : l.length = n) (hc : n ≤ c) (hsh : Ish l) (hnm : n ≤ 1000000000) :
    Calls Tryz.prog 109 #[.slice A n c] w fun e w' => ∃ v, e = .returned v ∧ ErrIs (treeB l) v ∧ Below w.heap.size w w' := by
  have HC := As.mk hC
  have HN := As.mk hn
  have HSH := As.mk hsh
  clear hC hn hsh
  go_enter Tryz.func109, Tryz.ntmps109
  have hmm := @run_makeMap Tryz.prog
  have hmax : Go.maxLen = 9223372036854775807 := rfl
  have HM0 : As (Mp.MapOf Tryz.prog 9 (w.alloc (.map #[] 0)) w.heap.size 0 (fun _ => none)) := ⟨Mp.mapOf_made w _ _⟩
  go_wp2_with (fail)
  go_loopw [9] (fun v9 wr => ∃ i : Nat, v9 = .int .i64 i ∧ i ≤ n ∧ As (∀ j x, j < i → l[j]? = some x → okI l j x = true) ∧ As (∃ m, Mp.MapOf Tryz.prog 9 wr w.heap.size i m ∧ (∀ s, (m s).getD (.int .i64 0) = .int .i64 ((cntI (l.take i) s : Nat) : Int))) ∧ As (Below w.heap.size w wr)) (fun v9 _ => n - (intOf v9).toNat)
  case atStart => exact ⟨0, rfl, by omega, ⟨fun j x h => by omega⟩, ⟨_, HM0.out, fun s => by simp [cntI]⟩, ⟨(Below.refl _ _).alloc (Nat.le_refl _) _⟩⟩
  case round =>
    obtain ⟨i, rfl, hi, HOK, HM, HB⟩ := hrel
    by_cases hlt : i < n
    · have hil : i < l.length := by rw [HN.out]; exact hlt
      obtain ⟨ad, rfl, h0, h1, h2⟩ := at_T58 (Kd.C_below HC.out HB.out) (i : Int) (by omega) (by omega)
      rw [Int.toNat_natCast] at h0 h1 h2
      obtain ⟨x, hx⟩ : ∃ x, rd_T58 l (i : Int) = x := ⟨_, rfl⟩
      have hxi : l[i]? = some x := rdI_at hil hx
      rw [hx] at h0 h1 h2
      have HX := As.mk hxi
      have HZ := As.mk (HSH.out x (List.mem_of_getElem? hxi))
      clear hx hxi hil
      obtain ⟨m, hM, hcnt⟩ := HM.out
      have hcv := hcnt x.f1
      obtain ⟨cv, hcvv⟩ : ∃ cv : Nat, cntI (l.take i) x.f1 = cv := ⟨_, rfl⟩
      have hcvn : cv ≤ 1000000000 := by
        have := cntI_le (l.take i) x.f1
        rw [List.length_take] at this; omega
      rw [hcvv] at hcv
      have hxs : As (x.f1.size ≤ maxLen) := ⟨by have := HZ.out.1; omega⟩
      have hw1 : wrap64 ((cv : Int) + 1) = ((cv + 1 : Nat) : Int) := by rw [w64 _ (by omega) (by omega)]; omega
      have HCN2 : As (∀ s, ((put m x.f1 (.int .i64 ((cv + 1 : Nat) : Int))) s).getD (.int .i64 0) = .int .i64 ((cntI (l.take (i + 1)) s : Nat) : Int)) := ⟨fun s => by
        rw [cntI_snoc HX.out]
        unfold put
        by_cases e : s = x.f1
        · rw [if_pos e, if_pos e.symm, e, hcvv]; rfl
        · rw [if_neg e, if_neg (fun h => e h.symm), hcnt s]; rfl⟩
      clear hcnt HM
      go_wp2_with (first | (at_lookup; refine Mp.wpList_look _ rfl _ _ _ rfl 9 3 Tryz.underlying9 Tryz.underlying85 (.int .i64 0) rfl w.heap.size i m rfl (hM.alloc _) x.f1 rfl hxs.out _ hcv ?_) | (at_mapUpdate; refine Mp.wpList_store _ rfl _ _ _ _ rfl 9 3 Tryz.underlying9 Tryz.underlying85 w.heap.size i m rfl (hM.alloc _) (by omega) x.f1 _ rfl rfl hxs.out ?_; intro w1 hM1 hT1; have hnew1 := (turned_other hT1 (Nat.ne_of_gt hM.lt)).trans (blk_new wr _); have hd0 : w1.cell? ⟨wr.heap.size, 0, none⟩ = some (.int .i64 x.f0) := (blk_cell hnew1 0).trans rfl; have hd1 : w1.cell? ⟨wr.heap.size, 1, none⟩ = some (.string x.f1) := (blk_cell hnew1 1).trans rfl; have hd2 : w1.cell? ⟨wr.heap.size, 2, none⟩ = some (.string x.f2) := (blk_cell hnew1 2).trans rfl) | fail)
      · have h1 : x.f0 < 1 := by assumption
        have HF : As (treeB l = false) := ⟨treeB_false HX.out (by unfold okI; rw [decide_eq_false (show ¬ 1 ≤ x.f0 by omega)]; rfl)⟩
        have HB1 : As (Below w.heap.size w w1) := ⟨(HB.out.alloc HB.out.size _).trans (turned_below hT1 (Nat.le_refl _))⟩
        go_ret
        exact ⟨_, rfl, .inr ⟨HF.out, _, rfl⟩, HB1.out.alloc HB1.out.size _⟩
      · have h1 : 3 < x.f0 := by assumption
        have HF : As (treeB l = false) := ⟨treeB_false HX.out (by unfold okI; rw [decide_eq_false (show ¬ x.f0 ≤ 3 by omega)]; simp)⟩
        have HB1 : As (Below w.heap.size w w1) := ⟨(HB.out.alloc HB.out.size _).trans (turned_below hT1 (Nat.le_refl _))⟩
        go_ret
        exact ⟨_, rfl, .inr ⟨HF.out, _, rfl⟩, HB1.out.alloc HB1.out.size _⟩
      have g1 : 1 ≤ x.f0 := by omega
      have g3 : x.f0 ≤ 3 := by omega
      rw [show ((cv : Int) + 1) = ((cv + 1 : Nat) : Int) by omega] at hM1
      have HM1 := As.mk hM1
      have HB1 : As (Below w.heap.size w w1) := ⟨(HB.out.alloc HB.out.size _).trans (turned_below hT1 (Nat.le_refl _))⟩
      have HD : As (∀ W2 : World, Below w1.heap.size w1 W2 → W2.cell? ⟨wr.heap.size, 0, none⟩ = some (.int .i64 x.f0) ∧ W2.cell? ⟨wr.heap.size, 1, none⟩ = some (.string x.f1) ∧ W2.cell? ⟨wr.heap.size, 2, none⟩ = some (.string x.f2)) := ⟨fun W2 h => ⟨pw_cell_below h hd0, pw_cell_below h hd1, pw_cell_below h hd2⟩⟩
      have HCN := As.mk (dnamed_walk x.f2 (by have := HZ.out.2; omega))
      have HCP := As.mk (part_walk x.f1 (by have := HZ.out.1; omega))
      have HG := As.mk (And.intro g1 g3)
      clear hM1 hT1 hnew1 hM g1 g3
      refine (HCN.out _).mono ?_
      rintro e w2 ⟨rfl, hb2⟩
      obtain ⟨he0, he1, he2⟩ := HD.out _ hb2
      have HB2 := As.mk hb2
      clear hb2 hd0 hd1 hd2
      have HBW2 : As (Below w.heap.size w w2) := ⟨HB1.out.trans (HB2.out.mono HB1.out.size)⟩
      rcases hnb : nmB x.f2 with _ | _
      · have HF : As (treeB l = false) := ⟨treeB_false HX.out (by unfold okI; rw [hnb]; simp)⟩
        go_wp2_with (fail)
        go_ret
        exact ⟨_, rfl, .inr ⟨HF.out, _, rfl⟩, HBW2.out.alloc HBW2.out.size _⟩
      go_wp2_with (fail)
      refine (HCP.out _).mono ?_
      rintro e w3 ⟨rfl, hb3⟩
      have hb3' := HB2.out.trans (hb3.mono HB2.out.size)
      obtain ⟨hf0, hf1, hf2⟩ := HD.out _ hb3'
      have HB3 := As.mk hb3'
      clear hb3 hb3' he0 he1 he2
      have HBW3 : As (Below w.heap.size w w3) := ⟨HB1.out.trans (HB3.out.mono HB1.out.size)⟩
      rcases hpb : partB x.f1 with _ | _
      · have HF : As (treeB l = false) := ⟨treeB_false HX.out (by unfold okI; rw [hpb]; simp)⟩
        go_wp2_with (fail)
        go_ret
        exact ⟨_, rfl, .inr ⟨HF.out, _, rfl⟩, HBW3.out.alloc HBW3.out.size _⟩
      have HPUT : As ((put m x.f1 (.int .i64 ((cv + 1 : Nat) : Int)) x.f1).getD (.int .i64 0) = .int .i64 ((cv + 1 : Nat) : Int)) := ⟨by simp [put]⟩
      have hlk := (HM1.out.below HB3.out).run_look (t := 85) (e := 3) Tryz.underlying9 Tryz.underlying85 (z := .int .i64 0) rfl hxs.out HPUT.out
      by_cases hc0 : 0 < cv
      · have HF : As (treeB l = false) := ⟨treeB_false HX.out (by unfold okI; rw [hcvv, decide_eq_false (show ¬ cv = 0 by omega)]; simp)⟩
        go_wp2_with (fail)
        go_ret
        exact ⟨_, rfl, .inr ⟨HF.out, _, rfl⟩, HBW3.out.alloc HBW3.out.size _⟩
      have d4 : decide (((cv + 1 : Nat) : Int) > 1) = false := decide_eq_false (by omega)
      have hcz : cv = 0 := by omega
      subst hcz
      obtain ⟨i1, hi1⟩ : ∃ i1, i1 = i + 1 := ⟨_, rfl⟩
      by_cases hi0 : i = 0
      · subst hi0
        have HORD : As ((0 == 0 || decide (L (keyS (l[0 - 1]?.getD noIt)) < L (keyS x))) = true) := ⟨rfl⟩
        go_wp2_with (fail)
        refine start_ (n := 14) (S := fun w' => Below w3.heap.size w3 w') (ds := []) (bl_ 14 0) (by kernel_rfl) rfl rfl (below_drew (Below.refl _ _)) (fun hHeld => ?_)
        refine pv_ 0 47 (bl_ 14 1) ?_
        refine pv_ 1 48 (bl_ 14 3) ?_
        refine pv_ 2 49 (bl_ 14 7) ?_
        refine pu_ 3 50 (bl_ 14 15) ?_
        refine pu_ 4 51 (bl_ 14 31) ?_
        refine pu_ 5 52 (bl_ 14 63) ?_
        refine pu_ 6 53 (bl_ 14 127) ?_
        refine pu_ 7 54 (bl_ 14 255) ?_
        refine pu_ 8 55 (bl_ 14 511) ?_
        refine pu_ 9 56 (bl_ 14 1023) ?_
        refine pu_ 10 57 (bl_ 14 2047) ?_
        refine pu_ 11 58 (bl_ 14 4095) ?_
        refine pv_ 12 59 (bl_ 14 8191) ?_
        refine pv_ 13 46 (bl_ 14 16383) ?_
        refine done_ (by kernel_rfl) ?_
        have HBh := As.mk (HBW3.out.trans (hHeld.mono HBW3.out.size))
        have HMh := As.mk ((HM1.out.below HB3.out).below hHeld)
        clear hHeld hf0 hf1 hf2 hlk
        go_wp2_with (fail)
        exact ⟨⟨i1, by rw [hi1]; go_num, by omega, ⟨fun j2 y hj hy => by
          rw [hi1] at hj
          rcases Nat.lt_succ_iff_lt_or_eq.1 hj with hj | rfl
          · exact HOK.out j2 y hj hy
          · rw [HX.out] at hy
            cases hy
            have h9 := HORD.out
            unfold okI
            rw [h9, hnb, hpb, hcvv, decide_eq_true HG.out.1, decide_eq_true HG.out.2]; rfl⟩, ⟨_, by rw [hi1]; exact HMh.out, by rw [hi1]; exact HCN2.out⟩, HBh⟩, by simp [intOf]; omega⟩
      · obtain ⟨j, rfl⟩ : ∃ j, i = j + 1 := ⟨i - 1, by omega⟩
        obtain ⟨p, hp⟩ : ∃ p, rd_T58 l (j : Int) = p := ⟨_, rfl⟩
        have HP := As.mk (rdI_at (by rw [HN.out]; omega) hp)
        obtain ⟨ad', had', hp0, hp1, hp2⟩ := at_T58 (Kd.C_below HC.out HBW3.out) (j : Int) (by omega) (by omega)
        cases had'
        rw [Int.toNat_natCast, hp] at hp0 hp1 hp2
        have HKP := As.mk (key_walk p (by have := (HSH.out p (List.mem_of_getElem? HP.out)).1; omega))
        have HKX := As.mk (key_walk x (by have := HZ.out.1; omega))
        have hjn : j < n := by omega
        have hwj : wrap64 (j : Int) = j := w64 _ (by omega) (by omega)
        clear hp
        go_wp2_with (fail)
        refine start_ (n := 14) (S := fun w' => Below w3.heap.size w3 w') (ds := []) (bl_ 14 0) (by kernel_rfl) rfl rfl (below_drew (Below.refl _ _)) (fun hHeld => ?_)
        refine pv_ 0 47 (bl_ 14 1) ?_
        refine pv_ 1 48 (bl_ 14 3) ?_
        refine pv_ 2 49 (bl_ 14 7) ?_
        refine pv_ 3 50 (bl_ 14 15) ?_
        refine pv_ 4 51 (bl_ 14 31) ?_
        refine pure_ (i := 5) (N := some 52) (v := ?_) (a' := ?_) (bl_ 14 63) rfl rfl (by kernel_rfl) (fun _ _ _ h => h) (Or.inl ⟨by rfl, ?_⟩) ?_ ?_
        rotate_left
        · intro w'
          go_simp
          with_reducible rfl
        rotate_left
        · simp only [Act.put, List.setIfInBounds_toArray, List.set_cons_zero, List.set_cons_succ, i64_w, i32_w]
          rw [hwj]
        refine pv_ 6 53 (bl_ 14 127) ?_
        refine tk_ 7 54 (bl_ 14 255) hHeld (hv := by intro w' s0; have hc0 := pw_cell_below s0 hp0; have hc1 := pw_cell_below s0 hp1; have hc2 := pw_cell_below s0 hp2; go_simp; with_reducible rfl) (h := ?_)
        refine tk_ 9 56 (bl_ 14 767) hHeld (hv := by intro w' s0; have hc0 := pw_cell_below s0 hf0; have hc1 := pw_cell_below s0 hf1; have hc2 := pw_cell_below s0 hf2; go_simp; with_reducible rfl) (h := ?_)
        refine one_ (i := 8) (N := some 55) (bl_ 14 1023) rfl rfl (by kernel_rfl) (by decide) (fun K hK => ?_)
        refine goes_ Tryz.func127 (by kernel_rfl) rfl #[.agg #[.int .i64 p.f0, .string p.f1, .string p.f2]] (by rfl) rfl rfl (by simp only [List.map_toArray, List.map_cons, List.map_nil]; rfl) ?_
        with_reducible refine (HKP.out _).mono ?_
        rintro e w10 ⟨rfl, hb1⟩
        refine ⟨_, rfl, ?_⟩
        refine hK.out _ _ (hHeld.trans (hb1.mono hHeld.size)) (fun hHeld => ?_)
        clear hK K
        refine norm_ (a' := ?_) ?_ ?_
        rotate_left
        · show Act.put _ (some 55) _ = _
          simp only [Act.put, List.setIfInBounds_toArray, List.set_cons_zero, List.set_cons_succ, i64_w, i32_w]
          rfl
        refine one_ (i := 10) (N := some 57) (bl_ 14 2047) rfl rfl (by kernel_rfl) (by decide) (fun K hK => ?_)
        refine goes_ Tryz.func127 (by kernel_rfl) rfl #[.agg #[.int .i64 x.f0, .string x.f1, .string x.f2]] (by rfl) rfl rfl (by simp only [List.map_toArray, List.map_cons, List.map_nil]; rfl) ?_
        with_reducible refine (HKX.out _).mono ?_
        rintro e w20 ⟨rfl, hb2⟩
        refine ⟨_, rfl, ?_⟩
        refine hK.out _ _ (hHeld.trans (hb2.mono hHeld.size)) (fun hHeld => ?_)
        clear hK K
        refine norm_ (a' := ?_) ?_ ?_
        rotate_left
        · show Act.put _ (some 57) _ = _
          simp only [Act.put, List.setIfInBounds_toArray, List.set_cons_zero, List.set_cons_succ, i64_w, i32_w]
          rfl
        refine tk_ 11 58 (bl_ 14 4095) hHeld (hv := by intro w' s0; go_simp; rw [StrSem.geq_str]; simp only [Sem.run_pure, Result.andThen]; with_reducible rfl) (h := ?_)
        refine pv_ 12 59 (bl_ 14 8191) ?_
        refine pv_ 13 46 (bl_ 14 16383) ?_
        refine done_ (by kernel_rfl) ?_
        rw [show Op.bytesLess (keyS p).toList (keyS x).toList = decide (L (keyS p) < L (keyS x)) by rw [toL, toL, bytesLess_eq]]
        rcases hlt2 : decide (L (keyS p) < L (keyS x)) with _ | _
        · have HBh := As.mk (HBW3.out.trans (hHeld.mono HBW3.out.size))
          have HF : As (treeB l = false) := ⟨treeB_false HX.out (by unfold okI; rw [Nat.add_sub_cancel, HP.out, Option.getD_some, hlt2]; simp)⟩
          clear hHeld hf0 hf1 hf2 hp0 hp1 hp2 hlk
          go_wp2_with (fail)
          go_ret
          exact ⟨_, rfl, .inr ⟨HF.out, _, rfl⟩, HBh.out.alloc HBh.out.size _⟩
        · have HORD : As ((j + 1 == 0 || decide (L (keyS (l[j + 1 - 1]?.getD noIt)) < L (keyS x))) = true) := ⟨by rw [Nat.add_sub_cancel, HP.out, Option.getD_some, hlt2]; rfl⟩
          clear hp0 hp1 hp2
          have HBh := As.mk (HBW3.out.trans (hHeld.mono HBW3.out.size))
          have HMh := As.mk ((HM1.out.below HB3.out).below hHeld)
          clear hHeld hf0 hf1 hf2 hlk
          go_wp2_with (fail)
          exact ⟨⟨i1, by rw [hi1]; go_num, by omega, ⟨fun j2 y hj hy => by
            rw [hi1] at hj
            rcases Nat.lt_succ_iff_lt_or_eq.1 hj with hj | rfl
            · exact HOK.out j2 y hj hy
            · rw [HX.out] at hy
              cases hy
              have h9 := HORD.out
              unfold okI
              rw [h9, hnb, hpb, hcvv, decide_eq_true HG.out.1, decide_eq_true HG.out.2]; rfl⟩, ⟨_, by rw [hi1]; exact HMh.out, by rw [hi1]; exact HCN2.out⟩, HBh⟩, by simp [intOf]; omega⟩
    · have hin : i = n := by omega
      subst hin
      have HR := As.mk (treeB_true (l := l) (fun j x hj => HOK.out j x (by rw [← HN.out]; exact (List.getElem?_eq_some_iff.1 hj).1) hj))
      by_cases h256 : i ≤ 256
      · go_wp2_with (fail)
        go_ret
        exact ⟨_, rfl, .inl ⟨by rw [HR.out, HN.out]; exact decide_eq_true h256, rfl⟩, HB.out⟩
      · go_wp2_with (fail)
        go_ret
        exact ⟨_, rfl, .inr ⟨by rw [HR.out, HN.out]; exact decide_eq_false h256, _, rfl⟩, HB.out.alloc HB.out.size _⟩
end Go.Proofs.YtehmhfbfgniekaaGreatDoor.Ob
