/- Joined texts: ObCh, ObPutC, ObGetC, ObGetL, ObGiven2, PObRtx0, PObRtx1, ObRight, ObW1, ObText2. No condition but what stands in each. -/
import Derived.Test.YtehmhfbfgniekaaGreatDoorZWalkLessJ12
import Derived.Test.YtehmhfbfgniekaaGreatDoorZWalkLessJ8
import Derived.Test.YtehmhfbfgniekaaGreatDoorZWalkLessJ13
import Derived.Test.YtehmhfbfgniekaaGreatDoorZWalkLessJ4
import Derived.Test.YtehmhfbfgniekaaGreatDoorProg
import Derived.Below
import Derived.Deep.Draws
import Derived.Deep.AppendLies
import Derived.Maps.AppendAt
import Derived.OwnWalk
import Derived.Laws.BytesArg
import Derived.Laws.MakeOwn
import Derived.Laws.OwnMore
import Derived.Deep.OwnRows
import Derived.Tactics
import Derived.Lib.ConvBytes
import Derived.Laws.Slices
import Derived.WalkKit
import Derived.KernelRfl
import Derived.RowKit3
import Derived.Deep.LoopGhost
import Derived.Deep.QuietTactic
import Derived.BigQuiet
import Derived.WideLaws
import Derived.Deep.DeepCutAuto
import Derived.Deep.CutBlock
import Derived.Deep.RegionHeld3
import Derived.Laws.Rows
import Derived.Lib.AppendStr
import Derived.ArgAppend
import Derived.Laws.IdiomCopy
import Derived.OrdersHeld
import Derived.Laws.BitsLemmas
import Derived.RowKit
import Derived.Test.YtehmhfbfgniekaaGreatDoorZWalkLessJ0
import Derived.Test.YtehmhfbfgniekaaGreatDoorZWalkLessJ1
import Derived.Test.YtehmhfbfgniekaaGreatDoorZWalkLessJ2
namespace Go.Proofs.YtehmhfbfgniekaaGreatDoor.Ob
set_option linter.unusedVariables false
set_option linter.unusedSimpArgs false
open Go Go.RowKit Go.Sort Go.Proofs.YtehmhfbfgniekaaGreatDoorW.PrintWords Go.Proofs.YtehmhfbfgniekaaGreatDoorW.PrintLast Go.Proofs.YtehmhfbfgniekaaGreatDoorW.PrintMore PObBase PObDoc
theorem holds_below {w w' : World} {g off : Nat} {d : Array (List UInt8)} (h : Holds encStr w g off d) (hg : g < w.heap.size) (hb : Below w.heap.size w w') : Holds encStr w' g off d := by
  intro j hj
  obtain ⟨h1, h2⟩ := h j hj
  have e := hb.block g hg
  constructor
  · rw [← h1]
    simp only [World.cell?, e]
  · rw [← h2]
    simp only [World.frozen?, e]
theorem notNamed_walk (s : ByteArray) (hs : s.size ≤ 1000000000000) (w : World) : Calls Tryz.prog 131 #[.string s] w fun e w' => e = .returned (.bool (!nmB s)) ∧ Below w.heap.size w w' := by
  go_enter Tryz.func131, Tryz.ntmps131
  go_wp2_with (fail)
  refine (dnamed_walk s hs _).mono ?_
  rintro e w1 ⟨rfl, hb⟩
  go_wp2_with (fail)
  go_ret
  exact ⟨rfl, hb⟩
theorem own_one_s (w : World) (base : Nat) (hb : base ≤ w.heap.size) (s : ByteArray) : Kd.R Kd.string 9 (w.alloc (.cells #[.string s] 9)) base (fun _ => True) (.slice (some ⟨w.heap.size, 0, none⟩) 1 1) [s] := by
  refine Kd.R_of_own ?_ (fun _ _ => trivial)
  refine ⟨rfl, .inr ⟨w.heap.size, 1, #[.string s], rfl, hb, blk_new w _, Nat.le_refl _, by decide, rfl, rfl⟩⟩
theorem info_str : (Tryz.prog.info? 9).map (fun i => (i.zero, i.size, i.bytes)) = some (some (Value.string ⟨#[]⟩), 1, 16) := by kernel_rfl
theorem holds_tail {w : World} {base : Nat} {v : Value} {x : ByteArray} {l : List ByteArray} (h : Kd.R Kd.string 9 w base (fun _ => True) v (x :: l)) :
    ∃ g c, v = .slice (some ⟨g, 0, none⟩) (l.length + 1) c ∧ base ≤ g ∧ g < w.heap.size ∧ l.length + 1 ≤ c ∧ c ≤ maxLen ∧ Holds encStr w g 1 (l.map L).toArray := by
  have hown := Kd.own_of_R h
  have hlen : (x :: l).length = l.length + 1 := rfl
  rw [hlen] at hown
  rcases hown.2 with ⟨_, h0⟩ | ⟨g, cap, cur, hv, hg, hh, hle, hmx, hsz, htk⟩
  · omega
  · refine ⟨g, cap, hv, hg, blk_lt hh, hle, hmx, fun j hj => ?_⟩
    have hj' : j < l.length := by simpa using hj
    refine ⟨?_, by simp [World.frozen?, hh]⟩
    rw [blk_cell hh (1 + j)]
    have e1 : cur[1 + j]? = (cur.toList.take ((l.length + 1) * 1))[1 + j]? := by
      rw [List.getElem?_take_of_lt (by omega), Array.getElem?_toList]
    rw [e1, htk]
    have e2 : (encs Value.string (x :: l))[1 + j]? = some (.string l[j]) := by
      unfold encs
      rw [Nat.add_comm, List.map_cons, List.getElem?_cons_succ, List.getElem?_map, List.getElem?_eq_getElem hj']; rfl
    rw [e2]
    have e3 : (l.map L).toArray[j]! = L l[j] := by
      rw [getElem!_pos _ j (by simpa using hj')]; simp
    rw [e3]
theorem grow_below {B : Nat} {w0 w : World} (h : Below B w0 w) (os : Array Obj) (hB : B ≤ w.heap.size) : Below B w0 (grow w os) := by
  refine ⟨h.os, h.tape, h.output, ?_, fun k hk => ?_⟩
  · rw [size_grow]; have := h.size; omega
  · rw [← h.block k hk]
    show (w.heap ++ os)[k]? = w.heap[k]?
    rw [Array.getElem?_append_left (by omega)]
theorem put_below {B : Nat} {w0 w : World} (h : Below B w0 w) {g off : Nat} (hg : B ≤ g) (q : Nat) (d : Array (List UInt8)) : Below B w0 (putRow encStr (Sort.ahead w q) g off d) := by
  refine ⟨h.os, h.tape, h.output, ?_, fun k hk => ?_⟩
  · rw [size_putRow]; exact h.size
  · rw [← h.block k hk]
    show (w.heap.modify g _)[k]? = w.heap[k]?
    rw [Array.getElem?_modify, if_neg (by omega)]
theorem holds_grow {w : World} {g off : Nat} {d : Array (List UInt8)} (h : Holds encStr w g off d) (hg : g < w.heap.size) (os : Array Obj) : Holds encStr (grow w os) g off d := by
  intro j hj
  obtain ⟨h1, h2⟩ := h j hj
  have e : (grow w os).heap[g]? = w.heap[g]? := by
    show (w.heap ++ os)[g]? = w.heap[g]?
    rw [Array.getElem?_append_left hg]
  constructor
  · rw [← h1]
    simp only [World.cell?, e]
  · rw [← h2]
    simp only [World.frozen?, e]
set_option maxHeartbeats 8000000 in
set_option maxRecDepth 100000 in
theorem change_walk (A : Option Addr) (n c : Nat) (x : Chg) (hz : Csh x) (w : World) (hC : Kd.C Kd.string w A n x.f1) (hn : x.f1.length = n) (hc : n ≤ c) :
    Calls Tryz.prog 114 #[.agg #[.string x.f0, .slice A n c, .string x.f2, .string x.f3]] w fun e w' => ∃ v, e = .returned v ∧ ErrIs (changeB x) v ∧ Below w.heap.size w w' := by
  obtain ⟨w0, hw0⟩ : ∃ w0, w.alloc (.cells #[.string x.f0, .slice A n c, .string x.f2, .string x.f3] 71) = w0 := ⟨_, rfl⟩
  have hb0 : Below w.heap.size w w0 := by rw [← hw0]; exact (Below.refl _ _).alloc (Nat.le_refl _) _
  have hs0 : w0.heap.size = w.heap.size + 1 := by rw [← hw0, World.size_alloc]
  have hnew : w0.heap[w.heap.size]? = some (.cells #[.string x.f0, .slice A n c, .string x.f2, .string x.f3] 71 (0, 0)) := by rw [← hw0]; exact blk_new w _
  have hd0 : w0.cell? ⟨w.heap.size, 0, none⟩ = some (.string x.f0) := (blk_cell hnew 0).trans rfl
  have hd1 : w0.cell? ⟨w.heap.size, 1, none⟩ = some (.slice A n c) := (blk_cell hnew 1).trans rfl
  have hd2 : w0.cell? ⟨w.heap.size, 2, none⟩ = some (.string x.f2) := (blk_cell hnew 2).trans rfl
  have HD : As (∀ W2 : World, Below w0.heap.size w0 W2 → W2.cell? ⟨w.heap.size, 1, none⟩ = some (.slice A n c) ∧ W2.cell? ⟨w.heap.size, 2, none⟩ = some (.string x.f2)) := ⟨fun W2 h => ⟨pw_cell_below h hd1, pw_cell_below h hd2⟩⟩
  obtain ⟨wl, hwl⟩ : ∃ wl, w0.alloc (.cells #[.string x.f0] 9) = wl := ⟨_, rfl⟩
  have HOWN : As (Kd.R Kd.string 9 wl w0.heap.size (fun _ => True) (.slice (some ⟨w0.heap.size, 0, none⟩) 1 1) [x.f0]) := ⟨by rw [← hwl]; exact own_one_s w0 _ (Nat.le_refl _) x.f0⟩
  have HBl : As (Below w0.heap.size w0 wl) := ⟨by rw [← hwl]; exact (Below.refl _ _).alloc (Nat.le_refl _) _⟩
  have HCl := As.mk (Kd.C_below (Kd.C_below hC hb0) HBl.out)
  obtain ⟨he1, _⟩ := HD.out _ HBl.out
  have HB0 := As.mk hb0
  have HZ := As.mk hz
  have HN := As.mk hn
  have hl1 : ([x.f0].length + n) * 16 ≤ 140737488355328 := by have := hz.hl; simp; omega
  have hnn : n ≤ 1000000000 := by have := hz.hl; omega
  clear hb0 hnew hz hn hC hs0
  go_enter Tryz.func114, Tryz.ntmps114
  go_wp2_with (first
      | ((with_reducible refine gate_builtin (b := .append) (xs := #[.tmp 7, .tmp 9]) rfl ?_); at_builtin; refine Kd.R_append_rows Kd.string (Rr := Kd.string.K wl) (w0 := w0) w0.heap.size rfl (.tmp 7) (.tmp 9) 23 9 (.string ⟨#[]⟩) 16 rfl Tryz.underlying23 info_str rfl (by decide) (by decide) (.slice (some ⟨w0.heap.size, 0, none⟩) 1 1) [x.f0] x.f1 A n c (fun _ => True) (fun _ => False) rfl rfl HOWN.out HCl.out (fun _ _ h => h) (fun _ hk => hk.elim) (fun _ _ => trivial) HBl.out HBl.out.size hl1 ?_; intro v5 w5 ho hb hg5 hat; have HX5 := As.mk ho; have HB5 := As.mk hb; clear ho hb hg5 hat)
      | fail)
  obtain ⟨g, cap, rfl, hg, hgl, hcap, hmx, hH⟩ := holds_tail (x := x.f0) (l := x.f1) HX5.out
  have hCI : Kd.C Kd.string w5 (some ⟨g, 0, none⟩) (x.f1.length + 1) (x.f0 :: x.f1) := (Kd.R_reads' HX5.out).2.2
  rw [HN.out] at hcap hCI ⊢
  have HCF := As.mk (hasStr0 (some ⟨g, 0, none⟩) cap (n + 1) (x.f0 :: x.f1) 131 .nilIface (fun s => !nmB s) w5 hCI (by rw [List.length_cons, HN.out]) hcap (enters_of Tryz.func131 (by kernel_rfl) rfl) (fun W y hW hy => by
    refine notNamed_walk y ?_ W
    rcases List.mem_cons.1 hy with rfl | hy
    · have := HZ.out.h0; omega
    · have := HZ.out.h1 y hy; omega))
  have HH := As.mk hH
  have HG := As.mk (And.intro hg hgl)
  have HM := As.mk hmx
  clear hg hgl hCI HX5 hH hmx he1
  refine HCF.out.mono ?_
  rintro e w6 ⟨rfl, hb6⟩
  have HB6 := As.mk hb6
  have HB06 := As.mk (HB5.out.trans (hb6.mono HB5.out.size))
  obtain ⟨he1, he2⟩ := HD.out _ HB06.out
  clear hb6
  have hany : ((x.f0 :: x.f1).any fun s => !nmB s) = !(nmB x.f0 && x.f1.all nmB) := by
    rw [List.any_cons, Bool.not_and, List.not_all_eq_any_not]
  rw [hany]
  obtain ⟨nb, hnb⟩ : ∃ nb, (nmB x.f0 && x.f1.all nmB) = nb := ⟨_, rfl⟩
  rw [hnb]
  have HNB := As.mk hnb
  clear hnb hany
  have HBB : As (Below w.heap.size w w6) := ⟨HB0.out.trans (HB06.out.mono HB0.out.size)⟩
  cases nb with
  | false =>
    have HF : As (changeB x = false) := ⟨by unfold changeB; rw [HNB.out]; rfl⟩
    go_wp2_with (fail)
    go_ret
    exact ⟨_, rfl, .inr ⟨HF.out, _, rfl⟩, HBB.out.alloc HBB.out.size _⟩
  | true =>
    by_cases h8 : 8 < n
    · have HF : As (changeB x = false) := ⟨by unfold changeB; rw [HNB.out, HN.out, decide_eq_false (by omega)]; rfl⟩
      have d8 : decide (8 < n) = true := decide_eq_true h8
      go_wp2_with (fail)
      go_ret
      exact ⟨_, rfl, .inr ⟨HF.out, _, rfl⟩, HBB.out.alloc HBB.out.size _⟩
    have d8 : decide (8 < n) = false := decide_eq_false h8
    rcases Nat.eq_zero_or_pos n with hn0 | hpos
    · subst hn0
      have HOK : As (changeB x = (decide (x.f2.size ≤ 100) && (L x.f2).all whoOk)) := ⟨by
        have h0 : x.f1 = [] := List.eq_nil_of_length_eq_zero HN.out
        unfold changeB
        have := HNB.out
        rw [this, HN.out, h0]; simp⟩
      have HB7d : As (Below w0.heap.size w0 w6.drew) := ⟨below_drew HB06.out⟩
      rcases Nat.lt_or_ge 1 cap with hc1 | hc1
      · have hcz : ¬ cap = 1 := by omega
        have HCMP : As (Calls Tryz.prog 132 #[.slice (some ⟨g, 1, none⟩) 0 (cap - 1)] w6.drew fun e w' => e = .returned (.slice (some ⟨g, 1, none⟩) 0 (cap - 1)) ∧ Below w0.heap.size w0 w') := ⟨(Tryz.slices_Compact_string_empty (some ⟨g, 1, none⟩) (cap - 1) w6.drew).mono (by rintro e w' ⟨rfl, rfl⟩; exact ⟨rfl, HB7d.out⟩)⟩
        go_wp2_with (fail)
        refine (Tryz.slices_Sort_string_none (some ⟨g, 1, none⟩) (cap - 1) w6).mono ?_
        rintro e w7 ⟨rfl, rfl⟩
        go_wp2_with (fail)
        refine start_ (n := 14) (S := fun w' => Below w0.heap.size w0 w') (ds := []) (bl_ 14 0) (by kernel_rfl) rfl rfl (HB7d.out) (fun hHeld => ?_)
        refine pv_ 0 25 (bl_ 14 1) ?_
        refine pv_ 1 26 (bl_ 14 3) ?_
        refine pv_ 4 29 (bl_ 14 19) ?_
        refine tk_ 5 30 (bl_ 14 51) hHeld (hv := by intro w' s0; have hc0 := pw_cell_below s0 hd1; go_simp; with_reducible rfl) (h := ?_)
        refine pv_ 6 31 (bl_ 14 115) ?_
        refine one_ (i := 2) (N := some 27) (bl_ 14 119) rfl rfl (by kernel_rfl) (by decide) (fun K hK => ?_)
        refine goes_ Tryz.func132 (by kernel_rfl) rfl #[.slice (some ⟨g, 1, none⟩) 0 (cap - 1)] (by rfl) rfl rfl (by simp only [List.map_toArray, List.map_cons, List.map_nil]; rfl) ?_
        with_reducible refine (HCMP.out).mono ?_
        rintro e w10 ⟨rfl, hb10⟩
        refine ⟨_, rfl, ?_⟩
        refine hK.out _ _ (hb10) (fun hHeld => ?_)
        clear hK K
        refine norm_ (a' := ?_) ?_ ?_
        rotate_left
        · show Act.put _ (some 27) _ = _
          simp only [Act.put, List.setIfInBounds_toArray, List.set_cons_zero, List.set_cons_succ, i64_w, i32_w]
          rfl
        refine pv_ 3 28 (bl_ 14 127) ?_
        refine pv_ 7 32 (bl_ 14 255) ?_
        refine pv_ 8 33 (bl_ 14 511) ?_
        refine pv_ 9 34 (bl_ 14 1023) ?_
        refine tk_ 10 35 (bl_ 14 2047) hHeld (hv := by intro w' s0; have hc0 := pw_cell_below s0 hd2; go_simp; with_reducible rfl) (h := ?_)
        refine pv_ 11 36 (bl_ 14 4095) ?_
        refine pv_ 12 37 (bl_ 14 8191) ?_
        refine pv_ 13 38 (bl_ 14 16383) ?_
        refine done_ (by kernel_rfl) ?_
        have HB9 := As.mk (HB0.out.trans (hHeld.mono HB0.out.size))
        have HBx := As.mk hHeld
        clear hHeld
        by_cases h100 : 100 < x.f2.size
        · have d9 : decide (100 < x.f2.size) = true := decide_eq_true h100
          have HF : As (changeB x = false) := ⟨by rw [HOK.out, decide_eq_false (by omega)]; rfl⟩
          go_wp2_with (fail)
          go_ret
          exact ⟨_, rfl, .inr ⟨HF.out, _, rfl⟩, HB9.out.alloc HB9.out.size _⟩
        have d9 : decide (100 < x.f2.size) = false := decide_eq_false h100
        have hk1 := (HD.out _ HBx.out).2
        go_wp2_with (fail)
        go_loopw [45] (fun v45 wr => ∃ i : Nat, v45 = .int .i64 i ∧ i ≤ x.f2.size ∧ As (((L x.f2).take i).all whoOk = true) ∧ As (Below w0.heap.size w0 wr)) (fun v45 _ => x.f2.size - (intOf v45).toNat)
        case atStart => exact ⟨0, rfl, by omega, ⟨by simp⟩, HBx⟩
        case round =>
          obtain ⟨i, rfl, hi, HALL, HB⟩ := hrel
          have hk2 := (HD.out _ HB.out).2
          have HBw := As.mk (HB0.out.trans (HB.out.mono HB0.out.size))
          by_cases hlt : i < x.f2.size
          · obtain ⟨u, hu⟩ : ∃ u, (L x.f2)[i]? = some u := ⟨_, List.getElem?_eq_getElem (by rw [L_len]; exact hlt)⟩
            have hix : ∀ h : i < x.f2.size, x.f2[i]'h = u := fun h => by
              have := (List.getElem?_eq_some_iff.1 hu).2
              rw [← this]; rfl
            have HTK : As ((L x.f2).take (i + 1) = (L x.f2).take i ++ [u]) := ⟨by rw [List.take_add_one, hu]; rfl⟩
            have HMEM : As (u ∈ L x.f2) := ⟨List.mem_of_getElem? hu⟩
            clear hu
            by_cases h32 : u.toNat < 32
            · have HF : As (changeB x = false) := ⟨by
                rw [HOK.out]
                have : (L x.f2).all whoOk = false := by
                  rw [Bool.eq_false_iff]
                  intro h
                  have := (whoOk_iff u).1 (List.all_eq_true.1 h u HMEM.out)
                  omega
                rw [this, Bool.and_false]⟩
              have d1 : decide (u.toNat < 32) = true := decide_eq_true h32
              go_wp2_with (fail)
              go_ret
              exact ⟨_, rfl, .inr ⟨HF.out, _, rfl⟩, HBw.out.alloc HBw.out.size _⟩
            by_cases h126 : 126 < u.toNat
            · have HF : As (changeB x = false) := ⟨by
                rw [HOK.out]
                have : (L x.f2).all whoOk = false := by
                  rw [Bool.eq_false_iff]
                  intro h
                  have := (whoOk_iff u).1 (List.all_eq_true.1 h u HMEM.out)
                  omega
                rw [this, Bool.and_false]⟩
              have d1 : decide (u.toNat < 32) = false := decide_eq_false h32
              have d2 : decide (126 < u.toNat) = true := decide_eq_true h126
              go_wp2_with (fail)
              go_ret
              exact ⟨_, rfl, .inr ⟨HF.out, _, rfl⟩, HBw.out.alloc HBw.out.size _⟩
            have d1 : decide (u.toNat < 32) = false := decide_eq_false h32
            have d2 : decide (126 < u.toNat) = false := decide_eq_false h126
            have HALL2 : As (((L x.f2).take (i + 1)).all whoOk = true) := ⟨by
              rw [HTK.out, List.all_append, HALL.out, List.all_cons, (whoOk_iff u).2 ⟨by omega, by omega⟩]; rfl⟩
            go_wp2_with (fail)
            exact ⟨⟨i + 1, by go_num, by omega, HALL2, HB⟩, by simp [intOf]; omega⟩
          · have hin : i = x.f2.size := by omega
            have HT : As (changeB x = true) := ⟨by
              have := HALL.out
              rw [List.take_of_length_le (by rw [L_len]; omega)] at this
              rw [HOK.out, this, decide_eq_true (by omega)]; rfl⟩
            go_wp2_with (fail)
            go_ret
            exact ⟨_, rfl, .inl ⟨HT.out, rfl⟩, HBw.out⟩
      · obtain rfl : cap = 1 := by omega
        have HCMP : As (Calls Tryz.prog 132 #[.slice (some ⟨g, 0, none⟩) 0 0] w6.drew fun e w' => e = .returned (.slice (some ⟨g, 0, none⟩) 0 0) ∧ Below w0.heap.size w0 w') := ⟨(Tryz.slices_Compact_string_empty (some ⟨g, 0, none⟩) 0 w6.drew).mono (by rintro e w' ⟨rfl, rfl⟩; exact ⟨rfl, HB7d.out⟩)⟩
        go_wp2_with (fail)
        refine (Tryz.slices_Sort_string_none (some ⟨g, 0, none⟩) 0 w6).mono ?_
        rintro e w7 ⟨rfl, rfl⟩
        go_wp2_with (fail)
        refine start_ (n := 14) (S := fun w' => Below w0.heap.size w0 w') (ds := []) (bl_ 14 0) (by kernel_rfl) rfl rfl (HB7d.out) (fun hHeld => ?_)
        refine pv_ 0 25 (bl_ 14 1) ?_
        refine pv_ 1 26 (bl_ 14 3) ?_
        refine pv_ 4 29 (bl_ 14 19) ?_
        refine tk_ 5 30 (bl_ 14 51) hHeld (hv := by intro w' s0; have hc0 := pw_cell_below s0 hd1; go_simp; with_reducible rfl) (h := ?_)
        refine pv_ 6 31 (bl_ 14 115) ?_
        refine one_ (i := 2) (N := some 27) (bl_ 14 119) rfl rfl (by kernel_rfl) (by decide) (fun K hK => ?_)
        refine goes_ Tryz.func132 (by kernel_rfl) rfl #[.slice (some ⟨g, 0, none⟩) 0 0] (by rfl) rfl rfl (by simp only [List.map_toArray, List.map_cons, List.map_nil]; rfl) ?_
        with_reducible refine (HCMP.out).mono ?_
        rintro e w10 ⟨rfl, hb10⟩
        refine ⟨_, rfl, ?_⟩
        refine hK.out _ _ (hb10) (fun hHeld => ?_)
        clear hK K
        refine norm_ (a' := ?_) ?_ ?_
        rotate_left
        · show Act.put _ (some 27) _ = _
          simp only [Act.put, List.setIfInBounds_toArray, List.set_cons_zero, List.set_cons_succ, i64_w, i32_w]
          rfl
        refine pv_ 3 28 (bl_ 14 127) ?_
        refine pv_ 7 32 (bl_ 14 255) ?_
        refine pv_ 8 33 (bl_ 14 511) ?_
        refine pv_ 9 34 (bl_ 14 1023) ?_
        refine tk_ 10 35 (bl_ 14 2047) hHeld (hv := by intro w' s0; have hc0 := pw_cell_below s0 hd2; go_simp; with_reducible rfl) (h := ?_)
        refine pv_ 11 36 (bl_ 14 4095) ?_
        refine pv_ 12 37 (bl_ 14 8191) ?_
        refine pv_ 13 38 (bl_ 14 16383) ?_
        refine done_ (by kernel_rfl) ?_
        have HB9 := As.mk (HB0.out.trans (hHeld.mono HB0.out.size))
        have HBx := As.mk hHeld
        clear hHeld
        by_cases h100 : 100 < x.f2.size
        · have d9 : decide (100 < x.f2.size) = true := decide_eq_true h100
          have HF : As (changeB x = false) := ⟨by rw [HOK.out, decide_eq_false (by omega)]; rfl⟩
          go_wp2_with (fail)
          go_ret
          exact ⟨_, rfl, .inr ⟨HF.out, _, rfl⟩, HB9.out.alloc HB9.out.size _⟩
        have d9 : decide (100 < x.f2.size) = false := decide_eq_false h100
        have hk1 := (HD.out _ HBx.out).2
        go_wp2_with (fail)
        go_loopw [45] (fun v45 wr => ∃ i : Nat, v45 = .int .i64 i ∧ i ≤ x.f2.size ∧ As (((L x.f2).take i).all whoOk = true) ∧ As (Below w0.heap.size w0 wr)) (fun v45 _ => x.f2.size - (intOf v45).toNat)
        case atStart => exact ⟨0, rfl, by omega, ⟨by simp⟩, HBx⟩
        case round =>
          obtain ⟨i, rfl, hi, HALL, HB⟩ := hrel
          have hk2 := (HD.out _ HB.out).2
          have HBw := As.mk (HB0.out.trans (HB.out.mono HB0.out.size))
          by_cases hlt : i < x.f2.size
          · obtain ⟨u, hu⟩ : ∃ u, (L x.f2)[i]? = some u := ⟨_, List.getElem?_eq_getElem (by rw [L_len]; exact hlt)⟩
            have hix : ∀ h : i < x.f2.size, x.f2[i]'h = u := fun h => by
              have := (List.getElem?_eq_some_iff.1 hu).2
              rw [← this]; rfl
            have HTK : As ((L x.f2).take (i + 1) = (L x.f2).take i ++ [u]) := ⟨by rw [List.take_add_one, hu]; rfl⟩
            have HMEM : As (u ∈ L x.f2) := ⟨List.mem_of_getElem? hu⟩
            clear hu
            by_cases h32 : u.toNat < 32
            · have HF : As (changeB x = false) := ⟨by
                rw [HOK.out]
                have : (L x.f2).all whoOk = false := by
                  rw [Bool.eq_false_iff]
                  intro h
                  have := (whoOk_iff u).1 (List.all_eq_true.1 h u HMEM.out)
                  omega
                rw [this, Bool.and_false]⟩
              have d1 : decide (u.toNat < 32) = true := decide_eq_true h32
              go_wp2_with (fail)
              go_ret
              exact ⟨_, rfl, .inr ⟨HF.out, _, rfl⟩, HBw.out.alloc HBw.out.size _⟩
            by_cases h126 : 126 < u.toNat
            · have HF : As (changeB x = false) := ⟨by
                rw [HOK.out]
                have : (L x.f2).all whoOk = false := by
                  rw [Bool.eq_false_iff]
                  intro h
                  have := (whoOk_iff u).1 (List.all_eq_true.1 h u HMEM.out)
                  omega
                rw [this, Bool.and_false]⟩
              have d1 : decide (u.toNat < 32) = false := decide_eq_false h32
              have d2 : decide (126 < u.toNat) = true := decide_eq_true h126
              go_wp2_with (fail)
              go_ret
              exact ⟨_, rfl, .inr ⟨HF.out, _, rfl⟩, HBw.out.alloc HBw.out.size _⟩
            have d1 : decide (u.toNat < 32) = false := decide_eq_false h32
            have d2 : decide (126 < u.toNat) = false := decide_eq_false h126
            have HALL2 : As (((L x.f2).take (i + 1)).all whoOk = true) := ⟨by
              rw [HTK.out, List.all_append, HALL.out, List.all_cons, (whoOk_iff u).2 ⟨by omega, by omega⟩]; rfl⟩
            go_wp2_with (fail)
            exact ⟨⟨i + 1, by go_num, by omega, HALL2, HB⟩, by simp [intOf]; omega⟩
          · have hin : i = x.f2.size := by omega
            have HT : As (changeB x = true) := ⟨by
              have := HALL.out
              rw [List.take_of_length_le (by rw [L_len]; omega)] at this
              rw [HOK.out, this, decide_eq_true (by omega)]; rfl⟩
            go_wp2_with (fail)
            go_ret
            exact ⟨_, rfl, .inl ⟨HT.out, rfl⟩, HBw.out⟩
    · have hcz : ¬ cap = 1 := by omega
      obtain ⟨srt, hsrt⟩ : ∃ srt, (x.f1.map L).mergeSort (fun a b => decide (a ≤ b)) = srt := ⟨_, rfl⟩
      have hsl : srt.length = n := by rw [← hsrt, List.length_mergeSort, List.length_map, HN.out]
      obtain ⟨m, hm⟩ : ∃ m, (Lib.compact srt).length = m := ⟨_, rfl⟩
      have hmn : m < n ↔ ¬ x.f1.Nodup := by
        have h := compact_sort (x.f1.map L)
        rw [hsrt, hm, List.length_map, HN.out] at h
        rw [h, List.Nodup, List.Nodup, List.pairwise_map]
        refine not_congr ⟨fun h => h.imp (fun h e => h (by rw [e])), fun h => h.imp (fun h e => h (L_inj e))⟩
      have HMN := As.mk hmn
      have hml : m ≤ n := by rw [← hm, ← hsl]; exact Lib.compact_length_le srt
      have HSRT : As (Calls Tryz.prog 32 #[.slice (some ⟨g, 1, none⟩) n (cap - 1)] w6 fun e w' => e = .returned (.tuple #[]) ∧ Holds encStr w' g 1 srt.toArray ∧ Below w0.heap.size w0 w') := ⟨by
        have hgl6 : g < w6.heap.size := Nat.lt_of_lt_of_le HG.out.2 HB6.out.size
        have h6 := holds_below HH.out HG.out.2 HB6.out
        have := Tryz.slices_Sort_string g 1 (cap - 1) (x.f1.map L) w6 h6 hgl6 (by rw [List.length_map, HN.out]; omega)
        rw [List.length_map, HN.out] at this
        refine this.mono ?_
        rintro e w' ⟨rfl, k, os, rfl⟩
        rw [hsrt]
        have hgp : g < (putRow encStr (Sort.ahead w6 k) g 1 srt.toArray).heap.size := by rw [size_putRow]; exact hgl6
        have hbp := put_below (off := 1) HB06.out HG.out.1 k srt.toArray
        refine ⟨rfl, holds_grow (holds_putRow encStr (Sort.ahead w6 k) g 1 (x.f1.map L).toArray srt.toArray h6 (by simp [hsl, HN.out])) hgp os, grow_below hbp os hbp.size⟩⟩
      have HML := As.mk hm
      have HSL := As.mk hsl
      clear hm hsl hsrt hmn
      go_wp2_with (fail)
      refine HSRT.out.mono ?_
      rintro e w7 ⟨rfl, hh7, hb7⟩
      have HB7d : As (Below w0.heap.size w0 w7.drew) := ⟨below_drew hb7⟩
      have HCMP : As (Calls Tryz.prog 132 #[.slice (some ⟨g, 1, none⟩) n (cap - 1)] w7.drew fun e w' => e = .returned (.slice (some ⟨g, 1, none⟩) m (cap - 1)) ∧ Below w0.heap.size w0 w') := ⟨by
        have := Tryz.slices_Compact_string g 1 (cap - 1) srt w7.drew hh7 (by rw [HSL.out]; omega) (by rw [HSL.out]; omega)
        rw [HSL.out, HML.out] at this
        refine this.mono ?_
        rintro e w' ⟨rfl, q, rfl⟩
        exact ⟨rfl, put_below HB7d.out HG.out.1 q _⟩⟩
      clear hh7 hb7
      have hsb : (1 : Int) ≤ (n : Int) + 1 := by omega
      by_cases hlt : m < n
      · have HF : As (changeB x = false) := ⟨by
          have := HMN.out.1 hlt
          unfold changeB
          rw [decide_eq_false this]; simp⟩
        have dA : decide (m < n) = true := decide_eq_true hlt
        have dB : decide ((m : Int) < (n : Int)) = true := decide_eq_true (by omega)
        go_wp2_with (fail)
        refine start_ (n := 14) (S := fun w' => Below w0.heap.size w0 w') (ds := []) (bl_ 14 0) (by kernel_rfl) rfl rfl (HB7d.out) (fun hHeld => ?_)
        refine pv_ 0 25 (bl_ 14 1) ?_
        refine pv_ 1 26 (bl_ 14 3) ?_
        refine pv_ 4 29 (bl_ 14 19) ?_
        refine tk_ 5 30 (bl_ 14 51) hHeld (hv := by intro w' s0; have hc0 := pw_cell_below s0 hd1; go_simp; with_reducible rfl) (h := ?_)
        refine pv_ 6 31 (bl_ 14 115) ?_
        refine one_ (i := 2) (N := some 27) (bl_ 14 119) rfl rfl (by kernel_rfl) (by decide) (fun K hK => ?_)
        refine goes_ Tryz.func132 (by kernel_rfl) rfl #[.slice (some ⟨g, 1, none⟩) n (cap - 1)] (by rfl) rfl rfl (by simp only [List.map_toArray, List.map_cons, List.map_nil]; rfl) ?_
        with_reducible refine (HCMP.out).mono ?_
        rintro e w10 ⟨rfl, hb10⟩
        refine ⟨_, rfl, ?_⟩
        refine hK.out _ _ (hb10) (fun hHeld => ?_)
        clear hK K
        refine norm_ (a' := ?_) ?_ ?_
        rotate_left
        · show Act.put _ (some 27) _ = _
          simp only [Act.put, List.setIfInBounds_toArray, List.set_cons_zero, List.set_cons_succ, i64_w, i32_w]
          rfl
        refine pv_ 3 28 (bl_ 14 127) ?_
        refine pv_ 7 32 (bl_ 14 255) ?_
        refine pv_ 8 33 (bl_ 14 511) ?_
        refine pu_ 9 34 (bl_ 14 1023) ?_
        refine pu_ 10 35 (bl_ 14 2047) ?_
        refine pu_ 11 36 (bl_ 14 4095) ?_
        refine pu_ 12 37 (bl_ 14 8191) ?_
        refine pv_ 13 38 (bl_ 14 16383) ?_
        refine done_ (by kernel_rfl) ?_
        have HB9 := As.mk (HB0.out.trans (hHeld.mono HB0.out.size))
        clear hHeld
        go_wp2_with (fail)
        go_ret
        exact ⟨_, rfl, .inr ⟨HF.out, _, rfl⟩, HB9.out.alloc HB9.out.size _⟩
      · have HOK : As (changeB x = (decide (x.f2.size ≤ 100) && (L x.f2).all whoOk)) := ⟨by
          have h1 : x.f1.Nodup := by
            have := mt HMN.out.2 hlt
            exact Classical.not_not.1 this
          unfold changeB
          have := HNB.out
          rw [this, HN.out, decide_eq_true h1, decide_eq_true (show n ≤ 8 by omega)]; simp⟩
        have dA : decide (m < n) = false := decide_eq_false hlt
        have dB : decide ((m : Int) < (n : Int)) = false := decide_eq_false (by omega)
        go_wp2_with (fail)
        refine start_ (n := 14) (S := fun w' => Below w0.heap.size w0 w') (ds := []) (bl_ 14 0) (by kernel_rfl) rfl rfl (HB7d.out) (fun hHeld => ?_)
        refine pv_ 0 25 (bl_ 14 1) ?_
        refine pv_ 1 26 (bl_ 14 3) ?_
        refine pv_ 4 29 (bl_ 14 19) ?_
        refine tk_ 5 30 (bl_ 14 51) hHeld (hv := by intro w' s0; have hc0 := pw_cell_below s0 hd1; go_simp; with_reducible rfl) (h := ?_)
        refine pv_ 6 31 (bl_ 14 115) ?_
        refine one_ (i := 2) (N := some 27) (bl_ 14 119) rfl rfl (by kernel_rfl) (by decide) (fun K hK => ?_)
        refine goes_ Tryz.func132 (by kernel_rfl) rfl #[.slice (some ⟨g, 1, none⟩) n (cap - 1)] (by rfl) rfl rfl (by simp only [List.map_toArray, List.map_cons, List.map_nil]; rfl) ?_
        with_reducible refine (HCMP.out).mono ?_
        rintro e w10 ⟨rfl, hb10⟩
        refine ⟨_, rfl, ?_⟩
        refine hK.out _ _ (hb10) (fun hHeld => ?_)
        clear hK K
        refine norm_ (a' := ?_) ?_ ?_
        rotate_left
        · show Act.put _ (some 27) _ = _
          simp only [Act.put, List.setIfInBounds_toArray, List.set_cons_zero, List.set_cons_succ, i64_w, i32_w]
          rfl
        refine pv_ 3 28 (bl_ 14 127) ?_
        refine pv_ 7 32 (bl_ 14 255) ?_
        refine pv_ 8 33 (bl_ 14 511) ?_
        refine pv_ 9 34 (bl_ 14 1023) ?_
        refine tk_ 10 35 (bl_ 14 2047) hHeld (hv := by intro w' s0; have hc0 := pw_cell_below s0 hd2; go_simp; with_reducible rfl) (h := ?_)
        refine pv_ 11 36 (bl_ 14 4095) ?_
        refine pv_ 12 37 (bl_ 14 8191) ?_
        refine pv_ 13 38 (bl_ 14 16383) ?_
        refine done_ (by kernel_rfl) ?_
        have HB9 := As.mk (HB0.out.trans (hHeld.mono HB0.out.size))
        have HBx := As.mk hHeld
        clear hHeld
        by_cases h100 : 100 < x.f2.size
        · have d9 : decide (100 < x.f2.size) = true := decide_eq_true h100
          have HF : As (changeB x = false) := ⟨by rw [HOK.out, decide_eq_false (by omega)]; rfl⟩
          go_wp2_with (fail)
          go_ret
          exact ⟨_, rfl, .inr ⟨HF.out, _, rfl⟩, HB9.out.alloc HB9.out.size _⟩
        have d9 : decide (100 < x.f2.size) = false := decide_eq_false h100
        have hk1 := (HD.out _ HBx.out).2
        go_wp2_with (fail)
        go_loopw [45] (fun v45 wr => ∃ i : Nat, v45 = .int .i64 i ∧ i ≤ x.f2.size ∧ As (((L x.f2).take i).all whoOk = true) ∧ As (Below w0.heap.size w0 wr)) (fun v45 _ => x.f2.size - (intOf v45).toNat)
        case atStart => exact ⟨0, rfl, by omega, ⟨by simp⟩, HBx⟩
        case round =>
          obtain ⟨i, rfl, hi, HALL, HB⟩ := hrel
          have hk2 := (HD.out _ HB.out).2
          have HBw := As.mk (HB0.out.trans (HB.out.mono HB0.out.size))
          by_cases hlt : i < x.f2.size
          · obtain ⟨u, hu⟩ : ∃ u, (L x.f2)[i]? = some u := ⟨_, List.getElem?_eq_getElem (by rw [L_len]; exact hlt)⟩
            have hix : ∀ h : i < x.f2.size, x.f2[i]'h = u := fun h => by
              have := (List.getElem?_eq_some_iff.1 hu).2
              rw [← this]; rfl
            have HTK : As ((L x.f2).take (i + 1) = (L x.f2).take i ++ [u]) := ⟨by rw [List.take_add_one, hu]; rfl⟩
            have HMEM : As (u ∈ L x.f2) := ⟨List.mem_of_getElem? hu⟩
            clear hu
            by_cases h32 : u.toNat < 32
            · have HF : As (changeB x = false) := ⟨by
                rw [HOK.out]
                have : (L x.f2).all whoOk = false := by
                  rw [Bool.eq_false_iff]
                  intro h
                  have := (whoOk_iff u).1 (List.all_eq_true.1 h u HMEM.out)
                  omega
                rw [this, Bool.and_false]⟩
              have d1 : decide (u.toNat < 32) = true := decide_eq_true h32
              go_wp2_with (fail)
              go_ret
              exact ⟨_, rfl, .inr ⟨HF.out, _, rfl⟩, HBw.out.alloc HBw.out.size _⟩
            by_cases h126 : 126 < u.toNat
            · have HF : As (changeB x = false) := ⟨by
                rw [HOK.out]
                have : (L x.f2).all whoOk = false := by
                  rw [Bool.eq_false_iff]
                  intro h
                  have := (whoOk_iff u).1 (List.all_eq_true.1 h u HMEM.out)
                  omega
                rw [this, Bool.and_false]⟩
              have d1 : decide (u.toNat < 32) = false := decide_eq_false h32
              have d2 : decide (126 < u.toNat) = true := decide_eq_true h126
              go_wp2_with (fail)
              go_ret
              exact ⟨_, rfl, .inr ⟨HF.out, _, rfl⟩, HBw.out.alloc HBw.out.size _⟩
            have d1 : decide (u.toNat < 32) = false := decide_eq_false h32
            have d2 : decide (126 < u.toNat) = false := decide_eq_false h126
            have HALL2 : As (((L x.f2).take (i + 1)).all whoOk = true) := ⟨by
              rw [HTK.out, List.all_append, HALL.out, List.all_cons, (whoOk_iff u).2 ⟨by omega, by omega⟩]; rfl⟩
            go_wp2_with (fail)
            exact ⟨⟨i + 1, by go_num, by omega, HALL2, HB⟩, by simp [intOf]; omega⟩
          · have hin : i = x.f2.size := by omega
            have HT : As (changeB x = true) := ⟨by
              have := HALL.out
              rw [List.take_of_length_le (by rw [L_len]; omega)] at this
              rw [HOK.out, this, decide_eq_true (by omega)]; rfl⟩
            go_wp2_with (fail)
            go_ret
            exact ⟨_, rfl, .inl ⟨HT.out, rfl⟩, HBw.out⟩
end Go.Proofs.YtehmhfbfgniekaaGreatDoor.Ob

namespace Go.Proofs.YtehmhfbfgniekaaGreatDoor.Ob
set_option linter.unusedVariables false
set_option linter.unusedSimpArgs false
open Go Go.RowKit Go.Proofs.YtehmhfbfgniekaaGreatDoorW.PrintWords Go.Proofs.YtehmhfbfgniekaaGreatDoorW.PrintLast Go.Proofs.YtehmhfbfgniekaaGreatDoorW.PrintMore PObBase PObDoc
set_option maxHeartbeats 16000000 in
set_option maxRecDepth 100000 in
theorem putChange_walk (A : Option Addr) (n c : Nat) (x : Chg) (hz : Csh x) (w : World) (hC : Kd.C Kd.string w A n x.f1) (hn : x.f1.length = n) (hc : n ≤ c) :
    Calls Tryz.prog 91 #[.agg #[.string x.f0, .slice A n c, .string x.f2, .string x.f3]] w fun e w' => e = .returned (.tuple #[.string (putChange x).1, .bool (putChange x).2]) ∧ Below w.heap.size w w' := by
  obtain ⟨w0, hw0⟩ : ∃ w0, w.alloc (.cells #[.string x.f0, .slice A n c, .string x.f2, .string x.f3] 71) = w0 := ⟨_, rfl⟩
  have hb0 : Below w.heap.size w w0 := by rw [← hw0]; exact (Below.refl _ _).alloc (Nat.le_refl _) _
  have hnew : w0.heap[w.heap.size]? = some (.cells #[.string x.f0, .slice A n c, .string x.f2, .string x.f3] 71 (0, 0)) := by rw [← hw0]; exact blk_new w _
  have hd0 : w0.cell? ⟨w.heap.size, 0, none⟩ = some (.string x.f0) := (blk_cell hnew 0).trans rfl
  have hd1 : w0.cell? ⟨w.heap.size, 1, none⟩ = some (.slice A n c) := (blk_cell hnew 1).trans rfl
  have hd2 : w0.cell? ⟨w.heap.size, 2, none⟩ = some (.string x.f2) := (blk_cell hnew 2).trans rfl
  have hd3 : w0.cell? ⟨w.heap.size, 3, none⟩ = some (.string x.f3) := (blk_cell hnew 3).trans rfl
  have HD : As (∀ W2 : World, Below w0.heap.size w0 W2 → W2.cell? ⟨w.heap.size, 0, none⟩ = some (.string x.f0) ∧ W2.cell? ⟨w.heap.size, 1, none⟩ = some (.slice A n c) ∧ W2.cell? ⟨w.heap.size, 2, none⟩ = some (.string x.f2) ∧ W2.cell? ⟨w.heap.size, 3, none⟩ = some (.string x.f3)) := ⟨fun W2 h => ⟨pw_cell_below h hd0, pw_cell_below h hd1, pw_cell_below h hd2, pw_cell_below h hd3⟩⟩
  have HCH := As.mk (change_walk A n c x hz w0 (Kd.C_below hC hb0) hn hc)
  have HC0 := As.mk (Kd.C_below hC hb0)
  have HB0 := As.mk hb0
  have HZ := As.mk hz
  have HN := As.mk hn
  clear hb0 hnew hz hn hC
  go_enter Tryz.func91, Tryz.ntmps91
  go_wp2_with (fail)
  refine HCH.out.mono ?_
  rintro e w1 ⟨v, rfl, hv, hb⟩
  have HB1 := As.mk hb
  clear hb hd0 hd1 hd2 hd3
  rcases hlb : changeB x with _ | _
  · have HP : As (putChange x = (⟨#[]⟩, false)) := ⟨by rw [putChange, if_neg (by rw [hlb]; simp)]⟩
    rw [hlb] at hv
    rcases hv with ⟨h, _⟩ | ⟨_, a, rfl⟩
    · cases h
    go_wp2_with (fail)
    refine (fine_wrong a _).mono ?_
    rintro e w2 ⟨rfl, hb⟩
    have HB2 := As.mk (HB0.out.trans ((HB1.out.trans (hb.mono HB1.out.size)).mono HB0.out.size))
    clear hb
    go_wp2_with (fail)
    go_ret2
    rw [HP.out]
    exact ⟨rfl, HB2.out⟩
  have HP : As (putChange x = (bs (changeL x), true)) := ⟨by rw [putChange, if_pos hlb]⟩
  rw [hlb] at hv
  rcases hv with ⟨_, rfl⟩ | ⟨h, _⟩
  rotate_left
  · cases h
  obtain ⟨gn, gps, g8, _, gw, _⟩ := change_parts hlb
  have gz : x.f0.size = 64 := nm_size gn
  have HPS : As (∀ p ∈ x.f1, p.size = 64) := ⟨fun p hp => nm_size (gps p hp)⟩
  have hn8 : n ≤ 8 := by rw [← HN.out]; exact g8
  have HT3 := As.mk HZ.out.h3
  clear hlb gn gps g8
  go_wp2_with (fail)
  refine (fine_nil _).mono ?_
  rintro e w2 ⟨rfl, hb⟩
  have HB2 := As.mk (HB1.out.trans (hb.mono HB1.out.size))
  clear hb
  obtain ⟨w3, hw3⟩ : ∃ w3, w2.alloc (.cells #[.pointer none, .slice none 0 0] 152) = w3 := ⟨_, rfl⟩
  have HBU : As (Lib.IsBuilderF 152 5 w2.heap.size w2.heap.size (Lib.byteCells []) w3) := ⟨by
    have := Lib.IsBuilderF.of (Lib.fresh_isBuilder 152 5 w2)
    rw [← hw3]; exact this⟩
  have HB3 : As (Below w0.heap.size w0 w3) := ⟨by rw [← hw3]; exact HB2.out.alloc HB2.out.size _⟩
  have HS2 := As.mk HB2.out.size
  have HS3 : As (w2.heap.size < w3.heap.size) := ⟨by rw [← hw3, World.size_alloc]; omega⟩
  obtain ⟨he0, he1, he2, he3⟩ := HD.out _ HB3.out
  go_wp2_with (fail)
  refine (Db.writeString_k w2.heap.size w2.heap.size (Lib.byteCells []) ((⟨#[116, 114, 101, 101, 32]⟩ : ByteArray) ++ x.f0 ++ (⟨#[10]⟩ : ByteArray)) _ HBU.out (by rw [← L_len, txt_tree]; simp [lineL, wTree, Lib.byteCells, gz]) (Nat.le_of_lt HS3.out)).mono ?_
  rintro e w4 ⟨rfl, hu4, hb4, _⟩
  have HU4 : As (Lib.IsBuilderF 152 5 w2.heap.size w2.heap.size (Lib.byteCells (preL x 0)) w4) := ⟨by
    rw [cells_app, txt_tree, List.nil_append] at hu4
    have e : preL x 0 = lineL wTree (L x.f0) := by simp [preL]
    rw [e]; exact .inr hu4⟩
  have HB4 := As.mk (HB3.out.trans (hb4.mono HS2.out))
  have HS4 := As.mk (Nat.lt_of_lt_of_le HS3.out hb4.size)
  obtain ⟨hf0, hf1, hf2, hf3⟩ := HD.out _ HB4.out
  clear hu4 hb4 he0 he1 he2 he3 hw3
  go_wp2_with (fail)
  go_loopw [19] (fun v19 wr => ∃ i : Nat, v19 = .int .i64 i ∧ i ≤ n ∧ As (Lib.IsBuilderF 152 5 w2.heap.size w2.heap.size (Lib.byteCells (preL x i)) wr) ∧ As (Below w0.heap.size w0 wr) ∧ As (w2.heap.size < wr.heap.size)) (fun v19 _ => n - (intOf v19).toNat)
  case atStart => exact ⟨0, rfl, by omega, HU4, HB4, HS4⟩
  case round =>
    obtain ⟨i, rfl, hi, HU, HB, HS⟩ := hrel
    by_cases hlt : i < n
    · have hil : i < x.f1.length := by rw [HN.out]; exact hlt
      obtain ⟨ad, rfl, hp0⟩ := at_str (Kd.C_below HC0.out HB.out) (i : Int) (by omega) (by omega)
      rw [Int.toNat_natCast] at hp0
      obtain ⟨p, hp⟩ : ∃ p, rd_str x.f1 (i : Int) = p := ⟨_, rfl⟩
      have HX := As.mk (rd_str_at hil hp)
      rw [hp] at hp0
      have hps : p.size = 64 := HPS.out p (List.mem_of_getElem? HX.out)
      clear hp hil
      go_wp2_with (fail)
      refine (Db.writeString_k w2.heap.size w2.heap.size (Lib.byteCells (preL x i)) ((⟨#[112, 97, 114, 101, 110, 116, 32]⟩ : ByteArray) ++ p ++ (⟨#[10]⟩ : ByteArray)) _ HU.out (by
        have h1 := preL_len gz HPS.out i
        have h2 : ((⟨#[112, 97, 114, 101, 110, 116, 32]⟩ : ByteArray) ++ p ++ (⟨#[10]⟩ : ByteArray)).size = 72 := by rw [← L_len, txt_parent]; simp [lineL, wParent, hps]
        rw [h2, Lib.byteCells_length]; omega) (Nat.le_of_lt HS.out)).mono ?_
      rintro e w5 ⟨rfl, hu5, hb5, _⟩
      have HU5 : As (Lib.IsBuilderF 152 5 w2.heap.size w2.heap.size (Lib.byteCells (preL x (i + 1))) w5) := ⟨by
        rw [cells_app, txt_parent, ← preL_step HX.out] at hu5
        exact .inr hu5⟩
      have HB5 := As.mk (HB.out.trans (hb5.mono HS2.out))
      have HS5 := As.mk (Nat.lt_of_lt_of_le HS.out hb5.size)
      clear hu5 hb5
      go_wp2_with (fail)
      exact ⟨⟨i + 1, by go_num, by omega, HU5, HB5, HS5⟩, by simp [intOf]; omega⟩
    · have hin : i = n := by omega
      subst hin
      obtain ⟨hh0, hh1, hh2, hh3⟩ := HD.out _ HB.out
      have t3 := HT3.out
      have z1 : ¬ 9223372036854775807 < 4 + x.f2.size := by omega
      have z2 : ¬ 9223372036854775807 < 4 + x.f2.size + 2 := by omega
      have z3 : ¬ 9223372036854775807 < 4 + x.f2.size + 2 + x.f3.size := by omega
      go_wp2_with (fail)
      refine (Db.writeString_k w2.heap.size w2.heap.size (Lib.byteCells (preL x i)) ((⟨#[119, 104, 111, 32]⟩ : ByteArray) ++ x.f2 ++ (⟨#[10, 10]⟩ : ByteArray) ++ x.f3) _ HU.out (by
        have h1 := preL_len gz HPS.out i
        have h2 : ((⟨#[119, 104, 111, 32]⟩ : ByteArray) ++ x.f2 ++ (⟨#[10, 10]⟩ : ByteArray) ++ x.f3).size = 4 + x.f2.size + 2 + x.f3.size := by simp [ByteArray.size_append]; rfl
        rw [h2, Lib.byteCells_length]; omega) (Nat.le_of_lt HS.out)).mono ?_
      rintro e w5 ⟨rfl, hu5, hb5, _⟩
      have HU5 : As (Lib.IsBuilderF 152 5 w2.heap.size w2.heap.size (Lib.byteCells (changeL x)) w5) := ⟨by
        rw [cells_app, txt_who, change_all_text HN.out] at hu5
        exact .inr hu5⟩
      have HB5 := As.mk (HB.out.trans (hb5.mono HS2.out))
      have HS5 := As.mk (Nat.lt_of_lt_of_le HS.out hb5.size)
      have hne : changeL x ≠ [] := by unfold changeL lineL; simp
      clear hu5 hb5 z1 z2 z3 t3 hh0 hh1 hh2 hh3
      go_wp2_with (fail)
      refine (Tryz.Builder_String_f w2.heap.size w2.heap.size (changeL x) _ HU5.out hne).mono ?_
      rintro e w6 ⟨rfl, _, hb6⟩
      have HB6 := As.mk (HB0.out.trans ((HB5.out.trans (hb6.mono HS2.out)).mono HB0.out.size))
      clear hb6
      go_wp2_with (fail)
      go_ret2
      rw [HP.out]
      exact ⟨rfl, HB6.out⟩
end Go.Proofs.YtehmhfbfgniekaaGreatDoor.Ob

namespace Go.Proofs.YtehmhfbfgniekaaGreatDoor.Ob
set_option linter.unusedVariables false
set_option linter.unusedSimpArgs false
open Go Go.RowKit Go.Proofs.YtehmhfbfgniekaaGreatDoorW.PrintWords Go.Proofs.YtehmhfbfgniekaaGreatDoorW.PrintLast Go.Proofs.YtehmhfbfgniekaaGreatDoorW.PrintMore PObBase PObDoc
theorem line_at (b : Nat) (r : Rd) (wd : ByteArray) (wl v : List UInt8) (r2 : Rd) (w : World) (h : RdAt w b r) (hs : r.rest.length ≤ 1000000000) (hw : wd.size ≤ 1000) (hl : L wd = wl) (he : readLine wl r = (v, r2)) :
    Calls Tryz.prog 88 #[.pointer (some ⟨b, 0, none⟩), .string wd] w fun e w' => e = .returned (.string (bs v)) ∧ RdAt w' b r2 ∧ Below b w w' ∧ ∀ k, k < w.heap.size → k ≠ b → w'.heap[k]? = w.heap[k]? := by
  have := line_walk b r wd w h hs hw
  rw [hl, he] at this
  exact this
theorem RdAt.move {w w' : World} {b : Nat} {r : Rd} (h : RdAt w b r) (hb : w'.heap[b]? = w.heap[b]?) : RdAt w' b r := by
  obtain ⟨v, h1, h2⟩ := h
  exact ⟨v, h1, hb.trans h2⟩
theorem RdAt.lt {w : World} {b : Nat} {r : Rd} (h : RdAt w b r) : b < w.heap.size := by
  obtain ⟨v, _, h2⟩ := h
  exact blk_lt h2
structure Lp (wa : World) (br b5 : Nat) (tv t2 t3 : ByteArray) (acc : List ByteArray) (r : Rd) (v : Value) (wr : World) : Prop where
  hk : wr.heap[b5]? = some (.cells #[.string tv, v, .string t2, .string t3] 71 (0, 0))
  hrd : RdAt wr br r
  hr : Kd.R Kd.string 9 wr (b5 + 1) (fun _ => True) v acc
  hb : Below br wa wr
  hs : b5 + 1 ≤ wr.heap.size
  hbr : br < b5
theorem Lp.below {wa wr w' : World} {br b5 : Nat} {tv t2 t3 : ByteArray} {acc : List ByteArray} {r : Rd} {v : Value} (h : Lp wa br b5 tv t2 t3 acc r v wr) (hb : Below wr.heap.size wr w') : Lp wa br b5 tv t2 t3 acc r v w' where
  hk := (hb.block b5 (blk_lt h.hk)).trans h.hk
  hrd := h.hrd.move (hb.block br h.hrd.lt)
  hr := Kd.R_below h.hr hb
  hb := h.hb.trans (hb.mono (Nat.le_of_lt h.hrd.lt))
  hs := Nat.le_trans h.hs hb.size
  hbr := h.hbr
theorem row_but {w w' : World} {base : Nat} {v : Value} {acc : List ByteArray} (h : Kd.R Kd.string 9 w base (fun _ => True) v acc) (hk : ∀ k, base ≤ k → k < w.heap.size → w'.heap[k]? = w.heap[k]?) : Kd.R Kd.string 9 w' base (fun _ => True) v acc :=
  Kd.R_mono (Kd.R_move (Kd.R_bound h) (fun k hk2 => hk k hk2.2.1 hk2.2.2.1)) (fun _ _ => trivial)
theorem Lp.read {wa wr w' : World} {br b5 : Nat} {tv t2 t3 : ByteArray} {acc : List ByteArray} {r r2 : Rd} {v : Value} (h : Lp wa br b5 tv t2 t3 acc r v wr) (hrd : RdAt w' br r2) (hb : Below br wr w') (hk : ∀ k, k < wr.heap.size → k ≠ br → w'.heap[k]? = wr.heap[k]?) : Lp wa br b5 tv t2 t3 acc r2 v w' where
  hk := (hk b5 (blk_lt h.hk) (Nat.ne_of_gt h.hbr)).trans h.hk
  hrd := hrd
  hr := row_but h.hr (fun k h1 h2 => hk k h2 (by have := h.hbr; omega))
  hb := h.hb.trans hb
  hs := Nat.le_trans h.hs hb.size
  hbr := h.hbr
theorem Lp.put {wa wr w1 : World} {br b5 : Nat} {tv t2 t3 : ByteArray} {acc acc1 : List ByteArray} {r : Rd} {v v1 : Value} (h : Lp wa br b5 tv t2 t3 acc r v wr) (hr : Kd.R Kd.string 9 w1 (b5 + 1) (fun _ => True) v1 acc1) (hb : Below (b5 + 1) wr w1) : Lp wa br b5 tv t2 t3 acc1 r v1 (w1.setCell ⟨b5, 1, none⟩ v1) where
  hk := by
    have := (hb.block b5 (Nat.lt_succ_self _)).trans h.hk
    simp [World.setCell, Array.getElem?_modify, this]
  hrd := h.hrd.move (by
    rw [set_other (Nat.ne_of_lt h.hbr)]
    exact hb.block br (by have := h.hbr; omega))
  hr := row_but hr (fun k h1 h2 => set_other (by omega) _ _)
  hb := (h.hb.trans (hb.mono (by have := h.hbr; omega))).setCell (p := ⟨b5, 1, none⟩) (Nat.le_of_lt h.hbr) _
  hs := by
    have := (Below.refl 0 w1).setCell (p := ⟨b5, 1, none⟩) (Nat.zero_le _) v1
    exact Nat.le_trans h.hs (Nat.le_trans hb.size this.size)
  hbr := h.hbr
theorem Lp.set2 {wa wr : World} {br b5 : Nat} {tv t2 t3 : ByteArray} {acc : List ByteArray} {r : Rd} {v : Value} (h : Lp wa br b5 tv t2 t3 acc r v wr) (x : ByteArray) : Lp wa br b5 tv x t3 acc r v (wr.setCell ⟨b5, 2, none⟩ (.string x)) where
  hk := by
    have := h.hk
    simp [World.setCell, Array.getElem?_modify, this]
  hrd := h.hrd.move (set_other (Nat.ne_of_lt h.hbr) _ _)
  hr := row_but h.hr (fun k h1 h2 => set_other (by omega) _ _)
  hb := h.hb.setCell (p := ⟨b5, 2, none⟩) (Nat.le_of_lt h.hbr) _
  hs := by
    have := (Below.refl 0 wr).setCell (p := ⟨b5, 2, none⟩) (Nat.zero_le _) (.string x)
    exact Nat.le_trans h.hs this.size
  hbr := h.hbr
theorem Lp.set3 {wa wr : World} {br b5 : Nat} {tv t2 t3 : ByteArray} {acc : List ByteArray} {r : Rd} {v : Value} (h : Lp wa br b5 tv t2 t3 acc r v wr) (x : ByteArray) : Lp wa br b5 tv t2 x acc r v (wr.setCell ⟨b5, 3, none⟩ (.string x)) where
  hk := by
    have := h.hk
    simp [World.setCell, Array.getElem?_modify, this]
  hrd := h.hrd.move (set_other (Nat.ne_of_lt h.hbr) _ _)
  hr := row_but h.hr (fun k h1 h2 => set_other (by omega) _ _)
  hb := h.hb.setCell (p := ⟨b5, 3, none⟩) (Nat.le_of_lt h.hbr) _
  hs := by
    have := (Below.refl 0 wr).setCell (p := ⟨b5, 3, none⟩) (Nat.zero_le _) (.string x)
    exact Nat.le_trans h.hs this.size
  hbr := h.hbr
theorem size_chg : (Tryz.prog.info? 71).map (·.size) = some 4 := by kernel_rfl
def set4 (w : World) (g : Nat) (a b c d : Value) : World := (((w.setCell ⟨g, 0, none⟩ a).setCell ⟨g, 1, none⟩ b).setCell ⟨g, 2, none⟩ c).setCell ⟨g, 3, none⟩ d
theorem set4_at {w : World} {g : Nat} {a b c d a0 b0 c0 d0 : Value} {T : TypeId} (h : w.heap[g]? = some (.cells #[a0, b0, c0, d0] T (0, 0))) : (set4 w g a b c d).heap[g]? = some (.cells #[a, b, c, d] T (0, 0)) := by
  unfold set4
  simp [World.setCell, Array.getElem?_modify, h]
theorem set4_other {w : World} {g k : Nat} {a b c d : Value} (h : k ≠ g) : (set4 w g a b c d).heap[k]? = w.heap[k]? := by
  unfold set4
  rw [set_other h, set_other h, set_other h, set_other h]
theorem set4_below {B : Nat} {w0 w : World} {g : Nat} {a b c d : Value} (h : Below B w0 w) (hg : B ≤ g) : Below B w0 (set4 w g a b c d) := by
  unfold set4
  exact (((h.setCell (p := ⟨g, 0, none⟩) hg _).setCell (p := ⟨g, 1, none⟩) hg _).setCell (p := ⟨g, 2, none⟩) hg _).setCell (p := ⟨g, 3, none⟩) hg _
def HkAt (b5 : Nat) (tv : ByteArray) (v : Value) (w' : World) : Prop := w'.heap[b5]? = some (.cells #[.string tv, v, .string ⟨#[]⟩, .string ⟨#[]⟩] 71 (0, 0))
theorem rdC_eqs (s : ByteArray) : ∃ v1 r1 ps r2 v3 r3 v4 r4, readLine wTree ⟨L s, true⟩ = (v1, r1) ∧ readPs (s.size + 1) r1 = (ps, r2) ∧ readLine wWho r2 = (v3, r3) ∧ readText r3 = (v4, r4) ∧ parseC s = ⟨bs v1, ps, bs v3, bs v4⟩ ∧ (rdC4 s).2.ok = r4.ok ∧ r1.rest.length ≤ s.size ∧ r2.rest.length ≤ s.size ∧ r3.rest.length ≤ s.size := by
  obtain ⟨_, b, _, _, c, _, d, _⟩ := rdC_le s
  exact ⟨(rdC1 s).1, (rdC1 s).2, (rdC2 s).1, (rdC2 s).2, (rdC3 s).1, (rdC3 s).2, (rdC4 s).1, (rdC4 s).2, rfl, rfl, rfl, rfl, rfl, rfl, b, c, d⟩
set_option maxHeartbeats 16000000 in
set_option maxRecDepth 100000 in
theorem getChange_walk (s : ByteArray) (hs : s.size ≤ 400000000) (w : World) :
    Calls Tryz.prog 66 #[.string s] w fun e w' => ∃ v1, e = .returned (.tuple #[.agg #[.string (getChange s).1.f0, v1, .string (getChange s).1.f2, .string (getChange s).1.f3], .bool (getChange s).2]) ∧ Kd.R Kd.string 9 w' w.heap.size (fun _ => True) v1 (getChange s).1.f1 ∧ Below w.heap.size w w' := by
  obtain ⟨v1, r1, ps, r2, v3, r3, v4, r4, e1, e2, e3, e4, hpc, hok, l1, l2, l3⟩ := rdC_eqs s
  have hsh := parseC_sh (s := s) (by omega)
  rw [hpc] at hsh
  have hgc : getChange s = finC s ⟨bs v1, ps, bs v3, bs v4⟩ r4.ok := by rw [getChange_fin, hpc, hok]
  rw [hgc]
  clear hgc hok hpc
  obtain ⟨wa, hwa⟩ : ∃ wa, w.alloc (.cells #[.string ⟨#[]⟩, .slice none 0 0, .string ⟨#[]⟩, .string ⟨#[]⟩] 71) = wa := ⟨_, rfl⟩
  have hsa : wa.heap.size = w.heap.size + 1 := by rw [← hwa, World.size_alloc]
  have hba : Below w.heap.size w wa := by rw [← hwa]; exact (Below.refl _ _).alloc (Nat.le_refl _) _
  have hka : wa.heap[w.heap.size]? = some (.cells #[.string ⟨#[]⟩, .slice none 0 0, .string ⟨#[]⟩, .string ⟨#[]⟩] 71 (0, 0)) := by rw [← hwa]; exact blk_new w _
  obtain ⟨wb, hwb⟩ : ∃ wb, wa.alloc (.cells #[.string s, .nilIface] 127) = wb := ⟨_, rfl⟩
  have hsb : wb.heap.size = wa.heap.size + 1 := by rw [← hwb, World.size_alloc]
  have hbb : Below wa.heap.size wa wb := by rw [← hwb]; exact (Below.refl _ _).alloc (Nat.le_refl _) _
  have HRD : As (RdAt wb (w.heap.size + 1) ⟨L s, true⟩) := ⟨.nilIface, .inl ⟨rfl, rfl⟩, by rw [← hsa, ← hwb, bs_L]; exact blk_new wa _⟩
  rw [hsa] at hbb hsb
  have HL1 := As.mk (line_at (w.heap.size + 1) ⟨L s, true⟩ ⟨#[116, 114, 101, 101]⟩ wTree v1 r1 wb HRD.out (by show (L s).length ≤ _; rw [L_len]; omega) (by decide) rfl e1)
  have HA := As.mk (And.intro hba hka)
  have HB := As.mk hbb
  have HSB := As.mk hsb
  have HE := As.mk (And.intro e2 (And.intro e3 e4))
  have HLE := As.mk (And.intro l1 (And.intro l2 l3))
  have HSH := As.mk hsh
  clear e1 e2 e3 e4 l1 l2 l3 hsh hba hka hbb
  obtain ⟨tv, htv⟩ : ∃ tv, bs v1 = tv := ⟨_, rfl⟩
  rw [htv] at HL1 HSH ⊢
  clear htv
  go_enter Tryz.func66, Tryz.ntmps66
  go_wp2_with (fail)
  refine HL1.out.mono ?_
  rintro e wc ⟨rfl, hr1, hbc, hkc⟩
  obtain ⟨wd, hwd⟩ : ∃ wd, wc.alloc (.cells #[.string tv, .slice none 0 0, .string ⟨#[]⟩, .string ⟨#[]⟩] 71) = wd := ⟨_, rfl⟩
  have hbr : w.heap.size + 1 < wc.heap.size := hr1.lt
  have hkd : wd.heap[wc.heap.size]? = some (.cells #[.string tv, .slice none 0 0, .string ⟨#[]⟩, .string ⟨#[]⟩] 71 (0, 0)) := by rw [← hwd]; exact blk_new wc _
  have hsd : wd.heap.size = wc.heap.size + 1 := by rw [← hwd, World.size_alloc]
  have hbd : Below (w.heap.size + 1) wa wd := by
    rw [← hwd]
    have := HB.out.trans hbc
    exact this.alloc (by rw [← hsa]; exact this.size) _
  have HRD0 : As (RdAt wd (w.heap.size + 1) r1) := ⟨hr1.move (by
    rw [← hwd]
    exact ((Below.refl wc.heap.size wc).alloc (Nat.le_refl _) _).block _ hbr)⟩
  obtain ⟨b5, hb5⟩ : ∃ b5, wc.heap.size = b5 := ⟨_, rfl⟩
  have HKD : As (wd.heap[b5]? = some (.cells #[.string tv, .slice none 0 0, .string ⟨#[]⟩, .string ⟨#[]⟩] 71 (0, 0))) := ⟨by rw [← hb5]; exact hkd⟩
  have HSD : As (w.heap.size + 1 < b5 ∧ wd.heap.size = b5 + 1) := ⟨by rw [← hb5]; exact ⟨hbr, hsd⟩⟩
  have HBD := As.mk hbd
  have HWD := As.mk hwd
  clear hkd hsd hbd hr1 hbc hkc hbr hwa hwb hsa hsb hwd
  go_wp2_with (fail)
  rw [HWD.out]
  clear HWD hb5
  have HACC0 : As ([] ++ (readPs (s.size + 1) r1).1 = ps ∧ (readPs (s.size + 1) r1).2 = r2) := ⟨by rw [HE.out.1]; exact ⟨rfl, rfl⟩⟩
  have HK0 : As (r1.ok = true → r1.rest.length < s.size + 1) := ⟨fun _ => by have := HLE.out.1; omega⟩
  have HL0 : As (r1.rest.length ≤ s.size) := ⟨HLE.out.1⟩
  have HLP0 : As (Lp wa (w.heap.size + 1) b5 tv ⟨#[]⟩ ⟨#[]⟩ [] r1 (.slice none 0 0) wd) := ⟨⟨HKD.out, HRD0.out, Kd.R_nil _ _ _ _ _, HBD.out, by rw [HSD.out.2]; exact Nat.le_refl _, HSD.out.1⟩⟩
  go_loopg [] (s.size + 1) (fun kq wr => ∃ (acc : List ByteArray) (r : Rd) (v : Value), As (Lp wa (w.heap.size + 1) b5 tv ⟨#[]⟩ ⟨#[]⟩ acc r v wr) ∧ As (acc ++ (readPs kq r).1 = ps ∧ (readPs kq r).2 = r2) ∧ As (r.ok = true → r.rest.length < kq) ∧ As (r.rest.length ≤ s.size) ∧ As (acc.length + kq ≤ s.size + 1))
  case atStart => exact ⟨[], r1, _, HLP0, HACC0, HK0, HL0, ⟨by simp⟩⟩
  case round =>
    clear HACC0 HK0 HL0 HLP0 HKD HRD0 HBD HL1 HRD
    obtain ⟨acc, r, v, HLP, HACC, HOK, HLN, HAL⟩ := hrel
    obtain ⟨ev, hev, hkr⟩ := HLP.out.hrd
    have hd0 := (blk_cell hkr 0).trans rfl
    obtain ⟨pre, hpre⟩ : ∃ pre, (wParent ++ [32]).isPrefixOf r.rest = pre := ⟨_, rfl⟩
    have HPRE := As.mk hpre
    have HHP : As (strings_HasPrefix.f (bs r.rest) ⟨#[112, 97, 114, 101, 110, 116, 32]⟩ = some pre) := ⟨by
      unfold strings_HasPrefix.f
      rw [hasp_eq _ _ (by rw [bs_size]; have := HLN.out; omega), L_bs, ← hpre]; rfl⟩
    clear hpre hkr
    go_wp2_with (fail)
    refine (strings_HasPrefix.calls _ _ _ _ HHP.out).mono ?_
    rintro e wq ⟨rfl, hdr⟩
    have HLQ := As.mk (HLP.out.below hdr.below)
    obtain ⟨ev, hev, hkr⟩ := HLQ.out.hrd
    have hd1 : wq.cell? ⟨w.heap.size + 1, 1, none⟩ = some ev := (blk_cell hkr 1).trans rfl
    clear hkr hd0 hdr HLP
    rcases hev with ⟨hok, rfl⟩ | ⟨hok, ea, rfl⟩
    · cases pre with
      | true =>
        cases gk with
        | zero => exact absurd (HOK.out hok) (by omega)
        | succ k1 =>
          obtain ⟨vl, rl, hvl⟩ : ∃ vl rl, readLine wParent r = (vl, rl) := ⟨_, _, rfl⟩
          have hle := readLine_le wParent r
          rw [hvl] at hle
          have HLE2 := As.mk hle
          have HACC2 : As ((acc ++ [bs vl]) ++ (readPs k1 rl).1 = ps ∧ (readPs k1 rl).2 = r2) := ⟨by
            have := HACC.out
            rw [readPs, if_pos ⟨HPRE.out, hok⟩, hvl] at this
            rw [List.append_assoc]; exact this⟩
          have HLNE := As.mk (line_at (w.heap.size + 1) r ⟨#[112, 97, 114, 101, 110, 116]⟩ wParent vl rl wq.drew (HLQ.out.below (below_drew (Below.refl _ _))).hrd (by have := HLN.out; omega) (by decide) rfl hvl)
          have HLD := As.mk (HLQ.out.below (below_drew (Below.refl _ _)))
          have HOKr := As.mk hok
          clear hvl hle
          go_wp2_with (fail)
          clear hd1
          refine start_ (n := 8) (S := HkAt b5 tv v) (ds := [7]) (bl_ 8 0) (by kernel_rfl) rfl rfl (HLD.out.hk) (fun hHeld => ?_)
          refine pv_ 0 26 (bl_ 8 1) ?_
          refine pv_ 2 28 (bl_ 8 5) ?_
          refine tk_ 1 27 (bl_ 8 7) hHeld (hv := by intro w' s0; have hc := blk_cell (show w'.heap[b5]? = _ from s0) 1; go_simp; with_reducible rfl) (h := ?_)
          refine one_ (i := 3) (N := some 29) (bl_ 8 15) rfl rfl (by kernel_rfl) (by decide) (fun K hK => ?_)
          refine goes_ Tryz.func88 (by kernel_rfl) rfl #[.pointer (some ⟨w.heap.size + 1, 0, none⟩), .string ⟨#[112, 97, 114, 101, 110, 116]⟩] (by rfl) rfl rfl (by simp only [List.map_toArray, List.map_cons, List.map_nil]; rfl) ?_
          with_reducible refine (HLNE.out).mono ?_
          rintro e w10 ⟨rfl, hrd10, hb10, hk10⟩
          refine ⟨_, rfl, ?_⟩
          have HL10 := As.mk (HLD.out.read hrd10 hb10 hk10)
          refine hK.out _ _ (HL10.out.hk) (fun hHeld => ?_)
          clear hK K
          refine norm_ (a' := ?_) ?_ ?_
          rotate_left
          · show Act.put _ (some 29) _ = _
            simp only [Act.put, List.setIfInBounds_toArray, List.set_cons_zero, List.set_cons_succ, i64_w, i32_w]
            rfl
          refine one_ (i := 4) (N := some 30) (bl_ 8 31) rfl rfl (by kernel_rfl) (by decide) (fun K hK => ?_)
          refine value_ (v := .slice (some ⟨w10.heap.size, 0, none⟩) 1 1) (w1 := w10.alloc (.cells #[.string (bs vl)] 9)) rfl rfl ?_ ?_
          · go_simp
            first | done | with_reducible rfl
          refine hK.out _ _ ((((Below.refl w10.heap.size w10).alloc (Nat.le_refl _) _).block b5 (blk_lt HL10.out.hk)).trans HL10.out.hk) (fun hHeld => ?_)
          clear hK K
          refine norm_ (a' := ?_) ?_ ?_
          rotate_left
          · show Act.put _ (some 30) _ = _
            simp only [Act.put, List.setIfInBounds_toArray, List.set_cons_zero, List.set_cons_succ, i64_w, i32_w]
            rfl
          refine one_ (i := 5) (N := some 31) (bl_ 8 63) rfl rfl (by kernel_rfl) (by decide) (fun K hK => ?_)
          refine Kd.R_append_step Kd.string (w0 := w10) (W := w10) (b5 + 1) rfl (.tmp 27) (.tmp 30) 23 9 (.string ⟨#[]⟩) 16 rfl Tryz.underlying23 info_str rfl (by decide) (by decide) v acc (bs vl) [.string (bs vl)] (fun _ => True) (fun _ => False) rfl rfl rfl (fun _ hk => hk.elim) (fun _ _ => trivial) HL10.out.hr (Below.refl _ _) HL10.out.hs (by have := HAL.out; omega) ?_
          intro v4 w4 ho4 hb4 hg4 hat4
          obtain ⟨A4, c4, rfl, _, _⟩ := Kd.R_reads ho4
          have HL4 := As.mk (HL10.out.put ho4 hb4)
          have hk4 := (hb4.block b5 (Nat.lt_succ_self _)).trans HL10.out.hk
          have hc4 : w4.cell? ⟨b5, 1, none⟩ = some v := (blk_cell hk4 1).trans rfl
          have hf4 : w4.frozen? ⟨b5, 1, none⟩ = false := fz_at hk4 1
          refine hK.out _ _ (hk4) (fun hHeld => ?_)
          clear hK K
          refine norm_ (a' := ?_) ?_ ?_
          rotate_left
          · show Act.put _ (some 31) _ = _
            simp only [Act.put, List.setIfInBounds_toArray, List.set_cons_zero, List.set_cons_succ, i64_w, i32_w]
            rfl
          refine pv_ 6 32 (bl_ 8 127) ?_
          refine last_ (i := 7) (N := none) (bl_ 8 255) rfl rfl (by kernel_rfl) (by decide) (fun K hK => ?_)
          refine skip_ (w1 := ?_) (by rfl) rfl ?_ ?_
          rotate_left
          · go_simp
            rfl
          refine hK.out _ _ ?_
          clear hK K
          refine done_ (by kernel_rfl) ?_
          clear hc4 hf4 hk4 ho4 hb4 hg4 hat4
          go_wp2_with (fail)
          go_roundg k1
          case measure => omega
          case rel =>
            have a1 : rl.ok = true → rl.rest.length < k1 := fun h => by
              have h1 := HLE2.out.2.2 h
              have h2 := HOK.out h1.1
              have h3 : rl.rest.length < r.rest.length := h1.2
              omega
            have a2 : rl.rest.length ≤ s.size := Nat.le_trans HLE2.out.2.1 HLN.out
            have a3 : (acc ++ [bs vl]).length + k1 ≤ s.size + 1 := by
              have := HAL.out
              rw [List.length_append, List.length_singleton]; omega
            rw [show (acc ++ [bs vl]).length = acc.length + 1 by rw [List.length_append, List.length_singleton]] at HL4
            exact ⟨acc ++ [bs vl], rl, _, HL4, HACC2, ⟨a1⟩, ⟨a2⟩, ⟨a3⟩⟩
      | false =>
        have HFIN : As (acc = ps ∧ r = r2) := ⟨by
          have e : ∀ q, readPs q r = ([], r) := fun q => by
            cases q with
            | zero => rfl
            | succ q => rw [readPs, if_neg (fun g => by rw [HPRE.out] at g; cases g.1)]
          have := HACC.out
          rw [e, List.append_nil] at this
          exact this⟩
        obtain ⟨hacc, hrr⟩ := HFIN.out
        subst hacc hrr
        obtain ⟨Ap, cp, rfl, hcp, _⟩ := Kd.R_reads HLQ.out.hr
        have HLNW := As.mk (line_at (w.heap.size + 1) r ⟨#[119, 104, 111]⟩ wWho v3 r3 wq HLQ.out.hrd (by have := HLN.out; omega) (by decide) rfl HE.out.2.1)
        have HCP := As.mk hcp
        clear hcp
        go_wp2_with (fail)
        clear hd1
        refine HLNW.out.mono ?_
        rintro e w1 ⟨rfl, hrd, hbb, hkk⟩
        have HL1 := As.mk (HLQ.out.read hrd hbb hkk)
        have hc2 : w1.cell? ⟨b5, 2, none⟩ = some (.string ⟨#[]⟩) := (blk_cell HL1.out.hk 2).trans rfl
        have hf2 : w1.frozen? ⟨b5, 2, none⟩ = false := fz_at HL1.out.hk 2
        have HL2 := As.mk (HL1.out.set2 (bs v3))
        clear hrd hbb hkk HLNW HLQ
        go_wp2_with (fail)
        obtain ⟨w2, hw2⟩ : ∃ w2, w1.setCell ⟨b5, 2, none⟩ (.string (bs v3)) = w2 := ⟨_, rfl⟩
        rw [hw2] at HL2 ⊢
        clear hw2 hc2 hf2
        have htx := text_read (w.heap.size + 1) r3 w2 HL2.out.hrd (by have := HLE.out.2.2; omega)
        rw [HE.out.2.2] at htx
        refine htx.mono ?_
        rintro e w3 ⟨rfl, hrd, hbb, hkk⟩
        have HL3 := As.mk (HL2.out.read hrd hbb hkk)
        have hc2 : w3.cell? ⟨b5, 3, none⟩ = some (.string ⟨#[]⟩) := (blk_cell HL3.out.hk 3).trans rfl
        have hf2 : w3.frozen? ⟨b5, 3, none⟩ = false := fz_at HL3.out.hk 3
        have HL4 := As.mk (HL3.out.set3 (bs v4))
        clear hrd hbb hkk HL2 htx
        have hh0 : (w3.setCell ⟨b5, 3, none⟩ (.string (bs v4))).cell? ⟨b5, 0, none⟩ = some (.string tv) := (blk_cell HL4.out.hk 0).trans rfl
        have hh1 : (w3.setCell ⟨b5, 3, none⟩ (.string (bs v4))).cell? ⟨b5, 1, none⟩ = some (.slice Ap acc.length cp) := (blk_cell HL4.out.hk 1).trans rfl
        have hh2 : (w3.setCell ⟨b5, 3, none⟩ (.string (bs v4))).cell? ⟨b5, 2, none⟩ = some (.string (bs v3)) := (blk_cell HL4.out.hk 2).trans rfl
        have hh3 : (w3.setCell ⟨b5, 3, none⟩ (.string (bs v4))).cell? ⟨b5, 3, none⟩ = some (.string (bs v4)) := (blk_cell HL4.out.hk 3).trans rfl
        go_wp2_with (fail)
        obtain ⟨w4, hw4⟩ : ∃ w4, w3.setCell ⟨b5, 3, none⟩ (.string (bs v4)) = w4 := ⟨_, rfl⟩
        rw [hw4] at HL4 ⊢
        clear hw4 hc2 hf2 hh0 hh1 hh2 hh3
        refine (putChange_walk Ap acc.length cp ⟨tv, acc, bs v3, bs v4⟩ HSH.out w4 (Kd.R_reads' HL4.out.hr).2.2 rfl HCP.out).mono ?_
        rintro e w5 ⟨rfl, hb5⟩
        obtain ⟨o, f, hof⟩ : ∃ o f, putChange ⟨tv, acc, bs v3, bs v4⟩ = (o, f) := ⟨_, _, rfl⟩
        have HOF := As.mk hof
        rw [hof]
        clear hof
        have HL5 := As.mk (HL4.out.below hb5)
        clear hb5 HL3 HL1
        obtain ⟨ev2, hev2, hkr2⟩ := HL5.out.hrd
        have hd2 : w5.cell? ⟨w.heap.size + 1, 1, none⟩ = some ev2 := (blk_cell hkr2 1).trans rfl
        clear hkr2
        have HRES : As (∀ W : World, Below w5.heap.size w5 W → W.heap[w.heap.size]? = some (.cells #[.string ⟨#[]⟩, .slice none 0 0, .string ⟨#[]⟩, .string ⟨#[]⟩] 71 (0, 0))) := ⟨fun W hW => ((HL5.out.hb.trans (hW.mono (by have := HL5.out.hs; have := HL5.out.hbr; omega))).block w.heap.size (Nat.lt_succ_self _)).trans HA.out.2⟩
        have HBF : As (∀ W : World, Below w5.heap.size w5 W → Below w.heap.size w W) := ⟨fun W hW => HA.out.1.trans ((HL5.out.hb.trans (hW.mono (by have := HL5.out.hs; have := HL5.out.hbr; omega))).mono (Nat.le_succ _))⟩
        rcases hev2 with ⟨hok4, rfl⟩ | ⟨hok4, ea2, rfl⟩
        · by_cases hfo : f = true ∧ o = s
          · obtain ⟨rfl, rfl⟩ := hfo
            have HFC : As (finC o ⟨tv, acc, bs v3, bs v4⟩ r4.ok = (⟨tv, acc, bs v3, bs v4⟩, true)) := ⟨by unfold finC; rw [if_pos ⟨hok4, HOF.out⟩]⟩
            go_wp2_with (fail)
            refine (fine_nil _).mono ?_
            rintro e w6 ⟨rfl, hb6⟩
            have HL6 := As.mk (HL5.out.below hb6)
            have HR6 := As.mk (HRES.out _ hb6)
            have HB6 := As.mk (HBF.out _ hb6)
            have hz0 : w6.cell? ⟨w.heap.size, 0, none⟩ = some (.string ⟨#[]⟩) := (blk_cell HR6.out 0).trans rfl
            have hz1 : w6.cell? ⟨w.heap.size, 1, none⟩ = some (.slice none 0 0) := (blk_cell HR6.out 1).trans rfl
            have hz2 : w6.cell? ⟨w.heap.size, 2, none⟩ = some (.string ⟨#[]⟩) := (blk_cell HR6.out 2).trans rfl
            have hz3 : w6.cell? ⟨w.heap.size, 3, none⟩ = some (.string ⟨#[]⟩) := (blk_cell HR6.out 3).trans rfl
            have hfz0 := fz_at HR6.out 0
            have hfz1 := fz_at HR6.out 1
            have hfz2 := fz_at HR6.out 2
            have hfz3 := fz_at HR6.out 3
            have hh0 : w6.cell? ⟨b5, 0, none⟩ = some (.string tv) := (blk_cell HL6.out.hk 0).trans rfl
            have hh1 : w6.cell? ⟨b5, 1, none⟩ = some (.slice Ap acc.length cp) := (blk_cell HL6.out.hk 1).trans rfl
            have hh2 : w6.cell? ⟨b5, 2, none⟩ = some (.string (bs v3)) := (blk_cell HL6.out.hk 2).trans rfl
            have hh3 : w6.cell? ⟨b5, 3, none⟩ = some (.string (bs v4)) := (blk_cell HL6.out.hk 3).trans rfl
            clear hb6 hd2
            go_wp2_with (fail)
            rw [HFC.out]
            refine bodyPost_ret (results_ct rfl _ _ w.heap.size 71 #[.string tv, .slice Ap acc.length cp, .string (bs v3), .string (bs v4)] (0, 0) _ rfl (set4_at HR6.out) Tryz.underlying71 rfl size_chg) rfl ⟨_, rfl, ?_, set4_below HB6.out (Nat.le_refl _)⟩
            exact Kd.R_lower (row_but HL6.out.hr (fun k h1 h2 => set4_other (by have := HL6.out.hbr; omega))) (by have := HL6.out.hbr; omega)
          · have HFC : As (finC s ⟨tv, acc, bs v3, bs v4⟩ r4.ok = (noChg, false)) := ⟨by
              unfold finC
              rw [if_neg]
              rintro ⟨_, g⟩
              rw [HOF.out] at g
              exact hfo ⟨(Prod.mk.inj g).2, (Prod.mk.inj g).1⟩⟩
            have hob : f = true → ¬ o = s := fun h1 h2 => hfo ⟨h1, h2⟩
            go_wp2_with (fail)
            refine (fine_nil _).mono ?_
            rintro e w6 ⟨rfl, hb6⟩
            have HR6 := As.mk (HRES.out _ hb6)
            have HB6 := As.mk (HBF.out _ hb6)
            have hz0 : w6.cell? ⟨w.heap.size, 0, none⟩ = some (.string ⟨#[]⟩) := (blk_cell HR6.out 0).trans rfl
            have hz1 : w6.cell? ⟨w.heap.size, 1, none⟩ = some (.slice none 0 0) := (blk_cell HR6.out 1).trans rfl
            have hz2 : w6.cell? ⟨w.heap.size, 2, none⟩ = some (.string ⟨#[]⟩) := (blk_cell HR6.out 2).trans rfl
            have hz3 : w6.cell? ⟨w.heap.size, 3, none⟩ = some (.string ⟨#[]⟩) := (blk_cell HR6.out 3).trans rfl
            have hfz0 := fz_at HR6.out 0
            have hfz1 := fz_at HR6.out 1
            have hfz2 := fz_at HR6.out 2
            have hfz3 := fz_at HR6.out 3
            clear hb6 hd2
            cases f with
            | false =>
              go_wp2_with (fail)
              rw [HFC.out]
              refine bodyPost_ret (results_ct rfl _ _ w.heap.size 71 #[.string ⟨#[]⟩, .slice none 0 0, .string ⟨#[]⟩, .string ⟨#[]⟩] (0, 0) _ rfl (set4_at HR6.out) Tryz.underlying71 rfl size_chg) rfl ⟨_, rfl, Kd.R_nil _ _ _ _ _, set4_below HB6.out (Nat.le_refl _)⟩
            | true =>
              try have hne1 : (o.toList == s.toList) = false := beq_no (hob rfl)
              try have hne2 : decide (o.toList = s.toList) = false := decide_eq_false (fun e => hob rfl ((toL_inj _ _).1 e))
              try have hne3 : (o == s) = false := by rw [beq_eq_false_iff_ne]; exact hob rfl
              go_wp2_with (fail)
              rw [HFC.out]
              refine bodyPost_ret (results_ct rfl _ _ w.heap.size 71 #[.string ⟨#[]⟩, .slice none 0 0, .string ⟨#[]⟩, .string ⟨#[]⟩] (0, 0) _ rfl (set4_at HR6.out) Tryz.underlying71 rfl size_chg) rfl ⟨_, rfl, Kd.R_nil _ _ _ _ _, set4_below HB6.out (Nat.le_refl _)⟩
        · have HFC : As (finC s ⟨tv, acc, bs v3, bs v4⟩ r4.ok = (noChg, false)) := ⟨by rw [hok4, finC_no]⟩
          go_wp2_with (fail)
          refine (fine_wrong _ _).mono ?_
          rintro e w6 ⟨rfl, hb6⟩
          have HR6 := As.mk (HRES.out _ hb6)
          have HB6 := As.mk (HBF.out _ hb6)
          have hz0 : w6.cell? ⟨w.heap.size, 0, none⟩ = some (.string ⟨#[]⟩) := (blk_cell HR6.out 0).trans rfl
          have hz1 : w6.cell? ⟨w.heap.size, 1, none⟩ = some (.slice none 0 0) := (blk_cell HR6.out 1).trans rfl
          have hz2 : w6.cell? ⟨w.heap.size, 2, none⟩ = some (.string ⟨#[]⟩) := (blk_cell HR6.out 2).trans rfl
          have hz3 : w6.cell? ⟨w.heap.size, 3, none⟩ = some (.string ⟨#[]⟩) := (blk_cell HR6.out 3).trans rfl
          have hfz0 := fz_at HR6.out 0
          have hfz1 := fz_at HR6.out 1
          have hfz2 := fz_at HR6.out 2
          have hfz3 := fz_at HR6.out 3
          clear hb6 hd2
          cases f with
          | false =>
            go_wp2_with (fail)
            rw [HFC.out]
            refine bodyPost_ret (results_ct rfl _ _ w.heap.size 71 #[.string ⟨#[]⟩, .slice none 0 0, .string ⟨#[]⟩, .string ⟨#[]⟩] (0, 0) _ rfl (set4_at HR6.out) Tryz.underlying71 rfl size_chg) rfl ⟨_, rfl, Kd.R_nil _ _ _ _ _, set4_below HB6.out (Nat.le_refl _)⟩
          | true =>
            try have hne1 : (o.toList == s.toList) = false := beq_no (hob rfl)
            try have hne2 : decide (o.toList = s.toList) = false := decide_eq_false (fun e => hob rfl ((toL_inj _ _).1 e))
            try have hne3 : (o == s) = false := by rw [beq_eq_false_iff_ne]; exact hob rfl
            go_wp2_with (fail)
            rw [HFC.out]
            refine bodyPost_ret (results_ct rfl _ _ w.heap.size 71 #[.string ⟨#[]⟩, .slice none 0 0, .string ⟨#[]⟩, .string ⟨#[]⟩] (0, 0) _ rfl (set4_at HR6.out) Tryz.underlying71 rfl size_chg) rfl ⟨_, rfl, Kd.R_nil _ _ _ _ _, set4_below HB6.out (Nat.le_refl _)⟩
    · have HFIN : As (acc = ps ∧ r = r2) := ⟨by
        have := HACC.out
        rw [ps_no hok, List.append_nil] at this
        exact this⟩
      cases pre with
      | _ =>
        obtain ⟨hacc, hrr⟩ := HFIN.out
        subst hacc hrr
        obtain ⟨Ap, cp, rfl, hcp, _⟩ := Kd.R_reads HLQ.out.hr
        have HLNW := As.mk (line_at (w.heap.size + 1) r ⟨#[119, 104, 111]⟩ wWho v3 r3 wq HLQ.out.hrd (by have := HLN.out; omega) (by decide) rfl HE.out.2.1)
        have HCP := As.mk hcp
        clear hcp
        go_wp2_with (fail)
        clear hd1
        refine HLNW.out.mono ?_
        rintro e w1 ⟨rfl, hrd, hbb, hkk⟩
        have HL1 := As.mk (HLQ.out.read hrd hbb hkk)
        have hc2 : w1.cell? ⟨b5, 2, none⟩ = some (.string ⟨#[]⟩) := (blk_cell HL1.out.hk 2).trans rfl
        have hf2 : w1.frozen? ⟨b5, 2, none⟩ = false := fz_at HL1.out.hk 2
        have HL2 := As.mk (HL1.out.set2 (bs v3))
        clear hrd hbb hkk HLNW HLQ
        go_wp2_with (fail)
        obtain ⟨w2, hw2⟩ : ∃ w2, w1.setCell ⟨b5, 2, none⟩ (.string (bs v3)) = w2 := ⟨_, rfl⟩
        rw [hw2] at HL2 ⊢
        clear hw2 hc2 hf2
        have htx := text_read (w.heap.size + 1) r3 w2 HL2.out.hrd (by have := HLE.out.2.2; omega)
        rw [HE.out.2.2] at htx
        refine htx.mono ?_
        rintro e w3 ⟨rfl, hrd, hbb, hkk⟩
        have HL3 := As.mk (HL2.out.read hrd hbb hkk)
        have hc2 : w3.cell? ⟨b5, 3, none⟩ = some (.string ⟨#[]⟩) := (blk_cell HL3.out.hk 3).trans rfl
        have hf2 : w3.frozen? ⟨b5, 3, none⟩ = false := fz_at HL3.out.hk 3
        have HL4 := As.mk (HL3.out.set3 (bs v4))
        clear hrd hbb hkk HL2 htx
        have hh0 : (w3.setCell ⟨b5, 3, none⟩ (.string (bs v4))).cell? ⟨b5, 0, none⟩ = some (.string tv) := (blk_cell HL4.out.hk 0).trans rfl
        have hh1 : (w3.setCell ⟨b5, 3, none⟩ (.string (bs v4))).cell? ⟨b5, 1, none⟩ = some (.slice Ap acc.length cp) := (blk_cell HL4.out.hk 1).trans rfl
        have hh2 : (w3.setCell ⟨b5, 3, none⟩ (.string (bs v4))).cell? ⟨b5, 2, none⟩ = some (.string (bs v3)) := (blk_cell HL4.out.hk 2).trans rfl
        have hh3 : (w3.setCell ⟨b5, 3, none⟩ (.string (bs v4))).cell? ⟨b5, 3, none⟩ = some (.string (bs v4)) := (blk_cell HL4.out.hk 3).trans rfl
        go_wp2_with (fail)
        obtain ⟨w4, hw4⟩ : ∃ w4, w3.setCell ⟨b5, 3, none⟩ (.string (bs v4)) = w4 := ⟨_, rfl⟩
        rw [hw4] at HL4 ⊢
        clear hw4 hc2 hf2 hh0 hh1 hh2 hh3
        refine (putChange_walk Ap acc.length cp ⟨tv, acc, bs v3, bs v4⟩ HSH.out w4 (Kd.R_reads' HL4.out.hr).2.2 rfl HCP.out).mono ?_
        rintro e w5 ⟨rfl, hb5⟩
        obtain ⟨o, f, hof⟩ : ∃ o f, putChange ⟨tv, acc, bs v3, bs v4⟩ = (o, f) := ⟨_, _, rfl⟩
        have HOF := As.mk hof
        rw [hof]
        clear hof
        have HL5 := As.mk (HL4.out.below hb5)
        clear hb5 HL3 HL1
        obtain ⟨ev2, hev2, hkr2⟩ := HL5.out.hrd
        have hd2 : w5.cell? ⟨w.heap.size + 1, 1, none⟩ = some ev2 := (blk_cell hkr2 1).trans rfl
        clear hkr2
        have HRES : As (∀ W : World, Below w5.heap.size w5 W → W.heap[w.heap.size]? = some (.cells #[.string ⟨#[]⟩, .slice none 0 0, .string ⟨#[]⟩, .string ⟨#[]⟩] 71 (0, 0))) := ⟨fun W hW => ((HL5.out.hb.trans (hW.mono (by have := HL5.out.hs; have := HL5.out.hbr; omega))).block w.heap.size (Nat.lt_succ_self _)).trans HA.out.2⟩
        have HBF : As (∀ W : World, Below w5.heap.size w5 W → Below w.heap.size w W) := ⟨fun W hW => HA.out.1.trans ((HL5.out.hb.trans (hW.mono (by have := HL5.out.hs; have := HL5.out.hbr; omega))).mono (Nat.le_succ _))⟩
        rcases hev2 with ⟨hok4, rfl⟩ | ⟨hok4, ea2, rfl⟩
        · by_cases hfo : f = true ∧ o = s
          · obtain ⟨rfl, rfl⟩ := hfo
            have HFC : As (finC o ⟨tv, acc, bs v3, bs v4⟩ r4.ok = (⟨tv, acc, bs v3, bs v4⟩, true)) := ⟨by unfold finC; rw [if_pos ⟨hok4, HOF.out⟩]⟩
            go_wp2_with (fail)
            refine (fine_nil _).mono ?_
            rintro e w6 ⟨rfl, hb6⟩
            have HL6 := As.mk (HL5.out.below hb6)
            have HR6 := As.mk (HRES.out _ hb6)
            have HB6 := As.mk (HBF.out _ hb6)
            have hz0 : w6.cell? ⟨w.heap.size, 0, none⟩ = some (.string ⟨#[]⟩) := (blk_cell HR6.out 0).trans rfl
            have hz1 : w6.cell? ⟨w.heap.size, 1, none⟩ = some (.slice none 0 0) := (blk_cell HR6.out 1).trans rfl
            have hz2 : w6.cell? ⟨w.heap.size, 2, none⟩ = some (.string ⟨#[]⟩) := (blk_cell HR6.out 2).trans rfl
            have hz3 : w6.cell? ⟨w.heap.size, 3, none⟩ = some (.string ⟨#[]⟩) := (blk_cell HR6.out 3).trans rfl
            have hfz0 := fz_at HR6.out 0
            have hfz1 := fz_at HR6.out 1
            have hfz2 := fz_at HR6.out 2
            have hfz3 := fz_at HR6.out 3
            have hh0 : w6.cell? ⟨b5, 0, none⟩ = some (.string tv) := (blk_cell HL6.out.hk 0).trans rfl
            have hh1 : w6.cell? ⟨b5, 1, none⟩ = some (.slice Ap acc.length cp) := (blk_cell HL6.out.hk 1).trans rfl
            have hh2 : w6.cell? ⟨b5, 2, none⟩ = some (.string (bs v3)) := (blk_cell HL6.out.hk 2).trans rfl
            have hh3 : w6.cell? ⟨b5, 3, none⟩ = some (.string (bs v4)) := (blk_cell HL6.out.hk 3).trans rfl
            clear hb6 hd2
            go_wp2_with (fail)
            rw [HFC.out]
            refine bodyPost_ret (results_ct rfl _ _ w.heap.size 71 #[.string tv, .slice Ap acc.length cp, .string (bs v3), .string (bs v4)] (0, 0) _ rfl (set4_at HR6.out) Tryz.underlying71 rfl size_chg) rfl ⟨_, rfl, ?_, set4_below HB6.out (Nat.le_refl _)⟩
            exact Kd.R_lower (row_but HL6.out.hr (fun k h1 h2 => set4_other (by have := HL6.out.hbr; omega))) (by have := HL6.out.hbr; omega)
          · have HFC : As (finC s ⟨tv, acc, bs v3, bs v4⟩ r4.ok = (noChg, false)) := ⟨by
              unfold finC
              rw [if_neg]
              rintro ⟨_, g⟩
              rw [HOF.out] at g
              exact hfo ⟨(Prod.mk.inj g).2, (Prod.mk.inj g).1⟩⟩
            have hob : f = true → ¬ o = s := fun h1 h2 => hfo ⟨h1, h2⟩
            go_wp2_with (fail)
            refine (fine_nil _).mono ?_
            rintro e w6 ⟨rfl, hb6⟩
            have HR6 := As.mk (HRES.out _ hb6)
            have HB6 := As.mk (HBF.out _ hb6)
            have hz0 : w6.cell? ⟨w.heap.size, 0, none⟩ = some (.string ⟨#[]⟩) := (blk_cell HR6.out 0).trans rfl
            have hz1 : w6.cell? ⟨w.heap.size, 1, none⟩ = some (.slice none 0 0) := (blk_cell HR6.out 1).trans rfl
            have hz2 : w6.cell? ⟨w.heap.size, 2, none⟩ = some (.string ⟨#[]⟩) := (blk_cell HR6.out 2).trans rfl
            have hz3 : w6.cell? ⟨w.heap.size, 3, none⟩ = some (.string ⟨#[]⟩) := (blk_cell HR6.out 3).trans rfl
            have hfz0 := fz_at HR6.out 0
            have hfz1 := fz_at HR6.out 1
            have hfz2 := fz_at HR6.out 2
            have hfz3 := fz_at HR6.out 3
            clear hb6 hd2
            cases f with
            | false =>
              go_wp2_with (fail)
              rw [HFC.out]
              refine bodyPost_ret (results_ct rfl _ _ w.heap.size 71 #[.string ⟨#[]⟩, .slice none 0 0, .string ⟨#[]⟩, .string ⟨#[]⟩] (0, 0) _ rfl (set4_at HR6.out) Tryz.underlying71 rfl size_chg) rfl ⟨_, rfl, Kd.R_nil _ _ _ _ _, set4_below HB6.out (Nat.le_refl _)⟩
            | true =>
              try have hne1 : (o.toList == s.toList) = false := beq_no (hob rfl)
              try have hne2 : decide (o.toList = s.toList) = false := decide_eq_false (fun e => hob rfl ((toL_inj _ _).1 e))
              try have hne3 : (o == s) = false := by rw [beq_eq_false_iff_ne]; exact hob rfl
              go_wp2_with (fail)
              rw [HFC.out]
              refine bodyPost_ret (results_ct rfl _ _ w.heap.size 71 #[.string ⟨#[]⟩, .slice none 0 0, .string ⟨#[]⟩, .string ⟨#[]⟩] (0, 0) _ rfl (set4_at HR6.out) Tryz.underlying71 rfl size_chg) rfl ⟨_, rfl, Kd.R_nil _ _ _ _ _, set4_below HB6.out (Nat.le_refl _)⟩
        · have HFC : As (finC s ⟨tv, acc, bs v3, bs v4⟩ r4.ok = (noChg, false)) := ⟨by rw [hok4, finC_no]⟩
          go_wp2_with (fail)
          refine (fine_wrong _ _).mono ?_
          rintro e w6 ⟨rfl, hb6⟩
          have HR6 := As.mk (HRES.out _ hb6)
          have HB6 := As.mk (HBF.out _ hb6)
          have hz0 : w6.cell? ⟨w.heap.size, 0, none⟩ = some (.string ⟨#[]⟩) := (blk_cell HR6.out 0).trans rfl
          have hz1 : w6.cell? ⟨w.heap.size, 1, none⟩ = some (.slice none 0 0) := (blk_cell HR6.out 1).trans rfl
          have hz2 : w6.cell? ⟨w.heap.size, 2, none⟩ = some (.string ⟨#[]⟩) := (blk_cell HR6.out 2).trans rfl
          have hz3 : w6.cell? ⟨w.heap.size, 3, none⟩ = some (.string ⟨#[]⟩) := (blk_cell HR6.out 3).trans rfl
          have hfz0 := fz_at HR6.out 0
          have hfz1 := fz_at HR6.out 1
          have hfz2 := fz_at HR6.out 2
          have hfz3 := fz_at HR6.out 3
          clear hb6 hd2
          cases f with
          | false =>
            go_wp2_with (fail)
            rw [HFC.out]
            refine bodyPost_ret (results_ct rfl _ _ w.heap.size 71 #[.string ⟨#[]⟩, .slice none 0 0, .string ⟨#[]⟩, .string ⟨#[]⟩] (0, 0) _ rfl (set4_at HR6.out) Tryz.underlying71 rfl size_chg) rfl ⟨_, rfl, Kd.R_nil _ _ _ _ _, set4_below HB6.out (Nat.le_refl _)⟩
          | true =>
            try have hne1 : (o.toList == s.toList) = false := beq_no (hob rfl)
            try have hne2 : decide (o.toList = s.toList) = false := decide_eq_false (fun e => hob rfl ((toL_inj _ _).1 e))
            try have hne3 : (o == s) = false := by rw [beq_eq_false_iff_ne]; exact hob rfl
            go_wp2_with (fail)
            rw [HFC.out]
            refine bodyPost_ret (results_ct rfl _ _ w.heap.size 71 #[.string ⟨#[]⟩, .slice none 0 0, .string ⟨#[]⟩, .string ⟨#[]⟩] (0, 0) _ rfl (set4_at HR6.out) Tryz.underlying71 rfl size_chg) rfl ⟨_, rfl, Kd.R_nil _ _ _ _ _, set4_below HB6.out (Nat.le_refl _)⟩
end Go.Proofs.YtehmhfbfgniekaaGreatDoor.Ob

namespace Go.Proofs.YtehmhfbfgniekaaGreatDoor.Ob
set_option linter.unusedVariables false
set_option linter.unusedSimpArgs false
open Go Go.RowKit Go.Proofs.YtehmhfbfgniekaaGreatDoorW.PrintWords Go.Proofs.YtehmhfbfgniekaaGreatDoorW.PrintLast Go.Proofs.YtehmhfbfgniekaaGreatDoorW.PrintMore PObBase PObDoc
structure Lq (wa : World) (br b5 : Nat) (a b c d : Value) (r : Rd) (wr : World) : Prop where
  hk : wr.heap[b5]? = some (.cells #[a, b, c, d] 75 (0, 0))
  hrd : RdAt wr br r
  hb : Below br wa wr
  hs : b5 + 1 ≤ wr.heap.size
  hbr : br < b5
section
variable {wa wr w' : World} {br b5 : Nat} {a b c d : Value} {r r2 : Rd}
theorem Lq.below (h : Lq wa br b5 a b c d r wr) (hb : Below wr.heap.size wr w') : Lq wa br b5 a b c d r w' where
  hk := (hb.block b5 (blk_lt h.hk)).trans h.hk
  hrd := h.hrd.move (hb.block br h.hrd.lt)
  hb := h.hb.trans (hb.mono (Nat.le_of_lt h.hrd.lt))
  hs := Nat.le_trans h.hs hb.size
  hbr := h.hbr
theorem Lq.read (h : Lq wa br b5 a b c d r wr) (hrd : RdAt w' br r2) (hb : Below br wr w') (hk : ∀ k, k < wr.heap.size → k ≠ br → w'.heap[k]? = wr.heap[k]?) : Lq wa br b5 a b c d r2 w' where
  hk := (hk b5 (blk_lt h.hk) (Nat.ne_of_gt h.hbr)).trans h.hk
  hrd := hrd
  hb := h.hb.trans hb
  hs := Nat.le_trans h.hs hb.size
  hbr := h.hbr
theorem Lq.set1 (h : Lq wa br b5 a b c d r wr) (x : Value) : Lq wa br b5 a x c d r (wr.setCell ⟨b5, 1, none⟩ x) where
  hk := by
    have := h.hk
    simp [World.setCell, Array.getElem?_modify, this]
  hrd := h.hrd.move (set_other (Nat.ne_of_lt h.hbr) _ _)
  hb := h.hb.setCell (p := ⟨b5, 1, none⟩) (Nat.le_of_lt h.hbr) _
  hs := Nat.le_trans h.hs ((Below.refl 0 wr).setCell (p := ⟨b5, 1, none⟩) (Nat.zero_le _) x).size
  hbr := h.hbr
theorem Lq.set2 (h : Lq wa br b5 a b c d r wr) (x : Value) : Lq wa br b5 a b x d r (wr.setCell ⟨b5, 2, none⟩ x) where
  hk := by
    have := h.hk
    simp [World.setCell, Array.getElem?_modify, this]
  hrd := h.hrd.move (set_other (Nat.ne_of_lt h.hbr) _ _)
  hb := h.hb.setCell (p := ⟨b5, 2, none⟩) (Nat.le_of_lt h.hbr) _
  hs := Nat.le_trans h.hs ((Below.refl 0 wr).setCell (p := ⟨b5, 2, none⟩) (Nat.zero_le _) x).size
  hbr := h.hbr
theorem Lq.set3 (h : Lq wa br b5 a b c d r wr) (x : Value) : Lq wa br b5 a b c x r (wr.setCell ⟨b5, 3, none⟩ x) where
  hk := by
    have := h.hk
    simp [World.setCell, Array.getElem?_modify, this]
  hrd := h.hrd.move (set_other (Nat.ne_of_lt h.hbr) _ _)
  hb := h.hb.setCell (p := ⟨b5, 3, none⟩) (Nat.le_of_lt h.hbr) _
  hs := Nat.le_trans h.hs ((Below.refl 0 wr).setCell (p := ⟨b5, 3, none⟩) (Nat.zero_le _) x).size
  hbr := h.hbr
end
theorem size_lab : (Tryz.prog.info? 75).map (·.size) = some 4 := by kernel_rfl
def wordsZ : List ByteArray := [⟨#[]⟩, ⟨#[98, 108, 111, 98]⟩, ⟨#[116, 114, 101, 101]⟩, ⟨#[99, 111, 109, 109, 105, 116]⟩, ⟨#[116, 97, 103]⟩]
theorem idx_kind (v : List UInt8) : Lib.idxOfS (wordsZ.take 5) (bs v) = kindOf v := by
  have h5 : wordsZ.take 5 = [bs [], bs wBlob, bs wTree, bs wCommit, bs wTag] := rfl
  rw [h5]
  unfold kindOf Lib.idxOfS
  simp only [Lib.idxFromS]
  by_cases h0 : v = []
  · rw [if_pos (by rw [h0]), if_pos h0]; rfl
  rw [if_neg (fun e => h0 (bs_inj.1 e).symm), if_neg h0]
  by_cases h1 : v = wBlob
  · rw [if_pos (by rw [h1]), if_pos h1]; rfl
  rw [if_neg (fun e => h1 (bs_inj.1 e).symm), if_neg h1]
  by_cases h2 : v = wTree
  · rw [if_pos (by rw [h2]), if_pos h2]; rfl
  rw [if_neg (fun e => h2 (bs_inj.1 e).symm), if_neg h2]
  by_cases h3 : v = wCommit
  · rw [if_pos (by rw [h3]), if_pos h3]; rfl
  rw [if_neg (fun e => h3 (bs_inj.1 e).symm), if_neg h3]
  by_cases h4 : v = wTag
  · rw [if_pos (by rw [h4]), if_pos h4]; rfl
  rw [if_neg (fun e => h4 (bs_inj.1 e).symm), if_neg h4]
theorem words_cells {w : World} {b : Nat} {T : TypeId} (h : w.heap[b]? = some (.cells #[.string ⟨#[]⟩, .string ⟨#[98, 108, 111, 98]⟩, .string ⟨#[116, 114, 101, 101]⟩, .string ⟨#[99, 111, 109, 109, 105, 116]⟩, .string ⟨#[116, 97, 103]⟩] T (0, 0))) : ∀ j, j < wordsZ.length → w.cell? ⟨b, 0 + j, none⟩ = some (.string (wordsZ.getD j ByteArray.empty)) := by
  intro j hj
  have hj5 : j < 5 := hj
  rcases (show j = 0 ∨ j = 1 ∨ j = 2 ∨ j = 3 ∨ j = 4 by omega) with rfl | rfl | rfl | rfl | rfl
  · exact (blk_cell h 0).trans rfl
  · exact (blk_cell h 1).trans rfl
  · exact (blk_cell h 2).trans rfl
  · exact (blk_cell h 3).trans rfl
  · exact (blk_cell h 4).trans rfl
theorem rdL_eqs (s : ByteArray) : ∃ v1 r1 v2 r2 v3 r3 v4 r4, readLine wObject ⟨L s, true⟩ = (v1, r1) ∧ readLine wKind r1 = (v2, r2) ∧ readLine wName r2 = (v3, r3) ∧ readText r3 = (v4, r4) ∧ parseL s = ⟨bs v1, kindOf v2, bs v3, bs v4⟩ ∧ (rdL4 s).2.ok = r4.ok ∧ r1.rest.length ≤ s.size ∧ r2.rest.length ≤ s.size ∧ r3.rest.length ≤ s.size ∧ v1.length ≤ s.size ∧ v3.length ≤ s.size ∧ v4.length ≤ s.size := by
  obtain ⟨a, b, _, c, d, e, f⟩ := rdL_le s
  exact ⟨(rdL1 s).1, (rdL1 s).2, (rdL2 s).1, (rdL2 s).2, (rdL3 s).1, (rdL3 s).2, (rdL4 s).1, (rdL4 s).2, rfl, rfl, rfl, rfl, rfl, rfl, b, c, e, a, d, f⟩
set_option maxHeartbeats 16000000 in
set_option maxRecDepth 100000 in
theorem getLabel_walk (s : ByteArray) (hs : s.size ≤ 400000000) (w : World) :
    Calls Tryz.prog 67 #[.string s] w fun e w' => e = .returned (.tuple #[.agg #[.string (getLabel s).1.f0, .int .i64 (getLabel s).1.f1, .string (getLabel s).1.f2, .string (getLabel s).1.f3], .bool (getLabel s).2]) ∧ Below w.heap.size w w' := by
  obtain ⟨v1, r1, v2, r2, v3, r3, v4, r4, e1, e2, e3, e4, hpc, hok, l1, l2, l3, n1, n3, n4⟩ := rdL_eqs s
  have hgc : getLabel s = finL s ⟨bs v1, kindOf v2, bs v3, bs v4⟩ r4.ok := by rw [getLabel_fin, hpc, hok]
  rw [hgc]
  clear hgc hok hpc
  obtain ⟨wa, hwa⟩ : ∃ wa, w.alloc (.cells #[.string ⟨#[]⟩, .int .i64 0, .string ⟨#[]⟩, .string ⟨#[]⟩] 75) = wa := ⟨_, rfl⟩
  have hsa : wa.heap.size = w.heap.size + 1 := by rw [← hwa, World.size_alloc]
  have hba : Below w.heap.size w wa := by rw [← hwa]; exact (Below.refl _ _).alloc (Nat.le_refl _) _
  have hka : wa.heap[w.heap.size]? = some (.cells #[.string ⟨#[]⟩, .int .i64 0, .string ⟨#[]⟩, .string ⟨#[]⟩] 75 (0, 0)) := by rw [← hwa]; exact blk_new w _
  obtain ⟨wb, hwb⟩ : ∃ wb, wa.alloc (.cells #[.string s, .nilIface] 127) = wb := ⟨_, rfl⟩
  have hbb : Below wa.heap.size wa wb := by rw [← hwb]; exact (Below.refl _ _).alloc (Nat.le_refl _) _
  have HRD : As (RdAt wb (w.heap.size + 1) ⟨L s, true⟩) := ⟨.nilIface, .inl ⟨rfl, rfl⟩, by rw [← hsa, ← hwb, bs_L]; exact blk_new wa _⟩
  rw [hsa] at hbb
  have HL1 := As.mk (line_at (w.heap.size + 1) ⟨L s, true⟩ ⟨#[111, 98, 106, 101, 99, 116]⟩ wObject v1 r1 wb HRD.out (by show (L s).length ≤ _; rw [L_len]; omega) (by decide) rfl e1)
  have HA := As.mk (And.intro hba hka)
  have HB := As.mk hbb
  have HE := As.mk (And.intro e2 (And.intro e3 e4))
  have HLE := As.mk (And.intro l1 (And.intro l2 l3))
  have HNN := As.mk (And.intro n1 (And.intro n3 n4))
  clear e1 e2 e3 e4 l1 l2 l3 hba hka hbb n1 n3 n4
  obtain ⟨tv, htv⟩ : ∃ tv, bs v1 = tv := ⟨_, rfl⟩
  have HTV : As (tv.size ≤ 1000000000) := ⟨by rw [← htv, bs_size]; have := HNN.out.1; omega⟩
  obtain ⟨kd, hkd⟩ : ∃ kd, kindOf v2 = kd := ⟨_, rfl⟩
  have HKN := As.mk ((idx_kind v2).trans hkd)
  rw [htv] at HL1 ⊢
  rw [hkd]
  clear htv hkd
  go_enter Tryz.func67, Tryz.ntmps67
  go_wp2_with (fail)
  refine HL1.out.mono ?_
  rintro e wc ⟨rfl, hr1, hbc, hkc⟩
  obtain ⟨wd, hwd⟩ : ∃ wd, wc.alloc (.cells #[.string tv, .int .i64 0, .string ⟨#[]⟩, .string ⟨#[]⟩] 75) = wd := ⟨_, rfl⟩
  have hbr : w.heap.size + 1 < wc.heap.size := hr1.lt
  obtain ⟨b5, hb5⟩ : ∃ b5, wc.heap.size = b5 := ⟨_, rfl⟩
  have HLQ : As (Lq wa (w.heap.size + 1) b5 (.string tv) (.int .i64 0) (.string ⟨#[]⟩) (.string ⟨#[]⟩) r1 wd) := ⟨by
    rw [← hb5, ← hwd]
    refine ⟨blk_new wc _, hr1.move ?_, ?_, ?_, hbr⟩
    · exact ((Below.refl wc.heap.size wc).alloc (Nat.le_refl _) _).block _ hbr
    · have := HB.out.trans hbc
      exact this.alloc (by rw [← hsa]; exact this.size) _
    · rw [World.size_alloc]; exact Nat.le_refl _⟩
  have HWD := As.mk hwd
  clear hr1 hbc hkc hbr hwa hwb hsa hwd HRD HL1 HB
  go_wp2_with (fail)
  rw [HWD.out]
  clear HWD hb5
  refine (words_walk _).mono ?_
  rintro e we ⟨rfl, hbe⟩
  have HLE2 := As.mk (HLQ.out.below hbe)
  obtain ⟨wf, hwf⟩ : ∃ wf, we.alloc (.cells #[.string ⟨#[]⟩, .string ⟨#[98, 108, 111, 98]⟩, .string ⟨#[116, 114, 101, 101]⟩, .string ⟨#[99, 111, 109, 109, 105, 116]⟩, .string ⟨#[116, 97, 103]⟩] 99) = wf := ⟨_, rfl⟩
  obtain ⟨b6, hb6⟩ : ∃ b6, we.heap.size = b6 := ⟨_, rfl⟩
  have HLF := As.mk (HLE2.out.below (by rw [← hwf]; exact (Below.refl we.heap.size we).alloc (Nat.le_refl _) _ : Below we.heap.size we wf))
  have HW6 : As (wf.heap[b6]? = some (.cells #[.string ⟨#[]⟩, .string ⟨#[98, 108, 111, 98]⟩, .string ⟨#[116, 114, 101, 101]⟩, .string ⟨#[99, 111, 109, 109, 105, 116]⟩, .string ⟨#[116, 97, 103]⟩] 99 (0, 0)) ∧ b5 < b6) := ⟨by rw [← hb6, ← hwf]; exact ⟨blk_new we _, HLE2.out.hs⟩⟩
  have HWF := As.mk hwf
  clear hbe HLQ hwf HLE2
  unfold wordsV
  go_wp2_with (fail)
  rw [HWF.out]
  clear HWF hb6
  have HLNE := As.mk (line_at (w.heap.size + 1) r1 ⟨#[107, 105, 110, 100]⟩ wKind v2 r2 wf.drew (HLF.out.below (below_drew (Below.refl _ _))).hrd (by have := HLE.out.1; omega) (by decide) rfl HE.out.1)
  have HLD := As.mk (HLF.out.below (below_drew (Below.refl _ _)))
  refine start_ (n := 6) (S := fun _ => True) (ds := [5]) (bl_ 6 0) (by kernel_rfl) rfl rfl (trivial) (fun hHeld => ?_)
  refine pv_ 0 16 (bl_ 6 1) ?_
  refine pv_ 1 17 (bl_ 6 3) ?_
  refine one_ (i := 2) (N := some 18) (bl_ 6 7) rfl rfl (by kernel_rfl) (by decide) (fun K hK => ?_)
  refine goes_ Tryz.func88 (by kernel_rfl) rfl #[.pointer (some ⟨w.heap.size + 1, 0, none⟩), .string ⟨#[107, 105, 110, 100]⟩] (by rfl) rfl rfl (by simp only [List.map_toArray, List.map_cons, List.map_nil]; rfl) ?_
  with_reducible refine (HLNE.out).mono ?_
  rintro e w10 ⟨rfl, hrd10, hb10, hk10⟩
  refine ⟨_, rfl, ?_⟩
  have HL10 := As.mk (HLD.out.read hrd10 hb10 hk10)
  have hw10 := (hk10 b6 (blk_lt HW6.out.1) (by have h1 := HW6.out.2; have h2 := HLF.out.hbr; omega)).trans HW6.out.1
  have hc4 : w10.cell? ⟨b5, 1, none⟩ = some (.int .i64 0) := (blk_cell HL10.out.hk 1).trans rfl
  have hf4 : w10.frozen? ⟨b5, 1, none⟩ = false := fz_at HL10.out.hk 1
  refine hK.out _ _ (trivial) (fun hHeld => ?_)
  clear hK K
  refine norm_ (a' := ?_) ?_ ?_
  rotate_left
  · show Act.put _ (some 18) _ = _
    simp only [Act.put, List.setIfInBounds_toArray, List.set_cons_zero, List.set_cons_succ, i64_w, i32_w]
    rfl
  refine one_ (i := 3) (N := some 19) (bl_ 6 15) rfl rfl (by kernel_rfl) (by decide) (fun K hK => ?_)
  refine goes_ Tryz.func50 (by kernel_rfl) rfl #[.slice (some ⟨b6, 0, none⟩) 5 5, .string (bs v2)] (by rfl) rfl rfl (by simp only [List.map_toArray, List.map_cons, List.map_nil]; rfl) ?_
  with_reducible refine (Tryz.slices_Index_string b6 0 5 5 wordsZ (bs v2) w10 (by decide) (by decide) (words_cells hw10)).mono ?_
  rintro e w11 ⟨rfl, hw11⟩
  refine ⟨_, rfl, ?_⟩
  rw [hw11]
  rw [HKN.out]
  refine hK.out _ _ (trivial) (fun hHeld => ?_)
  clear hK K
  refine norm_ (a' := ?_) ?_ ?_
  rotate_left
  · show Act.put _ (some 19) _ = _
    simp only [Act.put, List.setIfInBounds_toArray, List.set_cons_zero, List.set_cons_succ, i64_w, i32_w]
    rfl
  refine pv_ 4 20 (bl_ 6 31) ?_
  refine last_ (i := 5) (N := none) (bl_ 6 63) rfl rfl (by kernel_rfl) (by decide) (fun K hK => ?_)
  refine skip_ (w1 := ?_) (by rfl) rfl ?_ ?_
  rotate_left
  · go_simp
    rfl
  refine hK.out _ _ ?_
  clear hK K
  refine done_ (by kernel_rfl) ?_
  have HL11 := As.mk (HL10.out.set1 (.int .i64 kd))
  clear hHeld hrd10 hb10 hk10 hc4 hf4 hw10
  go_wp2_with (fail)
  obtain ⟨w1, hw1⟩ : ∃ w1, w10.setCell ⟨b5, 1, none⟩ (.int .i64 kd) = w1 := ⟨_, rfl⟩
  rw [hw1] at HL11 ⊢
  clear hw1 HL10 HLNE HLD HLF
  refine (line_at (w.heap.size + 1) r2 ⟨#[110, 97, 109, 101]⟩ wName v3 r3 w1 HL11.out.hrd (by have := HLE.out.2.1; omega) (by decide) rfl HE.out.2.1).mono ?_
  rintro e wg ⟨rfl, hrd, hbb, hkk⟩
  have HL1 := As.mk (HL11.out.read hrd hbb hkk)
  have hc2 : wg.cell? ⟨b5, 2, none⟩ = some (.string ⟨#[]⟩) := (blk_cell HL1.out.hk 2).trans rfl
  have hf2 : wg.frozen? ⟨b5, 2, none⟩ = false := fz_at HL1.out.hk 2
  have HL2 := As.mk (HL1.out.set2 (.string (bs v3)))
  clear hrd hbb hkk
  go_wp2_with (fail)
  obtain ⟨w2, hw2⟩ : ∃ w2, wg.setCell ⟨b5, 2, none⟩ (.string (bs v3)) = w2 := ⟨_, rfl⟩
  rw [hw2] at HL2 ⊢
  clear hw2 hc2 hf2
  have htx := text_read (w.heap.size + 1) r3 w2 HL2.out.hrd (by have := HLE.out.2.2; omega)
  rw [HE.out.2.2] at htx
  refine htx.mono ?_
  rintro e w3 ⟨rfl, hrd, hbb, hkk⟩
  have HL3 := As.mk (HL2.out.read hrd hbb hkk)
  have hc2 : w3.cell? ⟨b5, 3, none⟩ = some (.string ⟨#[]⟩) := (blk_cell HL3.out.hk 3).trans rfl
  have hf2 : w3.frozen? ⟨b5, 3, none⟩ = false := fz_at HL3.out.hk 3
  have HL4 := As.mk (HL3.out.set3 (.string (bs v4)))
  clear hrd hbb hkk HL2 htx
  have hh0 : (w3.setCell ⟨b5, 3, none⟩ (.string (bs v4))).cell? ⟨b5, 0, none⟩ = some (.string tv) := (blk_cell HL4.out.hk 0).trans rfl
  have hh1 : (w3.setCell ⟨b5, 3, none⟩ (.string (bs v4))).cell? ⟨b5, 1, none⟩ = some (.int .i64 kd) := (blk_cell HL4.out.hk 1).trans rfl
  have hh2 : (w3.setCell ⟨b5, 3, none⟩ (.string (bs v4))).cell? ⟨b5, 2, none⟩ = some (.string (bs v3)) := (blk_cell HL4.out.hk 2).trans rfl
  have hh3 : (w3.setCell ⟨b5, 3, none⟩ (.string (bs v4))).cell? ⟨b5, 3, none⟩ = some (.string (bs v4)) := (blk_cell HL4.out.hk 3).trans rfl
  go_wp2_with (fail)
  obtain ⟨w4, hw4⟩ : ∃ w4, w3.setCell ⟨b5, 3, none⟩ (.string (bs v4)) = w4 := ⟨_, rfl⟩
  rw [hw4] at HL4 ⊢
  clear hw4 hc2 hf2 hh0 hh1 hh2 hh3
  refine (putLabel_walk ⟨tv, kd, bs v3, bs v4⟩ HTV.out (by show (bs v3).size ≤ _; rw [bs_size]; have := HNN.out.2.1; omega) (by show (bs v4).size ≤ _; rw [bs_size]; have := HNN.out.2.2; omega) w4).mono ?_
  rintro e w5 ⟨rfl, hb5⟩
  obtain ⟨o, f, hof⟩ : ∃ o f, putLabel ⟨tv, kd, bs v3, bs v4⟩ = (o, f) := ⟨_, _, rfl⟩
  have HOF := As.mk hof
  rw [hof]
  clear hof
  have HL5 := As.mk (HL4.out.below hb5)
  clear hb5 HL3 HL1 HL11
  obtain ⟨ev2, hev2, hkr2⟩ := HL5.out.hrd
  have hd2 : w5.cell? ⟨w.heap.size + 1, 1, none⟩ = some ev2 := (blk_cell hkr2 1).trans rfl
  clear hkr2
  have HRES : As (∀ W : World, Below w5.heap.size w5 W → W.heap[w.heap.size]? = some (.cells #[.string ⟨#[]⟩, .int .i64 0, .string ⟨#[]⟩, .string ⟨#[]⟩] 75 (0, 0))) := ⟨fun W hW => ((HL5.out.hb.trans (hW.mono (by have := HL5.out.hs; have := HL5.out.hbr; omega))).block w.heap.size (Nat.lt_succ_self _)).trans HA.out.2⟩
  have HBF : As (∀ W : World, Below w5.heap.size w5 W → Below w.heap.size w W) := ⟨fun W hW => HA.out.1.trans ((HL5.out.hb.trans (hW.mono (by have := HL5.out.hs; have := HL5.out.hbr; omega))).mono (Nat.le_succ _))⟩
  rcases hev2 with ⟨hok4, rfl⟩ | ⟨hok4, ea2, rfl⟩
  · by_cases hfo : f = true ∧ o = s
    · obtain ⟨rfl, rfl⟩ := hfo
      have HFC : As (finL o ⟨tv, kd, bs v3, bs v4⟩ r4.ok = (⟨tv, kd, bs v3, bs v4⟩, true)) := ⟨by unfold finL; rw [if_pos ⟨hok4, HOF.out⟩]⟩
      go_wp2_with (fail)
      refine (fine_nil _).mono ?_
      rintro e w6 ⟨rfl, hb6⟩
      have HL6 := As.mk (HL5.out.below hb6)
      have HR6 := As.mk (HRES.out _ hb6)
      have HB6 := As.mk (HBF.out _ hb6)
      have hz0 : w6.cell? ⟨w.heap.size, 0, none⟩ = some (.string ⟨#[]⟩) := (blk_cell HR6.out 0).trans rfl
      have hz1 : w6.cell? ⟨w.heap.size, 1, none⟩ = some (.int .i64 0) := (blk_cell HR6.out 1).trans rfl
      have hz2 : w6.cell? ⟨w.heap.size, 2, none⟩ = some (.string ⟨#[]⟩) := (blk_cell HR6.out 2).trans rfl
      have hz3 : w6.cell? ⟨w.heap.size, 3, none⟩ = some (.string ⟨#[]⟩) := (blk_cell HR6.out 3).trans rfl
      have hfz0 := fz_at HR6.out 0
      have hfz1 := fz_at HR6.out 1
      have hfz2 := fz_at HR6.out 2
      have hfz3 := fz_at HR6.out 3
      have hh0 : w6.cell? ⟨b5, 0, none⟩ = some (.string tv) := (blk_cell HL6.out.hk 0).trans rfl
      have hh1 : w6.cell? ⟨b5, 1, none⟩ = some (.int .i64 kd) := (blk_cell HL6.out.hk 1).trans rfl
      have hh2 : w6.cell? ⟨b5, 2, none⟩ = some (.string (bs v3)) := (blk_cell HL6.out.hk 2).trans rfl
      have hh3 : w6.cell? ⟨b5, 3, none⟩ = some (.string (bs v4)) := (blk_cell HL6.out.hk 3).trans rfl
      clear hb6 hd2
      go_wp2_with (fail)
      rw [HFC.out]
      refine bodyPost_ret (results_ct rfl _ _ w.heap.size 75 #[.string tv, .int .i64 kd, .string (bs v3), .string (bs v4)] (0, 0) _ rfl (set4_at HR6.out) Tryz.underlying75 rfl size_lab) rfl ⟨rfl, set4_below HB6.out (Nat.le_refl _)⟩
    · have HFC : As (finL s ⟨tv, kd, bs v3, bs v4⟩ r4.ok = (noLab, false)) := ⟨by
        unfold finL
        rw [if_neg]
        rintro ⟨_, g⟩
        rw [HOF.out] at g
        exact hfo ⟨(Prod.mk.inj g).2, (Prod.mk.inj g).1⟩⟩
      have hob : f = true → ¬ o = s := fun h1 h2 => hfo ⟨h1, h2⟩
      go_wp2_with (fail)
      refine (fine_nil _).mono ?_
      rintro e w6 ⟨rfl, hb6⟩
      have HR6 := As.mk (HRES.out _ hb6)
      have HB6 := As.mk (HBF.out _ hb6)
      have hz0 : w6.cell? ⟨w.heap.size, 0, none⟩ = some (.string ⟨#[]⟩) := (blk_cell HR6.out 0).trans rfl
      have hz1 : w6.cell? ⟨w.heap.size, 1, none⟩ = some (.int .i64 0) := (blk_cell HR6.out 1).trans rfl
      have hz2 : w6.cell? ⟨w.heap.size, 2, none⟩ = some (.string ⟨#[]⟩) := (blk_cell HR6.out 2).trans rfl
      have hz3 : w6.cell? ⟨w.heap.size, 3, none⟩ = some (.string ⟨#[]⟩) := (blk_cell HR6.out 3).trans rfl
      have hfz0 := fz_at HR6.out 0
      have hfz1 := fz_at HR6.out 1
      have hfz2 := fz_at HR6.out 2
      have hfz3 := fz_at HR6.out 3
      clear hb6 hd2
      cases f with
      | false =>
        go_wp2_with (fail)
        rw [HFC.out]
        refine bodyPost_ret (results_ct rfl _ _ w.heap.size 75 #[.string ⟨#[]⟩, .int .i64 0, .string ⟨#[]⟩, .string ⟨#[]⟩] (0, 0) _ rfl (set4_at HR6.out) Tryz.underlying75 rfl size_lab) rfl ⟨rfl, set4_below HB6.out (Nat.le_refl _)⟩
      | true =>
        try have hne1 : (o.toList == s.toList) = false := beq_no (hob rfl)
        try have hne2 : decide (o.toList = s.toList) = false := decide_eq_false (fun e => hob rfl ((toL_inj _ _).1 e))
        try have hne3 : (o == s) = false := by rw [beq_eq_false_iff_ne]; exact hob rfl
        go_wp2_with (fail)
        rw [HFC.out]
        refine bodyPost_ret (results_ct rfl _ _ w.heap.size 75 #[.string ⟨#[]⟩, .int .i64 0, .string ⟨#[]⟩, .string ⟨#[]⟩] (0, 0) _ rfl (set4_at HR6.out) Tryz.underlying75 rfl size_lab) rfl ⟨rfl, set4_below HB6.out (Nat.le_refl _)⟩
  · have HFC : As (finL s ⟨tv, kd, bs v3, bs v4⟩ r4.ok = (noLab, false)) := ⟨by rw [hok4, finL_no]⟩
    go_wp2_with (fail)
    refine (fine_wrong _ _).mono ?_
    rintro e w6 ⟨rfl, hb6⟩
    have HR6 := As.mk (HRES.out _ hb6)
    have HB6 := As.mk (HBF.out _ hb6)
    have hz0 : w6.cell? ⟨w.heap.size, 0, none⟩ = some (.string ⟨#[]⟩) := (blk_cell HR6.out 0).trans rfl
    have hz1 : w6.cell? ⟨w.heap.size, 1, none⟩ = some (.int .i64 0) := (blk_cell HR6.out 1).trans rfl
    have hz2 : w6.cell? ⟨w.heap.size, 2, none⟩ = some (.string ⟨#[]⟩) := (blk_cell HR6.out 2).trans rfl
    have hz3 : w6.cell? ⟨w.heap.size, 3, none⟩ = some (.string ⟨#[]⟩) := (blk_cell HR6.out 3).trans rfl
    have hfz0 := fz_at HR6.out 0
    have hfz1 := fz_at HR6.out 1
    have hfz2 := fz_at HR6.out 2
    have hfz3 := fz_at HR6.out 3
    clear hb6 hd2
    cases f with
    | false =>
      go_wp2_with (fail)
      rw [HFC.out]
      refine bodyPost_ret (results_ct rfl _ _ w.heap.size 75 #[.string ⟨#[]⟩, .int .i64 0, .string ⟨#[]⟩, .string ⟨#[]⟩] (0, 0) _ rfl (set4_at HR6.out) Tryz.underlying75 rfl size_lab) rfl ⟨rfl, set4_below HB6.out (Nat.le_refl _)⟩
    | true =>
      try have hne1 : (o.toList == s.toList) = false := beq_no (hob rfl)
      try have hne2 : decide (o.toList = s.toList) = false := decide_eq_false (fun e => hob rfl ((toL_inj _ _).1 e))
      try have hne3 : (o == s) = false := by rw [beq_eq_false_iff_ne]; exact hob rfl
      go_wp2_with (fail)
      rw [HFC.out]
      refine bodyPost_ret (results_ct rfl _ _ w.heap.size 75 #[.string ⟨#[]⟩, .int .i64 0, .string ⟨#[]⟩, .string ⟨#[]⟩] (0, 0) _ rfl (set4_at HR6.out) Tryz.underlying75 rfl size_lab) rfl ⟨rfl, set4_below HB6.out (Nat.le_refl _)⟩
end Go.Proofs.YtehmhfbfgniekaaGreatDoor.Ob

namespace Go.Proofs.YtehmhfbfgniekaaGreatDoor.Ob
set_option linter.unusedVariables false
set_option linter.unusedSimpArgs false
open Go Go.RowKit Go.Proofs.YtehmhfbfgniekaaGreatDoorW.PrintWords Go.Proofs.YtehmhfbfgniekaaGreatDoorW.PrintLast Go.Proofs.YtehmhfbfgniekaaGreatDoorW.PrintMore PObBase PObDoc
namespace Gv
noncomputable def getChange.f (a0 : ByteArray) : Option (ByteArray × List ByteArray × ByteArray × ByteArray × Bool) := if a0.size ≤ 400000000 then some (tupC (Ob.getChange a0)) else none
theorem getChange.f_eq {s : ByteArray} (h : s.size ≤ 400000000) : getChange.f s = some (tupC (Ob.getChange s)) := by unfold getChange.f; rw [if_pos h]
theorem getChange.calls (a0 : ByteArray) (r1 : ByteArray) (r2 : List ByteArray) (r3 : ByteArray) (r4 : ByteArray) (r5 : Bool) (w : World) (h : getChange.f a0 = some (r1, r2, r3, r4, r5)) :
    Calls Tryz.prog 66 #[.string a0] w fun e w' => ∃ v1_ : Value, e = .returned (.tuple #[.agg #[.string r1, v1_, .string r3, .string r4], .bool r5]) ∧ Kd.R Kd.string 9 w' w.heap.size (fun _ => True) v1_ r2 ∧ Below w.heap.size w w' := by
  unfold getChange.f at h
  split at h
  · rename_i h0
    have h1 := Option.some.inj h
    have h2 := getChange_walk a0 h0 w
    unfold tupC at h1
    injection h1 with e1 h1
    injection h1 with e2 h1
    injection h1 with e3 h1
    injection h1 with e4 e5
    rw [e1, e2, e3, e4, e5] at h2
    exact h2
  · cases h
noncomputable def getLabel.f (a0 : ByteArray) : Option (ByteArray × Int × ByteArray × ByteArray × Bool) := if a0.size ≤ 400000000 then some (tupL (Ob.getLabel a0)) else none
theorem getLabel.f_eq {s : ByteArray} (h : s.size ≤ 400000000) : getLabel.f s = some (tupL (Ob.getLabel s)) := by unfold getLabel.f; rw [if_pos h]
theorem getLabel.calls (a0 : ByteArray) (r1 : ByteArray) (r2 : Int) (r3 : ByteArray) (r4 : ByteArray) (r5 : Bool) (w : World) (h : getLabel.f a0 = some (r1, r2, r3, r4, r5)) :
    Calls Tryz.prog 67 #[.string a0] w fun e w' => e = .returned (.tuple #[.agg #[.string r1, .int .i64 r2, .string r3, .string r4], .bool r5]) ∧ Below w.heap.size w w' := by
  unfold getLabel.f at h
  split at h
  · rename_i h0
    have h1 := Option.some.inj h
    have h2 := getLabel_walk a0 h0 w
    unfold tupL at h1
    injection h1 with e1 h1
    injection h1 with e2 h1
    injection h1 with e3 h1
    injection h1 with e4 e5
    rw [e1, e2, e3, e4, e5] at h2
    exact h2
  · cases h
end Gv
end Go.Proofs.YtehmhfbfgniekaaGreatDoor.Ob

namespace Go.Proofs.YtehmhfbfgniekaaGreatDoor.PObRt
open Go.Proofs.YtehmhfbfgniekaaGreatDoor.PObBase Go.Proofs.YtehmhfbfgniekaaGreatDoor.PObDoc Go.Proofs.YtehmhfbfgniekaaGreatDoor.PObGet
open Go.RowKit Go.Proofs.YtehmhfbfgniekaaGreatDoorW.PrintWords Go.Proofs.YtehmhfbfgniekaaGreatDoorW.PrintLast Go.Proofs.YtehmhfbfgniekaaGreatDoorW.PrintMore
attribute [local go_sem] max2_int min2_int max_two min_two max_three min_three max_four min_four   -- for this text's walks alone
set_option linter.unusedVariables false
set_option linter.unusedSimpArgs false
def errW : Option Int → Value
 | none => .nilIface
 | some c => .iface 0 (.int .i64 c)
theorem errW_none : errW none = .nilIface := rfl
theorem errW_some (c : Int) : errW (some c) = .iface 0 (.int .i64 c) := rfl
end Go.Proofs.YtehmhfbfgniekaaGreatDoor.PObRt

namespace Go.Proofs.YtehmhfbfgniekaaGreatDoor.PObRt
open Go.Proofs.YtehmhfbfgniekaaGreatDoor.PObBase Go.Proofs.YtehmhfbfgniekaaGreatDoor.PObDoc Go.Proofs.YtehmhfbfgniekaaGreatDoor.PObGet
open Go.RowKit Go.Proofs.YtehmhfbfgniekaaGreatDoorW.PrintWords Go.Proofs.YtehmhfbfgniekaaGreatDoorW.PrintLast Go.Proofs.YtehmhfbfgniekaaGreatDoorW.PrintMore
attribute [local go_sem] max2_int min2_int max_two min_two max_three min_three max_four min_four   -- for this text's walks alone
set_option linter.unusedVariables false
set_option linter.unusedSimpArgs false
theorem o6_ {p : Prop} (h : p := by repeat (first | (with_reducible first | exact HB.out | apply below_alloc | apply pw_below_drewN | apply below_drew1 | refine below_set ?_ GE101.out) | exact HB.out)) : p := h
theorem o7_ {p : Prop} (h : p := by (with_reducible repeat (first | refine blk_drewN ?_ _ | refine blk_drew ?_ | refine blk_alloc ?_ _)); exact BK101.out) : p := h
noncomputable def object_Right.f (k : Nat) (a0_0 : Int) (a0_1 : ByteArray) : Option (Bool) := if a0_0 = 2 then ((PObGet.object_GetTree.f k a0_1).bind fun bt102 => (if bt102.2 = true then (some (decide ((a0_1.size : Int) ≤ 65536))) else (some false))) else (if a0_0 = 3 then ((Ob.Gv.getChange.f a0_1).bind fun bt106 => (if bt106.2.2.2.2 = true then (some (decide ((a0_1.size : Int) ≤ 65536))) else (some false))) else (if a0_0 = 4 then ((Ob.Gv.getLabel.f a0_1).bind fun bt113 => (if bt113.2.2.2.2 = true then (some (decide ((a0_1.size : Int) ≤ 65536))) else (some false))) else (if a0_0 = 1 then (some (decide ((a0_1.size : Int) ≤ 65536))) else (some false))))
set_option maxHeartbeats 8000000 in
set_option maxRecDepth 100000 in
theorem object_Right.calls (k : Nat) (a0_0 : Int) (a0_1 : ByteArray) (r : Bool) (w : World) (h : object_Right.f k a0_0 a0_1 = some r) (ht_ : Lib.TabIs Tryz.prog w "internal/strconv.uint64pow10" .u64 Lib.pow10Tab) :
  Calls Tryz.prog 56 #[.agg #[.int .i64 a0_0, .string a0_1]] w fun e w' => e = .returned (.bool r) ∧ Below w.heap.size w w' := by
 have HTAB_ : Aside0 (∀ w_ : World, Below w.heap.size w w_ → Lib.TabIs Tryz.prog w_ "internal/strconv.uint64pow10" .u64 Lib.pow10Tab) := Aside0.mk (fun w_ hb_ => Lib.tabBelow_of_tabIs ht_ w_ hb_)
 clear ht_
 have hu30 := Tryz.underlying30
 have HB := Aside0.mk (Below.refl w.heap.size w)
 have H : (if a0_0 = 2 then ((PObGet.object_GetTree.f k a0_1).bind fun bt102 => (if bt102.2 = true then (some (decide ((a0_1.size : Int) ≤ 65536))) else (some false))) else (if a0_0 = 3 then ((Ob.Gv.getChange.f a0_1).bind fun bt106 => (if bt106.2.2.2.2 = true then (some (decide ((a0_1.size : Int) ≤ 65536))) else (some false))) else (if a0_0 = 4 then ((Ob.Gv.getLabel.f a0_1).bind fun bt113 => (if bt113.2.2.2.2 = true then (some (decide ((a0_1.size : Int) ≤ 65536))) else (some false))) else (if a0_0 = 1 then (some (decide ((a0_1.size : Int) ≤ 65536))) else (some false))))) = some r := h
 clear h
 by_cases c2 : a0_0 = 2
 ·
  rw [if_pos c2] at H
  have c2b0 : (a0_0 == 2) = true := beq_iff_eq.mpr c2
  have c2b1 : (a0_0 != 2) = false := bne_eq_false_iff_eq.mpr c2
  clear c2
  replace H := Option.bind_eq_some_iff.mp H
  obtain ⟨⟨t102, t103⟩, A30, H⟩ := H
  replace H : (if t103 = true then (some (decide ((a0_1.size : Int) ≤ 65536))) else (some false)) = some r := H
  have A3 := Aside0.mk A30
  clear A30
  by_cases c4 : t103 = true
  ·
   subst c4
   have H1 : (some (decide ((a0_1.size : Int) ≤ 65536))) = some r := by rw [if_pos rfl] at H; exact H
   clear H
   have H := H1
   clear H1
   obtain rfl := Option.some.inj H
   go_enter Tryz.func56, Tryz.ntmps56
   go_wp2_with (first | ((with_reducible refine gate_dst (N := 1) rfl ?_); (try (refine gate_guard (by rfl) ?_; dsimp only)); refine box_event ?hg (N := 1) ?hd (cs := #[.int .i64 a0_0, .string a0_1]) (t := 30) ?hr ?_; (case hd => rfl); (case hg => rfl); (case hr => first | (go_simp; done) | (go_simp; rfl)); intro gb101 hg w5 hbox hb; have n0_ := Aside0.mk (below_step bw_ hb); have n1_ := Aside0.mk (hbox); have n2_ := Aside0.mk ((by rw [hg]; exact (below_size bw_) : w.heap.size ≤ gb101)); have n3_ := Aside0.mk ((by rw [hg]; exact (below_size bw_) : w.heap.size ≤ gb101)); clear HB; have HB := n0_; have BK101 := n1_; have GW101 := n2_; have GE101 := n3_; clear n0_ n1_ n2_ n3_; clear hb hbox hg; have hcz6_0 : w5.cell? ⟨gb101, 0, none⟩ = some (.int .i64 a0_0) := (blk_cell BK101.out 0).trans rfl; have hcz6_1 : w5.cell? ⟨gb101, 1, none⟩ = some (.string a0_1) := (blk_cell BK101.out 1).trans rfl; have hfz6_0 := blk_frozen BK101.out 0; have hfz6_1 := blk_frozen BK101.out 1) | ((with_reducible refine gate_callee (f := 65) rfl ?_); refine goesL_ (some 11) rfl rfl Tryz.func65 (by kernel_rfl) rfl #[.string a0_1] rfl la_ ?_; (with_reducible refine (PObGet.object_GetTree.calls k a0_1 t102 true _ A3.out (HTAB_.out _ (by first | exact Below.refl _ _ | (with_reducible exact Aside0.out (by assumption)) | repeat (first | (with_reducible exact Aside0.out (by assumption)) | apply below_alloc | apply pw_below_drewN | apply below_drew1 | (refine below_set ?_ ?_; rotate_left; (with_reducible exact Aside0.out (by assumption))))))).mono ?_); rintro e w7 ⟨v104, rfl, ho0, hb⟩; refine ⟨_, rfl, ?_⟩; have n0_ := Aside0.mk (Kd.R_lower ho0 (below_size o6_)); have n1_ := Aside0.mk (blk_below (g := gb101) (o := .cells #[.int .i64 a0_0, .string a0_1] 30 (0, 0)) o7_ hb); have n2_ := Aside0.mk (below_step o6_ hb); clear BK101; clear HB; have HO105 := n0_; have BK101 := n1_; have HB := n2_; clear n0_ n1_ n2_; (try clear hb); (try clear hb2); (try clear hk); (try clear hi); (try clear ho0); have hcz8_0 : w7.cell? ⟨gb101, 0, none⟩ = some (.int .i64 a0_0) := (blk_cell BK101.out 0).trans rfl; have hcz8_1 : w7.cell? ⟨gb101, 1, none⟩ = some (.string a0_1) := (blk_cell BK101.out 1).trans rfl; have hfz8_0 := blk_frozen BK101.out 0; have hfz8_1 := blk_frozen BK101.out 1))
   go_ret
   exact ⟨er_, o6_⟩
  ·
   replace c4 := Bool.eq_false_iff.mpr c4
   subst c4
   have H1 : (some false) = some r := by rw [if_neg (show ¬ (false = true) by decide)] at H; exact H
   clear H
   have H := H1
   clear H1
   obtain rfl := Option.some.inj H
   go_enter Tryz.func56, Tryz.ntmps56
   go_wp2_with (first | ((with_reducible refine gate_dst (N := 1) rfl ?_); (try (refine gate_guard (by rfl) ?_; dsimp only)); refine box_event ?hg (N := 1) ?hd (cs := #[.int .i64 a0_0, .string a0_1]) (t := 30) ?hr ?_; (case hd => rfl); (case hg => rfl); (case hr => first | (go_simp; done) | (go_simp; rfl)); intro gb101 hg w9 hbox hb; have n0_ := Aside0.mk (below_step bw_ hb); have n1_ := Aside0.mk (hbox); have n2_ := Aside0.mk ((by rw [hg]; exact (below_size bw_) : w.heap.size ≤ gb101)); have n3_ := Aside0.mk ((by rw [hg]; exact (below_size bw_) : w.heap.size ≤ gb101)); clear HB; have HB := n0_; have BK101 := n1_; have GW101 := n2_; have GE101 := n3_; clear n0_ n1_ n2_ n3_; clear hb hbox hg; have hcz10_0 : w9.cell? ⟨gb101, 0, none⟩ = some (.int .i64 a0_0) := (blk_cell BK101.out 0).trans rfl; have hcz10_1 : w9.cell? ⟨gb101, 1, none⟩ = some (.string a0_1) := (blk_cell BK101.out 1).trans rfl; have hfz10_0 := blk_frozen BK101.out 0; have hfz10_1 := blk_frozen BK101.out 1) | ((with_reducible refine gate_callee (f := 65) rfl ?_); refine goesL_ (some 11) rfl rfl Tryz.func65 (by kernel_rfl) rfl #[.string a0_1] rfl la_ ?_; (with_reducible refine (PObGet.object_GetTree.calls k a0_1 t102 false _ A3.out (HTAB_.out _ (by first | exact Below.refl _ _ | (with_reducible exact Aside0.out (by assumption)) | repeat (first | (with_reducible exact Aside0.out (by assumption)) | apply below_alloc | apply pw_below_drewN | apply below_drew1 | (refine below_set ?_ ?_; rotate_left; (with_reducible exact Aside0.out (by assumption))))))).mono ?_); rintro e w11 ⟨v104, rfl, ho0, hb⟩; refine ⟨_, rfl, ?_⟩; have n0_ := Aside0.mk (Kd.R_lower ho0 (below_size o6_)); have n1_ := Aside0.mk (blk_below (g := gb101) (o := .cells #[.int .i64 a0_0, .string a0_1] 30 (0, 0)) o7_ hb); have n2_ := Aside0.mk (below_step o6_ hb); clear BK101; clear HB; have HO105 := n0_; have BK101 := n1_; have HB := n2_; clear n0_ n1_ n2_; (try clear hb); (try clear hb2); (try clear hk); (try clear hi); (try clear ho0)))
   go_ret
   exact ⟨er_, o6_⟩
 ·
  rw [if_neg c2] at H
  have c2b0 : (a0_0 == 2) = false := beq_eq_false_iff_ne.mpr c2
  have c2b1 : (a0_0 != 2) = true := bne_iff_ne.mpr c2
  by_cases c12 : a0_0 = 3
  ·
   rw [if_pos c12] at H
   have c12b0 : (a0_0 == 3) = true := beq_iff_eq.mpr c12
   have c12b1 : (a0_0 != 3) = false := bne_eq_false_iff_eq.mpr c12
   clear c12
   replace H := Option.bind_eq_some_iff.mp H
   obtain ⟨⟨t106, t107, t110, t111, t112⟩, A130, H⟩ := H
   replace H : (if t112 = true then (some (decide ((a0_1.size : Int) ≤ 65536))) else (some false)) = some r := H
   have A13 := Aside0.mk A130
   clear A130
   by_cases c14 : t112 = true
   ·
    subst c14
    have H1 : (some (decide ((a0_1.size : Int) ≤ 65536))) = some r := by rw [if_pos rfl] at H; exact H
    clear H
    have H := H1
    clear H1
    obtain rfl := Option.some.inj H
    go_enter Tryz.func56, Tryz.ntmps56
    go_wp2_with (first | ((with_reducible refine gate_dst (N := 1) rfl ?_); (try (refine gate_guard (by rfl) ?_; dsimp only)); refine box_event ?hg (N := 1) ?hd (cs := #[.int .i64 a0_0, .string a0_1]) (t := 30) ?hr ?_; (case hd => rfl); (case hg => rfl); (case hr => first | (go_simp; done) | (go_simp; rfl)); intro gb101 hg w15 hbox hb; have n0_ := Aside0.mk (below_step bw_ hb); have n1_ := Aside0.mk (hbox); have n2_ := Aside0.mk ((by rw [hg]; exact (below_size bw_) : w.heap.size ≤ gb101)); have n3_ := Aside0.mk ((by rw [hg]; exact (below_size bw_) : w.heap.size ≤ gb101)); clear HB; have HB := n0_; have BK101 := n1_; have GW101 := n2_; have GE101 := n3_; clear n0_ n1_ n2_ n3_; clear hb hbox hg; have hcz16_0 : w15.cell? ⟨gb101, 0, none⟩ = some (.int .i64 a0_0) := (blk_cell BK101.out 0).trans rfl; have hcz16_1 : w15.cell? ⟨gb101, 1, none⟩ = some (.string a0_1) := (blk_cell BK101.out 1).trans rfl; have hfz16_0 := blk_frozen BK101.out 0; have hfz16_1 := blk_frozen BK101.out 1) | ((with_reducible refine gate_callee (f := 66) rfl ?_); refine goesL_ (some 19) rfl rfl Tryz.func66 (by kernel_rfl) rfl #[.string a0_1] rfl la_ ?_; (with_reducible refine (Ob.Gv.getChange.calls a0_1 t106 t107 t110 t111 true _ A13.out).mono ?_); rintro e w17 ⟨v108, rfl, ho0, hb⟩; refine ⟨_, rfl, ?_⟩; have n0_ := Aside0.mk (Kd.R_lower ho0 (below_size o6_)); have n1_ := Aside0.mk (blk_below (g := gb101) (o := .cells #[.int .i64 a0_0, .string a0_1] 30 (0, 0)) o7_ hb); have n2_ := Aside0.mk (below_step o6_ hb); clear BK101; clear HB; have HO109 := n0_; have BK101 := n1_; have HB := n2_; clear n0_ n1_ n2_; (try clear hb); (try clear hb2); (try clear hk); (try clear hi); (try clear ho0); have hcz18_0 : w17.cell? ⟨gb101, 0, none⟩ = some (.int .i64 a0_0) := (blk_cell BK101.out 0).trans rfl; have hcz18_1 : w17.cell? ⟨gb101, 1, none⟩ = some (.string a0_1) := (blk_cell BK101.out 1).trans rfl; have hfz18_0 := blk_frozen BK101.out 0; have hfz18_1 := blk_frozen BK101.out 1))
    go_ret
    exact ⟨er_, o6_⟩
   ·
    replace c14 := Bool.eq_false_iff.mpr c14
    subst c14
    have H1 : (some false) = some r := by rw [if_neg (show ¬ (false = true) by decide)] at H; exact H
    clear H
    have H := H1
    clear H1
    obtain rfl := Option.some.inj H
    go_enter Tryz.func56, Tryz.ntmps56
    go_wp2_with (first | ((with_reducible refine gate_dst (N := 1) rfl ?_); (try (refine gate_guard (by rfl) ?_; dsimp only)); refine box_event ?hg (N := 1) ?hd (cs := #[.int .i64 a0_0, .string a0_1]) (t := 30) ?hr ?_; (case hd => rfl); (case hg => rfl); (case hr => first | (go_simp; done) | (go_simp; rfl)); intro gb101 hg w19 hbox hb; have n0_ := Aside0.mk (below_step bw_ hb); have n1_ := Aside0.mk (hbox); have n2_ := Aside0.mk ((by rw [hg]; exact (below_size bw_) : w.heap.size ≤ gb101)); have n3_ := Aside0.mk ((by rw [hg]; exact (below_size bw_) : w.heap.size ≤ gb101)); clear HB; have HB := n0_; have BK101 := n1_; have GW101 := n2_; have GE101 := n3_; clear n0_ n1_ n2_ n3_; clear hb hbox hg; have hcz20_0 : w19.cell? ⟨gb101, 0, none⟩ = some (.int .i64 a0_0) := (blk_cell BK101.out 0).trans rfl; have hcz20_1 : w19.cell? ⟨gb101, 1, none⟩ = some (.string a0_1) := (blk_cell BK101.out 1).trans rfl; have hfz20_0 := blk_frozen BK101.out 0; have hfz20_1 := blk_frozen BK101.out 1) | ((with_reducible refine gate_callee (f := 66) rfl ?_); refine goesL_ (some 19) rfl rfl Tryz.func66 (by kernel_rfl) rfl #[.string a0_1] rfl la_ ?_; (with_reducible refine (Ob.Gv.getChange.calls a0_1 t106 t107 t110 t111 false _ A13.out).mono ?_); rintro e w21 ⟨v108, rfl, ho0, hb⟩; refine ⟨_, rfl, ?_⟩; have n0_ := Aside0.mk (Kd.R_lower ho0 (below_size o6_)); have n1_ := Aside0.mk (blk_below (g := gb101) (o := .cells #[.int .i64 a0_0, .string a0_1] 30 (0, 0)) o7_ hb); have n2_ := Aside0.mk (below_step o6_ hb); clear BK101; clear HB; have HO109 := n0_; have BK101 := n1_; have HB := n2_; clear n0_ n1_ n2_; (try clear hb); (try clear hb2); (try clear hk); (try clear hi); (try clear ho0)))
    go_ret
    exact ⟨er_, o6_⟩
  ·
   rw [if_neg c12] at H
   have c12b0 : (a0_0 == 3) = false := beq_eq_false_iff_ne.mpr c12
   have c12b1 : (a0_0 != 3) = true := bne_iff_ne.mpr c12
   by_cases c22 : a0_0 = 4
   ·
    rw [if_pos c22] at H
    have c22b0 : (a0_0 == 4) = true := beq_iff_eq.mpr c22
    have c22b1 : (a0_0 != 4) = false := bne_eq_false_iff_eq.mpr c22
    clear c22
    replace H := Option.bind_eq_some_iff.mp H
    obtain ⟨⟨t113, t114, t115, t116, t117⟩, A230, H⟩ := H
    replace H : (if t117 = true then (some (decide ((a0_1.size : Int) ≤ 65536))) else (some false)) = some r := H
    have A23 := Aside0.mk A230
    clear A230
    by_cases c24 : t117 = true
    ·
     subst c24
     have H1 : (some (decide ((a0_1.size : Int) ≤ 65536))) = some r := by rw [if_pos rfl] at H; exact H
     clear H
     have H := H1
     clear H1
     obtain rfl := Option.some.inj H
     go_enter Tryz.func56, Tryz.ntmps56
     go_wp2_with (first | ((with_reducible refine gate_dst (N := 1) rfl ?_); (try (refine gate_guard (by rfl) ?_; dsimp only)); refine box_event ?hg (N := 1) ?hd (cs := #[.int .i64 a0_0, .string a0_1]) (t := 30) ?hr ?_; (case hd => rfl); (case hg => rfl); (case hr => first | (go_simp; done) | (go_simp; rfl)); intro gb101 hg w25 hbox hb; have n0_ := Aside0.mk (below_step bw_ hb); have n1_ := Aside0.mk (hbox); have n2_ := Aside0.mk ((by rw [hg]; exact (below_size bw_) : w.heap.size ≤ gb101)); have n3_ := Aside0.mk ((by rw [hg]; exact (below_size bw_) : w.heap.size ≤ gb101)); clear HB; have HB := n0_; have BK101 := n1_; have GW101 := n2_; have GE101 := n3_; clear n0_ n1_ n2_ n3_; clear hb hbox hg; have hcz26_0 : w25.cell? ⟨gb101, 0, none⟩ = some (.int .i64 a0_0) := (blk_cell BK101.out 0).trans rfl; have hcz26_1 : w25.cell? ⟨gb101, 1, none⟩ = some (.string a0_1) := (blk_cell BK101.out 1).trans rfl; have hfz26_0 := blk_frozen BK101.out 0; have hfz26_1 := blk_frozen BK101.out 1) | ((with_reducible refine gate_callee (f := 67) rfl ?_); refine goesL_ (some 27) rfl rfl Tryz.func67 (by kernel_rfl) rfl #[.string a0_1] rfl la_ ?_; (with_reducible refine (Ob.Gv.getLabel.calls a0_1 t113 t114 t115 t116 true _ A23.out).mono ?_); rintro e w27 ⟨rfl, hb⟩; refine ⟨_, rfl, ?_⟩; have n0_ := Aside0.mk (blk_below (g := gb101) (o := .cells #[.int .i64 a0_0, .string a0_1] 30 (0, 0)) o7_ hb); have n1_ := Aside0.mk (below_step o6_ hb); clear BK101; clear HB; have BK101 := n0_; have HB := n1_; clear n0_ n1_; (try clear hb); (try clear hb2); (try clear hk); (try clear hi); have hcz28_0 : w27.cell? ⟨gb101, 0, none⟩ = some (.int .i64 a0_0) := (blk_cell BK101.out 0).trans rfl; have hcz28_1 : w27.cell? ⟨gb101, 1, none⟩ = some (.string a0_1) := (blk_cell BK101.out 1).trans rfl; have hfz28_0 := blk_frozen BK101.out 0; have hfz28_1 := blk_frozen BK101.out 1))
     go_ret
     exact ⟨er_, o6_⟩
    ·
     replace c24 := Bool.eq_false_iff.mpr c24
     subst c24
     have H1 : (some false) = some r := by rw [if_neg (show ¬ (false = true) by decide)] at H; exact H
     clear H
     have H := H1
     clear H1
     obtain rfl := Option.some.inj H
     go_enter Tryz.func56, Tryz.ntmps56
     go_wp2_with (first | ((with_reducible refine gate_dst (N := 1) rfl ?_); (try (refine gate_guard (by rfl) ?_; dsimp only)); refine box_event ?hg (N := 1) ?hd (cs := #[.int .i64 a0_0, .string a0_1]) (t := 30) ?hr ?_; (case hd => rfl); (case hg => rfl); (case hr => first | (go_simp; done) | (go_simp; rfl)); intro gb101 hg w29 hbox hb; have n0_ := Aside0.mk (below_step bw_ hb); have n1_ := Aside0.mk (hbox); have n2_ := Aside0.mk ((by rw [hg]; exact (below_size bw_) : w.heap.size ≤ gb101)); have n3_ := Aside0.mk ((by rw [hg]; exact (below_size bw_) : w.heap.size ≤ gb101)); clear HB; have HB := n0_; have BK101 := n1_; have GW101 := n2_; have GE101 := n3_; clear n0_ n1_ n2_ n3_; clear hb hbox hg; have hcz30_0 : w29.cell? ⟨gb101, 0, none⟩ = some (.int .i64 a0_0) := (blk_cell BK101.out 0).trans rfl; have hcz30_1 : w29.cell? ⟨gb101, 1, none⟩ = some (.string a0_1) := (blk_cell BK101.out 1).trans rfl; have hfz30_0 := blk_frozen BK101.out 0; have hfz30_1 := blk_frozen BK101.out 1) | ((with_reducible refine gate_callee (f := 67) rfl ?_); refine goesL_ (some 27) rfl rfl Tryz.func67 (by kernel_rfl) rfl #[.string a0_1] rfl la_ ?_; (with_reducible refine (Ob.Gv.getLabel.calls a0_1 t113 t114 t115 t116 false _ A23.out).mono ?_); rintro e w31 ⟨rfl, hb⟩; refine ⟨_, rfl, ?_⟩; have n0_ := Aside0.mk (blk_below (g := gb101) (o := .cells #[.int .i64 a0_0, .string a0_1] 30 (0, 0)) o7_ hb); have n1_ := Aside0.mk (below_step o6_ hb); clear BK101; clear HB; have BK101 := n0_; have HB := n1_; clear n0_ n1_; (try clear hb); (try clear hb2); (try clear hk); (try clear hi)))
     go_ret
     exact ⟨er_, o6_⟩
   ·
    rw [if_neg c22] at H
    have c22b0 : (a0_0 == 4) = false := beq_eq_false_iff_ne.mpr c22
    have c22b1 : (a0_0 != 4) = true := bne_iff_ne.mpr c22
    by_cases c32 : a0_0 = 1
    ·
     rw [if_pos c32] at H
     have c32b0 : (a0_0 == 1) = true := beq_iff_eq.mpr c32
     have c32b1 : (a0_0 != 1) = false := bne_eq_false_iff_eq.mpr c32
     clear c32
     obtain rfl := Option.some.inj H
     go_enter Tryz.func56, Tryz.ntmps56
     go_wp2_with (first | ((with_reducible refine gate_dst (N := 1) rfl ?_); (try (refine gate_guard (by rfl) ?_; dsimp only)); refine box_event ?hg (N := 1) ?hd (cs := #[.int .i64 a0_0, .string a0_1]) (t := 30) ?hr ?_; (case hd => rfl); (case hg => rfl); (case hr => first | (go_simp; done) | (go_simp; rfl)); intro gb101 hg w33 hbox hb; have n0_ := Aside0.mk (below_step bw_ hb); have n1_ := Aside0.mk (hbox); have n2_ := Aside0.mk ((by rw [hg]; exact (below_size bw_) : w.heap.size ≤ gb101)); have n3_ := Aside0.mk ((by rw [hg]; exact (below_size bw_) : w.heap.size ≤ gb101)); clear HB; have HB := n0_; have BK101 := n1_; have GW101 := n2_; have GE101 := n3_; clear n0_ n1_ n2_ n3_; clear hb hbox hg; have hcz34_0 : w33.cell? ⟨gb101, 0, none⟩ = some (.int .i64 a0_0) := (blk_cell BK101.out 0).trans rfl; have hcz34_1 : w33.cell? ⟨gb101, 1, none⟩ = some (.string a0_1) := (blk_cell BK101.out 1).trans rfl; have hfz34_0 := blk_frozen BK101.out 0; have hfz34_1 := blk_frozen BK101.out 1))
     go_ret
     exact ⟨er_, o6_⟩
    ·
     rw [if_neg c32] at H
     have c32b0 : (a0_0 == 1) = false := beq_eq_false_iff_ne.mpr c32
     have c32b1 : (a0_0 != 1) = true := bne_iff_ne.mpr c32
     obtain rfl := Option.some.inj H
     go_enter Tryz.func56, Tryz.ntmps56
     go_wp2_with (first | ((with_reducible refine gate_dst (N := 1) rfl ?_); (try (refine gate_guard (by rfl) ?_; dsimp only)); refine box_event ?hg (N := 1) ?hd (cs := #[.int .i64 a0_0, .string a0_1]) (t := 30) ?hr ?_; (case hd => rfl); (case hg => rfl); (case hr => first | (go_simp; done) | (go_simp; rfl)); intro gb101 hg w35 hbox hb; have n0_ := Aside0.mk (below_step bw_ hb); have n1_ := Aside0.mk (hbox); have n2_ := Aside0.mk ((by rw [hg]; exact (below_size bw_) : w.heap.size ≤ gb101)); have n3_ := Aside0.mk ((by rw [hg]; exact (below_size bw_) : w.heap.size ≤ gb101)); clear HB; have HB := n0_; have BK101 := n1_; have GW101 := n2_; have GE101 := n3_; clear n0_ n1_ n2_ n3_; clear hb hbox hg; have hcz36_0 : w35.cell? ⟨gb101, 0, none⟩ = some (.int .i64 a0_0) := (blk_cell BK101.out 0).trans rfl; have hcz36_1 : w35.cell? ⟨gb101, 1, none⟩ = some (.string a0_1) := (blk_cell BK101.out 1).trans rfl; have hfz36_0 := blk_frozen BK101.out 0; have hfz36_1 := blk_frozen BK101.out 1))
     go_ret
     exact ⟨er_, o6_⟩
end Go.Proofs.YtehmhfbfgniekaaGreatDoor.PObRt

namespace Go.Proofs.YtehmhfbfgniekaaGreatDoor.Ob
set_option linter.unusedVariables false
set_option linter.unusedSimpArgs false
open Go Go.RowKit Go.Proofs.YtehmhfbfgniekaaGreatDoorW.PrintWords Go.Proofs.YtehmhfbfgniekaaGreatDoorW.PrintLast Go.Proofs.YtehmhfbfgniekaaGreatDoorW.PrintMore PObBase PObDoc PObGet PObRt
noncomputable def rightB (k : Int) (d : ByteArray) : Bool := decide (d.size ≤ 65536) && (if k = 1 then true else if k = 2 then (getTree d).2 else if k = 3 then (getChange d).2 else if k = 4 then (getLabel d).2 else false)
theorem rightB_1 (d : ByteArray) : rightB 1 d = decide (d.size ≤ 65536) := by unfold rightB; rw [if_pos rfl, Bool.and_true]
theorem rightB_2 (d : ByteArray) : rightB 2 d = (decide (d.size ≤ 65536) && (getTree d).2) := by unfold rightB; rw [if_neg (by decide), if_pos rfl]
theorem rightB_3 (d : ByteArray) : rightB 3 d = (decide (d.size ≤ 65536) && (getChange d).2) := by unfold rightB; rw [if_neg (by decide), if_neg (by decide), if_pos rfl]
theorem rightB_4 (d : ByteArray) : rightB 4 d = (decide (d.size ≤ 65536) && (getLabel d).2) := by unfold rightB; rw [if_neg (by decide), if_neg (by decide), if_neg (by decide), if_pos rfl]
theorem rightB_else {k : Int} (h1 : ¬ k = 1) (h2 : ¬ k = 2) (h3 : ¬ k = 3) (h4 : ¬ k = 4) (d : ByteArray) : rightB k d = false := by unfold rightB; rw [if_neg h1, if_neg h2, if_neg h3, if_neg h4, Bool.and_false]
theorem rightB_size {k : Int} {d : ByteArray} (h : ¬ d.size ≤ 65536) : rightB k d = false := by unfold rightB; rw [decide_eq_false h, Bool.false_and]
theorem right_ev (k : Int) (d : ByteArray) (hd : d.size ≤ 400000000) : Ev (fun n => object_Right.f n k d) (rightB k d) := by
  have key : decide ((d.size : Int) ≤ 65536) = decide (d.size ≤ 65536) := by rw [decide_eq_decide]; omega
  unfold object_Right.f
  by_cases h2 : k = 2
  · subst h2
    refine Ev.congr (fun n => if_pos rfl) (Ev.bind (getT_ev d (by omega)) ?_)
    rw [rightB_2]
    cases (getTree d).2 with
    | true => rw [key, Bool.and_true]; exact Ev.congr (fun n => if_pos rfl) (Ev.now _)
    | false => rw [Bool.and_false]; exact Ev.congr (fun n => if_neg (by simp)) (Ev.now _)
  by_cases h3 : k = 3
  · subst h3
    refine Ev.congr (f := fun n => (some (tupC (getChange d))).bind fun b => if b.2.2.2.2 = true then some (decide ((d.size : Int) ≤ 65536)) else some false) (fun n => (if_neg h2).trans ((if_pos rfl).trans (by rw [Gv.getChange.f_eq hd]))) ?_
    rw [rightB_3]
    unfold tupC
    cases (getChange d).2 with
    | true => rw [key, Bool.and_true]; exact Ev.now _
    | false => rw [Bool.and_false]; exact Ev.now _
  by_cases h4 : k = 4
  · subst h4
    refine Ev.congr (f := fun n => (some (tupL (getLabel d))).bind fun b => if b.2.2.2.2 = true then some (decide ((d.size : Int) ≤ 65536)) else some false) (fun n => (if_neg h2).trans ((if_neg h3).trans ((if_pos rfl).trans (by rw [Gv.getLabel.f_eq hd])))) ?_
    rw [rightB_4]
    unfold tupL
    cases (getLabel d).2 with
    | true => rw [key, Bool.and_true]; exact Ev.now _
    | false => rw [Bool.and_false]; exact Ev.now _
  by_cases h1 : k = 1
  · subst h1
    rw [rightB_1]
    rw [← key]
    exact Ev.congr (fun n => (if_neg h2).trans ((if_neg h3).trans ((if_neg h4).trans (if_pos rfl)))) (Ev.now _)
  · rw [rightB_else h1 h2 h3 h4]
    exact Ev.congr (fun n => (if_neg h2).trans ((if_neg h3).trans ((if_neg h4).trans (if_neg h1)))) (Ev.now _)
theorem right_walk (k : Int) (d : ByteArray) (hd : d.size ≤ 400000000) (w : World) (ht : Tbl w) : Calls Tryz.prog 56 #[.agg #[.int .i64 k, .string d]] w fun e w' => e = .returned (.bool (rightB k d)) ∧ Below w.heap.size w w' := by
  obtain ⟨n, hn⟩ := (right_ev k d hd).rounds
  exact object_Right.calls n k d _ w hn ht
end Go.Proofs.YtehmhfbfgniekaaGreatDoor.Ob

namespace Go.Proofs.YtehmhfbfgniekaaGreatDoor.Ob
set_option linter.unusedVariables false
set_option linter.unusedSimpArgs false
open Go Go.RowKit Go.Proofs.YtehmhfbfgniekaaGreatDoorW.PrintWords Go.Proofs.YtehmhfbfgniekaaGreatDoorW.PrintLast Go.Proofs.YtehmhfbfgniekaaGreatDoorW.PrintMore PObBase PObDoc
theorem C_at {w w' : World} {A : Option Addr} {n : Nat} {l : List ByteArray} (h : Kd.C Kd.string w A n l) (hb : ∀ ad, A = some ad → w'.heap[ad.block]? = w.heap[ad.block]?) : Kd.C Kd.string w' A n l := by
  obtain ⟨h1, h2, h3⟩ := Kd.reads_of_C (d := ByteArray.empty) h
  refine Kd.C_of_reads (d := ByteArray.empty) ⟨h1, h2, fun hp => ?_⟩
  obtain ⟨ad, e, hc⟩ := h3 hp
  refine ⟨ad, e, fun j hj => ?_⟩
  rw [← hc j hj]
  have := hb ad e
  unfold World.cell?
  have hbk : (ad.add j).block = ad.block := by unfold Addr.add; split <;> rfl
  rw [hbk, this]
structure Wp (w0 : World) (base bo : Nat) (acc : List Wnt) (ok : Nat → Prop) (v : Value) (w' : World) : Prop where
  hk : w'.heap[bo]? = some (.cells #[v] 40 (0, 0))
  hr : Kd.R k43 43 w' base ok v acc
  hb : Below bo w0 w'
  ho : ∀ k, k < base → k ≠ bo → w'.heap[k]? = w0.heap[k]?
  hs : base ≤ w'.heap.size
  hbo : bo < base
theorem Wp.put {w0 wr w1 : World} {base bo : Nat} {acc acc1 : List Wnt} {ok ok1 : Nat → Prop} {v v1 : Value} (h : Wp w0 base bo acc ok v wr) (hr : Kd.R k43 43 w1 base ok1 v1 acc1) (hb : Below base wr w1) : Wp w0 base bo acc1 ok1 v1 (w1.setCell ⟨bo, 0, none⟩ v1) where
  hk := by
    have := (hb.block bo h.hbo).trans h.hk
    simp [World.setCell, Array.getElem?_modify, this]
  hr := Kd.R_mono (Kd.R_move (Kd.R_bound hr) (fun k hk2 => set_other (by have := hk2.2.1; have := h.hbo; omega) _ _)) (fun _ hk => hk.1)
  hb := (h.hb.trans (hb.mono (Nat.le_of_lt h.hbo))).setCell (p := ⟨bo, 0, none⟩) (Nat.le_refl _) _
  ho := fun k hk hne => (set_other hne _ _).trans ((hb.block k hk).trans (h.ho k hk hne))
  hs := Nat.le_trans h.hs (Nat.le_trans hb.size ((Below.refl 0 w1).setCell (p := ⟨bo, 0, none⟩) (Nat.zero_le _) v1).size)
  hbo := h.hbo
theorem info_want : (Tryz.prog.info? 43).map (fun i => (i.zero, i.size, i.bytes)) = some (some (.agg #[(.string ⟨#[]⟩), (.int .i64 0)]), 2, 24) := by kernel_rfl
set_option maxHeartbeats 8000000 in
set_option maxRecDepth 100000 in
theorem wants1_walk (kind : Int) (A : Option Addr) (n c : Nat) (ids : List ByteArray) (bo base : Nat) (v : Value) (acc : List Wnt) (w : World) (hC : Kd.C Kd.string w A n ids) (hn : ids.length = n) (hc : n ≤ c)
    (hW : Wp w base bo acc (fun k => ∀ ad, A = some ad → k ≠ ad.block) v w) (hA : ∀ ad, A = some ad → ad.block ≠ bo ∧ ad.block < w.heap.size) (hl : acc.length + n ≤ 1000000) :
    Calls Tryz.prog 64 #[.int .i64 kind, .slice A n c, .pointer (some ⟨bo, 0, none⟩)] w fun e w' => e = .returned (.tuple #[]) ∧ ∃ v', Wp w base bo (acc ++ ids.map (fun s => (⟨s, kind⟩ : Wnt))) (fun _ => True) v' w' := by
  have HC := As.mk hC
  have HN := As.mk hn
  have HW0 := As.mk hW
  have HA := As.mk hA
  have hmax := Kd.C_max hC
  clear hC hn hW hA
  go_enter Tryz.func64, Tryz.ntmps64
  go_wp2_with (fail)
  go_loopw [9] (fun v9 wr => ∃ (i : Nat) (u : Value), v9 = .int .i64 i ∧ i ≤ n ∧ As (Wp w base bo (acc ++ (ids.take i).map (fun s => (⟨s, kind⟩ : Wnt))) (fun k => ∀ ad, A = some ad → k ≠ ad.block) u wr) ∧ As (∀ ad, A = some ad → wr.heap[ad.block]? = w.heap[ad.block]?)) (fun v9 _ => n - (intOf v9).toNat)
  case atStart => exact ⟨0, v, rfl, by omega, ⟨by rw [List.take_zero, List.map_nil, List.append_nil]; exact HW0.out⟩, ⟨fun _ _ => rfl⟩⟩
  case round =>
    obtain ⟨i, u, rfl, hi, HW, HK⟩ := hrel
    by_cases hlt : i < n
    · have hil : i < ids.length := by rw [HN.out]; exact hlt
      obtain ⟨ad, had, hp0⟩ := at_str (C_at HC.out HK.out) (i : Int) (by omega) (by omega)
      obtain ⟨s, hs⟩ : ∃ s, rd_str ids (i : Int) = s := ⟨_, rfl⟩
      have HX := As.mk (rd_str_at hil hs)
      rw [hs, Int.toNat_natCast] at hp0
      subst had
      have hd0 : wr.cell? ⟨bo, 0, none⟩ = some u := (blk_cell HW.out.hk 0).trans rfl
      have hl2 : ((acc ++ (ids.take i).map (fun s => (⟨s, kind⟩ : Wnt))).length + 1) * 24 ≤ 140737488355328 := by
        rw [List.length_append, List.length_map, List.length_take]; omega
      clear hs hil
      go_wp2_with (first
        | ((with_reducible refine gate_builtin (b := .append) (xs := #[.tmp 13, .tmp 17]) rfl ?_); at_builtin; refine Kd.R_append k43 (w0 := wr) (W := wr) base rfl (.tmp 13) (.tmp 17) 40 43 (.agg #[(.string ⟨#[]⟩), (.int .i64 0)]) 24 rfl Tryz.underlying40 info_want rfl (by decide) (by omega) u (acc ++ (ids.take i).map (fun s => (⟨s, kind⟩ : Wnt))) (⟨s, kind⟩ : Wnt) [.string s, .int .i64 kind] (fun k => ∀ ad', some ad = some ad' → k ≠ ad'.block) (fun _ => False) rfl rfl (k43_mkM _ _ _ (⟨s, kind⟩ : Wnt)) (fun _ hk => hk.elim) ?aF HW.out.hr (Below.refl _ _) HW.out.hs hl2 ?_; (case aF => exact fun k hk ad' e => by cases e; have := (HA.out ad rfl).2; have h2 := HW.out.hb.size; omega); intro v1 w1 ho hb hg hat; obtain ⟨A1, c1, rfl, _, _⟩ := Kd.R_reads ho; have hkb := (hb.block bo HW.out.hbo).trans HW.out.hk; have hq0 : w1.cell? ⟨bo, 0, none⟩ = some u := (blk_cell hkb 0).trans rfl; have hqf : w1.frozen? ⟨bo, 0, none⟩ = false := fz_at hkb 0)
        | fail)
      have hlen : ((acc ++ (ids.take i).map (fun s => (⟨s, kind⟩ : Wnt))) ++ [(⟨s, kind⟩ : Wnt)]).length = acc.length + i + 1 := by
        rw [List.length_append, List.length_append, List.length_map, List.length_take, HN.out]; simp; omega
      have hstep : (acc ++ (ids.take i).map (fun s => (⟨s, kind⟩ : Wnt))) ++ [(⟨s, kind⟩ : Wnt)] = acc ++ (ids.take (i + 1)).map (fun s => (⟨s, kind⟩ : Wnt)) := by
        rw [List.take_add_one, HX.out, List.map_append, List.append_assoc]; rfl
      have hW1 := HW.out.put ho hb
      have hK1 : ∀ ad', some ad = some ad' → (w1.setCell ⟨bo, 0, none⟩ (.slice A1 ((acc ++ (ids.take i).map (fun s => (⟨s, kind⟩ : Wnt))) ++ [(⟨s, kind⟩ : Wnt)]).length c1)).heap[ad'.block]? = w.heap[ad'.block]? := by
        intro ad' e
        cases e
        rw [set_other (HA.out ad rfl).1]
        have hlt2 : ad.block < wr.heap.size := by have := (HA.out ad rfl).2; have h2 := HW.out.hb.size; omega
        rw [hg.block ad.block hlt2 (fun e => HW.out.hr.1 ad.block e.symm ad rfl rfl)]
        exact HK.out ad rfl
      rw [hstep] at hW1 hK1 hlen
      rw [hlen, show acc.length + i + 1 = acc.length + (min i ids.length + 1) by rw [HN.out]; omega] at hW1 hK1
      have HW1 := As.mk hW1
      have HK1 := As.mk hK1
      have hsz := hlen
      clear ho hb hg hat hkb hq0 hqf hW1 hK1 hd0
      go_wp2_with (fail)
      exact ⟨⟨i + 1, _, by go_num, by omega, HW1, HK1⟩, by simp [intOf]; omega⟩
    · have hin : i = n := by omega
      subst hin
      have hfin : Wp w base bo (acc ++ ids.map (fun s => (⟨s, kind⟩ : Wnt))) (fun _ => True) u wr := by
        have h := HW.out
        rw [List.take_of_length_le (by rw [HN.out]; exact Nat.le_refl _)] at h
        exact ⟨h.hk, Kd.R_mono h.hr (fun _ _ => trivial), h.hb, h.ho, h.hs, h.hbo⟩
      have HFIN := As.mk hfin
      clear hfin
      go_wp2_with (fail)
      go_end0
      exact ⟨rfl, _, HFIN.out⟩
end Go.Proofs.YtehmhfbfgniekaaGreatDoor.Ob

namespace Go.Proofs.YtehmhfbfgniekaaGreatDoor.Ob
set_option linter.unusedVariables false
set_option linter.unusedSimpArgs false
open Go Go.RowKit Go.Proofs.YtehmhfbfgniekaaGreatDoorW.PrintWords Go.Proofs.YtehmhfbfgniekaaGreatDoorW.PrintLast Go.Proofs.YtehmhfbfgniekaaGreatDoorW.PrintMore PObBase PObDoc
def digs (u : Nat) : List Int := (Lib.decDigits u).map fun b => (b.toNat : Int)
theorem dig_toNat (d : Nat) (h : d < 10) : ((UInt8.ofNat (48 + d)).toNat : Int) = 48 + d := by
  have : (UInt8.ofNat (48 + d)).toNat = (48 + d) % 256 := by simp
  omega
theorem digs_small (u : Nat) (h : u < 10) : digs u = [48 + (u : Int)] := by
  rw [digs, Lib.decDigits_one h, List.map_singleton, dig_toNat u h]
theorem digs_big (u : Nat) (h : ¬ u < 10) : digs u = digs (u / 10) ++ [48 + ((u % 10 : Nat) : Int)] := by
  rw [digs, Lib.decDigits, dif_neg h, List.map_append, List.map_singleton, dig_toNat _ (Nat.mod_lt _ (by decide))]
  rfl
theorem digs_dig (u : Nat) : ∀ x ∈ digs u, 48 ≤ x ∧ x ≤ 57 := by
  induction u using Nat.strongRecOn with
  | _ u ih =>
    by_cases h : u < 10
    · rw [digs_small u h]; intro x hx; simp at hx; omega
    · rw [digs_big u h]
      intro x hx
      rcases List.mem_append.1 hx with hx | hx
      · exact ih (u / 10) (by omega) x hx
      · simp at hx; omega
theorem bytesOf_textS (u : Nat) : bytesOf (textS (u : Int)) = digs u := by
  rw [textS, if_neg (by omega), Lib.itoa_nonneg]
  rfl
theorem toList_inj (s t : ByteArray) : s.toList = t.toList ↔ bytesOf s = bytesOf t := by
  rw [ByteArray.toList_eq, ByteArray.toList_eq]
  constructor
  · intro h; unfold bytesOf; rw [h]
  · intro h
    unfold bytesOf at h
    refine (List.map_inj_right ?_).1 h
    intro x y hxy
    have : x.toNat = y.toNat := by omega
    exact UInt8.toNat_inj.1 this
theorem str_inj (s t : ByteArray) : s = t ↔ bytesOf s = bytesOf t := by
  constructor
  · rintro rfl; rfl
  · intro h
    have := (toList_inj s t).2 h
    rw [ByteArray.toList_eq, ByteArray.toList_eq] at this
    exact ByteArray.ext (Array.toList_inj.1 this)
theorem bytesOf_str (xs : List Int) (h : ∀ x ∈ xs, 0 ≤ x ∧ x < 256) : bytesOf (strOfNums xs) = xs := by
  simp only [bytesOf, strOfNums, List.map_map]
  refine List.ext_getElem (by simp) fun i h1 h2 => ?_
  have := h xs[i] (List.getElem_mem h2)
  simp
  omega
theorem str_app (xs ys : List Int) : strOfNums (xs ++ ys) = strOfNums xs ++ strOfNums ys := by
  refine ByteArray.ext ?_
  rw [ByteArray.data_append]
  simp [strOfNums]
theorem rtext_l0 : ∀ (k m : Nat) (acc : ByteArray), m < 10 ^ k → acc.size + k ≤ 1000 → m < 2 ^ 63 → r03_Text.l0 (k + 1) (m : Int) acc = some (if m = 0 then acc else strOfNums (digs m) ++ acc)
  | 0, m, acc, hm, _, _ => by
    have : m = 0 := by simpa using hm
    subst this
    rw [r03_Text.l0, if_neg (by decide), if_pos rfl]
  | k + 1, m, acc, hm, ha, h63 => by
    rw [r03_Text.l0]
    by_cases h0 : m = 0
    · subst h0
      rw [if_neg (by decide), if_pos rfl]
    · rw [if_pos (show (m : Int) > 0 by omega), if_neg h0, Option.bind_some]
      have e1 : (wrap64 (48 + Int.tmod (m : Int) 10)) % 256 = 48 + ((m % 10 : Nat) : Int) := by
        rw [Int.tmod_eq_emod_of_nonneg (by omega), w64 _ (by omega) (by omega)]; omega
      have e2 : wrap64 (Int.tdiv (m : Int) 10) = ((m / 10 : Nat) : Int) := by
        rw [Int.tdiv_eq_ediv_of_nonneg (by omega), w64 _ (by omega) (by omega)]; omega
      have e3 : (strOfNums [48 + ((m % 10 : Nat) : Int)]).size = 1 := strOfNums_size _
      rw [e1, e2, if_pos (by omega), rtext_l0 k (m / 10) _ (by rw [Nat.pow_succ] at hm; omega) (by rw [ByteArray.size_append]; omega) (by omega)]
      congr 1
      by_cases hs : m < 10
      · rw [if_pos (by omega), digs_small m hs, show m % 10 = m by omega]
      · rw [if_neg (by omega), digs_big m hs, str_app, ByteArray.append_assoc]
theorem text_str (u : Nat) : textS (u : Int) = strOfNums (digs u) := by
  refine (str_inj _ _).2 ?_
  rw [bytesOf_textS, bytesOf_str _ (fun x hx => by have := digs_dig u x hx; omega)]
theorem rtext_f (n : Int) (h1 : n ≤ 9223372036854775807) : r03_Text.f 20 n = some (textS n) := by
  rw [r03_Text.f]
  by_cases h0 : n < 0
  · rw [if_pos h0, textS, if_pos h0]
  · rw [if_neg h0]
    obtain ⟨m, rfl⟩ := Int.eq_ofNat_of_zero_le (show 0 ≤ n by omega)
    have e1 : (wrap64 (48 + Int.tmod (m : Int) 10)) % 256 = 48 + ((m % 10 : Nat) : Int) := by
      rw [Int.tmod_eq_emod_of_nonneg (by omega), w64 _ (by omega) (by omega)]; omega
    have e2 : wrap64 (Int.tdiv (m : Int) 10) = ((m / 10 : Nat) : Int) := by
      rw [Int.tdiv_eq_ediv_of_nonneg (by omega), w64 _ (by omega) (by omega)]; omega
    rw [e1, e2, rtext_l0 19 (m / 10) _ (by omega) (by rw [strOfNums_size]; simp) (by omega), text_str]
    congr 1
    by_cases hs : m < 10
    · rw [if_pos (by omega), digs_small m hs, show m % 10 = m by omega]
    · rw [if_neg (by omega), digs_big m hs, str_app]
theorem rtext_walk (n : Int) (h1 : n ≤ 9223372036854775807) (w : World) : Calls Tryz.prog 43 #[.int .i64 n] w fun e w' => e = .returned (.string (textS n)) ∧ Below w.heap.size w w' :=
  (r03_Text.calls 20 n _ w (rtext_f n h1)).mono fun e w' h => h
end Go.Proofs.YtehmhfbfgniekaaGreatDoor.Ob
