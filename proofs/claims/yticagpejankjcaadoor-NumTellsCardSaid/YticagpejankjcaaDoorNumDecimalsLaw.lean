/- The walk of NumDecimals. No condition but the reach of what comes in, and the library's table as its text lays it. -/
import Derived.Test.YticagpejankjcaaDoorNumBackLaw
namespace Go.Proofs.YticagpejankjcaaDoor.Nb
set_option linter.unusedVariables false
set_option linter.unusedSimpArgs false
open Go.RowKit Go.Proofs.YticagpejankjcaaDoorW.PrintWords Go.Proofs.YticagpejankjcaaDoorW.PrintLast Go.Proofs.YticagpejankjcaaDoorW.PrintMore

theorem decS_none (s : ByteArray) (h : ∀ u : Nat, digs u ≠ bytesOf s) : decS s = none := by
  cases hd : decS s with
  | none => rfl
  | some n =>
    obtain ⟨h0, _, h2⟩ := (decS_iff s n).1 hd
    obtain ⟨u, rfl⟩ := Int.eq_ofNat_of_zero_le h0
    exact absurd (by rw [← h2, bytesOf_textS]) (h u)
theorem decS_nought (a : Nat) : decS ((⟨#[48]⟩ : ByteArray) ++ textS (a : Int)) = none := by
  refine decS_none _ fun u h => ?_
  rw [bytesOf_append, bytesOf_textS] at h
  have h1 : bytesOf (⟨#[48]⟩ : ByteArray) = [48] := rfl
  rw [h1, List.singleton_append] at h
  rcases Nat.eq_zero_or_pos u with h0 | h0
  · subst h0
    rw [digs_small 0 (by decide)] at h
    injection h with _ h
    have := digs_pos a
    rw [← h] at this
    simp at this
  · obtain ⟨c, r, e, hc⟩ := digs_head u h0
    rw [e] at h
    injection h with h _
    omega
theorem decS_more (a : Nat) (ys : ByteArray) (c : Int) (hy : bytesOf ys = [c]) (ha : a < 4294967296) (hc0 : 48 ≤ c) (hc1 : c ≤ 57) (ha0 : 0 < a) : decS (textS (a : Int) ++ ys) = some (10 * a + (c - 48)) := by
  obtain ⟨d, hd⟩ := Int.eq_ofNat_of_zero_le (show 0 ≤ c - 48 by omega)
  have e : (10 * (a : Int) + (c - 48)) = ((10 * a + d : Nat) : Int) := by omega
  rw [e]
  refine (decS_iff _ _).2 ⟨by omega, by omega, ?_⟩
  refine (str_inj _ _).2 ?_
  rw [bytesOf_textS, bytesOf_append, bytesOf_textS, hy, digs_big _ (by omega)]
  have e1 : (10 * a + d) / 10 = a := by omega
  rw [e1]
  congr 2
  omega
theorem decS_odd (a : Nat) (ys : ByteArray) (c : Int) (hy : bytesOf ys = [c]) (h : c < 48 ∨ 57 < c ∨ a = 0) : decS (textS (a : Int) ++ ys) = none := by
  refine decS_none _ fun u hu => ?_
  rw [bytesOf_append, bytesOf_textS, hy] at hu
  rcases Nat.eq_zero_or_pos a with h0 | h0
  · subst h0
    rw [digs_small 0 (by decide)] at hu
    rcases Nat.eq_zero_or_pos u with h1 | h1
    · subst h1
      rw [digs_small 0 (by decide)] at hu
      have := congrArg List.length hu
      simp at this
    · obtain ⟨x, r, e, hx⟩ := digs_head u h1
      rw [e] at hu
      injection hu with hu _
      omega
  · have := digs_dig u c (by rw [hu]; simp)
    omega
theorem text_first (a : Nat) (h : 0 < a) : ∃ y, (bytesOf (textS (a : Int)))[0]? = some y ∧ 48 < y ∧ y < 256 := by
  rw [bytesOf_textS]
  obtain ⟨c, r, e, hc⟩ := digs_head a h
  have := digs_dig a c (by rw [e]; exact List.mem_cons_self)
  exact ⟨c, by rw [e]; rfl, hc, by omega⟩
theorem text_first0 : (bytesOf (textS ((0 : Nat) : Int)))[0]? = some 48 := by
  rw [bytesOf_textS, digs_small 0 (by decide)]; rfl
theorem text_size (a : Nat) : (textS (a : Int)).size = (digs a).length := by rw [← bytesOf_textS, bytesOf_length]
theorem text_dig (a i : Nat) (h : i < (bytesOf (textS (a : Int))).length) : 48 ≤ (bytesOf (textS (a : Int)))[i] ∧ (bytesOf (textS (a : Int)))[i] ≤ 57 := by
  have hm := List.getElem_mem h
  have e := bytesOf_textS a
  exact digs_dig a _ (by rw [← e]; exact hm)

set_option maxHeartbeats 8000000 in
set_option maxRecDepth 100000 in
theorem decimals_law (a b : Nat) (y : Int) (w : World) (ha1 : a < 4294967296) (hb1 : b < 4294967296) (hy0 : 0 ≤ y) (hy1 : y < 256) (ht : Lib.TabIs Tryd.prog w "internal/strconv.uint64pow10" .u64 Lib.pow10Tab) :
    Calls Tryd.prog 7 #[.int .u32 a, .int .u32 b, .int .u8 y] w fun e w' => e = .returned (.bool true) ∧ Below w.heap.size w w' := by
  have HT := As.mk (Lib.tabBelow_of_tabIs ht)
  clear ht
  obtain ⟨s, hs⟩ : ∃ s, textS (a : Int) = s := ⟨_, rfl⟩
  obtain ⟨t, hte⟩ : ∃ t, textS (b : Int) = t := ⟨_, rfl⟩
  have hsp : 0 < s.size := by rw [← hs, text_size]; exact digs_pos a
  have hs13 : s.size ≤ 13 := by rw [← hs, text_size]; exact digs_len_le 13 a (by omega) (by decide)
  have hst : a ≤ b → s.size ≤ t.size := fun h => by rw [← hs, ← hte, text_size, text_size]; exact digs_mono a b h
  have hdg : ∀ i, (h : i < (bytesOf s).length) → 48 ≤ (bytesOf s)[i] ∧ (bytesOf s)[i] ≤ 57 := by rw [← hs]; exact text_dig a
  have hz : decS ((⟨#[48]⟩ : ByteArray) ++ s) = none := by rw [← hs]; exact decS_nought a
  have HS := As.mk hs
  have HTE := As.mk hte
  have HST := As.mk hst
  have HDG := As.mk hdg
  have HZ := As.mk hz
  clear hs hte hst hdg hz
  go_enter Tryd.func7, Tryd.ntmps7
  go_wp2_with (fail)
  refine (head_calls _ HT.out.here).mono ?_
  rintro e w1 ⟨rfl, hb⟩
  have HB := As.mk hb
  clear hb
  go_wp2_with (fail)
  refine (text_at (a : Int) s _ (by omega) (by omega) (HT.out.on HB.out).here HS.out).mono ?_
  rintro e w2 ⟨rfl, hb⟩
  have HB2 : As (Below w.heap.size w w2) := ⟨HB.out.trans (hb.mono HB.out.size)⟩
  clear hb
  go_wp2_with (fail)
  refine (text_at (b : Int) t _ (by omega) (by omega) (HT.out.on HB2.out).here HTE.out).mono ?_
  rintro e w3 ⟨rfl, hb⟩
  have HB3 : As (Below w.heap.size w w3) := ⟨HB2.out.trans (hb.mono HB2.out.size)⟩
  clear hb
  go_wp2_with (fail)
  go_loopw [10] (fun v10 wr => ∃ (i : Nat), i ≤ s.size ∧ v10 = .int .i64 i ∧ wr = w3) (fun v10 _ => s.size - (intOf v10).toNat)
  case atStart => exact ⟨0, by omega, rfl, rfl⟩
  case round =>
    obtain ⟨i, hi, rfl, rfl⟩ := hrel
    by_cases hlt : i < s.size
    · have hl : i < (bytesOf s).length := by rw [bytesOf_length]; exact hlt
      have hc8 := HDG.out i hl
      obtain ⟨c, hc⟩ : ∃ c, (bytesOf s)[i] = c := ⟨_, rfl⟩
      rw [hc] at hc8
      have q := fun w => index_str s i c (by rw [List.getElem?_eq_getElem hl, hc]) i rfl w
      have e1 : decide (c < 48) = false := decide_eq_false (by omega)
      have e2 : decide (57 < c) = false := decide_eq_false (by omega)
      clear hc8 hc hl
      go_wp2_with (fail)
      exact ⟨⟨i + 1, by omega, by go_num, by first | rfl | trivial⟩, by simp [intOf]; omega⟩
    · have hi2 : i = s.size := by omega
      subst hi2
      clear hlt hi
      go_wp2_with (fail)
      refine (decimal_at ((⟨#[48]⟩ : ByteArray) ++ s) none _ (by rw [ByteArray.size_append]; have : (⟨#[48]⟩ : ByteArray).size = 1 := rfl; omega) (HT.out.on HB3.out).here HZ.out).mono ?_
      rintro e w4 ⟨rfl, hb⟩
      simp only [Option.getD_none, Option.isSome_none]
      have HB4 : As (Below w.heap.size w w4) := ⟨HB3.out.trans (hb.mono HB3.out.size)⟩
      clear hb
      have hcv : (convert 22 9 (.slice (some ⟨w4.heap.size, 0, none⟩) 1 1)).run Tryd.prog (w4.alloc (.cells #[.int .u8 y] 5)) = .ok (.string (strOfNums [y])) (w4.alloc (.cells #[.int .u8 y] 5)) :=
        Kd.C_string (P := Tryd.prog) (c := 1) Tryd.underlying22 Tryd.underlying5 Tryd.underlying9 (C_new w4 [y] (by simp))
      have hby : bytesOf (strOfNums [y]) = [y] := bytesOf_str [y] (by intro x hx; rw [List.mem_singleton.1 hx]; exact ⟨hy0, hy1⟩)
      have hsz1 : (strOfNums [y]).size = 1 := strOfNums_size [y]
      obtain ⟨ys, hys⟩ : ∃ ys, strOfNums [y] = ys := ⟨_, rfl⟩
      rw [hys] at hcv hby hsz1
      have HBY := As.mk hby
      clear hys hby
      have hsx : ¬ 9223372036854775807 < s.size + ys.size := by omega
      have hB5 : As (Below w.heap.size w (w4.alloc (.cells #[.int .u8 y] 5))) := ⟨HB4.out.alloc HB4.out.size _⟩
      go_wp2_with (fail)
      have hss : (s ++ ys).size ≤ 9223372036854775807 := by rw [ByteArray.size_append]; omega
      have HST2 : (b : Int) ≤ a ∨ (¬ (b : Int) ≤ a ∧ (s.size : Int) ≤ t.size) := by
        by_cases h : b ≤ a
        · left; omega
        · right; have := HST.out (by omega); omega
      have hs0 : (0 : Int) < s.size := by omega
      rcases Nat.eq_zero_or_pos a with ha | ha
      · have q := fun w => index_str s 0 48 (by rw [← HS.out, ha]; exact text_first0) 0 rfl w
        have hd : decS (s ++ ys) = none := by rw [← HS.out]; exact decS_odd a ys y HBY.out (.inr (.inr ha))
        have ea : ((a : Int) == 0) = true := beq_iff_eq.2 (by omega)
        have eb : decide ((0 : Int) < a) = false := decide_eq_false (by omega)
        have ec : decide (0 < a) = false := decide_eq_false (by omega)
        have HD := As.mk hd
        clear hd ha
        refine (decimal_at (s ++ ys) none _ hss (HT.out.on hB5.out).here HD.out).mono ?_
        rintro e w6 ⟨rfl, hb⟩
        simp only [Option.getD_none, Option.isSome_none]
        have HB6 : As (Below w.heap.size w w6) := ⟨hB5.out.trans (hb.mono hB5.out.size)⟩
        clear hb HD
        rcases (show y < 48 ∨ (48 ≤ y ∧ 57 < y) ∨ (48 ≤ y ∧ y ≤ 57) by omega) with hy | ⟨hy, hy'⟩ | ⟨hy, hy'⟩
        all_goals rcases HST2 with hab | ⟨hab, hab'⟩
        all_goals
          first
            | (have e5 : decide ((48 : Int) ≤ y) = false := decide_eq_false (by omega))
            | skip
          first
            | (have e6 : decide (y ≤ (57 : Int)) = false := decide_eq_false (by omega))
            | skip
          go_wp2_with (fail)
          go_ret
          exact ⟨rfl, HB6.out⟩
      · obtain ⟨f, hf, hf0, hf1⟩ := text_first a ha
        have q := fun w => index_str s 0 f (by rw [← HS.out]; exact hf) 0 rfl w
        have ef : (f == 48) = false := beq_eq_false_iff_ne.2 (by omega)
        have ef2 : (f != 48) = true := by rw [bne, ef]; rfl
        have ea : ((a : Int) == 0) = false := beq_eq_false_iff_ne.2 (by omega)
        have eb : (0 : Int) < a := by omega
        rcases (show y < 48 ∨ (48 ≤ y ∧ 57 < y) ∨ (48 ≤ y ∧ y ≤ 57) by omega) with hy | ⟨hy, hy'⟩ | ⟨hy, hy'⟩
        · have hd : decS (s ++ ys) = none := by rw [← HS.out]; exact decS_odd a ys y HBY.out (.inl hy)
          have e5 : decide ((48 : Int) ≤ y) = false := decide_eq_false (by omega)
          have HD := As.mk hd
          clear hd hf
          refine (decimal_at (s ++ ys) none _ hss (HT.out.on hB5.out).here HD.out).mono ?_
          rintro e w6 ⟨rfl, hb⟩
          simp only [Option.getD_none, Option.isSome_none]
          have HB6 : As (Below w.heap.size w w6) := ⟨hB5.out.trans (hb.mono hB5.out.size)⟩
          clear hb HD
          rcases HST2 with hab | ⟨hab, hab'⟩
          all_goals
            go_wp2_with (fail)
            go_ret
            exact ⟨rfl, HB6.out⟩
        · have hd : decS (s ++ ys) = none := by rw [← HS.out]; exact decS_odd a ys y HBY.out (.inr (.inl hy'))
          have e6 : decide (y ≤ (57 : Int)) = false := decide_eq_false (by omega)
          have HD := As.mk hd
          clear hd hf
          refine (decimal_at (s ++ ys) none _ hss (HT.out.on hB5.out).here HD.out).mono ?_
          rintro e w6 ⟨rfl, hb⟩
          simp only [Option.getD_none, Option.isSome_none]
          have HB6 : As (Below w.heap.size w w6) := ⟨hB5.out.trans (hb.mono hB5.out.size)⟩
          clear hb HD
          rcases HST2 with hab | ⟨hab, hab'⟩
          all_goals
            go_wp2_with (fail)
            go_ret
            exact ⟨rfl, HB6.out⟩
        · have hd : decS (s ++ ys) = some (10 * a + (y - 48)) := by rw [← HS.out]; exact decS_more a ys y HBY.out ha1 hy hy' ha
          have e7 : Int.tmod (10 * (a : Int) + (y - 48)) 10 = y - 48 := by rw [Int.tmod_eq_emod_of_nonneg (by omega)]; omega
          have e8 : (y - 48) % 256 = y - 48 := by omega
          obtain ⟨m, hm⟩ : ∃ m, 10 * (a : Int) + (y - 48) = m := ⟨_, rfl⟩
          rw [hm] at hd e7
          have HD := As.mk hd
          clear hd hf hm
          refine (decimal_at (s ++ ys) (some m) _ hss (HT.out.on hB5.out).here HD.out).mono ?_
          rintro e w6 ⟨rfl, hb⟩
          simp only [Option.getD_some, Option.isSome_some]
          have HB6 : As (Below w.heap.size w w6) := ⟨hB5.out.trans (hb.mono hB5.out.size)⟩
          clear hb HD
          rcases HST2 with hab | ⟨hab, hab'⟩
          all_goals
            go_wp2_with (fail)
            go_ret
            exact ⟨rfl, HB6.out⟩
end Go.Proofs.YticagpejankjcaaDoor.Nb
