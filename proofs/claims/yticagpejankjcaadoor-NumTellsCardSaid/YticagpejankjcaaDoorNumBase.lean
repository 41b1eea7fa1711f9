/- The contracts of num.Text and num.Decimal, and of the head of the statements of layer 3. No condition but the reach of what comes in, and the library's table as its text lays it. -/
import Derived.Test.YticagpejankjcaaDoorNumLeaf
import Derived.Test.YticagpejankjcaaDoorShelf
import Derived.Lib.AppendIntMem
import Derived.Lib.ItoaLen
namespace Go.Proofs.YticagpejankjcaaDoor.Nb
set_option linter.unusedVariables false
set_option linter.unusedSimpArgs false
open Go.RowKit Go.Proofs.YticagpejankjcaaDoorW.PrintWords Go.Proofs.YticagpejankjcaaDoorW.PrintLast Go.Proofs.YticagpejankjcaaDoorW.PrintMore

/-- A fact kept from the walk. -/
structure As (p : Prop) : Prop where
  out : p

/-- The library's table is as its text lays it, whatever is done from block B on. -/
abbrev Tab (B : Nat) (w : World) : Prop := Lib.TabBelow Tryd.prog B w "internal/strconv.uint64pow10" .u64 Lib.pow10Tab

/-- A number's decimals. -/
def textS (n : Int) : ByteArray := if n < 0 then ⟨#[]⟩ else ⟨(Lib.itoa n).toArray⟩

theorem text_calls (n : Int) (w : World) (h0 : -9223372036854775808 ≤ n) (h1 : n ≤ 9223372036854775807) (ht : Lib.TabIs Tryd.prog w "internal/strconv.uint64pow10" .u64 Lib.pow10Tab) :
    Calls Tryd.prog 15 #[.int .i64 n] w fun e w' => e = .returned (.string (textS n)) ∧ Below w.heap.size w w' := by
  by_cases hn : n < 0
  · have e : textS n = ⟨#[]⟩ := by rw [textS, if_pos hn]
    rw [e]
    go_enter Tryd.func15, Tryd.ntmps15
    go_wp2_with (fail)
    go_ret
    exact ⟨rfl, Below.refl _ _⟩
  · have e : textS n = ⟨(Lib.itoa n).toArray⟩ := by rw [textS, if_neg hn]
    rw [e]
    go_enter Tryd.func15, Tryd.ntmps15
    go_wp2_with (fail)
    refine (Tryd.strconv_Itoa n h0 h1 w ht).mono ?_
    rintro e w' ⟨rfl, k, os, rfl⟩
    go_wp2_with (fail)
    go_ret
    exact ⟨rfl, Lib.below_grow _ _ (Nat.le_refl _) _ _⟩
/-- The number that digits say, read on from place i, n being read. -/
def decScan : List Int → Nat → Int → Option Int
  | [], _, n => some n
  | c :: r, i, n => if c < 48 ∨ 57 < c ∨ i = 13 then none else decScan r (i + 1) (10 * n + (c - 48))
/-- The number that a text is. -/
def decS (s : ByteArray) : Option Int := (decScan (bytesOf s) 0 0).bind fun n => if 1099511627776 < n ∨ (textS n).toList ≠ s.toList then none else some n

theorem index_str (s : ByteArray) (i : Nat) (v : Int) (h : (bytesOf s)[i]? = some v) (j : Int) (hj : j = i) (w : World) :
    (Instr.index 9 (.string s) (.int .i64 j)).run Tryd.prog w = .ok (.int .u8 v) w := by
  subst hj
  have hl : i < s.size := by
    rcases Nat.lt_or_ge i s.size with h1 | h1
    · exact h1
    · rw [List.getElem?_eq_none (by rw [bytesOf_length]; exact h1)] at h; cases h
  simp [Instr.index, asIntOf, Tryd.underlying9, hl]
  simp only [bytesOf, List.getElem?_map, Option.map_eq_some_iff] at h
  obtain ⟨a, ha, rfl⟩ := h
  have h2 : i < s.data.toList.length := by simpa using hl
  rw [List.getElem?_eq_getElem h2] at ha
  injection ha with ha
  rw [← ha]
  rfl
theorem bytesOf_8 (s : ByteArray) : ∀ x ∈ bytesOf s, 0 ≤ x ∧ x < 256 := by
  intro x hx
  simp only [bytesOf, List.mem_map] at hx
  obtain ⟨a, _, rfl⟩ := hx
  have := a.toNat_lt
  omega

set_option maxHeartbeats 4000000 in
set_option maxRecDepth 100000 in
theorem decimal_calls (s : ByteArray) (w : World) (hs : s.size ≤ 9223372036854775807) (ht : Lib.TabIs Tryd.prog w "internal/strconv.uint64pow10" .u64 Lib.pow10Tab) :
    Calls Tryd.prog 11 #[.string s] w fun e w' => e = .returned (.tuple #[.int .i64 ((decS s).getD 0), .bool (decS s).isSome]) ∧ Below w.heap.size w w' := by
  have HT := As.mk (Lib.tabBelow_of_tabIs ht)
  clear ht
  go_enter Tryd.func11, Tryd.ntmps11
  go_wp2_with (fail)
  go_loopw [4, 5, 8] (fun v4 v5 v8 wr => ∃ (i : Nat) (n : Int), i ≤ 13 ∧ i ≤ s.size ∧ 0 ≤ n ∧ n < 10 ^ i ∧ v4 = .int .i64 n ∧ v8 = .int .i64 i ∧ wr = w ∧ As (decScan (bytesOf s) 0 0 = decScan ((bytesOf s).drop i) i n)) (fun _ _ v8 _ => s.size - (intOf v8).toNat)
  case atStart => exact ⟨0, 0, by omega, by omega, by omega, by decide, rfl, rfl, rfl, ⟨rfl⟩⟩
  case round =>
    obtain ⟨i, n, hi, his, hn0, hn1, rfl, rfl, rfl, HD⟩ := hrel
    by_cases hlt : i < s.size
    · have hl : i < (bytesOf s).length := by rw [bytesOf_length]; exact hlt
      obtain ⟨c, hc⟩ : ∃ c, (bytesOf s)[i] = c := ⟨_, rfl⟩
      have hdr : (bytesOf s).drop i = c :: (bytesOf s).drop (i + 1) := by rw [List.drop_eq_getElem_cons hl, hc]
      have hc8 := bytesOf_8 s c (by rw [← hc]; exact List.getElem_mem hl)
      have q := fun w => index_str s i c (by rw [List.getElem?_eq_getElem hl, hc]) i rfl w
      have hc0 := hc8.1
      have hc1 := hc8.2
      have hn2 : n < 10000000000000 := Int.lt_of_lt_of_le hn1 (by
        have : (10 : Int) ^ i ≤ 10 ^ 13 := by
          exact_mod_cast Nat.pow_le_pow_right (by decide) hi
        simpa using this)
      clear hc8 hc hl
      rcases (show c < 48 ∨ 57 < c ∨ (48 ≤ c ∧ c ≤ 57 ∧ i = 13) ∨ (48 ≤ c ∧ c ≤ 57 ∧ i ≠ 13) by omega) with h | h | ⟨h, h', h13⟩ | ⟨h, h', h13⟩
      · have hd : decS s = none := by rw [decS, HD.out, hdr, decScan, if_pos (by omega)]; rfl
        have e1 : c < 48 := h
        clear HD hdr
        have HH := As.mk hd
        clear hd
        go_wp2_with (fail)
        go_ret2
        rw [HH.out]
        exact ⟨rfl, Below.refl _ _⟩
      · have hd : decS s = none := by rw [decS, HD.out, hdr, decScan, if_pos (by omega)]; rfl
        have e1 : 57 < c := h
        clear HD hdr
        have HH := As.mk hd
        clear hd
        go_wp2_with (fail)
        go_ret2
        rw [HH.out]
        exact ⟨rfl, Below.refl _ _⟩
      · have hd : decS s = none := by rw [decS, HD.out, hdr, decScan, if_pos (by omega)]; rfl
        have e1 : decide (c < 48) = false := decide_eq_false (by omega)
        have e2 : decide (57 < c) = false := decide_eq_false (by omega)
        clear HD hdr
        have HH := As.mk hd
        clear hd
        subst h13
        go_wp2_with (fail)
        all_goals
          go_ret2
          rw [HH.out]
          exact ⟨rfl, Below.refl _ _⟩
      · have e1 : decide (c < 48) = false := decide_eq_false (by omega)
        have e2 : decide (57 < c) = false := decide_eq_false (by omega)
        have e3 : ((i : Int) == 13) = false := beq_eq_false_iff_ne.2 (by omega)
        have hD2 : decScan ((bytesOf s).drop i) i n = decScan ((bytesOf s).drop (i + 1)) (i + 1) (10 * n + (c - 48)) := by rw [hdr, decScan, if_neg (by omega)]
        have HD2 := As.mk (HD.out.trans hD2)
        clear hD2 hdr HD
        go_wp2_with (fail)
        refine ⟨⟨i + 1, 10 * n + (c - 48), by omega, by omega, by omega, ?_, rfl, by go_num, trivial, HD2⟩, by simp [intOf]; omega⟩
        rw [Int.pow_succ]
        omega
    · have hi2 : i = s.size := by omega
      subst hi2
      have hdr : (bytesOf s).drop s.size = [] := List.drop_of_length_le (by rw [bytesOf_length]; exact Nat.le_refl _)
      have hn2 : n < 10000000000000 := Int.lt_of_lt_of_le hn1 (by
        have : (10 : Int) ^ s.size ≤ 10 ^ 13 := by
          exact_mod_cast Nat.pow_le_pow_right (by decide) hi
        simpa using this)
      have hD : decS s = if 1099511627776 < n ∨ (textS n).toList ≠ s.toList then none else some n := by
        rw [decS, HD.out, hdr]; rfl
      clear HD hdr hn1
      by_cases hbig : 1099511627776 < n
      · rw [if_pos (.inl hbig)] at hD
        have HH := As.mk hD
        clear hD
        go_wp2_with (fail)
        go_ret2
        rw [HH.out]
        exact ⟨rfl, Below.refl _ _⟩
      · have HH := As.mk hD
        clear hD
        go_wp2_with (fail)
        refine (text_calls n _ (by omega) (by omega) HT.out.here).mono ?_
        rintro e w1 ⟨rfl, hb⟩
        have HB := As.mk hb
        clear hb
        by_cases htx : (textS n).toList = s.toList
        · have hd : decS s = some n := by rw [HH.out, if_neg (fun h => h.elim (fun h => by omega) (fun h => h htx))]
          have e1 : ((textS n).toList == s.toList) = true := beq_iff_eq.2 htx
          clear htx HH
          have HH := As.mk hd
          clear hd
          go_wp2_with (fail)
          go_ret2
          rw [HH.out]
          exact ⟨rfl, HB.out⟩
        · have hd : decS s = none := by rw [HH.out, if_pos (.inr htx)]
          have e1 : ((textS n).toList == s.toList) = false := beq_eq_false_iff_ne.2 htx
          clear htx HH
          have HH := As.mk hd
          clear hd
          go_wp2_with (fail)
          go_ret2
          rw [HH.out]
          exact ⟨rfl, HB.out⟩

/-- 'Get' of bytes that are known, as a contract. -/
theorem put_300 : Nl.num_Put.f 10 300 = some [172, 2] := by kernel_rfl
theorem put_neg : Nl.num_Put.f 10 (-1) = some [] := by kernel_rfl
theorem get_1 : Nl.num_Get.f 10 [172, 2, 9] = some (300, 2, true) := by kernel_rfl
theorem get_2 : Nl.num_Get.f 10 [128, 0] = some (0, 0, false) := by kernel_rfl
end Go.Proofs.YticagpejankjcaaDoor.Nb
