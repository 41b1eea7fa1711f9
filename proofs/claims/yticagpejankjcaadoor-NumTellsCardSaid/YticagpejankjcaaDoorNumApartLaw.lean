/- The walk of NumApart. No condition but the reach of what comes in, and the library's table as its text lays it. -/
import Derived.Test.YticagpejankjcaaDoorNumRow
import Derived.Test.YticagpejankjcaaDoorNumDec
import Derived.BigRegion
namespace Go.Proofs.YticagpejankjcaaDoor.Nb
set_option linter.unusedVariables false
set_option linter.unusedSimpArgs false
open Go.RowKit Go.Proofs.YticagpejankjcaaDoorW.PrintWords Go.Proofs.YticagpejankjcaaDoorW.PrintLast Go.Proofs.YticagpejankjcaaDoorW.PrintMore

theorem bytesOf_str (xs : List Int) (h : ∀ x ∈ xs, 0 ≤ x ∧ x < 256) : bytesOf (strOfNums xs) = xs := by
  simp only [bytesOf, strOfNums, List.map_map]
  refine List.ext_getElem (by simp) fun i h1 h2 => ?_
  have := h xs[i] (List.getElem_mem h2)
  simp
  omega
theorem bytesOf_append (a b : ByteArray) : bytesOf (a ++ b) = bytesOf a ++ bytesOf b := by
  simp [bytesOf, ByteArray.data_append]
/-- Two texts' equality, as the walk spells it, of their bytes'. -/
theorem str_eq (xs ys : List Int) (hx : ∀ x ∈ xs, 0 ≤ x ∧ x < 256) (hy : ∀ x ∈ ys, 0 ≤ x ∧ x < 256) : ((strOfNums xs).toList == (strOfNums ys).toList) = decide (xs = ys) := by
  by_cases h : xs = ys
  · rw [h, decide_eq_true rfl]; exact beq_iff_eq.2 rfl
  · rw [decide_eq_false h]
    refine beq_eq_false_iff_ne.2 fun e => h ?_
    have := (toList_inj _ _).1 e
    rwa [bytesOf_str xs hx, bytesOf_str ys hy] at this
theorem text_eq (a b : Nat) : ((textS (a : Int)).toList == (textS (b : Int)).toList) = decide (a = b) := by
  by_cases h : a = b
  · rw [h, decide_eq_true rfl]; exact beq_iff_eq.2 rfl
  · rw [decide_eq_false h]
    refine beq_eq_false_iff_ne.2 fun e => h ?_
    exact (textS_inj a b).1 ((str_inj _ _).2 ((toList_inj _ _).1 e))
/-- Of two unlike numbers neither's bytes begin with the other one's. -/
theorem apart_take (a b : Int) (ha0 : 0 ≤ a) (ha1 : a ≤ 1099511627776) (hb0 : 0 ≤ b) (hb1 : b ≤ 1099511627776) (m : Nat) (hm : m = min (putL a).length (putL b).length) :
    (putL a).take m = (putL b).take m ↔ a = b := by
  refine ⟨fun h => ?_, fun h => by rw [h]⟩
  have key : ∀ a b : Int, 0 ≤ a → a ≤ 1099511627776 → 0 ≤ b → b ≤ 1099511627776 → (putL a).length ≤ (putL b).length → putL a = (putL b).take (putL a).length → a = b := by
    intro a b ha0 ha1 hb0 hb1 hl h
    have e1 : getR ((putL b).take (putL a).length ++ (putL b).drop (putL a).length) 0 0 = some (a, (putL a).length) := by
      rw [← h]; exact get_putL a _ ha0 ha1
    rw [List.take_append_drop] at e1
    have e3 := get_putL b [] hb0 hb1
    rw [List.append_nil, e1] at e3
    injection e3 with e3
    injection e3
  rcases Nat.le_total (putL a).length (putL b).length with hl | hl
  · have : m = (putL a).length := by omega
    subst this
    rw [List.take_of_length_le (Nat.le_refl _)] at h
    exact key a b ha0 ha1 hb0 hb1 hl h
  · have : m = (putL b).length := by omega
    subst this
    rw [List.take_of_length_le (Nat.le_refl _) (l := putL b)] at h
    exact (key b a hb0 hb1 ha0 ha1 hl h.symm).symm
theorem putN_mono : ∀ (k a b : Nat), a ≤ b → (putN k a).length ≤ (putN k b).length
  | 0, a, b, _ => Nat.le_refl _
  | k + 1, a, b, h => by
    rw [putN, putN]
    split
    · split <;> simp
    · rw [if_neg (by omega)]
      have := putN_mono k (a / 128) (b / 128) (by omega)
      simpa using this
theorem putL_mono (a b : Int) (h0 : 0 ≤ a) (h : a ≤ b) (hb : b ≤ 1099511627776) : (putL a).length ≤ (putL b).length := by
  rw [putL_good a h0 (by omega), putL_good b (by omega) hb]
  exact putN_mono 6 _ _ (by omega)

set_option maxHeartbeats 4000000 in
set_option maxRecDepth 100000 in
theorem apart_law (a b : Int) (w : World) (ha0 : 0 ≤ a) (ha1 : a < 4294967296) (hb0 : 0 ≤ b) (hb1 : b < 4294967296) (ht : Lib.TabIs Tryd.prog w "internal/strconv.uint64pow10" .u64 Lib.pow10Tab) :
    Calls Tryd.prog 5 #[.int .u32 a, .int .u32 b] w fun e w' => e = .returned (.bool true) ∧ Below w.heap.size w w' := by
  have HT := As.mk (Lib.tabBelow_of_tabIs ht)
  clear ht
  obtain ⟨p, hp⟩ : ∃ p, putL a = p := ⟨_, rfl⟩
  obtain ⟨q, hq⟩ : ∃ q, putL b = q := ⟨_, rfl⟩
  have hp0 : 0 < p.length := by rw [← hp]; exact putL_pos a ha0 (by omega)
  have hq0 : 0 < q.length := by rw [← hq]; exact putL_pos b hb0 (by omega)
  have hp6 : p.length ≤ 6 := by rw [← hp]; exact putL_len a
  have hq6 : q.length ≤ 6 := by rw [← hq]; exact putL_len b
  obtain ⟨m, hm⟩ : ∃ m, m = min p.length q.length := ⟨_, rfl⟩
  have hm1 : m ≤ p.length := by omega
  have hm2 : m ≤ q.length := by omega
  have hm0 : 0 < m := by omega
  have hmi : min (p.length : Int) (q.length : Int) = m := by omega
  have hal : ((strOfNums (p.take m)).toList == (strOfNums (q.take m)).toList) = decide (a = b) := by
    rw [str_eq _ _ (fun x hx => by rw [← hp] at hx; exact putL_8 a x (List.mem_of_mem_take hx)) (fun x hx => by rw [← hq] at hx; exact putL_8 b x (List.mem_of_mem_take hx))]
    have := apart_take a b ha0 (by omega) hb0 (by omega) m (by rw [hp, hq]; exact hm)
    rw [hp, hq] at this
    exact decide_eq_decide.2 this
  have hmono : a ≤ b → p.length ≤ q.length := fun h => by rw [← hp, ← hq]; exact putL_mono a b ha0 h (by omega)
  have hte : ((textS a).toList == (textS b).toList) = decide (a = b) := by
    obtain ⟨u, rfl⟩ := Int.eq_ofNat_of_zero_le ha0
    obtain ⟨v, rfl⟩ := Int.eq_ofNat_of_zero_le hb0
    rw [text_eq]
    exact decide_eq_decide.2 (by omega)
  have HP := As.mk hp
  have HQ := As.mk hq
  have HTE := As.mk hte
  have HMO := As.mk hmono
  clear hp hq hte hm hmono
  go_enter Tryd.func5, Tryd.ntmps5
  go_wp2_with (fail)
  refine (head_calls _ HT.out.here).mono ?_
  rintro e w1 ⟨rfl, hb⟩
  have HB := As.mk hb
  clear hb
  go_wp2_with (fail)
  refine (put_calls a _).mono ?_
  rintro e w2 ⟨v, rfl, hR, hb⟩
  have HB2 : As (Below w.heap.size w w2) := ⟨HB.out.trans (hb.mono HB.out.size)⟩
  rw [HP.out] at hR
  obtain ⟨g, c1, rfl, hg, hgl, hgc⟩ := Kd.R_form hR hp0
  have hC1 := (Kd.R_reads' hR).2.2
  have hc1 := (Kd.R_reads' hR).2.1
  have HC1 := As.mk hC1
  clear hR hb hC1 hgc hg hgl
  go_wp2_with (fail)
  refine (put_calls b _).mono ?_
  rintro e w3 ⟨v, rfl, hR, hb⟩
  have HB3 : As (Below w.heap.size w w3) := ⟨HB2.out.trans (hb.mono HB2.out.size)⟩
  rw [HQ.out] at hR
  obtain ⟨g2, c2, rfl, hg, hgl, hgc⟩ := Kd.R_form hR hq0
  have hC2 := (Kd.R_reads' hR).2.2
  have hc2 := (Kd.R_reads' hR).2.1
  have HC2 := As.mk hC2
  replace HC1 := As.mk (Kd.C_below HC1.out hb)
  clear hR hb hC2 hgc hg hgl
  have hcv1 := Kd.C_string (P := Tryd.prog) (c := c1) Tryd.underlying22 Tryd.underlying5 Tryd.underlying9 (Kd.C_drew (Kd.C_take HC1.out hm1))
  have hcv2 := Kd.C_string (P := Tryd.prog) (c := c2) Tryd.underlying22 Tryd.underlying5 Tryd.underlying9 (Kd.C_drew (Kd.C_take HC2.out hm2))
  rw [List.length_take_of_le hm1] at hcv1
  rw [List.length_take_of_le hm2] at hcv2
  obtain ⟨s1, hs1⟩ : ∃ s, strOfNums (p.take m) = s := ⟨_, rfl⟩
  obtain ⟨s2, hs2⟩ : ∃ s, strOfNums (q.take m) = s := ⟨_, rfl⟩
  rw [hs1] at hcv1 hal
  rw [hs2] at hcv2 hal
  clear hs1 hs2
  go_wp2_with (fail)
  have hB4 : As (Below w.heap.size w w3.drew) := ⟨HB3.out.drew⟩
  go_region
  generalize w3.drew = w4 at hB4 ⊢
  clear hcv1 hcv2 HC1 HC2 HP HQ
  have HT4 := As.mk (HT.out.on hB4.out)
  rcases (show a < b ∨ a = b ∨ b < a by omega) with hab | hab | hab
  · have e1 : (a == b) = false := beq_eq_false_iff_ne.2 (by omega)
    have e2 : decide (b < a) = false := decide_eq_false (by omega)
    have e3 : (p.length : Int) ≤ q.length := by have := HMO.out (by omega); omega
    have e4 : p.length ≤ q.length := by omega
    rw [decide_eq_false (by omega)] at hal
    have HTE2 : As (((textS a).toList == (textS b).toList) = false) := ⟨by rw [HTE.out, decide_eq_false (by omega)]⟩
    clear hmi HMO
    go_wp2_with (fail)
    refine (text_calls a _ (by omega) (by omega) HT4.out.here).mono ?_
    rintro e w5 ⟨rfl, hb⟩
    have hB5 : As (Below w.heap.size w w5) := ⟨hB4.out.trans (hb.mono hB4.out.size)⟩
    have HT5 := As.mk (HT.out.on hB5.out)
    clear hb
    go_wp2_with (fail)
    refine (text_calls b _ (by omega) (by omega) HT5.out.here).mono ?_
    rintro e w6 ⟨rfl, hb⟩
    have hB6 : As (Below w.heap.size w w6) := ⟨hB5.out.trans (hb.mono hB5.out.size)⟩
    clear hb
    have hq := HTE2.out
    go_wp2_with (fail)
    go_ret
    exact ⟨rfl, hB6.out⟩
  · subst hab
    have e2 : decide (a < a) = false := decide_eq_false (by omega)
    have e3 : (p.length : Int) ≤ q.length := by have := HMO.out (by omega); omega
    have e4 : p.length ≤ q.length := by omega
    rw [decide_eq_true rfl] at hal
    clear hmi HMO HTE
    go_wp2_with (fail)
    refine (text_calls a _ (by omega) (by omega) HT4.out.here).mono ?_
    rintro e w5 ⟨rfl, hb⟩
    have hB5 : As (Below w.heap.size w w5) := ⟨hB4.out.trans (hb.mono hB4.out.size)⟩
    have HT5 := As.mk (HT.out.on hB5.out)
    clear hb
    go_wp2_with (fail)
    refine (text_calls a _ (by omega) (by omega) HT5.out.here).mono ?_
    rintro e w6 ⟨rfl, hb⟩
    have hB6 : As (Below w.heap.size w w6) := ⟨hB5.out.trans (hb.mono hB5.out.size)⟩
    clear hb
    go_wp2_with (fail)
    go_ret
    exact ⟨rfl, hB6.out⟩
  · have e1 : (a == b) = false := beq_eq_false_iff_ne.2 (by omega)
    rw [decide_eq_false (by omega)] at hal
    have HTE2 : As (((textS a).toList == (textS b).toList) = false) := ⟨by rw [HTE.out, decide_eq_false (by omega)]⟩
    clear hmi HMO
    go_wp2_with (fail)
    refine (text_calls a _ (by omega) (by omega) HT4.out.here).mono ?_
    rintro e w5 ⟨rfl, hb⟩
    have hB5 : As (Below w.heap.size w w5) := ⟨hB4.out.trans (hb.mono hB4.out.size)⟩
    have HT5 := As.mk (HT.out.on hB5.out)
    clear hb
    go_wp2_with (fail)
    refine (text_calls b _ (by omega) (by omega) HT5.out.here).mono ?_
    rintro e w6 ⟨rfl, hb⟩
    have hB6 : As (Below w.heap.size w w6) := ⟨hB5.out.trans (hb.mono hB5.out.size)⟩
    clear hb
    have hq := HTE2.out
    go_wp2_with (fail)
    go_ret
    exact ⟨rfl, hB6.out⟩
end Go.Proofs.YticagpejankjcaaDoor.Nb
