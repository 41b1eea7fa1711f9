/- The head of the statements of layer 3 answers true. No condition but the library's table as its text lays it. -/
import Derived.Test.YticagpejankjcaaDoorNumBase
namespace Go.Proofs.YticagpejankjcaaDoor.Nb
set_option linter.unusedVariables false
set_option linter.unusedSimpArgs false
open Go.RowKit Go.Proofs.YticagpejankjcaaDoorW.PrintWords Go.Proofs.YticagpejankjcaaDoorW.PrintLast Go.Proofs.YticagpejankjcaaDoorW.PrintMore

theorem itoa_120 : Lib.itoa 120 = [49, 50, 48] := by
  rw [show (120 : Int) = ((120 : Nat) : Int) from rfl, Lib.itoa_nonneg, Lib.decDigits, dif_neg (by decide), Lib.decDigits_two (by decide) (by decide)]
  rfl
theorem itoa_12 : Lib.itoa 12 = [49, 50] := by
  rw [show (12 : Int) = ((12 : Nat) : Int) from rfl, Lib.itoa_nonneg, Lib.decDigits_two (by decide) (by decide)]
  rfl
theorem itoa_0 : Lib.itoa 0 = [48] := by
  rw [show (0 : Int) = ((0 : Nat) : Int) from rfl, Lib.itoa_nonneg, Lib.decDigits_one (by decide)]
  rfl
theorem decS_120 : decS ⟨#[49, 50, 48]⟩ = some 120 := by
  have e : (textS 120).toList = [49, 50, 48] := by rw [textS, if_neg (by decide), itoa_120, ByteArray.toList_eq]
  have e2 : bytesOf ⟨#[49, 50, 48]⟩ = [49, 50, 48] := rfl
  have e3 : (⟨#[49, 50, 48]⟩ : ByteArray).toList = [49, 50, 48] := by rw [ByteArray.toList_eq]
  rw [decS, e2, e3]
  simp [decScan, e]
theorem decS_012 : decS ⟨#[48, 49, 50]⟩ = none := by
  have e : (textS 12).toList = [49, 50] := by rw [textS, if_neg (by decide), itoa_12, ByteArray.toList_eq]
  have e2 : bytesOf ⟨#[48, 49, 50]⟩ = [48, 49, 50] := rfl
  have e3 : (⟨#[48, 49, 50]⟩ : ByteArray).toList = [48, 49, 50] := by rw [ByteArray.toList_eq]
  rw [decS, e2, e3]
  simp [decScan, e]
theorem textS_0 : textS 0 = ⟨#[48]⟩ := by rw [textS, if_neg (by decide), itoa_0]

theorem cell_of (w : World) (b T : Nat) (xs : Array Value) (h : w.heap[b]? = some (.cells xs T (0, 0))) (j : Nat) (v : Value) (hv : xs[j]? = some v) : w.cell? ⟨b, j, none⟩ = some v := by
  simp [World.cell?, h, hv]
theorem add_0 (b j : Nat) : (⟨b, 0, none⟩ : Addr).add j = ⟨b, j, none⟩ := by
  unfold Addr.add
  split <;> simp_all
theorem C_new (W : World) (l : List Int) (hl : l.length ≤ 9223372036854775807) : (Kd.int .u8).C (W.alloc (.cells (l.map (Value.int .u8)).toArray 5)) (some ⟨W.heap.size, 0, none⟩) l.length l := by
  refine Kd.C_of_reads (enc := Value.int .u8) (d := (0 : Int)) ⟨rfl, hl, fun _ => ⟨_, rfl, fun j hj => ?_⟩⟩
  have h : (W.alloc (.cells (l.map (Value.int .u8)).toArray 5)).heap[W.heap.size]? = some (.cells (l.map (Value.int .u8)).toArray 5 (0, 0)) := by
    show (W.heap.push _)[W.heap.size]? = _
    simp
  rw [add_0]
  refine cell_of _ _ _ _ h j _ ?_
  have hj2 : j < l.length := hj
  simp [hj2]

set_option maxHeartbeats 4000000 in
set_option maxRecDepth 100000 in
theorem head_calls (w : World) (ht : Lib.TabIs Tryd.prog w "internal/strconv.uint64pow10" .u64 Lib.pow10Tab) :
    Calls Tryd.prog 8 #[] w fun e w' => e = .returned (.bool true) ∧ Below w.heap.size w w' := by
  have HT := As.mk (Lib.tabBelow_of_tabIs ht)
  clear ht
  go_enter Tryd.func8, Tryd.ntmps8
  go_wp2_with (fail)
  refine (Nl.num_Put.calls 10 300 [172, 2] _ put_300).mono ?_
  rintro e w1 ⟨v1, rfl, hR, hb⟩
  have HR := As.mk hR
  have HB := As.mk hb
  clear hR hb
  go_wp2_with (fail)
  refine (Nl.num_Get.calls 10 (some ⟨w1.heap.size, 0, none⟩) 3 [172, 2, 9] 300 2 true _ (C_new w1 [172, 2, 9] (by decide)) (by decide) get_1).mono ?_
  rintro e w2 ⟨rfl, hb⟩
  have ha := (Below.refl w1.heap.size w1).alloc (Nat.le_refl _) (.cells #[.int .u8 172, .int .u8 2, .int .u8 9] 5)
  have HB2 : As (Below w1.heap.size w1 w2) := ⟨ha.trans (hb.mono ha.size)⟩
  clear hb ha
  go_wp2_with (fail)
  refine (Nl.num_Get.calls 10 (some ⟨w2.heap.size, 0, none⟩) 2 [128, 0] 0 0 false _ (C_new w2 [128, 0] (by decide)) (by decide) get_2).mono ?_
  rintro e w3 ⟨rfl, hb⟩
  have ha := (Below.refl w2.heap.size w2).alloc (Nat.le_refl _) (.cells #[.int .u8 128, .int .u8 0] 5)
  have HB3 : As (Below w1.heap.size w1 w3) := ⟨HB2.out.trans ((ha.trans (hb.mono ha.size)).mono HB2.out.size)⟩
  clear hb HB2 ha
  go_wp2_with (fail)
  have HT3 := As.mk (HT.out.on (HB.out.trans (HB3.out.mono HB.out.size)))
  refine (decimal_calls ⟨#[49, 50, 48]⟩ _ (by decide) HT3.out.here).mono ?_
  rintro e w4 ⟨rfl, hb⟩
  rw [decS_120]
  have HB4 : As (Below w1.heap.size w1 w4) := ⟨HB3.out.trans (hb.mono HB3.out.size)⟩
  clear hb HB3
  go_wp2_with (fail)
  have HT4 := As.mk (HT.out.on (HB.out.trans (HB4.out.mono HB.out.size)))
  refine (decimal_calls ⟨#[48, 49, 50]⟩ _ (by decide) HT4.out.here).mono ?_
  rintro e w5 ⟨rfl, hb⟩
  rw [decS_012]
  have HB5 : As (Below w1.heap.size w1 w5) := ⟨HB4.out.trans (hb.mono HB4.out.size)⟩
  clear hb HB4 HT3 HT4
  have hR5 := Kd.R_below HR.out HB5.out
  obtain ⟨g, cap, rfl, hg1, hg2, hg3⟩ := Kd.R_form hR5 (by decide)
  have k0 := (Kd.R_cell 0 hR5 0 (by decide) (by decide)).1
  have k1 := (Kd.R_cell 0 hR5 1 (by decide) (by decide)).1
  have k0' : w5.cell? ⟨g, 0, none⟩ = some (.int .u8 172) := k0
  have k1' : w5.cell? ⟨g, 1, none⟩ = some (.int .u8 2) := k1
  clear hR5 HR k0 k1 hg1 hg2 hg3
  have HB6 : As (Below w.heap.size w w5) := ⟨HB.out.trans (HB5.out.mono HB.out.size)⟩
  have HT5 := As.mk (HT.out.on HB6.out)
  clear HB HB5
  go_wp2_with (fail)
  refine (text_calls 0 _ (by decide) (by decide) HT5.out.here).mono ?_
  rintro e w6 ⟨rfl, hb⟩
  rw [textS_0]
  have HB7 : As (Below w.heap.size w w6) := ⟨HB6.out.trans (hb.mono HB6.out.size)⟩
  clear hb HB6
  go_wp2_with (fail)
  refine (Nl.num_Put.calls 10 (-1) [] _ put_neg).mono ?_
  rintro e w7 ⟨v2, rfl, hR, hb⟩
  have HB8 : As (Below w.heap.size w w7) := ⟨HB7.out.trans (hb.mono HB7.out.size)⟩
  clear hb HB7
  obtain ⟨A1, c1, rfl, hc1, hC1⟩ := Kd.R_reads hR
  clear hR hC1
  go_wp2_with (fail)
  go_ret
  exact ⟨rfl, HB8.out⟩
end Go.Proofs.YticagpejankjcaaDoor.Nb
