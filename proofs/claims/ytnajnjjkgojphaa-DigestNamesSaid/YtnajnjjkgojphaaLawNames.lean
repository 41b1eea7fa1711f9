/- The walk of DigestNames: the digits of a name say the sum; what is no name. -/
import Derived.Test.YtnajnjjkgojphaaLawPads
namespace Go.Proofs.Ytnajnjjkgojphaa.Dg
set_option linter.unusedVariables false
set_option linter.unusedSimpArgs false
open Go.RowKit Blk Go.Proofs.YtnajnjjkgojphaaW.PrintWords Go.Proofs.YtnajnjjkgojphaaW.PrintLast Go.Proofs.YtnajnjjkgojphaaW.PrintMore

/-- What a digit says. -/
def vald (c : Int) : Int := if 97 ≤ c then c - 97 + 10 else c - 48
theorem vald_hexd (n : Int) (h0 : 0 ≤ n) (h1 : n < 16) : vald (hexd n) = n := by
  unfold vald hexd
  split <;> split <;> omega
theorem value_calls (c : Int) (w : World) (h0 : 48 ≤ c) (h1 : c < 256) :
    Calls Try.prog 16 #[.int .u8 c] w fun e w' => e = .returned (.int .i64 (vald c)) ∧ Below w.heap.size w w' := by
  by_cases h : 97 ≤ c
  · have hv : vald c = c - 97 + 10 := by unfold vald; rw [if_pos h]
    rw [hv]
    go_enter Try.func16, Try.ntmps16
    go_wp2
    go_ret
    exact ⟨rfl, Below.refl _ _⟩
  · have hv : vald c = c - 48 := by unfold vald; rw [if_neg h]
    rw [hv]
    go_enter Try.func16, Try.ntmps16
    go_wp2
    go_ret
    exact ⟨rfl, Below.refl _ _⟩

theorem name_at (r : List Int) (h : ∀ x ∈ r, 0 ≤ x ∧ x < 256) (i : Nat) (hi : i < r.length) :
    (nameL r)[2 * i]? = some (hexd (r.getD i 0 / 16)) ∧ (nameL r)[2 * i + 1]? = some (hexd (r.getD i 0 % 16)) := by
  induction r generalizing i with
  | nil => simp at hi
  | cons a r ih =>
    cases i with
    | zero => simp [nameL]
    | succ i =>
      have := ih (fun x hx => h x (by simp [hx])) i (by simpa using hi)
      simp only [nameL, List.flatMap_cons, List.cons_append, List.nil_append, List.getD_cons_succ, show 2 * (i + 1) = 2 * i + 1 + 1 by omega] at this ⊢
      simpa using this
theorem index_str (s : ByteArray) (i : Nat) (v : Int) (h : (bytesOf s)[i]? = some v) (j : Int) (hj : j = i) (w : World) :
    (Instr.index 9 (.string s) (.int .i64 j)).run Try.prog w = .ok (.int .u8 v) w := by
  subst hj
  have hl : i < s.size := by
    rcases Nat.lt_or_ge i s.size with h1 | h1
    · exact h1
    · rw [List.getElem?_eq_none (by rw [bytesOf_length]; exact h1)] at h; cases h
  simp [Instr.index, asIntOf, Try.underlying9, hl]
  simp only [bytesOf, List.getElem?_map, Option.map_eq_some_iff] at h
  obtain ⟨a, ha, rfl⟩ := h
  have h2 : i < s.data.toList.length := by simpa using hl
  rw [List.getElem?_eq_getElem h2] at ha
  injection ha with ha
  rw [← ha]
  rfl
theorem C_new1 (W : World) (x : Int) : (Kd.int .u8).C (W.alloc (.cells #[.int .u8 x] 5)) (some ⟨W.heap.size, 0, none⟩) 1 [x] := by
  refine Kd.C_of_reads (enc := Value.int .u8) (d := (0 : Int)) ⟨rfl, by decide, fun _ => ⟨_, rfl, fun j hj => ?_⟩⟩
  have h := Row.new W [.int .u8 x] 5
  obtain rfl : j = 0 := by omega
  exact h.cell (i := 0) rfl
theorem hexd_48 (n : Int) (h0 : 0 ≤ n) (h1 : n < 16) : 48 ≤ hexd n ∧ hexd n < 256 := by unfold hexd; split <;> omega

theorem bytesOf_append (a b : ByteArray) : bytesOf (a ++ b) = bytesOf a ++ bytesOf b := by
  simp [bytesOf, ByteArray.data_append]
theorem bytesOf_extract (a : ByteArray) (i j : Nat) : bytesOf (a.extract i j) = ((bytesOf a).drop i).take (j - i) := by
  simp [bytesOf, ByteArray.data_extract, List.map_take, List.map_drop]
theorem named_1 (s : ByteArray) (hs : s.size = 64) (k : Int) (h0 : 0 ≤ k) (h1 : k < 64) : namedL (bytesOf (s.extract 0 k.toNat)) = false := by
  have : ¬ ((bytesOf (s.extract 0 k.toNat)).length = 64) := by
    rw [bytesOf_extract, List.length_take, List.length_drop, bytesOf_length]; omega
  rw [namedL, decide_eq_false this, Bool.false_and]
theorem named_2 (s : ByteArray) (hs : s.size = 64) : namedL (bytesOf (s ++ (⟨#[48]⟩ : ByteArray))) = false := by
  have : ¬ ((bytesOf (s ++ (⟨#[48]⟩ : ByteArray))).length = 64) := by
    rw [bytesOf_append, List.length_append, bytesOf_length, bytesOf_length]
    show ¬ (s.size + 1 = 64)
    omega
  rw [namedL, decide_eq_false this, Bool.false_and]
theorem named_3 (s ys : ByteArray) (y : Int) (hy0 : 0 ≤ y) (hy1 : y < 256) (hs : s.size = 64) (hn : namedL (bytesOf s) = true) (hys : strOfNums [y] = ys) (k : Int) (h0 : 0 ≤ k) (h1 : k < 64) :
    namedL (bytesOf (s.extract 0 k.toNat ++ ys ++ s.extract (k + 1).toNat 64)) = hexc y := by
  subst hys
  rw [bytesOf_append, bytesOf_append, bytesOf_extract, bytesOf_extract, bytesOf_str [y] (by intro x hx; rw [List.mem_singleton.1 hx]; exact ⟨hy0, hy1⟩)]
  have hl : (bytesOf s).length = 64 := by rw [bytesOf_length]; exact hs
  rw [namedL, Bool.and_eq_true] at hn
  have ha := hn.2
  rw [List.all_eq_true] at ha
  have hL : ((((bytesOf s).drop 0).take (k.toNat - 0)) ++ [y] ++ (((bytesOf s).drop (k + 1).toNat).take (64 - (k + 1).toNat))).length = 64 := by simp [hl]; omega
  rw [namedL, decide_eq_true hL, Bool.true_and, List.all_append, List.all_append]
  have e1 : (((bytesOf s).drop 0).take (k.toNat - 0)).all hexc = true := List.all_eq_true.2 fun x hx => ha x (List.mem_of_mem_drop (List.mem_of_mem_take hx))
  have e2 : (((bytesOf s).drop (k + 1).toNat).take (64 - (k + 1).toNat)).all hexc = true := List.all_eq_true.2 fun x hx => ha x (List.mem_of_mem_drop (List.mem_of_mem_take hx))
  rw [e1, e2]
  simp

set_option maxHeartbeats 4000000 in
set_option maxRecDepth 100000 in
theorem names_law (A : Option Addr) (c : Nat) (l : List Int) (t : Int) (y : Int) (w : World) (hC : (Kd.int .u8).C w A l.length l) (hc : l.length ≤ c) (hl : l.length ≤ 9223372036854775807) (h8 : ∀ x ∈ l, 0 ≤ x ∧ x < 256)
    (ht0 : 0 ≤ t) (ht1 : t < 256) (hy0 : 0 ≤ y) (hy1 : y < 256) :
    Calls Try.prog 4 #[.slice A l.length c, .int .u8 t, .int .u8 y] w fun e w' => e = .returned (.bool true) ∧ Below w.heap.size w w' := by
  have HC := As.mk hC
  have H8 := As.mk h8
  clear hC h8
  by_cases hbig : 20000 < l.length
  · go_enter Try.func4, Try.ntmps4
    go_wp2_with (fail)
    refine (head_calls _).mono ?_
    rintro e w1 ⟨rfl, hb⟩
    have HB := As.mk hb
    clear hb
    go_wp2_with (fail)
    go_ret
    exact ⟨rfl, HB.out⟩
  · have hz := zero_32
    go_enter Try.func4, Try.ntmps4
    go_wp2_with (fail)
    refine (head_calls _).mono ?_
    rintro e w1 ⟨rfl, hb⟩
    have HB := As.mk hb
    clear hb
    go_wp2_with (fail)
    refine (sum_calls A c l _ (Kd.C_below HC.out HB.out) hc (by omega) H8.out).mono ?_
    rintro e w2 ⟨rfl, hb⟩
    replace HB : As (Below w.heap.size w w2) := ⟨HB.out.trans (hb.mono HB.out.size)⟩
    clear hb
    have hlen := shaL_len l
    have hr8 := shaL_8 l
    have hnm := named_name l
    have hsz := size_name l
    have hbs := bytesOf_str _ (nameL_8 _ (shaL_8 l))
    obtain ⟨r, hr⟩ : ∃ r, shaL l = r := ⟨_, rfl⟩
    obtain ⟨s, hs⟩ : ∃ s, strOfNums (nameL (shaL l)) = s := ⟨_, rfl⟩
    rw [hs] at hnm hsz hbs
    have hS := As.mk hs
    clear hs
    rw [hr] at hlen hr8 hbs ⊢
    have hsz32 : (r.map (Value.int .u8)).toArray.size = 32 := by simp [hlen]
    have hnew : As ((w2.alloc (.cells Z32 24)).heap[w2.heap.size]? = some (.cells Z32 24 (0, 0))) := ⟨Row.new w2 (List.replicate 32 (.int .u8 0)) 24⟩
    have HL := As.mk hlen
    have HZ := As.mk hsz32
    have HR8 := As.mk hr8
    have HBS := As.mk hbs
    clear hlen hsz32 hr8 hbs hr
    go_wp2_with (first
      | (refine wpList_store_row rfl 24 (.tmp 8) (.tmp 19) rfl w2.heap.size (r.map (Value.int .u8)).toArray rfl rfl 24 _ hnew.out (by rw [info_32, HZ.out]) (by rw [HZ.out]; rfl) (all_u8 _) ?_)
      | fail)
    have hR3 : As (Row ((w2.alloc (.cells Z32 24)).setRow w2.heap.size (r.map (Value.int .u8)).toArray) w2.heap.size 24 (r.map (Value.int .u8))) := ⟨setRow_heap _ _ _ _ _ _ hnew.out⟩
    have hB3 : As (Below w.heap.size w ((w2.alloc (.cells Z32 24)).setRow w2.heap.size (r.map (Value.int .u8)).toArray)) := ⟨below_setRow (HB.out.alloc HB.out.size _) HB.out.size _⟩
    obtain ⟨b, hb⟩ : ∃ b, w2.heap.size = b := ⟨_, rfl⟩
    clear HB hnew
    generalize ((w2.alloc (.cells Z32 24)).setRow w2.heap.size (r.map (Value.int .u8)).toArray) = w3 at *
    rw [hb] at hR3 ⊢
    clear hb
    refine (name_calls A c l _ (Kd.C_below HC.out hB3.out) hc (by omega) H8.out).mono ?_
    rintro e w4 ⟨rfl, hb⟩
    rw [hS.out]
    have hR4 := As.mk (hR3.out.below' hb)
    have hB4 : As (Below w.heap.size w w4) := ⟨hB3.out.trans (hb.mono hB3.out.size)⟩
    clear hb hR3 hB3
    go_wp2_with (fail)
    refine (named_calls s _ (by omega)).mono ?_
    rintro e w5 ⟨rfl, hb⟩
    rw [hnm]
    have hR5 := As.mk (hR4.out.below' hb)
    have hB5 : As (Below w.heap.size w w5) := ⟨hB4.out.trans (hb.mono hB4.out.size)⟩
    clear hb hR4 hB4
    go_wp2_with (fail)
    go_loopw [10] (fun v10 wr => ∃ i : Nat, i ≤ 32 ∧ v10 = .int .i64 i ∧ As (Row wr b 24 (r.map (Value.int .u8))) ∧ As (Below w.heap.size w wr)) (fun v10 _ => 32 - (intOf v10).toNat)
    case atStart => exact ⟨0, by omega, rfl, hR5, hB5⟩
    case round =>
      clear hR5 hB5
      obtain ⟨i, hi, rfl, HR, HB⟩ := hrel
      by_cases hlt : i < 32
      · have hat := name_at r HR8.out i (by rw [HL.out]; exact hlt)
        obtain ⟨x, hx⟩ : ∃ x, r.getD i 0 = x := ⟨_, rfl⟩
        have hx8 : 0 ≤ x ∧ x < 256 := by
          rw [← hx]
          refine HR8.out _ ?_
          have : i < r.length := by rw [HL.out]; exact hlt
          simp [this]
        have hcell : (r.map (Value.int .u8))[i]? = some (.int .u8 x) := by
          have : i < r.length := by rw [HL.out]; exact hlt
          rw [← hx]; simp [this]
        rw [hx, ← HBS.out] at hat
        have k1 := hexd_48 (x / 16) (by omega) (by omega)
        have k2 := hexd_48 (x % 16) (by omega) (by omega)
        have hv1 := vald_hexd (x / 16) (by omega) (by omega)
        have hv2 := vald_hexd (x % 16) (by omega) (by omega)
        obtain ⟨y1, hy1⟩ : ∃ y1, hexd (x / 16) = y1 := ⟨_, rfl⟩
        obtain ⟨y2, hy2⟩ : ∃ y2, hexd (x % 16) = y2 := ⟨_, rfl⟩
        rw [hy1] at hat hv1 k1
        rw [hy2] at hat hv2 k2
        have q1 := fun w => index_str s _ _ hat.1 (2 * (i : Int)) (by omega) w
        have q2 := fun w => index_str s _ _ hat.2 (2 * (i : Int) + 1) (by omega) w
        have k11 := k1.1
        have k12 := k1.2
        have k21 := k2.1
        have k22 := k2.2
        have hcl : ∀ z : QS.S wr, z.1.cell? ⟨b, i, none⟩ = some (.int .u8 x) := fun z => (HR.out.below' z.2).cell hcell
        have HX := As.mk hx
        clear hat hy1 hy2 k1 k2 hx hcell
        go_wp2
        have hxx : x / 16 * 16 + x % 16 = x := by omega
        refine QS.region (by kernel_rfl) (by kernel_rfl) ?_
        repeat (go_big_quiet_step ((go_at_call 16; exact QS.quiet (value_calls _ _ (by omega) (by omega)))))
        refine wpQuiet_nil ?_
        rintro wz ⟨z, hz2⟩
        have hwz : Below wr.heap.size wr wz := by rw [hz2]; exact z.2
        clear hz2 z
        have HR2 := As.mk (HR.out.below' hwz)
        have HB2 : As (Below w.heap.size w wz) := ⟨HB.out.trans (hwz.mono HB.out.size)⟩
        clear hwz hcl HR HB
        go_wp2
        exact ⟨⟨i + 1, by omega, by go_num, HR2, HB2⟩, by simp [intOf]; omega⟩
      · have hi32 : i = 32 := by omega
        subst hi32
        obtain ⟨k, hk⟩ : ∃ k, t % 64 = k := ⟨_, rfl⟩
        have hk0 : 0 ≤ k := by omega
        have hk1 : k < 64 := by omega
        go_wp2
        rw [hk]
        clear hk
        have hk2 : k ≤ 64 := by omega
        have hk3 : k + 1 ≤ 64 := by omega
        have hcv : (convert 22 9 (.slice (some ⟨wr.heap.size, 0, none⟩) 1 1)).run Try.prog (wr.alloc (.cells #[.int .u8 y] 5)).drew = .ok (.string (strOfNums [y])) (wr.alloc (.cells #[.int .u8 y] 5)).drew :=
          Kd.C_string (P := Try.prog) (c := 1) Try.underlying22 Try.underlying5 Try.underlying9 (Kd.C_drew (C_new1 wr y))
        obtain ⟨ys, hys⟩ : ∃ ys, strOfNums [y] = ys := ⟨_, rfl⟩
        rw [hys] at hcv
        have hys1 : ys.size = 1 := by rw [← hys]; rfl
        have HYS := As.mk (And.intro hys hys1)
        have hs1 : ¬ 9223372036854775807 < k.toNat + ys.size := by omega
        have hs2 : ¬ 9223372036854775807 < k.toNat + ys.size + (64 - (k + 1).toNat) := by omega
        clear hys hys1
        have n1 := named_1 s hsz k hk0 hk1
        have n2 := named_2 s hsz
        have n3 := named_3 s ys y hy0 hy1 hsz hnm HYS.out.1 k hk0 hk1
        have hB6 : As (Below w.heap.size w (wr.alloc (Obj.cells #[.int .u8 y] 5)).drew) := ⟨(HB.out.alloc HB.out.size _).drew⟩
        go_region
        generalize (wr.alloc (Obj.cells #[.int .u8 y] 5)).drew = w6 at hB6 ⊢
        go_wp2_with (fail)
        refine (named_calls (s.extract 0 k.toNat) _ (by simp; omega)).mono ?_
        rintro e w7 ⟨rfl, hb⟩
        rw [n1]
        have hB7 : As (Below w.heap.size w w7) := ⟨hB6.out.trans (hb.mono hB6.out.size)⟩
        clear hb hB6
        go_wp2_with (fail)
        refine (named_calls (s ++ (⟨#[48]⟩ : ByteArray)) _ (by rw [ByteArray.size_append]; show s.size + 1 ≤ _; omega)).mono ?_
        rintro e w8 ⟨rfl, hb⟩
        rw [n2]
        have hB8 : As (Below w.heap.size w w8) := ⟨hB7.out.trans (hb.mono hB7.out.size)⟩
        clear hb hB7
        go_wp2_with (fail)
        refine (named_calls (s.extract 0 k.toNat ++ ys ++ s.extract (k + 1).toNat 64) _ (by have := HYS.out.2; simp; omega)).mono ?_
        rintro e w9 ⟨rfl, hb⟩
        rw [n3]
        have hB9 : As (Below w.heap.size w w9) := ⟨hB8.out.trans (hb.mono hB8.out.size)⟩
        clear hb hB8
        have hB := As.mk hB9
        rcases (show y < 48 ∨ (48 ≤ y ∧ y ≤ 57) ∨ (57 < y ∧ y < 97) ∨ (97 ≤ y ∧ y ≤ 102) ∨ 102 < y by omega) with hy | ⟨hy, hy'⟩ | ⟨hy, hy'⟩ | ⟨hy, hy'⟩ | hy
        all_goals
          have hh : hexc y = decide ((48 ≤ y ∧ y ≤ 57) ∨ (97 ≤ y ∧ y ≤ 102)) := by unfold hexc; simp
          have h48 : decide (48 ≤ y) = decide (48 ≤ y) := rfl
          rw [hh]
          clear hh h48
        · rw [decide_eq_false (by omega)]
          go_wp2
          go_ret
          exact ⟨rfl, hB9.out⟩
        · rw [decide_eq_true (by omega)]
          go_wp2
          go_ret
          exact ⟨rfl, hB9.out⟩
        · rw [decide_eq_false (by omega)]
          have g1 : decide (y ≤ 57) = false := decide_eq_false (by omega)
          have g2 : decide (97 ≤ y) = false := decide_eq_false (by omega)
          go_wp2
          go_ret
          exact ⟨rfl, hB9.out⟩
        · rw [decide_eq_true (by omega)]
          have g1 : decide (y ≤ 57) = false := decide_eq_false (by omega)
          go_wp2
          go_ret
          exact ⟨rfl, hB9.out⟩
        · rw [decide_eq_false (by omega)]
          have g1 : decide (y ≤ 57) = false := decide_eq_false (by omega)
          have g2 : decide (y ≤ 102) = false := decide_eq_false (by omega)
          go_wp2
          go_ret
          exact ⟨rfl, hB9.out⟩
end Go.Proofs.Ytnajnjjkgojphaa.Dg
