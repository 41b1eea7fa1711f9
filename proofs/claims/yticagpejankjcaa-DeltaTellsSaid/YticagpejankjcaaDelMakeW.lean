/- The walk of Make. No condition but the reach of what comes in. -/
import Derived.Test.YticagpejankjcaaDelMake
namespace Go.Proofs.Yticagpejankjcaa.Db
set_option linter.unusedVariables false
set_option linter.unusedSimpArgs false
open Go.RowKit Go.Proofs.YticagpejankjcaaW.PrintWords Go.Proofs.YticagpejankjcaaW.PrintLast Go.Proofs.YticagpejankjcaaW.PrintMore

theorem heap_new (w : World) (o : Obj) : (w.alloc o).heap[w.heap.size]? = some o := by
  show (w.heap.push o)[w.heap.size]? = some o
  simp
theorem C_cells {w : World} {ad : Addr} {l : List Int} (h : (Kd.int .u8).C w (some ad) l.length l) (hl : 0 < l.length) : ∀ (j : Nat) (u : Value), (cs l)[j]? = some u → w.cell? (ad.add j) = some u := by
  intro j u hj
  obtain ⟨ad', e, hc⟩ := h.2.2 hl
  cases e
  rw [List.getElem?_map, Option.map_eq_some_iff] at hj
  obtain ⟨x, hx, rfl⟩ := hj
  obtain ⟨c, hcl, hR, hcell⟩ := hc j x hx
  have hcx : c = [Value.int .u8 x] := hR
  subst hcx
  have := hcell 0 _ rfl
  rw [show j * (Kd.int .u8).sz + 0 = j from by show j * 1 + 0 = j; omega] at this
  exact this
theorem cs_one (l : List Int) : ∀ u ∈ cs l, u.oneCell' = true := by
  intro u hu
  obtain ⟨x, _, rfl⟩ := List.mem_map.1 hu
  rfl
/-- Write of a number's bytes: Put, then Write. -/
theorem write_at (b : Nat) (bs : List Value) (v : Value) (l : List Int) (B0 : Nat) (w : World) (h : Lib.IsBuilderF 42 5 b b bs w) (hR : Kd.R (Kd.int .u8) 5 w B0 (fun _ => True) v l) (hB0 : b < B0) (hl : 0 < l.length) (hlen : bs.length + l.length ≤ 140737488355328) :
    Calls Try.prog 22 #[.pointer (some ⟨b, 0, none⟩), v] w fun e w' => e = .returned (.tuple #[.int .i64 l.length, .nilIface]) ∧ (Lib.BuilderAtF 42 5 b b (.pointer (some ⟨b, 0, none⟩)) (bs ++ cs l) w' ∧ Below b w w' ∧ Lib.OthersKept 5 (some b) w w') := by
  obtain ⟨g, c, rfl, hg, hgl, hgc⟩ := Kd.R_form hR hl
  have hC := (Kd.R_reads' hR).2.2
  exact write_k b b bs ⟨g, 0, none⟩ l.length c (cs l) w h hl (by simp) (C_cells hC hl) (by show g ≠ b; omega) (cs_one l) hlen (Nat.le_of_lt (bul h))
theorem best_at (base left : ByteArray) (p : Nat × Nat) (w : World) (hb : base.size ≤ 1099511627776) (hp : bestL (bytesOf base) (bytesOf left) = p) :
    Calls Try.prog 26 #[.string base, .string left] w fun e w' => e = .returned (.tuple #[.int .i64 p.1, .int .i64 p.2]) ∧ Below w.heap.size w w' := by
  subst hp
  exact (Nl.delta_best.calls (base.size + 2) base left _ _ w (best_f base left hb)).mono fun e w' h => ⟨h.1, below_drawn h.2⟩

theorem part_8 (text : ByteArray) (i j : Nat) : ∀ x ∈ part text i j, 0 ≤ x ∧ x < 256 := fun x hx => bytesOf_8 text x (List.mem_of_mem_drop (List.mem_of_mem_take hx))
theorem mkGo_8 (base text : List Int) (h8 : ∀ x ∈ text, 0 ≤ x ∧ x < 256) : ∀ (f i off : Nat) (acc : List Int), (∀ x ∈ acc, 0 ≤ x ∧ x < 256) → ∀ x ∈ mkGo base text f i off acc, 0 ≤ x ∧ x < 256
  | 0, _, _, acc, h => h
  | f + 1, i, off, acc, h => by
    rw [mkGo]
    have hi : ∀ n, ∀ x ∈ ins ((text.drop off).take n), 0 ≤ x ∧ x < 256 := fun n => ins_8 _ (fun x hx => h8 x (List.mem_of_mem_drop (List.mem_of_mem_take hx)))
    split
    · intro x hx
      exact (List.mem_append.1 hx).elim (h x) (hi _ x)
    · split
      · exact mkGo_8 base text h8 f _ _ acc h
      · refine mkGo_8 base text h8 f _ _ _ (fun x hx => ?_)
        rcases List.mem_append.1 hx with hx | hx
        · exact (List.mem_append.1 hx).elim (h x) (hi _ x)
        · rcases List.mem_cons.1 hx with hx | hx
          · omega
          · exact (List.mem_append.1 hx).elim (putL_8 _ x) (putL_8 _ x)
theorem mkL_8 (base text : ByteArray) : ∀ x ∈ mkL (bytesOf base) (bytesOf text), 0 ≤ x ∧ x < 256 :=
  mkGo_8 _ _ (bytesOf_8 text) _ _ _ _ (fun x hx => (List.mem_append.1 hx).elim (putL_8 _ x) (putL_8 _ x))
theorem cs_bytes (l : List Int) (h : ∀ x ∈ l, 0 ≤ x ∧ x < 256) : cs l = Lib.byteCells (l.map fun n => UInt8.ofNat n.toNat) := by
  simp only [cs, Lib.byteCells, List.map_map]
  refine List.map_congr_left fun x hx => ?_
  have := h x hx
  simp
  omega

set_option maxHeartbeats 8000000 in
set_option maxRecDepth 100000 in
theorem make_calls (base text : ByteArray) (T : List Int) (w : World) (hb : base.size ≤ 1073741824) (ht : text.size ≤ 1073741824) (hT : mkL (bytesOf base) (bytesOf text) = T) :
    Calls Try.prog 12 #[.string base, .string text] w fun e w' => e = .returned (.string (strOfNums T)) ∧ Below w.heap.size w w' := by
  have HT := As.mk hT
  clear hT
  go_enter Try.func12, Try.ntmps12
  go_wp2_with (fail)
  have hbu1 : Lib.IsBuilderF 42 5 (w.heap.size + 1) (w.heap.size + 1) [] ((w.alloc (.cells #[.string text] 9)).alloc (.cells #[.pointer none, .slice none 0 0] 42)) := by
    have := Lib.IsBuilderF.of (Lib.fresh_isBuilder 42 5 (w.alloc (.cells #[.string text] 9)))
    rw [World.size_alloc] at this
    exact this
  have htx1 : ((w.alloc (.cells #[.string text] 9)).alloc (.cells #[.pointer none, .slice none 0 0] 42)).heap[w.heap.size]? = some (.cells #[.string text] 9 (0, 0)) := by
    rw [Lib.alloc_old _ _ _ (by simp)]
    exact heap_new w _
  have hbw1 : Below w.heap.size w ((w.alloc (.cells #[.string text] 9)).alloc (.cells #[.pointer none, .slice none 0 0] 42)) := ((Below.refl _ w).alloc (Nat.le_refl _) _).alloc (by simp) _
  obtain ⟨w1, hw1⟩ : ∃ w1, (w.alloc (.cells #[.string text] 9)).alloc (.cells #[.pointer none, .slice none 0 0] 42) = w1 := ⟨_, rfl⟩
  rw [hw1] at hbu1 htx1 hbw1 ⊢
  clear hw1
  obtain ⟨b, hbe⟩ : ∃ b, w.heap.size + 1 = b := ⟨_, rfl⟩
  obtain ⟨tx, htxe⟩ : ∃ tx, w.heap.size = tx := ⟨_, rfl⟩
  have htxb : tx < b := by omega
  rw [hbe] at hbu1 ⊢
  rw [htxe] at htx1 ⊢
  have HTXE := As.mk htxe
  have HBE := As.mk hbe
  have HBU1 := As.mk hbu1
  have HTX1 := As.mk htx1
  have HBW1 := As.mk hbw1
  clear htxe hbe hbu1 htx1 hbw1
  have hp1 := putL_pos base.size (by omega) (by omega)
  have hp2 := putL_pos text.size (by omega) (by omega)
  have hq1 := putL_len base.size
  have hq2 := putL_len text.size
  obtain ⟨p1, hpe1⟩ : ∃ p1, putL base.size = p1 := ⟨_, rfl⟩
  obtain ⟨p2, hpe2⟩ : ∃ p2, putL text.size = p2 := ⟨_, rfl⟩
  rw [hpe1] at hp1 hq1
  rw [hpe2] at hp2 hq2
  have HPE1 := As.mk hpe1
  have HPE2 := As.mk hpe2
  clear hpe1 hpe2
  refine (put_calls base.size _).mono ?_
  rintro e w2 ⟨v1, rfl, hR1, k1⟩
  rw [HPE1.out] at hR1
  have hbl := bul HBU1.out
  have HBU2 : As (Lib.IsBuilderF 42 5 b b [] w2) := ⟨keepB0 HBU1.out (fun k c T' z _ _ hk => (k1.block k (old_at hk)).trans hk)⟩
  have HTX2 : As (w2.heap[tx]? = some (.cells #[.string text] 9 (0, 0))) := ⟨(k1.block tx (by omega)).trans HTX1.out⟩
  have HBW2 : As (Below w.heap.size w w2) := ⟨HBW1.out.trans (k1.mono HBW1.out.size)⟩
  have hwr := write_at b [] v1 p1 w1.heap.size w2 HBU2.out hR1 hbl hp1 (by simp; omega)
  have HWR := As.mk hwr
  clear hwr hR1 k1
  go_wp2_with (fail)
  refine HWR.out.mono ?_
  rintro e w3 ⟨rfl, k1, k2, k3⟩
  have HBU3 : As (Lib.IsBuilderF 42 5 b b (cs p1) w3) := ⟨.inr (by simpa using k1)⟩
  have HTX3 : As (w3.heap[tx]? = some (.cells #[.string text] 9 (0, 0))) := ⟨(k2.block tx htxb).trans HTX2.out⟩
  have HBW3 : As (Below w.heap.size w w3) := ⟨HBW2.out.trans (k2.mono (by have := HBE.out; omega))⟩
  have htc3 : w3.cell? ⟨tx, 0, none⟩ = some (.string text) := by rw [Lib.cell_of_heap HTX3.out]; rfl
  clear k1 k2 k3 HWR
  go_wp2_with (fail)
  refine (put_calls text.size _).mono ?_
  rintro e w4 ⟨v2, rfl, hR2, k1⟩
  rw [HPE2.out] at hR2
  have hbl3 := bul HBU3.out
  have HBU4 : As (Lib.IsBuilderF 42 5 b b (cs p1) w4) := ⟨keepB0 HBU3.out (fun k c T' z _ _ hk => (k1.block k (old_at hk)).trans hk)⟩
  have HTX4 : As (w4.heap[tx]? = some (.cells #[.string text] 9 (0, 0))) := ⟨(k1.block tx (by omega)).trans HTX3.out⟩
  have HBW4 : As (Below w.heap.size w w4) := ⟨HBW3.out.trans (k1.mono HBW3.out.size)⟩
  have hwr := write_at b (cs p1) v2 p2 w3.heap.size w4 HBU4.out hR2 hbl3 hp2 (by simp; omega)
  have HWR := As.mk hwr
  clear hwr hR2 k1 htc3
  go_wp2_with (fail)
  refine HWR.out.mono ?_
  rintro e w5 ⟨rfl, k1, k2, k3⟩
  have HBU5 : As (Lib.IsBuilderF 42 5 b b (cs (p1 ++ p2)) w5) := ⟨.inr (by simpa [cs] using k1)⟩
  have HTX5 : As (w5.heap[tx]? = some (.cells #[.string text] 9 (0, 0))) := ⟨(k2.block tx htxb).trans HTX4.out⟩
  have HBW5 : As (Below w.heap.size w w5) := ⟨HBW4.out.trans (k2.mono (by have := HBE.out; omega))⟩
  clear k1 k2 k3 HWR
  have hbl5 := bul HBU5.out
  have hmk0 : Mk b w5.heap.size tx text w5 (p1 ++ p2) 0 (w5.alloc (.cells #[.int .i64 0] 3)) :=
    ⟨HBU5.out.alloc _, heap_new w5 _, (Lib.alloc_old w5 _ tx (by omega)).trans HTX5.out, ⟨htxb, hbl5⟩, (Below.refl b w5).alloc (Nat.le_of_lt hbl5) _⟩
  have hoc5 : (w5.alloc (.cells #[.int .i64 0] 3)).cell? ⟨w5.heap.size, 0, none⟩ = some (.int .i64 0) := by rw [Lib.cell_of_heap hmk0.ob_]; rfl
  have hof5 : (w5.alloc (.cells #[.int .i64 0] 3)).frozen? ⟨w5.heap.size, 0, none⟩ = false := Lib.frozen_of_heap hmk0.ob_ 0
  have HMK0 := As.mk hmk0
  clear hmk0
  go_wp2_with (fail)
  obtain ⟨ob, hob⟩ : ∃ ob, w5.heap.size = ob := ⟨_, rfl⟩
  obtain ⟨w6, hw6⟩ : ∃ w6, w5.alloc (.cells #[.int .i64 0] 3) = w6 := ⟨_, rfl⟩
  rw [hob, hw6] at HMK0
  rw [hob, hw6]
  clear hw6 hoc5 hof5 hbl hbl3
  have hT0 : mkGo (bytesOf base) (bytesOf text) (text.size + 1) 0 0 (p1 ++ p2) = T := by
    have := HT.out
    rw [mkL, bytesOf_length, bytesOf_length, HPE1.out, HPE2.out] at this
    exact this
  have HT0 := As.mk hT0
  clear hT0
  go_loopw [8] (fun v8 wr => ∃ (i off f : Nat) (acc : List Int), v8 = .int .i64 i ∧ i ≤ text.size ∧ off ≤ i ∧ acc.length ≤ 12 + 15 * off ∧ text.size - i < f ∧ As (mkGo (bytesOf base) (bytesOf text) f i off acc = T) ∧ As (Mk b ob tx text w5 acc off wr)) (fun v8 _ => text.size - (intOf v8).toNat)
  case atStart => exact ⟨0, 0, text.size + 1, p1 ++ p2, rfl, by omega, by omega, by simp; omega, by omega, HT0, HMK0⟩
  case round =>
    obtain ⟨i, off, f, acc, rfl, hi, hoi, hacc, hf, HTa, HMa⟩ := hrel
    have htc : wr.cell? ⟨tx, 0, none⟩ = some (.string text) := by rw [Lib.cell_of_heap HMa.out.tx_]; rfl
    obtain ⟨f1, rfl⟩ : ∃ f1, f = f1 + 1 := ⟨f - 1, by omega⟩
    by_cases hlt : i < text.size
    · have hle : (i : Int) ≤ text.size := by omega
      obtain ⟨p, hp⟩ : ∃ p, bestL (bytesOf base) ((bytesOf text).drop i) = p := ⟨_, rfl⟩
      have hple := bestL_le (bytesOf base) ((bytesOf text).drop i)
      rw [hp, bytesOf_length, List.length_drop, bytesOf_length] at hple
      have hmk := HTa.out
      rw [mkGo, if_neg (by rw [bytesOf_length]; omega), hp] at hmk
      have hbx : bytesOf (text.extract i text.size) = (bytesOf text).drop i := by
        rw [bytesOf_ext, List.take_of_length_le (by rw [List.length_drop, bytesOf_length]; omega)]
      have HP : As (bestL (bytesOf base) (bytesOf (text.extract i text.size)) = p) := ⟨by rw [hbx, hp]⟩
      have HMK := As.mk hmk
      clear hmk hp hbx
      obtain ⟨pa, pn⟩ := p
      dsimp only at HMK hple
      go_wp2_with (fail)
      refine (best_at base (text.extract i text.size) (pa, pn) _ (by omega) HP.out).mono ?_
      rintro e wa ⟨rfl, ka⟩
      have HMa2 : As (Mk b ob tx text w5 acc off wa) := ⟨HMa.out.alloc ka⟩
      clear ka
      by_cases hn5 : pn < 5
      · have hmk := HMK.out
        rw [if_pos hn5] at hmk
        have HMK2 := As.mk hmk
        clear hmk
        have e5 : (pn : Int) < 5 := by omega
        go_wp2_with (fail)
        exact ⟨⟨i + 1, off, f1, acc, by go_num, by omega, by omega, hacc, by omega, HMK2, HMa2⟩, by simp [intOf]; omega⟩
      · have hmk := HMK.out
        rw [if_neg hn5] at hmk
        have HMK2 := As.mk hmk
        clear hmk
        have e5 : decide ((pn : Int) < 5) = false := decide_eq_false (by omega)
        obtain ⟨I, hI⟩ : ∃ I, part text off i = I := ⟨_, rfl⟩
        have hIl : I.length ≤ i - off := by rw [← hI, part, List.length_take]; omega
        have hil := ins_len I
        have hfl := flush_calls b ob tx text w5 acc off i wa HMa2.out hoi (by omega) (by omega) (by omega)
        rw [hI] at hfl
        have hmk2 := HMK2.out
        rw [show ((bytesOf text).drop off).take (i - off) = I from hI] at hmk2
        have HMK3 := As.mk hmk2
        have HFL := As.mk hfl
        obtain ⟨J, hJ⟩ : ∃ J, acc ++ ins I = J := ⟨_, rfl⟩
        have hJl : J.length ≤ acc.length + 2 * (i - off) := by rw [← hJ, List.length_append]; omega
        rw [hJ] at HFL HMK3
        have ha1 := putL_len pa
        have ha2 := putL_len pn
        have ha3 := putL_pos pa (by omega) (by omega)
        have ha4 := putL_pos pn (by omega) (by omega)
        obtain ⟨q1, hq1e⟩ : ∃ q, putL pa = q := ⟨_, rfl⟩
        obtain ⟨q2, hq2e⟩ : ∃ q, putL pn = q := ⟨_, rfl⟩
        rw [hq1e] at HMK3 ha1 ha3
        rw [hq2e] at HMK3 ha2 ha4
        have HQ1 := As.mk hq1e
        have HQ2 := As.mk hq2e
        clear hI hfl hmk2 hJ hq1e hq2e HMK2 hil
        go_wp2_with (fail)
        refine HFL.out.mono ?_
        rintro e wb ⟨rfl, hm1⟩
        have hc1 := writeByte_k b b (cs J) 128 wb hm1.bu (by simp; omega) (Nat.le_of_lt (bul hm1.bu))
        have HM1 := As.mk hm1
        have HC1 := As.mk hc1
        clear hm1 hc1 HFL
        go_wp2_with (fail)
        refine HC1.out.mono ?_
        rintro e wc ⟨rfl, k1, k2, k3⟩
        have HM2 : As (Mk b ob tx text w5 (J ++ [128]) i wc) := ⟨HM1.out.wrote (by simpa [cs] using k1) k2 k3⟩
        clear k1 k2 k3 HC1 HM1
        go_wp2_with (fail)
        refine (put_calls pa _).mono ?_
        rintro e wd ⟨v3, rfl, hR3, k1⟩
        rw [HQ1.out] at hR3
        have HM3 : As (Mk b ob tx text w5 (J ++ [128]) i wd) := ⟨HM2.out.alloc k1⟩
        have hwr := write_at b (cs (J ++ [128])) v3 q1 wc.heap.size wd HM3.out.bu hR3 (bul HM2.out.bu) ha3 (by simp; omega)
        have HWR := As.mk hwr
        clear hwr hR3 k1 HM2
        go_wp2_with (fail)
        refine HWR.out.mono ?_
        rintro e we ⟨rfl, k1, k2, k3⟩
        have HM4 : As (Mk b ob tx text w5 (J ++ 128 :: q1) i we) := ⟨HM3.out.wrote (by simpa [cs] using k1) k2 k3⟩
        clear k1 k2 k3 HWR HM3
        go_wp2_with (fail)
        refine (put_calls pn _).mono ?_
        rintro e wf ⟨v4, rfl, hR4, k1⟩
        rw [HQ2.out] at hR4
        have HM5 : As (Mk b ob tx text w5 (J ++ 128 :: q1) i wf) := ⟨HM4.out.alloc k1⟩
        have hwr := write_at b (cs (J ++ 128 :: q1)) v4 q2 we.heap.size wf HM5.out.bu hR4 (bul HM4.out.bu) ha4 (by simp; omega)
        have HWR := As.mk hwr
        clear hwr hR4 k1 HM4
        go_wp2_with (fail)
        refine HWR.out.mono ?_
        rintro e wg ⟨rfl, k1, k2, k3⟩
        have hm6 : Mk b ob tx text w5 (J ++ 128 :: (q1 ++ q2)) i wg := HM5.out.wrote (by simpa [cs] using k1) k2 k3
        have hoc : wg.cell? ⟨ob, 0, none⟩ = some (.int .i64 i) := by rw [Lib.cell_of_heap hm6.ob_]; rfl
        have hof : wg.frozen? ⟨ob, 0, none⟩ = false := Lib.frozen_of_heap hm6.ob_ 0
        have hm7 := hm6.set (i + pn)
        have hcast : ((i + pn : Nat) : Int) = (i : Int) + pn := by omega
        rw [hcast] at hm7
        have HM7 := As.mk hm7
        clear hm6 hm7 k1 k2 k3 HWR HM5
        go_wp2_with (fail)
        exact ⟨⟨i + pn, i + pn, f1, _, by go_num, by omega, Nat.le_refl _, by simp; omega, by omega, HMK3, HM7⟩, by simp [intOf]; omega⟩
    · have hie : i = text.size := by omega
      subst hie
      have hmk := HTa.out
      rw [mkGo, if_pos (by rw [bytesOf_length]; exact Nat.le_refl _), bytesOf_length] at hmk
      have hfl := flush_calls b ob tx text w5 acc off text.size wr HMa.out hoi (Nat.le_refl _) (by omega) (by omega)
      rw [show acc ++ ins (part text off text.size) = T from hmk] at hfl
      have HFL := As.mk hfl
      clear hfl hmk
      go_wp2_with (fail)
      refine HFL.out.mono ?_
      rintro e wb ⟨rfl, hm1⟩
      have hT8 : ∀ x ∈ T, 0 ≤ x ∧ x < 256 := by rw [← HT.out]; exact mkL_8 base text
      have hbT := hm1.bu
      rw [cs_bytes T hT8] at hbT
      have hst := Try.Builder_String_any_k b b _ wb hbT (Nat.le_of_lt (bul hbT))
      have HST := As.mk hst
      have HBL := As.mk hm1.below
      clear hst hm1 hbT hT8
      go_wp2_with (fail)
      refine HST.out.mono ?_
      rintro e wz ⟨rfl, _, k2, _⟩
      have hfin : Below w.heap.size w wz := HBW5.out.trans ((HBL.out.trans k2).mono (by have := HBE.out; omega))
      have HF := As.mk hfin
      clear hfin k2
      go_wp2_with (fail)
      go_ret
      exact ⟨rfl, HF.out⟩
end Go.Proofs.Yticagpejankjcaa.Db
