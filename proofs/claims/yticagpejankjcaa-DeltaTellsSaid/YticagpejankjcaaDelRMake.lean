/- The document's Make: what it makes of any two texts is what the program's Make does. No condition but the texts' length. -/
import Derived.Test.YticagpejankjcaaDelLongest
namespace Go.Proofs.Yticagpejankjcaa.Db
set_option linter.unusedVariables false
set_option linter.unusedSimpArgs false
open Go.RowKit Go.Proofs.YticagpejankjcaaW.PrintWords Go.Proofs.YticagpejankjcaaW.PrintLast Go.Proofs.YticagpejankjcaaW.PrintMore

theorem text_cut (t y : ByteArray) (i j : Nat) (hy : t.extract i j = y) (h0 : i ≤ j) (h : j ≤ t.size) (z : Int) (hz : z = j) (wx : World) :
    (Instr.slice 9 (.string t) (some (.int .i64 (i : Int))) (some (.int .i64 z)) none).run Try.prog wx = .ok (.string y) wx := by
  subst hz
  have := run_slice_string (P := Try.prog) wx 9 t .i64 .i64 (i : Int) (j : Int) Try.underlying9 (by omega) (by omega) (by omega)
  rw [this, Int.toNat_natCast, Int.toNat_natCast, hy]
set_option maxHeartbeats 4000000 in
set_option maxRecDepth 100000 in
theorem rmake_calls (base text : ByteArray) (T : List Int) (w : World) (hb : base.size ≤ 1073741824) (ht : text.size ≤ 1073741824) (hT : mkL (bytesOf base) (bytesOf text) = T) :
    Calls Try.prog 13 #[.string base, .string text] w fun e w' => e = .returned (.string (strOfNums T)) ∧ Below w.heap.size w w' := by
  have hp1 := putL_pos base.size (by omega) (by omega)
  have hp2 := putL_pos text.size (by omega) (by omega)
  have hq1 := putL_len base.size
  have hq2 := putL_len text.size
  obtain ⟨p1, hpe1⟩ : ∃ p1, putL base.size = p1 := ⟨_, rfl⟩
  obtain ⟨p2, hpe2⟩ : ∃ p2, putL text.size = p2 := ⟨_, rfl⟩
  rw [hpe1] at hp1 hq1
  rw [hpe2] at hp2 hq2
  have HT : As (mkGo (bytesOf base) (bytesOf text) (text.size + 1) 0 0 (p1 ++ p2) = T) := ⟨by rw [← hT, mkL, bytesOf_length, bytesOf_length, hpe1, hpe2]⟩
  have HPE1 := As.mk hpe1
  have HPE2 := As.mk hpe2
  clear hpe1 hpe2 hT
  go_enter Try.func13, Try.ntmps13
  go_wp2_with (fail)
  refine (rput_calls base.size _).mono ?_
  rintro e w1 ⟨v1, rfl, hR, hb1⟩
  rw [HPE1.out] at hR
  have HR1 := As.mk hR
  have HB1 := As.mk hb1
  clear hR hb1
  go_wp2_with (fail)
  refine (rput_calls text.size _).mono ?_
  rintro e w2 ⟨v2, rfl, hR, hb2⟩
  rw [HPE2.out] at hR
  have HB2 : As (Below w.heap.size w w2) := ⟨HB1.out.trans (hb2.mono HB1.out.size)⟩
  have HR1' := As.mk (Kd.R_below HR1.out hb2)
  obtain ⟨A2, c2, rfl, hc2, hC2⟩ := Kd.R_reads hR
  have HC2 := As.mk hC2
  clear hR hb2 hC2 HR1 HB1
  go_wp2_with (first | ((with_reducible refine gate_builtin (b := .append) (xs := #[.tmp 12, .tmp 15]) rfl ?_); at_builtin; refine Kd.R_append_rows (Kd.int .u8) (Rr := (Kd.int .u8).K w2) (w0 := w) w.heap.size rfl (.tmp 12) (.tmp 15) 29 5 (.int .u8 0) 1 rfl Try.underlying29 Nl.info5 rfl (by decide) (by decide) v1 p1 p2 A2 p2.length c2 (fun _ => True) (fun _ => False) rfl rfl HR1'.out HC2.out (fun _ _ h => h) (fun _ hk => hk.elim) (fun _ _ => trivial) HB2.out HB2.out.size (by omega) ?_; intro v3 w3 ho hb1 hg hat; have HO := As.mk ho; have HB3 := As.mk hb1; clear ho hb1 hat hg))
  clear HC2 HR1' HB2
  go_loopw [5, 6, 7] (fun v5 v6 v7 wr => ∃ (i off f : Nat) (acc : List Int) (y : ByteArray), v6 = .string y ∧ v7 = .int .i64 i ∧ i ≤ text.size ∧ off ≤ i ∧ y.size = i - off ∧ acc.length ≤ 12 + 15 * off ∧ text.size - i < f ∧ As (bytesOf y = part text off i) ∧
    As (mkGo (bytesOf base) (bytesOf text) f i off acc = T) ∧ As (Kd.R (Kd.int .u8) 5 wr w.heap.size (fun _ => True) v5 acc) ∧ As (Below w.heap.size w wr)) (fun _ _ v7 _ => text.size - (intOf v7).toNat)
  case atStart => exact ⟨0, 0, text.size + 1, p1 ++ p2, ⟨#[]⟩, rfl, rfl, by omega, by omega, rfl, by simp; omega, by omega, ⟨by rw [part]; simp; rfl⟩, HT, HO, HB3⟩
  case round =>
    obtain ⟨i, off, f, acc, y, rfl, rfl, hi, hoi, hys, hacc, hf, HY, HTa, HO, HB⟩ := hrel
    obtain ⟨f1, rfl⟩ : ∃ f1, f = f1 + 1 := ⟨f - 1, by omega⟩
    by_cases hlt : i < text.size
    · have hle : (i : Int) ≤ text.size := by omega
      obtain ⟨p, hp⟩ : ∃ p, bestL (bytesOf base) ((bytesOf text).drop i) = p := ⟨_, rfl⟩
      have hple := bestL_le (bytesOf base) ((bytesOf text).drop i)
      rw [hp, bytesOf_length, List.length_drop, bytesOf_length] at hple
      have hmk := HTa.out
      rw [mkGo, if_neg (by rw [bytesOf_length]; omega), hp] at hmk
      have hbx : bytesOf (text.extract i text.size) = (bytesOf text).drop i := by
        rw [bytesOf_ext, List.take_of_length_le (by rw [List.length_drop, bytesOf_length]; omega)]
      have HP : As (bestL (bytesOf base) (bytesOf (text.extract i text.size)) = p) := ⟨by rw [hbx, hp]⟩
      have HMK := As.mk hmk
      clear hmk hp hbx HTa
      obtain ⟨pa, pn⟩ := p
      dsimp only at HMK hple
      go_wp2_with (fail)
      refine (longest_at base (text.extract i text.size) (pa, pn) _ (by omega) (by simp; omega) HP.out).mono ?_
      rintro e wa ⟨rfl, ka⟩
      have HBa : As (Below w.heap.size w wa) := ⟨HB.out.trans (ka.mono HB.out.size)⟩
      have HOa := As.mk (Kd.R_below HO.out ka)
      clear ka HO HB HP
      by_cases hn5 : pn < 5
      · have hmk := HMK.out
        rw [if_pos hn5] at hmk
        have HMK2 := As.mk hmk
        clear hmk HMK
        have e5 : decide ((pn : Int) < 5) = true := decide_eq_true (by omega)
        obtain ⟨z, hz⟩ : ∃ z, text.extract i (i + 1) = z := ⟨_, rfl⟩
        have hzs : z.size = 1 := by rw [← hz]; simp; omega
        have hsl := fun wx => text_cut text z i (i + 1) hz (by omega) (by omega) ((i : Int) + 1) (by omega) wx
        have hq : ¬ 9223372036854775807 < y.size + 1 := by omega
        have HYZ : As (bytesOf (y ++ z) = part text off (i + 1)) := ⟨by
          rw [bytesOf_append, HY.out, ← hz, bytesOf_ext, part, part, show i + 1 - i = 1 by omega, show i + 1 - off = (i - off) + 1 by omega, List.take_add, List.drop_drop, show off + (i - off) = i by omega]⟩
        have hyz : (y ++ z).size = i + 1 - off := by rw [ByteArray.size_append]; omega
        clear hz HY
        go_wp2_with (fail)
        exact ⟨⟨i + 1, off, f1, acc, y ++ z, rfl, by go_num, by omega, by omega, hyz, hacc, by omega, HYZ, HMK2, HOa, HBa⟩, by simp [intOf]; omega⟩
      · have hmk := HMK.out
        rw [if_neg hn5, show ((bytesOf text).drop off).take (i - off) = bytesOf y by rw [HY.out, part]] at hmk
        have e5 : decide ((pn : Int) < 5) = false := decide_eq_false (by omega)
        have hil := ins_len (bytesOf y)
        rw [bytesOf_length] at hil
        obtain ⟨I, hI⟩ : ∃ I, ins (bytesOf y) = I := ⟨_, rfl⟩
        have ha1 := putL_len pa
        have ha2 := putL_len pn
        obtain ⟨q1, hq1e⟩ : ∃ q, putL pa = q := ⟨_, rfl⟩
        obtain ⟨q2, hq2e⟩ : ∃ q, putL pn = q := ⟨_, rfl⟩
        rw [hI] at hil
        rw [hI, hq1e, hq2e] at hmk
        rw [hq1e] at ha1
        rw [hq2e] at ha2
        have HMK2 := As.mk hmk
        have HI := As.mk hI
        have HQ1 := As.mk hq1e
        have HQ2 := As.mk hq2e
        clear hmk HMK hI hq1e hq2e HY
        go_wp2_with (fail)
        refine (inserts_calls y I _ (by omega) HI.out).mono ?_
        rintro e wb ⟨vb, rfl, hR, kb⟩
        have HBb : As (Below w.heap.size w wb) := ⟨HBa.out.trans (kb.mono HBa.out.size)⟩
        have HOb := As.mk (Kd.R_below HOa.out kb)
        obtain ⟨Ab, cb, rfl, hcb, hCb⟩ := Kd.R_reads hR
        have HCb := As.mk hCb
        clear hR kb hCb HBa HOa
        have hl1 : (acc.length + I.length) * 1 ≤ 140737488355328 := by omega
        have hl2 : ((acc ++ I).length + 1) * 1 ≤ 140737488355328 := by rw [List.length_append]; omega
        go_wp2_with (first | ((with_reducible refine gate_builtin (b := .append) (xs := #[.tmp 40, .tmp 42]) rfl ?_); at_builtin; refine Kd.R_append_rows (Kd.int .u8) (Rr := (Kd.int .u8).K wb) (w0 := w) w.heap.size rfl (.tmp 40) (.tmp 42) 29 5 (.int .u8 0) 1 rfl Try.underlying29 Nl.info5 rfl (by decide) (by decide) u5 acc I Ab I.length cb (fun _ => True) (fun _ => False) rfl rfl HOb.out HCb.out (fun _ _ h => h) (fun _ hk => hk.elim) (fun _ _ => trivial) HBb.out HBb.out.size (hl1) ?_; intro vc wc ho hb1 hg hat; have HOc := As.mk ho; have HBc := As.mk hb1; clear ho hb1 hat hg) | ((with_reducible refine gate_builtin (b := .append) (xs := #[.tmp 44, .tmp 45]) rfl ?_); at_builtin; refine Kd.R_append (Kd.int .u8) (w0 := w) (W := wc) w.heap.size rfl (.tmp 44) (.tmp 45) 29 5 (.int .u8 0) 1 rfl Try.underlying29 Nl.info5 rfl (by decide) (by decide) vc (acc ++ I) 128 [.int .u8 128] (fun _ => True) (fun _ => False) rfl rfl rfl (fun _ hk => hk.elim) (fun _ _ => trivial) HOc.out HBc.out HBc.out.size (hl2) ?_; intro vd wd ho hb1 hg hat; have HOd := As.mk ho; have HBd := As.mk hb1; clear ho hb1 hat hg))
        clear HCb HOb HBb
        refine (rput_calls pa _).mono ?_
        rintro e we ⟨ve, rfl, hR, ke⟩
        rw [HQ1.out] at hR
        have HBe : As (Below w.heap.size w we) := ⟨HBd.out.trans (ke.mono HBd.out.size)⟩
        have HOe := As.mk (Kd.R_below HOd.out ke)
        obtain ⟨Ae, ce, rfl, hce, hCe⟩ := Kd.R_reads hR
        have HCe := As.mk hCe
        clear hR ke hCe HBd HOd HOc HBc
        have hl3 : ((acc ++ I ++ [128]).length + q1.length) * 1 ≤ 140737488355328 := by simp only [List.length_append, List.length_singleton]; omega
        go_wp2_with (first | ((with_reducible refine gate_builtin (b := .append) (xs := #[.tmp 47, .tmp 49]) rfl ?_); at_builtin; refine Kd.R_append_rows (Kd.int .u8) (Rr := (Kd.int .u8).K we) (w0 := w) w.heap.size rfl (.tmp 47) (.tmp 49) 29 5 (.int .u8 0) 1 rfl Try.underlying29 Nl.info5 rfl (by decide) (by decide) vd (acc ++ I ++ [128]) q1 Ae q1.length ce (fun _ => True) (fun _ => False) rfl rfl HOe.out HCe.out (fun _ _ h => h) (fun _ hk => hk.elim) (fun _ _ => trivial) HBe.out HBe.out.size (hl3) ?_; intro vf wf ho hb1 hg hat; have HOf := As.mk ho; have HBf := As.mk hb1; clear ho hb1 hat hg))
        refine (rput_calls pn _).mono ?_
        rintro e wg ⟨vg, rfl, hR, kg⟩
        rw [HQ2.out] at hR
        have HBg : As (Below w.heap.size w wg) := ⟨HBf.out.trans (kg.mono HBf.out.size)⟩
        have HOg := As.mk (Kd.R_below HOf.out kg)
        obtain ⟨Ag, cg, rfl, hcg, hCg⟩ := Kd.R_reads hR
        have HCg := As.mk hCg
        clear hR kg hCg HBf HOf HCe HOe HBe
        have hl4 : ((acc ++ I ++ [128] ++ q1).length + q2.length) * 1 ≤ 140737488355328 := by simp only [List.length_append, List.length_singleton]; omega
        have hl5 : (acc ++ I ++ [128] ++ q1 ++ q2).length ≤ 12 + 15 * (i + pn) := by simp only [List.length_append, List.length_singleton]; omega
        have HMK3 : As (mkGo (bytesOf base) (bytesOf text) f1 (i + pn) (i + pn) (acc ++ I ++ [128] ++ q1 ++ q2) = T) := ⟨by have := HMK2.out; simpa using this⟩
        have HYE : As (bytesOf ⟨#[]⟩ = part text (i + pn) (i + pn)) := ⟨by rw [part, Nat.sub_self, List.take_zero]; rfl⟩
        go_wp2_with (first | ((with_reducible refine gate_builtin (b := .append) (xs := #[.tmp 51, .tmp 53]) rfl ?_); at_builtin; refine Kd.R_append_rows (Kd.int .u8) (Rr := (Kd.int .u8).K wg) (w0 := w) w.heap.size rfl (.tmp 51) (.tmp 53) 29 5 (.int .u8 0) 1 rfl Try.underlying29 Nl.info5 rfl (by decide) (by decide) vf (acc ++ I ++ [128] ++ q1) q2 Ag q2.length cg (fun _ => True) (fun _ => False) rfl rfl HOg.out HCg.out (fun _ _ h => h) (fun _ hk => hk.elim) (fun _ _ => trivial) HBg.out HBg.out.size (hl4) ?_; intro vh wh ho hb1 hg hat; have HOh := As.mk ho; have HBh := As.mk hb1; clear ho hb1 hat hg))
        exact ⟨⟨i + pn, i + pn, f1, acc ++ I ++ [128] ++ q1 ++ q2, ⟨#[]⟩, rfl, by go_num, by omega, by omega, by rw [Nat.sub_self]; rfl, hl5, by omega, HYE, HMK3, HOh, HBh⟩, by simp [intOf]; omega⟩
    · have hie : i = text.size := by omega
      have hle : ¬ (i : Int) < text.size := by omega
      have hmk := HTa.out
      rw [mkGo, if_pos (by rw [bytesOf_length]; omega), bytesOf_length, show ((bytesOf text).drop off).take (text.size - off) = bytesOf y by rw [HY.out, part, hie]] at hmk
      have hil := ins_len (bytesOf y)
      rw [bytesOf_length] at hil
      obtain ⟨I, hI⟩ : ∃ I, ins (bytesOf y) = I := ⟨_, rfl⟩
      rw [hI] at hil hmk
      have HMK2 := As.mk hmk
      have HI := As.mk hI
      clear hmk HTa hI HY
      go_wp2_with (fail)
      refine (inserts_calls y I _ (by omega) HI.out).mono ?_
      rintro e wb ⟨vb, rfl, hR, kb⟩
      have HBb : As (Below w.heap.size w wb) := ⟨HB.out.trans (kb.mono HB.out.size)⟩
      have HOb := As.mk (Kd.R_below HO.out kb)
      obtain ⟨Ab, cb, rfl, hcb, hCb⟩ := Kd.R_reads hR
      have HCb := As.mk hCb
      clear hR kb hCb HB HO
      have hl1 : (acc.length + I.length) * 1 ≤ 140737488355328 := by omega
      have hTl : T.length = acc.length + I.length := by rw [← HMK2.out, List.length_append]
      go_wp2_with (first | ((with_reducible refine gate_builtin (b := .append) (xs := #[.tmp 58, .tmp 60]) rfl ?_); at_builtin; refine Kd.R_append_rows (Kd.int .u8) (Rr := (Kd.int .u8).K wb) (w0 := w) w.heap.size rfl (.tmp 58) (.tmp 60) 29 5 (.int .u8 0) 1 rfl Try.underlying29 Nl.info5 rfl (by decide) (by decide) u5 acc I Ab I.length cb (fun _ => True) (fun _ => False) rfl rfl HOb.out HCb.out (fun _ _ h => h) (fun _ hk => hk.elim) (fun _ _ => trivial) HBb.out HBb.out.size (hl1) ?_; intro vc wc ho hb1 hg hat; have HOc := As.mk ho; have HBc := As.mk hb1; clear ho hb1 hat hg; obtain ⟨Ac, cc, rfl, hcc, hCc⟩ := Kd.R_reads HOc.out; have hcv := Kd.C_string (P := Try.prog) (A := Ac) (c := cc) Try.underlying29 Try.underlying5 Try.underlying9 hCc; rw [HMK2.out, hTl] at hcv))
      go_ret
      exact ⟨rfl, HBc.out⟩
end Go.Proofs.Yticagpejankjcaa.Db
