/- The document's Apply: what it answers at any base and any delta. No condition but the texts' length. -/
import Derived.Test.YticagpejankjcaaDelFin
namespace Go.Proofs.Yticagpejankjcaa.Db
set_option linter.unusedVariables false
set_option linter.unusedSimpArgs false
open Go.RowKit Go.Proofs.YticagpejankjcaaW.PrintWords Go.Proofs.YticagpejankjcaaW.PrintLast Go.Proofs.YticagpejankjcaaW.PrintMore

theorem info5e : ∃ i : TypeInfo, Try.prog.info? 5 = some i ∧ i.size = 1 := by
  have h := Nl.info5
  obtain ⟨i, hi, hz⟩ := Option.map_eq_some_iff.1 h
  simp only [Prod.mk.injEq] at hz
  exact ⟨i, hi, hz.2.1⟩
theorem slice_drop (kl : IntKind) (A : Option Addr) (n c : Nat) (L : List Int) (j : Int) (h0 : 0 ≤ j) (hn : L.length = n) (hj : j ≤ n) (hc : n ≤ c) : ∃ (A' : Option Addr) (m c' : Nat) (r : List Int), L.drop j.toNat = r ∧ r.length = m ∧ m ≤ c' ∧
    (∀ W : World, (Instr.slice 29 (.slice A n c) (some (.int kl j)) none none).run Try.prog W = .ok (.slice A' m c') W) ∧ (∀ w, (Kd.int .u8).C w A n L → (Kd.int .u8).C w A' m r) := by
  obtain ⟨i, hi, hs⟩ := info5e
  subst hn
  obtain ⟨A', h1, h2, h3⟩ := print_drop_of (P := Try.prog) (Value.int .u8) (0 : Int) 29 5 kl Try.underlying29 hi hs A c L j h0 hj hc
  exact ⟨A', _, _, _, rfl, rfl, h3, h1, fun w h => Kd.C_of_reads (h2 w (Kd.reads_of_C (d := (0 : Int)) h))⟩
theorem slice_take (kl : IntKind) (A : Option Addr) (n c : Nat) (L : List Int) (j : Int) (h0 : 0 ≤ j) (hn : L.length = n) (hj : j ≤ n) (hc : n ≤ c) : ∃ (m : Nat) (r : List Int), L.take j.toNat = r ∧ r.length = m ∧ m ≤ c ∧
    (∀ W : World, (Instr.slice 29 (.slice A n c) none (some (.int kl j)) none).run Try.prog W = .ok (.slice A m c) W) ∧ (∀ w, (Kd.int .u8).C w A n L → (Kd.int .u8).C w A m r) := by
  obtain ⟨i, hi, hs⟩ := info5e
  subst hn
  obtain ⟨h1, h2, h3⟩ := print_take_of (P := Try.prog) (Value.int .u8) (0 : Int) 29 5 kl Try.underlying29 hi hs A c L j h0 hj hc
  exact ⟨_, _, rfl, rfl, h3, h1, fun w h => Kd.C_of_reads (h2 w (Kd.reads_of_C (d := (0 : Int)) h))⟩
theorem rget_n (A : Option Addr) (c n : Nat) (l : List Int) (r : Option (Int × Nat)) (w : World) (hn : l.length = n) (hC : (Kd.int .u8).C w A n l) (hc : n ≤ c) (h8 : ∀ x ∈ l, 0 ≤ x ∧ x < 256) (hr : getR l 0 0 = r) :
    Calls Try.prog 21 #[.slice A n c] w fun e w' => e = .returned (.tuple #[.int .i64 (tri r).1, .int .i64 (tri r).2.1, .bool (tri r).2.2]) ∧ Below w.heap.size w w' :=
  rget_at A c n l r w hn (by rw [hn]; exact hC) hc h8 hr
theorem text_cut2 (t y : ByteArray) (i n : Int) (hy : t.extract i.toNat (i + n).toNat = y) (h0 : 0 ≤ n) (h1 : 0 ≤ i) (h : i + n ≤ t.size) (hh : 0 ≤ i + n) (wx : World) :
    (Instr.slice 9 (.string t) (some (.int .i64 i)) (some (.int .i64 (i + n))) none).run Try.prog wx = .ok (.string y) wx := by
  have := run_slice_string (P := Try.prog) wx 9 t .i64 .i64 i (i + n) Try.underlying9 h1 (by omega) h
  rw [this, hy]
def lenOf : Value → Nat
  | .slice _ n _ => n
  | _ => 0
theorem drop_8 {L : List Int} (h : ∀ x ∈ L, 0 ≤ x ∧ x < 256) {k : Nat} {r : List Int} (hr : L.drop k = r) : ∀ x ∈ r, 0 ≤ x ∧ x < 256 := fun x hx => h x (List.mem_of_mem_drop (by rw [hr]; exact hx))
set_option maxHeartbeats 4000000 in
set_option maxRecDepth 100000 in
theorem rapply_calls (base d : ByteArray) (F : Option (List Int)) (w : World) (hbs : base.size ≤ 1073741824) (hds : d.size ≤ 1073741824) (hF : rapp base (bytesOf d) = F) :
    Calls Try.prog 11 #[.string base, .string d] w fun e w' => e = .returned (.tuple #[.string ((F.map strOfNums).getD ⟨#[]⟩), .int .i64 (if F.isSome then 0 else 3)]) ∧ Below w.heap.size w w' := by
  obtain ⟨D, hD⟩ : ∃ D, bytesOf d = D := ⟨_, rfl⟩
  obtain ⟨wi, hwi⟩ : ∃ wi, Lib.bytesWorld w 5 d = wi := ⟨_, rfl⟩
  have hcb := fun w => Lib.run_convert_string_bytes (P := Try.prog) w 9 29 5 d Try.underlying9 Try.underlying29 Try.underlying5
  have hC0 := C_bytes w d (by omega)
  have hB0 := below_bytes w d
  have hDl : D.length = d.size := by rw [← hD, bytesOf_length]
  have h80 : ∀ x ∈ D, 0 ≤ x ∧ x < 256 := by rw [← hD]; exact bytesOf_8 d
  rw [hD] at hF hC0
  rw [hDl, hwi] at hC0
  rw [hwi] at hB0
  obtain ⟨cp, hcp⟩ : ∃ cp, grownCap w d.size 0 5 = cp := ⟨_, rfl⟩
  have hcl : d.size ≤ cp := by rw [← hcp]; exact le_grown w d.size
  have HF := As.mk hF
  have HC0 := As.mk hC0
  have HB0 := As.mk hB0
  have H80 := As.mk h80
  have HWI := As.mk hwi
  have HCP := As.mk hcp
  clear hF hC0 hB0 h80 hwi hcp hD
  go_enter Try.func11, Try.ntmps11
  go_wp2_with (fail)
  rw [HWI.out, HCP.out]
  clear HWI HCP hcb
  obtain ⟨A0, hA0⟩ : ∃ A0 : Option Addr, some ⟨w.heap.size, 0, none⟩ = A0 := ⟨_, rfl⟩
  rw [hA0] at HC0 ⊢
  clear hA0
  rcases h1 : getR D 0 0 with _ | ⟨a, k⟩
  · have hF := HF.out
    rw [rapp_no1 base D h1] at hF
    subst hF
    clear HF
    refine (rget_n A0 cp d.size D none _ hDl HC0.out hcl H80.out h1).mono ?_
    rintro e w2 ⟨rfl, hb2⟩
    have HB2 : As (Below w.heap.size w w2) := ⟨HB0.out.trans (hb2.mono HB0.out.size)⟩
    clear hb2
    simp only [tri]
    go_wp2_with (fail)
    go_ret2
    exact ⟨rfl, HB2.out⟩
  · refine (rget_n A0 cp d.size D (some (a, k)) _ hDl HC0.out hcl H80.out h1).mono ?_
    rintro e w2 ⟨rfl, hb2⟩
    have HB2 : As (Below w.heap.size w w2) := ⟨HB0.out.trans (hb2.mono HB0.out.size)⟩
    have HC2 := As.mk (Kd.C_below HC0.out hb2)
    clear hb2 HC0 HB0
    simp only [tri]
    obtain ⟨g1, g2, g3, g4, g5⟩ := get_back D a k H80.out h1
    clear g3
    by_cases hab : a = base.size
    · subst hab
      obtain ⟨A1, n1, c1, D1, hD1, hDl1, hc1, hs1, hC1⟩ := slice_drop .i64 A0 d.size cp D (k : Int) (by omega) hDl (by omega) hcl
      rw [Int.toNat_natCast] at hD1
      have HC3 := As.mk (hC1 w2 HC2.out)
      have H81 := As.mk (drop_8 H80.out hD1)
      have hn1 : n1 ≤ 1073741824 := by rw [← hDl1, ← hD1, List.length_drop]; omega
      clear hC1 HC2
      go_wp2_with (fail)
      rcases h2 : getR D1 0 0 with _ | ⟨tz, j⟩
      · have hF := HF.out
        rw [rapp_no3 base D _ k h1 (by rw [hD1]; exact h2)] at hF
        subst hF
        clear HF
        refine (rget_n A1 c1 n1 D1 none _ hDl1 HC3.out hc1 H81.out h2).mono ?_
        rintro e w3 ⟨rfl, hb3⟩
        have HB3 : As (Below w.heap.size w w3) := ⟨HB2.out.trans (hb3.mono HB2.out.size)⟩
        clear hb3 HC3
        simp only [tri]
        go_wp2_with (fail)
        go_ret2
        exact ⟨rfl, HB3.out⟩
      · refine (rget_n A1 c1 n1 D1 (some (tz, j)) _ hDl1 HC3.out hc1 H81.out h2).mono ?_
        rintro e w3 ⟨rfl, hb3⟩
        have HB3 : As (Below w.heap.size w w3) := ⟨HB2.out.trans (hb3.mono HB2.out.size)⟩
        have HC4 := As.mk (Kd.C_below HC3.out hb3)
        clear hb3 HC3 HB2
        simp only [tri]
        obtain ⟨q1, q2, q3, q4, q5⟩ := get_back D1 tz j H81.out h2
        clear q3
        obtain ⟨A2, n2, c2, D2, hD2, hDl2, hc2, hs2, hC2⟩ := slice_drop .i64 A1 n1 c1 D1 (j : Int) (by omega) hDl1 (by omega) hc1
        rw [Int.toNat_natCast] at hD2
        have HC5 := As.mk (hC2 w3 HC4.out)
        have H82 := As.mk (drop_8 H81.out hD2)
        have hn2 : n2 ≤ 1073741824 := by rw [← hDl2, ← hD2, List.length_drop]; omega
        have hF := HF.out
        rw [rapp_go base D _ tz k j h1 rfl (by rw [hD1]; exact h2), hD1, hD2] at hF
        have HF2 := As.mk hF
        clear hC2 HC4 hF HF h1 h2 hD1 hD2 H80 H81
        go_wp2_with (fail)
        clear hs1 hs2
        go_loopw [6, 11] (fun v6 v11 wr => ∃ (A Ao : Option Addr) (n c no co : Nat) (L out : List Int), v6 = .slice A n c ∧ v11 = .slice Ao no co ∧ L.length = n ∧ n ≤ c ∧ n ≤ 1073741824 ∧ out.length = no ∧ (no : Int) ≤ tz ∧ As (∀ x ∈ L, 0 ≤ x ∧ x < 256) ∧ As ((Kd.int .u8).C w3 A n L) ∧ As (fin base tz L out = F) ∧
          As (Kd.R (Kd.int .u8) 5 wr w3.heap.size (fun _ => True) (.slice Ao no co) out) ∧ As (Below w3.heap.size w3 wr)) (fun v6 _ _ => lenOf v6)
        case atStart => exact ⟨A2, none, n2, c2, 0, 0, D2, [], rfl, rfl, hDl2, hc2, hn2, rfl, by omega, H82, HC5, HF2, ⟨Kd.R_nil _ _ _ _ _⟩, ⟨Below.refl _ _⟩⟩
        case round =>
          clear HC5 HF2 H82 hDl2 hc2 hn2 hDl1 hc1 hn1
          obtain ⟨A, Ao, n, c, no, co, L, out, rfl, rfl, hLn, hnc, hnz, hon, hoz, H8, HC, HF, HO, HB⟩ := hrel
          have HBw : As (Below w.heap.size w wr) := ⟨HB3.out.trans (HB.out.mono HB3.out.size)⟩
          rcases L with _ | ⟨x, L1⟩
          · have hn0 : n = 0 := by rw [← hLn]; rfl
            subst hn0
            have hF := HF.out
            rw [fin_nil, hon] at hF
            by_cases ho : (no : Int) = tz
            · rw [if_pos ho] at hF
              subst hF
              have e1 : ((no : Int) == tz) = true := by rw [beq_iff_eq]; exact ho
              have hcv := Kd.C_string (P := Try.prog) (A := Ao) (c := co) Try.underlying29 Try.underlying5 Try.underlying9 (Kd.R_reads' HO.out).2.2
              rw [hon] at hcv
              clear HF HC ho
              go_wp2_with (fail)
              go_ret2
              exact ⟨rfl, HBw.out⟩
            · rw [if_neg ho] at hF
              subst hF
              have e1 : ((no : Int) == tz) = false := by rw [beq_eq_false_iff_ne]; exact ho
              clear HF HC ho
              go_wp2_with (fail)
              go_ret2
              exact ⟨rfl, HBw.out⟩
          · have hn0 : 0 < n := by rw [← hLn]; exact Nat.succ_pos _
            have hx8 := H8.out x List.mem_cons_self
            obtain ⟨ad, rfl, hcell⟩ := Kd.at_int (Kd.C_below HC.out HB.out) 0 (by decide) (by omega)
            replace hcell : wr.cell? (ad.add 0) = some (.int .u8 x) := hcell
            obtain ⟨A3, m, c3, L3, hL3, hL3l, hc3, hs3, hC3⟩ := slice_drop .i64 (some ad) n c (x :: L1) 1 (by decide) hLn (by omega) hnc
            obtain rfl : L1 = L3 := by rw [← hL3]; rfl
            have HC3 := As.mk (hC3 w3 HC.out)
            have H83 : As (∀ x ∈ L1, 0 ≤ x ∧ x < 256) := ⟨fun x hx => H8.out x (List.mem_cons_of_mem _ hx)⟩
            have HNM : As (n = m + 1) := ⟨by rw [← hLn, ← hL3l]; rfl⟩
            have hcell2 : wr.cell? ad = some (.int .u8 x) := by rw [← hcell]; simp [Addr.add]
            have hmn : m < n := by have := HNM.out; omega
            clear hL3 hC3 HC H8
            by_cases h128 : x = 128
            · subst h128
              rcases g1e : getR L1 0 0 with _ | ⟨at_, i⟩
              · have hF := HF.out
                rw [fin_no1 base tz L1 out g1e] at hF
                subst hF
                clear HF
                have hCr := Kd.C_below HC3.out HB.out
                have HCr := As.mk hCr
                clear hCr
                go_wp2_with (fail)
                refine (rget_n A3 c3 m L1 none _ hL3l HCr.out hc3 H83.out g1e).mono ?_
                rintro e w4 ⟨rfl, hb4⟩
                have HB4 : As (Below w.heap.size w w4) := ⟨HBw.out.trans (hb4.mono HBw.out.size)⟩
                clear hb4
                simp only [tri]
                go_wp2_with (fail)
                go_ret2
                exact ⟨rfl, HB4.out⟩
              · obtain ⟨g5, g6, g7, g8, g9⟩ := get_back L1 at_ i H83.out g1e
                clear g7
                obtain ⟨A4, m4, c4, L4, hL4, hL4l, hc4, hs4, hC4⟩ := slice_drop .i64 A3 m c3 L1 (i : Int) (by omega) hL3l (by omega) hc3
                rw [Int.toNat_natCast] at hL4
                have HC4 := As.mk (hC4 w3 HC3.out)
                have H84 := As.mk (drop_8 H83.out hL4)
                have hm4 : m4 ≤ m := by rw [← hL4l, ← hL4, List.length_drop]; omega
                have HCr := As.mk (Kd.C_below HC3.out HB.out)
                have HG1 := As.mk g1e
                clear hC4 g1e
                go_wp2_with (fail)
                refine (rget_n A3 c3 m L1 (some (at_, i)) _ hL3l HCr.out hc3 H83.out HG1.out).mono ?_
                rintro e w4 ⟨rfl, hb4⟩
                have HB4 : As (Below w3.heap.size w3 w4) := ⟨HB.out.trans (hb4.mono HB.out.size)⟩
                have HO4 := As.mk (Kd.R_below HO.out hb4)
                have HCr4 := As.mk (Kd.C_below HC4.out HB4.out)
                have HBw4 : As (Below w.heap.size w w4) := ⟨HBw.out.trans (hb4.mono HBw.out.size)⟩
                clear hb4 HB HO HBw HCr HC3 hcell hcell2
                simp only [tri]
                rcases g2e : getR L4 0 0 with _ | ⟨nn, jj⟩
                · have hF := HF.out
                  rw [fin_no2 base tz L1 out at_ i HG1.out (by rw [hL4]; exact g2e)] at hF
                  subst hF
                  clear HF
                  go_wp2_with (fail)
                  refine (rget_n A4 c4 m4 L4 none _ hL4l HCr4.out hc4 H84.out g2e).mono ?_
                  rintro e w5 ⟨rfl, hb5⟩
                  have HB5 : As (Below w.heap.size w w5) := ⟨HBw4.out.trans (hb5.mono HBw4.out.size)⟩
                  clear hb5
                  simp only [tri]
                  go_wp2_with (fail)
                  go_ret2
                  exact ⟨rfl, HB5.out⟩
                · obtain ⟨k5, k6, k7, k8, k9⟩ := get_back L4 nn jj H84.out g2e
                  clear k7
                  have h2e : getR (L1.drop i) 0 0 = some (nn, jj) := by rw [hL4]; exact g2e
                  by_cases hbad : nn < 1 ∨ base.size < at_ ∨ base.size - at_ < nn
                  · have hF := HF.out
                    rw [fin_no3 base tz L1 out at_ nn i jj HG1.out h2e hbad] at hF
                    subst hF
                    clear HF
                    have HG2 := As.mk g2e
                    clear g2e h2e hL4
                    rcases (show nn < 1 ∨ (¬ nn < 1 ∧ base.size < at_) ∨ (¬ nn < 1 ∧ ¬ base.size < at_ ∧ base.size - at_ < nn) by omega) with b1 | ⟨b1, b2⟩ | ⟨b1, b2, b3⟩
                    all_goals
                      clear hbad
                      go_wp2_with (fail)
                      refine (rget_n A4 c4 m4 L4 (some (nn, jj)) _ hL4l HCr4.out hc4 H84.out HG2.out).mono ?_
                      rintro e w5 ⟨rfl, hb5⟩
                      have HB5 : As (Below w.heap.size w w5) := ⟨HBw4.out.trans (hb5.mono HBw4.out.size)⟩
                      clear hb5
                      simp only [tri]
                    · have b1' : decide (nn < 1) = true := decide_eq_true (by omega)
                      go_wp2_with (fail)
                      go_ret2
                      exact ⟨rfl, HB5.out⟩
                    · have b1' : decide (nn < 1) = false := decide_eq_false (by omega)
                      have b2' : decide ((base.size : Int) < at_) = true := decide_eq_true (by omega)
                      go_wp2_with (fail)
                      go_ret2
                      exact ⟨rfl, HB5.out⟩
                    · have b1' : decide (nn < 1) = false := decide_eq_false (by omega)
                      have b2' : decide ((base.size : Int) < at_) = false := decide_eq_false (by omega)
                      have b3' : decide ((base.size : Int) - at_ < nn) = true := decide_eq_true (by omega)
                      go_wp2_with (fail)
                      go_ret2
                      exact ⟨rfl, HB5.out⟩
                  · have hF := HF.out
                    rw [fin_copy base tz L1 out at_ nn i jj HG1.out h2e hbad, hL4] at hF
                    rw [not_or, not_or] at hbad
                    obtain ⟨b1, b2, b3⟩ := hbad
                    obtain ⟨y, hy⟩ : ∃ y, base.extract at_.toNat (at_ + nn).toNat = y := ⟨_, rfl⟩
                    have hys : (y.size : Int) = nn := by rw [← hy, ByteArray.size_extract]; omega
                    rw [hy] at hF
                    have b1' : decide (nn < 1) = false := decide_eq_false b1
                    have b2' : decide ((base.size : Int) < at_) = false := decide_eq_false b2
                    have b3' : decide ((base.size : Int) - at_ < nn) = false := decide_eq_false b3
                    have hol : ((out ++ bytesOf y).length : Int) = no + nn := by rw [List.length_append, hon, bytesOf_length]; omega
                    have HG2 := As.mk g2e
                    have HYS := As.mk hys
                    clear g2e h2e hL4 hys
                    by_cases htz : tz - no < nn
                    · rw [fin_over base tz _ _ (by rw [hol]; omega)] at hF
                      subst hF
                      have b4' : decide (tz - no < nn) = true := decide_eq_true htz
                      clear HF hol
                      go_wp2_with (fail)
                      refine (rget_n A4 c4 m4 L4 (some (nn, jj)) _ hL4l HCr4.out hc4 H84.out HG2.out).mono ?_
                      rintro e w5 ⟨rfl, hb5⟩
                      have HB5 : As (Below w.heap.size w w5) := ⟨HBw4.out.trans (hb5.mono HBw4.out.size)⟩
                      clear hb5
                      simp only [tri]
                      go_wp2_with (fail)
                      go_ret2
                      exact ⟨rfl, HB5.out⟩
                    · have b4' : decide (tz - no < nn) = false := decide_eq_false htz
                      obtain ⟨A6, m6, c6, L6, hL6, hL6l, hc6, hs6, hC6⟩ := slice_drop .i64 A4 m4 c4 L4 (jj : Int) (by omega) hL4l (by omega) hc4
                      rw [Int.toNat_natCast] at hL6
                      rw [hL6] at hF
                      have HC6 := As.mk (hC6 w3 HC4.out)
                      have H86 := As.mk (drop_8 H84.out hL6)
                      have hm6 : m6 ≤ m4 := by rw [← hL6l, ← hL6, List.length_drop]; omega
                      have HF2 := As.mk hF
                      have hsy := fun wx => text_cut2 base y at_ nn hy k8 (by omega) (by omega) (by omega) wx
                      have HOL := As.mk hol
                      clear hC6 HF hF hy hL6 hol
                      go_wp2_with (fail)
                      refine (rget_n A4 c4 m4 L4 (some (nn, jj)) _ hL4l HCr4.out hc4 H84.out HG2.out).mono ?_
                      rintro e w5 ⟨rfl, hb5⟩
                      have HB5 : As (Below w3.heap.size w3 w5) := ⟨HB4.out.trans (hb5.mono HB4.out.size)⟩
                      have HO5 := As.mk (Kd.R_below HO4.out hb5)
                      clear hb5 HO4 HB4
                      simp only [tri]
                      have hll : out.length + y.size ≤ 140737488355328 := by have := HYS.out; omega
                      go_wp2_with (first | ((with_reducible refine gate_builtin (b := .append) (xs := #[.tmp 135, .tmp 141]) rfl ?_); at_builtin; refine print_append_str (w0 := w3) w3.heap.size rfl (.tmp 135) (.tmp 141) 29 9 5 rfl Try.underlying29 Try.underlying9 Nl.info5 (.slice Ao no co) out y rfl rfl (Kd.own_of_R HO5.out) HB5.out HB5.out.size hll ?_; intro vp wp ho hb1 hg; have HOp := As.mk (Kd.R_of_own (enc := Value.int .u8) (h1 := fun _ => rfl) (ok := fun _ => True) ho (fun _ _ => trivial)); have HBp := As.mk hb1; clear ho hb1 hg))
                      obtain ⟨Ap, cq, rfl, hcq, _⟩ := Kd.R_reads HOp.out
                      exact ⟨⟨A6, Ap, m6, c6, _, cq, L6, out ++ bytesOf y, rfl, rfl, hL6l, hc6, by omega, rfl, by rw [HOL.out]; omega, H86, HC6, HF2, HOp, HBp⟩, by simp only [lenOf]; omega⟩
            · obtain ⟨cn, rfl⟩ : ∃ cn : Nat, x = (cn : Int) := ⟨x.toNat, by omega⟩
              by_cases hc0 : cn = 0
              · have hF := HF.out
                rw [fin_bad base tz _ L1 out h128 (.inl (by omega))] at hF
                subst hF
                have e1 : ((cn : Int) == 0) = true := by rw [beq_iff_eq]; omega
                clear HF HC3 h128 hc0
                go_wp2_with (fail)
                go_ret2
                exact ⟨rfl, HBw.out⟩
              · have e1 : ((cn : Int) == 0) = false := by rw [beq_eq_false_iff_ne]; omega
                by_cases hc1 : 128 < cn
                · have hF := HF.out
                  rw [fin_bad base tz _ L1 out h128 (.inr (.inl (by omega)))] at hF
                  subst hF
                  have e2 : decide ((128 : Int) < cn) = true := decide_eq_true (by omega)
                  clear HF HC3 h128 hc0
                  go_wp2_with (fail)
                  go_ret2
                  exact ⟨rfl, HBw.out⟩
                · have e2 : decide ((128 : Int) < cn) = false := decide_eq_false (by omega)
                  have e3 : decide ((cn : Int) < 128) = true := decide_eq_true (by omega)
                  by_cases hcm : m < cn
                  · have hF := HF.out
                    rw [fin_bad base tz _ L1 out h128 (.inr (.inr (by omega)))] at hF
                    subst hF
                    have e4 : decide ((m : Int) < cn) = true := decide_eq_true (by omega)
                    clear HF HC3 h128 hc0 hc1
                    go_wp2_with (fail)
                    go_ret2
                    exact ⟨rfl, HBw.out⟩
                  · have hF := HF.out
                    rw [fin_ins base tz _ L1 out H83.out h128 (by omega)] at hF
                    have e4 : decide ((m : Int) < cn) = false := decide_eq_false (by omega)
                    obtain ⟨m5, L5, hL5, hL5l, hc5, hs5, hC5⟩ := slice_take .u8 A3 m c3 L1 (cn : Int) (by omega) hL3l (by omega) hc3
                    obtain ⟨A4, m4, c4, L4, hL4, hL4l, hc4, hs4, hC4⟩ := slice_drop .u8 A3 m c3 L1 (cn : Int) (by omega) hL3l (by omega) hc3
                    have H84 := As.mk (drop_8 H83.out hL4)
                    rw [hL4, hL5] at hF
                    have hm5 : m5 = cn := by rw [← hL5l, ← hL5, List.length_take]; omega
                    have hm4 : m4 ≤ m := by rw [← hL4l, ← hL4, List.length_drop]; omega
                    have hol : (out ++ L5).length = no + cn := by rw [List.length_append, hon, hL5l, hm5]
                    by_cases htz : tz < (no : Int) + cn
                    · rw [fin_over base tz L4 _ (by rw [hol]; omega)] at hF
                      subst hF
                      have e5 : decide (tz < (no : Int) + cn) = true := decide_eq_true htz
                      clear HF HC3 h128 hc0 hc1
                      go_wp2_with (fail)
                      go_ret2
                      exact ⟨rfl, HBw.out⟩
                    · have e5 : decide (tz < (no : Int) + cn) = false := decide_eq_false htz
                      have HF2 := As.mk hF
                      subst hm5
                      have HC5 := As.mk (Kd.C_below (hC5 w3 HC3.out) HB.out)
                      have HC4 := As.mk (hC4 w3 HC3.out)
                      have hl1 : (out.length + m5) * 1 ≤ 140737488355328 := by omega
                      clear HF HC3 h128 hc0 hc1 hC5 hC4 hF hL4 hL5
                      go_wp2_with (first | ((with_reducible refine gate_builtin (b := .append) (xs := #[.tmp 79, .tmp 82]) rfl ?_); at_builtin; refine Kd.R_append_rows (Kd.int .u8) (Rr := (Kd.int .u8).K wr) (w0 := w3) w3.heap.size rfl (.tmp 79) (.tmp 82) 29 5 (.int .u8 0) 1 rfl Try.underlying29 Nl.info5 rfl (by decide) (by decide) (.slice Ao no co) out L5 A3 m5 c3 (fun _ => True) (fun _ => False) rfl rfl HO.out HC5.out (fun _ _ h => h) (fun _ hk => hk.elim) (fun _ _ => trivial) HB.out HB.out.size (hl1) ?_; intro vp wp ho hb1 hg hat; have HOp := As.mk ho; have HBp := As.mk hb1; clear ho hb1 hat hg))
                      obtain ⟨Ap, cq, rfl, hcq, _⟩ := Kd.R_reads HOp.out
                      exact ⟨⟨A4, Ap, m4, c4, _, cq, L4, out ++ L5, rfl, rfl, hL4l, hc4, by omega, rfl, by rw [hol]; omega, H84, HC4, HF2, HOp, HBp⟩, by simp only [lenOf]; omega⟩
    · have hF := HF.out
      rw [rapp_no2 base D a k h1 hab] at hF
      subst hF
      have e1 : (a == (base.size : Int)) = false := by rw [beq_eq_false_iff_ne]; exact hab
      clear HF HC2 hab
      go_wp2_with (fail)
      go_ret2
      exact ⟨rfl, HB2.out⟩
end Go.Proofs.Yticagpejankjcaa.Db
