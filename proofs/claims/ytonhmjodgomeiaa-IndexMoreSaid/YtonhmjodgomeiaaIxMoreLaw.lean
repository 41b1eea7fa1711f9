/- The walk of IndexMore. No condition but the reach of what comes in. -/
import Derived.Test.YtonhmjodgomeiaaMIxD
namespace Go.Proofs.Ytonhmjodgomeiaa.Ix
set_option linter.unusedVariables false
set_option linter.unusedSimpArgs false
open Go.RowKit Blk Dg Go.Proofs.YtonhmjodgomeiaaW.PrintWords Go.Proofs.YtonhmjodgomeiaaW.PrintLast Go.Proofs.YtonhmjodgomeiaaW.PrintMore

set_option maxHeartbeats 4000000 in
set_option maxRecDepth 100000 in
theorem more_law (A B : Option Addr) (c d n m : Nat) (ids : List ByteArray) (text : List Int) (w : World) (hC : Kd.string.C w A n ids) (hn : ids.length = n) (hc : n ≤ c) (hl : n ≤ 9223372036854775807)
    (hD : (Kd.int .u8).C w B m text) (hm : text.length = m) (hd : m ≤ d) (hk : m ≤ 9223372036854775807) (h8 : ∀ x ∈ text, 0 ≤ x ∧ x < 256) :
    Calls Try.prog 8 #[.slice A n c, .slice B m d] w fun e w' => e = .returned (.bool true) ∧ Below w.heap.size w w' := by
  have HC := As.mk hC
  have HD := As.mk hD
  have HN := As.mk hn
  have HM := As.mk hm
  have H8 := As.mk h8
  clear hC hn hD hm h8
  obtain ⟨g, hg⟩ : ∃ g, greatB ids = g := ⟨_, rfl⟩
  by_cases hbig : g = true ∨ 60 < n ∨ 1000 < m
  · rcases (show g = true ∨ (g = false ∧ 60 < n) ∨ (g = false ∧ n ≤ 60 ∧ 1000 < m) by rcases g <;> simp at hbig ⊢ <;> omega) with h1 | ⟨h1, h2⟩ | ⟨h1, h2, h3⟩
    all_goals
      subst h1
      go_enter Try.func8, Try.ntmps8
      go_wp2_with (fail)
      refine (head_calls _).mono ?_
      rintro e w1 ⟨rfl, hb⟩
      have HB := As.mk hb
      have HC1 := As.mk (Kd.C_below HC.out hb)
      clear hb
      go_wp2_with (fail)
      refine (great_calls _ _ _ _ _ HC1.out HN.out hc).mono ?_
      rintro e w2 ⟨rfl, hb⟩
      rw [hg]
      have HB2 : As (Below w.heap.size w w2) := ⟨HB.out.trans (hb.mono HB.out.size)⟩
      clear hb
      go_wp2_with (fail)
      go_ret
      exact ⟨rfl, HB2.out⟩
  · rw [not_or, not_or] at hbig
    obtain ⟨h1, h2, h3⟩ := hbig
    rw [Bool.not_eq_true] at h1
    subst h1
    have hsm := greatB_small hg
    have HZ : As (∀ s ∈ ids, s.size ≤ 4611686018427387904) := ⟨fun s hs => by have := hsm.2 s hs; omega⟩
    clear hsm
    have e1 : decide (60 < (n : Int)) = false := decide_eq_false (by omega)
    have e2 : decide (1000 < (m : Int)) = false := decide_eq_false (by omega)
    go_enter Try.func8, Try.ntmps8
    go_wp2_with (fail)
    refine (head_calls _).mono ?_
    rintro e w1 ⟨rfl, hb⟩
    have HB := As.mk hb
    clear hb
    go_wp2_with (fail)
    refine (great_calls _ _ _ _ _ (Kd.C_below HC.out HB.out) HN.out hc).mono ?_
    rintro e w2 ⟨rfl, hb⟩
    rw [hg]
    have HB2 : As (Below w.heap.size w w2) := ⟨HB.out.trans (hb.mono HB.out.size)⟩
    clear hb HB
    obtain ⟨s, hs⟩ : ∃ s, nm text = s := ⟨_, rfl⟩
    have hsn : namedL (bytesOf s) = true := by rw [← hs]; exact nm_named text
    have hsz : s.size ≤ 4611686018427387904 := by rw [← hs]; exact nm_small text
    have HS := As.mk hs
    clear hs
    go_wp2_with (fail)
    refine (rn_calls B d m text _ (Kd.C_below HD.out HB2.out) HM.out hd (by omega) H8.out).mono ?_
    rintro e w3 ⟨rfl, hb⟩
    rw [HS.out]
    have HB3 : As (Below w.heap.size w w3) := ⟨HB2.out.trans (hb.mono HB2.out.size)⟩
    clear hb HB2 HD H8 HM
    go_wp2_with (fail)
    refine (put_calls _ _ _ _ _ (Kd.C_below HC.out HB3.out) HN.out hc HZ.out).mono ?_
    rintro e w4 ⟨vx, x, z, rfl, hp, hR, hb⟩
    have HB4 : As (Below w.heap.size w w4) := ⟨HB3.out.trans (hb.mono HB3.out.size)⟩
    have hx8 := putR_8 hp
    have hxz : x.length ≤ 1073741824 := by
      by_cases hz0 : z = 0
      · subst hz0
        have := (put_right hp).2.2
        have := put_few hp
        omega
      · rw [hp.2.2 hz0]; decide
    obtain ⟨Ax, cx, rfl, hcx, hCx⟩ := Kd.R_reads hR
    have HCX := As.mk hCx
    clear hb hR HB3 hCx
    obtain ⟨l, hxl⟩ : ∃ l, x.length = l := ⟨_, rfl⟩
    rw [hxl] at HCX hcx hxz ⊢
    have HP := As.mk hp
    have HX8 := As.mk hx8
    clear hp hx8
    have HE := As.mk (own_empty_s w4 w4.heap.size (Nat.le_refl _))
    have HBe : As (Below w4.heap.size w4 (w4.alloc (.cells #[] 9))) := ⟨(Below.refl _ _).alloc (Nat.le_refl _) _⟩
    have HCe := As.mk (Kd.C_below (Kd.C_below HC.out HB4.out) HBe.out)
    have hl1 : (([] : List ByteArray).length + n) * 16 ≤ 140737488355328 := by simp; omega
    have hl2 : ((([] : List ByteArray) ++ ids).length + 1) * 16 ≤ 140737488355328 := by rw [List.nil_append, HN.out]; omega
    go_wp2_with (first
      | ((with_reducible refine gate_builtin (b := .append) (xs := #[.tmp 40, .tmp 41]) rfl ?_); at_builtin; refine Kd.R_append_rows Kd.string (Rr := Kd.string.K (w4.alloc (.cells #[] 9))) (w0 := w4) w4.heap.size rfl (.tmp 40) (.tmp 41) 22 9 (.string ⟨#[]⟩) 16 rfl Try.underlying22 info_str rfl (by decide) (by decide) (.slice (some ⟨w4.heap.size, 0, none⟩) 0 0) [] ids A n c (fun _ => True) (fun _ => False) rfl rfl HE.out HCe.out (fun _ _ h => h) (fun _ hk => hk.elim) (fun _ _ => trivial) HBe.out HBe.out.size hl1 ?_; intro v5 w5 ho hb hg5 hat; have HX5 := As.mk ho; have HB5 := As.mk hb; clear ho hb hg5 hat)
      | ((with_reducible refine gate_builtin (b := .append) (xs := #[.tmp 42, .tmp 44]) rfl ?_); at_builtin; refine Kd.R_append Kd.string (w0 := w4) (W := w5) w4.heap.size rfl (.tmp 42) (.tmp 44) 22 9 (.string ⟨#[]⟩) 16 rfl Try.underlying22 info_str rfl (by decide) (by decide) v5 ([] ++ ids) s [.string s] (fun _ => True) (fun _ => False) rfl rfl rfl (fun _ hk => hk.elim) (fun _ _ => trivial) HX5.out HB5.out HB5.out.size hl2 ?_; intro v6 w6 ho hb hg6 hat; have HX6 := As.mk ho; have HB6 := As.mk hb; clear ho hb hg6 hat)
      | fail)
    rw [List.nil_append] at HX6
    clear HX5 HB5 HE HBe HCe
    obtain ⟨Ay, cy, rfl, hcy, hCy⟩ := Kd.R_reads HX6.out
    have HCY := As.mk hCy
    have hyl : (ids ++ [s]).length = n + 1 := by rw [List.length_append, HN.out]; rfl
    have hy1 : (ids ++ [s]).length ≤ cy := hcy
    obtain ⟨l1, hl1'⟩ : ∃ l1, (ids ++ [s]).length = l1 := ⟨_, rfl⟩
    rw [hl1'] at HCY hy1 hyl ⊢
    have HL1 := As.mk hl1'
    clear HX6 hCy hcy hl1'
    go_wp2_with (fail)
    refine (put_calls Ay cy l1 (ids ++ [s]) w6 HCY.out HL1.out hy1 (fun t ht => by
      rcases List.mem_append.1 ht with ht | ht
      · exact HZ.out t ht
      · rw [List.mem_singleton.1 ht]; exact hsz)).mono ?_
    rintro e w7 ⟨vy, y, z2, rfl, hp2, hR, hb⟩
    have HB7 : As (Below w4.heap.size w4 w7) := ⟨HB6.out.trans (hb.mono HB6.out.size)⟩
    have HCX7 := As.mk (Kd.C_below HCX.out HB7.out)
    have HBw : As (Below w.heap.size w w7) := ⟨HB4.out.trans (HB7.out.mono HB4.out.size)⟩
    have hy8 := putR_8 hp2
    have HP2 := As.mk hp2
    obtain ⟨Az, cz, rfl, hcz, hCz⟩ := Kd.R_reads hR
    have HCZ := As.mk hCz
    clear hb hR hCz hp2 HB6 HCY HB7
    obtain ⟨l2, hyl2⟩ : ∃ l2, y.length = l2 := ⟨_, rfl⟩
    rw [hyl2] at HCZ hcz ⊢
    have hl512 : ids.length < 512 := by rw [HN.out]; omega
    obtain ⟨f, hf⟩ : ∃ f, findL x s = f := ⟨_, rfl⟩
    have hfx := fun W h => find_calls Ax cx l x s W h hxl hcx hxz HX8.out hsz
    rw [hf] at hfx
    have HFX := As.mk hfx
    obtain ⟨p, hp⟩ : ∃ p, f.getD 0 = p := ⟨_, rfl⟩
    obtain ⟨q, hq⟩ : ∃ q, f.isSome = q := ⟨_, rfl⟩
    clear hfx hl1 hl2 hxl hxz hcx HX8
    go_wp2_with (fail)
    refine (HFX.out _ HCX7.out).mono ?_
    rintro e w8 ⟨rfl, hb⟩
    rw [hp, hq]
    have HB8 : As (Below w.heap.size w w8) := ⟨HBw.out.trans (hb.mono HBw.out.size)⟩
    have HCZ8 := As.mk (Kd.C_below HCZ.out hb)
    clear hb HFX HCZ HBw hp
    by_cases hz0 : z = 0
    · have hE : putE ids = 0 := by rw [← HP.out.1]; exact hz0
      rcases q with _ | _
      · have hsm : s ∉ ids := by
          rw [← find_is s (b := x) (by rw [← hz0]; exact HP.out), hf, hq]; decide
        have hz2 : z2 = 0 := by rw [HP2.out.1]; exact putE_snoc_ok hl512 hE hsm hsn
        subst hz0 hz2
        have hyz : l2 ≤ 1073741824 := by
          have := (put_right HP2.out).2.2
          have := put_few HP2.out
          omega
        have hfs : findL y s = some n := find_self HP2.out (by rw [List.getElem?_append_right (by rw [HN.out]; exact Nat.le_refl _), HN.out]; simp)
        have hfc := fun t W h (hs : t.size ≤ 4611686018427387904) => find_calls Az cz l2 y t W h hyl2 hcz hyz hy8 hs
        have HFC := As.mk hfc
        have HFS := As.mk hfs
        clear hfc hfs hy8 hyl2 hcz
        go_wp2_with (fail)
        refine (HFC.out s _ HCZ8.out hsz).mono ?_
        rintro e w9 ⟨rfl, hb⟩
        rw [HFS.out]
        have HB9 : As (Below w.heap.size w w9) := ⟨HB8.out.trans (hb.mono HB8.out.size)⟩
        have HCZ9 := As.mk (Kd.C_below HCZ8.out hb)
        clear hb HB8 HCZ8
        simp only [Option.getD_some, Option.isSome_some]
        go_wp2_with (fail)
        go_loopw [15] (fun v15 wr => ∃ i : Nat, v15 = .int .i64 i ∧ i ≤ n ∧ As (Below w9.heap.size w9 wr)) (fun v15 _ => n - (intOf v15).toNat)
        case atStart => exact ⟨0, rfl, by omega, ⟨Below.refl _ _⟩⟩
        case round =>
          obtain ⟨i, rfl, hi, HBr⟩ := hrel
          by_cases hlt : i < n
          · have HCr := As.mk (Kd.C_below HCZ9.out HBr.out)
            obtain ⟨ad, rfl, hcell⟩ := Kd.at_string (Kd.C_below (Kd.C_below HC.out HB9.out) HBr.out) (i : Int) (by omega) (by omega)
            rw [Int.toNat_natCast] at hcell
            obtain ⟨t, ht⟩ : ∃ t, rdOf ByteArray.empty ids (i : Int) = t := ⟨_, rfl⟩
            have hil : i < ids.length := by rw [HN.out]; exact hlt
            have hti : ids[i]? = some t := by rw [← ht]; simp [rdOf, hil]
            rw [ht] at hcell
            have htz := HZ.out t (List.mem_of_getElem? hti)
            have HFT := As.mk (find_self HP2.out (i := i) (s := t) (by rw [List.getElem?_append_left hil]; exact hti))
            clear ht hil hti
            go_wp2_with (fail)
            refine (HFC.out t _ HCr.out htz).mono ?_
            rintro e wa ⟨rfl, k⟩
            rw [HFT.out]
            have HBa : As (Below w9.heap.size w9 wa) := ⟨HBr.out.trans (k.mono HBr.out.size)⟩
            clear k HBr HCr hcell
            simp only [Option.getD_some, Option.isSome_some]
            go_wp2_with (fail)
            exact ⟨⟨i + 1, by simp, by omega, HBa⟩, by simp only [intOf]; omega⟩
          · have hin : i = n := by omega
            subst hin
            go_wp2_with (fail)
            go_ret
            exact ⟨rfl, HB9.out.trans (HBr.out.mono HB9.out.size)⟩
      · have hsm : s ∈ ids := by
          rw [← find_is s (b := x) (by rw [← hz0]; exact HP.out), hf, hq]
        have hz2 : z2 = 91 := by rw [HP2.out.1]; exact putE_snoc_there hl512 hE hsm
        subst hz0 hz2
        go_wp2_with (fail)
        go_ret
        exact ⟨rfl, HB8.out⟩
    · have hz2 : z2 ≠ 0 := by
        rw [HP2.out.1]
        exact putE_snoc_bad hl512 (by rw [← HP.out.1]; exact hz0)
      have hb2 : (z2 != 0) = true := by simpa using hz2
      go_wp2_with (fail)
      go_ret
      exact ⟨rfl, HB8.out⟩
end Go.Proofs.Ytonhmjodgomeiaa.Ix
