/- The walk of IndexFinds. No condition but the reach of what comes in. -/
import Derived.Test.YtonhmjodgomeiaaMIxD
namespace Go.Proofs.Ytonhmjodgomeiaa.Ix
set_option linter.unusedVariables false
set_option linter.unusedSimpArgs false
open Go.RowKit Blk Dg Go.Proofs.YtonhmjodgomeiaaW.PrintWords Go.Proofs.YtonhmjodgomeiaaW.PrintLast Go.Proofs.YtonhmjodgomeiaaW.PrintMore

set_option maxHeartbeats 4000000 in
set_option maxRecDepth 100000 in
theorem finds_law (A : Option Addr) (c n : Nat) (ids : List ByteArray) (o : ByteArray) (w : World) (hC : Kd.string.C w A n ids) (hn : ids.length = n) (hc : n ≤ c) (hl : n ≤ 9223372036854775807) (ho : o.size ≤ 9223372036854775807) :
    Calls Try.prog 4 #[.slice A n c, .string o] w fun e w' => e = .returned (.bool true) ∧ Below w.heap.size w w' := by
  have HC := As.mk hC
  have HN := As.mk hn
  clear hC hn
  obtain ⟨g, hg⟩ : ∃ g, greatB ids = g := ⟨_, rfl⟩
  by_cases hbig : g = true ∨ 60 < n ∨ 3000 < o.size
  · rcases (show g = true ∨ (g = false ∧ 60 < n) ∨ (g = false ∧ n ≤ 60 ∧ 3000 < o.size) by rcases g <;> simp at hbig ⊢ <;> omega) with h1 | ⟨h1, h2⟩ | ⟨h1, h2, h3⟩
    all_goals
      subst h1
      go_enter Try.func4, Try.ntmps4
      go_wp2_with (fail)
      refine (head_calls _).mono ?_
      rintro e w1 ⟨rfl, hb⟩
      have HB := As.mk hb
      have HC1 := As.mk (Kd.C_below HC.out hb)
      clear hb
      go_wp2_with (fail)
      refine (great_calls _ _ _ _ _ HC1.out HN.out hc).mono ?_
      rintro e w2 ⟨rfl, hb⟩
      rw [hg]
      have HB2 : As (Below w.heap.size w w2) := ⟨HB.out.trans (hb.mono HB.out.size)⟩
      clear hb
      go_wp2_with (fail)
      go_ret
      exact ⟨rfl, HB2.out⟩
  · rw [not_or, not_or] at hbig
    obtain ⟨h1, h2, h3⟩ := hbig
    rw [Bool.not_eq_true] at h1
    subst h1
    have hsm := greatB_small hg
    have HZ : As (∀ s ∈ ids, s.size < 60000) := ⟨hsm.2⟩
    clear hsm
    have e1 : decide (60 < (n : Int)) = false := decide_eq_false (by omega)
    have e2 : decide (3000 < (o.size : Int)) = false := decide_eq_false (by omega)
    go_enter Try.func4, Try.ntmps4
    go_wp2_with (fail)
    refine (head_calls _).mono ?_
    rintro e w1 ⟨rfl, hb⟩
    have HB := As.mk hb
    have HC1 := As.mk (Kd.C_below HC.out hb)
    clear hb
    go_wp2_with (fail)
    refine (great_calls _ _ _ _ _ HC1.out HN.out hc).mono ?_
    rintro e w2 ⟨rfl, hb⟩
    rw [hg]
    have HB2 : As (Below w.heap.size w w2) := ⟨HB.out.trans (hb.mono HB.out.size)⟩
    have HC2 := As.mk (Kd.C_below HC1.out hb)
    clear hb HB HC1
    go_wp2_with (fail)
    refine (put_calls _ _ _ _ _ HC2.out HN.out hc (fun s hs => by have := HZ.out s hs; omega)).mono ?_
    rintro e w3 ⟨vx, x, z, rfl, hp, hR, hb⟩
    have HB3 : As (Below w.heap.size w w3) := ⟨HB2.out.trans (hb.mono HB2.out.size)⟩
    have HC3 := As.mk (Kd.C_below HC2.out hb)
    have hx8 := putR_8 hp
    obtain ⟨Ax, cx, rfl, hcx, hCx⟩ := Kd.R_reads hR
    clear hb hR HB2 HC2
    by_cases hz0 : z = 0
    · subst hz0
      have hxl := (put_right hp).2.2
      have hfew := put_few hp
      have hxz : x.length ≤ 1073741824 := by omega
      obtain ⟨m, hm⟩ : ∃ m, x.length = m := ⟨_, rfl⟩
      rw [hm] at hCx hcx hxz ⊢
      have hfc := fun s W h (hs : s.size ≤ 4611686018427387904) => find_calls Ax cx m x s W h hm hcx hxz hx8 hs
      have hac := fun W h => all_calls Ax cx m x W h hm hcx hxz hx8
      have hrc := fun W h => right_calls Ax cx m x W h hm hcx hxz hx8
      rw [(put_right hp).2.1] at hrc
      have HFC := As.mk hfc
      have HAC := As.mk hac
      have HRC := As.mk hrc
      have HCX := As.mk hCx
      have HP := As.mk hp
      clear hfc hac hrc hCx hp hx8 hxl hm hfew
      go_wp2_with (fail)
      go_loopw [8, 9] (fun v8 v9 wr => ∃ i : Nat, v9 = .int .i64 i ∧ i ≤ n ∧ v8 = .bool (memB (ids.take i) o) ∧ As (Below w3.heap.size w3 wr)) (fun _ v9 _ => n - (intOf v9).toNat)
      case atStart => exact ⟨0, rfl, by omega, by simp [memB], ⟨Below.refl _ _⟩⟩
      case round =>
        obtain ⟨i, rfl, hi, rfl, HBr⟩ := hrel
        by_cases hlt : i < n
        · have HCr := As.mk (Kd.C_below HCX.out HBr.out)
          obtain ⟨ad, rfl, hcell⟩ := Kd.at_string (Kd.C_below HC3.out HBr.out) (i : Int) (by omega) (by omega)
          rw [Int.toNat_natCast] at hcell
          obtain ⟨s, hs⟩ : ∃ s, rdOf ByteArray.empty ids (i : Int) = s := ⟨_, rfl⟩
          have hil : i < ids.length := by rw [HN.out]; exact hlt
          have hsi : ids[i]? = some s := by rw [← hs]; simp [rdOf, hil]
          rw [hs] at hcell
          have hss : s.size ≤ 4611686018427387904 := by have := HZ.out s (List.mem_of_getElem? hsi); omega
          have HFS := As.mk (find_self HP.out hsi)
          have HSN := As.mk (memB_snoc (t := o) hsi)
          clear hs hil hsi
          obtain ⟨tb, htb⟩ : ∃ tb, memB (ids.take i) o = tb := ⟨_, rfl⟩
          rw [htb]
          rw [htb] at HSN
          clear htb
          go_wp2_with (fail)
          refine (HFC.out s _ HCr.out hss).mono ?_
          rintro e w4 ⟨rfl, k⟩
          rw [HFS.out]
          have HB4 : As (Below w3.heap.size w3 w4) := ⟨HBr.out.trans (k.mono HBr.out.size)⟩
          have hcell4 := (k.cell (World.block_lt_of_cell? wr _ hcell)).trans hcell
          clear k HBr HCr hcell
          simp only [Option.getD_some, Option.isSome_some]
          rcases tb with _ | _
          all_goals
            go_wp2_with (fail)
            exact ⟨⟨i + 1, by simp, by omega, by rw [HSN.out]; simp, HB4⟩, by simp only [intOf]; omega⟩
        · have hin : i = n := by omega
          subst hin
          have hto : memB (ids.take i) o = memB ids o := by rw [List.take_of_length_le (by rw [HN.out]; exact Nat.le_refl _)]
          rw [hto]
          have hfm := find_memB o HP.out
          obtain ⟨mb, hmb⟩ : ∃ mb, memB ids o = mb := ⟨_, rfl⟩
          rw [hmb] at hfm ⊢
          have HFM := As.mk hfm
          have hal := all_len HP.out
          rw [HN.out] at hal
          clear hto hmb hfm
          have HCr := As.mk (Kd.C_below HCX.out HBr.out)
          go_wp2_with (fail)
          refine (HFC.out o _ HCr.out (by omega)).mono ?_
          rintro e w4 ⟨rfl, k⟩
          rw [HFM.out]
          have HB4 : As (Below w3.heap.size w3 w4) := ⟨HBr.out.trans (k.mono HBr.out.size)⟩
          have HCr4 := As.mk (Kd.C_below HCr.out k)
          clear k HBr HCr
          obtain ⟨ps, hps⟩ : ∃ ps, (findL x o).getD 0 = ps := ⟨_, rfl⟩
          rw [hps]
          go_wp2_with (fail)
          refine (HRC.out _ HCr4.out).mono ?_
          rintro e w5 ⟨rfl, k⟩
          have HB5 : As (Below w3.heap.size w3 w5) := ⟨HB4.out.trans (k.mono HB4.out.size)⟩
          have HCr5 := As.mk (Kd.C_below HCr4.out k)
          clear k HB4 HCr4
          go_wp2_with (fail)
          refine (HAC.out _ HCr5.out).mono ?_
          rintro e w6 ⟨vl, rfl, hR, k⟩
          have HB6 : As (Below w3.heap.size w3 w6) := ⟨HB5.out.trans (k.mono HB5.out.size)⟩
          obtain ⟨Al, cl, rfl, _, _⟩ := Kd.R_reads hR
          rw [hal]
          clear k HB5 HCr5 hR hal
          go_wp2_with (fail)
          go_ret
          exact ⟨rfl, HB3.out.trans (HB6.out.mono HB3.out.size)⟩
    · have hxn := hp.2.2 hz0
      subst hxn
      go_wp2_with (fail)
      go_ret
      exact ⟨rfl, HB3.out⟩
end Go.Proofs.Ytonhmjodgomeiaa.Ix
