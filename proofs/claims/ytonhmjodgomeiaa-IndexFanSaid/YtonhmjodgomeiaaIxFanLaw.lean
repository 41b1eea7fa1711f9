/- IndexFan: what the printed walk computes is true. No condition but the reach of what comes in. -/
import Derived.Test.YtonhmjodgomeiaaPIndexFanx
namespace Go.Proofs.Ytonhmjodgomeiaa.Ix
set_option linter.unusedVariables false
set_option linter.unusedSimpArgs false
open Go.RowKit Blk Dg Go.Proofs.YtonhmjodgomeiaaW.PrintWords Go.Proofs.YtonhmjodgomeiaaW.PrintLast Go.Proofs.YtonhmjodgomeiaaW.PrintMore
open PIndexFan

theorem w64 (x : Int) (h0 : 0 ≤ x) (h1 : x < 1000000000000000) : wrap64 x = x := by unfold wrap64; omega
theorem rd_get (b : List Int) (i : Nat) (p : Int) (h : b[i]? = some p) (j : Int) (hj : j = i) : rd b j = p := by
  subst hj
  rw [rd, Int.toNat_natCast, List.getD_eq_getElem?_getD, h, Option.getD_some]
theorem fan_l1 {ids : List ByteArray} {b : List Int} (hp : PutR ids b 0) (hl : ids.length ≤ 100) (c last n : Nat) (hc : c < 256) (R : Bool)
    (hR : Ev (fun k => sacristylaw08_IndexFan.l0 k ids true b (n : Int) ((c + 1 : Nat) : Int)) R) (hn : n = cntN (ids.map rawL) c) (hla : last ≤ n) :
    ∀ (d i : Nat), ids.length - i = d → i ≤ ids.length → Ev (fun k => sacristylaw08_IndexFan.l1 k ids true b (last : Int) (c : Int) (n : Int) (cntN ((ids.take i).map rawL) c : Nat) (i : Int)) R := by
  intro d
  induction d with
  | zero =>
    intro i hd hi
    have hin : i = ids.length := by omega
    subst hin
    refine Ev.step (fun k => ?_) hR
    simp only [sacristylaw08_IndexFan.l1]
    rw [if_neg (by omega), List.take_of_length_le (Nat.le_refl _), ← hn, if_pos rfl, if_neg (by omega), w64 _ (by omega) (by omega)]
    rfl
  | succ d ih =>
    intro i hd hi
    have hil : i < ids.length := by omega
    have hsi : ids[i]? = some ids[i] := List.getElem?_eq_getElem hil
    have e1 : rdOf ByteArray.empty ids (i : Int) = ids[i] := by simp [rdOf, hil]
    have hnm := List.all_eq_true.1 (putE_0 hp.1.symm).2.1 ids[i] (List.getElem_mem hil)
    obtain ⟨x0, rr, hrw, hx0, hx1⟩ := raw_head hnm
    have htk := two_take hnm
    have hct := cnt_take (c := c) hsi
    have hle := two_le ⟨hx0, hx1⟩ (show 0 ≤ (c : Int) ∧ (c : Int) < 256 by omega)
    rw [hrw, List.headD_cons] at htk hct
    have hsz : ids[i].size = 64 := by rw [← bytesOf_length]; exact ((named_iff _).1 hnm).1
    have htw : Gv.two.f (c : Int) = some (toldS [(c : Int)]) := by unfold Gv.two.f; rw [if_pos (by omega)]
    have hM : cntN ((ids.take i).map rawL) c ≤ 100 := by
      have := cntN_le ((ids.take i).map rawL) c
      rw [List.length_map, List.length_take] at this
      omega
    have ih' := ih (i + 1) (by omega) (by omega)
    refine Ev.step (fun k => ?_) ih'
    simp only [sacristylaw08_IndexFan.l1]
    rw [if_pos (by omega), if_pos (by omega), if_pos (by omega), e1, if_pos (by omega), htw, Option.bind_some, htk, hle, w64 ((i : Int) + 1) (by omega) (by omega), hct]
    by_cases h : (c : Int) < x0
    · rw [if_pos (by rw [decide_eq_true h]), if_neg (by omega)]
      rfl
    · rw [if_neg (by rw [decide_eq_false h]; decide), if_pos (by omega), w64 _ (by omega) (by omega)]
      rfl
theorem fan_l0 {ids : List ByteArray} {b : List Int} (hp : PutR ids b 0) (hl : ids.length ≤ 100) :
    ∀ (d c : Nat), 256 - c = d → c ≤ 256 → Ev (fun k => sacristylaw08_IndexFan.l0 k ids true b (lastN (ids.map rawL) c : Nat) (c : Int)) true := by
  have hbl := (put_right hp).2.2
  intro d
  induction d with
  | zero =>
    intro c hd hc
    have : c = 256 := by omega
    subst this
    have hla : lastN (ids.map rawL) 256 = ids.length := fan_all hp
    refine Ev.step (f := fun _ => some true) (fun k => ?_) (Ev.now true)
    simp only [sacristylaw08_IndexFan.l0]
    rw [if_neg (by omega), if_pos trivial, hla, if_pos rfl, w64 (34 * (ids.length : Int)) (by omega) (by omega), w64 _ (by omega) (by omega)]
    congr 1
    rw [beq_iff_eq]; omega
  | succ d ih =>
    intro c hd hc
    have hc2 : c < 256 := by omega
    obtain ⟨n, hn⟩ : ∃ n, n = cntN (ids.map rawL) c := ⟨_, rfl⟩
    have h1 := fan_l1 hp hl c (lastN (ids.map rawL) c) n hc2 true (by rw [hn]; exact ih (c + 1) (by omega) (by omega)) hn (by rw [hn]; exact lastN_le _ _) _ 0 rfl (by omega)
    have h2 := fan_two hp c hc2
    have hb8 := putR_8 hp
    obtain ⟨p, hpp⟩ : ∃ p, b[2 * c]? = some p := ⟨b[2 * c]'(by omega), List.getElem?_eq_getElem _⟩
    obtain ⟨q, hqq⟩ : ∃ q, b[2 * c + 1]? = some q := ⟨b[2 * c + 1]'(by omega), List.getElem?_eq_getElem _⟩
    have hp8 := hb8 p (List.mem_of_getElem? hpp)
    have hq8 := hb8 q (List.mem_of_getElem? hqq)
    rw [List.getD_eq_getElem?_getD, hpp, List.getD_eq_getElem?_getD, hqq, Option.getD_some, Option.getD_some, ← hn] at h2
    have e1 := rd_get b (2 * c) p hpp (2 * (c : Int)) (by omega)
    have e2 := rd_get b (2 * c + 1) q hqq (2 * (c : Int) + 1) (by omega)
    refine Ev.step (fun k => ?_) h1
    simp only [sacristylaw08_IndexFan.l0]
    rw [if_pos (by omega), w64 (2 * (c : Int)) (by omega) (by omega), if_pos (by omega), if_pos (by omega), w64 (2 * (c : Int) + 1) (by omega) (by omega), if_pos (by omega), if_pos (by omega),
      e1, e2, w64 p (by omega) (by omega), w64 q (by omega) (by omega), w64 (p * 256) (by omega) (by omega), w64 (p * 256 + q) (by omega) (by omega),
      show p * 256 + q = (n : Int) by omega]
    simp [cntN]
theorem fan_true (ids : List ByteArray) : ∃ k, sacristylaw08_IndexFan.f k ids = some true := by
  refine Ev.rounds ?_
  have key : greatB ids = false → ids.length ≤ 100 → Ev (fun k => sacristylaw08_IndexFan.j0 k ids true false) true := by
    intro hg hl
    have hsm := greatB_small hg
    have hS : Sht ids := fun s hs => by have := hsm.2 s hs; omega
    have hp := putL_R ids
    by_cases hz : putE ids = 0
    · rw [hz] at hp
      have hbl := (put_right hp).2.2
      refine Ev.step (f := fun k => sacristylaw08_IndexFan.l0 k ids true (putL ids) 0 0) (fun k => ?_) (fan_l0 hp hl 256 0 (by omega) (by omega))
      simp only [sacristylaw08_IndexFan.j0]
      rw [if_neg (by decide), Gv.put.f_eq hS, Option.bind_some, hz]
      dsimp only
      rw [if_pos rfl, if_neg (by omega)]
    · refine Ev.step (f := fun _ => some true) (fun k => ?_) (Ev.now true)
      simp only [sacristylaw08_IndexFan.j0]
      rw [if_neg (by decide), Gv.put.f_eq hS, Option.bind_some, if_neg hz]
  refine Ev.congr (f := fun k => if greatB ids = true then sacristylaw08_IndexFan.j0 k ids true true else sacristylaw08_IndexFan.j0 k ids true (decide ((ids.length : Int) > 100))) (fun k => rfl) ?_
  have hyes : Ev (fun k => sacristylaw08_IndexFan.j0 k ids true true) true := Ev.step (f := fun _ => some true) (fun k => by simp only [sacristylaw08_IndexFan.j0]; rfl) (Ev.now true)
  rcases hg : greatB ids with _ | _
  · refine Ev.congr (f := fun k => sacristylaw08_IndexFan.j0 k ids true (decide ((ids.length : Int) > 100))) (fun k => if_neg (by decide)) ?_
    by_cases hl : ids.length ≤ 100
    · rw [decide_eq_false (by omega)]; exact key hg hl
    · rw [decide_eq_true (by omega)]; exact hyes
  · exact Ev.congr (fun k => if_pos rfl) hyes
theorem fan_law (A : Option Addr) (c : Nat) (ids : List ByteArray) (w : World) (hC : Kd.string.C w A ids.length ids) (hc : ids.length ≤ c) :
    Calls Try.prog 7 #[.slice A ids.length c] w fun e w' => e = .returned (.bool true) ∧ Below w.heap.size w w' := by
  obtain ⟨k, hk⟩ := fan_true ids
  exact sacristylaw08_IndexFan.calls k A c ids true w hC hc hk
end Go.Proofs.Ytonhmjodgomeiaa.Ix
