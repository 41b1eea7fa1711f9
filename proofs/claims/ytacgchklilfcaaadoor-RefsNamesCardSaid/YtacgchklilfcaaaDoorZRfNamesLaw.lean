/- RefsNames, plainly. No condition. -/
import Derived.Test.YtacgchklilfcaaaDoorZRfP
import Derived.Test.YtacgchklilfcaaaDoorZRfNm
import Derived.Test.YtacgchklilfcaaaDoorZPRefsNamesx0
import Derived.Test.YtacgchklilfcaaaDoorZPRefsNamesx1
namespace Go.Proofs.YtacgchklilfcaaaDoor.Rf
set_option linter.unusedVariables false
set_option linter.unusedSimpArgs false
set_option linter.unusedSectionVars false
open Go Go.RowKit Go.Proofs.YtacgchklilfcaaaDoorW.PrintWords Go.Proofs.YtacgchklilfcaaaDoorW.PrintLast Go.Proofs.YtacgchklilfcaaaDoorW.PrintMore PRfBase PRfGet PRefsNames Go.Proofs.YtacgchklilfcaaaDoor.Gl
/-- May that letter be a part? -/
def LetP (x : Int) : Prop := x = 45 ∨ x = 95 ∨ (97 ≤ x ∧ x ≤ 122) ∨ (48 ≤ x ∧ x ≤ 57)
theorem oneOk_iff (c : UInt8) : oneOk c = true ↔ LetP (c.toNat : Int) := by
  unfold oneOk LetP
  rw [Bool.and_eq_true, letOk_iff, bne_iff_ne, ne_eq, ← UInt8.toNat_inj]
  show _ ∧ ¬ c.toNat = 46 ↔ _
  omega
theorem nums_one {x : Int} (h0 : 0 ≤ x) (h1 : x < 256) : ∃ c : UInt8, (c.toNat : Int) = x ∧ strOfNums [x] = ⟨#[c]⟩ := by
  refine ⟨UInt8.ofNat x.toNat, ?_, ?_⟩
  · rw [UInt8.toNat_ofNat']; omega
  · unfold strOfNums; rfl
set_option maxHeartbeats 4000000 in
theorem names_end (s : ByteArray) (hs : s.size ≤ 3000) (x : Int) (h0 : 0 ≤ x) (h1 : x < 256) (n : Int) (hn : n = ((L s).count 47 : Int)) : Ev (fun k => sacristylaw09_RefsNames.l0 k s x true (nameB s) n (s.size : Int)) true := by
  obtain ⟨c, hc, hx⟩ := nums_one h0 h1
  have hm1 : ((s ++ (⟨#[47]⟩ : ByteArray)) ++ strOfNums [x]).size ≤ 1000000000 := by
    rw [hx, ByteArray.size_append, ByteArray.size_append, show (⟨#[47]⟩ : ByteArray).size = 1 from rfl, show (⟨#[c]⟩ : ByteArray).size = 1 from rfl]; omega
  have hm2 : (s ++ (⟨#[47]⟩ : ByteArray)).size + (strOfNums [x]).size ≤ 9223372036854775807 := by
    rw [ByteArray.size_append] at hm1; omega
  have e1 := Gv.named.f_eq hm1
  have e2 := Gv.named.f_eq (s := s ++ (⟨#[47]⟩ : ByteArray)) (by rw [ByteArray.size_append, show (⟨#[47]⟩ : ByteArray).size = 1 from rfl]; omega)
  have e3 := Gv.named.f_eq (s := (⟨#[47]⟩ : ByteArray) ++ s) (by rw [ByteArray.size_append, show (⟨#[47]⟩ : ByteArray).size = 1 from rfl]; omega)
  have e4 := Gv.named.f_eq (s := (⟨#[120]⟩ : ByteArray) ++ s) (by rw [ByteArray.size_append, show (⟨#[120]⟩ : ByteArray).size = 1 from rfl]; omega)
  rw [name_end] at e2
  rw [name_slash] at e3
  rw [name_x] at e4
  obtain ⟨m, hm⟩ : ∃ m, nameB ((s ++ (⟨#[47]⟩ : ByteArray)) ++ strOfNums [x]) = m := ⟨_, rfl⟩
  rw [hm] at e1
  have z1 : s.size + 1 ≤ 9223372036854775807 := by omega
  have z2 : 1 + s.size ≤ 9223372036854775807 := by omega
  have z0 : ¬ (s.size : Int) < (s.size : Int) := by omega
  refine Ev.step (f := fun _ => some true) (fun k => ?_) (Ev.now _)
  simp only [sacristylaw09_RefsNames.l0]
  rw [if_neg z0]
  simp only [Option.bind_some, e1, e2, e3, e4, if_pos hm2, if_pos z1, if_pos z2, Bool.false_eq_true, if_false, if_true]
  cases hnm : nameB s with
  | false => simp only [Bool.false_eq_true, if_false, ite_self]
  | true =>
    obtain ⟨_, p2, p3, _, _⟩ := nameB_parts hnm
    rw [split_count] at p2 p3
    rw [if_pos rfl, if_neg (by omega), if_neg (by omega)]
    by_cases h78 : (s.size : Int) > 78
    · simp only [if_pos h78, ite_self]
    · have hmore := name_more hnm (by omega) c
      rw [← hx, hm, split_count] at hmore
      simp only [if_neg h78]
      by_cases hl : LetP x
      · rw [(oneOk_iff c).2 (by rw [hc]; exact hl), Bool.true_and] at hmore
        have hd : (m == decide (n < 3)) = true := by
          rw [beq_iff_eq, hmore]
          exact decide_eq_decide.2 (by omega)
        unfold LetP at hl
        repeat' split
        all_goals first | (rw [hd]; done) | (exfalso; omega) | (rw [hd])
      · have hf : m = false := by
          rw [hmore, show oneOk c = false from by rw [← Bool.not_eq_true, oneOk_iff, hc]; exact hl, Bool.false_and]
        subst hf
        unfold LetP at hl
        repeat' split
        all_goals first | rfl | (exfalso; omega)
theorem u47 {u : UInt8} (h : u ≠ 47) : ¬ (u.toNat : Int) = 47 := by
  intro e
  apply h
  apply UInt8.toNat_inj.1
  have : (47 : UInt8).toNat = 47 := rfl
  omega
theorem names_l0 (s : ByteArray) (hs : s.size ≤ 3000) (x : Int) (h0 : 0 ≤ x) (h1 : x < 256) : ∀ (d i : Nat) (n : Int), s.size - i = d → i ≤ s.size → n + (((L s).drop i).count 47 : Int) = ((L s).count 47 : Int) → 0 ≤ n → Ev (fun k => sacristylaw09_RefsNames.l0 k s x true (nameB s) n (i : Int)) true := by
  intro d
  induction d with
  | zero =>
    intro i n hd hi hn hn0
    obtain rfl : i = s.size := by omega
    rw [List.drop_of_length_le (by rw [L_len]; exact Nat.le_refl _), List.count_nil] at hn
    exact names_end s hs x h0 h1 n (by omega)
  | succ d ih =>
    intro i n hd hi hn hn0
    have hil : i < (L s).length := by rw [L_len]; omega
    obtain ⟨u, hu⟩ : ∃ u, (L s)[i]? = some u := ⟨_, List.getElem?_eq_getElem hil⟩
    have hb := bt_get hu (i : Int) rfl
    have hcl : (L s).count 47 ≤ 3000 := by
      have := List.count_le_length (a := (47 : UInt8)) (l := L s)
      rw [L_len] at this; omega
    have c1 : (i : Int) < (s.size : Int) := by omega
    have c2 : (0 : Int) ≤ (i : Int) := by omega
    rw [drop_at hu] at hn
    have hw := wr1 (i := i) (n := s.size) (by omega) (by omega)
    by_cases h47 : u = 47
    · subst h47
      rw [List.count_cons_self] at hn
      refine Ev.step (fun k => ?_) (ih (i + 1) (n + 1) (by omega) (by omega) (by omega) (by omega))
      simp only [sacristylaw09_RefsNames.l0]
      rw [if_pos (by omega), if_pos (by omega), hb, if_pos (show ((47 : UInt8).toNat : Int) = 47 from rfl), hw, w64 (n + 1) (by omega) (by omega)]
    · rw [List.count_cons_of_ne h47] at hn
      refine Ev.step (fun k => ?_) (ih (i + 1) n (nh2 hd) (nh3 hd) hn hn0)
      simp only [sacristylaw09_RefsNames.l0]
      have := u47 h47
      rw [if_pos c1, if_pos c2, hb, if_neg this, hw]
theorem refsNames_ev (s : ByteArray) (x : Int) (h0 : 0 ≤ x) (h1 : x < 256) : Ev (fun k => sacristylaw09_RefsNames.f k s x) true := by
  unfold sacristylaw09_RefsNames.f
  by_cases hs : (s.size : Int) > 3000
  · refine Ev.congr (f := fun _ => some true) (fun k => ?_) (Ev.now _)
    show (if (s.size : Int) > 3000 then some true else _) = some true
    rw [if_pos hs]
  · refine Ev.congr (f := fun k => sacristylaw09_RefsNames.l0 k s x true (nameB s) 0 0) (fun k => ?_) (names_l0 s (by omega) x h0 h1 _ 0 0 rfl (Nat.zero_le _) (by rw [List.drop_zero]; omega) (Int.le_refl _))
    show (if (s.size : Int) > 3000 then some true else (Gv.named.f s).bind fun t102 => sacristylaw09_RefsNames.l0 k s x true t102 0 0) = _
    rw [if_neg hs, Gv.named.f_eq (by omega)]; rfl
end Go.Proofs.YtacgchklilfcaaaDoor.Rf
