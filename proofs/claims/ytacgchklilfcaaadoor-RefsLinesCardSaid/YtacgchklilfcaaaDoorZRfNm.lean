/- Names with a part more, plainly. No condition but what stands in each. -/
import Derived.Test.YtacgchklilfcaaaDoorZRfS6
namespace Go.Proofs.YtacgchklilfcaaaDoor.Rf
set_option linter.unusedVariables false
set_option linter.unusedSimpArgs false
open Go Go.RowKit Go.Proofs.YtacgchklilfcaaaDoorW.PrintWords Go.Proofs.YtacgchklilfcaaaDoorW.PrintLast Go.Proofs.YtacgchklilfcaaaDoorW.PrintMore PRfBase PRfGet Go.Proofs.YtacgchklilfcaaaDoor.Gl
theorem splitL_ne (c : UInt8) (l : List UInt8) : ∃ h t, splitL c l = h :: t := by
  have := splitL_len c l
  rcases hs : splitL c l with _ | ⟨h, t⟩
  · rw [hs] at this; simp at this
  · exact ⟨h, t, rfl⟩
theorem splitL_app (c : UInt8) (b : List UInt8) : ∀ a : List UInt8, splitL c (a ++ c :: b) = splitL c a ++ splitL c b
  | [] => by simp [splitL]
  | x :: a => by
    have ih := splitL_app c b a
    rw [List.cons_append, splitL, splitL, ih]
    by_cases h : x = c
    · rw [if_pos h, if_pos h]; rfl
    · rw [if_neg h, if_neg h]
      obtain ⟨h0, t0, e⟩ := splitL_ne c a
      rw [e]; rfl
theorem letB_nil : letB (Gl.strOf []) = false := by decide
theorem split_more (s t : ByteArray) : splitS 47 (s ++ (⟨#[47]⟩ : ByteArray) ++ t) = splitS 47 s ++ splitS 47 t := by
  unfold splitS
  rw [← List.map_append, ← splitL_app]
  congr 2
  simp [ByteArray.data_append]
theorem split_end (s : ByteArray) : splitS 47 (s ++ (⟨#[47]⟩ : ByteArray)) = splitS 47 s ++ [Gl.strOf []] := by
  have := split_more s ⟨#[]⟩
  have e : s ++ (⟨#[47]⟩ : ByteArray) ++ (⟨#[]⟩ : ByteArray) = s ++ (⟨#[47]⟩ : ByteArray) := by apply ByteArray.ext; simp [ByteArray.data_append]
  rw [e] at this
  rw [this]; rfl
theorem splitS_ne (s : ByteArray) : ∃ h t, splitS 47 s = h :: t := by
  obtain ⟨h, t, e⟩ := splitL_ne 47 (L s)
  exact ⟨Gl.strOf h, t.map Gl.strOf, by rw [splitS, e]; rfl⟩
theorem name_end (s : ByteArray) : nameB (s ++ (⟨#[47]⟩ : ByteArray)) = false := by
  obtain ⟨h, t, e⟩ := splitS_ne s
  have : ((splitS 47 (s ++ (⟨#[47]⟩ : ByteArray))).drop 1).all letB = false := by
    rw [split_end, e]
    simp [letB_nil]
  unfold nameB
  rw [this, Bool.and_false]
theorem name_head {s h : ByteArray} {t : List ByteArray} (e : splitS 47 s = h :: t) (h1 : h ≠ heads) (h2 : h ≠ tags) : nameB s = false := by
  unfold nameB
  have : (decide ((splitS 47 s).head? = some heads) || decide ((splitS 47 s).head? = some tags)) = false := by
    rw [e, List.head?_cons, decide_eq_false (fun k => h1 (Option.some.inj k)), decide_eq_false (fun k => h2 (Option.some.inj k))]; rfl
  rw [this, Bool.and_false, Bool.false_and]
theorem name_slash (s : ByteArray) : nameB ((⟨#[47]⟩ : ByteArray) ++ s) = false := by
  refine name_head (h := Gl.strOf []) (t := splitS 47 s) ?_ (by decide) (by decide)
  unfold splitS
  rw [show ((⟨#[47]⟩ : ByteArray) ++ s).data.toList = 47 :: s.data.toList by simp [ByteArray.data_append], splitL, if_pos rfl]; rfl
theorem name_x (s : ByteArray) : nameB ((⟨#[120]⟩ : ByteArray) ++ s) = false := by
  obtain ⟨h, t, e⟩ := splitL_ne 47 (L s)
  refine name_head (h := Gl.strOf (120 :: h)) (t := t.map Gl.strOf) ?_ (fun k => ?_) (fun k => ?_)
  · unfold splitS
    rw [show ((⟨#[120]⟩ : ByteArray) ++ s).data.toList = 120 :: s.data.toList by simp [ByteArray.data_append], splitL, if_neg (by decide), show splitL 47 s.data.toList = h :: t from e]; rfl
  · have := congrArg L k
    simp [L, Gl.strOf, heads] at this
  · have := congrArg L k
    simp [L, Gl.strOf, tags] at this
/-- May a letter be a part by itself? -/
def oneOk (c : UInt8) : Bool := letOk c && c != 46
theorem letB_one (c : UInt8) : letB ⟨#[c]⟩ = oneOk c := by
  unfold letB oneOk
  rw [show L ⟨#[c]⟩ = [c] from rfl, show (⟨#[c]⟩ : ByteArray).size = 1 from rfl]
  rw [Bool.eq_iff_iff]
  simp
theorem name_more {s : ByteArray} (h : nameB s = true) (hs : s.size ≤ 78) (c : UInt8) : nameB (s ++ (⟨#[47]⟩ : ByteArray) ++ (⟨#[c]⟩ : ByteArray)) = (oneOk c && decide ((splitS 47 s).length < 4)) := by
  obtain ⟨h1, h2, h3, h4, h5⟩ := nameB_parts h
  obtain ⟨p, t, e⟩ := splitS_ne s
  rw [e] at h2 h3 h4 h5
  have hsz : (s ++ (⟨#[47]⟩ : ByteArray) ++ (⟨#[c]⟩ : ByteArray)).size = s.size + 2 := by
    rw [ByteArray.size_append, ByteArray.size_append]; rfl
  have hhead : (decide ((p :: (t ++ splitS 47 ⟨#[c]⟩)).head? = some heads) || decide ((p :: (t ++ splitS 47 ⟨#[c]⟩)).head? = some tags)) = true := by
    rw [Bool.or_eq_true, decide_eq_true_iff, decide_eq_true_iff]
    exact h4
  have hall : t.all letB = true := List.all_eq_true.2 h5
  unfold nameB
  rw [split_more, e, hsz, List.cons_append, hhead, List.drop_succ_cons, List.drop_zero, List.all_append, hall, decide_eq_true (show s.size + 2 ≤ 80 by omega), Bool.true_and, Bool.and_true, Bool.true_and, List.length_cons, List.length_append]
  by_cases hc : c = 47
  · subst hc
    have : splitS 47 ⟨#[47]⟩ = [Gl.strOf [], Gl.strOf []] := by decide
    rw [this, show oneOk 47 = false by decide, Bool.false_and]
    simp [letB_nil]
  · have : splitS 47 ⟨#[c]⟩ = [⟨#[c]⟩] := by
      unfold splitS
      rw [show (⟨#[c]⟩ : ByteArray).data.toList = [c] from rfl]
      simp [splitL, hc, Gl.strOf]
    rw [this, List.all_cons, List.all_nil, Bool.and_true, letB_one, List.length_singleton, List.length_cons, Bool.and_comm (oneOk c)]
    rw [List.length_cons] at h2
    have e1 : (decide (2 ≤ t.length + 1 + 1) && decide (t.length + 1 + 1 ≤ 4)) = decide (t.length + 1 < 4) := by
      rw [decide_eq_true (show 2 ≤ t.length + 1 + 1 by omega), Bool.true_and]
      exact decide_eq_decide.2 (by omega)
    rw [← e1]
theorem split_count (s : ByteArray) : (splitS 47 s).length = (L s).count 47 + 1 := by
  unfold splitS
  rw [List.length_map, splitL_len]
end Go.Proofs.YtacgchklilfcaaaDoor.Rf
