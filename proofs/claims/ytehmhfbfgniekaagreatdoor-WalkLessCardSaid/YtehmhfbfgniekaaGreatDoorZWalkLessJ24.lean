/- Joined texts: ObOpen. No condition but what stands in each. -/
import Derived.Test.YtehmhfbfgniekaaGreatDoorZWalkLessJ19
import Derived.Deep.Slices
import Derived.Deep.Fields
import Derived.Deep.Strs
import Derived.ChangeSame
import Derived.Lib.SmallJoins
namespace Go.Proofs.YtehmhfbfgniekaaGreatDoor.Ob
set_option linter.unusedVariables false
set_option linter.unusedSimpArgs false
set_option maxRecDepth 100000
open Go Go.RowKit Go.ChangeShapes Go.WideShapes Go.Deep Go.Joins Go.Proofs.YtehmhfbfgniekaaGreatDoorW.PrintWords Go.Proofs.YtehmhfbfgniekaaGreatDoorW.PrintLast Go.Proofs.YtehmhfbfgniekaaGreatDoorW.PrintMore PObBase PObDoc
section
variable {H : Type} {enc : TypeId × Value → H} {P : Program} {w : World} {base : Nat} {spare : Nat → Bool} {held : Bool}
theorem choose_list {α : Type} {p : Nat → α → Prop} : ∀ n : Nat, (∀ i, i < n → ∃ x, p i x) → ∃ l : List α, l.length = n ∧ ∀ i x, l[i]? = some x → p i x
  | 0, _ => ⟨[], rfl, fun i x h => by cases i <;> cases h⟩
  | n + 1, h => by
    obtain ⟨l, hl, hp⟩ := choose_list n (fun i hi => h i (by omega))
    obtain ⟨x, hx⟩ := h n (by omega)
    refine ⟨l ++ [x], by simp [hl], fun i y hy => ?_⟩
    by_cases hi : i < n
    · rw [List.getElem?_append_left (by omega)] at hy
      exact hp i y hy
    · have : i = n := by
        have := (List.getElem?_eq_some_iff.1 hy).1
        simp at this; omega
      subst this
      rw [← hl, List.getElem?_concat_length] at hy
      cases hy
      exact hx
end
def IsStrs (w : World) (a : Option Addr) (len cap : Nat) (l : List ByteArray) : Prop :=
  (a = none ∧ len = 0 ∧ cap = 0 ∧ l = []) ∨
  ∃ x, a = some x ∧ len ≤ cap ∧ cap ≤ maxLen ∧ l.length = len ∧ ∀ i s, l[i]? = some s → w.cell? (x.add i) = some (.string s)
section
variable {H : Type} {enc : TypeId × Value → H} {w : World} {base : Nat} {spare : Nat → Bool} {held : Bool}
theorem open_texts {v : Value} {fuel : Nat} {x : DataW H × List MemPlace} (h : DataW.trod enc Tryz.prog w base spare held fuel 23 [v] = some x) (hw : ∀ z ∈ DataW.weights Tryz.prog 23 x.1, z ≤ reachBytes) : ∃ a len cap l, v = .slice a len cap ∧ IsStrs w a len cap l ∧ len ≤ 140737488355328 := by
  rcases open_strs Tryz.underlying23 Tryz.underlying9 (by kernel_rfl) h with ⟨hcs, _⟩ | ⟨a, len, cap, m, Sx, hcs, hb, hl, hm, hmm, hx, hi⟩
  · injection hcs with hcs _
    exact ⟨_, _, _, [], hcs, .inl ⟨rfl, rfl, rfl, rfl⟩, Nat.zero_le _⟩
  · injection hcs with hcs _
    have hlm : len ≤ m := by rw [hmm]; split <;> omega
    have hz : len ≤ 140737488355328 := by
      rw [hx] at hw
      have h16 : Tryz.prog.bytesOf 9 = 16 := by kernel_rfl
      have := hw ((len + (m - len)) * 16) (by
        unfold DataW.weights
        rw [Tryz.underlying23]
        simp only [List.length_map, List.length_range, h16]
        exact List.mem_cons_self)
      unfold reachBytes at this
      omega
    refine ⟨_, _, _, (List.range len).map Sx, hcs, .inr ⟨a, rfl, hl, hm, by simp, fun i s hs => ?_⟩, hz⟩
    rw [List.getElem?_map] at hs
    have hil : i < len := by
      rcases Nat.lt_or_ge i len with h | h
      · exact h
      · rw [List.getElem?_eq_none (by simpa using h)] at hs; cases hs
    rw [List.getElem?_range hil] at hs
    injection hs with hs
    rw [← hs]
    exact (hi i (by omega)).1
variable {b0 : Nat} {v : Value} {d : DataW H} {p : List MemPlace}
end
theorem of_strs {w : World} {a : Option Addr} {len cap : Nat} {l : List ByteArray} (h : IsStrs w a len cap l) : l.length = len ∧ len ≤ cap ∧ Kd.C Kd.string w a len l := by
  rcases h with ⟨rfl, rfl, rfl, rfl⟩ | ⟨x, rfl, hl, hm, hz, hc⟩
  · exact ⟨rfl, Nat.le_refl _, Kd.C_nil _ _⟩
  · unfold maxLen at hm
    refine ⟨hz, hl, ?_⟩
    refine Kd.C_of_reads (enc := Value.string) (d := ByteArray.empty) ⟨hz, by omega, fun _ => ⟨x, rfl, fun j hj => ?_⟩⟩
    have hjl : j < l.length := by omega
    rw [hc j l[j] (List.getElem?_eq_getElem hjl)]
    simp [List.getD, hjl]
end Go.Proofs.YtehmhfbfgniekaaGreatDoor.Ob
