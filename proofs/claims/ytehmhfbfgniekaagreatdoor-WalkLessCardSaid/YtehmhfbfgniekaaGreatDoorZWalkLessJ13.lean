/- Joined texts: ObCmp. No condition but what stands in each. -/
import Derived.Lib.SlicesCompact
import Derived.Lib.RowBridge
namespace Go.Proofs.YtehmhfbfgniekaaGreatDoor.Ob
open Go
theorem sorted_bytes (l : List (List UInt8)) : (l.mergeSort (fun x y => decide (x ≤ y))).Pairwise (fun x y => x ≤ y) := by
  have h := List.pairwise_mergeSort (le := fun (x y : List UInt8) => decide (x ≤ y)) (fun a b c h1 h2 => by simp only [decide_eq_true_eq] at *; exact List.le_trans h1 h2) (fun a b => by simp only [Bool.or_eq_true, decide_eq_true_eq]; exact List.le_total a b) l
  exact h.imp (fun h => of_decide_eq_true h)
theorem compact_len {s : List (List UInt8)} (hs : s.Pairwise (fun x y => x ≤ y)) : (Lib.compact s).length = s.length ↔ s.Nodup := by
  have e : (Lib.compact s).length = ((List.range s.length).filter (Lib.keeps s.toArray)).length := by simp [Lib.compact, Lib.compactUpTo]
  have hall : (Lib.compact s).length = s.length ↔ ∀ j, j < s.length → Lib.keeps s.toArray j = true := by
    rw [e]
    constructor
    · intro h j hj
      have := List.length_filter_eq_length_iff.1 (h.trans List.length_range.symm)
      exact this j (List.mem_range.2 hj)
    · intro h
      rw [List.filter_eq_self.2 (fun j hj => h j (List.mem_range.1 hj)), List.length_range]
  rw [hall]
  have hk : ∀ j (h0 : 0 < j) (hj : j < s.length), Lib.keeps s.toArray j = true ↔ s[j] ≠ s[j - 1] := by
    intro j h0 hj
    unfold Lib.keeps
    rw [decide_eq_true_iff]
    have h1 : s.toArray[j]! = s[j] := by rw [getElem!_pos s.toArray j (by simpa using hj)]; simp
    have h2 : s.toArray[j - 1]! = s[j - 1] := by rw [getElem!_pos s.toArray (j - 1) (by simp; omega)]; simp
    rw [h1, h2]
    exact ⟨fun h => h.resolve_left (by omega), .inr⟩
  rw [List.Nodup, List.pairwise_iff_getElem]
  rw [List.pairwise_iff_getElem] at hs
  constructor
  · intro h i j hi hj hij he
    have hj0 : 0 < j := by omega
    have h1 := (hk j hj0 hj).1 (h j hj)
    apply h1
    rcases Nat.lt_or_ge i (j - 1) with hlt | hge
    · have a1 := hs i (j - 1) hi (by omega) hlt
      have a2 := hs (j - 1) j (by omega) hj (by omega)
      rw [he] at a1
      exact List.le_antisymm a1 a2
    · have : i = j - 1 := by omega
      subst this
      exact he.symm
  · intro h j hj
    rcases Nat.eq_zero_or_pos j with rfl | h0
    · exact Lib.keeps_lt_one _ 0 (by omega)
    · rw [hk j h0 hj]
      exact fun e => h (j - 1) j (by omega) hj (by omega) e.symm
theorem compact_sort (l : List (List UInt8)) : (Lib.compact (l.mergeSort (fun x y => decide (x ≤ y)))).length < l.length ↔ ¬ l.Nodup := by
  have h := compact_len (sorted_bytes l)
  rw [List.length_mergeSort, (List.mergeSort_perm l _).nodup_iff] at h
  have h2 := Lib.compact_length_le (l.mergeSort (fun x y => decide (x ≤ y)))
  rw [List.length_mergeSort] at h2
  rw [← h]; omega
end Go.Proofs.YtehmhfbfgniekaaGreatDoor.Ob
