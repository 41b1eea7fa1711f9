/- Joined texts: ObOpen. No condition but what stands in each. -/
import Derived.Test.YtefefhhaopjccaaGreatDoorZObjectChangesJ21
import Derived.Test.YtefefhhaopjccaaGreatDoorZObjectChangesJ15
import Derived.Deep.Slices
import Derived.Deep.Fields
import Derived.Deep.Strs
import Derived.ChangeSame
import Derived.Lib.SmallJoins
namespace Go.Proofs.YtefefhhaopjccaaGreatDoor.Ob
set_option linter.unusedVariables false
set_option linter.unusedSimpArgs false
set_option maxRecDepth 100000
open Go Go.RowKit Go.ChangeShapes Go.WideShapes Go.Deep Go.Joins Go.Proofs.YtefefhhaopjccaaGreatDoorW.PrintWords Go.Proofs.YtefefhhaopjccaaGreatDoorW.PrintLast Go.Proofs.YtefefhhaopjccaaGreatDoorW.PrintMore PObBase
section
variable {H : Type} {enc : TypeId × Value → H} {P : Program} {w : World} {base : Nat} {spare : Nat → Bool} {held : Bool}
end
def IsStrs (w : World) (a : Option Addr) (len cap : Nat) (l : List ByteArray) : Prop :=
  (a = none ∧ len = 0 ∧ cap = 0 ∧ l = []) ∨
  ∃ x, a = some x ∧ len ≤ cap ∧ cap ≤ maxLen ∧ l.length = len ∧ ∀ i s, l[i]? = some s → w.cell? (x.add i) = some (.string s)
section
variable {H : Type} {enc : TypeId × Value → H} {w : World} {base : Nat} {spare : Nat → Bool} {held : Bool}
theorem open_texts {v : Value} {fuel : Nat} {x : DataW H × List MemPlace} (h : DataW.trod enc Tryz.prog w base spare held fuel 38 [v] = some x) (hw : ∀ z ∈ DataW.weights Tryz.prog 38 x.1, z ≤ reachBytes) : ∃ a len cap l, v = .slice a len cap ∧ IsStrs w a len cap l ∧ len ≤ 140737488355328 := by
  rcases open_strs Tryz.underlying38 Tryz.underlying9 (by kernel_rfl) h with ⟨hcs, _⟩ | ⟨a, len, cap, m, Sx, hcs, hb, hl, hm, hmm, hx, hi⟩
  · injection hcs with hcs _
    exact ⟨_, _, _, [], hcs, .inl ⟨rfl, rfl, rfl, rfl⟩, Nat.zero_le _⟩
  · injection hcs with hcs _
    have hlm : len ≤ m := by rw [hmm]; split <;> omega
    have hz : len ≤ 140737488355328 := by
      rw [hx] at hw
      have h16 : Tryz.prog.bytesOf 9 = 16 := by kernel_rfl
      have := hw ((len + (m - len)) * 16) (by
        unfold DataW.weights
        rw [Tryz.underlying38]
        simp only [List.length_map, List.length_range, h16]
        exact List.mem_cons_self)
      unfold reachBytes at this
      omega
    refine ⟨_, _, _, (List.range len).map Sx, hcs, .inr ⟨a, rfl, hl, hm, by simp, fun i s hs => ?_⟩, hz⟩
    rw [List.getElem?_map] at hs
    have hil : i < len := by
      rcases Nat.lt_or_ge i len with h | h
      · exact h
      · rw [List.getElem?_eq_none (by simpa using h)] at hs; cases hs
    rw [List.getElem?_range hil] at hs
    injection hs with hs
    rw [← hs]
    exact (hi i (by omega)).1
variable {b0 : Nat} {v : Value} {d : DataW H} {p : List MemPlace}
theorem open_change {r : Reach} (hv : Value.okWide Tryz.prog w r b0 40 v) (h : DataW.Trod enc Tryz.prog w base spare held 40 v d p) (hw : ∀ z ∈ DataW.weights Tryz.prog 40 d, z ≤ reachBytes) : ∃ (s0 : ByteArray) (a : Option Addr) (len cap : Nat) (l : List ByteArray) (s2 s3 : ByteArray), v = .agg #[.string s0, .slice a len cap, .string s2, .string s3] ∧ IsStrs w a len cap l ∧ len ≤ 140737488355328 := by
  obtain ⟨v0, v1, v2, v3, y0, y1, y2, y3, n, rfl, rfl, _, h0, h1, h2, h3⟩ := open_agg4 Tryz.underlying40 (by kernel_rfl) (by kernel_rfl) hv h
  obtain ⟨s0, e0, _⟩ := DataW.trod_string Tryz.underlying9 h0
  obtain ⟨a, len, cap, l, e1, hl⟩ := open_texts h1 (fun z hz => hw z (by
    unfold DataW.weights
    rw [Tryz.underlying40]
    show z ∈ DataW.weightsEach _ [9, 38, 9, 9] _
    simp only [DataW.weightsEach, List.mem_append]
    exact .inr (.inl hz)))
  obtain ⟨s2, e2, _⟩ := DataW.trod_string Tryz.underlying9 h2
  obtain ⟨s3, e3, _⟩ := DataW.trod_string Tryz.underlying9 h3
  injection e0 with e0 _
  injection e2 with e2 _
  injection e3 with e3 _
  subst e0 e1 e2 e3
  exact ⟨s0, a, len, cap, l, s2, s3, rfl, hl⟩
theorem open_label {r : Reach} (hv : Value.okWide Tryz.prog w r b0 42 v) (h : DataW.Trod enc Tryz.prog w base spare held 42 v d p) (hw : ∀ z ∈ DataW.weights Tryz.prog 42 d, z ≤ reachBytes) : ∃ (s0 : ByteArray) (k : Int) (s2 s3 : ByteArray), v = .agg #[.string s0, .int .i64 k, .string s2, .string s3] ∧ s0.size ≤ 140737488355328 ∧ s2.size ≤ 140737488355328 ∧ s3.size ≤ 140737488355328 := by
  obtain ⟨v0, v1, v2, v3, y0, y1, y2, y3, n, rfl, rfl, _, h0, h1, h2, h3⟩ := open_agg4 Tryz.underlying42 (by kernel_rfl) (by kernel_rfl) hv h
  have hmem : ∀ z, (z ∈ DataW.weights Tryz.prog 9 y0.1 ∨ z ∈ DataW.weights Tryz.prog 9 y2.1 ∨ z ∈ DataW.weights Tryz.prog 9 y3.1) → z ≤ reachBytes := fun z hz => hw z (by
    unfold DataW.weights
    rw [Tryz.underlying42]
    show z ∈ DataW.weightsEach _ [9, 3, 9, 9] _
    simp only [DataW.weightsEach, List.mem_append]
    rcases hz with hz | hz | hz
    · exact .inl hz
    · exact .inr (.inr (.inl hz))
    · exact .inr (.inr (.inr (.inl hz))))
  obtain ⟨s0, e0, x0, _⟩ := DataW.trod_string Tryz.underlying9 h0
  obtain ⟨s1, e1, _⟩ := DataW.trod_int Tryz.underlying3 h1
  obtain ⟨s2, e2, x2, _⟩ := DataW.trod_string Tryz.underlying9 h2
  obtain ⟨s3, e3, x3, _⟩ := DataW.trod_string Tryz.underlying9 h3
  injection e0 with e0 _
  injection e1 with e1 _
  injection e2 with e2 _
  injection e3 with e3 _
  subst e0 e1 e2 e3
  have hlit : ∀ (s : ByteArray), s.data.toList.length ∈ DataW.weights (H := H) Tryz.prog 9 (.lit (.string s.data.toList)) := fun s => by simp [DataW.weights]
  have r0 := hmem _ (.inl (by rw [x0]; exact hlit s0))
  have r2 := hmem _ (.inr (.inl (by rw [x2]; exact hlit s2)))
  have r3 := hmem _ (.inr (.inr (by rw [x3]; exact hlit s3)))
  have hsz : ∀ s : ByteArray, s.data.toList.length = s.size := fun s => by simp
  rw [hsz] at r0 r2 r3
  unfold reachBytes at r0 r2 r3
  exact ⟨s0, s1, s2, s3, rfl, by omega, by omega, by omega⟩
end
theorem of_strs {w : World} {a : Option Addr} {len cap : Nat} {l : List ByteArray} (h : IsStrs w a len cap l) : l.length = len ∧ len ≤ cap ∧ Kd.C Kd.string w a len l := by
  rcases h with ⟨rfl, rfl, rfl, rfl⟩ | ⟨x, rfl, hl, hm, hz, hc⟩
  · exact ⟨rfl, Nat.le_refl _, Kd.C_nil _ _⟩
  · unfold maxLen at hm
    refine ⟨hz, hl, ?_⟩
    refine Kd.C_of_reads (enc := Value.string) (d := ByteArray.empty) ⟨hz, by omega, fun _ => ⟨x, rfl, fun j hj => ?_⟩⟩
    have hjl : j < l.length := by omega
    rw [hc j l[j] (List.getElem?_eq_getElem hjl)]
    simp [List.getD, hjl]
end Go.Proofs.YtefefhhaopjccaaGreatDoor.Ob
