/- Joined texts: ObOpen. No condition but what stands in each. -/
import Derived.Test.YtefefhhaopjccaaGreatDoorZObjectWantsJ18
import Derived.Deep.Slices
import Derived.Deep.Fields
import Derived.Deep.Strs
import Derived.ChangeSame
import Derived.Lib.SmallJoins
namespace Go.Proofs.YtefefhhaopjccaaGreatDoor.Ob
set_option linter.unusedVariables false
set_option linter.unusedSimpArgs false
set_option maxRecDepth 100000
open Go Go.RowKit Go.ChangeShapes Go.WideShapes Go.Deep Go.Joins Go.Proofs.YtefefhhaopjccaaGreatDoorW.PrintWords Go.Proofs.YtefefhhaopjccaaGreatDoorW.PrintLast Go.Proofs.YtefefhhaopjccaaGreatDoorW.PrintMore PObBase
section
variable {H : Type} {enc : TypeId × Value → H} {P : Program} {w : World} {base : Nat} {spare : Nat → Bool} {held : Bool}
theorem open_slice_fields {t e : TypeId} {fs : Array Field} {fuel : Nat} {cs : List Value} {x : DataW H × List MemPlace} (ht : P.underlying t = some (.slice e)) (he : P.underlying e = some (.struct fs))
    (hone : oneCellFields P fs = true) (hC : P.cellsOf e = fs.size) (h : DataW.trod enc P w base spare held fuel t cs = some x) :
    (cs = [.slice none 0 0] ∧ x = (.nil, [])) ∨
    ∃ (a : Addr) (len cap m : Nat), cs = [.slice (some a) len cap] ∧ len ≤ cap ∧ cap ≤ maxLen ∧ m = (if spare a.block then cap else len) ∧
      ∀ i, i < m → ∃ n : Nat, ∀ (j : Nat) (f : Field), fs[j]? = some f → ∃ (v : Value) (y : DataW H × List MemPlace), w.cell? (a.add (i * fs.size + j)) = some v ∧ DataW.trod enc P w base spare held n f.type [v] = some y := by
  rcases open_slice ht h with h0 | ⟨a, len, cap, m, n, D, Pl, hcs, hb, hl, hm, hmm, hx, hi⟩
  · exact .inl h0
  · refine .inr ⟨a, len, cap, m, hcs, hl, hm, hmm, fun i him => ?_⟩
    obtain ⟨cs', hc, ht'⟩ := hi i him
    rw [hC] at hc
    obtain ⟨ys, n', hn', hy, hlen, hyl, hf⟩ := DataW.trod_struct he ht'
    obtain ⟨_, hcl, hat⟩ := World.cells?_some hc
    refine ⟨n', fun j f hj => ?_⟩
    obtain ⟨ho, hk⟩ := hone_of hone j f hj
    have hjl : j < fs.size := (Array.getElem?_eq_some_iff.1 hj).1
    have hcell := hat j hjl
    have hv : cs'[j]? = some (cs'[j]'(by omega)) := List.getElem?_eq_getElem (by omega)
    have h1 := hf j f hj
    rw [ho, hk] at h1
    have hone' : (cs'.drop j).take 1 = [cs'[j]'(by omega)] := by
      rw [List.drop_eq_getElem_cons (by omega)]
      rfl
    rw [hone'] at h1
    have hys : ys[j]? = some (ys[j]'(by omega)) := List.getElem?_eq_getElem (by omega)
    refine ⟨_, _, ?_, h1.trans hys⟩
    rw [← Go.Deep.add_add, hcell, hv]
theorem choose_list {α : Type} {p : Nat → α → Prop} : ∀ n : Nat, (∀ i, i < n → ∃ x, p i x) → ∃ l : List α, l.length = n ∧ ∀ i x, l[i]? = some x → p i x
  | 0, _ => ⟨[], rfl, fun i x h => by cases i <;> cases h⟩
  | n + 1, h => by
    obtain ⟨l, hl, hp⟩ := choose_list n (fun i hi => h i (by omega))
    obtain ⟨x, hx⟩ := h n (by omega)
    refine ⟨l ++ [x], by simp [hl], fun i y hy => ?_⟩
    by_cases hi : i < n
    · rw [List.getElem?_append_left (by omega)] at hy
      exact hp i y hy
    · have : i = n := by
        have := (List.getElem?_eq_some_iff.1 hy).1
        simp at this; omega
      subst this
      rw [← hl, List.getElem?_concat_length] at hy
      cases hy
      exact hx
end
def IsItems (w : World) (a : Option Addr) (len cap : Nat) (l : List It) : Prop :=
  (a = none ∧ len = 0 ∧ cap = 0 ∧ l = []) ∨
  ∃ x, a = some x ∧ len ≤ cap ∧ cap ≤ maxLen ∧ l.length = len ∧ ∀ i r, l[i]? = some r → w.cell? (x.add (i * 3 + 0)) = some (.int .i64 r.f0) ∧ w.cell? (x.add (i * 3 + 1)) = some (.string r.f1) ∧ w.cell? (x.add (i * 3 + 2)) = some (.string r.f2)
def IsStrs (w : World) (a : Option Addr) (len cap : Nat) (l : List ByteArray) : Prop :=
  (a = none ∧ len = 0 ∧ cap = 0 ∧ l = []) ∨
  ∃ x, a = some x ∧ len ≤ cap ∧ cap ≤ maxLen ∧ l.length = len ∧ ∀ i s, l[i]? = some s → w.cell? (x.add i) = some (.string s)
section
variable {H : Type} {enc : TypeId × Value → H} {w : World} {base : Nat} {spare : Nat → Bool} {held : Bool}
theorem open_items {a0 : Option Addr} {len0 cap0 fuel : Nat} {x : DataW H × List MemPlace} (h : DataW.trod enc Tryz.prog w base spare held fuel 30 [.slice a0 len0 cap0] = some x) : ∃ l, IsItems w a0 len0 cap0 l := by
  rcases open_slice_fields Tryz.underlying30 Tryz.underlying54 (by kernel_rfl) (by kernel_rfl) h with ⟨hcs, _⟩ | ⟨a, len, cap, m, hcs, hl, hm, hmm, hi⟩
  · injection hcs with hcs _
    injection hcs with h1 h2 h3
    subst h1 h2 h3
    exact ⟨[], .inl ⟨rfl, rfl, rfl, rfl⟩⟩
  · injection hcs with hcs _
    injection hcs with h1 h2 h3
    subst h1 h2 h3
    have hlm : len0 ≤ m := by rw [hmm]; split <;> omega
    obtain ⟨l, hll, hp⟩ := choose_list (p := fun i (r : It) => w.cell? (a.add (i * 3 + 0)) = some (.int .i64 r.f0) ∧ w.cell? (a.add (i * 3 + 1)) = some (.string r.f1) ∧ w.cell? (a.add (i * 3 + 2)) = some (.string r.f2)) len0 (fun i hil => by
      obtain ⟨n, hf⟩ := hi i (by omega)
      obtain ⟨v0, y0, c0, t0⟩ := hf 0 _ rfl
      obtain ⟨v1, y1, c1, t1⟩ := hf 1 _ rfl
      obtain ⟨v2, y2, c2, t2⟩ := hf 2 _ rfl
      obtain ⟨s0, e0, _⟩ := DataW.trod_int Tryz.underlying3 t0
      obtain ⟨s1, e1, _⟩ := DataW.trod_string Tryz.underlying9 t1
      obtain ⟨s2, e2, _⟩ := DataW.trod_string Tryz.underlying9 t2
      injection e0 with e0 _
      injection e1 with e1 _
      injection e2 with e2 _
      subst e0 e1 e2
      exact ⟨⟨s0, s1, s2⟩, c0, c1, c2⟩)
    exact ⟨l, .inr ⟨a, rfl, hl, hm, hll, hp⟩⟩
theorem open_texts {v : Value} {fuel : Nat} {x : DataW H × List MemPlace} (h : DataW.trod enc Tryz.prog w base spare held fuel 38 [v] = some x) (hw : ∀ z ∈ DataW.weights Tryz.prog 38 x.1, z ≤ reachBytes) : ∃ a len cap l, v = .slice a len cap ∧ IsStrs w a len cap l ∧ len ≤ 140737488355328 := by
  rcases open_strs Tryz.underlying38 Tryz.underlying9 (by kernel_rfl) h with ⟨hcs, _⟩ | ⟨a, len, cap, m, Sx, hcs, hb, hl, hm, hmm, hx, hi⟩
  · injection hcs with hcs _
    exact ⟨_, _, _, [], hcs, .inl ⟨rfl, rfl, rfl, rfl⟩, Nat.zero_le _⟩
  · injection hcs with hcs _
    have hlm : len ≤ m := by rw [hmm]; split <;> omega
    have hz : len ≤ 140737488355328 := by
      rw [hx] at hw
      have h16 : Tryz.prog.bytesOf 9 = 16 := by kernel_rfl
      have := hw ((len + (m - len)) * 16) (by
        unfold DataW.weights
        rw [Tryz.underlying38]
        simp only [List.length_map, List.length_range, h16]
        exact List.mem_cons_self)
      unfold reachBytes at this
      omega
    refine ⟨_, _, _, (List.range len).map Sx, hcs, .inr ⟨a, rfl, hl, hm, by simp, fun i s hs => ?_⟩, hz⟩
    rw [List.getElem?_map] at hs
    have hil : i < len := by
      rcases Nat.lt_or_ge i len with h | h
      · exact h
      · rw [List.getElem?_eq_none (by simpa using h)] at hs; cases hs
    rw [List.getElem?_range hil] at hs
    injection hs with hs
    rw [← hs]
    exact (hi i (by omega)).1
variable {b0 : Nat} {v : Value} {d : DataW H} {p : List MemPlace}
theorem open_change {r : Reach} (hv : Value.okWide Tryz.prog w r b0 40 v) (h : DataW.Trod enc Tryz.prog w base spare held 40 v d p) (hw : ∀ z ∈ DataW.weights Tryz.prog 40 d, z ≤ reachBytes) : ∃ (s0 : ByteArray) (a : Option Addr) (len cap : Nat) (l : List ByteArray) (s2 s3 : ByteArray), v = .agg #[.string s0, .slice a len cap, .string s2, .string s3] ∧ IsStrs w a len cap l ∧ len ≤ 140737488355328 := by
  obtain ⟨v0, v1, v2, v3, y0, y1, y2, y3, n, rfl, rfl, _, h0, h1, h2, h3⟩ := open_agg4 Tryz.underlying40 (by kernel_rfl) (by kernel_rfl) hv h
  obtain ⟨s0, e0, _⟩ := DataW.trod_string Tryz.underlying9 h0
  obtain ⟨a, len, cap, l, e1, hl⟩ := open_texts h1 (fun z hz => hw z (by
    unfold DataW.weights
    rw [Tryz.underlying40]
    show z ∈ DataW.weightsEach _ [9, 38, 9, 9] _
    simp only [DataW.weightsEach, List.mem_append]
    exact .inr (.inl hz)))
  obtain ⟨s2, e2, _⟩ := DataW.trod_string Tryz.underlying9 h2
  obtain ⟨s3, e3, _⟩ := DataW.trod_string Tryz.underlying9 h3
  injection e0 with e0 _
  injection e2 with e2 _
  injection e3 with e3 _
  subst e0 e1 e2 e3
  exact ⟨s0, a, len, cap, l, s2, s3, rfl, hl⟩
theorem open_label {r : Reach} (hv : Value.okWide Tryz.prog w r b0 42 v) (h : DataW.Trod enc Tryz.prog w base spare held 42 v d p) (hw : ∀ z ∈ DataW.weights Tryz.prog 42 d, z ≤ reachBytes) : ∃ (s0 : ByteArray) (k : Int) (s2 s3 : ByteArray), v = .agg #[.string s0, .int .i64 k, .string s2, .string s3] ∧ s0.size ≤ 140737488355328 ∧ s2.size ≤ 140737488355328 ∧ s3.size ≤ 140737488355328 := by
  obtain ⟨v0, v1, v2, v3, y0, y1, y2, y3, n, rfl, rfl, _, h0, h1, h2, h3⟩ := open_agg4 Tryz.underlying42 (by kernel_rfl) (by kernel_rfl) hv h
  have hmem : ∀ z, (z ∈ DataW.weights Tryz.prog 9 y0.1 ∨ z ∈ DataW.weights Tryz.prog 9 y2.1 ∨ z ∈ DataW.weights Tryz.prog 9 y3.1) → z ≤ reachBytes := fun z hz => hw z (by
    unfold DataW.weights
    rw [Tryz.underlying42]
    show z ∈ DataW.weightsEach _ [9, 3, 9, 9] _
    simp only [DataW.weightsEach, List.mem_append]
    rcases hz with hz | hz | hz
    · exact .inl hz
    · exact .inr (.inr (.inl hz))
    · exact .inr (.inr (.inr (.inl hz))))
  obtain ⟨s0, e0, x0, _⟩ := DataW.trod_string Tryz.underlying9 h0
  obtain ⟨s1, e1, _⟩ := DataW.trod_int Tryz.underlying3 h1
  obtain ⟨s2, e2, x2, _⟩ := DataW.trod_string Tryz.underlying9 h2
  obtain ⟨s3, e3, x3, _⟩ := DataW.trod_string Tryz.underlying9 h3
  injection e0 with e0 _
  injection e1 with e1 _
  injection e2 with e2 _
  injection e3 with e3 _
  subst e0 e1 e2 e3
  have hlit : ∀ (s : ByteArray), s.data.toList.length ∈ DataW.weights (H := H) Tryz.prog 9 (.lit (.string s.data.toList)) := fun s => by simp [DataW.weights]
  have r0 := hmem _ (.inl (by rw [x0]; exact hlit s0))
  have r2 := hmem _ (.inr (.inl (by rw [x2]; exact hlit s2)))
  have r3 := hmem _ (.inr (.inr (by rw [x3]; exact hlit s3)))
  have hsz : ∀ s : ByteArray, s.data.toList.length = s.size := fun s => by simp
  rw [hsz] at r0 r2 r3
  unfold reachBytes at r0 r2 r3
  exact ⟨s0, s1, s2, s3, rfl, by omega, by omega, by omega⟩
end
theorem of_items {w : World} {a : Option Addr} {len cap : Nat} {l : List It} (h : IsItems w a len cap l) : l.length = len ∧ len ≤ cap ∧ Kd.C k54 w a len l := by
  rcases h with ⟨rfl, rfl, rfl, rfl⟩ | ⟨x, rfl, hl, hm, hz, hc⟩
  · exact ⟨rfl, Nat.le_refl _, Kd.C_nil _ _⟩
  · unfold maxLen at hm
    refine ⟨hz, hl, hz, by omega, fun _ => ⟨x, rfl, fun j p hj => ⟨_, rfl, k54_mk w p, fun i u hu => ?_⟩⟩⟩
    obtain ⟨c0, c1, c2⟩ := hc j p hj
    match i, hu with
    | 0, hu => cases hu; exact c0
    | 1, hu => cases hu; exact c1
    | 2, hu => cases hu; exact c2
theorem of_strs {w : World} {a : Option Addr} {len cap : Nat} {l : List ByteArray} (h : IsStrs w a len cap l) : l.length = len ∧ len ≤ cap ∧ Kd.C Kd.string w a len l := by
  rcases h with ⟨rfl, rfl, rfl, rfl⟩ | ⟨x, rfl, hl, hm, hz, hc⟩
  · exact ⟨rfl, Nat.le_refl _, Kd.C_nil _ _⟩
  · unfold maxLen at hm
    refine ⟨hz, hl, ?_⟩
    refine Kd.C_of_reads (enc := Value.string) (d := ByteArray.empty) ⟨hz, by omega, fun _ => ⟨x, rfl, fun j hj => ?_⟩⟩
    have hjl : j < l.length := by omega
    rw [hc j l[j] (List.getElem?_eq_getElem hjl)]
    simp [List.getD, hjl]
end Go.Proofs.YtefefhhaopjccaaGreatDoor.Ob
