/- The document's tips, plainly. No condition but the reach of what comes in. -/
import Derived.Test.YtacgchklilfcaaaGreatDoorZRfTell
namespace Go.Proofs.YtacgchklilfcaaaGreatDoor.Rf
set_option linter.unusedVariables false
set_option linter.unusedSimpArgs false
set_option linter.unusedSectionVars false
open Go Go.RowKit Go.Proofs.YtacgchklilfcaaaGreatDoorW.PrintWords Go.Proofs.YtacgchklilfcaaaGreatDoorW.PrintLast Go.Proofs.YtacgchklilfcaaaGreatDoorW.PrintMore PRfBase PRfGet Go.Proofs.YtacgchklilfcaaaGreatDoor.Gl
theorem rdS {l : List ByteArray} {i : Nat} {x : ByteArray} (hx : l[i]? = some x) : rdOf ByteArray.empty l (i : Int) = x := by simp [rdOf, hx]
theorem rtips_l1 (l : List Ref) (hl : l.length ≤ 1000000000) (out : List ByteArray) (ho : out.length ≤ 1000000000) (i : Nat) (x : Ref) (hx : l[i]? = some x) (r : List ByteArray) : ∀ (d j : Nat) (acc : List ByteArray) (done : Bool), out.length - j = d → j ≤ out.length → acc.length ≤ 2 * j →
    Ev (fun k => r09_Tips.l0 k l (acc ++ insL id x.f1 done (out.drop j)) ((i + 1 : Nat) : Int)) r → Ev (fun k => r09_Tips.l1 k l out (i : Int) acc done (j : Int)) r := by
  have hil := (List.getElem?_eq_some_iff.1 hx).1
  have hw := wr1 hil (by omega)
  have c1 : (0 : Int) ≤ (i : Int) := by omega
  have c2 : (i : Int) < (l.length : Int) := by omega
  intro d
  induction d with
  | zero =>
    intro j acc done hj hjl ha h
    rw [List.drop_of_length_le (by omega), insL] at h
    have c3 : acc.length < 8796093022208 := by omega
    cases done with
    | true =>
      rw [if_pos rfl, List.append_nil] at h
      refine Ev.step (fun k => ?_) h
      simp only [r09_Tips.l1]
      rw [if_neg (by omega), if_pos trivial, hw]
    | false =>
      rw [if_neg (by simp)] at h
      refine Ev.step (fun k => ?_) h
      simp only [r09_Tips.l1]
      rw [if_neg (by omega), if_neg (by simp), if_pos c1, if_pos c2, if_pos c3, rdR hx, hw]
  | succ d ih =>
    intro j acc done hj hjl ha h
    have hlt : j < out.length := by omega
    obtain ⟨y, hy⟩ : ∃ y, out[j]? = some y := ⟨_, List.getElem?_eq_getElem hlt⟩
    have hwj := wr1 hlt (by omega)
    have c3 : acc.length < 8796093022208 := by omega
    have c4 : (acc ++ [x.f1]).length < 8796093022208 := by rw [List.length_append]; simp; omega
    have c5 : (0 : Int) ≤ (j : Int) := by omega
    have c6 : (j : Int) < (out.length : Int) := by omega
    have hbl : Op.bytesLess y.toList x.f1.toList = decide (L y < L x.f1) := by rw [toL, toL, bytesLess_eq]
    rw [drop_at hy, insL] at h
    simp only [id_eq] at h
    obtain ⟨b, hb⟩ : ∃ b, b = (if done = false then !decide (L y < L x.f1) else false) := ⟨_, rfl⟩
    have hgo : Ev (fun k => r09_Tips.j2 k l out (i : Int) acc done (j : Int) b) r := by
      cases hbb : b with
      | true =>
        have hd : done = false := by
          cases hdn : done with
          | true => rw [hdn, if_neg (by simp)] at hb; rw [hb] at hbb; cases hbb
          | false => rfl
        subst hd
        rw [if_pos rfl, hbb] at hb
        have hnlt : ¬ L y < L x.f1 := by
          intro h
          rw [decide_eq_true h] at hb; cases hb
        rw [if_pos ⟨rfl, hnlt⟩, decide_eq_false hnlt, show (false || !false) = true from rfl] at h
        by_cases he : y = x.f1
        · rw [if_pos he, List.nil_append, ← List.append_assoc] at h
          refine Ev.step (fun k => ?_) (ih (j + 1) (acc ++ [x.f1]) true (by omega) (by omega) (by rw [List.length_append]; simp; omega) h)
          simp only [r09_Tips.j2]
          rw [if_pos trivial, if_pos c1, if_pos c2, if_pos c3, rdR hx, Option.bind_some, if_pos c5, if_pos c6, rdS hy, if_pos (by rw [he]), hwj]
        · rw [if_neg he, ← List.append_assoc, ← List.append_assoc] at h
          refine Ev.step (fun k => ?_) (ih (j + 1) (acc ++ [x.f1] ++ [y]) true (by omega) (by omega) (by rw [List.length_append, List.length_append]; simp; omega) h)
          simp only [r09_Tips.j2]
          rw [if_pos trivial, if_pos c1, if_pos c2, if_pos c3, rdR hx, Option.bind_some, if_pos c5, if_pos c6, rdS hy, if_neg (fun e => he ((toL_inj _ _).1 e)), if_pos c4, hwj]
      | false =>
        have hno : ¬ (done = false ∧ ¬ L y < L x.f1) := by
          rintro ⟨h1, h2⟩
          rw [hbb, if_pos h1, decide_eq_false h2] at hb; cases hb
        have hdd : (done || !decide (L y < L x.f1)) = done := by
          cases hdn : done with
          | true => rfl
          | false =>
            by_cases h : L y < L x.f1
            · rw [decide_eq_true h]; rfl
            · exact absurd ⟨hdn, h⟩ hno
        rw [if_neg hno, hdd, List.nil_append] at h
        by_cases he : y = x.f1
        · rw [if_pos he, List.nil_append] at h
          refine Ev.step (fun k => ?_) (ih (j + 1) acc done (by omega) (by omega) (by omega) h)
          simp only [r09_Tips.j2]
          rw [if_neg (by simp), if_pos c5, if_pos c6, if_pos c1, if_pos c2, rdS hy, rdR hx, if_pos (by rw [he]), hwj]
        · rw [if_neg he, ← List.append_assoc] at h
          refine Ev.step (fun k => ?_) (ih (j + 1) (acc ++ [y]) done (by omega) (by omega) (by rw [List.length_append]; simp; omega) h)
          simp only [r09_Tips.j2]
          rw [if_neg (by simp), if_pos c5, if_pos c6, if_pos c1, if_pos c2, rdS hy, rdR hx, if_neg (fun e => he ((toL_inj _ _).1 e)), if_pos c3, hwj]
    refine Ev.step (fun k => ?_) hgo
    simp only [r09_Tips.l1]
    rw [if_pos c6]
    cases done with
    | true => rw [if_pos rfl, hb]; rfl
    | false => rw [if_neg (by simp), if_pos c5, if_pos c1, if_pos c2, rdS hy, rdR hx, hbl, hb]; rfl
theorem tips_keys' (l : List Ref) : Mp.KeysOf (fun s => by classical exact if s ∈ l.map (·.f1) then some (.bool true) else none) (tipsL l) := rise_keys (l.map (·.f1)) _ (fun s => by
  by_cases h : s ∈ l.map (·.f1)
  · simp [h]
  · simp [h])
theorem rtips_l0 (l : List Ref) (hl : l.length ≤ 1000000) : ∀ (d i : Nat) (out : List ByteArray), l.length - i = d → i ≤ l.length → out.length ≤ i → RiseK id out → (∀ s, s ∈ out ↔ s ∈ (l.take i).map (·.f1)) → Ev (fun k => r09_Tips.l0 k l out (i : Int)) (tipsL l) := by
  intro d
  induction d with
  | zero =>
    intro i out hi hil ho hr hm
    rw [List.take_of_length_le (by omega)] at hm
    have : out = tipsL l := Mp.keysOf_unique (m := fun s => by classical exact if s ∈ l.map (·.f1) then some (.bool true) else none) ⟨hr, fun s => by
      rw [hm]
      by_cases h : s ∈ l.map (·.f1)
      · simp [h]
      · simp [h]⟩ (tips_keys' l)
    rw [← this]
    refine Ev.step (f := fun _ => some out) (fun k => ?_) (Ev.now _)
    simp only [r09_Tips.l0]
    rw [if_neg (by omega)]
  | succ d ih =>
    intro i out hi hil ho hr hm
    have hlt : i < l.length := by omega
    obtain ⟨x, hx⟩ : ∃ x, l[i]? = some x := ⟨_, List.getElem?_eq_getElem hlt⟩
    obtain ⟨g1, g2⟩ := insL_false id x.f1 out hr
    have g3 := insL_once id x.f1 out
    refine Ev.step (f := fun k => r09_Tips.l1 k l out (i : Int) [] false ((0 : Nat) : Int)) (fun k => ?_) (rtips_l1 l (by omega) out (by omega) i x hx _ _ 0 [] false rfl (Nat.zero_le _) (Nat.zero_le _) ?_)
    · simp only [r09_Tips.l0]
      rw [if_pos (by omega)]; rfl
    · rw [List.drop_zero, List.nil_append]
      refine ih (i + 1) _ (by omega) (by omega) (by omega) g1 (fun s => ?_)
      rw [g2, List.take_add_one, hx, List.map_append, List.mem_append, hm]
      constructor
      · rintro (rfl | ⟨h, _⟩)
        · exact .inr (by simp)
        · exact .inl h
      · rintro (h | h)
        · by_cases he : s = x.f1
          · exact .inl he
          · exact .inr ⟨h, he⟩
        · exact .inl (by simpa using h)
theorem rtips_ev (l : List Ref) (hl : l.length ≤ 1000000) : Ev (fun k => r09_Tips.f k l) (tipsL l) := rtips_l0 l hl _ 0 [] rfl (Nat.zero_le _) (Nat.le_refl _) List.Pairwise.nil (fun s => by simp)
theorem texts_l0 (a : List ByteArray) (ha : a.length ≤ 1000000000) : ∀ (d i : Nat), a.length - i = d → Ev (fun k => r04_SameTexts.l0 k a a (i : Int)) true := by
  intro d
  induction d with
  | zero =>
    intro i hi
    refine Ev.step (f := fun _ => some true) (fun k => ?_) (Ev.now _)
    simp only [r04_SameTexts.l0]
    rw [if_neg (by omega)]
  | succ d ih =>
    intro i hi
    have hlt : i < a.length := by omega
    refine Ev.step (fun k => ?_) (ih (i + 1) (by omega))
    simp only [r04_SameTexts.l0]
    rw [if_pos (by omega), if_pos (by omega), if_pos (by omega), if_pos trivial, wr1 hlt (by omega)]
theorem texts_ev (a : List ByteArray) (ha : a.length ≤ 1000000000) : Ev (fun k => r04_SameTexts.f k a a) true := by
  unfold r04_SameTexts.f
  exact Ev.congr (fun k => if_pos rfl) (texts_l0 a ha _ 0 rfl)
theorem tips_len' (l : List Ref) : (tipsL l).length ≤ l.length := by
  unfold tipsL riseL
  rw [List.length_mergeSort]
  have : ∀ m : List ByteArray, (onceL m).length ≤ m.length := by
    intro m
    induction m with
    | nil => exact Nat.le_refl _
    | cons x r ih =>
      unfold onceL
      split
      · simp; omega
      · simp; omega
  have := this (l.map (·.f1))
  rw [List.length_map] at this
  exact this
end Go.Proofs.YtacgchklilfcaaaGreatDoor.Rf
