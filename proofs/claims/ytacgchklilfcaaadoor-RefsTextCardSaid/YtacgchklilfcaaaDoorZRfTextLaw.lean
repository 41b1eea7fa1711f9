/- RefsText, plainly. No condition. -/
import Derived.Test.YtacgchklilfcaaaDoorZRfS6
import Derived.Test.YtacgchklilfcaaaDoorZPRefsTextx0
import Derived.Test.YtacgchklilfcaaaDoorZPRefsTextx1
namespace Go.Proofs.YtacgchklilfcaaaDoor.Rf
set_option linter.unusedVariables false
set_option linter.unusedSimpArgs false
open Go Go.RowKit Go.Proofs.YtacgchklilfcaaaDoorW.PrintWords Go.Proofs.YtacgchklilfcaaaDoorW.PrintLast Go.Proofs.YtacgchklilfcaaaDoorW.PrintMore PRfBase PRfGet PRefsText Go.Proofs.YtacgchklilfcaaaDoor.Gl
theorem putL_snd (l : List Ref) : (putL l).2 = rightB l := by
  unfold putL
  cases rightB l <;> rfl
theorem tips_mem (l : List Ref) (s : ByteArray) : s ∈ tipsL l ↔ s ∈ l.map (·.f1) := (List.mergeSort_perm _ _).mem_iff.trans (mem_once _ _)
theorem tips_keys (l : List Ref) : Mp.KeysOf (fun s => by classical exact if s ∈ l.map (·.f1) then some (.bool true) else none) (tipsL l) := rise_keys (l.map (·.f1)) _ (fun s => by
  by_cases h : s ∈ l.map (·.f1)
  · simp [h]
  · simp [h])
theorem tips_rising (l : List Ref) : (tipsL l).Pairwise (fun x y => L x < L y) := (tips_keys l).rising
theorem once_len (l : List ByteArray) : (onceL l).length ≤ l.length := by
  induction l with
  | nil => exact Nat.le_refl _
  | cons x r ih =>
    unfold onceL
    split
    · simp; omega
    · simp; omega
theorem tips_len (l : List Ref) : (tipsL l).length ≤ l.length := by
  unfold tipsL riseL
  rw [List.length_mergeSort]
  have := once_len (l.map (·.f1))
  rw [List.length_map] at this
  exact this
theorem getL_cases (s : ByteArray) (hs : s.size ≤ 1000000000) : ((getL s).2 = true ∧ Zsh (getL s).1 ∧ putL (getL s).1 = (s, true)) ∨ ((getL s).2 = false ∧ (getL s).1 = []) := by
  unfold getL
  by_cases h : (putL (readL s)).2 = true ∧ (putL (readL s)).1 = s
  · rw [if_pos h]
    exact .inl ⟨rfl, parse_sh _ _ (by rw [L_len]; exact hs), Prod.ext h.2 h.1⟩
  · rw [if_neg h]
    exact .inr ⟨rfl, rfl⟩
theorem text_end (l : List Ref) (s : ByteArray) (hs : s.size ≤ 1000000000) (hl : (tipsL l).length ≤ 1000000000) : ∀ (d i : Nat), (tipsL l).length - i = d → 1 ≤ i → Ev (fun k => sacristylaw09_RefsText.l1 k s true (tipsL l) (i : Int)) true := by
  intro d
  induction d with
  | zero =>
    intro i hd hi
    refine Ev.step (f := fun k => (refs_Get.f k s).bind fun t => if t.2 = true then (Gv.put.f t.1).bind fun u => if u.2 = true then some (u.1.toList == s.toList) else some false else some ((t.1.length : Int) == 0)) (fun k => ?_) ?_
    · simp only [sacristylaw09_RefsText.l1]
      rw [if_neg (by omega)]
      simp
    · refine Ev.bind (get_ev s hs) ?_
      rcases getL_cases s hs with ⟨h1, h2, h3⟩ | ⟨h1, h2⟩
      · refine Ev.congr (fun k => ?_) (Ev.now _)
        rw [if_pos h1, Gv.put.f_eq h2, h3]; simp
      · refine Ev.congr (fun k => ?_) (Ev.now _)
        rw [h1, h2]; simp
  | succ d ih =>
    intro i hd hi
    refine Ev.step (fun k => ?_) (ih (i + 1) (by omega) (by omega))
    simp only [sacristylaw09_RefsText.l1]
    have e1 : wrap64 ((i : Int) - 1) = ((i - 1 : Nat) : Int) := by rw [w64 _ (by omega) (by omega)]; omega
    have e2 : wrap64 ((i : Int) + 1) = ((i + 1 : Nat) : Int) := by rw [w64 _ (by omega) (by omega)]; omega
    have h1 : i - 1 < (tipsL l).length := by omega
    have h2 : i < (tipsL l).length := by omega
    have hlt := List.pairwise_iff_getElem.1 (tips_rising l) (i - 1) i h1 h2 (by omega)
    rw [if_pos (by omega), e1, if_pos (by omega), if_pos (by omega), if_pos (by omega), if_pos, e2]
    have ra : rdOf ByteArray.empty (tipsL l) ((i - 1 : Nat) : Int) = (tipsL l)[i - 1] := by simp [rdOf, h1]
    have rb : rdOf ByteArray.empty (tipsL l) (i : Int) = (tipsL l)[i] := by simp [rdOf, h2]
    rw [ra, rb, bytesLess_eq, decide_eq_true_iff, toL, toL]
    exact hlt
theorem text_has (l : List Ref) (s : ByteArray) (hs : s.size ≤ 1000000000) (hll : l.length ≤ 1000000000) : ∀ (d i : Nat), l.length - i = d → Ev (fun k => sacristylaw09_RefsText.l0 k l s true (tipsL l) (i : Int)) true := by
  have htl := tips_len l
  intro d
  induction d with
  | zero =>
    intro i hd
    refine Ev.step (fun k => ?_) (text_end l s hs (by omega) _ 1 rfl (Nat.le_refl _))
    simp only [sacristylaw09_RefsText.l0]
    rw [if_neg (by omega)]; rfl
  | succ d ih =>
    intro i hd
    have hil : i < l.length := by omega
    obtain ⟨x, hx⟩ : ∃ x, l[i]? = some x := ⟨_, List.getElem?_eq_getElem hil⟩
    have hrd : rd_T40 l (i : Int) = x := by simp [rd_T40, hx]
    have e2 : wrap64 ((i : Int) + 1) = ((i + 1 : Nat) : Int) := by rw [w64 _ (by omega) (by omega)]; omega
    obtain ⟨r, hr, hr2⟩ := has_ev (tipsL l) x.f1 (by omega)
    have hrt : r = true := hr2.2 ((tips_mem l x.f1).2 (List.mem_map.2 ⟨x, List.mem_of_getElem? hx, rfl⟩))
    subst hrt
    refine Ev.step (f := fun k => (sacristyref05_Has.f k (tipsL l) x.f1).bind fun t => if t = true then sacristylaw09_RefsText.l0 k l s true (tipsL l) ((i + 1 : Nat) : Int) else some false) (fun k => ?_) ?_
    · simp only [sacristylaw09_RefsText.l0]
      rw [if_pos (by omega), if_pos (by omega), hrd, e2]
    · exact Ev.bind hr (Ev.congr (fun k => if_pos rfl) (ih (i + 1) (by omega)))
theorem refsText_ev (l : List Ref) (s : ByteArray) : Ev (fun k => sacristylaw09_RefsText.f k l s) true := by
  obtain ⟨b, hb, hb2⟩ := great_ev l
  unfold sacristylaw09_RefsText.f
  show Ev (fun k => (Gv.head.f).bind fun t101 => _) true
  refine Ev.congr (g := fun k => (sacristylaw09_Great.f k l).bind fun t102 => if t102 = true then sacristylaw09_RefsText.j0 k l s true true else sacristylaw09_RefsText.j0 k l s true (decide ((s.size : Int) > 9000))) (fun k => rfl) (Ev.bind hb ?_)
  have hyes : Ev (fun k => sacristylaw09_RefsText.j0 k l s true true) true := Ev.step (f := fun _ => some true) (fun k => by simp [sacristylaw09_RefsText.j0]) (Ev.now _)
  cases b with
  | true => exact Ev.congr (fun k => if_pos rfl) hyes
  | false =>
    refine Ev.congr (fun k => if_neg (by simp)) ?_
    have hz := hb2 rfl
    by_cases hs : (s.size : Int) > 9000
    · rw [decide_eq_true hs]; exact hyes
    · rw [decide_eq_false hs]
      have hj1 : Ev (fun k => sacristylaw09_RefsText.j1 k l s true) true := by
        refine Ev.step (fun k => ?_) (text_has l s (by omega) (by have := hz.1; omega) _ 0 rfl)
        simp only [sacristylaw09_RefsText.j1]
        rw [Gv.tips.f_eq hz.rsh (by have := hz.1; omega)]; rfl
      by_cases hr : rightB l = true
      · have hsz : (textL l).size ≤ 1000000000 := by
          rw [← L_len, L_text]
          have h1 : (linesL l).length ≤ l.length * 40002 := by
            have hz2 := hz.2
            clear hb hb2 hyes hj1 hr hz
            induction l with
            | nil => simp [linesL]
            | cons x r ih =>
              have h1 := hz2 x List.mem_cons_self
              have ih := ih (fun y hy => hz2 y (List.mem_cons_of_mem _ hy))
              have e : linesL (x :: r) = L (lineS x) ++ linesL r := by simp [linesL]
              rw [e, List.length_append, L_len, lineS_size, List.length_cons]
              omega
          have := hz.1
          omega
        refine Ev.step (f := fun k => (refs_Get.f k (textL l)).bind fun t => if t.2 = true then (sacristyref09_Same.f k t.1 l).bind fun t110 => if t110 = true then sacristylaw09_RefsText.j1 k l s true else some false else some false) (fun k => ?_) ?_
        · simp only [sacristylaw09_RefsText.j0]
          rw [if_neg (by simp), Gv.put.f_eq hz.zsh, Gv.right.f_eq hz.zsh, put_right hr, hr]; rfl
        · refine Ev.bind (get_ev _ hsz) ?_
          rw [get_text hr]
          refine Ev.congr (fun k => if_pos rfl) (Ev.bind (same_ev l l (by have := hz.1; omega)) ?_)
          rw [(sameB_iff l l).2 rfl]
          exact Ev.congr (fun k => if_pos rfl) hj1
      · refine Ev.step (fun k => ?_) hj1
        simp only [sacristylaw09_RefsText.j0]
        rw [if_neg (by simp), Gv.put.f_eq hz.zsh, Gv.right.f_eq hz.zsh, Option.bind_some, Option.bind_some, putL_snd]
        simp [hr]
end Go.Proofs.YtacgchklilfcaaaDoor.Rf
