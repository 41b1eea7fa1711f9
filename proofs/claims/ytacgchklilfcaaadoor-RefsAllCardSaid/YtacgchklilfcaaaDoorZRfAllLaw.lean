/- RefsAll, plainly. No condition. -/
import Derived.Test.YtacgchklilfcaaaDoorZRfP
import Derived.Test.YtacgchklilfcaaaDoorZPRefsAllx0
import Derived.Test.YtacgchklilfcaaaDoorZPRefsAllx1
namespace Go.Proofs.YtacgchklilfcaaaDoor.Rf
set_option linter.unusedVariables false
set_option linter.unusedSimpArgs false
set_option linter.unusedSectionVars false
open Go Go.RowKit Go.Proofs.YtacgchklilfcaaaDoorW.PrintWords Go.Proofs.YtacgchklilfcaaaDoorW.PrintLast Go.Proofs.YtacgchklilfcaaaDoorW.PrintMore PRfBase PRfGet PRefsAll Go.Proofs.YtacgchklilfcaaaDoor.Gl
section
variable {l : List Ref} {u : List Upd} (hd : Done l u) (hl : l.length ≤ 100) (hu : u.length ≤ 40)
include hd hl hu
theorem all_l2 (both : List Ref) (i : Nat) (name : ByteArray) (hn : Ev (fun k => sacristylaw09_RefsAll.l1 k l u true (refsF (newF u (mapL l))) both (wrap64 ((i : Int) + 1))) true) :
    ∀ (d j : Nat) (own : Bool), u.length - j = d → (own = false → ∀ x ∈ u.take j, x.f0 ≠ name) → Ev (fun k => sacristylaw09_RefsAll.l2 k l u true (refsF (newF u (mapL l))) both (i : Int) name own (j : Int)) true := by
  intro d
  induction d with
  | zero =>
    intro j own hj ho
    refine Ev.step (fun k => ?_) hn
    simp only [sacristylaw09_RefsAll.l2]
    rw [if_neg (by omega)]
    cases own with
    | true => rw [if_pos rfl]
    | false =>
      rw [List.take_of_length_le (by omega)] at ho
      have e : findL (refsF (newF u (mapL l))) name = findL l name := by
        rw [hd.find, findL_at hd.rt.rise.ne, atF, atF, newF_other _ (ho rfl)]
      rw [if_neg (by simp), Gv.find.f, Gv.find.f, Option.bind_some, Option.bind_some, if_pos (by rw [e])]
  | succ d ih =>
    intro j own hj ho
    have hju : j < u.length := by omega
    obtain ⟨x, hx⟩ : ∃ x, u[j]? = some x := ⟨_, List.getElem?_eq_getElem hju⟩
    cases own with
    | true =>
      refine Ev.step (fun k => ?_) (ih (j + 1) true (by omega) (fun h => by cases h))
      simp only [sacristylaw09_RefsAll.l2]
      rw [if_pos (by omega), if_pos trivial, wr1 hju (by omega)]
    | false =>
      refine Ev.step (fun k => ?_) (ih (j + 1) (x.f0.toList == name.toList) (by omega) (fun h y hy => ?_))
      · simp only [sacristylaw09_RefsAll.l2]
        rw [if_pos (by omega), if_neg (by simp), if_pos (by omega), wr1 hju (by omega), rdU hx]
      · rw [List.take_add_one, hx] at hy
        rcases List.mem_append.1 hy with hy | hy
        · exact ho rfl y hy
        · simp at hy
          subst hy
          rw [beq_eq_false_iff_ne] at h
          exact fun e => h (by rw [e])
theorem all_l1 (both : List Ref) (hb : both.length ≤ 1000) : ∀ (d i : Nat), both.length - i = d → Ev (fun k => sacristylaw09_RefsAll.l1 k l u true (refsF (newF u (mapL l))) both (i : Int)) true := by
  intro d
  induction d with
  | zero =>
    intro i hi
    refine Ev.step (f := fun _ => some true) (fun k => ?_) (Ev.now _)
    simp only [sacristylaw09_RefsAll.l1]
    rw [if_neg (by omega), if_pos trivial, Gv.right.f_eq hd.right.zsh, hd.right.right, Gv.right.f_eq hd.rt.zsh, hd.rt.right]; rfl
  | succ d ih =>
    intro i hi
    have hib : i < both.length := by omega
    have hn := ih (i + 1) (by omega)
    rw [← wr1 hib (by omega)] at hn
    refine Ev.step (fun k => ?_) (all_l2 hd hl hu both i (rd_T40 both (i : Int)).f0 hn u.length 0 false rfl (fun _ x hx => by simp at hx))
    simp only [sacristylaw09_RefsAll.l1]
    rw [if_pos (by omega), if_pos (by omega)]; rfl
theorem all_l0 : ∀ (d i : Nat), u.length - i = d → Ev (fun k => sacristylaw09_RefsAll.l0 k l u true (refsF (newF u (mapL l))) (i : Int)) true := by
  have hm := hd.most
  intro d
  induction d with
  | zero =>
    intro i hi
    refine Ev.step (fun k => ?_) (all_l1 hd hl hu (([] : List Ref) ++ l ++ refsF (newF u (mapL l))) (by simp; omega) _ 0 rfl)
    simp only [sacristylaw09_RefsAll.l0]
    rw [if_neg (by omega)]
    simp only [Option.bind_some]
    rw [if_pos (by simp; omega), if_pos (by simp; omega)]; rfl
  | succ d ih =>
    intro i hi
    have hiu : i < u.length := by omega
    obtain ⟨x, hx⟩ : ∃ x, u[i]? = some x := ⟨_, List.getElem?_eq_getElem hiu⟩
    have hm := List.mem_of_getElem? hx
    refine Ev.step (fun k => ?_) (ih (i + 1) (by omega))
    simp only [sacristylaw09_RefsAll.l0]
    rw [if_pos (by omega), if_pos (by omega), rdU hx, Gv.find.f, Option.bind_some, if_pos (by rw [hd.find, hd.good.at_new hm]), Gv.find.f, Option.bind_some, if_pos (by rw [hd.old x hm]), wr1 hiu (by omega)]
end
theorem refsAll_ev (l : List Ref) (u : List Upd) : Ev (fun k => sacristylaw09_RefsAll.f k l u) true := by
  have hyes : Ev (fun k => sacristylaw09_RefsAll.j0 k l u true true) true := Ev.step (f := fun _ => some true) (fun k => by simp [sacristylaw09_RefsAll.j0]) (Ev.now _)
  obtain ⟨b, hb, hb2⟩ := great_ev l
  obtain ⟨c, hc, hc2⟩ := greatU_ev u
  unfold sacristylaw09_RefsAll.f
  refine Ev.congr (g := fun k => (sacristylaw09_Great.f k l).bind fun t102 => if t102 = true then sacristylaw09_RefsAll.j0 k l u true true else (sacristylaw09_GreatUpdates.f k u).bind fun t103 => sacristylaw09_RefsAll.j0 k l u true t103) (fun k => rfl) (Ev.bind hb ?_)
  cases b with
  | true => exact Ev.congr (fun k => if_pos rfl) hyes
  | false =>
    refine Ev.congr (fun k => if_neg (by simp)) (Ev.bind hc ?_)
    cases c with
    | true => exact hyes
    | false =>
      have hl := hb2 rfl
      have hu := hc2 rfl
      by_cases h0 : (applyL l u).2.1 = 0
      · obtain ⟨hd, e⟩ := apply_ok h0
        refine Ev.step (fun k => ?_) (all_l0 hd hl.1 hu.1 u.length 0 rfl)
        simp only [sacristylaw09_RefsAll.j0]
        rw [if_neg (by simp), Gv.apply.f_eq hl.zsh hu.ush, Option.bind_some, if_pos h0, e]; rfl
      · obtain ⟨h1, h2, h3⟩ := apply_err h0
        by_cases hz : ((applyL l u).1.length : Int) = 0
        · refine Ev.step (f := fun _ => some true) (fun k => ?_) (Ev.now _)
          simp only [sacristylaw09_RefsAll.j0]
          rw [if_neg (by simp), Gv.apply.f_eq hl.zsh hu.ush, Option.bind_some, if_neg h0, if_pos trivial, if_pos hz, if_pos h2, decide_eq_true h3]
        · have e : (applyL l u).1 = l := h1.resolve_left (fun e => hz (by rw [e]; rfl))
          refine Ev.step (f := fun k => (sacristyref09_Same.f k l l).bind fun t => if t = true then some true else some false) (fun k => ?_) (Ev.bind (same_ev l l (by have := hl.1; omega)) ?_)
          · simp only [sacristylaw09_RefsAll.j0]
            rw [if_neg (by simp), Gv.apply.f_eq hl.zsh hu.ush, Option.bind_some, if_neg h0, if_pos trivial, if_neg hz, if_pos h2, decide_eq_true h3, e]
          · rw [(sameB_iff l l).2 rfl]
            exact Ev.congr (fun k => if_pos rfl) (Ev.now _)
end Go.Proofs.YtacgchklilfcaaaDoor.Rf
