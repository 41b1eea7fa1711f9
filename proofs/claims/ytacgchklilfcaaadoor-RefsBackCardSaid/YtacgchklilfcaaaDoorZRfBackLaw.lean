/- RefsBack, plainly. No condition. -/
import Derived.Test.YtacgchklilfcaaaDoorZRfP
import Derived.Test.YtacgchklilfcaaaDoorZPRefsBackx0
import Derived.Test.YtacgchklilfcaaaDoorZPRefsBackx1
namespace Go.Proofs.YtacgchklilfcaaaDoor.Rf
set_option linter.unusedVariables false
set_option linter.unusedSimpArgs false
set_option linter.unusedSectionVars false
open Go Go.RowKit Go.Proofs.YtacgchklilfcaaaDoorW.PrintWords Go.Proofs.YtacgchklilfcaaaDoorW.PrintLast Go.Proofs.YtacgchklilfcaaaDoorW.PrintMore PRfBase PRfGet PRefsBack Go.Proofs.YtacgchklilfcaaaDoor.Gl
/-- Does one of them move a ref? -/
def Moved (u : List Upd) : Prop := ∃ x ∈ u, x.f1 ≠ x.f2
section
variable {l : List Ref} {u : List Upd} (hd : Done l u) (hl : Zs l) (hu : Zu u)
include hd hl hu
theorem back_l1 (g : Int) (hg : (g == 92) = true ↔ Moved u) : ∀ (d j : Nat) (m : Bool), u.length - j = d → (m = true ↔ Moved (u.take j)) → Ev (fun k => sacristylaw09_RefsBack.l1 k l u true l 0 g m (j : Int)) true := by
  have hul := hu.1
  intro d
  induction d with
  | zero =>
    intro j m hj hm
    refine Ev.step (f := fun k => (sacristyref09_Same.f k l l).bind fun t => if t = true then some ((g == 92) == m) else some false) (fun k => ?_) (Ev.bind (same_ev l l (by have := hl.1; omega)) ?_)
    · simp only [sacristylaw09_RefsBack.l1]
      rw [if_neg (by omega), if_pos trivial, if_pos trivial]
    · rw [(sameB_iff l l).2 rfl]
      refine Ev.congr (fun k => if_pos rfl) ?_
      rw [List.take_of_length_le (by omega), ← hg] at hm
      have : ((g == 92) == m) = true := by
        rw [beq_iff_eq, Bool.eq_iff_iff]; exact hm.symm
      rw [this]
      exact Ev.now _
  | succ d ih =>
    intro j m hj hm
    have hju : j < u.length := by omega
    obtain ⟨x, hx⟩ : ∃ x, u[j]? = some x := ⟨_, List.getElem?_eq_getElem hju⟩
    have htk : u.take (j + 1) = u.take j ++ [x] := by rw [List.take_add_one, hx]; rfl
    have hmv : Moved (u.take (j + 1)) ↔ (Moved (u.take j) ∨ x.f1 ≠ x.f2) := by
      rw [htk]
      constructor
      · rintro ⟨y, hy, hn⟩
        rcases List.mem_append.1 hy with hy | hy
        · exact .inl ⟨y, hy, hn⟩
        · obtain rfl := List.mem_singleton.1 hy; exact .inr hn
      · rintro (⟨y, hy, hn⟩ | hn)
        · exact ⟨y, List.mem_append_left _ hy, hn⟩
        · exact ⟨x, List.mem_append_right _ List.mem_cons_self, hn⟩
    cases m with
    | true =>
      refine Ev.step (fun k => ?_) (ih (j + 1) true (by omega) (by rw [hmv]; exact ⟨fun _ => .inl (hm.1 rfl), fun _ => rfl⟩))
      simp only [sacristylaw09_RefsBack.l1]
      rw [if_pos (by omega), if_pos trivial, wr1 hju (by omega)]
    | false =>
      refine Ev.step (fun k => ?_) (ih (j + 1) (x.f1.toList != x.f2.toList) (by omega) ?_)
      · simp only [sacristylaw09_RefsBack.l1]
        rw [if_pos (by omega), if_neg (by simp), if_pos (by omega), wr1 hju (by omega), rdU hx]
      · rw [hmv, bne_iff_ne]
        constructor
        · exact fun h => .inr (fun e => h (by rw [e]))
        · rintro (h | h)
          · exact absurd (hm.2 h) (by simp)
          · exact fun e => h ((toL_inj _ _).1 e)
theorem back_l0 : ∀ (d i : Nat), u.length - i = d → i ≤ u.length → Ev (fun k => sacristylaw09_RefsBack.l0 k l u true (refsF (newF u (mapL l))) (turnU (u.take i)) (i : Int)) true := by
  have hul := hu.1
  have hst := apply_stale hd.right hd.one hd.few hd.good
  intro d
  induction d with
  | zero =>
    intro i hi hiu
    rw [List.take_of_length_le (by omega)]
    have hus : Ush (turnU u) := fun x hx => by
      obtain ⟨y, hy, rfl⟩ := List.mem_map.1 hx
      have := hu.2 y hy
      exact ⟨by show y.f0.size ≤ _; omega, by show y.f2.size ≤ _; omega, by show y.f1.size ≤ _; omega⟩
    refine Ev.step (fun k => ?_) (back_l1 hd hl hu (applyL (refsF (newF u (mapL l))) u).2.1 ?_ u.length 0 false rfl ⟨fun h => (by cases h), fun ⟨x, hx, _⟩ => by simp at hx⟩)
    · simp only [sacristylaw09_RefsBack.l0]
      rw [if_neg (by omega), Gv.apply.f_eq hd.right.zsh hus, Gv.apply.f_eq hd.right.zsh hu.ush, Option.bind_some, Option.bind_some, hd.back]; rfl
    · rw [beq_iff_eq, hst]
      refine ⟨fun ⟨x, hx, hn⟩ => ⟨x, hx, fun e => hn ?_⟩, fun ⟨x, hx, hn⟩ => ⟨x, hx, fun e => hn ?_⟩⟩
      · rw [hd.find, hd.good.at_new hx, e]
      · rw [hd.find, hd.good.at_new hx] at e; exact e.symm
  | succ d ih =>
    intro i hi _
    have hiu : i < u.length := by omega
    obtain ⟨x, hx⟩ : ∃ x, u[i]? = some x := ⟨_, List.getElem?_eq_getElem hiu⟩
    have htk : turnU (u.take (i + 1)) = turnU (u.take i) ++ [⟨x.f0, x.f2, x.f1⟩] := by
      unfold turnU
      rw [List.take_add_one, hx]; simp
    have ih' := ih (i + 1) (by omega) (by omega)
    rw [htk] at ih'
    refine Ev.step (fun k => ?_) ih'
    simp only [sacristylaw09_RefsBack.l0]
    have hlen : (turnU (u.take i)).length < 2932031007402 := by unfold turnU; rw [List.length_map, List.length_take]; omega
    rw [if_pos (by omega), if_pos (by omega), if_pos hlen, rdU hx, wr1 hiu (by omega)]
end
theorem refsBack_ev (l : List Ref) (u : List Upd) : Ev (fun k => sacristylaw09_RefsBack.f k l u) true := by
  have hyes : Ev (fun k => sacristylaw09_RefsBack.j0 k l u true true) true := Ev.step (f := fun _ => some true) (fun k => by simp [sacristylaw09_RefsBack.j0]) (Ev.now _)
  obtain ⟨b, hb, hb2⟩ := great_ev l
  obtain ⟨c, hc, hc2⟩ := greatU_ev u
  unfold sacristylaw09_RefsBack.f
  refine Ev.congr (g := fun k => (sacristylaw09_Great.f k l).bind fun t102 => if t102 = true then sacristylaw09_RefsBack.j0 k l u true true else (sacristylaw09_GreatUpdates.f k u).bind fun t103 => sacristylaw09_RefsBack.j0 k l u true t103) (fun k => rfl) (Ev.bind hb ?_)
  cases b with
  | true => exact Ev.congr (fun k => if_pos rfl) hyes
  | false =>
    refine Ev.congr (fun k => if_neg (by simp)) (Ev.bind hc ?_)
    cases c with
    | true => exact hyes
    | false =>
      have hl := hb2 rfl
      have hu := hc2 rfl
      by_cases h0 : (applyL l u).2.1 = 0
      · obtain ⟨hd, e⟩ := apply_ok h0
        refine Ev.step (fun k => ?_) (back_l0 hd hl hu u.length 0 rfl (Nat.zero_le _))
        simp only [sacristylaw09_RefsBack.j0]
        rw [if_neg (by simp), Gv.apply.f_eq hl.zsh hu.ush, Option.bind_some, if_pos h0, e]; rfl
      · refine Ev.step (f := fun _ => some true) (fun k => ?_) (Ev.now _)
        simp only [sacristylaw09_RefsBack.j0]
        rw [if_neg (by simp), Gv.apply.f_eq hl.zsh hu.ush, Option.bind_some, if_neg h0]
end Go.Proofs.YtacgchklilfcaaaDoor.Rf
