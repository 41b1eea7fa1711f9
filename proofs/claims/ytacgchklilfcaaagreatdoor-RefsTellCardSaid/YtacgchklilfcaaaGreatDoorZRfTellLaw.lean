/- RefsTell, plainly. No condition. -/
import Derived.Test.YtacgchklilfcaaaGreatDoorZRfTell2
namespace Go.Proofs.YtacgchklilfcaaaGreatDoor.Rf
set_option linter.unusedVariables false
set_option linter.unusedSimpArgs false
open Go Go.RowKit Go.Proofs.YtacgchklilfcaaaGreatDoorW.PrintWords Go.Proofs.YtacgchklilfcaaaGreatDoorW.PrintLast Go.Proofs.YtacgchklilfcaaaGreatDoorW.PrintMore PRfBase PRfGet PRefsTell Go.Proofs.YtacgchklilfcaaaGreatDoor.Gl
theorem applyL_len (l : List Ref) (u : List Upd) (hl : l.length ≤ 100) : (applyL l u).1.length ≤ 100 := by
  by_cases h : (applyL l u).2.1 = 0
  · obtain ⟨hd, e⟩ := apply_ok h
    rw [e]
    have := hd.most
    show (refsF _).length ≤ 100
    omega
  · rcases (apply_err h).1 with e | e
    · rw [e]; exact Nat.zero_le _
    · rw [e]; exact hl
theorem refsTell_ev (s : ByteArray) (l : List Ref) (u : List Upd) : Ev (fun k => w09_RefsTell.f k s l u) true := by
  have hyes : Ev (fun k => w09_RefsTell.j0 k s l u true true) true := Ev.step (f := fun _ => some true) (fun k => by simp [w09_RefsTell.j0]) (Ev.now _)
  obtain ⟨b, hb, hb2⟩ := great_ev l
  obtain ⟨c, hc, hc2⟩ := greatU_ev u
  unfold w09_RefsTell.f
  refine Ev.congr (g := fun k => (w09_Great.f k l).bind fun t102 => if t102 = true then w09_RefsTell.j0 k s l u true true else (w09_GreatUpdates.f k u).bind fun t103 => if t103 = true then w09_RefsTell.j0 k s l u true true else w09_RefsTell.j0 k s l u true (decide ((s.size : Int) > 3000))) (fun k => rfl) (Ev.bind hb ?_)
  cases b with
  | true => exact Ev.congr (fun k => if_pos rfl) hyes
  | false =>
    refine Ev.congr (fun k => if_neg (by simp)) (Ev.bind hc ?_)
    cases c with
    | true => exact Ev.congr (fun k => if_pos rfl) hyes
    | false =>
      refine Ev.congr (fun k => if_neg (by simp)) ?_
      by_cases hs : (s.size : Int) > 3000
      · rw [decide_eq_true hs]; exact hyes
      · rw [decide_eq_false hs]
        have hl := hb2 rfl
        have hu := hc2 rfl
        have hl1 := hl.1
        have hu1 := hu.1
        have e1 := Gv.apply.f_eq hl.zsh hu.ush
        have e2 := Gv.named.f_eq (s := s) (by omega)
        have e3 := Gv.right.f_eq hl.zsh
        have e4 : Gv.find.f l s = some (findL l s) := rfl
        have e5 := Gv.tips.f_eq hl.rsh (by omega)
        have p1 : ∀ b : Bool, (b == b) = true := fun b => by cases b <;> rfl
        refine Ev.step (f := fun k => (PRefsTell.r09_Apply.f k l u).bind fun bt126 => (r09_Named.f k s).bind fun t132 => if (nameB s == t132) = true then ((r09_Right.f k l).bind fun t134 => if (rightB l == t134) = true then ((r09_Find.f k l s).bind fun t136 => if (findL l s).toList = t136.toList then ((r09_Tips.f k l).bind fun t140 => (r04_SameTexts.f k (tipsL l) t140).bind fun t143 => if t143 = true then ((r09_Same.f k (applyL l u).1 bt126.1).bind fun t144 => if t144 = true then (if (applyL l u).2.1 = bt126.2.1 then some ((applyL l u).2.2 == bt126.2.2) else some false) else some false) else some false) else some false) else some false) else some false) (fun k => ?_) ?_
        · simp only [w09_RefsTell.j0]
          rw [if_neg (by simp), e1, Option.bind_some]
          simp only [if_true, e2, e3, e4, e5, Option.bind_some]
        · refine Ev.bind (rapply_ev l u (by omega) (by omega)) (Ev.bind (rname_ev s) ?_)
          refine Ev.congr (fun k => if_pos (p1 _)) (Ev.bind (rright_ev l (by omega)) ?_)
          refine Ev.congr (fun k => if_pos (p1 _)) (Ev.bind (rfind_ev l s (by omega)) ?_)
          refine Ev.congr (fun k => if_pos rfl) (Ev.bind (rtips_ev l (by omega)) (Ev.bind (texts_ev (tipsL l) (by have := tips_len' l; omega)) ?_))
          refine Ev.congr (fun k => if_pos rfl) (Ev.bind (same_ev _ _ (by have := applyL_len l u hl1; omega)) ?_)
          rw [(sameB_iff _ _).2 rfl]
          refine Ev.congr (fun k => if_pos rfl) (Ev.congr (fun k => if_pos rfl) ?_)
          have : ((applyL l u).2.2 == (applyL l u).2.2) = true := by simp
          rw [this]
          exact Ev.now _
end Go.Proofs.YtacgchklilfcaaaGreatDoor.Rf
