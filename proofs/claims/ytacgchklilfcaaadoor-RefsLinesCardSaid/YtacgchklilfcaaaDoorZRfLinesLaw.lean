/- RefsLines, plainly. No condition. -/
import Derived.Test.YtacgchklilfcaaaDoorZRfRef2
import Derived.Test.YtacgchklilfcaaaDoorZPRefsLinesx0
import Derived.Test.YtacgchklilfcaaaDoorZPRefsLinesx1
namespace Go.Proofs.YtacgchklilfcaaaDoor.Rf
set_option linter.unusedVariables false
set_option linter.unusedSimpArgs false
open Go Go.RowKit Go.Proofs.YtacgchklilfcaaaDoorW.PrintWords Go.Proofs.YtacgchklilfcaaaDoorW.PrintLast Go.Proofs.YtacgchklilfcaaaDoorW.PrintMore PRfBase PRfGet PRefsLines Go.Proofs.YtacgchklilfcaaaDoor.Gl
theorem getL_len (s : ByteArray) : (getL s).1.length ≤ 64 := by
  by_cases hp : (putL (readL s)).2 = true ∧ (putL (readL s)).1 = s
  · have e : getL s = (readL s, true) := by unfold getL; rw [if_pos hp]
    rw [e]
    exact (rt_of (by rw [← putL_snd']; exact hp.1)).few
  · have e : getL s = ([], false) := by unfold getL; rw [if_neg hp]
    rw [e]; exact Nat.zero_le _
theorem refsLines_ev (l : List Ref) (s : ByteArray) : Ev (fun k => sacristylaw09_RefsLines.f k l s) true := by
  obtain ⟨b, hb, hb2⟩ := great_ev l
  unfold sacristylaw09_RefsLines.f
  refine Ev.congr (g := fun k => (sacristylaw09_Great.f k l).bind fun t102 => if t102 = true then sacristylaw09_RefsLines.j0 k l s true true else sacristylaw09_RefsLines.j0 k l s true (decide ((s.size : Int) > 9000))) (fun k => rfl) (Ev.bind hb ?_)
  have hyes : Ev (fun k => sacristylaw09_RefsLines.j0 k l s true true) true := Ev.step (f := fun _ => some true) (fun k => by simp [sacristylaw09_RefsLines.j0]) (Ev.now _)
  cases b with
  | true => exact Ev.congr (fun k => if_pos rfl) hyes
  | false =>
    refine Ev.congr (fun k => if_neg (by simp)) ?_
    have hz := hb2 rfl
    have hl := hz.1
    by_cases hs : (s.size : Int) > 9000
    · rw [decide_eq_true hs]; exact hyes
    · rw [decide_eq_false hs]
      refine Ev.step (f := fun k => (sacristyref09_Put.f k l).bind fun bt105 => (refs_Get.f k s).bind fun bt107 => (sacristyref09_Get.f k s).bind fun bt111 => if (putL l).1.toList = bt105.1.toList then (if ((putL l).2 == bt105.2) = true then (sacristyref09_Same.f k bt107.1 bt111.1).bind fun t115 => (if t115 = true then some (bt107.2 == bt111.2) else some false) else some false) else some false) (fun k => ?_) ?_
      · simp only [sacristylaw09_RefsLines.j0]
        rw [if_neg (by simp), Gv.put.f_eq hz.zsh, Option.bind_some]
        simp only [if_true]
      · refine Ev.bind (rput_ev l (by omega)) (Ev.bind (get_ev s (by omega)) (Ev.bind (rget_ev s (by omega)) ?_))
        refine Ev.congr (f := fun k => (sacristyref09_Same.f k (getL s).1 (getL s).1).bind fun t115 => (if t115 = true then some ((getL s).2 == (getL s).2) else some false)) (fun k => ?_) (Ev.bind (same_ev _ _ (Nat.le_trans (getL_len s) (by decide))) ?_)
        · rw [if_pos rfl, if_pos (by simp)]
        · rw [(sameB_iff _ _).2 rfl]
          refine Ev.congr (fun k => if_pos rfl) ?_
          have e : ((getL s).2 == (getL s).2) = true := by simp
          rw [e]
          exact Ev.now _
end Go.Proofs.YtacgchklilfcaaaDoor.Rf
