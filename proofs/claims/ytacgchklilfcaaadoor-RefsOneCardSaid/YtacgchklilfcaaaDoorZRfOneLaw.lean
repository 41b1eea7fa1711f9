/- RefsOne, plainly. No condition. -/
import Derived.Test.YtacgchklilfcaaaDoorZRfP
import Derived.Test.YtacgchklilfcaaaDoorZPRefsOnex0
import Derived.Test.YtacgchklilfcaaaDoorZPRefsOnex1
namespace Go.Proofs.YtacgchklilfcaaaDoor.Rf
set_option linter.unusedVariables false
set_option linter.unusedSimpArgs false
set_option linter.unusedSectionVars false
open Go Go.RowKit Go.Proofs.YtacgchklilfcaaaDoorW.PrintWords Go.Proofs.YtacgchklilfcaaaDoorW.PrintLast Go.Proofs.YtacgchklilfcaaaDoorW.PrintMore PRfBase PRfGet PRefsOne Go.Proofs.YtacgchklilfcaaaDoor.Gl
theorem v_refs {w : World} {a : Option Addr} {c : Nat} {l : List Ref} (hc : l.length ≤ c) (h : Kd.C k40 w a l.length l) : Kd.V k40 40 w w.heap.size (fun k => k < w.heap.size) (.slice a l.length c) l := Kd.V_mk hc (Kd.C_F (Kd.heap_iso _ (Kd.heap_pair Kd.heap_string Kd.heap_string)) h)
theorem Good.take {u : List Upd} (h : Good u) (i : Nat) : Good (u.take i) := ⟨fun x hx => h.each x (List.mem_of_mem_take hx), h.apart.sublist (List.take_sublist i u)⟩
theorem newF_nil (f : ByteArray → Option ByteArray) : newF [] f = f := rfl
/-- What is so far. -/
structure Far (l : List Ref) (u : List Upd) (i : Nat) (a : List Ref) : Prop where
  sh : Zsh a
  rt : 0 < i → Rt a
  is : Rt l → Good u → a = refsF (newF (u.take i) (mapL l)) ∧ ∀ y ∈ u.take i, findL l y.f0 = y.f1
theorem Far.first {l : List Ref} (u : List Upd) (h : Zsh l) : Far l u 0 l := ⟨h, fun h => absurd h (Nat.lt_irrefl _), fun hr _ => ⟨by rw [List.take_zero, newF_nil, refsF_map hr.rise], fun y hy => by simp at hy⟩⟩
theorem Far.next {l : List Ref} {u : List Upd} {i : Nat} {a : List Ref} {x : Upd} (h : Far l u i a) (hx : u[i]? = some x) (hd : Done a [x]) : Far l u (i + 1) (refsF (newF [x] (mapL a))) := by
  have htk : u.take (i + 1) = u.take i ++ [x] := by rw [List.take_add_one, hx]; rfl
  refine ⟨hd.right.zsh, fun _ => hd.right, fun hr hg => ?_⟩
  obtain ⟨h1, h2⟩ := h.is hr hg
  have := done_step hr hd.rt (htk ▸ hg.take (i + 1)) h1 h2 hd
  rw [htk]; exact this
theorem Far.done {l : List Ref} {u : List Upd} {a : List Ref} (h : Far l u u.length a) (hr : Rt l) (h1 : 1 ≤ u.length) (h16 : u.length ≤ 16) (hg : Good u) : Done l u ∧ a = refsF (newF u (mapL l)) := by
  obtain ⟨e, ho⟩ := h.is hr hg
  rw [List.take_length] at e ho
  have hra := h.rt h1
  rw [e] at hra
  refine ⟨⟨hr, h1, h16, hg, ho, fun x hx hz y hy => ?_, hra.few⟩, e⟩
  have hm : (⟨x.f0, x.f2⟩ : Ref) ∈ refsF (newF u (mapL l)) := (refsF_mem (newF_fin (mapL_fin l) u) _).2 (by
    show newF u (mapL l) x.f0 = some x.f2
    rw [newF_mem hg.apart _ hx, if_neg hz])
  exact bothB_false hra hm hy
theorem one_l0 {l : List Ref} {u : List Upd} (hl : Zs l) (hu : Zu u) : ∀ (d i : Nat) (a : List Ref), u.length - i = d → i ≤ u.length → Far l u i a → Ev (fun k => sacristylaw09_RefsOne.l0 k u true (applyL l u).1 (applyL l u).2.1 a (i : Int)) true := by
  have hul := hu.1
  have hll := hl.1
  intro d
  induction d with
  | zero =>
    intro i a hi hil hf
    obtain rfl : i = u.length := by omega
    have hlast : (applyL l u).2.1 ≠ 0 → (if (u.length : Int) = 0 then some true else if (u.length : Int) > 16 then some true else some ((applyL l u).2.1 == 1)) = some true := fun hn => by
      by_cases h0 : (u.length : Int) = 0
      · rw [if_pos h0]
      · rw [if_neg h0]
        by_cases h16 : (u.length : Int) > 16
        · rw [if_pos h16]
        · rw [if_neg h16]
          rcases apply_all l u with ⟨e, _⟩ | ⟨_, _, _, e, _⟩ | ⟨hr, h1, h2, hg, _⟩ | ⟨hr, h1, h2, hg, _⟩
          · rw [e]; rfl
          · rw [e]; rfl
          · exact absurd (by rw [(hf.done hr h1 h2 hg).1.eq]) hn
          · exact absurd (by rw [(hf.done hr h1 h2 hg).1.eq]) hn
    by_cases hz : (applyL l u).2.1 = 0
    · obtain ⟨hd, e⟩ := apply_ok hz
      have ea := (hf.done hd.rt hd.one hd.few hd.good).2
      have e1 : (applyL l u).1 = a := by rw [e, ea]
      refine Ev.step (f := fun k => (sacristyref09_Same.f k a a).bind fun t118 => if t118 = true then some true else (if (u.length : Int) = 0 then some true else if (u.length : Int) > 16 then some true else some ((applyL l u).2.1 == 1))) (fun k => ?_) (Ev.bind (same_ev a a ?_) ?_)
      · simp only [sacristylaw09_RefsOne.l0]
        rw [if_neg (by omega), if_pos trivial, if_pos hz, e1]
      · have := hd.most; rw [ea]; omega
      · rw [(sameB_iff a a).2 rfl]
        exact Ev.congr (fun k => if_pos rfl) (Ev.now _)
    · refine Ev.step (f := fun _ => some true) (fun k => ?_) (Ev.now _)
      simp only [sacristylaw09_RefsOne.l0]
      rw [if_neg (by omega), if_pos trivial, if_neg hz, hlast hz]
  | succ d ih =>
    intro i a hi hil hf
    have hiu : i < u.length := by omega
    obtain ⟨x, hx⟩ : ∃ x, u[i]? = some x := ⟨_, List.getElem?_eq_getElem hiu⟩
    have hw := wr1 hiu (by omega)
    have hcut : (u.take (((i + 1 : Nat) : Int)).toNat).drop ((i : Int)).toNat = [x] := by
      rw [Int.toNat_natCast, Int.toNat_natCast, List.take_add_one, hx, List.drop_append_of_le_length (by rw [List.length_take]; omega), List.drop_of_length_le (by rw [List.length_take]; omega)]; rfl
    have hxs : Ush [x] := fun y hy => by obtain rfl := List.mem_singleton.1 hy; exact hu.ush _ (List.mem_of_getElem? hx)
    by_cases hz : (applyL a [x]).2.1 = 0
    · obtain ⟨hd, e⟩ := apply_ok hz
      refine Ev.step (fun k => ?_) (ih (i + 1) _ (by omega) (by omega) (hf.next hx hd))
      simp only [sacristylaw09_RefsOne.l0]
      rw [if_pos (by omega), if_pos (by omega), hw, if_pos (by omega), if_pos (by omega), hcut, Gv.apply.f_eq hf.sh hxs, Option.bind_some, if_pos hz, e]
    · refine Ev.step (f := fun _ => some true) (fun k => ?_) (Ev.now _)
      simp only [sacristylaw09_RefsOne.l0]
      rw [if_pos (by omega), if_pos (by omega), hw, if_pos (by omega), if_pos (by omega), hcut, Gv.apply.f_eq hf.sh hxs, Option.bind_some, if_neg hz]
theorem refsOne_ev (l : List Ref) (u : List Upd) : Ev (fun k => sacristylaw09_RefsOne.f k l u) true := by
  have hyes : Ev (fun k => sacristylaw09_RefsOne.j0 k l u true true) true := Ev.step (f := fun _ => some true) (fun k => by simp [sacristylaw09_RefsOne.j0]) (Ev.now _)
  obtain ⟨b, hb, hb2⟩ := great_ev l
  obtain ⟨c, hc, hc2⟩ := greatU_ev u
  unfold sacristylaw09_RefsOne.f
  refine Ev.congr (g := fun k => (sacristylaw09_Great.f k l).bind fun t102 => if t102 = true then sacristylaw09_RefsOne.j0 k l u true true else (sacristylaw09_GreatUpdates.f k u).bind fun t103 => sacristylaw09_RefsOne.j0 k l u true t103) (fun k => rfl) (Ev.bind hb ?_)
  cases b with
  | true => exact Ev.congr (fun k => if_pos rfl) hyes
  | false =>
    refine Ev.congr (fun k => if_neg (by simp)) (Ev.bind hc ?_)
    cases c with
    | true => exact hyes
    | false =>
      have hl := hb2 rfl
      have hu := hc2 rfl
      refine Ev.step (fun k => ?_) (one_l0 hl hu u.length 0 l rfl (Nat.zero_le _) (Far.first u hl.zsh))
      simp only [sacristylaw09_RefsOne.j0]
      rw [if_neg (by simp), Gv.apply.f_eq hl.zsh hu.ush, Option.bind_some]; rfl
end Go.Proofs.YtacgchklilfcaaaDoor.Rf
