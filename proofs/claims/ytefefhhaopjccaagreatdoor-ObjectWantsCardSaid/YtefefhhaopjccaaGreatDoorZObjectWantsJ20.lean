/- Joined texts: ObWantsLaw. No condition but what stands in each. -/
import Derived.Test.YtefefhhaopjccaaGreatDoorZObjectWantsJ18
import Derived.Test.YtefefhhaopjccaaGreatDoorZObjectWantsJ10
import Derived.Test.YtefefhhaopjccaaGreatDoorZObjectWantsJ19
namespace Go.Proofs.YtefefhhaopjccaaGreatDoor.Ob
set_option linter.unusedVariables false
set_option linter.unusedSimpArgs false
open Go Go.RowKit Go.Proofs.YtefefhhaopjccaaGreatDoorW.PrintWords Go.Proofs.YtefefhhaopjccaaGreatDoorW.PrintLast Go.Proofs.YtefefhhaopjccaaGreatDoorW.PrintMore PObBase PObGet PObRt PObjectWants
section
variable (l : List It) (c : Chg) (x : Lab)
noncomputable def lastO (x : Lab) : Option Bool := (Gv.putLabel.f x.f0 x.f1 x.f2 x.f3).bind fun bt132 => ((Gv.wants.f 4 bt132.1).bind fun t134 => (if true = true then (if bt132.2 = true then (if (t134.length : Int) = 1 then (if 0 < (t134.length : Int) then (if ((rd_T58 t134 0).f0).toList = x.f0.toList then (some (((rd_T58 t134 0).f1) == x.f1)) else (some false)) else (none)) else (some false)) else (some true)) else (some false)))
theorem lastO_eq (hx : Gv.Lsh x) (hx3 : x.f3.size ≤ 9000) : lastO x = some true := by
  unfold lastO
  rw [Gv.putLabel.f_eq hx]
  obtain ⟨o, f, hof⟩ : ∃ o f, putLabel x = (o, f) := ⟨_, _, rfl⟩
  rw [hof]
  cases f with
  | false =>
    have ho : o.size ≤ 400000000 := by
      unfold putLabel at hof
      split at hof
      · cases (Prod.mk.inj hof).2
      · rw [← (Prod.mk.inj hof).1]; exact Nat.zero_le _
    simp [Gv.wants.f_eq ho]
  | true =>
    have hg := (getLabel_iff o x).2 hof
    obtain ⟨a, b⟩ := putLabel_iff.1 hof
    have ho : o.size ≤ 10000 := by
      rw [b, bs_size]
      have := labelL_size a
      omega
    have hr : rightB 4 o = true := by rw [rightB_4, hg, decide_eq_true (by omega)]; rfl
    have hw : wantsL 4 o = [⟨x.f0, x.f1⟩] := wants_4 hr hg
    simp [Gv.wants.f_eq (show o.size ≤ 400000000 by omega), hw, rd_T58]
theorem wants_l1 (hx : Gv.Lsh x) (hx3 : x.f3.size ≤ 9000) (hc : c.f1.length < 9000) : ∀ (d i : Nat), c.f1.length - i = d → i ≤ c.f1.length →
    Ev (fun n => w04_ObjectWants.l1 n true ((⟨c.f0, 2⟩ : Wnt) :: c.f1.map (fun s => (⟨s, 3⟩ : Wnt))) (i : Int) c.f0 c.f1 c.f2 c.f3 x.f0 x.f1 x.f2 x.f3) true := by
  intro d
  induction d with
  | zero =>
    intro i hd hi
    refine Ev.step (f := fun _ => some true) (fun n => ?_) (Ev.now _)
    simp only [w04_ObjectWants.l1]
    rw [if_neg (by omega)]
    exact lastO_eq x hx hx3
  | succ d ih =>
    intro i hd hi
    have hil : i < c.f1.length := by omega
    obtain ⟨p, hp⟩ : ∃ p, c.f1[i]? = some p := ⟨_, List.getElem?_eq_getElem hil⟩
    have e2 : wrap64 ((i : Int) + 1) = ((i + 1 : Nat) : Int) := w64 _ (by omega) (by omega)
    have hq : ((⟨c.f0, 2⟩ : Wnt) :: c.f1.map (fun s => (⟨s, 3⟩ : Wnt)))[i + 1]? = some ⟨p, 3⟩ := by
      rw [List.getElem?_cons_succ, List.getElem?_map, hp]; rfl
    have hlen : ((⟨c.f0, 2⟩ : Wnt) :: c.f1.map (fun s => (⟨s, 3⟩ : Wnt))).length = c.f1.length + 1 := by simp
    refine Ev.step (fun n => ?_) (ih (i + 1) (by omega) (by omega))
    simp only [w04_ObjectWants.l1]
    rw [if_pos (by omega), e2, if_pos (by omega), if_pos (by rw [hlen]; omega), if_pos (by omega), rdW hq, rdS hp, if_pos rfl, if_pos rfl]
theorem wants_j3 (hc : Zc c) (hx : Gv.Lsh x) (hx3 : x.f3.size ≤ 9000) : Ev (fun n => w04_ObjectWants.j3 n true c.f0 c.f1 c.f2 c.f3 x.f0 x.f1 x.f2 x.f3) true := by
  have hcl := hc.hl
  obtain ⟨o, f, hof⟩ : ∃ o f, putChange c = (o, f) := ⟨_, _, rfl⟩
  have hsh := hc.csh
  cases f with
  | false =>
    have ho : o.size ≤ 400000000 := by
      unfold putChange at hof
      split at hof
      · cases (Prod.mk.inj hof).2
      · rw [← (Prod.mk.inj hof).1]; exact Nat.zero_le _
    refine Ev.step (f := fun _ => some true) (fun n => ?_) (Ev.now _)
    simp only [w04_ObjectWants.j3]
    rw [Gv.putChange.f_eq hsh, hof]
    show (Gv.wants.f 3 o).bind _ = _
    rw [Gv.wants.f_eq ho]
    exact lastO_eq x hx hx3
  | true =>
    have hg := (getChange_iff o c).2 hof
    obtain ⟨a, b⟩ := putChange_iff.1 hof
    have ho : o.size ≤ 10000 := by
      rw [b, bs_size]
      have := changeL_size a
      have := hc.h3
      omega
    have hr : rightB 3 o = true := by rw [rightB_3, hg, decide_eq_true (by omega)]; rfl
    have hw : wantsL 3 o = ⟨c.f0, 2⟩ :: c.f1.map (fun s => ⟨s, 3⟩) := wants_3 hr hg
    have hlen : ((⟨c.f0, 2⟩ : Wnt) :: c.f1.map (fun s => (⟨s, 3⟩ : Wnt))).length = c.f1.length + 1 := by simp
    have e1 : wrap64 (1 + (c.f1.length : Int)) = 1 + (c.f1.length : Int) := w64 _ (by omega) (by omega)
    have h4 : Ev (fun n => w04_ObjectWants.j4 n true ((⟨c.f0, 2⟩ : Wnt) :: c.f1.map (fun s => (⟨s, 3⟩ : Wnt))) false c.f0 c.f1 c.f2 c.f3 x.f0 x.f1 x.f2 x.f3) true := by
      refine Ev.step (fun n => ?_) (wants_l1 c x hx hx3 hcl c.f1.length 0 (by omega) (by omega))
      simp only [w04_ObjectWants.j4]
      exact if_neg (by simp)
    have h0 : rd_T58 ((⟨c.f0, 2⟩ : Wnt) :: c.f1.map (fun s => (⟨s, 3⟩ : Wnt))) 0 = ⟨c.f0, 2⟩ := rdW (i := 0) rfl
    refine Ev.step (fun n => ?_) h4
    simp only [w04_ObjectWants.j3]
    rw [Gv.putChange.f_eq hsh, hof]
    show (Gv.wants.f 3 o).bind _ = _
    rw [Gv.wants.f_eq (by omega), hw, Option.bind_some, if_pos (show ((o, true) : ByteArray × Bool).2 = true from rfl)]
    rw [if_pos (by rw [hlen, e1]; omega), if_pos (by rw [hlen]; omega), h0]
    exact if_pos (c := c.f0.toList = c.f0.toList) rfl
theorem kind_bne (m : Int) : ((kindI m == 2) != (m == 3)) = false := by
  unfold kindI
  by_cases h3 : m = 3
  · subst h3; rfl
  · rw [if_neg h3, beq_false_of_ne h3]
    split <;> rfl
theorem wants_l0 (hl : l.length ≤ 300) (hc : Zc c) (hx : Gv.Lsh x) (hx3 : x.f3.size ≤ 9000) : ∀ (d i : Nat), l.length - i = d → i ≤ l.length →
    Ev (fun n => w04_ObjectWants.l0 n l true (l.map wantI) (i : Int) c.f0 c.f1 c.f2 c.f3 x.f0 x.f1 x.f2 x.f3) true := by
  intro d
  induction d with
  | zero =>
    intro i hd hi
    refine Ev.step (fun n => ?_) (wants_j3 c x hc hx hx3)
    simp only [w04_ObjectWants.l0]
    exact if_neg (by omega)
  | succ d ih =>
    intro i hd hi
    have hil : i < l.length := by omega
    obtain ⟨p, hp⟩ : ∃ p, l[i]? = some p := ⟨_, List.getElem?_eq_getElem hil⟩
    have e2 : wrap64 ((i : Int) + 1) = ((i + 1 : Nat) : Int) := w64 _ (by omega) (by omega)
    have hq : (l.map wantI)[i]? = some (wantI p) := by rw [List.getElem?_map, hp]; rfl
    refine Ev.step (fun n => ?_) (ih (i + 1) (by omega) (by omega))
    simp only [w04_ObjectWants.l0]
    rw [if_pos (by omega), if_pos (by omega), if_pos (by rw [List.length_map]; omega), rdW hq, rdI hp, e2, if_pos (show (wantI p).f0.toList = p.f2.toList from rfl)]
    exact if_neg (by show ¬ ((kindI p.f0 == 2) != (p.f0 == 3)) = true; rw [kind_bne]; simp)
theorem wants_j0 (hl : Zi l) (hc : Zc c) (hx : Gv.Lsh x) (hx3 : x.f3.size ≤ 9000) : Ev (fun n => w04_ObjectWants.j0 n l true false c.f0 c.f1 c.f2 c.f3 x.f0 x.f1 x.f2 x.f3) true := by
  obtain ⟨o, f, hof⟩ : ∃ o f, putTree l = (o, f) := ⟨_, _, rfl⟩
  have hl2 := hl.1
  have h3 := wants_j3 c x hc hx hx3
  have hj : ∀ t, Ev (fun n => w04_ObjectWants.j1 n l true t false c.f0 c.f1 c.f2 c.f3 x.f0 x.f1 x.f2 x.f3) true := fun t => by
    refine Ev.step (fun n => ?_) h3
    simp only [w04_ObjectWants.j1]
    exact if_neg (by simp)
  cases f with
  | false =>
    have ho : o.size ≤ 400000000 := by
      unfold putTree at hof
      split at hof
      · cases (Prod.mk.inj hof).2
      · rw [← (Prod.mk.inj hof).1]; exact Nat.zero_le _
    refine Ev.step (fun n => ?_) (hj (wantsL 2 o))
    simp only [w04_ObjectWants.j0]
    rw [if_neg (by simp), Gv.putTree.f_eq hl.ish (by omega), hof]
    show (Gv.wants.f 2 o).bind _ = _
    rw [Gv.wants.f_eq ho, Option.bind_some, if_neg (show ¬ ((o, false) : ByteArray × Bool).2 = true from Bool.false_ne_true)]
  | true =>
    have hg := (getTree_iff o l).2 hof
    obtain ⟨a, b⟩ := putTree_iff.1 hof
    have ho : o.size ≤ 40000 := by
      rw [b]
      exact treeT_size a
    have hr : rightB 2 o = true := by rw [rightB_2, hg, decide_eq_true (by omega)]; rfl
    have hw := wants_2 hr hg
    have h1 : Ev (fun n => w04_ObjectWants.j1 n l true (l.map wantI) true c.f0 c.f1 c.f2 c.f3 x.f0 x.f1 x.f2 x.f3) true := by
      refine Ev.step (fun n => ?_) (wants_l0 l c x hl2 hc hx hx3 l.length 0 (by omega) (by omega))
      simp only [w04_ObjectWants.j1]
      rw [if_pos trivial, if_pos (by rw [List.length_map])]
      rfl
    refine Ev.step (fun n => ?_) h1
    simp only [w04_ObjectWants.j0]
    rw [if_neg (by simp), Gv.putTree.f_eq hl.ish (by omega), hof]
    show (Gv.wants.f 2 o).bind _ = _
    rw [Gv.wants.f_eq (by omega), hw, Option.bind_some, if_pos (show ((o, true) : ByteArray × Bool).2 = true from rfl)]
    show w04_ObjectWants.j1 n l true _ (decide ((o.size : Int) ≤ 65536)) _ _ _ _ _ _ _ _ = _
    rw [decide_eq_true (show (o.size : Int) ≤ 65536 by omega)]
theorem owants_ev (hcl : c.f1.length ≤ 1000000000000000) (hx : x.f0.size ≤ 140737488355328 ∧ x.f2.size ≤ 140737488355328 ∧ x.f3.size ≤ 140737488355328) : Ev (fun n => w04_ObjectWants.f n l c.f0 c.f1 c.f2 c.f3 x.f0 x.f1 x.f2 x.f3) true := by
  have hj : Ev (fun n => w04_ObjectWants.j0 n l true true c.f0 c.f1 c.f2 c.f3 x.f0 x.f1 x.f2 x.f3) true := Ev.step (f := fun _ => some true) (fun n => by simp only [w04_ObjectWants.j0]; exact if_pos trivial) (Ev.now _)
  obtain ⟨b1, hb1, hz1⟩ := greatI_ev l
  obtain ⟨b2, hb2, hz2⟩ := greatC_ev c hcl
  obtain ⟨x0, x2, x3⟩ := hx
  have e1 : wrap64 ((wrap64 ((x.f0.size : Int) + (x.f2.size : Int))) + (x.f3.size : Int)) = (x.f0.size : Int) + (x.f2.size : Int) + (x.f3.size : Int) := by
    rw [w64 ((x.f0.size : Int) + (x.f2.size : Int)) (by omega) (by omega), w64 _ (by omega) (by omega)]
  refine Ev.congr (f := fun n => (w04_GreatItems.f n l).bind fun t104 => (if t104 = true then (w04_ObjectWants.j0 n l true true c.f0 c.f1 c.f2 c.f3 x.f0 x.f1 x.f2 x.f3) else ((w04_GreatChange.f n c.f0 c.f1 c.f2 c.f3).bind fun t105 => (if t105 = true then (w04_ObjectWants.j0 n l true true c.f0 c.f1 c.f2 c.f3 x.f0 x.f1 x.f2 x.f3) else (w04_ObjectWants.j0 n l true (decide ((x.f0.size : Int) + (x.f2.size : Int) + (x.f3.size : Int) > 9000)) c.f0 c.f1 c.f2 c.f3 x.f0 x.f1 x.f2 x.f3))))) (fun n => ?_) (Ev.bind hb1 ?_)
  · unfold w04_ObjectWants.f
    rw [e1]; rfl
  · cases b1 with
    | true => exact Ev.congr (fun n => if_pos rfl) hj
    | false =>
      refine Ev.congr (fun n => if_neg (by simp)) (Ev.bind hb2 ?_)
      cases b2 with
      | true => exact Ev.congr (fun n => if_pos rfl) hj
      | false =>
        refine Ev.congr (fun n => if_neg (by simp)) ?_
        by_cases h9 : x.f0.size + x.f2.size + x.f3.size ≤ 9000
        · rw [decide_eq_false (by omega)]
          exact wants_j0 l c x (hz1 rfl) (hz2 rfl) ⟨by omega, by omega, by omega⟩ (by omega)
        · rw [decide_eq_true (by omega)]; exact hj
end
end Go.Proofs.YtefefhhaopjccaaGreatDoor.Ob
