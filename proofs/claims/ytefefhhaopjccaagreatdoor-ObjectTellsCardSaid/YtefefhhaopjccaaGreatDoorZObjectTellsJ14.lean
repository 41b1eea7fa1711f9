/- Joined texts: ObRefT, ObRefL, ObRefLn, ObChP, ObChB, ObRefC, ObRefCG, ObRefT2, ObTreeG. No condition but what stands in each. -/
import Derived.Test.YtefefhhaopjccaaGreatDoorZObjectTellsJ10
import Derived.Test.YtefefhhaopjccaaGreatDoorZObjectTellsJ13
namespace Go.Proofs.YtefefhhaopjccaaGreatDoor.Ob
set_option linter.unusedVariables false
set_option linter.unusedSimpArgs false
open Go Go.RowKit Go.Proofs.YtefefhhaopjccaaGreatDoorW.PrintWords Go.Proofs.YtefefhhaopjccaaGreatDoorW.PrintLast Go.Proofs.YtefefhhaopjccaaGreatDoorW.PrintMore PObBase PObDoc
theorem rpart_l0 (s : ByteArray) (hs : s.size ≤ 1000000000000) : ∀ (d i : Nat), s.size - i = d → i ≤ s.size → Ev (fun k => r04_Part.l0 k s (i : Int)) (((L s).drop i).all visOk && (decide (1 ≤ s.size) && decide (s.size ≤ 70) && decide (s ≠ dot) && decide (s ≠ dots))) := by
  intro d
  induction d with
  | zero =>
    intro i hd hi
    have hin : i = s.size := by omega
    subst hin
    rw [List.drop_of_length_le (by rw [L_len]; exact Nat.le_refl _), List.all_nil, Bool.true_and]
    refine Ev.step (f := fun _ => some _) (fun k => ?_) (Ev.now _)
    simp only [r04_Part.l0]
    rw [if_neg (by omega)]
    by_cases h0 : s.size = 0
    · rw [if_neg (by omega), decide_eq_false (show ¬ 1 ≤ s.size by omega)]; rfl
    · rw [if_pos (by omega), decide_eq_true (show 1 ≤ s.size by omega)]
      by_cases h70 : s.size ≤ 70
      · rw [if_pos (by omega), decide_eq_true h70]
        by_cases h1 : s = dot
        · rw [if_pos (by rw [h1]; decide +kernel), decide_eq_false (fun h => h h1)]; rfl
        · have h1' : ¬ s.toList = ([46] : List UInt8) := fun e => h1 ((toL_inj s dot).1 (e.trans (by decide +kernel)))
          rw [if_neg h1', decide_eq_true h1]
          congr 1
          rw [Bool.true_and, Bool.true_and, Bool.true_and, Bool.eq_iff_iff, bne_iff_ne, decide_eq_true_iff]
          refine not_congr ⟨fun e => (toL_inj s dots).1 (e.trans (by decide +kernel)), fun e => by rw [e]; decide +kernel⟩
      · rw [if_neg (by omega), decide_eq_false h70]; rfl
  | succ d ih =>
    intro i hd hi
    have hil : i < (L s).length := by rw [L_len]; omega
    obtain ⟨u, hu⟩ : ∃ u, (L s)[i]? = some u := ⟨_, List.getElem?_eq_getElem hil⟩
    have hb := bt_get hu (i : Int) rfl
    have hw := wr1 (i := i) (n := s.size) (by omega) hs
    rw [drop_at hu, List.all_cons]
    have hlk := visOk_iff u
    by_cases h : visOk u = true
    · have h' := hlk.1 h
      rw [h, Bool.true_and]
      refine Ev.step (fun k => ?_) (ih (i + 1) (by omega) (by omega))
      simp only [r04_Part.l0]
      rw [if_pos (by omega), if_pos (by omega), hb, hw, if_neg (by omega), if_neg (by omega), if_neg (by omega)]
    · have h' := mt hlk.2 h
      rw [Bool.not_eq_true] at h
      rw [h, Bool.false_and, Bool.false_and]
      refine Ev.step (f := fun _ => some false) (fun k => ?_) (Ev.now _)
      simp only [r04_Part.l0]
      rw [if_pos (by omega), if_pos (by omega), hb]
      by_cases h4 : (u.toNat : Int) < 33
      · rw [if_pos h4]
      · rw [if_neg h4]
        by_cases h5 : (u.toNat : Int) > 126
        · rw [if_pos h5]
        · rw [if_neg h5, if_pos (by omega)]
theorem rpart_ev (s : ByteArray) (hs : s.size ≤ 1000000000000) : Ev (fun k => r04_Part.f k s) (partB s) := by
  have := rpart_l0 s hs s.size 0 (by omega) (by omega)
  rw [List.drop_zero] at this
  exact this
theorem rkey_eq (x : It) (hs : x.f1.size ≤ 1000000000000) : r04_key.f x.f0 x.f1 x.f2 = some (keyS x) := by
  unfold r04_key.f keyS
  by_cases h : x.f0 = 3
  · rw [if_pos h, if_pos h, if_pos (by omega)]
  · rw [if_neg h, if_neg h]
theorem rtree_l1 (l : List It) (hl : l.length ≤ 1000000000) (i : Nat) (x : It) (hx : l[i]? = some x) (r : Bool) (hno : cntI (l.take i) x.f1 ≠ 0 → r = false) (hyes : cntI (l.take i) x.f1 = 0 → Ev (fun k => r04_RightTree.l0 k l ((i + 1 : Nat) : Int)) r) : ∀ (d j : Nat), i - j = d → j ≤ i → cntI (l.take j) x.f1 = 0 → Ev (fun k => r04_RightTree.l1 k l (i : Int) (j : Int) x.f0 x.f1 x.f2) r := by
  have hil := (List.getElem?_eq_some_iff.1 hx).1
  have hw := wr1 (i := i) (n := l.length) hil (by omega)
  intro d
  induction d with
  | zero =>
    intro j hj hji ho
    obtain rfl : j = i := by omega
    refine Ev.step (fun k => ?_) (hyes ho)
    simp only [r04_RightTree.l1]
    rw [if_neg (by omega), hw]
  | succ d ih =>
    intro j hj hji ho
    have hjl : j < l.length := by omega
    obtain ⟨y, hy⟩ : ∃ y, l[j]? = some y := ⟨_, List.getElem?_eq_getElem hjl⟩
    have hwj := wr1 hjl (by omega)
    have hc := cntI_snoc hy x.f1
    by_cases he : y.f1 = x.f1
    · rw [if_pos he, ho] at hc
      have : cntI (l.take i) x.f1 ≠ 0 := by
        have hle : cntI (l.take (j + 1)) x.f1 ≤ cntI (l.take i) x.f1 := List.Sublist.length_le (List.Sublist.filter _ (List.take_sublist_take_left (by omega)))
        omega
      rw [hno this]
      refine Ev.step (f := fun _ => some false) (fun k => ?_) (Ev.now _)
      simp only [r04_RightTree.l1]
      rw [if_pos (by omega), if_pos (by omega), if_pos (by omega), rdI hy, if_pos (by rw [he])]
    · rw [if_neg he, ho] at hc
      refine Ev.step (fun k => ?_) (ih (j + 1) (by omega) (by omega) hc)
      simp only [r04_RightTree.l1]
      rw [if_pos (by omega), if_pos (by omega), if_pos (by omega), rdI hy, if_neg (fun e => he ((toL_inj _ _).1 e)), hwj]
theorem rtree_l0 (l : List It) (hl : l.length ≤ 1000000000) (hsh : Ish l) : ∀ (d i : Nat), l.length - i = d → (∀ j x, j < i → l[j]? = some x → okI l j x = true) → Ev (fun k => r04_RightTree.l0 k l (i : Int)) (treeB l) := by
  intro d
  induction d with
  | zero =>
    intro i hi hok
    rw [treeB_true (fun j x hx => hok j x (by have := (List.getElem?_eq_some_iff.1 hx).1; omega) hx)]
    refine Ev.step (f := fun _ => some _) (fun k => ?_) (Ev.now _)
    simp only [r04_RightTree.l0]
    rw [if_neg (by omega)]
    congr 1
    exact decide_eq_decide.2 (by omega)
  | succ d ih =>
    intro i hi hok
    have hil : i < l.length := by omega
    obtain ⟨x, hx⟩ : ∃ x, l[i]? = some x := ⟨_, List.getElem?_eq_getElem hil⟩
    have hz := hsh x (List.mem_of_getElem? hx)
    have hbad : okI l i x = false → treeB l = false := treeB_false hx
    have hgo : okI l i x = true → Ev (fun k => r04_RightTree.l0 k l ((i + 1 : Nat) : Int)) (treeB l) := fun h => ih (i + 1) (by omega) (fun j y hj hy => by
      rcases Nat.lt_succ_iff_lt_or_eq.1 hj with hj | rfl
      · exact hok j y hj hy
      · rw [hx] at hy; cases hy; exact h)
    have hjt : okI l i x = false → Ev (fun k => r04_RightTree.j1 k l (i : Int) true x.f0 x.f1 x.f2) (treeB l) := fun h => by
      rw [hbad h]
      exact Ev.step (f := fun _ => some false) (fun k => by simp [r04_RightTree.j1]) (Ev.now _)
    have hrd := rdI hx
    by_cases h1 : x.f0 < 1
    · refine Ev.step (fun k => ?_) (hjt (by unfold okI; rw [decide_eq_false (show ¬ 1 ≤ x.f0 by omega)]; rfl))
      simp only [r04_RightTree.l0]
      rw [if_pos (by omega), if_pos (by omega), hrd, if_pos h1]
    by_cases h3 : x.f0 > 3
    · refine Ev.step (fun k => ?_) (hjt (by unfold okI; rw [decide_eq_false (show ¬ x.f0 ≤ 3 by omega)]; simp))
      simp only [r04_RightTree.l0]
      rw [if_pos (by omega), if_pos (by omega), hrd, if_neg h1, if_pos h3]
    refine Ev.step (f := fun k => (r04_Part.f k x.f1).bind fun t104 => if t104 = true then (r02_Named.f k x.f2).bind fun t105 => (if t105 = true then (if (i : Int) > 0 then r04_RightTree.j1 k l (i : Int) (!(Op.bytesLess (keyS (l[i - 1]?.getD noIt)).toList (keyS x).toList)) x.f0 x.f1 x.f2 else r04_RightTree.j1 k l (i : Int) false x.f0 x.f1 x.f2) else r04_RightTree.j1 k l (i : Int) true x.f0 x.f1 x.f2) else r04_RightTree.j1 k l (i : Int) true x.f0 x.f1 x.f2) (fun k => ?_) (Ev.bind (rpart_ev x.f1 (by omega)) ?_)
    · simp only [r04_RightTree.l0]
      rw [if_pos (by omega), if_pos (by omega), hrd, if_neg h1, if_neg h3]
      by_cases h0 : (i : Int) > 0
      · have e1 : wrap64 ((i : Int) - 1) = ((i - 1 : Nat) : Int) := by rw [w64 _ (by omega) (by omega)]; omega
        obtain ⟨y, hy⟩ : ∃ y, l[i - 1]? = some y := ⟨_, List.getElem?_eq_getElem (by omega)⟩
        have c1 : (0 : Int) ≤ ((i - 1 : Nat) : Int) := by omega
        have c2 : ((i - 1 : Nat) : Int) < (l.length : Int) := by omega
        have hky := rkey_eq y (by have := (hsh y (List.mem_of_getElem? hy)).1; omega)
        have hkx := rkey_eq x (by omega)
        simp only [if_pos h0, e1, if_pos c1, if_pos c2, rdI hy, hy, Option.getD_some, hky, hkx, Option.bind_some]
      · simp only [if_neg h0]
    have g1 : decide (1 ≤ x.f0) = true := decide_eq_true (by omega)
    have g3 : decide (x.f0 ≤ 3) = true := decide_eq_true (by omega)
    rcases hp : partB x.f1 with _ | _
    · exact Ev.congr (fun k => if_neg (by simp)) (hjt (by unfold okI; rw [hp]; simp))
    refine Ev.congr (fun k => if_pos rfl) (Ev.bind (rdig_ev x.f2) ?_)
    rcases hm : nmB x.f2 with _ | _
    · exact Ev.congr (fun k => if_neg (by simp)) (hjt (by unfold okI; rw [hm]; simp))
    refine Ev.congr (fun k => if_pos rfl) ?_
    have hlt : Op.bytesLess (keyS (l[i - 1]?.getD noIt)).toList (keyS x).toList = decide (L (keyS (l[i - 1]?.getD noIt)) < L (keyS x)) := by
      rw [toL, toL, bytesLess_eq]
    have hend : (i == 0 || decide (L (keyS (l[i - 1]?.getD noIt)) < L (keyS x))) = true → Ev (fun k => r04_RightTree.j1 k l (i : Int) false x.f0 x.f1 x.f2) (treeB l) := fun h => by
      refine Ev.step (f := fun k => r04_RightTree.l1 k l (i : Int) ((0 : Nat) : Int) x.f0 x.f1 x.f2) (fun k => ?_) (rtree_l1 l hl i x hx _ (fun hc => hbad ?_) (fun hc => hgo ?_) _ 0 rfl (Nat.zero_le _) rfl)
      · simp only [r04_RightTree.j1]
        rw [if_neg (by simp)]; rfl
      · unfold okI; rw [decide_eq_false hc]; simp
      · unfold okI; rw [g1, g3, hm, hp, hc, h]; rfl
    by_cases h0 : (i : Int) > 0
    · refine Ev.congr (fun k => if_pos h0) ?_
      rw [hlt]
      rcases hd : decide (L (keyS (l[i - 1]?.getD noIt)) < L (keyS x)) with _ | _
      · exact hjt (by unfold okI; rw [hd, show (i == 0) = false from by rw [beq_eq_false_iff_ne]; omega]; simp)
      · exact hend (by rw [hd, Bool.or_true])
    · refine Ev.congr (fun k => if_neg h0) (hend ?_)
      rw [show (i == 0) = true from by rw [beq_iff_eq]; omega, Bool.true_or]
theorem rtree_ev (l : List It) (hl : l.length ≤ 1000000000) (hsh : Ish l) : Ev (fun k => r04_RightTree.f k l) (treeB l) := rtree_l0 l hl hsh _ 0 rfl (fun j x hj => by omega)
end Go.Proofs.YtefefhhaopjccaaGreatDoor.Ob

namespace Go.Proofs.YtefefhhaopjccaaGreatDoor.Ob
set_option linter.unusedVariables false
set_option linter.unusedSimpArgs false
open Go Go.RowKit Go.Proofs.YtefefhhaopjccaaGreatDoorW.PrintWords Go.Proofs.YtefefhhaopjccaaGreatDoorW.PrintLast Go.Proofs.YtefefhhaopjccaaGreatDoorW.PrintMore PObBase PObDoc
theorem word_eq (k : Int) : r04_Word.f k = some (bs (wordL k)) := by
  unfold r04_Word.f wordL
  by_cases h1 : k = 1
  · rw [if_pos h1, if_pos h1]; rfl
  · rw [if_neg h1, if_neg h1]
    by_cases h2 : k = 2
    · rw [if_pos h2, if_pos h2]; rfl
    · rw [if_neg h2, if_neg h2]
      by_cases h3 : k = 3
      · rw [if_pos h3, if_pos h3]; rfl
      · rw [if_neg h3, if_neg h3]
        by_cases h4 : k = 4
        · rw [if_pos h4, if_pos h4]; rfl
        · rw [if_neg h4, if_neg h4]; rfl
theorem rlabel_ev (x : Lab) (h2 : x.f2.size ≤ 1000000000) : Ev (fun k => r04_RightLabel.f k x.f0 x.f1 x.f2 x.f3) (labelB x) := by
  have key : labelB x = (nmB x.f0 && (decide (1 ≤ x.f1) && (decide (x.f1 ≤ 4) && partB x.f2))) := by unfold labelB; rw [Bool.and_assoc, Bool.and_assoc]
  rw [key]
  unfold r04_RightLabel.f
  refine Ev.bind (rdig_ev x.f0) ?_
  rcases nmB x.f0 with _ | _
  · exact Ev.congr (fun k => if_neg (by simp)) (Ev.now _)
  · refine Ev.congr (fun k => if_pos rfl) ?_
    by_cases h1 : x.f1 ≥ 1
    · refine Ev.congr (fun k => if_pos h1) ?_
      rw [decide_eq_true (show 1 ≤ x.f1 from h1), Bool.true_and, Bool.true_and]
      by_cases h4 : x.f1 ≤ 4
      · refine Ev.congr (fun k => if_pos h4) ?_
        rw [decide_eq_true h4, Bool.true_and]
        exact Ev.bind (rpart_ev x.f2 (by omega)) (Ev.now _)
      · rw [decide_eq_false h4]
        exact Ev.congr (fun k => if_neg h4) (Ev.now _)
    · rw [decide_eq_false (show ¬ 1 ≤ x.f1 from h1)]
      exact Ev.congr (fun k => if_neg h1) (Ev.now _)
theorem label_text (x : Lab) : (((((((⟨#[111, 98, 106, 101, 99, 116, 32]⟩ : ByteArray) ++ x.f0) ++ (⟨#[10, 107, 105, 110, 100, 32]⟩ : ByteArray)) ++ bs (wordL x.f1)) ++ (⟨#[10, 110, 97, 109, 101, 32]⟩ : ByteArray)) ++ x.f2) ++ (⟨#[10, 10]⟩ : ByteArray)) ++ x.f3 = bs (labelL x) := by
  apply L_inj
  rw [L_bs]
  simp [L, bs, labelL, lineL, wObject, wKind, wName, ByteArray.data_append]
theorem rputL_ev (x : Lab) (h2 : x.f2.size ≤ 1000000000) (h3 : x.f3.size ≤ 1000000000) : Ev (fun k => r04_PutLabel.f k x.f0 x.f1 x.f2 x.f3) (putLabel x) := by
  unfold r04_PutLabel.f
  refine Ev.bind (rlabel_ev x h2) ?_
  by_cases h : labelB x = true
  · have e : putLabel x = (bs (labelL x), true) := by rw [putLabel, h]; rfl
    rw [e, ← label_text]
    have h' := h
    unfold labelB at h'
    simp only [Bool.and_eq_true, decide_eq_true_iff] at h'
    have gz : x.f0.size = 64 := nm_size h'.1.1.1
    have gs := (partB_size h'.2).2
    obtain ⟨q, hq⟩ : ∃ q, bs (wordL x.f1) = q := ⟨_, rfl⟩
    have hqs : q.size ≤ 6 := by rw [← hq, bs_size]; exact word_size _
    have s1 : ((⟨#[111, 98, 106, 101, 99, 116, 32]⟩ : ByteArray) ++ x.f0).size = 71 := by rw [ByteArray.size_append, gz]; rfl
    have s2 : (((⟨#[111, 98, 106, 101, 99, 116, 32]⟩ : ByteArray) ++ x.f0) ++ (⟨#[10, 107, 105, 110, 100, 32]⟩ : ByteArray)).size = 77 := by rw [ByteArray.size_append, s1]; rfl
    have s3 : ((((⟨#[111, 98, 106, 101, 99, 116, 32]⟩ : ByteArray) ++ x.f0) ++ (⟨#[10, 107, 105, 110, 100, 32]⟩ : ByteArray)) ++ q).size = 77 + q.size := by rw [ByteArray.size_append, s2]
    have s4 : (((((⟨#[111, 98, 106, 101, 99, 116, 32]⟩ : ByteArray) ++ x.f0) ++ (⟨#[10, 107, 105, 110, 100, 32]⟩ : ByteArray)) ++ q) ++ (⟨#[10, 110, 97, 109, 101, 32]⟩ : ByteArray)).size = 77 + q.size + 6 := by rw [ByteArray.size_append, s3]; rfl
    have s5 : ((((((⟨#[111, 98, 106, 101, 99, 116, 32]⟩ : ByteArray) ++ x.f0) ++ (⟨#[10, 107, 105, 110, 100, 32]⟩ : ByteArray)) ++ q) ++ (⟨#[10, 110, 97, 109, 101, 32]⟩ : ByteArray)) ++ x.f2).size = 77 + q.size + 6 + x.f2.size := by rw [ByteArray.size_append, s4]
    have s6 : (((((((⟨#[111, 98, 106, 101, 99, 116, 32]⟩ : ByteArray) ++ x.f0) ++ (⟨#[10, 107, 105, 110, 100, 32]⟩ : ByteArray)) ++ q) ++ (⟨#[10, 110, 97, 109, 101, 32]⟩ : ByteArray)) ++ x.f2) ++ (⟨#[10, 10]⟩ : ByteArray)).size = 77 + q.size + 6 + x.f2.size + 2 := by rw [ByteArray.size_append, s5]; rfl
    refine Ev.congr (fun k => if_pos h) (Ev.congr (f := fun _ => some _) (fun k => ?_) (Ev.now _))
    rw [if_pos (by omega), if_pos (by rw [s1]; omega), word_eq, Option.bind_some, hq, if_pos (by rw [s2]; omega), if_pos (by rw [s3]; omega), if_pos (by rw [s4]; omega), if_pos (by rw [s5]; omega), if_pos (by rw [s6]; omega)]
  · have e : putLabel x = (⟨#[]⟩, false) := by rw [putLabel, if_neg h]
    rw [e]
    exact Ev.congr (fun k => if_neg h) (Ev.now _)
end Go.Proofs.YtefefhhaopjccaaGreatDoor.Ob

namespace Go.Proofs.YtefefhhaopjccaaGreatDoor.Ob
set_option linter.unusedVariables false
set_option linter.unusedSimpArgs false
open Go Go.RowKit Go.Proofs.YtefefhhaopjccaaGreatDoorW.PrintWords Go.Proofs.YtefefhhaopjccaaGreatDoorW.PrintLast Go.Proofs.YtefefhhaopjccaaGreatDoorW.PrintMore PObBase PObDoc
theorem pre_line {q l : List UInt8} (hq : ∀ u ∈ q, u ≠ 10) : q.isPrefixOf l = true ↔ q.isPrefixOf (cutB 10 l).1 = true := by
  rw [List.isPrefixOf_iff_prefix, List.isPrefixOf_iff_prefix]
  obtain ⟨_, h2⟩ := cutB_spec 10 l
  rcases h2 with ⟨_, g⟩ | ⟨_, g, _⟩
  · constructor
    · intro h
      rw [g] at h
      rcases Nat.lt_or_ge (cutB 10 l).1.length q.length with hl | hl
      · have h10 : q[(cutB 10 l).1.length]? = some 10 := by
          obtain ⟨t, ht⟩ := h
          have := congrArg (fun m : List UInt8 => m[(cutB 10 l).1.length]?) ht
          simp only [List.getElem?_append_left hl, List.getElem?_append_right (Nat.le_refl _), Nat.sub_self] at this
          exact this
        exact absurd rfl (hq 10 (List.mem_of_getElem? h10))
      · exact List.prefix_of_prefix_length_le h (List.prefix_append _ _) hl
    · intro h
      rw [g]
      exact h.trans (List.prefix_append _ _)
  · rw [← g]
def lineR (s wd : ByteArray) : ByteArray × ByteArray × Bool := if (cutB 10 (L s)).2.2 = true ∧ (L wd ++ [32]).isPrefixOf (cutB 10 (L s)).1 = true then (bs ((cutB 10 (L s)).1.drop (wd.size + 1)), bs (cutB 10 (L s)).2.1, true) else (⟨#[]⟩, ⟨#[]⟩, false)
theorem rline_scan (s wd : ByteArray) (hs : s.size ≤ 1000000000) (m : Nat) (hm : m ≤ s.size) (hno : ∀ i u, i < m → (L s)[i]? = some u → u ≠ 10) (r : ByteArray × ByteArray × Bool) (h : Ev (fun k => r04_line.l0 k s wd (m : Int)) r) : ∀ (d j : Nat), m - j = d → j ≤ m → Ev (fun k => r04_line.l0 k s wd (j : Int)) r := by
  intro d
  induction d with
  | zero =>
    intro j hd hj
    obtain rfl : j = m := by omega
    exact h
  | succ d ih =>
    intro j hd hj
    obtain ⟨u, hu⟩ : ∃ u, (L s)[j]? = some u := ⟨_, List.getElem?_eq_getElem (by rw [L_len]; omega)⟩
    have hn : ¬ (u.toNat : Int) = 10 := by
      intro e
      refine hno j u (by omega) hu (UInt8.toNat_inj.1 ?_)
      have : (10 : UInt8).toNat = 10 := rfl
      omega
    have hw := wr1 (i := j) (n := s.size) (by omega) (by omega)
    refine Ev.step (fun k => ?_) (ih (j + 1) (by omega) (by omega))
    simp only [r04_line.l0]
    rw [if_pos (by omega), if_pos (by omega), bt_get hu _ rfl, if_neg hn, hw]
theorem rline_ev (s wd : ByteArray) (hs : s.size ≤ 1000000000) (hw : wd.size ≤ 1000) (h10 : ∀ u ∈ L wd, u ≠ 10) : Ev (fun k => r04_line.f k s wd) (lineR s wd) := by
  have hw1 : wrap64 ((wd.size : Int) + 1) = ((wd.size + 1 : Nat) : Int) := by rw [w64 _ (by omega) (by omega)]; omega
  have hjt : Ev (fun k => r04_line.j0 k s wd true) (⟨#[]⟩, ⟨#[]⟩, false) := Ev.step (f := fun _ => some (⟨#[]⟩, ⟨#[]⟩, false)) (fun k => by simp [r04_line.j0]) (Ev.now _)
  have hq : ∀ u ∈ L wd ++ [32], u ≠ 10 := by
    intro u hu
    rcases List.mem_append.1 hu with hu | hu
    · exact h10 u hu
    · obtain rfl := List.mem_singleton.1 hu; decide
  have hpre := pre_line (l := L s) hq
  have hpx : (L wd ++ [32]).isPrefixOf (L s) = true ↔ (L s).take (wd.size + 1) = L wd ++ [32] := by
    rw [List.isPrefixOf_iff_prefix, List.prefix_iff_eq_take, List.length_append, L_len]
    exact ⟨fun h => h.symm, fun h => h.symm⟩
  have hno : ¬ (L wd ++ [32]).isPrefixOf (L s) = true → lineR s wd = (⟨#[]⟩, ⟨#[]⟩, false) := fun h => by
    unfold lineR
    rw [if_neg (fun g => h (hpre.2 g.2))]
  unfold r04_line.f
  rw [hw1]
  by_cases hlen : s.size < wd.size + 1
  · rw [hno (fun h => by
      have := (List.isPrefixOf_iff_prefix.1 h).length_le
      rw [List.length_append, L_len, L_len] at this
      simp at this; omega)]
    exact Ev.congr (fun k => if_pos (by omega)) hjt
  · refine Ev.congr (fun k => by rw [if_neg (by omega), if_pos (by omega), if_pos (by omega)]) ?_
    obtain ⟨u, hu⟩ : ∃ u, (L s)[wd.size]? = some u := ⟨_, List.getElem?_eq_getElem (by rw [L_len]; omega)⟩
    have htk : (L s).take (wd.size + 1) = (L s).take wd.size ++ [u] := by rw [List.take_add_one, hu]; rfl
    have hex : (s.extract 0 ((wd.size : Int)).toNat).toList = (L s).take wd.size := by rw [Int.toNat_natCast, toL, L_ext, List.drop_zero, Nat.sub_zero]
    by_cases he : (L s).take wd.size = L wd
    · refine Ev.congr (fun k => by rw [if_pos (by rw [hex, toL]; exact he), if_pos (by omega), bt_get hu _ rfl]) ?_
      by_cases h32 : u = 32
      · have hp : (L wd ++ [32]).isPrefixOf (L s) = true := hpx.2 (by rw [htk, he, h32])
        have hb : ((u.toNat : Int) != 32) = false := by rw [h32]; rfl
        rw [hb]
        refine Ev.step (f := fun k => r04_line.l0 k s wd ((wd.size + 1 : Nat) : Int)) (fun k => by simp only [r04_line.j0]; rw [if_neg (by simp), hw1]) ?_
        have hp2 := hpre.1 hp
        obtain ⟨k1, k2⟩ := cutB_spec 10 (L s)
        have hlen2 := (cutB_len 10 (L s)).1
        unfold lineR
        obtain ⟨p, hpp⟩ : ∃ p, (cutB 10 (L s)).1 = p := ⟨_, rfl⟩
        obtain ⟨z, hzz⟩ : ∃ z, (cutB 10 (L s)).2.1 = z := ⟨_, rfl⟩
        obtain ⟨f, hff⟩ : ∃ f, (cutB 10 (L s)).2.2 = f := ⟨_, rfl⟩
        rw [hpp] at k1 k2 hlen2 hp2 ⊢
        rw [hzz] at k2 hlen2 ⊢
        rw [hff] at k2 ⊢
        rw [L_len] at hlen2
        have hwp : wd.size + 1 ≤ p.length := by
          have := (List.isPrefixOf_iff_prefix.1 hp2).length_le
          rw [List.length_append, L_len] at this
          simpa using this
        have hnn : ∀ i u, i < p.length → (L s)[i]? = some u → u ≠ 10 := by
          intro i u hi hu
          refine k1 u (List.mem_of_getElem? (i := i) ?_)
          rcases k2 with ⟨_, g⟩ | ⟨_, g, _⟩
          · rw [g, List.getElem?_append_left hi] at hu; exact hu
          · rw [g] at hu; exact hu
        refine rline_scan s wd hs p.length (by omega) hnn _ ?_ _ (wd.size + 1) rfl hwp
        rcases k2 with ⟨rfl, g⟩ | ⟨rfl, g, _⟩
        · have hm10 : (L s)[p.length]? = some 10 := by
            rw [g, List.getElem?_append_right (Nat.le_refl _), Nat.sub_self]; rfl
          have hmlt : p.length < s.size := by
            have := (List.getElem?_eq_some_iff.1 hm10).1
            rw [L_len] at this; exact this
          rw [if_pos ⟨rfl, hp2⟩]
          have e1 : s.extract (wd.size + 1) p.length = bs (p.drop (wd.size + 1)) := by
            apply L_inj
            rw [L_bs, L_ext, g, List.drop_append_of_le_length hwp, List.take_append_of_le_length (by rw [List.length_drop]; exact Nat.le_refl _), List.take_of_length_le (by rw [List.length_drop]; exact Nat.le_refl _)]
          have e2 : s.extract (p.length + 1) s.size = bs z := by
            rw [ext_drop, g, ← List.drop_drop, List.drop_left]; rfl
          have hwm := wr1 hmlt (by omega)
          refine Ev.step (f := fun _ => some (bs (p.drop (wd.size + 1)), bs z, true)) (fun k => ?_) (Ev.now _)
          simp only [r04_line.l0]
          rw [if_pos (by omega), if_pos (by omega), bt_get hm10 _ rfl, if_pos (show ((10 : UInt8).toNat : Int) = 10 from rfl), hw1, if_pos (by omega), if_pos (by omega), if_pos (by omega), hwm, if_pos (by omega), if_pos (by omega), Int.toNat_natCast, Int.toNat_natCast, Int.toNat_natCast, e1, e2]
        · rw [if_neg (fun h => by cases h.1)]
          have : p.length = s.size := by rw [← L_len, g]
          refine Ev.step (f := fun _ => some (⟨#[]⟩, ⟨#[]⟩, false)) (fun k => ?_) (Ev.now _)
          simp only [r04_line.l0]
          rw [if_neg (by omega)]
      · rw [hno (fun h => h32 (by
          have := hpx.1 h
          rw [htk, he] at this
          have := List.append_cancel_left this
          simpa using this))]
        have hb : ((u.toNat : Int) != 32) = true := by
          rw [bne_iff_ne]
          intro e
          exact h32 (UInt8.toNat_inj.1 (by have : (32 : UInt8).toNat = 32 := rfl; omega))
        rw [hb]; exact hjt
    · rw [hno (fun h => he (by
        have := hpx.1 h
        rw [htk] at this
        exact (List.append_inj this (by rw [List.length_take, L_len, L_len]; omega)).1))]
      exact Ev.congr (fun k => if_neg (by rw [hex, toL]; exact he)) hjt
end Go.Proofs.YtefefhhaopjccaaGreatDoor.Ob

namespace Go.Proofs.YtefefhhaopjccaaGreatDoor.Ob
set_option linter.unusedVariables false
set_option linter.unusedSimpArgs false
open Go Go.RowKit Go.Proofs.YtefefhhaopjccaaGreatDoorW.PrintWords Go.Proofs.YtefefhhaopjccaaGreatDoorW.PrintLast Go.Proofs.YtefefhhaopjccaaGreatDoorW.PrintMore PObBase
def readPs : Nat → Rd → List ByteArray × Rd
  | 0, r => ([], r)
  | n + 1, r => if (wParent ++ [32]).isPrefixOf r.rest = true ∧ r.ok = true then (bs (readLine wParent r).1 :: (readPs n (readLine wParent r).2).1, (readPs n (readLine wParent r).2).2) else ([], r)
def rdC1 (s : ByteArray) : List UInt8 × Rd := readLine wTree ⟨L s, true⟩
def rdC2 (s : ByteArray) : List ByteArray × Rd := readPs (s.size + 1) (rdC1 s).2
def rdC3 (s : ByteArray) : List UInt8 × Rd := readLine wWho (rdC2 s).2
def rdC4 (s : ByteArray) : List UInt8 × Rd := readText (rdC3 s).2
def parseC (s : ByteArray) : Chg := ⟨bs (rdC1 s).1, (rdC2 s).1, bs (rdC3 s).1, bs (rdC4 s).1⟩
def noChg : Chg := ⟨⟨#[]⟩, [], ⟨#[]⟩, ⟨#[]⟩⟩
open Classical in
noncomputable def getChange (s : ByteArray) : Chg × Bool := if (rdC4 s).2.ok = true ∧ putChange (parseC s) = (s, true) then (parseC s, true) else (noChg, false)
def kindOf (v : List UInt8) : Int := if v = [] then 0 else if v = wBlob then 1 else if v = wTree then 2 else if v = wCommit then 3 else if v = wTag then 4 else -1
def rdL1 (s : ByteArray) : List UInt8 × Rd := readLine wObject ⟨L s, true⟩
def rdL2 (s : ByteArray) : List UInt8 × Rd := readLine wKind (rdL1 s).2
def rdL3 (s : ByteArray) : List UInt8 × Rd := readLine wName (rdL2 s).2
def rdL4 (s : ByteArray) : List UInt8 × Rd := readText (rdL3 s).2
def parseL (s : ByteArray) : Lab := ⟨bs (rdL1 s).1, kindOf (rdL2 s).1, bs (rdL3 s).1, bs (rdL4 s).1⟩
def noLab : Lab := ⟨⟨#[]⟩, 0, ⟨#[]⟩, ⟨#[]⟩⟩
open Classical in
noncomputable def getLabel (s : ByteArray) : Lab × Bool := if (rdL4 s).2.ok = true ∧ putLabel (parseL s) = (s, true) then (parseL s, true) else (noLab, false)
theorem line_of {w v : List UInt8} (t : List UInt8) (hw : ∀ u ∈ w, u ≠ 10) (hv : ∀ u ∈ v, u ≠ 10) : readLine w ⟨lineL w v ++ t, true⟩ = (v, ⟨t, true⟩) := by
  have hc : cutB 10 (lineL w v ++ t) = (w ++ 32 :: v, t, true) := by
    have e : lineL w v ++ t = (w ++ 32 :: v) ++ 10 :: t := by simp [lineL]
    rw [e]
    refine cutB_app 10 _ _ (fun x hx => ?_)
    rcases List.mem_append.1 hx with hx | hx
    · exact hw x hx
    · rcases List.mem_cons.1 hx with rfl | hx
      · decide
      · exact hv x hx
  unfold readLine
  have hp : (w ++ [32]).isPrefixOf (w ++ 32 :: v) = true := by
    rw [List.isPrefixOf_iff_prefix]
    exact ⟨v, by simp⟩
  simp only [hc]
  rw [if_pos ⟨trivial, hp, trivial⟩]
  congr 1
  have : w ++ 32 :: v = (w ++ [32]) ++ v := by simp
  rw [this, List.drop_left' (by simp)]
theorem hex_no10 {s : ByteArray} (h : nmB s = true) : ∀ u ∈ L s, u ≠ 10 := by
  intro u hu e
  unfold nmB at h
  rw [Bool.and_eq_true, List.all_eq_true] at h
  have := (hexOk_iff u).1 (h.1 u hu)
  rw [e] at this
  revert this; decide
theorem part_no10 {s : ByteArray} (h : partB s = true) : ∀ u ∈ L s, u ≠ 10 := by
  intro u hu e
  have := part_bytes h u hu
  rw [e] at this
  revert this; decide
theorem change_parts {c : Chg} (h : changeB c = true) : nmB c.f0 = true ∧ (∀ p ∈ c.f1, nmB p = true) ∧ c.f1.length ≤ 8 ∧ c.f1.Nodup ∧ c.f2.size ≤ 100 ∧ (L c.f2).all whoOk = true := by
  unfold changeB at h
  simp only [Bool.and_eq_true, decide_eq_true_iff, List.all_eq_true] at h
  obtain ⟨⟨⟨⟨⟨a, b⟩, d⟩, e⟩, f⟩, g⟩ := h
  exact ⟨a, b, d, e, f, List.all_eq_true.2 g⟩
theorem label_parts {x : Lab} (h : labelB x = true) : nmB x.f0 = true ∧ 1 ≤ x.f1 ∧ x.f1 ≤ 4 ∧ partB x.f2 = true := by
  unfold labelB at h
  simp only [Bool.and_eq_true, decide_eq_true_iff] at h
  exact ⟨h.1.1.1, h.1.1.2, h.1.2, h.2⟩
theorem who_no10 {s : ByteArray} (h : (L s).all whoOk = true) : ∀ u ∈ L s, u ≠ 10 := by
  intro u hu e
  have := List.all_eq_true.1 h u hu
  rw [e] at this
  revert this; decide
theorem readPs_of : ∀ (ps : List ByteArray) (n : Nat) (t : List UInt8), (∀ p ∈ ps, nmB p = true) → ps.length < n → (wParent ++ [32]).isPrefixOf t = false → readPs n ⟨ps.flatMap (fun p => lineL wParent (L p)) ++ t, true⟩ = (ps, ⟨t, true⟩)
  | _, 0, _, _, h, _ => absurd h (Nat.not_lt_zero _)
  | [], n + 1, t, _, _, ht => by
    rw [readPs]
    simp [ht]
  | p :: r, n + 1, t, hp, hn, ht => by
    have h1 := readPs_of r n t (fun q hq => hp q (List.mem_cons_of_mem _ hq)) (by rw [List.length_cons] at hn; omega) ht
    have e : (p :: r).flatMap (fun p => lineL wParent (L p)) ++ t = lineL wParent (L p) ++ (r.flatMap (fun p => lineL wParent (L p)) ++ t) := by simp
    have hl := line_of (w := wParent) (v := L p) (r.flatMap (fun p => lineL wParent (L p)) ++ t) (by decide) (hex_no10 (hp p List.mem_cons_self))
    rw [readPs, e, hl, bs_L]
    have hpre : (wParent ++ [32]).isPrefixOf (lineL wParent (L p) ++ (r.flatMap (fun p => lineL wParent (L p)) ++ t)) = true := by
      rw [List.isPrefixOf_iff_prefix]
      exact ⟨L p ++ [10] ++ (r.flatMap (fun p => lineL wParent (L p)) ++ t), by simp [lineL]⟩
    rw [if_pos ⟨hpre, rfl⟩]
    simp only [h1]
theorem parents_len (ps : List ByteArray) : ps.length ≤ (ps.flatMap (fun p => lineL wParent (L p))).length := by
  induction ps with
  | nil => simp
  | cons p r ih =>
    rw [List.flatMap_cons, List.length_append, List.length_cons]
    have : 1 ≤ (lineL wParent (L p)).length := by simp [lineL]; omega
    omega
theorem putChange_iff {c : Chg} {s : ByteArray} : putChange c = (s, true) ↔ (changeB c = true ∧ s = bs (changeL c)) := by
  unfold putChange
  constructor
  · intro h
    split at h
    · rename_i g; exact ⟨g, (Prod.mk.inj h).1.symm⟩
    · cases (Prod.mk.inj h).2
  · rintro ⟨g, rfl⟩; rw [if_pos g]
theorem putLabel_iff {c : Lab} {s : ByteArray} : putLabel c = (s, true) ↔ (labelB c = true ∧ s = bs (labelL c)) := by
  unfold putLabel
  constructor
  · intro h
    split at h
    · rename_i g; exact ⟨g, (Prod.mk.inj h).1.symm⟩
    · cases (Prod.mk.inj h).2
  · rintro ⟨g, rfl⟩; rw [if_pos g]
theorem readText_of (t : List UInt8) : readText ⟨10 :: t, true⟩ = (t, ⟨10 :: t, true⟩) := by
  unfold readText
  rw [if_pos (by simp)]; rfl
theorem parse_change {c : Chg} (h : changeB c = true) : parseC (bs (changeL c)) = c ∧ (rdC4 (bs (changeL c))).2.ok = true := by
  obtain ⟨h0, h1, _, _, _, h2⟩ := change_parts h
  have e : L (bs (changeL c)) = lineL wTree (L c.f0) ++ (c.f1.flatMap (fun p => lineL wParent (L p)) ++ (lineL wWho (L c.f2) ++ 10 :: L c.f3)) := by rw [L_bs, changeL]; simp
  have r1 : rdC1 (bs (changeL c)) = (L c.f0, ⟨c.f1.flatMap (fun p => lineL wParent (L p)) ++ (lineL wWho (L c.f2) ++ 10 :: L c.f3), true⟩) := by
    unfold rdC1
    rw [e, line_of _ (by decide) (hex_no10 h0)]
  have r2 : rdC2 (bs (changeL c)) = (c.f1, ⟨lineL wWho (L c.f2) ++ 10 :: L c.f3, true⟩) := by
    unfold rdC2
    rw [r1]
    refine readPs_of c.f1 _ _ h1 ?_ rfl
    rw [← L_len, e]
    have := parents_len c.f1
    simp only [List.length_append]
    omega
  have r3 : rdC3 (bs (changeL c)) = (L c.f2, ⟨10 :: L c.f3, true⟩) := by
    unfold rdC3
    rw [r2, line_of _ (by decide) (who_no10 h2)]
  have r4 : rdC4 (bs (changeL c)) = (L c.f3, ⟨10 :: L c.f3, true⟩) := by
    unfold rdC4
    rw [r3, readText_of]
  unfold parseC
  rw [r1, r2, r3, r4, bs_L, bs_L, bs_L]
  exact ⟨rfl, rfl⟩
theorem getChange_iff (s : ByteArray) (c : Chg) : getChange s = (c, true) ↔ putChange c = (s, true) := by
  classical
  unfold getChange
  constructor
  · intro h
    split at h
    · rename_i g
      rw [← (Prod.mk.inj h).1]; exact g.2
    · cases (Prod.mk.inj h).2
  · intro h
    obtain ⟨h1, rfl⟩ := putChange_iff.1 h
    obtain ⟨g1, g2⟩ := parse_change h1
    rw [if_pos ⟨g2, by rw [g1]; exact h⟩, g1]
theorem kind_word {k : Int} (h1 : 1 ≤ k) (h4 : k ≤ 4) : kindOf (wordL k) = k := by
  rcases (show k = 1 ∨ k = 2 ∨ k = 3 ∨ k = 4 by omega) with rfl | rfl | rfl | rfl <;> decide
theorem word_no10 (k : Int) : ∀ u ∈ wordL k, u ≠ 10 := by
  unfold wordL
  split
  · decide
  · split
    · decide
    · split
      · decide
      · split <;> decide
theorem parse_label {x : Lab} (h : labelB x = true) : parseL (bs (labelL x)) = x ∧ (rdL4 (bs (labelL x))).2.ok = true := by
  obtain ⟨h0, g1, g4, hp⟩ := label_parts h
  have e : L (bs (labelL x)) = lineL wObject (L x.f0) ++ (lineL wKind (wordL x.f1) ++ (lineL wName (L x.f2) ++ 10 :: L x.f3)) := by rw [L_bs, labelL]; simp
  have r1 : rdL1 (bs (labelL x)) = (L x.f0, ⟨lineL wKind (wordL x.f1) ++ (lineL wName (L x.f2) ++ 10 :: L x.f3), true⟩) := by
    unfold rdL1
    rw [e, line_of _ (by decide) (hex_no10 h0)]
  have r2 : rdL2 (bs (labelL x)) = (wordL x.f1, ⟨lineL wName (L x.f2) ++ 10 :: L x.f3, true⟩) := by
    unfold rdL2
    rw [r1, line_of _ (by decide) (word_no10 _)]
  have r3 : rdL3 (bs (labelL x)) = (L x.f2, ⟨10 :: L x.f3, true⟩) := by
    unfold rdL3
    rw [r2, line_of _ (by decide) (part_no10 hp)]
  have r4 : rdL4 (bs (labelL x)) = (L x.f3, ⟨10 :: L x.f3, true⟩) := by
    unfold rdL4
    rw [r3, readText_of]
  unfold parseL
  rw [r1, r2, r3, r4, bs_L, bs_L, bs_L, kind_word g1 g4]
  exact ⟨rfl, rfl⟩
theorem getLabel_iff (s : ByteArray) (c : Lab) : getLabel s = (c, true) ↔ putLabel c = (s, true) := by
  classical
  unfold getLabel
  constructor
  · intro h
    split at h
    · rename_i g
      rw [← (Prod.mk.inj h).1]; exact g.2
    · cases (Prod.mk.inj h).2
  · intro h
    obtain ⟨h1, rfl⟩ := putLabel_iff.1 h
    obtain ⟨g1, g2⟩ := parse_label h1
    rw [if_pos ⟨g2, by rw [g1]; exact h⟩, g1]
theorem getLabel_else (s : ByteArray) : (∃ c, getLabel s = (c, true)) ∨ getLabel s = (noLab, false) := by
  classical
  unfold getLabel
  split
  · exact .inl ⟨_, rfl⟩
  · exact .inr rfl
end Go.Proofs.YtefefhhaopjccaaGreatDoor.Ob

namespace Go.Proofs.YtefefhhaopjccaaGreatDoor.Ob
set_option linter.unusedVariables false
set_option linter.unusedSimpArgs false
open Go Go.RowKit Go.Proofs.YtefefhhaopjccaaGreatDoorW.PrintWords Go.Proofs.YtefefhhaopjccaaGreatDoorW.PrintLast Go.Proofs.YtefefhhaopjccaaGreatDoorW.PrintMore PObBase
theorem whoOk_iff (u : UInt8) : whoOk u = true ↔ (32 ≤ u.toNat ∧ u.toNat ≤ 126) := by
  unfold whoOk
  rw [Bool.and_eq_true, decide_eq_true_iff, decide_eq_true_iff]
theorem readLine_le (w : List UInt8) (r : Rd) : (readLine w r).1.length ≤ r.rest.length ∧ (readLine w r).2.rest.length ≤ r.rest.length ∧ ((readLine w r).2.ok = true → r.ok = true ∧ (readLine w r).2.rest.length < r.rest.length) := by
  have h0 := (cutB_len 10 r.rest).1
  obtain ⟨_, h2⟩ := cutB_spec 10 r.rest
  unfold readLine
  split
  · rename_i g
    refine ⟨?_, ?_, fun _ => ⟨g.2.2, ?_⟩⟩
    · show ((cutB 10 r.rest).1.drop _).length ≤ _
      rw [List.length_drop]; omega
    · show (cutB 10 r.rest).2.1.length ≤ _
      omega
    · show (cutB 10 r.rest).2.1.length < _
      rcases h2 with ⟨_, g2⟩ | ⟨g1, _⟩
      · have := congrArg List.length g2
        rw [List.length_append, List.length_cons] at this
        omega
      · rw [g.1] at g1; cases g1
  · exact ⟨Nat.zero_le _, Nat.le_refl _, fun h => by cases h⟩
theorem readPs_le : ∀ (n : Nat) (r : Rd), (readPs n r).1.length ≤ n ∧ (∀ p ∈ (readPs n r).1, p.size ≤ r.rest.length) ∧ (readPs n r).2.rest.length ≤ r.rest.length
  | 0, r => ⟨Nat.le_refl _, fun p hp => (by cases hp), Nat.le_refl _⟩
  | n + 1, r => by
    rw [readPs]
    split
    · obtain ⟨h1, h2, h3⟩ := readPs_le n (readLine wParent r).2
      obtain ⟨g1, g2, _⟩ := readLine_le wParent r
      refine ⟨?_, fun p hp => ?_, ?_⟩
      · show (_ :: _).length ≤ _
        rw [List.length_cons]; omega
      · rcases List.mem_cons.1 hp with rfl | hp
        · rw [bs_size]; exact g1
        · have := h2 p hp; omega
      · show (readPs n (readLine wParent r).2).2.rest.length ≤ _
        omega
    · exact ⟨Nat.zero_le _, fun p hp => (by cases hp), Nat.le_refl _⟩
theorem readText_le (r : Rd) : (readText r).1.length ≤ r.rest.length ∧ (readText r).2.rest.length ≤ r.rest.length := by
  unfold readText
  split
  · refine ⟨?_, Nat.le_refl _⟩
    show r.rest.tail.length ≤ _
    rw [List.length_tail]; omega
  · exact ⟨Nat.le_refl _, Nat.le_refl _⟩
theorem rdC_le (s : ByteArray) : (rdC1 s).1.length ≤ s.size ∧ (rdC1 s).2.rest.length ≤ s.size ∧ (rdC2 s).1.length ≤ s.size + 1 ∧ (∀ p ∈ (rdC2 s).1, p.size ≤ s.size) ∧ (rdC2 s).2.rest.length ≤ s.size ∧ (rdC3 s).1.length ≤ s.size ∧ (rdC3 s).2.rest.length ≤ s.size ∧ (rdC4 s).1.length ≤ s.size := by
  have hl : (L s).length = s.size := L_len s
  obtain ⟨a1, a2, _⟩ := readLine_le wTree ⟨L s, true⟩
  obtain ⟨b1, b2, b3⟩ := readPs_le (s.size + 1) (rdC1 s).2
  obtain ⟨c1, c2, _⟩ := readLine_le wWho (rdC2 s).2
  obtain ⟨d1, _⟩ := readText_le (rdC3 s).2
  have e1 : (rdC1 s).1.length ≤ s.size := by rw [← hl]; exact a1
  have e2 : (rdC1 s).2.rest.length ≤ s.size := by rw [← hl]; exact a2
  have e3 : (rdC2 s).2.rest.length ≤ s.size := Nat.le_trans b3 e2
  have e4 : (rdC3 s).2.rest.length ≤ s.size := Nat.le_trans c2 e3
  exact ⟨e1, e2, b1, fun p hp => Nat.le_trans (b2 p hp) e2, e3, Nat.le_trans c1 e3, e4, Nat.le_trans d1 e4⟩
theorem rdL_le (s : ByteArray) : (rdL1 s).1.length ≤ s.size ∧ (rdL1 s).2.rest.length ≤ s.size ∧ (rdL2 s).1.length ≤ s.size ∧ (rdL2 s).2.rest.length ≤ s.size ∧ (rdL3 s).1.length ≤ s.size ∧ (rdL3 s).2.rest.length ≤ s.size ∧ (rdL4 s).1.length ≤ s.size := by
  have hl : (L s).length = s.size := L_len s
  obtain ⟨a1, a2, _⟩ := readLine_le wObject ⟨L s, true⟩
  obtain ⟨b1, b2, _⟩ := readLine_le wKind (rdL1 s).2
  obtain ⟨c1, c2, _⟩ := readLine_le wName (rdL2 s).2
  obtain ⟨d1, _⟩ := readText_le (rdL3 s).2
  have e1 : (rdL1 s).1.length ≤ s.size := by rw [← hl]; exact a1
  have e2 : (rdL1 s).2.rest.length ≤ s.size := by rw [← hl]; exact a2
  have e3 : (rdL2 s).2.rest.length ≤ s.size := Nat.le_trans b2 e2
  have e4 : (rdL3 s).2.rest.length ≤ s.size := Nat.le_trans c2 e3
  exact ⟨e1, e2, Nat.le_trans b1 e2, e3, Nat.le_trans c1 e3, e4, Nat.le_trans d1 e4⟩
structure Csh (x : Chg) : Prop where
  h0 : x.f0.size ≤ 1000000000
  hl : x.f1.length ≤ 1000000000
  h1 : ∀ p ∈ x.f1, p.size ≤ 1000000000
  h2 : x.f2.size ≤ 1000000000
  h3 : x.f3.size ≤ 1000000000
theorem parseC_sh {s : ByteArray} (hs : s.size ≤ 500000000) : Csh (parseC s) := by
  obtain ⟨a, _, b, c, _, d, _, e⟩ := rdC_le s
  exact ⟨by show (bs (rdC1 s).1).size ≤ _; rw [bs_size]; omega, by show (rdC2 s).1.length ≤ _; omega, fun p hp => by have := c p hp; omega, by show (bs (rdC3 s).1).size ≤ _; rw [bs_size]; omega, by show (bs (rdC4 s).1).size ≤ _; rw [bs_size]; omega⟩
def preL (x : Chg) (i : Nat) : List UInt8 := lineL wTree (L x.f0) ++ (x.f1.take i).flatMap (fun p => lineL wParent (L p))
theorem preL_step {x : Chg} {i : Nat} {p : ByteArray} (hp : x.f1[i]? = some p) : preL x (i + 1) = preL x i ++ lineL wParent (L p) := by
  unfold preL
  rw [List.take_add_one, hp, List.flatMap_append, List.append_assoc]; simp
theorem preL_len {x : Chg} (h0 : x.f0.size = 64) (h : ∀ p ∈ x.f1, p.size = 64) (i : Nat) : (preL x i).length ≤ 70 + 72 * i := by
  unfold preL
  rw [List.length_append]
  have h1 : (lineL wTree (L x.f0)).length = 70 := by simp [lineL, wTree, h0]
  have h2 : ∀ l : List ByteArray, (∀ p ∈ l, p.size = 64) → (l.flatMap (fun p => lineL wParent (L p))).length = 72 * l.length := by
    intro l hl
    induction l with
    | nil => rfl
    | cons p r ih =>
      rw [List.flatMap_cons, List.length_append, ih (fun q hq => hl q (List.mem_cons_of_mem _ hq)), List.length_cons]
      have : (lineL wParent (L p)).length = 72 := by simp [lineL, wParent, hl p List.mem_cons_self]
      omega
  rw [h1, h2 _ (fun p hp => h p (List.mem_of_mem_take hp)), List.length_take]
  omega
theorem txt_tree (s : ByteArray) : L ((⟨#[116, 114, 101, 101, 32]⟩ : ByteArray) ++ s ++ (⟨#[10]⟩ : ByteArray)) = lineL wTree (L s) := by simp [L, lineL, wTree, ByteArray.data_append]
theorem txt_parent (s : ByteArray) : L ((⟨#[112, 97, 114, 101, 110, 116, 32]⟩ : ByteArray) ++ s ++ (⟨#[10]⟩ : ByteArray)) = lineL wParent (L s) := by simp [L, lineL, wParent, ByteArray.data_append]
theorem txt_who (s t : ByteArray) : L ((⟨#[119, 104, 111, 32]⟩ : ByteArray) ++ s ++ (⟨#[10, 10]⟩ : ByteArray) ++ t) = lineL wWho (L s) ++ 10 :: L t := by simp [L, lineL, wWho, ByteArray.data_append]
theorem change_all_text {x : Chg} {n : Nat} (hn : x.f1.length = n) : preL x n ++ (lineL wWho (L x.f2) ++ 10 :: L x.f3) = changeL x := by
  unfold preL changeL
  rw [List.take_of_length_le (by omega)]; simp
end Go.Proofs.YtefefhhaopjccaaGreatDoor.Ob

namespace Go.Proofs.YtefefhhaopjccaaGreatDoor.Ob
set_option linter.unusedVariables false
set_option linter.unusedSimpArgs false
open Go Go.RowKit Go.Proofs.YtefefhhaopjccaaGreatDoorW.PrintWords Go.Proofs.YtefefhhaopjccaaGreatDoorW.PrintLast Go.Proofs.YtefefhhaopjccaaGreatDoorW.PrintMore PObBase PObDoc
theorem rdS {l : List ByteArray} {i : Nat} {p : ByteArray} (hp : l[i]? = some p) : rdOf ByteArray.empty l (i : Int) = p := by
  unfold rdOf
  rw [Int.toNat_natCast, List.getD_eq_getElem?_getD, hp]; rfl
theorem rchange_l2 (x : Chg) (hl : x.f1.length ≤ 1000000000) (i : Nat) (p : ByteArray) (hp : x.f1[i]? = some p) (r : Bool) (hno : p ∈ x.f1.take i → r = false) (hyes : p ∉ x.f1.take i → Ev (fun k => r04_RightChange.l1 k ((i + 1 : Nat) : Int) x.f0 x.f1 x.f2 x.f3) r) : ∀ (d j : Nat), i - j = d → j ≤ i → p ∉ x.f1.take j → Ev (fun k => r04_RightChange.l2 k (i : Int) (j : Int) x.f0 x.f1 x.f2 x.f3) r := by
  have hil := (List.getElem?_eq_some_iff.1 hp).1
  have hw := wr1 hil (by omega)
  intro d
  induction d with
  | zero =>
    intro j hd hj hn
    obtain rfl : j = i := by omega
    refine Ev.step (fun k => ?_) (hyes hn)
    simp only [r04_RightChange.l2]
    rw [if_neg (by omega), hw]
  | succ d ih =>
    intro j hd hj hn
    have hji : j < i := by omega
    obtain ⟨q, hq⟩ : ∃ q, x.f1[j]? = some q := ⟨_, List.getElem?_eq_getElem (by omega)⟩
    have hwj := wr1 (i := j) (n := x.f1.length) (by omega) (by omega)
    have htk : x.f1.take (j + 1) = x.f1.take j ++ [q] := by rw [List.take_add_one, hq]; rfl
    by_cases h : q = p
    · have : r = false := hno (by rw [← h]; exact List.mem_of_getElem? (i := j) (by rw [List.getElem?_take_of_lt hji]; exact hq))
      rw [this]
      refine Ev.step (f := fun _ => some false) (fun k => ?_) (Ev.now _)
      simp only [r04_RightChange.l2]
      rw [if_pos (by omega), if_pos (by omega), if_pos (by omega), if_pos (by omega), if_pos (by omega), rdS hq, rdS hp, if_pos (by rw [h])]
    · refine Ev.step (fun k => ?_) (ih (j + 1) (by omega) (by omega) (by
        rw [htk]
        intro hm
        rcases List.mem_append.1 hm with hm | hm
        · exact hn hm
        · exact h (List.mem_singleton.1 hm).symm))
      simp only [r04_RightChange.l2]
      rw [if_pos (by omega), if_pos (by omega), if_pos (by omega), if_pos (by omega), if_pos (by omega), rdS hq, rdS hp, if_neg (fun e => h ((toL_inj _ _).1 e)), hwj]
theorem rchange_l1 (x : Chg) (hl : x.f1.length ≤ 1000000000) : ∀ (d i : Nat), x.f1.length - i = d → i ≤ x.f1.length → ∃ b, Ev (fun k => r04_RightChange.l1 k (i : Int) x.f0 x.f1 x.f2 x.f3) b ∧ (b = true ↔ ∀ (j : Nat) (p : ByteArray), i ≤ j → x.f1[j]? = some p → nmB p = true ∧ p ∉ x.f1.take j) := by
  intro d
  induction d with
  | zero =>
    intro i hd hi
    refine ⟨true, Ev.step (f := fun _ => some true) (fun k => ?_) (Ev.now _), fun _ j p hj hp => ?_, fun _ => rfl⟩
    · simp only [r04_RightChange.l1]
      rw [if_neg (by omega)]
    · have := (List.getElem?_eq_some_iff.1 hp).1
      omega
  | succ d ih =>
    intro i hd hi
    have hil : i < x.f1.length := by omega
    obtain ⟨p, hp⟩ : ∃ p, x.f1[i]? = some p := ⟨_, List.getElem?_eq_getElem hil⟩
    obtain ⟨b, hb, hb2⟩ := ih (i + 1) (by omega) (by omega)
    have hnm := rdig_ev p
    have key : ∀ r : Bool, Ev (fun k => if nmB p = true then r04_RightChange.l2 k (i : Int) 0 x.f0 x.f1 x.f2 x.f3 else some false) r → Ev (fun k => r04_RightChange.l1 k (i : Int) x.f0 x.f1 x.f2 x.f3) r := by
      intro r hr
      refine Ev.step (f := fun k => (r02_Named.f k p).bind fun t => if t = true then r04_RightChange.l2 k (i : Int) 0 x.f0 x.f1 x.f2 x.f3 else some false) (fun k => ?_) (Ev.bind hnm hr)
      simp only [r04_RightChange.l1]
      rw [if_pos (by omega), if_pos (by omega), rdS hp]
    by_cases hn : nmB p = true
    · by_cases hm : p ∈ x.f1.take i
      · refine ⟨false, key _ (Ev.congr (fun k => if_pos hn) ?_), fun h => (by cases h), fun h => absurd hm (h i p (Nat.le_refl _) hp).2⟩
        have := rchange_l2 x hl i p hp false (fun _ => rfl) (fun h => absurd hm h) i 0 (by omega) (by omega) (by simp)
        exact this
      · refine ⟨b, key _ (Ev.congr (fun k => if_pos hn) ?_), ?_⟩
        · have := rchange_l2 x hl i p hp b (fun h => absurd h hm) (fun _ => hb) i 0 (by omega) (by omega) (by simp)
          exact this
        · rw [hb2]
          constructor
          · intro h j q hj hq
            rcases Nat.lt_or_eq_of_le hj with hj | rfl
            · exact h j q hj hq
            · rw [hp] at hq; cases hq; exact ⟨hn, hm⟩
          · exact fun h j q hj hq => h j q (by omega) hq
    · refine ⟨false, key _ (Ev.congr (fun k => if_neg hn) (Ev.now _)), fun h => (by cases h), fun h => absurd (h i p (Nat.le_refl _) hp).1 hn⟩
theorem rchange_l0 (x : Chg) (hw : x.f2.size ≤ 1000000000) (r : Bool) (hall : (L x.f2).all whoOk = true → Ev (fun k => r04_RightChange.l1 k 0 x.f0 x.f1 x.f2 x.f3) r) (hnot : (L x.f2).all whoOk = false → r = false) : ∀ (d i : Nat), x.f2.size - i = d → i ≤ x.f2.size → ((L x.f2).take i).all whoOk = true → Ev (fun k => r04_RightChange.l0 k (i : Int) x.f0 x.f1 x.f2 x.f3) r := by
  intro d
  induction d with
  | zero =>
    intro i hd hi ha
    rw [List.take_of_length_le (by rw [L_len]; omega)] at ha
    refine Ev.step (fun k => ?_) (hall ha)
    simp only [r04_RightChange.l0]
    rw [if_neg (by omega)]
  | succ d ih =>
    intro i hd hi ha
    have hil : i < (L x.f2).length := by rw [L_len]; omega
    obtain ⟨u, hu⟩ : ∃ u, (L x.f2)[i]? = some u := ⟨_, List.getElem?_eq_getElem hil⟩
    have hb := bt_get hu (i : Int) rfl
    have hwr := wr1 (i := i) (n := x.f2.size) (by omega) (by omega)
    have hlk := whoOk_iff u
    have htk : (L x.f2).take (i + 1) = (L x.f2).take i ++ [u] := by rw [List.take_add_one, hu]; rfl
    by_cases h : whoOk u = true
    · have h' := hlk.1 h
      refine Ev.step (fun k => ?_) (ih (i + 1) (by omega) (by omega) (by rw [htk, List.all_append, ha]; simp [h]))
      simp only [r04_RightChange.l0]
      rw [if_pos (by omega), if_pos (by omega), hb, if_neg (by omega), if_neg (by omega), hwr]
    · have h' := mt hlk.2 h
      have : r = false := hnot (by
        rw [Bool.eq_false_iff]
        intro hal
        exact h (List.all_eq_true.1 hal u (List.mem_of_getElem? hu)))
      rw [this]
      refine Ev.step (f := fun _ => some false) (fun k => ?_) (Ev.now _)
      simp only [r04_RightChange.l0]
      rw [if_pos (by omega), if_pos (by omega), hb]
      by_cases h4 : (u.toNat : Int) < 32
      · rw [if_pos h4]
      · rw [if_neg h4, if_pos (by omega)]
theorem nodup_take {l : List ByteArray} : l.Nodup ↔ ∀ (j : Nat) (p : ByteArray), l[j]? = some p → p ∉ l.take j := by
  rw [List.Nodup, List.pairwise_iff_getElem]
  constructor
  · intro h j p hp hm
    obtain ⟨hj, e⟩ := List.getElem?_eq_some_iff.1 hp
    obtain ⟨i, hi⟩ := List.getElem?_of_mem hm
    have hij : i < j := by
      have := (List.getElem?_eq_some_iff.1 hi).1
      rw [List.length_take] at this; omega
    rw [List.getElem?_take_of_lt hij] at hi
    obtain ⟨hi', e'⟩ := List.getElem?_eq_some_iff.1 hi
    exact h i j hi' hj hij (e'.trans e.symm)
  · intro h i j hi hj hij e
    refine h j l[j] (List.getElem?_eq_getElem hj) (List.mem_of_getElem? (i := i) ?_)
    rw [List.getElem?_take_of_lt hij, List.getElem?_eq_getElem hi, e]
theorem changeB_iff (x : Chg) : changeB x = true ↔ (nmB x.f0 = true ∧ x.f1.length ≤ 8 ∧ x.f2.size ≤ 100 ∧ (L x.f2).all whoOk = true ∧ ∀ (j : Nat) (p : ByteArray), x.f1[j]? = some p → nmB p = true ∧ p ∉ x.f1.take j) := by
  unfold changeB
  simp only [Bool.and_eq_true, decide_eq_true_iff]
  rw [nodup_take, List.all_eq_true]
  constructor
  · rintro ⟨⟨⟨⟨⟨a, b⟩, c⟩, d⟩, e⟩, f⟩
    exact ⟨a, c, e, f, fun j p hp => ⟨b p (List.mem_of_getElem? hp), d j p hp⟩⟩
  · rintro ⟨a, c, e, f, g⟩
    refine ⟨⟨⟨⟨⟨a, fun p hp => ?_⟩, c⟩, fun j p hp => (g j p hp).2⟩, e⟩, f⟩
    obtain ⟨j, hj⟩ := List.getElem?_of_mem hp
    exact (g j p hj).1
theorem rchange_ev (x : Chg) (hz : Csh x) : Ev (fun k => r04_RightChange.f k x.f0 x.f1 x.f2 x.f3) (changeB x) := by
  have hiff := changeB_iff x
  have hfalse : ¬ changeB x = true → changeB x = false := fun h => by rwa [Bool.not_eq_true] at h
  have hjf : changeB x = false → Ev (fun k => r04_RightChange.j0 k true x.f0 x.f1 x.f2 x.f3) (changeB x) := fun h => by
    rw [h]
    exact Ev.step (f := fun _ => some false) (fun k => by simp [r04_RightChange.j0]) (Ev.now _)
  unfold r04_RightChange.f
  refine Ev.bind (rdig_ev x.f0) ?_
  by_cases h0 : nmB x.f0 = true
  · refine Ev.congr (fun k => if_pos h0) ?_
    by_cases h8 : x.f1.length ≤ 8
    · refine Ev.congr (fun k => if_neg (by omega)) ?_
      by_cases h100 : x.f2.size ≤ 100
      · rw [decide_eq_false (show ¬ (x.f2.size : Int) > 100 by omega)]
        refine Ev.step (f := fun k => r04_RightChange.l0 k 0 x.f0 x.f1 x.f2 x.f3) (fun k => by simp [r04_RightChange.j0]) ?_
        refine rchange_l0 x hz.h2 (changeB x) (fun ha => ?_) (fun ha => hfalse (fun h => by rw [(hiff.1 h).2.2.2.1] at ha; cases ha)) x.f2.size 0 (by omega) (by omega) (by simp)
        obtain ⟨b, hb, hb2⟩ := rchange_l1 x hz.hl x.f1.length 0 (by omega) (by omega)
        have : changeB x = b := by
          rw [Bool.eq_iff_iff, hb2, hiff]
          exact ⟨fun h j p _ hp => h.2.2.2.2 j p hp, fun h => ⟨h0, h8, h100, ha, fun j p hp => h j p (Nat.zero_le _) hp⟩⟩
        rw [this]; exact hb
      · rw [decide_eq_true (show (x.f2.size : Int) > 100 by omega)]
        exact hjf (hfalse (fun h => h100 (hiff.1 h).2.2.1))
    · refine Ev.congr (fun k => if_pos (by omega)) (hjf (hfalse (fun h => h8 (hiff.1 h).2.1)))
  · refine Ev.congr (fun k => if_neg h0) (hjf (hfalse (fun h => h0 (hiff.1 h).1)))
theorem rputC_l0 (x : Chg) (hz : Csh x) (h : changeB x = true) : ∀ (d i : Nat) (b : ByteArray), x.f1.length - i = d → i ≤ x.f1.length → L b = preL x i → Ev (fun k => r04_PutChange.l0 k b (i : Int) x.f0 x.f1 x.f2 x.f3) (bs (changeL x), true) := by
  obtain ⟨h0, h1, h8, _, h100, _⟩ := change_parts h
  have g0 : x.f0.size = 64 := nm_size h0
  have hh3 := hz.h3
  intro d
  induction d with
  | zero =>
    intro i b hd hi hb
    have hin : i = x.f1.length := by omega
    have hbl : b.size ≤ 70 + 72 * i := by rw [← L_len, hb]; exact preL_len g0 (fun p hp => nm_size (h1 p hp)) i
    have q0 : ¬ (i : Int) < (x.f1.length : Int) := by omega
    have q1 : b.size + 4 ≤ 9223372036854775807 := by omega
    have q2 : b.size + 4 + x.f2.size ≤ 9223372036854775807 := by omega
    have q3 : b.size + 4 + x.f2.size + 2 ≤ 9223372036854775807 := by omega
    have q4 : b.size + 4 + x.f2.size + 2 + x.f3.size ≤ 9223372036854775807 := by omega
    have s1 : (b ++ (⟨#[119, 104, 111, 32]⟩ : ByteArray)).size = b.size + 4 := by rw [ByteArray.size_append]; rfl
    have s2 : ((b ++ (⟨#[119, 104, 111, 32]⟩ : ByteArray)) ++ x.f2).size = b.size + 4 + x.f2.size := by rw [ByteArray.size_append, s1]
    have s3 : (((b ++ (⟨#[119, 104, 111, 32]⟩ : ByteArray)) ++ x.f2) ++ (⟨#[10, 10]⟩ : ByteArray)).size = b.size + 4 + x.f2.size + 2 := by rw [ByteArray.size_append, s2]; rfl
    have e : ((((b ++ (⟨#[119, 104, 111, 32]⟩ : ByteArray)) ++ x.f2) ++ (⟨#[10, 10]⟩ : ByteArray)) ++ x.f3) = bs (changeL x) := by
      apply L_inj
      rw [L_bs, ← change_all_text hin.symm, ← hb]
      simp [L, lineL, wWho, ByteArray.data_append]
    refine Ev.step (f := fun _ => some (bs (changeL x), true)) (fun k => ?_) (Ev.now _)
    simp only [r04_PutChange.l0]
    rw [if_neg q0, if_pos q1, if_pos (by rw [s1]; exact q2), if_pos (by rw [s2]; exact q3), if_pos (by rw [s3]; exact q4), e]
  | succ d ih =>
    intro i b hd hi hb
    have hil : i < x.f1.length := by omega
    obtain ⟨p, hp⟩ : ∃ p, x.f1[i]? = some p := ⟨_, List.getElem?_eq_getElem hil⟩
    have hps : p.size = 64 := nm_size (h1 p (List.mem_of_getElem? hp))
    have hbl : b.size ≤ 70 + 72 * i := by rw [← L_len, hb]; exact preL_len g0 (fun p hp => nm_size (h1 p hp)) i
    have q1 : x.f1.length - (i + 1) = d := by omega
    have q2 : i + 1 ≤ x.f1.length := by omega
    have q3 : (i : Int) < (x.f1.length : Int) := by omega
    have q4 : b.size + 7 ≤ 9223372036854775807 := by omega
    have q5 : (0 : Int) ≤ (i : Int) := by omega
    have q6 : b.size + 7 + 64 ≤ 9223372036854775807 := by omega
    have q7 : b.size + 7 + 64 + 1 ≤ 9223372036854775807 := by omega
    have hw := wr1 hil (by omega)
    have s1 : (b ++ (⟨#[112, 97, 114, 101, 110, 116, 32]⟩ : ByteArray)).size = b.size + 7 := by rw [ByteArray.size_append]; rfl
    have s2 : ((b ++ (⟨#[112, 97, 114, 101, 110, 116, 32]⟩ : ByteArray)) ++ p).size = b.size + 7 + 64 := by rw [ByteArray.size_append, s1, hps]
    refine Ev.step (fun k => ?_) (ih (i + 1) (((b ++ (⟨#[112, 97, 114, 101, 110, 116, 32]⟩ : ByteArray)) ++ p) ++ (⟨#[10]⟩ : ByteArray)) q1 q2 (by
      rw [preL_step hp, ← hb]
      simp [L, lineL, wParent, ByteArray.data_append]))
    simp only [r04_PutChange.l0]
    rw [if_pos q3, if_pos q4, if_pos q5, rdS hp, if_pos (by rw [s1, hps]; exact q6), if_pos (by rw [s2]; exact q7), hw]
theorem rputC_ev (x : Chg) (hz : Csh x) : Ev (fun k => r04_PutChange.f k x.f0 x.f1 x.f2 x.f3) (putChange x) := by
  unfold r04_PutChange.f
  refine Ev.bind (rchange_ev x hz) ?_
  by_cases h : changeB x = true
  · have e : putChange x = (bs (changeL x), true) := by rw [putChange, if_pos h]
    rw [e]
    have gz : x.f0.size = 64 := nm_size (change_parts h).1
    have s1 : ((⟨#[116, 114, 101, 101, 32]⟩ : ByteArray) ++ x.f0).size = 69 := by rw [ByteArray.size_append, gz]; rfl
    refine Ev.congr (fun k => if_pos h) (Ev.congr (f := fun k => r04_PutChange.l0 k (((⟨#[116, 114, 101, 101, 32]⟩ : ByteArray) ++ x.f0) ++ (⟨#[10]⟩ : ByteArray)) 0 x.f0 x.f1 x.f2 x.f3) (fun k => ?_) ?_)
    · rw [if_pos (by omega), if_pos (by rw [s1]; omega)]
    · exact rputC_l0 x hz h x.f1.length 0 _ (by omega) (by omega) (by rw [txt_tree]; simp [preL])
  · have e : putChange x = (⟨#[]⟩, false) := by rw [putChange, if_neg h]
    rw [e]
    exact Ev.congr (fun k => if_neg h) (Ev.now _)
end Go.Proofs.YtefefhhaopjccaaGreatDoor.Ob

namespace Go.Proofs.YtefefhhaopjccaaGreatDoor.Ob
set_option linter.unusedVariables false
set_option linter.unusedSimpArgs false
open Go Go.RowKit Go.Proofs.YtefefhhaopjccaaGreatDoorW.PrintWords Go.Proofs.YtefefhhaopjccaaGreatDoorW.PrintLast Go.Proofs.YtefefhhaopjccaaGreatDoorW.PrintMore PObBase PObDoc
def tupC (g : Chg × Bool) : ByteArray × List ByteArray × ByteArray × ByteArray × Bool := (g.1.f0, g.1.f1, g.1.f2, g.1.f3, g.2)
def tupL (g : Lab × Bool) : ByteArray × Int × ByteArray × ByteArray × Bool := (g.1.f0, g.1.f1, g.1.f2, g.1.f3, g.2)
open Classical in
noncomputable def finC (s : ByteArray) (c : Chg) (ok : Bool) : Chg × Bool := if ok = true ∧ putChange c = (s, true) then (c, true) else (noChg, false)
open Classical in
noncomputable def finL (s : ByteArray) (c : Lab) (ok : Bool) : Lab × Bool := if ok = true ∧ putLabel c = (s, true) then (c, true) else (noLab, false)
theorem getChange_fin (s : ByteArray) : getChange s = finC s (parseC s) (rdC4 s).2.ok := rfl
theorem getLabel_fin (s : ByteArray) : getLabel s = finL s (parseL s) (rdL4 s).2.ok := rfl
theorem finC_no (s : ByteArray) (c : Chg) : finC s c false = (noChg, false) := by unfold finC; rw [if_neg (by simp)]
theorem finL_no (s : ByteArray) (c : Lab) : finL s c false = (noLab, false) := by unfold finL; rw [if_neg (by simp)]
theorem line_no {w : List UInt8} {r : Rd} (h : r.ok = false) : (readLine w r).2.ok = false := by
  unfold readLine
  rw [if_neg (fun g => by rw [h] at g; cases g.2.2)]
theorem text_no {r : Rd} (h : r.ok = false) : (readText r).2.ok = false := by
  unfold readText
  split
  · exact h
  · rfl
theorem ps_no {r : Rd} (h : r.ok = false) : ∀ n, readPs n r = ([], r)
  | 0 => rfl
  | n + 1 => by rw [readPs, if_neg (fun g => by rw [h] at g; cases g.2)]
theorem lineR_rd (s wd : ByteArray) {wl : List UInt8} (hw : L wd = wl) : (∃ v t, readLine wl ⟨L s, true⟩ = (v, ⟨t, true⟩) ∧ lineR s wd = (bs v, bs t, true) ∧ (wl ++ [32]).isPrefixOf (L s) = true ∧ t.length < s.size) ∨ (readLine wl ⟨L s, true⟩ = ([], ⟨L s, false⟩) ∧ lineR s wd = (⟨#[]⟩, ⟨#[]⟩, false)) := by
  subst hw
  unfold readLine lineR
  by_cases h : (cutB 10 (L s)).2.2 = true ∧ (L wd ++ [32]).isPrefixOf (cutB 10 (L s)).1 = true
  · refine .inl ⟨_, _, if_pos ⟨h.1, h.2, rfl⟩, ?_, ?_, ?_⟩
    · rw [if_pos h, L_len]
    · have := List.isPrefixOf_iff_prefix.1 h.2
      rw [List.isPrefixOf_iff_prefix]
      obtain ⟨_, h2⟩ := cutB_spec 10 (L s)
      rcases h2 with ⟨_, g⟩ | ⟨_, g, _⟩
      · rw [g]; exact this.trans (List.prefix_append _ _)
      · rw [← g] at this; exact this
    · obtain ⟨_, h2⟩ := cutB_spec 10 (L s)
      rcases h2 with ⟨_, g⟩ | ⟨g, _⟩
      · have := congrArg List.length g
        rw [List.length_append, List.length_cons, L_len] at this
        show (cutB 10 (L s)).2.1.length < _
        omega
      · rw [h.1] at g; cases g
  · exact .inr ⟨if_neg (fun g => h ⟨g.1, g.2.1⟩), if_neg h⟩
def failC : ByteArray × List ByteArray × ByteArray × ByteArray × Bool := (⟨#[]⟩, [], ⟨#[]⟩, ⟨#[]⟩, false)
theorem rgetC_j2 (s rest t : ByteArray) (acc : List ByteArray) (wh tx : ByteArray) : Ev (fun k => r04_GetChange.j2 k s rest true t acc wh tx) failC :=
  Ev.step (f := fun _ => some failC) (fun k => by simp [r04_GetChange.j2, failC]) (Ev.now _)
theorem who_l : L (⟨#[119, 104, 111]⟩ : ByteArray) = wWho := rfl
theorem parent_l : L (⟨#[112, 97, 114, 101, 110, 116]⟩ : ByteArray) = wParent := rfl
theorem tree_l : L (⟨#[116, 114, 101, 101]⟩ : ByteArray) = wTree := rfl
theorem who_ev (rest : ByteArray) (hr : rest.size ≤ 500000000) : Ev (fun k => r04_line.f k rest (⟨#[119, 104, 111]⟩ : ByteArray)) (lineR rest ⟨#[119, 104, 111]⟩) := rline_ev rest _ (by omega) (by decide) (by decide)
theorem parent_ev (rest : ByteArray) (hr : rest.size ≤ 500000000) : Ev (fun k => r04_line.f k rest (⟨#[112, 97, 114, 101, 110, 116]⟩ : ByteArray)) (lineR rest ⟨#[112, 97, 114, 101, 110, 116]⟩) := rline_ev rest _ (by omega) (by decide) (by decide)
theorem rgetC_bad (s rest t : ByteArray) (hr : rest.size ≤ 500000000) (acc : List ByteArray) : Ev (fun k => r04_GetChange.j1 k s rest false t acc ⟨#[]⟩ ⟨#[]⟩) failC := by
  refine Ev.step (fun k => by simp only [r04_GetChange.j1]; rfl) (Ev.bind (who_ev rest hr) ?_)
  exact Ev.congr (fun k => if_neg (by simp)) (rgetC_j2 _ _ _ _ _ _)
theorem rgetC_nowho (s rest t : ByteArray) (hr : rest.size ≤ 500000000) (acc : List ByteArray) (hl : lineR rest ⟨#[119, 104, 111]⟩ = (⟨#[]⟩, ⟨#[]⟩, false)) : Ev (fun k => r04_GetChange.j1 k s rest true t acc ⟨#[]⟩ ⟨#[]⟩) failC := by
  refine Ev.step (fun k => by simp only [r04_GetChange.j1]; rfl) (Ev.bind (who_ev rest hr) ?_)
  rw [hl]
  exact Ev.congr (fun k => (if_pos trivial).trans (if_neg (by simp))) (rgetC_j2 _ _ _ _ _ _)
theorem rgetC_who (s rest t : ByteArray) (hs : s.size ≤ 500000000) (hr : rest.size ≤ 500000000) (acc : List ByteArray) (ht : t.size ≤ 1000000000) (hal : acc.length ≤ 1000000000) (hap : ∀ p ∈ acc, p.size ≤ 1000000000) :
    Ev (fun k => r04_GetChange.j1 k s rest true t acc ⟨#[]⟩ ⟨#[]⟩) (tupC (finC s ⟨t, acc, bs (readLine wWho ⟨L rest, true⟩).1, bs (readText (readLine wWho ⟨L rest, true⟩).2).1⟩ (readText (readLine wWho ⟨L rest, true⟩).2).2.ok)) := by
  rcases lineR_rd rest ⟨#[119, 104, 111]⟩ who_l with ⟨v, z, h1, h2, _, hz⟩ | ⟨h1, h2⟩
  · refine Ev.step (fun k => by simp only [r04_GetChange.j1]; rfl) (Ev.bind (who_ev rest hr) ?_)
    have hv := (readLine_le wWho ⟨L rest, true⟩).1
    rw [h1] at hv
    have hv' : v.length ≤ rest.size := by rw [← L_len]; exact hv
    rw [h1, h2]
    refine Ev.congr (fun k => (if_pos trivial).trans (if_pos rfl)) ?_
    have hbz : (bs z).size = z.length := bs_size z
    cases z with
    | nil =>
      have e : (readText ⟨[], true⟩).2.ok = false := rfl
      rw [e, finC_no]
      exact Ev.congr (fun k => if_pos (by rw [hbz]; rfl)) (rgetC_j2 _ _ _ _ _ _)
    | cons u z =>
      have hu : (L (bs (u :: z)))[0]? = some u := by rw [L_bs]; rfl
      have hb := bt_get hu 0 rfl
      refine Ev.congr (fun k => (if_neg (by rw [hbz, List.length_cons]; omega)).trans (if_pos (by rw [hbz, List.length_cons]; omega))) ?_
      by_cases h10 : u = 10
      · subst h10
        have hb' : ((bt (bs (10 :: z)) 0) != 10) = false := by rw [hb]; rfl
        rw [hb']
        have e1 : readText ⟨10 :: z, true⟩ = (z, ⟨10 :: z, true⟩) := readText_of z
        rw [e1]
        have ex : (bs (10 :: z)).extract 1 (bs (10 :: z)).size = bs z := by rw [ext_drop, L_bs]; rfl
        have hzl : z.length < rest.size := by rw [List.length_cons] at hz; omega
        have hsh : Csh ⟨t, acc, bs v, bs z⟩ := ⟨ht, hal, hap, by show (bs v).size ≤ _; rw [bs_size]; omega, by show (bs z).size ≤ _; rw [bs_size]; omega⟩
        refine Ev.step (f := fun k => (r04_PutChange.f k t acc (bs v) (bs z)).bind fun b => if b.2 = true then (if b.1.toList = s.toList then some (t, acc, bs v, bs z, true) else some failC) else some failC) (fun k => ?_) (Ev.bind (rputC_ev ⟨t, acc, bs v, bs z⟩ hsh) ?_)
        · simp only [r04_GetChange.j2]
          rw [if_neg (by simp), if_pos (by rw [hbz, List.length_cons]; omega), ex]; rfl
        · obtain ⟨o, f, hof⟩ : ∃ o f, putChange ⟨t, acc, bs v, bs z⟩ = (o, f) := ⟨_, _, rfl⟩
          rw [hof]
          cases f with
          | false =>
            have e : finC s ⟨t, acc, bs v, bs z⟩ true = (noChg, false) := by
              unfold finC
              rw [hof, if_neg (fun g => by cases (Prod.mk.inj g.2).2)]
            rw [e]
            exact Ev.congr (fun k => if_neg (by simp)) (Ev.now _)
          | true =>
            by_cases ho : o = s
            · have e : finC s ⟨t, acc, bs v, bs z⟩ true = (⟨t, acc, bs v, bs z⟩, true) := by
                unfold finC
                rw [hof, if_pos ⟨rfl, by rw [ho]⟩]
              rw [e]
              exact Ev.congr (fun k => (if_pos rfl).trans (if_pos (by rw [ho]))) (Ev.now _)
            · have e : finC s ⟨t, acc, bs v, bs z⟩ true = (noChg, false) := by
                unfold finC
                rw [hof, if_neg (fun g => ho (Prod.mk.inj g.2).1)]
              rw [e]
              exact Ev.congr (fun k => (if_pos rfl).trans (if_neg (fun e => ho ((toL_inj _ _).1 e)))) (Ev.now _)
      · have hb' : ((bt (bs (u :: z)) 0) != 10) = true := by
          rw [hb, bne_iff_ne]
          intro e
          exact h10 (UInt8.toNat_inj.1 (by have : (10 : UInt8).toNat = 10 := rfl; omega))
        rw [hb']
        have e : (readText ⟨u :: z, true⟩).2.ok = false := by
          unfold readText
          rw [if_neg]
          simp only [List.isPrefixOf, Bool.and_eq_true, beq_iff_eq]
          exact fun h => h10 h.1.symm
        rw [e, finC_no]
        exact rgetC_j2 _ _ _ _ _ _
  · rw [h1]
    have e : (readText ⟨L rest, false⟩).2.ok = false := text_no rfl
    rw [e, finC_no]
    exact rgetC_nowho s rest t hr acc h2
theorem not_both {l : List UInt8} (h1 : (wParent ++ [32]).isPrefixOf l = true) (h2 : (wWho ++ [32]).isPrefixOf l = true) : False := by
  cases l with
  | nil => simp [wParent] at h1
  | cons u l =>
    simp only [wParent, wWho, List.cons_append, List.isPrefixOf, Bool.and_eq_true, beq_iff_eq] at h1 h2
    have := h1.1.trans h2.1.symm
    revert this; decide
theorem rgetC_l0 (s t : ByteArray) (hs : s.size ≤ 500000000) (ht : t.size ≤ 1000000000) : ∀ (n : Nat) (rest : ByteArray) (acc : List ByteArray), rest.size < n → rest.size ≤ 500000000 → acc.length + n ≤ 1000000000 → (∀ p ∈ acc, p.size ≤ 1000000000) →
    Ev (fun k => r04_GetChange.l0 k s rest true t acc ⟨#[]⟩ ⟨#[]⟩) (tupC (finC s ⟨t, acc ++ (readPs n ⟨L rest, true⟩).1, bs (readLine wWho (readPs n ⟨L rest, true⟩).2).1, bs (readText (readLine wWho (readPs n ⟨L rest, true⟩).2).2).1⟩ (readText (readLine wWho (readPs n ⟨L rest, true⟩).2).2).2.ok)) := by
  intro n
  induction n with
  | zero => intro rest acc h; omega
  | succ n ih =>
    intro rest acc hn hr hal hap
    refine Ev.step (f := fun k => (r04_line.f k rest (⟨#[112, 97, 114, 101, 110, 116]⟩ : ByteArray)).bind fun b => if b.2.2 = true then (if acc.length < 8796093022208 then r04_GetChange.l0 k s b.2.1 true t (acc ++ [b.1]) ⟨#[]⟩ ⟨#[]⟩ else none) else r04_GetChange.j1 k s rest true t acc ⟨#[]⟩ ⟨#[]⟩) (fun k => ?_) (Ev.bind (parent_ev rest hr) ?_)
    · simp only [r04_GetChange.l0]
      rw [if_pos trivial]
    · rcases lineR_rd rest ⟨#[112, 97, 114, 101, 110, 116]⟩ parent_l with ⟨v, z, h1, h2, hp, hz⟩ | ⟨h1, h2⟩
      · have hv := (readLine_le wParent ⟨L rest, true⟩).1
        rw [h1] at hv
        have hv' : v.length ≤ rest.size := by rw [← L_len]; exact hv
        rw [h2]
        refine Ev.congr (fun k => (if_pos rfl).trans (if_pos (by omega))) ?_
        have e : readPs (n + 1) ⟨L rest, true⟩ = (bs v :: (readPs n ⟨z, true⟩).1, (readPs n ⟨z, true⟩).2) := by
          rw [readPs, if_pos ⟨hp, rfl⟩, h1]
        rw [e]
        have := ih (bs z) (acc ++ [bs v]) (by rw [bs_size]; omega) (by rw [bs_size]; omega) (by rw [List.length_append]; simp; omega) (fun p hp => by
          rcases List.mem_append.1 hp with hp | hp
          · exact hap p hp
          · rw [List.mem_singleton.1 hp, bs_size]; omega)
        rw [L_bs, List.append_assoc] at this
        exact this
      · rw [h2]
        refine Ev.congr (fun k => if_neg (by simp)) ?_
        by_cases hp : (wParent ++ [32]).isPrefixOf (L rest) = true
        · have e : readPs (n + 1) ⟨L rest, true⟩ = (bs [] :: (readPs n ⟨L rest, false⟩).1, (readPs n ⟨L rest, false⟩).2) := by
            rw [readPs, if_pos ⟨hp, rfl⟩, h1]
          rw [e, ps_no rfl n]
          have e2 : (readText (readLine wWho ⟨L rest, false⟩).2).2.ok = false := text_no (line_no rfl)
          rw [e2, finC_no]
          rcases lineR_rd rest ⟨#[119, 104, 111]⟩ who_l with ⟨_, _, _, _, hw, _⟩ | ⟨_, g2⟩
          · exact (not_both hp hw).elim
          · exact rgetC_nowho s rest t hr acc g2
        · have e : readPs (n + 1) ⟨L rest, true⟩ = ([], ⟨L rest, true⟩) := by
            rw [readPs, if_neg (fun g => hp g.1)]
          rw [e, List.append_nil]
          exact rgetC_who s rest t hs hr acc ht (by omega) hap
theorem rgetC_ev (s : ByteArray) (hs : s.size ≤ 400000000) : Ev (fun k => r04_GetChange.f k s) (tupC (getChange s)) := by
  unfold r04_GetChange.f
  have hlt : Ev (fun k => r04_line.f k s (⟨#[116, 114, 101, 101]⟩ : ByteArray)) (lineR s ⟨#[116, 114, 101, 101]⟩) := rline_ev s _ (by omega) (by decide) (by decide)
  refine Ev.bind hlt ?_
  rw [getChange_fin]
  unfold parseC rdC4 rdC3 rdC2
  rcases lineR_rd s ⟨#[116, 114, 101, 101]⟩ tree_l with ⟨v, z, h1, h2, hp, hz⟩ | ⟨h1, h2⟩
  · have hv := (readLine_le wTree ⟨L s, true⟩).1
    rw [h1] at hv
    have hv' : v.length ≤ s.size := by rw [← L_len]; exact hv
    have e1 : rdC1 s = (v, ⟨z, true⟩) := h1
    rw [e1, h2]
    have := rgetC_l0 s (bs v) (by omega) (by rw [bs_size]; omega) (s.size + 1) (bs z) [] (by rw [bs_size]; omega) (by rw [bs_size]; omega) (by simp; omega) (fun p hp => by cases hp)
    rw [L_bs, List.nil_append] at this
    exact this
  · have e1 : rdC1 s = ([], ⟨L s, false⟩) := h1
    rw [e1, h2, ps_no rfl]
    have e2 : (readText (readLine wWho ⟨L s, false⟩).2).2.ok = false := text_no (line_no rfl)
    rw [e2, finC_no]
    refine Ev.step (fun k => by simp only [r04_GetChange.l0]; exact if_neg (by simp)) ?_
    exact rgetC_bad s _ _ (by decide) _
def kk (q : ByteArray) : Int := if q = bs (wordL 4) then 4 else if q = bs (wordL 3) then 3 else if q = bs (wordL 2) then 2 else if q = bs (wordL 1) then 1 else 0
theorem rgetL_step (s t1 rest q nm : ByteArray) (i K : Int) (h0 : 1 ≤ i) (h4 : i ≤ 4) (r : ByteArray × Int × ByteArray × ByteArray × Bool) (h : Ev (fun k => r04_GetLabel.l0 k s t1 rest q nm (i + 1) ⟨#[]⟩ (if q = bs (wordL i) then i else K) ⟨#[]⟩ ⟨#[]⟩) r) : Ev (fun k => r04_GetLabel.l0 k s t1 rest q nm i ⟨#[]⟩ K ⟨#[]⟩ ⟨#[]⟩) r := by
  have hw : wrap64 (i + 1) = i + 1 := w64 _ (by omega) (by omega)
  by_cases hq : q = bs (wordL i)
  · rw [if_pos hq] at h
    refine Ev.step (fun k => ?_) h
    simp only [r04_GetLabel.l0]
    rw [if_pos h4, word_eq, Option.bind_some, if_pos (by rw [hq]), hw]
  · rw [if_neg hq] at h
    refine Ev.step (fun k => ?_) h
    simp only [r04_GetLabel.l0]
    rw [if_pos h4, word_eq, Option.bind_some, if_neg (fun e => hq ((toL_inj _ _).1 e).symm), hw]
theorem rgetL_kind (s t1 rest q nm : ByteArray) (r : ByteArray × Int × ByteArray × ByteArray × Bool) (h : Ev (fun k => r04_GetLabel.l0 k s t1 rest q nm 5 ⟨#[]⟩ (kk q) ⟨#[]⟩ ⟨#[]⟩) r) : Ev (fun k => r04_GetLabel.l0 k s t1 rest q nm 1 ⟨#[]⟩ 0 ⟨#[]⟩ ⟨#[]⟩) r :=
  rgetL_step s t1 rest q nm 1 _ (by omega) (by omega) r (rgetL_step s t1 rest q nm 2 _ (by omega) (by omega) r (rgetL_step s t1 rest q nm 3 _ (by omega) (by omega) r (rgetL_step s t1 rest q nm 4 _ (by omega) (by omega) r h)))
def failL : ByteArray × Int × ByteArray × ByteArray × Bool := (⟨#[]⟩, 0, ⟨#[]⟩, ⟨#[]⟩, false)
theorem rgetL_bad (s t1 rest q nm : ByteArray) : Ev (fun k => r04_GetLabel.j0 k s t1 rest q nm true ⟨#[]⟩ 0 ⟨#[]⟩ ⟨#[]⟩) failL :=
  Ev.step (f := fun _ => some failL) (fun k => by simp [r04_GetLabel.j0, failL]) (Ev.now _)
theorem rgetL_end (s t1 q nm : ByteArray) (z : List UInt8) (hz : z.length ≤ 1000000000) (hn : nm.size ≤ 1000000000) : Ev (fun k => r04_GetLabel.l0 k s t1 (bs (10 :: z)) q nm 5 ⟨#[]⟩ (kk q) ⟨#[]⟩ ⟨#[]⟩) (tupL (finL s ⟨t1, kk q, nm, bs z⟩ true)) := by
  have ex : (bs (10 :: z)).extract 1 (bs (10 :: z)).size = bs z := by rw [ext_drop, L_bs]; rfl
  refine Ev.step (f := fun k => (r04_PutLabel.f k t1 (kk q) nm (bs z)).bind fun b => if b.2 = true then (if b.1.toList = s.toList then some (t1, kk q, nm, bs z, true) else some failL) else some failL) (fun k => ?_) (Ev.bind (rputL_ev ⟨t1, kk q, nm, bs z⟩ hn (by show (bs z).size ≤ _; rw [bs_size]; exact hz)) ?_)
  · simp only [r04_GetLabel.l0]
    rw [if_neg (by omega), if_pos (by rw [bs_size, List.length_cons]; omega), ex]; rfl
  · obtain ⟨o, f, hof⟩ : ∃ o f, putLabel ⟨t1, kk q, nm, bs z⟩ = (o, f) := ⟨_, _, rfl⟩
    rw [hof]
    cases f with
    | false =>
      have e : finL s ⟨t1, kk q, nm, bs z⟩ true = (noLab, false) := by
        unfold finL
        rw [hof, if_neg (fun g => by cases (Prod.mk.inj g.2).2)]
      rw [e]
      exact Ev.congr (fun k => if_neg (by simp)) (Ev.now _)
    | true =>
      by_cases ho : o = s
      · have e : finL s ⟨t1, kk q, nm, bs z⟩ true = (⟨t1, kk q, nm, bs z⟩, true) := by
          unfold finL
          rw [hof, if_pos ⟨rfl, by rw [ho]⟩]
        rw [e]
        exact Ev.congr (fun k => (if_pos rfl).trans (if_pos (by rw [ho]))) (Ev.now _)
      · have e : finL s ⟨t1, kk q, nm, bs z⟩ true = (noLab, false) := by
          unfold finL
          rw [hof, if_neg (fun g => ho (Prod.mk.inj g.2).1)]
        rw [e]
        exact Ev.congr (fun k => (if_pos rfl).trans (if_neg (fun e => ho ((toL_inj _ _).1 e)))) (Ev.now _)
theorem bs_inj {a b : List UInt8} : bs a = bs b ↔ a = b := ⟨fun h => by rw [← L_bs a, h, L_bs], fun h => by rw [h]⟩
theorem kk_kind (v : List UInt8) : kk (bs v) = kindOf v ∨ (kk (bs v) = 0 ∧ kindOf v ≤ 0) := by
  have w1 : wordL 1 = wBlob := by decide
  have w2 : wordL 2 = wTree := by decide
  have w3 : wordL 3 = wCommit := by decide
  have w4 : wordL 4 = wTag := by decide
  unfold kk kindOf
  rw [w1, w2, w3, w4]
  by_cases h0 : v = []
  · subst h0; exact .inl (by decide)
  by_cases h1 : v = wBlob
  · subst h1; exact .inl (by decide)
  by_cases h2 : v = wTree
  · subst h2; exact .inl (by decide)
  by_cases h3 : v = wCommit
  · subst h3; exact .inl (by decide)
  by_cases h4 : v = wTag
  · subst h4; exact .inl (by decide)
  refine .inr ?_
  rw [if_neg h0, if_neg h1, if_neg h2, if_neg h3, if_neg h4, if_neg (fun e => h4 (bs_inj.1 e)), if_neg (fun e => h3 (bs_inj.1 e)), if_neg (fun e => h2 (bs_inj.1 e)), if_neg (fun e => h1 (bs_inj.1 e))]
  exact ⟨rfl, by decide⟩
theorem finL_kk (s a b c : ByteArray) (v : List UInt8) (ok : Bool) : finL s ⟨a, kk (bs v), b, c⟩ ok = finL s ⟨a, kindOf v, b, c⟩ ok := by
  rcases kk_kind v with h | ⟨h1, h2⟩
  · rw [h]
  · have g : ∀ k : Int, k ≤ 0 → finL s ⟨a, k, b, c⟩ ok = (noLab, false) := by
      intro k hk
      unfold finL
      rw [if_neg]
      rintro ⟨_, h⟩
      have := (label_parts (putLabel_iff.1 h).1).2.1
      have h' : (1 : Int) ≤ k := this
      omega
    rw [g _ (by rw [h1]; exact Int.le_refl 0), g _ h2]
theorem object_l : L (⟨#[111, 98, 106, 101, 99, 116]⟩ : ByteArray) = wObject := rfl
theorem kind_l : L (⟨#[107, 105, 110, 100]⟩ : ByteArray) = wKind := rfl
theorem name_l : L (⟨#[110, 97, 109, 101]⟩ : ByteArray) = wName := rfl
theorem rgetL_ev (s : ByteArray) (hs : s.size ≤ 400000000) : Ev (fun k => r04_GetLabel.f k s) (tupL (getLabel s)) := by
  unfold r04_GetLabel.f
  have hbad : ∀ (a b c d e : ByteArray) (lab : Lab), Ev (fun k => r04_GetLabel.j0 k a b c d e true ⟨#[]⟩ 0 ⟨#[]⟩ ⟨#[]⟩) (tupL (finL s lab false)) := fun a b c d e lab => by
    rw [finL_no]; exact rgetL_bad a b c d e
  have hline : ∀ (a wd : ByteArray), a.size ≤ 400000000 → wd.size ≤ 1000 → (∀ u ∈ L wd, u ≠ 10) → Ev (fun k => r04_line.f k a wd) (lineR a wd) := fun a wd ha hw h => rline_ev a wd (by omega) hw h
  rw [getLabel_fin]
  unfold parseL rdL4 rdL3 rdL2
  refine Ev.bind (hline s _ hs (by decide) (by decide)) ?_
  rcases lineR_rd s ⟨#[111, 98, 106, 101, 99, 116]⟩ object_l with ⟨v1, z1, h1, g1, _, n1⟩ | ⟨h1, g1⟩
  · have e1 : rdL1 s = (v1, ⟨z1, true⟩) := h1
    rw [e1, g1]
    refine Ev.bind (hline (bs z1) _ (by rw [bs_size]; omega) (by decide) (by decide)) ?_
    rcases lineR_rd (bs z1) ⟨#[107, 105, 110, 100]⟩ kind_l with ⟨v2, z2, h2, g2, _, n2⟩ | ⟨h2, g2⟩
    · rw [L_bs] at h2
      rw [bs_size] at n2
      rw [h2, g2]
      refine Ev.bind (hline (bs z2) _ (by rw [bs_size]; omega) (by decide) (by decide)) ?_
      rcases lineR_rd (bs z2) ⟨#[110, 97, 109, 101]⟩ name_l with ⟨v3, z3, h3, g3, _, n3⟩ | ⟨h3, g3⟩
      · rw [L_bs] at h3
        rw [bs_size] at n3
        have hv3 := (readLine_le wName ⟨z2, true⟩).1
        rw [h3] at hv3
        have hv3' : v3.length ≤ z2.length := hv3
        rw [h3, g3]
        refine Ev.congr (fun k => (if_pos rfl).trans ((if_pos rfl).trans (if_pos rfl))) ?_
        have hbz : (bs z3).size = z3.length := bs_size z3
        cases z3 with
        | nil =>
          have e : (readText ⟨[], true⟩).2.ok = false := rfl
          rw [e]
          exact Ev.congr (fun k => if_pos (by rw [hbz]; rfl)) (hbad _ _ _ _ _ _)
        | cons u z =>
          have hu : (L (bs (u :: z)))[0]? = some u := by rw [L_bs]; rfl
          have hb := bt_get hu 0 rfl
          refine Ev.congr (fun k => (if_neg (by rw [hbz, List.length_cons]; omega)).trans (if_pos (by rw [hbz, List.length_cons]; omega))) ?_
          by_cases h10 : u = 10
          · subst h10
            have hb' : ((bt (bs (10 :: z)) 0) != 10) = false := by rw [hb]; rfl
            rw [hb', readText_of z, ← finL_kk]
            refine Ev.step (fun k => by simp only [r04_GetLabel.j0]; exact if_neg (by simp)) ?_
            refine rgetL_kind _ _ _ _ _ _ (rgetL_end _ _ _ _ _ ?_ ?_)
            · rw [List.length_cons] at n3; omega
            · rw [bs_size]; omega
          · have hb' : ((bt (bs (u :: z)) 0) != 10) = true := by
              rw [hb, bne_iff_ne]
              intro e
              exact h10 (UInt8.toNat_inj.1 (by have : (10 : UInt8).toNat = 10 := rfl; omega))
            rw [hb']
            have e : (readText ⟨u :: z, true⟩).2.ok = false := by
              unfold readText
              rw [if_neg]
              simp only [List.isPrefixOf, Bool.and_eq_true, beq_iff_eq]
              exact fun h => h10 h.1.symm
            rw [e]
            exact hbad _ _ _ _ _ _
      · rw [L_bs] at h3
        rw [h3, g3]
        have e : (readText ⟨z2, false⟩).2.ok = false := text_no rfl
        rw [e]
        exact Ev.congr (fun k => (if_pos rfl).trans ((if_pos rfl).trans (if_neg (by simp)))) (hbad _ _ _ _ _ _)
    · rw [L_bs] at h2
      rw [h2, g2]
      have e : (readText (readLine wName ⟨z1, false⟩).2).2.ok = false := text_no (line_no rfl)
      rw [e]
      refine Ev.bind (hline ⟨#[]⟩ _ (by decide) (by decide) (by decide)) ?_
      exact Ev.congr (fun k => (if_pos rfl).trans (if_neg (by simp))) (hbad _ _ _ _ _ _)
  · have e1 : rdL1 s = ([], ⟨L s, false⟩) := h1
    rw [e1, g1]
    have e : (readText (readLine wName (readLine wKind ⟨L s, false⟩).2).2).2.ok = false := text_no (line_no (line_no rfl))
    rw [e]
    refine Ev.bind (hline ⟨#[]⟩ _ (by decide) (by decide) (by decide)) ?_
    refine Ev.bind (hline _ _ ?_ (by decide) (by decide)) ?_
    · unfold lineR
      split
      · exact absurd (by assumption : (cutB 10 (L (⟨#[]⟩ : ByteArray))).2.2 = true ∧ _).1 (by decide)
      · decide
    exact Ev.congr (fun k => if_neg (by simp)) (hbad _ _ _ _ _ _)
end Go.Proofs.YtefefhhaopjccaaGreatDoor.Ob

namespace Go.Proofs.YtefefhhaopjccaaGreatDoor.Ob
set_option linter.unusedVariables false
set_option linter.unusedSimpArgs false
open Go Go.RowKit Go.Proofs.YtefefhhaopjccaaGreatDoorW.PrintWords Go.Proofs.YtefefhhaopjccaaGreatDoorW.PrintLast Go.Proofs.YtefefhhaopjccaaGreatDoorW.PrintMore PObBase PObDoc
theorem head_nums {n : Int} (h0 : 1 ≤ n) (h1 : n ≤ 3) : L (strOfNums [(wrap64 (48 + n)) % 256, 32]) = [UInt8.ofNat (48 + n.toNat), 32] ∧ (strOfNums [(wrap64 (48 + n)) % 256, 32]).size = 2 := by
  rcases (show n = 1 ∨ n = 2 ∨ n = 3 by omega) with rfl | rfl | rfl <;> decide +kernel
theorem rputT_l0 (l : List It) (h : treeB l = true) : ∀ (d i : Nat) (b : ByteArray), l.length - i = d → i ≤ l.length → L b = itemsL (l.take i) → Ev (fun k => r04_PutTree.l0 k l b (i : Int)) (treeT l, true) := by
  have h256 := (treeB_parts h).2
  intro d
  induction d with
  | zero =>
    intro i b hi hil hb
    rw [List.take_of_length_le (by omega)] at hb
    have : b = treeT l := L_inj (by rw [hb, L_tree])
    subst this
    refine Ev.step (f := fun _ => some (treeT l, true)) (fun k => ?_) (Ev.now _)
    simp only [r04_PutTree.l0]
    rw [if_neg (by omega)]
  | succ d ih =>
    intro i b hi hil hb
    have hlt : i < l.length := by omega
    obtain ⟨x, hx⟩ : ∃ x, l[i]? = some x := ⟨_, List.getElem?_eq_getElem hlt⟩
    have hok := tree_items h x (List.mem_of_getElem? hx)
    obtain ⟨hn1, hn2⟩ := head_nums hok.1 hok.2.1
    have hs1 := (partB_size hok.2.2.1).2
    have hs2 := nm_size hok.2.2.2
    have hbs : b.size ≤ i * 137 := by
      rw [← L_len, hb]
      have := items_len (l := l.take i) (fun y hy => by
        have hy' := tree_items h y (List.mem_of_mem_take hy)
        exact ⟨hy'.1, hy'.2.1, (partB_size hy'.2.2.1).2, nm_size hy'.2.2.2⟩)
      rw [List.length_take] at this
      omega
    obtain ⟨q, hq⟩ : ∃ q, strOfNums [(wrap64 (48 + x.f0)) % 256, 32] = q := ⟨_, rfl⟩
    rw [hq] at hn1 hn2
    have s1 : (b ++ q).size = b.size + 2 := by rw [ByteArray.size_append, hn2]
    have s2 : ((b ++ q) ++ x.f1).size = b.size + 2 + x.f1.size := by rw [ByteArray.size_append, s1]
    have s3 : (((b ++ q) ++ x.f1) ++ (⟨#[0]⟩ : ByteArray)).size = b.size + 2 + x.f1.size + 1 := by rw [ByteArray.size_append, s2]; rfl
    refine Ev.step (fun k => ?_) (ih (i + 1) ((((b ++ q) ++ x.f1) ++ (⟨#[0]⟩ : ByteArray)) ++ x.f2) (by omega) (by omega) ?_)
    · simp only [r04_PutTree.l0]
      rw [if_pos (by omega), if_pos (by omega), rdI hx, Option.bind_some, hq, if_pos (by omega), if_pos (by rw [s1]; omega), if_pos (by rw [s2]; omega), if_pos (by rw [s3]; omega), wr1 hlt (by omega)]
    · rw [items_step hx, ← hb, L_item hok]
      rw [show L ((((b ++ q) ++ x.f1) ++ (⟨#[0]⟩ : ByteArray)) ++ x.f2) = L b ++ L q ++ L x.f1 ++ [0] ++ L x.f2 by simp [L, ByteArray.data_append], hn1]
      simp
theorem rputT_ev (l : List It) (hl : l.length ≤ 1000000000) (hsh : Ish l) : Ev (fun k => r04_PutTree.f k l) (putTree l) := by
  unfold r04_PutTree.f
  refine Ev.bind (rtree_ev l hl hsh) ?_
  by_cases h : treeB l = true
  · rw [putTree_right h]
    exact Ev.congr (fun k => if_pos h) (rputT_l0 l h l.length 0 _ rfl (Nat.zero_le _) rfl)
  · have e : putTree l = (⟨#[]⟩, false) := by rw [putTree, if_neg h]
    rw [e]
    exact Ev.congr (fun k => if_neg h) (Ev.now _)
def endT (s : ByteArray) (l : List It) : List It × Bool := if putTree l = (s, true) then (l, true) else ([], false)
theorem rgetT_found (s all : ByteArray) (hs : s.size ≤ 1000000000) (acc : List It) (m : Nat) (hlt : m < s.size) (h0 : (L s)[m]? = some 0) (hacc : acc.length ≤ 1000000000) (r : List It × Bool) (c : UInt8) (d : UInt8) (hc : (L s)[0]? = some c) (hd : (L s)[1]? = some d)
    (h : if 2 ≤ m ∧ m + 65 ≤ s.size ∧ d = 32 then Ev (fun k => r04_GetTree.l0 k (bs ((L s).drop (m + 65))) (acc ++ [⟨(c.toNat : Int) - 48, s.extract 2 m, s.extract (m + 1) (m + 65)⟩]) all) r else r = ([], false)) : Ev (fun k => r04_GetTree.l1 k s acc all (m : Int)) r := by
  have c1 : (m : Int) < (s.size : Int) := by omega
  have c2 : (0 : Int) ≤ (m : Int) := by omega
  have w65 : wrap64 ((m : Int) + 65) = ((m + 65 : Nat) : Int) := by rw [w64 _ (by omega) (by omega)]; omega
  have w1 : wrap64 ((m : Int) + 1) = ((m + 1 : Nat) : Int) := by rw [w64 _ (by omega) (by omega)]; omega
  have hcl : c.toNat < 256 := c.toNat_lt
  have wc : wrap64 ((wrap64 (c.toNat : Int)) - 48) = (c.toNat : Int) - 48 := by
    rw [w64 (c.toNat : Int) (by omega) (by omega)]; unfold wrap64; omega
  have b0 := bt_get hc 0 rfl
  have b1 := bt_get hd 1 rfl
  have bm := bt_get h0 (m : Int) rfl
  by_cases g2 : 2 ≤ m
  · by_cases g65 : m + 65 ≤ s.size
    · by_cases g32 : d = 32
      · rw [if_pos ⟨g2, g65, g32⟩] at h
        refine Ev.step (fun k => ?_) h
        have e32 : (d.toNat : Int) = 32 := by rw [g32]; rfl
        have k1 : ¬ (m : Int) < 2 := by omega
        have k2 : ¬ ((m + 65 : Nat) : Int) > (s.size : Int) := by omega
        have k3 : (1 : Int) < (s.size : Int) := by omega
        have k4 : (0 : Int) < (s.size : Int) := by omega
        have k5 : (2 : Int) ≤ (m : Int) := by omega
        have k6 : (m : Int) ≤ (s.size : Int) := by omega
        have k7 : (0 : Int) ≤ ((m + 1 : Nat) : Int) := by omega
        have k8 : ((m + 1 : Nat) : Int) ≤ ((m + 65 : Nat) : Int) := by omega
        have k9 : ((m + 65 : Nat) : Int) ≤ (s.size : Int) := by omega
        have k10 : acc.length < 3518437208883 := by omega
        have k11 : (0 : Int) ≤ ((m + 65 : Nat) : Int) := by omega
        simp only [r04_GetTree.l1]
        rw [if_pos c1, if_pos c2, bm, if_pos (show ((0 : UInt8).toNat : Int) = 0 from rfl), if_neg k1, w65, if_neg k2, if_pos k3, b1, if_pos e32, if_pos k4, if_pos k5, if_pos k6, w1, if_pos k7, if_pos k8, if_pos k9, if_pos k10, if_pos k11, b0, wc]
        simp only [Int.toNat_natCast, ext_drop]
      · rw [if_neg (fun h => g32 h.2.2)] at h
        subst h
        refine Ev.step (f := fun _ => some ([], false)) (fun k => ?_) (Ev.now _)
        have e32 : ¬ (d.toNat : Int) = 32 := fun e => g32 (UInt8.toNat_inj.1 (by have : (32 : UInt8).toNat = 32 := rfl; omega))
        simp only [r04_GetTree.l1]
        rw [if_pos c1, if_pos c2, bm, if_pos (show ((0 : UInt8).toNat : Int) = 0 from rfl), if_neg (by omega), w65, if_neg (by omega), if_pos (by omega), b1, if_neg e32]
    · rw [if_neg (fun h => g65 h.2.1)] at h
      subst h
      refine Ev.step (f := fun _ => some ([], false)) (fun k => ?_) (Ev.now _)
      simp only [r04_GetTree.l1]
      rw [if_pos c1, if_pos c2, bm, if_pos (show ((0 : UInt8).toNat : Int) = 0 from rfl), if_neg (by omega), w65, if_pos (by omega)]
  · rw [if_neg (fun h => g2 h.1)] at h
    subst h
    refine Ev.step (f := fun _ => some ([], false)) (fun k => ?_) (Ev.now _)
    simp only [r04_GetTree.l1]
    rw [if_pos c1, if_pos c2, bm, if_pos (show ((0 : UInt8).toNat : Int) = 0 from rfl), if_pos (by omega)]
theorem rgetT_none (s all : ByteArray) (hs : s.size ≤ 1000000000) (acc : List It) (m : Nat) (h : m = s.size) : Ev (fun k => r04_GetTree.l1 k s acc all (m : Int)) ([], false) := by
  subst h
  have w65 : wrap64 ((s.size : Int) + 65) = ((s.size + 65 : Nat) : Int) := by rw [w64 _ (by omega) (by omega)]; omega
  refine Ev.step (f := fun _ => some ([], false)) (fun k => ?_) (Ev.now _)
  simp only [r04_GetTree.l1]
  rw [if_neg (Int.lt_irrefl _)]
  by_cases h2 : (s.size : Int) < 2
  · rw [if_pos h2]
  · rw [if_neg h2, w65, if_pos (by omega)]
theorem rgetT_scan (s all : ByteArray) (hs : s.size ≤ 1000000000) (acc : List It) (m : Nat) (hm : m ≤ s.size) (hno : ∀ i u, i < m → (L s)[i]? = some u → u ≠ 0) (r : List It × Bool) (h : Ev (fun k => r04_GetTree.l1 k s acc all (m : Int)) r) : ∀ (d j : Nat), m - j = d → j ≤ m → Ev (fun k => r04_GetTree.l1 k s acc all (j : Int)) r := by
  intro d
  induction d with
  | zero =>
    intro j hd hj
    obtain rfl : j = m := by omega
    exact h
  | succ d ih =>
    intro j hd hj
    obtain ⟨u, hu⟩ : ∃ u, (L s)[j]? = some u := ⟨_, List.getElem?_eq_getElem (by rw [L_len]; omega)⟩
    have hn : ¬ (u.toNat : Int) = 0 := by
      intro e
      refine hno j u (by omega) hu (UInt8.toNat_inj.1 ?_)
      have : (0 : UInt8).toNat = 0 := rfl
      omega
    have hw := wr1 (i := j) (n := s.size) (by omega) (by omega)
    refine Ev.step (fun k => ?_) (ih (j + 1) (by omega) (by omega))
    simp only [r04_GetTree.l1]
    rw [if_pos (by omega), if_pos (by omega), bt_get hu _ rfl, if_neg hn, hw]
theorem rgetT_short (s all : ByteArray) (hs : s.size ≤ 1000000000) (acc : List It) (m : Nat) (hlt : m < s.size) (h0 : (L s)[m]? = some 0) (h2 : m < 2) : Ev (fun k => r04_GetTree.l1 k s acc all (m : Int)) ([], false) := by
  have bm := bt_get h0 (m : Int) rfl
  refine Ev.step (f := fun _ => some ([], false)) (fun k => ?_) (Ev.now _)
  simp only [r04_GetTree.l1]
  rw [if_pos (by omega), if_pos (by omega), bm, if_pos (show ((0 : UInt8).toNat : Int) = 0 from rfl), if_pos (by omega)]
theorem rgetT_fin (s all : ByteArray) (h : s.size = 0) (acc : List It) (hl : acc.length ≤ 1000000000) (hsh : Ish acc) : Ev (fun k => r04_GetTree.l0 k s acc all) (endT all acc) := by
  refine Ev.step (f := fun k => (r04_PutTree.f k acc).bind fun t => if t.2 = true then (if t.1.toList = all.toList then some (acc, true) else some ([], false)) else some ([], false)) (fun k => ?_) (Ev.bind (rputT_ev acc hl hsh) ?_)
  · simp only [r04_GetTree.l0]
    rw [if_neg (by omega)]
  · refine Ev.congr (f := fun _ => some (endT all acc)) (fun k => ?_) (Ev.now _)
    unfold endT
    by_cases h1 : (putTree acc).2 = true
    · rw [if_pos h1]
      by_cases h2 : (putTree acc).1 = all
      · rw [if_pos ((toL_inj _ _).2 h2), if_pos (Prod.ext h2 h1)]
      · rw [if_neg (fun e => h2 ((toL_inj _ _).1 e)), if_neg (fun e => h2 (by rw [e]))]
    · rw [if_neg h1, if_neg (fun e => h1 (by rw [e]))]
theorem rgetT_l0 (all : ByteArray) : ∀ (n : Nat) (s : ByteArray) (acc : List It), s.size ≤ n → s.size ≤ 500000000 → acc.length + s.size ≤ 1000000000 → Ish acc → Ev (fun k => r04_GetTree.l0 k s acc all) (match parseT n (L s) with | some r => endT all (acc ++ r) | none => ([], false)) := by
  intro n
  induction n with
  | zero =>
    intro s acc hn hs ha hsh
    have h0 : s.size = 0 := by omega
    have : L s = [] := List.length_eq_zero_iff.1 (by rw [L_len]; exact h0)
    rw [this, parseT, if_pos rfl]
    simp only [List.append_nil]
    exact rgetT_fin s all h0 acc (by omega) hsh
  | succ n ih =>
    intro s acc hn hs ha hsh
    by_cases h0 : s.size = 0
    · have : L s = [] := List.length_eq_zero_iff.1 (by rw [L_len]; exact h0)
      rw [this, parseT, if_pos rfl]
      simp only [List.append_nil]
      exact rgetT_fin s all h0 acc (by omega) hsh
    · have hne : L s ≠ [] := fun h => h0 (by rw [← L_len, h]; rfl)
      obtain ⟨k1, k2⟩ := cutB_spec 0 (L s)
      have hlen := (cutB_len 0 (L s)).1
      obtain ⟨p, hp⟩ : ∃ p, (cutB 0 (L s)).1 = p := ⟨_, rfl⟩
      obtain ⟨z, hz⟩ : ∃ z, (cutB 0 (L s)).2.1 = z := ⟨_, rfl⟩
      obtain ⟨f, hf⟩ : ∃ f, (cutB 0 (L s)).2.2 = f := ⟨_, rfl⟩
      rw [parseT, if_neg hne, hp, hz, hf]
      rw [hp] at k1 k2 hlen
      rw [hz] at k2 hlen
      rw [hf] at k2
      rw [L_len] at hlen
      have hno : ∀ i u, i < p.length → (L s)[i]? = some u → u ≠ 0 := by
        intro i u hi hu
        refine k1 u (List.mem_of_getElem? (i := i) ?_)
        rcases k2 with ⟨_, g⟩ | ⟨_, g, _⟩
        · rw [g, List.getElem?_append_left hi] at hu; exact hu
        · rw [g] at hu; exact hu
      refine Ev.step (f := fun k => r04_GetTree.l1 k s acc all ((0 : Nat) : Int)) (fun k => ?_) (rgetT_scan s all (by omega) acc p.length (by omega) hno _ ?_ p.length 0 rfl (Nat.zero_le _))
      · simp only [r04_GetTree.l0]
        rw [if_pos (by omega)]; rfl
      rcases k2 with ⟨rfl, g⟩ | ⟨rfl, g, _⟩
      · have hm0 : (L s)[p.length]? = some 0 := by
          rw [g, List.getElem?_append_right (Nat.le_refl _), Nat.sub_self]; rfl
        have hmlt : p.length < s.size := by
          have := (List.getElem?_eq_some_iff.1 hm0).1
          rw [L_len] at this; exact this
        have hsz : s.size = p.length + 1 + z.length := by
          rw [← L_len, g, List.length_append, List.length_cons]; omega
        by_cases h2 : 2 ≤ p.length
        · obtain ⟨c, hc⟩ : ∃ c, p[0]? = some c := ⟨_, List.getElem?_eq_getElem (by omega)⟩
          obtain ⟨d, hd⟩ : ∃ d, p[1]? = some d := ⟨_, List.getElem?_eq_getElem (by omega)⟩
          have hc' : (L s)[0]? = some c := by rw [g, List.getElem?_append_left (by omega)]; exact hc
          have hd' : (L s)[1]? = some d := by rw [g, List.getElem?_append_left (by omega)]; exact hd
          refine rgetT_found s all (by omega) acc p.length hmlt hm0 (by omega) _ c d hc' hd' ?_
          by_cases hcond : 2 ≤ p.length ∧ p.length + 65 ≤ s.size ∧ d = 32
          · have hz64 : 64 ≤ z.length := by omega
            have hcond2 : true = true ∧ 2 ≤ p.length ∧ p[1]? = some 32 ∧ 64 ≤ z.length := ⟨rfl, h2, by rw [hd, hcond.2.2], hz64⟩
            rw [if_pos hcond, if_pos hcond2]
            have e1 : s.extract 2 p.length = bs (p.drop 2) := by
              apply L_inj
              rw [L_bs, L_ext, g, List.drop_append_of_le_length h2, List.take_append_of_le_length (by rw [List.length_drop]; exact Nat.le_refl _), List.take_of_length_le (by rw [List.length_drop]; exact Nat.le_refl _)]
            have hdz : (L s).drop (p.length + 1) = z := by rw [g, ← List.drop_drop, List.drop_left]; rfl
            have e2 : s.extract (p.length + 1) (p.length + 65) = bs (z.take 64) := by
              apply L_inj
              rw [L_bs, L_ext, hdz, show p.length + 65 - (p.length + 1) = 64 by omega]
            have e3 : (L s).drop (p.length + 65) = z.drop 64 := by
              rw [← hdz, List.drop_drop]
            rw [e1, e2, e3, hc]
            have hi := ih (bs (z.drop 64)) (acc ++ [⟨(c.toNat : Int) - 48, bs (p.drop 2), bs (z.take 64)⟩]) (by rw [bs_size, List.length_drop]; omega) (by rw [bs_size, List.length_drop]; omega) (by rw [bs_size, List.length_drop, List.length_append]; simp; omega) (fun y hy => by
              rcases List.mem_append.1 hy with hy | hy
              · exact hsh y hy
              · obtain rfl := List.mem_singleton.1 hy
                exact ⟨by rw [bs_size, List.length_drop]; omega, by rw [bs_size, List.length_take]; omega⟩)
            rw [L_bs] at hi
            cases hr : parseT n (z.drop 64) with
            | none => rw [hr] at hi; exact hi
            | some q =>
              rw [hr] at hi
              simp only [List.append_assoc, List.singleton_append] at hi
              exact hi
          · rw [if_neg hcond, if_neg (fun h => hcond ⟨h2, by have := h.2.2.2; omega, by have := h.2.2.1; rw [hd] at this; exact Option.some.inj this⟩)]
        · rw [if_neg (fun h => h2 h.2.1)]
          exact rgetT_short s all (by omega) acc p.length hmlt hm0 (by omega)
      · rw [if_neg (fun h => by cases h.1)]
        exact rgetT_none s all (by omega) acc p.length (by rw [← L_len, g])
theorem rgetT_ev (s : ByteArray) (hs : s.size ≤ 500000000) : Ev (fun k => r04_GetTree.f k s) (getTree s) := by
  have h := rgetT_l0 s s.size s [] (Nat.le_refl _) hs (by simp; omega) (fun x hx => by cases hx)
  unfold r04_GetTree.f
  have key : (match parseT s.size (L s) with | some r => endT s ([] ++ r) | none => ([], false)) = getTree s := by
    unfold getTree
    cases parseT s.size (L s) with
    | none => rfl
    | some r => rfl
  rw [key] at h
  exact h
end Go.Proofs.YtefefhhaopjccaaGreatDoor.Ob

namespace Go.Proofs.YtefefhhaopjccaaGreatDoor.Ob
set_option linter.unusedVariables false
set_option linter.unusedSimpArgs false
open Go Go.RowKit Go.Proofs.YtefefhhaopjccaaGreatDoorW.PrintWords Go.Proofs.YtefefhhaopjccaaGreatDoorW.PrintLast Go.Proofs.YtefefhhaopjccaaGreatDoorW.PrintMore PObBase PObGet
theorem getT_fin (all : ByteArray) (acc : List It) (hl : acc.length ≤ 1000000000) (hsh : Ish acc) : ((Gv.putTree.f acc).bind fun t => if t.2 = true then (if t.1.toList = all.toList then some (acc, true) else some ([], false)) else some ([], false)) = some (endT all acc) := by
  rw [Gv.putTree.f_eq hsh hl, Option.bind_some]
  unfold endT
  by_cases h1 : (putTree acc).2 = true
  · rw [if_pos h1]
    by_cases h2 : (putTree acc).1 = all
    · rw [if_pos ((toL_inj _ _).2 h2), if_pos (Prod.ext h2 h1)]
    · rw [if_neg (fun e => h2 ((toL_inj _ _).1 e)), if_neg (fun e => h2 (by rw [e]))]
  · rw [if_neg h1, if_neg (fun e => h1 (by rw [e]))]
theorem getT_l0 (all : ByteArray) : ∀ (n : Nat) (s : List UInt8) (acc : List It), s.length ≤ n → s.length ≤ 500000000 → acc.length + s.length ≤ 1000000000 → Ish acc → Ev (fun k => object_GetTree.l0 k all acc (bs s)) (match parseT n s with | some r => endT all (acc ++ r) | none => ([], false)) := by
  intro n
  induction n with
  | zero =>
    intro s acc hn hs ha hsh
    have : s = [] := List.length_eq_zero_iff.1 (by omega)
    subst this
    rw [parseT, if_pos rfl]
    simp only [List.append_nil]
    refine Ev.step (f := fun _ => some (endT all acc)) (fun k => ?_) (Ev.now _)
    simp only [object_GetTree.l0]
    rw [if_pos (by rw [toL, L_bs])]
    exact getT_fin all acc (by omega) hsh
  | succ n ih =>
    intro s acc hn hs ha hsh
    by_cases h0 : s = []
    · subst h0
      rw [parseT, if_pos rfl]
      simp only [List.append_nil]
      refine Ev.step (f := fun _ => some (endT all acc)) (fun k => ?_) (Ev.now _)
      simp only [object_GetTree.l0]
      rw [if_pos (by rw [toL, L_bs])]
      exact getT_fin all acc (by omega) hsh
    · have hcut := cut_eq (bs s) 0 (by rw [bs_size]; omega)
      rw [L_bs] at hcut
      have hlen := (cutB_len 0 s).1
      have hlt := (cutB_len 0 s).2 h0
      obtain ⟨p, hp⟩ : ∃ p, (cutB 0 s).1 = p := ⟨_, rfl⟩
      obtain ⟨z, hz⟩ : ∃ z, (cutB 0 s).2.1 = z := ⟨_, rfl⟩
      obtain ⟨f, hf⟩ : ∃ f, (cutB 0 s).2.2 = f := ⟨_, rfl⟩
      rw [parseT, if_neg h0, hp, hz, hf]
      rw [hp, hz, hf] at hcut
      rw [hp, hz] at hlen
      rw [hz] at hlt
      have hne : ¬ (bs s).toList = ([] : List UInt8) := by rw [toL, L_bs]; exact h0
      have hps : (bs p).size = p.length := bs_size p
      have hzs : (bs z).size = z.length := bs_size z
      cases f with
      | false =>
        rw [if_neg (fun h => by cases h.1)]
        refine Ev.step (f := fun _ => some ([], false)) (fun k => ?_) (Ev.now _)
        simp only [object_GetTree.l0]
        rw [if_neg hne, hcut, Option.bind_some, if_neg (by simp)]
      | true =>
        by_cases h2 : 2 ≤ p.length
        · obtain ⟨c, hc⟩ : ∃ c, p[0]? = some c := ⟨_, List.getElem?_eq_getElem (by omega)⟩
          obtain ⟨d, hd⟩ : ∃ d, p[1]? = some d := ⟨_, List.getElem?_eq_getElem (by omega)⟩
          have b0 := bt_get (s := bs p) (i := 0) (u := c) (by rw [L_bs]; exact hc) 0 rfl
          have b1 := bt_get (s := bs p) (i := 1) (u := d) (by rw [L_bs]; exact hd) 1 rfl
          have hcl : c.toNat < 256 := c.toNat_lt
          have wc : wrap64 ((wrap64 (c.toNat : Int)) - 48) = (c.toNat : Int) - 48 := by
            rw [w64 (c.toNat : Int) (by omega) (by omega)]; unfold wrap64; omega
          by_cases g32 : d = 32
          · have e32 : (d.toNat : Int) = 32 := by rw [g32]; rfl
            by_cases h64 : 64 ≤ z.length
            · have k1 : ¬ ((bs p).size : Int) < 2 := by omega
              have k2 : (1 : Int) < ((bs p).size : Int) := by omega
              have k3 : ¬ ((bs z).size : Int) < 64 := by omega
              have k4 : (0 : Int) < ((bs p).size : Int) := by omega
              have k5 : (2 : Int) ≤ ((bs p).size : Int) := by omega
              have k6 : (64 : Int) ≤ ((bs z).size : Int) := by omega
              have k7 : acc.length < 3518437208883 := by omega
              have k8 : (0 : Int) ≤ 64 := by omega
              rw [if_pos ⟨rfl, h2, by rw [hd, g32], h64⟩]
              have x1 : (bs p).extract 2 (bs p).size = bs (p.drop 2) := by rw [ext_drop, L_bs]
              have x2 : (bs z).extract 0 64 = bs (z.take 64) := by rw [ext_take, L_bs]
              have x3 : (bs z).extract 64 (bs z).size = bs (z.drop 64) := by rw [ext_drop, L_bs]
              have hi := ih (z.drop 64) (acc ++ [⟨(c.toNat : Int) - 48, bs (p.drop 2), bs (z.take 64)⟩]) (by rw [List.length_drop]; omega) (by rw [List.length_drop]; omega) (by rw [List.length_drop, List.length_append]; simp; omega) (fun y hy => by
                rcases List.mem_append.1 hy with hy | hy
                · exact hsh y hy
                · obtain rfl := List.mem_singleton.1 hy
                  exact ⟨by rw [bs_size, List.length_drop]; omega, by rw [bs_size, List.length_take]; omega⟩)
              refine Ev.step (fun k => ?_) (?_ : Ev (fun k => object_GetTree.l0 k all (acc ++ [⟨(c.toNat : Int) - 48, bs (p.drop 2), bs (z.take 64)⟩]) (bs (z.drop 64))) _)
              · simp only [object_GetTree.l0]
                rw [if_neg hne, hcut, Option.bind_some]
                simp only [if_true, if_neg k1, if_pos k2, b1, if_pos e32, if_neg k3, if_pos k4, if_pos k5, if_pos k6, if_pos k7, b0, wc, x1, x2, x3]
                rw [if_pos (by decide)]
              · rw [hc]
                cases hr : parseT n (z.drop 64) with
                | none => rw [hr] at hi; exact hi
                | some q =>
                  rw [hr] at hi
                  simp only [List.append_assoc, List.singleton_append] at hi
                  exact hi
            · rw [if_neg (fun h => h64 h.2.2.2)]
              refine Ev.step (f := fun _ => some ([], false)) (fun k => ?_) (Ev.now _)
              simp only [object_GetTree.l0]
              have k1 : ¬ ((bs p).size : Int) < 2 := by omega
              have k2 : (1 : Int) < ((bs p).size : Int) := by omega
              have k3 : ((bs z).size : Int) < 64 := by omega
              rw [if_neg hne, hcut, Option.bind_some]
              simp only [if_true, if_neg k1, if_pos k2, b1, if_pos e32, if_pos k3]
          · rw [if_neg (fun h => g32 (by have := h.2.2.1; rw [hd] at this; exact Option.some.inj this))]
            have e32 : ¬ (d.toNat : Int) = 32 := fun e => g32 (UInt8.toNat_inj.1 (by have : (32 : UInt8).toNat = 32 := rfl; omega))
            refine Ev.step (f := fun _ => some ([], false)) (fun k => ?_) (Ev.now _)
            simp only [object_GetTree.l0]
            have k1 : ¬ ((bs p).size : Int) < 2 := by omega
            have k2 : (1 : Int) < ((bs p).size : Int) := by omega
            rw [if_neg hne, hcut, Option.bind_some]
            simp only [if_true, if_neg k1, if_pos k2, b1, if_neg e32]
        · rw [if_neg (fun h => h2 h.2.1)]
          refine Ev.step (f := fun _ => some ([], false)) (fun k => ?_) (Ev.now _)
          simp only [object_GetTree.l0]
          have k1 : ((bs p).size : Int) < 2 := by omega
          rw [if_neg hne, hcut, Option.bind_some]
          simp only [if_true, if_pos k1]
theorem getT_ev (s : ByteArray) (hs : s.size ≤ 500000000) : Ev (fun k => object_GetTree.f k s) (getTree s) := by
  have h := getT_l0 s s.size (L s) [] (by rw [L_len]; exact Nat.le_refl _) (by rw [L_len]; exact hs) (by rw [L_len]; simp; omega) (fun x hx => by cases hx)
  rw [bs_L] at h
  unfold object_GetTree.f
  have key : (match parseT s.size (L s) with | some r => endT s ([] ++ r) | none => ([], false)) = getTree s := by
    unfold getTree
    cases parseT s.size (L s) with
    | none => rfl
    | some r => rfl
  rw [key] at h
  exact h
end Go.Proofs.YtefefhhaopjccaaGreatDoor.Ob
