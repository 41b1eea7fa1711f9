/- The document's updates, tips and finds, plainly. No condition but the reach of what comes in. -/
import Derived.Test.YtacgchklilfcaaaGreatDoorZRfRef
import Derived.Test.YtacgchklilfcaaaGreatDoorZPRefsTellx0
import Derived.Test.YtacgchklilfcaaaGreatDoorZPRefsTellx1
import Derived.Test.YtacgchklilfcaaaGreatDoorZPRefsTellx2
namespace Go.Proofs.YtacgchklilfcaaaGreatDoor.Rf
set_option linter.unusedVariables false
set_option linter.unusedSimpArgs false
set_option linter.unusedSectionVars false
open Go Go.RowKit Go.Proofs.YtacgchklilfcaaaGreatDoorW.PrintWords Go.Proofs.YtacgchklilfcaaaGreatDoorW.PrintLast Go.Proofs.YtacgchklilfcaaaGreatDoorW.PrintMore PRfBase PRfGet Go.Proofs.YtacgchklilfcaaaGreatDoor.Gl
theorem rfind_l0 (l : List Ref) (s : ByteArray) (hl : l.length ≤ 1000000000) : ∀ (d i : Nat), l.length - i = d → Ev (fun k => r09_Find.l0 k l s (i : Int)) (findL (l.drop i) s) := by
  intro d
  induction d with
  | zero =>
    intro i hi
    rw [List.drop_of_length_le (by omega)]
    refine Ev.step (f := fun _ => some ⟨#[]⟩) (fun k => ?_) (Ev.now _)
    simp only [r09_Find.l0]
    rw [if_neg (by omega)]
  | succ d ih =>
    intro i hi
    have hil : i < l.length := by omega
    obtain ⟨x, hx⟩ : ∃ x, l[i]? = some x := ⟨_, List.getElem?_eq_getElem hil⟩
    rw [drop_at hx]
    by_cases he : x.f0 = s
    · have e : findL (x :: l.drop (i + 1)) s = x.f1 := by unfold findL; rw [List.find?_cons, decide_eq_true he]
      rw [e]
      refine Ev.step (f := fun _ => some x.f1) (fun k => ?_) (Ev.now _)
      simp only [r09_Find.l0]
      rw [if_pos (by omega), if_pos (by omega), rdR hx, if_pos (by rw [he])]
    · have e : findL (x :: l.drop (i + 1)) s = findL (l.drop (i + 1)) s := by unfold findL; rw [List.find?_cons, decide_eq_false he]
      rw [e]
      refine Ev.step (fun k => ?_) (ih (i + 1) (by omega))
      simp only [r09_Find.l0]
      rw [if_pos (by omega), if_pos (by omega), rdR hx, if_neg (fun e => he ((toL_inj _ _).1 e)), wr1 hil (by omega)]
theorem rfind_ev (l : List Ref) (s : ByteArray) (hl : l.length ≤ 1000000000) : Ev (fun k => r09_Find.f k l s) (findL l s) := by
  have := rfind_l0 l s hl _ 0 rfl
  rw [List.drop_zero] at this
  exact this
def insL {α : Type} (key : α → ByteArray) (x : α) : Bool → List α → List α
  | done, [] => if done then [] else [x]
  | done, y :: r => (if done = false ∧ ¬ L (key y) < L (key x) then [x] else []) ++ ((if key y = key x then [] else [y]) ++ insL key x (done || !decide (L (key y) < L (key x))) r)
theorem insL_true {α : Type} (key : α → ByteArray) (x : α) : ∀ l : List α, insL key x true l = l.filter (fun y => decide (key y ≠ key x))
  | [] => rfl
  | y :: r => by
    rw [insL, Bool.true_or, insL_true key x r, List.filter_cons]
    by_cases h : key y = key x
    · simp [h]
    · simp [h]
theorem insL_mem_true {α : Type} (key : α → ByteArray) (x : α) (l : List α) (z : α) : z ∈ insL key x true l ↔ z ∈ l ∧ key z ≠ key x := by
  rw [insL_true, List.mem_filter, decide_eq_true_iff]
def RiseK {α : Type} (key : α → ByteArray) (l : List α) : Prop := l.Pairwise (fun x y => L (key x) < L (key y))
theorem insL_false {α : Type} (key : α → ByteArray) (x : α) : ∀ l : List α, RiseK key l → RiseK key (insL key x false l) ∧ ∀ z, z ∈ insL key x false l ↔ (z = x ∨ (z ∈ l ∧ key z ≠ key x))
  | [], _ => by
    rw [insL]
    exact ⟨List.pairwise_cons.2 ⟨fun _ h => (List.not_mem_nil h).elim, List.Pairwise.nil⟩, fun z => by simp⟩
  | y :: r, h => by
    obtain ⟨h1, h2⟩ := List.pairwise_cons.1 h
    rw [insL]
    by_cases hlt : L (key y) < L (key x)
    · have hne : key y ≠ key x := lt_ne hlt
      obtain ⟨g1, g2⟩ := insL_false key x r h2
      have e : ((if (false : Bool) = false ∧ ¬ L (key y) < L (key x) then [x] else []) ++ ((if key y = key x then [] else [y]) ++ insL key x (false || !decide (L (key y) < L (key x))) r)) = y :: insL key x false r := by
        rw [if_neg (fun h => h.2 hlt), if_neg hne, decide_eq_true hlt]; rfl
      rw [e]
      refine ⟨List.pairwise_cons.2 ⟨fun z hz => ?_, g1⟩, fun z => ?_⟩
      · rcases (g2 z).1 hz with rfl | ⟨hz, _⟩
        · exact hlt
        · exact h1 z hz
      · rw [List.mem_cons, g2, List.mem_cons]
        constructor
        · rintro (rfl | rfl | ⟨hz, hn⟩)
          · exact .inr ⟨.inl rfl, hne⟩
          · exact .inl rfl
          · exact .inr ⟨.inr hz, hn⟩
        · rintro (rfl | ⟨rfl | hz, hn⟩)
          · exact .inr (.inl rfl)
          · exact .inl rfl
          · exact .inr (.inr ⟨hz, hn⟩)
    · have e : ((if (false : Bool) = false ∧ ¬ L (key y) < L (key x) then [x] else []) ++ ((if key y = key x then [] else [y]) ++ insL key x (false || !decide (L (key y) < L (key x))) r)) = x :: ((if key y = key x then [] else [y]) ++ insL key x true r) := by
        rw [if_pos ⟨rfl, hlt⟩, decide_eq_false hlt]; rfl
      rw [e, insL_true]
      have hge : key y = key x ∨ L (key x) < L (key y) := by
        by_cases he : key y = key x
        · exact .inl he
        · exact .inr (Std.lt_of_le_of_ne (List.not_lt.1 hlt) (fun k => he (L_inj k.symm)))
      have hall : ∀ z ∈ r, L (key x) < L (key z) := fun z hz => by
        rcases hge with he | he
        · rw [← he]; exact h1 z hz
        · exact List.lt_trans he (h1 z hz)
      have hf : r.filter (fun z => decide (key z ≠ key x)) = r := List.filter_eq_self.2 (fun z hz => decide_eq_true (fun e => lt_irr (key x) (by have := hall z hz; rw [e] at this; exact this)))
      rw [hf]
      by_cases he : key y = key x
      · rw [if_pos he, List.nil_append]
        refine ⟨List.pairwise_cons.2 ⟨hall, h2⟩, fun z => ?_⟩
        rw [List.mem_cons, List.mem_cons]
        constructor
        · rintro (rfl | hz)
          · exact .inl rfl
          · exact .inr ⟨.inr hz, fun e => lt_irr (key x) (by have := hall z hz; rw [e] at this; exact this)⟩
        · rintro (rfl | ⟨rfl | hz, hn⟩)
          · exact .inl rfl
          · exact absurd he hn
          · exact .inr hz
      · rw [if_neg he]
        have hlt2 := hge.resolve_left he
        refine ⟨List.pairwise_cons.2 ⟨fun z hz => ?_, h⟩, fun z => ?_⟩
        · rcases List.mem_cons.1 hz with rfl | hz
          · exact hlt2
          · exact hall z hz
        · show z ∈ x :: y :: r ↔ _
          rw [List.mem_cons]
          constructor
          · rintro (rfl | hz)
            · exact .inl rfl
            · refine .inr ⟨hz, fun e' => ?_⟩
              rcases List.mem_cons.1 hz with hy | hz
              · rw [hy] at e'; exact he e'
              · exact lt_irr (key x) (by have := hall z hz; rw [e'] at this; exact this)
          · rintro (rfl | ⟨hz, _⟩)
            · exact .inl rfl
            · exact .inr hz
theorem insL_once {α : Type} (key : α → ByteArray) (x : α) : ∀ (l : List α), (insL key x false l).length ≤ l.length + 1
  | [] => by rw [insL]; simp
  | y :: r => by
    have h1 := insL_once key x r
    have h2 : (insL key x true r).length ≤ r.length := by rw [insL_true]; exact List.length_filter_le _ _
    rw [insL, List.length_append, List.length_append, List.length_cons]
    by_cases hlt : L (key y) < L (key x)
    · rw [if_neg (fun h => h.2 hlt), decide_eq_true hlt]
      have : (false || !true) = false := rfl
      rw [this]
      split <;> simp <;> omega
    · rw [if_pos ⟨rfl, hlt⟩, decide_eq_false hlt]
      have : (false || !false) = true := rfl
      rw [this]
      split <;> simp <;> omega
theorem rput_l0 (l : List Ref) (n v : ByteArray) (hl : l.length ≤ 1000000000) : ∀ (d i : Nat) (acc : List Ref) (done : Bool), l.length - i = d → i ≤ l.length → acc.length ≤ 2 * i → Ev (fun k => r09_put.l0 k l acc done (i : Int) n v) (acc ++ insL (·.f0) ⟨n, v⟩ done (l.drop i)) := by
  intro d
  induction d with
  | zero =>
    intro i acc done hi hil ha
    rw [List.drop_of_length_le (by omega)]
    have c1 : acc.length < 4398046511104 := by omega
    refine Ev.step (f := fun _ => some _) (fun k => ?_) (Ev.now _)
    simp only [r09_put.l0]
    rw [if_neg (by omega), insL]
    cases done with
    | true => rw [if_pos rfl, if_pos rfl, List.append_nil]
    | false => rw [if_neg (by simp), if_pos c1, if_neg (by simp)]
  | succ d ih =>
    intro i acc done hi hil ha
    have hlt : i < l.length := by omega
    obtain ⟨x, hx⟩ : ∃ x, l[i]? = some x := ⟨_, List.getElem?_eq_getElem hlt⟩
    have c1 : acc.length < 4398046511104 := by omega
    have c2 : (acc ++ [(⟨n, v⟩ : Ref)]).length < 4398046511104 := by rw [List.length_append]; simp; omega
    have c3 : (i : Int) < (l.length : Int) := by omega
    have c4 : (0 : Int) ≤ (i : Int) := by omega
    have hw := wr1 hlt (by omega)
    have hbl : Op.bytesLess x.f0.toList n.toList = decide (L x.f0 < L n) := by rw [toL, toL, bytesLess_eq]
    have hxx : (⟨x.f0, x.f1⟩ : Ref) = x := rfl
    obtain ⟨b, hb⟩ : ∃ b, b = (if done = false then !decide (L x.f0 < L n) else false) := ⟨_, rfl⟩
    have hgo : Ev (fun k => r09_put.j1 k l acc done (i : Int) b n v) (acc ++ insL (·.f0) ⟨n, v⟩ done (x :: l.drop (i + 1))) := by
      rw [insL]
      have hdone : ∀ e : Bool, (done || e) = (done || e) := fun _ => rfl
      cases hbb : b with
      | true =>
        have hd : done = false := by
          cases hdn : done with
          | true => rw [hdn, if_neg (by simp)] at hb; rw [hb] at hbb; cases hbb
          | false => rfl
        subst hd
        rw [if_pos rfl, hbb] at hb
        have hnlt : ¬ L x.f0 < L n := by
          intro h
          rw [decide_eq_true h] at hb; cases hb
        rw [if_pos ⟨rfl, hnlt⟩, decide_eq_false hnlt]
        by_cases he : x.f0 = n
        · rw [if_pos he]
          have := ih (i + 1) (acc ++ [⟨n, v⟩]) true (by omega) (by omega) (by rw [List.length_append]; simp; omega)
          refine Ev.step (fun k => ?_) (?_ : Ev (fun k => r09_put.l0 k l (acc ++ [⟨n, v⟩]) true ((i + 1 : Nat) : Int) n v) _)
          · simp only [r09_put.j1]
            rw [if_pos trivial, if_pos c1, Option.bind_some, if_pos c4, if_pos c3, rdR hx, if_pos (by rw [he]), hw]
          · rw [← List.append_assoc, List.nil_append]; exact this
        · rw [if_neg he]
          have := ih (i + 1) (acc ++ [⟨n, v⟩] ++ [x]) true (by omega) (by omega) (by rw [List.length_append, List.length_append]; simp; omega)
          refine Ev.step (fun k => ?_) (?_ : Ev (fun k => r09_put.l0 k l (acc ++ [⟨n, v⟩] ++ [x]) true ((i + 1 : Nat) : Int) n v) _)
          · simp only [r09_put.j1]
            rw [if_pos trivial, if_pos c1, Option.bind_some, if_pos c4, if_pos c3, rdR hx, if_neg (fun e => he ((toL_inj _ _).1 e)), if_pos c2, hw]
          · rw [← List.append_assoc, ← List.append_assoc]; exact this
      | false =>
        have hno : ¬ (done = false ∧ ¬ L x.f0 < L n) := by
          rintro ⟨h1, h2⟩
          rw [hbb, if_pos h1, decide_eq_false h2] at hb; cases hb
        have hdd : (done || !decide (L x.f0 < L n)) = done := by
          cases hdn : done with
          | true => rfl
          | false =>
            by_cases h : L x.f0 < L n
            · rw [decide_eq_true h]; rfl
            · exact absurd ⟨hdn, h⟩ hno
        rw [if_neg hno, hdd, List.nil_append]
        by_cases he : x.f0 = n
        · rw [if_pos he, List.nil_append]
          refine Ev.step (fun k => ?_) (ih (i + 1) acc done (by omega) (by omega) (by omega))
          simp only [r09_put.j1]
          rw [if_neg (by simp), if_pos c4, if_pos c3, rdR hx, if_pos (by rw [he]), hw]
        · rw [if_neg he, ← List.append_assoc]
          refine Ev.step (fun k => ?_) (ih (i + 1) (acc ++ [x]) done (by omega) (by omega) (by rw [List.length_append]; simp; omega))
          simp only [r09_put.j1]
          rw [if_neg (by simp), if_pos c4, if_pos c3, rdR hx, if_neg (fun e => he ((toL_inj _ _).1 e)), if_pos c1, hw]
    rw [drop_at hx]
    refine Ev.step (fun k => ?_) hgo
    simp only [r09_put.l0]
    rw [if_pos c3]
    cases done with
    | true => rw [if_pos rfl, hb]; rfl
    | false => rw [if_neg (by simp), if_pos c4, rdR hx, hbl, hb]; rfl
theorem isEmpty_eq (v : ByteArray) : (v.toList == ([] : List UInt8)) = decide (v.size = 0) := by
  rw [Bool.eq_iff_iff, beq_iff_eq, decide_eq_true_iff, toL_nil]
theorem rput_ev' (l : List Ref) (n v : ByteArray) (hl : l.length ≤ 1000000000) : Ev (fun k => r09_put.f k l n v) (insL (·.f0) ⟨n, v⟩ (decide (v.size = 0)) l) := by
  have := rput_l0 l n v hl _ 0 [] (decide (v.size = 0)) rfl (Nat.zero_le _) (Nat.zero_le _)
  rw [List.drop_zero, List.nil_append] at this
  unfold r09_put.f
  rw [isEmpty_eq]
  exact this
theorem ins_step {f : ByteArray → Option ByteArray} (h : Fin f) (x : Upd) : insL (·.f0) ⟨x.f0, x.f2⟩ (decide (x.f2.size = 0)) (refsF f) = refsF (stepU f x) := by
  symm
  by_cases h2 : x.f2.size = 0
  · rw [decide_eq_true h2]
    refine refsF_eq ?_ (fun y => ?_)
    · rw [insL_true]; exact (refsF_rise h).sublist List.filter_sublist
    · rw [insL_mem_true, refsF_mem h]
      unfold stepU
      rw [if_pos h2]
      unfold delF
      by_cases he : y.f0 = x.f0
      · rw [if_pos he]; exact ⟨fun k => absurd he k.2, fun k => by cases k⟩
      · rw [if_neg he]; exact ⟨fun k => k.1, fun k => ⟨k, he⟩⟩
  · rw [decide_eq_false h2]
    obtain ⟨g1, g2⟩ := insL_false (fun y : Ref => y.f0) ⟨x.f0, x.f2⟩ (refsF f) (refsF_rise h)
    refine refsF_eq g1 (fun y => ?_)
    rw [g2, refsF_mem h]
    unfold stepU
    rw [if_neg h2]
    unfold updF
    by_cases he : y.f0 = x.f0
    · rw [if_pos he]
      constructor
      · rintro (rfl | ⟨_, hn⟩)
        · rfl
        · exact absurd he hn
      · intro k
        exact .inl (ref_ext he (Option.some.inj k).symm)
    · rw [if_neg he]
      constructor
      · rintro (rfl | ⟨k, _⟩)
        · exact absurd rfl he
        · exact k
      · exact fun k => .inr ⟨k, he⟩
theorem newF_snoc {u : List Upd} {x : Upd} (h : (u ++ [x]).Pairwise (fun x y => x.f0 ≠ y.f0)) (f : ByteArray → Option ByteArray) : stepU (newF u f) x = newF (u ++ [x]) f := by
  funext s
  by_cases hs : x.f0 = s
  · subst hs
    rw [newF_mem h f (x := x) (List.mem_append_right _ List.mem_cons_self)]
    unfold stepU
    by_cases h2 : x.f2.size = 0
    · rw [if_pos h2, if_pos h2]; exact if_pos rfl
    · rw [if_neg h2, if_neg h2]; exact if_pos rfl
  · rw [stepU_at _ x hs]
    unfold newF
    rw [List.find?_append]
    have : [x].find? (fun y => decide (y.f0 = s)) = none := by
      rw [List.find?_eq_none]; intro y hy; obtain rfl := List.mem_singleton.1 hy; simpa using hs
    rw [this, Option.or_none]
def selfB (x : Upd) : Bool := !nameB x.f0 || !mayB x.f1 || !mayB x.f2 || decide (x.f1.size + x.f2.size = 0)
theorem badB_eq (c : Nat) (x : Upd) : badB c x = (selfB x || decide (0 < c)) := by
  unfold badB selfB
  cases nameB x.f0 <;> cases decide (0 < c) <;> cases mayB x.f1 <;> cases mayB x.f2 <;> cases decide (x.f1.size + x.f2.size = 0) <;> rfl
theorem cnt_snoc {u : List Upd} {j : Nat} {y : Upd} (hy : u[j]? = some y) (s : ByteArray) : cnt (u.take (j + 1)) s = cnt (u.take j) s + (if y.f0 = s then 1 else 0) := by
  unfold cnt
  rw [List.take_add_one, hy, List.filter_append, List.length_append]
  by_cases h : y.f0 = s
  · simp [h]
  · simp [h]
theorem rwrong_l1 (u : List Upd) (hu : u.length ≤ 1000000000) (i : Nat) (hi : i ≤ u.length) (n a b : ByteArray) (r : Int) : ∀ (d j : Nat) (bad : Bool), i - j = d → j ≤ i →
    (∀ z, z = (bad || decide (cnt (u.take j) n < cnt (u.take i) n)) → Ev (fun k => if z = true then some (i : Int) else r09_wrong.l0 k u (wrap64 ((i : Int) + 1))) r) → Ev (fun k => r09_wrong.l1 k u (i : Int) bad (j : Int) n a b) r := by
  intro d
  induction d with
  | zero =>
    intro j bad hj hji h
    obtain rfl : j = i := by omega
    have := h bad (by rw [decide_eq_false (Nat.lt_irrefl _), Bool.or_false])
    refine Ev.step (fun k => ?_) this
    simp only [r09_wrong.l1]
    rw [if_neg (by omega)]
  | succ d ih =>
    intro j bad hj hji h
    have hjl : j < u.length := by omega
    obtain ⟨y, hy⟩ : ∃ y, u[j]? = some y := ⟨_, List.getElem?_eq_getElem hjl⟩
    have hmono : ∀ a b : Nat, a ≤ b → cnt (u.take a) n ≤ cnt (u.take b) n := fun a b hab => by
      unfold cnt
      exact List.Sublist.length_le (List.Sublist.filter _ (List.take_sublist_take_left hab))
    have hw := wr1 hjl (by omega)
    cases bad with
    | true =>
      refine Ev.step (fun k => ?_) (ih (j + 1) true (by omega) (by omega) (fun z hz => h z (by rw [hz]; rfl)))
      simp only [r09_wrong.l1]
      rw [if_pos (by omega), if_pos trivial, hw]
    | false =>
      refine Ev.step (fun k => ?_) (ih (j + 1) (y.f0.toList == n.toList) (by omega) (by omega) (fun z hz => h z ?_))
      · simp only [r09_wrong.l1]
        rw [if_pos (by omega), if_neg (by simp), if_pos (by omega), if_pos (by omega), rdU hy, hw]
      · rw [hz, Bool.false_or]
        have hc := cnt_snoc hy n
        have hm := hmono (j + 1) i (by omega)
        by_cases he : y.f0 = n
        · rw [if_pos he] at hc
          rw [beq_yes he, Bool.true_or, decide_eq_true (by omega)]
        · rw [if_neg he] at hc
          rw [beq_no he, Bool.false_or]
          exact decide_eq_decide.2 (by omega)
theorem rwrong_l0 (u : List Upd) (hu : u.length ≤ 1000000000) : ∀ (d i : Nat), u.length - i = d → (∀ j x, j < i → u[j]? = some x → badB (cnt (u.take j) x.f0) x = false) → Ev (fun k => r09_wrong.l0 k u (i : Int)) (wrongI u) := by
  intro d
  induction d with
  | zero =>
    intro i hi hok
    have : wrongI u = -1 := fstI_none (fun j x hx => hok j x (by have := (List.getElem?_eq_some_iff.1 hx).1; omega) hx)
    rw [this]
    refine Ev.step (f := fun _ => some (-1)) (fun k => ?_) (Ev.now _)
    simp only [r09_wrong.l0]
    rw [if_neg (by omega)]
  | succ d ih =>
    intro i hi hok
    have hil : i < u.length := by omega
    obtain ⟨x, hx⟩ : ∃ x, u[i]? = some x := ⟨_, List.getElem?_eq_getElem hil⟩
    have hw := wr1 hil (by omega)
    have hj : ∀ bad : Bool, bad = selfB x → Ev (fun k => r09_wrong.j1 k u (i : Int) bad x.f0 x.f1 x.f2) (wrongI u) := by
      rintro bad rfl
      refine Ev.step (f := fun k => r09_wrong.l1 k u (i : Int) (selfB x) ((0 : Nat) : Int) x.f0 x.f1 x.f2) (fun k => by simp only [r09_wrong.j1]; rfl) ?_
      refine rwrong_l1 u hu i (by omega) _ _ _ _ i 0 _ (by omega) (Nat.zero_le _) (fun z hz => ?_)
      have hb : z = badB (cnt (u.take i) x.f0) x := by
        rw [hz, badB_eq]; rfl
      cases hzz : z with
      | true =>
        have : wrongI u = (i : Int) := fstI_some hx (by rw [← hb]; exact hzz) hok
        rw [this]
        exact Ev.congr (fun k => if_pos rfl) (Ev.now _)
      | false =>
        refine Ev.congr (fun k => by rw [if_neg (by simp), hw]) (ih (i + 1) (by omega) (fun j y hj hy => ?_))
        rcases Nat.lt_succ_iff_lt_or_eq.1 hj with hj | rfl
        · exact hok j y hj hy
        · rw [hx] at hy; cases hy; rw [← hb]; exact hzz
    have hmay : ∀ s : ByteArray, mayB s = (decide (s.size = 0) || nmB s) := fun _ => rfl
    refine Ev.step (f := fun k => (r09_Named.f k x.f0).bind fun t122 => if t122 = true then (if x.f1.toList = ([] : List UInt8) then (if x.f2.toList = ([] : List UInt8) then r09_wrong.j1 k u (i : Int) (x.f2.toList == ([] : List UInt8)) x.f0 x.f1 x.f2 else (r02_Named.f k x.f2).bind fun t123 => if t123 = true then r09_wrong.j1 k u (i : Int) (x.f2.toList == ([] : List UInt8)) x.f0 x.f1 x.f2 else r09_wrong.j1 k u (i : Int) true x.f0 x.f1 x.f2) else (r02_Named.f k x.f1).bind fun t124 => if t124 = true then (if x.f2.toList = ([] : List UInt8) then r09_wrong.j1 k u (i : Int) false x.f0 x.f1 x.f2 else (r02_Named.f k x.f2).bind fun t125 => if t125 = true then r09_wrong.j1 k u (i : Int) false x.f0 x.f1 x.f2 else r09_wrong.j1 k u (i : Int) true x.f0 x.f1 x.f2) else r09_wrong.j1 k u (i : Int) true x.f0 x.f1 x.f2) else r09_wrong.j1 k u (i : Int) true x.f0 x.f1 x.f2) (fun k => ?_) (Ev.bind (rname_ev x.f0) ?_)
    · simp only [r09_wrong.l0]
      rw [if_pos (by omega), if_pos (by omega), rdU hx]
    rcases hn : nameB x.f0 with _ | _
    · exact Ev.congr (fun k => if_neg (by simp)) (hj _ (by unfold selfB; rw [hn]; rfl))
    refine Ev.congr (fun k => if_pos rfl) ?_
    by_cases h1 : x.f1.size = 0
    · refine Ev.congr (fun k => if_pos ((toL_nil _).2 h1)) ?_
      by_cases h2 : x.f2.size = 0
      · refine Ev.congr (fun k => if_pos ((toL_nil _).2 h2)) (hj _ ?_)
        rw [isEmpty_eq, decide_eq_true h2]
        unfold selfB
        rw [h1, h2]; simp
      · refine Ev.congr (fun k => if_neg (fun e => h2 ((toL_nil _).1 e))) (Ev.bind (rdig_ev x.f2) ?_)
        rcases hm : nmB x.f2 with _ | _
        · refine Ev.congr (fun k => if_neg (by simp)) (hj _ ?_)
          unfold selfB
          rw [hmay x.f2, hm, decide_eq_false h2]; simp
        · refine Ev.congr (fun k => if_pos rfl) (hj _ ?_)
          rw [isEmpty_eq, decide_eq_false h2]
          unfold selfB
          rw [hn, hmay x.f1, hmay x.f2, hm, decide_eq_true h1, decide_eq_false h2, decide_eq_false (by omega)]; rfl
    · refine Ev.congr (fun k => if_neg (fun e => h1 ((toL_nil _).1 e))) (Ev.bind (rdig_ev x.f1) ?_)
      rcases hm : nmB x.f1 with _ | _
      · refine Ev.congr (fun k => if_neg (by simp)) (hj _ ?_)
        unfold selfB
        rw [hmay x.f1, hm, decide_eq_false h1]; simp
      · refine Ev.congr (fun k => if_pos rfl) ?_
        by_cases h2 : x.f2.size = 0
        · refine Ev.congr (fun k => if_pos ((toL_nil _).2 h2)) (hj _ ?_)
          unfold selfB
          rw [hn, hmay x.f1, hmay x.f2, hm, decide_eq_true h2, decide_eq_false h1, decide_eq_false (by omega)]; rfl
        · refine Ev.congr (fun k => if_neg (fun e => h2 ((toL_nil _).1 e))) (Ev.bind (rdig_ev x.f2) ?_)
          rcases hm2 : nmB x.f2 with _ | _
          · refine Ev.congr (fun k => if_neg (by simp)) (hj _ ?_)
            unfold selfB
            rw [hmay x.f2, hm2, decide_eq_false h2]; simp
          · refine Ev.congr (fun k => if_pos rfl) (hj _ ?_)
            unfold selfB
            rw [hn, hmay x.f1, hmay x.f2, hm, hm2, decide_eq_false h2, decide_eq_false h1, decide_eq_false (by omega)]; rfl
theorem rwrong_ev (u : List Upd) (hu : u.length ≤ 1000000000) : Ev (fun k => r09_wrong.f k u) (wrongI u) := rwrong_l0 u hu _ 0 rfl (fun j x hj => by omega)
theorem run_first : ∀ (u : List Upd) (f : ByteArray → Option ByteArray) (n i : Nat) (x : Upd), u.Pairwise (fun x y => x.f0 ≠ y.f0) → u[i]? = some x → (∀ j y, j < i → u[j]? = some y → atF f y.f0 = y.f1) → atF f x.f0 ≠ x.f1 → runU f n u = .inl (n + i)
  | [], f, n, i, x, _, hx, _, _ => by simp at hx
  | y :: u, f, n, 0, x, _, hx, _, hn => by
    obtain rfl : y = x := by simpa using hx
    rw [runU, if_neg hn]; rfl
  | y :: u, f, n, i + 1, x, h, hx, ho, hn => by
    obtain ⟨h1, h2⟩ := List.pairwise_cons.1 h
    have hx' : u[i]? = some x := by simpa using hx
    have hat : ∀ z ∈ u, atF (stepU f y) z.f0 = atF f z.f0 := fun z hz => by unfold atF; rw [stepU_at f y (h1 z hz)]
    rw [runU, if_pos (ho 0 y (by omega) rfl), run_first u (stepU f y) (n + 1) i x h2 hx' (fun j z hj hz => by rw [hat z (List.mem_of_getElem? hz)]; exact ho (j + 1) z (by omega) (by simpa using hz)) (by rw [hat x (List.mem_of_getElem? hx')]; exact hn)]
    congr 1; omega
section
variable (l : List Ref) (u : List Upd) (hl : l.length ≤ 1000) (hu : u.length ≤ 1000)
include hl hu
theorem rapply_l2 (out : List Ref) (ho : out.length ≤ 10000000) (i : Nat) (x : Upd) (hx : u[i]? = some x) (r : List Ref × Int × Int) (hyes : inWay out x = true → r = (l, 91, (i : Int))) (hno : inWay out x = false → Ev (fun k => PRefsTell.r09_Apply.l1 k l u out ((i + 1 : Nat) : Int)) r) : ∀ (d j : Nat), out.length - j = d → (∀ y ∈ out.take j, x.f2.size ≠ 0 → bothB x.f0 y.f0 = false) → Ev (fun k => PRefsTell.r09_Apply.l2 k l u out (i : Int) (j : Int)) r := by
  have hil := (List.getElem?_eq_some_iff.1 hx).1
  have hw := wr1 hil (by omega)
  intro d
  induction d with
  | zero =>
    intro j hj hb
    rw [List.take_of_length_le (by omega)] at hb
    have : inWay out x = false := by
      unfold inWay
      by_cases h2 : x.f2.size = 0
      · rw [decide_eq_false (by omega)]; rfl
      · have : out.any (fun y => bothB x.f0 y.f0) = false := by
          rw [← Bool.not_eq_true, List.any_eq_true]
          rintro ⟨y, hy, h⟩
          rw [hb y hy h2] at h; cases h
        rw [this, Bool.and_false]
    refine Ev.step (fun k => ?_) (hno this)
    simp only [PRefsTell.r09_Apply.l2]
    rw [if_neg (by omega), hw]
  | succ d ih =>
    intro j hj hb
    have hjl : j < out.length := by omega
    obtain ⟨y, hy⟩ : ∃ y, out[j]? = some y := ⟨_, List.getElem?_eq_getElem hjl⟩
    have hwj := wr1 hjl (by omega)
    have htk : out.take (j + 1) = out.take j ++ [y] := by rw [List.take_add_one, hy]; rfl
    by_cases h2 : x.f2.size = 0
    · refine Ev.step (fun k => ?_) (ih (j + 1) (by omega) (fun z hz h => absurd h2 h))
      simp only [PRefsTell.r09_Apply.l2]
      rw [if_pos (by omega), if_pos (by omega), if_pos (by omega), rdU hx, if_pos ((toL_nil _).2 h2), hwj]
    · rcases hbb : bothB x.f0 y.f0 with _ | _
      · have hbb' := hbb
        unfold bothB at hbb'
        rw [Bool.or_eq_false_iff] at hbb'
        refine Ev.step (fun k => ?_) (ih (j + 1) (by omega) (fun z hz h => ?_))
        · simp only [PRefsTell.r09_Apply.l2]
          rw [if_pos (by omega), if_pos (by omega), if_pos (by omega), rdU hx, if_neg (fun e => h2 ((toL_nil _).1 e)), if_pos (by omega), rdR hy, rabove_eq, Option.bind_some, hbb'.1, if_neg (by simp), rabove_eq, Option.bind_some, hbb'.2, if_neg (by simp), hwj]
        · rw [htk] at hz
          rcases List.mem_append.1 hz with hz | hz
          · exact hb z hz h
          · obtain rfl := List.mem_singleton.1 hz; exact hbb
      · have hin : inWay out x = true := by
          unfold inWay
          rw [decide_eq_true h2, Bool.true_and]
          exact List.any_eq_true.2 ⟨y, List.mem_of_getElem? hy, hbb⟩
        rw [hyes hin]
        refine Ev.step (f := fun _ => some (l, 91, (i : Int))) (fun k => ?_) (Ev.now _)
        simp only [PRefsTell.r09_Apply.l2]
        rw [if_pos (by omega), if_pos (by omega), if_pos (by omega), rdU hx, if_neg (fun e => h2 ((toL_nil _).1 e)), if_pos (by omega), rdR hy, rabove_eq, Option.bind_some]
        unfold bothB at hbb
        cases ha : aboveB x.f0 y.f0 with
        | true => rw [if_pos rfl]
        | false =>
          rw [ha, Bool.false_or] at hbb
          rw [if_neg (by simp), rabove_eq, Option.bind_some, hbb, if_pos rfl]
theorem rapply_l1 (out : List Ref) (ho : out.length ≤ 10000000) : ∀ (d i : Nat), u.length - i = d → (∀ j x, j < i → u[j]? = some x → inWay out x = false) → Ev (fun k => PRefsTell.r09_Apply.l1 k l u out (i : Int)) (if 0 ≤ fst (inWay out) u then (l, 91, fst (inWay out) u) else if 64 < out.length then (l, 2, 0) else (out, 0, 0)) := by
  intro d
  induction d with
  | zero =>
    intro i hi hok
    have : fst (inWay out) u = -1 := fst_none (fun j x hx => hok j x (by have := (List.getElem?_eq_some_iff.1 hx).1; omega) hx)
    rw [this, if_neg (by omega)]
    refine Ev.step (f := fun _ => some _) (fun k => ?_) (Ev.now _)
    simp only [PRefsTell.r09_Apply.l1]
    rw [if_neg (by omega)]
    by_cases h : 64 < out.length
    · rw [if_pos (by omega), if_pos h]
    · rw [if_neg (by omega), if_neg h]
  | succ d ih =>
    intro i hi hok
    have hil : i < u.length := by omega
    obtain ⟨x, hx⟩ : ∃ x, u[i]? = some x := ⟨_, List.getElem?_eq_getElem hil⟩
    refine Ev.step (f := fun k => PRefsTell.r09_Apply.l2 k l u out (i : Int) ((0 : Nat) : Int)) (fun k => ?_) (rapply_l2 l u hl hu out ho i x hx _ (fun h => ?_) (fun h => ?_) _ 0 rfl (fun y hy => by simp at hy))
    · simp only [PRefsTell.r09_Apply.l1]
      rw [if_pos (by omega)]; rfl
    · have : fst (inWay out) u = (i : Int) := fst_some hx h hok
      rw [this, if_pos (by omega)]
    · exact ih (i + 1) (by omega) (fun j y hj hy => by
        rcases Nat.lt_succ_iff_lt_or_eq.1 hj with hj | rfl
        · exact hok j y hj hy
        · rw [hx] at hy; cases hy; exact h)
theorem rapply_l0 (hr : Rt l) (hg : Good u) : ∀ (d i : Nat), u.length - i = d → i ≤ u.length → (∀ j x, j < i → u[j]? = some x → atF (mapL l) x.f0 = x.f1) → (refsF (newF (u.take i) (mapL l))).length ≤ 2000 * (i + 1) → Ev (fun k => PRefsTell.r09_Apply.l0 k l u (refsF (newF (u.take i) (mapL l))) (i : Int)) (match runU (mapL l) 0 u with
    | .inl i => (l, 92, (i : Int))
    | .inr f => if 0 ≤ fst (inWay (refsF f)) u then (l, 91, fst (inWay (refsF f)) u) else if 64 < (refsF f).length then (l, 2, 0) else (refsF f, 0, 0)) := by
  intro d
  induction d with
  | zero =>
    intro i hi hil hok hlen
    obtain rfl : i = u.length := by omega
    rw [List.take_length] at hlen ⊢
    have hrun : runU (mapL l) 0 u = .inr (newF u (mapL l)) := by
      rcases run_iff u (mapL l) 0 hg.apart with ⟨_, h⟩ | ⟨⟨x, hx, hn⟩, _⟩
      · exact h
      · obtain ⟨j, hj⟩ := List.getElem?_of_mem hx
        exact absurd (hok j x (List.getElem?_eq_some_iff.1 hj).1 hj) hn
    rw [hrun]
    refine Ev.step (fun k => ?_) (rapply_l1 l u hl hu _ (by omega) u.length 0 rfl (fun j x hj => by omega))
    simp only [PRefsTell.r09_Apply.l0]
    rw [if_neg (by omega)]; rfl
  | succ d ih =>
    intro i hi hil hok hlen
    have hiu : i < u.length := by omega
    obtain ⟨x, hx⟩ : ∃ x, u[i]? = some x := ⟨_, List.getElem?_eq_getElem hiu⟩
    have htk : u.take (i + 1) = u.take i ++ [x] := by rw [List.take_add_one, hx]; rfl
    have hfin := newF_fin (mapL_fin l) (u.take i)
    have hw := wr1 hiu (by omega)
    by_cases he : atF (mapL l) x.f0 = x.f1
    · have hap : (u.take i ++ [x]).Pairwise (fun x y => x.f0 ≠ y.f0) := htk ▸ hg.apart.sublist (List.take_sublist (i + 1) u)
      have hstep : insL (·.f0) ⟨x.f0, x.f2⟩ (decide (x.f2.size = 0)) (refsF (newF (u.take i) (mapL l))) = refsF (newF (u.take (i + 1)) (mapL l)) := by
        rw [ins_step hfin x, newF_snoc hap, htk]
      have hlen2 : (refsF (newF (u.take (i + 1)) (mapL l))).length ≤ 2000 * (i + 1 + 1) := by
        have h1 : (refsF (newF (u.take (i + 1)) (mapL l))).length ≤ (refsF (newF (u.take i) (mapL l))).length + 1 := by
          rw [← hstep]
          by_cases h2 : x.f2.size = 0
          · rw [decide_eq_true h2, insL_true]
            exact Nat.le_succ_of_le (List.length_filter_le _ _)
          · rw [decide_eq_false h2]
            exact insL_once _ _ _
        omega
      refine Ev.step (f := fun k => (r09_Find.f k l x.f0).bind fun t148 => if t148.toList = x.f1.toList then (r09_put.f k (refsF (newF (u.take i) (mapL l))) x.f0 x.f2).bind fun t152 => PRefsTell.r09_Apply.l0 k l u t152 ((i + 1 : Nat) : Int) else some (l, 92, (i : Int))) (fun k => ?_) (Ev.bind (rfind_ev l x.f0 (by omega)) ?_)
      · simp only [PRefsTell.r09_Apply.l0]
        rw [if_pos (by omega), if_pos (by omega), rdU hx, hw]
      · rw [findL_at hr.rise.ne, he]
        refine Ev.congr (fun k => if_pos rfl) (Ev.bind (rput_ev' _ _ _ (by omega)) ?_)
        rw [hstep]
        exact ih (i + 1) (by omega) (by omega) (fun j y hj hy => by
          rcases Nat.lt_succ_iff_lt_or_eq.1 hj with hj | rfl
          · exact hok j y hj hy
          · rw [hx] at hy; cases hy; exact he) hlen2
    · have hrun := run_first u (mapL l) 0 i x hg.apart hx hok he
      rw [hrun, Nat.zero_add]
      refine Ev.step (f := fun k => (r09_Find.f k l x.f0).bind fun t148 => if t148.toList = x.f1.toList then (r09_put.f k (refsF (newF (u.take i) (mapL l))) x.f0 x.f2).bind fun t152 => PRefsTell.r09_Apply.l0 k l u t152 ((i + 1 : Nat) : Int) else some (l, 92, (i : Int))) (fun k => ?_) (Ev.bind (rfind_ev l x.f0 (by omega)) ?_)
      · simp only [PRefsTell.r09_Apply.l0]
        rw [if_pos (by omega), if_pos (by omega), rdU hx, hw]
      · rw [findL_at hr.rise.ne]
        exact Ev.congr (fun k => if_neg (fun e => he ((toL_inj _ _).1 e))) (Ev.now _)
theorem rapply_ev : Ev (fun k => PRefsTell.r09_Apply.f k l u) (applyL l u) := by
  unfold PRefsTell.r09_Apply.f
  have hjt : rightB l = false ∨ u.length = 0 ∨ 16 < u.length → Ev (fun k => PRefsTell.r09_Apply.j0 k l u true) (applyL l u) := fun h => by
    rw [applyL, if_pos h]
    exact Ev.step (f := fun _ => some ([], 1, 0)) (fun k => by simp [PRefsTell.r09_Apply.j0]) (Ev.now _)
  refine Ev.bind (rright_ev l (by omega)) ?_
  cases hr : rightB l with
  | false => exact Ev.congr (fun k => if_neg (by simp)) (hjt (.inl hr))
  | true =>
    refine Ev.congr (fun k => if_pos rfl) ?_
    by_cases h1 : (u.length : Int) < 1
    · exact Ev.congr (fun k => if_pos h1) (hjt (.inr (.inl (by omega))))
    · refine Ev.congr (fun k => if_neg h1) ?_
      by_cases h16 : (u.length : Int) > 16
      · rw [decide_eq_true h16]; exact hjt (.inr (.inr (by omega)))
      · rw [decide_eq_false h16]
        have h0 : ¬ (rightB l = false ∨ u.length = 0 ∨ 16 < u.length) := by rw [hr]; rintro (h | h | h) <;> first | cases h | omega
        have hrt := rt_of hr
        refine Ev.step (f := fun k => (r09_wrong.f k u).bind fun t146 => if t146 ≥ 0 then some (l, 1, t146) else PRefsTell.r09_Apply.l0 k l u l 0) (fun k => by simp [PRefsTell.r09_Apply.j0]) (Ev.bind (rwrong_ev u (by omega)) ?_)
        by_cases hw : 0 ≤ wrongI u
        · rw [applyL, if_neg h0, if_pos hw]
          exact Ev.congr (fun k => if_pos hw) (Ev.now _)
        · have hg := (wrong_iff u).1 (Int.not_le.1 hw)
          refine Ev.congr (fun k => if_neg hw) ?_
          have hz : refsF (newF (u.take 0) (mapL l)) = l := by rw [List.take_zero]; exact refsF_map hrt.rise
          have := rapply_l0 l u hl hu hrt hg u.length 0 rfl (Nat.zero_le _) (fun j x hj => by omega) (by rw [hz]; omega)
          rw [hz] at this
          rw [applyL, if_neg h0, if_neg hw]
          exact this
end
end Go.Proofs.YtacgchklilfcaaaGreatDoor.Rf
