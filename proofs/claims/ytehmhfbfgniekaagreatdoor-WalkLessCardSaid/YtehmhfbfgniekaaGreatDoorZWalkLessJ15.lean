/- Joined texts: MBase. No condition but what stands in each. -/
import Derived.Deep.QuietTactic
import Derived.BigQuiet
import Derived.StillTail
import Derived.BigRegion
import Derived.Laws.BitsLemmas
import Derived.RowKit
import Derived.Test.YtehmhfbfgniekaaGreatDoorProg
import Derived.WalkKit
import Derived.KernelRfl
import Derived.Below
import Derived.Laws.Tables
import Derived.Deep.Draws
import Derived.Laws.Rows
import Derived.Laws.StructEq
import Derived.Test.YtehmhfbfgniekaaGreatDoorZWalkLessJ1
namespace Go.Proofs.YtehmhfbfgniekaaGreatDoor.QTail
set_option linter.unusedVariables false
set_option linter.unusedSimpArgs false
open Go
section
variable {P : Program} {ops : Array Oper} {md : Region.Mode} {C : World → Prop}
def wpAnyH (P : Program) (md : Region.Mode) (ops : Array Oper) (C : World → Prop) (n : Nat) (L : Array Bool → Act → Prop) : Nat → Array Bool → Act → Prop
  | 0, listed, a => L listed a
  | f + 1, listed, a =>
    Region.ready md ops listed ≠ [] ∧ ∀ i ∈ Region.ready md ops listed, i < n ∧ qOp P ops C i (wpAnyH P md ops C n L f (listed.setIfInBounds i true)) a
theorem wpAny_of_head {n g : Nat} {L : Array Bool → Act → Prop} {Q' : Exit → Act → World → Prop} (hL : ∀ listed a, L listed a → ∀ w, C w → wpAny P md ops Q' g listed a w) :
    ∀ (f : Nat) (listed : Array Bool) (a : Act) (w : World), C w → wpAnyH P md ops C n L f listed a → wpAny P md ops Q' (f + g) listed a w
  | 0, listed, a, w, hw, h => by rw [Nat.zero_add]; exact hL _ _ h _ hw
  | f + 1, listed, a, w, hw, h => by
    rw [show f + 1 + g = (f + g) + 1 by omega]
    exact ⟨fun h0 => absurd h0 h.1, fun i hi => wpOp_of_qOp hw (fun a' w' hw' h' => wpAny_of_head hL f _ a' w' hw' h') (h.2 i hi).2⟩
theorem first {n i : Nat} {oi : Oper} {v : Value} {L : Array Bool → Act → Prop} (hi : ops[i]? = some oi) (hsel : ∀ (j : Nat) (o : Oper) cs b, ops[j]? = some o → o.op ≠ .select cs b)
    (hs : Region.sinkB md ops n = true) (hc : Region.chainB md ops n = true) (hn : n < ops.size) (hin : i < n)
    (hdone : ∀ listed a, L listed a → ∀ j ∈ Region.ready md ops listed, n ≤ j) :
    ∀ (f : Nat) (listed : Array Bool) (a : Act), HeadInv md ops n listed →
      (∀ j oj, ops[j]? = some oj → j ≠ i → listed.getD j true = false → (∀ e ∈ oj.after, Region.binds md e = true → e.on ≠ i) → oi.apart ops oj = true) →
      i ∈ Region.ready md ops listed → YieldsIn P ops C oi v a →
      wpAnyH P md ops C n L f (listed.setIfInBounds i true) (a.put oi.dst v) → wpAnyH P md ops C n L (f + 1) listed a := by
  intro f
  induction f with
  | zero =>
    intro listed a inv _ hr hy H
    have hun := (mem_ready.1 hr).1
    refine ⟨fun h => (by rw [h] at hr; cases hr), fun j hj => ?_⟩
    have hjn : j < n := by
      rcases Nat.lt_or_ge j n with h | h
      · exact h
      · exact absurd hj (tail_waits hs hc hn inv _ i rfl hin hun j h)
    refine ⟨hjn, ?_⟩
    by_cases hji : j = i
    · subst hji; exact hy.qOp hi H
    · have := hdone _ _ H j (ready_mono hj hji)
      omega
  | succ f ih =>
    intro listed a inv hfree hr hy H
    have hun := (mem_ready.1 hr).1
    refine ⟨fun h => (by rw [h] at hr; cases hr), fun j hj => ?_⟩
    have hjn : j < n := by
      rcases Nat.lt_or_ge j n with h | h
      · exact h
      · exact absurd hj (tail_waits hs hc hn inv _ i rfl hin hun j h)
    refine ⟨hjn, ?_⟩
    by_cases hji : j = i
    · subst hji; exact hy.qOp hi H
    · have h1 := (H.2 j (ready_mono hj hji)).2
      obtain ⟨hjun, oj, hoj, hall⟩ := mem_ready.1 hj
      have hnot : ∀ e ∈ oj.after, Region.binds md e = true → e.on ≠ i := fun e he hb heq => by
        have h1 := hall e he hb
        rw [heq, getD_both hun] at h1
        cases h1
      have h2 := qOp_put hoj (hfree j oj hoj hji hjun hnot) (fun cs b => hsel i oi cs b hi) (fun cs b => hsel j oj cs b hoj) hy h1
      have hfree' : ∀ k ok, ops[k]? = some ok → k ≠ i → (listed.setIfInBounds j true).getD k true = false →
          (∀ e ∈ ok.after, Region.binds md e = true → e.on ≠ i) → oi.apart ops ok = true := fun k ok hk hki hun hno => by
        refine hfree k ok hk hki ?_ hno
        by_cases hjk : j = k
        · subst hjk; exact hjun
        · rw [getD_set_ne true hjk] at hun; exact hun
      refine qOp_mono (fun a' h3 => ih (listed.setIfInBounds j true) a' (inv.set hj hjn) hfree' (ready_mono hr (Ne.symm hji)) h3.1 ?_) h2
      rw [Array.setIfInBounds_comm _ _ hji]
      exact h3.2
theorem lex {n g : Nat} {Lq : Act → Prop} (hsel : Region.noSelect ops = true) (hs : Region.sinkB md ops n = true) (hc : Region.chainB md ops n = true) (hn : n < ops.size) :
    ∀ (l : List Oper) (k : Nat) (listed : Array Bool) (a : Act), (∀ j, j < l.length → l[j]? = ops[k + j]?) → k + l.length = n → HeadInv md ops n listed →
    Region.lexHead md ops g l.length k listed = true → wpQuiet P ops C Lq l a →
    wpAnyH P md ops C n (fun listed' a' => Region.seqB md ops g n listed' = true ∧ Lq a') l.length listed a
  | [], k, listed, a, _, hk, _, hB, h => by
    have : k = n := by simpa using hk
    subst this
    exact ⟨by simpa [Region.lexHead] using hB, h⟩
  | o :: l, k, listed, a, hl, hk, inv, hB, h => by
    have h0 : ops[k]? = some o := by simpa using (hl 0 (by simp)).symm
    simp only [List.length_cons, Region.lexHead, Bool.and_eq_true] at hB
    obtain ⟨⟨hr, hf⟩, hB'⟩ := hB
    have hkn : k < n := by simp only [List.length_cons] at hk; omega
    have hr' : k ∈ Region.ready md ops listed := by simpa using hr
    have hst : qOp P ops C k (wpQuiet P ops C Lq l) a := by unfold qOp; simp only [h0]; exact h
    obtain ⟨v, hy, hK⟩ := yieldsIn_of_qOp h0 hst
    exact first h0 (Region.noSelect_spec hsel) hs hc hn hkn (fun listed' a' hL => seqB_ready hL.1) l.length listed a inv (Region.free_spec h0 hf) hr' hy
      (lex hsel hs hc hn l (k + 1) _ _ (fun j hj => by have := hl (j + 1) (by simp; omega); simpa [Nat.add_assoc, Nat.add_comm 1 j] using this) (by simp only [List.length_cons] at hk; omega) (inv.set hr' hkn) hB' hK)
theorem wp_region {id : Nat} {Q : Exit → Act → World → Prop} {a : Act} {w : World} {l : List Oper} (n : Nat) (hm : P.follows .mixedOrders = true) (hB : Region.lexTailB .any l.toArray n = true)
    (hC : C { w with drawn := w.drawn + 1 })
    (h : wpQuiet P l.toArray C (fun a' => ∀ w', C w' → wpList P l.toArray Q (l.drop n) a' w') (l.take n) a) : (Code.region id l.toArray true).wp P Q a w := by
  simp only [Region.lexTailB, Bool.and_eq_true, decide_eq_true_eq] at hB
  obtain ⟨⟨⟨⟨hsel, hn⟩, hs⟩, hc⟩, hlex⟩ := hB
  have hn' : n < l.length := by simpa using hn
  have htl : (l.take n).length = n := by simp; omega
  have hdl : (l.drop n).length = l.toArray.size - n := by simp
  have inv0 : HeadInv .any l.toArray n (Array.replicate l.toArray.size false) :=
    ⟨by simp, fun j oj _ hl => (by rw [getD_replicate_false] at hl; cases hl), fun t _ ht => getD_in (by simpa using ht) (getD_replicate_false _ _)⟩
  have H := lex (md := .any) (g := l.toArray.size - n) hsel hs hc hn (l.take n) 0 _ a (fun j hj => by
    have hj' : j < n := by rw [htl] at hj; exact hj
    simp [hj']) (by simpa using htl) inv0 (by rw [htl]; exact hlex) h
  refine wp_region_any hm ?_
  have := wpAny_of_head (Q' := Q) (g := l.toArray.size - n) (fun listed a' hL w' hw' => by
    have := wpAny_of_seq (md := .any) (Q' := Q) (l.drop n) n listed a' w' (fun j => by simp [List.getElem?_drop]) (by rw [hdl]; exact hL.1) (hL.2 w' hw')
    rwa [hdl] at this) _ _ _ _ hC H
  rw [htl, show n + (l.toArray.size - n) = l.toArray.size by omega] at this
  exact this
theorem wp_region_lit {id : Nat} {Q : Exit → Act → World → Prop} {a : Act} {w : World} {l : List Oper} (n : Nat) (hm : P.follows .mixedOrders = true) (hB : Region.lexTailB .any l.toArray n = true)
    (h : wpQuiet P l.toArray (fun w' => ∃ m, w' = w.drewN m) (fun a' => ∀ w', (∃ m, w' = w.drewN m) → wpList P l.toArray Q (l.drop n) a' w') (l.take n) a) : (Code.region id l.toArray true).wp P Q a w :=
  wp_region (C := fun w' => ∃ m, w' = w.drewN m) n hm hB ⟨1, rfl⟩ h
def sinkP (md : Region.Mode) (ops : Array Oper) (p n : Nat) : Bool :=
  (List.range n).all fun i => decide (i < p) || (List.range (n + 1)).any fun j => decide (i < j) && Region.waitsFor md ops j i
structure HeadP (md : Region.Mode) (ops : Array Oper) (p n : Nat) (listed : Array Bool) : Prop extends HeadInv md ops n listed where
  pre : ∀ i, i < p → listed.getD i true = true
theorem HeadP.set {p n i : Nat} {listed : Array Bool} (inv : HeadP md ops p n listed) (hi : i ∈ Region.ready md ops listed) (hin : i < n) : HeadP md ops p n (listed.setIfInBounds i true) :=
  ⟨inv.toHeadInv.set hi hin, fun j hj => by
    by_cases h : i = j
    · subst h
      have := inv.pre i hj
      exact getD_set_both this
    · rw [getD_set_ne true h]; exact inv.pre j hj⟩
where
  getD_set_both {i : Nat} {listed : Array Bool} (h : listed.getD i true = true) : (listed.setIfInBounds i true).getD i true = true := by
    rcases Nat.lt_or_ge i listed.size with h' | h'
    · simp [h']
    · simp [Array.getElem?_eq_none h']
theorem tail_waitsP {p n : Nat} {listed : Array Bool} (hs : sinkP md ops p n = true) (hc : Region.chainB md ops n = true) (hn : n < ops.size) (inv : HeadP md ops p n listed) :
    ∀ (d i : Nat), n - i = d → i < n → listed.getD i true = false → ∀ t, n ≤ t → t ∉ Region.ready md ops listed := by
  intro d
  induction d using Nat.strongRecOn with
  | _ d ih =>
    intro i hd hi hun t ht hr
    obtain ⟨_, ot, hot, hall⟩ := mem_ready.1 hr
    have htlt : t < ops.size := (Array.getElem?_eq_some_iff.1 hot).1
    by_cases htn : t = n
    · subst htn
      have h1 := List.all_eq_true.1 hs i (List.mem_range.2 hi)
      simp only [Bool.or_eq_true, decide_eq_true_eq] at h1
      rcases h1 with h1 | h1
      · have := inv.pre i h1
        rw [this] at hun
        cases hun
      obtain ⟨j, hj, hj2⟩ := List.any_eq_true.1 h1
      simp only [Bool.and_eq_true, decide_eq_true_eq] at hj2
      obtain ⟨oj, hoj, e, he, hb, hon⟩ := Region.waitsFor_spec hj2.2
      have hjle : j ≤ t := by have := List.mem_range.1 hj; omega
      by_cases hjt : j = t
      · subst hjt
        have : oj = ot := Option.some.inj (hoj.symm.trans hot)
        subst this
        have h2 := hall e he hb
        rw [hon, getD_both hun] at h2
        cases h2
      · cases hl : listed.getD j false with
        | true =>
          have h2 := inv.closed j oj hoj hl e he hb
          rw [hon, getD_both hun] at h2
          cases h2
        | false =>
          have hjs : j < listed.size := by rw [inv.size]; omega
          exact ih (t - j) (by omega) j rfl (by omega) (getD_in hjs hl) t (Nat.le_refl _) hr
    · have h1 := List.all_eq_true.1 hc t (List.mem_range.2 htlt)
      simp only [Bool.or_eq_true, decide_eq_true_eq] at h1
      rcases h1 with h1 | h1
      · omega
      · obtain ⟨o', ho', e, he, hb, hon⟩ := Region.waitsFor_spec h1
        have : o' = ot := Option.some.inj (ho'.symm.trans hot)
        subst this
        have h2 := hall e he hb
        rw [hon, getD_both (inv.tail (t - 1) (by omega) (by omega))] at h2
        cases h2
theorem firstP {p n i : Nat} {oi : Oper} {v : Value} {L : Array Bool → Act → Prop} (hi : ops[i]? = some oi) (hsel : ∀ (j : Nat) (o : Oper) cs b, ops[j]? = some o → o.op ≠ .select cs b)
    (hs : sinkP md ops p n = true) (hc : Region.chainB md ops n = true) (hn : n < ops.size) (hin : i < n)
    (hdone : ∀ listed a, L listed a → ∀ j ∈ Region.ready md ops listed, n ≤ j) :
    ∀ (f : Nat) (listed : Array Bool) (a : Act), HeadP md ops p n listed →
      (∀ j oj, ops[j]? = some oj → j ≠ i → listed.getD j true = false → (∀ e ∈ oj.after, Region.binds md e = true → e.on ≠ i) → oi.apart ops oj = true) →
      i ∈ Region.ready md ops listed → YieldsIn P ops C oi v a →
      wpAnyH P md ops C n L f (listed.setIfInBounds i true) (a.put oi.dst v) → wpAnyH P md ops C n L (f + 1) listed a := by
  intro f
  induction f with
  | zero =>
    intro listed a inv _ hr hy H
    have hun := (mem_ready.1 hr).1
    refine ⟨fun h => (by rw [h] at hr; cases hr), fun j hj => ?_⟩
    have hjn : j < n := by
      rcases Nat.lt_or_ge j n with h | h
      · exact h
      · exact absurd hj (tail_waitsP hs hc hn inv _ i rfl hin hun j h)
    refine ⟨hjn, ?_⟩
    by_cases hji : j = i
    · subst hji; exact hy.qOp hi H
    · have := hdone _ _ H j (ready_mono hj hji)
      omega
  | succ f ih =>
    intro listed a inv hfree hr hy H
    have hun := (mem_ready.1 hr).1
    refine ⟨fun h => (by rw [h] at hr; cases hr), fun j hj => ?_⟩
    have hjn : j < n := by
      rcases Nat.lt_or_ge j n with h | h
      · exact h
      · exact absurd hj (tail_waitsP hs hc hn inv _ i rfl hin hun j h)
    refine ⟨hjn, ?_⟩
    by_cases hji : j = i
    · subst hji; exact hy.qOp hi H
    · have h1 := (H.2 j (ready_mono hj hji)).2
      obtain ⟨hjun, oj, hoj, hall⟩ := mem_ready.1 hj
      have hnot : ∀ e ∈ oj.after, Region.binds md e = true → e.on ≠ i := fun e he hb heq => by
        have h1 := hall e he hb
        rw [heq, getD_both hun] at h1
        cases h1
      have h2 := qOp_put hoj (hfree j oj hoj hji hjun hnot) (fun cs b => hsel i oi cs b hi) (fun cs b => hsel j oj cs b hoj) hy h1
      have hfree' : ∀ k ok, ops[k]? = some ok → k ≠ i → (listed.setIfInBounds j true).getD k true = false →
          (∀ e ∈ ok.after, Region.binds md e = true → e.on ≠ i) → oi.apart ops ok = true := fun k ok hk hki hun hno => by
        refine hfree k ok hk hki ?_ hno
        by_cases hjk : j = k
        · subst hjk; exact hjun
        · rw [getD_set_ne true hjk] at hun; exact hun
      refine qOp_mono (fun a' h3 => ih (listed.setIfInBounds j true) a' (inv.set hj hjn) hfree' (ready_mono hr (Ne.symm hji)) h3.1 ?_) h2
      rw [Array.setIfInBounds_comm _ _ hji]
      exact h3.2
theorem lexP {p n g : Nat} {Lq : Act → Prop} (hsel : Region.noSelect ops = true) (hs : sinkP md ops p n = true) (hc : Region.chainB md ops n = true) (hn : n < ops.size) :
    ∀ (l : List Oper) (k : Nat) (listed : Array Bool) (a : Act), (∀ j, j < l.length → l[j]? = ops[k + j]?) → k + l.length = n → HeadP md ops p n listed →
    Region.lexHead md ops g l.length k listed = true → wpQuiet P ops C Lq l a →
    wpAnyH P md ops C n (fun listed' a' => Region.seqB md ops g n listed' = true ∧ Lq a') l.length listed a
  | [], k, listed, a, _, hk, _, hB, h => by
    have : k = n := by simpa using hk
    subst this
    exact ⟨by simpa [Region.lexHead] using hB, h⟩
  | o :: l, k, listed, a, hl, hk, inv, hB, h => by
    have h0 : ops[k]? = some o := by simpa using (hl 0 (by simp)).symm
    simp only [List.length_cons, Region.lexHead, Bool.and_eq_true] at hB
    obtain ⟨⟨hr, hf⟩, hB'⟩ := hB
    have hkn : k < n := by simp only [List.length_cons] at hk; omega
    have hr' : k ∈ Region.ready md ops listed := by simpa using hr
    have hst : qOp P ops C k (wpQuiet P ops C Lq l) a := by unfold qOp; simp only [h0]; exact h
    obtain ⟨v, hy, hK⟩ := yieldsIn_of_qOp h0 hst
    exact firstP h0 (Region.noSelect_spec hsel) hs hc hn hkn (fun listed' a' hL => seqB_ready hL.1) l.length listed a inv (Region.free_spec h0 hf) hr' hy
      (lexP hsel hs hc hn l (k + 1) _ _ (fun j hj => by have := hl (j + 1) (by simp; omega); simpa [Nat.add_assoc, Nat.add_comm 1 j] using this) (by simp only [List.length_cons] at hk; omega) (inv.set hr' hkn) hB' hK)
def pre : List Oper → Act → Act
  | [], a => a
  | o :: l, a => pre l (match o.op with | .move x => a.put o.dst (a.eval x) | _ => a)
def preB (md : Region.Mode) (ops : Array Oper) : List Oper → Nat → Array Bool → Bool
  | [], _, _ => true
  | o :: l, k, listed => (match o.op, o.guard with | .move _, none => true | _, _ => false) && (Region.ready md ops listed).contains k && Region.free md ops listed k && preB md ops l (k + 1) (listed.setIfInBounds k true)
def after : Nat → Nat → Array Bool → Array Bool
  | 0, _, listed => listed
  | p + 1, k, listed => after p (k + 1) (listed.setIfInBounds k true)
theorem wpAny_pre {Q : Exit → Act → World → Prop} (hsel : Region.noSelect ops = true) (hQ : ∀ c a d v w, Q (.panic c) (Act.put a d v) w → Q (.panic c) a w) (fuel : Nat) (w : World) :
    ∀ (l : List Oper) (k : Nat) (listed : Array Bool) (a : Act), (∀ j, j < l.length → l[j]? = ops[k + j]?) → preB md ops l k listed = true →
      wpAny P md ops Q fuel (after l.length k listed) (pre l a) w → wpAny P md ops Q (fuel + l.length) listed a w
  | [], _, _, _, _, _, h => h
  | o :: l, k, listed, a, hl, hB, h => by
    have h0 : ops[k]? = some o := by simpa using (hl 0 (by simp)).symm
    simp only [preB, Bool.and_eq_true] at hB
    obtain ⟨⟨⟨hm, hr⟩, hf⟩, hB'⟩ := hB
    obtain ⟨x, hop, hg⟩ : ∃ x, o.op = .move x ∧ o.guard = none := by
      revert hm
      cases ho : o.op <;> cases hg : o.guard <;> simp
    have hy : Yields P ops o (a.eval x) a := .inl ⟨by simp [Region.wanted, hg], fun w => BigFrame.run_move x hop w⟩
    refine wpAny_take (v := a.eval x) h0 hsel hf hr (fun c a' w' => hQ c a' _ _ w') hy ?_
    refine wpAny_pre hsel hQ fuel w l (k + 1) _ _ (fun j hj => by have := hl (j + 1) (by simp; omega); simpa [Nat.add_assoc, Nat.add_comm 1 j] using this) hB' ?_
    simpa [after, pre, hop] using h
def preTailB (md : Region.Mode) (ops : Array Oper) (p n : Nat) : Bool :=
  Region.noSelect ops && decide (n < ops.size) && decide (p ≤ n) && sinkP md ops p n && Region.chainB md ops n && preB md ops (ops.toList.take p) 0 (Array.replicate ops.size false) &&
    Region.lexHead md ops (ops.size - n) (n - p) p (after p 0 (Array.replicate ops.size false)) &&
    headB md ops n (after p 0 (Array.replicate ops.size false)) && (List.range p).all (fun i => (after p 0 (Array.replicate ops.size false)).getD i true)
where
  headB (md : Region.Mode) (ops : Array Oper) (n : Nat) (listed : Array Bool) : Bool :=
    decide (listed.size = ops.size) &&
    (List.range ops.size).all (fun j => !listed.getD j false || match ops[j]? with | some oj => oj.after.all (fun e => !Region.binds md e || listed.getD e.on false) | none => true) &&
    (List.range ops.size).all (fun t => decide (t < n) || !listed.getD t true)
theorem headB_spec {n : Nat} {listed : Array Bool} (h : preTailB.headB md ops n listed = true) : HeadInv md ops n listed := by
  simp only [preTailB.headB, Bool.and_eq_true, decide_eq_true_eq, List.all_eq_true, List.mem_range, Bool.or_eq_true, Bool.not_eq_true'] at h
  obtain ⟨⟨h1, h2⟩, h3⟩ := h
  refine ⟨h1, fun j oj hj hl e he hb => ?_, fun t ht ht' => ?_⟩
  · have hjs := (Array.getElem?_eq_some_iff.1 hj).1
    have := h2 j hjs
    rw [hl] at this
    simp only [Bool.true_eq_false, false_or, hj] at this
    have h4 := Array.all_eq_true'.1 this e he
    simpa [hb] using h4
  · rcases h3 t ht' with h | h
    · omega
    · exact h
theorem wp_region_pre {id : Nat} {Q : Exit → Act → World → Prop} {a : Act} {w : World} {l : List Oper} (p n : Nat) (hm : P.follows .mixedOrders = true) (hB : preTailB .any l.toArray p n = true)
    (hQ : ∀ c a d v w, Q (.panic c) (Act.put a d v) w → Q (.panic c) a w)
    (h : wpQuiet P l.toArray (fun w' => ∃ m, w' = w.drewN m) (fun a' => ∀ w', (∃ m, w' = w.drewN m) → wpList P l.toArray Q (l.drop n) a' w') ((l.take n).drop p) (pre (l.take p) a)) : (Code.region id l.toArray true).wp P Q a w := by
  simp only [preTailB, Bool.and_eq_true, decide_eq_true_eq] at hB
  obtain ⟨⟨⟨⟨⟨⟨⟨⟨hsel, hn⟩, hpn⟩, hs⟩, hc⟩, hpre⟩, hlex⟩, hhead⟩, hp⟩ := hB
  have hn' : n < l.length := by simpa using hn
  have htl : ((l.take n).drop p).length = n - p := by simp; omega
  have hdl : (l.drop n).length = l.toArray.size - n := by simp
  have inv0 : HeadP .any l.toArray p n (after p 0 (Array.replicate l.toArray.size false)) :=
    ⟨headB_spec hhead, fun i hi => List.all_eq_true.1 hp i (List.mem_range.2 hi)⟩
  have H := lexP (md := .any) (g := l.toArray.size - n) hsel hs hc hn ((l.take n).drop p) p _ (pre (l.take p) a) (fun j hj => by
    have hj' : j < n - p := by rw [htl] at hj; exact hj
    rw [List.getElem?_drop, List.getElem?_take]
    have : p + j < n := by omega
    simp [this]) (by rw [htl]; omega) inv0 (by rw [htl]; exact hlex) h
  refine wp_region_any hm ?_
  have h1 := wpAny_of_head (Q' := Q) (g := l.toArray.size - n) (fun listed a' hL w' hw' => by
    have := wpAny_of_seq (md := .any) (Q' := Q) (l.drop n) n listed a' w' (fun j => by simp [List.getElem?_drop]) (by rw [hdl]; exact hL.1) (hL.2 w' hw')
    rwa [hdl] at this) _ _ _ _ (⟨1, rfl⟩ : ∃ m, ({ w with drawn := w.drawn + 1 } : World) = w.drewN m) H
  have hpl : (l.take p).length = p := by simp; omega
  have h2 := wpAny_pre (P := P) (md := .any) hsel hQ _ _ (l.take p) 0 (Array.replicate l.toArray.size false) a (fun j hj => by
    have hj' : j < p := by rw [hpl] at hj; exact hj
    simp [hj']) (by simpa using hpre) (by rw [hpl]; exact h1)
  rw [hpl, htl, show n - p + (l.toArray.size - n) + p = l.toArray.size by omega] at h2
  exact h2
end
end Go.Proofs.YtehmhfbfgniekaaGreatDoor.QTail
namespace Go.Proofs.YtehmhfbfgniekaaGreatDoor.Dg
set_option linter.unusedVariables false
set_option linter.unusedSimpArgs false
open Go.RowKit
def u (x : BitVec 32) : Int := (x.toNat : Int)
theorem u_nonneg (x : BitVec 32) : 0 ≤ u x := Int.natCast_nonneg _
theorem u_lt (x : BitVec 32) : u x < 4294967296 := by unfold u; have := x.isLt; omega
theorem u_ofInt (x : BitVec 32) : BitVec.ofInt 32 (u x) = x := by unfold u; simp
theorem wrap_u (n : Int) : IntKind.u32.wrap n = u (BitVec.ofInt 32 n) := by
  rw [IntKind.wrap_u32]; unfold u; rw [BitVec.toNat_ofInt]
  omega
theorem mod_u (n : Int) : n % 4294967296 = u (BitVec.ofInt 32 n) := by rw [← IntKind.wrap_u32, wrap_u]
theorem u_add (x y : BitVec 32) : IntKind.u32.wrap (u x + u y) = u (x + y) := by
  rw [wrap_u, BitVec.ofInt_add, u_ofInt, u_ofInt]
theorem u_add' (x y : BitVec 32) : (u x + u y) % 4294967296 = u (x + y) := by rw [← IntKind.wrap_u32, u_add]
theorem u_bits (op : BinOp) (x y : BitVec 32) (f : BitVec 32 → BitVec 32 → BitVec 32) (h : ∀ a b : Int, bits op .u32 a b = IntKind.u32.wrap (f (BitVec.ofInt 32 a) (BitVec.ofInt 32 b)).toNat) :
    bits op .u32 (u x) (u y) = u (f x y) := by
  rw [h, u_ofInt, u_ofInt, IntKind.wrap_u32]; unfold u
  have := (f x y).isLt
  omega
theorem u_xor (x y : BitVec 32) : bits .xor .u32 (u x) (u y) = u (x ^^^ y) := u_bits _ _ _ _ (fun _ _ => rfl)
theorem u_and (x y : BitVec 32) : bits .and .u32 (u x) (u y) = u (x &&& y) := u_bits _ _ _ _ (fun _ _ => rfl)
theorem u_or (x y : BitVec 32) : bits .or .u32 (u x) (u y) = u (x ||| y) := u_bits _ _ _ _ (fun _ _ => rfl)
theorem u_shr (x : BitVec 32) (n : Nat) : u x / (2 ^ n : Nat) = u (x >>> n) := by
  unfold u; rw [BitVec.toNat_ushiftRight, Nat.shiftRight_eq_div_pow]; simp
theorem u_shl (x : BitVec 32) (n : Nat) : IntKind.u32.wrap (u x * (2 ^ n : Nat)) = u (x <<< n) := by
  rw [IntKind.wrap_u32]; unfold u; rw [BitVec.toNat_shiftLeft, Nat.shiftLeft_eq]; omega
theorem u_shl' (x : BitVec 32) (n : Nat) : (u x * (2 ^ n : Nat)) % 4294967296 = u (x <<< n) := by rw [← IntKind.wrap_u32, u_shl]
theorem u_shlc (x : BitVec 32) (n : Nat) (c : Int) (h : c = (2 ^ n : Nat)) : u x * c % 4294967296 = u (x <<< n) := by subst h; exact u_shl' x n
theorem u_shrc (x : BitVec 32) (n : Nat) (c : Int) (h : c = (2 ^ n : Nat)) : u x / c = u (x >>> n) := by subst h; exact u_shr x n
def rr (x : BitVec 32) (n : Nat) : BitVec 32 := x <<< (32 - n) ||| x >>> n
end Go.Proofs.YtehmhfbfgniekaaGreatDoor.Dg
namespace Go.Proofs.YtehmhfbfgniekaaGreatDoor.Dg
set_option linter.unusedVariables false
set_option linter.unusedSimpArgs false
open Go.RowKit
theorem rr2 (x : BitVec 32) : bits .or .u32 (u x * 1073741824 % 4294967296) (u x / 4) = u (rr x 2) := by
  rw [u_shlc x 30 1073741824 (by decide), u_shrc x 2 4 (by decide), u_or]; rfl
theorem right2 (x : BitVec 32) (w : World) :
    Calls Tryz.prog 122 #[.int .u32 (u x), .int .i64 2] w fun e w' => e = .returned (.int .u32 (u (rr x 2))) ∧ w' = w := by
  have h0 := u_nonneg x
  have h1 := u_lt x
  have e1 : bits .and .u64 (IntKind.u64.wrap (-2)) 31 = 30 := by decide
  go_enter Tryz.func122, Tryz.ntmps122
  go_wp2
  go_ret
  exact ⟨congrArg (fun z => Ending.returned (.int .u32 z)) (rr2 x), rfl⟩
theorem rr6 (x : BitVec 32) : bits .or .u32 (u x * 67108864 % 4294967296) (u x / 64) = u (rr x 6) := by
  rw [u_shlc x 26 67108864 (by decide), u_shrc x 6 64 (by decide), u_or]; rfl
theorem right6 (x : BitVec 32) (w : World) :
    Calls Tryz.prog 122 #[.int .u32 (u x), .int .i64 6] w fun e w' => e = .returned (.int .u32 (u (rr x 6))) ∧ w' = w := by
  have h0 := u_nonneg x
  have h1 := u_lt x
  have e1 : bits .and .u64 (IntKind.u64.wrap (-6)) 31 = 26 := by decide
  go_enter Tryz.func122, Tryz.ntmps122
  go_wp2
  go_ret
  exact ⟨congrArg (fun z => Ending.returned (.int .u32 z)) (rr6 x), rfl⟩
theorem rr7 (x : BitVec 32) : bits .or .u32 (u x * 33554432 % 4294967296) (u x / 128) = u (rr x 7) := by
  rw [u_shlc x 25 33554432 (by decide), u_shrc x 7 128 (by decide), u_or]; rfl
theorem right7 (x : BitVec 32) (w : World) :
    Calls Tryz.prog 122 #[.int .u32 (u x), .int .i64 7] w fun e w' => e = .returned (.int .u32 (u (rr x 7))) ∧ w' = w := by
  have h0 := u_nonneg x
  have h1 := u_lt x
  have e1 : bits .and .u64 (IntKind.u64.wrap (-7)) 31 = 25 := by decide
  go_enter Tryz.func122, Tryz.ntmps122
  go_wp2
  go_ret
  exact ⟨congrArg (fun z => Ending.returned (.int .u32 z)) (rr7 x), rfl⟩
theorem rr11 (x : BitVec 32) : bits .or .u32 (u x * 2097152 % 4294967296) (u x / 2048) = u (rr x 11) := by
  rw [u_shlc x 21 2097152 (by decide), u_shrc x 11 2048 (by decide), u_or]; rfl
theorem right11 (x : BitVec 32) (w : World) :
    Calls Tryz.prog 122 #[.int .u32 (u x), .int .i64 11] w fun e w' => e = .returned (.int .u32 (u (rr x 11))) ∧ w' = w := by
  have h0 := u_nonneg x
  have h1 := u_lt x
  have e1 : bits .and .u64 (IntKind.u64.wrap (-11)) 31 = 21 := by decide
  go_enter Tryz.func122, Tryz.ntmps122
  go_wp2
  go_ret
  exact ⟨congrArg (fun z => Ending.returned (.int .u32 z)) (rr11 x), rfl⟩
theorem rr13 (x : BitVec 32) : bits .or .u32 (u x * 524288 % 4294967296) (u x / 8192) = u (rr x 13) := by
  rw [u_shlc x 19 524288 (by decide), u_shrc x 13 8192 (by decide), u_or]; rfl
theorem right13 (x : BitVec 32) (w : World) :
    Calls Tryz.prog 122 #[.int .u32 (u x), .int .i64 13] w fun e w' => e = .returned (.int .u32 (u (rr x 13))) ∧ w' = w := by
  have h0 := u_nonneg x
  have h1 := u_lt x
  have e1 : bits .and .u64 (IntKind.u64.wrap (-13)) 31 = 19 := by decide
  go_enter Tryz.func122, Tryz.ntmps122
  go_wp2
  go_ret
  exact ⟨congrArg (fun z => Ending.returned (.int .u32 z)) (rr13 x), rfl⟩
theorem rr17 (x : BitVec 32) : bits .or .u32 (u x * 32768 % 4294967296) (u x / 131072) = u (rr x 17) := by
  rw [u_shlc x 15 32768 (by decide), u_shrc x 17 131072 (by decide), u_or]; rfl
theorem right17 (x : BitVec 32) (w : World) :
    Calls Tryz.prog 122 #[.int .u32 (u x), .int .i64 17] w fun e w' => e = .returned (.int .u32 (u (rr x 17))) ∧ w' = w := by
  have h0 := u_nonneg x
  have h1 := u_lt x
  have e1 : bits .and .u64 (IntKind.u64.wrap (-17)) 31 = 15 := by decide
  go_enter Tryz.func122, Tryz.ntmps122
  go_wp2
  go_ret
  exact ⟨congrArg (fun z => Ending.returned (.int .u32 z)) (rr17 x), rfl⟩
theorem rr18 (x : BitVec 32) : bits .or .u32 (u x * 16384 % 4294967296) (u x / 262144) = u (rr x 18) := by
  rw [u_shlc x 14 16384 (by decide), u_shrc x 18 262144 (by decide), u_or]; rfl
theorem right18 (x : BitVec 32) (w : World) :
    Calls Tryz.prog 122 #[.int .u32 (u x), .int .i64 18] w fun e w' => e = .returned (.int .u32 (u (rr x 18))) ∧ w' = w := by
  have h0 := u_nonneg x
  have h1 := u_lt x
  have e1 : bits .and .u64 (IntKind.u64.wrap (-18)) 31 = 14 := by decide
  go_enter Tryz.func122, Tryz.ntmps122
  go_wp2
  go_ret
  exact ⟨congrArg (fun z => Ending.returned (.int .u32 z)) (rr18 x), rfl⟩
theorem rr19 (x : BitVec 32) : bits .or .u32 (u x * 8192 % 4294967296) (u x / 524288) = u (rr x 19) := by
  rw [u_shlc x 13 8192 (by decide), u_shrc x 19 524288 (by decide), u_or]; rfl
theorem right19 (x : BitVec 32) (w : World) :
    Calls Tryz.prog 122 #[.int .u32 (u x), .int .i64 19] w fun e w' => e = .returned (.int .u32 (u (rr x 19))) ∧ w' = w := by
  have h0 := u_nonneg x
  have h1 := u_lt x
  have e1 : bits .and .u64 (IntKind.u64.wrap (-19)) 31 = 13 := by decide
  go_enter Tryz.func122, Tryz.ntmps122
  go_wp2
  go_ret
  exact ⟨congrArg (fun z => Ending.returned (.int .u32 z)) (rr19 x), rfl⟩
theorem rr22 (x : BitVec 32) : bits .or .u32 (u x * 1024 % 4294967296) (u x / 4194304) = u (rr x 22) := by
  rw [u_shlc x 10 1024 (by decide), u_shrc x 22 4194304 (by decide), u_or]; rfl
theorem right22 (x : BitVec 32) (w : World) :
    Calls Tryz.prog 122 #[.int .u32 (u x), .int .i64 22] w fun e w' => e = .returned (.int .u32 (u (rr x 22))) ∧ w' = w := by
  have h0 := u_nonneg x
  have h1 := u_lt x
  have e1 : bits .and .u64 (IntKind.u64.wrap (-22)) 31 = 10 := by decide
  go_enter Tryz.func122, Tryz.ntmps122
  go_wp2
  go_ret
  exact ⟨congrArg (fun z => Ending.returned (.int .u32 z)) (rr22 x), rfl⟩
theorem rr25 (x : BitVec 32) : bits .or .u32 (u x * 128 % 4294967296) (u x / 33554432) = u (rr x 25) := by
  rw [u_shlc x 7 128 (by decide), u_shrc x 25 33554432 (by decide), u_or]; rfl
theorem right25 (x : BitVec 32) (w : World) :
    Calls Tryz.prog 122 #[.int .u32 (u x), .int .i64 25] w fun e w' => e = .returned (.int .u32 (u (rr x 25))) ∧ w' = w := by
  have h0 := u_nonneg x
  have h1 := u_lt x
  have e1 : bits .and .u64 (IntKind.u64.wrap (-25)) 31 = 7 := by decide
  go_enter Tryz.func122, Tryz.ntmps122
  go_wp2
  go_ret
  exact ⟨congrArg (fun z => Ending.returned (.int .u32 z)) (rr25 x), rfl⟩
theorem right_any (x : BitVec 32) (n : Int) (w : World) (h : n ∈ [(2 : Int), 6, 7, 11, 13, 17, 18, 19, 22, 25]) :
    Calls Tryz.prog 122 #[.int .u32 (u x), .int .i64 n] w fun e w' => e = .returned (.int .u32 (u (rr x n.toNat))) ∧ w' = w := by
  simp only [List.mem_cons, List.not_mem_nil, or_false] at h
  rcases h with rfl | rfl | rfl | rfl | rfl | rfl | rfl | rfl | rfl | rfl
  · exact right2 x w
  · exact right6 x w
  · exact right7 x w
  · exact right11 x w
  · exact right13 x w
  · exact right17 x w
  · exact right18 x w
  · exact right19 x w
  · exact right22 x w
  · exact right25 x w
end Go.Proofs.YtehmhfbfgniekaaGreatDoor.Dg
namespace Go.Proofs.YtehmhfbfgniekaaGreatDoor.Blk
set_option linter.unusedVariables false
set_option linter.unusedSimpArgs false
open Go Go.RowKit
structure As (p : Prop) : Prop where
  out : p
def Row (w : World) (b T : Nat) (xs : List Value) : Prop := w.heap[b]? = some (.cells xs.toArray T (0, 0))
variable {w w' : World} {b T : Nat} {xs : List Value}
theorem Row.lt (h : Row w b T xs) : b < w.heap.size := (Array.getElem?_eq_some_iff.1 h).1
theorem Row.cell (h : Row w b T xs) {i : Nat} {v : Value} (hi : xs[i]? = some v) : w.cell? ⟨b, i, none⟩ = some v := by
  unfold Row at h
  simp [World.cell?, h, hi]
theorem Row.free (h : Row w b T xs) (i : Nat) (s : Option Nat) : w.frozen? ⟨b, i, s⟩ = false := by
  unfold Row at h
  simp [World.frozen?, h]
theorem Row.set (h : Row w b T xs) (i : Nat) (v : Value) : Row (w.setCell ⟨b, i, none⟩ v) b T (xs.set i v) := by
  unfold Row at *
  simp [World.setCell, Array.getElem?_modify, h]
theorem Row.set_ne (h : Row w b T xs) {a : Addr} (hb : a.block ≠ b) (v : Value) : Row (w.setCell a v) b T xs := by
  unfold Row at *
  simp only [World.setCell, Array.getElem?_modify]
  rw [if_neg hb]; exact h
theorem Row.alloc (h : Row w b T xs) (o : Obj) : Row (w.alloc o) b T xs := by
  have := Row.lt h
  unfold Row at *
  show (w.heap.push o)[b]? = _
  rw [Array.getElem?_push, if_neg (by omega)]; exact h
theorem Row.new (w : World) (xs : List Value) (T : Nat) : Row (w.alloc (.cells xs.toArray T (0, 0))) w.heap.size T xs := by
  unfold Row
  show (w.heap.push _)[w.heap.size]? = _
  simp
theorem Row.drewN (h : Row w b T xs) (n : Nat) : Row (w.drewN n) b T xs := by
  unfold Row at *
  simpa [World.drewN] using h
theorem Row.below (h : Row w b T xs) {B : Nat} (hb : b < B) (hB : Below B w w') : Row w' b T xs := by
  unfold Row at *
  rw [hB.block b hb]; exact h
theorem Row.below' (h : Row w b T xs) (hB : Below w.heap.size w w') : Row w' b T xs := h.below h.lt hB
theorem Row.grown {row : Option Nat} (h : Row w b T xs) (hg : w.grownBy w' row) (hr : row ≠ some b) : Row w' b T xs := by
  have hl := h.lt
  unfold Row at *
  rw [hg.block b hl (fun e => hr e.symm)]; exact h
theorem add_block (a : Addr) (n : Nat) : (a.add n).block = a.block := by
  unfold Addr.add; split <;> rfl
theorem cell_set_ne (w : World) (a b : Addr) (v : Value) (h : b.block ≠ a.block) : (w.setCell a v).cell? b = w.cell? b :=
  World.cell?_of_block (w := w) (Below.heap_setCell w a v b.block h)
theorem pw_drewN {B : Nat} {x : World} (h : Below B x w) (n : Nat) : Below B x (w.drewN n) := by
  refine h.trans ⟨?_, ?_, ?_, ?_, ?_⟩ <;> simp [World.drewN]
theorem Row.setRow_ne (h : Row w b T xs) {g : Nat} (hn : b ≠ g) (cs : Array Value) : Row (w.setRow g cs) b T xs := by
  unfold Row at *
  rw [setRow_other w g b cs hn]; exact h
structure But (B b : Nat) (w w' : World) : Prop where
  os : w'.os = w.os
  tape : w'.tape = w.tape
  output : w'.output = w.output
  size : w.heap.size ≤ w'.heap.size
  block : ∀ k, k < B → k ≠ b → w'.heap[k]? = w.heap[k]?
theorem But.refl (B b : Nat) (w : World) : But B b w w := ⟨rfl, rfl, rfl, Nat.le_refl _, fun _ _ _ => rfl⟩
theorem But.trans {B b : Nat} {x y z : World} (h : But B b x y) (k : But B b y z) : But B b x z :=
  ⟨k.os.trans h.os, k.tape.trans h.tape, k.output.trans h.output, Nat.le_trans h.size k.size, fun i hi hb => (k.block i hi hb).trans (h.block i hi hb)⟩
theorem But.of_below {B b : Nat} (h : Below B w w') : But B b w w' := ⟨h.os, h.tape, h.output, h.size, fun k hk _ => h.block k hk⟩
theorem But.below {B b B' : Nat} (h : But B b w w') (hb : B' ≤ b) (hB : B' ≤ B) : Below B' w w' := ⟨h.os, h.tape, h.output, h.size, fun k hk => h.block k (by omega) (by omega)⟩
theorem But.mono {B b B' : Nat} (h : But B b w w') (hB : B' ≤ B) : But B' b w w' := ⟨h.os, h.tape, h.output, h.size, fun k hk => h.block k (by omega)⟩
theorem But.drewN {B b : Nat} {x : World} (h : But B b x w) (n : Nat) : But B b x (w.drewN n) := by
  refine h.trans ⟨?_, ?_, ?_, ?_, ?_⟩ <;> simp [World.drewN]
theorem But.setCell {B b : Nat} {x : World} (h : But B b x w) {p : Addr} (hp : p.block = b ∨ B ≤ p.block) (u : Value) : But B b x (w.setCell p u) := by
  refine h.trans ⟨rfl, rfl, rfl, by simp [World.setCell], fun k hk hb => ?_⟩
  exact Below.heap_setCell _ _ _ _ (by omega)
theorem Row.but {B b' : Nat} (h : Row w b T xs) (hb : b < B) (hn : b ≠ b') (hB : But B b' w w') : Row w' b T xs := by
  unfold Row at *
  rw [hB.block b hb hn]; exact h
end Go.Proofs.YtehmhfbfgniekaaGreatDoor.Blk
namespace Go.Proofs.YtehmhfbfgniekaaGreatDoor.Dg
set_option linter.unusedVariables false
set_option linter.unusedSimpArgs false
abbrev W := BitVec 32
def s0 (x : W) : W := rr x 7 ^^^ rr x 18 ^^^ x >>> 3
def s1 (x : W) : W := rr x 17 ^^^ rr x 19 ^^^ x >>> 10
def S0 (x : W) : W := rr x 2 ^^^ rr x 13 ^^^ rr x 22
def S1 (x : W) : W := rr x 6 ^^^ rr x 11 ^^^ rr x 25
def ch (e f g : W) : W := g ^^^ (e &&& (f ^^^ g))
def maj (a b c : W) : W := (a &&& b) ||| (c &&& (a ||| b))
def w4 (a b c d : Int) : W := BitVec.ofInt 32 (a * 16777216 + b * 65536 + c * 256 + d)
def word (m : List Int) (i : Nat) : W := w4 (m.getD (4 * i) 0) (m.getD (4 * i + 1) 0) (m.getD (4 * i + 2) 0) (m.getD (4 * i + 3) 0)
def nxt (m : List Int) (ws : List W) (i : Nat) : W :=
  if i < 16 then word m i else s1 (ws.getD (i - 2) 0) + ws.getD (i - 7) 0 + s0 (ws.getD (i - 15) 0) + ws.getD (i - 16) 0
def sch (m : List Int) : Nat → List W
  | 0 => []
  | i + 1 => sch m i ++ [nxt m (sch m i) i]
structure St where
  (a b c d e f g h : W)
def rnd (k w : W) (s : St) : St :=
  let x := s.h + S1 s.e + ch s.e s.f s.g + k + w
  let y := S0 s.a + maj s.a s.b s.c
  ⟨x + y, s.a, s.b, s.c, s.d + x, s.e, s.f, s.g⟩
def rnds (ks ws : List W) (s : St) : Nat → St
  | 0 => s
  | i + 1 => rnd (ks.getD i 0) (ws.getD i 0) (rnds ks ws s i)
def St.of (H : List W) : St := ⟨H.getD 0 0, H.getD 1 0, H.getD 2 0, H.getD 3 0, H.getD 4 0, H.getD 5 0, H.getD 6 0, H.getD 7 0⟩
def St.list (s : St) : List W := [s.a, s.b, s.c, s.d, s.e, s.f, s.g, s.h]
def blk (ks : List W) (m : List Int) (H : List W) : List W :=
  List.zipWith (· + ·) H (rnds ks (sch m 64) (St.of H) 64).list
theorem sch_length (m : List Int) (i : Nat) : (sch m i).length = i := by
  induction i with
  | zero => rfl
  | succ i ih => simp [sch, ih]
theorem or_word (a b c d : Int) (a0 : 0 ≤ a) (a1 : a < 256) (b0 : 0 ≤ b) (b1 : b < 256) (c0 : 0 ≤ c) (c1 : c < 256) (d0 : 0 ≤ d) (d1 : d < 256) :
    bits .or .u32 (bits .or .u32 (bits .or .u32 (a * 16777216) (b * 65536)) (c * 256)) d = u (w4 a b c d) := by
  have hk : ∀ n : Int, 0 ≤ n → n < 2 ^ 32 → IntKind.u32.wrap n = n := fun n h0 h1 => by rw [IntKind.wrap_u32]; omega
  rw [bits_join .u32 32 (by decide) hk 24 (a * 16777216) (b * 65536) (by omega) (by omega) (by omega) (by omega) (by omega) (by omega)]
  rw [bits_join .u32 32 (by decide) hk 16 (a * 16777216 + b * 65536) (c * 256) (by omega) (by omega) (by omega) (by omega) (by omega) (by omega)]
  rw [bits_join .u32 32 (by decide) hk 8 (a * 16777216 + b * 65536 + c * 256) d (by omega) (by omega) (by omega) (by omega) (by omega) (by omega)]
  rw [w4, ← mod_u]
  omega
theorem mod_u2 (a b : W) : (u a + u b) % 4294967296 = u (a + b) := u_add' a b
theorem mod_u4 (a b c d : W) : (u a + u b + u c + u d) % 4294967296 = u (a + b + c + d) := by
  rw [mod_u, BitVec.ofInt_add, BitVec.ofInt_add, BitVec.ofInt_add, u_ofInt, u_ofInt, u_ofInt, u_ofInt]
theorem mod_u5 (a b c d e : W) : (u a + u b + u c + u d + u e) % 4294967296 = u (a + b + c + d + e) := by
  rw [mod_u, BitVec.ofInt_add, BitVec.ofInt_add, BitVec.ofInt_add, BitVec.ofInt_add, u_ofInt, u_ofInt, u_ofInt, u_ofInt, u_ofInt]
theorem sched_word (x2 x7 x15 x16 : W) :
    (bits .xor .u32 (bits .xor .u32 (u (rr x2 17)) (u (rr x2 19))) (u x2 / 1024) + u x7 + bits .xor .u32 (bits .xor .u32 (u (rr x15 7)) (u (rr x15 18))) (u x15 / 8) + u x16) % 4294967296
      = u (s1 x2 + x7 + s0 x15 + x16) := by
  rw [u_shrc x2 10 1024 (by decide), u_shrc x15 3 8 (by decide), u_xor, u_xor, u_xor, u_xor, mod_u4]; rfl
end Go.Proofs.YtehmhfbfgniekaaGreatDoor.Dg
namespace Go.Proofs.YtehmhfbfgniekaaGreatDoor.QS
set_option linter.unusedVariables false
set_option linter.unusedSimpArgs false
open Go Go.RowKit
structure S (W : World) where
  val : World
  below : Below W.heap.size W val
instance (W : World) : Nonempty (S W) := ⟨⟨W, Below.refl _ _⟩⟩
abbrev C (W : World) : World → Prop := fun w' => ∃ x : S W, w' = x.1
theorem S.drew (W : World) : C W { W with drawn := W.drawn + 1 } := ⟨⟨W.drew, (Below.refl _ _).drew⟩, rfl⟩
section
variable {P : Program}
theorem region_tail {id : Nat} {Q : Exit → Act → World → Prop} {a : Act} {W : World} {l : List Oper} (n : Nat) (hm : P.follows .mixedOrders = true) (hB : Region.lexTailB .any l.toArray n = true)
    (h : wpQuiet P l.toArray (fun w' => ∃ x : S W, w' = x.1) (fun a' => ∀ w', (∃ x : S W, w' = x.1) → wpList P l.toArray Q (l.drop n) a' w') (l.take n) a) : (Code.region id l.toArray true).wp P Q a W :=
  QTail.wp_region (C := C W) n hm hB (S.drew W) h
theorem quiet {f : FuncId} {args : Array Value} {W : World} {x : S W} {v : Value}
    (h : Calls P f args x.1 fun e w' => e = .returned v ∧ Below x.1.heap.size x.1 w') : Calls P f args x.1 fun e w'' => e = .returned v ∧ ∃ y : S W, w'' = y.1 :=
  h.mono fun _ w' ⟨he, hb⟩ => ⟨he, ⟨w', x.2.trans (hb.mono x.2.size)⟩, rfl⟩
theorem quiet_run {o : Oper} {a : Act} {W : World} {K : Act → Prop} (v : Value) (h : ∀ x : S W, (execOp a.eval o).run P x.1 = .ok (.value v) x.1) (hK : K (a.put o.dst v)) :
    o.quiet P a (fun w' => ∃ x : S W, w' = x.1) K := by
  refine ⟨v, ?_, hK⟩
  rintro _ ⟨x, rfl⟩
  unfold Oper.quietAt
  rw [h x]
  exact ⟨rfl, rfl⟩
theorem run_load_row {o : Oper} {a : Act} {w : World} (ty : TypeId) (x : Operand) (ho : o.op = .load ty x) (g : Nat) (hx : a.eval x = .pointer (some ⟨g, 0, none⟩)) (t : TypeId) (cs : Array Value) (fr : Nat × Nat) (d : TypeDesc)
    (hg : w.heap[g]? = some (.cells cs t fr)) (hu : P.underlying ty = some d) (hd : (match d with | .struct _ | .array _ _ => true | _ => false) = true) (hi : (P.info? ty).map (·.size) = some cs.size) :
    (execOp a.eval o).run P w = .ok (.value (.agg cs)) w := by
  unfold execOp
  simp only [ho, hx, Instr.loadAt, Instr.sureAddr, Sem.run_bind, Sem.run_pure, Result.andThen_ok, run_loadVar_row w g t ty cs fr d hg hu hd hi]
end
end Go.Proofs.YtehmhfbfgniekaaGreatDoor.QS
namespace Go.Proofs.YtehmhfbfgniekaaGreatDoor.RegW
set_option linter.unusedVariables false
open Go Go.RowKit Go.Proofs.YtehmhfbfgniekaaGreatDoorW.PrintLast
section
variable {P : Program} {ops : Array Oper} {Q : Exit → Act → World → Prop} {md : Region.Mode}
theorem change_all {S Z : World → Prop} (hZS : ∀ w, Z w → S w) : ∀ (fuel : Nat) (l : Array Bool) (a : Act) (w : World), Z w → wpAnyLast P md ops Q Z [] fuel l a w → wpAnyLast P md ops Q S [] fuel l a w
  | 0, _, _, _, _, h => h
  | fuel + 1, l, a, w, hz, h => ⟨h.1, fun i hi => wpOp_mono (fun a' w' h' => by
      have hz' : Z w' := h'.1 (by simp) hz
      exact ⟨fun _ _ => hZS w' hz', change_all hZS fuel _ a' w' hz' h'.2⟩) (h.2 i hi)⟩
theorem thru {w w1 w2 : World} (h : Below w.heap.size w w1) (k : Below w1.heap.size w1 w2) : Below w.heap.size w w2 := h.trans (k.mono h.size)
theorem change_ {w0 w : World} {fuel : Nat} {l : Array Bool} {a : Act} (hb : Below w0.heap.size w0 w)
    (h : wpAnyLast P md ops Q (fun w' => Below w.heap.size w w') [] fuel l a w) : wpAnyLast P md ops Q (fun w' => Below w0.heap.size w0 w') [] fuel l a w :=
  change_all (fun _ h => hb.trans (h.mono hb.size)) fuel l a w (Below.refl _ _) h
end
end Go.Proofs.YtehmhfbfgniekaaGreatDoor.RegW
