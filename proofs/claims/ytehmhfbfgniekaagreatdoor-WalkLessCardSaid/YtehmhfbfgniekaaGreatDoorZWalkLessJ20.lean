/- Joined texts: WkRange. No condition but what stands in each. -/
import Derived.RangeFuncNested
import Derived.RangeFuncBound
import Derived.RangeFuncCalls
import Derived.RangeFuncLeaves
namespace Go.Proofs.YtehmhfbfgniekaaGreatDoor.Rw
set_option linter.unusedVariables false
open Go Go.RowKit
variable {F : Fence} {n : Nat} {P : Program}
def Rounds {α : Type} (F : Fence) (n : Nat) (P : Program) (l : Nat) (encs : α → Array Value) (Kp : World → World → Prop) (Pr : List α → α → World → Prop) (J Jx : List α → World → Prop) : Prop :=
  ∀ pre x W1, J pre W1 → Pr pre x W1 → YieldAt F (n - 1) P l (encs x) W1 fun e W' =>
    (e = .returned (.bool true) ∧ J (pre ++ [x]) W' ∧ Kp W1 W') ∨ (e = .returned (.bool false) ∧ Jx (pre ++ [x]) W')
def Iterates {α : Type} (F : Fence) (n : Nat) (P : Program) (g : Nat) (lb : Array Value) (encs : α → Array Value) (Kp : World → World → Prop) (Pr : List α → α → World → Prop) (Ch : Nat → World → World → Prop) (Q : World → Prop) (S Sp : List α → Prop) (w : World) : Prop :=
  ∀ (l : Nat) (J Jx : List α → World → Prop) (W : World), Below w.heap.size w W → (∀ s A B, J s A → Ch W.heap.size A B → J s B) → (∀ s A, J s A → Q A) → Rounds F n P l encs Kp Pr J Jx → J [] W →
    CallsIn F n P g (#[.func (.yield l) #[] #[]] ++ lb) W fun e W' => (∃ v, e = .returned v) ∧ ((∃ xs, S xs ∧ J xs W') ∨ (∃ pre, Sp pre ∧ Jx pre W'))
theorem range_own {α : Type} {g : Operand} {ps : Array Tmp} {assign body : Code} {Q : Exit → Act → World → Prop} {a : Act} {w : World}
    (hro : F.round = none) (h1 : 1 ≤ n) {gf : Nat} {lb : Array Value} (hg : a.eval g = .func (.func gf) #[] lb) (hFg : F.fn gf) (eg : ∀ args w, (callFunc gf args).run P w = .ok (.enter gf args) w)
    {encs : α → Array Value} {Kp : World → World → Prop} {Pr : List α → α → World → Prop} {Ch : Nat → World → World → Prop} {Qq : World → Prop} {S Sp : List α → Prop} (hseq : Iterates F (n - 1) P gf lb encs Kp Pr Ch Qq S Sp w)
    (hPr : ∀ pre x (W : World) (l : Nat) (o' : Obj), (∃ r, W.heap[l]? = some (.loop r)) → Pr pre x W → Pr pre x (W.putObj l o'))
    (hCh : ∀ m A B, Ch m A B → ∀ k, k < A.heap.size → k < m → B.heap[k]? = A.heap[k]?)
    (hKt : ∀ {A B C : World}, Kp A B → Kp B C → Kp A C) (hKb : ∀ (W : World) (l : Nat) (o o' : Obj), w.heap.size ≤ l → W.heap[l]? = some o → (∃ r, o = .loop r) → Kp W (W.putObj l o')) (hps : ∀ x, (encs x).size = ps.size)
    (I : List α → World → Prop) (Ix : Code → List α → World → Prop) (hI : OwnFrom w.heap.size I) (hIr : ∀ m s A B, w.heap.size ≤ m → I s A → Ch m A B → I s B) (hIq : ∀ s A, I s A → Qq A) (hIx : ∀ c, OwnFrom w.heap.size (Ix c)) (h0 : I [] w) (a₁ : α → Act)
    (hassign : ∀ (l : Nat) (x : α) (W : World) (K : Act → World → Prop), K (a₁ x) W →
      assign.wpIn (F.inRound l) (n - 1 - 1) P (Exit.then K (fun _ _ _ => False)) { tmps := (ps.zip (encs x)).foldl (fun t (p, v) => t.setIfInBounds p v) a.tmps, defers := [] } W)
    (hbody : ∀ (l : Nat) (pre : List α) (x : α) (W : World), w.heap.size ≤ l → I pre W → Pr pre x W → body.wpIn (F.inRound l) (n - 1 - 1) P (ownPostG w.heap.size Kp I Ix (pre ++ [x]) W) (a₁ x) W)
    (hdone : ∀ (D : Nat) (xs : List α) (W : World), w.heap.size ≤ D → S xs → I xs W → W.heap[D]? = some (.deferred (some [])) → Q .normal { a with defers := { target := .collected D, args := #[] } :: a.defers } W)
    (hstop : ∀ (D : Nat) (c : Code) (pre : List α) (W : World), w.heap.size ≤ D → Sp pre → Ix c pre W → W.heap[D]? = some (.deferred (some [])) → c.wpIn F n P Q { a with defers := { target := .collected D, args := #[] } :: a.defers } W) :
    (Code.rangeFunc g ps assign body).wpIn F n P Q a w := by
  refine wpIn_rangeFunc ?_
  intro fn hfn
  rw [hro]
  obtain ⟨rec, hrec⟩ : ∃ rec : LoopState → Option Code → Loop, rec = fun st pe => { state := st, pending := pe, fn, tmps := a.tmps, params := ps, assign, body, defers := w.heap.size } := ⟨_, rfl⟩
  obtain ⟨W1, hW1⟩ : ∃ W1, (w.alloc (.deferred (some []))).alloc (.loop (rec .ready none)) = W1 := ⟨_, rfl⟩
  have hL1 : W1.heap[w.heap.size + 1]? = some (.loop (rec .ready none)) := by
    rw [← hW1]; have := World.alloc_heap_new (w.alloc (.deferred (some []))) (.loop (rec .ready none)); rwa [World.size_alloc] at this
  have hK1 : W1.heap[w.heap.size]? = some (.deferred (some [])) := by
    rw [← hW1]; exact (Below.heap_alloc _ _ _ (by simp)).trans (World.alloc_heap_new w _)
  have hI1 : I [] W1 := by rw [← hW1]; exact hI.alloc _ (hI.alloc _ h0)
  have hb1 : Below w.heap.size w W1 := by
    rw [← hW1]; exact ((Below.refl _ w).alloc (Nat.le_refl _) _).alloc (by simp) _
  refine ⟨w.heap.size + 1, [{ target := .collected w.heap.size, args := #[] }], W1, { target := .fn (.func gf) lb, args := #[.func (.yield (w.heap.size + 1)) #[] #[]] }, W1, gf,
    #[.func (.yield (w.heap.size + 1)) #[] #[]] ++ lb, W1, ?_, ?_, ?_, ?_, fun _ => h1, ?_⟩
  · rw [← hW1, hrec]; exact run_enterLoop_outer _ _ _ _ _
  · simp only [resolve, hg]
    simp [go_sem]
  · intro f' hf'; simp [Target.leads] at hf'; subst hf'; exact hFg
  · simp [invoke, go_sem, eg]
  · have hs1 : W1.heap.size = w.heap.size + 2 := by rw [← hW1]; simp
    have keep : ∀ {A B : World} (k : Nat) (o : Obj), Ch W1.heap.size A B → k < w.heap.size + 2 → A.heap[k]? = some o → B.heap[k]? = some o := fun k o hg' hk hA =>
      (hCh _ _ _ hg' k (Array.getElem?_eq_some_iff.1 hA).1 (by omega)).trans hA
    refine (hseq (w.heap.size + 1)
      (fun pre W => I pre W ∧ W.heap[w.heap.size + 1]? = some (.loop (rec .ready none)) ∧ W.heap[w.heap.size]? = some (.deferred (some [])))
      (fun pre W => ∃ c, Ix c pre W ∧ W.heap[w.heap.size + 1]? = some (.loop (rec .done (some c))) ∧ W.heap[w.heap.size]? = some (.deferred (some [])))
      W1 hb1
      (fun s A B hs hg' => ⟨hIr _ s A B (by omega) hs.1 hg', keep _ _ hg' (by omega) hs.2.1, keep _ _ hg' (by omega) hs.2.2⟩) (fun s A hs => hIq s A hs.1)
      ?_ ⟨hI1, hL1, hK1⟩).mono ?_
    · rintro pre x W ⟨hi, hl, hk⟩ hpr
      have hlt : w.heap.size + 1 < W.heap.size := (Array.getElem?_eq_some_iff.1 hl).1
      have hy := run_yield (P := P) (args := encs x) hl (by rw [hrec]; exact hps x)
      rw [hrec] at hy
      refine ⟨fn, _, assign, body, hy, roundIn_of_wpIn hfn (hassign _ x W _ ?_)⟩
      clear hy
      refine ⟨_, run_beginRound hl (by rw [hrec]), ?_⟩
      have hl2 : (W.putObj (w.heap.size + 1) (.loop { rec .ready none with state := .busy })).heap[w.heap.size + 1]? = some (.loop { rec .ready none with state := .busy }) := World.putObj_heap_same hlt
      have hk2 : (W.putObj (w.heap.size + 1) (.loop { rec .ready none with state := .busy })).heap[w.heap.size]? = some (.deferred (some [])) := (World.putObj_heap_other (by omega)).trans hk
      have hw2 : Kp W (W.putObj (w.heap.size + 1) (.loop { rec .ready none with state := .busy })) := hKb _ _ _ _ (by omega) hl ⟨_, rfl⟩
      refine wpIn_mono (hbody _ pre x _ (by omega) (hI.putObj _ hi (by omega) hl rfl) (hPr _ _ _ _ _ ⟨_, hl⟩ hpr)) ?_
      have fin : ∀ (jump : Option Code) (W3 : World), KeepsFrom w.heap.size (W.putObj (w.heap.size + 1) (.loop { rec .ready none with state := .busy })) W3 →
          (Instr.endRound (w.heap.size + 1) jump).run P W3 = .ok (.bool jump.isNone) (W3.putObj (w.heap.size + 1) (.loop (rec (if jump.isNone then .ready else .done) jump))) ∧
          W3.heap[w.heap.size + 1]? = some (.loop { rec .ready none with state := .busy }) ∧
          (W3.putObj (w.heap.size + 1) (.loop (rec (if jump.isNone then .ready else .done) jump))).heap[w.heap.size + 1]? = some (.loop (rec (if jump.isNone then .ready else .done) jump)) ∧
          (W3.putObj (w.heap.size + 1) (.loop (rec (if jump.isNone then .ready else .done) jump))).heap[w.heap.size]? = some (.deferred (some [])) := fun jump W3 hk3 => by
        have hl3 := hk3.same _ _ (by omega) hl2 rfl
        have := run_endRound (P := P) jump hl3
        rw [hrec] at this ⊢
        exact ⟨this, by rw [hrec] at hl3; exact hl3, World.putObj_heap_same (Array.getElem?_eq_some_iff.1 hl3).1, (World.putObj_heap_other (by omega)).trans (hk3.same _ _ (Nat.le_refl _) hk2 rfl)⟩
      rintro e a3 W3 hp
      cases e with
      | normal =>
        obtain ⟨hk3, hkp3, hi3⟩ := hp
        obtain ⟨hr, hl3, hl4, hk4⟩ := fin none W3 hk3
        exact ⟨_, _, hr, .inl ⟨rfl, ⟨hI.putObj _ hi3 (by omega) hl3 rfl, hl4, hk4⟩, hKt (hKt hw2 hkp3) (hKb _ _ _ _ (by omega) hl3 ⟨_, rfl⟩)⟩⟩
      | ret =>
        obtain ⟨hk3, hi3⟩ := hp
        obtain ⟨hr, hl3, hl4, hk4⟩ := fin (some .ret) W3 hk3
        exact ⟨_, _, hr, .inr ⟨rfl, .ret, (hIx _).putObj _ hi3 (by omega) hl3 rfl, hl4, hk4⟩⟩
      | exit id =>
        obtain ⟨hk3, hi3⟩ := hp
        obtain ⟨hr, hl3, hl4, hk4⟩ := fin (some (.exit id)) W3 hk3
        exact ⟨_, _, hr, .inr ⟨rfl, .exit id, (hIx _).putObj _ hi3 (by omega) hl3 rfl, hl4, hk4⟩⟩
      | goto t =>
        obtain ⟨hk3, hi3⟩ := hp
        obtain ⟨hr, hl3, hl4, hk4⟩ := fin (some (.goto t)) W3 hk3
        exact ⟨_, _, hr, .inr ⟨rfl, .goto t, (hIx _).putObj _ hi3 (by omega) hl3 rfl, hl4, hk4⟩⟩
      | panic ch => exact hp.elim
      | outgrown => exact hp.elim
    · rintro e W2 ⟨⟨v, rfl⟩, (⟨xs, hS', hi, hl, hk⟩ | ⟨pre, hSp, c, hi, hl, hk⟩)⟩
      · exact ⟨none, _, by have := run_endLoop (P := P) hl (by rw [hrec]; simp); rw [hrec] at this; exact this, hdone _ xs _ (Nat.le_refl _) hS' (hI.putObj _ hi (by omega) hl rfl) ((World.putObj_heap_other (by omega)).trans hk)⟩
      · exact ⟨some c, _, by have := run_endLoop (P := P) hl (by rw [hrec]; simp); rw [hrec] at this; exact this, hstop _ c pre _ (Nat.le_refl _) hSp ((hIx c).putObj _ hi (by omega) hl rfl) ((World.putObj_heap_other (by omega)).trans hk)⟩
def own (bx : List Nat) (A : World) (k : Nat) : Prop := k ∈ bx ∨ ∃ b, b ∈ bx ∧ ∃ v, A.cell? ⟨b, 0, none⟩ = some v ∧ v.ownBlock = some k
theorem own_of {bx : List Nat} {A B : World} (h : ∀ b ∈ bx, B.heap[b]? = A.heap[b]?) {k : Nat} (hk : own bx B k) : own bx A k := by
  rcases hk with hk | ⟨b, hb, v, hv, e⟩
  · exact .inl hk
  · refine .inr ⟨b, hb, v, ?_, e⟩
    rw [← hv]
    unfold World.cell?
    rw [h b hb]
structure Chg (bx : List Nat) (m : Nat) (A B : World) : Prop where
  os : B.os = A.os
  tape : B.tape = A.tape
  output : B.output = A.output
  size : A.heap.size ≤ B.heap.size
  block : ∀ k, k < A.heap.size → k < m ∨ own bx A k → B.heap[k]? = A.heap[k]?
theorem Chg.own {bx : List Nat} {m : Nat} {A B : World} (h : Chg bx m A B) (hb : ∀ b ∈ bx, b < A.heap.size) (k : Nat) : Rw.own bx B k ↔ Rw.own bx A k := by
  have e : ∀ b ∈ bx, B.heap[b]? = A.heap[b]? := fun b hbx => h.block b (hb b hbx) (.inr (.inl hbx))
  exact ⟨own_of e, own_of (fun b hb => (e b hb).symm)⟩
theorem Chg.below {bx : List Nat} {m : Nat} {A B : World} (h : Below A.heap.size A B) : Chg bx m A B := ⟨h.os, h.tape, h.output, h.size, fun k hk _ => h.block k hk⟩
theorem Chg.other {bx : List Nat} {m : Nat} {A B : World} {r : Option Nat} (h : A.grownBy B r) (hm : ∀ j, r = some j → m ≤ j ∧ ¬ Rw.own bx A j) : Chg bx m A B :=
  ⟨h.os, h.tape, h.output, h.size, fun k hk ho => h.block k hk (fun e => ho.elim (fun q => by have := (hm k e.symm).1; omega) (fun q => (hm k e.symm).2 q))⟩
structure Kpo (bx : List Nat) (m : Nat) (A B : World) : Prop where
  os : B.os = A.os
  tape : B.tape = A.tape
  output : B.output = A.output
  size : A.heap.size ≤ B.heap.size
  block : ∀ k o, A.heap[k]? = some o → (k < m ∨ ∀ r, o ≠ .loop r) → ¬ own bx A k → B.heap[k]? = some o
  own : ∀ k, k < A.heap.size → Rw.own bx B k → Rw.own bx A k
theorem Kpo.trans {bx : List Nat} {m : Nat} {A B C : World} (h : Kpo bx m A B) (k : Kpo bx m B C) : Kpo bx m A C where
  os := k.os.trans h.os
  tape := k.tape.trans h.tape
  output := k.output.trans h.output
  size := Nat.le_trans h.size k.size
  block := fun i o ho hl hn => k.block i o (h.block i o ho hl hn) hl (fun e => hn (h.own i (Array.getElem?_eq_some_iff.1 ho).1 e))
  own := fun i hi ho => h.own i hi (k.own i (Nat.lt_of_lt_of_le hi h.size) ho)
theorem Kpo.putObj {bx : List Nat} {m : Nat} (W : World) (l : Nat) (o o' : Obj) (hl : m ≤ l) (h : W.heap[l]? = some o) (hr : ∃ r, o = .loop r) (hb : ∀ b ∈ bx, b < m) : Kpo bx m W (W.putObj l o') where
  os := rfl
  tape := rfl
  output := rfl
  size := by simp
  block := fun k q hk hn _ => by
    by_cases e : k = l
    · subst e
      obtain ⟨r, rfl⟩ := hr
      rw [h] at hk
      cases hk
      rcases hn with hn | hn
      · omega
      · exact absurd rfl (hn r)
    · rw [World.putObj_heap_other e]; exact hk
  own := fun k _ hk => own_of (fun b hbx => World.putObj_heap_other (by have := hb b hbx; omega)) hk
theorem Kpo.below {bx : List Nat} {m : Nat} {A B : World} (h : Below A.heap.size A B) (hb : ∀ b ∈ bx, b < A.heap.size) : Kpo bx m A B :=
  ⟨h.os, h.tape, h.output, h.size, fun k o hk _ _ => (h.block k (Array.getElem?_eq_some_iff.1 hk).1).trans hk, fun k _ hk => own_of (fun b hbx => h.block b (hb b hbx)) hk⟩
end Go.Proofs.YtehmhfbfgniekaaGreatDoor.Rw
