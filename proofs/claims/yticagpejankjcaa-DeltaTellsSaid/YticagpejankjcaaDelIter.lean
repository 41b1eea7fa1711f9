/- The iterator of a delta's steps: what it hands on, piece by piece, and how it leaves the reader. No condition but the reach of what comes in. -/
import Derived.Test.YticagpejankjcaaDelRead
import Derived.Test.YticagpejankjcaaDelRange
import Derived.BigRegion
import Derived.OwnWalkIn
import Derived.TacticsInMore
import Derived.LoopNIn
import Derived.LoopIn
import Derived.Deep.CutRange
import Derived.Deep.DeepCutAuto
namespace Go.Proofs.Yticagpejankjcaa.Db
set_option linter.unusedVariables false
set_option linter.unusedSimpArgs false
open Go.RowKit Go.Proofs.YticagpejankjcaaW.PrintWords Go.Proofs.YticagpejankjcaaW.PrintLast Go.Proofs.YticagpejankjcaaW.PrintMore Go.Proofs.Yticagpejankjcaa.Rg

/-- The pieces that steps say, and whether they may be. -/
def runS (base : ByteArray) : Nat → List Int → List ByteArray × Bool
  | 0, _ => ([], false)
  | _ + 1, [] => ([], true)
  | f + 1, c :: r =>
    if c = 128 then
      match getR r 0 0 with
      | none => ([], false)
      | some (at_, k) => match getR (r.drop k) 0 0 with
        | none => ([], false)
        | some (n, j) => if n < 1 ∨ base.size < at_ ∨ base.size - at_ < n then ([], false) else
          ((base.extract at_.toNat (at_ + n).toNat) :: (runS base f ((r.drop k).drop j)).1, (runS base f ((r.drop k).drop j)).2)
    else if c = 0 ∨ 128 < c ∨ r.length < c then ([], false)
    else (strOfNums (r.take c.toNat) :: (runS base f (r.drop c.toNat)).1, (runS base f (r.drop c.toNat)).2)
abbrev Piece := { s : ByteArray // s.size ≤ 1099511627776 }
/-- What a round keeps: all cells but the builder's, and its rows'. -/
def Kpb (b : Nat) (W W' : World) : Prop := ∀ k cs T fz, W.heap[k]? = some (.cells cs T fz) → k ≠ b → (T = 5 → k < b) → W'.heap[k]? = some (.cells cs T fz)
def rlen (w : World) (rb : Nat) : Nat := match w.cell? ⟨rb, 0, none⟩ with | some (.slice _ n _) => n | _ => 0
theorem Rdr.len {w : World} {rb g : Nat} {l : List Int} {er : Value} (h : Rdr w rb g l er) : rlen w rb = l.length := by
  obtain ⟨o, c, hr, _⟩ := h.at_
  rw [rlen, Lib.cell_of_heap hr]; rfl

/-- What the iterator has told in the end, and how it leaves the reader. -/
def IterS (R : List ByteArray × Bool) (rb g : Nat) (xs : List Piece) (W : World) : Prop :=
  xs.map (·.1) = R.1 ∧ ∃ l er, Rdr W rb g l er ∧ (if R.2 then er = .nilIface else ∃ a, er = .iface 46 (.pointer a))
/-- A part of what is told has come. -/
def Heads (R : List ByteArray × Bool) (pre : List Piece) : Prop := ∃ rest, pre.map (·.1) ++ rest = R.1
theorem grown_drew {a b : World} {r : Option Nat} (h : a.grownBy b r) : a.grownBy b.drew r := ⟨h.os, h.tape, h.output, h.size, h.block⟩
theorem grown_of_drew {a b : World} {r : Option Nat} (h : a.drew.grownBy b r) : a.grownBy b r := ⟨h.os, h.tape, h.output, h.size, h.block⟩
theorem Rdr.drew {w : World} {rb g : Nat} {l : List Int} {er : Value} (h : Rdr w rb g l er) : Rdr w.drew rb g l er := h.kept rfl (fun _ => rfl)
/-- A reader's shape. -/
def Shr (rb : Nat) (W : World) : Prop := ∃ x y, W.heap[rb]? = some (.cells #[x, y] 38 (0, 0))
theorem Rdr.sh {w : World} {rb g : Nat} {l : List Int} {er : Value} (h : Rdr w rb g l er) : Shr rb w := by
  obtain ⟨o, c, hr, _⟩ := h.at_
  exact ⟨_, _, hr⟩
def leftL (l : List Int) : Option (Int × Nat) → List Int
  | none => l
  | some (_, k) => l.drop k
theorem NumLeft.ex {w' : World} {rb g : Nat} {l : List Int} {er : Value} {r : Option (Int × Nat)} (h : NumLeft w' rb g l er r) : ∃ er1, Rdr w' rb g (leftL l r) er1 ∧ (r.isSome = true → er1 = er) := by
  rcases r with _ | ⟨n, k⟩
  · obtain ⟨a, h⟩ := h
    exact ⟨_, h, fun h => by cases h⟩
  · exact ⟨er, h, fun _ => rfl⟩
theorem leftL_len (l : List Int) (r : Option (Int × Nat)) : (leftL l r).length ≤ l.length := by
  rcases r with _ | ⟨n, k⟩
  · exact Nat.le_refl _
  · rw [leftL, List.length_drop]; omega
theorem leftL_mem (l : List Int) (r : Option (Int × Nat)) : ∀ x ∈ leftL l r, x ∈ l := by
  rcases r with _ | ⟨n, k⟩
  · exact fun x h => h
  · exact fun x h => List.mem_of_mem_drop h

theorem Rdr.broke {w : World} {rb g : Nat} {l : List Int} {er : Value} (h : Rdr w rb g l er) (s : ByteArray) (a : Option Addr) :
    Rdr ((w.setCell ⟨rb, 1, none⟩ (.iface 46 (.pointer a))).alloc (.cells #[.string s] 48)) rb g l (.iface 46 (.pointer a)) ∧
    w.grownBy ((w.setCell ⟨rb, 1, none⟩ (.iface 46 (.pointer a))).alloc (.cells #[.string s] 48)) (some rb) := by
  have hlt := h.lt
  obtain ⟨⟨o, c, hr, hc, hw⟩, hne⟩ := h
  refine ⟨⟨⟨o, c, ?_, hc, ?_⟩, hne⟩, grown_trans (grown_set w ⟨rb, 1, none⟩ _) (World.grownBy_alloc _ _ _)⟩
  · rw [Lib.alloc_old _ _ rb (by simp [World.setCell]; exact hlt)]
    exact set_1 hr
  · rcases l with _ | ⟨x, l⟩
    · exact Rw.nil _ _ _
    · have hgl := hw.lt (by simp)
      refine hw.kept ?_
      rw [Lib.alloc_old _ _ g (by simp [World.setCell]; exact hgl)]
      exact Below.heap_setCell _ _ _ _ (fun e => hne e.symm)
theorem Rdr.broke2 {w : World} {rb g : Nat} {l : List Int} {er : Value} (h : Rdr w rb g l er) (s : ByteArray) (a : Option Addr) :
    Rdr ((w.alloc (.cells #[.string s] 48)).setCell ⟨rb, 1, none⟩ (.iface 46 (.pointer a))) rb g l (.iface 46 (.pointer a)) ∧
    w.grownBy ((w.alloc (.cells #[.string s] 48)).setCell ⟨rb, 1, none⟩ (.iface 46 (.pointer a))) (some rb) := by
  have hlt := h.lt
  obtain ⟨⟨o, c, hr, hc, hw⟩, hne⟩ := h
  have hr2 := (Lib.alloc_old w (.cells #[.string s] 48) rb hlt).trans hr
  refine ⟨⟨⟨o, c, set_1 hr2, hc, ?_⟩, hne⟩, grown_trans (World.grownBy_alloc _ _ _) (grown_set _ ⟨rb, 1, none⟩ _)⟩
  rcases l with _ | ⟨x, l⟩
  · exact Rw.nil _ _ _
  · exact hw.kept ((Below.heap_setCell _ _ _ _ (fun e => hne e.symm)).trans (Lib.alloc_old w _ g (hw.lt (by simp))))
/-- What is told where the error was set. -/
theorem IterS.bad {R : List ByteArray × Bool} {rb g : Nat} {pre : List Piece} {W : World} {l : List Int} {a : Option Addr} (h : R = (pre.map (·.1) ++ [], false)) (hr : Rdr W rb g l (.iface 46 (.pointer a))) : IterS R rb g pre W := by
  subst h
  exact ⟨by simp, l, _, hr, by rw [if_neg (by simp)]; exact ⟨_, rfl⟩⟩
/-- The reader's error may be set. -/
theorem Rdr.err {w : World} {rb g : Nat} {l : List Int} {er : Value} (h : Rdr w rb g l er) (o : Obj) : (w.alloc o).cell? ⟨rb, 1, none⟩ = some er ∧ (w.alloc o).frozen? ⟨rb, 1, none⟩ = false := by
  have hlt := h.lt
  obtain ⟨⟨_, c, hr, hc, hw⟩, hne⟩ := h
  have hr2 := (Lib.alloc_old w o rb hlt).trans hr
  exact ⟨by rw [Lib.cell_of_heap hr2]; rfl, Lib.frozen_of_heap hr2 1⟩
theorem runS_128 (base : ByteArray) (f : Nat) (l : List Int) (r1 r2 : Option (Int × Nat)) (h1 : getR l 0 0 = r1) (h2 : getR (leftL l r1) 0 0 = r2) :
    runS base (f + 1) (128 :: l) = if (tri r2).1 < 1 ∨ base.size < (tri r1).1 ∨ base.size - (tri r1).1 < (tri r2).1 then ([], false) else
      (base.extract (tri r1).1.toNat ((tri r1).1 + (tri r2).1).toNat :: (runS base f (leftL (leftL l r1) r2)).1, (runS base f (leftL (leftL l r1) r2)).2) := by
  rw [runS, if_pos rfl, h1]
  rcases r1 with _ | ⟨a, k⟩
  · rw [leftL, h1] at h2
    subst h2
    rw [if_pos (.inl (by decide))]
  · rw [leftL] at h2
    dsimp only
    rw [h2]
    rcases r2 with _ | ⟨n, j⟩
    · rw [if_pos (.inl (by decide))]
    · rfl
theorem both_some (base : ByteArray) (l : List Int) (r1 r2 : Option (Int × Nat)) (h1 : getR l 0 0 = r1) (h2 : getR (leftL l r1) 0 0 = r2) (h : ¬ (tri r2).1 < 1) : r1.isSome = true ∧ r2.isSome = true := by
  rcases r1 with _ | ⟨a, k⟩
  · rw [leftL, h1] at h2
    subst h2
    exact absurd (show (tri none).1 < 1 by decide) h
  · rcases r2 with _ | ⟨n, j⟩
    · exact absurd (show (tri none).1 < 1 by decide) h
    · exact ⟨rfl, rfl⟩
theorem tri_range (l : List Int) (h8 : ∀ x ∈ l, 0 ≤ x ∧ x < 256) : 0 ≤ (tri (getR l 0 0)).1 ∧ (tri (getR l 0 0)).1 ≤ 1099511627776 := by
  cases h : getR l 0 0 with
  | none => exact ⟨by decide, by decide⟩
  | some p =>
    obtain ⟨z, k⟩ := p
    obtain ⟨_, _, _, h1, h2⟩ := get_back l z k h8 h
    exact ⟨h1, h2⟩

set_option maxHeartbeats 8000000 in
set_option maxRecDepth 100000 in
theorem iter_calls (n : Nat) (base : ByteArray) (b rb g rp bp : Nat) (f : Nat) (L : List Int) (w : World) (hr : Rdr w rb g L .nilIface) (hrp : w.heap[rp]? = some (.cells #[.pointer (some ⟨rb, 0, none⟩)] 34 (0, 0))) (hbp : w.heap[bp]? = some (.cells #[.string base] 9 (0, 0)))
    (gs : Array Value) (fz : Nat × Nat) (hgs : w.heap[g]? = some (.cells gs 5 fz)) (hgb : g < b) (hne : rb ≠ b ∧ rp ≠ b ∧ bp ≠ b) (hL : L.length < f) (hL2 : L.length ≤ 1099511627776) (h8 : ∀ x ∈ L, 0 ≤ x ∧ x < 256) (hbs : base.size ≤ 1099511627776) :
    Iterates Fence.wide n Try.prog 31 #[.pointer (some ⟨rp, 0, none⟩), .pointer (some ⟨bp, 0, none⟩)] (fun x : Piece => #[.string x.1]) (Kpb b) rb (Shr rb)
      (IterS (runS base f L) rb g) (Heads (runS base f L)) w := by
  obtain ⟨R, hR⟩ : ∃ R, runS base f L = R := ⟨_, rfl⟩
  rw [hR]
  intro lp J Jx W hb hJ hY h0
  refine callsIn_wide.2 ?_
  go_enter Try.func31, Try.ntmps31
  go_wp2_with (fail)
  have h0r : Rdr W rb g L .nilIface := hr.below hb
  have hrpW : W.heap[rp]? = some (.cells #[.pointer (some ⟨rb, 0, none⟩)] 34 (0, 0)) := (hb.block rp (Array.getElem?_eq_some_iff.1 hrp).1).trans hrp
  have hgsW : W.heap[g]? = some (.cells gs 5 fz) := (hb.block g (Array.getElem?_eq_some_iff.1 hgs).1).trans hgs
  have hbpW : W.heap[bp]? = some (.cells #[.string base] 9 (0, 0)) := (hb.block bp (Array.getElem?_eq_some_iff.1 hbp).1).trans hbp
  have HB := As.mk hb
  have HJ := As.mk hJ
  have HY := As.mk hY
  have HRun := As.mk hR
  have H8 := As.mk h8
  have HN := As.mk hne
  clear hb hJ hY hR hr hrp hbp h8 hgs hne
  go_loopw [4] (fun _ wr => ∃ (pre : List Piece) (l : List Int) (f' : Nat), l.length < f' ∧ l.length ≤ 1099511627776 ∧ As (∀ x ∈ l, 0 ≤ x ∧ x < 256) ∧ As (R = (pre.map (·.1) ++ (runS base f' l).1, (runS base f' l).2)) ∧ As (Rdr wr rb g l .nilIface) ∧ As (wr.heap[rp]? = some (.cells #[.pointer (some ⟨rb, 0, none⟩)] 34 (0, 0))) ∧ As (wr.heap[bp]? = some (.cells #[.string base] 9 (0, 0))) ∧ As (J pre wr) ∧ As (wr.heap[g]? = some (.cells gs 5 fz))) (fun _ wr => rlen wr rb)
  case atStart => exact ⟨[], L, f, hL, hL2, H8, ⟨by rw [HRun.out]; simp⟩, ⟨h0r⟩, ⟨hrpW⟩, ⟨hbpW⟩, ⟨h0⟩, ⟨hgsW⟩⟩
  case round =>
    obtain ⟨pre, l, f', hlf, hl2, H8, HR, HRd, HRp, HBp, HJp, HGs⟩ := hrel
    obtain ⟨o, c, hrb, hcl, hw⟩ := HRd.out.at_
    have hp0 : wr.cell? ⟨rp, 0, none⟩ = some (.pointer (some ⟨rb, 0, none⟩)) := by rw [Lib.cell_of_heap HRp.out]; rfl
    have hb0 : wr.cell? ⟨bp, 0, none⟩ = some (.string base) := by rw [Lib.cell_of_heap HBp.out]; rfl
    have hr0 : wr.cell? ⟨rb, 0, none⟩ = some (.slice (some ⟨g, o, none⟩) l.length c) := by rw [Lib.cell_of_heap hrb]; rfl
    have hr1 : wr.cell? ⟨rb, 1, none⟩ = some .nilIface := by rw [Lib.cell_of_heap hrb]; rfl
    have HRb := As.mk hrb
    have HW := As.mk hw
    clear hrb hw
    rcases l with _ | ⟨y, l⟩
    · go_wp2_with (fail)
      go_end0
      refine ⟨⟨_, rfl⟩, .inl ⟨pre, ⟨?_, [], .nilIface, HRd.out, ?_⟩, HJp.out⟩⟩
      · rw [HR.out]; cases f' with
        | zero => simp at hlf
        | succ f' => simp [runS]
      · rw [HR.out]; cases f' with
        | zero => simp at hlf
        | succ f' => simp [runS]
    · have hy8 := H8.out y List.mem_cons_self
      have hy0 : wr.cell? ⟨g, o, none⟩ = some (.int .u8 y) := HW.out 0 y rfl
      have hy1 := hy8.1
      have hy2 := hy8.2
      have hf0 : wr.frozen? ⟨rb, 0, none⟩ = false := Lib.frozen_of_heap HRb.out 0
      clear hy8
      simp only [List.length_cons] at hr0 hcl hl2 hlf
      have hsl : ∃ o1, (if c = 1 then some (⟨g, o, none⟩ : Addr) else some ⟨g, o + 1, none⟩) = some ⟨g, o1, none⟩ ∧ Rw wr g o1 l := by
        by_cases h : c = 1
        · rw [if_pos h]
          refine ⟨o, rfl, ?_⟩
          have : l = [] := List.length_eq_zero_iff.1 (by omega)
          rw [this]; exact Rw.nil _ _ _
        · rw [if_neg h]
          exact ⟨o + 1, rfl, HW.out.drop 1⟩
      have hmeas : rlen wr rb = l.length + 1 := HRd.out.len
      obtain ⟨o1, ho1, hw1⟩ := hsl
      have HW1 := As.mk hw1
      clear hw1
      go_wp2_with (fail)
      go_region
      have hrd2 : Rdr (wr.setCell ⟨rb, 0, none⟩ (.slice (some ⟨g, o1, none⟩) l.length (c - 1))).drew rb g l .nilIface :=
        Rdr.drew ⟨⟨o1, c - 1, set_0 HRb.out, by omega, HW1.out.kept (Below.heap_setCell _ _ _ _ (fun e => HRd.out.ne e.symm))⟩, HRd.out.ne⟩
      have hgr : wr.grownBy (wr.setCell ⟨rb, 0, none⟩ (.slice (some ⟨g, o1, none⟩) l.length (c - 1))).drew (some rb) := grown_drew (grown_set wr ⟨rb, 0, none⟩ _)
      have hnp : rp ≠ rb := fun e => by have := HRp.out; rw [e, HRb.out] at this; cases this
      have hnb : bp ≠ rb := fun e => by have := HBp.out; rw [e, HRb.out] at this; cases this
      obtain ⟨wa, hwa⟩ : ∃ wa, (wr.setCell ⟨rb, 0, none⟩ (.slice (some ⟨g, o1, none⟩) l.length (c - 1))).drew = wa := ⟨_, rfl⟩
      rw [hwa] at hrd2 hgr ⊢
      clear hwa ho1
      have HRd2 := As.mk hrd2
      have HJ2 : As (J pre wa) := ⟨HJ.out pre wr wa HJp.out hgr hrd2.sh⟩
      have HRp2 : As (wa.heap[rp]? = some (.cells #[.pointer (some ⟨rb, 0, none⟩)] 34 (0, 0))) := ⟨(hgr.block rp (Array.getElem?_eq_some_iff.1 HRp.out).1 (fun e => hnp (by cases e; rfl))).trans HRp.out⟩
      have HBp2 : As (wa.heap[bp]? = some (.cells #[.string base] 9 (0, 0))) := ⟨(hgr.block bp (Array.getElem?_eq_some_iff.1 HBp.out).1 (fun e => hnb (by cases e; rfl))).trans HBp.out⟩
      have HGs2 : As (wa.heap[g]? = some (.cells gs 5 fz)) := ⟨(hgr.block g (Array.getElem?_eq_some_iff.1 HGs.out).1 (fun e => HRd.out.ne (by cases e; rfl))).trans HGs.out⟩
      have hp2 : wa.cell? ⟨rp, 0, none⟩ = some (.pointer (some ⟨rb, 0, none⟩)) := by rw [Lib.cell_of_heap HRp2.out]; rfl
      have hb2 : wa.cell? ⟨bp, 0, none⟩ = some (.string base) := by rw [Lib.cell_of_heap HBp2.out]; rfl
      have H8l : As (∀ x ∈ l, 0 ≤ x ∧ x < 256) := ⟨fun x hx => H8.out x (List.mem_cons_of_mem _ hx)⟩
      have hnw : As (rp ≠ rb ∧ bp ≠ rb) := ⟨⟨hnp, hnb⟩⟩
      clear hgr hrd2 hnp hnb hp0 hb0 hr0 hr1 hy0 hf0 HW HW1 HRb HRd HRp HBp HJp H8 HGs
      obtain ⟨f1, rfl⟩ : ∃ f1, f' = f1 + 1 := ⟨f' - 1, by omega⟩
      obtain ⟨o2, c2, hrb2, hcl2, hw2⟩ := HRd2.out.at_
      have hr20 : wa.cell? ⟨rb, 0, none⟩ = some (.slice (some ⟨g, o2, none⟩) l.length c2) := by rw [Lib.cell_of_heap hrb2]; rfl
      have hr21 : wa.cell? ⟨rb, 1, none⟩ = some .nilIface := by rw [Lib.cell_of_heap hrb2]; rfl
      have hf20 : wa.frozen? ⟨rb, 0, none⟩ = false := Lib.frozen_of_heap hrb2 0
      have HRb2 := As.mk hrb2
      have HW2 := As.mk hw2
      clear hrb2 hw2
      obtain ⟨k, rfl⟩ := Int.eq_ofNat_of_zero_le hy1
      by_cases h128 : k = 128
      case' pos =>
        subst h128
        obtain ⟨r1, hg1⟩ : ∃ r1, getR l 0 0 = r1 := ⟨_, rfl⟩
        obtain ⟨r2, hg2⟩ : ∃ r2, getR (leftL l r1) 0 0 = r2 := ⟨_, rfl⟩
        have HG1 := As.mk hg1
        have HG2 := As.mk hg2
        clear hg1 hg2
        go_wp2_with (fail)
        refine start_ (n := 6) (S := fun w' => w'.cell? ⟨rp, 0, none⟩ = some (.pointer (some ⟨rb, 0, none⟩))) (ds := []) #[false, false, false, false, false, false] (by kernel_rfl) rfl rfl (hp2) (fun hHeld => ?_)
        refine take_ (i := 0) (N := some 55) (v := ?_) (a' := ?_) #[true, false, false, false, false, false] rfl rfl (by kernel_rfl) (fun _ _ _ h => h) (Or.inl ⟨by rfl, ?_⟩) hHeld ?_ ?_
        rotate_left
        · intro w' s0
          go_simp
          with_reducible rfl
        rotate_left
        · simp only [Act.put, List.setIfInBounds_toArray, List.set_cons_zero, List.set_cons_succ, i64_w, i32_w]
          rfl
        refine take_ (i := 2) (N := some 57) (v := ?_) (a' := ?_) #[true, false, true, false, false, false] rfl rfl (by kernel_rfl) (fun _ _ _ h => h) (Or.inl ⟨by rfl, ?_⟩) hHeld ?_ ?_
        rotate_left
        · intro w' s0
          go_simp
          with_reducible rfl
        rotate_left
        · simp only [Act.put, List.setIfInBounds_toArray, List.set_cons_zero, List.set_cons_succ, i64_w, i32_w]
          rfl
        refine one_ (i := 1) (N := some 56) #[true, true, true, false, false, false] rfl rfl (by kernel_rfl) (by decide) (fun K hK => ?_)
        refine goes_ Try.func15 (by kernel_rfl) rfl #[.pointer (some ⟨rb, 0, none⟩)] (by rfl) rfl rfl (by simp only [List.map_toArray, List.map_cons, List.map_nil]; rfl) ?_
        with_reducible refine (rnum_calls rb g .nilIface l r1 _ HRd2.out.drew (by omega) H8l.out HG1.out).mono ?_
        rintro e wb ⟨rfl, hgb2, hnb⟩
        refine ⟨_, rfl, ?_⟩
        obtain ⟨er1, hrd3, her1⟩ := NumLeft.ex hnb
        have HRp3 : As (wb.heap[rp]? = some (.cells #[.pointer (some ⟨rb, 0, none⟩)] 34 (0, 0))) := ⟨(hgb2.block rp (Array.getElem?_eq_some_iff.1 HRp2.out).1 (fun e => hnw.out.1 (by cases e; rfl))).trans HRp2.out⟩
        have hp3 : wb.cell? ⟨rp, 0, none⟩ = some (.pointer (some ⟨rb, 0, none⟩)) := by rw [Lib.cell_of_heap HRp3.out]; rfl
        refine hK.out _ _ (hp3) (fun hHeld => ?_)
        clear hK K
        refine norm_ (a' := ?_) ?_ ?_
        rotate_left
        · show Act.put _ (some 56) _ = _
          simp only [Act.put, List.setIfInBounds_toArray, List.set_cons_zero, List.set_cons_succ, i64_w, i32_w]
          rfl
        refine one_ (i := 3) (N := some 58) #[true, true, true, true, false, false] rfl rfl (by kernel_rfl) (by decide) (fun K hK => ?_)
        refine goes_ Try.func15 (by kernel_rfl) rfl #[.pointer (some ⟨rb, 0, none⟩)] (by rfl) rfl rfl (by simp only [List.map_toArray, List.map_cons, List.map_nil]; rfl) ?_
        with_reducible refine (rnum_calls rb g er1 (leftL l r1) r2 _ hrd3 (Nat.le_trans (leftL_len l r1) (by omega)) (fun x hx => H8l.out x (leftL_mem l r1 x hx)) HG2.out).mono ?_
        rintro e wz ⟨rfl, hgc, hnc⟩
        refine ⟨_, rfl, ?_⟩
        obtain ⟨er2, hrd4, her2⟩ := NumLeft.ex hnc
        have HRp4 : As (wz.heap[rp]? = some (.cells #[.pointer (some ⟨rb, 0, none⟩)] 34 (0, 0))) := ⟨(hgc.block rp (Array.getElem?_eq_some_iff.1 HRp3.out).1 (fun e => hnw.out.1 (by cases e; rfl))).trans HRp3.out⟩
        have hp4 : wz.cell? ⟨rp, 0, none⟩ = some (.pointer (some ⟨rb, 0, none⟩)) := by rw [Lib.cell_of_heap HRp4.out]; rfl
        refine hK.out _ _ (hp4) (fun hHeld => ?_)
        clear hK K
        refine norm_ (a' := ?_) ?_ ?_
        rotate_left
        · show Act.put _ (some 58) _ = _
          simp only [Act.put, List.setIfInBounds_toArray, List.set_cons_zero, List.set_cons_succ, i64_w, i32_w]
          rfl
        refine pure_ (i := 4) (N := some 6) (v := ?_) (a' := ?_) #[true, true, true, true, true, false] rfl rfl (by kernel_rfl) (fun _ _ _ h => h) (Or.inl ⟨by rfl, ?_⟩) ?_ ?_
        rotate_left
        · intro w'
          go_simp
          with_reducible rfl
        rotate_left
        · simp only [Act.put, List.setIfInBounds_toArray, List.set_cons_zero, List.set_cons_succ, i64_w, i32_w]
          rfl
        refine pure_ (i := 5) (N := some 7) (v := ?_) (a' := ?_) #[true, true, true, true, true, true] rfl rfl (by kernel_rfl) (fun _ _ _ h => h) (Or.inl ⟨by rfl, ?_⟩) ?_ ?_
        rotate_left
        · intro w'
          go_simp
          with_reducible rfl
        rotate_left
        · simp only [Act.put, List.setIfInBounds_toArray, List.set_cons_zero, List.set_cons_succ, i64_w, i32_w]
          rfl
        refine done_ (by kernel_rfl) ?_
        have hgz : wa.grownBy wz (some rb) := grown_trans (grown_of_drew hgb2) hgc
        have HJc : As (J pre wz) := ⟨HJ.out pre wa wz HJ2.out hgz hrd4.sh⟩
        have HRpc := HRp4
        have HBpc : As (wz.heap[bp]? = some (.cells #[.string base] 9 (0, 0))) := ⟨(hgz.block bp (Array.getElem?_eq_some_iff.1 HBp2.out).1 (fun e => hnw.out.2 (by cases e; rfl))).trans HBp2.out⟩
        have HGsc : As (wz.heap[g]? = some (.cells gs 5 fz)) := ⟨(hgz.block g (Array.getElem?_eq_some_iff.1 HGs2.out).1 (fun e => HRd2.out.ne (by cases e; rfl))).trans HGs2.out⟩
        have hb4 : wz.cell? ⟨bp, 0, none⟩ = some (.string base) := by rw [Lib.cell_of_heap HBpc.out]; rfl
        have hrd4' := As.mk hrd4
        have HE2 := As.mk her2
        have HE1 := As.mk her1
        clear hgz hgb2 hgc hnb hnc hrd3 hrd4 hp2 hp3 hb2 hr20 hr21 hf20 her1 her2 hHeld
        have hrun : runS base (f1 + 1) (((128 : Nat) : Int) :: l) = _ := runS_128 base f1 l r1 r2 HG1.out HG2.out
        rw [hrun] at HR
        clear hrun
        have ht1 := tri_range l H8l.out
        rw [HG1.out] at ht1
        have ht2 := tri_range (leftL l r1) (fun x hx => H8l.out x (leftL_mem l r1 x hx))
        rw [HG2.out] at ht2
        have hbs2 := both_some base l r1 r2 HG1.out HG2.out
        obtain ⟨at_, hat⟩ : ∃ x, (tri r1).1 = x := ⟨_, rfl⟩
        obtain ⟨nn, hnn⟩ : ∃ x, (tri r2).1 = x := ⟨_, rfl⟩
        rw [hat] at ht1 HR
        rw [hnn] at ht2 hbs2 HR
        rw [hat, hnn]
        clear hat hnn
        obtain ⟨ht10, ht11⟩ := ht1
        obtain ⟨ht20, ht21⟩ := ht2
        by_cases hbad : nn < 1 ∨ base.size < at_ ∨ base.size - at_ < nn
        case' pos =>
          rw [if_pos hbad] at HR
          obtain ⟨q1, q2⟩ := hrd4'.out.err (.cells #[.string ⟨#[99, 111, 112, 121]⟩] 48)
          obtain ⟨q3, q4⟩ := hrd4'.out.broke ⟨#[99, 111, 112, 121]⟩ (some ⟨wz.heap.size, 0, none⟩)
          obtain ⟨q5, q6⟩ := hrd4'.out.broke2 ⟨#[99, 111, 112, 121]⟩ (some ⟨wz.heap.size, 0, none⟩)
          have Q5 := As.mk q5
          have Q6 := As.mk q6
          clear q5 q6
          have Q3 := As.mk q3
          have Q4 := As.mk q4
          clear q3 q4
          rcases (show nn < 1 ∨ (¬ nn < 1 ∧ base.size < at_) ∨ (¬ nn < 1 ∧ ¬ base.size < at_ ∧ base.size - at_ < nn) by omega) with hk | ⟨hk, hk'⟩ | ⟨hk, hk', hk''⟩
          · go_wp2_with (fail)
            refine bodyPost_ret (results_none rfl _ _ _) rfl ?_
            first
              | exact ⟨⟨_, rfl⟩, .inl ⟨pre, IterS.bad HR.out Q3.out, HJ.out pre _ _ HJc.out Q4.out Q3.out.sh⟩⟩
              | exact ⟨⟨_, rfl⟩, .inl ⟨pre, IterS.bad HR.out Q5.out, HJ.out pre _ _ HJc.out Q6.out Q5.out.sh⟩⟩
          · have e2 : decide (nn < 1) = false := decide_eq_false hk
            go_wp2_with (fail)
            refine bodyPost_ret (results_none rfl _ _ _) rfl ?_
            first
              | exact ⟨⟨_, rfl⟩, .inl ⟨pre, IterS.bad HR.out Q3.out, HJ.out pre _ _ HJc.out Q4.out Q3.out.sh⟩⟩
              | exact ⟨⟨_, rfl⟩, .inl ⟨pre, IterS.bad HR.out Q5.out, HJ.out pre _ _ HJc.out Q6.out Q5.out.sh⟩⟩
          · have e2 : decide (nn < 1) = false := decide_eq_false hk
            have e3 : decide ((base.size : Int) < at_) = false := decide_eq_false hk'
            go_wp2_with (fail)
            refine bodyPost_ret (results_none rfl _ _ _) rfl ?_
            first
              | exact ⟨⟨_, rfl⟩, .inl ⟨pre, IterS.bad HR.out Q3.out, HJ.out pre _ _ HJc.out Q4.out Q3.out.sh⟩⟩
              | exact ⟨⟨_, rfl⟩, .inl ⟨pre, IterS.bad HR.out Q5.out, HJ.out pre _ _ HJc.out Q6.out Q5.out.sh⟩⟩
        case' neg =>
          rw [if_neg hbad] at HR
          have e1 : decide (nn < 1) = false := decide_eq_false (by omega)
          have e2 : decide ((base.size : Int) < at_) = false := decide_eq_false (by omega)
          have e3 : decide ((base.size : Int) - at_ < nn) = false := decide_eq_false (by omega)
          have e4 : at_ ≤ base.size := by omega
          have e5 : at_ + nn ≤ base.size := by omega
          have e6 : at_ ≤ at_ + nn := by omega
          obtain ⟨hs1, hs2⟩ := hbs2 (by omega)
          have her2 := HE2.out hs2
          have her1 := HE1.out hs1
          subst her2; subst her1
          obtain ⟨s, hs⟩ : ∃ s, base.extract at_.toNat (at_ + nn).toNat = s := ⟨_, rfl⟩
          have hsz : s.size ≤ 1099511627776 := by rw [← hs]; simp; omega
          rw [hs] at HR
          have HS := As.mk hs
          clear hs1 hs2 hbs2 hs
          have HJz : As (J pre wz) := HJc
          have HRpz := HRpc
          have HBpz := HBpc
          have HGsz := HGsc
          have HRdz := hrd4'
          have hq1 := leftL_len (leftL l r1) r2
          have hq2 := leftL_len l r1
          have H8z : As (∀ x ∈ leftL (leftL l r1) r2, 0 ≤ x ∧ x < 256) := ⟨fun x hx => H8l.out x (leftL_mem l r1 x (leftL_mem _ r2 x hx))⟩
          obtain ⟨lz, hlz0⟩ : ∃ lz, leftL (leftL l r1) r2 = lz := ⟨_, rfl⟩
          rw [hlz0] at HR HRdz H8z hq1
          have hlz : lz.length < f1 := by omega
          have hlz2 : lz.length < l.length + 1 := by omega
          clear hlz0 hq1 hq2 hrd4'
      case' neg =>
        by_cases hbad : k = 0 ∨ 128 < k ∨ l.length < k
        case' pos =>
          have hrun : runS base (f1 + 1) ((k : Int) :: l) = ([], false) := by
            rw [runS, if_neg (by omega), if_pos (by omega)]
          rw [hrun] at HR
          clear hrun
          have e1 : ((k : Int) == 128) = false := beq_eq_false_iff_ne.2 (by omega)
          obtain ⟨q1, q2⟩ := HRd2.out.err (.cells #[.string ⟨#[105, 110, 115, 101, 114, 116]⟩] 48)
          obtain ⟨q3, q4⟩ := HRd2.out.broke ⟨#[105, 110, 115, 101, 114, 116]⟩ (some ⟨wa.heap.size, 0, none⟩)
          obtain ⟨q5, q6⟩ := HRd2.out.broke2 ⟨#[105, 110, 115, 101, 114, 116]⟩ (some ⟨wa.heap.size, 0, none⟩)
          have Q5 := As.mk q5
          have Q6 := As.mk q6
          clear q5 q6
          have Q3 := As.mk q3
          have Q4 := As.mk q4
          clear q3 q4
          rcases (show k = 0 ∨ (¬ k = 0 ∧ 128 < k) ∨ (¬ k = 0 ∧ ¬ 128 < k ∧ l.length < k) by omega) with hk | ⟨hk, hk'⟩ | ⟨hk, hk', hk''⟩
          · subst hk
            go_wp2_with (fail)
            refine bodyPost_ret (results_none rfl _ _ _) rfl ?_
            first
              | exact ⟨⟨_, rfl⟩, .inl ⟨pre, IterS.bad HR.out Q3.out, HJ.out pre _ _ HJ2.out Q4.out Q3.out.sh⟩⟩
              | exact ⟨⟨_, rfl⟩, .inl ⟨pre, IterS.bad HR.out Q5.out, HJ.out pre _ _ HJ2.out Q6.out Q5.out.sh⟩⟩
          · have e2 : ((k : Int) == 0) = false := beq_eq_false_iff_ne.2 (by omega)
            have e3 : (128 : Int) < k := by omega
            go_wp2_with (fail)
            refine bodyPost_ret (results_none rfl _ _ _) rfl ?_
            first
              | exact ⟨⟨_, rfl⟩, .inl ⟨pre, IterS.bad HR.out Q3.out, HJ.out pre _ _ HJ2.out Q4.out Q3.out.sh⟩⟩
              | exact ⟨⟨_, rfl⟩, .inl ⟨pre, IterS.bad HR.out Q5.out, HJ.out pre _ _ HJ2.out Q6.out Q5.out.sh⟩⟩
          · have e2 : ((k : Int) == 0) = false := beq_eq_false_iff_ne.2 (by omega)
            have e3 : decide ((128 : Int) < k) = false := decide_eq_false (by omega)
            have e4 : (l.length : Int) < k := by omega
            go_wp2_with (fail)
            refine bodyPost_ret (results_none rfl _ _ _) rfl ?_
            first
              | exact ⟨⟨_, rfl⟩, .inl ⟨pre, IterS.bad HR.out Q3.out, HJ.out pre _ _ HJ2.out Q4.out Q3.out.sh⟩⟩
              | exact ⟨⟨_, rfl⟩, .inl ⟨pre, IterS.bad HR.out Q5.out, HJ.out pre _ _ HJ2.out Q6.out Q5.out.sh⟩⟩
        case' neg =>
          have e0 : ((k : Int) == 0) = false := beq_eq_false_iff_ne.2 (by omega)
          have e1 : ((k : Int) == 128) = false := beq_eq_false_iff_ne.2 (by omega)
          have e2 : decide (128 < (k : Int)) = false := decide_eq_false (by omega)
          have e3 : decide ((l.length : Int) < (k : Int)) = false := decide_eq_false (by omega)
          have e4 : k ≤ c2 := by omega
          have e5 : (k : Int) ≤ c2 := by omega
          have hkl : k ≤ l.length := by omega
          have hkl2 : (k : Int) ≤ (l.length : Int) := by omega
          have hcv : (convert 29 9 (.slice (some ⟨g, o2, none⟩) k c2)).run Try.prog wa = .ok (.string (strOfNums (l.take k))) wa := by
            have := Kd.C_string (P := Try.prog) (c := c2) Try.underlying29 Try.underlying5 Try.underlying9 (Kd.C_take (HW2.out.C (by omega)) hkl)
            rw [List.length_take_of_le hkl] at this
            exact this
          have hsl : ∃ o3, (if c2 = k then some (⟨g, o2, none⟩ : Addr) else some ⟨g, o2 + k, none⟩) = some ⟨g, o3, none⟩ ∧ Rw wa g o3 (l.drop k) := by
            by_cases h : c2 = k
            · rw [if_pos h]
              refine ⟨o2, rfl, ?_⟩
              rw [List.drop_of_length_le (by omega)]; exact Rw.nil _ _ _
            · rw [if_neg h]
              exact ⟨o2 + k, rfl, HW2.out.drop k⟩
          obtain ⟨o3, ho3, hw3⟩ := hsl
          have HW3 := As.mk hw3
          clear hw3
          have hrun : runS base (f1 + 1) ((k : Int) :: l) = (strOfNums (l.take k) :: (runS base f1 (l.drop k)).1, (runS base f1 (l.drop k)).2) := by
            rw [runS, if_neg (by omega), if_neg (by omega), show (k : Int).toNat = k by omega]
          rw [hrun] at HR
          obtain ⟨s, hs⟩ : ∃ s, strOfNums (l.take k) = s := ⟨_, rfl⟩
          have hsz : s.size ≤ 1099511627776 := by rw [← hs, strOfNums_size, List.length_take]; omega
          rw [hs] at hcv HR
          clear hs hrun
          go_wp2_with (fail)
          go_region
          have hrdz : Rdr (wa.setCell ⟨rb, 0, none⟩ (.slice (some ⟨g, o3, none⟩) (l.length - k) (c2 - k))).drew rb g (l.drop k) .nilIface :=
            Rdr.drew ⟨⟨o3, c2 - k, by rw [List.length_drop]; exact set_0 HRb2.out, by rw [List.length_drop]; omega, HW3.out.kept (Below.heap_setCell _ _ _ _ (fun e => HRd2.out.ne e.symm))⟩, HRd2.out.ne⟩
          have hgz : wa.grownBy (wa.setCell ⟨rb, 0, none⟩ (.slice (some ⟨g, o3, none⟩) (l.length - k) (c2 - k))).drew (some rb) := grown_drew (grown_set wa ⟨rb, 0, none⟩ _)
          obtain ⟨wz, hwz⟩ : ∃ wz, (wa.setCell ⟨rb, 0, none⟩ (.slice (some ⟨g, o3, none⟩) (l.length - k) (c2 - k))).drew = wz := ⟨_, rfl⟩
          rw [hwz] at hrdz hgz ⊢
          clear hwz ho3
          have HJz : As (J pre wz) := ⟨HJ.out pre wa wz HJ2.out hgz hrdz.sh⟩
          have HRpz : As (wz.heap[rp]? = some (.cells #[.pointer (some ⟨rb, 0, none⟩)] 34 (0, 0))) := ⟨(hgz.block rp (Array.getElem?_eq_some_iff.1 HRp2.out).1 (fun e => hnw.out.1 (by cases e; rfl))).trans HRp2.out⟩
          have HBpz : As (wz.heap[bp]? = some (.cells #[.string base] 9 (0, 0))) := ⟨(hgz.block bp (Array.getElem?_eq_some_iff.1 HBp2.out).1 (fun e => hnw.out.2 (by cases e; rfl))).trans HBp2.out⟩
          have HGsz : As (wz.heap[g]? = some (.cells gs 5 fz)) := ⟨(hgz.block g (Array.getElem?_eq_some_iff.1 HGs2.out).1 (fun e => HRd2.out.ne (by cases e; rfl))).trans HGs2.out⟩
          have HRdz := As.mk hrdz
          have hlz : (l.drop k).length < f1 := by rw [List.length_drop]; omega
          have hlz2 : (l.drop k).length < l.length + 1 := by rw [List.length_drop]; omega
          have H8z : As (∀ x ∈ l.drop k, 0 ≤ x ∧ x < 256) := ⟨fun x hx => H8l.out x (List.mem_of_mem_drop hx)⟩
          obtain ⟨lz, hlzz⟩ : ∃ lz, l.drop k = lz := ⟨_, rfl⟩
          rw [hlzz] at HR HRdz hlz hlz2 H8z
          clear hlzz hrdz hgz
      all_goals
        have hyv := HY.out pre ⟨s, hsz⟩ wz HJz.out
        obtain ⟨fn, tmps, assign, body, hy, hRd⟩ := hyv
        dsimp only at hy
        go_upto_region 15 with fail
        try rw [HS.out]
        refine (wpIn_wide (n := n)).1 ?_
        gi_wp2
        refine ⟨(fun h => (by cases h)), hRd.mono ?_⟩
        clear hRd hy
        rintro e wy (⟨rfl, hJy, hky⟩ | ⟨rfl, hJxy⟩)
        · obtain ⟨oz, cz, hrbz, _⟩ := HRdz.out.at_
          have e1 : wy.heap[rb]? = wz.heap[rb]? := by
            rw [hrbz]; exact hky rb _ _ _ hrbz HN.out.1 (fun h => by cases h)
          have e2 : wy.heap[g]? = wz.heap[g]? := by
            rw [HGsz.out]; exact hky g _ _ _ HGsz.out (Nat.ne_of_lt hgb) (fun _ => hgb)
          have HRdy : As (Rdr wy rb g lz .nilIface) := ⟨HRdz.out.kept e1 (fun _ => e2)⟩
          have HGsy : As (wy.heap[g]? = some (.cells gs 5 fz)) := ⟨e2.trans HGsz.out⟩
          have HRpy : As (wy.heap[rp]? = some (.cells #[.pointer (some ⟨rb, 0, none⟩)] 34 (0, 0))) := ⟨hky rp _ _ _ HRpz.out HN.out.2.1 (fun h => by cases h)⟩
          have HBpy : As (wy.heap[bp]? = some (.cells #[.string base] 9 (0, 0))) := ⟨hky bp _ _ _ HBpz.out HN.out.2.2 (fun h => by cases h)⟩
          have HJy := As.mk hJy
          clear hrbz e1 e2 hky hJy
          gi_wp2
          go_wp2_with (fail)
          refine ⟨⟨pre ++ [⟨s, hsz⟩], lz, f1, by omega, by omega, H8z, ⟨by rw [HR.out]; simp⟩, HRdy, HRpy, HBpy, HJy, HGsy⟩, ?_⟩
          rw [HRdy.out.len, hmeas]
          omega
        · have HJxy := As.mk hJxy
          clear hJxy
          gi_wp2
          go_wp2_with (fail)
          refine bodyPost_ret (results_none rfl _ _ _) rfl ?_
          exact ⟨⟨_, rfl⟩, .inr ⟨_, ⟨(runS base f1 lz).1, by rw [HR.out]; simp⟩, HJxy.out⟩⟩
end Go.Proofs.Yticagpejankjcaa.Db
