/- The reader's num: the next number, the reader's slice moved on, or its error set. No condition but the reach of what comes in. -/
import Derived.Test.YticagpejankjcaaDelNum
import Derived.Test.YticagpejankjcaaDelIs
namespace Go.Proofs.Yticagpejankjcaa.Db
set_option linter.unusedVariables false
set_option linter.unusedSimpArgs false
open Go.RowKit Go.Proofs.YticagpejankjcaaW.PrintWords Go.Proofs.YticagpejankjcaaW.PrintLast Go.Proofs.YticagpejankjcaaW.PrintMore

/-- Block g's cells from o on are these bytes. -/
def Rw (w : World) (g o : Nat) (l : List Int) : Prop := ∀ (j : Nat) (x : Int), l[j]? = some x → w.cell? ⟨g, o + j, none⟩ = some (.int .u8 x)
theorem add_o (g o j : Nat) : (⟨g, o, none⟩ : Addr).add j = ⟨g, o + j, none⟩ := by
  unfold Addr.add
  split <;> simp_all
theorem Rw.C {w : World} {g o : Nat} {l : List Int} (h : Rw w g o l) (hl : l.length ≤ 9223372036854775807) : (Kd.int .u8).C w (some ⟨g, o, none⟩) l.length l := by
  refine Kd.C_of_reads (enc := Value.int .u8) (d := (0 : Int)) ⟨rfl, hl, fun _ => ⟨_, rfl, fun j hj => ?_⟩⟩
  rw [add_o]
  have hj2 : j < l.length := hj
  rw [h j l[j] (List.getElem?_eq_getElem hj2)]
  simp [hj2]
theorem Rw.kept {w w' : World} {g o : Nat} {l : List Int} (h : Rw w g o l) (e : w'.heap[g]? = w.heap[g]?) : Rw w' g o l := fun j x hx => by
  have := h j x hx
  unfold World.cell? at this ⊢
  rw [e]; exact this
theorem Rw.drop {w : World} {g o : Nat} {l : List Int} (h : Rw w g o l) (k : Nat) : Rw w g (o + k) (l.drop k) := fun j x hx => by
  rw [List.getElem?_drop] at hx
  rw [Nat.add_assoc]
  exact h (k + j) x hx
theorem Rw.nil (w : World) (g o : Nat) : Rw w g o [] := fun j x hx => by simp at hx
theorem Rw.lt {w : World} {g o : Nat} {l : List Int} (h : Rw w g o l) (hl : 0 < l.length) : g < w.heap.size := by
  have := h 0 l[0] (List.getElem?_eq_getElem hl)
  unfold World.cell? at this
  rcases Nat.lt_or_ge g w.heap.size with h1 | h1
  · exact h1
  · simp [Array.getElem?_eq_none h1] at this
/-- A reader: what it has left, and its error. -/
structure Rdr (w : World) (rb g : Nat) (l : List Int) (er : Value) : Prop where
  at_ : ∃ o c, w.heap[rb]? = some (.cells #[.slice (some ⟨g, o, none⟩) l.length c, er] 38 (0, 0)) ∧ l.length ≤ c ∧ Rw w g o l
  ne : rb ≠ g
theorem set_1 {w : World} {b : Nat} {x y v : Value} {T : TypeId} {fr : Nat × Nat} (h : w.heap[b]? = some (.cells #[x, y] T fr)) : (w.setCell ⟨b, 1, none⟩ v).heap[b]? = some (.cells #[x, v] T fr) := by
  simp [World.setCell, Array.getElem?_modify, h]
theorem set_0 {w : World} {b : Nat} {x y v : Value} {T : TypeId} {fr : Nat × Nat} (h : w.heap[b]? = some (.cells #[x, y] T fr)) : (w.setCell ⟨b, 0, none⟩ v).heap[b]? = some (.cells #[v, y] T fr) := by
  simp [World.setCell, Array.getElem?_modify, h]
theorem grown_set (w : World) (p : Addr) (v : Value) : w.grownBy (w.setCell p v) (some p.block) :=
  ⟨rfl, rfl, rfl, by simp [World.setCell], fun k _ hk => Below.heap_setCell _ _ _ _ (fun e => hk (by rw [e]))⟩
theorem grown_trans {a b c : World} {r : Option Nat} (h : a.grownBy b r) (k : b.grownBy c r) : a.grownBy c r :=
  ⟨k.os.trans h.os, k.tape.trans h.tape, k.output.trans h.output, Nat.le_trans h.size k.size, fun i hi hr => (k.block i (Nat.lt_of_lt_of_le hi h.size) hr).trans (h.block i hi hr)⟩
theorem grown_below {a b : World} (h : Below a.heap.size a b) (r : Option Nat) : a.grownBy b r := ⟨h.os, h.tape, h.output, h.size, fun i hi _ => h.block i hi⟩
theorem Rdr.lt {w : World} {rb g : Nat} {l : List Int} {er : Value} (h : Rdr w rb g l er) : rb < w.heap.size := by
  obtain ⟨o, c, hr, _⟩ := h.at_
  exact (Array.getElem?_eq_some_iff.1 hr).1
/-- Whatever leaves both blocks keeps a reader. -/
theorem Rdr.kept {w w' : World} {rb g : Nat} {l : List Int} {er : Value} (h : Rdr w rb g l er) (e1 : w'.heap[rb]? = w.heap[rb]?) (e2 : 0 < l.length → w'.heap[g]? = w.heap[g]?) : Rdr w' rb g l er := by
  obtain ⟨o, c, hr, hc, hw⟩ := h.at_
  refine ⟨⟨o, c, e1.trans hr, hc, ?_⟩, h.ne⟩
  rcases l with _ | ⟨x, l⟩
  · exact Rw.nil _ _ _
  · exact hw.kept (e2 (by simp))
theorem Rdr.below {w w' : World} {rb g : Nat} {l : List Int} {er : Value} (h : Rdr w rb g l er) (hb : Below w.heap.size w w') : Rdr w' rb g l er := by
  refine h.kept (hb.block rb h.lt) (fun hl => ?_)
  obtain ⟨o, c, hr, hc, hw⟩ := h.at_
  exact hb.block g (hw.lt hl)

def NumLeft (w' : World) (rb g : Nat) (l : List Int) (er : Value) : Option (Int × Nat) → Prop
  | none => ∃ a, Rdr w' rb g l (.iface 46 (.pointer a))
  | some (_, k) => Rdr w' rb g (l.drop k) er

set_option maxHeartbeats 4000000 in
set_option maxRecDepth 100000 in
theorem rnum_calls (rb g : Nat) (er : Value) (l : List Int) (r : Option (Int × Nat)) (w : World) (hr : Rdr w rb g l er) (hl : l.length ≤ 1099511627776) (h8 : ∀ x ∈ l, 0 ≤ x ∧ x < 256) (hg : getR l 0 0 = r) :
    Calls Try.prog 15 #[.pointer (some ⟨rb, 0, none⟩)] w fun e w' => e = .returned (.int .i64 (tri r).1) ∧ w.grownBy w' (some rb) ∧ NumLeft w' rb g l er r := by
  obtain ⟨⟨o, c, hr0, hc, hw⟩, hne⟩ := hr
  have H8 := As.mk h8
  have HW := As.mk hw
  clear h8 hw
  have c0 : w.cell? ⟨rb, 0, none⟩ = some (.slice (some ⟨g, o, none⟩) l.length c) := by rw [Lib.cell_of_heap hr0]; rfl
  have f0 : w.frozen? ⟨rb, 0, none⟩ = false := Lib.frozen_of_heap hr0 0
  have HG := As.mk hg
  have HR := As.mk hr0
  clear hg hr0
  go_enter Try.func15, Try.ntmps15
  go_wp2_with (fail)
  refine (get_at (some ⟨g, o, none⟩) c l.length l r _ rfl (HW.out.C (by omega)) hc H8.out HG.out).mono ?_
  rintro e w1 ⟨rfl, hb⟩
  have hr1 : w1.heap[rb]? = some (.cells #[.slice (some ⟨g, o, none⟩) l.length c, er] 38 (0, 0)) := by
    rw [hb.block rb (Array.getElem?_eq_some_iff.1 HR.out).1]; exact HR.out
  have hlt : rb < w1.heap.size := (Array.getElem?_eq_some_iff.1 hr1).1
  have c0 : w1.cell? ⟨rb, 0, none⟩ = some (.slice (some ⟨g, o, none⟩) l.length c) := by rw [Lib.cell_of_heap hr1]; rfl
  have f0 : w1.frozen? ⟨rb, 0, none⟩ = false := Lib.frozen_of_heap hr1 0
  have hw1 : Rw w1 g o l := by
    rcases l with _ | ⟨x, l⟩
    · exact Rw.nil _ _ _
    · exact HW.out.kept (hb.block g (HW.out.lt (by simp)))
  have HG1 := As.mk (grown_below hb (some rb))
  have HB := As.mk hb
  have HR1 := As.mk hr1
  have HW1 := As.mk hw1
  clear hb hr1 hw1
  rcases r with _ | ⟨n, k⟩
  · simp only [tri]
    have hr2 : (w1.alloc (.cells #[.string ⟨#[110, 117, 109, 98, 101, 114]⟩] 48)).heap[rb]? = some (.cells #[.slice (some ⟨g, o, none⟩) l.length c, er] 38 (0, 0)) := by
      rw [Lib.alloc_old w1 _ rb hlt]; exact HR1.out
    have c1 : (w1.alloc (.cells #[.string ⟨#[110, 117, 109, 98, 101, 114]⟩] 48)).cell? ⟨rb, 1, none⟩ = some er := by rw [Lib.cell_of_heap hr2]; rfl
    have f1 : (w1.alloc (.cells #[.string ⟨#[110, 117, 109, 98, 101, 114]⟩] 48)).frozen? ⟨rb, 1, none⟩ = false := Lib.frozen_of_heap hr2 1
    have HR2 := As.mk hr2
    clear hr2
    go_wp2_with (fail)
    go_ret
    refine ⟨rfl, ?_, some ⟨w1.heap.size, 0, none⟩, ⟨⟨o, c, ?_, hc, ?_⟩, hne⟩⟩
    · exact grown_trans HG1.out (grown_trans (grown_set w1 ⟨rb, 1, none⟩ _) (World.grownBy_alloc _ _ _))
    · rw [Lib.alloc_old _ _ rb (by simp [World.setCell]; exact hlt)]
      exact set_1 HR1.out
    · rcases l with _ | ⟨x, l⟩
      · exact Rw.nil _ _ _
      · have hgl := HW1.out.lt (by simp)
        refine HW1.out.kept ?_
        rw [Lib.alloc_old _ _ g (by simp [World.setCell]; exact hgl)]
        exact Below.heap_setCell _ _ _ _ (fun e => hne e.symm)
  · obtain ⟨hk0, hk1, _, hz0, hz1⟩ := get_back l n k H8.out HG.out
    simp only [tri]
    have fin : ∀ (o' c' : Nat), (l.drop k).length ≤ c' → Rw w1 g o' (l.drop k) → w.grownBy (w1.setCell ⟨rb, 0, none⟩ (.slice (some ⟨g, o', none⟩) (l.length - k) c')) (some rb) ∧ Rdr (w1.setCell ⟨rb, 0, none⟩ (.slice (some ⟨g, o', none⟩) (l.length - k) c')) rb g (l.drop k) er := fun o' c' hc' hw' => by
      refine ⟨grown_trans HG1.out (grown_set w1 ⟨rb, 0, none⟩ _), ⟨⟨o', c', ?_, hc', ?_⟩, hne⟩⟩
      · rw [List.length_drop]; exact set_0 HR1.out
      · exact hw'.kept (Below.heap_setCell _ _ _ _ (fun e => hne e.symm))
    have FIN := As.mk fin
    clear fin
    go_wp2_with (fail)
    all_goals go_ret
    all_goals refine ⟨rfl, ?_⟩
    all_goals first
      | exact FIN.out _ _ (by rw [List.length_drop]; omega) (HW1.out.drop k)
      | exact FIN.out _ _ (by rw [List.length_drop]; omega) (by rw [List.drop_of_length_le (by omega)]; exact Rw.nil _ _ _)
end Go.Proofs.Yticagpejankjcaa.Db
