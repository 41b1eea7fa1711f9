/- A block of cells, whole: what is read of it, and what becomes of it. No condition. -/
import Derived.Below
import Derived.Laws.Tables
import Derived.WalkKit
import Derived.Deep.Draws
namespace Go.Proofs.Ytnajnjjkgojphaa.Blk
set_option linter.unusedVariables false
set_option linter.unusedSimpArgs false
open Go Go.RowKit

/-- A fact kept from the walk. -/
structure As (p : Prop) : Prop where
  out : p

/-- Block b is a row of cells of type T, none of them frozen. -/
def Row (w : World) (b T : Nat) (xs : List Value) : Prop := w.heap[b]? = some (.cells xs.toArray T (0, 0))

variable {w w' : World} {b T : Nat} {xs : List Value}

theorem Row.lt (h : Row w b T xs) : b < w.heap.size := (Array.getElem?_eq_some_iff.1 h).1
theorem Row.cell (h : Row w b T xs) {i : Nat} {v : Value} (hi : xs[i]? = some v) : w.cell? ⟨b, i, none⟩ = some v := by
  unfold Row at h
  simp [World.cell?, h, hi]
theorem Row.free (h : Row w b T xs) (i : Nat) (s : Option Nat) : w.frozen? ⟨b, i, s⟩ = false := by
  unfold Row at h
  simp [World.frozen?, h]
theorem Row.set (h : Row w b T xs) (i : Nat) (v : Value) : Row (w.setCell ⟨b, i, none⟩ v) b T (xs.set i v) := by
  unfold Row at *
  simp [World.setCell, Array.getElem?_modify, h]
theorem Row.set_ne (h : Row w b T xs) {a : Addr} (hb : a.block ≠ b) (v : Value) : Row (w.setCell a v) b T xs := by
  unfold Row at *
  simp only [World.setCell, Array.getElem?_modify]
  rw [if_neg hb]; exact h
theorem Row.alloc (h : Row w b T xs) (o : Obj) : Row (w.alloc o) b T xs := by
  have := Row.lt h
  unfold Row at *
  show (w.heap.push o)[b]? = _
  rw [Array.getElem?_push, if_neg (by omega)]; exact h
theorem Row.new (w : World) (xs : List Value) (T : Nat) : Row (w.alloc (.cells xs.toArray T (0, 0))) w.heap.size T xs := by
  unfold Row
  show (w.heap.push _)[w.heap.size]? = _
  simp
theorem Row.drew (h : Row w b T xs) : Row w.drew b T xs := h
theorem Row.drewN (h : Row w b T xs) (n : Nat) : Row (w.drewN n) b T xs := by
  unfold Row at *
  simpa [World.drewN] using h
theorem Row.below (h : Row w b T xs) {B : Nat} (hb : b < B) (hB : Below B w w') : Row w' b T xs := by
  unfold Row at *
  rw [hB.block b hb]; exact h
theorem Row.below' (h : Row w b T xs) (hB : Below w.heap.size w w') : Row w' b T xs := h.below h.lt hB
theorem Row.grown {row : Option Nat} (h : Row w b T xs) (hg : w.grownBy w' row) (hr : row ≠ some b) : Row w' b T xs := by
  have hl := h.lt
  unfold Row at *
  rw [hg.block b hl (fun e => hr e.symm)]; exact h

theorem add_block (a : Addr) (n : Nat) : (a.add n).block = a.block := by
  unfold Addr.add; split <;> rfl
theorem cell_set_ne (w : World) (a b : Addr) (v : Value) (h : b.block ≠ a.block) : (w.setCell a v).cell? b = w.cell? b :=
  World.cell?_of_block (w := w) (Below.heap_setCell w a v b.block h)
theorem pw_drewN {B : Nat} {x : World} (h : Below B x w) (n : Nat) : Below B x (w.drewN n) := by
  refine h.trans ⟨?_, ?_, ?_, ?_, ?_⟩ <;> simp [World.drewN]

theorem Row.setRow_ne (h : Row w b T xs) {g : Nat} (hn : b ≠ g) (cs : Array Value) : Row (w.setRow g cs) b T xs := by
  unfold Row at *
  rw [setRow_other w g b cs hn]; exact h

/-- Only block b may have turned below B. -/
structure But (B b : Nat) (w w' : World) : Prop where
  os : w'.os = w.os
  tape : w'.tape = w.tape
  output : w'.output = w.output
  size : w.heap.size ≤ w'.heap.size
  block : ∀ k, k < B → k ≠ b → w'.heap[k]? = w.heap[k]?

theorem But.refl (B b : Nat) (w : World) : But B b w w := ⟨rfl, rfl, rfl, Nat.le_refl _, fun _ _ _ => rfl⟩
theorem But.trans {B b : Nat} {x y z : World} (h : But B b x y) (k : But B b y z) : But B b x z :=
  ⟨k.os.trans h.os, k.tape.trans h.tape, k.output.trans h.output, Nat.le_trans h.size k.size, fun i hi hb => (k.block i hi hb).trans (h.block i hi hb)⟩
theorem But.of_below {B b : Nat} (h : Below B w w') : But B b w w' := ⟨h.os, h.tape, h.output, h.size, fun k hk _ => h.block k hk⟩
theorem But.below {B b B' : Nat} (h : But B b w w') (hb : B' ≤ b) (hB : B' ≤ B) : Below B' w w' := ⟨h.os, h.tape, h.output, h.size, fun k hk => h.block k (by omega) (by omega)⟩
theorem But.mono {B b B' : Nat} (h : But B b w w') (hB : B' ≤ B) : But B' b w w' := ⟨h.os, h.tape, h.output, h.size, fun k hk => h.block k (by omega)⟩
theorem But.drew {B b : Nat} {x : World} (h : But B b x w) : But B b x w.drew := ⟨h.os, h.tape, h.output, h.size, h.block⟩
theorem But.drewN {B b : Nat} {x : World} (h : But B b x w) (n : Nat) : But B b x (w.drewN n) := by
  refine h.trans ⟨?_, ?_, ?_, ?_, ?_⟩ <;> simp [World.drewN]
theorem But.alloc {B b : Nat} {x : World} (h : But B b x w) (hB : B ≤ w.heap.size) (o : Obj) : But B b x (w.alloc o) :=
  h.trans (.of_below ((Below.refl B w).alloc hB o))
theorem But.setCell {B b : Nat} {x : World} (h : But B b x w) {p : Addr} (hp : p.block = b ∨ B ≤ p.block) (u : Value) : But B b x (w.setCell p u) := by
  refine h.trans ⟨rfl, rfl, rfl, by simp [World.setCell], fun k hk hb => ?_⟩
  exact Below.heap_setCell _ _ _ _ (by omega)
theorem Row.but {B b' : Nat} (h : Row w b T xs) (hb : b < B) (hn : b ≠ b') (hB : But B b' w w') : Row w' b T xs := by
  unfold Row at *
  rw [hB.block b hb hn]; exact h

end Go.Proofs.Ytnajnjjkgojphaa.Blk
