/- A region that draws its order and holds calls that make memory, over the kit's printed steps: what is known to hold may be changed on the way (to all that extends the world now reached). No condition. -/
import Derived.Test.YticagpejankjcaaWLast
import Derived.Below
namespace Go.Proofs.Yticagpejankjcaa.RegW
set_option linter.unusedVariables false
open Go Go.RowKit Go.Proofs.YticagpejankjcaaW.PrintLast
section
variable {P : Program} {ops : Array Oper} {Q : Exit → Act → World → Prop} {md : Region.Mode}
theorem change_all {S Z : World → Prop} (hZS : ∀ w, Z w → S w) : ∀ (fuel : Nat) (l : Array Bool) (a : Act) (w : World), Z w → wpAnyLast P md ops Q Z [] fuel l a w → wpAnyLast P md ops Q S [] fuel l a w
  | 0, _, _, _, _, h => h
  | fuel + 1, l, a, w, hz, h => ⟨h.1, fun i hi => wpOp_mono (fun a' w' h' => by
      have hz' : Z w' := h'.1 (by simp) hz
      exact ⟨fun _ _ => hZS w' hz', change_all hZS fuel _ a' w' hz' h'.2⟩) (h.2 i hi)⟩
/-- One behind the other. -/
theorem thru {w w1 w2 : World} (h : Below w.heap.size w w1) (k : Below w1.heap.size w1 w2) : Below w.heap.size w w2 := h.trans (k.mono h.size)
/-- From here on: whatever extends the world that is reached now. -/
theorem change_ {w0 w : World} {fuel : Nat} {l : Array Bool} {a : Act} (hb : Below w0.heap.size w0 w)
    (h : wpAnyLast P md ops Q (fun w' => Below w.heap.size w w') [] fuel l a w) : wpAnyLast P md ops Q (fun w' => Below w0.heap.size w0 w') [] fuel l a w :=
  change_all (fun _ h => hb.trans (h.mono hb.size)) fuel l a w (Below.refl _ _) h
end
end Go.Proofs.Yticagpejankjcaa.RegW
