/- A region that draws its order, walked in the class of all worlds that have old memory as it was. No condition. -/
import Derived.Test.YtnajnjjkgojphaaQTail
import Derived.Test.YtnajnjjkgojphaaRows2
import Derived.Laws.Rows
import Derived.Laws.StructEq
namespace Go.Proofs.Ytnajnjjkgojphaa.QS
set_option linter.unusedVariables false
set_option linter.unusedSimpArgs false
open Go Go.RowKit

/-- The worlds in which what there is in W is as it was. -/
structure S (W : World) where
  val : World
  below : Below W.heap.size W val
instance (W : World) : Nonempty (S W) := ⟨⟨W, Below.refl _ _⟩⟩
abbrev C (W : World) : World → Prop := fun w' => ∃ x : S W, w' = x.1

theorem S.drew (W : World) : C W { W with drawn := W.drawn + 1 } := ⟨⟨W.drew, (Below.refl _ _).drew⟩, rfl⟩

section
variable {P : Program}
/-- All operations only read, or call what keeps old memory. -/
theorem region {id : Nat} {Q : Exit → Act → World → Prop} {a : Act} {W : World} {l : List Oper} (hm : P.follows .mixedOrders = true) (hB : Region.lexB .any l.toArray = true)
    (h : wpQuiet P l.toArray (fun w' => ∃ x : S W, w' = x.1) (fun a' => ∀ w', (∃ x : S W, w' = x.1) → Q .normal a' w') l a) : (Code.region id l.toArray true).wp P Q a W :=
  wp_region_quiet (C := C W) hm hB (S.drew W) h

/-- .. up to n, then one forced order. -/
theorem region_tail {id : Nat} {Q : Exit → Act → World → Prop} {a : Act} {W : World} {l : List Oper} (n : Nat) (hm : P.follows .mixedOrders = true) (hB : Region.lexTailB .any l.toArray n = true)
    (h : wpQuiet P l.toArray (fun w' => ∃ x : S W, w' = x.1) (fun a' => ∀ w', (∃ x : S W, w' = x.1) → wpList P l.toArray Q (l.drop n) a' w') (l.take n) a) : (Code.region id l.toArray true).wp P Q a W :=
  QTail.wp_region (C := C W) n hm hB (S.drew W) h

/-- A callee that keeps old memory, met in a world of the class. -/
theorem quiet {f : FuncId} {args : Array Value} {W : World} {x : S W} {v : Value}
    (h : Calls P f args x.1 fun e w' => e = .returned v ∧ Below x.1.heap.size x.1 w') : Calls P f args x.1 fun e w'' => e = .returned v ∧ ∃ y : S W, w'' = y.1 :=
  h.mono fun _ w' ⟨he, hb⟩ => ⟨he, ⟨w', x.2.trans (hb.mono x.2.size)⟩, rfl⟩
/-- An operation that is run by an equation. -/
theorem quiet_run {o : Oper} {a : Act} {W : World} {K : Act → Prop} (v : Value) (h : ∀ x : S W, (execOp a.eval o).run P x.1 = .ok (.value v) x.1) (hK : K (a.put o.dst v)) :
    o.quiet P a (fun w' => ∃ x : S W, w' = x.1) K := by
  refine ⟨v, ?_, hK⟩
  rintro _ ⟨x, rfl⟩
  unfold Oper.quietAt
  rw [h x]
  exact ⟨rfl, rfl⟩
theorem run_load_row {o : Oper} {a : Act} {w : World} (ty : TypeId) (x : Operand) (ho : o.op = .load ty x) (g : Nat) (hx : a.eval x = .pointer (some ⟨g, 0, none⟩)) (t : TypeId) (cs : Array Value) (fr : Nat × Nat) (d : TypeDesc)
    (hg : w.heap[g]? = some (.cells cs t fr)) (hu : P.underlying ty = some d) (hd : (match d with | .struct _ | .array _ _ => true | _ => false) = true) (hi : (P.info? ty).map (·.size) = some cs.size) :
    (execOp a.eval o).run P w = .ok (.value (.agg cs)) w := by
  unfold execOp
  simp only [ho, hx, Instr.loadAt, Instr.sureAddr, Sem.run_bind, Sem.run_pure, Result.andThen_ok, run_loadVar_row w g t ty cs fr d hg hu hd hi]
theorem run_eql_agg {o : Oper} {a : Act} {w : World} (tx ty : TypeId) (x y : Operand) (ho : o.op = .binOp .eql tx x y ty) (xs ys : Array Value) (r : Value) (hx : a.eval x = .agg xs) (hy : a.eval y = .agg ys)
    (hm : P.eqGuardType P.depth tx = false) (h : (binOp .eql tx (.agg xs) (.agg ys)).run P w = .ok r w) : (execOp a.eval o).run P w = .ok (.value r) w := by
  unfold execOp
  simp only [ho, hx, hy, Sem.run_bind, Sem.run_pure, run_eqGuard_agg w .eql tx x y xs ys hm, Result.andThen_ok, h]
theorem run_conv {o : Oper} {a : Act} {w : World} (src dst : TypeId) (x : Operand) (ho : o.op = .convert src dst x) (v r : Value) (hx : a.eval x = v) (h : (convert src dst v).run P w = .ok r w) : (execOp a.eval o).run P w = .ok (.value r) w := by
  unfold execOp
  simp only [ho, hx, Sem.run_bind, Sem.run_pure, Result.andThen_ok, h]
end
end Go.Proofs.Ytnajnjjkgojphaa.QS
