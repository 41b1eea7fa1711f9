/- Joined texts: ObErr. No condition but what stands in each. -/
import Derived.Test.YtehmhfbfgniekaaGreatDoorProg
import Derived.Below
import Derived.Deep.Draws
import Derived.Deep.AppendLies
import Derived.Maps.AppendAt
import Derived.OwnWalk
import Derived.Laws.BytesArg
import Derived.Laws.MakeOwn
import Derived.Laws.OwnMore
import Derived.Deep.OwnRows
import Derived.Tactics
import Derived.Lib.ConvBytes
import Derived.Laws.Slices
import Derived.WalkKit
import Derived.KernelRfl
import Derived.RowKit3
import Derived.Deep.LoopGhost
import Derived.Deep.QuietTactic
import Derived.BigQuiet
import Derived.WideLaws
import Derived.Deep.DeepCutAuto
import Derived.Deep.CutBlock
import Derived.Deep.RegionHeld3
import Derived.Laws.Rows
import Derived.Lib.AppendStr
import Derived.ArgAppend
import Derived.Laws.IdiomCopy
import Derived.OrdersHeld
import Derived.Laws.BitsLemmas
import Derived.RowKit
import Derived.Test.YtehmhfbfgniekaaGreatDoorZWalkLessJ2
import Derived.BigRegion
import Derived.Shelf.Abstract
import Derived.LaidEql
import Derived.Stop.Asserts
import Derived.RowKitTokens
namespace Go.Proofs.YtehmhfbfgniekaaGreatDoor.Ob
set_option linter.unusedVariables false
set_option linter.unusedSimpArgs false
open Go Go.RowKit Go.Extern.Stop Go.Stop Go.Extern
theorem isTypeOf (w : World) : (Extern.ReflectliteType.typeOf #[.iface 34 (.int .i64 3)]).run Tryz.prog w = .ok (.iface 200 (.agg #[.pointer (some ⟨5, 34, none⟩)])) w := by kernel_rfl
theorem isComparable (w : World) : ((Extern.ReflectliteType.method fun t => do Extern.Rtype.noPackHeld "Comparable" t; pure (.bool (← typeInfo t).comparable)) #[.agg #[.pointer (some ⟨5, 34, none⟩)]]).run Tryz.prog w = .ok (.bool true) w := by kernel_rfl
theorem isMethodComparable (v : Value) (w : World) : (Go.method 348 200 v "Comparable").run Tryz.prog w = .ok (188, v) w := by kernel_rfl
theorem lacksIs (v : Value) (xT : TypeId) (w : World) : (Instr.typeAssert (.iface 156 v) xT 202 true).run Tryz.prog w = .ok (.tuple #[.nilIface, .bool false]) w := run_typeAssert_lacksB Tryz.underlying202 (by kernel_rfl) (by kernel_rfl) v xT w
theorem hasUnwrap (v : Value) (xT : TypeId) (w : World) : (Instr.typeAssert (.iface 156 v) xT 204 true).run Tryz.prog w = .ok (.tuple #[.iface 156 v, .bool true]) w := run_typeAssert_hasB Tryz.underlying204 (by kernel_rfl) v xT w
theorem methodUnwrap (v : Value) (w : World) : (Go.method 348 156 v "Unwrap").run Tryz.prog w = .ok (182, v) w := by kernel_rfl
theorem eqlErrno (w : World) : (binOp .eql 125 (.iface 34 (.int .i64 3)) (.iface 34 (.int .i64 3))).run Tryz.prog w = .ok (.bool true) w := by kernel_rfl
theorem is_nil (w : World) : Calls Tryz.prog 115 #[.nilIface, .iface 34 (.int .i64 3)] w fun e w' => e = .returned (.bool false) ∧ w' = w := by
  have hn := run_eql_iface_nil_left (P := Tryz.prog) w 34 (.int .i64 3) Tryz.underlying125
  go_enter Tryz.func115, Tryz.ntmps115
  go_wp2
  go_ret
  exact ⟨rfl, rfl⟩
set_option maxRecDepth 100000 in
set_option maxHeartbeats 4000000 in
theorem is_wrong (a : Option Addr) (w : World) : Calls Tryz.prog 115 #[.iface 156 (.pointer a), .iface 34 (.int .i64 3)] w fun e w' => e = .returned (.bool true) ∧ w' = w := by
  have h8 := @run_callFunc_extern Tryz.prog 133 _ Extern.ReflectliteType.typeOf Tryz.func133 (by kernel_rfl) (by kernel_rfl) (by kernel_rfl) (by kernel_rfl)
  have h32 := @run_callFunc_extern Tryz.prog 188 _ (Extern.ReflectliteType.method fun t => do Extern.Rtype.noPackHeld "Comparable" t; pure (.bool (← typeInfo t).comparable)) Tryz.func188 (by kernel_rfl) (by kernel_rfl) (by kernel_rfl) (by kernel_rfl)
  have tT := isTypeOf
  have cF : ∀ w, (callFunc 188 #[.agg #[.pointer (some ⟨5, 34, none⟩)]]).run Tryz.prog w = .ok (.value (.bool true)) w := fun w => by rw [h32, isComparable]; rfl
  clear h32
  have mR := isMethodComparable
  have hI := lacksIs
  have hU := hasUnwrap
  have mU := methodUnwrap
  have eE := eqlErrno
  have hty := run_eql_iface_types (P := Tryz.prog) 156 34 (.pointer a) (.int .i64 3) Tryz.underlying125 (by decide) w
  go_enter Tryz.func115, Tryz.ntmps115
  go_wp2
  refine wp_loop_rounds 2 ?_
  rw [rounds_succ]
  go_wp2
  rw [rounds_succ]
  go_wp2
  go_ret
  exact ⟨rfl, rfl⟩
theorem as_nil (t : Value) (w : World) : Calls Tryz.prog 116 #[.nilIface, t] w fun e w' => e = .returned (.bool false) ∧ w' = w := by
  go_enter Tryz.func116, Tryz.ntmps116
  go_wp2
  go_ret
  exact ⟨rfl, rfl⟩
theorem fine_nil (w : World) : Calls Tryz.prog 92 #[.nilIface] w fun e w' => e = .returned (.bool true) ∧ Below w.heap.size w w' := by
  go_enter Tryz.func92, Tryz.ntmps92
  go_wp2_with (fail)
  refine (is_nil _).mono ?_
  rintro e w1 ⟨rfl, rfl⟩
  go_wp2_with (fail)
  refine (as_nil _ _).mono ?_
  rintro e w1 ⟨rfl, rfl⟩
  go_wp2_with (fail)
  go_ret
  exact ⟨rfl, (Below.refl _ _).alloc (Nat.le_refl _) _⟩
theorem fine_wrong (a : Option Addr) (w : World) : Calls Tryz.prog 92 #[.iface 156 (.pointer a)] w fun e w' => e = .returned (.bool false) ∧ Below w.heap.size w w' := by
  go_enter Tryz.func92, Tryz.ntmps92
  go_wp2_with (fail)
  refine (is_wrong a _).mono ?_
  rintro e w1 ⟨rfl, rfl⟩
  go_wp2_with (fail)
  go_ret
  exact ⟨rfl, (Below.refl _ _).alloc (Nat.le_refl _) _⟩
end Go.Proofs.YtehmhfbfgniekaaGreatDoor.Ob
