/- errors.Is at the two errors that a reader of deltas may hold: nil, and one of its own make. No condition. -/
import Derived.Test.YticagpejankjcaaDelBuild
import Derived.LaidEql
import Derived.Stop.Asserts
import Derived.RowKitTokens
namespace Go.Proofs.Yticagpejankjcaa.Db
set_option linter.unusedVariables false
set_option linter.unusedSimpArgs false
open Go.RowKit Go.Extern.Stop Go.Stop Go.Extern

theorem isTypeOf (w : World) : (Extern.ReflectliteType.typeOf #[.iface 23 (.int .i64 3)]).run Try.prog w = .ok (.iface 72 (.agg #[.pointer (some ⟨0, 23, none⟩)])) w := by kernel_rfl
theorem isComparable (w : World) : ((Extern.ReflectliteType.method fun t => do Extern.Rtype.noPackHeld "Comparable" t; pure (.bool (← typeInfo t).comparable)) #[.agg #[.pointer (some ⟨0, 23, none⟩)]]).run Try.prog w = .ok (.bool true) w := by kernel_rfl
theorem isMethodComparable (v : Value) (w : World) : (Go.method 211 72 v "Comparable").run Try.prog w = .ok (60, v) w := by kernel_rfl
theorem hasIs (v : Value) (xT : TypeId) (w : World) : (Instr.typeAssert (.iface 46 v) xT 74 true).run Try.prog w = .ok (.tuple #[.iface 46 v, .bool true]) w := run_typeAssert_hasB Try.underlying74 (by kernel_rfl) v xT w
theorem methodIs (v : Value) (w : World) : (Go.method 211 46 v "Is").run Try.prog w = .ok (56, v) w := by kernel_rfl
theorem eqlErrno (w : World) : (binOp .eql 36 (.iface 23 (.int .i64 3)) (.iface 23 (.int .i64 3))).run Try.prog w = .ok (.bool true) w := by kernel_rfl
theorem is_nil (w : World) : Calls Try.prog 19 #[.nilIface, .iface 23 (.int .i64 3)] w fun e w' => e = .returned (.bool false) ∧ w' = w := by
  have hn := run_eql_iface_nil_left (P := Try.prog) w 23 (.int .i64 3) Try.underlying36
  go_enter Try.func19, Try.ntmps19
  go_wp2
  go_ret
  exact ⟨rfl, rfl⟩
theorem is_broken (a : Option Addr) (w : World) : Calls Try.prog 19 #[.iface 46 (.pointer a), .iface 23 (.int .i64 3)] w fun e w' => e = .returned (.bool true) ∧ w' = w := by
  have h8 := @run_callFunc_extern Try.prog 33 _ Extern.ReflectliteType.typeOf Try.func33 (by kernel_rfl) (by kernel_rfl) (by kernel_rfl) (by kernel_rfl)
  have h32 := @run_callFunc_extern Try.prog 60 _ (Extern.ReflectliteType.method fun t => do Extern.Rtype.noPackHeld "Comparable" t; pure (.bool (← typeInfo t).comparable)) Try.func60 (by kernel_rfl) (by kernel_rfl) (by kernel_rfl) (by kernel_rfl)
  have tT := isTypeOf
  have cF : ∀ w, (callFunc 60 #[.agg #[.pointer (some ⟨0, 23, none⟩)]]).run Try.prog w = .ok (.value (.bool true)) w := fun w => by rw [h32, isComparable]; rfl
  clear h32
  have mR := isMethodComparable
  have hI := hasIs
  have mI := methodIs
  have eE := eqlErrno
  have hty := run_eql_iface_types (P := Try.prog) 46 23 (.pointer a) (.int .i64 3) Try.underlying36 (by decide) w
  go_enter Try.func19, Try.ntmps19
  go_wp2
  refine wp_loop_rounds 1 ?_
  rw [rounds_succ]
  go_wp2
  go_ret
  exact ⟨rfl, rfl⟩
end Go.Proofs.Yticagpejankjcaa.Db
