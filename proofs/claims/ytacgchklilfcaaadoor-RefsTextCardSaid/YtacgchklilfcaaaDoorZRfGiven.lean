/- What this seat's functions compute, in the printer's form. No condition but what stands in each. -/
import Derived.Test.YtacgchklilfcaaaDoorZRfS5
import Derived.Test.YtacgchklilfcaaaDoorZRMRef
namespace Go.Proofs.YtacgchklilfcaaaDoor.Rf
set_option linter.unusedVariables false
set_option linter.unusedSimpArgs false
open Go Go.RowKit Go.Proofs.YtacgchklilfcaaaDoorW.PrintWords Go.Proofs.YtacgchklilfcaaaDoorW.PrintLast Go.Proofs.YtacgchklilfcaaaDoorW.PrintMore PRfBase
namespace Gv
noncomputable def right.f (l0 : List Ref) : Option Bool := by classical exact if Zsh l0 then some (rightB l0) else none
theorem right.f_eq {l : List Ref} (h : Zsh l) : right.f l = some (rightB l) := by unfold right.f; rw [if_pos h]
theorem right.calls (A0 : Option Addr) (c0 : Nat) (l0 : List Ref) (r : Bool) (w : World) (hr0 : Kd.C k40 w A0 l0.length l0) (hc0 : l0.length ≤ c0) (h : right.f l0 = some r) :
    Calls Tryd.prog 19 #[.slice A0 l0.length c0] w fun e w' => e = .returned (.bool r) ∧ Below w.heap.size w w' := by
  unfold right.f at h
  split at h
  · rename_i h0
    obtain rfl := Option.some.inj h
    exact right_walk A0 c0 _ l0 w hr0 rfl hc0 h0
  · cases h
noncomputable def tips.f (l0 : List Ref) : Option (List ByteArray) := by classical exact if Rsh l0 ∧ l0.length ≤ 1000000000000 then some (tipsL l0) else none
theorem tips.f_eq {l : List Ref} (h : Rsh l) (hl : l.length ≤ 1000000000000) : tips.f l = some (tipsL l) := by unfold tips.f; rw [if_pos ⟨h, hl⟩]
theorem tips.calls (A0 : Option Addr) (c0 : Nat) (l0 : List Ref) (r : List ByteArray) (w : World) (hr0 : Kd.C k40 w A0 l0.length l0) (hc0 : l0.length ≤ c0) (h : tips.f l0 = some r) :
    Calls Tryd.prog 20 #[.slice A0 l0.length c0] w fun e w' => ∃ v0_ : Value, e = .returned v0_ ∧ Kd.R Kd.string 9 w' w.heap.size (fun _ => True) v0_ r ∧ Below w.heap.size w w' := by
  unfold tips.f at h
  split at h
  · rename_i h0
    obtain rfl := Option.some.inj h
    exact tips_walk A0 c0 _ l0 w hr0 rfl hc0 h0.1 h0.2
  · cases h
noncomputable def put.f (l0 : List Ref) : Option (ByteArray × Bool) := by classical exact if Zsh l0 then some (putL l0) else none
theorem put.f_eq {l : List Ref} (h : Zsh l) : put.f l = some (putL l) := by unfold put.f; rw [if_pos h]
theorem put.calls (A0 : Option Addr) (c0 : Nat) (l0 : List Ref) (r1 : ByteArray) (r2 : Bool) (w : World) (hr0 : Kd.C k40 w A0 l0.length l0) (hc0 : l0.length ≤ c0) (h : put.f l0 = some (r1, r2)) :
    Calls Tryd.prog 11 #[.slice A0 l0.length c0] w fun e w' => e = .returned (.tuple #[.string r1, .bool r2]) ∧ Below w.heap.size w w' := by
  unfold put.f at h
  split at h
  · rename_i h0
    have h1 := Option.some.inj h
    have := put_walk A0 c0 _ l0 w hr0 rfl hc0 h0
    rw [h1] at this
    exact this
  · cases h
end Gv
end Go.Proofs.YtacgchklilfcaaaDoor.Rf
