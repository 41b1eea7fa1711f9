/- What this seat's functions compute, in the printer's form. No condition but what stands in each. -/
import Derived.Test.YtacgchklilfcaaaGreatDoorZRfS5
import Derived.Test.YtacgchklilfcaaaGreatDoorZRMRef
namespace Go.Proofs.YtacgchklilfcaaaGreatDoor.Rf
set_option linter.unusedVariables false
set_option linter.unusedSimpArgs false
open Go Go.RowKit Go.Proofs.YtacgchklilfcaaaGreatDoorW.PrintWords Go.Proofs.YtacgchklilfcaaaGreatDoorW.PrintLast Go.Proofs.YtacgchklilfcaaaGreatDoorW.PrintMore PRfBase
namespace Gv
noncomputable def named.f (a0 : ByteArray) : Option Bool := by classical exact if a0.size ≤ 1000000000 then some (nameB a0) else none
theorem named.f_eq {s : ByteArray} (h : s.size ≤ 1000000000) : named.f s = some (nameB s) := by unfold named.f; rw [if_pos h]
theorem named.calls (a0 : ByteArray) (r : Bool) (w : World) (h : named.f a0 = some r) : Calls Tryz.prog 9 #[.string a0] w fun e w' => e = .returned (.bool r) ∧ Below w.heap.size w w' := by
  unfold named.f at h
  split at h
  · rename_i h0
    obtain rfl := Option.some.inj h
    exact named_walk a0 h0 w
  · cases h
noncomputable def right.f (l0 : List Ref) : Option Bool := by classical exact if Zsh l0 then some (rightB l0) else none
theorem right.f_eq {l : List Ref} (h : Zsh l) : right.f l = some (rightB l) := by unfold right.f; rw [if_pos h]
theorem right.calls (A0 : Option Addr) (c0 : Nat) (l0 : List Ref) (r : Bool) (w : World) (hr0 : Kd.C k46 w A0 l0.length l0) (hc0 : l0.length ≤ c0) (h : right.f l0 = some r) :
    Calls Tryz.prog 11 #[.slice A0 l0.length c0] w fun e w' => e = .returned (.bool r) ∧ Below w.heap.size w w' := by
  unfold right.f at h
  split at h
  · rename_i h0
    obtain rfl := Option.some.inj h
    exact right_walk A0 c0 _ l0 w hr0 rfl hc0 h0
  · cases h
def find.f (l0 : List Ref) (a1 : ByteArray) : Option ByteArray := some (findL l0 a1)
theorem find.calls (A0 : Option Addr) (c0 : Nat) (l0 : List Ref) (a1 : ByteArray) (r : ByteArray) (w : World) (hr0 : Kd.C k46 w A0 l0.length l0) (hc0 : l0.length ≤ c0) (h : find.f l0 a1 = some r) :
    Calls Tryz.prog 13 #[.slice A0 l0.length c0, .string a1] w fun e w' => e = .returned (.string r) ∧ Below w.heap.size w w' := by
  obtain rfl := Option.some.inj h
  exact find_walk A0 c0 _ l0 a1 w hr0 rfl hc0
noncomputable def tips.f (l0 : List Ref) : Option (List ByteArray) := by classical exact if Rsh l0 ∧ l0.length ≤ 1000000000000 then some (tipsL l0) else none
theorem tips.f_eq {l : List Ref} (h : Rsh l) (hl : l.length ≤ 1000000000000) : tips.f l = some (tipsL l) := by unfold tips.f; rw [if_pos ⟨h, hl⟩]
theorem tips.calls (A0 : Option Addr) (c0 : Nat) (l0 : List Ref) (r : List ByteArray) (w : World) (hr0 : Kd.C k46 w A0 l0.length l0) (hc0 : l0.length ≤ c0) (h : tips.f l0 = some r) :
    Calls Tryz.prog 16 #[.slice A0 l0.length c0] w fun e w' => ∃ v0_ : Value, e = .returned v0_ ∧ Kd.R Kd.string 9 w' w.heap.size (fun _ => True) v0_ r ∧ Below w.heap.size w w' := by
  unfold tips.f at h
  split at h
  · rename_i h0
    obtain rfl := Option.some.inj h
    exact tips_walk A0 c0 _ l0 w hr0 rfl hc0 h0.1 h0.2
  · cases h
noncomputable def apply.f (l0 : List Ref) (l1 : List Upd) : Option (List Ref × Int × Int) := by classical exact if Zsh l0 ∧ Ush l1 then some (applyL l0 l1) else none
theorem apply.f_eq {l : List Ref} {u : List Upd} (h : Zsh l) (hu : Ush u) : apply.f l u = some (applyL l u) := by unfold apply.f; rw [if_pos ⟨h, hu⟩]
theorem apply.calls (P0_ : Nat → Prop) (A0 : Option Addr) (c0 : Nat) (l0 : List Ref) (A1 : Option Addr) (c1 : Nat) (l1 : List Upd) (r1 : List Ref) (r2 : Int) (r3 : Int) (w : World) (hs0 : Kd.V k46 46 w w.heap.size (fun k_ => P0_ k_) (.slice A0 l0.length c0) l0) (hr1 : Kd.C k40 w A1 l1.length l1) (hc1 : l1.length ≤ c1) (h : apply.f l0 l1 = some (r1, r2, r3)) :
    Calls Tryz.prog 7 #[.slice A0 l0.length c0, .slice A1 l1.length c1] w fun e w' => ∃ v0_ : Value, e = .returned (.tuple #[v0_, .int .i64 r2, .int .i64 r3]) ∧ Kd.V k46 46 w' w.heap.size (fun k_ => (P0_ k_ ∨ w.heap.size ≤ k_)) v0_ r1 ∧ Below w.heap.size w w' := by
  unfold apply.f at h
  split at h
  · rename_i h0
    have h1 := Option.some.inj h
    have := apply_walk P0_ A0 c0 l0.length l0 A1 c1 l1.length l1 w hs0 hr1 rfl hc1 h0.1 h0.2
    rw [h1] at this
    exact this
  · cases h
noncomputable def put.f (l0 : List Ref) : Option (ByteArray × Bool) := by classical exact if Zsh l0 then some (putL l0) else none
theorem put.f_eq {l : List Ref} (h : Zsh l) : put.f l = some (putL l) := by unfold put.f; rw [if_pos h]
theorem put.calls (A0 : Option Addr) (c0 : Nat) (l0 : List Ref) (r1 : ByteArray) (r2 : Bool) (w : World) (hr0 : Kd.C k46 w A0 l0.length l0) (hc0 : l0.length ≤ c0) (h : put.f l0 = some (r1, r2)) :
    Calls Tryz.prog 20 #[.slice A0 l0.length c0] w fun e w' => e = .returned (.tuple #[.string r1, .bool r2]) ∧ Below w.heap.size w w' := by
  unfold put.f at h
  split at h
  · rename_i h0
    have h1 := Option.some.inj h
    have := put_walk A0 c0 _ l0 w hr0 rfl hc0 h0
    rw [h1] at this
    exact this
  · cases h
end Gv
end Go.Proofs.YtacgchklilfcaaaGreatDoor.Rf
