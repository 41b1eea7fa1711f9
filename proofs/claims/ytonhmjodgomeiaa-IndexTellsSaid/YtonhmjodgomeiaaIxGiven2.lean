/- The document's index, in the printer's form. No condition but what stands in each. -/
import Derived.Test.YtonhmjodgomeiaaIxGiven
import Derived.Test.YtonhmjodgomeiaaIxRPut
--@GIVEN sacristy/sacristyref08.Put Go.Proofs.Ytonhmjodgomeiaa.Ix.Gv.rput 0 1
--@GIVEN sacristy/sacristyref08.told Go.Proofs.Ytonhmjodgomeiaa.Ix.Gv.rtold 0 1
--@GIVEN sacristy/sacristyref04.SameTexts Go.Proofs.Ytonhmjodgomeiaa.Ix.Gv.same 0 1
namespace Go.Proofs.Ytonhmjodgomeiaa.Ix
set_option linter.unusedVariables false
set_option linter.unusedSimpArgs false
open Go.RowKit Blk Dg Go.Proofs.YtonhmjodgomeiaaW.PrintWords Go.Proofs.YtonhmjodgomeiaaW.PrintLast Go.Proofs.YtonhmjodgomeiaaW.PrintMore
namespace Gv
noncomputable def rput.f (l0 : List ByteArray) : Option (List Int × Int) := some (putL l0, putE l0)
theorem rput.calls (A0 : Option Addr) (c0 : Nat) (l0 : List ByteArray) (r1 : List Int) (r2 : Int) (w : World) (hr0 : Kd.C Kd.string w A0 l0.length l0) (hc0 : l0.length ≤ c0) (h : rput.f l0 = some (r1, r2)) :
    Calls Try.prog 12 #[.slice A0 l0.length c0] w fun e w' => ∃ v0_ : Value, e = .returned (.tuple #[v0_, .int .i64 r2]) ∧ Kd.R (Kd.int .u8) 5 w' w.heap.size (fun _ => True) v0_ r1 ∧ Below w.heap.size w w' := by
  obtain ⟨rfl, rfl⟩ := Prod.mk.inj (Option.some.inj h)
  refine (rput_calls A0 c0 _ l0 w hr0 rfl hc0).mono ?_
  rintro e w' ⟨v, b, z, rfl, hp, hR, hb⟩
  obtain ⟨rfl, rfl⟩ := putL_of hp
  exact ⟨v, rfl, hR, hb⟩
noncomputable def rtold.f (l0 : List Int) : Option ByteArray := by classical exact if Byt l0 then some (toldS l0) else none
theorem rtold.f_eq {l : List Int} (h : Byt l) : rtold.f l = some (toldS l) := by unfold rtold.f; rw [if_pos h]
theorem rtold.calls (A0 : Option Addr) (c0 : Nat) (l0 : List Int) (r : ByteArray) (w : World) (hr0 : Kd.C (Kd.int .u8) w A0 l0.length l0) (hc0 : l0.length ≤ c0) (h : rtold.f l0 = some r) :
    Calls Try.prog 37 #[.slice A0 l0.length c0] w fun e w' => e = .returned (.string r) ∧ Below w.heap.size w w' := by
  unfold rtold.f at h
  split at h
  · rename_i h0
    obtain rfl := Option.some.inj h
    exact rtold_calls A0 c0 _ l0 w hr0 rfl hc0 h0.1 h0.2
  · cases h
noncomputable def same.f (l0 l1 : List ByteArray) : Option Bool := by classical exact if l0.length < 1000000000 then some (sameB l0 l1) else none
theorem same.f_eq {l m : List ByteArray} (h : l.length < 1000000000) : same.f l m = some (sameB l m) := by unfold same.f; rw [if_pos h]
theorem same.calls (A0 : Option Addr) (c0 : Nat) (l0 : List ByteArray) (A1 : Option Addr) (c1 : Nat) (l1 : List ByteArray) (r : Bool) (w : World) (hr0 : Kd.C Kd.string w A0 l0.length l0) (hc0 : l0.length ≤ c0) (hr1 : Kd.C Kd.string w A1 l1.length l1) (hc1 : l1.length ≤ c1) (h : same.f l0 l1 = some r) :
    Calls Try.prog 17 #[.slice A0 l0.length c0, .slice A1 l1.length c1] w fun e w' => e = .returned (.bool r) ∧ Below w.heap.size w w' := by
  unfold same.f at h
  split at h
  · rename_i h0
    obtain rfl := Option.some.inj h
    exact same_calls A0 A1 c0 c1 _ _ l0 l1 w hr0 rfl hc0 hr1 rfl hc1 h0
  · cases h
end Gv
end Go.Proofs.Ytonhmjodgomeiaa.Ix
