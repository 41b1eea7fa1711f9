/- Joined texts: ObOpen. No condition but what stands in each. -/
import Derived.Test.YtefefhhaopjccaaGreatDoorZObjectTellsJ22
import Derived.Deep.Slices
import Derived.Deep.Fields
import Derived.Deep.Strs
import Derived.ChangeSame
import Derived.Lib.SmallJoins
namespace Go.Proofs.YtefefhhaopjccaaGreatDoor.Ob
set_option linter.unusedVariables false
set_option linter.unusedSimpArgs false
set_option maxRecDepth 100000
open Go Go.RowKit Go.ChangeShapes Go.WideShapes Go.Deep Go.Joins Go.Proofs.YtefefhhaopjccaaGreatDoorW.PrintWords Go.Proofs.YtefefhhaopjccaaGreatDoorW.PrintLast Go.Proofs.YtefefhhaopjccaaGreatDoorW.PrintMore PObBase
section
variable {H : Type} {enc : TypeId × Value → H} {P : Program} {w : World} {base : Nat} {spare : Nat → Bool} {held : Bool}
end
section
variable {H : Type} {enc : TypeId × Value → H} {w : World} {base : Nat} {spare : Nat → Bool} {held : Bool}
variable {b0 : Nat} {v : Value} {d : DataW H} {p : List MemPlace}
theorem open_obj {r : Reach} (hv : Value.okWide Tryz.prog w r b0 23 v) (h : DataW.Trod enc Tryz.prog w base spare held 23 v d p) : ∃ (k : Int) (s : ByteArray), v = .agg #[.int .i64 k, .string s] := by
  obtain ⟨v0, v1, y0, y1, n, rfl, _, _, h0, h1⟩ := open_agg2 Tryz.underlying23 (by kernel_rfl) (by kernel_rfl) hv h
  obtain ⟨s0, e0, _⟩ := DataW.trod_int Tryz.underlying3 h0
  obtain ⟨s1, e1, _⟩ := DataW.trod_string Tryz.underlying9 h1
  injection e0 with e0 _
  injection e1 with e1 _
  subst e0 e1
  exact ⟨s0, s1, rfl⟩
end
end Go.Proofs.YtefefhhaopjccaaGreatDoor.Ob
