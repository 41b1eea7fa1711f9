/- Functions as the kit's printer (print.py) writes them, over contracts that this seat's own texts give. No condition but the reach of what comes in. -/
import Derived.Test.YtacgchklilfcaaaGreatDoorProg
import Derived.Below
import Derived.Deep.Draws
import Derived.Deep.AppendLies
import Derived.Maps.AppendAt
import Derived.OwnWalk
import Derived.Laws.BytesArg
import Derived.Laws.MakeOwn
import Derived.Laws.OwnMore
import Derived.Deep.OwnRows
import Derived.Tactics
import Derived.Lib.ConvBytes
import Derived.Laws.Slices
import Derived.WalkKit
import Derived.KernelRfl
import Derived.RowKit3
import Derived.Deep.LoopGhost
import Derived.Deep.QuietTactic
import Derived.BigQuiet
import Derived.WideLaws
import Derived.Deep.DeepCutAuto
import Derived.Deep.CutBlock
import Derived.Deep.RegionHeld3
import Derived.Laws.Rows
import Derived.Lib.AppendStr
import Derived.ArgAppend
import Derived.Laws.IdiomCopy
import Derived.OrdersHeld
import Derived.Laws.BitsLemmas
import Derived.RowKit
import Derived.Test.YtacgchklilfcaaaGreatDoorZRfHead
import Derived.Test.YtacgchklilfcaaaGreatDoorZWWords
import Derived.Test.YtacgchklilfcaaaGreatDoorZWLast
import Derived.Test.YtacgchklilfcaaaGreatDoorZWTab
import Derived.Test.YtacgchklilfcaaaGreatDoorZWApart
import Derived.Test.YtacgchklilfcaaaGreatDoorZWFoot
import Derived.Test.YtacgchklilfcaaaGreatDoorZWShare
import Derived.Test.YtacgchklilfcaaaGreatDoorZWN
import Derived.Test.YtacgchklilfcaaaGreatDoorZWEqStruct
import Derived.Test.YtacgchklilfcaaaGreatDoorZWMore
namespace Go.Proofs.YtacgchklilfcaaaGreatDoor.PRefsTell
open Go.Proofs.YtacgchklilfcaaaGreatDoor.PRfBase Go.Proofs.YtacgchklilfcaaaGreatDoor.PRfGet
open Go.RowKit Go.Proofs.YtacgchklilfcaaaGreatDoorW.PrintWords Go.Proofs.YtacgchklilfcaaaGreatDoorW.PrintLast Go.Proofs.YtacgchklilfcaaaGreatDoorW.PrintMore
attribute [local go_sem] StrSem.leq_str StrSem.geq_str StrSem.gtr_str max2_int min2_int max_two min_two max_three min_three max_four min_four   -- for this text's walks alone
set_option linter.unusedVariables false
set_option linter.unusedSimpArgs false
def errW : Option Int → Value
 | none => .nilIface
 | some c => .iface 0 (.int .i64 c)
theorem errW_none : errW none = .nilIface := rfl
theorem errW_some (c : Int) : errW (some c) = .iface 0 (.int .i64 c) := rfl
theorem k46_heap : Kd.Heap k46 := Kd.heap_iso _ (Kd.heap_pair Kd.heap_string Kd.heap_string)
end Go.Proofs.YtacgchklilfcaaaGreatDoor.PRefsTell
