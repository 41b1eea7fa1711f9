/- Functions as the kit's printer (print.py) writes them, over contracts that this seat's own texts give. No condition but the reach of what comes in. -/
import Derived.Test.YtacgchklilfcaaaDoorProg
import Derived.Below
import Derived.Deep.Draws
import Derived.Deep.AppendLies
import Derived.Maps.AppendAt
import Derived.OwnWalk
import Derived.Laws.BytesArg
import Derived.Laws.MakeOwn
import Derived.Laws.OwnMore
import Derived.Deep.OwnRows
import Derived.Tactics
import Derived.Lib.ConvBytes
import Derived.Laws.Slices
import Derived.WalkKit
import Derived.KernelRfl
import Derived.RowKit3
import Derived.Deep.LoopGhost
import Derived.Deep.QuietTactic
import Derived.BigQuiet
import Derived.WideLaws
import Derived.Deep.DeepCutAuto
import Derived.Deep.CutBlock
import Derived.Deep.RegionHeld3
import Derived.Laws.Rows
import Derived.Lib.AppendStr
import Derived.ArgAppend
import Derived.Laws.IdiomCopy
import Derived.OrdersHeld
import Derived.Laws.BitsLemmas
import Derived.RowKit
import Derived.Test.YtacgchklilfcaaaDoorZRfGiven
import Derived.Test.YtacgchklilfcaaaDoorZWWords
import Derived.Test.YtacgchklilfcaaaDoorZWLast
import Derived.Test.YtacgchklilfcaaaDoorZWTab
import Derived.Test.YtacgchklilfcaaaDoorZWApart
import Derived.Test.YtacgchklilfcaaaDoorZWFoot
import Derived.Test.YtacgchklilfcaaaDoorZWShare
import Derived.Test.YtacgchklilfcaaaDoorZWN
import Derived.Test.YtacgchklilfcaaaDoorZWEqStruct
import Derived.Test.YtacgchklilfcaaaDoorZWRepsOne
import Derived.Test.YtacgchklilfcaaaDoorZWInv
import Derived.Test.YtacgchklilfcaaaDoorZWGuard
import Derived.Test.YtacgchklilfcaaaDoorZWMore
namespace Go.Proofs.YtacgchklilfcaaaDoor.PRfGet
open Go.Proofs.YtacgchklilfcaaaDoor.PRfBase
open Go.RowKit Go.Proofs.YtacgchklilfcaaaDoorW.PrintWords Go.Proofs.YtacgchklilfcaaaDoorW.PrintLast Go.Proofs.YtacgchklilfcaaaDoorW.PrintMore
attribute [local go_sem] Go.Proofs.YtacgchklilfcaaaDoor.StrSem.leq_str Go.Proofs.YtacgchklilfcaaaDoor.StrSem.geq_str Go.Proofs.YtacgchklilfcaaaDoor.StrSem.gtr_str max2_int min2_int max_two min_two max_three min_three max_four min_four   -- for this text's walks alone
set_option linter.unusedVariables false
set_option linter.unusedSimpArgs false
def errW : Option Int → Value
  | none => .nilIface
  | some c => .iface 0 (.int .i64 c)
theorem errW_none : errW none = .nilIface := rfl
theorem errW_some (c : Int) : errW (some c) = .iface 0 (.int .i64 c) := rfl
theorem info40 : (Tryd.prog.info? 40).map (fun i => (i.zero, i.size, i.bytes)) = some (some (.agg #[(.string ⟨#[]⟩), (.string ⟨#[]⟩)]), 2, 32) := by kernel_rfl
end Go.Proofs.YtacgchklilfcaaaDoor.PRfGet
