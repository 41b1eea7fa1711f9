/- Functions as the kit's printer (print.py) writes them, over contracts that this seat's own texts give. No condition but the reach of what comes in. -/
import Derived.Test.YtonhmjodgomeiaaProg
import Derived.Below
import Derived.Deep.Draws
import Derived.Deep.AppendLies
import Derived.Maps.AppendAt
import Derived.OwnWalk
import Derived.Laws.BytesArg
import Derived.Laws.MakeOwn
import Derived.Laws.OwnMore
import Derived.Deep.OwnRows
import Derived.Tactics
import Derived.Lib.ConvBytes
import Derived.Laws.Slices
import Derived.WalkKit
import Derived.KernelRfl
import Derived.RowKit3
import Derived.Deep.LoopGhost
import Derived.Deep.QuietTactic
import Derived.BigQuiet
import Derived.WideLaws
import Derived.Deep.DeepCutAuto
import Derived.Deep.CutBlock
import Derived.Deep.RegionHeld3
import Derived.Laws.Rows
import Derived.Lib.AppendStr
import Derived.ArgAppend
import Derived.Laws.IdiomCopy
import Derived.OrdersHeld
import Derived.Laws.BitsLemmas
import Derived.RowKit
import Derived.Test.YtonhmjodgomeiaaIxGiven2
import Derived.Test.YtonhmjodgomeiaaWWords
import Derived.Test.YtonhmjodgomeiaaWLast
import Derived.Test.YtonhmjodgomeiaaWTab
import Derived.Test.YtonhmjodgomeiaaWFour
import Derived.Test.YtonhmjodgomeiaaWQPut
import Derived.Test.YtonhmjodgomeiaaWApart
import Derived.Test.YtonhmjodgomeiaaWArr
import Derived.Test.YtonhmjodgomeiaaWZeros
import Derived.Test.YtonhmjodgomeiaaWFoot
import Derived.Test.YtonhmjodgomeiaaWKept
import Derived.Test.YtonhmjodgomeiaaWShare
import Derived.Test.YtonhmjodgomeiaaWN
import Derived.Test.YtonhmjodgomeiaaWFootNe
import Derived.Test.YtonhmjodgomeiaaWAt
import Derived.Test.YtonhmjodgomeiaaWEqStruct
import Derived.Test.YtonhmjodgomeiaaWRepsOne
import Derived.Test.YtonhmjodgomeiaaWInv
import Derived.Test.YtonhmjodgomeiaaWInvWords
import Derived.Test.YtonhmjodgomeiaaWGuard
import Derived.Test.YtonhmjodgomeiaaWNEv
import Derived.Test.YtonhmjodgomeiaaWMore
namespace Go.Proofs.Ytonhmjodgomeiaa.PIndexTells
open Go.RowKit Go.Proofs.YtonhmjodgomeiaaW.PrintWords Go.Proofs.YtonhmjodgomeiaaW.PrintLast Go.Proofs.YtonhmjodgomeiaaW.PrintMore
attribute [local go_sem] Go.Proofs.Ytonhmjodgomeiaa.Ix.leq_str Go.Proofs.Ytonhmjodgomeiaa.Ix.geq_str max2_int min2_int max_two min_two max_three min_three max_four min_four   -- for this text's walks alone
set_option linter.unusedVariables false
set_option linter.unusedSimpArgs false



def errW : Option Int → Value
  | none => .nilIface
  | some c => .iface 0 (.int .i64 c)
theorem errW_none : errW none = .nilIface := rfl
theorem errW_some (c : Int) : errW (some c) = .iface 0 (.int .i64 c) := rfl

theorem info5 : (Try.prog.info? 5).map (fun i => (i.zero, i.size, i.bytes)) = some (some (.int .u8 0), 1, 1) := by kernel_rfl
theorem info9 : (Try.prog.info? 9).map (fun i => (i.zero, i.size, i.bytes)) = some (some (.string ⟨#[]⟩), 1, 16) := by kernel_rfl
-- the values' own types

end Go.Proofs.Ytonhmjodgomeiaa.PIndexTells
