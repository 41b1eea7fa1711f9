/- Names with a part more, plainly. No condition but what stands in each. -/
import Derived.Test.YtacgchklilfcaaaGreatDoorZRfS6
namespace Go.Proofs.YtacgchklilfcaaaGreatDoor.Rf
set_option linter.unusedVariables false
set_option linter.unusedSimpArgs false
open Go Go.RowKit Go.Proofs.YtacgchklilfcaaaGreatDoorW.PrintWords Go.Proofs.YtacgchklilfcaaaGreatDoorW.PrintLast Go.Proofs.YtacgchklilfcaaaGreatDoorW.PrintMore PRfBase PRfGet Go.Proofs.YtacgchklilfcaaaGreatDoor.Gl
theorem letB_nil : letB (Gl.strOf []) = false := by decide
end Go.Proofs.YtacgchklilfcaaaGreatDoor.Rf
