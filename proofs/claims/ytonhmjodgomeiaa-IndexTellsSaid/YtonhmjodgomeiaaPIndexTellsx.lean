/- Functions as the kit's printer (print.py) writes them, over contracts that this seat's own texts give. No condition but the reach of what comes in. -/
import Derived.Test.YtonhmjodgomeiaaPIndexTellsx0
import Derived.Test.YtonhmjodgomeiaaPIndexTellsx1
import Derived.Test.YtonhmjodgomeiaaPIndexTellsx2
namespace Go.Proofs.Ytonhmjodgomeiaa.PIndexTells
open Go.RowKit Go.Proofs.YtonhmjodgomeiaaW.PrintWords Go.Proofs.YtonhmjodgomeiaaW.PrintLast Go.Proofs.YtonhmjodgomeiaaW.PrintMore
attribute [local go_sem] max2_int min2_int max_two min_two max_three min_three max_four min_four   -- for this text's walks alone
set_option linter.unusedVariables false
set_option linter.unusedSimpArgs false

end Go.Proofs.Ytonhmjodgomeiaa.PIndexTells
