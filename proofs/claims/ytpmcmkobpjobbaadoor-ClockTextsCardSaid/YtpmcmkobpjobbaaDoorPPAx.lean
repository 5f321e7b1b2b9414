-- Written by a program of the session's out of the translation. Not trusted: Lean checks it.
import Derived.Test.YtpmcmkobpjobbaaDoorPPAx0
import Derived.Test.YtpmcmkobpjobbaaDoorPPAx1
namespace Go.Proofs.YtpmcmkobpjobbaaDoor.PPA
open Go.RowKit Go.Proofs.YtpmcmkobpjobbaaDoor.Hand Go.Proofs.YtpmcmkobpjobbaaDoorW.PrintWords Go.Proofs.YtpmcmkobpjobbaaDoorW.PrintLast Go.Proofs.YtpmcmkobpjobbaaDoorW.PrintMore
attribute [local go_sem] max2_int min2_int max_two min_two max_three min_three max_four min_four   -- for this text's walks alone
set_option linter.unusedVariables false
set_option linter.unusedSimpArgs false

end Go.Proofs.YtpmcmkobpjobbaaDoor.PPA
