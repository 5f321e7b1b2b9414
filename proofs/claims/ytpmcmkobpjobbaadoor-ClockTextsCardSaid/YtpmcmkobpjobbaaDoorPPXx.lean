-- Written by a program of the session's out of the translation. Not trusted: Lean checks it.
import Derived.Test.YtpmcmkobpjobbaaDoorPPXx0
import Derived.Test.YtpmcmkobpjobbaaDoorPPXx1
import Derived.Test.YtpmcmkobpjobbaaDoorPPXx2
namespace Go.Proofs.YtpmcmkobpjobbaaDoor.PPX
open Go.RowKit Go.Proofs.YtpmcmkobpjobbaaDoor.Stub Go.Proofs.YtpmcmkobpjobbaaDoorW.PrintWords Go.Proofs.YtpmcmkobpjobbaaDoorW.PrintLast Go.Proofs.YtpmcmkobpjobbaaDoorW.PrintMore
attribute [local go_sem] max2_int min2_int max_two min_two max_three min_three max_four min_four   -- for this text's walks alone
set_option linter.unusedVariables false
set_option linter.unusedSimpArgs false

end Go.Proofs.YtpmcmkobpjobbaaDoor.PPX
