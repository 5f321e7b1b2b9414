-- Written by a program of the session's out of the translation. Not trusted: Lean checks it.
import Derived.Test.YtpmcmkobpjobbaaDoorPPXx0
namespace Go.Proofs.YtpmcmkobpjobbaaDoor.PPX
open Go.Proofs.YtpmcmkobpjobbaaDoor.Hand (Glob)
open Go.RowKit Go.Proofs.YtpmcmkobpjobbaaDoor.Stub Go.Proofs.YtpmcmkobpjobbaaDoorW.PrintWords Go.Proofs.YtpmcmkobpjobbaaDoorW.PrintLast Go.Proofs.YtpmcmkobpjobbaaDoorW.PrintMore
attribute [local go_sem] max2_int min2_int max_two min_two max_three min_three max_four min_four   -- for this text's walks alone
set_option linter.unusedVariables false
set_option linter.unusedSimpArgs false

-- BY HAND: function 10 (longcaselaw03_shown)

-- BY HAND: function 13 (clock_Text)

-- BY HAND: function 14 (clock_Right)

end Go.Proofs.YtpmcmkobpjobbaaDoor.PPX
