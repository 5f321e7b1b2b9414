-- Written by a program of the session's out of the translation. Not trusted: Lean checks it.
import Derived.Test.YtgggjfclhjpboaaPOctAx0
import Derived.Test.YtgggjfclhjpboaaPOctAx1
namespace Go.Proofs.Ytgggjfclhjpboaa.POctA
open Go.RowKit Go.Proofs.Ytgggjfclhjpboaa.Hand Go.Proofs.YtgggjfclhjpboaaW.PrintWords Go.Proofs.YtgggjfclhjpboaaW.PrintLast Go.Proofs.YtgggjfclhjpboaaW.PrintMore
attribute [local go_sem] max2_int min2_int max_two min_two max_three min_three max_four min_four   -- for this text's walks alone
set_option linter.unusedVariables false
set_option linter.unusedSimpArgs false

end Go.Proofs.Ytgggjfclhjpboaa.POctA
