-- Written by a program of the session's out of the translation. Not trusted: Lean checks it.
import Derived.Test.YtmkmopphdkgjeaaDoorPCivx0
import Derived.Test.YtmkmopphdkgjeaaDoorPCivx1
import Derived.Test.YtmkmopphdkgjeaaDoorPCivx2
import Derived.Test.YtmkmopphdkgjeaaDoorPCivx3
import Derived.Test.YtmkmopphdkgjeaaDoorPCivx4
import Derived.Test.YtmkmopphdkgjeaaDoorPCivx5
import Derived.Test.YtmkmopphdkgjeaaDoorPCivx6
namespace Go.Proofs.YtmkmopphdkgjeaaDoor.PCiv
open Go.RowKit Go.Proofs.YtmkmopphdkgjeaaDoor.Hand Go.Proofs.YtmkmopphdkgjeaaDoorW.PrintWords Go.Proofs.YtmkmopphdkgjeaaDoorW.PrintLast Go.Proofs.YtmkmopphdkgjeaaDoorW.PrintMore
attribute [local go_sem] max2_int min2_int max_two min_two max_three min_three max_four min_four   -- for this text's walks alone
set_option linter.unusedVariables false
set_option linter.unusedSimpArgs false

end Go.Proofs.YtmkmopphdkgjeaaDoor.PCiv
