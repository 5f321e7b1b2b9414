-- Written by a program of the session's out of the translation. Not trusted: Lean checks it.
import Derived.Test.YtmkmopphdkgjeaaDoorProg
import Derived.Below
import Derived.Deep.Draws
import Derived.Deep.AppendLies
import Derived.Maps.AppendAt
import Derived.OwnWalk
import Derived.Laws.BytesArg
import Derived.Laws.MakeOwn
import Derived.Laws.OwnMore
import Derived.Deep.OwnRows
import Derived.Tactics
import Derived.Lib.ConvBytes
import Derived.Laws.Slices
import Derived.WalkKit
import Derived.KernelRfl
import Derived.RowKit3
import Derived.Deep.LoopGhost
import Derived.Deep.QuietTactic
import Derived.BigQuiet
import Derived.WideLaws
import Derived.Deep.DeepCutAuto
import Derived.Deep.CutBlock
import Derived.Deep.RegionHeld3
import Derived.Laws.Rows
import Derived.Lib.AppendStr
import Derived.ArgAppend
import Derived.Laws.IdiomCopy
import Derived.OrdersHeld
import Derived.Laws.BitsLemmas
import Derived.RowKit
import Derived.Test.YtmkmopphdkgjeaaDoorWWords
import Derived.Test.YtmkmopphdkgjeaaDoorWLast
import Derived.Test.YtmkmopphdkgjeaaDoorWTab
import Derived.Test.YtmkmopphdkgjeaaDoorWFour
import Derived.Test.YtmkmopphdkgjeaaDoorWQPut
import Derived.Test.YtmkmopphdkgjeaaDoorWApart
import Derived.Test.YtmkmopphdkgjeaaDoorWArr
import Derived.Test.YtmkmopphdkgjeaaDoorWZeros
import Derived.Test.YtmkmopphdkgjeaaDoorWFoot
import Derived.Test.YtmkmopphdkgjeaaDoorWKept
import Derived.Test.YtmkmopphdkgjeaaDoorWShare
import Derived.Test.YtmkmopphdkgjeaaDoorWN
import Derived.Test.YtmkmopphdkgjeaaDoorWFootNe
import Derived.Test.YtmkmopphdkgjeaaDoorWAt
import Derived.Test.YtmkmopphdkgjeaaDoorWEqStruct
import Derived.Test.YtmkmopphdkgjeaaDoorWRepsOne
import Derived.Test.YtmkmopphdkgjeaaDoorWInv
import Derived.Test.YtmkmopphdkgjeaaDoorWInvWords
import Derived.Test.YtmkmopphdkgjeaaDoorWGuard
import Derived.Test.YtmkmopphdkgjeaaDoorWNEv
import Derived.Test.YtmkmopphdkgjeaaDoorWMore
import Derived.Test.YtmkmopphdkgjeaaDoorHand
namespace Go.Proofs.YtmkmopphdkgjeaaDoor.PCiv
open Go.RowKit Go.Proofs.YtmkmopphdkgjeaaDoor.Hand Go.Proofs.YtmkmopphdkgjeaaDoorW.PrintWords Go.Proofs.YtmkmopphdkgjeaaDoorW.PrintLast Go.Proofs.YtmkmopphdkgjeaaDoorW.PrintMore
attribute [local go_sem] max2_int min2_int max_two min_two max_three min_three max_four min_four   -- for this text's walks alone
set_option linter.unusedVariables false
set_option linter.unusedSimpArgs false



def errW : Option Int → Value
  | none => .nilIface
  | some c => .iface 0 (.int .i64 c)
theorem errW_none : errW none = .nilIface := rfl
theorem errW_some (c : Int) : errW (some c) = .iface 0 (.int .i64 c) := rfl

-- the values' own types

end Go.Proofs.YtmkmopphdkgjeaaDoor.PCiv
