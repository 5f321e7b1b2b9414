-- Written by a program of the session's out of the translation. Not trusted: Lean checks it.
import Derived.Test.YtpjlhlknbaggcaaProg
import Derived.Below
import Derived.Deep.Draws
import Derived.Deep.AppendLies
import Derived.Maps.AppendAt
import Derived.OwnWalk
import Derived.Laws.BytesArg
import Derived.Laws.MakeOwn
import Derived.Laws.OwnMore
import Derived.Deep.OwnRows
import Derived.Tactics
import Derived.Lib.ConvBytes
import Derived.Laws.Slices
import Derived.WalkKit
import Derived.KernelRfl
import Derived.RowKit3
import Derived.Deep.LoopGhost
import Derived.Deep.QuietTactic
import Derived.BigQuiet
import Derived.WideLaws
import Derived.Deep.DeepCutAuto
import Derived.Deep.CutBlock
import Derived.Deep.RegionHeld3
import Derived.Laws.Rows
import Derived.Lib.AppendStr
import Derived.ArgAppend
import Derived.Laws.IdiomCopy
import Derived.OrdersHeld
import Derived.Laws.BitsLemmas
import Derived.RowKit
import Derived.Test.YtpjlhlknbaggcaaWWords
import Derived.Test.YtpjlhlknbaggcaaWLast
import Derived.Test.YtpjlhlknbaggcaaWTab
import Derived.Test.YtpjlhlknbaggcaaWFour
import Derived.Test.YtpjlhlknbaggcaaWQPut
import Derived.Test.YtpjlhlknbaggcaaWApart
import Derived.Test.YtpjlhlknbaggcaaWArr
import Derived.Test.YtpjlhlknbaggcaaWZeros
import Derived.Test.YtpjlhlknbaggcaaWFoot
import Derived.Test.YtpjlhlknbaggcaaWKept
import Derived.Test.YtpjlhlknbaggcaaWShare
import Derived.Test.YtpjlhlknbaggcaaWN
import Derived.Test.YtpjlhlknbaggcaaWFootNe
import Derived.Test.YtpjlhlknbaggcaaWAt
import Derived.Test.YtpjlhlknbaggcaaWEqStruct
import Derived.Test.YtpjlhlknbaggcaaWRepsOne
import Derived.Test.YtpjlhlknbaggcaaWInv
import Derived.Test.YtpjlhlknbaggcaaWInvWords
import Derived.Test.YtpjlhlknbaggcaaWGuard
import Derived.Test.YtpjlhlknbaggcaaWNEv
import Derived.Test.YtpjlhlknbaggcaaWMore
namespace Go.Proofs.Ytpjlhlknbaggcaa.PNumA
open Go.RowKit Go.Proofs.YtpjlhlknbaggcaaW.PrintWords Go.Proofs.YtpjlhlknbaggcaaW.PrintLast Go.Proofs.YtpjlhlknbaggcaaW.PrintMore
attribute [local go_sem] max2_int min2_int max_two min_two max_three min_three max_four min_four   -- for this text's walks alone
set_option linter.unusedVariables false
set_option linter.unusedSimpArgs false



def errW : Option Int → Value
  | none => .nilIface
  | some c => .iface 0 (.int .i64 c)
theorem errW_none : errW none = .nilIface := rfl
theorem errW_some (c : Int) : errW (some c) = .iface 0 (.int .i64 c) := rfl

-- the values' own types

end Go.Proofs.Ytpjlhlknbaggcaa.PNumA
