-- Written by a program of the session's out of the translation. Not trusted: Lean checks it.
import Derived.Test.YtgaibighfmcgoaaProg
import Derived.Below
import Derived.Deep.Draws
import Derived.Deep.AppendLies
import Derived.Maps.AppendAt
import Derived.OwnWalk
import Derived.Laws.BytesArg
import Derived.Laws.MakeOwn
import Derived.Laws.OwnMore
import Derived.Deep.OwnRows
import Derived.Tactics
import Derived.Lib.ConvBytes
import Derived.Laws.Slices
import Derived.WalkKit
import Derived.KernelRfl
import Derived.RowKit3
import Derived.Deep.LoopGhost
import Derived.Deep.QuietTactic
import Derived.BigQuiet
import Derived.WideLaws
import Derived.Deep.DeepCutAuto
import Derived.Deep.CutBlock
import Derived.Deep.RegionHeld3
import Derived.Laws.Rows
import Derived.Lib.AppendStr
import Derived.ArgAppend
import Derived.Laws.IdiomCopy
import Derived.OrdersHeld
import Derived.Laws.BitsLemmas
import Derived.RowKit
import Derived.Test.YtgaibighfmcgoaaWWords
import Derived.Test.YtgaibighfmcgoaaWLast
import Derived.Test.YtgaibighfmcgoaaWTab
import Derived.Test.YtgaibighfmcgoaaWFour
import Derived.Test.YtgaibighfmcgoaaWQPut
import Derived.Test.YtgaibighfmcgoaaWApart
import Derived.Test.YtgaibighfmcgoaaWArr
import Derived.Test.YtgaibighfmcgoaaWZeros
import Derived.Test.YtgaibighfmcgoaaWFoot
import Derived.Test.YtgaibighfmcgoaaWKept
import Derived.Test.YtgaibighfmcgoaaWShare
import Derived.Test.YtgaibighfmcgoaaWN
import Derived.Test.YtgaibighfmcgoaaWFootNe
import Derived.Test.YtgaibighfmcgoaaWAt
import Derived.Test.YtgaibighfmcgoaaWEqStruct
import Derived.Test.YtgaibighfmcgoaaWRepsOne
import Derived.Test.YtgaibighfmcgoaaWInv
import Derived.Test.YtgaibighfmcgoaaWInvWords
import Derived.Test.YtgaibighfmcgoaaWGuard
import Derived.Test.YtgaibighfmcgoaaWNEv
import Derived.Test.YtgaibighfmcgoaaWMore
import Derived.Test.YtgaibighfmcgoaaClone
import Derived.Test.YtgaibighfmcgoaaUint
namespace Go.Proofs.Ytgaibighfmcgoaa.PHdrA
open Go.RowKit Go.Proofs.Ytgaibighfmcgoaa.Hand Go.Proofs.YtgaibighfmcgoaaW.PrintWords Go.Proofs.YtgaibighfmcgoaaW.PrintLast Go.Proofs.YtgaibighfmcgoaaW.PrintMore
attribute [local go_sem] max2_int min2_int max_two min_two max_three min_three max_four min_four   -- for this text's walks alone
set_option linter.unusedVariables false
set_option linter.unusedSimpArgs false



def errW : Option Int → Value
  | none => .nilIface
  | some c => .iface 0 (.int .i64 c)
theorem errW_none : errW none = .nilIface := rfl
theorem errW_some (c : Int) : errW (some c) = .iface 0 (.int .i64 c) := rfl

theorem info3 : (Try.prog.info? 3).map (fun i => (i.zero, i.size, i.bytes)) = some (some (.int .i64 0), 1, 8) := by kernel_rfl
theorem info5 : (Try.prog.info? 5).map (fun i => (i.zero, i.size, i.bytes)) = some (some (.int .u8 0), 1, 1) := by kernel_rfl
-- the values' own types

end Go.Proofs.Ytgaibighfmcgoaa.PHdrA
