-- Written by a program of the session's out of the translation. Not trusted: Lean checks it.
import Derived.Test.YtgggjfclhjpboaaProg
import Derived.Below
import Derived.Deep.Draws
import Derived.Deep.AppendLies
import Derived.Maps.AppendAt
import Derived.OwnWalk
import Derived.Laws.BytesArg
import Derived.Laws.MakeOwn
import Derived.Laws.OwnMore
import Derived.Deep.OwnRows
import Derived.Tactics
import Derived.Lib.ConvBytes
import Derived.Laws.Slices
import Derived.WalkKit
import Derived.KernelRfl
import Derived.RowKit3
import Derived.Deep.LoopGhost
import Derived.Deep.QuietTactic
import Derived.BigQuiet
import Derived.WideLaws
import Derived.Deep.DeepCutAuto
import Derived.Deep.CutBlock
import Derived.Deep.RegionHeld3
import Derived.Laws.Rows
import Derived.Lib.AppendStr
import Derived.ArgAppend
import Derived.Laws.IdiomCopy
import Derived.OrdersHeld
import Derived.Laws.BitsLemmas
import Derived.RowKit
import Derived.Test.YtgggjfclhjpboaaWWords
import Derived.Test.YtgggjfclhjpboaaWLast
import Derived.Test.YtgggjfclhjpboaaWTab
import Derived.Test.YtgggjfclhjpboaaWFour
import Derived.Test.YtgggjfclhjpboaaWQPut
import Derived.Test.YtgggjfclhjpboaaWApart
import Derived.Test.YtgggjfclhjpboaaWArr
import Derived.Test.YtgggjfclhjpboaaWZeros
import Derived.Test.YtgggjfclhjpboaaWFoot
import Derived.Test.YtgggjfclhjpboaaWKept
import Derived.Test.YtgggjfclhjpboaaWShare
import Derived.Test.YtgggjfclhjpboaaWN
import Derived.Test.YtgggjfclhjpboaaWFootNe
import Derived.Test.YtgggjfclhjpboaaWAt
import Derived.Test.YtgggjfclhjpboaaWEqStruct
import Derived.Test.YtgggjfclhjpboaaWRepsOne
import Derived.Test.YtgggjfclhjpboaaWInv
import Derived.Test.YtgggjfclhjpboaaWInvWords
import Derived.Test.YtgggjfclhjpboaaWGuard
import Derived.Test.YtgggjfclhjpboaaWNEv
import Derived.Test.YtgggjfclhjpboaaWMore
import Derived.Test.YtgggjfclhjpboaaClone
import Derived.Test.YtgggjfclhjpboaaName
import Derived.Test.YtgggjfclhjpboaaUint
namespace Go.Proofs.Ytgggjfclhjpboaa.POctA
open Go.RowKit Go.Proofs.Ytgggjfclhjpboaa.Hand Go.Proofs.YtgggjfclhjpboaaW.PrintWords Go.Proofs.YtgggjfclhjpboaaW.PrintLast Go.Proofs.YtgggjfclhjpboaaW.PrintMore
attribute [local go_sem] max2_int min2_int max_two min_two max_three min_three max_four min_four   -- for this text's walks alone
set_option linter.unusedVariables false
set_option linter.unusedSimpArgs false



def errW : Option Int → Value
  | none => .nilIface
  | some c => .iface 0 (.int .i64 c)
theorem errW_none : errW none = .nilIface := rfl
theorem errW_some (c : Int) : errW (some c) = .iface 0 (.int .i64 c) := rfl

theorem info5 : (Try.prog.info? 5).map (fun i => (i.zero, i.size, i.bytes)) = some (some (.int .u8 0), 1, 1) := by kernel_rfl
-- the values' own types

end Go.Proofs.Ytgggjfclhjpboaa.POctA
