-- printed by wip/tools/xprint.py (the kit's print program, with stubs); checked by Lean
import Derived.Test.YtkomgnaleocleaaProg
import Derived.Below
import Derived.Deep.Draws
import Derived.Deep.AppendLies
import Derived.Maps.AppendAt
import Derived.OwnWalk
import Derived.Laws.BytesArg
import Derived.Laws.MakeOwn
import Derived.Laws.OwnMore
import Derived.Deep.OwnRows
import Derived.Tactics
import Derived.Lib.ConvBytes
import Derived.Laws.Slices
import Derived.WalkKit
import Derived.KernelRfl
import Derived.RowKit3
import Derived.Deep.LoopGhost
import Derived.Deep.QuietTactic
import Derived.BigQuiet
import Derived.WideLaws
import Derived.Deep.DeepCutAuto
import Derived.Deep.CutBlock
import Derived.Deep.RegionHeld3
import Derived.Laws.Rows
import Derived.Lib.AppendStr
import Derived.ArgAppend
import Derived.Laws.IdiomCopy
import Derived.OrdersHeld
import Derived.Laws.BitsLemmas
import Derived.RowKit
import Derived.Test.YtkomgnaleocleaaWWords
import Derived.Test.YtkomgnaleocleaaWLast
import Derived.Test.YtkomgnaleocleaaWTab
import Derived.Test.YtkomgnaleocleaaWFour
import Derived.Test.YtkomgnaleocleaaWQPut
import Derived.Test.YtkomgnaleocleaaWApart
import Derived.Test.YtkomgnaleocleaaWArr
import Derived.Test.YtkomgnaleocleaaWZeros
import Derived.Test.YtkomgnaleocleaaWFoot
import Derived.Test.YtkomgnaleocleaaWKept
import Derived.Test.YtkomgnaleocleaaWShare
import Derived.Test.YtkomgnaleocleaaWN
import Derived.Test.YtkomgnaleocleaaWFootNe
import Derived.Test.YtkomgnaleocleaaWAt
import Derived.Test.YtkomgnaleocleaaWEqStruct
import Derived.Test.YtkomgnaleocleaaWRepsOne
import Derived.Test.YtkomgnaleocleaaWInv
import Derived.Test.YtkomgnaleocleaaWInvWords
import Derived.Test.YtkomgnaleocleaaWGuard
import Derived.Test.YtkomgnaleocleaaWNEv
import Derived.Test.YtkomgnaleocleaaWMore
namespace Go.Proofs.Ytkomgnaleocleaa.PLex
open Go.RowKit Go.Proofs.YtkomgnaleocleaaW.PrintWords Go.Proofs.YtkomgnaleocleaaW.PrintLast Go.Proofs.YtkomgnaleocleaaW.PrintMore
attribute [local go_sem] max2_int min2_int max_two min_two max_three min_three max_four min_four   -- for this text's walks alone
set_option linter.unusedVariables false
set_option linter.unusedSimpArgs false



def errW : Option Int → Value
  | none => .nilIface
  | some c => .iface 0 (.int .i64 c)
theorem errW_none : errW none = .nilIface := rfl
theorem errW_some (c : Int) : errW (some c) = .iface 0 (.int .i64 c) := rfl

-- the values' own types

end Go.Proofs.Ytkomgnaleocleaa.PLex
