/- Go functions as Lean functions, and that the one comes to what the other answers: written by the kit's print.py for several functions together (wip/printall.sh of this repo). -/
import Derived.Test.YtegacgfhmigdjaaProg
import Derived.Below
import Derived.Deep.Draws
import Derived.Deep.AppendLies
import Derived.Maps.AppendAt
import Derived.OwnWalk
import Derived.Laws.BytesArg
import Derived.Laws.MakeOwn
import Derived.Laws.OwnMore
import Derived.Deep.OwnRows
import Derived.Tactics
import Derived.Lib.ConvBytes
import Derived.Laws.Slices
import Derived.WalkKit
import Derived.KernelRfl
import Derived.RowKit3
import Derived.Deep.LoopGhost
import Derived.Deep.QuietTactic
import Derived.BigQuiet
import Derived.WideLaws
import Derived.Deep.DeepCutAuto
import Derived.Deep.CutBlock
import Derived.Deep.RegionHeld3
import Derived.Laws.Rows
import Derived.Lib.AppendStr
import Derived.ArgAppend
import Derived.Laws.IdiomCopy
import Derived.OrdersHeld
import Derived.Laws.BitsLemmas
import Derived.RowKit
import Derived.Test.YtegacgfhmigdjaaWWords
import Derived.Test.YtegacgfhmigdjaaWLast
import Derived.Test.YtegacgfhmigdjaaWTab
import Derived.Test.YtegacgfhmigdjaaWFour
import Derived.Test.YtegacgfhmigdjaaWQPut
import Derived.Test.YtegacgfhmigdjaaWApart
import Derived.Test.YtegacgfhmigdjaaWArr
import Derived.Test.YtegacgfhmigdjaaWZeros
import Derived.Test.YtegacgfhmigdjaaWFoot
import Derived.Test.YtegacgfhmigdjaaWKept
import Derived.Test.YtegacgfhmigdjaaWShare
import Derived.Test.YtegacgfhmigdjaaWN
import Derived.Test.YtegacgfhmigdjaaWFootNe
import Derived.Test.YtegacgfhmigdjaaWAt
import Derived.Test.YtegacgfhmigdjaaWEqStruct
import Derived.Test.YtegacgfhmigdjaaWRepsOne
import Derived.Test.YtegacgfhmigdjaaWInv
import Derived.Test.YtegacgfhmigdjaaWInvWords
import Derived.Test.YtegacgfhmigdjaaWGuard
import Derived.Test.YtegacgfhmigdjaaWNEv
import Derived.Test.YtegacgfhmigdjaaWMore
namespace Go.Proofs.Ytegacgfhmigdjaa.PPu
open Go.RowKit Go.Proofs.YtegacgfhmigdjaaW.PrintWords Go.Proofs.YtegacgfhmigdjaaW.PrintLast Go.Proofs.YtegacgfhmigdjaaW.PrintMore
attribute [local go_sem] max2_int min2_int max_two min_two max_three min_three max_four min_four   -- for this text's walks alone
set_option linter.unusedVariables false
set_option linter.unusedSimpArgs false



def errW : Option Int → Value
  | none => .nilIface
  | some c => .iface 0 (.int .i64 c)
theorem errW_none : errW none = .nilIface := rfl
theorem errW_some (c : Int) : errW (some c) = .iface 0 (.int .i64 c) := rfl

theorem info5 : (Try.prog.info? 5).map (fun i => (i.zero, i.size, i.bytes)) = some (some (.int .u8 0), 1, 1) := by kernel_rfl
theorem info51 : (Try.prog.info? 51).map (fun i => (i.zero, i.size, i.bytes)) = some (some (.int .u32 0), 1, 4) := by kernel_rfl
-- the values' own types

end Go.Proofs.Ytegacgfhmigdjaa.PPu
