/- Go functions as Lean functions, and that the one comes to what the other answers: written by the kit's print.py for several functions together (wip/printall.sh of this repo). -/
import Derived.Test.YtlddfdkmpnllmaaDoorProg
import Derived.Below
import Derived.Deep.Draws
import Derived.Deep.AppendLies
import Derived.Maps.AppendAt
import Derived.OwnWalk
import Derived.Laws.BytesArg
import Derived.Laws.MakeOwn
import Derived.Laws.OwnMore
import Derived.Deep.OwnRows
import Derived.Tactics
import Derived.Lib.ConvBytes
import Derived.Laws.Slices
import Derived.WalkKit
import Derived.KernelRfl
import Derived.RowKit3
import Derived.Deep.LoopGhost
import Derived.Deep.QuietTactic
import Derived.BigQuiet
import Derived.WideLaws
import Derived.Deep.DeepCutAuto
import Derived.Deep.CutBlock
import Derived.Deep.RegionHeld3
import Derived.Laws.Rows
import Derived.Lib.AppendStr
import Derived.ArgAppend
import Derived.Laws.IdiomCopy
import Derived.OrdersHeld
import Derived.Laws.BitsLemmas
import Derived.RowKit
import Derived.Test.YtlddfdkmpnllmaaDoorWWords
import Derived.Test.YtlddfdkmpnllmaaDoorWLast
import Derived.Test.YtlddfdkmpnllmaaDoorWTab
import Derived.Test.YtlddfdkmpnllmaaDoorWFour
import Derived.Test.YtlddfdkmpnllmaaDoorWQPut
import Derived.Test.YtlddfdkmpnllmaaDoorWApart
import Derived.Test.YtlddfdkmpnllmaaDoorWArr
import Derived.Test.YtlddfdkmpnllmaaDoorWZeros
import Derived.Test.YtlddfdkmpnllmaaDoorWFoot
import Derived.Test.YtlddfdkmpnllmaaDoorWKept
import Derived.Test.YtlddfdkmpnllmaaDoorWShare
import Derived.Test.YtlddfdkmpnllmaaDoorWN
import Derived.Test.YtlddfdkmpnllmaaDoorWFootNe
import Derived.Test.YtlddfdkmpnllmaaDoorWAt
import Derived.Test.YtlddfdkmpnllmaaDoorWEqStruct
import Derived.Test.YtlddfdkmpnllmaaDoorWRepsOne
import Derived.Test.YtlddfdkmpnllmaaDoorWInv
import Derived.Test.YtlddfdkmpnllmaaDoorWInvWords
import Derived.Test.YtlddfdkmpnllmaaDoorWGuard
import Derived.Test.YtlddfdkmpnllmaaDoorWNEv
import Derived.Test.YtlddfdkmpnllmaaDoorWMore
namespace Go.Proofs.YtlddfdkmpnllmaaDoor.PProg
open Go.RowKit Go.Proofs.YtlddfdkmpnllmaaDoorW.PrintWords Go.Proofs.YtlddfdkmpnllmaaDoorW.PrintLast Go.Proofs.YtlddfdkmpnllmaaDoorW.PrintMore
attribute [local go_sem] max2_int min2_int max_two min_two max_three min_three max_four min_four   -- for this text's walks alone
set_option linter.unusedVariables false
set_option linter.unusedSimpArgs false



def errW : Option Int → Value
  | none => .nilIface
  | some c => .iface 0 (.int .i64 c)
theorem errW_none : errW none = .nilIface := rfl
theorem errW_some (c : Int) : errW (some c) = .iface 0 (.int .i64 c) := rfl

theorem info9 : (Tryd.prog.info? 9).map (fun i => (i.zero, i.size, i.bytes)) = some (some (.string ⟨#[]⟩), 1, 16) := by kernel_rfl
-- the values' own types

end Go.Proofs.YtlddfdkmpnllmaaDoor.PProg
