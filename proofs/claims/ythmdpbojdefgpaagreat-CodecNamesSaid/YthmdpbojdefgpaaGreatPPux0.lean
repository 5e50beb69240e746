/- Go functions as Lean functions, and that the one comes to what the other answers: written by the kit's print.py for several functions together (wip/printall.sh of this repo). -/
import Derived.Test.YthmdpbojdefgpaaGreatProg
import Derived.Below
import Derived.Deep.Draws
import Derived.Deep.AppendLies
import Derived.Maps.AppendAt
import Derived.OwnWalk
import Derived.Laws.BytesArg
import Derived.Laws.MakeOwn
import Derived.Laws.OwnMore
import Derived.Deep.OwnRows
import Derived.Tactics
import Derived.Lib.ConvBytes
import Derived.Laws.Slices
import Derived.WalkKit
import Derived.KernelRfl
import Derived.RowKit3
import Derived.Deep.LoopGhost
import Derived.Deep.QuietTactic
import Derived.BigQuiet
import Derived.WideLaws
import Derived.Deep.DeepCutAuto
import Derived.Deep.CutBlock
import Derived.Deep.RegionHeld3
import Derived.Laws.Rows
import Derived.Lib.AppendStr
import Derived.ArgAppend
import Derived.Laws.IdiomCopy
import Derived.OrdersHeld
import Derived.Laws.BitsLemmas
import Derived.RowKit
import Derived.Test.YthmdpbojdefgpaaGreatWWords
import Derived.Test.YthmdpbojdefgpaaGreatWLast
import Derived.Test.YthmdpbojdefgpaaGreatWTab
import Derived.Test.YthmdpbojdefgpaaGreatWFour
import Derived.Test.YthmdpbojdefgpaaGreatWQPut
import Derived.Test.YthmdpbojdefgpaaGreatWApart
import Derived.Test.YthmdpbojdefgpaaGreatWArr
import Derived.Test.YthmdpbojdefgpaaGreatWZeros
import Derived.Test.YthmdpbojdefgpaaGreatWFoot
import Derived.Test.YthmdpbojdefgpaaGreatWKept
import Derived.Test.YthmdpbojdefgpaaGreatWShare
import Derived.Test.YthmdpbojdefgpaaGreatWN
import Derived.Test.YthmdpbojdefgpaaGreatWFootNe
import Derived.Test.YthmdpbojdefgpaaGreatWAt
import Derived.Test.YthmdpbojdefgpaaGreatWEqStruct
import Derived.Test.YthmdpbojdefgpaaGreatWRepsOne
import Derived.Test.YthmdpbojdefgpaaGreatWInv
import Derived.Test.YthmdpbojdefgpaaGreatWInvWords
import Derived.Test.YthmdpbojdefgpaaGreatWGuard
import Derived.Test.YthmdpbojdefgpaaGreatWNEv
import Derived.Test.YthmdpbojdefgpaaGreatWMore
namespace Go.Proofs.YthmdpbojdefgpaaGreat.PPu
open Go.RowKit Go.Proofs.YthmdpbojdefgpaaGreatW.PrintWords Go.Proofs.YthmdpbojdefgpaaGreatW.PrintLast Go.Proofs.YthmdpbojdefgpaaGreatW.PrintMore
attribute [local go_sem] max2_int min2_int max_two min_two max_three min_three max_four min_four   -- for this text's walks alone
set_option linter.unusedVariables false
set_option linter.unusedSimpArgs false



def errW : Option Int → Value
  | none => .nilIface
  | some c => .iface 0 (.int .i64 c)
theorem errW_none : errW none = .nilIface := rfl
theorem errW_some (c : Int) : errW (some c) = .iface 0 (.int .i64 c) := rfl

theorem info5 : (Tryz.prog.info? 5).map (fun i => (i.zero, i.size, i.bytes)) = some (some (.int .u8 0), 1, 1) := by kernel_rfl
theorem info57 : (Tryz.prog.info? 57).map (fun i => (i.zero, i.size, i.bytes)) = some (some (.int .u32 0), 1, 4) := by kernel_rfl
-- the values' own types

end Go.Proofs.YthmdpbojdefgpaaGreat.PPu
