/- Go functions as Lean functions, and that the one comes to what the other answers: written by the kit's print.py for several functions together (wip/printall.sh of this repo). -/
import Derived.Test.YtlddfdkmpnllmaaDoorPProgx0
import Derived.Test.YtlddfdkmpnllmaaDoorPProgx1
import Derived.Test.YtlddfdkmpnllmaaDoorPProgx2
namespace Go.Proofs.YtlddfdkmpnllmaaDoor.PProg
open Go.RowKit Go.Proofs.YtlddfdkmpnllmaaDoorW.PrintWords Go.Proofs.YtlddfdkmpnllmaaDoorW.PrintLast Go.Proofs.YtlddfdkmpnllmaaDoorW.PrintMore
attribute [local go_sem] max2_int min2_int max_two min_two max_three min_three max_four min_four   -- for this text's walks alone
set_option linter.unusedVariables false
set_option linter.unusedSimpArgs false

end Go.Proofs.YtlddfdkmpnllmaaDoor.PProg
