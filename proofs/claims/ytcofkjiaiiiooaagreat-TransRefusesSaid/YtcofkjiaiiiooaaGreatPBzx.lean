/- Go functions as Lean functions, and that the one comes to what the other answers: written by the kit's print.py for several functions together (wip/printall.sh of this repo). -/
import Derived.Test.YtcofkjiaiiiooaaGreatPBzx0
import Derived.Test.YtcofkjiaiiiooaaGreatPBzx1
import Derived.Test.YtcofkjiaiiiooaaGreatPBzx2
import Derived.Test.YtcofkjiaiiiooaaGreatPBzx3
import Derived.Test.YtcofkjiaiiiooaaGreatPBzx4
import Derived.Test.YtcofkjiaiiiooaaGreatPBzx5
import Derived.Test.YtcofkjiaiiiooaaGreatPBzx6
import Derived.Test.YtcofkjiaiiiooaaGreatPBzx7
namespace Go.Proofs.YtcofkjiaiiiooaaGreat.PBz
open Go.RowKit Go.Proofs.YtcofkjiaiiiooaaGreatW.PrintWords Go.Proofs.YtcofkjiaiiiooaaGreatW.PrintLast Go.Proofs.YtcofkjiaiiiooaaGreatW.PrintMore
attribute [local go_sem] max2_int min2_int max_two min_two max_three min_three max_four min_four   -- for this text's walks alone
set_option linter.unusedVariables false
set_option linter.unusedSimpArgs false

end Go.Proofs.YtcofkjiaiiiooaaGreat.PBz
