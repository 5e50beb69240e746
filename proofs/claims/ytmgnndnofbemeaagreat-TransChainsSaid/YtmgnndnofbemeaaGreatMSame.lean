/- Joined texts: Same. -/
import Derived.Test.YtmgnndnofbemeaaGreatMBase
import Derived.Test.YtmgnndnofbemeaaGreatMVPPux0
import Derived.Laws.StructEq
/- pilcrowref01.Same at equal lists; two errors held against each other. -/
namespace Go.Proofs.YtmgnndnofbemeaaGreat
open Go.RowKit Go.Proofs.YtmgnndnofbemeaaGreatW.PrintWords Go.Proofs.YtmgnndnofbemeaaGreatW.PrintLast Go.Proofs.YtmgnndnofbemeaaGreatW.PrintMore Go.Proofs.YtmgnndnofbemeaaGreat.PPu
set_option linter.unusedVariables false
set_option linter.unusedSimpArgs false
theorem fieldsOf_fail : Tryz.prog.underlying 27 = some (.struct (Tryz.prog.fieldsOf 27)) := by kernel_rfl
theorem eql_fail (a b : Int) (w : World) : (binOp .eql 27 (.agg #[.int .i64 a, .int .i64 b]) (.agg #[.int .i64 a, .int .i64 b])).run Tryz.prog w = .ok (.bool true) w := by
 have he : (Op.equalIn 10000 27 (.agg #[.int .i64 a, .int .i64 b]) (.agg #[.int .i64 a, .int .i64 b])).run Tryz.prog w = .ok true w := by
  rw [run_equalIn_struct w 9999 27 _ _ fieldsOf_fail (by kernel_rfl)]
  simp only [Program.fieldsOf, Tryz.underlying27]
  have ei : ∀ (a b : Int) (w : World), (Op.equalIn 9999 3 (.int .i64 a) (.int .i64 b)).run Tryz.prog w = .ok (a == b) w := fun a b w => by
   unfold Op.equalIn
   simp only [Sem.run_bind, run_underlying Tryz.underlying3, Result.andThen_ok, if_true, Sem.run_pure]
  have ej : ∀ (a b : Int) (w : World), (Op.equalIn 9999 25 (.int .i64 a) (.int .i64 b)).run Tryz.prog w = .ok (a == b) w := fun a b w => by
   unfold Op.equalIn
   simp only [Sem.run_bind, run_underlying Tryz.underlying25, Result.andThen_ok, if_true, Sem.run_pure]
  simp [Op.eqFields, go_sem, ei, ej]
 simp only [binOp]
 simp [Op.equal, Op.maxDepth, he]
end Go.Proofs.YtmgnndnofbemeaaGreat
