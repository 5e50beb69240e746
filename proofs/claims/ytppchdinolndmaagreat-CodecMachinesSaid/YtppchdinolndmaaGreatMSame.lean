/- Joined texts: Same. -/
import Derived.Test.YtppchdinolndmaaGreatMBase
import Derived.Test.YtppchdinolndmaaGreatMVPPux0
import Derived.Laws.StructEq
/- pilcrowref01.Same at equal lists; two errors held against each other. -/
namespace Go.Proofs.YtppchdinolndmaaGreat
open Go.RowKit Go.Proofs.YtppchdinolndmaaGreatW.PrintWords Go.Proofs.YtppchdinolndmaaGreatW.PrintLast Go.Proofs.YtppchdinolndmaaGreatW.PrintMore Go.Proofs.YtppchdinolndmaaGreat.PPu
set_option linter.unusedVariables false
set_option linter.unusedSimpArgs false
theorem wrap64_in {x : Int} (h0 : -9223372036854775808 ≤ x) (h1 : x ≤ 9223372036854775807) : wrap64 x = x := by
 unfold wrap64; omega
theorem order_self (L : List Int) (hL : L.length ≤ 1000000000) : ∀ (m : Nat) (i k : Nat), i + m = L.length → 2 * m + 2 ≤ k → pilcrowref01_Order.l0 k L L i = some 0
 | 0, i, k, hi, hk => by
  obtain ⟨k, rfl⟩ : ∃ j, k = j + 2 := ⟨k - 2, by omega⟩
  rw [pilcrowref01_Order.l0, if_neg (by omega), pilcrowref01_Order.j1, if_neg (by decide), if_neg (by omega), if_neg (by omega)]
 | m + 1, i, k, hi, hk => by
  obtain ⟨k, rfl⟩ : ∃ j, k = j + 2 := ⟨k - 2, by omega⟩
  rw [pilcrowref01_Order.l0, if_pos (by omega), decide_eq_true (by omega), pilcrowref01_Order.j1, if_pos rfl, if_pos (by omega), if_pos (by omega), if_pos (by omega), if_neg (Int.lt_irrefl _), if_neg (Int.lt_irrefl _), wrap64_in (by omega) (by omega)]
  exact order_self L hL m (i + 1) k (by omega) (by omega)
theorem same_c (L : List Int) (hL : L.length ≤ 1000000000) (A0 A1 : Option Addr) (c0 c1 : Nat) (w : World) (h0 : ReadsInt w .u32 A0 L.length L) (h1 : ReadsInt w .u32 A1 L.length L) (hc0 : L.length ≤ c0) (hc1 : L.length ≤ c1) :
  Calls Tryz.prog 10 #[.slice A0 L.length c0, .slice A1 L.length c1] w fun e w' => e = .returned (.bool true) ∧ Below w.heap.size w w' := by
 refine (pilcrowref01_Same.calls (2 * L.length + 2) A0 c0 L A1 c1 L true w (Kd.C_of_reads (d := (0 : Int)) h0) hc0 (Kd.C_of_reads (d := (0 : Int)) h1) hc1 ?_).mono ?_
 ·unfold pilcrowref01_Same.f pilcrowref01_Order.f
  have := order_self L hL L.length 0 (2 * L.length + 2) (by omega) (Nat.le_refl _)
  rw [show (0 : Int) = ((0 : Nat) : Int) from rfl, this]
  rfl
 ·rintro e w' ⟨rfl, ⟨nd, rfl⟩⟩
  exact ⟨rfl, below_drewN' (Below.refl _ _) nd⟩
theorem fieldsOf_fail : Tryz.prog.underlying 34 = some (.struct (Tryz.prog.fieldsOf 34)) := by kernel_rfl
theorem eql_fail (a b : Int) (w : World) : (binOp .eql 34 (.agg #[.int .i64 a, .int .i64 b]) (.agg #[.int .i64 a, .int .i64 b])).run Tryz.prog w = .ok (.bool true) w := by
 have he : (Op.equalIn 10000 34 (.agg #[.int .i64 a, .int .i64 b]) (.agg #[.int .i64 a, .int .i64 b])).run Tryz.prog w = .ok true w := by
  rw [run_equalIn_struct w 9999 34 _ _ fieldsOf_fail (by kernel_rfl)]
  simp only [Program.fieldsOf, Tryz.underlying34]
  have ei : ∀ (a b : Int) (w : World), (Op.equalIn 9999 3 (.int .i64 a) (.int .i64 b)).run Tryz.prog w = .ok (a == b) w := fun a b w => by
   unfold Op.equalIn
   simp only [Sem.run_bind, run_underlying Tryz.underlying3, Result.andThen_ok, if_true, Sem.run_pure]
  have ej : ∀ (a b : Int) (w : World), (Op.equalIn 9999 26 (.int .i64 a) (.int .i64 b)).run Tryz.prog w = .ok (a == b) w := fun a b w => by
   unfold Op.equalIn
   simp only [Sem.run_bind, run_underlying Tryz.underlying26, Result.andThen_ok, if_true, Sem.run_pure]
  simp [Op.eqFields, go_sem, ei, ej]
 simp only [binOp]
 simp [Op.equal, Op.maxDepth, he]
end Go.Proofs.YtppchdinolndmaaGreat
