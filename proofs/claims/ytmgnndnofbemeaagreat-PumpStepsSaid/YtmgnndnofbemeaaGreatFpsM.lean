/- Proved here: pilcrowlaw19.PumpSteps answers true at every input. Conditions: none beyond the row's own (the form's reach). -/
import Derived.Test.YtmgnndnofbemeaaGreatMUfk
import Derived.Test.YtmgnndnofbemeaaGreatMLp
import Derived.Test.YtmgnndnofbemeaaGreatMUfc
import Derived.Lib.SmallJoins
namespace Go.Proofs.YtmgnndnofbemeaaGreat.fnPumpSteps
open Go.ChangeShapes Go.WideShapes Go.ChangeAt Go.RowKit
open Go.ChangeMaps (open_string shut_string)
open Go.Joins
set_option linter.unusedVariables false
theorem cells_a2 : Tryz.prog.cellsOf 52 = 2 := by kernel_rfl
set_option maxRecDepth 100000 in
set_option maxHeartbeats 2000000 in
theorem lifted (os : Os) (started : os.Started) (H : Type) (enc : TypeId × Value → H) :
  ReturnsInHanded {} Tryz.checked os 6 .any (Rows.pumpStepsSpec.pre6 enc Tryz.prog Tryz.f6 Rows.pumpStepsRow.domain false) (Rows.pumpStepsSpec.post enc Tryz.prog Tryz.f6 false true false false) := by
 refine returnsInHanded_of_change_sized (C := Tryz.checked) own_godebug started (by kernel_rfl) Tryz.func6
  (ChangeSpec.witness6 (enc := enc) (C := Tryz.checked) false ⟨#[], #[.int .i64 0, .slice none 0 0, .agg #[.slice none 0 0, .slice none 0 0]], []⟩ 8 (by kernel_rfl) (by kernel_rfl) (by kernel_rfl) (by kernel_rfl)) ?_
 intro W base args ds gs before hval0 hW hcnd hsz0 _
 have hval : ∀ (j : Nat) t v, Tryz.f6.params[j]? = some t → args[j]? = some v → Value.okWide Tryz.prog W .any base t v := hval0
 have hW' := hW
 obtain ⟨p, q, hA0, hV, rfl, hfz, hnd⟩ := hW
 have hA : DataW.TrodAll enc Tryz.prog W 0 (fun _ => true) true Tryz.f6.params.toList args.toList ds p := hA0
 rw [Tryz.params6] at hA hval
 obtain ⟨v0, vs0, d0, ds0, p0, q0, hargs, rfl, rfl, h0, r0⟩ := trodAll_cons hA
 obtain ⟨v1, vs1, d1, ds1, p1, q1, rfl, rfl, rfl, h1, r1⟩ := trodAll_cons r0
 obtain ⟨v2, vs2, d2, ds2, p2, q2, rfl, rfl, rfl, h2, r2⟩ := trodAll_cons r1
 obtain ⟨rfl, rfl, rfl⟩ := trodAll_nil r2
 obtain rfl : args = #[v0, v1, v2] := by cases args; simp_all
 obtain ⟨rfl, rfl⟩ := trodVars_none hV
 obtain ⟨n0, rfl, rfl, rfl, w0⟩ := open_int Tryz.underlying3 (hval 0 3 v0 rfl rfl) h0
 have k1 := h1
 have lt1 : ∀ x ∈ p1, x.block < W.heap.size := by obtain ⟨m, hm⟩ := k1; exact DataW.trod_lt m _ _ _ hm
 obtain ⟨A1, c1, l1, rfl, e1, g1, w1, z1⟩ := row_in2 Tryz.underlying22 Tryz.underlying48 (by kernel_rfl) (hval 1 22 v1 rfl rfl) h1
 have s1 := row_size hsz0 1 rfl rfl Tryz.underlying22 (by show 0 < Tryz.prog.bytesOf 48; rw [show Tryz.prog.bytesOf 48 = 4 by kernel_rfl]; decide) z1
 have k2 := h2
 have lt2 : ∀ x ∈ p2, x.block < W.heap.size := by obtain ⟨m, hm⟩ := k2; exact DataW.trod_lt m _ _ _ hm
 obtain ⟨c2_0, c2_1, y2_0, y2_1, m2, rfl, rfl, rfl, hy2_0, hy2_1⟩ := open_agg2 Tryz.underlying52 (by kernel_rfl) cells_a2 (hval 2 52 v2 rfl rfl) h2
 obtain ⟨A2_0, c2_0, l2_0, rfl, e2_0, g2_0, w2_0, _⟩ := row_cells Tryz.underlying50 Tryz.underlying3 (by kernel_rfl) hy2_0
 obtain ⟨A2_1, c2_1, l2_1, rfl, e2_1, g2_1, w2_1, _⟩ := row_cells Tryz.underlying50 Tryz.underlying3 (by kernel_rfl) hy2_1
 clear hA0 hval0 hsz0
 refine (psteps_c n0 A1 A2_0 A2_1 c1 c2_0 c2_1 l1 l2_0 l2_1 W e1 e2_0 e2_1 g1 g2_0 g2_1 w1 w2_0 w2_1 s1).mono fun e W' ⟨he, bel⟩ => ?_
 subst he
 exact ⟨_, rfl, _, _, _, [], _, [], hW', trodAll_mk1 (shut_bool Tryz.underlying4 _), (trodAll_cons_mk (shut_int Tryz.underlying3 w0) (trodAll_cons_mk (Below.trod laid_out (by kernel_rfl) (of_decide_eq_true (by kernel_rfl)) k1 bel lt1) (trodAll_cons_mk (Below.trod laid_out (by kernel_rfl) (of_decide_eq_true (by kernel_rfl)) k2 bel lt2) trodAll_mk0))), rfl, bel.frame _, fun h => by cases h⟩
theorem over : Rows.pumpStepsRow.holds Tryz.pinned (OpenSpec.ofChange Rows.pumpStepsSpec) :=
 OpenClaim.holds_of_wide 6 Tryz.f6 rfl rfl rfl rfl rfl rfl rfl ⟨rfl, rfl, rfl, rfl, rfl⟩ rfl rfl rfl rfl rfl (by kernel_rfl) Tryz.func6 (by kernel_rfl)
  (of_decide_eq_true (by kernel_rfl)) (by unfold Func.isWrapper; first | (rw [if_pos (by decide +kernel)]; kernel_rfl) | (rw [if_neg (by decide +kernel)]; exact ⟨rfl, rfl⟩))
  (fun os started H enc _ => lifted os started H enc)
theorem proved : Rows.PumpStepsSaid := over
end Go.Proofs.YtmgnndnofbemeaaGreat.fnPumpSteps
namespace Go.Proofs.YtmgnndnofbemeaaGreat
theorem pumpSteps_holds : Rows.PumpStepsSaid := fnPumpSteps.proved
#print axioms pumpSteps_holds
end Go.Proofs.YtmgnndnofbemeaaGreat
