/- Proved here: pilcrowlaw20.BlockBytes answers true at every input. Conditions: none beyond the row's own (the form's reach). -/
import Derived.Test.YtcofkjiaiiiooaaGreatMUfk
import Derived.Test.YtcofkjiaiiiooaaGreatMZm
import Derived.Lib.SmallJoins
namespace Go.Proofs.YtcofkjiaiiiooaaGreat.fnBlockBytes
open Go.ChangeShapes Go.WideShapes Go.ChangeAt Go.RowKit
open Go.ChangeMaps (open_string shut_string)
open Go.Joins
set_option linter.unusedVariables false
theorem cells_a0 : Tryz.prog.cellsOf 30 = 3 := by kernel_rfl
set_option maxRecDepth 100000 in
set_option maxHeartbeats 2000000 in
theorem lifted (os : Os) (started : os.Started) (H : Type) (enc : TypeId × Value → H) :
    ReturnsInHanded {} Tryz.checked os 4 .any (Rows.blockBytesSpec.pre6 enc Tryz.prog Tryz.f4 Rows.blockBytesRow.domain false) (Rows.blockBytesSpec.post enc Tryz.prog Tryz.f4 false true false false) := by
  refine returnsInHanded_of_change_sized (C := Tryz.checked) own_godebug started (by kernel_rfl) Tryz.func4
    (ChangeSpec.witness6 (enc := enc) (C := Tryz.checked) false ⟨#[], #[.agg #[.int .i64 0, .int .u32 0, .string ⟨#[]⟩]], []⟩ 8 (by kernel_rfl) (by kernel_rfl) (by kernel_rfl) (by kernel_rfl)) ?_
  intro W base args ds gs before hval0 hW hcnd hsz0 _
  have hval : ∀ (j : Nat) t v, Tryz.f4.params[j]? = some t → args[j]? = some v → Value.okWide Tryz.prog W .any base t v := hval0
  have hW' := hW
  obtain ⟨p, q, hA0, hV, rfl, hfz, hnd⟩ := hW
  have hA : DataW.TrodAll enc Tryz.prog W 0 (fun _ => true) true Tryz.f4.params.toList args.toList ds p := hA0
  rw [Tryz.params4] at hA hval
  obtain ⟨v0, vs0, d0, ds0, p0, q0, hargs, rfl, rfl, h0, r0⟩ := trodAll_cons hA
  obtain ⟨rfl, rfl, rfl⟩ := trodAll_nil r0
  obtain rfl : args = #[v0] := by cases args; simp_all
  obtain ⟨rfl, rfl⟩ := trodVars_none hV
  have k0 := h0
  have lt0 : ∀ x ∈ p0, x.block < W.heap.size := by obtain ⟨m, hm⟩ := k0; exact DataW.trod_lt m _ _ _ hm
  obtain ⟨c0_0, c0_1, c0_2, y0_0, y0_1, y0_2, m0, rfl, rfl, rfl, hy0_0, hy0_1, hy0_2⟩ := open_agg3 Tryz.underlying30 (by kernel_rfl) cells_a0 (hval 0 30 v0 rfl rfl) h0
  obtain ⟨x0_0, ee0_0, rfl, wx0_0⟩ := DataW.trod_int Tryz.underlying3 hy0_0
  obtain ⟨x0_1, ee0_1, rfl, wx0_1⟩ := DataW.trod_int Tryz.underlying28 hy0_1
  obtain ⟨x0_2, ee0_2, rfl, wx0_2⟩ := DataW.trod_string Tryz.underlying9 hy0_2
  simp at ee0_0 ee0_1 ee0_2
  subst ee0_0 ee0_1 ee0_2
  clear hA0 hval0 hsz0
  refine (bytes_row x0_0 x0_1 x0_2 W wx0_0 wx0_1 wx0_2).mono fun e W' ⟨he, bel⟩ => ?_
  subst he
  exact ⟨_, rfl, _, _, _, [], _, [], hW', trodAll_mk1 (shut_bool Tryz.underlying4 _), (trodAll_cons_mk (Below.trod laid_out (by kernel_rfl) (of_decide_eq_true (by kernel_rfl)) k0 bel lt0) trodAll_mk0), rfl, bel.frame _, fun h => by cases h⟩
theorem over : Rows.blockBytesRow.holds Tryz.pinned (OpenSpec.ofChange Rows.blockBytesSpec) :=
  OpenClaim.holds_of_wide 4 Tryz.f4 rfl rfl rfl rfl rfl rfl rfl ⟨rfl, rfl, rfl, rfl, rfl⟩ rfl rfl rfl rfl rfl (by kernel_rfl) Tryz.func4 (by kernel_rfl)
    (of_decide_eq_true (by kernel_rfl)) (by unfold Func.isWrapper; first | (rw [if_pos (by decide +kernel)]; kernel_rfl) | (rw [if_neg (by decide +kernel)]; exact ⟨rfl, rfl⟩))
    (fun os started H enc _ => lifted os started H enc)
theorem proved : Rows.BlockBytesSaid := over
end Go.Proofs.YtcofkjiaiiiooaaGreat.fnBlockBytes
namespace Go.Proofs.YtcofkjiaiiiooaaGreat
theorem blockBytes_holds : Rows.BlockBytesSaid := fnBlockBytes.proved
#print axioms blockBytes_holds
end Go.Proofs.YtcofkjiaiiiooaaGreat
