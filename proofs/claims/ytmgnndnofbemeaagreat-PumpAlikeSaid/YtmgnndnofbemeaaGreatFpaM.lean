/- Proved here: pilcrowlaw19.PumpAlike answers true at every input. Conditions: none beyond the row's own (the form's reach). -/
import Derived.Test.YtmgnndnofbemeaaGreatMUfk
import Derived.Test.YtmgnndnofbemeaaGreatMLpc
import Derived.Test.YtmgnndnofbemeaaGreatMUfc
import Derived.Lib.SmallJoins
namespace Go.Proofs.YtmgnndnofbemeaaGreat.fnPumpAlike
open Go.ChangeShapes Go.WideShapes Go.ChangeAt Go.RowKit
open Go.ChangeMaps (open_string shut_string)
open Go.Joins
set_option linter.unusedVariables false
theorem cells_a2 : Tryz.prog.cellsOf 59 = 4 := by kernel_rfl
theorem cells_b2 : Tryz.prog.cellsOf 52 = 2 := by kernel_rfl
set_option maxRecDepth 100000 in
set_option maxHeartbeats 2000000 in
theorem lifted (os : Os) (started : os.Started) (H : Type) (enc : TypeId × Value → H) :
  ReturnsInHanded {} Tryz.checked os 8 .any (Rows.pumpAlikeSpec.pre6 enc Tryz.prog Tryz.f8 Rows.pumpAlikeRow.domain false) (Rows.pumpAlikeSpec.post enc Tryz.prog Tryz.f8 false true false false) := by
 refine returnsInHanded_of_change_sized (C := Tryz.checked) own_godebug started (by kernel_rfl) Tryz.func8
  (ChangeSpec.witness6 (enc := enc) (C := Tryz.checked) false ⟨#[], #[.int .i64 0, .string ⟨#[]⟩, .agg #[.slice none 0 0, .slice none 0 0, .slice none 0 0, .slice none 0 0]], []⟩ 8 (by kernel_rfl) (by kernel_rfl) (by kernel_rfl) (by kernel_rfl)) ?_
 intro W base args ds gs before hval0 hW hcnd hsz0 _
 have hval : ∀ (j : Nat) t v, Tryz.f8.params[j]? = some t → args[j]? = some v → Value.okWide Tryz.prog W .any base t v := hval0
 have hW' := hW
 obtain ⟨p, q, hA0, hV, rfl, hfz, hnd⟩ := hW
 have hA : DataW.TrodAll enc Tryz.prog W 0 (fun _ => true) true Tryz.f8.params.toList args.toList ds p := hA0
 rw [Tryz.params8] at hA hval
 obtain ⟨v0, vs0, d0, ds0, p0, q0, hargs, rfl, rfl, h0, r0⟩ := trodAll_cons hA
 obtain ⟨v1, vs1, d1, ds1, p1, q1, rfl, rfl, rfl, h1, r1⟩ := trodAll_cons r0
 obtain ⟨v2, vs2, d2, ds2, p2, q2, rfl, rfl, rfl, h2, r2⟩ := trodAll_cons r1
 obtain ⟨rfl, rfl, rfl⟩ := trodAll_nil r2
 obtain rfl : args = #[v0, v1, v2] := by cases args; simp_all
 obtain ⟨rfl, rfl⟩ := trodVars_none hV
 obtain ⟨n0, rfl, rfl, rfl, w0⟩ := open_int Tryz.underlying3 (hval 0 3 v0 rfl rfl) h0
 obtain ⟨s1, rfl, rfl, rfl, w1⟩ := open_string Tryz.underlying9 (hval 1 9 v1 rfl rfl) h1
 have k2 := h2
 have lt2 : ∀ x ∈ p2, x.block < W.heap.size := by obtain ⟨m, hm⟩ := k2; exact DataW.trod_lt m _ _ _ hm
 obtain ⟨c2_0, c2_1, c2_2, c2_3, n2, m2, y2_0, y2_1, y2_2, y2_3, rfl, hy2_0, hy2_1, hy2_2, hy2_3⟩ := open_rows22 Tryz.underlying59 Tryz.underlying52 (by kernel_rfl) cells_b2 cells_a2 (hval 2 59 v2 rfl rfl) h2
 obtain ⟨A2_0, c2_0, l2_0, rfl, e2_0, g2_0, w2_0, _⟩ := row_cells Tryz.underlying50 Tryz.underlying3 (by kernel_rfl) hy2_0
 obtain ⟨A2_1, c2_1, l2_1, rfl, e2_1, g2_1, w2_1, _⟩ := row_cells Tryz.underlying50 Tryz.underlying3 (by kernel_rfl) hy2_1
 obtain ⟨A2_2, c2_2, l2_2, rfl, e2_2, g2_2, w2_2, _⟩ := row_cells Tryz.underlying50 Tryz.underlying3 (by kernel_rfl) hy2_2
 obtain ⟨A2_3, c2_3, l2_3, rfl, e2_3, g2_3, w2_3, _⟩ := row_cells Tryz.underlying50 Tryz.underlying3 (by kernel_rfl) hy2_3
 clear hA0 hval0 hsz0
 refine (palike_c n0 s1 A2_0 A2_1 A2_2 A2_3 c2_0 c2_1 c2_2 c2_3 l2_0 l2_1 l2_2 l2_3 W e2_0 e2_1 e2_2 e2_3 g2_0 g2_1 g2_2 g2_3 w2_0 w2_1 w2_2 w2_3).mono fun e W' ⟨he, bel⟩ => ?_
 subst he
 exact ⟨_, rfl, _, _, _, [], _, [], hW', trodAll_mk1 (shut_bool Tryz.underlying4 _), (trodAll_cons_mk (shut_int Tryz.underlying3 w0) (trodAll_cons_mk (shut_string Tryz.underlying9 w1) (trodAll_cons_mk (Below.trod laid_out (by kernel_rfl) (of_decide_eq_true (by kernel_rfl)) k2 bel lt2) trodAll_mk0))), rfl, bel.frame _, fun h => by cases h⟩
theorem over : Rows.pumpAlikeRow.holds Tryz.pinned (OpenSpec.ofChange Rows.pumpAlikeSpec) :=
 OpenClaim.holds_of_wide 8 Tryz.f8 rfl rfl rfl rfl rfl rfl rfl ⟨rfl, rfl, rfl, rfl, rfl⟩ rfl rfl rfl rfl rfl (by kernel_rfl) Tryz.func8 (by kernel_rfl)
  (of_decide_eq_true (by kernel_rfl)) (by unfold Func.isWrapper; first | (rw [if_pos (by decide +kernel)]; kernel_rfl) | (rw [if_neg (by decide +kernel)]; exact ⟨rfl, rfl⟩))
  (fun os started H enc _ => lifted os started H enc)
theorem proved : Rows.PumpAlikeSaid := over
end Go.Proofs.YtmgnndnofbemeaaGreat.fnPumpAlike
namespace Go.Proofs.YtmgnndnofbemeaaGreat
theorem pumpAlike_holds : Rows.PumpAlikeSaid := fnPumpAlike.proved
#print axioms pumpAlike_holds
end Go.Proofs.YtmgnndnofbemeaaGreat
