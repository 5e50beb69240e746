/- Proved here: pilcrowlaw25.TransChains answers true at every input. Conditions: none beyond the row's own (the form's reach). -/
import Derived.Test.YtmgnndnofbemeaaGreatMUfk
import Derived.Test.YtmgnndnofbemeaaGreatMLt
import Derived.Laws.IdiomArrays
namespace Go.Proofs.YtmgnndnofbemeaaGreat.fnTransChains
open Go.ChangeShapes Go.WideShapes Go.ChangeAt Go.RowKit
open Go.ChangeMaps (open_string shut_string)
set_option linter.unusedVariables false
theorem cells_a0 : Tryz.prog.cellsOf 62 = 3 := by kernel_rfl
theorem cells_i0 : Tryz.prog.cellsOf 3 = 1 := by kernel_rfl
theorem list3 {α : Type} (l : List α) (h : (⟨l⟩ : Array α).size = 3) : ∃ a b c, l = [a, b, c] := by
 match l, h with
 | [a, b, c], _ => exact ⟨a, b, c, rfl⟩
set_option maxRecDepth 100000 in
set_option maxHeartbeats 2000000 in
theorem lifted (os : Os) (started : os.Started) (H : Type) (enc : TypeId × Value → H) :
  ReturnsInHanded {} Tryz.checked os 9 .any (Rows.transChainsSpec.pre6 enc Tryz.prog Tryz.f9 Rows.transChainsRow.domain false) (Rows.transChainsSpec.post enc Tryz.prog Tryz.f9 false true false false) := by
 refine returnsInHanded_of_change_sized (C := Tryz.checked) own_godebug started (by kernel_rfl) Tryz.func9
  (ChangeSpec.witness6 (enc := enc) (C := Tryz.checked) false ⟨#[], #[.agg #[.int .i64 0, .int .i64 0, .int .i64 0], .string ⟨#[]⟩], []⟩ 8 (by kernel_rfl) (by kernel_rfl) (by kernel_rfl) (by kernel_rfl)) ?_
 intro W base args ds gs before hval0 hW hcnd hsz0 _
 have hval : ∀ (j : Nat) t v, Tryz.f9.params[j]? = some t → args[j]? = some v → Value.okWide Tryz.prog W .any base t v := hval0
 have hW' := hW
 obtain ⟨p, q, hA0, hV, rfl, hfz, hnd⟩ := hW
 have hA : DataW.TrodAll enc Tryz.prog W 0 (fun _ => true) true Tryz.f9.params.toList args.toList ds p := hA0
 rw [Tryz.params9] at hA hval
 obtain ⟨v0, vs0, d0, ds0, p0, q0, hargs, rfl, rfl, h0, r0⟩ := trodAll_cons hA
 obtain ⟨v1, vs1, d1, ds1, p1, q1, rfl, rfl, rfl, h1, r1⟩ := trodAll_cons r0
 obtain ⟨rfl, rfl, rfl⟩ := trodAll_nil r1
 obtain rfl : args = #[v0, v1] := by cases args; simp_all
 obtain ⟨rfl, rfl⟩ := trodVars_none hV
 have k0 := h0
 have lt0 : ∀ x ∈ p0, x.block < W.heap.size := by obtain ⟨m, hm⟩ := k0; exact DataW.trod_lt m _ _ _ hm
 obtain ⟨cs0, rfl, hsz0, _⟩ : ∃ cs, v0 = .agg cs ∧ cs.size = Tryz.prog.cellsOf 62 ∧ Row.okWide Tryz.prog W .any base 62 cs := by
  have := hval 0 62 v0 rfl rfl
  simpa [Value.okWide, Tryz.underlying62] using this
 rw [cells_a0] at hsz0
 obtain ⟨ls0⟩ := cs0
 obtain ⟨c0_0, c0_1, c0_2, rfl⟩ := list3 ls0 hsz0
 obtain ⟨fu0, hf0⟩ := h0
 obtain ⟨y0_0, y0_1, y0_2, m0, hx0, hy0_0, hy0_1, hy0_2⟩ := trod_array3 Tryz.underlying62 cells_i0 hf0
 obtain ⟨x0_0, ee0_0, rfl, wx0_0⟩ := DataW.trod_int Tryz.underlying3 hy0_0
 obtain ⟨x0_1, ee0_1, rfl, wx0_1⟩ := DataW.trod_int Tryz.underlying3 hy0_1
 obtain ⟨x0_2, ee0_2, rfl, wx0_2⟩ := DataW.trod_int Tryz.underlying3 hy0_2
 simp at ee0_0 ee0_1 ee0_2
 subst ee0_0 ee0_1 ee0_2
 simp only [Prod.mk.injEq] at hx0
 obtain ⟨rfl, rfl⟩ := hx0
 obtain ⟨s1, rfl, rfl, rfl, w1⟩ := open_string Tryz.underlying9 (hval 1 9 v1 rfl rfl) h1
 clear hA0 hval0 hsz0
 refine (chains_c x0_0 x0_1 x0_2 s1 W ).mono fun e W' ⟨he, bel⟩ => ?_
 subst he
 exact ⟨_, rfl, _, _, _, [], _, [], hW', trodAll_mk1 (shut_bool Tryz.underlying4 _), (trodAll_cons_mk (Below.trod laid_out (by kernel_rfl) (of_decide_eq_true (by kernel_rfl)) k0 bel lt0) (trodAll_cons_mk (shut_string Tryz.underlying9 w1) trodAll_mk0)), rfl, bel.frame _, fun h => by cases h⟩
theorem over : Rows.transChainsRow.holds Tryz.pinned (OpenSpec.ofChange Rows.transChainsSpec) :=
 OpenClaim.holds_of_wide 9 Tryz.f9 rfl rfl rfl rfl rfl rfl rfl ⟨rfl, rfl, rfl, rfl, rfl⟩ rfl rfl rfl rfl rfl (by kernel_rfl) Tryz.func9 (by kernel_rfl)
  (of_decide_eq_true (by kernel_rfl)) (by unfold Func.isWrapper; first | (rw [if_pos (by decide +kernel)]; kernel_rfl) | (rw [if_neg (by decide +kernel)]; exact ⟨rfl, rfl⟩))
  (fun os started H enc _ => lifted os started H enc)
theorem proved : Rows.TransChainsSaid := over
end Go.Proofs.YtmgnndnofbemeaaGreat.fnTransChains
namespace Go.Proofs.YtmgnndnofbemeaaGreat
theorem transChains_holds : Rows.TransChainsSaid := fnTransChains.proved
#print axioms transChains_holds
end Go.Proofs.YtmgnndnofbemeaaGreat
