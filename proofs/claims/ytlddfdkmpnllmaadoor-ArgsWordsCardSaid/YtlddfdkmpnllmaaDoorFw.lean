/- Proved here: pilcrowlaw24.ArgsWords answers true at every input (its tied card). Conditions: none beyond the row's own (the laid tables, the form's reach). -/
import Derived.Test.YtlddfdkmpnllmaaDoorCards
import Derived.Test.YtlddfdkmpnllmaaDoorTie
import Derived.Test.YtlddfdkmpnllmaaDoorWa
import Derived.WalkKit
import Derived.ProofKit
import Derived.OpenShut
import Derived.SliceStrings
import Derived.Carry
import Derived.SizedLaws
import Derived.ChangeMaps5
import Derived.Deep.DeepHandedRow
import Derived.Lib.LaidTab
import Derived.Stop.LaidErr
namespace Go.Proofs.YtlddfdkmpnllmaaDoor.fnArgsWords
open Go.ChangeShapes Go.WideShapes Go.ChangeAt Go.RowKit Go.ChangeMaps Go.Proofs.YtlddfdkmpnllmaaDoorW.PrintWords Go.Proofs.YtlddfdkmpnllmaaDoorW.PrintLast Go.Proofs.YtlddfdkmpnllmaaDoorW.PrintMore
set_option linter.unusedVariables false

theorem own : ownKnob Tryd.prog.godebug = none := by kernel_rfl
theorem laidOut : laidOutB Tryd.prog = true := by kernel_rfl
theorem gType : (Tryd.prog.globals[1]?).map (·.type) = some 77 := by kernel_rfl
theorem cellsTab : Tryd.prog.cellsOf 77 = 20 := by kernel_rfl
theorem cellsNum : Tryd.prog.cellsOf 68 = 1 := by kernel_rfl
theorem cellsStr : Tryd.prog.cellsOf 9 = 1 := by kernel_rfl
theorem table {W : World} (h : laidMetH Tryd.prog Rows.argsWordsRow.laid W) : Tab W := by
  have h1 : laidMet Tryd.prog Rows.argsWordsRow.laid W := h
  have h3 : Lib.TabIs Tryd.prog W "internal/strconv.uint64pow10" .u64 Lib.pow10Tab :=
    Lib.tabIs_of_head (rest := []) gTab gType Tryd.underlying77 Tryd.underlying68 cellsNum cellsTab (laidMet.tail (laidMet.tail h1))
  refine ⟨h3, ?_⟩
  have hc := h3.cell gTab 0 (by decide)
  rcases Nat.lt_or_ge 1 W.heap.size with h' | h'
  · exact h'
  · unfold World.cell? at hc
    rw [Array.getElem?_eq_none h'] at hc
    simp at hc

theorem cellsI : Tryd.prog.cellsOf 3 = 1 := by kernel_rfl
theorem cellsB : Tryd.prog.cellsOf 4 = 1 := by kernel_rfl
theorem cellsP : Tryd.prog.cellsOf 26 = 8 := by kernel_rfl
/-- A plan, handed in. -/
theorem open_plan {H : Type} {enc : TypeId × Value → H} {W : World} {base : Nat} {v0 : Value} {d0 : DataW H} {p0 : List MemPlace}
    (hv : Value.okWide Tryd.prog W .any base 26 v0) (h0 : DataW.Trod enc Tryd.prog W 0 (fun _ => true) true 26 v0 d0 p0) :
    ∃ (c0 c1 c2 c3 c4 : Int) (f s t : Bool), v0 = .agg #[.int .i64 c0, .int .i64 c1, .int .i64 c2, .int .i64 c3, .int .i64 c4, .bool f, .bool s, .bool t] ∧ (Lit.int .i64 c4).wf = true := by
  obtain ⟨cs, rfl, hsz⟩ := okWide_struct Tryd.underlying26 hv
  rw [cellsP] at hsz
  obtain ⟨l⟩ := cs
  match l, hsz with
  | [a0, a1, a2, a3, a4, a5, a6, a7], _ =>
  obtain ⟨fuel, hf⟩ := h0
  have hf' : DataW.trod enc Tryd.prog W 0 (fun _ => true) true fuel 26 [a0, a1, a2, a3, a4, a5, a6, a7] = some (d0, p0) := hf
  obtain ⟨xs, n, _, hx, hl, hlen, hfd⟩ := DataW.trod_struct Tryd.underlying26 hf'
  match xs, hlen with
  | [z0, z1, z2, z3, z4, z5, z6, z7], _ =>
  have g0 := hfd 0 _ rfl
  have g1 := hfd 1 _ rfl
  have g2 := hfd 2 _ rfl
  have g3 := hfd 3 _ rfl
  have g4 := hfd 4 _ rfl
  have g5 := hfd 5 _ rfl
  have g6 := hfd 6 _ rfl
  have g7 := hfd 7 _ rfl
  change DataW.trod enc Tryd.prog W 0 (fun _ => true) true n 3 ([a0, a1, a2, a3, a4, a5, a6, a7].take (Tryd.prog.cellsOf 3)) = some z0 at g0
  change DataW.trod enc Tryd.prog W 0 (fun _ => true) true n 3 ([a1, a2, a3, a4, a5, a6, a7].take (Tryd.prog.cellsOf 3)) = some z1 at g1
  change DataW.trod enc Tryd.prog W 0 (fun _ => true) true n 3 ([a2, a3, a4, a5, a6, a7].take (Tryd.prog.cellsOf 3)) = some z2 at g2
  change DataW.trod enc Tryd.prog W 0 (fun _ => true) true n 3 ([a3, a4, a5, a6, a7].take (Tryd.prog.cellsOf 3)) = some z3 at g3
  change DataW.trod enc Tryd.prog W 0 (fun _ => true) true n 3 ([a4, a5, a6, a7].take (Tryd.prog.cellsOf 3)) = some z4 at g4
  change DataW.trod enc Tryd.prog W 0 (fun _ => true) true n 4 ([a5, a6, a7].take (Tryd.prog.cellsOf 4)) = some z5 at g5
  change DataW.trod enc Tryd.prog W 0 (fun _ => true) true n 4 ([a6, a7].take (Tryd.prog.cellsOf 4)) = some z6 at g6
  change DataW.trod enc Tryd.prog W 0 (fun _ => true) true n 4 ([a7].take (Tryd.prog.cellsOf 4)) = some z7 at g7
  rw [cellsI] at g0 g1 g2 g3 g4
  rw [cellsB] at g5 g6 g7
  obtain ⟨c0, e0, _, _⟩ := DataW.trod_int (k := .i64) Tryd.underlying3 g0
  obtain ⟨c1, e1, _, _⟩ := DataW.trod_int (k := .i64) Tryd.underlying3 g1
  obtain ⟨c2, e2, _, _⟩ := DataW.trod_int (k := .i64) Tryd.underlying3 g2
  obtain ⟨c3, e3, _, _⟩ := DataW.trod_int (k := .i64) Tryd.underlying3 g3
  obtain ⟨c4, e4, _, hw⟩ := DataW.trod_int (k := .i64) Tryd.underlying3 g4
  obtain ⟨f, e5, _⟩ := DataW.trod_bool Tryd.underlying4 g5
  obtain ⟨s, e6, _⟩ := DataW.trod_bool Tryd.underlying4 g6
  obtain ⟨t, e7, _⟩ := DataW.trod_bool Tryd.underlying4 g7
  simp at e0 e1 e2 e3 e4 e5 e6 e7
  subst e0 e1 e2 e3 e4 e5 e6 e7
  exact ⟨c0, c1, c2, c3, c4, f, s, t, rfl, hw⟩
theorem wf_lo {n : Int} (h : (Lit.int .i64 n).wf = true) : -9223372036854775808 ≤ n := (bounds_i64 h).1
theorem wf_hi {n : Int} (h : (Lit.int .i64 n).wf = true) : n ≤ 9223372036854775807 := (bounds_i64 h).2
theorem trodAll_one {H : Type} {enc : TypeId × Value → H} {P : Program} {W : World} {sp : Nat → Bool} {hd : Bool} {t : TypeId} {v : Value} {d : DataW H} {p : List MemPlace} (h : DataW.Trod enc P W 0 sp hd t v d p) : DataW.TrodAll enc P W 0 sp hd [t] [v] [d] p := by
  have := trodAll_cons_mk h trodAll_mk0
  simpa using this
theorem contract (H : Type) (enc : TypeId × Value → H) (W : World) (base : Nat) (args : Array Value) (ds gs : List (DataW H)) (before : List MemPlace)
    (hval : ∀ (j : Nat) t v, Tryd.f4.params[j]? = some t → args[j]? = some v → Value.okWide Tryd.prog W .any base t v)
    (hW : DataW.Whole enc Tryd.prog Tryd.f4.params.toList Rows.argsWordsSpec.vars false W args.toList ds gs before) (hL : laidMetH Tryd.prog Rows.argsWordsRow.laid W)
    (hsz : (DataW.weightsEach Tryd.prog (Tryd.f4.params.toList ++ (OpenSpec.ofChange Rows.argsWordsSpec).bare.plain.varTypes Tryd.prog) (ds ++ gs)).all (· ≤ reachBytes) = true) :
    Calls Tryd.prog 4 args W fun e W' => ∃ v, e = .returned v ∧ Rows.argsWordsSpec.post enc Tryd.prog Tryd.f4 false true false false W args v W' := by
  have hW' := hW
  obtain ⟨p, q, hA0, hV, rfl, hfz, hnd⟩ := hW
  have hA : DataW.TrodAll enc Tryd.prog W 0 (fun _ => true) true Tryd.f4.params.toList args.toList ds p := hA0
  rw [Tryd.params4] at hA hval
  obtain ⟨v0, vs0, d0, ds0, p0, q0, ha0, hd0, rfl, h0, r0⟩ := trodAll_cons hA
  obtain ⟨hn1, hn2, rfl⟩ := trodAll_nil r0
  subst hn1 hn2 hd0
  obtain rfl : args = #[v0] := by cases args; simp_all
  obtain ⟨rfl, rfl⟩ := trodVars_none hV
  obtain ⟨c0, c1, c2, c3, c4, f, s, t, rfl, hw⟩ := open_plan (hval 0 26 v0 rfl rfl) h0
  clear hA0
  simp only [List.append_nil] at hW'
  have hlt : ∀ x ∈ p0, x.block < W.heap.size := fun x hx => by simpa using hW'.lt x hx
  refine (wordslaw_c c0 c1 c2 c3 c4 f s t (wf_lo hw) (wf_hi hw) W (table hL)).mono fun e W' ⟨he, hb⟩ => ?_
  subst he
  exact ⟨_, rfl, _, _, _, [], p0, [], hW', trodAll_cons_mk (shut_bool Tryd.underlying4 _) trodAll_mk0,
    (by
      have h := trodAll_cons_mk (WideElems.Trod_stays (sp' := fun k => decide (k < W.heap.size)) laidOut (by kernel_rfl) (of_decide_eq_true (by kernel_rfl)) h0 (fun x hx => hb.same (hlt x hx)) (fun x hx => by simpa using hlt x hx)) (trodAll_mk0)
      simp only [List.append_nil] at h
      exact h), rfl, hb.frame _, fun h => by cases h⟩

noncomputable def laidWorld (os : Os) : World :=
  { World.holding Tryd.prog os ⟨#[], #[], []⟩ with heap := ((((World.holding Tryd.prog os ⟨#[], #[], []⟩).heap).modify 2 (fun | .cells _ t frozen => .cells #[.int .u8 0, .int .u8 1, .int .u8 28, .int .u8 2, .int .u8 29, .int .u8 14, .int .u8 24, .int .u8 3, .int .u8 30, .int .u8 22, .int .u8 20, .int .u8 15, .int .u8 25, .int .u8 17, .int .u8 4, .int .u8 8, .int .u8 31, .int .u8 27, .int .u8 13, .int .u8 23, .int .u8 21, .int .u8 19, .int .u8 16, .int .u8 7, .int .u8 26, .int .u8 12, .int .u8 18, .int .u8 6, .int .u8 11, .int .u8 5, .int .u8 10, .int .u8 9] t frozen | o => o)).modify 3 (fun | .cells _ t frozen => .cells #[.int .u8 0, .int .u8 1, .int .u8 56, .int .u8 2, .int .u8 57, .int .u8 49, .int .u8 28, .int .u8 3, .int .u8 61, .int .u8 58, .int .u8 42, .int .u8 50, .int .u8 38, .int .u8 29, .int .u8 17, .int .u8 4, .int .u8 62, .int .u8 47, .int .u8 59, .int .u8 36, .int .u8 45, .int .u8 43, .int .u8 51, .int .u8 22, .int .u8 53, .int .u8 39, .int .u8 33, .int .u8 30, .int .u8 24, .int .u8 18, .int .u8 12, .int .u8 5, .int .u8 63, .int .u8 55, .int .u8 48, .int .u8 27, .int .u8 60, .int .u8 41, .int .u8 37, .int .u8 16, .int .u8 46, .int .u8 35, .int .u8 44, .int .u8 21, .int .u8 52, .int .u8 32, .int .u8 23, .int .u8 11, .int .u8 54, .int .u8 26, .int .u8 40, .int .u8 15, .int .u8 34, .int .u8 20, .int .u8 31, .int .u8 10, .int .u8 25, .int .u8 14, .int .u8 19, .int .u8 9, .int .u8 13, .int .u8 8, .int .u8 7, .int .u8 6] t frozen | o => o)).modify 1 (fun | .cells _ t frozen => .cells #[.int .u64 1, .int .u64 10, .int .u64 100, .int .u64 1000, .int .u64 10000, .int .u64 100000, .int .u64 1000000, .int .u64 10000000, .int .u64 100000000, .int .u64 1000000000, .int .u64 10000000000, .int .u64 100000000000, .int .u64 1000000000000, .int .u64 10000000000000, .int .u64 100000000000000, .int .u64 1000000000000000, .int .u64 10000000000000000, .int .u64 100000000000000000, .int .u64 1000000000000000000, .int .u64 10000000000000000000] t frozen | o => o) }
theorem laid_met (os : Os) : laidMet Tryd.prog Rows.argsWordsRow.laid ((laidWorld os).forCall (fun _ _ => 0) ⟨#[], #[.agg #[.int .i64 0, .int .i64 0, .int .i64 0, .int .i64 0, .int .i64 0, .bool false, .bool false, .bool false]], []⟩).memory :=
  laidMet_of_run' 8 (by kernel_rfl) (by kernel_rfl)
theorem reads (os : Os) {H : Type} (enc : TypeId × Value → H) : ∃ places, DataW.whole enc Tryd.prog ((laidWorld os).forCall (fun _ _ => 0) ⟨#[], #[.agg #[.int .i64 0, .int .i64 0, .int .i64 0, .int .i64 0, .int .i64 0, .bool false, .bool false, .bool false]], []⟩).memory Tryd.f4.params.toList Rows.argsWordsSpec.vars false #[Value.agg #[.int .i64 0, .int .i64 0, .int .i64 0, .int .i64 0, .int .i64 0, .bool false, .bool false, .bool false]].toList 8 = some ([.agg [.lit (.int .i64 0), .lit (.int .i64 0), .lit (.int .i64 0), .lit (.int .i64 0), .lit (.int .i64 0), .lit (.bool false), .lit (.bool false), .lit (.bool false)]], [], places) :=
  ⟨[], by kernel_rfl⟩

set_option maxRecDepth 100000 in
theorem lifted (os : Os) (started : os.Started) (H : Type) (enc : TypeId × Value → H) (F : Stop.Interp) :
    ReturnsInHanded {} Tryd.checked os 4 .any ((OpenSpec.ofChange Rows.argsWordsSpec).preRow enc Tryd.prog Tryd.f4 Rows.argsWordsRow.domain false Rows.argsWordsRow.laid) (((OpenSpec.ofChange Rows.argsWordsSpec).at F).post enc Tryd.prog Tryd.f4 false true false false) := by
  obtain ⟨places, hx⟩ := reads os enc
  refine returnsInHanded_of_row (C := Tryd.checked) (s := OpenSpec.ofChange Rows.argsWordsSpec) own started (by kernel_rfl) Tryd.func4
    (witness_row_at (enc := enc) (C := Tryd.checked) false (laidWorld os) #[.agg #[.int .i64 0, .int .i64 0, .int .i64 0, .int .i64 0, .int .i64 0, .bool false, .bool false, .bool false]] rfl (by kernel_rfl) (by kernel_rfl) (by kernel_rfl)
      (OpenSpec.preRow_of_cond 8 hx (by kernel_rfl) (fun k hk => by cases hk) (by kernel_rfl) (laid_met os))) ?_
  intro W base args ds gs before hval hW _ _ hsz hL _ _
  exact contract H enc W base args ds gs before hval hW hL hsz
theorem said : Rows.ArgsWordsSaid :=
  OpenClaim.holds_of_cond 4 Tryd.f4 rfl rfl rfl rfl rfl rfl rfl ⟨rfl, rfl, rfl, rfl, rfl⟩ rfl rfl rfl rfl rfl (by kernel_rfl) Tryd.func4 (by kernel_rfl)
    (of_decide_eq_true (by kernel_rfl)) (by unfold Func.isWrapper; first | (rw [if_pos (by decide +kernel)]; kernel_rfl) | (rw [if_neg (by decide +kernel)]; exact ⟨rfl, rfl⟩))
    (fun os started H enc _ F => by rw [OpenClaim.pre_eq_preRow]; exact lifted os started H enc F)
theorem plain (f : FuncId) (fn : Func) (hf : Tryd.pinned.checked.prog.funcNamed "pilcrow/pilcrowlaw24.ArgsWords" = some f) (hfn : Tryd.pinned.checked.prog.funcs[f]? = some fn) :
    false = Tryd.pinned.checked.prog.looks [] ∧ ∀ (j : Nat) t, fn.params[j]? = some t → Tryd.pinned.checked.prog.wantsStandIn t = false := by
  obtain rfl : f = 4 := Option.some.inj ((show Tryd.prog.funcNamed "pilcrow/pilcrowlaw24.ArgsWords" = some 4 by kernel_rfl).symm.trans hf) |>.symm
  obtain rfl : fn = Tryd.f4 := (Option.some.inj (Tryd.func4.symm.trans hfn)).symm
  refine ⟨by kernel_rfl, fun j t ht => ?_⟩
  rw [Tryd.params4] at ht
  have ht := Array.mem_of_getElem? ht
  simp only [List.mem_toArray, List.mem_cons, List.not_mem_nil, or_false] at ht
  rcases ht with rfl
  · exact (show Tryd.prog.wantsStandIn 26 = false by kernel_rfl)
theorem card : Rows.ArgsWordsCardSaid :=
  Claim7.holds_tied_plain_at .later [] _ _ _ _ said (fun _ h => by cases h) (by kernel_rfl) (fun _ h => by cases h) argsWords_row_tie rfl ⟨rfl, rfl⟩ (by kernel_rfl) rfl plain (by kernel_rfl)
end Go.Proofs.YtlddfdkmpnllmaaDoor.fnArgsWords
