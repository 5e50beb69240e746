/- Proved here: pilcrowlaw24.ArgsParses answers true at every input (its tied card). Conditions: none beyond the row's own (the laid tables, the form's reach). -/
import Derived.Test.YtlddfdkmpnllmaaDoorCards
import Derived.Test.YtlddfdkmpnllmaaDoorTie
import Derived.Test.YtlddfdkmpnllmaaDoorRt
import Derived.WalkKit
import Derived.ProofKit
import Derived.OpenShut
import Derived.SliceStrings
import Derived.Carry
import Derived.SizedLaws
import Derived.ChangeMaps5
import Derived.Deep.DeepHandedRow
import Derived.Lib.LaidTab
import Derived.Stop.LaidErr
namespace Go.Proofs.YtlddfdkmpnllmaaDoor.fnArgsParses
open Go.ChangeShapes Go.WideShapes Go.ChangeAt Go.RowKit Go.ChangeMaps Go.Proofs.YtlddfdkmpnllmaaDoorW.PrintWords Go.Proofs.YtlddfdkmpnllmaaDoorW.PrintLast Go.Proofs.YtlddfdkmpnllmaaDoorW.PrintMore
set_option linter.unusedVariables false

theorem own : ownKnob Tryd.prog.godebug = none := by kernel_rfl
theorem laidOut : laidOutB Tryd.prog = true := by kernel_rfl
theorem gType : (Tryd.prog.globals[1]?).map (·.type) = some 77 := by kernel_rfl
theorem cellsTab : Tryd.prog.cellsOf 77 = 20 := by kernel_rfl
theorem cellsNum : Tryd.prog.cellsOf 68 = 1 := by kernel_rfl
theorem cellsStr : Tryd.prog.cellsOf 9 = 1 := by kernel_rfl
theorem table {W : World} (h : laidMetH Tryd.prog Rows.argsParsesRow.laid W) : Tab W := by
  have h1 : laidMet Tryd.prog Rows.argsParsesRow.laid W := h
  have h3 : Lib.TabIs Tryd.prog W "internal/strconv.uint64pow10" .u64 Lib.pow10Tab :=
    Lib.tabIs_of_head (rest := []) gTab gType Tryd.underlying77 Tryd.underlying68 cellsNum cellsTab (laidMet.tail (laidMet.tail h1))
  refine ⟨h3, ?_⟩
  have hc := h3.cell gTab 0 (by decide)
  rcases Nat.lt_or_ge 1 W.heap.size with h' | h'
  · exact h'
  · unfold World.cell? at hc
    rw [Array.getElem?_eq_none h'] at hc
    simp at hc

/-- A list of texts, handed in. -/
theorem open_texts {H : Type} {enc : TypeId × Value → H} {W : World} {base : Nat} {v0 : Value} {d0 : DataW H} {p0 : List MemPlace}
    (hv : Value.okWide Tryd.prog W .any base 22 v0) (h0 : DataW.Trod enc Tryd.prog W 0 (fun _ => true) true 22 v0 d0 p0) : ∃ l, SL W v0 l ∧ (l = [] ∨ ∃ spare, d0 = .slice (strs l) spare) := by
  obtain ⟨A, n, c, rfl⟩ := okWide_slice Tryd.underlying22 hv
  obtain ⟨fuel, hf⟩ := h0
  rcases open_strings Tryd.underlying22 Tryd.underlying9 cellsStr hf with ⟨hcs, hx⟩ | ⟨a, len, cap, ss, hcs, _, hl, hm, hz, hx, hcell, hws⟩
  · injection hcs with e1 e2
    injection e1 with e3 e4 e5
    subst e3 e4 e5
    exact ⟨[], ⟨none, 0, rfl, Nat.le_refl _, Kd.C_nil _ _⟩, .inl rfl⟩
  · injection hcs with e1 e2
    injection e1 with e3 e4 e5
    subst e3 e4 e5
    have hz : ss.length = c := by simpa using hz
    have hlen : (ss.take n).length = n := by rw [List.length_take]; omega
    have hmx : n ≤ 9223372036854775807 := Nat.le_trans hl (Nat.le_trans hm (by decide))
    refine ⟨ss.take n, ⟨some a, c, by rw [hlen], by rw [hlen]; exact hl, Kd.C_of_reads (d := ByteArray.empty) ⟨rfl, by rw [hlen]; exact hmx, fun _ => ⟨a, rfl, fun k hk => ?_⟩⟩⟩, .inr ⟨_, (Prod.mk.inj hx).1⟩⟩
    rw [hlen] at hk
    rw [hcell k (by omega)]
    congr 2
    rw [List.getD_eq_getElem?_getD, List.getD_eq_getElem?_getD, List.getElem?_take_of_lt hk]

/-- What the row's weights give of a list of texts. -/
theorem sized_texts {H : Type} {ts : List TypeId} {d0 : DataW H} {ds : List (DataW H)} {l : List ByteArray} (hsz : (DataW.weightsEach Tryd.prog (22 :: ts) (d0 :: ds)).all (· ≤ reachBytes) = true) (hd : l = [] ∨ ∃ spare, d0 = .slice (strs l) spare) :
    (∀ s ∈ l, s.size ≤ 140737488351232) ∧ l.length * 16 ≤ 140737488351232 := by
  rcases hd with rfl | ⟨spare, rfl⟩
  · exact ⟨(fun s hs => by cases hs), by decide⟩
  · have h1 := sized_slice (j := 0) hsz rfl rfl Tryd.underlying22
    have hb : Tryd.prog.bytesOf 9 = 16 := by kernel_rfl
    rw [hb] at h1
    have hr : reachBytes = 140737488351232 := rfl
    rw [hr] at h1
    have hl : (strs (H := H) l).length = l.length := by simp [strs]
    refine ⟨fun s hs => ?_, by rw [hl] at h1; have : (l.length + spare.length) * 16 = l.length * 16 + spare.length * 16 := Nat.add_mul _ _ _; omega⟩
    have hm : s.data.toList.length ∈ DataW.weightsAll (H := H) Tryd.prog 9 (strs l) := by
      clear hsz h1 hl
      induction l with
      | nil => cases hs
      | cons a r ih =>
        rcases List.mem_cons.1 hs with rfl | hs
        · simp [strs, DataW.weightsAll, DataW.weights]
        · have := ih hs
          simp only [strs, List.map_cons, DataW.weightsAll, List.mem_append]
          exact .inr this
    have := List.all_eq_true.1 hsz _ (DataW.weights_mem_each (j := 0) rfl rfl s.data.toList.length (by simp only [DataW.weights, Tryd.underlying22]; exact List.mem_cons_of_mem _ (List.mem_append_left _ hm)))
    rw [hr] at this
    have h2 : s.data.toList.length = s.size := rfl
    simp only [decide_eq_true_eq] at this
    omega
theorem wf_lo {n : Int} (h : (Lit.int .i64 n).wf = true) : -9223372036854775808 ≤ n := (bounds_i64 h).1
theorem wf_hi {n : Int} (h : (Lit.int .i64 n).wf = true) : n ≤ 9223372036854775807 := (bounds_i64 h).2
theorem trodAll_one {H : Type} {enc : TypeId × Value → H} {P : Program} {W : World} {sp : Nat → Bool} {hd : Bool} {t : TypeId} {v : Value} {d : DataW H} {p : List MemPlace} (h : DataW.Trod enc P W 0 sp hd t v d p) : DataW.TrodAll enc P W 0 sp hd [t] [v] [d] p := by
  have := trodAll_cons_mk h trodAll_mk0
  simpa using this
theorem contract (H : Type) (enc : TypeId × Value → H) (W : World) (base : Nat) (args : Array Value) (ds gs : List (DataW H)) (before : List MemPlace)
    (hval : ∀ (j : Nat) t v, Tryd.f3.params[j]? = some t → args[j]? = some v → Value.okWide Tryd.prog W .any base t v)
    (hW : DataW.Whole enc Tryd.prog Tryd.f3.params.toList Rows.argsParsesSpec.vars false W args.toList ds gs before) (hL : laidMetH Tryd.prog Rows.argsParsesRow.laid W)
    (hsz : (DataW.weightsEach Tryd.prog (Tryd.f3.params.toList ++ (OpenSpec.ofChange Rows.argsParsesSpec).bare.plain.varTypes Tryd.prog) (ds ++ gs)).all (· ≤ reachBytes) = true) :
    Calls Tryd.prog 3 args W fun e W' => ∃ v, e = .returned v ∧ Rows.argsParsesSpec.post enc Tryd.prog Tryd.f3 false true false false W args v W' := by
  have hW' := hW
  obtain ⟨p, q, hA0, hV, rfl, hfz, hnd⟩ := hW
  have hA : DataW.TrodAll enc Tryd.prog W 0 (fun _ => true) true Tryd.f3.params.toList args.toList ds p := hA0
  rw [Tryd.params3] at hA hval
  obtain ⟨v0, vs0, d0, ds0, p0, q0, ha0, hd0, rfl, h0, r0⟩ := trodAll_cons hA
  obtain ⟨hn1, hn2, rfl⟩ := trodAll_nil r0
  subst hn1 hn2 hd0
  obtain rfl : args = #[v0] := by cases args; simp_all
  obtain ⟨rfl, rfl⟩ := trodVars_none hV
  obtain ⟨l, hs, hd⟩ := open_texts (hval 0 22 v0 rfl rfl) h0
  clear hA0
  simp only [List.append_nil] at hW'
  have hlt : ∀ x ∈ p0, x.block < W.heap.size := fun x hx => by simpa using hW'.lt x hx
  refine (parses_c l v0 W (table hL) hs).mono fun e W' ⟨he, hb⟩ => ?_
  subst he
  exact ⟨_, rfl, _, _, _, [], p0, [], hW', trodAll_cons_mk (shut_bool Tryd.underlying4 _) trodAll_mk0,
    (by
      have h := trodAll_cons_mk (WideElems.Trod_stays (sp' := fun k => decide (k < W.heap.size)) laidOut (by kernel_rfl) (of_decide_eq_true (by kernel_rfl)) h0 (fun x hx => hb.same (hlt x hx)) (fun x hx => by simpa using hlt x hx)) (trodAll_mk0)
      simp only [List.append_nil] at h
      exact h), rfl, hb.frame _, fun h => by cases h⟩

noncomputable def laidWorld (os : Os) : World :=
  { World.holding Tryd.prog os ⟨#[], #[], []⟩ with heap := ((((World.holding Tryd.prog os ⟨#[], #[], []⟩).heap).modify 2 (fun | .cells _ t frozen => .cells #[.int .u8 0, .int .u8 1, .int .u8 28, .int .u8 2, .int .u8 29, .int .u8 14, .int .u8 24, .int .u8 3, .int .u8 30, .int .u8 22, .int .u8 20, .int .u8 15, .int .u8 25, .int .u8 17, .int .u8 4, .int .u8 8, .int .u8 31, .int .u8 27, .int .u8 13, .int .u8 23, .int .u8 21, .int .u8 19, .int .u8 16, .int .u8 7, .int .u8 26, .int .u8 12, .int .u8 18, .int .u8 6, .int .u8 11, .int .u8 5, .int .u8 10, .int .u8 9] t frozen | o => o)).modify 3 (fun | .cells _ t frozen => .cells #[.int .u8 0, .int .u8 1, .int .u8 56, .int .u8 2, .int .u8 57, .int .u8 49, .int .u8 28, .int .u8 3, .int .u8 61, .int .u8 58, .int .u8 42, .int .u8 50, .int .u8 38, .int .u8 29, .int .u8 17, .int .u8 4, .int .u8 62, .int .u8 47, .int .u8 59, .int .u8 36, .int .u8 45, .int .u8 43, .int .u8 51, .int .u8 22, .int .u8 53, .int .u8 39, .int .u8 33, .int .u8 30, .int .u8 24, .int .u8 18, .int .u8 12, .int .u8 5, .int .u8 63, .int .u8 55, .int .u8 48, .int .u8 27, .int .u8 60, .int .u8 41, .int .u8 37, .int .u8 16, .int .u8 46, .int .u8 35, .int .u8 44, .int .u8 21, .int .u8 52, .int .u8 32, .int .u8 23, .int .u8 11, .int .u8 54, .int .u8 26, .int .u8 40, .int .u8 15, .int .u8 34, .int .u8 20, .int .u8 31, .int .u8 10, .int .u8 25, .int .u8 14, .int .u8 19, .int .u8 9, .int .u8 13, .int .u8 8, .int .u8 7, .int .u8 6] t frozen | o => o)).modify 1 (fun | .cells _ t frozen => .cells #[.int .u64 1, .int .u64 10, .int .u64 100, .int .u64 1000, .int .u64 10000, .int .u64 100000, .int .u64 1000000, .int .u64 10000000, .int .u64 100000000, .int .u64 1000000000, .int .u64 10000000000, .int .u64 100000000000, .int .u64 1000000000000, .int .u64 10000000000000, .int .u64 100000000000000, .int .u64 1000000000000000, .int .u64 10000000000000000, .int .u64 100000000000000000, .int .u64 1000000000000000000, .int .u64 10000000000000000000] t frozen | o => o) }
theorem laid_met (os : Os) : laidMet Tryd.prog Rows.argsParsesRow.laid ((laidWorld os).forCall (fun _ _ => 0) ⟨#[], #[.slice none 0 0], []⟩).memory :=
  laidMet_of_run' 8 (by kernel_rfl) (by kernel_rfl)
theorem reads (os : Os) {H : Type} (enc : TypeId × Value → H) : ∃ places, DataW.whole enc Tryd.prog ((laidWorld os).forCall (fun _ _ => 0) ⟨#[], #[.slice none 0 0], []⟩).memory Tryd.f3.params.toList Rows.argsParsesSpec.vars false #[Value.slice none 0 0].toList 8 = some ([.nil], [], places) :=
  ⟨[], by kernel_rfl⟩

set_option maxRecDepth 100000 in
theorem lifted (os : Os) (started : os.Started) (H : Type) (enc : TypeId × Value → H) (F : Stop.Interp) :
    ReturnsInHanded {} Tryd.checked os 3 .any ((OpenSpec.ofChange Rows.argsParsesSpec).preRow enc Tryd.prog Tryd.f3 Rows.argsParsesRow.domain false Rows.argsParsesRow.laid) (((OpenSpec.ofChange Rows.argsParsesSpec).at F).post enc Tryd.prog Tryd.f3 false true false false) := by
  obtain ⟨places, hx⟩ := reads os enc
  refine returnsInHanded_of_row (C := Tryd.checked) (s := OpenSpec.ofChange Rows.argsParsesSpec) own started (by kernel_rfl) Tryd.func3
    (witness_row_at (enc := enc) (C := Tryd.checked) false (laidWorld os) #[.slice none 0 0] rfl (by kernel_rfl) (by kernel_rfl) (by kernel_rfl)
      (OpenSpec.preRow_of_cond 8 hx (by kernel_rfl) (fun k hk => by cases hk) (by kernel_rfl) (laid_met os))) ?_
  intro W base args ds gs before hval hW _ _ hsz hL _ _
  exact contract H enc W base args ds gs before hval hW hL hsz
theorem said : Rows.ArgsParsesSaid :=
  OpenClaim.holds_of_cond 3 Tryd.f3 rfl rfl rfl rfl rfl rfl rfl ⟨rfl, rfl, rfl, rfl, rfl⟩ rfl rfl rfl rfl rfl (by kernel_rfl) Tryd.func3 (by kernel_rfl)
    (of_decide_eq_true (by kernel_rfl)) (by unfold Func.isWrapper; first | (rw [if_pos (by decide +kernel)]; kernel_rfl) | (rw [if_neg (by decide +kernel)]; exact ⟨rfl, rfl⟩))
    (fun os started H enc _ F => by rw [OpenClaim.pre_eq_preRow]; exact lifted os started H enc F)
theorem plain (f : FuncId) (fn : Func) (hf : Tryd.pinned.checked.prog.funcNamed "pilcrow/pilcrowlaw24.ArgsParses" = some f) (hfn : Tryd.pinned.checked.prog.funcs[f]? = some fn) :
    false = Tryd.pinned.checked.prog.looks [] ∧ ∀ (j : Nat) t, fn.params[j]? = some t → Tryd.pinned.checked.prog.wantsStandIn t = false := by
  obtain rfl : f = 3 := Option.some.inj ((show Tryd.prog.funcNamed "pilcrow/pilcrowlaw24.ArgsParses" = some 3 by kernel_rfl).symm.trans hf) |>.symm
  obtain rfl : fn = Tryd.f3 := (Option.some.inj (Tryd.func3.symm.trans hfn)).symm
  refine ⟨by kernel_rfl, fun j t ht => ?_⟩
  rw [Tryd.params3] at ht
  have ht := Array.mem_of_getElem? ht
  simp only [List.mem_toArray, List.mem_cons, List.not_mem_nil, or_false] at ht
  rcases ht with rfl
  · exact (show Tryd.prog.wantsStandIn 22 = false by kernel_rfl)
theorem card : Rows.ArgsParsesCardSaid :=
  Claim7.holds_tied_plain_at .later [] _ _ _ _ said (fun _ h => by cases h) (by kernel_rfl) (fun _ h => by cases h) argsParses_row_tie rfl ⟨rfl, rfl⟩ (by kernel_rfl) rfl plain (by kernel_rfl)
end Go.Proofs.YtlddfdkmpnllmaaDoor.fnArgsParses
