/- Joined texts: Yf. -/
import Derived.Test.YtppchdinolndmaaGreatDoorMUfk
import Derived.Lib.SmallJoins
/- Words for a row's frame: a tally that was handed in, by value. -/
namespace Go.Proofs.YtppchdinolndmaaGreatDoor
open Go.ChangeShapes Go.WideShapes Go.ChangeAt Go.RowKit Go.Joins Go.Proofs.YtppchdinolndmaaGreatDoorW.PrintWords
set_option linter.unusedVariables false
theorem cells_tally : Tryz.prog.cellsOf 26 = 11 := by kernel_rfl
set_option maxRecDepth 100000 in
theorem list11 {α : Type} (l : List α) (h : (⟨l⟩ : Array α).size = 11) : ∃ c0 c1 c2 c3 c4 c5 c6 c7 c8 c9 c10, l = [c0, c1, c2, c3, c4, c5, c6, c7, c8, c9, c10] := by
 match l, h with
 | [c0, c1, c2, c3, c4, c5, c6, c7, c8, c9, c10], _ => exact ⟨c0, c1, c2, c3, c4, c5, c6, c7, c8, c9, c10, rfl⟩
set_option maxRecDepth 100000 in
set_option maxHeartbeats 1000000 in
theorem open_tally {H : Type} {enc : TypeId × Value → H} {W : World} {base : Nat} {v : Value} {d : DataW H} {p : List MemPlace}
  (hv : Value.okWide Tryz.prog W .any base 26 v) (h : DataW.Trod enc Tryz.prog W 0 (fun _ => true) true 26 v d p) :
  ∃ n0 n1 n2 n3 n4 n5 n6 n7 n8 n9 n10 : Int, v = .agg #[.int .i64 n0, .int .i64 n1, .int .i64 n2, .int .i64 n3, .int .i64 n4, .int .i64 n5, .int .i64 n6, .int .i64 n7, .int .i64 n8, .int .u32 n9, .int .u32 n10] ∧ (Lit.int .i64 n0).wf = true ∧ (Lit.int .i64 n1).wf = true ∧ (Lit.int .i64 n2).wf = true ∧ (Lit.int .i64 n3).wf = true ∧ (Lit.int .i64 n4).wf = true ∧ (Lit.int .i64 n5).wf = true ∧ (Lit.int .i64 n6).wf = true ∧ (Lit.int .i64 n7).wf = true ∧ (Lit.int .i64 n8).wf = true ∧ (Lit.int .u32 n9).wf = true ∧ (Lit.int .u32 n10).wf = true := by
 obtain ⟨cs, rfl, hsz⟩ := okWide_struct Tryz.underlying26 hv
 rw [cells_tally] at hsz
 obtain ⟨ls⟩ := cs
 obtain ⟨c0, c1, c2, c3, c4, c5, c6, c7, c8, c9, c10, rfl⟩ := list11 ls hsz
 obtain ⟨fuel, hf⟩ := h
 obtain ⟨xs, n, _, _, hl, hlen, hx⟩ := DataW.trod_struct Tryz.underlying26 hf
 have q0 := hx 0 _ rfl
 obtain ⟨z0, hz0⟩ : ∃ z, xs[0]? = some z := ⟨_, List.getElem?_eq_getElem (by rw [hlen]; decide)⟩
 rw [hz0] at q0
 obtain ⟨n0, e0, _, w0⟩ := DataW.trod_int Tryz.underlying3 q0
 have q1 := hx 1 _ rfl
 obtain ⟨z1, hz1⟩ : ∃ z, xs[1]? = some z := ⟨_, List.getElem?_eq_getElem (by rw [hlen]; decide)⟩
 rw [hz1] at q1
 obtain ⟨n1, e1, _, w1⟩ := DataW.trod_int Tryz.underlying3 q1
 have q2 := hx 2 _ rfl
 obtain ⟨z2, hz2⟩ : ∃ z, xs[2]? = some z := ⟨_, List.getElem?_eq_getElem (by rw [hlen]; decide)⟩
 rw [hz2] at q2
 obtain ⟨n2, e2, _, w2⟩ := DataW.trod_int Tryz.underlying3 q2
 have q3 := hx 3 _ rfl
 obtain ⟨z3, hz3⟩ : ∃ z, xs[3]? = some z := ⟨_, List.getElem?_eq_getElem (by rw [hlen]; decide)⟩
 rw [hz3] at q3
 obtain ⟨n3, e3, _, w3⟩ := DataW.trod_int Tryz.underlying3 q3
 have q4 := hx 4 _ rfl
 obtain ⟨z4, hz4⟩ : ∃ z, xs[4]? = some z := ⟨_, List.getElem?_eq_getElem (by rw [hlen]; decide)⟩
 rw [hz4] at q4
 obtain ⟨n4, e4, _, w4⟩ := DataW.trod_int Tryz.underlying3 q4
 have q5 := hx 5 _ rfl
 obtain ⟨z5, hz5⟩ : ∃ z, xs[5]? = some z := ⟨_, List.getElem?_eq_getElem (by rw [hlen]; decide)⟩
 rw [hz5] at q5
 obtain ⟨n5, e5, _, w5⟩ := DataW.trod_int Tryz.underlying3 q5
 have q6 := hx 6 _ rfl
 obtain ⟨z6, hz6⟩ : ∃ z, xs[6]? = some z := ⟨_, List.getElem?_eq_getElem (by rw [hlen]; decide)⟩
 rw [hz6] at q6
 obtain ⟨n6, e6, _, w6⟩ := DataW.trod_int Tryz.underlying3 q6
 have q7 := hx 7 _ rfl
 obtain ⟨z7, hz7⟩ : ∃ z, xs[7]? = some z := ⟨_, List.getElem?_eq_getElem (by rw [hlen]; decide)⟩
 rw [hz7] at q7
 obtain ⟨n7, e7, _, w7⟩ := DataW.trod_int Tryz.underlying3 q7
 have q8 := hx 8 _ rfl
 obtain ⟨z8, hz8⟩ : ∃ z, xs[8]? = some z := ⟨_, List.getElem?_eq_getElem (by rw [hlen]; decide)⟩
 rw [hz8] at q8
 obtain ⟨n8, e8, _, w8⟩ := DataW.trod_int Tryz.underlying3 q8
 have q9 := hx 9 _ rfl
 obtain ⟨z9, hz9⟩ : ∃ z, xs[9]? = some z := ⟨_, List.getElem?_eq_getElem (by rw [hlen]; decide)⟩
 rw [hz9] at q9
 obtain ⟨n9, e9, _, w9⟩ := DataW.trod_int Tryz.underlying24 q9
 have q10 := hx 10 _ rfl
 obtain ⟨z10, hz10⟩ : ∃ z, xs[10]? = some z := ⟨_, List.getElem?_eq_getElem (by rw [hlen]; decide)⟩
 rw [hz10] at q10
 obtain ⟨n10, e10, _, w10⟩ := DataW.trod_int Tryz.underlying24 q10
 obtain rfl : c0 = .int .i64 n0 := by
  have hc : Tryz.prog.cellsOf 3 = 1 := by kernel_rfl
  simpa [hc, Value.cells] using e0
 obtain rfl : c1 = .int .i64 n1 := by
  have hc : Tryz.prog.cellsOf 3 = 1 := by kernel_rfl
  simpa [hc, Value.cells] using e1
 obtain rfl : c2 = .int .i64 n2 := by
  have hc : Tryz.prog.cellsOf 3 = 1 := by kernel_rfl
  simpa [hc, Value.cells] using e2
 obtain rfl : c3 = .int .i64 n3 := by
  have hc : Tryz.prog.cellsOf 3 = 1 := by kernel_rfl
  simpa [hc, Value.cells] using e3
 obtain rfl : c4 = .int .i64 n4 := by
  have hc : Tryz.prog.cellsOf 3 = 1 := by kernel_rfl
  simpa [hc, Value.cells] using e4
 obtain rfl : c5 = .int .i64 n5 := by
  have hc : Tryz.prog.cellsOf 3 = 1 := by kernel_rfl
  simpa [hc, Value.cells] using e5
 obtain rfl : c6 = .int .i64 n6 := by
  have hc : Tryz.prog.cellsOf 3 = 1 := by kernel_rfl
  simpa [hc, Value.cells] using e6
 obtain rfl : c7 = .int .i64 n7 := by
  have hc : Tryz.prog.cellsOf 3 = 1 := by kernel_rfl
  simpa [hc, Value.cells] using e7
 obtain rfl : c8 = .int .i64 n8 := by
  have hc : Tryz.prog.cellsOf 3 = 1 := by kernel_rfl
  simpa [hc, Value.cells] using e8
 obtain rfl : c9 = .int .u32 n9 := by
  have hc : Tryz.prog.cellsOf 24 = 1 := by kernel_rfl
  simpa [hc, Value.cells] using e9
 obtain rfl : c10 = .int .u32 n10 := by
  have hc : Tryz.prog.cellsOf 24 = 1 := by kernel_rfl
  simpa [hc, Value.cells] using e10
 exact ⟨n0, n1, n2, n3, n4, n5, n6, n7, n8, n9, n10, rfl, w0, w1, w2, w3, w4, w5, w6, w7, w8, w9, w10⟩
end Go.Proofs.YtppchdinolndmaaGreatDoor
