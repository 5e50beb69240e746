/- pilcrowlaw24.awake answers true. -/
import Derived.Test.YtlddfdkmpnllmaaDoorWd
namespace Go.Proofs.YtlddfdkmpnllmaaDoor
open Go.RowKit Go.Proofs.YtlddfdkmpnllmaaDoorW.PrintWords Go.Proofs.YtlddfdkmpnllmaaDoorW.PrintLast Go.Proofs.YtlddfdkmpnllmaaDoorW.PrintMore
set_option linter.unusedVariables false
set_option linter.unusedSimpArgs false

def lEnc : List ByteArray := [⟨#[101, 110, 99, 111, 100, 101]⟩, ⟨#[45, 45, 116, 111, 61, 115, 99, 115, 117]⟩, ⟨#[45, 45, 102, 114, 97, 109, 101, 100]⟩]
def lDec : List ByteArray := [⟨#[100, 101, 99, 111, 100, 101]⟩]
def lBad : List ByteArray := [⟨#[101, 110, 99, 111, 100, 101]⟩, ⟨#[45, 45, 116, 111, 61, 120]⟩]
def pEnc : Pl := ⟨1, 0, 9, 1, 4096, true, false, false⟩
theorem parse_enc : parseF lEnc = (pEnc, 0, true) := by kernel_rfl
theorem parse_dec : parseF lDec = (Pl.zero, 1, false) := by kernel_rfl
theorem parse_bad : parseF lBad = (Pl.zero, 1, false) := by kernel_rfl
theorem words_enc : wordsF pEnc = (lEnc, true) := by kernel_rfl
theorem SL_lit {w : World} {g : Nat} (l : List ByteArray) (hl : l.length ≤ 100) (h : w.heap[g]? = some (.cells (l.map Value.string).toArray 9 (0, 0))) : SL w (.slice (some ⟨g, 0, none⟩) l.length l.length) l :=
  SL.of_R (base := 0) (ok := fun _ => True) (Kd.R_of_own ⟨by simp [encs], .inr ⟨g, l.length, _, rfl, Nat.zero_le _, h, Nat.le_refl _, Nat.le_trans hl (by decide), by simp, by simp [encs, List.take_of_length_le]⟩⟩ (fun _ _ => trivial))
theorem same_enc : PProg.pilcrowref24_Same.f 5 lEnc lEnc = some true := by kernel_rfl
theorem same_c (v : Value) (w : World) (h : SL w v lEnc) (u : Value) (h2 : SL w u lEnc) : Calls Tryd.prog 14 #[v, u] w fun e w' => e = .returned (.bool true) ∧ ∃ n, w' = w.drewN n := by
  obtain ⟨A, c, rfl, hc, hr⟩ := h
  obtain ⟨A2, c2, rfl, hc2, hr2⟩ := h2
  exact (PProg.pilcrowref24_Same.calls 5 A c lEnc A2 c2 lEnc true w hr hc hr2 hc2 same_enc).mono fun e w' h => ⟨h.1, h.2.out⟩
/-- Parse at a literal list. -/
theorem parse_lit {l : List ByteArray} (hl : l.length ≤ 100) (hs : ∀ s ∈ l, s.size ≤ 140737488351232) {q : Pl} {n : Int} {ok : Bool} (hp : parseF l = (q, n, ok)) {w : World} {g : Nat} (h : w.heap[g]? = some (.cells (l.map Value.string).toArray 9 (0, 0))) :
    Calls Tryd.prog 10 #[.slice (some ⟨g, 0, none⟩) l.length l.length] w fun e w' => e = .returned (.tuple #[.agg #[.int .i64 q.c0, .int .i64 q.c1, .int .i64 q.c2, .int .i64 q.c3, .int .i64 q.c4, .bool q.f, .bool q.s, .bool q.t], .int .i64 n, .bool ok]) ∧ Below w.heap.size w w' := by
  have h := parse_c _ l w (SL_lit l hl h) hs
  rw [hp] at h
  exact h
theorem small_enc : ∀ s ∈ lEnc, s.size ≤ 140737488351232 := by intro s hs; simp only [lEnc, List.mem_cons, List.not_mem_nil, or_false] at hs; rcases hs with rfl | rfl | rfl <;> decide
theorem small_dec : ∀ s ∈ lDec, s.size ≤ 140737488351232 := by intro s hs; simp only [lDec, List.mem_cons, List.not_mem_nil, or_false] at hs; rcases hs with rfl <;> decide
theorem small_bad : ∀ s ∈ lBad, s.size ≤ 140737488351232 := by intro s hs; simp only [lBad, List.mem_cons, List.not_mem_nil, or_false] at hs; rcases hs with rfl | rfl <;> decide


theorem heap_new1 (w : World) (o o' : Obj) : ((w.alloc o).alloc o').heap[w.heap.size + 1]? = some o' := by
  show ((w.heap.push o).push o')[w.heap.size + 1]? = _
  rw [Array.getElem?_push, if_pos (by simp)]
theorem enc_c {w : World} {g : Nat} (h : w.heap[g]? = some (.cells #[.string ⟨#[101, 110, 99, 111, 100, 101]⟩, .string ⟨#[45, 45, 116, 111, 61, 115, 99, 115, 117]⟩, .string ⟨#[45, 45, 102, 114, 97, 109, 101, 100]⟩] 9 (0, 0))) :
    Calls Tryd.prog 10 #[.slice (some ⟨g, 0, none⟩) 3 3] w fun e w' => e = .returned (.tuple #[.agg #[.int .i64 1, .int .i64 0, .int .i64 9, .int .i64 1, .int .i64 4096, .bool true, .bool false, .bool false], .int .i64 0, .bool true]) ∧ Below w.heap.size w w' :=
  parse_lit (l := lEnc) (by decide) small_enc parse_enc h
theorem dec_c {w : World} {g : Nat} (h : w.heap[g]? = some (.cells #[.string ⟨#[100, 101, 99, 111, 100, 101]⟩] 9 (0, 0))) :
    Calls Tryd.prog 10 #[.slice (some ⟨g, 0, none⟩) 1 1] w fun e w' => e = .returned (.tuple #[.agg #[.int .i64 0, .int .i64 0, .int .i64 0, .int .i64 0, .int .i64 0, .bool false, .bool false, .bool false], .int .i64 1, .bool false]) ∧ Below w.heap.size w w' :=
  parse_lit (l := lDec) (by decide) small_dec parse_dec h
theorem bad_c {w : World} {g : Nat} (h : w.heap[g]? = some (.cells #[.string ⟨#[101, 110, 99, 111, 100, 101]⟩, .string ⟨#[45, 45, 116, 111, 61, 120]⟩] 9 (0, 0))) :
    Calls Tryd.prog 10 #[.slice (some ⟨g, 0, none⟩) 2 2] w fun e w' => e = .returned (.tuple #[.agg #[.int .i64 0, .int .i64 0, .int .i64 0, .int .i64 0, .int .i64 0, .bool false, .bool false, .bool false], .int .i64 1, .bool false]) ∧ Below w.heap.size w w' :=
  parse_lit (l := lBad) (by decide) small_bad parse_bad h
theorem words_enc_c (w : World) (hT : Tab w) : Calls Tryd.prog 12 #[.agg #[.int .i64 1, .int .i64 0, .int .i64 9, .int .i64 1, .int .i64 4096, .bool true, .bool false, .bool false]] w (Worded w (lEnc, true)) := by
  have h := words_c pEnc (by decide) (by decide) w hT
  rw [words_enc] at h
  exact h
theorem eql_enc (w : World) : (binOp .eql 26 (.agg #[.int .i64 1, .int .i64 0, .int .i64 9, .int .i64 1, .int .i64 4096, .bool true, .bool false, .bool false]) (.agg #[.int .i64 1, .int .i64 0, .int .i64 9, .int .i64 1, .int .i64 4096, .bool true, .bool false, .bool false])).run Tryd.prog w = .ok (.bool true) w :=
  run_eql_plan pEnc pEnc w
set_option maxRecDepth 100000 in
set_option maxHeartbeats 1000000 in
theorem awake_c (w : World) (hT : Tab w) : Calls Tryd.prog 8 #[] w fun e w' => e = .returned (.bool true) ∧ Below w.heap.size w w' := by
  have HT := Lib.hid hT
  clear hT
  go_enter Tryd.func8, Tryd.ntmps8
  go_wp2_with fail
  refine (enc_c (heap_new _ _)).mono ?_
  rintro e w1 ⟨rfl, hb1⟩
  have HB1 := Lib.hid (below_next (below_new (Below.refl _ _) _) hb1)
  clear hb1
  go_wp2_with fail
  refine (dec_c (heap_new1 _ _ _)).mono ?_
  rintro e w2 ⟨rfl, hb2⟩
  have HP2 : Hid (PlanAt w2 w1.heap.size pEnc) := PlanAt.below (PlanAt.alloc (PlanAt.new w1 pEnc) _) hb2
  have HB2 := Lib.hid (below_next (below_new (below_new HB1.out _) _) hb2)
  clear hb2
  go_wp2_with fail
  refine (bad_c (heap_new1 _ _ _)).mono ?_
  rintro e w3 ⟨rfl, hb3⟩
  have HP3 : Hid (PlanAt w3 w1.heap.size pEnc) := PlanAt.below (PlanAt.alloc (PlanAt.alloc HP2.out _) _) hb3
  have HB3 := Lib.hid (below_next (below_new (below_new HB2.out _) _) hb3)
  clear hb3
  obtain ⟨y0, y1, y2, y3, y4, y5, y6, y7⟩ := PlanAt.cells8 HP3.out
  have hlt := PlanAt.lt HP3.out
  simp only [pEnc] at y0 y1 y2 y3 y4 y5 y6 y7
  go_wp2_with fail
  clear y0 y1 y2 y3 y4 y5 y6 y7 hlt
  refine (words_enc_c _ (Tab.below HT.out (below_new HB3.out _))).mono ?_
  rintro e w4 ⟨v, rfl, hv, hb4⟩
  have HV := Lib.hid hv
  have HP4 : Hid (PlanAt w4 w1.heap.size pEnc) := PlanAt.below (PlanAt.alloc HP3.out _) hb4
  have HB4 := Lib.hid (below_next (below_new HB3.out _) hb4)
  clear hv hb4
  obtain ⟨y0, y1, y2, y3, y4, y5, y6, y7⟩ := PlanAt.cells8 HP4.out
  have hlt := PlanAt.lt HP4.out
  simp only [pEnc] at y0 y1 y2 y3 y4 y5 y6 y7
  have he := eql_enc
  go_wp2_with fail
  have HL : Hid (SL (w4.alloc (.cells #[.string ⟨#[101, 110, 99, 111, 100, 101]⟩, .string ⟨#[45, 45, 116, 111, 61, 115, 99, 115, 117]⟩, .string ⟨#[45, 45, 102, 114, 97, 109, 101, 100]⟩] 9 (0, 0))) (.slice (some ⟨w4.heap.size, 0, none⟩) 3 3) lEnc) := SL_lit lEnc (by decide) (heap_new _ _)
  refine (same_c _ _ (SL.below HV.out (below_new (Below.refl _ _) _)) _ HL.out).mono ?_
  rintro e w5 ⟨rfl, n, rfl⟩
  go_wp2_with fail
  go_ret
  exact ⟨rfl, below_drewN' (below_new HB4.out _) _⟩
end Go.Proofs.YtlddfdkmpnllmaaDoor
