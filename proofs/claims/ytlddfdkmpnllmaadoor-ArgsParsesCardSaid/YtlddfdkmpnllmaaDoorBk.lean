/- pilcrowlaw24.ArgsBack, walked. -/
import Derived.Test.YtlddfdkmpnllmaaDoorGr
namespace Go.Proofs.YtlddfdkmpnllmaaDoor
open Go.RowKit Go.Proofs.YtlddfdkmpnllmaaDoorW.PrintWords Go.Proofs.YtlddfdkmpnllmaaDoorW.PrintLast Go.Proofs.YtlddfdkmpnllmaaDoorW.PrintMore
set_option linter.unusedVariables false
set_option linter.unusedSimpArgs false

/-- What the arguments l come to, for the law to answer true. -/
def BackNo (l : List ByteArray) : Prop := ∃ n, parseF l = (Pl.zero, n, false)
structure BackYes (l : List ByteArray) (p : Pl) (n : Int) (ws : List ByteArray) : Prop where
  p1 : parseF l = (p, n, true)
  w1 : wordsF p = (ws, true)
  p2 : parseF ws = (p, 0, true)
  len : ws.length ≤ l.length
  lo : -9223372036854775808 ≤ p.c4
  hi : p.c4 ≤ 9223372036854775807
  sz : ∀ s ∈ ws, s.size ≤ 140737488351232

theorem eql_zero (w : World) : (binOp .eql 26 (.agg #[.int .i64 0, .int .i64 0, .int .i64 0, .int .i64 0, .int .i64 0, .bool false, .bool false, .bool false]) (.agg #[.int .i64 0, .int .i64 0, .int .i64 0, .int .i64 0, .int .i64 0, .bool false, .bool false, .bool false])).run Tryd.prog w = .ok (.bool true) w :=
  run_eql_plan Pl.zero Pl.zero w
theorem same_self (p : Pl) : p.same p = true := by simp [Pl.same]
theorem eql_self (c0 c1 c2 c3 c4 : Int) (f s t : Bool) (w : World) : (binOp .eql 26 (.agg #[.int .i64 c0, .int .i64 c1, .int .i64 c2, .int .i64 c3, .int .i64 c4, .bool f, .bool s, .bool t]) (.agg #[.int .i64 c0, .int .i64 c1, .int .i64 c2, .int .i64 c3, .int .i64 c4, .bool f, .bool s, .bool t])).run Tryd.prog w = .ok (.bool true) w := by
  have h := run_eql_plan ⟨c0, c1, c2, c3, c4, f, s, t⟩ ⟨c0, c1, c2, c3, c4, f, s, t⟩ w
  rw [same_self] at h
  exact h
theorem parse_to {v : Value} {l : List ByteArray} {w : World} (h : SL w v l) (hz : ∀ s ∈ l, s.size ≤ 140737488351232) {c0 c1 c2 c3 c4 : Int} {f s t : Bool} {n : Int} {ok : Bool} (hp : parseF l = (⟨c0, c1, c2, c3, c4, f, s, t⟩, n, ok)) :
    Calls Tryd.prog 10 #[v] w fun e w' => e = .returned (.tuple #[.agg #[.int .i64 c0, .int .i64 c1, .int .i64 c2, .int .i64 c3, .int .i64 c4, .bool f, .bool s, .bool t], .int .i64 n, .bool ok]) ∧ Below w.heap.size w w' := by
  have hq := parse_c v l w h hz
  rw [hp] at hq
  exact hq
theorem words_to {w : World} (hT : Tab w) {c0 c1 c2 c3 c4 : Int} {f s t : Bool} (h0 : -9223372036854775808 ≤ c4) (h1 : c4 ≤ 9223372036854775807) {ws : List ByteArray} {ok : Bool} (hp : wordsF ⟨c0, c1, c2, c3, c4, f, s, t⟩ = (ws, ok)) :
    Calls Tryd.prog 12 #[.agg #[.int .i64 c0, .int .i64 c1, .int .i64 c2, .int .i64 c3, .int .i64 c4, .bool f, .bool s, .bool t]] w fun e w' => ∃ v, e = .returned (.tuple #[v, .bool ok]) ∧ SL w' v ws ∧ Below w.heap.size w w' := by
  have hq := words_c ⟨c0, c1, c2, c3, c4, f, s, t⟩ h0 h1 w hT
  rw [hp] at hq
  exact hq
theorem own_nil (w : World) {B : Nat} (h : B ≤ w.heap.size) : (w.alloc (.cells #[] 9 (0, 0))).ownsRow B 9 1 (.slice (some ⟨w.heap.size, 0, none⟩) 0 0) 0 [] :=
  ⟨by simp, .inr ⟨w.heap.size, 0, _, rfl, h, heap_new _ _, Nat.le_refl _, by decide, by simp, by simp⟩⟩
set_option maxRecDepth 100000 in
set_option maxHeartbeats 1000000 in
theorem back_great (l : List ByteArray) (hg : greatF l = true) (v : Value) (w : World) (hT : Tab w) (hs : SL w v l) :
    Calls Tryd.prog 5 #[v] w fun e w' => e = .returned (.bool true) ∧ Below w.heap.size w w' := by
  have HT := Lib.hid hT
  have HS := Lib.hid hs
  clear hT hs
  go_enter Tryd.func5, Tryd.ntmps5
  go_wp2_with fail
  refine (awake_c _ HT.out).mono ?_
  rintro e w1 ⟨rfl, hb1⟩
  have HB1 := Lib.hid hb1
  clear hb1
  go_wp2_with fail
  refine (great_c v l _ (SL.below HS.out HB1.out)).mono ?_
  rintro e w2 ⟨rfl, hb2⟩
  have HB2 := Lib.hid (below_next HB1.out hb2)
  clear hb2
  rw [hg]
  go_wp2_with fail
  refine (awake_c _ (Tab.below HT.out HB2.out)).mono ?_
  rintro e w3 ⟨rfl, hb3⟩
  have HB3 := Lib.hid (below_next HB2.out hb3)
  clear hb3
  go_wp2_with fail
  go_ret
  exact ⟨rfl, HB3.out⟩
set_option maxRecDepth 100000 in
set_option maxHeartbeats 1000000 in
theorem back_no (l : List ByteArray) (hg : greatF l = false) (n : Int) (hp : parseF l = (Pl.zero, n, false)) (v : Value) (w : World) (hT : Tab w) (hs : SL w v l) :
    Calls Tryd.prog 5 #[v] w fun e w' => e = .returned (.bool true) ∧ Below w.heap.size w w' := by
  have HT := Lib.hid hT
  have HS := Lib.hid hs
  clear hT hs
  go_enter Tryd.func5, Tryd.ntmps5
  go_wp2_with fail
  refine (awake_c _ HT.out).mono ?_
  rintro e w1 ⟨rfl, hb1⟩
  have HB1 := Lib.hid hb1
  clear hb1
  go_wp2_with fail
  refine (great_c v l _ (SL.below HS.out HB1.out)).mono ?_
  rintro e w2 ⟨rfl, hb2⟩
  have HS2 := Lib.hid (SL.below (SL.below HS.out HB1.out) hb2)
  have HB2 := Lib.hid (below_next HB1.out hb2)
  clear hb2
  rw [hg]
  obtain ⟨A, c, rfl, hc, hr⟩ := HS2.out
  have HR : Hid (Kd.C Kd.string (w2.alloc (.cells #[] 9 (0, 0))) A l.length l) := Kd.C_below hr (below_new (Below.refl _ _) _)
  clear hr
  have HO : Hid ((w2.alloc (.cells #[] 9 (0, 0))).ownsRow w.heap.size 9 1 (.slice (some ⟨w2.heap.size, 0, none⟩) 0 0) 0 []) := own_nil w2 HB2.out.size
  have HL := great_len hg
  go_wp2_with (at_builtin; refine print_append_row_of Value.string ByteArray.empty (w0 := w) w.heap.size rfl (.tmp 19) (.tmp 20) 22 9 (.string ⟨#[]⟩) 16 rfl Tryd.underlying22 info_str rfl (by decide) (fun _ => rfl) (.slice (some ⟨w2.heap.size, 0, none⟩) 0 0) [] l A l.length c rfl rfl HO.out (Kd.reads_of_C HR.out) (below_new HB2.out _) (below_new HB2.out _).size (by simp only [List.length_nil]; omega) ?_; intro v3 w3 ho3 hb3 hg3 hat3; have HS3 : Hid (SL w3 v3 l) := SL.of_R (base := w.heap.size) (ok := fun _ => True) (Kd.R_of_own ho3 (fun _ _ => trivial)); have HB3 := Lib.hid hb3; clear ho3 hb3 hg3 hat3)
  have hz : ∀ s ∈ l, s.size ≤ 140737488351232 := fun s hs => Nat.le_trans (great_size hg s hs) (by decide)
  refine (parse_to (c0 := 0) (c1 := 0) (c2 := 0) (c3 := 0) (c4 := 0) (f := false) (s := false) (t := false) HS3.out hz hp).mono ?_
  rintro e w4 ⟨rfl, hb4⟩
  have HB4 := Lib.hid (below_next HB3.out hb4)
  clear hb4
  have he := eql_zero
  go_wp2_with fail
  go_ret
  exact ⟨rfl, below_new HB4.out _⟩
set_option maxRecDepth 100000 in
set_option maxHeartbeats 1000000 in
theorem back_yes (l : List ByteArray) (hg : greatF l = false) (c0 c1 c2 c3 c4 : Int) (f s t : Bool) (n : Int) (ws : List ByteArray) (hy : BackYes l ⟨c0, c1, c2, c3, c4, f, s, t⟩ n ws) (v : Value) (w : World) (hT : Tab w) (hs : SL w v l) :
    Calls Tryd.prog 5 #[v] w fun e w' => e = .returned (.bool true) ∧ Below w.heap.size w w' := by
  have HY := Lib.hid hy
  clear hy
  have HT := Lib.hid hT
  have HS := Lib.hid hs
  clear hT hs
  go_enter Tryd.func5, Tryd.ntmps5
  go_wp2_with fail
  refine (awake_c _ HT.out).mono ?_
  rintro e w1 ⟨rfl, hb1⟩
  have HB1 := Lib.hid hb1
  clear hb1
  go_wp2_with fail
  refine (great_c v l _ (SL.below HS.out HB1.out)).mono ?_
  rintro e w2 ⟨rfl, hb2⟩
  have HS2 := Lib.hid (SL.below (SL.below HS.out HB1.out) hb2)
  have HB2 := Lib.hid (below_next HB1.out hb2)
  clear hb2
  rw [hg]
  obtain ⟨A, c, rfl, hc, hr⟩ := HS2.out
  have HR : Hid (Kd.C Kd.string (w2.alloc (.cells #[] 9 (0, 0))) A l.length l) := Kd.C_below hr (below_new (Below.refl _ _) _)
  clear hr
  have HO : Hid ((w2.alloc (.cells #[] 9 (0, 0))).ownsRow w.heap.size 9 1 (.slice (some ⟨w2.heap.size, 0, none⟩) 0 0) 0 []) := own_nil w2 HB2.out.size
  have HL := great_len hg
  go_wp2_with (at_builtin; refine print_append_row_of Value.string ByteArray.empty (w0 := w) w.heap.size rfl (.tmp 19) (.tmp 20) 22 9 (.string ⟨#[]⟩) 16 rfl Tryd.underlying22 info_str rfl (by decide) (fun _ => rfl) (.slice (some ⟨w2.heap.size, 0, none⟩) 0 0) [] l A l.length c rfl rfl HO.out (Kd.reads_of_C HR.out) (below_new HB2.out _) (below_new HB2.out _).size (by simp only [List.length_nil]; omega) ?_; intro v3 w3 ho3 hb3 hg3 hat3; have HS3 : Hid (SL w3 v3 l) := SL.of_R (base := w.heap.size) (ok := fun _ => True) (Kd.R_of_own ho3 (fun _ _ => trivial)); have HB3 := Lib.hid hb3; clear ho3 hb3 hg3 hat3)
  have hz : ∀ s ∈ l, s.size ≤ 140737488351232 := fun s hs => Nat.le_trans (great_size hg s hs) (by decide)
  refine (parse_to HS3.out hz HY.out.p1).mono ?_
  rintro e w4 ⟨rfl, hb4⟩
  have HB4 := Lib.hid (below_next HB3.out hb4)
  clear hb4
  have HP4 : Hid (PlanAt (w4.alloc (.cells (Pl.cells ⟨c0, c1, c2, c3, c4, f, s, t⟩) 26 (0, 0))) w4.heap.size ⟨c0, c1, c2, c3, c4, f, s, t⟩) := PlanAt.new w4 _
  go_wp2_with fail
  refine (words_to (Tab.below HT.out (below_new HB4.out _)) HY.out.lo HY.out.hi HY.out.w1).mono ?_
  rintro e w5 ⟨v5, rfl, hs5, hb5⟩
  have HP5 : Hid (PlanAt w5 w4.heap.size ⟨c0, c1, c2, c3, c4, f, s, t⟩) := PlanAt.below HP4.out hb5
  have HS5 := Lib.hid hs5
  have HB5 := Lib.hid (below_next (below_new HB4.out _) hb5)
  clear hb5 hs5
  go_wp2_with fail
  refine (parse_to HS5.out HY.out.sz HY.out.p2).mono ?_
  rintro e w6 ⟨rfl, hb6⟩
  have HP6 : Hid (PlanAt w6 w4.heap.size ⟨c0, c1, c2, c3, c4, f, s, t⟩) := PlanAt.below HP5.out hb6
  have HS6 := Lib.hid (SL.below HS5.out hb6)
  have HB6 := Lib.hid (below_next HB5.out hb6)
  clear hb6
  obtain ⟨y0, y1, y2, y3, y4, y5, y6, y7⟩ := PlanAt.cells8 HP6.out
  have hlt := PlanAt.lt HP6.out
  have he := eql_self c0 c1 c2 c3 c4 f s t
  obtain ⟨A5, k5, rfl, hc5, hr5⟩ := HS6.out
  have HLe : decide ((l.length : Int) < (ws.length : Int)) = false := decide_eq_false (by have := HY.out.len; omega)
  go_wp2_with fail
  go_ret
  refine ⟨?_, below_new HB6.out _⟩
  show Ending.returned (.bool (decide (ws.length ≤ l.length))) = _
  rw [decide_eq_true HY.out.len]
/-- The law, walked: what is left is plain Lean. -/
theorem back_walk (l : List ByteArray) (h : greatF l = true ∨ BackNo l ∨ ∃ p n ws, BackYes l p n ws) (v : Value) (w : World) (hT : Tab w) (hs : SL w v l) :
    Calls Tryd.prog 5 #[v] w fun e w' => e = .returned (.bool true) ∧ Below w.heap.size w w' := by
  cases hg : greatF l with
  | true => exact back_great l hg v w hT hs
  | false =>
    rcases h with h | ⟨n, h⟩ | ⟨⟨c0, c1, c2, c3, c4, f, s, t⟩, n, ws, h⟩
    · rw [hg] at h; cases h
    · exact back_no l hg n h v w hT hs
    · exact back_yes l hg c0 c1 c2 c3 c4 f s t n ws h v w hT hs
end Go.Proofs.YtlddfdkmpnllmaaDoor
