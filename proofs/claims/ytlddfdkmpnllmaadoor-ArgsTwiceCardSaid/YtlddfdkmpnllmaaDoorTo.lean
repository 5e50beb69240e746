/- pilcrowlaw24.ArgsTwice at one argument, walked; the contract. -/
import Derived.Test.YtlddfdkmpnllmaaDoorTw
namespace Go.Proofs.YtlddfdkmpnllmaaDoor
open Go.RowKit Go.Proofs.YtlddfdkmpnllmaaDoorW.PrintWords Go.Proofs.YtlddfdkmpnllmaaDoorW.PrintLast Go.Proofs.YtlddfdkmpnllmaaDoorW.PrintMore
set_option linter.unusedVariables false
set_option linter.unusedSimpArgs false

set_option maxRecDepth 100000 in
set_option maxHeartbeats 2000000 in
theorem twice_one (l : List ByteArray) (hz : ∀ s ∈ l, s.size ≤ 140737488351232) (c0 c1 c2 c3 c4 : Int) (f s t : Bool) (n : Int) (hp : parseF l = (⟨c0, c1, c2, c3, c4, f, s, t⟩, n, true)) (which : Int) (hw0 : -9223372036854775808 ≤ which) (hw1 : which ≤ 9223372036854775807) (other : ByteArray)
    (hg : greatF l = false) (hl0 : l.length ≤ 1) (ho : other.size ≤ 100) (hc1 : 1 ≤ c0) (v : Value) (w : World) (hT : Tab w) (hs : SL w v l) :
    Calls Tryd.prog 7 #[v, .int .i64 which, .string other] w fun e w' => e = .returned (.bool true) ∧ Below w.heap.size w w' := by
  have HT := Lib.hid hT
  have HP := Lib.hid hp
  have HS := Lib.hid hs
  have HG := Lib.hid hg
  obtain ⟨A, c, rfl, hc, hr⟩ := hs
  have HR : Hid (Kd.C Kd.string (w.alloc (.cells #[] 9 (0, 0))) A l.length l) := Kd.C_below hr (below_new (Below.refl _ _) _)
  clear hr hg hp hT
  have HO : Hid ((w.alloc (.cells #[] 9 (0, 0))).ownsRow w.heap.size 9 1 (.slice (some ⟨w.heap.size, 0, none⟩) 0 0) 0 []) := own_nil w (Nat.le_refl _)
  go_enter Tryd.func7, Tryd.ntmps7
  go_wp2_with (at_builtin; refine print_append_row_of Value.string ByteArray.empty (w0 := w) w.heap.size rfl (.tmp 18) (.tmp 19) 22 9 (.string ⟨#[]⟩) 16 rfl Tryd.underlying22 info_str rfl (by decide) (fun _ => rfl) (.slice (some ⟨w.heap.size, 0, none⟩) 0 0) [] l A l.length c rfl rfl HO.out (Kd.reads_of_C HR.out) (below_new (Below.refl _ _) _) (below_new (Below.refl _ _) _).size (by simp only [List.length_nil]; omega) ?_; intro v3 w3 ho3 hb3 hg3 hat3; have HS3 : Hid (SL w3 v3 l) := SL.of_R (base := w.heap.size) (ok := fun _ => True) (Kd.R_of_own ho3 (fun _ _ => trivial)); have HB3 := Lib.hid hb3; clear ho3 hb3 hg3 hat3)
  refine (parse_to HS3.out hz HP.out).mono ?_
  rintro e w4 ⟨rfl, hb4⟩
  have HB4 := Lib.hid (below_next HB3.out hb4)
  clear hb4
  have HP4 : Hid (PlanAt (w4.alloc (.cells (Pl.cells ⟨c0, c1, c2, c3, c4, f, s, t⟩) 26 (0, 0))) w4.heap.size ⟨c0, c1, c2, c3, c4, f, s, t⟩) := PlanAt.new w4 _
  go_wp2_with fail
  refine (awake_c _ (Tab.below HT.out (below_new HB4.out _))).mono ?_
  rintro e w5 ⟨rfl, hb5⟩
  have HB5 := Lib.hid (below_next (below_new HB4.out _) hb5)
  have HP5 : Hid (PlanAt w5 w4.heap.size ⟨c0, c1, c2, c3, c4, f, s, t⟩) := PlanAt.below HP4.out hb5
  clear hb5
  go_wp2_with fail
  refine (great_c _ l _ (SL.below HS.out HB5.out)).mono ?_
  rintro e w6 ⟨rfl, hb6⟩
  have HB6 := Lib.hid (below_next HB5.out hb6)
  have HP6 : Hid (PlanAt w6 w4.heap.size ⟨c0, c1, c2, c3, c4, f, s, t⟩) := PlanAt.below HP5.out hb6
  clear hb6
  rw [HG.out]
  have hl1 : l.length ≤ 60 := by omega
  have d2 : decide (1 < l.length) = false := decide_eq_false (by omega)
  have d3 : decide ((1 : Int) < (l.length : Int)) = false := decide_eq_false (by omega)
  have d0 : decide (60 < l.length) = false := decide_eq_false (by omega)
  have d1 : decide (100 < other.size) = false := decide_eq_false (by omega)
  go_wp2_with (at_builtin; first | (refine print_append_row_of Value.string ByteArray.empty (w0 := w) w.heap.size rfl (.tmp 80) (.tmp 81) 22 9 (.string ⟨#[]⟩) 16 rfl Tryd.underlying22 info_str rfl (by decide) (fun _ => rfl) (.slice (some ⟨w6.heap.size, 0, none⟩) 0 0) [] l A l.length c rfl rfl (own_emptyAt (heap_new _ _) HB6.out.size) (SL.reads (SL.below HS.out (below_new HB6.out _))) (below_new HB6.out _) (below_new HB6.out _).size (by simp only [List.length_nil]; omega) ?_; intro v10 w10 ho10 hb10 hg10 hat10; have HO10 : Hid (w10.ownsRow w.heap.size 9 1 v10 l.length (encs Value.string l)) := ho10; have HB10 := Lib.hid hb10; have HP10 : Hid (PlanAt w10 w4.heap.size ⟨c0, c1, c2, c3, c4, f, s, t⟩) := PlanAt.grown_row (PlanAt.alloc HP6.out _) (own_emptyAt (heap_new _ _) HB6.out.size) hg10; clear ho10 hb10 hg10 hat10) | (refine print_append_row_of Value.string ByteArray.empty (w0 := w) w.heap.size rfl (.tmp 82) (.tmp 85) 22 9 (.string ⟨#[]⟩) 16 rfl Tryd.underlying22 info_str rfl (by decide) (fun _ => rfl) v10 l [⟨#[120]⟩ ++ other] (some ⟨w10.heap.size, 0, none⟩) 1 1 rfl rfl (own_alloc HO10.out _) (one_reads (heap_new _ _)) (below_new HB10.out _) (below_new HB10.out _).size (by omega) ?_; intro v11 w11 ho11 hb11 hg11 hat11; have HS11 : Hid (SL w11 v11 (l ++ [⟨#[120]⟩ ++ other])) := SL.of_R (base := w.heap.size) (ok := fun _ => True) (Kd.R_of_own ho11 (fun _ _ => trivial)); have HB11 := Lib.hid hb11; have HP11 : Hid (PlanAt w11 w4.heap.size ⟨c0, c1, c2, c3, c4, f, s, t⟩) := PlanAt.grown_row (PlanAt.alloc HP10.out _) (own_alloc HO10.out _) hg11; clear ho11 hb11 hg11 hat11))
  refine (parse_to HS11.out (fun s hs => by
    rcases List.mem_append.1 hs with h | h
    · exact hz s h
    · rw [List.mem_singleton.1 h, ByteArray.size_append]
      have : (⟨#[120]⟩ : ByteArray).size = 1 := rfl
      omega) (c0 := 0) (c1 := 0) (c2 := 0) (c3 := 0) (c4 := 0) (f := false) (s := false) (t := false) (more_pure HP.out hl1 other)).mono ?_
  rintro e w12 ⟨rfl, hb12⟩
  have HB12 := Lib.hid (below_next HB11.out hb12)
  have HP12 : Hid (PlanAt (w12.alloc (.cells (Pl.cells Pl.zero) 26 (0, 0))) w4.heap.size ⟨c0, c1, c2, c3, c4, f, s, t⟩) := PlanAt.alloc (PlanAt.below HP11.out hb12) _
  clear hb12
  obtain ⟨y0, y1, y2, y3, y4, y5, y6, y7⟩ := PlanAt.cells8 HP12.out
  have hlt := PlanAt.lt HP12.out
  have he := eql_zero
  simp only [Pl.cells, Pl.zero] at y0 y1 y2 y3 y4 y5 y6 y7 hlt
  go_wp2_with fail
  go_ret
  exact ⟨rfl, below_new HB12.out _⟩
theorem twice_c (l : List ByteArray) (which : Int) (hw0 : -9223372036854775808 ≤ which) (hw1 : which ≤ 9223372036854775807) (other : ByteArray) (hz : ∀ s ∈ l, s.size ≤ 140737488351232) (hlen : l.length * 16 ≤ 140737488351232) (v : Value) (w : World) (hT : Tab w) (hs : SL w v l) :
    Calls Tryd.prog 7 #[v, .int .i64 which, .string other] w fun e w' => e = .returned (.bool true) ∧ Below w.heap.size w w' := by
  rcases hp : parseF l with ⟨⟨c0, c1, c2, c3, c4, f, s, t⟩, n, ok⟩
  by_cases h1 : greatF l = true
  · exact twice_out l hz hlen c0 c1 c2 c3 c4 f s t ok n hp which other (.inl h1) v w hT hs
  have h1 : greatF l = false := by simpa using h1
  cases ok with
  | false => exact twice_out l hz hlen c0 c1 c2 c3 c4 f s t false n hp which other (.inr (.inl ⟨h1, rfl⟩)) v w hT hs
  | true =>
    by_cases h2 : 60 < l.length
    · exact twice_out l hz hlen c0 c1 c2 c3 c4 f s t true n hp which other (.inr (.inr (.inl ⟨h1, rfl, h2⟩))) v w hT hs
    by_cases h3 : 100 < other.size
    · exact twice_out l hz hlen c0 c1 c2 c3 c4 f s t true n hp which other (.inr (.inr (.inr ⟨h1, rfl, by omega, h3⟩))) v w hT hs
    obtain ⟨_, hg, hc⟩ := parse_good hp
    by_cases h4 : 2 ≤ l.length
    · exact twice_many l hz c0 c1 c2 c3 c4 f s t n hp which hw0 hw1 other h1 h4 (by omega) (by omega) hg.k0.1 v w hT hs
    · exact twice_one l hz c0 c1 c2 c3 c4 f s t n hp which hw0 hw1 other h1 (by omega) (by omega) hg.k0.1 v w hT hs
end Go.Proofs.YtlddfdkmpnllmaaDoor
