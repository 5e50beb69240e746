/- Go functions as Lean functions, and that the one comes to what the other answers: written by the kit's print.py for several functions together (wip/printall.sh of this repo). -/
import Derived.Test.YtlddfdkmpnllmaaDoorPRwwx0
import Derived.Test.YtlddfdkmpnllmaaDoorPRwwx1
import Derived.Test.YtlddfdkmpnllmaaDoorPRwwx2
namespace Go.Proofs.YtlddfdkmpnllmaaDoor.PRww
open Go.RowKit Go.Proofs.YtlddfdkmpnllmaaDoorW.PrintWords Go.Proofs.YtlddfdkmpnllmaaDoorW.PrintLast Go.Proofs.YtlddfdkmpnllmaaDoorW.PrintMore
attribute [local go_sem] max2_int min2_int max_two min_two max_three min_three max_four min_four   -- for this text's walks alone
set_option linter.unusedVariables false
set_option linter.unusedSimpArgs false

attribute [local go_sem high] eqA26
/-! ### pilcrowref24_Right: function 13 -/
mutual
def pilcrowref24_Right.j0 : Nat → Bool → Int → Int → Int → Int → Int → Bool → Bool → Bool → Option (Bool)
  | 0, _, _, _, _, _, _, _, _, _ => none
  | k + 1, x3, x102000, x102001, x102002, x102003, x102004, x102005, x102006, x102007 => if x3 = true then (if x102004 < 0 then (pilcrowref24_Right.j1 k true x102000 x102001 x102002 x102003 x102004 x102005 x102006 x102007) else (pilcrowref24_Right.j1 k (decide (x102004 > 65536)) x102000 x102001 x102002 x102003 x102004 x102005 x102006 x102007)) else (pilcrowref24_Right.j1 k true x102000 x102001 x102002 x102003 x102004 x102005 x102006 x102007)
def pilcrowref24_Right.j1 : Nat → Bool → Int → Int → Int → Int → Int → Bool → Bool → Bool → Option (Bool)
  | 0, _, _, _, _, _, _, _, _, _ => none
  | k + 1, x28, x102000, x102001, x102002, x102003, x102004, x102005, x102006, x102007 => if x28 = true then (some false) else (if x102000 = 1 then (if x102001 = 0 then (if x102002 > 0 then (if x102003 > 0 then (if x102007 = true then (some false) else (some (x102005 == (decide (x102004 > 0))))) else (some false)) else (some false)) else (some false)) else (if x102000 = 2 then (if x102002 = 0 then (if x102003 > 0 then (if x102004 = 0 then (if x102006 = true then (some false) else (some (x102005 == (x102001 == 0)))) else (some false)) else (some false)) else (some false)) else (if x102000 = 3 then (if x102001 > 0 then (if x102002 > 0 then (if x102003 = 0 then (if x102004 = 0 then (some (!x102005)) else (some false)) else (some false)) else (some false)) else (some false)) else (if x102000 = 4 then (pilcrowref24_Right.j2 k x102000 (x102000 == 4) x102000 x102001 x102002 x102003 x102004 x102005 x102006 x102007) else (pilcrowref24_Right.j2 k x102000 (x102000 == 5) x102000 x102001 x102002 x102003 x102004 x102005 x102006 x102007)))))
def pilcrowref24_Right.j2 : Nat → Int → Bool → Int → Int → Int → Int → Int → Bool → Bool → Bool → Option (Bool)
  | 0, _, _, _, _, _, _, _, _, _, _ => none
  | k + 1, x30, x112, x102000, x102001, x102002, x102003, x102004, x102005, x102006, x102007 => if x112 = true then (some (x102001 == 0 && (x102002 == 0 && (x102003 == 0 && (x102004 == 0 && (!x102005 && (!x102006 && (!x102007)))))))) else (if x30 = 6 then (if x102001 > 0 then (if x102002 = 0 then (if x102003 = 0 then (if x102004 = 0 then (if x102005 = true then (some false) else (some (!x102006))) else (some false)) else (some false)) else (some false)) else (some false)) else (some false))
end
def pilcrowref24_Right.f (k : Nat) (a0_0 : Int) (a0_1 : Int) (a0_2 : Int) (a0_3 : Int) (a0_4 : Int) (a0_5 : Bool) (a0_6 : Bool) (a0_7 : Bool) : Option (Bool) := (pilcrowref24_number.f a0_1).bind fun t102 => (if t102 = true then ((pilcrowref24_number.f a0_2).bind fun t103 => (if t103 = true then ((pilcrowref24_number.f a0_3).bind fun t104 => (pilcrowref24_Right.j0 k t104 a0_0 a0_1 a0_2 a0_3 a0_4 a0_5 a0_6 a0_7)) else (pilcrowref24_Right.j0 k false a0_0 a0_1 a0_2 a0_3 a0_4 a0_5 a0_6 a0_7))) else (pilcrowref24_Right.j0 k false a0_0 a0_1 a0_2 a0_3 a0_4 a0_5 a0_6 a0_7))
theorem pilcrowref24_Right.mono_l : ∀ k, (∀ y0 y1 y2 y3 y4 y5 y6 y7 y8, LeO (pilcrowref24_Right.j0 k y0 y1 y2 y3 y4 y5 y6 y7 y8) (pilcrowref24_Right.j0 (k + 1) y0 y1 y2 y3 y4 y5 y6 y7 y8)) ∧ (∀ y0 y1 y2 y3 y4 y5 y6 y7 y8, LeO (pilcrowref24_Right.j1 k y0 y1 y2 y3 y4 y5 y6 y7 y8) (pilcrowref24_Right.j1 (k + 1) y0 y1 y2 y3 y4 y5 y6 y7 y8)) ∧ (∀ y0 y1 y2 y3 y4 y5 y6 y7 y8 y9, LeO (pilcrowref24_Right.j2 k y0 y1 y2 y3 y4 y5 y6 y7 y8 y9) (pilcrowref24_Right.j2 (k + 1) y0 y1 y2 y3 y4 y5 y6 y7 y8 y9))
  | 0 => ⟨fun _ _ _ _ _ _ _ _ _ r h => by simp [pilcrowref24_Right.j0] at h, fun _ _ _ _ _ _ _ _ _ r h => by simp [pilcrowref24_Right.j1] at h, fun _ _ _ _ _ _ _ _ _ _ r h => by simp [pilcrowref24_Right.j2] at h⟩
  | k + 1 => by
    obtain ⟨ih0, ih1, ih2⟩ := pilcrowref24_Right.mono_l k
    refine ⟨?_, ?_, ?_⟩
    · intro y0 y1 y2 y3 y4 y5 y6 y7 y8
      unfold pilcrowref24_Right.j0
      repeat' first
      | (with_reducible exact ih0 _ _ _ _ _ _ _ _ _)
      | (with_reducible exact ih1 _ _ _ _ _ _ _ _ _)
      | (with_reducible exact ih2 _ _ _ _ _ _ _ _ _ _)
      | (with_reducible exact LeO.refl _)
      | (with_reducible exact LeO.none _)
      | (with_reducible refine LeO.ite ?_ ?_)
      | (with_reducible refine LeO.bind ?_ (fun _ => ?_))
      | exact ih0 _ _ _ _ _ _ _ _ _
      | exact ih1 _ _ _ _ _ _ _ _ _
      | exact ih2 _ _ _ _ _ _ _ _ _ _
      | exact LeO.none _
      | refine LeO.ite ?_ ?_
      | refine LeO.bind ?_ (fun _ => ?_)
    · intro y0 y1 y2 y3 y4 y5 y6 y7 y8
      unfold pilcrowref24_Right.j1
      repeat' first
      | (with_reducible exact ih0 _ _ _ _ _ _ _ _ _)
      | (with_reducible exact ih1 _ _ _ _ _ _ _ _ _)
      | (with_reducible exact ih2 _ _ _ _ _ _ _ _ _ _)
      | (with_reducible exact LeO.refl _)
      | (with_reducible exact LeO.none _)
      | (with_reducible refine LeO.ite ?_ ?_)
      | (with_reducible refine LeO.bind ?_ (fun _ => ?_))
      | exact ih0 _ _ _ _ _ _ _ _ _
      | exact ih1 _ _ _ _ _ _ _ _ _
      | exact ih2 _ _ _ _ _ _ _ _ _ _
      | exact LeO.none _
      | refine LeO.ite ?_ ?_
      | refine LeO.bind ?_ (fun _ => ?_)
    · intro y0 y1 y2 y3 y4 y5 y6 y7 y8 y9
      unfold pilcrowref24_Right.j2
      repeat' first
      | (with_reducible exact ih0 _ _ _ _ _ _ _ _ _)
      | (with_reducible exact ih1 _ _ _ _ _ _ _ _ _)
      | (with_reducible exact ih2 _ _ _ _ _ _ _ _ _ _)
      | (with_reducible exact LeO.refl _)
      | (with_reducible exact LeO.none _)
      | (with_reducible refine LeO.ite ?_ ?_)
      | (with_reducible refine LeO.bind ?_ (fun _ => ?_))
      | exact ih0 _ _ _ _ _ _ _ _ _
      | exact ih1 _ _ _ _ _ _ _ _ _
      | exact ih2 _ _ _ _ _ _ _ _ _ _
      | exact LeO.none _
      | refine LeO.ite ?_ ?_
      | refine LeO.bind ?_ (fun _ => ?_)
theorem pilcrowref24_Right.mono : ∀ a0 a1 a2 a3 a4 a5 a6 a7 k, LeO (pilcrowref24_Right.f k a0 a1 a2 a3 a4 a5 a6 a7) (pilcrowref24_Right.f (k + 1) a0 a1 a2 a3 a4 a5 a6 a7) := by
  intro a0 a1 a2 a3 a4 a5 a6 a7 k
  obtain ⟨ih0, ih1, ih2⟩ := pilcrowref24_Right.mono_l k
  unfold pilcrowref24_Right.f
  repeat' first
      | (with_reducible exact ih0 _ _ _ _ _ _ _ _ _)
      | (with_reducible exact ih1 _ _ _ _ _ _ _ _ _)
      | (with_reducible exact ih2 _ _ _ _ _ _ _ _ _ _)
      | (with_reducible exact LeO.refl _)
      | (with_reducible exact LeO.none _)
      | (with_reducible refine LeO.ite ?_ ?_)
      | (with_reducible refine LeO.bind ?_ (fun _ => ?_))
      | exact ih0 _ _ _ _ _ _ _ _ _
      | exact ih1 _ _ _ _ _ _ _ _ _
      | exact ih2 _ _ _ _ _ _ _ _ _ _
      | exact LeO.none _
      | refine LeO.ite ?_ ?_
      | refine LeO.bind ?_ (fun _ => ?_)
set_option maxHeartbeats 8000000 in
set_option maxRecDepth 100000 in
theorem pilcrowref24_Right.calls (k : Nat) (a0_0 : Int) (a0_1 : Int) (a0_2 : Int) (a0_3 : Int) (a0_4 : Int) (a0_5 : Bool) (a0_6 : Bool) (a0_7 : Bool) (r : Bool) (w : World) (h : pilcrowref24_Right.f k a0_0 a0_1 a0_2 a0_3 a0_4 a0_5 a0_6 a0_7 = some r) :
    Calls Tryd.prog 13 #[.agg #[.int .i64 a0_0, .int .i64 a0_1, .int .i64 a0_2, .int .i64 a0_3, .int .i64 a0_4, .bool a0_5, .bool a0_6, .bool a0_7]] w fun e w' => e = .returned (.bool r) ∧ Below w.heap.size w w' := by
  have hu26 := Tryd.underlying26
  have HB := Aside0.mk (Below.refl w.heap.size w)
  have H : ((pilcrowref24_number.f a0_1).bind fun t102 => (if t102 = true then ((pilcrowref24_number.f a0_2).bind fun t103 => (if t103 = true then ((pilcrowref24_number.f a0_3).bind fun t104 => (pilcrowref24_Right.j0 k t104 a0_0 a0_1 a0_2 a0_3 a0_4 a0_5 a0_6 a0_7)) else (pilcrowref24_Right.j0 k false a0_0 a0_1 a0_2 a0_3 a0_4 a0_5 a0_6 a0_7))) else (pilcrowref24_Right.j0 k false a0_0 a0_1 a0_2 a0_3 a0_4 a0_5 a0_6 a0_7))) = some r := h
  clear h
  have HC2 := Aside0.mk H
  clear H
  go_enter Tryd.func13, Tryd.ntmps13
  go_upto_region 1 with (first | ((with_reducible refine gate_dst (N := 1) rfl ?_); refine box_event ?hg (N := 1) ?hd (cs := #[.int .i64 a0_0, .int .i64 a0_1, .int .i64 a0_2, .int .i64 a0_3, .int .i64 a0_4, .bool a0_5, .bool a0_6, .bool a0_7]) (t := 26) ?hr ?_; (case hd => rfl); (case hg => rfl); (case hr => first | (go_simp; done) | (go_simp; rfl)); intro gb101 hg w3 hbox hb; have n0_ := Aside0.mk (below_step (by repeat (first | (with_reducible first | exact HB.out | apply below_alloc | apply pw_below_drewN | apply below_drew1) | exact HB.out)) hb); have n1_ := Aside0.mk (hbox); have n2_ := Aside0.mk ((by rw [hg]; exact (below_size (by repeat (first | (with_reducible first | exact HB.out | apply below_alloc | apply pw_below_drewN | apply below_drew1) | exact HB.out))) : w.heap.size ≤ gb101)); have n3_ := Aside0.mk ((by rw [hg]; exact (below_size (by repeat (first | (with_reducible first | exact HB.out | apply below_alloc | apply pw_below_drewN | apply below_drew1) | exact HB.out))) : w.heap.size ≤ gb101)); clear HB; have HB := n0_; have BK101 := n1_; have GW101 := n2_; have GE101 := n3_; clear n0_ n1_ n2_ n3_; clear hb hbox hg))
  (try simp only [Act.put, List.setIfInBounds_toArray, List.set_cons_zero, List.set_cons_succ])
  go_cut [3] (fun v3 wc => ∃ (kq : Nat) (x3_1 : Bool), v3 = .bool x3_1 ∧ Aside0 (pilcrowref24_Right.j0 kq x3_1 a0_0 a0_1 a0_2 a0_3 a0_4 a0_5 a0_6 a0_7 = some r) ∧ Aside0 (kq ≤ k) ∧ Aside0 (wc.heap[gb101]? = some (.cells #[.int .i64 a0_0, .int .i64 a0_1, .int .i64 a0_2, .int .i64 a0_3, .int .i64 a0_4, .bool a0_5, .bool a0_6, .bool a0_7] 26 (0, 0))) ∧ Aside0 (Below w.heap.size w wc))
  case first =>
    have H := HC2.out
    clear HC2
    replace H := Option.bind_eq_some_iff.mp H
    obtain ⟨t102, A40, H⟩ := H
    replace H : (if t102 = true then ((pilcrowref24_number.f a0_2).bind fun t103 => (if t103 = true then ((pilcrowref24_number.f a0_3).bind fun t104 => (pilcrowref24_Right.j0 k t104 a0_0 a0_1 a0_2 a0_3 a0_4 a0_5 a0_6 a0_7)) else (pilcrowref24_Right.j0 k false a0_0 a0_1 a0_2 a0_3 a0_4 a0_5 a0_6 a0_7))) else (pilcrowref24_Right.j0 k false a0_0 a0_1 a0_2 a0_3 a0_4 a0_5 a0_6 a0_7)) = some r := H
    have A4 := Aside0.mk A40
    clear A40
    by_cases c5 : t102 = true
    · subst c5
      have H1 : ((pilcrowref24_number.f a0_2).bind fun t103 => (if t103 = true then ((pilcrowref24_number.f a0_3).bind fun t104 => (pilcrowref24_Right.j0 k t104 a0_0 a0_1 a0_2 a0_3 a0_4 a0_5 a0_6 a0_7)) else (pilcrowref24_Right.j0 k false a0_0 a0_1 a0_2 a0_3 a0_4 a0_5 a0_6 a0_7))) = some r := by rw [if_pos rfl] at H; exact H
      clear H
      have H := H1
      clear H1
      replace H := Option.bind_eq_some_iff.mp H
      obtain ⟨t103, A60, H⟩ := H
      replace H : (if t103 = true then ((pilcrowref24_number.f a0_3).bind fun t104 => (pilcrowref24_Right.j0 k t104 a0_0 a0_1 a0_2 a0_3 a0_4 a0_5 a0_6 a0_7)) else (pilcrowref24_Right.j0 k false a0_0 a0_1 a0_2 a0_3 a0_4 a0_5 a0_6 a0_7)) = some r := H
      have A6 := Aside0.mk A60
      clear A60
      by_cases c7 : t103 = true
      · subst c7
        have H1 : ((pilcrowref24_number.f a0_3).bind fun t104 => (pilcrowref24_Right.j0 k t104 a0_0 a0_1 a0_2 a0_3 a0_4 a0_5 a0_6 a0_7)) = some r := by rw [if_pos rfl] at H; exact H
        clear H
        have H := H1
        clear H1
        replace H := Option.bind_eq_some_iff.mp H
        obtain ⟨t104, A80, H⟩ := H
        replace H : (pilcrowref24_Right.j0 k t104 a0_0 a0_1 a0_2 a0_3 a0_4 a0_5 a0_6 a0_7) = some r := H
        have A8 := Aside0.mk A80
        clear A80
        have H' := Aside0.mk H
        clear H
        have hcz9_0 : w3.cell? ⟨gb101, 0, none⟩ = some (.int .i64 a0_0) := (blk_cell BK101.out 0).trans rfl
        have hcz9_1 : w3.cell? ⟨gb101, 1, none⟩ = some (.int .i64 a0_1) := (blk_cell BK101.out 1).trans rfl
        have hcz9_2 : w3.cell? ⟨gb101, 2, none⟩ = some (.int .i64 a0_2) := (blk_cell BK101.out 2).trans rfl
        have hcz9_3 : w3.cell? ⟨gb101, 3, none⟩ = some (.int .i64 a0_3) := (blk_cell BK101.out 3).trans rfl
        have hcz9_4 : w3.cell? ⟨gb101, 4, none⟩ = some (.int .i64 a0_4) := (blk_cell BK101.out 4).trans rfl
        have hcz9_5 : w3.cell? ⟨gb101, 5, none⟩ = some (.bool a0_5) := (blk_cell BK101.out 5).trans rfl
        have hcz9_6 : w3.cell? ⟨gb101, 6, none⟩ = some (.bool a0_6) := (blk_cell BK101.out 6).trans rfl
        have hcz9_7 : w3.cell? ⟨gb101, 7, none⟩ = some (.bool a0_7) := (blk_cell BK101.out 7).trans rfl
        have hfz9_0 := blk_frozen BK101.out 0
        have hfz9_1 := blk_frozen BK101.out 1
        have hfz9_2 := blk_frozen BK101.out 2
        have hfz9_3 := blk_frozen BK101.out 3
        have hfz9_4 := blk_frozen BK101.out 4
        have hfz9_5 := blk_frozen BK101.out 5
        have hfz9_6 := blk_frozen BK101.out 6
        have hfz9_7 := blk_frozen BK101.out 7
        go_wp2_with (first | ((with_reducible refine gate_callee (f := 31) rfl ?_); refine goesL_ (some 6) rfl rfl Tryd.func31 (by kernel_rfl) rfl #[.int .i64 a0_1] rfl (by (try simp only [List.map_toArray, List.map_cons, List.map_nil]); first | done | rfl | (simp only [List.length_drop, List.length_take]; rfl)) ?_; (with_reducible refine (pilcrowref24_number.calls a0_1 true _ A4.out).mono ?_); rintro e w' ⟨rfl, ⟨nd, rfl⟩⟩; refine ⟨_, rfl, ?_⟩) | (go_at_call 31; (with_reducible refine (pilcrowref24_number.calls a0_2 true _ A6.out).mono ?_); rintro e w' ⟨rfl, ⟨nd, rfl⟩⟩) | (go_at_call 31; (with_reducible refine (pilcrowref24_number.calls a0_3 t104 _ A8.out).mono ?_); rintro e w' ⟨rfl, ⟨nd, rfl⟩⟩))
        go_meet
        case rel => exact ⟨_, (t104), (by first | rfl | (simp; done) | (simp [*]; done)), H', ⟨by first | omega | exact Nat.le_refl _⟩, ⟨by (with_reducible repeat (first | refine blk_drewN ?_ _ | refine blk_drew ?_ | refine blk_alloc ?_ _)); exact BK101.out⟩, ⟨by repeat (first | (with_reducible first | exact HB.out | apply below_alloc | apply pw_below_drewN | apply below_drew1 | refine below_set ?_ GE101.out) | exact HB.out)⟩⟩
      · replace c7 := Bool.eq_false_iff.mpr c7
        subst c7
        have H1 : (pilcrowref24_Right.j0 k false a0_0 a0_1 a0_2 a0_3 a0_4 a0_5 a0_6 a0_7) = some r := by rw [if_neg (show ¬ (false = true) by decide)] at H; exact H
        clear H
        have H := H1
        clear H1
        have H' := Aside0.mk H
        clear H
        have hcz10_0 : w3.cell? ⟨gb101, 0, none⟩ = some (.int .i64 a0_0) := (blk_cell BK101.out 0).trans rfl
        have hcz10_1 : w3.cell? ⟨gb101, 1, none⟩ = some (.int .i64 a0_1) := (blk_cell BK101.out 1).trans rfl
        have hcz10_2 : w3.cell? ⟨gb101, 2, none⟩ = some (.int .i64 a0_2) := (blk_cell BK101.out 2).trans rfl
        have hcz10_3 : w3.cell? ⟨gb101, 3, none⟩ = some (.int .i64 a0_3) := (blk_cell BK101.out 3).trans rfl
        have hcz10_4 : w3.cell? ⟨gb101, 4, none⟩ = some (.int .i64 a0_4) := (blk_cell BK101.out 4).trans rfl
        have hcz10_5 : w3.cell? ⟨gb101, 5, none⟩ = some (.bool a0_5) := (blk_cell BK101.out 5).trans rfl
        have hcz10_6 : w3.cell? ⟨gb101, 6, none⟩ = some (.bool a0_6) := (blk_cell BK101.out 6).trans rfl
        have hcz10_7 : w3.cell? ⟨gb101, 7, none⟩ = some (.bool a0_7) := (blk_cell BK101.out 7).trans rfl
        have hfz10_0 := blk_frozen BK101.out 0
        have hfz10_1 := blk_frozen BK101.out 1
        have hfz10_2 := blk_frozen BK101.out 2
        have hfz10_3 := blk_frozen BK101.out 3
        have hfz10_4 := blk_frozen BK101.out 4
        have hfz10_5 := blk_frozen BK101.out 5
        have hfz10_6 := blk_frozen BK101.out 6
        have hfz10_7 := blk_frozen BK101.out 7
        go_wp2_with (first | ((with_reducible refine gate_callee (f := 31) rfl ?_); refine goesL_ (some 6) rfl rfl Tryd.func31 (by kernel_rfl) rfl #[.int .i64 a0_1] rfl (by (try simp only [List.map_toArray, List.map_cons, List.map_nil]); first | done | rfl | (simp only [List.length_drop, List.length_take]; rfl)) ?_; (with_reducible refine (pilcrowref24_number.calls a0_1 true _ A4.out).mono ?_); rintro e w' ⟨rfl, ⟨nd, rfl⟩⟩; refine ⟨_, rfl, ?_⟩) | (go_at_call 31; (with_reducible refine (pilcrowref24_number.calls a0_2 false _ A6.out).mono ?_); rintro e w' ⟨rfl, ⟨nd, rfl⟩⟩))
        go_meet
        case rel => exact ⟨_, (false), (by first | rfl | (simp; done) | (simp [*]; done)), H', ⟨by first | omega | exact Nat.le_refl _⟩, ⟨by (with_reducible repeat (first | refine blk_drewN ?_ _ | refine blk_drew ?_ | refine blk_alloc ?_ _)); exact BK101.out⟩, ⟨by repeat (first | (with_reducible first | exact HB.out | apply below_alloc | apply pw_below_drewN | apply below_drew1 | refine below_set ?_ GE101.out) | exact HB.out)⟩⟩
    · replace c5 := Bool.eq_false_iff.mpr c5
      subst c5
      have H1 : (pilcrowref24_Right.j0 k false a0_0 a0_1 a0_2 a0_3 a0_4 a0_5 a0_6 a0_7) = some r := by rw [if_neg (show ¬ (false = true) by decide)] at H; exact H
      clear H
      have H := H1
      clear H1
      have H' := Aside0.mk H
      clear H
      have hcz11_0 : w3.cell? ⟨gb101, 0, none⟩ = some (.int .i64 a0_0) := (blk_cell BK101.out 0).trans rfl
      have hcz11_1 : w3.cell? ⟨gb101, 1, none⟩ = some (.int .i64 a0_1) := (blk_cell BK101.out 1).trans rfl
      have hcz11_2 : w3.cell? ⟨gb101, 2, none⟩ = some (.int .i64 a0_2) := (blk_cell BK101.out 2).trans rfl
      have hcz11_3 : w3.cell? ⟨gb101, 3, none⟩ = some (.int .i64 a0_3) := (blk_cell BK101.out 3).trans rfl
      have hcz11_4 : w3.cell? ⟨gb101, 4, none⟩ = some (.int .i64 a0_4) := (blk_cell BK101.out 4).trans rfl
      have hcz11_5 : w3.cell? ⟨gb101, 5, none⟩ = some (.bool a0_5) := (blk_cell BK101.out 5).trans rfl
      have hcz11_6 : w3.cell? ⟨gb101, 6, none⟩ = some (.bool a0_6) := (blk_cell BK101.out 6).trans rfl
      have hcz11_7 : w3.cell? ⟨gb101, 7, none⟩ = some (.bool a0_7) := (blk_cell BK101.out 7).trans rfl
      have hfz11_0 := blk_frozen BK101.out 0
      have hfz11_1 := blk_frozen BK101.out 1
      have hfz11_2 := blk_frozen BK101.out 2
      have hfz11_3 := blk_frozen BK101.out 3
      have hfz11_4 := blk_frozen BK101.out 4
      have hfz11_5 := blk_frozen BK101.out 5
      have hfz11_6 := blk_frozen BK101.out 6
      have hfz11_7 := blk_frozen BK101.out 7
      go_wp2_with (first | ((with_reducible refine gate_callee (f := 31) rfl ?_); refine goesL_ (some 6) rfl rfl Tryd.func31 (by kernel_rfl) rfl #[.int .i64 a0_1] rfl (by (try simp only [List.map_toArray, List.map_cons, List.map_nil]); first | done | rfl | (simp only [List.length_drop, List.length_take]; rfl)) ?_; (with_reducible refine (pilcrowref24_number.calls a0_1 false _ A4.out).mono ?_); rintro e w' ⟨rfl, ⟨nd, rfl⟩⟩; refine ⟨_, rfl, ?_⟩))
      go_meet
      case rel => exact ⟨_, (false), (by first | rfl | (simp; done) | (simp [*]; done)), H', ⟨by first | omega | exact Nat.le_refl _⟩, ⟨by (with_reducible repeat (first | refine blk_drewN ?_ _ | refine blk_drew ?_ | refine blk_alloc ?_ _)); exact BK101.out⟩, ⟨by repeat (first | (with_reducible first | exact HB.out | apply below_alloc | apply pw_below_drewN | apply below_drew1 | refine below_set ?_ GE101.out) | exact HB.out)⟩⟩
  case rest =>
    clear HC2
    try clear c1
    try clear p2
    try clear c3
    try clear c5
    try clear c7
    try clear hcz10_0
    try clear hcz10_1
    try clear hcz10_2
    try clear hcz10_3
    try clear hcz10_4
    try clear hcz10_5
    try clear hcz10_6
    try clear hcz10_7
    try clear hcz11_0
    try clear hcz11_1
    try clear hcz11_2
    try clear hcz11_3
    try clear hcz11_4
    try clear hcz11_5
    try clear hcz11_6
    try clear hcz11_7
    try clear hcz9_0
    try clear hcz9_1
    try clear hcz9_2
    try clear hcz9_3
    try clear hcz9_4
    try clear hcz9_5
    try clear hcz9_6
    try clear hcz9_7
    try clear hfz10_0
    try clear hfz10_1
    try clear hfz10_2
    try clear hfz10_3
    try clear hfz10_4
    try clear hfz10_5
    try clear hfz10_6
    try clear hfz10_7
    try clear hfz11_0
    try clear hfz11_1
    try clear hfz11_2
    try clear hfz11_3
    try clear hfz11_4
    try clear hfz11_5
    try clear hfz11_6
    try clear hfz11_7
    try clear hfz9_0
    try clear hfz9_1
    try clear hfz9_2
    try clear hfz9_3
    try clear hfz9_4
    try clear hfz9_5
    try clear hfz9_6
    try clear hfz9_7
    obtain ⟨kq, x3_1, rfl, HA, HJ1, BK101, HB⟩ := hcut
    cases kq with
    | zero => exact absurd HA.out (by simp [pilcrowref24_Right.j0])
    | succ kj1 =>
      have H := HA.out
      clear HA
      simp only [pilcrowref24_Right.j0] at H
      have HC12 := Aside0.mk H
      clear H
      go_upto_region 2 with (fail)
      go_cut [28] (fun v28 wc => ∃ (kq : Nat) (x28_11 : Bool), v28 = .bool x28_11 ∧ Aside0 (pilcrowref24_Right.j1 kq x28_11 a0_0 a0_1 a0_2 a0_3 a0_4 a0_5 a0_6 a0_7 = some r) ∧ Aside0 (kq ≤ kj1) ∧ Aside0 (wc.heap[gb101]? = some (.cells #[.int .i64 a0_0, .int .i64 a0_1, .int .i64 a0_2, .int .i64 a0_3, .int .i64 a0_4, .bool a0_5, .bool a0_6, .bool a0_7] 26 (0, 0))) ∧ Aside0 (Below w.heap.size w wc))
      case first =>
        have H := HC12.out
        clear HC12
        by_cases c13 : x3_1 = true
        · subst c13
          have H1 : (if a0_4 < 0 then (pilcrowref24_Right.j1 kj1 true a0_0 a0_1 a0_2 a0_3 a0_4 a0_5 a0_6 a0_7) else (pilcrowref24_Right.j1 kj1 (decide (a0_4 > 65536)) a0_0 a0_1 a0_2 a0_3 a0_4 a0_5 a0_6 a0_7)) = some r := by rw [if_pos rfl] at H; exact H
          clear H
          have H := H1
          clear H1
          by_cases c14 : a0_4 < 0
          · rw [if_pos c14] at H
            have c14b0 : decide (a0_4 < 0) = true := decide_eq_true c14
            clear c14
            (first | rw [c14b0] | (simp only [i64_w, i32_w]; rw [c14b0]) | skip)
            have H' := Aside0.mk H
            clear H
            have hcz15_0 : wc.cell? ⟨gb101, 0, none⟩ = some (.int .i64 a0_0) := (blk_cell BK101.out 0).trans rfl
            have hcz15_1 : wc.cell? ⟨gb101, 1, none⟩ = some (.int .i64 a0_1) := (blk_cell BK101.out 1).trans rfl
            have hcz15_2 : wc.cell? ⟨gb101, 2, none⟩ = some (.int .i64 a0_2) := (blk_cell BK101.out 2).trans rfl
            have hcz15_3 : wc.cell? ⟨gb101, 3, none⟩ = some (.int .i64 a0_3) := (blk_cell BK101.out 3).trans rfl
            have hcz15_4 : wc.cell? ⟨gb101, 4, none⟩ = some (.int .i64 a0_4) := (blk_cell BK101.out 4).trans rfl
            have hcz15_5 : wc.cell? ⟨gb101, 5, none⟩ = some (.bool a0_5) := (blk_cell BK101.out 5).trans rfl
            have hcz15_6 : wc.cell? ⟨gb101, 6, none⟩ = some (.bool a0_6) := (blk_cell BK101.out 6).trans rfl
            have hcz15_7 : wc.cell? ⟨gb101, 7, none⟩ = some (.bool a0_7) := (blk_cell BK101.out 7).trans rfl
            have hfz15_0 := blk_frozen BK101.out 0
            have hfz15_1 := blk_frozen BK101.out 1
            have hfz15_2 := blk_frozen BK101.out 2
            have hfz15_3 := blk_frozen BK101.out 3
            have hfz15_4 := blk_frozen BK101.out 4
            have hfz15_5 := blk_frozen BK101.out 5
            have hfz15_6 := blk_frozen BK101.out 6
            have hfz15_7 := blk_frozen BK101.out 7
            go_wp2
            go_meet
            case rel => exact ⟨_, (true), (by first | rfl | (simp; done) | (simp [*]; done)), H', ⟨by have := HJ1.out; first | omega | exact Nat.le_refl _⟩, ⟨by (with_reducible repeat (first | refine blk_drewN ?_ _ | refine blk_drew ?_ | refine blk_alloc ?_ _)); exact BK101.out⟩, ⟨by repeat (first | (with_reducible first | exact HB.out | apply below_alloc | apply pw_below_drewN | apply below_drew1 | refine below_set ?_ GE101.out) | exact HB.out)⟩⟩
          · rw [if_neg c14] at H
            have c14b0 : decide (a0_4 < 0) = false := decide_eq_false c14
            clear c14
            (first | rw [c14b0] | (simp only [i64_w, i32_w]; rw [c14b0]) | skip)
            have H' := Aside0.mk H
            clear H
            have hcz16_0 : wc.cell? ⟨gb101, 0, none⟩ = some (.int .i64 a0_0) := (blk_cell BK101.out 0).trans rfl
            have hcz16_1 : wc.cell? ⟨gb101, 1, none⟩ = some (.int .i64 a0_1) := (blk_cell BK101.out 1).trans rfl
            have hcz16_2 : wc.cell? ⟨gb101, 2, none⟩ = some (.int .i64 a0_2) := (blk_cell BK101.out 2).trans rfl
            have hcz16_3 : wc.cell? ⟨gb101, 3, none⟩ = some (.int .i64 a0_3) := (blk_cell BK101.out 3).trans rfl
            have hcz16_4 : wc.cell? ⟨gb101, 4, none⟩ = some (.int .i64 a0_4) := (blk_cell BK101.out 4).trans rfl
            have hcz16_5 : wc.cell? ⟨gb101, 5, none⟩ = some (.bool a0_5) := (blk_cell BK101.out 5).trans rfl
            have hcz16_6 : wc.cell? ⟨gb101, 6, none⟩ = some (.bool a0_6) := (blk_cell BK101.out 6).trans rfl
            have hcz16_7 : wc.cell? ⟨gb101, 7, none⟩ = some (.bool a0_7) := (blk_cell BK101.out 7).trans rfl
            have hfz16_0 := blk_frozen BK101.out 0
            have hfz16_1 := blk_frozen BK101.out 1
            have hfz16_2 := blk_frozen BK101.out 2
            have hfz16_3 := blk_frozen BK101.out 3
            have hfz16_4 := blk_frozen BK101.out 4
            have hfz16_5 := blk_frozen BK101.out 5
            have hfz16_6 := blk_frozen BK101.out 6
            have hfz16_7 := blk_frozen BK101.out 7
            go_wp2
            go_meet
            case rel => exact ⟨_, (decide (a0_4 > 65536)), (by first | rfl | (simp; done) | (simp [*]; done)), H', ⟨by have := HJ1.out; first | omega | exact Nat.le_refl _⟩, ⟨by (with_reducible repeat (first | refine blk_drewN ?_ _ | refine blk_drew ?_ | refine blk_alloc ?_ _)); exact BK101.out⟩, ⟨by repeat (first | (with_reducible first | exact HB.out | apply below_alloc | apply pw_below_drewN | apply below_drew1 | refine below_set ?_ GE101.out) | exact HB.out)⟩⟩
        · replace c13 := Bool.eq_false_iff.mpr c13
          subst c13
          have H1 : (pilcrowref24_Right.j1 kj1 true a0_0 a0_1 a0_2 a0_3 a0_4 a0_5 a0_6 a0_7) = some r := by rw [if_neg (show ¬ (false = true) by decide)] at H; exact H
          clear H
          have H := H1
          clear H1
          have H' := Aside0.mk H
          clear H
          go_wp2
          go_meet
          case rel => exact ⟨_, (true), (by first | rfl | (simp; done) | (simp [*]; done)), H', ⟨by have := HJ1.out; first | omega | exact Nat.le_refl _⟩, ⟨by (with_reducible repeat (first | refine blk_drewN ?_ _ | refine blk_drew ?_ | refine blk_alloc ?_ _)); exact BK101.out⟩, ⟨by repeat (first | (with_reducible first | exact HB.out | apply below_alloc | apply pw_below_drewN | apply below_drew1 | refine below_set ?_ GE101.out) | exact HB.out)⟩⟩
      case rest =>
        clear HC12
        try clear c1
        try clear p2
        try clear c3
        try clear c5
        try clear c7
        try clear c13
        try clear c14
        try clear c14b0
        try clear hcz10_0
        try clear hcz10_1
        try clear hcz10_2
        try clear hcz10_3
        try clear hcz10_4
        try clear hcz10_5
        try clear hcz10_6
        try clear hcz10_7
        try clear hcz11_0
        try clear hcz11_1
        try clear hcz11_2
        try clear hcz11_3
        try clear hcz11_4
        try clear hcz11_5
        try clear hcz11_6
        try clear hcz11_7
        try clear hcz15_0
        try clear hcz15_1
        try clear hcz15_2
        try clear hcz15_3
        try clear hcz15_4
        try clear hcz15_5
        try clear hcz15_6
        try clear hcz15_7
        try clear hcz16_0
        try clear hcz16_1
        try clear hcz16_2
        try clear hcz16_3
        try clear hcz16_4
        try clear hcz16_5
        try clear hcz16_6
        try clear hcz16_7
        try clear hcz9_0
        try clear hcz9_1
        try clear hcz9_2
        try clear hcz9_3
        try clear hcz9_4
        try clear hcz9_5
        try clear hcz9_6
        try clear hcz9_7
        try clear hfz10_0
        try clear hfz10_1
        try clear hfz10_2
        try clear hfz10_3
        try clear hfz10_4
        try clear hfz10_5
        try clear hfz10_6
        try clear hfz10_7
        try clear hfz11_0
        try clear hfz11_1
        try clear hfz11_2
        try clear hfz11_3
        try clear hfz11_4
        try clear hfz11_5
        try clear hfz11_6
        try clear hfz11_7
        try clear hfz15_0
        try clear hfz15_1
        try clear hfz15_2
        try clear hfz15_3
        try clear hfz15_4
        try clear hfz15_5
        try clear hfz15_6
        try clear hfz15_7
        try clear hfz16_0
        try clear hfz16_1
        try clear hfz16_2
        try clear hfz16_3
        try clear hfz16_4
        try clear hfz16_5
        try clear hfz16_6
        try clear hfz16_7
        try clear hfz9_0
        try clear hfz9_1
        try clear hfz9_2
        try clear hfz9_3
        try clear hfz9_4
        try clear hfz9_5
        try clear hfz9_6
        try clear hfz9_7
        try clear p2
        obtain ⟨kq, x28_11, rfl, HA, HJ11, BK101, HB⟩ := hcut
        cases kq with
        | zero => exact absurd HA.out (by simp [pilcrowref24_Right.j1])
        | succ kj11 =>
          have H := HA.out
          clear HA
          simp only [pilcrowref24_Right.j1] at H
          by_cases c17 : x28_11 = true
          · subst c17
            have H1 : (some false) = some r := by rw [if_pos rfl] at H; exact H
            clear H
            have H := H1
            clear H1
            obtain rfl := Option.some.inj H
            go_wp2
            go_ret
            exact ⟨by first | rfl | (simp [errW_none, errW_some] <;> rfl) | (simp [*, errW_none, errW_some] <;> rfl), by repeat (first | (with_reducible first | exact HB.out | apply below_alloc | apply pw_below_drewN | apply below_drew1 | refine below_set ?_ GE101.out) | exact HB.out)⟩
          · replace c17 := Bool.eq_false_iff.mpr c17
            subst c17
            have H1 : (if a0_0 = 1 then (if a0_1 = 0 then (if a0_2 > 0 then (if a0_3 > 0 then (if a0_7 = true then (some false) else (some (a0_5 == (decide (a0_4 > 0))))) else (some false)) else (some false)) else (some false)) else (if a0_0 = 2 then (if a0_2 = 0 then (if a0_3 > 0 then (if a0_4 = 0 then (if a0_6 = true then (some false) else (some (a0_5 == (a0_1 == 0)))) else (some false)) else (some false)) else (some false)) else (if a0_0 = 3 then (if a0_1 > 0 then (if a0_2 > 0 then (if a0_3 = 0 then (if a0_4 = 0 then (some (!a0_5)) else (some false)) else (some false)) else (some false)) else (some false)) else (if a0_0 = 4 then (pilcrowref24_Right.j2 kj11 a0_0 (a0_0 == 4) a0_0 a0_1 a0_2 a0_3 a0_4 a0_5 a0_6 a0_7) else (pilcrowref24_Right.j2 kj11 a0_0 (a0_0 == 5) a0_0 a0_1 a0_2 a0_3 a0_4 a0_5 a0_6 a0_7))))) = some r := by rw [if_neg (show ¬ (false = true) by decide)] at H; exact H
            clear H
            have H := H1
            clear H1
            by_cases c18 : a0_0 = 1
            · rw [if_pos c18] at H
              have c18b0 : (a0_0 == 1) = true := beq_iff_eq.mpr c18
              have c18b1 : (a0_0 != 1) = false := bne_eq_false_iff_eq.mpr c18
              clear c18
              by_cases c19 : a0_1 = 0
              · rw [if_pos c19] at H
                have c19b0 : (a0_1 == 0) = true := beq_iff_eq.mpr c19
                have c19b1 : (a0_1 != 0) = false := bne_eq_false_iff_eq.mpr c19
                clear c19
                by_cases c20 : a0_2 > 0
                · rw [if_pos c20] at H
                  have c20b0 : decide (0 < a0_2) = true := decide_eq_true c20
                  clear c20
                  by_cases c21 : a0_3 > 0
                  · rw [if_pos c21] at H
                    have c21b0 : decide (0 < a0_3) = true := decide_eq_true c21
                    clear c21
                    by_cases c22 : a0_7 = true
                    · subst c22
                      have H1 : (some false) = some r := by rw [if_pos rfl] at H; exact H
                      clear H
                      have H := H1
                      clear H1
                      obtain rfl := Option.some.inj H
                      have hcz23_0 : wc.cell? ⟨gb101, 0, none⟩ = some (.int .i64 a0_0) := (blk_cell BK101.out 0).trans rfl
                      have hcz23_1 : wc.cell? ⟨gb101, 1, none⟩ = some (.int .i64 a0_1) := (blk_cell BK101.out 1).trans rfl
                      have hcz23_2 : wc.cell? ⟨gb101, 2, none⟩ = some (.int .i64 a0_2) := (blk_cell BK101.out 2).trans rfl
                      have hcz23_3 : wc.cell? ⟨gb101, 3, none⟩ = some (.int .i64 a0_3) := (blk_cell BK101.out 3).trans rfl
                      have hcz23_4 : wc.cell? ⟨gb101, 4, none⟩ = some (.int .i64 a0_4) := (blk_cell BK101.out 4).trans rfl
                      have hcz23_5 : wc.cell? ⟨gb101, 5, none⟩ = some (.bool a0_5) := (blk_cell BK101.out 5).trans rfl
                      have hcz23_6 : wc.cell? ⟨gb101, 6, none⟩ = some (.bool a0_6) := (blk_cell BK101.out 6).trans rfl
                      have hcz23_7 : wc.cell? ⟨gb101, 7, none⟩ = some (.bool true) := (blk_cell BK101.out 7).trans rfl
                      have hfz23_0 := blk_frozen BK101.out 0
                      have hfz23_1 := blk_frozen BK101.out 1
                      have hfz23_2 := blk_frozen BK101.out 2
                      have hfz23_3 := blk_frozen BK101.out 3
                      have hfz23_4 := blk_frozen BK101.out 4
                      have hfz23_5 := blk_frozen BK101.out 5
                      have hfz23_6 := blk_frozen BK101.out 6
                      have hfz23_7 := blk_frozen BK101.out 7
                      go_wp2
                      go_ret
                      exact ⟨by first | rfl | (simp [errW_none, errW_some] <;> rfl) | (simp [*, errW_none, errW_some] <;> rfl), by repeat (first | (with_reducible first | exact HB.out | apply below_alloc | apply pw_below_drewN | apply below_drew1 | refine below_set ?_ GE101.out) | exact HB.out)⟩
                    · replace c22 := Bool.eq_false_iff.mpr c22
                      subst c22
                      have H1 : (some (a0_5 == (decide (a0_4 > 0)))) = some r := by rw [if_neg (show ¬ (false = true) by decide)] at H; exact H
                      clear H
                      have H := H1
                      clear H1
                      obtain rfl := Option.some.inj H
                      have hcz24_0 : wc.cell? ⟨gb101, 0, none⟩ = some (.int .i64 a0_0) := (blk_cell BK101.out 0).trans rfl
                      have hcz24_1 : wc.cell? ⟨gb101, 1, none⟩ = some (.int .i64 a0_1) := (blk_cell BK101.out 1).trans rfl
                      have hcz24_2 : wc.cell? ⟨gb101, 2, none⟩ = some (.int .i64 a0_2) := (blk_cell BK101.out 2).trans rfl
                      have hcz24_3 : wc.cell? ⟨gb101, 3, none⟩ = some (.int .i64 a0_3) := (blk_cell BK101.out 3).trans rfl
                      have hcz24_4 : wc.cell? ⟨gb101, 4, none⟩ = some (.int .i64 a0_4) := (blk_cell BK101.out 4).trans rfl
                      have hcz24_5 : wc.cell? ⟨gb101, 5, none⟩ = some (.bool a0_5) := (blk_cell BK101.out 5).trans rfl
                      have hcz24_6 : wc.cell? ⟨gb101, 6, none⟩ = some (.bool a0_6) := (blk_cell BK101.out 6).trans rfl
                      have hcz24_7 : wc.cell? ⟨gb101, 7, none⟩ = some (.bool false) := (blk_cell BK101.out 7).trans rfl
                      have hfz24_0 := blk_frozen BK101.out 0
                      have hfz24_1 := blk_frozen BK101.out 1
                      have hfz24_2 := blk_frozen BK101.out 2
                      have hfz24_3 := blk_frozen BK101.out 3
                      have hfz24_4 := blk_frozen BK101.out 4
                      have hfz24_5 := blk_frozen BK101.out 5
                      have hfz24_6 := blk_frozen BK101.out 6
                      have hfz24_7 := blk_frozen BK101.out 7
                      go_wp2
                      go_ret
                      exact ⟨by first | rfl | (simp [errW_none, errW_some] <;> rfl) | (simp [*, errW_none, errW_some] <;> rfl), by repeat (first | (with_reducible first | exact HB.out | apply below_alloc | apply pw_below_drewN | apply below_drew1 | refine below_set ?_ GE101.out) | exact HB.out)⟩
                  · rw [if_neg c21] at H
                    have c21b0 : decide (0 < a0_3) = false := decide_eq_false c21
                    clear c21
                    obtain rfl := Option.some.inj H
                    have hcz25_0 : wc.cell? ⟨gb101, 0, none⟩ = some (.int .i64 a0_0) := (blk_cell BK101.out 0).trans rfl
                    have hcz25_1 : wc.cell? ⟨gb101, 1, none⟩ = some (.int .i64 a0_1) := (blk_cell BK101.out 1).trans rfl
                    have hcz25_2 : wc.cell? ⟨gb101, 2, none⟩ = some (.int .i64 a0_2) := (blk_cell BK101.out 2).trans rfl
                    have hcz25_3 : wc.cell? ⟨gb101, 3, none⟩ = some (.int .i64 a0_3) := (blk_cell BK101.out 3).trans rfl
                    have hcz25_4 : wc.cell? ⟨gb101, 4, none⟩ = some (.int .i64 a0_4) := (blk_cell BK101.out 4).trans rfl
                    have hcz25_5 : wc.cell? ⟨gb101, 5, none⟩ = some (.bool a0_5) := (blk_cell BK101.out 5).trans rfl
                    have hcz25_6 : wc.cell? ⟨gb101, 6, none⟩ = some (.bool a0_6) := (blk_cell BK101.out 6).trans rfl
                    have hcz25_7 : wc.cell? ⟨gb101, 7, none⟩ = some (.bool a0_7) := (blk_cell BK101.out 7).trans rfl
                    have hfz25_0 := blk_frozen BK101.out 0
                    have hfz25_1 := blk_frozen BK101.out 1
                    have hfz25_2 := blk_frozen BK101.out 2
                    have hfz25_3 := blk_frozen BK101.out 3
                    have hfz25_4 := blk_frozen BK101.out 4
                    have hfz25_5 := blk_frozen BK101.out 5
                    have hfz25_6 := blk_frozen BK101.out 6
                    have hfz25_7 := blk_frozen BK101.out 7
                    go_wp2
                    go_ret
                    exact ⟨by first | rfl | (simp [errW_none, errW_some] <;> rfl) | (simp [*, errW_none, errW_some] <;> rfl), by repeat (first | (with_reducible first | exact HB.out | apply below_alloc | apply pw_below_drewN | apply below_drew1 | refine below_set ?_ GE101.out) | exact HB.out)⟩
                · rw [if_neg c20] at H
                  have c20b0 : decide (0 < a0_2) = false := decide_eq_false c20
                  clear c20
                  obtain rfl := Option.some.inj H
                  have hcz26_0 : wc.cell? ⟨gb101, 0, none⟩ = some (.int .i64 a0_0) := (blk_cell BK101.out 0).trans rfl
                  have hcz26_1 : wc.cell? ⟨gb101, 1, none⟩ = some (.int .i64 a0_1) := (blk_cell BK101.out 1).trans rfl
                  have hcz26_2 : wc.cell? ⟨gb101, 2, none⟩ = some (.int .i64 a0_2) := (blk_cell BK101.out 2).trans rfl
                  have hcz26_3 : wc.cell? ⟨gb101, 3, none⟩ = some (.int .i64 a0_3) := (blk_cell BK101.out 3).trans rfl
                  have hcz26_4 : wc.cell? ⟨gb101, 4, none⟩ = some (.int .i64 a0_4) := (blk_cell BK101.out 4).trans rfl
                  have hcz26_5 : wc.cell? ⟨gb101, 5, none⟩ = some (.bool a0_5) := (blk_cell BK101.out 5).trans rfl
                  have hcz26_6 : wc.cell? ⟨gb101, 6, none⟩ = some (.bool a0_6) := (blk_cell BK101.out 6).trans rfl
                  have hcz26_7 : wc.cell? ⟨gb101, 7, none⟩ = some (.bool a0_7) := (blk_cell BK101.out 7).trans rfl
                  have hfz26_0 := blk_frozen BK101.out 0
                  have hfz26_1 := blk_frozen BK101.out 1
                  have hfz26_2 := blk_frozen BK101.out 2
                  have hfz26_3 := blk_frozen BK101.out 3
                  have hfz26_4 := blk_frozen BK101.out 4
                  have hfz26_5 := blk_frozen BK101.out 5
                  have hfz26_6 := blk_frozen BK101.out 6
                  have hfz26_7 := blk_frozen BK101.out 7
                  go_wp2
                  go_ret
                  exact ⟨by first | rfl | (simp [errW_none, errW_some] <;> rfl) | (simp [*, errW_none, errW_some] <;> rfl), by repeat (first | (with_reducible first | exact HB.out | apply below_alloc | apply pw_below_drewN | apply below_drew1 | refine below_set ?_ GE101.out) | exact HB.out)⟩
              · rw [if_neg c19] at H
                have c19b0 : (a0_1 == 0) = false := beq_eq_false_iff_ne.mpr c19
                have c19b1 : (a0_1 != 0) = true := bne_iff_ne.mpr c19
                obtain rfl := Option.some.inj H
                have hcz27_0 : wc.cell? ⟨gb101, 0, none⟩ = some (.int .i64 a0_0) := (blk_cell BK101.out 0).trans rfl
                have hcz27_1 : wc.cell? ⟨gb101, 1, none⟩ = some (.int .i64 a0_1) := (blk_cell BK101.out 1).trans rfl
                have hcz27_2 : wc.cell? ⟨gb101, 2, none⟩ = some (.int .i64 a0_2) := (blk_cell BK101.out 2).trans rfl
                have hcz27_3 : wc.cell? ⟨gb101, 3, none⟩ = some (.int .i64 a0_3) := (blk_cell BK101.out 3).trans rfl
                have hcz27_4 : wc.cell? ⟨gb101, 4, none⟩ = some (.int .i64 a0_4) := (blk_cell BK101.out 4).trans rfl
                have hcz27_5 : wc.cell? ⟨gb101, 5, none⟩ = some (.bool a0_5) := (blk_cell BK101.out 5).trans rfl
                have hcz27_6 : wc.cell? ⟨gb101, 6, none⟩ = some (.bool a0_6) := (blk_cell BK101.out 6).trans rfl
                have hcz27_7 : wc.cell? ⟨gb101, 7, none⟩ = some (.bool a0_7) := (blk_cell BK101.out 7).trans rfl
                have hfz27_0 := blk_frozen BK101.out 0
                have hfz27_1 := blk_frozen BK101.out 1
                have hfz27_2 := blk_frozen BK101.out 2
                have hfz27_3 := blk_frozen BK101.out 3
                have hfz27_4 := blk_frozen BK101.out 4
                have hfz27_5 := blk_frozen BK101.out 5
                have hfz27_6 := blk_frozen BK101.out 6
                have hfz27_7 := blk_frozen BK101.out 7
                go_wp2
                go_ret
                exact ⟨by first | rfl | (simp [errW_none, errW_some] <;> rfl) | (simp [*, errW_none, errW_some] <;> rfl), by repeat (first | (with_reducible first | exact HB.out | apply below_alloc | apply pw_below_drewN | apply below_drew1 | refine below_set ?_ GE101.out) | exact HB.out)⟩
            · rw [if_neg c18] at H
              have c18b0 : (a0_0 == 1) = false := beq_eq_false_iff_ne.mpr c18
              have c18b1 : (a0_0 != 1) = true := bne_iff_ne.mpr c18
              by_cases c28 : a0_0 = 2
              · rw [if_pos c28] at H
                have c28b0 : (a0_0 == 2) = true := beq_iff_eq.mpr c28
                have c28b1 : (a0_0 != 2) = false := bne_eq_false_iff_eq.mpr c28
                clear c28
                by_cases c29 : a0_2 = 0
                · rw [if_pos c29] at H
                  have c29b0 : (a0_2 == 0) = true := beq_iff_eq.mpr c29
                  have c29b1 : (a0_2 != 0) = false := bne_eq_false_iff_eq.mpr c29
                  clear c29
                  by_cases c30 : a0_3 > 0
                  · rw [if_pos c30] at H
                    have c30b0 : decide (0 < a0_3) = true := decide_eq_true c30
                    clear c30
                    by_cases c31 : a0_4 = 0
                    · rw [if_pos c31] at H
                      have c31b0 : (a0_4 == 0) = true := beq_iff_eq.mpr c31
                      have c31b1 : (a0_4 != 0) = false := bne_eq_false_iff_eq.mpr c31
                      clear c31
                      by_cases c32 : a0_6 = true
                      · subst c32
                        have H1 : (some false) = some r := by rw [if_pos rfl] at H; exact H
                        clear H
                        have H := H1
                        clear H1
                        obtain rfl := Option.some.inj H
                        have hcz33_0 : wc.cell? ⟨gb101, 0, none⟩ = some (.int .i64 a0_0) := (blk_cell BK101.out 0).trans rfl
                        have hcz33_1 : wc.cell? ⟨gb101, 1, none⟩ = some (.int .i64 a0_1) := (blk_cell BK101.out 1).trans rfl
                        have hcz33_2 : wc.cell? ⟨gb101, 2, none⟩ = some (.int .i64 a0_2) := (blk_cell BK101.out 2).trans rfl
                        have hcz33_3 : wc.cell? ⟨gb101, 3, none⟩ = some (.int .i64 a0_3) := (blk_cell BK101.out 3).trans rfl
                        have hcz33_4 : wc.cell? ⟨gb101, 4, none⟩ = some (.int .i64 a0_4) := (blk_cell BK101.out 4).trans rfl
                        have hcz33_5 : wc.cell? ⟨gb101, 5, none⟩ = some (.bool a0_5) := (blk_cell BK101.out 5).trans rfl
                        have hcz33_6 : wc.cell? ⟨gb101, 6, none⟩ = some (.bool true) := (blk_cell BK101.out 6).trans rfl
                        have hcz33_7 : wc.cell? ⟨gb101, 7, none⟩ = some (.bool a0_7) := (blk_cell BK101.out 7).trans rfl
                        have hfz33_0 := blk_frozen BK101.out 0
                        have hfz33_1 := blk_frozen BK101.out 1
                        have hfz33_2 := blk_frozen BK101.out 2
                        have hfz33_3 := blk_frozen BK101.out 3
                        have hfz33_4 := blk_frozen BK101.out 4
                        have hfz33_5 := blk_frozen BK101.out 5
                        have hfz33_6 := blk_frozen BK101.out 6
                        have hfz33_7 := blk_frozen BK101.out 7
                        go_wp2
                        go_ret
                        exact ⟨by first | rfl | (simp [errW_none, errW_some] <;> rfl) | (simp [*, errW_none, errW_some] <;> rfl), by repeat (first | (with_reducible first | exact HB.out | apply below_alloc | apply pw_below_drewN | apply below_drew1 | refine below_set ?_ GE101.out) | exact HB.out)⟩
                      · replace c32 := Bool.eq_false_iff.mpr c32
                        subst c32
                        have H1 : (some (a0_5 == (a0_1 == 0))) = some r := by rw [if_neg (show ¬ (false = true) by decide)] at H; exact H
                        clear H
                        have H := H1
                        clear H1
                        obtain rfl := Option.some.inj H
                        have hcz34_0 : wc.cell? ⟨gb101, 0, none⟩ = some (.int .i64 a0_0) := (blk_cell BK101.out 0).trans rfl
                        have hcz34_1 : wc.cell? ⟨gb101, 1, none⟩ = some (.int .i64 a0_1) := (blk_cell BK101.out 1).trans rfl
                        have hcz34_2 : wc.cell? ⟨gb101, 2, none⟩ = some (.int .i64 a0_2) := (blk_cell BK101.out 2).trans rfl
                        have hcz34_3 : wc.cell? ⟨gb101, 3, none⟩ = some (.int .i64 a0_3) := (blk_cell BK101.out 3).trans rfl
                        have hcz34_4 : wc.cell? ⟨gb101, 4, none⟩ = some (.int .i64 a0_4) := (blk_cell BK101.out 4).trans rfl
                        have hcz34_5 : wc.cell? ⟨gb101, 5, none⟩ = some (.bool a0_5) := (blk_cell BK101.out 5).trans rfl
                        have hcz34_6 : wc.cell? ⟨gb101, 6, none⟩ = some (.bool false) := (blk_cell BK101.out 6).trans rfl
                        have hcz34_7 : wc.cell? ⟨gb101, 7, none⟩ = some (.bool a0_7) := (blk_cell BK101.out 7).trans rfl
                        have hfz34_0 := blk_frozen BK101.out 0
                        have hfz34_1 := blk_frozen BK101.out 1
                        have hfz34_2 := blk_frozen BK101.out 2
                        have hfz34_3 := blk_frozen BK101.out 3
                        have hfz34_4 := blk_frozen BK101.out 4
                        have hfz34_5 := blk_frozen BK101.out 5
                        have hfz34_6 := blk_frozen BK101.out 6
                        have hfz34_7 := blk_frozen BK101.out 7
                        go_wp2
                        go_ret
                        exact ⟨by first | rfl | (simp [errW_none, errW_some] <;> rfl) | (simp [*, errW_none, errW_some] <;> rfl), by repeat (first | (with_reducible first | exact HB.out | apply below_alloc | apply pw_below_drewN | apply below_drew1 | refine below_set ?_ GE101.out) | exact HB.out)⟩
                    · rw [if_neg c31] at H
                      have c31b0 : (a0_4 == 0) = false := beq_eq_false_iff_ne.mpr c31
                      have c31b1 : (a0_4 != 0) = true := bne_iff_ne.mpr c31
                      obtain rfl := Option.some.inj H
                      have hcz35_0 : wc.cell? ⟨gb101, 0, none⟩ = some (.int .i64 a0_0) := (blk_cell BK101.out 0).trans rfl
                      have hcz35_1 : wc.cell? ⟨gb101, 1, none⟩ = some (.int .i64 a0_1) := (blk_cell BK101.out 1).trans rfl
                      have hcz35_2 : wc.cell? ⟨gb101, 2, none⟩ = some (.int .i64 a0_2) := (blk_cell BK101.out 2).trans rfl
                      have hcz35_3 : wc.cell? ⟨gb101, 3, none⟩ = some (.int .i64 a0_3) := (blk_cell BK101.out 3).trans rfl
                      have hcz35_4 : wc.cell? ⟨gb101, 4, none⟩ = some (.int .i64 a0_4) := (blk_cell BK101.out 4).trans rfl
                      have hcz35_5 : wc.cell? ⟨gb101, 5, none⟩ = some (.bool a0_5) := (blk_cell BK101.out 5).trans rfl
                      have hcz35_6 : wc.cell? ⟨gb101, 6, none⟩ = some (.bool a0_6) := (blk_cell BK101.out 6).trans rfl
                      have hcz35_7 : wc.cell? ⟨gb101, 7, none⟩ = some (.bool a0_7) := (blk_cell BK101.out 7).trans rfl
                      have hfz35_0 := blk_frozen BK101.out 0
                      have hfz35_1 := blk_frozen BK101.out 1
                      have hfz35_2 := blk_frozen BK101.out 2
                      have hfz35_3 := blk_frozen BK101.out 3
                      have hfz35_4 := blk_frozen BK101.out 4
                      have hfz35_5 := blk_frozen BK101.out 5
                      have hfz35_6 := blk_frozen BK101.out 6
                      have hfz35_7 := blk_frozen BK101.out 7
                      go_wp2
                      go_ret
                      exact ⟨by first | rfl | (simp [errW_none, errW_some] <;> rfl) | (simp [*, errW_none, errW_some] <;> rfl), by repeat (first | (with_reducible first | exact HB.out | apply below_alloc | apply pw_below_drewN | apply below_drew1 | refine below_set ?_ GE101.out) | exact HB.out)⟩
                  · rw [if_neg c30] at H
                    have c30b0 : decide (0 < a0_3) = false := decide_eq_false c30
                    clear c30
                    obtain rfl := Option.some.inj H
                    have hcz36_0 : wc.cell? ⟨gb101, 0, none⟩ = some (.int .i64 a0_0) := (blk_cell BK101.out 0).trans rfl
                    have hcz36_1 : wc.cell? ⟨gb101, 1, none⟩ = some (.int .i64 a0_1) := (blk_cell BK101.out 1).trans rfl
                    have hcz36_2 : wc.cell? ⟨gb101, 2, none⟩ = some (.int .i64 a0_2) := (blk_cell BK101.out 2).trans rfl
                    have hcz36_3 : wc.cell? ⟨gb101, 3, none⟩ = some (.int .i64 a0_3) := (blk_cell BK101.out 3).trans rfl
                    have hcz36_4 : wc.cell? ⟨gb101, 4, none⟩ = some (.int .i64 a0_4) := (blk_cell BK101.out 4).trans rfl
                    have hcz36_5 : wc.cell? ⟨gb101, 5, none⟩ = some (.bool a0_5) := (blk_cell BK101.out 5).trans rfl
                    have hcz36_6 : wc.cell? ⟨gb101, 6, none⟩ = some (.bool a0_6) := (blk_cell BK101.out 6).trans rfl
                    have hcz36_7 : wc.cell? ⟨gb101, 7, none⟩ = some (.bool a0_7) := (blk_cell BK101.out 7).trans rfl
                    have hfz36_0 := blk_frozen BK101.out 0
                    have hfz36_1 := blk_frozen BK101.out 1
                    have hfz36_2 := blk_frozen BK101.out 2
                    have hfz36_3 := blk_frozen BK101.out 3
                    have hfz36_4 := blk_frozen BK101.out 4
                    have hfz36_5 := blk_frozen BK101.out 5
                    have hfz36_6 := blk_frozen BK101.out 6
                    have hfz36_7 := blk_frozen BK101.out 7
                    go_wp2
                    go_ret
                    exact ⟨by first | rfl | (simp [errW_none, errW_some] <;> rfl) | (simp [*, errW_none, errW_some] <;> rfl), by repeat (first | (with_reducible first | exact HB.out | apply below_alloc | apply pw_below_drewN | apply below_drew1 | refine below_set ?_ GE101.out) | exact HB.out)⟩
                · rw [if_neg c29] at H
                  have c29b0 : (a0_2 == 0) = false := beq_eq_false_iff_ne.mpr c29
                  have c29b1 : (a0_2 != 0) = true := bne_iff_ne.mpr c29
                  obtain rfl := Option.some.inj H
                  have hcz37_0 : wc.cell? ⟨gb101, 0, none⟩ = some (.int .i64 a0_0) := (blk_cell BK101.out 0).trans rfl
                  have hcz37_1 : wc.cell? ⟨gb101, 1, none⟩ = some (.int .i64 a0_1) := (blk_cell BK101.out 1).trans rfl
                  have hcz37_2 : wc.cell? ⟨gb101, 2, none⟩ = some (.int .i64 a0_2) := (blk_cell BK101.out 2).trans rfl
                  have hcz37_3 : wc.cell? ⟨gb101, 3, none⟩ = some (.int .i64 a0_3) := (blk_cell BK101.out 3).trans rfl
                  have hcz37_4 : wc.cell? ⟨gb101, 4, none⟩ = some (.int .i64 a0_4) := (blk_cell BK101.out 4).trans rfl
                  have hcz37_5 : wc.cell? ⟨gb101, 5, none⟩ = some (.bool a0_5) := (blk_cell BK101.out 5).trans rfl
                  have hcz37_6 : wc.cell? ⟨gb101, 6, none⟩ = some (.bool a0_6) := (blk_cell BK101.out 6).trans rfl
                  have hcz37_7 : wc.cell? ⟨gb101, 7, none⟩ = some (.bool a0_7) := (blk_cell BK101.out 7).trans rfl
                  have hfz37_0 := blk_frozen BK101.out 0
                  have hfz37_1 := blk_frozen BK101.out 1
                  have hfz37_2 := blk_frozen BK101.out 2
                  have hfz37_3 := blk_frozen BK101.out 3
                  have hfz37_4 := blk_frozen BK101.out 4
                  have hfz37_5 := blk_frozen BK101.out 5
                  have hfz37_6 := blk_frozen BK101.out 6
                  have hfz37_7 := blk_frozen BK101.out 7
                  go_wp2
                  go_ret
                  exact ⟨by first | rfl | (simp [errW_none, errW_some] <;> rfl) | (simp [*, errW_none, errW_some] <;> rfl), by repeat (first | (with_reducible first | exact HB.out | apply below_alloc | apply pw_below_drewN | apply below_drew1 | refine below_set ?_ GE101.out) | exact HB.out)⟩
              · rw [if_neg c28] at H
                have c28b0 : (a0_0 == 2) = false := beq_eq_false_iff_ne.mpr c28
                have c28b1 : (a0_0 != 2) = true := bne_iff_ne.mpr c28
                by_cases c38 : a0_0 = 3
                · rw [if_pos c38] at H
                  have c38b0 : (a0_0 == 3) = true := beq_iff_eq.mpr c38
                  have c38b1 : (a0_0 != 3) = false := bne_eq_false_iff_eq.mpr c38
                  clear c38
                  by_cases c39 : a0_1 > 0
                  · rw [if_pos c39] at H
                    have c39b0 : decide (0 < a0_1) = true := decide_eq_true c39
                    clear c39
                    by_cases c40 : a0_2 > 0
                    · rw [if_pos c40] at H
                      have c40b0 : decide (0 < a0_2) = true := decide_eq_true c40
                      clear c40
                      by_cases c41 : a0_3 = 0
                      · rw [if_pos c41] at H
                        have c41b0 : (a0_3 == 0) = true := beq_iff_eq.mpr c41
                        have c41b1 : (a0_3 != 0) = false := bne_eq_false_iff_eq.mpr c41
                        clear c41
                        by_cases c42 : a0_4 = 0
                        · rw [if_pos c42] at H
                          have c42b0 : (a0_4 == 0) = true := beq_iff_eq.mpr c42
                          have c42b1 : (a0_4 != 0) = false := bne_eq_false_iff_eq.mpr c42
                          clear c42
                          obtain rfl := Option.some.inj H
                          have hcz43_0 : wc.cell? ⟨gb101, 0, none⟩ = some (.int .i64 a0_0) := (blk_cell BK101.out 0).trans rfl
                          have hcz43_1 : wc.cell? ⟨gb101, 1, none⟩ = some (.int .i64 a0_1) := (blk_cell BK101.out 1).trans rfl
                          have hcz43_2 : wc.cell? ⟨gb101, 2, none⟩ = some (.int .i64 a0_2) := (blk_cell BK101.out 2).trans rfl
                          have hcz43_3 : wc.cell? ⟨gb101, 3, none⟩ = some (.int .i64 a0_3) := (blk_cell BK101.out 3).trans rfl
                          have hcz43_4 : wc.cell? ⟨gb101, 4, none⟩ = some (.int .i64 a0_4) := (blk_cell BK101.out 4).trans rfl
                          have hcz43_5 : wc.cell? ⟨gb101, 5, none⟩ = some (.bool a0_5) := (blk_cell BK101.out 5).trans rfl
                          have hcz43_6 : wc.cell? ⟨gb101, 6, none⟩ = some (.bool a0_6) := (blk_cell BK101.out 6).trans rfl
                          have hcz43_7 : wc.cell? ⟨gb101, 7, none⟩ = some (.bool a0_7) := (blk_cell BK101.out 7).trans rfl
                          have hfz43_0 := blk_frozen BK101.out 0
                          have hfz43_1 := blk_frozen BK101.out 1
                          have hfz43_2 := blk_frozen BK101.out 2
                          have hfz43_3 := blk_frozen BK101.out 3
                          have hfz43_4 := blk_frozen BK101.out 4
                          have hfz43_5 := blk_frozen BK101.out 5
                          have hfz43_6 := blk_frozen BK101.out 6
                          have hfz43_7 := blk_frozen BK101.out 7
                          go_wp2
                          go_ret
                          exact ⟨by first | rfl | (simp [errW_none, errW_some] <;> rfl) | (simp [*, errW_none, errW_some] <;> rfl), by repeat (first | (with_reducible first | exact HB.out | apply below_alloc | apply pw_below_drewN | apply below_drew1 | refine below_set ?_ GE101.out) | exact HB.out)⟩
                        · rw [if_neg c42] at H
                          have c42b0 : (a0_4 == 0) = false := beq_eq_false_iff_ne.mpr c42
                          have c42b1 : (a0_4 != 0) = true := bne_iff_ne.mpr c42
                          obtain rfl := Option.some.inj H
                          have hcz44_0 : wc.cell? ⟨gb101, 0, none⟩ = some (.int .i64 a0_0) := (blk_cell BK101.out 0).trans rfl
                          have hcz44_1 : wc.cell? ⟨gb101, 1, none⟩ = some (.int .i64 a0_1) := (blk_cell BK101.out 1).trans rfl
                          have hcz44_2 : wc.cell? ⟨gb101, 2, none⟩ = some (.int .i64 a0_2) := (blk_cell BK101.out 2).trans rfl
                          have hcz44_3 : wc.cell? ⟨gb101, 3, none⟩ = some (.int .i64 a0_3) := (blk_cell BK101.out 3).trans rfl
                          have hcz44_4 : wc.cell? ⟨gb101, 4, none⟩ = some (.int .i64 a0_4) := (blk_cell BK101.out 4).trans rfl
                          have hcz44_5 : wc.cell? ⟨gb101, 5, none⟩ = some (.bool a0_5) := (blk_cell BK101.out 5).trans rfl
                          have hcz44_6 : wc.cell? ⟨gb101, 6, none⟩ = some (.bool a0_6) := (blk_cell BK101.out 6).trans rfl
                          have hcz44_7 : wc.cell? ⟨gb101, 7, none⟩ = some (.bool a0_7) := (blk_cell BK101.out 7).trans rfl
                          have hfz44_0 := blk_frozen BK101.out 0
                          have hfz44_1 := blk_frozen BK101.out 1
                          have hfz44_2 := blk_frozen BK101.out 2
                          have hfz44_3 := blk_frozen BK101.out 3
                          have hfz44_4 := blk_frozen BK101.out 4
                          have hfz44_5 := blk_frozen BK101.out 5
                          have hfz44_6 := blk_frozen BK101.out 6
                          have hfz44_7 := blk_frozen BK101.out 7
                          go_wp2
                          go_ret
                          exact ⟨by first | rfl | (simp [errW_none, errW_some] <;> rfl) | (simp [*, errW_none, errW_some] <;> rfl), by repeat (first | (with_reducible first | exact HB.out | apply below_alloc | apply pw_below_drewN | apply below_drew1 | refine below_set ?_ GE101.out) | exact HB.out)⟩
                      · rw [if_neg c41] at H
                        have c41b0 : (a0_3 == 0) = false := beq_eq_false_iff_ne.mpr c41
                        have c41b1 : (a0_3 != 0) = true := bne_iff_ne.mpr c41
                        obtain rfl := Option.some.inj H
                        have hcz45_0 : wc.cell? ⟨gb101, 0, none⟩ = some (.int .i64 a0_0) := (blk_cell BK101.out 0).trans rfl
                        have hcz45_1 : wc.cell? ⟨gb101, 1, none⟩ = some (.int .i64 a0_1) := (blk_cell BK101.out 1).trans rfl
                        have hcz45_2 : wc.cell? ⟨gb101, 2, none⟩ = some (.int .i64 a0_2) := (blk_cell BK101.out 2).trans rfl
                        have hcz45_3 : wc.cell? ⟨gb101, 3, none⟩ = some (.int .i64 a0_3) := (blk_cell BK101.out 3).trans rfl
                        have hcz45_4 : wc.cell? ⟨gb101, 4, none⟩ = some (.int .i64 a0_4) := (blk_cell BK101.out 4).trans rfl
                        have hcz45_5 : wc.cell? ⟨gb101, 5, none⟩ = some (.bool a0_5) := (blk_cell BK101.out 5).trans rfl
                        have hcz45_6 : wc.cell? ⟨gb101, 6, none⟩ = some (.bool a0_6) := (blk_cell BK101.out 6).trans rfl
                        have hcz45_7 : wc.cell? ⟨gb101, 7, none⟩ = some (.bool a0_7) := (blk_cell BK101.out 7).trans rfl
                        have hfz45_0 := blk_frozen BK101.out 0
                        have hfz45_1 := blk_frozen BK101.out 1
                        have hfz45_2 := blk_frozen BK101.out 2
                        have hfz45_3 := blk_frozen BK101.out 3
                        have hfz45_4 := blk_frozen BK101.out 4
                        have hfz45_5 := blk_frozen BK101.out 5
                        have hfz45_6 := blk_frozen BK101.out 6
                        have hfz45_7 := blk_frozen BK101.out 7
                        go_wp2
                        go_ret
                        exact ⟨by first | rfl | (simp [errW_none, errW_some] <;> rfl) | (simp [*, errW_none, errW_some] <;> rfl), by repeat (first | (with_reducible first | exact HB.out | apply below_alloc | apply pw_below_drewN | apply below_drew1 | refine below_set ?_ GE101.out) | exact HB.out)⟩
                    · rw [if_neg c40] at H
                      have c40b0 : decide (0 < a0_2) = false := decide_eq_false c40
                      clear c40
                      obtain rfl := Option.some.inj H
                      have hcz46_0 : wc.cell? ⟨gb101, 0, none⟩ = some (.int .i64 a0_0) := (blk_cell BK101.out 0).trans rfl
                      have hcz46_1 : wc.cell? ⟨gb101, 1, none⟩ = some (.int .i64 a0_1) := (blk_cell BK101.out 1).trans rfl
                      have hcz46_2 : wc.cell? ⟨gb101, 2, none⟩ = some (.int .i64 a0_2) := (blk_cell BK101.out 2).trans rfl
                      have hcz46_3 : wc.cell? ⟨gb101, 3, none⟩ = some (.int .i64 a0_3) := (blk_cell BK101.out 3).trans rfl
                      have hcz46_4 : wc.cell? ⟨gb101, 4, none⟩ = some (.int .i64 a0_4) := (blk_cell BK101.out 4).trans rfl
                      have hcz46_5 : wc.cell? ⟨gb101, 5, none⟩ = some (.bool a0_5) := (blk_cell BK101.out 5).trans rfl
                      have hcz46_6 : wc.cell? ⟨gb101, 6, none⟩ = some (.bool a0_6) := (blk_cell BK101.out 6).trans rfl
                      have hcz46_7 : wc.cell? ⟨gb101, 7, none⟩ = some (.bool a0_7) := (blk_cell BK101.out 7).trans rfl
                      have hfz46_0 := blk_frozen BK101.out 0
                      have hfz46_1 := blk_frozen BK101.out 1
                      have hfz46_2 := blk_frozen BK101.out 2
                      have hfz46_3 := blk_frozen BK101.out 3
                      have hfz46_4 := blk_frozen BK101.out 4
                      have hfz46_5 := blk_frozen BK101.out 5
                      have hfz46_6 := blk_frozen BK101.out 6
                      have hfz46_7 := blk_frozen BK101.out 7
                      go_wp2
                      go_ret
                      exact ⟨by first | rfl | (simp [errW_none, errW_some] <;> rfl) | (simp [*, errW_none, errW_some] <;> rfl), by repeat (first | (with_reducible first | exact HB.out | apply below_alloc | apply pw_below_drewN | apply below_drew1 | refine below_set ?_ GE101.out) | exact HB.out)⟩
                  · rw [if_neg c39] at H
                    have c39b0 : decide (0 < a0_1) = false := decide_eq_false c39
                    clear c39
                    obtain rfl := Option.some.inj H
                    have hcz47_0 : wc.cell? ⟨gb101, 0, none⟩ = some (.int .i64 a0_0) := (blk_cell BK101.out 0).trans rfl
                    have hcz47_1 : wc.cell? ⟨gb101, 1, none⟩ = some (.int .i64 a0_1) := (blk_cell BK101.out 1).trans rfl
                    have hcz47_2 : wc.cell? ⟨gb101, 2, none⟩ = some (.int .i64 a0_2) := (blk_cell BK101.out 2).trans rfl
                    have hcz47_3 : wc.cell? ⟨gb101, 3, none⟩ = some (.int .i64 a0_3) := (blk_cell BK101.out 3).trans rfl
                    have hcz47_4 : wc.cell? ⟨gb101, 4, none⟩ = some (.int .i64 a0_4) := (blk_cell BK101.out 4).trans rfl
                    have hcz47_5 : wc.cell? ⟨gb101, 5, none⟩ = some (.bool a0_5) := (blk_cell BK101.out 5).trans rfl
                    have hcz47_6 : wc.cell? ⟨gb101, 6, none⟩ = some (.bool a0_6) := (blk_cell BK101.out 6).trans rfl
                    have hcz47_7 : wc.cell? ⟨gb101, 7, none⟩ = some (.bool a0_7) := (blk_cell BK101.out 7).trans rfl
                    have hfz47_0 := blk_frozen BK101.out 0
                    have hfz47_1 := blk_frozen BK101.out 1
                    have hfz47_2 := blk_frozen BK101.out 2
                    have hfz47_3 := blk_frozen BK101.out 3
                    have hfz47_4 := blk_frozen BK101.out 4
                    have hfz47_5 := blk_frozen BK101.out 5
                    have hfz47_6 := blk_frozen BK101.out 6
                    have hfz47_7 := blk_frozen BK101.out 7
                    go_wp2
                    go_ret
                    exact ⟨by first | rfl | (simp [errW_none, errW_some] <;> rfl) | (simp [*, errW_none, errW_some] <;> rfl), by repeat (first | (with_reducible first | exact HB.out | apply below_alloc | apply pw_below_drewN | apply below_drew1 | refine below_set ?_ GE101.out) | exact HB.out)⟩
                · rw [if_neg c38] at H
                  have c38b0 : (a0_0 == 3) = false := beq_eq_false_iff_ne.mpr c38
                  have c38b1 : (a0_0 != 3) = true := bne_iff_ne.mpr c38
                  have HC48 := Aside0.mk H
                  clear H
                  have hcz49_0 : wc.cell? ⟨gb101, 0, none⟩ = some (.int .i64 a0_0) := (blk_cell BK101.out 0).trans rfl
                  have hcz49_1 : wc.cell? ⟨gb101, 1, none⟩ = some (.int .i64 a0_1) := (blk_cell BK101.out 1).trans rfl
                  have hcz49_2 : wc.cell? ⟨gb101, 2, none⟩ = some (.int .i64 a0_2) := (blk_cell BK101.out 2).trans rfl
                  have hcz49_3 : wc.cell? ⟨gb101, 3, none⟩ = some (.int .i64 a0_3) := (blk_cell BK101.out 3).trans rfl
                  have hcz49_4 : wc.cell? ⟨gb101, 4, none⟩ = some (.int .i64 a0_4) := (blk_cell BK101.out 4).trans rfl
                  have hcz49_5 : wc.cell? ⟨gb101, 5, none⟩ = some (.bool a0_5) := (blk_cell BK101.out 5).trans rfl
                  have hcz49_6 : wc.cell? ⟨gb101, 6, none⟩ = some (.bool a0_6) := (blk_cell BK101.out 6).trans rfl
                  have hcz49_7 : wc.cell? ⟨gb101, 7, none⟩ = some (.bool a0_7) := (blk_cell BK101.out 7).trans rfl
                  have hfz49_0 := blk_frozen BK101.out 0
                  have hfz49_1 := blk_frozen BK101.out 1
                  have hfz49_2 := blk_frozen BK101.out 2
                  have hfz49_3 := blk_frozen BK101.out 3
                  have hfz49_4 := blk_frozen BK101.out 4
                  have hfz49_5 := blk_frozen BK101.out 5
                  have hfz49_6 := blk_frozen BK101.out 6
                  have hfz49_7 := blk_frozen BK101.out 7
                  go_upto_if 112 with (fail)
                  go_cut [112] (fun v112 wc => ∃ (kq : Nat) (x112_47 : Bool), v112 = .bool x112_47 ∧ Aside0 (pilcrowref24_Right.j2 kq a0_0 x112_47 a0_0 a0_1 a0_2 a0_3 a0_4 a0_5 a0_6 a0_7 = some r) ∧ Aside0 (kq ≤ kj11) ∧ Aside0 (wc.heap[gb101]? = some (.cells #[.int .i64 a0_0, .int .i64 a0_1, .int .i64 a0_2, .int .i64 a0_3, .int .i64 a0_4, .bool a0_5, .bool a0_6, .bool a0_7] 26 (0, 0))) ∧ Aside0 (Below w.heap.size w wc))
                  case first =>
                    have H := HC48.out
                    clear HC48
                    by_cases c50 : a0_0 = 4
                    · rw [if_pos c50] at H
                      have c50b0 : (a0_0 == 4) = true := beq_iff_eq.mpr c50
                      have c50b1 : (a0_0 != 4) = false := bne_eq_false_iff_eq.mpr c50
                      clear c50
                      (first | rw [c50b0] | (simp only [i64_w, i32_w]; rw [c50b0]) | skip)
                      have H' := Aside0.mk H
                      clear H
                      go_wp2
                      go_meet
                      case rel => exact ⟨_, ((a0_0 == 4)), (by first | rfl | (simp; done) | (simp [*]; done)), H', ⟨by have := HJ1.out; have := HJ11.out; first | omega | exact Nat.le_refl _⟩, ⟨by (with_reducible repeat (first | refine blk_drewN ?_ _ | refine blk_drew ?_ | refine blk_alloc ?_ _)); exact BK101.out⟩, ⟨by repeat (first | (with_reducible first | exact HB.out | apply below_alloc | apply pw_below_drewN | apply below_drew1 | refine below_set ?_ GE101.out) | exact HB.out)⟩⟩
                    · rw [if_neg c50] at H
                      have c50b0 : (a0_0 == 4) = false := beq_eq_false_iff_ne.mpr c50
                      have c50b1 : (a0_0 != 4) = true := bne_iff_ne.mpr c50
                      (first | rw [c50b0] | (simp only [i64_w, i32_w]; rw [c50b0]) | skip)
                      have H' := Aside0.mk H
                      clear H
                      go_wp2
                      go_meet
                      case rel => exact ⟨_, ((a0_0 == 5)), (by first | rfl | (simp; done) | (simp [*]; done)), H', ⟨by have := HJ1.out; have := HJ11.out; first | omega | exact Nat.le_refl _⟩, ⟨by (with_reducible repeat (first | refine blk_drewN ?_ _ | refine blk_drew ?_ | refine blk_alloc ?_ _)); exact BK101.out⟩, ⟨by repeat (first | (with_reducible first | exact HB.out | apply below_alloc | apply pw_below_drewN | apply below_drew1 | refine below_set ?_ GE101.out) | exact HB.out)⟩⟩
                  case rest =>
                    clear HC48
                    try clear c1
                    try clear c2
                    try clear p2
                    try clear c3
                    try clear c4
                    try clear c5
                    try clear c7
                    try clear c13
                    try clear c14
                    try clear c14b0
                    try clear c17
                    try clear c18
                    try clear c18b0
                    try clear c18b1
                    try clear c19
                    try clear c19b0
                    try clear c19b1
                    try clear c20
                    try clear c20b0
                    try clear c21
                    try clear c21b0
                    try clear c22
                    try clear c28
                    try clear c28b0
                    try clear c28b1
                    try clear c29
                    try clear c29b0
                    try clear c29b1
                    try clear c30
                    try clear c30b0
                    try clear c31
                    try clear c31b0
                    try clear c31b1
                    try clear c32
                    try clear c38
                    try clear c38b0
                    try clear c38b1
                    try clear c39
                    try clear c39b0
                    try clear c40
                    try clear c40b0
                    try clear c41
                    try clear c41b0
                    try clear c41b1
                    try clear c42
                    try clear c42b0
                    try clear c42b1
                    try clear c50
                    try clear c50b0
                    try clear c50b1
                    try clear hcz10_0
                    try clear hcz10_1
                    try clear hcz10_2
                    try clear hcz10_3
                    try clear hcz10_4
                    try clear hcz10_5
                    try clear hcz10_6
                    try clear hcz10_7
                    try clear hcz11_0
                    try clear hcz11_1
                    try clear hcz11_2
                    try clear hcz11_3
                    try clear hcz11_4
                    try clear hcz11_5
                    try clear hcz11_6
                    try clear hcz11_7
                    try clear hcz15_0
                    try clear hcz15_1
                    try clear hcz15_2
                    try clear hcz15_3
                    try clear hcz15_4
                    try clear hcz15_5
                    try clear hcz15_6
                    try clear hcz15_7
                    try clear hcz16_0
                    try clear hcz16_1
                    try clear hcz16_2
                    try clear hcz16_3
                    try clear hcz16_4
                    try clear hcz16_5
                    try clear hcz16_6
                    try clear hcz16_7
                    try clear hcz23_0
                    try clear hcz23_1
                    try clear hcz23_2
                    try clear hcz23_3
                    try clear hcz23_4
                    try clear hcz23_5
                    try clear hcz23_6
                    try clear hcz23_7
                    try clear hcz24_0
                    try clear hcz24_1
                    try clear hcz24_2
                    try clear hcz24_3
                    try clear hcz24_4
                    try clear hcz24_5
                    try clear hcz24_6
                    try clear hcz24_7
                    try clear hcz25_0
                    try clear hcz25_1
                    try clear hcz25_2
                    try clear hcz25_3
                    try clear hcz25_4
                    try clear hcz25_5
                    try clear hcz25_6
                    try clear hcz25_7
                    try clear hcz26_0
                    try clear hcz26_1
                    try clear hcz26_2
                    try clear hcz26_3
                    try clear hcz26_4
                    try clear hcz26_5
                    try clear hcz26_6
                    try clear hcz26_7
                    try clear hcz27_0
                    try clear hcz27_1
                    try clear hcz27_2
                    try clear hcz27_3
                    try clear hcz27_4
                    try clear hcz27_5
                    try clear hcz27_6
                    try clear hcz27_7
                    try clear hcz33_0
                    try clear hcz33_1
                    try clear hcz33_2
                    try clear hcz33_3
                    try clear hcz33_4
                    try clear hcz33_5
                    try clear hcz33_6
                    try clear hcz33_7
                    try clear hcz34_0
                    try clear hcz34_1
                    try clear hcz34_2
                    try clear hcz34_3
                    try clear hcz34_4
                    try clear hcz34_5
                    try clear hcz34_6
                    try clear hcz34_7
                    try clear hcz35_0
                    try clear hcz35_1
                    try clear hcz35_2
                    try clear hcz35_3
                    try clear hcz35_4
                    try clear hcz35_5
                    try clear hcz35_6
                    try clear hcz35_7
                    try clear hcz36_0
                    try clear hcz36_1
                    try clear hcz36_2
                    try clear hcz36_3
                    try clear hcz36_4
                    try clear hcz36_5
                    try clear hcz36_6
                    try clear hcz36_7
                    try clear hcz37_0
                    try clear hcz37_1
                    try clear hcz37_2
                    try clear hcz37_3
                    try clear hcz37_4
                    try clear hcz37_5
                    try clear hcz37_6
                    try clear hcz37_7
                    try clear hcz43_0
                    try clear hcz43_1
                    try clear hcz43_2
                    try clear hcz43_3
                    try clear hcz43_4
                    try clear hcz43_5
                    try clear hcz43_6
                    try clear hcz43_7
                    try clear hcz44_0
                    try clear hcz44_1
                    try clear hcz44_2
                    try clear hcz44_3
                    try clear hcz44_4
                    try clear hcz44_5
                    try clear hcz44_6
                    try clear hcz44_7
                    try clear hcz45_0
                    try clear hcz45_1
                    try clear hcz45_2
                    try clear hcz45_3
                    try clear hcz45_4
                    try clear hcz45_5
                    try clear hcz45_6
                    try clear hcz45_7
                    try clear hcz46_0
                    try clear hcz46_1
                    try clear hcz46_2
                    try clear hcz46_3
                    try clear hcz46_4
                    try clear hcz46_5
                    try clear hcz46_6
                    try clear hcz46_7
                    try clear hcz47_0
                    try clear hcz47_1
                    try clear hcz47_2
                    try clear hcz47_3
                    try clear hcz47_4
                    try clear hcz47_5
                    try clear hcz47_6
                    try clear hcz47_7
                    try clear hcz49_0
                    try clear hcz49_1
                    try clear hcz49_2
                    try clear hcz49_3
                    try clear hcz49_4
                    try clear hcz49_5
                    try clear hcz49_6
                    try clear hcz49_7
                    try clear hcz9_0
                    try clear hcz9_1
                    try clear hcz9_2
                    try clear hcz9_3
                    try clear hcz9_4
                    try clear hcz9_5
                    try clear hcz9_6
                    try clear hcz9_7
                    try clear hfz10_0
                    try clear hfz10_1
                    try clear hfz10_2
                    try clear hfz10_3
                    try clear hfz10_4
                    try clear hfz10_5
                    try clear hfz10_6
                    try clear hfz10_7
                    try clear hfz11_0
                    try clear hfz11_1
                    try clear hfz11_2
                    try clear hfz11_3
                    try clear hfz11_4
                    try clear hfz11_5
                    try clear hfz11_6
                    try clear hfz11_7
                    try clear hfz15_0
                    try clear hfz15_1
                    try clear hfz15_2
                    try clear hfz15_3
                    try clear hfz15_4
                    try clear hfz15_5
                    try clear hfz15_6
                    try clear hfz15_7
                    try clear hfz16_0
                    try clear hfz16_1
                    try clear hfz16_2
                    try clear hfz16_3
                    try clear hfz16_4
                    try clear hfz16_5
                    try clear hfz16_6
                    try clear hfz16_7
                    try clear hfz23_0
                    try clear hfz23_1
                    try clear hfz23_2
                    try clear hfz23_3
                    try clear hfz23_4
                    try clear hfz23_5
                    try clear hfz23_6
                    try clear hfz23_7
                    try clear hfz24_0
                    try clear hfz24_1
                    try clear hfz24_2
                    try clear hfz24_3
                    try clear hfz24_4
                    try clear hfz24_5
                    try clear hfz24_6
                    try clear hfz24_7
                    try clear hfz25_0
                    try clear hfz25_1
                    try clear hfz25_2
                    try clear hfz25_3
                    try clear hfz25_4
                    try clear hfz25_5
                    try clear hfz25_6
                    try clear hfz25_7
                    try clear hfz26_0
                    try clear hfz26_1
                    try clear hfz26_2
                    try clear hfz26_3
                    try clear hfz26_4
                    try clear hfz26_5
                    try clear hfz26_6
                    try clear hfz26_7
                    try clear hfz27_0
                    try clear hfz27_1
                    try clear hfz27_2
                    try clear hfz27_3
                    try clear hfz27_4
                    try clear hfz27_5
                    try clear hfz27_6
                    try clear hfz27_7
                    try clear hfz33_0
                    try clear hfz33_1
                    try clear hfz33_2
                    try clear hfz33_3
                    try clear hfz33_4
                    try clear hfz33_5
                    try clear hfz33_6
                    try clear hfz33_7
                    try clear hfz34_0
                    try clear hfz34_1
                    try clear hfz34_2
                    try clear hfz34_3
                    try clear hfz34_4
                    try clear hfz34_5
                    try clear hfz34_6
                    try clear hfz34_7
                    try clear hfz35_0
                    try clear hfz35_1
                    try clear hfz35_2
                    try clear hfz35_3
                    try clear hfz35_4
                    try clear hfz35_5
                    try clear hfz35_6
                    try clear hfz35_7
                    try clear hfz36_0
                    try clear hfz36_1
                    try clear hfz36_2
                    try clear hfz36_3
                    try clear hfz36_4
                    try clear hfz36_5
                    try clear hfz36_6
                    try clear hfz36_7
                    try clear hfz37_0
                    try clear hfz37_1
                    try clear hfz37_2
                    try clear hfz37_3
                    try clear hfz37_4
                    try clear hfz37_5
                    try clear hfz37_6
                    try clear hfz37_7
                    try clear hfz43_0
                    try clear hfz43_1
                    try clear hfz43_2
                    try clear hfz43_3
                    try clear hfz43_4
                    try clear hfz43_5
                    try clear hfz43_6
                    try clear hfz43_7
                    try clear hfz44_0
                    try clear hfz44_1
                    try clear hfz44_2
                    try clear hfz44_3
                    try clear hfz44_4
                    try clear hfz44_5
                    try clear hfz44_6
                    try clear hfz44_7
                    try clear hfz45_0
                    try clear hfz45_1
                    try clear hfz45_2
                    try clear hfz45_3
                    try clear hfz45_4
                    try clear hfz45_5
                    try clear hfz45_6
                    try clear hfz45_7
                    try clear hfz46_0
                    try clear hfz46_1
                    try clear hfz46_2
                    try clear hfz46_3
                    try clear hfz46_4
                    try clear hfz46_5
                    try clear hfz46_6
                    try clear hfz46_7
                    try clear hfz47_0
                    try clear hfz47_1
                    try clear hfz47_2
                    try clear hfz47_3
                    try clear hfz47_4
                    try clear hfz47_5
                    try clear hfz47_6
                    try clear hfz47_7
                    try clear hfz49_0
                    try clear hfz49_1
                    try clear hfz49_2
                    try clear hfz49_3
                    try clear hfz49_4
                    try clear hfz49_5
                    try clear hfz49_6
                    try clear hfz49_7
                    try clear hfz9_0
                    try clear hfz9_1
                    try clear hfz9_2
                    try clear hfz9_3
                    try clear hfz9_4
                    try clear hfz9_5
                    try clear hfz9_6
                    try clear hfz9_7
                    try clear p2
                    obtain ⟨kq, x112_47, rfl, HA, HJ47, BK101, HB⟩ := hcut
                    cases kq with
                    | zero => exact absurd HA.out (by simp [pilcrowref24_Right.j2])
                    | succ kj47 =>
                      have H := HA.out
                      clear HA
                      simp only [pilcrowref24_Right.j2] at H
                      by_cases c51 : x112_47 = true
                      · subst c51
                        have H1 : (some (a0_1 == 0 && (a0_2 == 0 && (a0_3 == 0 && (a0_4 == 0 && (!a0_5 && (!a0_6 && (!a0_7)))))))) = some r := by rw [if_pos rfl] at H; exact H
                        clear H
                        have H := H1
                        clear H1
                        obtain rfl := Option.some.inj H
                        have hcz52_0 : wc.cell? ⟨gb101, 0, none⟩ = some (.int .i64 a0_0) := (blk_cell BK101.out 0).trans rfl
                        have hcz52_1 : wc.cell? ⟨gb101, 1, none⟩ = some (.int .i64 a0_1) := (blk_cell BK101.out 1).trans rfl
                        have hcz52_2 : wc.cell? ⟨gb101, 2, none⟩ = some (.int .i64 a0_2) := (blk_cell BK101.out 2).trans rfl
                        have hcz52_3 : wc.cell? ⟨gb101, 3, none⟩ = some (.int .i64 a0_3) := (blk_cell BK101.out 3).trans rfl
                        have hcz52_4 : wc.cell? ⟨gb101, 4, none⟩ = some (.int .i64 a0_4) := (blk_cell BK101.out 4).trans rfl
                        have hcz52_5 : wc.cell? ⟨gb101, 5, none⟩ = some (.bool a0_5) := (blk_cell BK101.out 5).trans rfl
                        have hcz52_6 : wc.cell? ⟨gb101, 6, none⟩ = some (.bool a0_6) := (blk_cell BK101.out 6).trans rfl
                        have hcz52_7 : wc.cell? ⟨gb101, 7, none⟩ = some (.bool a0_7) := (blk_cell BK101.out 7).trans rfl
                        have hfz52_0 := blk_frozen BK101.out 0
                        have hfz52_1 := blk_frozen BK101.out 1
                        have hfz52_2 := blk_frozen BK101.out 2
                        have hfz52_3 := blk_frozen BK101.out 3
                        have hfz52_4 := blk_frozen BK101.out 4
                        have hfz52_5 := blk_frozen BK101.out 5
                        have hfz52_6 := blk_frozen BK101.out 6
                        have hfz52_7 := blk_frozen BK101.out 7
                        go_wp2
                        go_ret
                        exact ⟨by first | rfl | (simp [errW_none, errW_some] <;> rfl) | (simp [*, errW_none, errW_some] <;> rfl), by repeat (first | (with_reducible first | exact HB.out | apply below_alloc | apply pw_below_drewN | apply below_drew1 | refine below_set ?_ GE101.out) | exact HB.out)⟩
                      · replace c51 := Bool.eq_false_iff.mpr c51
                        subst c51
                        have H1 : (if a0_0 = 6 then (if a0_1 > 0 then (if a0_2 = 0 then (if a0_3 = 0 then (if a0_4 = 0 then (if a0_5 = true then (some false) else (some (!a0_6))) else (some false)) else (some false)) else (some false)) else (some false)) else (some false)) = some r := by rw [if_neg (show ¬ (false = true) by decide)] at H; exact H
                        clear H
                        have H := H1
                        clear H1
                        by_cases c53 : a0_0 = 6
                        · rw [if_pos c53] at H
                          have c53b0 : (a0_0 == 6) = true := beq_iff_eq.mpr c53
                          have c53b1 : (a0_0 != 6) = false := bne_eq_false_iff_eq.mpr c53
                          clear c53
                          by_cases c54 : a0_1 > 0
                          · rw [if_pos c54] at H
                            have c54b0 : decide (0 < a0_1) = true := decide_eq_true c54
                            clear c54
                            by_cases c55 : a0_2 = 0
                            · rw [if_pos c55] at H
                              have c55b0 : (a0_2 == 0) = true := beq_iff_eq.mpr c55
                              have c55b1 : (a0_2 != 0) = false := bne_eq_false_iff_eq.mpr c55
                              clear c55
                              by_cases c56 : a0_3 = 0
                              · rw [if_pos c56] at H
                                have c56b0 : (a0_3 == 0) = true := beq_iff_eq.mpr c56
                                have c56b1 : (a0_3 != 0) = false := bne_eq_false_iff_eq.mpr c56
                                clear c56
                                by_cases c57 : a0_4 = 0
                                · rw [if_pos c57] at H
                                  have c57b0 : (a0_4 == 0) = true := beq_iff_eq.mpr c57
                                  have c57b1 : (a0_4 != 0) = false := bne_eq_false_iff_eq.mpr c57
                                  clear c57
                                  by_cases c58 : a0_5 = true
                                  · subst c58
                                    have H1 : (some false) = some r := by rw [if_pos rfl] at H; exact H
                                    clear H
                                    have H := H1
                                    clear H1
                                    obtain rfl := Option.some.inj H
                                    have hcz59_0 : wc.cell? ⟨gb101, 0, none⟩ = some (.int .i64 a0_0) := (blk_cell BK101.out 0).trans rfl
                                    have hcz59_1 : wc.cell? ⟨gb101, 1, none⟩ = some (.int .i64 a0_1) := (blk_cell BK101.out 1).trans rfl
                                    have hcz59_2 : wc.cell? ⟨gb101, 2, none⟩ = some (.int .i64 a0_2) := (blk_cell BK101.out 2).trans rfl
                                    have hcz59_3 : wc.cell? ⟨gb101, 3, none⟩ = some (.int .i64 a0_3) := (blk_cell BK101.out 3).trans rfl
                                    have hcz59_4 : wc.cell? ⟨gb101, 4, none⟩ = some (.int .i64 a0_4) := (blk_cell BK101.out 4).trans rfl
                                    have hcz59_5 : wc.cell? ⟨gb101, 5, none⟩ = some (.bool true) := (blk_cell BK101.out 5).trans rfl
                                    have hcz59_6 : wc.cell? ⟨gb101, 6, none⟩ = some (.bool a0_6) := (blk_cell BK101.out 6).trans rfl
                                    have hcz59_7 : wc.cell? ⟨gb101, 7, none⟩ = some (.bool a0_7) := (blk_cell BK101.out 7).trans rfl
                                    have hfz59_0 := blk_frozen BK101.out 0
                                    have hfz59_1 := blk_frozen BK101.out 1
                                    have hfz59_2 := blk_frozen BK101.out 2
                                    have hfz59_3 := blk_frozen BK101.out 3
                                    have hfz59_4 := blk_frozen BK101.out 4
                                    have hfz59_5 := blk_frozen BK101.out 5
                                    have hfz59_6 := blk_frozen BK101.out 6
                                    have hfz59_7 := blk_frozen BK101.out 7
                                    go_wp2
                                    go_ret
                                    exact ⟨by first | rfl | (simp [errW_none, errW_some] <;> rfl) | (simp [*, errW_none, errW_some] <;> rfl), by repeat (first | (with_reducible first | exact HB.out | apply below_alloc | apply pw_below_drewN | apply below_drew1 | refine below_set ?_ GE101.out) | exact HB.out)⟩
                                  · replace c58 := Bool.eq_false_iff.mpr c58
                                    subst c58
                                    have H1 : (some (!a0_6)) = some r := by rw [if_neg (show ¬ (false = true) by decide)] at H; exact H
                                    clear H
                                    have H := H1
                                    clear H1
                                    obtain rfl := Option.some.inj H
                                    have hcz60_0 : wc.cell? ⟨gb101, 0, none⟩ = some (.int .i64 a0_0) := (blk_cell BK101.out 0).trans rfl
                                    have hcz60_1 : wc.cell? ⟨gb101, 1, none⟩ = some (.int .i64 a0_1) := (blk_cell BK101.out 1).trans rfl
                                    have hcz60_2 : wc.cell? ⟨gb101, 2, none⟩ = some (.int .i64 a0_2) := (blk_cell BK101.out 2).trans rfl
                                    have hcz60_3 : wc.cell? ⟨gb101, 3, none⟩ = some (.int .i64 a0_3) := (blk_cell BK101.out 3).trans rfl
                                    have hcz60_4 : wc.cell? ⟨gb101, 4, none⟩ = some (.int .i64 a0_4) := (blk_cell BK101.out 4).trans rfl
                                    have hcz60_5 : wc.cell? ⟨gb101, 5, none⟩ = some (.bool false) := (blk_cell BK101.out 5).trans rfl
                                    have hcz60_6 : wc.cell? ⟨gb101, 6, none⟩ = some (.bool a0_6) := (blk_cell BK101.out 6).trans rfl
                                    have hcz60_7 : wc.cell? ⟨gb101, 7, none⟩ = some (.bool a0_7) := (blk_cell BK101.out 7).trans rfl
                                    have hfz60_0 := blk_frozen BK101.out 0
                                    have hfz60_1 := blk_frozen BK101.out 1
                                    have hfz60_2 := blk_frozen BK101.out 2
                                    have hfz60_3 := blk_frozen BK101.out 3
                                    have hfz60_4 := blk_frozen BK101.out 4
                                    have hfz60_5 := blk_frozen BK101.out 5
                                    have hfz60_6 := blk_frozen BK101.out 6
                                    have hfz60_7 := blk_frozen BK101.out 7
                                    go_wp2
                                    go_ret
                                    exact ⟨by first | rfl | (simp [errW_none, errW_some] <;> rfl) | (simp [*, errW_none, errW_some] <;> rfl), by repeat (first | (with_reducible first | exact HB.out | apply below_alloc | apply pw_below_drewN | apply below_drew1 | refine below_set ?_ GE101.out) | exact HB.out)⟩
                                · rw [if_neg c57] at H
                                  have c57b0 : (a0_4 == 0) = false := beq_eq_false_iff_ne.mpr c57
                                  have c57b1 : (a0_4 != 0) = true := bne_iff_ne.mpr c57
                                  obtain rfl := Option.some.inj H
                                  have hcz61_0 : wc.cell? ⟨gb101, 0, none⟩ = some (.int .i64 a0_0) := (blk_cell BK101.out 0).trans rfl
                                  have hcz61_1 : wc.cell? ⟨gb101, 1, none⟩ = some (.int .i64 a0_1) := (blk_cell BK101.out 1).trans rfl
                                  have hcz61_2 : wc.cell? ⟨gb101, 2, none⟩ = some (.int .i64 a0_2) := (blk_cell BK101.out 2).trans rfl
                                  have hcz61_3 : wc.cell? ⟨gb101, 3, none⟩ = some (.int .i64 a0_3) := (blk_cell BK101.out 3).trans rfl
                                  have hcz61_4 : wc.cell? ⟨gb101, 4, none⟩ = some (.int .i64 a0_4) := (blk_cell BK101.out 4).trans rfl
                                  have hcz61_5 : wc.cell? ⟨gb101, 5, none⟩ = some (.bool a0_5) := (blk_cell BK101.out 5).trans rfl
                                  have hcz61_6 : wc.cell? ⟨gb101, 6, none⟩ = some (.bool a0_6) := (blk_cell BK101.out 6).trans rfl
                                  have hcz61_7 : wc.cell? ⟨gb101, 7, none⟩ = some (.bool a0_7) := (blk_cell BK101.out 7).trans rfl
                                  have hfz61_0 := blk_frozen BK101.out 0
                                  have hfz61_1 := blk_frozen BK101.out 1
                                  have hfz61_2 := blk_frozen BK101.out 2
                                  have hfz61_3 := blk_frozen BK101.out 3
                                  have hfz61_4 := blk_frozen BK101.out 4
                                  have hfz61_5 := blk_frozen BK101.out 5
                                  have hfz61_6 := blk_frozen BK101.out 6
                                  have hfz61_7 := blk_frozen BK101.out 7
                                  go_wp2
                                  go_ret
                                  exact ⟨by first | rfl | (simp [errW_none, errW_some] <;> rfl) | (simp [*, errW_none, errW_some] <;> rfl), by repeat (first | (with_reducible first | exact HB.out | apply below_alloc | apply pw_below_drewN | apply below_drew1 | refine below_set ?_ GE101.out) | exact HB.out)⟩
                              · rw [if_neg c56] at H
                                have c56b0 : (a0_3 == 0) = false := beq_eq_false_iff_ne.mpr c56
                                have c56b1 : (a0_3 != 0) = true := bne_iff_ne.mpr c56
                                obtain rfl := Option.some.inj H
                                have hcz62_0 : wc.cell? ⟨gb101, 0, none⟩ = some (.int .i64 a0_0) := (blk_cell BK101.out 0).trans rfl
                                have hcz62_1 : wc.cell? ⟨gb101, 1, none⟩ = some (.int .i64 a0_1) := (blk_cell BK101.out 1).trans rfl
                                have hcz62_2 : wc.cell? ⟨gb101, 2, none⟩ = some (.int .i64 a0_2) := (blk_cell BK101.out 2).trans rfl
                                have hcz62_3 : wc.cell? ⟨gb101, 3, none⟩ = some (.int .i64 a0_3) := (blk_cell BK101.out 3).trans rfl
                                have hcz62_4 : wc.cell? ⟨gb101, 4, none⟩ = some (.int .i64 a0_4) := (blk_cell BK101.out 4).trans rfl
                                have hcz62_5 : wc.cell? ⟨gb101, 5, none⟩ = some (.bool a0_5) := (blk_cell BK101.out 5).trans rfl
                                have hcz62_6 : wc.cell? ⟨gb101, 6, none⟩ = some (.bool a0_6) := (blk_cell BK101.out 6).trans rfl
                                have hcz62_7 : wc.cell? ⟨gb101, 7, none⟩ = some (.bool a0_7) := (blk_cell BK101.out 7).trans rfl
                                have hfz62_0 := blk_frozen BK101.out 0
                                have hfz62_1 := blk_frozen BK101.out 1
                                have hfz62_2 := blk_frozen BK101.out 2
                                have hfz62_3 := blk_frozen BK101.out 3
                                have hfz62_4 := blk_frozen BK101.out 4
                                have hfz62_5 := blk_frozen BK101.out 5
                                have hfz62_6 := blk_frozen BK101.out 6
                                have hfz62_7 := blk_frozen BK101.out 7
                                go_wp2
                                go_ret
                                exact ⟨by first | rfl | (simp [errW_none, errW_some] <;> rfl) | (simp [*, errW_none, errW_some] <;> rfl), by repeat (first | (with_reducible first | exact HB.out | apply below_alloc | apply pw_below_drewN | apply below_drew1 | refine below_set ?_ GE101.out) | exact HB.out)⟩
                            · rw [if_neg c55] at H
                              have c55b0 : (a0_2 == 0) = false := beq_eq_false_iff_ne.mpr c55
                              have c55b1 : (a0_2 != 0) = true := bne_iff_ne.mpr c55
                              obtain rfl := Option.some.inj H
                              have hcz63_0 : wc.cell? ⟨gb101, 0, none⟩ = some (.int .i64 a0_0) := (blk_cell BK101.out 0).trans rfl
                              have hcz63_1 : wc.cell? ⟨gb101, 1, none⟩ = some (.int .i64 a0_1) := (blk_cell BK101.out 1).trans rfl
                              have hcz63_2 : wc.cell? ⟨gb101, 2, none⟩ = some (.int .i64 a0_2) := (blk_cell BK101.out 2).trans rfl
                              have hcz63_3 : wc.cell? ⟨gb101, 3, none⟩ = some (.int .i64 a0_3) := (blk_cell BK101.out 3).trans rfl
                              have hcz63_4 : wc.cell? ⟨gb101, 4, none⟩ = some (.int .i64 a0_4) := (blk_cell BK101.out 4).trans rfl
                              have hcz63_5 : wc.cell? ⟨gb101, 5, none⟩ = some (.bool a0_5) := (blk_cell BK101.out 5).trans rfl
                              have hcz63_6 : wc.cell? ⟨gb101, 6, none⟩ = some (.bool a0_6) := (blk_cell BK101.out 6).trans rfl
                              have hcz63_7 : wc.cell? ⟨gb101, 7, none⟩ = some (.bool a0_7) := (blk_cell BK101.out 7).trans rfl
                              have hfz63_0 := blk_frozen BK101.out 0
                              have hfz63_1 := blk_frozen BK101.out 1
                              have hfz63_2 := blk_frozen BK101.out 2
                              have hfz63_3 := blk_frozen BK101.out 3
                              have hfz63_4 := blk_frozen BK101.out 4
                              have hfz63_5 := blk_frozen BK101.out 5
                              have hfz63_6 := blk_frozen BK101.out 6
                              have hfz63_7 := blk_frozen BK101.out 7
                              go_wp2
                              go_ret
                              exact ⟨by first | rfl | (simp [errW_none, errW_some] <;> rfl) | (simp [*, errW_none, errW_some] <;> rfl), by repeat (first | (with_reducible first | exact HB.out | apply below_alloc | apply pw_below_drewN | apply below_drew1 | refine below_set ?_ GE101.out) | exact HB.out)⟩
                          · rw [if_neg c54] at H
                            have c54b0 : decide (0 < a0_1) = false := decide_eq_false c54
                            clear c54
                            obtain rfl := Option.some.inj H
                            have hcz64_0 : wc.cell? ⟨gb101, 0, none⟩ = some (.int .i64 a0_0) := (blk_cell BK101.out 0).trans rfl
                            have hcz64_1 : wc.cell? ⟨gb101, 1, none⟩ = some (.int .i64 a0_1) := (blk_cell BK101.out 1).trans rfl
                            have hcz64_2 : wc.cell? ⟨gb101, 2, none⟩ = some (.int .i64 a0_2) := (blk_cell BK101.out 2).trans rfl
                            have hcz64_3 : wc.cell? ⟨gb101, 3, none⟩ = some (.int .i64 a0_3) := (blk_cell BK101.out 3).trans rfl
                            have hcz64_4 : wc.cell? ⟨gb101, 4, none⟩ = some (.int .i64 a0_4) := (blk_cell BK101.out 4).trans rfl
                            have hcz64_5 : wc.cell? ⟨gb101, 5, none⟩ = some (.bool a0_5) := (blk_cell BK101.out 5).trans rfl
                            have hcz64_6 : wc.cell? ⟨gb101, 6, none⟩ = some (.bool a0_6) := (blk_cell BK101.out 6).trans rfl
                            have hcz64_7 : wc.cell? ⟨gb101, 7, none⟩ = some (.bool a0_7) := (blk_cell BK101.out 7).trans rfl
                            have hfz64_0 := blk_frozen BK101.out 0
                            have hfz64_1 := blk_frozen BK101.out 1
                            have hfz64_2 := blk_frozen BK101.out 2
                            have hfz64_3 := blk_frozen BK101.out 3
                            have hfz64_4 := blk_frozen BK101.out 4
                            have hfz64_5 := blk_frozen BK101.out 5
                            have hfz64_6 := blk_frozen BK101.out 6
                            have hfz64_7 := blk_frozen BK101.out 7
                            go_wp2
                            go_ret
                            exact ⟨by first | rfl | (simp [errW_none, errW_some] <;> rfl) | (simp [*, errW_none, errW_some] <;> rfl), by repeat (first | (with_reducible first | exact HB.out | apply below_alloc | apply pw_below_drewN | apply below_drew1 | refine below_set ?_ GE101.out) | exact HB.out)⟩
                        · rw [if_neg c53] at H
                          have c53b0 : (a0_0 == 6) = false := beq_eq_false_iff_ne.mpr c53
                          have c53b1 : (a0_0 != 6) = true := bne_iff_ne.mpr c53
                          obtain rfl := Option.some.inj H
                          go_wp2
                          go_ret
                          exact ⟨by first | rfl | (simp [errW_none, errW_some] <;> rfl) | (simp [*, errW_none, errW_some] <;> rfl), by repeat (first | (with_reducible first | exact HB.out | apply below_alloc | apply pw_below_drewN | apply below_drew1 | refine below_set ?_ GE101.out) | exact HB.out)⟩

end Go.Proofs.YtlddfdkmpnllmaaDoor.PRww
