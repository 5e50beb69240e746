/- Go functions as Lean functions, and that the one comes to what the other answers: written by the kit's print.py for several functions together (wip/printall.sh of this repo). -/
import Derived.Test.YtcofkjiaiiiooaaGreatPBzx0
import Derived.Test.YtcofkjiaiiiooaaGreatPBzx3
namespace Go.Proofs.YtcofkjiaiiiooaaGreat.PBz
open Go.RowKit Go.Proofs.YtcofkjiaiiiooaaGreatW.PrintWords Go.Proofs.YtcofkjiaiiiooaaGreatW.PrintLast Go.Proofs.YtcofkjiaiiiooaaGreatW.PrintMore
attribute [local go_sem] max2_int min2_int max_two min_two max_three min_three max_four min_four   -- for this text's walks alone
set_option linter.unusedVariables false
set_option linter.unusedSimpArgs false

/-! ### pilcrowref20_Read: function 14 -/
mutual
def pilcrowref20_Read.j0 : Nat → ByteArray → Int → Bool → Int → Int → ByteArray → Option (Int × Int × ByteArray × Int × Int × Int)
  | 0, _, _, _, _, _, _ => none
  | k + 1, x0, x1, x20, x146000, x146001, x146002 => if x20 = true then (some (x146000, x146001, x146002, 0, 1, 0)) else (if x1 < (x0.size : Int) then (if 0 ≤ x1 then (pilcrowref20_Read.j1 k x0 x1 ((bt x0 x1) != 66) x146000 x146001 x146002) else (none)) else (pilcrowref20_Read.j1 k x0 x1 false x146000 x146001 x146002))
def pilcrowref20_Read.j1 : Nat → ByteArray → Int → Bool → Int → Int → ByteArray → Option (Int × Int × ByteArray × Int × Int × Int)
  | 0, _, _, _, _, _, _ => none
  | k + 1, x0, x1, x31, x146000, x146001, x146002 => if x31 = true then (some (x146000, x146001, x146002, 0, 7, x1)) else (if (wrap64 ((x0.size : Int) - x1)) < 13 then (some (x146000, x146001, x146002, 0, 4, (x0.size : Int))) else ((pilcrowref20_Number.f x0 (wrap64 (x1 + 1))).bind fun t146 => ((pilcrowref20_Number.f x0 (wrap64 (x1 + 5))).bind fun t147 => (if t146 = 0 then (pilcrowref20_Read.j2 k x0 x1 t146 t147 true x146000 x146001 x146002) else (pilcrowref20_Read.j2 k x0 x1 t146 t147 (decide (t146 > 65536)) x146000 x146001 x146002)))))
def pilcrowref20_Read.j2 : Nat → ByteArray → Int → Int → Int → Bool → Int → Int → ByteArray → Option (Int × Int × ByteArray × Int × Int × Int)
  | 0, _, _, _, _, _, _, _, _ => none
  | k + 1, x0, x1, x9, x10, x55, x146000, x146001, x146002 => if x55 = true then (some (x146000, x146001, x146002, 0, 8, wrap64 (x1 + 1))) else (if x10 = 0 then (pilcrowref20_Read.j3 k x0 x1 x9 x10 true x146000 x146001 x146002) else (pilcrowref20_Read.j3 k x0 x1 x9 x10 (decide (x10 > 1048576)) x146000 x146001 x146002))
def pilcrowref20_Read.j3 : Nat → ByteArray → Int → Int → Int → Bool → Int → Int → ByteArray → Option (Int × Int × ByteArray × Int × Int × Int)
  | 0, _, _, _, _, _, _, _, _ => none
  | k + 1, x0, x1, x9, x10, x64, x146000, x146001, x146002 => if x64 = true then (some (x146000, x146001, x146002, 0, 5, wrap64 (x1 + 5))) else (if ((wrap64 ((wrap64 ((x0.size : Int) - x1)) - 13)) % 4294967296) < x10 then (some (x146000, x146001, x146002, 0, 4, (x0.size : Int))) else ((pilcrowref20_Number.f x0 (wrap64 (x1 + 9))).bind fun t148 => (if 0 ≤ (wrap64 (x1 + 13)) then (if (wrap64 (x1 + 13)) ≤ (wrap64 ((wrap64 (x1 + 13)) + (wrap64 (x10)))) then (if (wrap64 ((wrap64 (x1 + 13)) + (wrap64 (x10)))) ≤ (x0.size : Int) then (some (wrap64 (x9), t148, x0.extract ((wrap64 (x1 + 13)) : Int).toNat ((wrap64 ((wrap64 (x1 + 13)) + (wrap64 (x10)))) : Int).toNat, wrap64 ((wrap64 (x1 + 13)) + (wrap64 (x10))), 0, 0)) else (none)) else (none)) else (none))))
end
def pilcrowref20_Read.f (k : Nat) (a0 : ByteArray) (a1 : Int) : Option (Int × Int × ByteArray × Int × Int × Int) := if a1 < 0 then (pilcrowref20_Read.j0 k a0 a1 true 0 0 (⟨#[]⟩ : ByteArray)) else (pilcrowref20_Read.j0 k a0 a1 (decide (a1 > (a0.size : Int))) 0 0 (⟨#[]⟩ : ByteArray))
theorem pilcrowref20_Read.mono_l : ∀ k, (∀ y0 y1 y2 y3 y4 y5, LeO (pilcrowref20_Read.j0 k y0 y1 y2 y3 y4 y5) (pilcrowref20_Read.j0 (k + 1) y0 y1 y2 y3 y4 y5)) ∧ (∀ y0 y1 y2 y3 y4 y5, LeO (pilcrowref20_Read.j1 k y0 y1 y2 y3 y4 y5) (pilcrowref20_Read.j1 (k + 1) y0 y1 y2 y3 y4 y5)) ∧ (∀ y0 y1 y2 y3 y4 y5 y6 y7, LeO (pilcrowref20_Read.j2 k y0 y1 y2 y3 y4 y5 y6 y7) (pilcrowref20_Read.j2 (k + 1) y0 y1 y2 y3 y4 y5 y6 y7)) ∧ (∀ y0 y1 y2 y3 y4 y5 y6 y7, LeO (pilcrowref20_Read.j3 k y0 y1 y2 y3 y4 y5 y6 y7) (pilcrowref20_Read.j3 (k + 1) y0 y1 y2 y3 y4 y5 y6 y7))
  | 0 => ⟨fun _ _ _ _ _ _ r h => by simp [pilcrowref20_Read.j0] at h, fun _ _ _ _ _ _ r h => by simp [pilcrowref20_Read.j1] at h, fun _ _ _ _ _ _ _ _ r h => by simp [pilcrowref20_Read.j2] at h, fun _ _ _ _ _ _ _ _ r h => by simp [pilcrowref20_Read.j3] at h⟩
  | k + 1 => by
    obtain ⟨ih0, ih1, ih2, ih3⟩ := pilcrowref20_Read.mono_l k
    refine ⟨?_, ?_, ?_, ?_⟩
    · intro y0 y1 y2 y3 y4 y5
      unfold pilcrowref20_Read.j0
      repeat' first
      | (with_reducible exact ih0 _ _ _ _ _ _)
      | (with_reducible exact ih1 _ _ _ _ _ _)
      | (with_reducible exact ih2 _ _ _ _ _ _ _ _)
      | (with_reducible exact ih3 _ _ _ _ _ _ _ _)
      | (with_reducible exact LeO.refl _)
      | (with_reducible exact LeO.none _)
      | (with_reducible refine LeO.ite ?_ ?_)
      | (with_reducible refine LeO.bind ?_ (fun _ => ?_))
      | exact ih0 _ _ _ _ _ _
      | exact ih1 _ _ _ _ _ _
      | exact ih2 _ _ _ _ _ _ _ _
      | exact ih3 _ _ _ _ _ _ _ _
      | exact LeO.none _
      | refine LeO.ite ?_ ?_
      | refine LeO.bind ?_ (fun _ => ?_)
    · intro y0 y1 y2 y3 y4 y5
      unfold pilcrowref20_Read.j1
      repeat' first
      | (with_reducible exact ih0 _ _ _ _ _ _)
      | (with_reducible exact ih1 _ _ _ _ _ _)
      | (with_reducible exact ih2 _ _ _ _ _ _ _ _)
      | (with_reducible exact ih3 _ _ _ _ _ _ _ _)
      | (with_reducible exact LeO.refl _)
      | (with_reducible exact LeO.none _)
      | (with_reducible refine LeO.ite ?_ ?_)
      | (with_reducible refine LeO.bind ?_ (fun _ => ?_))
      | exact ih0 _ _ _ _ _ _
      | exact ih1 _ _ _ _ _ _
      | exact ih2 _ _ _ _ _ _ _ _
      | exact ih3 _ _ _ _ _ _ _ _
      | exact LeO.none _
      | refine LeO.ite ?_ ?_
      | refine LeO.bind ?_ (fun _ => ?_)
    · intro y0 y1 y2 y3 y4 y5 y6 y7
      unfold pilcrowref20_Read.j2
      repeat' first
      | (with_reducible exact ih0 _ _ _ _ _ _)
      | (with_reducible exact ih1 _ _ _ _ _ _)
      | (with_reducible exact ih2 _ _ _ _ _ _ _ _)
      | (with_reducible exact ih3 _ _ _ _ _ _ _ _)
      | (with_reducible exact LeO.refl _)
      | (with_reducible exact LeO.none _)
      | (with_reducible refine LeO.ite ?_ ?_)
      | (with_reducible refine LeO.bind ?_ (fun _ => ?_))
      | exact ih0 _ _ _ _ _ _
      | exact ih1 _ _ _ _ _ _
      | exact ih2 _ _ _ _ _ _ _ _
      | exact ih3 _ _ _ _ _ _ _ _
      | exact LeO.none _
      | refine LeO.ite ?_ ?_
      | refine LeO.bind ?_ (fun _ => ?_)
    · intro y0 y1 y2 y3 y4 y5 y6 y7
      unfold pilcrowref20_Read.j3
      repeat' first
      | (with_reducible exact ih0 _ _ _ _ _ _)
      | (with_reducible exact ih1 _ _ _ _ _ _)
      | (with_reducible exact ih2 _ _ _ _ _ _ _ _)
      | (with_reducible exact ih3 _ _ _ _ _ _ _ _)
      | (with_reducible exact LeO.refl _)
      | (with_reducible exact LeO.none _)
      | (with_reducible refine LeO.ite ?_ ?_)
      | (with_reducible refine LeO.bind ?_ (fun _ => ?_))
      | exact ih0 _ _ _ _ _ _
      | exact ih1 _ _ _ _ _ _
      | exact ih2 _ _ _ _ _ _ _ _
      | exact ih3 _ _ _ _ _ _ _ _
      | exact LeO.none _
      | refine LeO.ite ?_ ?_
      | refine LeO.bind ?_ (fun _ => ?_)
theorem pilcrowref20_Read.mono : ∀ a0 a1 k, LeO (pilcrowref20_Read.f k a0 a1) (pilcrowref20_Read.f (k + 1) a0 a1) := by
  intro a0 a1 k
  obtain ⟨ih0, ih1, ih2, ih3⟩ := pilcrowref20_Read.mono_l k
  unfold pilcrowref20_Read.f
  repeat' first
      | (with_reducible exact ih0 _ _ _ _ _ _)
      | (with_reducible exact ih1 _ _ _ _ _ _)
      | (with_reducible exact ih2 _ _ _ _ _ _ _ _)
      | (with_reducible exact ih3 _ _ _ _ _ _ _ _)
      | (with_reducible exact LeO.refl _)
      | (with_reducible exact LeO.none _)
      | (with_reducible refine LeO.ite ?_ ?_)
      | (with_reducible refine LeO.bind ?_ (fun _ => ?_))
      | exact ih0 _ _ _ _ _ _
      | exact ih1 _ _ _ _ _ _
      | exact ih2 _ _ _ _ _ _ _ _
      | exact ih3 _ _ _ _ _ _ _ _
      | exact LeO.none _
      | refine LeO.ite ?_ ?_
      | refine LeO.bind ?_ (fun _ => ?_)
def pilcrowref20_Read.T17 : Bool × List (List Nat × List Nat) := (true, [([], []), ([0], [0]), ([], []), ([], []), ([3], [3]), ([2, 4], [2, 4]), ([], []), ([], []), ([7], [7]), ([], []), ([6, 8, 9], [6, 8, 9]), ([1, 5, 10], [1, 5, 10]), ([], []), ([11, 5, 0, 1, 2, 3, 4, 5, 6, 7, 8, 9, 10, 11], [11]), ([12, 13, 0, 1, 2, 3, 4, 5, 6, 7, 8, 9, 10, 11, 12, 13], [12]), ([14, 0, 1, 2, 3, 4, 5, 6, 7, 8, 9, 10, 11, 12, 13, 14], []), ([15, 0, 1, 2, 3, 4, 5, 6, 7, 8, 9, 10, 11, 12, 13, 14, 15], [])])
def pilcrowref20_Read.B17 : List Nat := [0, 1, 0, 0, 8, 28, 0, 0, 128, 0, 960, 2047, 0, 4095, 16383, 32767, 65535]
theorem pilcrowref20_Read.tab17 : rtab .any (opsOf Tryz.f14 17) = pilcrowref20_Read.T17 := by kernel_rfl
theorem pilcrowref20_Read.bits17 : waitsOk pilcrowref20_Read.T17.2 pilcrowref20_Read.B17 = true := by kernel_rfl
set_option maxHeartbeats 8000000 in
set_option maxRecDepth 100000 in
theorem pilcrowref20_Read.calls (k : Nat) (a0 : ByteArray) (a1 : Int) (r1 : Int) (r2 : Int) (r3 : ByteArray) (r4 : Int) (r5 : Int) (r6 : Int) (w : World) (h : pilcrowref20_Read.f k a0 a1 = some (r1, r2, r3, r4, r5, r6)) :
    Calls Tryz.prog 14 #[.string a0, .int .i64 a1] w fun e w' => e = .returned (.tuple #[.agg #[.int .i64 r1, .int .u32 r2, .string r3], .int .i64 r4, .int .i64 r5, .int .i64 r6]) ∧ Below w.heap.size w w' := by
  have hu30 := Tryz.underlying30
  have HB := Aside0.mk (Below.refl w.heap.size w)
  have e66z : (⟨#[66]⟩ : ByteArray).size = 1 := rfl
  have e66y : (strOfNums ([66] : List Int)).size = 1 := rfl
  have H : (if a1 < 0 then (pilcrowref20_Read.j0 k a0 a1 true 0 0 (⟨#[]⟩ : ByteArray)) else (pilcrowref20_Read.j0 k a0 a1 (decide (a1 > (a0.size : Int))) 0 0 (⟨#[]⟩ : ByteArray))) = some (r1, r2, r3, r4, r5, r6) := h
  clear h
  have HC3 := Aside0.mk H
  clear H
  go_enter Tryz.func14, Tryz.ntmps14
  go_upto_region 2 with (first | ((with_reducible refine gate_dst (N := 4) rfl ?_); (try (refine gate_guard (by rfl) ?_; dsimp only)); refine box_event ?hg (N := 4) ?hd (cs := #[.int .i64 0, .int .u32 0, .string (⟨#[]⟩ : ByteArray)]) (t := 30) ?hr ?_; (case hd => rfl); (case hg => rfl); (case hr => first | (go_simp; done) | (go_simp; rfl)); intro gb144 hg w4 hbox hb; have n0_ := Aside0.mk (below_step (by repeat (first | (with_reducible first | exact HB.out | apply below_alloc | apply pw_below_drewN | apply below_drew1) | exact HB.out)) hb); have n1_ := Aside0.mk (hbox); have n2_ := Aside0.mk ((by rw [hg]; exact (below_size (by repeat (first | (with_reducible first | exact HB.out | apply below_alloc | apply pw_below_drewN | apply below_drew1) | exact HB.out))) : w.heap.size ≤ gb144)); have n3_ := Aside0.mk ((by rw [hg]; exact (below_size (by repeat (first | (with_reducible first | exact HB.out | apply below_alloc | apply pw_below_drewN | apply below_drew1) | exact HB.out))) : w.heap.size ≤ gb144)); clear HB; have HB := n0_; have BK144 := n1_; have GW144 := n2_; have GE144 := n3_; clear n0_ n1_ n2_ n3_; clear hb hbox hg) | ((with_reducible refine gate_dst (N := 8) rfl ?_); (try (refine gate_guard (by rfl) ?_; dsimp only)); refine box_event ?hg (N := 8) ?hd (cs := #[.int .i64 0, .int .u32 0, .string (⟨#[]⟩ : ByteArray)]) (t := 30) ?hr ?_; (case hd => rfl); (case hg => rfl); (case hr => first | (go_simp; done) | (go_simp; rfl)); intro gb145 hg w5 hbox hb; have n0_ := Aside0.mk (blk_below (g := gb144) (o := .cells #[.int .i64 0, .int .u32 0, .string (⟨#[]⟩ : ByteArray)] 30 (0, 0)) (by (with_reducible repeat (first | refine blk_drewN ?_ _ | refine blk_drew ?_ | refine blk_alloc ?_ _)); exact BK144.out) hb); have n1_ := Aside0.mk (below_step (by repeat (first | (with_reducible first | exact HB.out | apply below_alloc | apply pw_below_drewN | apply below_drew1 | refine below_set ?_ GE144.out) | exact HB.out)) hb); have n2_ := Aside0.mk (hbox); have n3_ := Aside0.mk ((by rw [hg]; exact (below_size (by repeat (first | (with_reducible first | exact HB.out | apply below_alloc | apply pw_below_drewN | apply below_drew1 | refine below_set ?_ GE144.out) | exact HB.out))) : w.heap.size ≤ gb145)); have n4_ := Aside0.mk ((by rw [hg]; exact (below_size (by repeat (first | (with_reducible first | exact HB.out | apply below_alloc | apply pw_below_drewN | apply below_drew1 | refine below_set ?_ GE144.out) | exact HB.out))) : w.heap.size ≤ gb145)); have n5_ := Aside0.mk ((by rw [hg]; exact Nat.ne_of_lt (blk_lt (g := gb144) (o := .cells #[.int .i64 0, .int .u32 0, .string (⟨#[]⟩ : ByteArray)] 30 (0, 0)) (by (with_reducible repeat (first | refine blk_drewN ?_ _ | refine blk_drew ?_ | refine blk_alloc ?_ _)); exact BK144.out)) : gb144 ≠ gb145)); have n6_ := Aside0.mk ((by rw [hg]; exact Nat.ne_of_gt (blk_lt (g := gb144) (o := .cells #[.int .i64 0, .int .u32 0, .string (⟨#[]⟩ : ByteArray)] 30 (0, 0)) (by (with_reducible repeat (first | refine blk_drewN ?_ _ | refine blk_drew ?_ | refine blk_alloc ?_ _)); exact BK144.out)) : gb145 ≠ gb144)); clear BK144; clear HB; have BK144 := n0_; have HB := n1_; have BK145 := n2_; have GW145 := n3_; have GE145 := n4_; have NB144_145 := n5_; have NB145_144 := n6_; clear n0_ n1_ n2_ n3_ n4_ n5_ n6_; clear hb hbox hg; have hnb6 := NB145_144.out; have hnc6 := NB144_145.out; have hcz7_0 : w5.cell? ⟨gb145, 0, none⟩ = some (.int .i64 0) := (blk_cell BK145.out 0).trans rfl; have hcz7_1 : w5.cell? ⟨gb145, 1, none⟩ = some (.int .u32 0) := (blk_cell BK145.out 1).trans rfl; have hcz7_2 : w5.cell? ⟨gb145, 2, none⟩ = some (.string (⟨#[]⟩ : ByteArray)) := (blk_cell BK145.out 2).trans rfl; have hfz7_0 := blk_frozen BK145.out 0; have hfz7_1 := blk_frozen BK145.out 1; have hfz7_2 := blk_frozen BK145.out 2))
  (try simp only [Act.put, List.setIfInBounds_toArray, List.set_cons_zero, List.set_cons_succ])
  go_cut [20] (fun v20 wc => ∃ (kq : Nat) (x20_2 : Bool), v20 = .bool x20_2 ∧ Aside0 (pilcrowref20_Read.j0 kq a0 a1 x20_2 0 0 (⟨#[]⟩ : ByteArray) = some (r1, r2, r3, r4, r5, r6)) ∧ Aside0 (kq ≤ k) ∧ Aside0 (wc.heap[gb144]? = some (.cells #[.int .i64 0, .int .u32 0, .string (⟨#[]⟩ : ByteArray)] 30 (0, 0))) ∧ Aside0 (wc.heap[gb145]? = some (.cells #[.int .i64 0, .int .u32 0, .string (⟨#[]⟩ : ByteArray)] 30 (0, 0))) ∧ Aside0 (Below w.heap.size w wc))
  case first =>
    have H := HC3.out
    clear HC3
    by_cases c8 : a1 < 0
    · rw [if_pos c8] at H
      have c8z := c8
      try simp only [ByteArray.size_append] at c8z
      have c8b0 : decide (a1 < 0) = true := decide_eq_true c8
      clear c8
      (first | rw [c8b0] | (simp only [i64_w, i32_w]; rw [c8b0]) | skip)
      have H' := Aside0.mk H
      clear H
      go_wp2
      go_meet
      case rel => exact ⟨_, (true), (by first | rfl | (simp; done) | (simp [*]; done)), H', ⟨by first | omega | exact Nat.le_refl _⟩, ⟨by (with_reducible repeat (first | refine blk_drewN ?_ _ | refine blk_drew ?_ | refine blk_alloc ?_ _)); refine blk_far ?_ NB144_145.out _; (with_reducible repeat (first | refine blk_drewN ?_ _ | refine blk_drew ?_ | refine blk_alloc ?_ _)); refine blk_far ?_ NB144_145.out _; (with_reducible repeat (first | refine blk_drewN ?_ _ | refine blk_drew ?_ | refine blk_alloc ?_ _)); refine blk_far ?_ NB144_145.out _; (with_reducible repeat (first | refine blk_drewN ?_ _ | refine blk_drew ?_ | refine blk_alloc ?_ _)); exact BK144.out⟩, ⟨by (with_reducible repeat (first | refine blk_drewN ?_ _ | refine blk_drew ?_ | refine blk_alloc ?_ _)); refine blk_put (cs := #[.int .i64 0, .int .u32 0, .string (⟨#[]⟩ : ByteArray)]) ?_ 2 _ rfl; (with_reducible repeat (first | refine blk_drewN ?_ _ | refine blk_drew ?_ | refine blk_alloc ?_ _)); refine blk_put (cs := #[.int .i64 0, .int .u32 0, .string (⟨#[]⟩ : ByteArray)]) ?_ 1 _ rfl; (with_reducible repeat (first | refine blk_drewN ?_ _ | refine blk_drew ?_ | refine blk_alloc ?_ _)); refine blk_put (cs := #[.int .i64 0, .int .u32 0, .string (⟨#[]⟩ : ByteArray)]) ?_ 0 _ rfl; (with_reducible repeat (first | refine blk_drewN ?_ _ | refine blk_drew ?_ | refine blk_alloc ?_ _)); exact BK145.out⟩, ⟨by repeat (first | (with_reducible first | exact HB.out | apply below_alloc | apply pw_below_drewN | apply below_drew1 | refine below_set ?_ GE144.out | refine below_set ?_ GE145.out) | exact HB.out)⟩⟩
    · rw [if_neg c8] at H
      have c8b0 : decide (a1 < 0) = false := decide_eq_false c8
      clear c8
      (first | rw [c8b0] | (simp only [i64_w, i32_w]; rw [c8b0]) | skip)
      have H' := Aside0.mk H
      clear H
      go_wp2
      go_meet
      case rel => exact ⟨_, (decide (a1 > (a0.size : Int))), (by first | rfl | (simp; done) | (simp [*]; done)), H', ⟨by first | omega | exact Nat.le_refl _⟩, ⟨by (with_reducible repeat (first | refine blk_drewN ?_ _ | refine blk_drew ?_ | refine blk_alloc ?_ _)); refine blk_far ?_ NB144_145.out _; (with_reducible repeat (first | refine blk_drewN ?_ _ | refine blk_drew ?_ | refine blk_alloc ?_ _)); refine blk_far ?_ NB144_145.out _; (with_reducible repeat (first | refine blk_drewN ?_ _ | refine blk_drew ?_ | refine blk_alloc ?_ _)); refine blk_far ?_ NB144_145.out _; (with_reducible repeat (first | refine blk_drewN ?_ _ | refine blk_drew ?_ | refine blk_alloc ?_ _)); exact BK144.out⟩, ⟨by (with_reducible repeat (first | refine blk_drewN ?_ _ | refine blk_drew ?_ | refine blk_alloc ?_ _)); refine blk_put (cs := #[.int .i64 0, .int .u32 0, .string (⟨#[]⟩ : ByteArray)]) ?_ 2 _ rfl; (with_reducible repeat (first | refine blk_drewN ?_ _ | refine blk_drew ?_ | refine blk_alloc ?_ _)); refine blk_put (cs := #[.int .i64 0, .int .u32 0, .string (⟨#[]⟩ : ByteArray)]) ?_ 1 _ rfl; (with_reducible repeat (first | refine blk_drewN ?_ _ | refine blk_drew ?_ | refine blk_alloc ?_ _)); refine blk_put (cs := #[.int .i64 0, .int .u32 0, .string (⟨#[]⟩ : ByteArray)]) ?_ 0 _ rfl; (with_reducible repeat (first | refine blk_drewN ?_ _ | refine blk_drew ?_ | refine blk_alloc ?_ _)); exact BK145.out⟩, ⟨by repeat (first | (with_reducible first | exact HB.out | apply below_alloc | apply pw_below_drewN | apply below_drew1 | refine below_set ?_ GE144.out | refine below_set ?_ GE145.out) | exact HB.out)⟩⟩
  case rest =>
    clear HC3
    try clear c1
    try clear p2
    try clear c6
    try clear c8
    try clear c8b0
    try clear hcz7_0
    try clear hcz7_1
    try clear hcz7_2
    try clear hfz7_0
    try clear hfz7_1
    try clear hfz7_2
    obtain ⟨kq, x20_2, rfl, HA, HJ2, BK144, BK145, HB⟩ := hcut
    cases kq with
    | zero => exact absurd HA.out (by simp [pilcrowref20_Read.j0])
    | succ kj2 =>
      have H := HA.out
      clear HA
      simp only [pilcrowref20_Read.j0] at H
      by_cases c9 : x20_2 = true
      · subst c9
        have H1 : (some (0, 0, (⟨#[]⟩ : ByteArray), 0, 1, 0)) = some (r1, r2, r3, r4, r5, r6) := by rw [if_pos rfl] at H; exact H
        clear H
        have H := H1
        clear H1
        simp only [Option.some.injEq, Prod.mk.injEq] at H
        obtain ⟨rfl, rfl, rfl, rfl, rfl, rfl⟩ := H
        have hnb10 := NB145_144.out
        have hnc10 := NB144_145.out
        have hcz11_0 : wc.cell? ⟨gb145, 0, none⟩ = some (.int .i64 0) := (blk_cell BK145.out 0).trans rfl
        have hcz11_1 : wc.cell? ⟨gb145, 1, none⟩ = some (.int .u32 0) := (blk_cell BK145.out 1).trans rfl
        have hcz11_2 : wc.cell? ⟨gb145, 2, none⟩ = some (.string (⟨#[]⟩ : ByteArray)) := (blk_cell BK145.out 2).trans rfl
        have hfz11_0 := blk_frozen BK145.out 0
        have hfz11_1 := blk_frozen BK145.out 1
        have hfz11_2 := blk_frozen BK145.out 2
        have hcz12_0 : wc.cell? ⟨gb144, 0, none⟩ = some (.int .i64 0) := (blk_cell BK144.out 0).trans rfl
        have hcz12_1 : wc.cell? ⟨gb144, 1, none⟩ = some (.int .u32 0) := (blk_cell BK144.out 1).trans rfl
        have hcz12_2 : wc.cell? ⟨gb144, 2, none⟩ = some (.string (⟨#[]⟩ : ByteArray)) := (blk_cell BK144.out 2).trans rfl
        have hfz12_0 := blk_frozen BK144.out 0
        have hfz12_1 := blk_frozen BK144.out 1
        have hfz12_2 := blk_frozen BK144.out 2
        go_wp2
        refine bodyPost_ret (results_list (rs := [.cell 4 30, .tmp 5, .tmp 6, .tmp 7]) rfl (by simp) (.cell gb144 30 #[.int .i64 0, .int .u32 0, .string (⟨#[]⟩ : ByteArray)] (0, 0) _ rfl (by (with_reducible repeat (first | refine blk_drewN ?_ _ | refine blk_drew ?_ | refine blk_alloc ?_ _)); refine blk_put (cs := #[.int .i64 0, .int .u32 0, .string (⟨#[]⟩ : ByteArray)]) ?_ 2 _ rfl; (with_reducible repeat (first | refine blk_drewN ?_ _ | refine blk_drew ?_ | refine blk_alloc ?_ _)); refine blk_put (cs := #[.int .i64 0, .int .u32 0, .string (⟨#[]⟩ : ByteArray)]) ?_ 1 _ rfl; (with_reducible repeat (first | refine blk_drewN ?_ _ | refine blk_drew ?_ | refine blk_alloc ?_ _)); refine blk_put (cs := #[.int .i64 0, .int .u32 0, .string (⟨#[]⟩ : ByteArray)]) ?_ 0 _ rfl; (with_reducible repeat (first | refine blk_drewN ?_ _ | refine blk_drew ?_ | refine blk_alloc ?_ _)); exact BK144.out) Tryz.underlying30 rfl (by kernel_rfl) (.tmp (.tmp (.tmp .nil))))) rfl ?_
        exact ⟨by first | rfl | (simp [errW_none, errW_some] <;> rfl) | (simp [*, errW_none, errW_some] <;> rfl), by repeat (first | (with_reducible first | exact HB.out | apply below_alloc | apply pw_below_drewN | apply below_drew1 | refine below_set ?_ GE144.out | refine below_set ?_ GE145.out) | exact HB.out)⟩
      · replace c9 := Bool.eq_false_iff.mpr c9
        subst c9
        have H1 : (if a1 < (a0.size : Int) then (if 0 ≤ a1 then (pilcrowref20_Read.j1 kj2 a0 a1 ((bt a0 a1) != 66) 0 0 (⟨#[]⟩ : ByteArray)) else (none)) else (pilcrowref20_Read.j1 kj2 a0 a1 false 0 0 (⟨#[]⟩ : ByteArray))) = some (r1, r2, r3, r4, r5, r6) := by rw [if_neg (show ¬ (false = true) by decide)] at H; exact H
        clear H
        have H := H1
        clear H1
        have HC13 := Aside0.mk H
        clear H
        go_upto_region 4 with (fail)
        go_cut [31] (fun v31 wc => ∃ (kq : Nat) (x31_12 : Bool), v31 = .bool x31_12 ∧ Aside0 (pilcrowref20_Read.j1 kq a0 a1 x31_12 0 0 (⟨#[]⟩ : ByteArray) = some (r1, r2, r3, r4, r5, r6)) ∧ Aside0 (kq ≤ kj2) ∧ Aside0 (wc.heap[gb144]? = some (.cells #[.int .i64 0, .int .u32 0, .string (⟨#[]⟩ : ByteArray)] 30 (0, 0))) ∧ Aside0 (wc.heap[gb145]? = some (.cells #[.int .i64 0, .int .u32 0, .string (⟨#[]⟩ : ByteArray)] 30 (0, 0))) ∧ Aside0 (Below w.heap.size w wc))
        case first =>
          have H := HC13.out
          clear HC13
          by_cases c14 : a1 < (a0.size : Int)
          · rw [if_pos c14] at H
            have c14z := c14
            try simp only [ByteArray.size_append] at c14z
            have c14b0 : decide (a1 < (a0.size : Int)) = true := decide_eq_true c14
            clear c14
            (first | rw [c14b0] | (simp only [i64_w, i32_w]; rw [c14b0]) | skip)
            by_cases c15 : 0 ≤ a1
            · rw [if_pos c15] at H
              have c15z := c15
              try simp only [ByteArray.size_append] at c15z
              have c15b0 : decide (0 ≤ a1) = true := decide_eq_true c15
              clear c15
              have H' := Aside0.mk H
              clear H
              have p16 : 0 ≤ (a1 : Int) := of_decide_eq_true (by first | (with_reducible assumption) | assumption)
              have q16 : a1 < (a0.size : Int) := of_decide_eq_true (by first | (with_reducible assumption) | assumption)
              have hx16 := bt_at a0 a1
              replace p16 := eq_true p16
              replace q16 := eq_true q16
              go_wp2
              go_meet
              case rel => exact ⟨_, (((bt a0 a1) != 66)), (by first | rfl | (simp; done) | (simp [*]; done)), H', ⟨by have := HJ2.out; first | omega | exact Nat.le_refl _⟩, ⟨by (with_reducible repeat (first | refine blk_drewN ?_ _ | refine blk_drew ?_ | refine blk_alloc ?_ _)); exact BK144.out⟩, ⟨by (with_reducible repeat (first | refine blk_drewN ?_ _ | refine blk_drew ?_ | refine blk_alloc ?_ _)); exact BK145.out⟩, ⟨by repeat (first | (with_reducible first | exact HB.out | apply below_alloc | apply pw_below_drewN | apply below_drew1 | refine below_set ?_ GE144.out | refine below_set ?_ GE145.out) | exact HB.out)⟩⟩
            · rw [if_neg c15] at H
              exact absurd H (by simp)
          · rw [if_neg c14] at H
            have c14b0 : decide (a1 < (a0.size : Int)) = false := decide_eq_false c14
            clear c14
            (first | rw [c14b0] | (simp only [i64_w, i32_w]; rw [c14b0]) | skip)
            have H' := Aside0.mk H
            clear H
            go_wp2
            go_meet
            case rel => exact ⟨_, (false), (by first | rfl | (simp; done) | (simp [*]; done)), H', ⟨by have := HJ2.out; first | omega | exact Nat.le_refl _⟩, ⟨by (with_reducible repeat (first | refine blk_drewN ?_ _ | refine blk_drew ?_ | refine blk_alloc ?_ _)); exact BK144.out⟩, ⟨by (with_reducible repeat (first | refine blk_drewN ?_ _ | refine blk_drew ?_ | refine blk_alloc ?_ _)); exact BK145.out⟩, ⟨by repeat (first | (with_reducible first | exact HB.out | apply below_alloc | apply pw_below_drewN | apply below_drew1 | refine below_set ?_ GE144.out | refine below_set ?_ GE145.out) | exact HB.out)⟩⟩
        case rest =>
          clear HC13
          try clear c1
          try clear p1
          try clear q1
          try clear hx1
          try clear p2
          try clear c6
          try clear c8
          try clear c8b0
          try clear c9
          try clear c10
          try clear c14
          try clear c14b0
          try clear c15
          try clear c15b0
          try clear p16
          try clear q16
          try clear hx16
          try clear hcz11_0
          try clear hcz11_1
          try clear hcz11_2
          try clear hcz12_0
          try clear hcz12_1
          try clear hcz12_2
          try clear hcz7_0
          try clear hcz7_1
          try clear hcz7_2
          try clear hfz11_0
          try clear hfz11_1
          try clear hfz11_2
          try clear hfz12_0
          try clear hfz12_1
          try clear hfz12_2
          try clear hfz7_0
          try clear hfz7_1
          try clear hfz7_2
          try clear p16
          try clear p2
          try clear q16
          obtain ⟨kq, x31_12, rfl, HA, HJ12, BK144, BK145, HB⟩ := hcut
          cases kq with
          | zero => exact absurd HA.out (by simp [pilcrowref20_Read.j1])
          | succ kj12 =>
            have H := HA.out
            clear HA
            simp only [pilcrowref20_Read.j1] at H
            by_cases c17 : x31_12 = true
            · subst c17
              have H1 : (some (0, 0, (⟨#[]⟩ : ByteArray), 0, 7, a1)) = some (r1, r2, r3, r4, r5, r6) := by rw [if_pos rfl] at H; exact H
              clear H
              have H := H1
              clear H1
              simp only [Option.some.injEq, Prod.mk.injEq] at H
              obtain ⟨rfl, rfl, rfl, rfl, rfl, rfl⟩ := H
              have hnb18 := NB145_144.out
              have hnc18 := NB144_145.out
              have hcz19_0 : wc.cell? ⟨gb145, 0, none⟩ = some (.int .i64 0) := (blk_cell BK145.out 0).trans rfl
              have hcz19_1 : wc.cell? ⟨gb145, 1, none⟩ = some (.int .u32 0) := (blk_cell BK145.out 1).trans rfl
              have hcz19_2 : wc.cell? ⟨gb145, 2, none⟩ = some (.string (⟨#[]⟩ : ByteArray)) := (blk_cell BK145.out 2).trans rfl
              have hfz19_0 := blk_frozen BK145.out 0
              have hfz19_1 := blk_frozen BK145.out 1
              have hfz19_2 := blk_frozen BK145.out 2
              have hcz20_0 : wc.cell? ⟨gb144, 0, none⟩ = some (.int .i64 0) := (blk_cell BK144.out 0).trans rfl
              have hcz20_1 : wc.cell? ⟨gb144, 1, none⟩ = some (.int .u32 0) := (blk_cell BK144.out 1).trans rfl
              have hcz20_2 : wc.cell? ⟨gb144, 2, none⟩ = some (.string (⟨#[]⟩ : ByteArray)) := (blk_cell BK144.out 2).trans rfl
              have hfz20_0 := blk_frozen BK144.out 0
              have hfz20_1 := blk_frozen BK144.out 1
              have hfz20_2 := blk_frozen BK144.out 2
              go_wp2
              refine bodyPost_ret (results_list (rs := [.cell 4 30, .tmp 5, .tmp 6, .tmp 7]) rfl (by simp) (.cell gb144 30 #[.int .i64 0, .int .u32 0, .string (⟨#[]⟩ : ByteArray)] (0, 0) _ rfl (by (with_reducible repeat (first | refine blk_drewN ?_ _ | refine blk_drew ?_ | refine blk_alloc ?_ _)); refine blk_put (cs := #[.int .i64 0, .int .u32 0, .string (⟨#[]⟩ : ByteArray)]) ?_ 2 _ rfl; (with_reducible repeat (first | refine blk_drewN ?_ _ | refine blk_drew ?_ | refine blk_alloc ?_ _)); refine blk_put (cs := #[.int .i64 0, .int .u32 0, .string (⟨#[]⟩ : ByteArray)]) ?_ 1 _ rfl; (with_reducible repeat (first | refine blk_drewN ?_ _ | refine blk_drew ?_ | refine blk_alloc ?_ _)); refine blk_put (cs := #[.int .i64 0, .int .u32 0, .string (⟨#[]⟩ : ByteArray)]) ?_ 0 _ rfl; (with_reducible repeat (first | refine blk_drewN ?_ _ | refine blk_drew ?_ | refine blk_alloc ?_ _)); exact BK144.out) Tryz.underlying30 rfl (by kernel_rfl) (.tmp (.tmp (.tmp .nil))))) rfl ?_
              exact ⟨by first | rfl | (simp [errW_none, errW_some] <;> rfl) | (simp [*, errW_none, errW_some] <;> rfl), by repeat (first | (with_reducible first | exact HB.out | apply below_alloc | apply pw_below_drewN | apply below_drew1 | refine below_set ?_ GE144.out | refine below_set ?_ GE145.out) | exact HB.out)⟩
            · replace c17 := Bool.eq_false_iff.mpr c17
              subst c17
              have H1 : (if (wrap64 ((a0.size : Int) - a1)) < 13 then (some (0, 0, (⟨#[]⟩ : ByteArray), 0, 4, (a0.size : Int))) else ((pilcrowref20_Number.f a0 (wrap64 (a1 + 1))).bind fun t146 => ((pilcrowref20_Number.f a0 (wrap64 (a1 + 5))).bind fun t147 => (if t146 = 0 then (pilcrowref20_Read.j2 kj12 a0 a1 t146 t147 true 0 0 (⟨#[]⟩ : ByteArray)) else (pilcrowref20_Read.j2 kj12 a0 a1 t146 t147 (decide (t146 > 65536)) 0 0 (⟨#[]⟩ : ByteArray)))))) = some (r1, r2, r3, r4, r5, r6) := by rw [if_neg (show ¬ (false = true) by decide)] at H; exact H
              clear H
              have H := H1
              clear H1
              by_cases c21 : (wrap64 ((a0.size : Int) - a1)) < 13
              · rw [if_pos c21] at H
                have c21z := c21
                try simp only [ByteArray.size_append] at c21z
                have c21b0 : decide ((wrap64 ((a0.size : Int) - a1)) < 13) = true := decide_eq_true c21
                clear c21
                simp only [Option.some.injEq, Prod.mk.injEq] at H
                obtain ⟨rfl, rfl, rfl, rfl, rfl, rfl⟩ := H
                have hnb22 := NB145_144.out
                have hnc22 := NB144_145.out
                have hcz23_0 : wc.cell? ⟨gb145, 0, none⟩ = some (.int .i64 0) := (blk_cell BK145.out 0).trans rfl
                have hcz23_1 : wc.cell? ⟨gb145, 1, none⟩ = some (.int .u32 0) := (blk_cell BK145.out 1).trans rfl
                have hcz23_2 : wc.cell? ⟨gb145, 2, none⟩ = some (.string (⟨#[]⟩ : ByteArray)) := (blk_cell BK145.out 2).trans rfl
                have hfz23_0 := blk_frozen BK145.out 0
                have hfz23_1 := blk_frozen BK145.out 1
                have hfz23_2 := blk_frozen BK145.out 2
                have hcz24_0 : wc.cell? ⟨gb144, 0, none⟩ = some (.int .i64 0) := (blk_cell BK144.out 0).trans rfl
                have hcz24_1 : wc.cell? ⟨gb144, 1, none⟩ = some (.int .u32 0) := (blk_cell BK144.out 1).trans rfl
                have hcz24_2 : wc.cell? ⟨gb144, 2, none⟩ = some (.string (⟨#[]⟩ : ByteArray)) := (blk_cell BK144.out 2).trans rfl
                have hfz24_0 := blk_frozen BK144.out 0
                have hfz24_1 := blk_frozen BK144.out 1
                have hfz24_2 := blk_frozen BK144.out 2
                go_wp2
                refine bodyPost_ret (results_list (rs := [.cell 4 30, .tmp 5, .tmp 6, .tmp 7]) rfl (by simp) (.cell gb144 30 #[.int .i64 0, .int .u32 0, .string (⟨#[]⟩ : ByteArray)] (0, 0) _ rfl (by (with_reducible repeat (first | refine blk_drewN ?_ _ | refine blk_drew ?_ | refine blk_alloc ?_ _)); refine blk_put (cs := #[.int .i64 0, .int .u32 0, .string (⟨#[]⟩ : ByteArray)]) ?_ 2 _ rfl; (with_reducible repeat (first | refine blk_drewN ?_ _ | refine blk_drew ?_ | refine blk_alloc ?_ _)); refine blk_put (cs := #[.int .i64 0, .int .u32 0, .string (⟨#[]⟩ : ByteArray)]) ?_ 1 _ rfl; (with_reducible repeat (first | refine blk_drewN ?_ _ | refine blk_drew ?_ | refine blk_alloc ?_ _)); refine blk_put (cs := #[.int .i64 0, .int .u32 0, .string (⟨#[]⟩ : ByteArray)]) ?_ 0 _ rfl; (with_reducible repeat (first | refine blk_drewN ?_ _ | refine blk_drew ?_ | refine blk_alloc ?_ _)); exact BK144.out) Tryz.underlying30 rfl (by kernel_rfl) (.tmp (.tmp (.tmp .nil))))) rfl ?_
                exact ⟨by first | rfl | (simp [errW_none, errW_some] <;> rfl) | (simp [*, errW_none, errW_some] <;> rfl), by repeat (first | (with_reducible first | exact HB.out | apply below_alloc | apply pw_below_drewN | apply below_drew1 | refine below_set ?_ GE144.out | refine below_set ?_ GE145.out) | exact HB.out)⟩
              · rw [if_neg c21] at H
                have c21b0 : decide ((wrap64 ((a0.size : Int) - a1)) < 13) = false := decide_eq_false c21
                clear c21
                replace H := Option.bind_eq_some_iff.mp H
                obtain ⟨t146, A250, H⟩ := H
                replace H : ((pilcrowref20_Number.f a0 (wrap64 (a1 + 5))).bind fun t147 => (if t146 = 0 then (pilcrowref20_Read.j2 kj12 a0 a1 t146 t147 true 0 0 (⟨#[]⟩ : ByteArray)) else (pilcrowref20_Read.j2 kj12 a0 a1 t146 t147 (decide (t146 > 65536)) 0 0 (⟨#[]⟩ : ByteArray)))) = some (r1, r2, r3, r4, r5, r6) := H
                have A25 := Aside0.mk A250
                clear A250
                replace H := Option.bind_eq_some_iff.mp H
                obtain ⟨t147, A260, H⟩ := H
                replace H : (if t146 = 0 then (pilcrowref20_Read.j2 kj12 a0 a1 t146 t147 true 0 0 (⟨#[]⟩ : ByteArray)) else (pilcrowref20_Read.j2 kj12 a0 a1 t146 t147 (decide (t146 > 65536)) 0 0 (⟨#[]⟩ : ByteArray))) = some (r1, r2, r3, r4, r5, r6) := H
                have A26 := Aside0.mk A260
                clear A260
                have HC27 := Aside0.mk H
                clear H
                go_upto_region 10 with (first | ((with_reducible refine gate_callee (f := 28) rfl ?_); refine goesL_ (some 45) rfl rfl Tryz.func28 (by kernel_rfl) rfl #[.string a0, .int .i64 (wrap64 (a1 + 1))] rfl (by (try simp only [List.map_toArray, List.map_cons, List.map_nil]); first | done | rfl | (simp only [List.length_drop, List.length_take]; rfl)) ?_; (with_reducible refine (pilcrowref20_Number.calls a0 (wrap64 (a1 + 1)) t146 _ A25.out).mono ?_); rintro e w' ⟨rfl, ⟨nd, rfl⟩⟩; refine ⟨_, rfl, ?_⟩) | ((with_reducible refine gate_callee (f := 28) rfl ?_); refine goesL_ (some 49) rfl rfl Tryz.func28 (by kernel_rfl) rfl #[.string a0, .int .i64 (wrap64 (a1 + 5))] rfl (by (try simp only [List.map_toArray, List.map_cons, List.map_nil]); first | done | rfl | (simp only [List.length_drop, List.length_take]; rfl)) ?_; (with_reducible refine (pilcrowref20_Number.calls a0 (wrap64 (a1 + 5)) t147 _ A26.out).mono ?_); rintro e w' ⟨rfl, ⟨nd, rfl⟩⟩; refine ⟨_, rfl, ?_⟩))
                (try simp only [Act.put, List.setIfInBounds_toArray, List.set_cons_zero, List.set_cons_succ])
                go_cut [55] (fun v55 wc => ∃ (kq : Nat) (x55_26 : Bool), v55 = .bool x55_26 ∧ Aside0 (pilcrowref20_Read.j2 kq a0 a1 t146 t147 x55_26 0 0 (⟨#[]⟩ : ByteArray) = some (r1, r2, r3, r4, r5, r6)) ∧ Aside0 (kq ≤ kj12) ∧ Aside0 (wc.heap[gb144]? = some (.cells #[.int .i64 0, .int .u32 0, .string (⟨#[]⟩ : ByteArray)] 30 (0, 0))) ∧ Aside0 (wc.heap[gb145]? = some (.cells #[.int .i64 0, .int .u32 0, .string (⟨#[]⟩ : ByteArray)] 30 (0, 0))) ∧ Aside0 (Below w.heap.size w wc))
                case first =>
                  have H := HC27.out
                  clear HC27
                  by_cases c28 : t146 = 0
                  · rw [if_pos c28] at H
                    have c28z := c28
                    try simp only [ByteArray.size_append] at c28z
                    have c28b0 : (t146 == 0) = true := beq_iff_eq.mpr c28
                    have c28b1 : (t146 != 0) = false := bne_eq_false_iff_eq.mpr c28
                    clear c28
                    (first | rw [c28b0] | (simp only [i64_w, i32_w]; rw [c28b0]) | skip)
                    have H' := Aside0.mk H
                    clear H
                    go_wp2
                    go_meet
                    case rel => exact ⟨_, (true), (by first | rfl | (simp; done) | (simp [*]; done)), H', ⟨by have := HJ2.out; have := HJ12.out; first | omega | exact Nat.le_refl _⟩, ⟨by (with_reducible repeat (first | refine blk_drewN ?_ _ | refine blk_drew ?_ | refine blk_alloc ?_ _)); exact BK144.out⟩, ⟨by (with_reducible repeat (first | refine blk_drewN ?_ _ | refine blk_drew ?_ | refine blk_alloc ?_ _)); exact BK145.out⟩, ⟨by repeat (first | (with_reducible first | exact HB.out | apply below_alloc | apply pw_below_drewN | apply below_drew1 | refine below_set ?_ GE144.out | refine below_set ?_ GE145.out) | exact HB.out)⟩⟩
                  · rw [if_neg c28] at H
                    have c28b0 : (t146 == 0) = false := beq_eq_false_iff_ne.mpr c28
                    have c28b1 : (t146 != 0) = true := bne_iff_ne.mpr c28
                    (first | rw [c28b0] | (simp only [i64_w, i32_w]; rw [c28b0]) | skip)
                    have H' := Aside0.mk H
                    clear H
                    go_wp2
                    go_meet
                    case rel => exact ⟨_, (decide (t146 > 65536)), (by first | rfl | (simp; done) | (simp [*]; done)), H', ⟨by have := HJ2.out; have := HJ12.out; first | omega | exact Nat.le_refl _⟩, ⟨by (with_reducible repeat (first | refine blk_drewN ?_ _ | refine blk_drew ?_ | refine blk_alloc ?_ _)); exact BK144.out⟩, ⟨by (with_reducible repeat (first | refine blk_drewN ?_ _ | refine blk_drew ?_ | refine blk_alloc ?_ _)); exact BK145.out⟩, ⟨by repeat (first | (with_reducible first | exact HB.out | apply below_alloc | apply pw_below_drewN | apply below_drew1 | refine below_set ?_ GE144.out | refine below_set ?_ GE145.out) | exact HB.out)⟩⟩
                case rest =>
                  clear HC27
                  try clear c1
                  try clear p1
                  try clear q1
                  try clear hx1
                  try clear c2
                  try clear p2
                  try clear c6
                  try clear p6
                  try clear c8
                  try clear c8b0
                  try clear c9
                  try clear c10
                  try clear c14
                  try clear c14b0
                  try clear c15
                  try clear c15b0
                  try clear p16
                  try clear q16
                  try clear hx16
                  try clear c17
                  try clear c18
                  try clear c21
                  try clear c21b0
                  try clear c22
                  try clear c28
                  try clear c28b0
                  try clear c28b1
                  try clear hcz11_0
                  try clear hcz11_1
                  try clear hcz11_2
                  try clear hcz12_0
                  try clear hcz12_1
                  try clear hcz12_2
                  try clear hcz19_0
                  try clear hcz19_1
                  try clear hcz19_2
                  try clear hcz20_0
                  try clear hcz20_1
                  try clear hcz20_2
                  try clear hcz23_0
                  try clear hcz23_1
                  try clear hcz23_2
                  try clear hcz24_0
                  try clear hcz24_1
                  try clear hcz24_2
                  try clear hcz7_0
                  try clear hcz7_1
                  try clear hcz7_2
                  try clear hfz11_0
                  try clear hfz11_1
                  try clear hfz11_2
                  try clear hfz12_0
                  try clear hfz12_1
                  try clear hfz12_2
                  try clear hfz19_0
                  try clear hfz19_1
                  try clear hfz19_2
                  try clear hfz20_0
                  try clear hfz20_1
                  try clear hfz20_2
                  try clear hfz23_0
                  try clear hfz23_1
                  try clear hfz23_2
                  try clear hfz24_0
                  try clear hfz24_1
                  try clear hfz24_2
                  try clear hfz7_0
                  try clear hfz7_1
                  try clear hfz7_2
                  try clear p1
                  try clear p16
                  try clear p2
                  try clear q1
                  try clear q16
                  obtain ⟨kq, x55_26, rfl, HA, HJ26, BK144, BK145, HB⟩ := hcut
                  cases kq with
                  | zero => exact absurd HA.out (by simp [pilcrowref20_Read.j2])
                  | succ kj26 =>
                    have H := HA.out
                    clear HA
                    simp only [pilcrowref20_Read.j2] at H
                    by_cases c29 : x55_26 = true
                    · subst c29
                      have H1 : (some (0, 0, (⟨#[]⟩ : ByteArray), 0, 8, wrap64 (a1 + 1))) = some (r1, r2, r3, r4, r5, r6) := by rw [if_pos rfl] at H; exact H
                      clear H
                      have H := H1
                      clear H1
                      simp only [Option.some.injEq, Prod.mk.injEq] at H
                      obtain ⟨rfl, rfl, rfl, rfl, rfl, rfl⟩ := H
                      have hnb30 := NB145_144.out
                      have hnc30 := NB144_145.out
                      have hcz31_0 : wc.cell? ⟨gb145, 0, none⟩ = some (.int .i64 0) := (blk_cell BK145.out 0).trans rfl
                      have hcz31_1 : wc.cell? ⟨gb145, 1, none⟩ = some (.int .u32 0) := (blk_cell BK145.out 1).trans rfl
                      have hcz31_2 : wc.cell? ⟨gb145, 2, none⟩ = some (.string (⟨#[]⟩ : ByteArray)) := (blk_cell BK145.out 2).trans rfl
                      have hfz31_0 := blk_frozen BK145.out 0
                      have hfz31_1 := blk_frozen BK145.out 1
                      have hfz31_2 := blk_frozen BK145.out 2
                      have hcz32_0 : wc.cell? ⟨gb144, 0, none⟩ = some (.int .i64 0) := (blk_cell BK144.out 0).trans rfl
                      have hcz32_1 : wc.cell? ⟨gb144, 1, none⟩ = some (.int .u32 0) := (blk_cell BK144.out 1).trans rfl
                      have hcz32_2 : wc.cell? ⟨gb144, 2, none⟩ = some (.string (⟨#[]⟩ : ByteArray)) := (blk_cell BK144.out 2).trans rfl
                      have hfz32_0 := blk_frozen BK144.out 0
                      have hfz32_1 := blk_frozen BK144.out 1
                      have hfz32_2 := blk_frozen BK144.out 2
                      go_wp2
                      refine bodyPost_ret (results_list (rs := [.cell 4 30, .tmp 5, .tmp 6, .tmp 7]) rfl (by simp) (.cell gb144 30 #[.int .i64 0, .int .u32 0, .string (⟨#[]⟩ : ByteArray)] (0, 0) _ rfl (by (with_reducible repeat (first | refine blk_drewN ?_ _ | refine blk_drew ?_ | refine blk_alloc ?_ _)); refine blk_put (cs := #[.int .i64 0, .int .u32 0, .string (⟨#[]⟩ : ByteArray)]) ?_ 2 _ rfl; (with_reducible repeat (first | refine blk_drewN ?_ _ | refine blk_drew ?_ | refine blk_alloc ?_ _)); refine blk_put (cs := #[.int .i64 0, .int .u32 0, .string (⟨#[]⟩ : ByteArray)]) ?_ 1 _ rfl; (with_reducible repeat (first | refine blk_drewN ?_ _ | refine blk_drew ?_ | refine blk_alloc ?_ _)); refine blk_put (cs := #[.int .i64 0, .int .u32 0, .string (⟨#[]⟩ : ByteArray)]) ?_ 0 _ rfl; (with_reducible repeat (first | refine blk_drewN ?_ _ | refine blk_drew ?_ | refine blk_alloc ?_ _)); exact BK144.out) Tryz.underlying30 rfl (by kernel_rfl) (.tmp (.tmp (.tmp .nil))))) rfl ?_
                      exact ⟨by first | rfl | (simp [errW_none, errW_some] <;> rfl) | (simp [*, errW_none, errW_some] <;> rfl), by repeat (first | (with_reducible first | exact HB.out | apply below_alloc | apply pw_below_drewN | apply below_drew1 | refine below_set ?_ GE144.out | refine below_set ?_ GE145.out) | exact HB.out)⟩
                    · replace c29 := Bool.eq_false_iff.mpr c29
                      subst c29
                      have H1 : (if t147 = 0 then (pilcrowref20_Read.j3 kj26 a0 a1 t146 t147 true 0 0 (⟨#[]⟩ : ByteArray)) else (pilcrowref20_Read.j3 kj26 a0 a1 t146 t147 (decide (t147 > 1048576)) 0 0 (⟨#[]⟩ : ByteArray))) = some (r1, r2, r3, r4, r5, r6) := by rw [if_neg (show ¬ (false = true) by decide)] at H; exact H
                      clear H
                      have H := H1
                      clear H1
                      have HC33 := Aside0.mk H
                      clear H
                      go_upto_region 12 with (fail)
                      go_cut [64] (fun v64 wc => ∃ (kq : Nat) (x64_32 : Bool), v64 = .bool x64_32 ∧ Aside0 (pilcrowref20_Read.j3 kq a0 a1 t146 t147 x64_32 0 0 (⟨#[]⟩ : ByteArray) = some (r1, r2, r3, r4, r5, r6)) ∧ Aside0 (kq ≤ kj26) ∧ Aside0 (wc.heap[gb144]? = some (.cells #[.int .i64 0, .int .u32 0, .string (⟨#[]⟩ : ByteArray)] 30 (0, 0))) ∧ Aside0 (wc.heap[gb145]? = some (.cells #[.int .i64 0, .int .u32 0, .string (⟨#[]⟩ : ByteArray)] 30 (0, 0))) ∧ Aside0 (Below w.heap.size w wc))
                      case first =>
                        have H := HC33.out
                        clear HC33
                        by_cases c34 : t147 = 0
                        · rw [if_pos c34] at H
                          have c34z := c34
                          try simp only [ByteArray.size_append] at c34z
                          have c34b0 : (t147 == 0) = true := beq_iff_eq.mpr c34
                          have c34b1 : (t147 != 0) = false := bne_eq_false_iff_eq.mpr c34
                          clear c34
                          (first | rw [c34b0] | (simp only [i64_w, i32_w]; rw [c34b0]) | skip)
                          have H' := Aside0.mk H
                          clear H
                          go_wp2
                          go_meet
                          case rel => exact ⟨_, (true), (by first | rfl | (simp; done) | (simp [*]; done)), H', ⟨by have := HJ2.out; have := HJ12.out; have := HJ26.out; first | omega | exact Nat.le_refl _⟩, ⟨by (with_reducible repeat (first | refine blk_drewN ?_ _ | refine blk_drew ?_ | refine blk_alloc ?_ _)); exact BK144.out⟩, ⟨by (with_reducible repeat (first | refine blk_drewN ?_ _ | refine blk_drew ?_ | refine blk_alloc ?_ _)); exact BK145.out⟩, ⟨by repeat (first | (with_reducible first | exact HB.out | apply below_alloc | apply pw_below_drewN | apply below_drew1 | refine below_set ?_ GE144.out | refine below_set ?_ GE145.out) | exact HB.out)⟩⟩
                        · rw [if_neg c34] at H
                          have c34b0 : (t147 == 0) = false := beq_eq_false_iff_ne.mpr c34
                          have c34b1 : (t147 != 0) = true := bne_iff_ne.mpr c34
                          (first | rw [c34b0] | (simp only [i64_w, i32_w]; rw [c34b0]) | skip)
                          have H' := Aside0.mk H
                          clear H
                          go_wp2
                          go_meet
                          case rel => exact ⟨_, (decide (t147 > 1048576)), (by first | rfl | (simp; done) | (simp [*]; done)), H', ⟨by have := HJ2.out; have := HJ12.out; have := HJ26.out; first | omega | exact Nat.le_refl _⟩, ⟨by (with_reducible repeat (first | refine blk_drewN ?_ _ | refine blk_drew ?_ | refine blk_alloc ?_ _)); exact BK144.out⟩, ⟨by (with_reducible repeat (first | refine blk_drewN ?_ _ | refine blk_drew ?_ | refine blk_alloc ?_ _)); exact BK145.out⟩, ⟨by repeat (first | (with_reducible first | exact HB.out | apply below_alloc | apply pw_below_drewN | apply below_drew1 | refine below_set ?_ GE144.out | refine below_set ?_ GE145.out) | exact HB.out)⟩⟩
                      case rest =>
                        clear HC33
                        try clear c1
                        try clear p1
                        try clear q1
                        try clear hx1
                        try clear c2
                        try clear p2
                        try clear c3
                        try clear c6
                        try clear p6
                        try clear c8
                        try clear c8b0
                        try clear c9
                        try clear c10
                        try clear c14
                        try clear c14b0
                        try clear c15
                        try clear c15b0
                        try clear p16
                        try clear q16
                        try clear hx16
                        try clear c17
                        try clear c18
                        try clear c21
                        try clear c21b0
                        try clear c22
                        try clear c28
                        try clear c28b0
                        try clear c28b1
                        try clear c29
                        try clear c30
                        try clear c34
                        try clear c34b0
                        try clear c34b1
                        try clear hcz11_0
                        try clear hcz11_1
                        try clear hcz11_2
                        try clear hcz12_0
                        try clear hcz12_1
                        try clear hcz12_2
                        try clear hcz19_0
                        try clear hcz19_1
                        try clear hcz19_2
                        try clear hcz20_0
                        try clear hcz20_1
                        try clear hcz20_2
                        try clear hcz23_0
                        try clear hcz23_1
                        try clear hcz23_2
                        try clear hcz24_0
                        try clear hcz24_1
                        try clear hcz24_2
                        try clear hcz31_0
                        try clear hcz31_1
                        try clear hcz31_2
                        try clear hcz32_0
                        try clear hcz32_1
                        try clear hcz32_2
                        try clear hcz7_0
                        try clear hcz7_1
                        try clear hcz7_2
                        try clear hfz11_0
                        try clear hfz11_1
                        try clear hfz11_2
                        try clear hfz12_0
                        try clear hfz12_1
                        try clear hfz12_2
                        try clear hfz19_0
                        try clear hfz19_1
                        try clear hfz19_2
                        try clear hfz20_0
                        try clear hfz20_1
                        try clear hfz20_2
                        try clear hfz23_0
                        try clear hfz23_1
                        try clear hfz23_2
                        try clear hfz24_0
                        try clear hfz24_1
                        try clear hfz24_2
                        try clear hfz31_0
                        try clear hfz31_1
                        try clear hfz31_2
                        try clear hfz32_0
                        try clear hfz32_1
                        try clear hfz32_2
                        try clear hfz7_0
                        try clear hfz7_1
                        try clear hfz7_2
                        try clear p1
                        try clear p16
                        try clear p2
                        try clear p6
                        try clear q1
                        try clear q16
                        obtain ⟨kq, x64_32, rfl, HA, HJ32, BK144, BK145, HB⟩ := hcut
                        cases kq with
                        | zero => exact absurd HA.out (by simp [pilcrowref20_Read.j3])
                        | succ kj32 =>
                          have H := HA.out
                          clear HA
                          simp only [pilcrowref20_Read.j3] at H
                          by_cases c35 : x64_32 = true
                          · subst c35
                            have H1 : (some (0, 0, (⟨#[]⟩ : ByteArray), 0, 5, wrap64 (a1 + 5))) = some (r1, r2, r3, r4, r5, r6) := by rw [if_pos rfl] at H; exact H
                            clear H
                            have H := H1
                            clear H1
                            simp only [Option.some.injEq, Prod.mk.injEq] at H
                            obtain ⟨rfl, rfl, rfl, rfl, rfl, rfl⟩ := H
                            have hnb36 := NB145_144.out
                            have hnc36 := NB144_145.out
                            have hcz37_0 : wc.cell? ⟨gb145, 0, none⟩ = some (.int .i64 0) := (blk_cell BK145.out 0).trans rfl
                            have hcz37_1 : wc.cell? ⟨gb145, 1, none⟩ = some (.int .u32 0) := (blk_cell BK145.out 1).trans rfl
                            have hcz37_2 : wc.cell? ⟨gb145, 2, none⟩ = some (.string (⟨#[]⟩ : ByteArray)) := (blk_cell BK145.out 2).trans rfl
                            have hfz37_0 := blk_frozen BK145.out 0
                            have hfz37_1 := blk_frozen BK145.out 1
                            have hfz37_2 := blk_frozen BK145.out 2
                            have hcz38_0 : wc.cell? ⟨gb144, 0, none⟩ = some (.int .i64 0) := (blk_cell BK144.out 0).trans rfl
                            have hcz38_1 : wc.cell? ⟨gb144, 1, none⟩ = some (.int .u32 0) := (blk_cell BK144.out 1).trans rfl
                            have hcz38_2 : wc.cell? ⟨gb144, 2, none⟩ = some (.string (⟨#[]⟩ : ByteArray)) := (blk_cell BK144.out 2).trans rfl
                            have hfz38_0 := blk_frozen BK144.out 0
                            have hfz38_1 := blk_frozen BK144.out 1
                            have hfz38_2 := blk_frozen BK144.out 2
                            go_wp2
                            refine bodyPost_ret (results_list (rs := [.cell 4 30, .tmp 5, .tmp 6, .tmp 7]) rfl (by simp) (.cell gb144 30 #[.int .i64 0, .int .u32 0, .string (⟨#[]⟩ : ByteArray)] (0, 0) _ rfl (by (with_reducible repeat (first | refine blk_drewN ?_ _ | refine blk_drew ?_ | refine blk_alloc ?_ _)); refine blk_put (cs := #[.int .i64 0, .int .u32 0, .string (⟨#[]⟩ : ByteArray)]) ?_ 2 _ rfl; (with_reducible repeat (first | refine blk_drewN ?_ _ | refine blk_drew ?_ | refine blk_alloc ?_ _)); refine blk_put (cs := #[.int .i64 0, .int .u32 0, .string (⟨#[]⟩ : ByteArray)]) ?_ 1 _ rfl; (with_reducible repeat (first | refine blk_drewN ?_ _ | refine blk_drew ?_ | refine blk_alloc ?_ _)); refine blk_put (cs := #[.int .i64 0, .int .u32 0, .string (⟨#[]⟩ : ByteArray)]) ?_ 0 _ rfl; (with_reducible repeat (first | refine blk_drewN ?_ _ | refine blk_drew ?_ | refine blk_alloc ?_ _)); exact BK144.out) Tryz.underlying30 rfl (by kernel_rfl) (.tmp (.tmp (.tmp .nil))))) rfl ?_
                            exact ⟨by first | rfl | (simp [errW_none, errW_some] <;> rfl) | (simp [*, errW_none, errW_some] <;> rfl), by repeat (first | (with_reducible first | exact HB.out | apply below_alloc | apply pw_below_drewN | apply below_drew1 | refine below_set ?_ GE144.out | refine below_set ?_ GE145.out) | exact HB.out)⟩
                          · replace c35 := Bool.eq_false_iff.mpr c35
                            subst c35
                            have H1 : (if ((wrap64 ((wrap64 ((a0.size : Int) - a1)) - 13)) % 4294967296) < t147 then (some (0, 0, (⟨#[]⟩ : ByteArray), 0, 4, (a0.size : Int))) else ((pilcrowref20_Number.f a0 (wrap64 (a1 + 9))).bind fun t148 => (if 0 ≤ (wrap64 (a1 + 13)) then (if (wrap64 (a1 + 13)) ≤ (wrap64 ((wrap64 (a1 + 13)) + (wrap64 (t147)))) then (if (wrap64 ((wrap64 (a1 + 13)) + (wrap64 (t147)))) ≤ (a0.size : Int) then (some (wrap64 (t146), t148, a0.extract ((wrap64 (a1 + 13)) : Int).toNat ((wrap64 ((wrap64 (a1 + 13)) + (wrap64 (t147)))) : Int).toNat, wrap64 ((wrap64 (a1 + 13)) + (wrap64 (t147))), 0, 0)) else (none)) else (none)) else (none)))) = some (r1, r2, r3, r4, r5, r6) := by rw [if_neg (show ¬ (false = true) by decide)] at H; exact H
                            clear H
                            have H := H1
                            clear H1
                            by_cases c39 : ((wrap64 ((wrap64 ((a0.size : Int) - a1)) - 13)) % 4294967296) < t147
                            · rw [if_pos c39] at H
                              have c39z := c39
                              try simp only [ByteArray.size_append] at c39z
                              have c39b0 : decide (((wrap64 ((wrap64 ((a0.size : Int) - a1)) - 13)) % 4294967296) < t147) = true := decide_eq_true c39
                              clear c39
                              simp only [Option.some.injEq, Prod.mk.injEq] at H
                              obtain ⟨rfl, rfl, rfl, rfl, rfl, rfl⟩ := H
                              have hnb40 := NB145_144.out
                              have hnc40 := NB144_145.out
                              have hcz41_0 : wc.cell? ⟨gb145, 0, none⟩ = some (.int .i64 0) := (blk_cell BK145.out 0).trans rfl
                              have hcz41_1 : wc.cell? ⟨gb145, 1, none⟩ = some (.int .u32 0) := (blk_cell BK145.out 1).trans rfl
                              have hcz41_2 : wc.cell? ⟨gb145, 2, none⟩ = some (.string (⟨#[]⟩ : ByteArray)) := (blk_cell BK145.out 2).trans rfl
                              have hfz41_0 := blk_frozen BK145.out 0
                              have hfz41_1 := blk_frozen BK145.out 1
                              have hfz41_2 := blk_frozen BK145.out 2
                              have hcz42_0 : wc.cell? ⟨gb144, 0, none⟩ = some (.int .i64 0) := (blk_cell BK144.out 0).trans rfl
                              have hcz42_1 : wc.cell? ⟨gb144, 1, none⟩ = some (.int .u32 0) := (blk_cell BK144.out 1).trans rfl
                              have hcz42_2 : wc.cell? ⟨gb144, 2, none⟩ = some (.string (⟨#[]⟩ : ByteArray)) := (blk_cell BK144.out 2).trans rfl
                              have hfz42_0 := blk_frozen BK144.out 0
                              have hfz42_1 := blk_frozen BK144.out 1
                              have hfz42_2 := blk_frozen BK144.out 2
                              go_wp2
                              refine bodyPost_ret (results_list (rs := [.cell 4 30, .tmp 5, .tmp 6, .tmp 7]) rfl (by simp) (.cell gb144 30 #[.int .i64 0, .int .u32 0, .string (⟨#[]⟩ : ByteArray)] (0, 0) _ rfl (by (with_reducible repeat (first | refine blk_drewN ?_ _ | refine blk_drew ?_ | refine blk_alloc ?_ _)); refine blk_put (cs := #[.int .i64 0, .int .u32 0, .string (⟨#[]⟩ : ByteArray)]) ?_ 2 _ rfl; (with_reducible repeat (first | refine blk_drewN ?_ _ | refine blk_drew ?_ | refine blk_alloc ?_ _)); refine blk_put (cs := #[.int .i64 0, .int .u32 0, .string (⟨#[]⟩ : ByteArray)]) ?_ 1 _ rfl; (with_reducible repeat (first | refine blk_drewN ?_ _ | refine blk_drew ?_ | refine blk_alloc ?_ _)); refine blk_put (cs := #[.int .i64 0, .int .u32 0, .string (⟨#[]⟩ : ByteArray)]) ?_ 0 _ rfl; (with_reducible repeat (first | refine blk_drewN ?_ _ | refine blk_drew ?_ | refine blk_alloc ?_ _)); exact BK144.out) Tryz.underlying30 rfl (by kernel_rfl) (.tmp (.tmp (.tmp .nil))))) rfl ?_
                              exact ⟨by first | rfl | (simp [errW_none, errW_some] <;> rfl) | (simp [*, errW_none, errW_some] <;> rfl), by repeat (first | (with_reducible first | exact HB.out | apply below_alloc | apply pw_below_drewN | apply below_drew1 | refine below_set ?_ GE144.out | refine below_set ?_ GE145.out) | exact HB.out)⟩
                            · rw [if_neg c39] at H
                              have c39b0 : decide (((wrap64 ((wrap64 ((a0.size : Int) - a1)) - 13)) % 4294967296) < t147) = false := decide_eq_false c39
                              clear c39
                              replace H := Option.bind_eq_some_iff.mp H
                              obtain ⟨t148, A430, H⟩ := H
                              replace H : (if 0 ≤ (wrap64 (a1 + 13)) then (if (wrap64 (a1 + 13)) ≤ (wrap64 ((wrap64 (a1 + 13)) + (wrap64 (t147)))) then (if (wrap64 ((wrap64 (a1 + 13)) + (wrap64 (t147)))) ≤ (a0.size : Int) then (some (wrap64 (t146), t148, a0.extract ((wrap64 (a1 + 13)) : Int).toNat ((wrap64 ((wrap64 (a1 + 13)) + (wrap64 (t147)))) : Int).toNat, wrap64 ((wrap64 (a1 + 13)) + (wrap64 (t147))), 0, 0)) else (none)) else (none)) else (none)) = some (r1, r2, r3, r4, r5, r6) := H
                              have A43 := Aside0.mk A430
                              clear A430
                              obtain ⟨ji44, hji44⟩ : ∃ j_ : Int, (wrap64 (a1 + 13)) = j_ := ⟨_, rfl⟩
                              replace H : (if 0 ≤ (ji44) then (if (ji44) ≤ (wrap64 ((ji44) + (wrap64 (t147)))) then (if (wrap64 ((ji44) + (wrap64 (t147)))) ≤ (a0.size : Int) then (some (wrap64 (t146), t148, a0.extract ((ji44) : Int).toNat ((wrap64 ((ji44) + (wrap64 (t147)))) : Int).toNat, wrap64 ((ji44) + (wrap64 (t147))), 0, 0)) else (none)) else (none)) else (none)) = some (r1, r2, r3, r4, r5, r6) := by first | (rw [hji44] at H; exact H) | (simp only [hji44] at H ⊢; exact H)
                              (try rw [hji44] at A43)
                              have hji44w : (IntKind.i64.wrap (a1 + 13)) = ji44 := (i64_w _).trans hji44
                              by_cases c45 : 0 ≤ (ji44)
                              · rw [if_pos c45] at H
                                have c45z := c45
                                try simp only [ByteArray.size_append] at c45z
                                have c45b0 := eq_true c45
                                have c45b1 : decide (0 ≤ (ji44)) = true := decide_eq_true c45
                                clear c45
                                by_cases c46 : (ji44) ≤ (wrap64 ((ji44) + (wrap64 (t147))))
                                · rw [if_pos c46] at H
                                  have c46z := c46
                                  try simp only [ByteArray.size_append] at c46z
                                  have c46b0 := eq_true c46
                                  have c46b1 : decide ((ji44) ≤ (wrap64 ((ji44) + (wrap64 (t147))))) = true := decide_eq_true c46
                                  by_cases c47 : (wrap64 ((ji44) + (wrap64 (t147)))) ≤ (a0.size : Int)
                                  · rw [if_pos c47] at H
                                    have c47z := c47
                                    try simp only [ByteArray.size_append] at c47z
                                    have c47b0 := eq_true c47
                                    have c47b1 : decide ((wrap64 ((ji44) + (wrap64 (t147)))) ≤ (a0.size : Int)) = true := decide_eq_true c47
                                    simp only [Option.some.injEq, Prod.mk.injEq] at H
                                    obtain ⟨rfl, rfl, rfl, rfl, rfl, rfl⟩ := H
                                    try go_wp2
                                    have n0_ := Aside0.mk (blk_drew BK144.out)
                                    have n1_ := Aside0.mk (blk_drew BK145.out)
                                    have n2_ := Aside0.mk (below_drew1 HB.out)
                                    clear BK144
                                    clear BK145
                                    clear HB
                                    have BK144 := n0_
                                    have BK145 := n1_
                                    have HB := n2_
                                    clear n0_ n1_ n2_
                                    refine start_ (n := 17) (S := fun w' => True) (ds := []) #[false, false, false, false, false, false, false, false, false, false, false, false, false, false, false, false, false] (by kernel_rfl) rfl rfl trivial (fun hHeld => ?_); refine with_tabW pilcrowref20_Read.tab17 pilcrowref20_Read.bits17 (fun HT_ HW_ => ?_)
                                    generalize wc.drew = w48 at BK144 BK145 HB hHeld ⊢
                                    refine pure_ (i := 0) (N := some 84) (v := ?_) (a' := ?_) #[true, false, false, false, false, false, false, false, false, false, false, false, false, false, false, false, false] rfl rfl (any_of HT_.out (by kernel_rfl)) (fun _ _ _ h => h) (Or.inl ⟨by rfl, ?_⟩) ?_ ?_
                                    rotate_left
                                    · intro w'
                                      go_simp
                                      first | with_reducible rfl | (rw [if_neg (by omega)]; done) | (rw [if_neg (by omega)]; with_reducible rfl)
                                    rotate_left
                                    · simp only [Act.put, List.setIfInBounds_toArray, List.set_cons_zero, List.set_cons_succ, i64_w, i32_w]
                                      rfl
                                    refine pure_ (i := 1) (N := some 85) (v := ?_) (a' := ?_) #[true, true, false, false, false, false, false, false, false, false, false, false, false, false, false, false, false] rfl rfl (any_of HT_.out (by kernel_rfl)) (fun _ _ _ h => h) (Or.inl ⟨by rfl, ?_⟩) ?_ ?_
                                    rotate_left
                                    · intro w'
                                      go_simp
                                      first | with_reducible rfl | (rw [if_neg (by omega)]; done) | (rw [if_neg (by omega)]; with_reducible rfl)
                                    rotate_left
                                    · simp only [Act.put, List.setIfInBounds_toArray, List.set_cons_zero, List.set_cons_succ, i64_w, i32_w]
                                      rfl
                                    refine pure_ (i := 2) (N := some 86) (v := ?_) (a' := ?_) #[true, true, true, false, false, false, false, false, false, false, false, false, false, false, false, false, false] rfl rfl (any_of HT_.out (by kernel_rfl)) (fun _ _ _ h => h) (Or.inl ⟨by rfl, ?_⟩) ?_ ?_
                                    rotate_left
                                    · intro w'
                                      go_simp
                                      first | with_reducible rfl | (rw [if_neg (by omega)]; done) | (rw [if_neg (by omega)]; with_reducible rfl)
                                    rotate_left
                                    · simp only [Act.put, List.setIfInBounds_toArray, List.set_cons_zero, List.set_cons_succ, i64_w, i32_w]
                                      rfl
                                    refine pure_ (i := 3) (N := some 87) (v := ?_) (a' := ?_) #[true, true, true, true, false, false, false, false, false, false, false, false, false, false, false, false, false] rfl rfl (any_of HT_.out (by kernel_rfl)) (fun _ _ _ h => h) (Or.inl ⟨by rfl, ?_⟩) ?_ ?_
                                    rotate_left
                                    · intro w'
                                      go_simp
                                      first | with_reducible rfl | (rw [if_neg (by omega)]; done) | (rw [if_neg (by omega)]; with_reducible rfl)
                                    rotate_left
                                    · simp only [Act.put, List.setIfInBounds_toArray, List.set_cons_zero, List.set_cons_succ, i64_w, i32_w]
                                      rfl
                                    refine pure_ (i := 4) (N := some 88) (v := ?_) (a' := ?_) #[true, true, true, true, true, false, false, false, false, false, false, false, false, false, false, false, false] rfl rfl (any_of HT_.out (by kernel_rfl)) (fun _ _ _ h => h) (Or.inl ⟨by rfl, ?_⟩) ?_ ?_
                                    rotate_left
                                    · intro w'
                                      go_simp
                                      first | with_reducible rfl | (rw [if_neg (by omega)]; done) | (rw [if_neg (by omega)]; with_reducible rfl)
                                    rotate_left
                                    · simp only [Act.put, List.setIfInBounds_toArray, List.set_cons_zero, List.set_cons_succ, i64_w, i32_w]
                                      rfl
                                    refine pure_ (i := 6) (N := some 90) (v := ?_) (a' := ?_) #[true, true, true, true, true, false, true, false, false, false, false, false, false, false, false, false, false] rfl rfl (any_of HT_.out (by kernel_rfl)) (fun _ _ _ h => h) (Or.inl ⟨by rfl, ?_⟩) ?_ ?_
                                    rotate_left
                                    · intro w'
                                      go_simp
                                      first | with_reducible rfl | (rw [if_neg (by omega)]; done) | (rw [if_neg (by omega)]; with_reducible rfl)
                                    rotate_left
                                    · simp only [Act.put, List.setIfInBounds_toArray, List.set_cons_zero, List.set_cons_succ, i64_w, i32_w]
                                      rfl
                                    refine pure_ (i := 7) (N := some 91) (v := ?_) (a' := ?_) #[true, true, true, true, true, false, true, true, false, false, false, false, false, false, false, false, false] rfl rfl (any_of HT_.out (by kernel_rfl)) (fun _ _ _ h => h) (Or.inl ⟨by rfl, ?_⟩) ?_ ?_
                                    rotate_left
                                    · intro w'
                                      go_simp
                                      first | with_reducible rfl | (rw [if_neg (by omega)]; done) | (rw [if_neg (by omega)]; with_reducible rfl)
                                    rotate_left
                                    · simp only [Act.put, List.setIfInBounds_toArray, List.set_cons_zero, List.set_cons_succ, i64_w, i32_w]
                                      rfl
                                    refine pure_ (i := 8) (N := some 92) (v := ?_) (a' := ?_) #[true, true, true, true, true, false, true, true, true, false, false, false, false, false, false, false, false] rfl rfl (any_of HT_.out (by kernel_rfl)) (fun _ _ _ h => h) (Or.inl ⟨by rfl, ?_⟩) ?_ ?_
                                    rotate_left
                                    · intro w'
                                      go_simp
                                      first | with_reducible rfl | (rw [if_neg (by omega)]; done) | (rw [if_neg (by omega)]; with_reducible rfl)
                                    rotate_left
                                    · simp only [Act.put, List.setIfInBounds_toArray, List.set_cons_zero, List.set_cons_succ, i64_w, i32_w]
                                      rfl
                                    refine pure_ (i := 9) (N := some 93) (v := ?_) (a' := ?_) #[true, true, true, true, true, false, true, true, true, true, false, false, false, false, false, false, false] rfl rfl (any_of HT_.out (by kernel_rfl)) (fun _ _ _ h => h) (Or.inl ⟨by rfl, ?_⟩) ?_ ?_
                                    rotate_left
                                    · intro w'
                                      go_simp
                                      first | with_reducible rfl | (rw [if_neg (by omega)]; done) | (rw [if_neg (by omega)]; with_reducible rfl)
                                    rotate_left
                                    · simp only [Act.put, List.setIfInBounds_toArray, List.set_cons_zero, List.set_cons_succ, i64_w, i32_w]
                                      rfl
                                    refine pure_ (i := 10) (N := some 94) (v := ?_) (a' := ?_) #[true, true, true, true, true, false, true, true, true, true, true, false, false, false, false, false, false] rfl rfl (any_of HT_.out (by kernel_rfl)) (fun _ _ _ h => h) (Or.inl ⟨by rfl, ?_⟩) ?_ ?_
                                    rotate_left
                                    · intro w'
                                      go_simp
                                      first | with_reducible rfl | (rw [if_neg (by omega)]; done) | (rw [if_neg (by omega)]; with_reducible rfl)
                                    rotate_left
                                    · simp only [Act.put, List.setIfInBounds_toArray, List.set_cons_zero, List.set_cons_succ, i64_w, i32_w]
                                      rfl
                                    refine pure_ (i := 12) (N := some 96) (v := ?_) (a' := ?_) #[true, true, true, true, true, false, true, true, true, true, true, false, true, false, false, false, false] rfl rfl (any_of HT_.out (by kernel_rfl)) (fun _ _ _ h => h) (Or.inl ⟨by rfl, ?_⟩) ?_ ?_
                                    rotate_left
                                    · intro w'
                                      go_simp
                                      first | with_reducible rfl | (rw [if_neg (by omega)]; done) | (rw [if_neg (by omega)]; with_reducible rfl)
                                    rotate_left
                                    · simp only [Act.put, List.setIfInBounds_toArray, List.set_cons_zero, List.set_cons_succ, i64_w, i32_w]
                                      rfl
                                    refine one_ (i := 5) (N := some 89) #[true, true, true, true, true, true, true, true, true, true, true, false, true, false, false, false, false] rfl rfl (one_of HT_.out (by kernel_rfl)) (by decide) (fun K hK => ?_)
                                    refine goes_ Tryz.func28 (by kernel_rfl) rfl #[.string a0, .int .i64 (wrap64 (a1 + 9))] (by rfl) rfl rfl (by (try simp only [List.map_toArray, List.map_cons, List.map_nil]); first | done | rfl | (simp only [List.length_drop, List.length_take]; rfl)) ?_
                                    with_reducible refine (pilcrowref20_Number.calls a0 (wrap64 (a1 + 9)) t148 _ A43.out).mono ?_
                                    rintro e w' ⟨rfl, ⟨nd, rfl⟩⟩
                                    refine ⟨_, rfl, ?_⟩
                                    refine hK.out _ _ trivial (fun hHeld => ?_)
                                    clear hK K
                                    refine norm_ (a' := ?_) ?_ ?_
                                    rotate_left
                                    · show Act.put _ (some 89) _ = _
                                      simp only [Act.put, List.setIfInBounds_toArray, List.set_cons_zero, List.set_cons_succ, i64_w, i32_w]
                                      rfl
                                    refine pure_ (i := 11) (N := some 95) (v := ?_) (a' := ?_) #[true, true, true, true, true, true, true, true, true, true, true, true, true, false, false, false, false] rfl rfl (any_of HT_.out (by kernel_rfl)) (fun _ _ _ h => h) (Or.inl ⟨by rfl, ?_⟩) ?_ ?_
                                    rotate_left
                                    · intro w'
                                      go_simp
                                      first | with_reducible rfl | (rw [if_neg (by omega)]; done) | (rw [if_neg (by omega)]; with_reducible rfl)
                                    rotate_left
                                    · simp only [Act.put, List.setIfInBounds_toArray, List.set_cons_zero, List.set_cons_succ, i64_w, i32_w]
                                      rfl
                                    refine one_ (i := 13) (N := none) #[true, true, true, true, true, true, true, true, true, true, true, true, true, true, false, false, false] rfl rfl (one_of HT_.out (by kernel_rfl)) (by decide) (fun K hK => ?_)
                                    have hs49 : w48.cell? ⟨gb144, 0, none⟩ = some (.int .i64 0) := (blk_cell BK144.out 0).trans rfl
                                    have hfs49 := blk_frozen BK144.out 0
                                    have hns49_1 := NB145_144.out
                                    have hms49_1 := NB144_145.out
                                    have hs50 : w48.cell? ⟨gb144, 1, none⟩ = some (.int .u32 0) := (blk_cell BK144.out 1).trans rfl
                                    have hfs50 := blk_frozen BK144.out 1
                                    have hns50_1 := NB145_144.out
                                    have hms50_1 := NB144_145.out
                                    have hs51 : w48.cell? ⟨gb144, 2, none⟩ = some (.string (⟨#[]⟩ : ByteArray)) := (blk_cell BK144.out 2).trans rfl
                                    have hfs51 := blk_frozen BK144.out 2
                                    have hns51_1 := NB145_144.out
                                    have hms51_1 := NB144_145.out
                                    refine skip_ (w1 := ?_) (by rfl) rfl ?_ ?_
                                    rotate_left
                                    · go_simp
                                      rfl
                                    refine hK.out _ _ trivial (fun hHeld => ?_)
                                    clear hK K
                                    refine pure_ (i := 14) (N := some 5) (v := ?_) (a' := ?_) #[true, true, true, true, true, true, true, true, true, true, true, true, true, true, true, false, false] rfl rfl (any_of HT_.out (by kernel_rfl)) (fun _ _ _ h => h) (Or.inl ⟨by rfl, ?_⟩) ?_ ?_
                                    rotate_left
                                    · intro w'
                                      go_simp
                                      first | with_reducible rfl | (rw [if_neg (by omega)]; done) | (rw [if_neg (by omega)]; with_reducible rfl)
                                    rotate_left
                                    · simp only [Act.put, List.setIfInBounds_toArray, List.set_cons_zero, List.set_cons_succ, i64_w, i32_w]
                                      rfl
                                    refine pure_ (i := 15) (N := some 6) (v := ?_) (a' := ?_) #[true, true, true, true, true, true, true, true, true, true, true, true, true, true, true, true, false] rfl rfl (any_of HT_.out (by kernel_rfl)) (fun _ _ _ h => h) (Or.inl ⟨by rfl, ?_⟩) ?_ ?_
                                    rotate_left
                                    · intro w'
                                      go_simp
                                      first | with_reducible rfl | (rw [if_neg (by omega)]; done) | (rw [if_neg (by omega)]; with_reducible rfl)
                                    rotate_left
                                    · simp only [Act.put, List.setIfInBounds_toArray, List.set_cons_zero, List.set_cons_succ, i64_w, i32_w]
                                      rfl
                                    refine pure_ (i := 16) (N := some 7) (v := ?_) (a' := ?_) #[true, true, true, true, true, true, true, true, true, true, true, true, true, true, true, true, true] rfl rfl (any_of HT_.out (by kernel_rfl)) (fun _ _ _ h => h) (Or.inl ⟨by rfl, ?_⟩) ?_ ?_
                                    rotate_left
                                    · intro w'
                                      go_simp
                                      first | with_reducible rfl | (rw [if_neg (by omega)]; done) | (rw [if_neg (by omega)]; with_reducible rfl)
                                    rotate_left
                                    · simp only [Act.put, List.setIfInBounds_toArray, List.set_cons_zero, List.set_cons_succ, i64_w, i32_w]
                                      rfl
                                    refine done_ (done_of HT_.out (by kernel_rfl)) ?_
                                    try go_wp2
                                    refine bodyPost_ret (results_list (rs := [.cell 4 30, .tmp 5, .tmp 6, .tmp 7]) rfl (by simp) (.cell gb144 30 #[.int .i64 (wrap64 (t146)), .int .u32 t148, .string (a0.extract ((ji44) : Int).toNat ((wrap64 ((ji44) + (wrap64 (t147)))) : Int).toNat)] (0, 0) _ rfl (by (with_reducible repeat (first | refine blk_drewN ?_ _ | refine blk_drew ?_ | refine blk_alloc ?_ _)); refine blk_put (cs := #[.int .i64 (wrap64 (t146)), .int .u32 t148, .string (⟨#[]⟩ : ByteArray)]) ?_ 2 _ rfl; (with_reducible repeat (first | refine blk_drewN ?_ _ | refine blk_drew ?_ | refine blk_alloc ?_ _)); refine blk_put (cs := #[.int .i64 (wrap64 (t146)), .int .u32 0, .string (⟨#[]⟩ : ByteArray)]) ?_ 1 _ rfl; (with_reducible repeat (first | refine blk_drewN ?_ _ | refine blk_drew ?_ | refine blk_alloc ?_ _)); refine blk_put (cs := #[.int .i64 0, .int .u32 0, .string (⟨#[]⟩ : ByteArray)]) ?_ 0 _ rfl; (with_reducible repeat (first | refine blk_drewN ?_ _ | refine blk_drew ?_ | refine blk_alloc ?_ _)); exact BK144.out) Tryz.underlying30 rfl (by kernel_rfl) (.tmp (.tmp (.tmp .nil))))) rfl ?_
                                    exact ⟨by first | rfl | (simp [errW_none, errW_some] <;> rfl) | (simp only [← hji44]; first | rfl | (simp [errW_none, errW_some] <;> rfl)) | (simp [*, errW_none, errW_some] <;> rfl), by repeat (first | (with_reducible first | exact HB.out | apply below_alloc | apply pw_below_drewN | apply below_drew1 | refine below_set ?_ GE144.out | refine below_set ?_ GE145.out) | exact HB.out)⟩
                                  · rw [if_neg c47] at H
                                    exact absurd H (by simp)
                                · rw [if_neg c46] at H
                                  exact absurd H (by simp)
                              · rw [if_neg c45] at H
                                exact absurd H (by simp)

end Go.Proofs.YtcofkjiaiiiooaaGreat.PBz
