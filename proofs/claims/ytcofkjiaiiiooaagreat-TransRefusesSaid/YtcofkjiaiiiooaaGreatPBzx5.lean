/- Go functions as Lean functions, and that the one comes to what the other answers: written by the kit's print.py for several functions together (wip/printall.sh of this repo). -/
import Derived.Test.YtcofkjiaiiiooaaGreatPBzx0
namespace Go.Proofs.YtcofkjiaiiiooaaGreat.PBz
open Go.RowKit Go.Proofs.YtcofkjiaiiiooaaGreatW.PrintWords Go.Proofs.YtcofkjiaiiiooaaGreatW.PrintLast Go.Proofs.YtcofkjiaiiiooaaGreatW.PrintMore
attribute [local go_sem] max2_int min2_int max_two min_two max_three min_three max_four min_four   -- for this text's walks alone
set_option linter.unusedVariables false
set_option linter.unusedSimpArgs false

/-! ### pilcrowref20_Right: function 11 -/
def pilcrowref20_Right.j0 : Nat → Bool → Int → Int → ByteArray → Option (Int)
  | 0, _, _, _, _ => none
  | k + 1, x10, x150000, x150001, x150002 => if x10 = true then (some 8) else (if (x150002.size : Int) < 1 then (some 5) else (if (x150002.size : Int) > 1048576 then (some 5) else (some 0)))
def pilcrowref20_Right.f (k : Nat) (a0_0 : Int) (a0_1 : Int) (a0_2 : ByteArray) : Option (Int) := if a0_0 < 1 then (pilcrowref20_Right.j0 k true a0_0 a0_1 a0_2) else (pilcrowref20_Right.j0 k (decide (a0_0 > 65536)) a0_0 a0_1 a0_2)
theorem pilcrowref20_Right.mono_l : ∀ k, (∀ y0 y1 y2 y3, LeO (pilcrowref20_Right.j0 k y0 y1 y2 y3) (pilcrowref20_Right.j0 (k + 1) y0 y1 y2 y3))
  | 0 => fun _ _ _ _ r h => by simp [pilcrowref20_Right.j0] at h
  | k + 1 => by
    have ih0 := pilcrowref20_Right.mono_l k
    · intro y0 y1 y2 y3
      unfold pilcrowref20_Right.j0
      repeat' first
      | (with_reducible exact ih0 _ _ _ _)
      | (with_reducible exact LeO.refl _)
      | (with_reducible exact LeO.none _)
      | (with_reducible refine LeO.ite ?_ ?_)
      | (with_reducible refine LeO.bind ?_ (fun _ => ?_))
      | exact ih0 _ _ _ _
      | exact LeO.none _
      | refine LeO.ite ?_ ?_
      | refine LeO.bind ?_ (fun _ => ?_)
theorem pilcrowref20_Right.mono : ∀ a0 a1 a2 k, LeO (pilcrowref20_Right.f k a0 a1 a2) (pilcrowref20_Right.f (k + 1) a0 a1 a2) := by
  intro a0 a1 a2 k
  have ih0 := pilcrowref20_Right.mono_l k
  unfold pilcrowref20_Right.f
  repeat' first
      | (with_reducible exact ih0 _ _ _ _)
      | (with_reducible exact LeO.refl _)
      | (with_reducible exact LeO.none _)
      | (with_reducible refine LeO.ite ?_ ?_)
      | (with_reducible refine LeO.bind ?_ (fun _ => ?_))
      | exact ih0 _ _ _ _
      | exact LeO.none _
      | refine LeO.ite ?_ ?_
      | refine LeO.bind ?_ (fun _ => ?_)
set_option maxHeartbeats 8000000 in
set_option maxRecDepth 100000 in
theorem pilcrowref20_Right.calls (k : Nat) (a0_0 : Int) (a0_1 : Int) (a0_2 : ByteArray) (r : Int) (w : World) (h : pilcrowref20_Right.f k a0_0 a0_1 a0_2 = some r) :
    Calls Tryz.prog 11 #[.agg #[.int .i64 a0_0, .int .u32 a0_1, .string a0_2]] w fun e w' => e = .returned (.int .i64 r) ∧ Below w.heap.size w w' := by
  have hu30 := Tryz.underlying30
  have HB := Aside0.mk (Below.refl w.heap.size w)
  have e66z : (⟨#[66]⟩ : ByteArray).size = 1 := rfl
  have e66y : (strOfNums ([66] : List Int)).size = 1 := rfl
  have H : (if a0_0 < 1 then (pilcrowref20_Right.j0 k true a0_0 a0_1 a0_2) else (pilcrowref20_Right.j0 k (decide (a0_0 > 65536)) a0_0 a0_1 a0_2)) = some r := h
  clear h
  have HC2 := Aside0.mk H
  clear H
  go_enter Tryz.func11, Tryz.ntmps11
  go_upto_region 1 with (first | ((with_reducible refine gate_dst (N := 1) rfl ?_); (try (refine gate_guard (by rfl) ?_; dsimp only)); refine box_event ?hg (N := 1) ?hd (cs := #[.int .i64 a0_0, .int .u32 a0_1, .string a0_2]) (t := 30) ?hr ?_; (case hd => rfl); (case hg => rfl); (case hr => first | (go_simp; done) | (go_simp; rfl)); intro gb149 hg w3 hbox hb; have n0_ := Aside0.mk (below_step (by repeat (first | (with_reducible first | exact HB.out | apply below_alloc | apply pw_below_drewN | apply below_drew1) | exact HB.out)) hb); have n1_ := Aside0.mk (hbox); have n2_ := Aside0.mk ((by rw [hg]; exact (below_size (by repeat (first | (with_reducible first | exact HB.out | apply below_alloc | apply pw_below_drewN | apply below_drew1) | exact HB.out))) : w.heap.size ≤ gb149)); have n3_ := Aside0.mk ((by rw [hg]; exact (below_size (by repeat (first | (with_reducible first | exact HB.out | apply below_alloc | apply pw_below_drewN | apply below_drew1) | exact HB.out))) : w.heap.size ≤ gb149)); clear HB; have HB := n0_; have BK149 := n1_; have GW149 := n2_; have GE149 := n3_; clear n0_ n1_ n2_ n3_; clear hb hbox hg))
  (try simp only [Act.put, List.setIfInBounds_toArray, List.set_cons_zero, List.set_cons_succ])
  go_cut [10] (fun v10 wc => ∃ (kq : Nat) (x10_1 : Bool), v10 = .bool x10_1 ∧ Aside0 (pilcrowref20_Right.j0 kq x10_1 a0_0 a0_1 a0_2 = some r) ∧ Aside0 (kq ≤ k) ∧ Aside0 (wc.heap[gb149]? = some (.cells #[.int .i64 a0_0, .int .u32 a0_1, .string a0_2] 30 (0, 0))) ∧ Aside0 (Below w.heap.size w wc))
  case first =>
    have H := HC2.out
    clear HC2
    by_cases c4 : a0_0 < 1
    · rw [if_pos c4] at H
      have c4z := c4
      try simp only [ByteArray.size_append] at c4z
      have c4b0 : decide (a0_0 < 1) = true := decide_eq_true c4
      clear c4
      (first | rw [c4b0] | (simp only [i64_w, i32_w]; rw [c4b0]) | skip)
      have H' := Aside0.mk H
      clear H
      have hcz5_0 : w3.cell? ⟨gb149, 0, none⟩ = some (.int .i64 a0_0) := (blk_cell BK149.out 0).trans rfl
      have hcz5_1 : w3.cell? ⟨gb149, 1, none⟩ = some (.int .u32 a0_1) := (blk_cell BK149.out 1).trans rfl
      have hcz5_2 : w3.cell? ⟨gb149, 2, none⟩ = some (.string a0_2) := (blk_cell BK149.out 2).trans rfl
      have hfz5_0 := blk_frozen BK149.out 0
      have hfz5_1 := blk_frozen BK149.out 1
      have hfz5_2 := blk_frozen BK149.out 2
      go_wp2
      go_meet
      case rel => exact ⟨_, (true), (by first | rfl | (simp; done) | (simp [*]; done)), H', ⟨by first | omega | exact Nat.le_refl _⟩, ⟨by (with_reducible repeat (first | refine blk_drewN ?_ _ | refine blk_drew ?_ | refine blk_alloc ?_ _)); exact BK149.out⟩, ⟨by repeat (first | (with_reducible first | exact HB.out | apply below_alloc | apply pw_below_drewN | apply below_drew1 | refine below_set ?_ GE149.out) | exact HB.out)⟩⟩
    · rw [if_neg c4] at H
      have c4b0 : decide (a0_0 < 1) = false := decide_eq_false c4
      clear c4
      (first | rw [c4b0] | (simp only [i64_w, i32_w]; rw [c4b0]) | skip)
      have H' := Aside0.mk H
      clear H
      have hcz6_0 : w3.cell? ⟨gb149, 0, none⟩ = some (.int .i64 a0_0) := (blk_cell BK149.out 0).trans rfl
      have hcz6_1 : w3.cell? ⟨gb149, 1, none⟩ = some (.int .u32 a0_1) := (blk_cell BK149.out 1).trans rfl
      have hcz6_2 : w3.cell? ⟨gb149, 2, none⟩ = some (.string a0_2) := (blk_cell BK149.out 2).trans rfl
      have hfz6_0 := blk_frozen BK149.out 0
      have hfz6_1 := blk_frozen BK149.out 1
      have hfz6_2 := blk_frozen BK149.out 2
      go_wp2
      go_meet
      case rel => exact ⟨_, (decide (a0_0 > 65536)), (by first | rfl | (simp; done) | (simp [*]; done)), H', ⟨by first | omega | exact Nat.le_refl _⟩, ⟨by (with_reducible repeat (first | refine blk_drewN ?_ _ | refine blk_drew ?_ | refine blk_alloc ?_ _)); exact BK149.out⟩, ⟨by repeat (first | (with_reducible first | exact HB.out | apply below_alloc | apply pw_below_drewN | apply below_drew1 | refine below_set ?_ GE149.out) | exact HB.out)⟩⟩
  case rest =>
    clear HC2
    try clear c1
    try clear p2
    try clear c4
    try clear c4b0
    try clear hcz5_0
    try clear hcz5_1
    try clear hcz5_2
    try clear hcz6_0
    try clear hcz6_1
    try clear hcz6_2
    try clear hfz5_0
    try clear hfz5_1
    try clear hfz5_2
    try clear hfz6_0
    try clear hfz6_1
    try clear hfz6_2
    obtain ⟨kq, x10_1, rfl, HA, HJ1, BK149, HB⟩ := hcut
    cases kq with
    | zero => exact absurd HA.out (by simp [pilcrowref20_Right.j0])
    | succ kj1 =>
      have H := HA.out
      clear HA
      simp only [pilcrowref20_Right.j0] at H
      by_cases c7 : x10_1 = true
      · subst c7
        have H1 : (some 8) = some r := by rw [if_pos rfl] at H; exact H
        clear H
        have H := H1
        clear H1
        obtain rfl := Option.some.inj H
        go_wp2
        go_ret
        exact ⟨by first | rfl | (simp [errW_none, errW_some] <;> rfl) | (simp [*, errW_none, errW_some] <;> rfl), by repeat (first | (with_reducible first | exact HB.out | apply below_alloc | apply pw_below_drewN | apply below_drew1 | refine below_set ?_ GE149.out) | exact HB.out)⟩
      · replace c7 := Bool.eq_false_iff.mpr c7
        subst c7
        have H1 : (if (a0_2.size : Int) < 1 then (some 5) else (if (a0_2.size : Int) > 1048576 then (some 5) else (some 0))) = some r := by rw [if_neg (show ¬ (false = true) by decide)] at H; exact H
        clear H
        have H := H1
        clear H1
        by_cases c8 : (a0_2.size : Int) < 1
        · rw [if_pos c8] at H
          have c8z := c8
          try simp only [ByteArray.size_append] at c8z
          have c8b0 : decide ((a0_2.size : Int) < 1) = true := decide_eq_true c8
          have c8b1 : decide (a0_2.size < 1) = true := decide_eq_true (by omega)
          clear c8
          obtain rfl := Option.some.inj H
          have hcz9_0 : wc.cell? ⟨gb149, 0, none⟩ = some (.int .i64 a0_0) := (blk_cell BK149.out 0).trans rfl
          have hcz9_1 : wc.cell? ⟨gb149, 1, none⟩ = some (.int .u32 a0_1) := (blk_cell BK149.out 1).trans rfl
          have hcz9_2 : wc.cell? ⟨gb149, 2, none⟩ = some (.string a0_2) := (blk_cell BK149.out 2).trans rfl
          have hfz9_0 := blk_frozen BK149.out 0
          have hfz9_1 := blk_frozen BK149.out 1
          have hfz9_2 := blk_frozen BK149.out 2
          go_wp2
          go_ret
          exact ⟨by first | rfl | (simp [errW_none, errW_some] <;> rfl) | (simp [*, errW_none, errW_some] <;> rfl), by repeat (first | (with_reducible first | exact HB.out | apply below_alloc | apply pw_below_drewN | apply below_drew1 | refine below_set ?_ GE149.out) | exact HB.out)⟩
        · rw [if_neg c8] at H
          have c8b0 : decide ((a0_2.size : Int) < 1) = false := decide_eq_false c8
          have c8b1 : decide (a0_2.size < 1) = false := decide_eq_false (by omega)
          clear c8
          by_cases c10 : (a0_2.size : Int) > 1048576
          · rw [if_pos c10] at H
            have c10z := c10
            try simp only [ByteArray.size_append] at c10z
            have c10b0 : decide (1048576 < (a0_2.size : Int)) = true := decide_eq_true c10
            have c10b1 : decide (1048576 < a0_2.size) = true := decide_eq_true (by omega)
            clear c10
            obtain rfl := Option.some.inj H
            have hcz11_0 : wc.cell? ⟨gb149, 0, none⟩ = some (.int .i64 a0_0) := (blk_cell BK149.out 0).trans rfl
            have hcz11_1 : wc.cell? ⟨gb149, 1, none⟩ = some (.int .u32 a0_1) := (blk_cell BK149.out 1).trans rfl
            have hcz11_2 : wc.cell? ⟨gb149, 2, none⟩ = some (.string a0_2) := (blk_cell BK149.out 2).trans rfl
            have hfz11_0 := blk_frozen BK149.out 0
            have hfz11_1 := blk_frozen BK149.out 1
            have hfz11_2 := blk_frozen BK149.out 2
            go_wp2
            go_ret
            exact ⟨by first | rfl | (simp [errW_none, errW_some] <;> rfl) | (simp [*, errW_none, errW_some] <;> rfl), by repeat (first | (with_reducible first | exact HB.out | apply below_alloc | apply pw_below_drewN | apply below_drew1 | refine below_set ?_ GE149.out) | exact HB.out)⟩
          · rw [if_neg c10] at H
            have c10b0 : decide (1048576 < (a0_2.size : Int)) = false := decide_eq_false c10
            have c10b1 : decide (1048576 < a0_2.size) = false := decide_eq_false (by omega)
            clear c10
            obtain rfl := Option.some.inj H
            have hcz12_0 : wc.cell? ⟨gb149, 0, none⟩ = some (.int .i64 a0_0) := (blk_cell BK149.out 0).trans rfl
            have hcz12_1 : wc.cell? ⟨gb149, 1, none⟩ = some (.int .u32 a0_1) := (blk_cell BK149.out 1).trans rfl
            have hcz12_2 : wc.cell? ⟨gb149, 2, none⟩ = some (.string a0_2) := (blk_cell BK149.out 2).trans rfl
            have hfz12_0 := blk_frozen BK149.out 0
            have hfz12_1 := blk_frozen BK149.out 1
            have hfz12_2 := blk_frozen BK149.out 2
            go_wp2
            go_ret
            exact ⟨by first | rfl | (simp [errW_none, errW_some] <;> rfl) | (simp [*, errW_none, errW_some] <;> rfl), by repeat (first | (with_reducible first | exact HB.out | apply below_alloc | apply pw_below_drewN | apply below_drew1 | refine below_set ?_ GE149.out) | exact HB.out)⟩

/-! ### pilcrowref16_Four: function 25 -/
def pilcrowref16_Four.f (a0 : Int) : Option (ByteArray) := some (strOfNums (([(Int.tmod a0 256) % 256, ((Int.tdiv a0 256) % 4294967296) % 256, ((Int.tdiv a0 65536) % 4294967296) % 256, ((Int.tdiv a0 16777216) % 4294967296) % 256] : List Int)))
set_option maxHeartbeats 8000000 in
set_option maxRecDepth 100000 in
theorem pilcrowref16_Four.calls (a0 : Int) (r : ByteArray) (w : World) (h : pilcrowref16_Four.f a0 = some r) :
    Calls Tryz.prog 25 #[.int .u32 a0] w fun e w' => e = .returned (.string r) ∧ Below w.heap.size w w' := by
  have HB := Aside0.mk (Below.refl w.heap.size w)
  have e66z : (⟨#[66]⟩ : ByteArray).size = 1 := rfl
  have e66y : (strOfNums ([66] : List Int)).size = 1 := rfl
  have H : (some (strOfNums (([(Int.tmod a0 256) % 256, ((Int.tdiv a0 256) % 4294967296) % 256, ((Int.tdiv a0 65536) % 4294967296) % 256, ((Int.tdiv a0 16777216) % 4294967296) % 256] : List Int)))) = some r := h
  clear h
  obtain ⟨y150, hy150⟩ : ∃ y_ : List Int, y_ = (([(Int.tmod a0 256) % 256, ((Int.tdiv a0 256) % 4294967296) % 256, ((Int.tdiv a0 65536) % 4294967296) % 256, ((Int.tdiv a0 16777216) % 4294967296) % 256] : List Int)) := ⟨_, rfl⟩
  replace H : (some (strOfNums y150)) = some r := by first | (rw [hy150]; with_reducible exact H) | (have H2_ := (Option.bind_some _ _).symm.trans H; rw [hy150]; with_reducible exact H2_) | (have H2_ := (Option.bind_some _ _).symm.trans H; with_reducible exact H2_) | with_reducible exact H | (rw [hy150]; exact H) | exact H
  have Ny150 := Aside0.mk hy150
  clear hy150
  obtain rfl := Option.some.inj H
  go_enter Tryz.func25, Tryz.ntmps25
  go_wp2_with (first | ((with_reducible refine gate_dst (N := 17) rfl ?_); refine Kd.R_lit (Kd.int .u8) _ 5 ?hg (N := 17) ?hd (xs := ([(Int.tmod a0 256) % 256, ((Int.tdiv a0 256) % 4294967296) % 256, ((Int.tdiv a0 65536) % 4294967296) % 256, ((Int.tdiv a0 16777216) % 4294967296) % 256] : List Int)) (inner := [.int .u8 ((Int.tmod a0 256) % 256), .int .u8 (((Int.tdiv a0 256) % 4294967296) % 256), .int .u8 (((Int.tdiv a0 65536) % 4294967296) % 256), .int .u8 (((Int.tdiv a0 16777216) % 4294967296) % 256)]) (ok := fun _ => True) (okp := fun _ => True) ?hr ?hp (fun _ hk => hk) trivial (Below.refl _ _) (Nat.le_refl _) (by simp) ?_; (case hd => rfl); (case hg => rfl); (case hr => first | (go_simp; done) | (go_simp; rfl)); (case hp => exact (Reps.one (show Kd.M (Kd.int .u8) _ _ _ ((Int.tmod a0 256) % 256) [.int .u8 ((Int.tmod a0 256) % 256)] from rfl) (Reps.one (show Kd.M (Kd.int .u8) _ _ _ (((Int.tdiv a0 256) % 4294967296) % 256) [.int .u8 (((Int.tdiv a0 256) % 4294967296) % 256)] from rfl) (Reps.one (show Kd.M (Kd.int .u8) _ _ _ (((Int.tdiv a0 65536) % 4294967296) % 256) [.int .u8 (((Int.tdiv a0 65536) % 4294967296) % 256)] from rfl) (Reps.one (show Kd.M (Kd.int .u8) _ _ _ (((Int.tdiv a0 16777216) % 4294967296) % 256) [.int .u8 (((Int.tdiv a0 16777216) % 4294967296) % 256)] from rfl) (Reps.none _ _)))))); intro v151 w2 ho3 hb hg_ hnew_; clear hg_ hnew_; (first | rw [← Ny150.out] at ho3 | (simp only [Int.reduceToNat] at ho3; rw [← Ny150.out] at ho3)); have n0_ := Aside0.mk (Kd.R_lower ho3 (below_size (by repeat (first | (with_reducible first | exact HB.out | apply below_alloc | apply pw_below_drewN | apply below_drew1) | exact HB.out)))); have n1_ := Aside0.mk (below_step (by repeat (first | (with_reducible first | exact HB.out | apply below_alloc | apply pw_below_drewN | apply below_drew1) | exact HB.out)) hb); clear HB; have HO152 := n0_; have HB := n1_; clear n0_ n1_; clear hb ho3; have hcv4 := own_string (P := Tryz.prog) Tryz.underlying63 Tryz.underlying5 Tryz.underlying9 (Kd.own_of_R HO152.out)))
  go_ret
  exact ⟨by first | rfl | (simp [errW_none, errW_some] <;> rfl) | (simp [*, errW_none, errW_some] <;> rfl), by repeat (first | (with_reducible first | exact HB.out | apply below_alloc | apply pw_below_drewN | apply below_drew1) | exact HB.out)⟩

/-! ### pilcrowref20_Bytes: function 12 -/
def pilcrowref20_Bytes.f (a0_0 : Int) (a0_1 : Int) (a0_2 : ByteArray) : Option (ByteArray) := (pilcrowref16_Four.f ((a0_0) % 4294967296)).bind fun t154 => (if 1 + t154.size ≤ 9223372036854775807 then ((pilcrowref16_Four.f (((a0_2.size : Int)) % 4294967296)).bind fun t155 => (if ((⟨#[66]⟩ : ByteArray) ++ t154).size + t155.size ≤ 9223372036854775807 then ((pilcrowref16_Four.f a0_1).bind fun t156 => (if (((⟨#[66]⟩ : ByteArray) ++ t154) ++ t155).size + t156.size ≤ 9223372036854775807 then (if ((((⟨#[66]⟩ : ByteArray) ++ t154) ++ t155) ++ t156).size + a0_2.size ≤ 9223372036854775807 then (some (((((⟨#[66]⟩ : ByteArray) ++ t154) ++ t155) ++ t156) ++ a0_2)) else (none)) else (none))) else (none))) else (none))
def pilcrowref20_Bytes.T1 : Bool × List (List Nat × List Nat) := (true, [([], []), ([0], [0]), ([1], [1]), ([2], [2]), ([3], [3]), ([], []), ([5], [5]), ([6], [6]), ([7], [7]), ([8, 3], [8]), ([4, 9], [4, 9]), ([], []), ([11], [11]), ([12, 9], [12]), ([10, 13], [10, 13]), ([], []), ([15], [15]), ([14, 16], [14, 16]), ([17, 13, 0, 1, 2, 3, 4, 5, 6, 7, 8, 9, 10, 11, 12, 13, 14, 15, 16, 17], [17])])
def pilcrowref20_Bytes.B1 : List Nat := [0, 1, 3, 7, 15, 0, 32, 96, 224, 495, 1023, 0, 2048, 7151, 16383, 0, 32768, 131071, 262143]
theorem pilcrowref20_Bytes.tab1 : rtab .any (opsOf Tryz.f12 1) = pilcrowref20_Bytes.T1 := by kernel_rfl
theorem pilcrowref20_Bytes.bits1 : waitsOk pilcrowref20_Bytes.T1.2 pilcrowref20_Bytes.B1 = true := by kernel_rfl
set_option maxHeartbeats 8000000 in
set_option maxRecDepth 100000 in
theorem pilcrowref20_Bytes.calls (a0_0 : Int) (a0_1 : Int) (a0_2 : ByteArray) (r : ByteArray) (w : World) (h : pilcrowref20_Bytes.f a0_0 a0_1 a0_2 = some r) :
    Calls Tryz.prog 12 #[.agg #[.int .i64 a0_0, .int .u32 a0_1, .string a0_2]] w fun e w' => e = .returned (.string r) ∧ Below w.heap.size w w' := by
  have hu30 := Tryz.underlying30
  have HB := Aside0.mk (Below.refl w.heap.size w)
  have e66z : (⟨#[66]⟩ : ByteArray).size = 1 := rfl
  have e66y : (strOfNums ([66] : List Int)).size = 1 := rfl
  have H : ((pilcrowref16_Four.f ((a0_0) % 4294967296)).bind fun t154 => (if 1 + t154.size ≤ 9223372036854775807 then ((pilcrowref16_Four.f (((a0_2.size : Int)) % 4294967296)).bind fun t155 => (if ((⟨#[66]⟩ : ByteArray) ++ t154).size + t155.size ≤ 9223372036854775807 then ((pilcrowref16_Four.f a0_1).bind fun t156 => (if (((⟨#[66]⟩ : ByteArray) ++ t154) ++ t155).size + t156.size ≤ 9223372036854775807 then (if ((((⟨#[66]⟩ : ByteArray) ++ t154) ++ t155) ++ t156).size + a0_2.size ≤ 9223372036854775807 then (some (((((⟨#[66]⟩ : ByteArray) ++ t154) ++ t155) ++ t156) ++ a0_2)) else (none)) else (none))) else (none))) else (none))) = some r := h
  clear h
  replace H := Option.bind_eq_some_iff.mp H
  obtain ⟨t154, A20, H⟩ := H
  replace H : (if 1 + t154.size ≤ 9223372036854775807 then ((pilcrowref16_Four.f (((a0_2.size : Int)) % 4294967296)).bind fun t155 => (if ((⟨#[66]⟩ : ByteArray) ++ t154).size + t155.size ≤ 9223372036854775807 then ((pilcrowref16_Four.f a0_1).bind fun t156 => (if (((⟨#[66]⟩ : ByteArray) ++ t154) ++ t155).size + t156.size ≤ 9223372036854775807 then (if ((((⟨#[66]⟩ : ByteArray) ++ t154) ++ t155) ++ t156).size + a0_2.size ≤ 9223372036854775807 then (some (((((⟨#[66]⟩ : ByteArray) ++ t154) ++ t155) ++ t156) ++ a0_2)) else (none)) else (none))) else (none))) else (none)) = some r := H
  have A2 := Aside0.mk A20
  clear A20
  by_cases c3 : 1 + t154.size ≤ 9223372036854775807
  · rw [if_pos c3] at H
    have c3z := c3
    try simp only [ByteArray.size_append] at c3z
    have c3b0 := eq_true c3
    have c3b1 : decide (1 + t154.size ≤ 9223372036854775807) = true := decide_eq_true c3
    try have c3b2 : (9223372036854775807 < 1 + t154.size) = False := eq_false (Nat.not_lt.2 c3)
    replace H := Option.bind_eq_some_iff.mp H
    obtain ⟨t155, A40, H⟩ := H
    replace H : (if ((⟨#[66]⟩ : ByteArray) ++ t154).size + t155.size ≤ 9223372036854775807 then ((pilcrowref16_Four.f a0_1).bind fun t156 => (if (((⟨#[66]⟩ : ByteArray) ++ t154) ++ t155).size + t156.size ≤ 9223372036854775807 then (if ((((⟨#[66]⟩ : ByteArray) ++ t154) ++ t155) ++ t156).size + a0_2.size ≤ 9223372036854775807 then (some (((((⟨#[66]⟩ : ByteArray) ++ t154) ++ t155) ++ t156) ++ a0_2)) else (none)) else (none))) else (none)) = some r := H
    have A4 := Aside0.mk A40
    clear A40
    by_cases c5 : ((⟨#[66]⟩ : ByteArray) ++ t154).size + t155.size ≤ 9223372036854775807
    · rw [if_pos c5] at H
      have c5z := c5
      try simp only [ByteArray.size_append] at c5z
      have c5b0 := eq_true c5
      have c5b1 : decide (((⟨#[66]⟩ : ByteArray) ++ t154).size + t155.size ≤ 9223372036854775807) = true := decide_eq_true c5
      try have c5b2 : (9223372036854775807 < ((⟨#[66]⟩ : ByteArray) ++ t154).size + t155.size) = False := eq_false (Nat.not_lt.2 c5)
      replace H := Option.bind_eq_some_iff.mp H
      obtain ⟨t156, A60, H⟩ := H
      replace H : (if (((⟨#[66]⟩ : ByteArray) ++ t154) ++ t155).size + t156.size ≤ 9223372036854775807 then (if ((((⟨#[66]⟩ : ByteArray) ++ t154) ++ t155) ++ t156).size + a0_2.size ≤ 9223372036854775807 then (some (((((⟨#[66]⟩ : ByteArray) ++ t154) ++ t155) ++ t156) ++ a0_2)) else (none)) else (none)) = some r := H
      have A6 := Aside0.mk A60
      clear A60
      by_cases c7 : (((⟨#[66]⟩ : ByteArray) ++ t154) ++ t155).size + t156.size ≤ 9223372036854775807
      · rw [if_pos c7] at H
        have c7z := c7
        try simp only [ByteArray.size_append] at c7z
        have c7b0 := eq_true c7
        have c7b1 : decide ((((⟨#[66]⟩ : ByteArray) ++ t154) ++ t155).size + t156.size ≤ 9223372036854775807) = true := decide_eq_true c7
        try have c7b2 : (9223372036854775807 < (((⟨#[66]⟩ : ByteArray) ++ t154) ++ t155).size + t156.size) = False := eq_false (Nat.not_lt.2 c7)
        by_cases c8 : ((((⟨#[66]⟩ : ByteArray) ++ t154) ++ t155) ++ t156).size + a0_2.size ≤ 9223372036854775807
        · rw [if_pos c8] at H
          have c8z := c8
          try simp only [ByteArray.size_append] at c8z
          have c8b0 := eq_true c8
          have c8b1 : decide (((((⟨#[66]⟩ : ByteArray) ++ t154) ++ t155) ++ t156).size + a0_2.size ≤ 9223372036854775807) = true := decide_eq_true c8
          try have c8b2 : (9223372036854775807 < ((((⟨#[66]⟩ : ByteArray) ++ t154) ++ t155) ++ t156).size + a0_2.size) = False := eq_false (Nat.not_lt.2 c8)
          obtain rfl := Option.some.inj H
          go_enter Tryz.func12, Tryz.ntmps12
          try go_wp2_with (first | ((with_reducible refine gate_dst (N := 1) rfl ?_); refine box_event ?hg (N := 1) ?hd (cs := #[.int .i64 a0_0, .int .u32 a0_1, .string a0_2]) (t := 30) ?hr ?_; (case hd => rfl); (case hg => rfl); (case hr => first | (go_simp; done) | (go_simp; rfl)); intro gb153 hg w9 hbox hb; have n0_ := Aside0.mk (below_step (by repeat (first | (with_reducible first | exact HB.out | apply below_alloc | apply pw_below_drewN | apply below_drew1) | exact HB.out)) hb); have n1_ := Aside0.mk (hbox); have n2_ := Aside0.mk ((by rw [hg]; exact (below_size (by repeat (first | (with_reducible first | exact HB.out | apply below_alloc | apply pw_below_drewN | apply below_drew1) | exact HB.out))) : w.heap.size ≤ gb153)); have n3_ := Aside0.mk ((by rw [hg]; exact (below_size (by repeat (first | (with_reducible first | exact HB.out | apply below_alloc | apply pw_below_drewN | apply below_drew1) | exact HB.out))) : w.heap.size ≤ gb153)); clear HB; have HB := n0_; have BK153 := n1_; have GW153 := n2_; have GE153 := n3_; clear n0_ n1_ n2_ n3_; clear hb hbox hg))
          have n0_ := Aside0.mk (blk_drew BK153.out)
          have n1_ := Aside0.mk (below_drew1 HB.out)
          clear BK153
          clear HB
          have BK153 := n0_
          have HB := n1_
          clear n0_ n1_
          refine start_ (n := 19) (S := fun w' => w'.cell? ⟨gb153, 0, none⟩ = some (.int .i64 a0_0) ∧ w'.cell? ⟨gb153, 1, none⟩ = some (.int .u32 a0_1) ∧ w'.cell? ⟨gb153, 2, none⟩ = some (.string a0_2)) (ds := []) #[false, false, false, false, false, false, false, false, false, false, false, false, false, false, false, false, false, false, false] (by kernel_rfl) rfl rfl ⟨(blk_cell BK153.out 0).trans rfl, (blk_cell BK153.out 1).trans rfl, (blk_cell BK153.out 2).trans rfl⟩ (fun hHeld => ?_); refine with_tabW pilcrowref20_Bytes.tab1 pilcrowref20_Bytes.bits1 (fun HT_ HW_ => ?_)
          generalize w9.drew = w10 at BK153 HB hHeld ⊢
          refine pure_ (i := 0) (N := some 3) (v := ?_) (a' := ?_) #[true, false, false, false, false, false, false, false, false, false, false, false, false, false, false, false, false, false, false] rfl rfl (any_of HT_.out (by kernel_rfl)) (fun _ _ _ h => h) (Or.inl ⟨by rfl, ?_⟩) ?_ ?_
          rotate_left
          · intro w'
            go_simp
            first | with_reducible rfl | (rw [if_neg (by omega)]; done) | (rw [if_neg (by omega)]; with_reducible rfl)
          rotate_left
          · simp only [Act.put, List.setIfInBounds_toArray, List.set_cons_zero, List.set_cons_succ, i64_w, i32_w]
            rfl
          refine pure_ (i := 5) (N := some 8) (v := ?_) (a' := ?_) #[true, false, false, false, false, true, false, false, false, false, false, false, false, false, false, false, false, false, false] rfl rfl (any_of HT_.out (by kernel_rfl)) (fun _ _ _ h => h) (Or.inl ⟨by rfl, ?_⟩) ?_ ?_
          rotate_left
          · intro w'
            go_simp
            first | with_reducible rfl | (rw [if_neg (by omega)]; done) | (rw [if_neg (by omega)]; with_reducible rfl)
          rotate_left
          · simp only [Act.put, List.setIfInBounds_toArray, List.set_cons_zero, List.set_cons_succ, i64_w, i32_w]
            rfl
          refine pure_ (i := 11) (N := some 14) (v := ?_) (a' := ?_) #[true, false, false, false, false, true, false, false, false, false, false, true, false, false, false, false, false, false, false] rfl rfl (any_of HT_.out (by kernel_rfl)) (fun _ _ _ h => h) (Or.inl ⟨by rfl, ?_⟩) ?_ ?_
          rotate_left
          · intro w'
            go_simp
            first | with_reducible rfl | (rw [if_neg (by omega)]; done) | (rw [if_neg (by omega)]; with_reducible rfl)
          rotate_left
          · simp only [Act.put, List.setIfInBounds_toArray, List.set_cons_zero, List.set_cons_succ, i64_w, i32_w]
            rfl
          refine pure_ (i := 15) (N := some 18) (v := ?_) (a' := ?_) #[true, false, false, false, false, true, false, false, false, false, false, true, false, false, false, true, false, false, false] rfl rfl (any_of HT_.out (by kernel_rfl)) (fun _ _ _ h => h) (Or.inl ⟨by rfl, ?_⟩) ?_ ?_
          rotate_left
          · intro w'
            go_simp
            first | with_reducible rfl | (rw [if_neg (by omega)]; done) | (rw [if_neg (by omega)]; with_reducible rfl)
          rotate_left
          · simp only [Act.put, List.setIfInBounds_toArray, List.set_cons_zero, List.set_cons_succ, i64_w, i32_w]
            rfl
          refine take_ (i := 1) (N := some 4) (v := ?_) (a' := ?_) #[true, true, false, false, false, true, false, false, false, false, false, true, false, false, false, true, false, false, false] rfl rfl (take_ofW HT_.out HW_.out (by kernel_rfl)) (fun _ _ _ h => h) (Or.inl ⟨by rfl, ?_⟩) hHeld ?_ ?_
          rotate_left
          · rintro w' ⟨s0, s1, s2⟩
            go_simp
            first | with_reducible rfl | (rw [if_neg (by omega)]; done) | (rw [if_neg (by omega)]; with_reducible rfl)
          rotate_left
          · simp only [Act.put, List.setIfInBounds_toArray, List.set_cons_zero, List.set_cons_succ, i64_w, i32_w]
            rfl
          refine pure_ (i := 2) (N := some 5) (v := ?_) (a' := ?_) #[true, true, true, false, false, true, false, false, false, false, false, true, false, false, false, true, false, false, false] rfl rfl (any_of HT_.out (by kernel_rfl)) (fun _ _ _ h => h) (Or.inl ⟨by rfl, ?_⟩) ?_ ?_
          rotate_left
          · intro w'
            go_simp
            first | with_reducible rfl | (rw [if_neg (by omega)]; done) | (rw [if_neg (by omega)]; with_reducible rfl)
          rotate_left
          · simp only [Act.put, List.setIfInBounds_toArray, List.set_cons_zero, List.set_cons_succ, i64_w, i32_w]
            rfl
          refine take_ (i := 6) (N := some 9) (v := ?_) (a' := ?_) #[true, true, true, false, false, true, true, false, false, false, false, true, false, false, false, true, false, false, false] rfl rfl (take_ofW HT_.out HW_.out (by kernel_rfl)) (fun _ _ _ h => h) (Or.inl ⟨by rfl, ?_⟩) hHeld ?_ ?_
          rotate_left
          · rintro w' ⟨s0, s1, s2⟩
            go_simp
            first | with_reducible rfl | (rw [if_neg (by omega)]; done) | (rw [if_neg (by omega)]; with_reducible rfl)
          rotate_left
          · simp only [Act.put, List.setIfInBounds_toArray, List.set_cons_zero, List.set_cons_succ, i64_w, i32_w]
            rfl
          refine pure_ (i := 7) (N := some 10) (v := ?_) (a' := ?_) #[true, true, true, false, false, true, true, true, false, false, false, true, false, false, false, true, false, false, false] rfl rfl (any_of HT_.out (by kernel_rfl)) (fun _ _ _ h => h) (Or.inl ⟨by rfl, ?_⟩) ?_ ?_
          rotate_left
          · intro w'
            go_simp
            first | with_reducible rfl | (rw [if_neg (by omega)]; done) | (rw [if_neg (by omega)]; with_reducible rfl)
          rotate_left
          · simp only [Act.put, List.setIfInBounds_toArray, List.set_cons_zero, List.set_cons_succ, i64_w, i32_w]
            rfl
          refine pure_ (i := 8) (N := some 11) (v := ?_) (a' := ?_) #[true, true, true, false, false, true, true, true, true, false, false, true, false, false, false, true, false, false, false] rfl rfl (any_of HT_.out (by kernel_rfl)) (fun _ _ _ h => h) (Or.inl ⟨by rfl, ?_⟩) ?_ ?_
          rotate_left
          · intro w'
            go_simp
            first | with_reducible rfl | (rw [if_neg (by omega)]; done) | (rw [if_neg (by omega)]; with_reducible rfl)
          rotate_left
          · simp only [Act.put, List.setIfInBounds_toArray, List.set_cons_zero, List.set_cons_succ, i64_w, i32_w]
            rfl
          refine take_ (i := 12) (N := some 15) (v := ?_) (a' := ?_) #[true, true, true, false, false, true, true, true, true, false, false, true, true, false, false, true, false, false, false] rfl rfl (take_ofW HT_.out HW_.out (by kernel_rfl)) (fun _ _ _ h => h) (Or.inl ⟨by rfl, ?_⟩) hHeld ?_ ?_
          rotate_left
          · rintro w' ⟨s0, s1, s2⟩
            go_simp
            first | with_reducible rfl | (rw [if_neg (by omega)]; done) | (rw [if_neg (by omega)]; with_reducible rfl)
          rotate_left
          · simp only [Act.put, List.setIfInBounds_toArray, List.set_cons_zero, List.set_cons_succ, i64_w, i32_w]
            rfl
          refine take_ (i := 16) (N := some 19) (v := ?_) (a' := ?_) #[true, true, true, false, false, true, true, true, true, false, false, true, true, false, false, true, true, false, false] rfl rfl (take_ofW HT_.out HW_.out (by kernel_rfl)) (fun _ _ _ h => h) (Or.inl ⟨by rfl, ?_⟩) hHeld ?_ ?_
          rotate_left
          · rintro w' ⟨s0, s1, s2⟩
            go_simp
            first | with_reducible rfl | (rw [if_neg (by omega)]; done) | (rw [if_neg (by omega)]; with_reducible rfl)
          rotate_left
          · simp only [Act.put, List.setIfInBounds_toArray, List.set_cons_zero, List.set_cons_succ, i64_w, i32_w]
            rfl
          refine one_ (i := 3) (N := some 6) #[true, true, true, true, false, true, true, true, true, false, false, true, true, false, false, true, true, false, false] rfl rfl (one_of HT_.out (by kernel_rfl)) (by decide) (fun K hK => ?_)
          refine goes_ Tryz.func25 (by kernel_rfl) rfl #[.int .u32 ((a0_0) % 4294967296)] (by rfl) rfl rfl (by (try simp only [List.map_toArray, List.map_cons, List.map_nil]); first | done | rfl | (simp only [List.length_drop, List.length_take]; rfl)) ?_
          with_reducible refine (pilcrowref16_Four.calls ((a0_0) % 4294967296) t154 _ A2.out).mono ?_
          rintro e w11 ⟨rfl, hb⟩
          refine ⟨_, rfl, ?_⟩
          have n0_ := Aside0.mk (blk_below (g := gb153) (o := .cells #[.int .i64 a0_0, .int .u32 a0_1, .string a0_2] 30 (0, 0)) (by (with_reducible repeat (first | refine blk_drewN ?_ _ | refine blk_drew ?_ | refine blk_alloc ?_ _)); exact BK153.out) hb)
          have n1_ := Aside0.mk (below_step (by repeat (first | (with_reducible first | exact HB.out | apply below_alloc | apply pw_below_drewN | apply below_drew1 | refine below_set ?_ GE153.out) | exact HB.out)) hb)
          clear BK153
          clear HB
          have BK153 := n0_
          have HB := n1_
          clear n0_ n1_
          (try clear hb)
          (try clear hb2)
          (try clear hk)
          (try clear hi)
          refine hK.out _ _ ⟨(blk_cell BK153.out 0).trans rfl, (blk_cell BK153.out 1).trans rfl, (blk_cell BK153.out 2).trans rfl⟩ (fun hHeld => ?_)
          clear hK K
          refine norm_ (a' := ?_) ?_ ?_
          rotate_left
          · show Act.put _ (some 6) _ = _
            simp only [Act.put, List.setIfInBounds_toArray, List.set_cons_zero, List.set_cons_succ, i64_w, i32_w]
            rfl
          refine pure_ (i := 4) (N := some 7) (v := ?_) (a' := ?_) #[true, true, true, true, true, true, true, true, true, false, false, true, true, false, false, true, true, false, false] rfl rfl (any_of HT_.out (by kernel_rfl)) (fun _ _ _ h => h) (Or.inl ⟨by rfl, ?_⟩) ?_ ?_
          rotate_left
          · intro w'
            go_simp
            first | with_reducible rfl | (rw [if_neg (by omega)]; done) | (rw [if_neg (by omega)]; with_reducible rfl)
          rotate_left
          · simp only [Act.put, List.setIfInBounds_toArray, List.set_cons_zero, List.set_cons_succ, i64_w, i32_w]
            rfl
          refine one_ (i := 9) (N := some 12) #[true, true, true, true, true, true, true, true, true, true, false, true, true, false, false, true, true, false, false] rfl rfl (one_of HT_.out (by kernel_rfl)) (by decide) (fun K hK => ?_)
          refine goes_ Tryz.func25 (by kernel_rfl) rfl #[.int .u32 (((a0_2.size : Int)) % 4294967296)] (by rfl) rfl rfl (by (try simp only [List.map_toArray, List.map_cons, List.map_nil]); first | done | rfl | (simp only [List.length_drop, List.length_take]; rfl)) ?_
          with_reducible refine (pilcrowref16_Four.calls (((a0_2.size : Int)) % 4294967296) t155 _ A4.out).mono ?_
          rintro e w12 ⟨rfl, hb⟩
          refine ⟨_, rfl, ?_⟩
          have n0_ := Aside0.mk (blk_below (g := gb153) (o := .cells #[.int .i64 a0_0, .int .u32 a0_1, .string a0_2] 30 (0, 0)) (by (with_reducible repeat (first | refine blk_drewN ?_ _ | refine blk_drew ?_ | refine blk_alloc ?_ _)); exact BK153.out) hb)
          have n1_ := Aside0.mk (below_step (by repeat (first | (with_reducible first | exact HB.out | apply below_alloc | apply pw_below_drewN | apply below_drew1 | refine below_set ?_ GE153.out) | exact HB.out)) hb)
          clear BK153
          clear HB
          have BK153 := n0_
          have HB := n1_
          clear n0_ n1_
          (try clear hb)
          (try clear hb2)
          (try clear hk)
          (try clear hi)
          refine hK.out _ _ ⟨(blk_cell BK153.out 0).trans rfl, (blk_cell BK153.out 1).trans rfl, (blk_cell BK153.out 2).trans rfl⟩ (fun hHeld => ?_)
          clear hK K
          refine norm_ (a' := ?_) ?_ ?_
          rotate_left
          · show Act.put _ (some 12) _ = _
            simp only [Act.put, List.setIfInBounds_toArray, List.set_cons_zero, List.set_cons_succ, i64_w, i32_w]
            rfl
          refine pure_ (i := 10) (N := some 13) (v := ?_) (a' := ?_) #[true, true, true, true, true, true, true, true, true, true, true, true, true, false, false, true, true, false, false] rfl rfl (any_of HT_.out (by kernel_rfl)) (fun _ _ _ h => h) (Or.inl ⟨by rfl, ?_⟩) ?_ ?_
          rotate_left
          · intro w'
            go_simp
            first | with_reducible rfl | (rw [if_neg (by omega)]; done) | (rw [if_neg (by omega)]; with_reducible rfl)
          rotate_left
          · simp only [Act.put, List.setIfInBounds_toArray, List.set_cons_zero, List.set_cons_succ, i64_w, i32_w]
            rfl
          refine one_ (i := 13) (N := some 16) #[true, true, true, true, true, true, true, true, true, true, true, true, true, true, false, true, true, false, false] rfl rfl (one_of HT_.out (by kernel_rfl)) (by decide) (fun K hK => ?_)
          refine goes_ Tryz.func25 (by kernel_rfl) rfl #[.int .u32 a0_1] (by rfl) rfl rfl (by (try simp only [List.map_toArray, List.map_cons, List.map_nil]); first | done | rfl | (simp only [List.length_drop, List.length_take]; rfl)) ?_
          with_reducible refine (pilcrowref16_Four.calls a0_1 t156 _ A6.out).mono ?_
          rintro e w13 ⟨rfl, hb⟩
          refine ⟨_, rfl, ?_⟩
          have n0_ := Aside0.mk (blk_below (g := gb153) (o := .cells #[.int .i64 a0_0, .int .u32 a0_1, .string a0_2] 30 (0, 0)) (by (with_reducible repeat (first | refine blk_drewN ?_ _ | refine blk_drew ?_ | refine blk_alloc ?_ _)); exact BK153.out) hb)
          have n1_ := Aside0.mk (below_step (by repeat (first | (with_reducible first | exact HB.out | apply below_alloc | apply pw_below_drewN | apply below_drew1 | refine below_set ?_ GE153.out) | exact HB.out)) hb)
          clear BK153
          clear HB
          have BK153 := n0_
          have HB := n1_
          clear n0_ n1_
          (try clear hb)
          (try clear hb2)
          (try clear hk)
          (try clear hi)
          refine hK.out _ _ ⟨(blk_cell BK153.out 0).trans rfl, (blk_cell BK153.out 1).trans rfl, (blk_cell BK153.out 2).trans rfl⟩ (fun hHeld => ?_)
          clear hK K
          refine norm_ (a' := ?_) ?_ ?_
          rotate_left
          · show Act.put _ (some 16) _ = _
            simp only [Act.put, List.setIfInBounds_toArray, List.set_cons_zero, List.set_cons_succ, i64_w, i32_w]
            rfl
          refine pure_ (i := 14) (N := some 17) (v := ?_) (a' := ?_) #[true, true, true, true, true, true, true, true, true, true, true, true, true, true, true, true, true, false, false] rfl rfl (any_of HT_.out (by kernel_rfl)) (fun _ _ _ h => h) (Or.inl ⟨by rfl, ?_⟩) ?_ ?_
          rotate_left
          · intro w'
            go_simp
            first | with_reducible rfl | (rw [if_neg (by omega)]; done) | (rw [if_neg (by omega)]; with_reducible rfl)
          rotate_left
          · simp only [Act.put, List.setIfInBounds_toArray, List.set_cons_zero, List.set_cons_succ, i64_w, i32_w]
            rfl
          refine pure_ (i := 17) (N := some 20) (v := ?_) (a' := ?_) #[true, true, true, true, true, true, true, true, true, true, true, true, true, true, true, true, true, true, false] rfl rfl (any_of HT_.out (by kernel_rfl)) (fun _ _ _ h => h) (Or.inl ⟨by rfl, ?_⟩) ?_ ?_
          rotate_left
          · intro w'
            go_simp
            first | with_reducible rfl | (rw [if_neg (by omega)]; done) | (rw [if_neg (by omega)]; with_reducible rfl)
          rotate_left
          · simp only [Act.put, List.setIfInBounds_toArray, List.set_cons_zero, List.set_cons_succ, i64_w, i32_w]
            rfl
          refine pure_ (i := 18) (N := some 2) (v := ?_) (a' := ?_) #[true, true, true, true, true, true, true, true, true, true, true, true, true, true, true, true, true, true, true] rfl rfl (any_of HT_.out (by kernel_rfl)) (fun _ _ _ h => h) (Or.inl ⟨by rfl, ?_⟩) ?_ ?_
          rotate_left
          · intro w'
            go_simp
            first | with_reducible rfl | (rw [if_neg (by omega)]; done) | (rw [if_neg (by omega)]; with_reducible rfl)
          rotate_left
          · simp only [Act.put, List.setIfInBounds_toArray, List.set_cons_zero, List.set_cons_succ, i64_w, i32_w]
            rfl
          refine done_ (done_of HT_.out (by kernel_rfl)) ?_
          try go_wp2
          go_ret
          exact ⟨by first | rfl | (simp [errW_none, errW_some] <;> rfl) | (simp [*, errW_none, errW_some] <;> rfl), by repeat (first | (with_reducible first | exact HB.out | apply below_alloc | apply pw_below_drewN | apply below_drew1 | refine below_set ?_ GE153.out) | exact HB.out)⟩
        · rw [if_neg c8] at H
          exact absurd H (by simp)
      · rw [if_neg c7] at H
        exact absurd H (by simp)
    · rw [if_neg c5] at H
      exact absurd H (by simp)
  · rw [if_neg c3] at H
    exact absurd H (by simp)

/-! ### block_right: function 23 -/
def block_right.j0 : Nat → Bool → Int → Int → ByteArray → Option (Int)
  | 0, _, _, _, _ => none
  | k + 1, x3, x158000, x158001, x158002 => if x3 = true then (some 8) else (if (x158002.size : Int) < 1 then (some 5) else (if (x158002.size : Int) > 1048576 then (some 5) else (some 0)))
def block_right.f (k : Nat) (a0_0 : Int) (a0_1 : Int) (a0_2 : ByteArray) : Option (Int) := if a0_0 < 1 then (block_right.j0 k true a0_0 a0_1 a0_2) else (block_right.j0 k (decide (a0_0 > 65536)) a0_0 a0_1 a0_2)
theorem block_right.mono_l : ∀ k, (∀ y0 y1 y2 y3, LeO (block_right.j0 k y0 y1 y2 y3) (block_right.j0 (k + 1) y0 y1 y2 y3))
  | 0 => fun _ _ _ _ r h => by simp [block_right.j0] at h
  | k + 1 => by
    have ih0 := block_right.mono_l k
    · intro y0 y1 y2 y3
      unfold block_right.j0
      repeat' first
      | (with_reducible exact ih0 _ _ _ _)
      | (with_reducible exact LeO.refl _)
      | (with_reducible exact LeO.none _)
      | (with_reducible refine LeO.ite ?_ ?_)
      | (with_reducible refine LeO.bind ?_ (fun _ => ?_))
      | exact ih0 _ _ _ _
      | exact LeO.none _
      | refine LeO.ite ?_ ?_
      | refine LeO.bind ?_ (fun _ => ?_)
theorem block_right.mono : ∀ a0 a1 a2 k, LeO (block_right.f k a0 a1 a2) (block_right.f (k + 1) a0 a1 a2) := by
  intro a0 a1 a2 k
  have ih0 := block_right.mono_l k
  unfold block_right.f
  repeat' first
      | (with_reducible exact ih0 _ _ _ _)
      | (with_reducible exact LeO.refl _)
      | (with_reducible exact LeO.none _)
      | (with_reducible refine LeO.ite ?_ ?_)
      | (with_reducible refine LeO.bind ?_ (fun _ => ?_))
      | exact ih0 _ _ _ _
      | exact LeO.none _
      | refine LeO.ite ?_ ?_
      | refine LeO.bind ?_ (fun _ => ?_)
set_option maxHeartbeats 8000000 in
set_option maxRecDepth 100000 in
theorem block_right.calls (k : Nat) (a0_0 : Int) (a0_1 : Int) (a0_2 : ByteArray) (r : Int) (w : World) (h : block_right.f k a0_0 a0_1 a0_2 = some r) :
    Calls Tryz.prog 23 #[.agg #[.int .i64 a0_0, .int .u32 a0_1, .string a0_2]] w fun e w' => e = .returned (.int .i64 r) ∧ Below w.heap.size w w' := by
  have hu30 := Tryz.underlying30
  have HB := Aside0.mk (Below.refl w.heap.size w)
  have e66z : (⟨#[66]⟩ : ByteArray).size = 1 := rfl
  have e66y : (strOfNums ([66] : List Int)).size = 1 := rfl
  have H : (if a0_0 < 1 then (block_right.j0 k true a0_0 a0_1 a0_2) else (block_right.j0 k (decide (a0_0 > 65536)) a0_0 a0_1 a0_2)) = some r := h
  clear h
  have HC2 := Aside0.mk H
  clear H
  go_enter Tryz.func23, Tryz.ntmps23
  go_upto_region 1 with (first | ((with_reducible refine gate_dst (N := 1) rfl ?_); (try (refine gate_guard (by rfl) ?_; dsimp only)); refine box_event ?hg (N := 1) ?hd (cs := #[.int .i64 a0_0, .int .u32 a0_1, .string a0_2]) (t := 30) ?hr ?_; (case hd => rfl); (case hg => rfl); (case hr => first | (go_simp; done) | (go_simp; rfl)); intro gb157 hg w3 hbox hb; have n0_ := Aside0.mk (below_step (by repeat (first | (with_reducible first | exact HB.out | apply below_alloc | apply pw_below_drewN | apply below_drew1) | exact HB.out)) hb); have n1_ := Aside0.mk (hbox); have n2_ := Aside0.mk ((by rw [hg]; exact (below_size (by repeat (first | (with_reducible first | exact HB.out | apply below_alloc | apply pw_below_drewN | apply below_drew1) | exact HB.out))) : w.heap.size ≤ gb157)); have n3_ := Aside0.mk ((by rw [hg]; exact (below_size (by repeat (first | (with_reducible first | exact HB.out | apply below_alloc | apply pw_below_drewN | apply below_drew1) | exact HB.out))) : w.heap.size ≤ gb157)); clear HB; have HB := n0_; have BK157 := n1_; have GW157 := n2_; have GE157 := n3_; clear n0_ n1_ n2_ n3_; clear hb hbox hg))
  (try simp only [Act.put, List.setIfInBounds_toArray, List.set_cons_zero, List.set_cons_succ])
  go_cut [3] (fun v3 wc => ∃ (kq : Nat) (x3_1 : Bool), v3 = .bool x3_1 ∧ Aside0 (block_right.j0 kq x3_1 a0_0 a0_1 a0_2 = some r) ∧ Aside0 (kq ≤ k) ∧ Aside0 (wc.heap[gb157]? = some (.cells #[.int .i64 a0_0, .int .u32 a0_1, .string a0_2] 30 (0, 0))) ∧ Aside0 (Below w.heap.size w wc))
  case first =>
    have H := HC2.out
    clear HC2
    by_cases c4 : a0_0 < 1
    · rw [if_pos c4] at H
      have c4z := c4
      try simp only [ByteArray.size_append] at c4z
      have c4b0 : decide (a0_0 < 1) = true := decide_eq_true c4
      clear c4
      (first | rw [c4b0] | (simp only [i64_w, i32_w]; rw [c4b0]) | skip)
      have H' := Aside0.mk H
      clear H
      have hcz5_0 : w3.cell? ⟨gb157, 0, none⟩ = some (.int .i64 a0_0) := (blk_cell BK157.out 0).trans rfl
      have hcz5_1 : w3.cell? ⟨gb157, 1, none⟩ = some (.int .u32 a0_1) := (blk_cell BK157.out 1).trans rfl
      have hcz5_2 : w3.cell? ⟨gb157, 2, none⟩ = some (.string a0_2) := (blk_cell BK157.out 2).trans rfl
      have hfz5_0 := blk_frozen BK157.out 0
      have hfz5_1 := blk_frozen BK157.out 1
      have hfz5_2 := blk_frozen BK157.out 2
      go_wp2
      go_meet
      case rel => exact ⟨_, (true), (by first | rfl | (simp; done) | (simp [*]; done)), H', ⟨by first | omega | exact Nat.le_refl _⟩, ⟨by (with_reducible repeat (first | refine blk_drewN ?_ _ | refine blk_drew ?_ | refine blk_alloc ?_ _)); exact BK157.out⟩, ⟨by repeat (first | (with_reducible first | exact HB.out | apply below_alloc | apply pw_below_drewN | apply below_drew1 | refine below_set ?_ GE157.out) | exact HB.out)⟩⟩
    · rw [if_neg c4] at H
      have c4b0 : decide (a0_0 < 1) = false := decide_eq_false c4
      clear c4
      (first | rw [c4b0] | (simp only [i64_w, i32_w]; rw [c4b0]) | skip)
      have H' := Aside0.mk H
      clear H
      have hcz6_0 : w3.cell? ⟨gb157, 0, none⟩ = some (.int .i64 a0_0) := (blk_cell BK157.out 0).trans rfl
      have hcz6_1 : w3.cell? ⟨gb157, 1, none⟩ = some (.int .u32 a0_1) := (blk_cell BK157.out 1).trans rfl
      have hcz6_2 : w3.cell? ⟨gb157, 2, none⟩ = some (.string a0_2) := (blk_cell BK157.out 2).trans rfl
      have hfz6_0 := blk_frozen BK157.out 0
      have hfz6_1 := blk_frozen BK157.out 1
      have hfz6_2 := blk_frozen BK157.out 2
      go_wp2
      go_meet
      case rel => exact ⟨_, (decide (a0_0 > 65536)), (by first | rfl | (simp; done) | (simp [*]; done)), H', ⟨by first | omega | exact Nat.le_refl _⟩, ⟨by (with_reducible repeat (first | refine blk_drewN ?_ _ | refine blk_drew ?_ | refine blk_alloc ?_ _)); exact BK157.out⟩, ⟨by repeat (first | (with_reducible first | exact HB.out | apply below_alloc | apply pw_below_drewN | apply below_drew1 | refine below_set ?_ GE157.out) | exact HB.out)⟩⟩
  case rest =>
    clear HC2
    try clear c2
    try clear p2
    try clear c4
    try clear c4b0
    try clear hcz5_0
    try clear hcz5_1
    try clear hcz5_2
    try clear hcz6_0
    try clear hcz6_1
    try clear hcz6_2
    try clear hfz5_0
    try clear hfz5_1
    try clear hfz5_2
    try clear hfz6_0
    try clear hfz6_1
    try clear hfz6_2
    obtain ⟨kq, x3_1, rfl, HA, HJ1, BK157, HB⟩ := hcut
    cases kq with
    | zero => exact absurd HA.out (by simp [block_right.j0])
    | succ kj1 =>
      have H := HA.out
      clear HA
      simp only [block_right.j0] at H
      by_cases c7 : x3_1 = true
      · subst c7
        have H1 : (some 8) = some r := by rw [if_pos rfl] at H; exact H
        clear H
        have H := H1
        clear H1
        obtain rfl := Option.some.inj H
        go_wp2
        go_ret
        exact ⟨by first | rfl | (simp [errW_none, errW_some] <;> rfl) | (simp [*, errW_none, errW_some] <;> rfl), by repeat (first | (with_reducible first | exact HB.out | apply below_alloc | apply pw_below_drewN | apply below_drew1 | refine below_set ?_ GE157.out) | exact HB.out)⟩
      · replace c7 := Bool.eq_false_iff.mpr c7
        subst c7
        have H1 : (if (a0_2.size : Int) < 1 then (some 5) else (if (a0_2.size : Int) > 1048576 then (some 5) else (some 0))) = some r := by rw [if_neg (show ¬ (false = true) by decide)] at H; exact H
        clear H
        have H := H1
        clear H1
        by_cases c8 : (a0_2.size : Int) < 1
        · rw [if_pos c8] at H
          have c8z := c8
          try simp only [ByteArray.size_append] at c8z
          have c8b0 : decide ((a0_2.size : Int) < 1) = true := decide_eq_true c8
          have c8b1 : decide (a0_2.size < 1) = true := decide_eq_true (by omega)
          clear c8
          obtain rfl := Option.some.inj H
          have hcz9_0 : wc.cell? ⟨gb157, 0, none⟩ = some (.int .i64 a0_0) := (blk_cell BK157.out 0).trans rfl
          have hcz9_1 : wc.cell? ⟨gb157, 1, none⟩ = some (.int .u32 a0_1) := (blk_cell BK157.out 1).trans rfl
          have hcz9_2 : wc.cell? ⟨gb157, 2, none⟩ = some (.string a0_2) := (blk_cell BK157.out 2).trans rfl
          have hfz9_0 := blk_frozen BK157.out 0
          have hfz9_1 := blk_frozen BK157.out 1
          have hfz9_2 := blk_frozen BK157.out 2
          go_wp2
          go_ret
          exact ⟨by first | rfl | (simp [errW_none, errW_some] <;> rfl) | (simp [*, errW_none, errW_some] <;> rfl), by repeat (first | (with_reducible first | exact HB.out | apply below_alloc | apply pw_below_drewN | apply below_drew1 | refine below_set ?_ GE157.out) | exact HB.out)⟩
        · rw [if_neg c8] at H
          have c8b0 : decide ((a0_2.size : Int) < 1) = false := decide_eq_false c8
          have c8b1 : decide (a0_2.size < 1) = false := decide_eq_false (by omega)
          clear c8
          by_cases c10 : (a0_2.size : Int) > 1048576
          · rw [if_pos c10] at H
            have c10z := c10
            try simp only [ByteArray.size_append] at c10z
            have c10b0 : decide (1048576 < (a0_2.size : Int)) = true := decide_eq_true c10
            have c10b1 : decide (1048576 < a0_2.size) = true := decide_eq_true (by omega)
            clear c10
            obtain rfl := Option.some.inj H
            have hcz11_0 : wc.cell? ⟨gb157, 0, none⟩ = some (.int .i64 a0_0) := (blk_cell BK157.out 0).trans rfl
            have hcz11_1 : wc.cell? ⟨gb157, 1, none⟩ = some (.int .u32 a0_1) := (blk_cell BK157.out 1).trans rfl
            have hcz11_2 : wc.cell? ⟨gb157, 2, none⟩ = some (.string a0_2) := (blk_cell BK157.out 2).trans rfl
            have hfz11_0 := blk_frozen BK157.out 0
            have hfz11_1 := blk_frozen BK157.out 1
            have hfz11_2 := blk_frozen BK157.out 2
            go_wp2
            go_ret
            exact ⟨by first | rfl | (simp [errW_none, errW_some] <;> rfl) | (simp [*, errW_none, errW_some] <;> rfl), by repeat (first | (with_reducible first | exact HB.out | apply below_alloc | apply pw_below_drewN | apply below_drew1 | refine below_set ?_ GE157.out) | exact HB.out)⟩
          · rw [if_neg c10] at H
            have c10b0 : decide (1048576 < (a0_2.size : Int)) = false := decide_eq_false c10
            have c10b1 : decide (1048576 < a0_2.size) = false := decide_eq_false (by omega)
            clear c10
            obtain rfl := Option.some.inj H
            have hcz12_0 : wc.cell? ⟨gb157, 0, none⟩ = some (.int .i64 a0_0) := (blk_cell BK157.out 0).trans rfl
            have hcz12_1 : wc.cell? ⟨gb157, 1, none⟩ = some (.int .u32 a0_1) := (blk_cell BK157.out 1).trans rfl
            have hcz12_2 : wc.cell? ⟨gb157, 2, none⟩ = some (.string a0_2) := (blk_cell BK157.out 2).trans rfl
            have hfz12_0 := blk_frozen BK157.out 0
            have hfz12_1 := blk_frozen BK157.out 1
            have hfz12_2 := blk_frozen BK157.out 2
            go_wp2
            go_ret
            exact ⟨by first | rfl | (simp [errW_none, errW_some] <;> rfl) | (simp [*, errW_none, errW_some] <;> rfl), by repeat (first | (with_reducible first | exact HB.out | apply below_alloc | apply pw_below_drewN | apply below_drew1 | refine below_set ?_ GE157.out) | exact HB.out)⟩

/-! ### crc_Four: function 24 -/
def crc_Four.f (a0 : Int) : Option (ByteArray) := some (strOfNums (([(a0) % 256, (a0 / 256) % 256, (a0 / 65536) % 256, (a0 / 16777216) % 256] : List Int)))
set_option maxHeartbeats 8000000 in
set_option maxRecDepth 100000 in
theorem crc_Four.calls (a0 : Int) (r : ByteArray) (w : World) (h : crc_Four.f a0 = some r) :
    Calls Tryz.prog 24 #[.int .u32 a0] w fun e w' => e = .returned (.string r) ∧ Below w.heap.size w w' := by
  have HB := Aside0.mk (Below.refl w.heap.size w)
  have e66z : (⟨#[66]⟩ : ByteArray).size = 1 := rfl
  have e66y : (strOfNums ([66] : List Int)).size = 1 := rfl
  have H : (some (strOfNums (([(a0) % 256, (a0 / 256) % 256, (a0 / 65536) % 256, (a0 / 16777216) % 256] : List Int)))) = some r := h
  clear h
  obtain ⟨y158, hy158⟩ : ∃ y_ : List Int, y_ = (([(a0) % 256, (a0 / 256) % 256, (a0 / 65536) % 256, (a0 / 16777216) % 256] : List Int)) := ⟨_, rfl⟩
  replace H : (some (strOfNums y158)) = some r := by first | (rw [hy158]; with_reducible exact H) | (have H2_ := (Option.bind_some _ _).symm.trans H; rw [hy158]; with_reducible exact H2_) | (have H2_ := (Option.bind_some _ _).symm.trans H; with_reducible exact H2_) | with_reducible exact H | (rw [hy158]; exact H) | exact H
  have Ny158 := Aside0.mk hy158
  clear hy158
  obtain rfl := Option.some.inj H
  go_enter Tryz.func24, Tryz.ntmps24
  go_wp2_with (first | ((with_reducible refine gate_dst (N := 14) rfl ?_); refine Kd.R_lit (Kd.int .u8) _ 5 ?hg (N := 14) ?hd (xs := ([(a0) % 256, (a0 / 256) % 256, (a0 / 65536) % 256, (a0 / 16777216) % 256] : List Int)) (inner := [.int .u8 ((a0) % 256), .int .u8 ((a0 / 256) % 256), .int .u8 ((a0 / 65536) % 256), .int .u8 ((a0 / 16777216) % 256)]) (ok := fun _ => True) (okp := fun _ => True) ?hr ?hp (fun _ hk => hk) trivial (Below.refl _ _) (Nat.le_refl _) (by simp) ?_; (case hd => rfl); (case hg => rfl); (case hr => first | (go_simp; done) | (go_simp; rfl)); (case hp => exact (Reps.one (show Kd.M (Kd.int .u8) _ _ _ ((a0) % 256) [.int .u8 ((a0) % 256)] from rfl) (Reps.one (show Kd.M (Kd.int .u8) _ _ _ ((a0 / 256) % 256) [.int .u8 ((a0 / 256) % 256)] from rfl) (Reps.one (show Kd.M (Kd.int .u8) _ _ _ ((a0 / 65536) % 256) [.int .u8 ((a0 / 65536) % 256)] from rfl) (Reps.one (show Kd.M (Kd.int .u8) _ _ _ ((a0 / 16777216) % 256) [.int .u8 ((a0 / 16777216) % 256)] from rfl) (Reps.none _ _)))))); intro v159 w2 ho3 hb hg_ hnew_; clear hg_ hnew_; (first | rw [← Ny158.out] at ho3 | (simp only [Int.reduceToNat] at ho3; rw [← Ny158.out] at ho3)); have n0_ := Aside0.mk (Kd.R_lower ho3 (below_size (by repeat (first | (with_reducible first | exact HB.out | apply below_alloc | apply pw_below_drewN | apply below_drew1) | exact HB.out)))); have n1_ := Aside0.mk (below_step (by repeat (first | (with_reducible first | exact HB.out | apply below_alloc | apply pw_below_drewN | apply below_drew1) | exact HB.out)) hb); clear HB; have HO160 := n0_; have HB := n1_; clear n0_ n1_; clear hb ho3; have hcv4 := own_string (P := Tryz.prog) Tryz.underlying63 Tryz.underlying5 Tryz.underlying9 (Kd.own_of_R HO160.out)))
  go_ret
  exact ⟨by first | rfl | (simp [errW_none, errW_some] <;> rfl) | (simp [*, errW_none, errW_some] <;> rfl), by repeat (first | (with_reducible first | exact HB.out | apply below_alloc | apply pw_below_drewN | apply below_drew1) | exact HB.out)⟩

end Go.Proofs.YtcofkjiaiiiooaaGreat.PBz
