/- Joined texts: VPPtx4, VPPtx. -/
import Derived.Test.YtppchdinolndmaaGreatDoorMVPPtx0
namespace Go.Proofs.YtppchdinolndmaaGreatDoor.PPt
open Go.RowKit Go.Proofs.YtppchdinolndmaaGreatDoorW.PrintWords Go.Proofs.YtppchdinolndmaaGreatDoorW.PrintLast Go.Proofs.YtppchdinolndmaaGreatDoorW.PrintMore
attribute [local go_sem] max2_int min2_int max_two min_two max_three min_three max_four min_four   -- for this text's walks alone
set_option linter.unusedVariables false
set_option linter.unusedSimpArgs false
def pilcrowref23_count.l0 : Nat → List Int → Int → Int → Int → Option (Int)
 | 0, _, _, _, _ => none
 | k + 1, x0, x1, x5, x6 => if x6 < (x0.length : Int) then (if 0 ≤ x6 then ((pilcrowref01_Class.f k (rd x0 x6)).bind fun t126 => (if t126 = x1 then (pilcrowref23_count.l0 k x0 x1 (wrap64 (x5 + 1)) (wrap64 (x6 + 1))) else (pilcrowref23_count.l0 k x0 x1 x5 (wrap64 (x6 + 1))))) else (none)) else (some x5)
def pilcrowref23_count.f (k : Nat) (l0 : List Int) (a1 : Int) : Option (Int) := pilcrowref23_count.l0 k l0 a1 0 0
set_option maxHeartbeats 8000000 in
set_option maxRecDepth 100000 in
theorem pilcrowref23_count.calls (k : Nat) (A0 : Option Addr) (c0 : Nat) (l0 : List Int) (a1 : Int) (r : Int) (w : World) (hr0 : Kd.C (Kd.int .u32) w A0 l0.length l0) (hc0 : l0.length ≤ c0) (h : pilcrowref23_count.f k l0 a1 = some r) :
  Calls Tryz.prog 22 #[.slice A0 l0.length c0, .int .i64 a1] w fun e w' => e = .returned (.int .i64 r) ∧ Drawn0 w w' := by
 have HR0 := Aside0.mk hr0
 have HC0 := Aside0.mk hc0
 clear hr0 hc0
 have H : (pilcrowref23_count.l0 k l0 a1 0 0) = some r := h
 clear h
 have H' := Aside0.mk H
 clear H
 go_enter Tryz.func22, Tryz.ntmps22
 go_wp2
 go_loopg [5, 6] k (fun kq v5 v6 w' => ∃ (x5_1 : Int) (x6_1 : Int), v5 = .int .i64 x5_1 ∧ v6 = .int .i64 x6_1 ∧ Aside0 (pilcrowref23_count.l0 kq l0 a1 x5_1 x6_1 = some r) ∧ Aside0 (kq ≤ k) ∧ Drawn0 w w')
 case atStart => exact ⟨(0), (0), (by first | rfl | (simp; done) | (simp [*]; done)), (by first | rfl | (simp; done) | (simp [*]; done)), H', ⟨Nat.le_refl _⟩, by repeat (first | exact Drawn0.refl _ | apply Drawn0.step)⟩
 case round =>
  clear H'
  try clear c2
  try clear p2
  obtain ⟨x5_1, x6_1, rfl, rfl, HA, HK1, ⟨m1, rfl⟩⟩ := hrel
  cases gk with
  | zero => exact absurd HA.out (by simp [pilcrowref23_count.l0])
  | succ k1 =>
   have H := HA.out
   clear HA
   simp only [pilcrowref23_count.l0] at H
   by_cases c3 : x6_1 < (l0.length : Int)
   ·rw [if_pos c3] at H
    have c3b0 : decide (x6_1 < (l0.length : Int)) = true := decide_eq_true c3
    clear c3
    by_cases c4 : 0 ≤ x6_1
    ·rw [if_pos c4] at H
     have c4b0 : decide (0 ≤ x6_1) = true := decide_eq_true c4
     clear c4
     replace H := Option.bind_eq_some_iff.mp H
     obtain ⟨t126, A50, H⟩ := H
     replace H : (if t126 = a1 then (pilcrowref23_count.l0 k1 l0 a1 (wrap64 (x5_1 + 1)) (wrap64 (x6_1 + 1))) else (pilcrowref23_count.l0 k1 l0 a1 x5_1 (wrap64 (x6_1 + 1)))) = some r := H
     have A5 := Aside0.mk A50
     clear A50
     by_cases c6 : t126 = a1
     ·rw [if_pos c6] at H
      have c6b0 : (t126 == a1) = true := beq_iff_eq.mpr c6
      have c6b1 : (t126 != a1) = false := bne_eq_false_iff_eq.mpr c6
      clear c6
      have H' := Aside0.mk H
      clear H
      have p125 : 0 ≤ (x6_1 : Int) := of_decide_eq_true (by first | (with_reducible assumption) | assumption)
      have q125 : x6_1 < (l0.length : Int) := of_decide_eq_true (by first | (with_reducible assumption) | assumption)
      obtain ⟨ad125, e125, hx125_0⟩ := Kd.at_int HR0.out x6_1 p125 q125
      cases e125
      replace p125 := eq_true p125
      replace q125 := eq_true q125
      go_wp2_with (first | ((with_reducible refine gate_callee (f := 32) rfl ?_); refine goesL_ (some 17) rfl rfl Tryz.func32 (by kernel_rfl) rfl #[.int .u32 (rd l0 x6_1)] rfl (by (try simp only [List.map_toArray, List.map_cons, List.map_nil]); first | done | rfl | (simp only [List.length_drop, List.length_take]; rfl)) ?_; (with_reducible refine (pilcrowref01_Class.calls k1 (rd l0 x6_1) t126 _ A5.out).mono ?_); rintro e w' ⟨rfl, ⟨nd, rfl⟩⟩; refine ⟨_, rfl, ?_⟩))
      go_roundg k1
      case measure => have := HK1.out; omega
      case rel => exact ⟨(wrap64 (x5_1 + 1)), (wrap64 (x6_1 + 1)), (by first | rfl | (simp; done) | (simp [*]; done)), (by first | rfl | (simp; done) | (simp [*]; done)), H', ⟨by have := HK1.out; omega⟩, by repeat (first | exact Drawn0.refl _ | apply Drawn0.step)⟩
     ·rw [if_neg c6] at H
      have c6b0 : (t126 == a1) = false := beq_eq_false_iff_ne.mpr c6
      have c6b1 : (t126 != a1) = true := bne_iff_ne.mpr c6
      have H' := Aside0.mk H
      clear H
      have p125 : 0 ≤ (x6_1 : Int) := of_decide_eq_true (by first | (with_reducible assumption) | assumption)
      have q125 : x6_1 < (l0.length : Int) := of_decide_eq_true (by first | (with_reducible assumption) | assumption)
      obtain ⟨ad125, e125, hx125_0⟩ := Kd.at_int HR0.out x6_1 p125 q125
      cases e125
      replace p125 := eq_true p125
      replace q125 := eq_true q125
      go_wp2_with (first | ((with_reducible refine gate_callee (f := 32) rfl ?_); refine goesL_ (some 17) rfl rfl Tryz.func32 (by kernel_rfl) rfl #[.int .u32 (rd l0 x6_1)] rfl (by (try simp only [List.map_toArray, List.map_cons, List.map_nil]); first | done | rfl | (simp only [List.length_drop, List.length_take]; rfl)) ?_; (with_reducible refine (pilcrowref01_Class.calls k1 (rd l0 x6_1) t126 _ A5.out).mono ?_); rintro e w' ⟨rfl, ⟨nd, rfl⟩⟩; refine ⟨_, rfl, ?_⟩))
      go_roundg k1
      case measure => have := HK1.out; omega
      case rel => exact ⟨(x5_1), (wrap64 (x6_1 + 1)), (by first | rfl | (simp; done) | (simp [*]; done)), (by first | rfl | (simp; done) | (simp [*]; done)), H', ⟨by have := HK1.out; omega⟩, by repeat (first | exact Drawn0.refl _ | apply Drawn0.step)⟩
    ·rw [if_neg c4] at H
     exact absurd H (by simp)
   ·rw [if_neg c3] at H
    have c3b0 : decide (x6_1 < (l0.length : Int)) = false := decide_eq_false c3
    clear c3
    obtain rfl := Option.some.inj H
    go_wp2
    go_ret
    exact ⟨by first | rfl | (simp; done) | (simp [*]; done), by repeat (first | exact Drawn0.refl _ | apply Drawn0.step)⟩
mutual
def pilcrowref23_Of.l0 : Nat → List Int → List Int → Int → Option (Int × Int × Int × Int × Int × Int × Int × Int × Int × Int × Int)
 | 0, _, _, _ => none
 | k + 1, x0, x3, x4 => if x4 < (x0.length : Int) then (if 0 ≤ x4 then ((pilcrowref01_Is.f (rd x0 x4)).bind fun t132 => (if t132 = true then (if x3.length < 35184372088832 then (pilcrowref23_Of.l0 k x0 (x3 ++ [rd x0 x4]) (wrap64 (x4 + 1))) else (none)) else (pilcrowref23_Of.l0 k x0 x3 (wrap64 (x4 + 1))))) else (none)) else ((pilcrowref01_Units.f k x3).bind fun t137 => ((pilcrowref03_Bytes.f k x3).bind fun t138 => ((pilcrowref23_count.f k x3 1).bind fun t139 => ((pilcrowref23_count.f k x3 2).bind fun t140 => ((pilcrowref23_count.f k x3 3).bind fun t141 => ((pilcrowref23_count.f k x3 4).bind fun t142 => ((pilcrowref23_count.f k x3 5).bind fun t143 => ((pilcrowref23_count.f k x3 6).bind fun t144 => (pilcrowref23_Of.l1 k x3 0 (x3.length : Int) t137 (t138.size : Int) t139 t140 t141 t142 t143 t144 0 0)))))))))
def pilcrowref23_Of.l1 : Nat → List Int → Int → Int → Int → Int → Int → Int → Int → Int → Int → Int → Int → Int → Option (Int × Int × Int × Int × Int × Int × Int × Int × Int × Int × Int)
 | 0, _, _, _, _, _, _, _, _, _, _, _, _, _ => none
 | k + 1, x3, x6, x146000, x146001, x146002, x146003, x146004, x146005, x146006, x146007, x146008, x146009, x146010 => if x6 < (x3.length : Int) then (if x6 = 0 then (pilcrowref23_Of.j2 k x3 x6 true x146000 x146001 x146002 x146003 x146004 x146005 x146006 x146007 x146008 x146009 x146010) else (if 0 ≤ x6 then (pilcrowref23_Of.j2 k x3 x6 (decide ((rd x3 x6) < x146009)) x146000 x146001 x146002 x146003 x146004 x146005 x146006 x146007 x146008 x146009 x146010) else (none))) else (some (x146000, x146001, x146002, x146003, x146004, x146005, x146006, x146007, x146008, x146009, x146010))
def pilcrowref23_Of.j2 : Nat → List Int → Int → Bool → Int → Int → Int → Int → Int → Int → Int → Int → Int → Int → Int → Option (Int × Int × Int × Int × Int × Int × Int × Int × Int × Int × Int)
 | 0, _, _, _, _, _, _, _, _, _, _, _, _, _, _ => none
 | k + 1, x3, x6, x62, x146000, x146001, x146002, x146003, x146004, x146005, x146006, x146007, x146008, x146009, x146010 => if x62 = true then (if 0 ≤ x6 then (if x6 < (x3.length : Int) then (if (rd x3 x6) > x146010 then (pilcrowref23_Of.l1 k x3 (wrap64 (x6 + 1)) x146000 x146001 x146002 x146003 x146004 x146005 x146006 x146007 x146008 (rd x3 x6) (rd x3 x6)) else (pilcrowref23_Of.l1 k x3 (wrap64 (x6 + 1)) x146000 x146001 x146002 x146003 x146004 x146005 x146006 x146007 x146008 (rd x3 x6) x146010)) else (none)) else (none)) else (if 0 ≤ x6 then (if x6 < (x3.length : Int) then (if (rd x3 x6) > x146010 then (pilcrowref23_Of.l1 k x3 (wrap64 (x6 + 1)) x146000 x146001 x146002 x146003 x146004 x146005 x146006 x146007 x146008 x146009 (rd x3 x6)) else (pilcrowref23_Of.l1 k x3 (wrap64 (x6 + 1)) x146000 x146001 x146002 x146003 x146004 x146005 x146006 x146007 x146008 x146009 x146010)) else (none)) else (none))
end
def pilcrowref23_Of.f (k : Nat) (l0 : List Int) : Option (Int × Int × Int × Int × Int × Int × Int × Int × Int × Int × Int) := pilcrowref23_Of.l0 k l0 (([] : List Int)) 0
set_option maxHeartbeats 8000000 in
set_option maxRecDepth 100000 in
theorem pilcrowref23_Of.calls (k : Nat) (A0 : Option Addr) (c0 : Nat) (l0 : List Int) (r1 : Int) (r2 : Int) (r3 : Int) (r4 : Int) (r5 : Int) (r6 : Int) (r7 : Int) (r8 : Int) (r9 : Int) (r10 : Int) (r11 : Int) (w : World) (hr0 : Kd.C (Kd.int .u32) w A0 l0.length l0) (hc0 : l0.length ≤ c0) (h : pilcrowref23_Of.f k l0 = some (r1, r2, r3, r4, r5, r6, r7, r8, r9, r10, r11)) :
  Calls Tryz.prog 10 #[.slice A0 l0.length c0] w fun e w' => e = .returned (.agg #[.int .i64 r1, .int .i64 r2, .int .i64 r3, .int .i64 r4, .int .i64 r5, .int .i64 r6, .int .i64 r7, .int .i64 r8, .int .i64 r9, .int .u32 r10, .int .u32 r11]) ∧ Below w.heap.size w w' := by
 have hu26 := Tryz.underlying26
 have HR0 := Aside0.mk hr0
 have HC0 := Aside0.mk hc0
 clear hr0 hc0
 have HB := Aside0.mk (Below.refl w.heap.size w)
 have H : (pilcrowref23_Of.l0 k l0 (([] : List Int)) 0) = some (r1, r2, r3, r4, r5, r6, r7, r8, r9, r10, r11) := h
 clear h
 obtain ⟨y128, hy128⟩ : ∃ y_ : List Int, y_ = (([] : List Int)) := ⟨_, rfl⟩
 replace H : (pilcrowref23_Of.l0 k l0 y128 0) = some (r1, r2, r3, r4, r5, r6, r7, r8, r9, r10, r11) := by first | (rw [hy128]; with_reducible exact H) | (have H2_ := (Option.bind_some _ _).symm.trans H; rw [hy128]; with_reducible exact H2_) | (have H2_ := (Option.bind_some _ _).symm.trans H; with_reducible exact H2_) | with_reducible exact H | (rw [hy128]; exact H) | exact H
 have Ny128 := Aside0.mk hy128
 clear hy128
 have H' := Aside0.mk H
 clear H
 go_enter Tryz.func10, Tryz.ntmps10
 go_wp2_with (first | ((with_reducible refine gate_dst (N := 2) rfl ?_); refine box_event ?hg (N := 2) ?hd (cs := #[.int .i64 0, .int .i64 0, .int .i64 0, .int .i64 0, .int .i64 0, .int .i64 0, .int .i64 0, .int .i64 0, .int .i64 0, .int .u32 0, .int .u32 0]) (t := 26) ?hr ?_; (case hd => rfl); (case hg => rfl); (case hr => first | (go_simp; done) | (go_simp; rfl)); intro gb127 hg w2 hbox hb; have n0_ := Aside0.mk (below_step (by repeat (first | (with_reducible first | exact HB.out | apply below_alloc | apply pw_below_drewN | apply below_drew1) | exact HB.out)) hb); have n1_ := Aside0.mk (hbox); have n2_ := Aside0.mk ((by rw [hg]; exact (below_size (by repeat (first | (with_reducible first | exact HB.out | apply below_alloc | apply pw_below_drewN | apply below_drew1) | exact HB.out))) : w.heap.size ≤ gb127)); have n3_ := Aside0.mk ((by rw [hg]; exact (below_size (by repeat (first | (with_reducible first | exact HB.out | apply below_alloc | apply pw_below_drewN | apply below_drew1) | exact HB.out))) : w.heap.size ≤ gb127)); clear HB; have HB := n0_; have BK127 := n1_; have GW127 := n2_; have GE127 := n3_; clear n0_ n1_ n2_ n3_; clear hb hbox hg) | ((with_reducible refine gate_dst (N := 7) rfl ?_); refine Kd.R_lit (Kd.int .u32) _ 24 ?hg (N := 7) ?hd (xs := ([] : List Int)) (inner := []) (ok := fun _ => True) (okp := fun _ => True) ?hr ?hp (fun _ hk => hk) trivial (Below.refl _ _) (Nat.le_refl _) (by simp) ?_; (case hd => rfl); (case hg => rfl); (case hr => first | (go_simp; done) | (go_simp; rfl)); (case hp => exact (Reps.none _ _)); intro v129 w3 ho4 hb hg_ hnew_; clear hg_ hnew_; (first | rw [← Ny128.out] at ho4 | (simp only [Int.reduceToNat] at ho4; rw [← Ny128.out] at ho4)); have n0_ := Aside0.mk (Kd.R_lower ho4 (below_size (by repeat (first | (with_reducible first | exact HB.out | apply below_alloc | apply pw_below_drewN | apply below_drew1 | refine below_set ?_ GE127.out) | exact HB.out)))); have n1_ := Aside0.mk (blk_below (g := gb127) (o := .cells #[.int .i64 0, .int .i64 0, .int .i64 0, .int .i64 0, .int .i64 0, .int .i64 0, .int .i64 0, .int .i64 0, .int .i64 0, .int .u32 0, .int .u32 0] 26 (0, 0)) (by (with_reducible repeat (first | refine blk_drewN ?_ _ | refine blk_drew ?_ | refine blk_alloc ?_ _)); exact BK127.out) hb); have n2_ := Aside0.mk (below_step (by repeat (first | (with_reducible first | exact HB.out | apply below_alloc | apply pw_below_drewN | apply below_drew1 | refine below_set ?_ GE127.out) | exact HB.out)) hb); clear BK127; clear HB; have HO130 := n0_; have BK127 := n1_; have HB := n2_; clear n0_ n1_ n2_; clear hb ho4))
 repeat (go_quiet (first | ((with_reducible refine gate_dst (N := 2) rfl ?_); refine box_event ?hg (N := 2) ?hd (cs := #[.int .i64 0, .int .i64 0, .int .i64 0, .int .i64 0, .int .i64 0, .int .i64 0, .int .i64 0, .int .i64 0, .int .i64 0, .int .u32 0, .int .u32 0]) (t := 26) ?hr ?_; (case hd => rfl); (case hg => rfl); (case hr => first | (go_simp; done) | (go_simp; rfl)); intro gb127 hg w2 hbox hb; have n0_ := Aside0.mk (below_step (by repeat (first | (with_reducible first | exact HB.out | apply below_alloc | apply pw_below_drewN | apply below_drew1) | exact HB.out)) hb); have n1_ := Aside0.mk (hbox); have n2_ := Aside0.mk ((by rw [hg]; exact (below_size (by repeat (first | (with_reducible first | exact HB.out | apply below_alloc | apply pw_below_drewN | apply below_drew1) | exact HB.out))) : w.heap.size ≤ gb127)); have n3_ := Aside0.mk ((by rw [hg]; exact (below_size (by repeat (first | (with_reducible first | exact HB.out | apply below_alloc | apply pw_below_drewN | apply below_drew1) | exact HB.out))) : w.heap.size ≤ gb127)); clear HB; have HB := n0_; have BK127 := n1_; have GW127 := n2_; have GE127 := n3_; clear n0_ n1_ n2_ n3_; clear hb hbox hg) | ((with_reducible refine gate_dst (N := 7) rfl ?_); refine Kd.R_lit (Kd.int .u32) _ 24 ?hg (N := 7) ?hd (xs := ([] : List Int)) (inner := []) (ok := fun _ => True) (okp := fun _ => True) ?hr ?hp (fun _ hk => hk) trivial (Below.refl _ _) (Nat.le_refl _) (by simp) ?_; (case hd => rfl); (case hg => rfl); (case hr => first | (go_simp; done) | (go_simp; rfl)); (case hp => exact (Reps.none _ _)); intro v129 w3 ho4 hb hg_ hnew_; clear hg_ hnew_; (first | rw [← Ny128.out] at ho4 | (simp only [Int.reduceToNat] at ho4; rw [← Ny128.out] at ho4)); have n0_ := Aside0.mk (Kd.R_lower ho4 (below_size (by repeat (first | (with_reducible first | exact HB.out | apply below_alloc | apply pw_below_drewN | apply below_drew1 | refine below_set ?_ GE127.out) | exact HB.out)))); have n1_ := Aside0.mk (blk_below (g := gb127) (o := .cells #[.int .i64 0, .int .i64 0, .int .i64 0, .int .i64 0, .int .i64 0, .int .i64 0, .int .i64 0, .int .i64 0, .int .i64 0, .int .u32 0, .int .u32 0] 26 (0, 0)) (by (with_reducible repeat (first | refine blk_drewN ?_ _ | refine blk_drew ?_ | refine blk_alloc ?_ _)); exact BK127.out) hb); have n2_ := Aside0.mk (below_step (by repeat (first | (with_reducible first | exact HB.out | apply below_alloc | apply pw_below_drewN | apply below_drew1 | refine below_set ?_ GE127.out) | exact HB.out)) hb); clear BK127; clear HB; have HO130 := n0_; have BK127 := n1_; have HB := n2_; clear n0_ n1_ n2_; clear hb ho4)); try go_wp2_with (first | ((with_reducible refine gate_dst (N := 2) rfl ?_); refine box_event ?hg (N := 2) ?hd (cs := #[.int .i64 0, .int .i64 0, .int .i64 0, .int .i64 0, .int .i64 0, .int .i64 0, .int .i64 0, .int .i64 0, .int .i64 0, .int .u32 0, .int .u32 0]) (t := 26) ?hr ?_; (case hd => rfl); (case hg => rfl); (case hr => first | (go_simp; done) | (go_simp; rfl)); intro gb127 hg w2 hbox hb; have n0_ := Aside0.mk (below_step (by repeat (first | (with_reducible first | exact HB.out | apply below_alloc | apply pw_below_drewN | apply below_drew1) | exact HB.out)) hb); have n1_ := Aside0.mk (hbox); have n2_ := Aside0.mk ((by rw [hg]; exact (below_size (by repeat (first | (with_reducible first | exact HB.out | apply below_alloc | apply pw_below_drewN | apply below_drew1) | exact HB.out))) : w.heap.size ≤ gb127)); have n3_ := Aside0.mk ((by rw [hg]; exact (below_size (by repeat (first | (with_reducible first | exact HB.out | apply below_alloc | apply pw_below_drewN | apply below_drew1) | exact HB.out))) : w.heap.size ≤ gb127)); clear HB; have HB := n0_; have BK127 := n1_; have GW127 := n2_; have GE127 := n3_; clear n0_ n1_ n2_ n3_; clear hb hbox hg) | ((with_reducible refine gate_dst (N := 7) rfl ?_); refine Kd.R_lit (Kd.int .u32) _ 24 ?hg (N := 7) ?hd (xs := ([] : List Int)) (inner := []) (ok := fun _ => True) (okp := fun _ => True) ?hr ?hp (fun _ hk => hk) trivial (Below.refl _ _) (Nat.le_refl _) (by simp) ?_; (case hd => rfl); (case hg => rfl); (case hr => first | (go_simp; done) | (go_simp; rfl)); (case hp => exact (Reps.none _ _)); intro v129 w3 ho4 hb hg_ hnew_; clear hg_ hnew_; (first | rw [← Ny128.out] at ho4 | (simp only [Int.reduceToNat] at ho4; rw [← Ny128.out] at ho4)); have n0_ := Aside0.mk (Kd.R_lower ho4 (below_size (by repeat (first | (with_reducible first | exact HB.out | apply below_alloc | apply pw_below_drewN | apply below_drew1 | refine below_set ?_ GE127.out) | exact HB.out)))); have n1_ := Aside0.mk (blk_below (g := gb127) (o := .cells #[.int .i64 0, .int .i64 0, .int .i64 0, .int .i64 0, .int .i64 0, .int .i64 0, .int .i64 0, .int .i64 0, .int .i64 0, .int .u32 0, .int .u32 0] 26 (0, 0)) (by (with_reducible repeat (first | refine blk_drewN ?_ _ | refine blk_drew ?_ | refine blk_alloc ?_ _)); exact BK127.out) hb); have n2_ := Aside0.mk (below_step (by repeat (first | (with_reducible first | exact HB.out | apply below_alloc | apply pw_below_drewN | apply below_drew1 | refine below_set ?_ GE127.out) | exact HB.out)) hb); clear BK127; clear HB; have HO130 := n0_; have BK127 := n1_; have HB := n2_; clear n0_ n1_ n2_; clear hb ho4)))
 go_loopg [3, 4] k (fun kq v3 v4 w' => ∃ (x3_1 : List Int) (x4_1 : Int), v4 = .int .i64 x4_1 ∧ Aside0 (pilcrowref23_Of.l0 kq l0 x3_1 x4_1 = some (r1, r2, r3, r4, r5, r6, r7, r8, r9, r10, r11)) ∧ Aside0 (kq ≤ k) ∧ Aside0 (Kd.R (Kd.int .u32) 24 w' w.heap.size (fun _ => True) v3 x3_1) ∧ Aside0 (w'.heap[gb127]? = some (.cells #[.int .i64 0, .int .i64 0, .int .i64 0, .int .i64 0, .int .i64 0, .int .i64 0, .int .i64 0, .int .i64 0, .int .i64 0, .int .u32 0, .int .u32 0] 26 (0, 0))) ∧ Aside0 (Below w.heap.size w w'))
 case atStart => exact ⟨(y128), (0), (by first | rfl | (simp; done) | (simp [*]; done)), H', ⟨Nat.le_refl _⟩, ⟨by (with_reducible repeat (first | apply Kd.R_alloc | apply Kd.R_drewN | apply Kd.R_drew)); exact HO130.out⟩, ⟨by (with_reducible repeat (first | refine blk_drewN ?_ _ | refine blk_drew ?_ | refine blk_alloc ?_ _)); exact BK127.out⟩, ⟨by repeat (first | (with_reducible first | exact HB.out | apply below_alloc | apply pw_below_drewN | apply below_drew1 | refine below_set ?_ GE127.out) | exact HB.out)⟩⟩
 case round =>
  clear H'
  try clear c1
  try clear p2
  obtain ⟨x3_1, x4_1, rfl, HA, HK1, HO_3, BK127, HB⟩ := hrel
  cases gk with
  | zero => exact absurd HA.out (by simp [pilcrowref23_Of.l0])
  | succ k1 =>
   have H := HA.out
   clear HA
   simp only [pilcrowref23_Of.l0] at H
   by_cases c5 : x4_1 < (l0.length : Int)
   ·rw [if_pos c5] at H
    have c5b0 : decide (x4_1 < (l0.length : Int)) = true := decide_eq_true c5
    clear c5
    by_cases c6 : 0 ≤ x4_1
    ·rw [if_pos c6] at H
     have c6b0 : decide (0 ≤ x4_1) = true := decide_eq_true c6
     clear c6
     replace H := Option.bind_eq_some_iff.mp H
     obtain ⟨t132, A70, H⟩ := H
     replace H : (if t132 = true then (if x3_1.length < 35184372088832 then (pilcrowref23_Of.l0 k1 l0 (x3_1 ++ [rd l0 x4_1]) (wrap64 (x4_1 + 1))) else (none)) else (pilcrowref23_Of.l0 k1 l0 x3_1 (wrap64 (x4_1 + 1)))) = some (r1, r2, r3, r4, r5, r6, r7, r8, r9, r10, r11) := H
     have A7 := Aside0.mk A70
     clear A70
     by_cases c8 : t132 = true
     ·subst c8
      have H1 : (if x3_1.length < 35184372088832 then (pilcrowref23_Of.l0 k1 l0 (x3_1 ++ [rd l0 x4_1]) (wrap64 (x4_1 + 1))) else (none)) = some (r1, r2, r3, r4, r5, r6, r7, r8, r9, r10, r11) := by rw [if_pos rfl] at H; exact H
      clear H
      have H := H1
      clear H1
      by_cases c9 : x3_1.length < 35184372088832
      ·rw [if_pos c9] at H
       have LMc9 := Aside0.mk c9
       clear c9
       obtain ⟨y134, hy134⟩ : ∃ y_ : List Int, y_ = (x3_1 ++ [rd l0 x4_1]) := ⟨_, rfl⟩
       replace H : (pilcrowref23_Of.l0 k1 l0 y134 (wrap64 (x4_1 + 1))) = some (r1, r2, r3, r4, r5, r6, r7, r8, r9, r10, r11) := by first | (rw [hy134]; with_reducible exact H) | (have H2_ := (Option.bind_some _ _).symm.trans H; rw [hy134]; with_reducible exact H2_) | (have H2_ := (Option.bind_some _ _).symm.trans H; with_reducible exact H2_) | with_reducible exact H | (rw [hy134]; exact H) | exact H
       have Ny134 := Aside0.mk hy134
       clear hy134
       have H' := Aside0.mk H
       clear H
       have p131 : 0 ≤ (x4_1 : Int) := of_decide_eq_true (by first | (with_reducible assumption) | assumption)
       have q131 : x4_1 < (l0.length : Int) := of_decide_eq_true (by first | (with_reducible assumption) | assumption)
       obtain ⟨ad131, e131, hx131_0⟩ := Kd.at_int HR0.out x4_1 p131 q131
       cases e131
       replace hx131_0 := (HB.out.cell (World.block_lt_of_cell? w _ hx131_0)).trans hx131_0
       replace p131 := eq_true p131
       replace q131 := eq_true q131
       go_wp2_with (first | (go_at_call 20; (with_reducible refine (pilcrowref01_Is.calls (rd l0 x4_1) true _ A7.out).mono ?_); rintro e w' ⟨rfl, ⟨nd, rfl⟩⟩; (try first | exact ⟨rfl, _, World.drewN_drewN _ _ _⟩ | exact ⟨rfl, _, Eq.trans (World.drewN_drewN _ _ _) (congrArg (World.drewN _) (Nat.add_assoc _ _ _))⟩); have p133 : 0 ≤ (x4_1 : Int) := of_decide_eq_true (by first | (with_reducible assumption) | assumption); have q133 : x4_1 < (l0.length : Int) := of_decide_eq_true (by first | (with_reducible assumption) | assumption); obtain ⟨ad133, e133, hx133_0⟩ := Kd.at_int HR0.out x4_1 p133 q133; obtain rfl : ad131 = ad133 := (by injection e133); replace hx133_0 := (HB.out.cell (World.block_lt_of_cell? w _ hx133_0)).trans hx133_0; replace p133 := eq_true p133; replace q133 := eq_true q133) | ((with_reducible refine gate_builtin (b := .append) (xs := #[.tmp 19, .tmp 24]) rfl ?_); at_builtin; refine Kd.R_append (Kd.int .u32) (w0 := w) w.heap.size rfl (.tmp 19) (.tmp 24) 22 24 (.int .u32 0) 4 rfl Tryz.underlying22 info24 rfl (by decide) (by omega) u3 x3_1 (rd l0 x4_1) [.int .u32 (rd l0 x4_1)] (fun _ => True) (fun _ => False) rfl rfl ?aP (fun _ hk => hk.elim) ?aF ?aO ?aB ?aS ?aL ?_; (case aP => exact rfl); (case aB => exact (by repeat (first | (with_reducible first | exact HB.out | apply below_alloc | apply pw_below_drewN | apply below_drew1 | refine below_set ?_ GE127.out) | exact HB.out))); (case aF => exact (fun _ _ => trivial)); (case aO => exact (by (with_reducible repeat (first | apply Kd.R_alloc | apply Kd.R_drewN | apply Kd.R_drew)); exact HO_3.out)); (case aS => exact (below_size (by repeat (first | (with_reducible first | exact HB.out | apply below_alloc | apply pw_below_drewN | apply below_drew1 | refine below_set ?_ GE127.out) | exact HB.out)))); (case aL => have := LMc9.out; omega); intro v135 w10 ho hb hg hat; rw [← Ny134.out] at ho; have n0_ := Aside0.mk (blk_grown (g := gb127) (o := .cells #[.int .i64 0, .int .i64 0, .int .i64 0, .int .i64 0, .int .i64 0, .int .i64 0, .int .i64 0, .int .i64 0, .int .i64 0, .int .u32 0, .int .u32 0] 26 (0, 0)) (by (with_reducible repeat (first | refine blk_drewN ?_ _ | refine blk_drew ?_ | refine blk_alloc ?_ _)); exact BK127.out) hg (Kd.R_ne HO_3.out BK127.out (by decide))); have n1_ := Aside0.mk (hb); have n2_ := Aside0.mk (ho); clear BK127; clear HB; clear HO_3; have BK127 := n0_; have HB := n1_; have HO136 := n2_; clear n0_ n1_ n2_; clear ho hb hg hat))
       repeat (go_quiet (first | (go_at_call 20; (with_reducible refine (pilcrowref01_Is.calls (rd l0 x4_1) true _ A7.out).mono ?_); rintro e w' ⟨rfl, ⟨nd, rfl⟩⟩; (try first | exact ⟨rfl, _, World.drewN_drewN _ _ _⟩ | exact ⟨rfl, _, Eq.trans (World.drewN_drewN _ _ _) (congrArg (World.drewN _) (Nat.add_assoc _ _ _))⟩); have p133 : 0 ≤ (x4_1 : Int) := of_decide_eq_true (by first | (with_reducible assumption) | assumption); have q133 : x4_1 < (l0.length : Int) := of_decide_eq_true (by first | (with_reducible assumption) | assumption); obtain ⟨ad133, e133, hx133_0⟩ := Kd.at_int HR0.out x4_1 p133 q133; obtain rfl : ad131 = ad133 := (by injection e133); replace hx133_0 := (HB.out.cell (World.block_lt_of_cell? w _ hx133_0)).trans hx133_0; replace p133 := eq_true p133; replace q133 := eq_true q133) | ((with_reducible refine gate_builtin (b := .append) (xs := #[.tmp 19, .tmp 24]) rfl ?_); at_builtin; refine Kd.R_append (Kd.int .u32) (w0 := w) w.heap.size rfl (.tmp 19) (.tmp 24) 22 24 (.int .u32 0) 4 rfl Tryz.underlying22 info24 rfl (by decide) (by omega) u3 x3_1 (rd l0 x4_1) [.int .u32 (rd l0 x4_1)] (fun _ => True) (fun _ => False) rfl rfl ?aP (fun _ hk => hk.elim) ?aF ?aO ?aB ?aS ?aL ?_; (case aP => exact rfl); (case aB => exact (by repeat (first | (with_reducible first | exact HB.out | apply below_alloc | apply pw_below_drewN | apply below_drew1 | refine below_set ?_ GE127.out) | exact HB.out))); (case aF => exact (fun _ _ => trivial)); (case aO => exact (by (with_reducible repeat (first | apply Kd.R_alloc | apply Kd.R_drewN | apply Kd.R_drew)); exact HO_3.out)); (case aS => exact (below_size (by repeat (first | (with_reducible first | exact HB.out | apply below_alloc | apply pw_below_drewN | apply below_drew1 | refine below_set ?_ GE127.out) | exact HB.out)))); (case aL => have := LMc9.out; omega); intro v135 w10 ho hb hg hat; rw [← Ny134.out] at ho; have n0_ := Aside0.mk (blk_grown (g := gb127) (o := .cells #[.int .i64 0, .int .i64 0, .int .i64 0, .int .i64 0, .int .i64 0, .int .i64 0, .int .i64 0, .int .i64 0, .int .i64 0, .int .u32 0, .int .u32 0] 26 (0, 0)) (by (with_reducible repeat (first | refine blk_drewN ?_ _ | refine blk_drew ?_ | refine blk_alloc ?_ _)); exact BK127.out) hg (Kd.R_ne HO_3.out BK127.out (by decide))); have n1_ := Aside0.mk (hb); have n2_ := Aside0.mk (ho); clear BK127; clear HB; clear HO_3; have BK127 := n0_; have HB := n1_; have HO136 := n2_; clear n0_ n1_ n2_; clear ho hb hg hat)); try go_wp2_with (first | (go_at_call 20; (with_reducible refine (pilcrowref01_Is.calls (rd l0 x4_1) true _ A7.out).mono ?_); rintro e w' ⟨rfl, ⟨nd, rfl⟩⟩; (try first | exact ⟨rfl, _, World.drewN_drewN _ _ _⟩ | exact ⟨rfl, _, Eq.trans (World.drewN_drewN _ _ _) (congrArg (World.drewN _) (Nat.add_assoc _ _ _))⟩); have p133 : 0 ≤ (x4_1 : Int) := of_decide_eq_true (by first | (with_reducible assumption) | assumption); have q133 : x4_1 < (l0.length : Int) := of_decide_eq_true (by first | (with_reducible assumption) | assumption); obtain ⟨ad133, e133, hx133_0⟩ := Kd.at_int HR0.out x4_1 p133 q133; obtain rfl : ad131 = ad133 := (by injection e133); replace hx133_0 := (HB.out.cell (World.block_lt_of_cell? w _ hx133_0)).trans hx133_0; replace p133 := eq_true p133; replace q133 := eq_true q133) | ((with_reducible refine gate_builtin (b := .append) (xs := #[.tmp 19, .tmp 24]) rfl ?_); at_builtin; refine Kd.R_append (Kd.int .u32) (w0 := w) w.heap.size rfl (.tmp 19) (.tmp 24) 22 24 (.int .u32 0) 4 rfl Tryz.underlying22 info24 rfl (by decide) (by omega) u3 x3_1 (rd l0 x4_1) [.int .u32 (rd l0 x4_1)] (fun _ => True) (fun _ => False) rfl rfl ?aP (fun _ hk => hk.elim) ?aF ?aO ?aB ?aS ?aL ?_; (case aP => exact rfl); (case aB => exact (by repeat (first | (with_reducible first | exact HB.out | apply below_alloc | apply pw_below_drewN | apply below_drew1 | refine below_set ?_ GE127.out) | exact HB.out))); (case aF => exact (fun _ _ => trivial)); (case aO => exact (by (with_reducible repeat (first | apply Kd.R_alloc | apply Kd.R_drewN | apply Kd.R_drew)); exact HO_3.out)); (case aS => exact (below_size (by repeat (first | (with_reducible first | exact HB.out | apply below_alloc | apply pw_below_drewN | apply below_drew1 | refine below_set ?_ GE127.out) | exact HB.out)))); (case aL => have := LMc9.out; omega); intro v135 w10 ho hb hg hat; rw [← Ny134.out] at ho; have n0_ := Aside0.mk (blk_grown (g := gb127) (o := .cells #[.int .i64 0, .int .i64 0, .int .i64 0, .int .i64 0, .int .i64 0, .int .i64 0, .int .i64 0, .int .i64 0, .int .i64 0, .int .u32 0, .int .u32 0] 26 (0, 0)) (by (with_reducible repeat (first | refine blk_drewN ?_ _ | refine blk_drew ?_ | refine blk_alloc ?_ _)); exact BK127.out) hg (Kd.R_ne HO_3.out BK127.out (by decide))); have n1_ := Aside0.mk (hb); have n2_ := Aside0.mk (ho); clear BK127; clear HB; clear HO_3; have BK127 := n0_; have HB := n1_; have HO136 := n2_; clear n0_ n1_ n2_; clear ho hb hg hat)))
       go_roundg k1
       case measure => have := HK1.out; omega
       case rel => exact ⟨(y134), (wrap64 (x4_1 + 1)), (by first | rfl | (simp; done) | (simp [*]; done)), H', ⟨by have := HK1.out; omega⟩, ⟨by (with_reducible repeat (first | apply Kd.R_alloc | apply Kd.R_drewN | apply Kd.R_drew)); exact HO136.out⟩, ⟨by (with_reducible repeat (first | refine blk_drewN ?_ _ | refine blk_drew ?_ | refine blk_alloc ?_ _)); exact BK127.out⟩, ⟨by repeat (first | (with_reducible first | exact HB.out | apply below_alloc | apply pw_below_drewN | apply below_drew1 | refine below_set ?_ GE127.out) | exact HB.out)⟩⟩
      ·rw [if_neg c9] at H
       exact absurd H (by simp)
     ·replace c8 := Bool.eq_false_iff.mpr c8
      subst c8
      have H1 : (pilcrowref23_Of.l0 k1 l0 x3_1 (wrap64 (x4_1 + 1))) = some (r1, r2, r3, r4, r5, r6, r7, r8, r9, r10, r11) := by rw [if_neg (show ¬ (false = true) by decide)] at H; exact H
      clear H
      have H := H1
      clear H1
      have H' := Aside0.mk H
      clear H
      have p131 : 0 ≤ (x4_1 : Int) := of_decide_eq_true (by first | (with_reducible assumption) | assumption)
      have q131 : x4_1 < (l0.length : Int) := of_decide_eq_true (by first | (with_reducible assumption) | assumption)
      obtain ⟨ad131, e131, hx131_0⟩ := Kd.at_int HR0.out x4_1 p131 q131
      cases e131
      replace hx131_0 := (HB.out.cell (World.block_lt_of_cell? w _ hx131_0)).trans hx131_0
      replace p131 := eq_true p131
      replace q131 := eq_true q131
      go_wp2_with (first | (go_at_call 20; (with_reducible refine (pilcrowref01_Is.calls (rd l0 x4_1) false _ A7.out).mono ?_); rintro e w' ⟨rfl, ⟨nd, rfl⟩⟩; (try first | exact ⟨rfl, _, World.drewN_drewN _ _ _⟩ | exact ⟨rfl, _, Eq.trans (World.drewN_drewN _ _ _) (congrArg (World.drewN _) (Nat.add_assoc _ _ _))⟩)))
      repeat (go_quiet (first | (go_at_call 20; (with_reducible refine (pilcrowref01_Is.calls (rd l0 x4_1) false _ A7.out).mono ?_); rintro e w' ⟨rfl, ⟨nd, rfl⟩⟩; (try first | exact ⟨rfl, _, World.drewN_drewN _ _ _⟩ | exact ⟨rfl, _, Eq.trans (World.drewN_drewN _ _ _) (congrArg (World.drewN _) (Nat.add_assoc _ _ _))⟩))); try go_wp2_with (first | (go_at_call 20; (with_reducible refine (pilcrowref01_Is.calls (rd l0 x4_1) false _ A7.out).mono ?_); rintro e w' ⟨rfl, ⟨nd, rfl⟩⟩; (try first | exact ⟨rfl, _, World.drewN_drewN _ _ _⟩ | exact ⟨rfl, _, Eq.trans (World.drewN_drewN _ _ _) (congrArg (World.drewN _) (Nat.add_assoc _ _ _))⟩))))
      go_roundg k1
      case measure => have := HK1.out; omega
      case rel => exact ⟨(x3_1), (wrap64 (x4_1 + 1)), (by first | rfl | (simp; done) | (simp [*]; done)), H', ⟨by have := HK1.out; omega⟩, ⟨by (with_reducible repeat (first | apply Kd.R_alloc | apply Kd.R_drewN | apply Kd.R_drew)); exact HO_3.out⟩, ⟨by (with_reducible repeat (first | refine blk_drewN ?_ _ | refine blk_drew ?_ | refine blk_alloc ?_ _)); exact BK127.out⟩, ⟨by repeat (first | (with_reducible first | exact HB.out | apply below_alloc | apply pw_below_drewN | apply below_drew1 | refine below_set ?_ GE127.out) | exact HB.out)⟩⟩
    ·rw [if_neg c6] at H
     exact absurd H (by simp)
   ·rw [if_neg c5] at H
    have c5b0 : decide (x4_1 < (l0.length : Int)) = false := decide_eq_false c5
    clear c5
    replace H := Option.bind_eq_some_iff.mp H
    obtain ⟨t137, A110, H⟩ := H
    replace H : ((pilcrowref03_Bytes.f k1 x3_1).bind fun t138 => ((pilcrowref23_count.f k1 x3_1 1).bind fun t139 => ((pilcrowref23_count.f k1 x3_1 2).bind fun t140 => ((pilcrowref23_count.f k1 x3_1 3).bind fun t141 => ((pilcrowref23_count.f k1 x3_1 4).bind fun t142 => ((pilcrowref23_count.f k1 x3_1 5).bind fun t143 => ((pilcrowref23_count.f k1 x3_1 6).bind fun t144 => (pilcrowref23_Of.l1 k1 x3_1 0 (x3_1.length : Int) t137 (t138.size : Int) t139 t140 t141 t142 t143 t144 0 0)))))))) = some (r1, r2, r3, r4, r5, r6, r7, r8, r9, r10, r11) := H
    have A11 := Aside0.mk A110
    clear A110
    replace H := Option.bind_eq_some_iff.mp H
    obtain ⟨t138, A120, H⟩ := H
    replace H : ((pilcrowref23_count.f k1 x3_1 1).bind fun t139 => ((pilcrowref23_count.f k1 x3_1 2).bind fun t140 => ((pilcrowref23_count.f k1 x3_1 3).bind fun t141 => ((pilcrowref23_count.f k1 x3_1 4).bind fun t142 => ((pilcrowref23_count.f k1 x3_1 5).bind fun t143 => ((pilcrowref23_count.f k1 x3_1 6).bind fun t144 => (pilcrowref23_Of.l1 k1 x3_1 0 (x3_1.length : Int) t137 (t138.size : Int) t139 t140 t141 t142 t143 t144 0 0))))))) = some (r1, r2, r3, r4, r5, r6, r7, r8, r9, r10, r11) := H
    have A12 := Aside0.mk A120
    clear A120
    replace H := Option.bind_eq_some_iff.mp H
    obtain ⟨t139, A130, H⟩ := H
    replace H : ((pilcrowref23_count.f k1 x3_1 2).bind fun t140 => ((pilcrowref23_count.f k1 x3_1 3).bind fun t141 => ((pilcrowref23_count.f k1 x3_1 4).bind fun t142 => ((pilcrowref23_count.f k1 x3_1 5).bind fun t143 => ((pilcrowref23_count.f k1 x3_1 6).bind fun t144 => (pilcrowref23_Of.l1 k1 x3_1 0 (x3_1.length : Int) t137 (t138.size : Int) t139 t140 t141 t142 t143 t144 0 0)))))) = some (r1, r2, r3, r4, r5, r6, r7, r8, r9, r10, r11) := H
    have A13 := Aside0.mk A130
    clear A130
    replace H := Option.bind_eq_some_iff.mp H
    obtain ⟨t140, A140, H⟩ := H
    replace H : ((pilcrowref23_count.f k1 x3_1 3).bind fun t141 => ((pilcrowref23_count.f k1 x3_1 4).bind fun t142 => ((pilcrowref23_count.f k1 x3_1 5).bind fun t143 => ((pilcrowref23_count.f k1 x3_1 6).bind fun t144 => (pilcrowref23_Of.l1 k1 x3_1 0 (x3_1.length : Int) t137 (t138.size : Int) t139 t140 t141 t142 t143 t144 0 0))))) = some (r1, r2, r3, r4, r5, r6, r7, r8, r9, r10, r11) := H
    have A14 := Aside0.mk A140
    clear A140
    replace H := Option.bind_eq_some_iff.mp H
    obtain ⟨t141, A150, H⟩ := H
    replace H : ((pilcrowref23_count.f k1 x3_1 4).bind fun t142 => ((pilcrowref23_count.f k1 x3_1 5).bind fun t143 => ((pilcrowref23_count.f k1 x3_1 6).bind fun t144 => (pilcrowref23_Of.l1 k1 x3_1 0 (x3_1.length : Int) t137 (t138.size : Int) t139 t140 t141 t142 t143 t144 0 0)))) = some (r1, r2, r3, r4, r5, r6, r7, r8, r9, r10, r11) := H
    have A15 := Aside0.mk A150
    clear A150
    replace H := Option.bind_eq_some_iff.mp H
    obtain ⟨t142, A160, H⟩ := H
    replace H : ((pilcrowref23_count.f k1 x3_1 5).bind fun t143 => ((pilcrowref23_count.f k1 x3_1 6).bind fun t144 => (pilcrowref23_Of.l1 k1 x3_1 0 (x3_1.length : Int) t137 (t138.size : Int) t139 t140 t141 t142 t143 t144 0 0))) = some (r1, r2, r3, r4, r5, r6, r7, r8, r9, r10, r11) := H
    have A16 := Aside0.mk A160
    clear A160
    replace H := Option.bind_eq_some_iff.mp H
    obtain ⟨t143, A170, H⟩ := H
    replace H : ((pilcrowref23_count.f k1 x3_1 6).bind fun t144 => (pilcrowref23_Of.l1 k1 x3_1 0 (x3_1.length : Int) t137 (t138.size : Int) t139 t140 t141 t142 t143 t144 0 0)) = some (r1, r2, r3, r4, r5, r6, r7, r8, r9, r10, r11) := H
    have A17 := Aside0.mk A170
    clear A170
    replace H := Option.bind_eq_some_iff.mp H
    obtain ⟨t144, A180, H⟩ := H
    replace H : (pilcrowref23_Of.l1 k1 x3_1 0 (x3_1.length : Int) t137 (t138.size : Int) t139 t140 t141 t142 t143 t144 0 0) = some (r1, r2, r3, r4, r5, r6, r7, r8, r9, r10, r11) := H
    have A18 := Aside0.mk A180
    clear A180
    have H' := Aside0.mk H
    clear H
    obtain ⟨Ao19, co19, eo19⟩ := Kd.R_slice HO_3.out
    subst eo19
    go_wp2_with (first | (go_at_call 14; (with_reducible refine (pilcrowref01_Units.calls k1 _ _ x3_1 t137 _ ?side1 ?side2 A11.out).mono ?_); (case side1 => repeat (first | exact (Kd.R_reads' HO_3.out).2.2 | (with_reducible refine Kd.C_alloc ?_ _) | (with_reducible refine Kd.C_drewN ?_ _) | (with_reducible refine Kd.C_drew ?_))); (case side2 => exact (Kd.R_reads' HO_3.out).2.1); rintro e w' ⟨rfl, ⟨nd, rfl⟩⟩; (try first | exact ⟨rfl, _, World.drewN_drewN _ _ _⟩ | exact ⟨rfl, _, Eq.trans (World.drewN_drewN _ _ _) (congrArg (World.drewN _) (Nat.add_assoc _ _ _))⟩)) | (go_at_call 21; (with_reducible refine (pilcrowref03_Bytes.calls k1 _ _ x3_1 t138 _ ?side1 ?side2 A12.out).mono ?_); (case side1 => repeat (first | exact (Kd.R_reads' HO_3.out).2.2 | (with_reducible refine Kd.C_alloc ?_ _) | (with_reducible refine Kd.C_drewN ?_ _) | (with_reducible refine Kd.C_drew ?_))); (case side2 => exact (Kd.R_reads' HO_3.out).2.1); rintro e w20 ⟨rfl, hb⟩; have n0_ := Aside0.mk (Kd.R_below (by (with_reducible repeat (first | apply Kd.R_alloc | apply Kd.R_drewN | apply Kd.R_drew)); exact HO_3.out) hb); have n1_ := Aside0.mk (blk_below (g := gb127) (o := .cells #[.int .i64 0, .int .i64 0, .int .i64 0, .int .i64 0, .int .i64 0, .int .i64 0, .int .i64 0, .int .i64 0, .int .i64 0, .int .u32 0, .int .u32 0] 26 (0, 0)) (by (with_reducible repeat (first | refine blk_drewN ?_ _ | refine blk_drew ?_ | refine blk_alloc ?_ _)); exact BK127.out) hb); have n2_ := Aside0.mk (below_step (by repeat (first | (with_reducible first | exact HB.out | apply below_alloc | apply pw_below_drewN | apply below_drew1 | refine below_set ?_ GE127.out) | exact HB.out)) hb); clear HO_3; clear BK127; clear HB; have HO_3 := n0_; have BK127 := n1_; have HB := n2_; clear n0_ n1_ n2_; (try clear hb); (try clear hb2); (try clear hk); (try clear hi)) | (go_at_call 22; (with_reducible refine (pilcrowref23_count.calls k1 _ _ x3_1 1 t139 _ ?side1 ?side2 A13.out).mono ?_); (case side1 => repeat (first | exact (Kd.R_reads' HO_3.out).2.2 | (with_reducible refine Kd.C_alloc ?_ _) | (with_reducible refine Kd.C_drewN ?_ _) | (with_reducible refine Kd.C_drew ?_))); (case side2 => exact (Kd.R_reads' HO_3.out).2.1); rintro e w' ⟨rfl, ⟨nd, rfl⟩⟩; (try first | exact ⟨rfl, _, World.drewN_drewN _ _ _⟩ | exact ⟨rfl, _, Eq.trans (World.drewN_drewN _ _ _) (congrArg (World.drewN _) (Nat.add_assoc _ _ _))⟩)) | (go_at_call 22; (with_reducible refine (pilcrowref23_count.calls k1 _ _ x3_1 2 t140 _ ?side1 ?side2 A14.out).mono ?_); (case side1 => repeat (first | exact (Kd.R_reads' HO_3.out).2.2 | (with_reducible refine Kd.C_alloc ?_ _) | (with_reducible refine Kd.C_drewN ?_ _) | (with_reducible refine Kd.C_drew ?_))); (case side2 => exact (Kd.R_reads' HO_3.out).2.1); rintro e w' ⟨rfl, ⟨nd, rfl⟩⟩; (try first | exact ⟨rfl, _, World.drewN_drewN _ _ _⟩ | exact ⟨rfl, _, Eq.trans (World.drewN_drewN _ _ _) (congrArg (World.drewN _) (Nat.add_assoc _ _ _))⟩)) | (go_at_call 22; (with_reducible refine (pilcrowref23_count.calls k1 _ _ x3_1 3 t141 _ ?side1 ?side2 A15.out).mono ?_); (case side1 => repeat (first | exact (Kd.R_reads' HO_3.out).2.2 | (with_reducible refine Kd.C_alloc ?_ _) | (with_reducible refine Kd.C_drewN ?_ _) | (with_reducible refine Kd.C_drew ?_))); (case side2 => exact (Kd.R_reads' HO_3.out).2.1); rintro e w' ⟨rfl, ⟨nd, rfl⟩⟩; (try first | exact ⟨rfl, _, World.drewN_drewN _ _ _⟩ | exact ⟨rfl, _, Eq.trans (World.drewN_drewN _ _ _) (congrArg (World.drewN _) (Nat.add_assoc _ _ _))⟩)) | (go_at_call 22; (with_reducible refine (pilcrowref23_count.calls k1 _ _ x3_1 4 t142 _ ?side1 ?side2 A16.out).mono ?_); (case side1 => repeat (first | exact (Kd.R_reads' HO_3.out).2.2 | (with_reducible refine Kd.C_alloc ?_ _) | (with_reducible refine Kd.C_drewN ?_ _) | (with_reducible refine Kd.C_drew ?_))); (case side2 => exact (Kd.R_reads' HO_3.out).2.1); rintro e w' ⟨rfl, ⟨nd, rfl⟩⟩; (try first | exact ⟨rfl, _, World.drewN_drewN _ _ _⟩ | exact ⟨rfl, _, Eq.trans (World.drewN_drewN _ _ _) (congrArg (World.drewN _) (Nat.add_assoc _ _ _))⟩)) | (go_at_call 22; (with_reducible refine (pilcrowref23_count.calls k1 _ _ x3_1 5 t143 _ ?side1 ?side2 A17.out).mono ?_); (case side1 => repeat (first | exact (Kd.R_reads' HO_3.out).2.2 | (with_reducible refine Kd.C_alloc ?_ _) | (with_reducible refine Kd.C_drewN ?_ _) | (with_reducible refine Kd.C_drew ?_))); (case side2 => exact (Kd.R_reads' HO_3.out).2.1); rintro e w' ⟨rfl, ⟨nd, rfl⟩⟩; (try first | exact ⟨rfl, _, World.drewN_drewN _ _ _⟩ | exact ⟨rfl, _, Eq.trans (World.drewN_drewN _ _ _) (congrArg (World.drewN _) (Nat.add_assoc _ _ _))⟩)) | (go_at_call 22; (with_reducible refine (pilcrowref23_count.calls k1 _ _ x3_1 6 t144 _ ?side1 ?side2 A18.out).mono ?_); (case side1 => repeat (first | exact (Kd.R_reads' HO_3.out).2.2 | (with_reducible refine Kd.C_alloc ?_ _) | (with_reducible refine Kd.C_drewN ?_ _) | (with_reducible refine Kd.C_drew ?_))); (case side2 => exact (Kd.R_reads' HO_3.out).2.1); rintro e w' ⟨rfl, ⟨nd, rfl⟩⟩; (try first | exact ⟨rfl, _, World.drewN_drewN _ _ _⟩ | exact ⟨rfl, _, Eq.trans (World.drewN_drewN _ _ _) (congrArg (World.drewN _) (Nat.add_assoc _ _ _))⟩)) | ((with_reducible refine gate_dst (N := 5) rfl ?_); refine box_event ?hg (N := 5) ?hd (cs := #[.int .i64 0, .int .i64 0, .int .i64 0, .int .i64 0, .int .i64 0, .int .i64 0, .int .i64 0, .int .i64 0, .int .i64 0, .int .u32 0, .int .u32 0]) (t := 26) ?hr ?_; (case hd => rfl); (case hg => rfl); (case hr => first | (go_simp; done) | (go_simp; rfl)); intro gb145 hg w21 hbox hb; have n0_ := Aside0.mk (Kd.R_below (by (with_reducible repeat (first | apply Kd.R_alloc | apply Kd.R_drewN | apply Kd.R_drew)); exact HO_3.out) hb); have n1_ := Aside0.mk (blk_below (g := gb127) (o := .cells #[.int .i64 0, .int .i64 0, .int .i64 0, .int .i64 0, .int .i64 0, .int .i64 0, .int .i64 0, .int .i64 0, .int .i64 0, .int .u32 0, .int .u32 0] 26 (0, 0)) (by (with_reducible repeat (first | refine blk_drewN ?_ _ | refine blk_drew ?_ | refine blk_alloc ?_ _)); exact BK127.out) hb); have n2_ := Aside0.mk (below_step (by repeat (first | (with_reducible first | exact HB.out | apply below_alloc | apply pw_below_drewN | apply below_drew1 | refine below_set ?_ GE127.out) | exact HB.out)) hb); have n3_ := Aside0.mk (hbox); have n4_ := Aside0.mk ((by rw [hg]; exact (below_size (by repeat (first | (with_reducible first | exact HB.out | apply below_alloc | apply pw_below_drewN | apply below_drew1 | refine below_set ?_ GE127.out) | exact HB.out))) : w.heap.size ≤ gb145)); have n5_ := Aside0.mk ((by rw [hg]; exact (below_size (by repeat (first | (with_reducible first | exact HB.out | apply below_alloc | apply pw_below_drewN | apply below_drew1 | refine below_set ?_ GE127.out) | exact HB.out))) : w.heap.size ≤ gb145)); have n6_ := Aside0.mk ((by rw [hg]; exact Nat.ne_of_lt (blk_lt (g := gb127) (o := .cells #[.int .i64 0, .int .i64 0, .int .i64 0, .int .i64 0, .int .i64 0, .int .i64 0, .int .i64 0, .int .i64 0, .int .i64 0, .int .u32 0, .int .u32 0] 26 (0, 0)) (by (with_reducible repeat (first | refine blk_drewN ?_ _ | refine blk_drew ?_ | refine blk_alloc ?_ _)); exact BK127.out)) : gb127 ≠ gb145)); have n7_ := Aside0.mk ((by rw [hg]; exact Nat.ne_of_gt (blk_lt (g := gb127) (o := .cells #[.int .i64 0, .int .i64 0, .int .i64 0, .int .i64 0, .int .i64 0, .int .i64 0, .int .i64 0, .int .i64 0, .int .i64 0, .int .u32 0, .int .u32 0] 26 (0, 0)) (by (with_reducible repeat (first | refine blk_drewN ?_ _ | refine blk_drew ?_ | refine blk_alloc ?_ _)); exact BK127.out)) : gb145 ≠ gb127)); clear HO_3; clear BK127; clear HB; have HO_3 := n0_; have BK127 := n1_; have HB := n2_; have BK145 := n3_; have GW145 := n4_; have GE145 := n5_; have NB127_145 := n6_; have NB145_127 := n7_; clear n0_ n1_ n2_ n3_ n4_ n5_ n6_ n7_; clear hb hbox hg; have hnb22 := NB145_127.out; have hnc22 := NB127_145.out; have hcz23_0 : w21.cell? ⟨gb145, 0, none⟩ = some (.int .i64 0) := (blk_cell BK145.out 0).trans rfl; have hcz23_1 : w21.cell? ⟨gb145, 1, none⟩ = some (.int .i64 0) := (blk_cell BK145.out 1).trans rfl; have hcz23_2 : w21.cell? ⟨gb145, 2, none⟩ = some (.int .i64 0) := (blk_cell BK145.out 2).trans rfl; have hcz23_3 : w21.cell? ⟨gb145, 3, none⟩ = some (.int .i64 0) := (blk_cell BK145.out 3).trans rfl; have hcz23_4 : w21.cell? ⟨gb145, 4, none⟩ = some (.int .i64 0) := (blk_cell BK145.out 4).trans rfl; have hcz23_5 : w21.cell? ⟨gb145, 5, none⟩ = some (.int .i64 0) := (blk_cell BK145.out 5).trans rfl; have hcz23_6 : w21.cell? ⟨gb145, 6, none⟩ = some (.int .i64 0) := (blk_cell BK145.out 6).trans rfl; have hcz23_7 : w21.cell? ⟨gb145, 7, none⟩ = some (.int .i64 0) := (blk_cell BK145.out 7).trans rfl; have hcz23_8 : w21.cell? ⟨gb145, 8, none⟩ = some (.int .i64 0) := (blk_cell BK145.out 8).trans rfl; have hcz23_9 : w21.cell? ⟨gb145, 9, none⟩ = some (.int .u32 0) := (blk_cell BK145.out 9).trans rfl; have hcz23_10 : w21.cell? ⟨gb145, 10, none⟩ = some (.int .u32 0) := (blk_cell BK145.out 10).trans rfl; have hfz23_0 := blk_frozen BK145.out 0; have hfz23_1 := blk_frozen BK145.out 1; have hfz23_2 := blk_frozen BK145.out 2; have hfz23_3 := blk_frozen BK145.out 3; have hfz23_4 := blk_frozen BK145.out 4; have hfz23_5 := blk_frozen BK145.out 5; have hfz23_6 := blk_frozen BK145.out 6; have hfz23_7 := blk_frozen BK145.out 7; have hfz23_8 := blk_frozen BK145.out 8; have hfz23_9 := blk_frozen BK145.out 9; have hfz23_10 := blk_frozen BK145.out 10))
    repeat (go_quiet (first | (go_at_call 14; (with_reducible refine (pilcrowref01_Units.calls k1 _ _ x3_1 t137 _ ?side1 ?side2 A11.out).mono ?_); (case side1 => repeat (first | exact (Kd.R_reads' HO_3.out).2.2 | (with_reducible refine Kd.C_alloc ?_ _) | (with_reducible refine Kd.C_drewN ?_ _) | (with_reducible refine Kd.C_drew ?_))); (case side2 => exact (Kd.R_reads' HO_3.out).2.1); rintro e w' ⟨rfl, ⟨nd, rfl⟩⟩; (try first | exact ⟨rfl, _, World.drewN_drewN _ _ _⟩ | exact ⟨rfl, _, Eq.trans (World.drewN_drewN _ _ _) (congrArg (World.drewN _) (Nat.add_assoc _ _ _))⟩)) | (go_at_call 21; (with_reducible refine (pilcrowref03_Bytes.calls k1 _ _ x3_1 t138 _ ?side1 ?side2 A12.out).mono ?_); (case side1 => repeat (first | exact (Kd.R_reads' HO_3.out).2.2 | (with_reducible refine Kd.C_alloc ?_ _) | (with_reducible refine Kd.C_drewN ?_ _) | (with_reducible refine Kd.C_drew ?_))); (case side2 => exact (Kd.R_reads' HO_3.out).2.1); rintro e w20 ⟨rfl, hb⟩; have n0_ := Aside0.mk (Kd.R_below (by (with_reducible repeat (first | apply Kd.R_alloc | apply Kd.R_drewN | apply Kd.R_drew)); exact HO_3.out) hb); have n1_ := Aside0.mk (blk_below (g := gb127) (o := .cells #[.int .i64 0, .int .i64 0, .int .i64 0, .int .i64 0, .int .i64 0, .int .i64 0, .int .i64 0, .int .i64 0, .int .i64 0, .int .u32 0, .int .u32 0] 26 (0, 0)) (by (with_reducible repeat (first | refine blk_drewN ?_ _ | refine blk_drew ?_ | refine blk_alloc ?_ _)); exact BK127.out) hb); have n2_ := Aside0.mk (below_step (by repeat (first | (with_reducible first | exact HB.out | apply below_alloc | apply pw_below_drewN | apply below_drew1 | refine below_set ?_ GE127.out) | exact HB.out)) hb); clear HO_3; clear BK127; clear HB; have HO_3 := n0_; have BK127 := n1_; have HB := n2_; clear n0_ n1_ n2_; (try clear hb); (try clear hb2); (try clear hk); (try clear hi)) | (go_at_call 22; (with_reducible refine (pilcrowref23_count.calls k1 _ _ x3_1 1 t139 _ ?side1 ?side2 A13.out).mono ?_); (case side1 => repeat (first | exact (Kd.R_reads' HO_3.out).2.2 | (with_reducible refine Kd.C_alloc ?_ _) | (with_reducible refine Kd.C_drewN ?_ _) | (with_reducible refine Kd.C_drew ?_))); (case side2 => exact (Kd.R_reads' HO_3.out).2.1); rintro e w' ⟨rfl, ⟨nd, rfl⟩⟩; (try first | exact ⟨rfl, _, World.drewN_drewN _ _ _⟩ | exact ⟨rfl, _, Eq.trans (World.drewN_drewN _ _ _) (congrArg (World.drewN _) (Nat.add_assoc _ _ _))⟩)) | (go_at_call 22; (with_reducible refine (pilcrowref23_count.calls k1 _ _ x3_1 2 t140 _ ?side1 ?side2 A14.out).mono ?_); (case side1 => repeat (first | exact (Kd.R_reads' HO_3.out).2.2 | (with_reducible refine Kd.C_alloc ?_ _) | (with_reducible refine Kd.C_drewN ?_ _) | (with_reducible refine Kd.C_drew ?_))); (case side2 => exact (Kd.R_reads' HO_3.out).2.1); rintro e w' ⟨rfl, ⟨nd, rfl⟩⟩; (try first | exact ⟨rfl, _, World.drewN_drewN _ _ _⟩ | exact ⟨rfl, _, Eq.trans (World.drewN_drewN _ _ _) (congrArg (World.drewN _) (Nat.add_assoc _ _ _))⟩)) | (go_at_call 22; (with_reducible refine (pilcrowref23_count.calls k1 _ _ x3_1 3 t141 _ ?side1 ?side2 A15.out).mono ?_); (case side1 => repeat (first | exact (Kd.R_reads' HO_3.out).2.2 | (with_reducible refine Kd.C_alloc ?_ _) | (with_reducible refine Kd.C_drewN ?_ _) | (with_reducible refine Kd.C_drew ?_))); (case side2 => exact (Kd.R_reads' HO_3.out).2.1); rintro e w' ⟨rfl, ⟨nd, rfl⟩⟩; (try first | exact ⟨rfl, _, World.drewN_drewN _ _ _⟩ | exact ⟨rfl, _, Eq.trans (World.drewN_drewN _ _ _) (congrArg (World.drewN _) (Nat.add_assoc _ _ _))⟩)) | (go_at_call 22; (with_reducible refine (pilcrowref23_count.calls k1 _ _ x3_1 4 t142 _ ?side1 ?side2 A16.out).mono ?_); (case side1 => repeat (first | exact (Kd.R_reads' HO_3.out).2.2 | (with_reducible refine Kd.C_alloc ?_ _) | (with_reducible refine Kd.C_drewN ?_ _) | (with_reducible refine Kd.C_drew ?_))); (case side2 => exact (Kd.R_reads' HO_3.out).2.1); rintro e w' ⟨rfl, ⟨nd, rfl⟩⟩; (try first | exact ⟨rfl, _, World.drewN_drewN _ _ _⟩ | exact ⟨rfl, _, Eq.trans (World.drewN_drewN _ _ _) (congrArg (World.drewN _) (Nat.add_assoc _ _ _))⟩)) | (go_at_call 22; (with_reducible refine (pilcrowref23_count.calls k1 _ _ x3_1 5 t143 _ ?side1 ?side2 A17.out).mono ?_); (case side1 => repeat (first | exact (Kd.R_reads' HO_3.out).2.2 | (with_reducible refine Kd.C_alloc ?_ _) | (with_reducible refine Kd.C_drewN ?_ _) | (with_reducible refine Kd.C_drew ?_))); (case side2 => exact (Kd.R_reads' HO_3.out).2.1); rintro e w' ⟨rfl, ⟨nd, rfl⟩⟩; (try first | exact ⟨rfl, _, World.drewN_drewN _ _ _⟩ | exact ⟨rfl, _, Eq.trans (World.drewN_drewN _ _ _) (congrArg (World.drewN _) (Nat.add_assoc _ _ _))⟩)) | (go_at_call 22; (with_reducible refine (pilcrowref23_count.calls k1 _ _ x3_1 6 t144 _ ?side1 ?side2 A18.out).mono ?_); (case side1 => repeat (first | exact (Kd.R_reads' HO_3.out).2.2 | (with_reducible refine Kd.C_alloc ?_ _) | (with_reducible refine Kd.C_drewN ?_ _) | (with_reducible refine Kd.C_drew ?_))); (case side2 => exact (Kd.R_reads' HO_3.out).2.1); rintro e w' ⟨rfl, ⟨nd, rfl⟩⟩; (try first | exact ⟨rfl, _, World.drewN_drewN _ _ _⟩ | exact ⟨rfl, _, Eq.trans (World.drewN_drewN _ _ _) (congrArg (World.drewN _) (Nat.add_assoc _ _ _))⟩)) | ((with_reducible refine gate_dst (N := 5) rfl ?_); refine box_event ?hg (N := 5) ?hd (cs := #[.int .i64 0, .int .i64 0, .int .i64 0, .int .i64 0, .int .i64 0, .int .i64 0, .int .i64 0, .int .i64 0, .int .i64 0, .int .u32 0, .int .u32 0]) (t := 26) ?hr ?_; (case hd => rfl); (case hg => rfl); (case hr => first | (go_simp; done) | (go_simp; rfl)); intro gb145 hg w21 hbox hb; have n0_ := Aside0.mk (Kd.R_below (by (with_reducible repeat (first | apply Kd.R_alloc | apply Kd.R_drewN | apply Kd.R_drew)); exact HO_3.out) hb); have n1_ := Aside0.mk (blk_below (g := gb127) (o := .cells #[.int .i64 0, .int .i64 0, .int .i64 0, .int .i64 0, .int .i64 0, .int .i64 0, .int .i64 0, .int .i64 0, .int .i64 0, .int .u32 0, .int .u32 0] 26 (0, 0)) (by (with_reducible repeat (first | refine blk_drewN ?_ _ | refine blk_drew ?_ | refine blk_alloc ?_ _)); exact BK127.out) hb); have n2_ := Aside0.mk (below_step (by repeat (first | (with_reducible first | exact HB.out | apply below_alloc | apply pw_below_drewN | apply below_drew1 | refine below_set ?_ GE127.out) | exact HB.out)) hb); have n3_ := Aside0.mk (hbox); have n4_ := Aside0.mk ((by rw [hg]; exact (below_size (by repeat (first | (with_reducible first | exact HB.out | apply below_alloc | apply pw_below_drewN | apply below_drew1 | refine below_set ?_ GE127.out) | exact HB.out))) : w.heap.size ≤ gb145)); have n5_ := Aside0.mk ((by rw [hg]; exact (below_size (by repeat (first | (with_reducible first | exact HB.out | apply below_alloc | apply pw_below_drewN | apply below_drew1 | refine below_set ?_ GE127.out) | exact HB.out))) : w.heap.size ≤ gb145)); have n6_ := Aside0.mk ((by rw [hg]; exact Nat.ne_of_lt (blk_lt (g := gb127) (o := .cells #[.int .i64 0, .int .i64 0, .int .i64 0, .int .i64 0, .int .i64 0, .int .i64 0, .int .i64 0, .int .i64 0, .int .i64 0, .int .u32 0, .int .u32 0] 26 (0, 0)) (by (with_reducible repeat (first | refine blk_drewN ?_ _ | refine blk_drew ?_ | refine blk_alloc ?_ _)); exact BK127.out)) : gb127 ≠ gb145)); have n7_ := Aside0.mk ((by rw [hg]; exact Nat.ne_of_gt (blk_lt (g := gb127) (o := .cells #[.int .i64 0, .int .i64 0, .int .i64 0, .int .i64 0, .int .i64 0, .int .i64 0, .int .i64 0, .int .i64 0, .int .i64 0, .int .u32 0, .int .u32 0] 26 (0, 0)) (by (with_reducible repeat (first | refine blk_drewN ?_ _ | refine blk_drew ?_ | refine blk_alloc ?_ _)); exact BK127.out)) : gb145 ≠ gb127)); clear HO_3; clear BK127; clear HB; have HO_3 := n0_; have BK127 := n1_; have HB := n2_; have BK145 := n3_; have GW145 := n4_; have GE145 := n5_; have NB127_145 := n6_; have NB145_127 := n7_; clear n0_ n1_ n2_ n3_ n4_ n5_ n6_ n7_; clear hb hbox hg; have hnb22 := NB145_127.out; have hnc22 := NB127_145.out; have hcz23_0 : w21.cell? ⟨gb145, 0, none⟩ = some (.int .i64 0) := (blk_cell BK145.out 0).trans rfl; have hcz23_1 : w21.cell? ⟨gb145, 1, none⟩ = some (.int .i64 0) := (blk_cell BK145.out 1).trans rfl; have hcz23_2 : w21.cell? ⟨gb145, 2, none⟩ = some (.int .i64 0) := (blk_cell BK145.out 2).trans rfl; have hcz23_3 : w21.cell? ⟨gb145, 3, none⟩ = some (.int .i64 0) := (blk_cell BK145.out 3).trans rfl; have hcz23_4 : w21.cell? ⟨gb145, 4, none⟩ = some (.int .i64 0) := (blk_cell BK145.out 4).trans rfl; have hcz23_5 : w21.cell? ⟨gb145, 5, none⟩ = some (.int .i64 0) := (blk_cell BK145.out 5).trans rfl; have hcz23_6 : w21.cell? ⟨gb145, 6, none⟩ = some (.int .i64 0) := (blk_cell BK145.out 6).trans rfl; have hcz23_7 : w21.cell? ⟨gb145, 7, none⟩ = some (.int .i64 0) := (blk_cell BK145.out 7).trans rfl; have hcz23_8 : w21.cell? ⟨gb145, 8, none⟩ = some (.int .i64 0) := (blk_cell BK145.out 8).trans rfl; have hcz23_9 : w21.cell? ⟨gb145, 9, none⟩ = some (.int .u32 0) := (blk_cell BK145.out 9).trans rfl; have hcz23_10 : w21.cell? ⟨gb145, 10, none⟩ = some (.int .u32 0) := (blk_cell BK145.out 10).trans rfl; have hfz23_0 := blk_frozen BK145.out 0; have hfz23_1 := blk_frozen BK145.out 1; have hfz23_2 := blk_frozen BK145.out 2; have hfz23_3 := blk_frozen BK145.out 3; have hfz23_4 := blk_frozen BK145.out 4; have hfz23_5 := blk_frozen BK145.out 5; have hfz23_6 := blk_frozen BK145.out 6; have hfz23_7 := blk_frozen BK145.out 7; have hfz23_8 := blk_frozen BK145.out 8; have hfz23_9 := blk_frozen BK145.out 9; have hfz23_10 := blk_frozen BK145.out 10)); try go_wp2_with (first | (go_at_call 14; (with_reducible refine (pilcrowref01_Units.calls k1 _ _ x3_1 t137 _ ?side1 ?side2 A11.out).mono ?_); (case side1 => repeat (first | exact (Kd.R_reads' HO_3.out).2.2 | (with_reducible refine Kd.C_alloc ?_ _) | (with_reducible refine Kd.C_drewN ?_ _) | (with_reducible refine Kd.C_drew ?_))); (case side2 => exact (Kd.R_reads' HO_3.out).2.1); rintro e w' ⟨rfl, ⟨nd, rfl⟩⟩; (try first | exact ⟨rfl, _, World.drewN_drewN _ _ _⟩ | exact ⟨rfl, _, Eq.trans (World.drewN_drewN _ _ _) (congrArg (World.drewN _) (Nat.add_assoc _ _ _))⟩)) | (go_at_call 21; (with_reducible refine (pilcrowref03_Bytes.calls k1 _ _ x3_1 t138 _ ?side1 ?side2 A12.out).mono ?_); (case side1 => repeat (first | exact (Kd.R_reads' HO_3.out).2.2 | (with_reducible refine Kd.C_alloc ?_ _) | (with_reducible refine Kd.C_drewN ?_ _) | (with_reducible refine Kd.C_drew ?_))); (case side2 => exact (Kd.R_reads' HO_3.out).2.1); rintro e w20 ⟨rfl, hb⟩; have n0_ := Aside0.mk (Kd.R_below (by (with_reducible repeat (first | apply Kd.R_alloc | apply Kd.R_drewN | apply Kd.R_drew)); exact HO_3.out) hb); have n1_ := Aside0.mk (blk_below (g := gb127) (o := .cells #[.int .i64 0, .int .i64 0, .int .i64 0, .int .i64 0, .int .i64 0, .int .i64 0, .int .i64 0, .int .i64 0, .int .i64 0, .int .u32 0, .int .u32 0] 26 (0, 0)) (by (with_reducible repeat (first | refine blk_drewN ?_ _ | refine blk_drew ?_ | refine blk_alloc ?_ _)); exact BK127.out) hb); have n2_ := Aside0.mk (below_step (by repeat (first | (with_reducible first | exact HB.out | apply below_alloc | apply pw_below_drewN | apply below_drew1 | refine below_set ?_ GE127.out) | exact HB.out)) hb); clear HO_3; clear BK127; clear HB; have HO_3 := n0_; have BK127 := n1_; have HB := n2_; clear n0_ n1_ n2_; (try clear hb); (try clear hb2); (try clear hk); (try clear hi)) | (go_at_call 22; (with_reducible refine (pilcrowref23_count.calls k1 _ _ x3_1 1 t139 _ ?side1 ?side2 A13.out).mono ?_); (case side1 => repeat (first | exact (Kd.R_reads' HO_3.out).2.2 | (with_reducible refine Kd.C_alloc ?_ _) | (with_reducible refine Kd.C_drewN ?_ _) | (with_reducible refine Kd.C_drew ?_))); (case side2 => exact (Kd.R_reads' HO_3.out).2.1); rintro e w' ⟨rfl, ⟨nd, rfl⟩⟩; (try first | exact ⟨rfl, _, World.drewN_drewN _ _ _⟩ | exact ⟨rfl, _, Eq.trans (World.drewN_drewN _ _ _) (congrArg (World.drewN _) (Nat.add_assoc _ _ _))⟩)) | (go_at_call 22; (with_reducible refine (pilcrowref23_count.calls k1 _ _ x3_1 2 t140 _ ?side1 ?side2 A14.out).mono ?_); (case side1 => repeat (first | exact (Kd.R_reads' HO_3.out).2.2 | (with_reducible refine Kd.C_alloc ?_ _) | (with_reducible refine Kd.C_drewN ?_ _) | (with_reducible refine Kd.C_drew ?_))); (case side2 => exact (Kd.R_reads' HO_3.out).2.1); rintro e w' ⟨rfl, ⟨nd, rfl⟩⟩; (try first | exact ⟨rfl, _, World.drewN_drewN _ _ _⟩ | exact ⟨rfl, _, Eq.trans (World.drewN_drewN _ _ _) (congrArg (World.drewN _) (Nat.add_assoc _ _ _))⟩)) | (go_at_call 22; (with_reducible refine (pilcrowref23_count.calls k1 _ _ x3_1 3 t141 _ ?side1 ?side2 A15.out).mono ?_); (case side1 => repeat (first | exact (Kd.R_reads' HO_3.out).2.2 | (with_reducible refine Kd.C_alloc ?_ _) | (with_reducible refine Kd.C_drewN ?_ _) | (with_reducible refine Kd.C_drew ?_))); (case side2 => exact (Kd.R_reads' HO_3.out).2.1); rintro e w' ⟨rfl, ⟨nd, rfl⟩⟩; (try first | exact ⟨rfl, _, World.drewN_drewN _ _ _⟩ | exact ⟨rfl, _, Eq.trans (World.drewN_drewN _ _ _) (congrArg (World.drewN _) (Nat.add_assoc _ _ _))⟩)) | (go_at_call 22; (with_reducible refine (pilcrowref23_count.calls k1 _ _ x3_1 4 t142 _ ?side1 ?side2 A16.out).mono ?_); (case side1 => repeat (first | exact (Kd.R_reads' HO_3.out).2.2 | (with_reducible refine Kd.C_alloc ?_ _) | (with_reducible refine Kd.C_drewN ?_ _) | (with_reducible refine Kd.C_drew ?_))); (case side2 => exact (Kd.R_reads' HO_3.out).2.1); rintro e w' ⟨rfl, ⟨nd, rfl⟩⟩; (try first | exact ⟨rfl, _, World.drewN_drewN _ _ _⟩ | exact ⟨rfl, _, Eq.trans (World.drewN_drewN _ _ _) (congrArg (World.drewN _) (Nat.add_assoc _ _ _))⟩)) | (go_at_call 22; (with_reducible refine (pilcrowref23_count.calls k1 _ _ x3_1 5 t143 _ ?side1 ?side2 A17.out).mono ?_); (case side1 => repeat (first | exact (Kd.R_reads' HO_3.out).2.2 | (with_reducible refine Kd.C_alloc ?_ _) | (with_reducible refine Kd.C_drewN ?_ _) | (with_reducible refine Kd.C_drew ?_))); (case side2 => exact (Kd.R_reads' HO_3.out).2.1); rintro e w' ⟨rfl, ⟨nd, rfl⟩⟩; (try first | exact ⟨rfl, _, World.drewN_drewN _ _ _⟩ | exact ⟨rfl, _, Eq.trans (World.drewN_drewN _ _ _) (congrArg (World.drewN _) (Nat.add_assoc _ _ _))⟩)) | (go_at_call 22; (with_reducible refine (pilcrowref23_count.calls k1 _ _ x3_1 6 t144 _ ?side1 ?side2 A18.out).mono ?_); (case side1 => repeat (first | exact (Kd.R_reads' HO_3.out).2.2 | (with_reducible refine Kd.C_alloc ?_ _) | (with_reducible refine Kd.C_drewN ?_ _) | (with_reducible refine Kd.C_drew ?_))); (case side2 => exact (Kd.R_reads' HO_3.out).2.1); rintro e w' ⟨rfl, ⟨nd, rfl⟩⟩; (try first | exact ⟨rfl, _, World.drewN_drewN _ _ _⟩ | exact ⟨rfl, _, Eq.trans (World.drewN_drewN _ _ _) (congrArg (World.drewN _) (Nat.add_assoc _ _ _))⟩)) | ((with_reducible refine gate_dst (N := 5) rfl ?_); refine box_event ?hg (N := 5) ?hd (cs := #[.int .i64 0, .int .i64 0, .int .i64 0, .int .i64 0, .int .i64 0, .int .i64 0, .int .i64 0, .int .i64 0, .int .i64 0, .int .u32 0, .int .u32 0]) (t := 26) ?hr ?_; (case hd => rfl); (case hg => rfl); (case hr => first | (go_simp; done) | (go_simp; rfl)); intro gb145 hg w21 hbox hb; have n0_ := Aside0.mk (Kd.R_below (by (with_reducible repeat (first | apply Kd.R_alloc | apply Kd.R_drewN | apply Kd.R_drew)); exact HO_3.out) hb); have n1_ := Aside0.mk (blk_below (g := gb127) (o := .cells #[.int .i64 0, .int .i64 0, .int .i64 0, .int .i64 0, .int .i64 0, .int .i64 0, .int .i64 0, .int .i64 0, .int .i64 0, .int .u32 0, .int .u32 0] 26 (0, 0)) (by (with_reducible repeat (first | refine blk_drewN ?_ _ | refine blk_drew ?_ | refine blk_alloc ?_ _)); exact BK127.out) hb); have n2_ := Aside0.mk (below_step (by repeat (first | (with_reducible first | exact HB.out | apply below_alloc | apply pw_below_drewN | apply below_drew1 | refine below_set ?_ GE127.out) | exact HB.out)) hb); have n3_ := Aside0.mk (hbox); have n4_ := Aside0.mk ((by rw [hg]; exact (below_size (by repeat (first | (with_reducible first | exact HB.out | apply below_alloc | apply pw_below_drewN | apply below_drew1 | refine below_set ?_ GE127.out) | exact HB.out))) : w.heap.size ≤ gb145)); have n5_ := Aside0.mk ((by rw [hg]; exact (below_size (by repeat (first | (with_reducible first | exact HB.out | apply below_alloc | apply pw_below_drewN | apply below_drew1 | refine below_set ?_ GE127.out) | exact HB.out))) : w.heap.size ≤ gb145)); have n6_ := Aside0.mk ((by rw [hg]; exact Nat.ne_of_lt (blk_lt (g := gb127) (o := .cells #[.int .i64 0, .int .i64 0, .int .i64 0, .int .i64 0, .int .i64 0, .int .i64 0, .int .i64 0, .int .i64 0, .int .i64 0, .int .u32 0, .int .u32 0] 26 (0, 0)) (by (with_reducible repeat (first | refine blk_drewN ?_ _ | refine blk_drew ?_ | refine blk_alloc ?_ _)); exact BK127.out)) : gb127 ≠ gb145)); have n7_ := Aside0.mk ((by rw [hg]; exact Nat.ne_of_gt (blk_lt (g := gb127) (o := .cells #[.int .i64 0, .int .i64 0, .int .i64 0, .int .i64 0, .int .i64 0, .int .i64 0, .int .i64 0, .int .i64 0, .int .i64 0, .int .u32 0, .int .u32 0] 26 (0, 0)) (by (with_reducible repeat (first | refine blk_drewN ?_ _ | refine blk_drew ?_ | refine blk_alloc ?_ _)); exact BK127.out)) : gb145 ≠ gb127)); clear HO_3; clear BK127; clear HB; have HO_3 := n0_; have BK127 := n1_; have HB := n2_; have BK145 := n3_; have GW145 := n4_; have GE145 := n5_; have NB127_145 := n6_; have NB145_127 := n7_; clear n0_ n1_ n2_ n3_ n4_ n5_ n6_ n7_; clear hb hbox hg; have hnb22 := NB145_127.out; have hnc22 := NB127_145.out; have hcz23_0 : w21.cell? ⟨gb145, 0, none⟩ = some (.int .i64 0) := (blk_cell BK145.out 0).trans rfl; have hcz23_1 : w21.cell? ⟨gb145, 1, none⟩ = some (.int .i64 0) := (blk_cell BK145.out 1).trans rfl; have hcz23_2 : w21.cell? ⟨gb145, 2, none⟩ = some (.int .i64 0) := (blk_cell BK145.out 2).trans rfl; have hcz23_3 : w21.cell? ⟨gb145, 3, none⟩ = some (.int .i64 0) := (blk_cell BK145.out 3).trans rfl; have hcz23_4 : w21.cell? ⟨gb145, 4, none⟩ = some (.int .i64 0) := (blk_cell BK145.out 4).trans rfl; have hcz23_5 : w21.cell? ⟨gb145, 5, none⟩ = some (.int .i64 0) := (blk_cell BK145.out 5).trans rfl; have hcz23_6 : w21.cell? ⟨gb145, 6, none⟩ = some (.int .i64 0) := (blk_cell BK145.out 6).trans rfl; have hcz23_7 : w21.cell? ⟨gb145, 7, none⟩ = some (.int .i64 0) := (blk_cell BK145.out 7).trans rfl; have hcz23_8 : w21.cell? ⟨gb145, 8, none⟩ = some (.int .i64 0) := (blk_cell BK145.out 8).trans rfl; have hcz23_9 : w21.cell? ⟨gb145, 9, none⟩ = some (.int .u32 0) := (blk_cell BK145.out 9).trans rfl; have hcz23_10 : w21.cell? ⟨gb145, 10, none⟩ = some (.int .u32 0) := (blk_cell BK145.out 10).trans rfl; have hfz23_0 := blk_frozen BK145.out 0; have hfz23_1 := blk_frozen BK145.out 1; have hfz23_2 := blk_frozen BK145.out 2; have hfz23_3 := blk_frozen BK145.out 3; have hfz23_4 := blk_frozen BK145.out 4; have hfz23_5 := blk_frozen BK145.out 5; have hfz23_6 := blk_frozen BK145.out 6; have hfz23_7 := blk_frozen BK145.out 7; have hfz23_8 := blk_frozen BK145.out 8; have hfz23_9 := blk_frozen BK145.out 9; have hfz23_10 := blk_frozen BK145.out 10)))
    go_loopg [6] k1 (fun kq v6 w' => ∃ (x6_2 : Int) (x146009_2 : Int) (x146010_2 : Int), v6 = .int .i64 x6_2 ∧ Aside0 (pilcrowref23_Of.l1 kq x3_1 x6_2 (x3_1.length : Int) t137 (t138.size : Int) t139 t140 t141 t142 t143 t144 x146009_2 x146010_2 = some (r1, r2, r3, r4, r5, r6, r7, r8, r9, r10, r11)) ∧ Aside0 (kq ≤ k1) ∧ Aside0 (Kd.R (Kd.int .u32) 24 w' w.heap.size (fun _ => True) (.slice Ao19 x3_1.length co19) x3_1) ∧ Aside0 (w'.heap[gb127]? = some (.cells #[.int .i64 0, .int .i64 0, .int .i64 0, .int .i64 0, .int .i64 0, .int .i64 0, .int .i64 0, .int .i64 0, .int .i64 0, .int .u32 0, .int .u32 0] 26 (0, 0))) ∧ Aside0 (w'.heap[gb145]? = some (.cells #[.int .i64 (x3_1.length : Int), .int .i64 t137, .int .i64 (t138.size : Int), .int .i64 t139, .int .i64 t140, .int .i64 t141, .int .i64 t142, .int .i64 t143, .int .i64 t144, .int .u32 x146009_2, .int .u32 x146010_2] 26 (0, 0))) ∧ Aside0 (Below w.heap.size w w'))
    case atStart => exact ⟨(0), (0), (0), (by first | rfl | (simp; done) | (simp [*]; done)), H', ⟨Nat.le_refl _⟩, ⟨by (with_reducible repeat (first | apply Kd.R_alloc | apply Kd.R_drewN | apply Kd.R_drew)); exact Kd.R_mono (Kd.R_far (p := ⟨gb145, 10, none⟩) (Kd.R_far (p := ⟨gb145, 9, none⟩) (Kd.R_far (p := ⟨gb145, 8, none⟩) (Kd.R_far (p := ⟨gb145, 7, none⟩) (Kd.R_far (p := ⟨gb145, 6, none⟩) (Kd.R_far (p := ⟨gb145, 5, none⟩) (Kd.R_far (p := ⟨gb145, 4, none⟩) (Kd.R_far (p := ⟨gb145, 3, none⟩) (Kd.R_far (p := ⟨gb145, 2, none⟩) (Kd.R_far (p := ⟨gb145, 1, none⟩) (Kd.R_far (p := ⟨gb145, 0, none⟩) (Kd.R_types HO_3.out BK145.out (by decide)) (fun _ hk => hk.2) (.int .i64 (x3_1.length : Int))) (fun _ hk => hk.2) (.int .i64 t137)) (fun _ hk => hk.2) (.int .i64 (t138.size : Int))) (fun _ hk => hk.2) (.int .i64 t139)) (fun _ hk => hk.2) (.int .i64 t140)) (fun _ hk => hk.2) (.int .i64 t141)) (fun _ hk => hk.2) (.int .i64 t142)) (fun _ hk => hk.2) (.int .i64 t143)) (fun _ hk => hk.2) (.int .i64 t144)) (fun _ hk => hk.2) (.int .u32 0)) (fun _ hk => hk.2) (.int .u32 0)) (fun _ hk => trivial)⟩, ⟨by (with_reducible repeat (first | refine blk_drewN ?_ _ | refine blk_drew ?_ | refine blk_alloc ?_ _)); refine blk_far ?_ NB127_145.out _; (with_reducible repeat (first | refine blk_drewN ?_ _ | refine blk_drew ?_ | refine blk_alloc ?_ _)); refine blk_far ?_ NB127_145.out _; (with_reducible repeat (first | refine blk_drewN ?_ _ | refine blk_drew ?_ | refine blk_alloc ?_ _)); refine blk_far ?_ NB127_145.out _; (with_reducible repeat (first | refine blk_drewN ?_ _ | refine blk_drew ?_ | refine blk_alloc ?_ _)); refine blk_far ?_ NB127_145.out _; (with_reducible repeat (first | refine blk_drewN ?_ _ | refine blk_drew ?_ | refine blk_alloc ?_ _)); refine blk_far ?_ NB127_145.out _; (with_reducible repeat (first | refine blk_drewN ?_ _ | refine blk_drew ?_ | refine blk_alloc ?_ _)); refine blk_far ?_ NB127_145.out _; (with_reducible repeat (first | refine blk_drewN ?_ _ | refine blk_drew ?_ | refine blk_alloc ?_ _)); refine blk_far ?_ NB127_145.out _; (with_reducible repeat (first | refine blk_drewN ?_ _ | refine blk_drew ?_ | refine blk_alloc ?_ _)); refine blk_far ?_ NB127_145.out _; (with_reducible repeat (first | refine blk_drewN ?_ _ | refine blk_drew ?_ | refine blk_alloc ?_ _)); refine blk_far ?_ NB127_145.out _; (with_reducible repeat (first | refine blk_drewN ?_ _ | refine blk_drew ?_ | refine blk_alloc ?_ _)); refine blk_far ?_ NB127_145.out _; (with_reducible repeat (first | refine blk_drewN ?_ _ | refine blk_drew ?_ | refine blk_alloc ?_ _)); refine blk_far ?_ NB127_145.out _; (with_reducible repeat (first | refine blk_drewN ?_ _ | refine blk_drew ?_ | refine blk_alloc ?_ _)); exact BK127.out⟩, ⟨by (with_reducible repeat (first | refine blk_drewN ?_ _ | refine blk_drew ?_ | refine blk_alloc ?_ _)); refine blk_put (cs := #[.int .i64 (x3_1.length : Int), .int .i64 t137, .int .i64 (t138.size : Int), .int .i64 t139, .int .i64 t140, .int .i64 t141, .int .i64 t142, .int .i64 t143, .int .i64 t144, .int .u32 0, .int .u32 0]) ?_ 10 _ rfl; (with_reducible repeat (first | refine blk_drewN ?_ _ | refine blk_drew ?_ | refine blk_alloc ?_ _)); refine blk_put (cs := #[.int .i64 (x3_1.length : Int), .int .i64 t137, .int .i64 (t138.size : Int), .int .i64 t139, .int .i64 t140, .int .i64 t141, .int .i64 t142, .int .i64 t143, .int .i64 t144, .int .u32 0, .int .u32 0]) ?_ 9 _ rfl; (with_reducible repeat (first | refine blk_drewN ?_ _ | refine blk_drew ?_ | refine blk_alloc ?_ _)); refine blk_put (cs := #[.int .i64 (x3_1.length : Int), .int .i64 t137, .int .i64 (t138.size : Int), .int .i64 t139, .int .i64 t140, .int .i64 t141, .int .i64 t142, .int .i64 t143, .int .i64 0, .int .u32 0, .int .u32 0]) ?_ 8 _ rfl; (with_reducible repeat (first | refine blk_drewN ?_ _ | refine blk_drew ?_ | refine blk_alloc ?_ _)); refine blk_put (cs := #[.int .i64 (x3_1.length : Int), .int .i64 t137, .int .i64 (t138.size : Int), .int .i64 t139, .int .i64 t140, .int .i64 t141, .int .i64 t142, .int .i64 0, .int .i64 0, .int .u32 0, .int .u32 0]) ?_ 7 _ rfl; (with_reducible repeat (first | refine blk_drewN ?_ _ | refine blk_drew ?_ | refine blk_alloc ?_ _)); refine blk_put (cs := #[.int .i64 (x3_1.length : Int), .int .i64 t137, .int .i64 (t138.size : Int), .int .i64 t139, .int .i64 t140, .int .i64 t141, .int .i64 0, .int .i64 0, .int .i64 0, .int .u32 0, .int .u32 0]) ?_ 6 _ rfl; (with_reducible repeat (first | refine blk_drewN ?_ _ | refine blk_drew ?_ | refine blk_alloc ?_ _)); refine blk_put (cs := #[.int .i64 (x3_1.length : Int), .int .i64 t137, .int .i64 (t138.size : Int), .int .i64 t139, .int .i64 t140, .int .i64 0, .int .i64 0, .int .i64 0, .int .i64 0, .int .u32 0, .int .u32 0]) ?_ 5 _ rfl; (with_reducible repeat (first | refine blk_drewN ?_ _ | refine blk_drew ?_ | refine blk_alloc ?_ _)); refine blk_put (cs := #[.int .i64 (x3_1.length : Int), .int .i64 t137, .int .i64 (t138.size : Int), .int .i64 t139, .int .i64 0, .int .i64 0, .int .i64 0, .int .i64 0, .int .i64 0, .int .u32 0, .int .u32 0]) ?_ 4 _ rfl; (with_reducible repeat (first | refine blk_drewN ?_ _ | refine blk_drew ?_ | refine blk_alloc ?_ _)); refine blk_put (cs := #[.int .i64 (x3_1.length : Int), .int .i64 t137, .int .i64 (t138.size : Int), .int .i64 0, .int .i64 0, .int .i64 0, .int .i64 0, .int .i64 0, .int .i64 0, .int .u32 0, .int .u32 0]) ?_ 3 _ rfl; (with_reducible repeat (first | refine blk_drewN ?_ _ | refine blk_drew ?_ | refine blk_alloc ?_ _)); refine blk_put (cs := #[.int .i64 (x3_1.length : Int), .int .i64 t137, .int .i64 0, .int .i64 0, .int .i64 0, .int .i64 0, .int .i64 0, .int .i64 0, .int .i64 0, .int .u32 0, .int .u32 0]) ?_ 2 _ rfl; (with_reducible repeat (first | refine blk_drewN ?_ _ | refine blk_drew ?_ | refine blk_alloc ?_ _)); refine blk_put (cs := #[.int .i64 (x3_1.length : Int), .int .i64 0, .int .i64 0, .int .i64 0, .int .i64 0, .int .i64 0, .int .i64 0, .int .i64 0, .int .i64 0, .int .u32 0, .int .u32 0]) ?_ 1 _ rfl; (with_reducible repeat (first | refine blk_drewN ?_ _ | refine blk_drew ?_ | refine blk_alloc ?_ _)); refine blk_put (cs := #[.int .i64 0, .int .i64 0, .int .i64 0, .int .i64 0, .int .i64 0, .int .i64 0, .int .i64 0, .int .i64 0, .int .i64 0, .int .u32 0, .int .u32 0]) ?_ 0 _ rfl; (with_reducible repeat (first | refine blk_drewN ?_ _ | refine blk_drew ?_ | refine blk_alloc ?_ _)); exact BK145.out⟩, ⟨by repeat (first | (with_reducible first | exact HB.out | apply below_alloc | apply pw_below_drewN | apply below_drew1 | refine below_set ?_ GE127.out | refine below_set ?_ GE145.out) | exact HB.out)⟩⟩
    case round =>
     clear H'
     try clear c1
     try clear p1
     try clear q1
     try clear hx1
     try clear c2
     try clear p2
     try clear c5
     try clear c5b0
     try clear c6
     try clear c6b0
     try clear p6
     try clear c8
     try clear c9
     try clear c10
     try clear p13
     try clear q13
     try clear hx13
     try clear c22
     try clear hcz23_0
     try clear hcz23_1
     try clear hcz23_10
     try clear hcz23_2
     try clear hcz23_3
     try clear hcz23_4
     try clear hcz23_5
     try clear hcz23_6
     try clear hcz23_7
     try clear hcz23_8
     try clear hcz23_9
     try clear hfz23_0
     try clear hfz23_1
     try clear hfz23_10
     try clear hfz23_2
     try clear hfz23_3
     try clear hfz23_4
     try clear hfz23_5
     try clear hfz23_6
     try clear hfz23_7
     try clear hfz23_8
     try clear hfz23_9
     try clear hx131_0
     try clear hx133_0
     try clear p131
     try clear p133
     try clear p2
     try clear q131
     try clear q133
     obtain ⟨x6_2, x146009_2, x146010_2, rfl, HA, HK2, HO_3, BK127, BK145, HB⟩ := hrel
     cases gk with
     | zero => exact absurd HA.out (by simp [pilcrowref23_Of.l1])
     | succ k2 =>
      have H := HA.out
      clear HA
      simp only [pilcrowref23_Of.l1] at H
      by_cases c24 : x6_2 < (x3_1.length : Int)
      ·rw [if_pos c24] at H
       have c24b0 : decide (x6_2 < (x3_1.length : Int)) = true := decide_eq_true c24
       clear c24
       have HC25 := Aside0.mk H
       clear H
       go_upto_region 11 with (fail)
       repeat (go_quiet (fail); go_upto_region 11 with (fail))
       go_cut [62] (fun v62 wc => ∃ (kq : Nat) (x62_24 : Bool), v62 = .bool x62_24 ∧ Aside0 (pilcrowref23_Of.j2 kq x3_1 x6_2 x62_24 (x3_1.length : Int) t137 (t138.size : Int) t139 t140 t141 t142 t143 t144 x146009_2 x146010_2 = some (r1, r2, r3, r4, r5, r6, r7, r8, r9, r10, r11)) ∧ Aside0 (kq ≤ k2) ∧ Aside0 (Kd.R (Kd.int .u32) 24 wc w.heap.size (fun _ => True) (.slice Ao19 x3_1.length co19) x3_1) ∧ Aside0 (wc.heap[gb127]? = some (.cells #[.int .i64 0, .int .i64 0, .int .i64 0, .int .i64 0, .int .i64 0, .int .i64 0, .int .i64 0, .int .i64 0, .int .i64 0, .int .u32 0, .int .u32 0] 26 (0, 0))) ∧ Aside0 (wc.heap[gb145]? = some (.cells #[.int .i64 (x3_1.length : Int), .int .i64 t137, .int .i64 (t138.size : Int), .int .i64 t139, .int .i64 t140, .int .i64 t141, .int .i64 t142, .int .i64 t143, .int .i64 t144, .int .u32 x146009_2, .int .u32 x146010_2] 26 (0, 0))) ∧ Aside0 (Below w.heap.size w wc))
       case first =>
        have H := HC25.out
        clear HC25
        by_cases c26 : x6_2 = 0
        ·rw [if_pos c26] at H
         have c26b0 : (x6_2 == 0) = true := beq_iff_eq.mpr c26
         have c26b1 : (x6_2 != 0) = false := bne_eq_false_iff_eq.mpr c26
         clear c26
         (first | rw [c26b0] | (simp only [i64_w, i32_w]; rw [c26b0]) | skip)
         have H' := Aside0.mk H
         clear H
         go_wp2
         repeat (go_quiet (fail); try go_wp2)
         go_meet
         case rel => exact ⟨_, (true), (by first | rfl | (simp; done) | (simp [*]; done)), H', ⟨by have := HK1.out; have := HK2.out; first | omega | exact Nat.le_refl _⟩, ⟨by (with_reducible repeat (first | apply Kd.R_alloc | apply Kd.R_drewN | apply Kd.R_drew)); exact HO_3.out⟩, ⟨by (with_reducible repeat (first | refine blk_drewN ?_ _ | refine blk_drew ?_ | refine blk_alloc ?_ _)); exact BK127.out⟩, ⟨by (with_reducible repeat (first | refine blk_drewN ?_ _ | refine blk_drew ?_ | refine blk_alloc ?_ _)); exact BK145.out⟩, ⟨by repeat (first | (with_reducible first | exact HB.out | apply below_alloc | apply pw_below_drewN | apply below_drew1 | refine below_set ?_ GE127.out | refine below_set ?_ GE145.out) | exact HB.out)⟩⟩
        ·rw [if_neg c26] at H
         have c26b0 : (x6_2 == 0) = false := beq_eq_false_iff_ne.mpr c26
         have c26b1 : (x6_2 != 0) = true := bne_iff_ne.mpr c26
         (first | rw [c26b0] | (simp only [i64_w, i32_w]; rw [c26b0]) | skip)
         by_cases c27 : 0 ≤ x6_2
         ·rw [if_pos c27] at H
          have c27b0 : decide (0 ≤ x6_2) = true := decide_eq_true c27
          clear c27
          have H' := Aside0.mk H
          clear H
          have p146 : 0 ≤ (x6_2 : Int) := of_decide_eq_true (by first | (with_reducible assumption) | assumption)
          have q146 : x6_2 < (x3_1.length : Int) := of_decide_eq_true (by first | (with_reducible assumption) | assumption)
          obtain ⟨ad146, e146, hx146_0⟩ := Kd.at_int (Kd.R_reads' HO_3.out).2.2 x6_2 p146 q146
          cases e146
          replace p146 := eq_true p146
          replace q146 := eq_true q146
          have hnb28 := NB145_127.out
          have hnc28 := NB127_145.out
          have hcz29_0 : wr.cell? ⟨gb145, 0, none⟩ = some (.int .i64 (x3_1.length : Int)) := (blk_cell BK145.out 0).trans rfl
          have hcz29_1 : wr.cell? ⟨gb145, 1, none⟩ = some (.int .i64 t137) := (blk_cell BK145.out 1).trans rfl
          have hcz29_2 : wr.cell? ⟨gb145, 2, none⟩ = some (.int .i64 (t138.size : Int)) := (blk_cell BK145.out 2).trans rfl
          have hcz29_3 : wr.cell? ⟨gb145, 3, none⟩ = some (.int .i64 t139) := (blk_cell BK145.out 3).trans rfl
          have hcz29_4 : wr.cell? ⟨gb145, 4, none⟩ = some (.int .i64 t140) := (blk_cell BK145.out 4).trans rfl
          have hcz29_5 : wr.cell? ⟨gb145, 5, none⟩ = some (.int .i64 t141) := (blk_cell BK145.out 5).trans rfl
          have hcz29_6 : wr.cell? ⟨gb145, 6, none⟩ = some (.int .i64 t142) := (blk_cell BK145.out 6).trans rfl
          have hcz29_7 : wr.cell? ⟨gb145, 7, none⟩ = some (.int .i64 t143) := (blk_cell BK145.out 7).trans rfl
          have hcz29_8 : wr.cell? ⟨gb145, 8, none⟩ = some (.int .i64 t144) := (blk_cell BK145.out 8).trans rfl
          have hcz29_9 : wr.cell? ⟨gb145, 9, none⟩ = some (.int .u32 x146009_2) := (blk_cell BK145.out 9).trans rfl
          have hcz29_10 : wr.cell? ⟨gb145, 10, none⟩ = some (.int .u32 x146010_2) := (blk_cell BK145.out 10).trans rfl
          have hfz29_0 := blk_frozen BK145.out 0
          have hfz29_1 := blk_frozen BK145.out 1
          have hfz29_2 := blk_frozen BK145.out 2
          have hfz29_3 := blk_frozen BK145.out 3
          have hfz29_4 := blk_frozen BK145.out 4
          have hfz29_5 := blk_frozen BK145.out 5
          have hfz29_6 := blk_frozen BK145.out 6
          have hfz29_7 := blk_frozen BK145.out 7
          have hfz29_8 := blk_frozen BK145.out 8
          have hfz29_9 := blk_frozen BK145.out 9
          have hfz29_10 := blk_frozen BK145.out 10
          go_wp2
          repeat (go_quiet (fail); try go_wp2)
          go_meet
          case rel => exact ⟨_, (decide ((rd x3_1 x6_2) < x146009_2)), (by first | rfl | (simp; done) | (simp [*]; done)), H', ⟨by have := HK1.out; have := HK2.out; first | omega | exact Nat.le_refl _⟩, ⟨by (with_reducible repeat (first | apply Kd.R_alloc | apply Kd.R_drewN | apply Kd.R_drew)); exact HO_3.out⟩, ⟨by (with_reducible repeat (first | refine blk_drewN ?_ _ | refine blk_drew ?_ | refine blk_alloc ?_ _)); exact BK127.out⟩, ⟨by (with_reducible repeat (first | refine blk_drewN ?_ _ | refine blk_drew ?_ | refine blk_alloc ?_ _)); exact BK145.out⟩, ⟨by repeat (first | (with_reducible first | exact HB.out | apply below_alloc | apply pw_below_drewN | apply below_drew1 | refine below_set ?_ GE127.out | refine below_set ?_ GE145.out) | exact HB.out)⟩⟩
         ·rw [if_neg c27] at H
          exact absurd H (by simp)
       case rest =>
        clear HC25
        try clear c1
        try clear p1
        try clear q1
        try clear hx1
        try clear c2
        try clear p2
        try clear c5
        try clear c5b0
        try clear c6
        try clear c6b0
        try clear p6
        try clear c8
        try clear c9
        try clear c10
        try clear p13
        try clear q13
        try clear hx13
        try clear p14
        try clear q14
        try clear hx14
        try clear c22
        try clear c24
        try clear c24b0
        try clear c26
        try clear c26b0
        try clear c26b1
        try clear c27
        try clear c27b0
        try clear c28
        try clear hcz23_0
        try clear hcz23_1
        try clear hcz23_10
        try clear hcz23_2
        try clear hcz23_3
        try clear hcz23_4
        try clear hcz23_5
        try clear hcz23_6
        try clear hcz23_7
        try clear hcz23_8
        try clear hcz23_9
        try clear hcz29_0
        try clear hcz29_1
        try clear hcz29_10
        try clear hcz29_2
        try clear hcz29_3
        try clear hcz29_4
        try clear hcz29_5
        try clear hcz29_6
        try clear hcz29_7
        try clear hcz29_8
        try clear hcz29_9
        try clear hfz23_0
        try clear hfz23_1
        try clear hfz23_10
        try clear hfz23_2
        try clear hfz23_3
        try clear hfz23_4
        try clear hfz23_5
        try clear hfz23_6
        try clear hfz23_7
        try clear hfz23_8
        try clear hfz23_9
        try clear hfz29_0
        try clear hfz29_1
        try clear hfz29_10
        try clear hfz29_2
        try clear hfz29_3
        try clear hfz29_4
        try clear hfz29_5
        try clear hfz29_6
        try clear hfz29_7
        try clear hfz29_8
        try clear hfz29_9
        try clear hx131_0
        try clear hx133_0
        try clear hx146_0
        try clear p1
        try clear p13
        try clear p131
        try clear p133
        try clear p146
        try clear p2
        try clear p6
        try clear q1
        try clear q13
        try clear q131
        try clear q133
        try clear q146
        obtain ⟨kq, x62_24, rfl, HA, HJ24, HO_3, BK127, BK145, HB⟩ := hcut
        cases kq with
        | zero => exact absurd HA.out (by simp [pilcrowref23_Of.j2])
        | succ kj24 =>
         have H := HA.out
         clear HA
         simp only [pilcrowref23_Of.j2] at H
         by_cases c30 : x62_24 = true
         ·subst c30
          have H1 : (if 0 ≤ x6_2 then (if x6_2 < (x3_1.length : Int) then (if (rd x3_1 x6_2) > x146010_2 then (pilcrowref23_Of.l1 kj24 x3_1 (wrap64 (x6_2 + 1)) (x3_1.length : Int) t137 (t138.size : Int) t139 t140 t141 t142 t143 t144 (rd x3_1 x6_2) (rd x3_1 x6_2)) else (pilcrowref23_Of.l1 kj24 x3_1 (wrap64 (x6_2 + 1)) (x3_1.length : Int) t137 (t138.size : Int) t139 t140 t141 t142 t143 t144 (rd x3_1 x6_2) x146010_2)) else (none)) else (none)) = some (r1, r2, r3, r4, r5, r6, r7, r8, r9, r10, r11) := by rw [if_pos rfl] at H; exact H
          clear H
          have H := H1
          clear H1
          by_cases c31 : 0 ≤ x6_2
          ·rw [if_pos c31] at H
           have c31b0 : decide (0 ≤ x6_2) = true := decide_eq_true c31
           clear c31
           by_cases c32 : x6_2 < (x3_1.length : Int)
           ·rw [if_pos c32] at H
            have c32b0 : decide (x6_2 < (x3_1.length : Int)) = true := decide_eq_true c32
            clear c32
            by_cases c33 : (rd x3_1 x6_2) > x146010_2
            ·rw [if_pos c33] at H
             have c33b0 : decide (x146010_2 < (rd x3_1 x6_2)) = true := decide_eq_true c33
             clear c33
             have H' := Aside0.mk H
             clear H
             have p147 : 0 ≤ (x6_2 : Int) := of_decide_eq_true (by first | (with_reducible assumption) | assumption)
             have q147 : x6_2 < (x3_1.length : Int) := of_decide_eq_true (by first | (with_reducible assumption) | assumption)
             obtain ⟨ad147, e147, hx147_0⟩ := Kd.at_int (Kd.R_reads' HO_3.out).2.2 x6_2 p147 q147
             cases e147
             replace p147 := eq_true p147
             replace q147 := eq_true q147
             have hnb34 := NB145_127.out
             have hnc34 := NB127_145.out
             have hcz35_0 : wc.cell? ⟨gb145, 0, none⟩ = some (.int .i64 (x3_1.length : Int)) := (blk_cell BK145.out 0).trans rfl
             have hcz35_1 : wc.cell? ⟨gb145, 1, none⟩ = some (.int .i64 t137) := (blk_cell BK145.out 1).trans rfl
             have hcz35_2 : wc.cell? ⟨gb145, 2, none⟩ = some (.int .i64 (t138.size : Int)) := (blk_cell BK145.out 2).trans rfl
             have hcz35_3 : wc.cell? ⟨gb145, 3, none⟩ = some (.int .i64 t139) := (blk_cell BK145.out 3).trans rfl
             have hcz35_4 : wc.cell? ⟨gb145, 4, none⟩ = some (.int .i64 t140) := (blk_cell BK145.out 4).trans rfl
             have hcz35_5 : wc.cell? ⟨gb145, 5, none⟩ = some (.int .i64 t141) := (blk_cell BK145.out 5).trans rfl
             have hcz35_6 : wc.cell? ⟨gb145, 6, none⟩ = some (.int .i64 t142) := (blk_cell BK145.out 6).trans rfl
             have hcz35_7 : wc.cell? ⟨gb145, 7, none⟩ = some (.int .i64 t143) := (blk_cell BK145.out 7).trans rfl
             have hcz35_8 : wc.cell? ⟨gb145, 8, none⟩ = some (.int .i64 t144) := (blk_cell BK145.out 8).trans rfl
             have hcz35_9 : wc.cell? ⟨gb145, 9, none⟩ = some (.int .u32 x146009_2) := (blk_cell BK145.out 9).trans rfl
             have hcz35_10 : wc.cell? ⟨gb145, 10, none⟩ = some (.int .u32 x146010_2) := (blk_cell BK145.out 10).trans rfl
             have hfz35_0 := blk_frozen BK145.out 0
             have hfz35_1 := blk_frozen BK145.out 1
             have hfz35_2 := blk_frozen BK145.out 2
             have hfz35_3 := blk_frozen BK145.out 3
             have hfz35_4 := blk_frozen BK145.out 4
             have hfz35_5 := blk_frozen BK145.out 5
             have hfz35_6 := blk_frozen BK145.out 6
             have hfz35_7 := blk_frozen BK145.out 7
             have hfz35_8 := blk_frozen BK145.out 8
             have hfz35_9 := blk_frozen BK145.out 9
             have hfz35_10 := blk_frozen BK145.out 10
             have p148 : 0 ≤ (x6_2 : Int) := of_decide_eq_true (by first | (with_reducible assumption) | assumption)
             have q148 : x6_2 < (x3_1.length : Int) := of_decide_eq_true (by first | (with_reducible assumption) | assumption)
             obtain ⟨ad148, e148, hx148_0⟩ := Kd.at_int (Kd.R_reads' HO_3.out).2.2 x6_2 p148 q148
             obtain rfl : ad147 = ad148 := (by injection e148)
             have hn148_0 : ad147.block ≠ gb145 := Kd.own_blk (Kd.R_ne HO_3.out BK145.out (by decide))
             replace hx148_0 := (cell_far (p := ⟨gb145, 9, none⟩) (by first | (rw [add_block]; exact hn148_0) | (show (Addr.add _ _).block ≠ _; rw [add_block]; exact hn148_0) | exact hn148_0) (.int .u32 (rd x3_1 x6_2))).trans hx148_0
             (try have hy148_0 := fun (n_ : Nat) => (show (((wc.drewN n_).setCell ⟨gb145, 9, none⟩ (.int .u32 (rd x3_1 x6_2)))).cell? _ = some _ from hx148_0))
             clear hn148_0
             replace p148 := eq_true p148
             replace q148 := eq_true q148
             have p149 : 0 ≤ (x6_2 : Int) := of_decide_eq_true (by first | (with_reducible assumption) | assumption)
             have q149 : x6_2 < (x3_1.length : Int) := of_decide_eq_true (by first | (with_reducible assumption) | assumption)
             obtain ⟨ad149, e149, hx149_0⟩ := Kd.at_int (Kd.R_reads' HO_3.out).2.2 x6_2 p149 q149
             obtain rfl : ad147 = ad149 := (by injection e149)
             have hn149_0 : ad147.block ≠ gb145 := Kd.own_blk (Kd.R_ne HO_3.out BK145.out (by decide))
             replace hx149_0 := (cell_far (p := ⟨gb145, 9, none⟩) (by first | (rw [add_block]; exact hn149_0) | (show (Addr.add _ _).block ≠ _; rw [add_block]; exact hn149_0) | exact hn149_0) (.int .u32 (rd x3_1 x6_2))).trans hx149_0
             (try have hy149_0 := fun (n_ : Nat) => (show (((wc.drewN n_).setCell ⟨gb145, 9, none⟩ (.int .u32 (rd x3_1 x6_2)))).cell? _ = some _ from hx149_0))
             clear hn149_0
             replace p149 := eq_true p149
             replace q149 := eq_true q149
             go_wp2
             repeat (go_quiet (fail); try go_wp2)
             go_roundg kj24
             case measure => have := HK1.out; have := HK2.out; have := HJ24.out; omega
             case rel => exact ⟨(wrap64 (x6_2 + 1)), (rd x3_1 x6_2), (rd x3_1 x6_2), (by first | rfl | (simp; done) | (simp [*]; done)), H', ⟨by have := HK1.out; have := HK2.out; have := HJ24.out; omega⟩, ⟨by (with_reducible repeat (first | apply Kd.R_alloc | apply Kd.R_drewN | apply Kd.R_drew)); exact Kd.R_mono (Kd.R_far (p := ⟨gb145, 10, none⟩) (Kd.R_far (p := ⟨gb145, 9, none⟩) (Kd.R_types HO_3.out BK145.out (by decide)) (fun _ hk => hk.2) (.int .u32 (rd x3_1 x6_2))) (fun _ hk => hk.2) (.int .u32 (rd x3_1 x6_2))) (fun _ hk => trivial)⟩, ⟨by (with_reducible repeat (first | refine blk_drewN ?_ _ | refine blk_drew ?_ | refine blk_alloc ?_ _)); refine blk_far ?_ NB127_145.out _; (with_reducible repeat (first | refine blk_drewN ?_ _ | refine blk_drew ?_ | refine blk_alloc ?_ _)); refine blk_far ?_ NB127_145.out _; (with_reducible repeat (first | refine blk_drewN ?_ _ | refine blk_drew ?_ | refine blk_alloc ?_ _)); exact BK127.out⟩, ⟨by (with_reducible repeat (first | refine blk_drewN ?_ _ | refine blk_drew ?_ | refine blk_alloc ?_ _)); refine blk_put (cs := #[.int .i64 (x3_1.length : Int), .int .i64 t137, .int .i64 (t138.size : Int), .int .i64 t139, .int .i64 t140, .int .i64 t141, .int .i64 t142, .int .i64 t143, .int .i64 t144, .int .u32 (rd x3_1 x6_2), .int .u32 x146010_2]) ?_ 10 _ rfl; (with_reducible repeat (first | refine blk_drewN ?_ _ | refine blk_drew ?_ | refine blk_alloc ?_ _)); refine blk_put (cs := #[.int .i64 (x3_1.length : Int), .int .i64 t137, .int .i64 (t138.size : Int), .int .i64 t139, .int .i64 t140, .int .i64 t141, .int .i64 t142, .int .i64 t143, .int .i64 t144, .int .u32 x146009_2, .int .u32 x146010_2]) ?_ 9 _ rfl; (with_reducible repeat (first | refine blk_drewN ?_ _ | refine blk_drew ?_ | refine blk_alloc ?_ _)); exact BK145.out⟩, ⟨by repeat (first | (with_reducible first | exact HB.out | apply below_alloc | apply pw_below_drewN | apply below_drew1 | refine below_set ?_ GE127.out | refine below_set ?_ GE145.out) | exact HB.out)⟩⟩
            ·rw [if_neg c33] at H
             have c33b0 : decide (x146010_2 < (rd x3_1 x6_2)) = false := decide_eq_false c33
             clear c33
             have H' := Aside0.mk H
             clear H
             have p147 : 0 ≤ (x6_2 : Int) := of_decide_eq_true (by first | (with_reducible assumption) | assumption)
             have q147 : x6_2 < (x3_1.length : Int) := of_decide_eq_true (by first | (with_reducible assumption) | assumption)
             obtain ⟨ad147, e147, hx147_0⟩ := Kd.at_int (Kd.R_reads' HO_3.out).2.2 x6_2 p147 q147
             cases e147
             replace p147 := eq_true p147
             replace q147 := eq_true q147
             have hnb36 := NB145_127.out
             have hnc36 := NB127_145.out
             have hcz37_0 : wc.cell? ⟨gb145, 0, none⟩ = some (.int .i64 (x3_1.length : Int)) := (blk_cell BK145.out 0).trans rfl
             have hcz37_1 : wc.cell? ⟨gb145, 1, none⟩ = some (.int .i64 t137) := (blk_cell BK145.out 1).trans rfl
             have hcz37_2 : wc.cell? ⟨gb145, 2, none⟩ = some (.int .i64 (t138.size : Int)) := (blk_cell BK145.out 2).trans rfl
             have hcz37_3 : wc.cell? ⟨gb145, 3, none⟩ = some (.int .i64 t139) := (blk_cell BK145.out 3).trans rfl
             have hcz37_4 : wc.cell? ⟨gb145, 4, none⟩ = some (.int .i64 t140) := (blk_cell BK145.out 4).trans rfl
             have hcz37_5 : wc.cell? ⟨gb145, 5, none⟩ = some (.int .i64 t141) := (blk_cell BK145.out 5).trans rfl
             have hcz37_6 : wc.cell? ⟨gb145, 6, none⟩ = some (.int .i64 t142) := (blk_cell BK145.out 6).trans rfl
             have hcz37_7 : wc.cell? ⟨gb145, 7, none⟩ = some (.int .i64 t143) := (blk_cell BK145.out 7).trans rfl
             have hcz37_8 : wc.cell? ⟨gb145, 8, none⟩ = some (.int .i64 t144) := (blk_cell BK145.out 8).trans rfl
             have hcz37_9 : wc.cell? ⟨gb145, 9, none⟩ = some (.int .u32 x146009_2) := (blk_cell BK145.out 9).trans rfl
             have hcz37_10 : wc.cell? ⟨gb145, 10, none⟩ = some (.int .u32 x146010_2) := (blk_cell BK145.out 10).trans rfl
             have hfz37_0 := blk_frozen BK145.out 0
             have hfz37_1 := blk_frozen BK145.out 1
             have hfz37_2 := blk_frozen BK145.out 2
             have hfz37_3 := blk_frozen BK145.out 3
             have hfz37_4 := blk_frozen BK145.out 4
             have hfz37_5 := blk_frozen BK145.out 5
             have hfz37_6 := blk_frozen BK145.out 6
             have hfz37_7 := blk_frozen BK145.out 7
             have hfz37_8 := blk_frozen BK145.out 8
             have hfz37_9 := blk_frozen BK145.out 9
             have hfz37_10 := blk_frozen BK145.out 10
             have p148 : 0 ≤ (x6_2 : Int) := of_decide_eq_true (by first | (with_reducible assumption) | assumption)
             have q148 : x6_2 < (x3_1.length : Int) := of_decide_eq_true (by first | (with_reducible assumption) | assumption)
             obtain ⟨ad148, e148, hx148_0⟩ := Kd.at_int (Kd.R_reads' HO_3.out).2.2 x6_2 p148 q148
             obtain rfl : ad147 = ad148 := (by injection e148)
             have hn148_0 : ad147.block ≠ gb145 := Kd.own_blk (Kd.R_ne HO_3.out BK145.out (by decide))
             replace hx148_0 := (cell_far (p := ⟨gb145, 9, none⟩) (by first | (rw [add_block]; exact hn148_0) | (show (Addr.add _ _).block ≠ _; rw [add_block]; exact hn148_0) | exact hn148_0) (.int .u32 (rd x3_1 x6_2))).trans hx148_0
             (try have hy148_0 := fun (n_ : Nat) => (show (((wc.drewN n_).setCell ⟨gb145, 9, none⟩ (.int .u32 (rd x3_1 x6_2)))).cell? _ = some _ from hx148_0))
             clear hn148_0
             replace p148 := eq_true p148
             replace q148 := eq_true q148
             go_wp2
             repeat (go_quiet (fail); try go_wp2)
             go_roundg kj24
             case measure => have := HK1.out; have := HK2.out; have := HJ24.out; omega
             case rel => exact ⟨(wrap64 (x6_2 + 1)), (rd x3_1 x6_2), (x146010_2), (by first | rfl | (simp; done) | (simp [*]; done)), H', ⟨by have := HK1.out; have := HK2.out; have := HJ24.out; omega⟩, ⟨by (with_reducible repeat (first | apply Kd.R_alloc | apply Kd.R_drewN | apply Kd.R_drew)); exact Kd.R_mono (Kd.R_far (p := ⟨gb145, 9, none⟩) (Kd.R_types HO_3.out BK145.out (by decide)) (fun _ hk => hk.2) (.int .u32 (rd x3_1 x6_2))) (fun _ hk => trivial)⟩, ⟨by (with_reducible repeat (first | refine blk_drewN ?_ _ | refine blk_drew ?_ | refine blk_alloc ?_ _)); refine blk_far ?_ NB127_145.out _; (with_reducible repeat (first | refine blk_drewN ?_ _ | refine blk_drew ?_ | refine blk_alloc ?_ _)); exact BK127.out⟩, ⟨by (with_reducible repeat (first | refine blk_drewN ?_ _ | refine blk_drew ?_ | refine blk_alloc ?_ _)); refine blk_put (cs := #[.int .i64 (x3_1.length : Int), .int .i64 t137, .int .i64 (t138.size : Int), .int .i64 t139, .int .i64 t140, .int .i64 t141, .int .i64 t142, .int .i64 t143, .int .i64 t144, .int .u32 x146009_2, .int .u32 x146010_2]) ?_ 9 _ rfl; (with_reducible repeat (first | refine blk_drewN ?_ _ | refine blk_drew ?_ | refine blk_alloc ?_ _)); exact BK145.out⟩, ⟨by repeat (first | (with_reducible first | exact HB.out | apply below_alloc | apply pw_below_drewN | apply below_drew1 | refine below_set ?_ GE127.out | refine below_set ?_ GE145.out) | exact HB.out)⟩⟩
           ·rw [if_neg c32] at H
            exact absurd H (by simp)
          ·rw [if_neg c31] at H
           exact absurd H (by simp)
         ·replace c30 := Bool.eq_false_iff.mpr c30
          subst c30
          have H1 : (if 0 ≤ x6_2 then (if x6_2 < (x3_1.length : Int) then (if (rd x3_1 x6_2) > x146010_2 then (pilcrowref23_Of.l1 kj24 x3_1 (wrap64 (x6_2 + 1)) (x3_1.length : Int) t137 (t138.size : Int) t139 t140 t141 t142 t143 t144 x146009_2 (rd x3_1 x6_2)) else (pilcrowref23_Of.l1 kj24 x3_1 (wrap64 (x6_2 + 1)) (x3_1.length : Int) t137 (t138.size : Int) t139 t140 t141 t142 t143 t144 x146009_2 x146010_2)) else (none)) else (none)) = some (r1, r2, r3, r4, r5, r6, r7, r8, r9, r10, r11) := by rw [if_neg (show ¬ (false = true) by decide)] at H; exact H
          clear H
          have H := H1
          clear H1
          by_cases c38 : 0 ≤ x6_2
          ·rw [if_pos c38] at H
           have c38b0 : decide (0 ≤ x6_2) = true := decide_eq_true c38
           clear c38
           by_cases c39 : x6_2 < (x3_1.length : Int)
           ·rw [if_pos c39] at H
            have c39b0 : decide (x6_2 < (x3_1.length : Int)) = true := decide_eq_true c39
            clear c39
            by_cases c40 : (rd x3_1 x6_2) > x146010_2
            ·rw [if_pos c40] at H
             have c40b0 : decide (x146010_2 < (rd x3_1 x6_2)) = true := decide_eq_true c40
             clear c40
             have H' := Aside0.mk H
             clear H
             have p150 : 0 ≤ (x6_2 : Int) := of_decide_eq_true (by first | (with_reducible assumption) | assumption)
             have q150 : x6_2 < (x3_1.length : Int) := of_decide_eq_true (by first | (with_reducible assumption) | assumption)
             obtain ⟨ad150, e150, hx150_0⟩ := Kd.at_int (Kd.R_reads' HO_3.out).2.2 x6_2 p150 q150
             cases e150
             replace p150 := eq_true p150
             replace q150 := eq_true q150
             have hnb41 := NB145_127.out
             have hnc41 := NB127_145.out
             have hcz42_0 : wc.cell? ⟨gb145, 0, none⟩ = some (.int .i64 (x3_1.length : Int)) := (blk_cell BK145.out 0).trans rfl
             have hcz42_1 : wc.cell? ⟨gb145, 1, none⟩ = some (.int .i64 t137) := (blk_cell BK145.out 1).trans rfl
             have hcz42_2 : wc.cell? ⟨gb145, 2, none⟩ = some (.int .i64 (t138.size : Int)) := (blk_cell BK145.out 2).trans rfl
             have hcz42_3 : wc.cell? ⟨gb145, 3, none⟩ = some (.int .i64 t139) := (blk_cell BK145.out 3).trans rfl
             have hcz42_4 : wc.cell? ⟨gb145, 4, none⟩ = some (.int .i64 t140) := (blk_cell BK145.out 4).trans rfl
             have hcz42_5 : wc.cell? ⟨gb145, 5, none⟩ = some (.int .i64 t141) := (blk_cell BK145.out 5).trans rfl
             have hcz42_6 : wc.cell? ⟨gb145, 6, none⟩ = some (.int .i64 t142) := (blk_cell BK145.out 6).trans rfl
             have hcz42_7 : wc.cell? ⟨gb145, 7, none⟩ = some (.int .i64 t143) := (blk_cell BK145.out 7).trans rfl
             have hcz42_8 : wc.cell? ⟨gb145, 8, none⟩ = some (.int .i64 t144) := (blk_cell BK145.out 8).trans rfl
             have hcz42_9 : wc.cell? ⟨gb145, 9, none⟩ = some (.int .u32 x146009_2) := (blk_cell BK145.out 9).trans rfl
             have hcz42_10 : wc.cell? ⟨gb145, 10, none⟩ = some (.int .u32 x146010_2) := (blk_cell BK145.out 10).trans rfl
             have hfz42_0 := blk_frozen BK145.out 0
             have hfz42_1 := blk_frozen BK145.out 1
             have hfz42_2 := blk_frozen BK145.out 2
             have hfz42_3 := blk_frozen BK145.out 3
             have hfz42_4 := blk_frozen BK145.out 4
             have hfz42_5 := blk_frozen BK145.out 5
             have hfz42_6 := blk_frozen BK145.out 6
             have hfz42_7 := blk_frozen BK145.out 7
             have hfz42_8 := blk_frozen BK145.out 8
             have hfz42_9 := blk_frozen BK145.out 9
             have hfz42_10 := blk_frozen BK145.out 10
             have p151 : 0 ≤ (x6_2 : Int) := of_decide_eq_true (by first | (with_reducible assumption) | assumption)
             have q151 : x6_2 < (x3_1.length : Int) := of_decide_eq_true (by first | (with_reducible assumption) | assumption)
             obtain ⟨ad151, e151, hx151_0⟩ := Kd.at_int (Kd.R_reads' HO_3.out).2.2 x6_2 p151 q151
             obtain rfl : ad150 = ad151 := (by injection e151)
             replace p151 := eq_true p151
             replace q151 := eq_true q151
             go_wp2
             repeat (go_quiet (fail); try go_wp2)
             go_roundg kj24
             case measure => have := HK1.out; have := HK2.out; have := HJ24.out; omega
             case rel => exact ⟨(wrap64 (x6_2 + 1)), (x146009_2), (rd x3_1 x6_2), (by first | rfl | (simp; done) | (simp [*]; done)), H', ⟨by have := HK1.out; have := HK2.out; have := HJ24.out; omega⟩, ⟨by (with_reducible repeat (first | apply Kd.R_alloc | apply Kd.R_drewN | apply Kd.R_drew)); exact Kd.R_mono (Kd.R_far (p := ⟨gb145, 10, none⟩) (Kd.R_types HO_3.out BK145.out (by decide)) (fun _ hk => hk.2) (.int .u32 (rd x3_1 x6_2))) (fun _ hk => trivial)⟩, ⟨by (with_reducible repeat (first | refine blk_drewN ?_ _ | refine blk_drew ?_ | refine blk_alloc ?_ _)); refine blk_far ?_ NB127_145.out _; (with_reducible repeat (first | refine blk_drewN ?_ _ | refine blk_drew ?_ | refine blk_alloc ?_ _)); exact BK127.out⟩, ⟨by (with_reducible repeat (first | refine blk_drewN ?_ _ | refine blk_drew ?_ | refine blk_alloc ?_ _)); refine blk_put (cs := #[.int .i64 (x3_1.length : Int), .int .i64 t137, .int .i64 (t138.size : Int), .int .i64 t139, .int .i64 t140, .int .i64 t141, .int .i64 t142, .int .i64 t143, .int .i64 t144, .int .u32 x146009_2, .int .u32 x146010_2]) ?_ 10 _ rfl; (with_reducible repeat (first | refine blk_drewN ?_ _ | refine blk_drew ?_ | refine blk_alloc ?_ _)); exact BK145.out⟩, ⟨by repeat (first | (with_reducible first | exact HB.out | apply below_alloc | apply pw_below_drewN | apply below_drew1 | refine below_set ?_ GE127.out | refine below_set ?_ GE145.out) | exact HB.out)⟩⟩
            ·rw [if_neg c40] at H
             have c40b0 : decide (x146010_2 < (rd x3_1 x6_2)) = false := decide_eq_false c40
             clear c40
             have H' := Aside0.mk H
             clear H
             have p150 : 0 ≤ (x6_2 : Int) := of_decide_eq_true (by first | (with_reducible assumption) | assumption)
             have q150 : x6_2 < (x3_1.length : Int) := of_decide_eq_true (by first | (with_reducible assumption) | assumption)
             obtain ⟨ad150, e150, hx150_0⟩ := Kd.at_int (Kd.R_reads' HO_3.out).2.2 x6_2 p150 q150
             cases e150
             replace p150 := eq_true p150
             replace q150 := eq_true q150
             have hnb43 := NB145_127.out
             have hnc43 := NB127_145.out
             have hcz44_0 : wc.cell? ⟨gb145, 0, none⟩ = some (.int .i64 (x3_1.length : Int)) := (blk_cell BK145.out 0).trans rfl
             have hcz44_1 : wc.cell? ⟨gb145, 1, none⟩ = some (.int .i64 t137) := (blk_cell BK145.out 1).trans rfl
             have hcz44_2 : wc.cell? ⟨gb145, 2, none⟩ = some (.int .i64 (t138.size : Int)) := (blk_cell BK145.out 2).trans rfl
             have hcz44_3 : wc.cell? ⟨gb145, 3, none⟩ = some (.int .i64 t139) := (blk_cell BK145.out 3).trans rfl
             have hcz44_4 : wc.cell? ⟨gb145, 4, none⟩ = some (.int .i64 t140) := (blk_cell BK145.out 4).trans rfl
             have hcz44_5 : wc.cell? ⟨gb145, 5, none⟩ = some (.int .i64 t141) := (blk_cell BK145.out 5).trans rfl
             have hcz44_6 : wc.cell? ⟨gb145, 6, none⟩ = some (.int .i64 t142) := (blk_cell BK145.out 6).trans rfl
             have hcz44_7 : wc.cell? ⟨gb145, 7, none⟩ = some (.int .i64 t143) := (blk_cell BK145.out 7).trans rfl
             have hcz44_8 : wc.cell? ⟨gb145, 8, none⟩ = some (.int .i64 t144) := (blk_cell BK145.out 8).trans rfl
             have hcz44_9 : wc.cell? ⟨gb145, 9, none⟩ = some (.int .u32 x146009_2) := (blk_cell BK145.out 9).trans rfl
             have hcz44_10 : wc.cell? ⟨gb145, 10, none⟩ = some (.int .u32 x146010_2) := (blk_cell BK145.out 10).trans rfl
             have hfz44_0 := blk_frozen BK145.out 0
             have hfz44_1 := blk_frozen BK145.out 1
             have hfz44_2 := blk_frozen BK145.out 2
             have hfz44_3 := blk_frozen BK145.out 3
             have hfz44_4 := blk_frozen BK145.out 4
             have hfz44_5 := blk_frozen BK145.out 5
             have hfz44_6 := blk_frozen BK145.out 6
             have hfz44_7 := blk_frozen BK145.out 7
             have hfz44_8 := blk_frozen BK145.out 8
             have hfz44_9 := blk_frozen BK145.out 9
             have hfz44_10 := blk_frozen BK145.out 10
             go_wp2
             repeat (go_quiet (fail); try go_wp2)
             go_roundg kj24
             case measure => have := HK1.out; have := HK2.out; have := HJ24.out; omega
             case rel => exact ⟨(wrap64 (x6_2 + 1)), (x146009_2), (x146010_2), (by first | rfl | (simp; done) | (simp [*]; done)), H', ⟨by have := HK1.out; have := HK2.out; have := HJ24.out; omega⟩, ⟨by (with_reducible repeat (first | apply Kd.R_alloc | apply Kd.R_drewN | apply Kd.R_drew)); exact HO_3.out⟩, ⟨by (with_reducible repeat (first | refine blk_drewN ?_ _ | refine blk_drew ?_ | refine blk_alloc ?_ _)); exact BK127.out⟩, ⟨by (with_reducible repeat (first | refine blk_drewN ?_ _ | refine blk_drew ?_ | refine blk_alloc ?_ _)); exact BK145.out⟩, ⟨by repeat (first | (with_reducible first | exact HB.out | apply below_alloc | apply pw_below_drewN | apply below_drew1 | refine below_set ?_ GE127.out | refine below_set ?_ GE145.out) | exact HB.out)⟩⟩
           ·rw [if_neg c39] at H
            exact absurd H (by simp)
          ·rw [if_neg c38] at H
           exact absurd H (by simp)
      ·rw [if_neg c24] at H
       have c24b0 : decide (x6_2 < (x3_1.length : Int)) = false := decide_eq_false c24
       clear c24
       simp only [Option.some.injEq, Prod.mk.injEq] at H
       obtain ⟨rfl, rfl, rfl, rfl, rfl, rfl, rfl, rfl, rfl, rfl, rfl⟩ := H
       have hnb45 := NB145_127.out
       have hnc45 := NB127_145.out
       have hcz46_0 : wr.cell? ⟨gb145, 0, none⟩ = some (.int .i64 (x3_1.length : Int)) := (blk_cell BK145.out 0).trans rfl
       have hcz46_1 : wr.cell? ⟨gb145, 1, none⟩ = some (.int .i64 t137) := (blk_cell BK145.out 1).trans rfl
       have hcz46_2 : wr.cell? ⟨gb145, 2, none⟩ = some (.int .i64 (t138.size : Int)) := (blk_cell BK145.out 2).trans rfl
       have hcz46_3 : wr.cell? ⟨gb145, 3, none⟩ = some (.int .i64 t139) := (blk_cell BK145.out 3).trans rfl
       have hcz46_4 : wr.cell? ⟨gb145, 4, none⟩ = some (.int .i64 t140) := (blk_cell BK145.out 4).trans rfl
       have hcz46_5 : wr.cell? ⟨gb145, 5, none⟩ = some (.int .i64 t141) := (blk_cell BK145.out 5).trans rfl
       have hcz46_6 : wr.cell? ⟨gb145, 6, none⟩ = some (.int .i64 t142) := (blk_cell BK145.out 6).trans rfl
       have hcz46_7 : wr.cell? ⟨gb145, 7, none⟩ = some (.int .i64 t143) := (blk_cell BK145.out 7).trans rfl
       have hcz46_8 : wr.cell? ⟨gb145, 8, none⟩ = some (.int .i64 t144) := (blk_cell BK145.out 8).trans rfl
       have hcz46_9 : wr.cell? ⟨gb145, 9, none⟩ = some (.int .u32 x146009_2) := (blk_cell BK145.out 9).trans rfl
       have hcz46_10 : wr.cell? ⟨gb145, 10, none⟩ = some (.int .u32 x146010_2) := (blk_cell BK145.out 10).trans rfl
       have hfz46_0 := blk_frozen BK145.out 0
       have hfz46_1 := blk_frozen BK145.out 1
       have hfz46_2 := blk_frozen BK145.out 2
       have hfz46_3 := blk_frozen BK145.out 3
       have hfz46_4 := blk_frozen BK145.out 4
       have hfz46_5 := blk_frozen BK145.out 5
       have hfz46_6 := blk_frozen BK145.out 6
       have hfz46_7 := blk_frozen BK145.out 7
       have hfz46_8 := blk_frozen BK145.out 8
       have hfz46_9 := blk_frozen BK145.out 9
       have hfz46_10 := blk_frozen BK145.out 10
       have hcz47_0 : wr.cell? ⟨gb127, 0, none⟩ = some (.int .i64 0) := (blk_cell BK127.out 0).trans rfl
       have hcz47_1 : wr.cell? ⟨gb127, 1, none⟩ = some (.int .i64 0) := (blk_cell BK127.out 1).trans rfl
       have hcz47_2 : wr.cell? ⟨gb127, 2, none⟩ = some (.int .i64 0) := (blk_cell BK127.out 2).trans rfl
       have hcz47_3 : wr.cell? ⟨gb127, 3, none⟩ = some (.int .i64 0) := (blk_cell BK127.out 3).trans rfl
       have hcz47_4 : wr.cell? ⟨gb127, 4, none⟩ = some (.int .i64 0) := (blk_cell BK127.out 4).trans rfl
       have hcz47_5 : wr.cell? ⟨gb127, 5, none⟩ = some (.int .i64 0) := (blk_cell BK127.out 5).trans rfl
       have hcz47_6 : wr.cell? ⟨gb127, 6, none⟩ = some (.int .i64 0) := (blk_cell BK127.out 6).trans rfl
       have hcz47_7 : wr.cell? ⟨gb127, 7, none⟩ = some (.int .i64 0) := (blk_cell BK127.out 7).trans rfl
       have hcz47_8 : wr.cell? ⟨gb127, 8, none⟩ = some (.int .i64 0) := (blk_cell BK127.out 8).trans rfl
       have hcz47_9 : wr.cell? ⟨gb127, 9, none⟩ = some (.int .u32 0) := (blk_cell BK127.out 9).trans rfl
       have hcz47_10 : wr.cell? ⟨gb127, 10, none⟩ = some (.int .u32 0) := (blk_cell BK127.out 10).trans rfl
       have hfz47_0 := blk_frozen BK127.out 0
       have hfz47_1 := blk_frozen BK127.out 1
       have hfz47_2 := blk_frozen BK127.out 2
       have hfz47_3 := blk_frozen BK127.out 3
       have hfz47_4 := blk_frozen BK127.out 4
       have hfz47_5 := blk_frozen BK127.out 5
       have hfz47_6 := blk_frozen BK127.out 6
       have hfz47_7 := blk_frozen BK127.out 7
       have hfz47_8 := blk_frozen BK127.out 8
       have hfz47_9 := blk_frozen BK127.out 9
       have hfz47_10 := blk_frozen BK127.out 10
       go_wp2
       repeat (go_quiet (fail); try go_wp2)
       refine bodyPost_ret (results_cell_row rfl _ _ gb127 26 #[.int .i64 (x3_1.length : Int), .int .i64 t137, .int .i64 (t138.size : Int), .int .i64 t139, .int .i64 t140, .int .i64 t141, .int .i64 t142, .int .i64 t143, .int .i64 t144, .int .u32 x146009_2, .int .u32 x146010_2] (0, 0) _ rfl (by (with_reducible repeat (first | refine blk_drewN ?_ _ | refine blk_drew ?_ | refine blk_alloc ?_ _)); refine blk_put (cs := #[.int .i64 (x3_1.length : Int), .int .i64 t137, .int .i64 (t138.size : Int), .int .i64 t139, .int .i64 t140, .int .i64 t141, .int .i64 t142, .int .i64 t143, .int .i64 t144, .int .u32 x146009_2, .int .u32 0]) ?_ 10 _ rfl; (with_reducible repeat (first | refine blk_drewN ?_ _ | refine blk_drew ?_ | refine blk_alloc ?_ _)); refine blk_put (cs := #[.int .i64 (x3_1.length : Int), .int .i64 t137, .int .i64 (t138.size : Int), .int .i64 t139, .int .i64 t140, .int .i64 t141, .int .i64 t142, .int .i64 t143, .int .i64 t144, .int .u32 0, .int .u32 0]) ?_ 9 _ rfl; (with_reducible repeat (first | refine blk_drewN ?_ _ | refine blk_drew ?_ | refine blk_alloc ?_ _)); refine blk_put (cs := #[.int .i64 (x3_1.length : Int), .int .i64 t137, .int .i64 (t138.size : Int), .int .i64 t139, .int .i64 t140, .int .i64 t141, .int .i64 t142, .int .i64 t143, .int .i64 0, .int .u32 0, .int .u32 0]) ?_ 8 _ rfl; (with_reducible repeat (first | refine blk_drewN ?_ _ | refine blk_drew ?_ | refine blk_alloc ?_ _)); refine blk_put (cs := #[.int .i64 (x3_1.length : Int), .int .i64 t137, .int .i64 (t138.size : Int), .int .i64 t139, .int .i64 t140, .int .i64 t141, .int .i64 t142, .int .i64 0, .int .i64 0, .int .u32 0, .int .u32 0]) ?_ 7 _ rfl; (with_reducible repeat (first | refine blk_drewN ?_ _ | refine blk_drew ?_ | refine blk_alloc ?_ _)); refine blk_put (cs := #[.int .i64 (x3_1.length : Int), .int .i64 t137, .int .i64 (t138.size : Int), .int .i64 t139, .int .i64 t140, .int .i64 t141, .int .i64 0, .int .i64 0, .int .i64 0, .int .u32 0, .int .u32 0]) ?_ 6 _ rfl; (with_reducible repeat (first | refine blk_drewN ?_ _ | refine blk_drew ?_ | refine blk_alloc ?_ _)); refine blk_put (cs := #[.int .i64 (x3_1.length : Int), .int .i64 t137, .int .i64 (t138.size : Int), .int .i64 t139, .int .i64 t140, .int .i64 0, .int .i64 0, .int .i64 0, .int .i64 0, .int .u32 0, .int .u32 0]) ?_ 5 _ rfl; (with_reducible repeat (first | refine blk_drewN ?_ _ | refine blk_drew ?_ | refine blk_alloc ?_ _)); refine blk_put (cs := #[.int .i64 (x3_1.length : Int), .int .i64 t137, .int .i64 (t138.size : Int), .int .i64 t139, .int .i64 0, .int .i64 0, .int .i64 0, .int .i64 0, .int .i64 0, .int .u32 0, .int .u32 0]) ?_ 4 _ rfl; (with_reducible repeat (first | refine blk_drewN ?_ _ | refine blk_drew ?_ | refine blk_alloc ?_ _)); refine blk_put (cs := #[.int .i64 (x3_1.length : Int), .int .i64 t137, .int .i64 (t138.size : Int), .int .i64 0, .int .i64 0, .int .i64 0, .int .i64 0, .int .i64 0, .int .i64 0, .int .u32 0, .int .u32 0]) ?_ 3 _ rfl; (with_reducible repeat (first | refine blk_drewN ?_ _ | refine blk_drew ?_ | refine blk_alloc ?_ _)); refine blk_put (cs := #[.int .i64 (x3_1.length : Int), .int .i64 t137, .int .i64 0, .int .i64 0, .int .i64 0, .int .i64 0, .int .i64 0, .int .i64 0, .int .i64 0, .int .u32 0, .int .u32 0]) ?_ 2 _ rfl; (with_reducible repeat (first | refine blk_drewN ?_ _ | refine blk_drew ?_ | refine blk_alloc ?_ _)); refine blk_put (cs := #[.int .i64 (x3_1.length : Int), .int .i64 0, .int .i64 0, .int .i64 0, .int .i64 0, .int .i64 0, .int .i64 0, .int .i64 0, .int .i64 0, .int .u32 0, .int .u32 0]) ?_ 1 _ rfl; (with_reducible repeat (first | refine blk_drewN ?_ _ | refine blk_drew ?_ | refine blk_alloc ?_ _)); refine blk_put (cs := #[.int .i64 0, .int .i64 0, .int .i64 0, .int .i64 0, .int .i64 0, .int .i64 0, .int .i64 0, .int .i64 0, .int .i64 0, .int .u32 0, .int .u32 0]) ?_ 0 _ rfl; (with_reducible repeat (first | refine blk_drewN ?_ _ | refine blk_drew ?_ | refine blk_alloc ?_ _)); exact BK127.out) Tryz.underlying26 rfl (by kernel_rfl)) rfl ?_
       exact ⟨by first | rfl | (simp [errW_none, errW_some] <;> rfl) | (simp [*, errW_none, errW_some] <;> rfl), by repeat (first | (with_reducible first | exact HB.out | apply below_alloc | apply pw_below_drewN | apply below_drew1 | refine below_set ?_ GE127.out | refine below_set ?_ GE145.out) | exact HB.out)⟩
attribute [local go_sem] max2_int min2_int max_two min_two max_three min_three max_four min_four   -- for this text's walks alone
set_option linter.unusedVariables false
set_option linter.unusedSimpArgs false
end Go.Proofs.YtppchdinolndmaaGreatDoor.PPt
