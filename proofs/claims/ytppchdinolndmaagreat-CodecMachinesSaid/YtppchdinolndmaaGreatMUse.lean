/- Joined texts: Use. -/
import Derived.Test.YtppchdinolndmaaGreatMUsd
import Derived.Sort.Grow
import Derived.Sort.Walk7
/- slices.order2Ordered, medianOrdered, medianAdjacentOrdered, choosePivotOrdered at uint32: what they choose lies in range; nothing but the counter of swaps turns. -/
namespace Go.Proofs.YtppchdinolndmaaGreat
open Go.RowKit Go.Sort
set_option linter.unusedVariables false
set_option linter.unusedSimpArgs false
def SwW (w0 : World) (n s : Nat) : World := grow (Sort.ahead w0 n) #[Obj.cells #[.int .i64 (s : Int)] 3]
theorem sw_cell (w0 : World) (n s : Nat) : (SwW w0 n s).cell? ⟨w0.heap.size, 0, none⟩ = some (.int .i64 (s : Int)) := grow_one_cell (Sort.ahead w0 n) _ _
theorem sw_free (w0 : World) (n s : Nat) : (SwW w0 n s).frozen? ⟨w0.heap.size, 0, none⟩ = false := grow_one_frozen (Sort.ahead w0 n) _ _
theorem sw_old {w0 : World} {blk off : Nat} {d : Array Int} (h : Holds encU w0 blk off d) (hb : blk < w0.heap.size) (n s j : Nat) (hj : j < d.size) : (SwW w0 n s).cell? ⟨blk, off + j, none⟩ = some (.int .u32 d[j]!) := ((holds_grow _ _ _ _ _ _ hb (holds_ahead encU w0 n blk off d h)) j hj).1
theorem sw_drewN (w0 : World) (n s q : Nat) : (SwW w0 n s).drewN q = SwW w0 (n + q) s := by
 unfold SwW
 show grow (Sort.ahead (Sort.ahead w0 n) q) _ = _
 rw [ahead_ahead]
theorem sw_set (w0 : World) (n s : Nat) : (SwW w0 n s).setCell ⟨w0.heap.size, 0, none⟩ (.int .i64 ((s : Int) + 1)) = SwW w0 n (s + 1) := by
 unfold SwW
 exact setCell_grow_one (Sort.ahead w0 n) _ _ _
theorem sw_new (w0 : World) (n : Nat) : (Sort.ahead w0 n).alloc (.cells #[.int .i64 0] 3 (0, 0)) = SwW w0 n 0 := by
 rw [alloc_eq_grow]; rfl
theorem sw_nil (w0 : World) : w0.alloc (.cells #[.int .i64 0] 3 (0, 0)) = SwW w0 0 0 := sw_new w0 0
set_option maxHeartbeats 1000000 in
theorem order2_u (d : Array Int) (len : Nat) (hlen : d.size = len) (blk off cap a b n s : Nat) (w0 w : World) (hw : w = SwW w0 n s) (hH : Holds encU w0 blk off d) (hblk : blk < w0.heap.size) (ha : a < d.size) (hb : b < d.size) (hs : s < 1000) :
  Calls Tryz.prog 151 #[.slice (some ⟨blk, off, none⟩) len cap, .int .i64 a, .int .i64 b, .pointer (some ⟨w0.heap.size, 0, none⟩)] w fun e w' =>
   ∃ x y : Nat, e = .returned (.tuple #[.int .i64 x, .int .i64 y]) ∧ ((x = a ∨ x = b) ∧ (y = a ∨ y = b)) ∧ ∃ n' s', s' ≤ s + 1 ∧ w' = SwW w0 n' s' := by
 subst hlen
 have ca : w.cell? ⟨blk, off + a, none⟩ = some (.int .u32 d[a]!) := by rw [hw]; exact sw_old hH hblk n s a ha
 have cb : w.cell? ⟨blk, off + b, none⟩ = some (.int .u32 d[b]!) := by rw [hw]; exact sw_old hH hblk n s b hb
 have cs : w.cell? ⟨w0.heap.size, 0, none⟩ = some (.int .i64 (s : Int)) := by rw [hw]; exact sw_cell w0 n s
 have fs : w.frozen? ⟨w0.heap.size, 0, none⟩ = false := by rw [hw]; exact sw_free w0 n s
 obtain ⟨xa, hxa⟩ : ∃ x, d[a]! = x := ⟨_, rfl⟩
 obtain ⟨xb, hxb⟩ : ∃ x, d[b]! = x := ⟨_, rfl⟩
 rw [hxa] at ca
 rw [hxb] at cb
 obtain ⟨B, hB⟩ : ∃ B, w0.heap.size = B := ⟨_, rfl⟩
 rw [hB] at cs fs ⊢
 have HW := Lib.hid hw
 have HB := Lib.hid hB
 clear hw hH hB hxa hxb
 go_enter Tryz.func151, Tryz.ntmps151
 go_wp2_with fail
 go_quiet (first | (go_at_call 139; refine Calls.quiet_of_same (less_u _ _ _)))
 go_wp2_with fail
 ·go_ret2
  refine ⟨b, a, rfl, ⟨.inr rfl, .inl rfl⟩, n + nq, s + 1, Nat.le_refl _, ?_⟩
  rw [HW.out, ← HB.out, sw_drewN, sw_set]
 ·go_ret2
  exact ⟨a, b, rfl, ⟨.inl rfl, .inr rfl⟩, n + nq, s, Nat.le_succ _, by rw [HW.out, sw_drewN]⟩
set_option maxHeartbeats 1000000 in
theorem median_u (d : Array Int) (len : Nat) (hlen : d.size = len) (blk off cap a b c n s : Nat) (w0 w : World) (hw : w = SwW w0 n s) (hH : Holds encU w0 blk off d) (hblk : blk < w0.heap.size) (ha : a < d.size) (hb : b < d.size) (hc : c < d.size) (hs : s < 900) :
  Calls Tryz.prog 149 #[.slice (some ⟨blk, off, none⟩) len cap, .int .i64 a, .int .i64 b, .int .i64 c, .pointer (some ⟨w0.heap.size, 0, none⟩)] w fun e w' =>
   ∃ x : Nat, e = .returned (.int .i64 x) ∧ (x = a ∨ x = b ∨ x = c) ∧ ∃ n' s', s' ≤ s + 3 ∧ w' = SwW w0 n' s' := by
 have HW := Lib.hid hw
 have HH := Lib.hid hH
 clear hw hH
 go_enter Tryz.func149, Tryz.ntmps149
 go_wp2_with fail
 refine (order2_u d len hlen blk off cap a b n s w0 _ HW.out HH.out hblk ha hb (by omega)).mono ?_
 rintro e w1 ⟨x1, y1, rfl, ⟨hx1, hy1⟩, n1, s1, hs1, hw1⟩
 have HW1 := Lib.hid hw1
 have HX1 : Hid ((x1 = a ∨ x1 = b) ∧ (y1 = a ∨ y1 = b)) := Lib.hid ⟨hx1, hy1⟩
 clear hw1 hx1 hy1
 go_wp2_with fail
 refine (order2_u d len hlen blk off cap y1 c n1 s1 w0 _ HW1.out HH.out hblk (by have := HX1.out; omega) hc (by omega)).mono ?_
 rintro e w2 ⟨x2, y2, rfl, ⟨hx2, hy2⟩, n2, s2, hs2, hw2⟩
 have HW2 := Lib.hid hw2
 have HX2 : Hid ((x2 = y1 ∨ x2 = c) ∧ (y2 = y1 ∨ y2 = c)) := Lib.hid ⟨hx2, hy2⟩
 clear hw2 hx2 hy2
 go_wp2_with fail
 refine (order2_u d len hlen blk off cap x1 x2 n2 s2 w0 _ HW2.out HH.out hblk (by have := HX1.out; omega) (by have := HX1.out; have := HX2.out; omega) (by omega)).mono ?_
 rintro e w3 ⟨x3, y3, rfl, ⟨hx3, hy3⟩, n3, s3, hs3, hw3⟩
 have HW3 := Lib.hid hw3
 have HX3 : Hid ((x3 = x1 ∨ x3 = x2) ∧ (y3 = x1 ∨ y3 = x2)) := Lib.hid ⟨hx3, hy3⟩
 clear hw3 hx3 hy3
 go_wp2_with fail
 go_ret
 exact ⟨y3, rfl, (by have := HX1.out; have := HX2.out; have := HX3.out; omega), n3, s3, by omega, HW3.out⟩
set_option maxHeartbeats 1000000 in
theorem medianAdj_u (d : Array Int) (len : Nat) (hlen : d.size = len) (blk off cap a n s : Nat) (w0 w : World) (hw : w = SwW w0 n s) (hH : Holds encU w0 blk off d) (hblk : blk < w0.heap.size) (ha : 1 ≤ a) (hb : a + 1 < d.size) (hz : d.size < 4611686018427387904) (hs : s < 900) :
  Calls Tryz.prog 148 #[.slice (some ⟨blk, off, none⟩) len cap, .int .i64 a, .pointer (some ⟨w0.heap.size, 0, none⟩)] w fun e w' =>
   ∃ x : Nat, e = .returned (.int .i64 x) ∧ (a ≤ x + 1 ∧ x ≤ a + 1) ∧ ∃ n' s', s' ≤ s + 3 ∧ w' = SwW w0 n' s' := by
 have HW := Lib.hid hw
 have HH := Lib.hid hH
 clear hw hH
 obtain ⟨z, rfl⟩ : ∃ z, a = z + 1 := ⟨a - 1, by omega⟩
 have HC := Lib.hid (median_u d len hlen blk off cap z (z + 1) (z + 1 + 1) n s w0 w HW.out HH.out hblk (by omega) (by omega) (by omega) hs)
 go_enter Tryz.func148, Tryz.ntmps148
 go_wp2_with fail
 refine HC.out.mono ?_
 rintro e w1 ⟨x, rfl, hx, n1, s1, hs1, hw1⟩
 have HW1 := Lib.hid hw1
 have HX := Lib.hid hx
 clear hw1 hx
 go_wp2_with fail
 go_ret
 exact ⟨x, rfl, (by have := HX.out; omega), n1, s1, hs1, HW1.out⟩
set_option maxHeartbeats 3000000 in
set_option maxRecDepth 100000 in
theorem choosePivot_u (d : Array Int) (len : Nat) (hlen : d.size = len) (blk off cap a L : Nat) (w0 : World) (hH : Holds encU w0 blk off d) (hblk : blk < w0.heap.size) (hb : a + L ≤ d.size) (h8 : 8 ≤ L) (hz : d.size < 4611686018427387904) :
  Calls Tryz.prog 136 #[.slice (some ⟨blk, off, none⟩) len cap, .int .i64 a, .int .i64 ((a + L : Nat) : Int)] w0 fun e w' =>
   ∃ (p : Nat) (h : Int), e = .returned (.tuple #[.int .i64 p, .int .i64 h]) ∧ (a ≤ p ∧ p < a + L) ∧ ∃ n os, w' = grow (Sort.ahead w0 n) os := by
 have HH := Lib.hid hH
 clear hH
 obtain ⟨q, hq⟩ : ∃ q, L / 4 = q := ⟨_, rfl⟩
 have hq1 : 1 ≤ q ∧ 4 * q ≤ L := by omega
 have hqz : ((a : Int) + (L : Int) - (a : Int)) / 4 = (q : Int) := by omega
 have hqt : ((L : Int)) / 4 = (q : Int) := by omega
 go_enter Tryz.func136, Tryz.ntmps136
 have hL8 : (8 : Int) ≤ (a : Int) + (L : Int) - (a : Int) := by omega
 go_upto_if 34 with fail
 go_cut [10, 11, 12] (fun s10 s11 s12 wx => ∃ (i j k n s : Nat), s10 = .int .i64 i ∧ s11 = .int .i64 j ∧ s12 = .int .i64 k ∧ Hid ((a ≤ i ∧ i < a + L) ∧ (a ≤ j ∧ j < a + L) ∧ (a ≤ k ∧ k < a + L) ∧ s ≤ 9 ∧ wx = SwW w0 n s))
 case first =>
  by_cases h50 : 50 ≤ L
  ·have h51 : (50 : Int) ≤ (a : Int) + (L : Int) - (a : Int) := by omega
   have HM1 := fun w hw => medianAdj_u d len hlen blk off cap (a + q) 0 0 w0 w hw HH.out hblk (by omega) (by omega) hz (by decide)
   have HM := Lib.hid HM1
   clear HM1
   go_wp2_with fail
   refine (HM.out _ (sw_nil w0)).mono ?_
   rintro e w1 ⟨i, rfl, hi, n1, s1, hs1, hw1⟩
   have HI := Lib.hid hi
   have HW1 := Lib.hid hw1
   clear hw1 hi
   have HN1 := Lib.hid (medianAdj_u d len hlen blk off cap (a + q * 2) n1 s1 w0 w1 HW1.out HH.out hblk (by omega) (by omega) hz (by omega))
   go_wp2_with fail
   refine HN1.out.mono ?_
   rintro e w2 ⟨j, rfl, hj, n2, s2, hs2, hw2⟩
   have HJ := Lib.hid hj
   have HW2 := Lib.hid hw2
   clear hw2 hj
   have HN2 := Lib.hid (medianAdj_u d len hlen blk off cap (a + q * 3) n2 s2 w0 w2 HW2.out HH.out hblk (by omega) (by omega) hz (by omega))
   go_wp2_with fail
   refine HN2.out.mono ?_
   rintro e w3 ⟨k, rfl, hk, n3, s3, hs3, hw3⟩
   have HK := Lib.hid hk
   have HW3 := Lib.hid hw3
   clear hw3 hk
   go_wp2_with fail
   go_meet
   exact ⟨i, j, k, n3, s3, rfl, rfl, rfl, Lib.hid ⟨(by have := HI.out; omega), (by have := HJ.out; omega), (by have := HK.out; omega), by omega, HW3.out⟩⟩
  ·have h51 : ¬ (50 : Int) ≤ (a : Int) + (L : Int) - (a : Int) := by omega
   go_wp2_with fail
   go_meet
   exact ⟨a + q, a + q * 2, a + q * 3, 0, 0, by go_num, by go_num, by go_num, Lib.hid ⟨by omega, by omega, by omega, by omega, sw_nil w0⟩⟩
 case rest =>
  obtain ⟨i, j, k, n, s, rfl, rfl, rfl, HR⟩ := hcut
  have hs9 : s ≤ 9 := HR.out.2.2.2.1
  have HM := Lib.hid (median_u d len hlen blk off cap i j k n s w0 wc HR.out.2.2.2.2 HH.out hblk (by have := HR.out.1; omega) (by have := HR.out.2.1; omega) (by have := HR.out.2.2.1; omega) (by omega))
  go_wp2_with fail
  refine HM.out.mono ?_
  rintro e w1 ⟨p, rfl, hp, n1, s1, hs1, hw1⟩
  have cs : w1.cell? ⟨w0.heap.size, 0, none⟩ = some (.int .i64 (s1 : Int)) := by rw [hw1]; exact sw_cell w0 n1 s1
  have HP : Hid (a ≤ p ∧ p < a + L) := Lib.hid (by have := HR.out; omega)
  have HW1 := Lib.hid hw1
  clear hw1 hp hs1
  go_wp2_with fail
  all_goals
   go_ret2
   exact ⟨p, _, rfl, HP.out, n1, _, HW1.out⟩
end Go.Proofs.YtppchdinolndmaaGreat
