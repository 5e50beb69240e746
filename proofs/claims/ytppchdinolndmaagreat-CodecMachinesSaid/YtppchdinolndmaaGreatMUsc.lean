/- Joined texts: Usc. -/
import Derived.Test.YtppchdinolndmaaGreatMUsa
import Derived.Sort.WalkC
import Derived.Sort.WalkC4
/- slices.partitionEqualOrdered and partitionOrdered at uint32: each computes the plain function of its name (Derived.Sort.Defs). Printed by wip/tools/gensort.py. -/
namespace Go.Proofs.YtppchdinolndmaaGreat
open Go.RowKit Go.Sort
set_option linter.unusedVariables false
set_option linter.unusedSimpArgs false
set_option maxHeartbeats 6400000 in
set_option maxRecDepth 100000 in
theorem partitionEqual_u (blk off len cap a b pivot : Nat) (d : Array Int) (hlen : d.size = len) (w : World) (hH : Holds encU w blk off d) (hap : a ≤ pivot) (hpb : pivot < b) (hb : b ≤ d.size) (hsz : d.size < 4611686018427387904) :
  Calls Tryz.prog 140 #[.slice (some ⟨blk, off, none⟩) len cap, .int .i64 a, .int .i64 b, .int .i64 pivot] w fun e w' =>
   e = .returned (.int .i64 (Sort.partitionEqual ltInt d a b pivot).1) ∧ ∃ n, w' = putRow encU (Sort.ahead w n) blk off (Sort.partitionEqual ltInt d a b pivot).2 := by
 subst hlen
 have HH := Lib.hid hH
 have HST : Hid (w = putRow encU (Sort.ahead w 0) blk off d) := Lib.hid (putRow_self _ _ _ _ _ hH).symm
 clear hH
 obtain ⟨G, hG⟩ := rowG w w blk off 0 d d HH.out rfl HST.out
 have ca := hG.cell a (by omega)
 have fa := hG.free a (by omega)
 have cp := hG.cell pivot (by omega)
 have fp := hG.free pivot (by omega)
 obtain ⟨v', hy'⟩ := cell?_setCell_some (w := w) (p := ⟨blk, off + a, none⟩) (x := .int .u32 (G pivot)) (q := ⟨blk, off + pivot, none⟩) cp
 have HG := Lib.hid hG.eq
 clear hG
 go_enter Tryz.func140, Tryz.ntmps140
 go_wp2_with fail
 go_region
 go_upto_block 0 with fail
 go_cut [8, 9, 10] (fun s8 s9 s10 wx => ∃ (i n : Nat) (dk : Array Int), s9 = .int .i64 i ∧ s8 = .int .i64 0 ∧ Hid (wx = putRow encU (Sort.ahead w n) blk off dk ∧ (i, dk) = Sort.partitionEqual ltInt d a b pivot))
 case first =>
  go_wp2_with fail
  go_loopg [9, 10] (b - a) (fun kq s9 s10 wx => ∃ (i j n : Nat) (dk : Array Int), s9 = .int .i64 i ∧ s10 = .int .i64 j ∧ a < i ∧ i ≤ j + 1 ∧ j < b ∧ j + 1 - i ≤ kq ∧ dk.size = d.size ∧ Hid (wx = putRow encU (Sort.ahead w n) blk off dk ∧ partEqLoop ltInt a i j dk = Sort.partitionEqual ltInt d a b pivot))
  case atStart => exact ⟨a + 1, b - 1, 1, swp d a pivot, by go_num, by go_num, by omega, by omega, by omega, by omega, size_swp _ _ _, Lib.hid ⟨swap_world encU (by omega) (by omega) HST.out (by rw [HG.out]) (by rw [HG.out]), rfl⟩⟩
  case round =>
   obtain ⟨i, j, n, dk, rfl, rfl, hai, hij, hjb, hgk0, hds, HO⟩ := hrel
   have HGK0 := Lib.hid hgk0
   clear ca fa cp fp hy' HG hgk0
   go_upto_block 2 with fail
   go_cut [9] (fun sq wx => ∃ (i2 m : Nat), sq = .int .i64 i2 ∧ Hid (i ≤ i2 ∧ i2 ≤ j + 1 ∧ wx = putRow encU (Sort.ahead w m) blk off dk ∧ i2 = scanUp (fun x => !ltInt dk[a]! x) dk j i))
   case first =>
    go_wp2_with fail
    go_loopg [9] (j + 1 - i) (fun kq sq wx => ∃ (k m : Nat), sq = .int .i64 k ∧ (i ≤ k ∧ k ≤ j + 1) ∧ kq = j + 1 - k ∧ Hid (wx = putRow encU (Sort.ahead w m) blk off dk ∧ scanUp (fun x => !ltInt dk[a]! x) dk j k = scanUp (fun x => !ltInt dk[a]! x) dk j i))
    case atStart => exact ⟨i, n, (by first | rfl | go_num), (by omega), rfl, Lib.hid ⟨HO.out.1, rfl⟩⟩
    case round =>
     obtain ⟨k, m, rfl, ⟨b1, b2⟩, hgk, HS⟩ := hrel
     obtain ⟨G, hG⟩ := rowG w wr blk off m d dk HH.out hds HS.out.1
     have hcw := hG.cell
     rw [hds] at hcw
     have HG := Lib.hid hG.eq
     have HGK := Lib.hid hgk
     clear hG hgk
     by_cases hle : k ≤ j
     ·have hle1 : (k : Int) ≤ (j : Int) := by omega
      go_wp2_with fail
      go_big_quiet (first | (go_at_call 139; refine Calls.quiet_of_same (less_u _ _ _)))
      go_wp2_with fail
      ·have ht : (!ltInt (G a) (G k)) = true := by assumption
       go_roundg (gk - 1)
       case measure => have := HGK.out; omega
       case rel => exact ⟨k + 1, m + nq, by go_num, (by omega), (by have := HGK.out; omega), Lib.hid ⟨by rw [HS.out.1]; exact putRow_drewN _ _ _ _ _ _ _, (scanUp_go (fun x => !ltInt dk[a]! x) dk j k hle (by rw [← HG.out, ← HG.out]; exact ht)).symm.trans HS.out.2⟩⟩
      ·have ht : (!ltInt (G a) (G k)) = false := by assumption
       go_meet
       exact ⟨k, m + nq, rfl, Lib.hid ⟨b1, b2, by rw [HS.out.1]; exact putRow_drewN _ _ _ _ _ _ _, (scanUp_end (fun x => !ltInt dk[a]! x) dk j k (Or.inr (by rw [← HG.out, ← HG.out]; exact ht))).symm.trans HS.out.2⟩⟩
     ·have hle1 : decide ((k : Int) ≤ (j : Int)) = false := decide_eq_false (by omega)
      go_wp2_with fail
      go_big_quiet (first | (go_at_call 139; refine Calls.quiet_of_same (less_u _ _ _)))
      go_wp2_with fail
      go_meet
      exact ⟨k, m + nq, rfl, Lib.hid ⟨b1, b2, by rw [HS.out.1]; exact putRow_drewN _ _ _ _ _ _ _, (scanUp_end (fun x => !ltInt dk[a]! x) dk j k (Or.inl hle)).symm.trans HS.out.2⟩⟩
   case rest =>
    obtain ⟨i2, n2, rfl, HI⟩ := hcut
    have hi2a : i ≤ i2 := HI.out.1
    have hi2b : i2 ≤ j + 1 := HI.out.2.1
    have HO2 : Hid (wc = putRow encU (Sort.ahead w n2) blk off dk ∧ i2 = scanUp (fun x => !ltInt dk[a]! x) dk j i) := Lib.hid HI.out.2.2
    clear HI
    go_upto_block 4 with fail
    go_cut [10] (fun sq wx => ∃ (j2 m : Nat), sq = .int .i64 j2 ∧ Hid (i2 ≤ j2 + 1 ∧ j2 ≤ j ∧ wx = putRow encU (Sort.ahead w m) blk off dk ∧ j2 = scanDown (fun x => ltInt dk[a]! x) dk i2 j))
    case first =>
     go_wp2_with fail
     go_loopg [10] (j + 1 - i2) (fun kq sq wx => ∃ (k m : Nat), sq = .int .i64 k ∧ (i2 ≤ k + 1 ∧ k ≤ j) ∧ kq = k + 1 - i2 ∧ Hid (wx = putRow encU (Sort.ahead w m) blk off dk ∧ scanDown (fun x => ltInt dk[a]! x) dk i2 k = scanDown (fun x => ltInt dk[a]! x) dk i2 j))
     case atStart => exact ⟨j, n2, (by first | rfl | go_num), (by omega), rfl, Lib.hid ⟨HO2.out.1, rfl⟩⟩
     case round =>
      obtain ⟨k, m, rfl, ⟨b1, b2⟩, hgk, HS⟩ := hrel
      obtain ⟨G, hG⟩ := rowG w wr blk off m d dk HH.out hds HS.out.1
      have hcw := hG.cell
      rw [hds] at hcw
      have HG := Lib.hid hG.eq
      have HGK := Lib.hid hgk
      clear hG hgk
      by_cases hle : i2 ≤ k
      ·have hle1 : (i2 : Int) ≤ (k : Int) := by omega
       go_wp2_with fail
       go_big_quiet (first | (go_at_call 139; refine Calls.quiet_of_same (less_u _ _ _)))
       go_wp2_with fail
       ·have ht : ltInt (G a) (G k) = true := by assumption
        go_roundg (gk - 1)
        case measure => have := HGK.out; omega
        case rel => exact ⟨k - 1, m + nq, by go_num, (by omega), (by have := HGK.out; omega), Lib.hid ⟨by rw [HS.out.1]; exact putRow_drewN _ _ _ _ _ _ _, (scanDown_go (fun x => ltInt dk[a]! x) dk i2 k hle (by omega) (by rw [← HG.out, ← HG.out]; exact ht)).symm.trans HS.out.2⟩⟩
       ·have ht : ltInt (G a) (G k) = false := by assumption
        go_meet
        exact ⟨k, m + nq, rfl, Lib.hid ⟨b1, b2, by rw [HS.out.1]; exact putRow_drewN _ _ _ _ _ _ _, (scanDown_end (fun x => ltInt dk[a]! x) dk i2 k (Or.inr (by rw [← HG.out, ← HG.out]; exact ht))).symm.trans HS.out.2⟩⟩
      ·have hle1 : decide ((i2 : Int) ≤ (k : Int)) = false := decide_eq_false (by omega)
       go_wp2_with fail
       go_big_quiet (first | (go_at_call 139; refine Calls.quiet_of_same (less_u _ _ _)))
       go_wp2_with fail
       go_meet
       exact ⟨k, m + nq, rfl, Lib.hid ⟨b1, b2, by rw [HS.out.1]; exact putRow_drewN _ _ _ _ _ _ _, (scanDown_end (fun x => ltInt dk[a]! x) dk i2 k (Or.inl hle)).symm.trans HS.out.2⟩⟩
    case rest =>
     obtain ⟨j2, n3, rfl, HJ⟩ := hcut
     have hj2a : i2 ≤ j2 + 1 := HJ.out.1
     have hj2b : j2 ≤ j := HJ.out.2.1
     have HW : Hid (wc = putRow encU (Sort.ahead w n3) blk off dk) := Lib.hid HJ.out.2.2.1
     by_cases hgt : j2 < i2
     ·have hgt1 : (j2 : Int) < (i2 : Int) := by omega
      go_wp2_with fail
      go_meet
      exact ⟨i2, n3, dk, rfl, rfl, Lib.hid ⟨HW.out, (partEq_break ltInt a i j dk HO2.out.2 HJ.out.2.2.2 hgt).symm.trans HO.out.2⟩⟩
     ·have hlt := scans_lt ltInt a i j dk (by omega) HO2.out.2 HJ.out.2.2.2 (by omega)
      have hgt1 : ¬ (j2 : Int) < (i2 : Int) := by omega
      obtain ⟨G, hG⟩ := rowG w wc blk off n3 d dk HH.out hds HW.out
      have hcw := hG.cell
      have hfw := hG.free
      rw [hds] at hcw hfw
      have HG := Lib.hid hG.eq
      clear hG
      go_wp2_with fail
      go_region
      go_wp2_with fail
      go_roundg (gk - 1)
      case measure => have := HGK0.out; omega
      case rel => exact ⟨i2 + 1, j2 - 1, n3 + 1, swp dk i2 j2, by go_num, by go_num, by omega, by omega, by omega, (by have := HGK0.out; omega), by rw [size_swp]; exact hds, Lib.hid ⟨swap_world encU (by omega) (by omega) HW.out (by rw [HG.out]) (by rw [HG.out]), (partEq_go ltInt a i j dk HO2.out.2 HJ.out.2.2.2 (by omega)).symm.trans HO.out.2⟩⟩
 case rest =>
  obtain ⟨i, n, dk, rfl, rfl, HR⟩ := hcut
  go_wp2_with fail
  go_ret
  rw [← HR.out.2]
  exact ⟨rfl, n, HR.out.1⟩
set_option maxHeartbeats 12800000 in
set_option maxRecDepth 100000 in
theorem partition_u (blk off len cap a b pivot : Nat) (d : Array Int) (hlen : d.size = len) (w : World) (hH : Holds encU w blk off d) (hap : a ≤ pivot) (hpb : pivot < b) (hb : b ≤ d.size) (hsz : d.size < 4611686018427387904) :
  Calls Tryz.prog 141 #[.slice (some ⟨blk, off, none⟩) len cap, .int .i64 a, .int .i64 b, .int .i64 pivot] w fun e w' =>
   e = .returned (.tuple #[.int .i64 (Sort.partition ltInt d a b pivot).1, .bool (Sort.partition ltInt d a b pivot).2.1]) ∧ ∃ n, w' = putRow encU (Sort.ahead w n) blk off (Sort.partition ltInt d a b pivot).2.2 := by
 subst hlen
 have HH := Lib.hid hH
 have HST : Hid (w = putRow encU (Sort.ahead w 0) blk off d) := Lib.hid (putRow_self _ _ _ _ _ hH).symm
 clear hH
 obtain ⟨G, hG⟩ := rowG w w blk off 0 d d HH.out rfl HST.out
 have ca := hG.cell a (by omega)
 have fa := hG.free a (by omega)
 have cp := hG.cell pivot (by omega)
 have fp := hG.free pivot (by omega)
 obtain ⟨v', hy'⟩ := cell?_setCell_some (w := w) (p := ⟨blk, off + a, none⟩) (x := .int .u32 (G pivot)) (q := ⟨blk, off + pivot, none⟩) cp
 have HG := Lib.hid hG.eq
 clear hG
 obtain ⟨z, rfl⟩ : ∃ z, b = z + 1 := ⟨b - 1, by omega⟩
 obtain ⟨dk, hdk⟩ : ∃ dk, dk = swp d a pivot := ⟨_, rfl⟩
 have hds : dk.size = d.size := by rw [hdk, size_swp]
 have HO : Hid (((w.setCell ⟨blk, off + a, none⟩ (.int .u32 (G pivot))).setCell ⟨blk, off + pivot, none⟩ (.int .u32 (G a))).drew = putRow encU (Sort.ahead w 1) blk off dk ∧ True) := Lib.hid ⟨by rw [hdk]; exact swap_world encU (n := 0) (by omega) (by omega) HST.out (by rw [HG.out]) (by rw [HG.out]), trivial⟩
 have HDK := Lib.hid hdk
 clear hdk
 go_enter Tryz.func141, Tryz.ntmps141
 go_wp2_with fail
 go_region
 go_upto_block 0 with fail
 go_cut [10] (fun sq wx => ∃ (i2 m : Nat), sq = .int .i64 i2 ∧ Hid ((a + 1) ≤ i2 ∧ i2 ≤ z + 1 ∧ wx = putRow encU (Sort.ahead w m) blk off dk ∧ i2 = scanUp (fun x => ltInt x dk[a]!) dk z (a + 1)))
 case first =>
  go_wp2_with fail
  go_loopg [10] (z + 1 - (a + 1)) (fun kq sq wx => ∃ (k m : Nat), sq = .int .i64 k ∧ ((a + 1) ≤ k ∧ k ≤ z + 1) ∧ kq = z + 1 - k ∧ Hid (wx = putRow encU (Sort.ahead w m) blk off dk ∧ scanUp (fun x => ltInt x dk[a]!) dk z k = scanUp (fun x => ltInt x dk[a]!) dk z (a + 1)))
  case atStart => exact ⟨(a + 1), 1, (by first | rfl | go_num), (by omega), rfl, Lib.hid ⟨HO.out.1, rfl⟩⟩
  case round =>
   obtain ⟨k, m, rfl, ⟨b1, b2⟩, hgk, HS⟩ := hrel
   obtain ⟨G, hG⟩ := rowG w wr blk off m d dk HH.out hds HS.out.1
   have hcw := hG.cell
   rw [hds] at hcw
   have HG := Lib.hid hG.eq
   have HGK := Lib.hid hgk
   clear hG hgk
   by_cases hle : k ≤ z
   ·have hle1 : (k : Int) ≤ (z : Int) := by omega
    go_wp2_with fail
    go_big_quiet (first | (go_at_call 139; refine Calls.quiet_of_same (less_u _ _ _)))
    go_wp2_with fail
    ·have ht : ltInt (G k) (G a) = true := by assumption
     go_roundg (gk - 1)
     case measure => have := HGK.out; omega
     case rel => exact ⟨k + 1, m + nq, by go_num, (by omega), (by have := HGK.out; omega), Lib.hid ⟨by rw [HS.out.1]; exact putRow_drewN _ _ _ _ _ _ _, (scanUp_go (fun x => ltInt x dk[a]!) dk z k hle (by rw [← HG.out, ← HG.out]; exact ht)).symm.trans HS.out.2⟩⟩
    ·have ht : ltInt (G k) (G a) = false := by assumption
     go_meet
     exact ⟨k, m + nq, rfl, Lib.hid ⟨b1, b2, by rw [HS.out.1]; exact putRow_drewN _ _ _ _ _ _ _, (scanUp_end (fun x => ltInt x dk[a]!) dk z k (Or.inr (by rw [← HG.out, ← HG.out]; exact ht))).symm.trans HS.out.2⟩⟩
   ·have hle1 : decide ((k : Int) ≤ (z : Int)) = false := decide_eq_false (by omega)
    go_wp2_with fail
    go_big_quiet (first | (go_at_call 139; refine Calls.quiet_of_same (less_u _ _ _)))
    go_wp2_with fail
    go_meet
    exact ⟨k, m + nq, rfl, Lib.hid ⟨b1, b2, by rw [HS.out.1]; exact putRow_drewN _ _ _ _ _ _ _, (scanUp_end (fun x => ltInt x dk[a]!) dk z k (Or.inl hle)).symm.trans HS.out.2⟩⟩
 case rest =>
  obtain ⟨i2, n2, rfl, HI⟩ := hcut
  have hi2a : a + 1 ≤ i2 := HI.out.1
  have hi2b : i2 ≤ z + 1 := HI.out.2.1
  have HO2 : Hid (wc = putRow encU (Sort.ahead w n2) blk off dk ∧ i2 = scanUp (fun x => ltInt x dk[a]!) dk z (a + 1)) := Lib.hid HI.out.2.2
  clear HI ca fa cp fp hy' HG
  go_upto_block 2 with fail
  go_cut [11] (fun sq wx => ∃ (j2 m : Nat), sq = .int .i64 j2 ∧ Hid (i2 ≤ j2 + 1 ∧ j2 ≤ z ∧ wx = putRow encU (Sort.ahead w m) blk off dk ∧ j2 = scanDown (fun x => !ltInt x dk[a]!) dk i2 z))
  case first =>
   go_wp2_with fail
   go_loopg [11] (z + 1 - i2) (fun kq sq wx => ∃ (k m : Nat), sq = .int .i64 k ∧ (i2 ≤ k + 1 ∧ k ≤ z) ∧ kq = k + 1 - i2 ∧ Hid (wx = putRow encU (Sort.ahead w m) blk off dk ∧ scanDown (fun x => !ltInt x dk[a]!) dk i2 k = scanDown (fun x => !ltInt x dk[a]!) dk i2 z))
   case atStart => exact ⟨z, n2, (by first | rfl | go_num), (by omega), rfl, Lib.hid ⟨HO2.out.1, rfl⟩⟩
   case round =>
    obtain ⟨k, m, rfl, ⟨b1, b2⟩, hgk, HS⟩ := hrel
    obtain ⟨G, hG⟩ := rowG w wr blk off m d dk HH.out hds HS.out.1
    have hcw := hG.cell
    rw [hds] at hcw
    have HG := Lib.hid hG.eq
    have HGK := Lib.hid hgk
    clear hG hgk
    by_cases hle : i2 ≤ k
    ·have hle1 : (i2 : Int) ≤ (k : Int) := by omega
     go_wp2_with fail
     go_big_quiet (first | (go_at_call 139; refine Calls.quiet_of_same (less_u _ _ _)))
     go_wp2_with fail
     ·have ht : (!ltInt (G k) (G a)) = true := by assumption
      go_roundg (gk - 1)
      case measure => have := HGK.out; omega
      case rel => exact ⟨k - 1, m + nq, by go_num, (by omega), (by have := HGK.out; omega), Lib.hid ⟨by rw [HS.out.1]; exact putRow_drewN _ _ _ _ _ _ _, (scanDown_go (fun x => !ltInt x dk[a]!) dk i2 k hle (by omega) (by rw [← HG.out, ← HG.out]; exact ht)).symm.trans HS.out.2⟩⟩
     ·have ht : (!ltInt (G k) (G a)) = false := by assumption
      go_meet
      exact ⟨k, m + nq, rfl, Lib.hid ⟨b1, b2, by rw [HS.out.1]; exact putRow_drewN _ _ _ _ _ _ _, (scanDown_end (fun x => !ltInt x dk[a]!) dk i2 k (Or.inr (by rw [← HG.out, ← HG.out]; exact ht))).symm.trans HS.out.2⟩⟩
    ·have hle1 : decide ((i2 : Int) ≤ (k : Int)) = false := decide_eq_false (by omega)
     go_wp2_with fail
     go_big_quiet (first | (go_at_call 139; refine Calls.quiet_of_same (less_u _ _ _)))
     go_wp2_with fail
     go_meet
     exact ⟨k, m + nq, rfl, Lib.hid ⟨b1, b2, by rw [HS.out.1]; exact putRow_drewN _ _ _ _ _ _ _, (scanDown_end (fun x => !ltInt x dk[a]!) dk i2 k (Or.inl hle)).symm.trans HS.out.2⟩⟩
  case rest =>
   obtain ⟨j2, n3, rfl, HJ⟩ := hcut
   have hj2a : i2 ≤ j2 + 1 := HJ.out.1
   have hj2b : j2 ≤ z := HJ.out.2.1
   have HW : Hid (wc = putRow encU (Sort.ahead w n3) blk off dk) := Lib.hid HJ.out.2.2.1
   obtain ⟨G, hG⟩ := rowG w wc blk off n3 d dk HH.out hds HW.out
   by_cases hgt : j2 < i2
   ·have hgt1 : (j2 : Int) < (i2 : Int) := by omega
    have ca := hG.cell a (by omega)
    have fa := hG.free a (by omega)
    have cj := hG.cell j2 (by omega)
    have fj := hG.free j2 (by omega)
    obtain ⟨v', hy'⟩ := cell?_setCell_some (w := wc) (p := ⟨blk, off + j2, none⟩) (x := .int .u32 (G a)) (q := ⟨blk, off + a, none⟩) ca
    have HG := Lib.hid hG.eq
    clear hG
    go_wp2_with fail
    go_region
    go_wp2_with fail
    go_ret2
    rw [part_first_break ltInt d a (z + 1) pivot rfl (by omega) HDK.out HO2.out.2 HJ.out.2.2.2 hgt]
    exact ⟨rfl, n3 + 1, swap_world encU (by omega) (by omega) HW.out (by rw [HG.out]) (by rw [HG.out])⟩
   ·have hlt := part_scans_lt ltInt a (a + 1) z dk (by omega) HO2.out.2 HJ.out.2.2.2 (by omega)
    have hgt1 : ¬ (j2 : Int) < (i2 : Int) := by omega
    have HPF := Lib.hid (part_first_go ltInt d a (z + 1) pivot rfl (by omega) HDK.out HO2.out.2 HJ.out.2.2.2 hgt)
    have ci := hG.cell i2 (by omega)
    have fi := hG.free i2 (by omega)
    have cj := hG.cell j2 (by omega)
    have fj := hG.free j2 (by omega)
    have HG := Lib.hid hG.eq
    clear hG
    obtain ⟨dm, hdm⟩ : ∃ dm, dm = swp dk i2 j2 := ⟨_, rfl⟩
    have hdms : dm.size = d.size := by rw [hdm, size_swp]; exact hds
    have HM : Hid (((wc.setCell ⟨blk, off + i2, none⟩ (.int .u32 (G j2))).setCell ⟨blk, off + j2, none⟩ (.int .u32 (G i2))).drew = putRow encU (Sort.ahead w (n3 + 1)) blk off dm) := Lib.hid (by rw [hdm]; exact swap_world encU (by omega) (by omega) HW.out (by rw [HG.out]) (by rw [HG.out]))
    rw [← hdm] at HPF
    clear hdm
    go_wp2_with fail
    go_region
    go_upto_block 4 with fail
    go_cut [10, 11] (fun s10 s11 wx => ∃ (i j n : Nat) (dk : Array Int), s10 = .int .i64 i ∧ s11 = .int .i64 j ∧ Hid (a ≤ j ∧ j ≤ z ∧ dk.size = d.size ∧ wx = putRow encU (Sort.ahead w n) blk off dk ∧ (j, dk) = partLoop ltInt a (i2 + 1) (j2 - 1) dm))
    case first =>
     clear ci fi cj fj
     go_wp2_with fail
     go_loopg [10, 11] (z + 1 - a) (fun kq s10 s11 wx => ∃ (i j n : Nat) (dk : Array Int), s10 = .int .i64 i ∧ s11 = .int .i64 j ∧ a < i ∧ i ≤ j + 1 ∧ j ≤ z ∧ j + 1 - i ≤ kq ∧ dk.size = d.size ∧ Hid (wx = putRow encU (Sort.ahead w n) blk off dk ∧ partLoop ltInt a i j dk = partLoop ltInt a (i2 + 1) (j2 - 1) dm))
     case atStart => exact ⟨i2 + 1, j2 - 1, n3 + 1, dm, (by first | rfl | go_num), (by first | rfl | go_num), by omega, by omega, by omega, by omega, hdms, Lib.hid ⟨HM.out, rfl⟩⟩
     case round =>
      clear hds
      obtain ⟨i, j, n, dk, rfl, rfl, hai, hij, hjb, hgk0, hds, HO⟩ := hrel
      have HGK0 := Lib.hid hgk0
      clear hgk0
      go_upto_block 6 with fail
      go_cut [10] (fun sq wx => ∃ (i3 m : Nat), sq = .int .i64 i3 ∧ Hid (i ≤ i3 ∧ i3 ≤ j + 1 ∧ wx = putRow encU (Sort.ahead w m) blk off dk ∧ i3 = scanUp (fun x => ltInt x dk[a]!) dk j i))
      case first =>
       go_wp2_with fail
       go_loopg [10] (j + 1 - i) (fun kq sq wx => ∃ (k m : Nat), sq = .int .i64 k ∧ (i ≤ k ∧ k ≤ j + 1) ∧ kq = j + 1 - k ∧ Hid (wx = putRow encU (Sort.ahead w m) blk off dk ∧ scanUp (fun x => ltInt x dk[a]!) dk j k = scanUp (fun x => ltInt x dk[a]!) dk j i))
       case atStart => exact ⟨i, n, (by first | rfl | go_num), (by omega), rfl, Lib.hid ⟨HO.out.1, rfl⟩⟩
       case round =>
        obtain ⟨k, m, rfl, ⟨b1, b2⟩, hgk, HS⟩ := hrel
        obtain ⟨G, hG⟩ := rowG w wr blk off m d dk HH.out hds HS.out.1
        have hcw := hG.cell
        rw [hds] at hcw
        have HG := Lib.hid hG.eq
        have HGK := Lib.hid hgk
        clear hG hgk
        by_cases hle : k ≤ j
        ·have hle1 : (k : Int) ≤ (j : Int) := by omega
         go_wp2_with fail
         go_big_quiet (first | (go_at_call 139; refine Calls.quiet_of_same (less_u _ _ _)))
         go_wp2_with fail
         ·have ht : ltInt (G k) (G a) = true := by assumption
          go_roundg (gk - 1)
          case measure => have := HGK.out; omega
          case rel => exact ⟨k + 1, m + nq, by go_num, (by omega), (by have := HGK.out; omega), Lib.hid ⟨by rw [HS.out.1]; exact putRow_drewN _ _ _ _ _ _ _, (scanUp_go (fun x => ltInt x dk[a]!) dk j k hle (by rw [← HG.out, ← HG.out]; exact ht)).symm.trans HS.out.2⟩⟩
         ·have ht : ltInt (G k) (G a) = false := by assumption
          go_meet
          exact ⟨k, m + nq, rfl, Lib.hid ⟨b1, b2, by rw [HS.out.1]; exact putRow_drewN _ _ _ _ _ _ _, (scanUp_end (fun x => ltInt x dk[a]!) dk j k (Or.inr (by rw [← HG.out, ← HG.out]; exact ht))).symm.trans HS.out.2⟩⟩
        ·have hle1 : decide ((k : Int) ≤ (j : Int)) = false := decide_eq_false (by omega)
         go_wp2_with fail
         go_big_quiet (first | (go_at_call 139; refine Calls.quiet_of_same (less_u _ _ _)))
         go_wp2_with fail
         go_meet
         exact ⟨k, m + nq, rfl, Lib.hid ⟨b1, b2, by rw [HS.out.1]; exact putRow_drewN _ _ _ _ _ _ _, (scanUp_end (fun x => ltInt x dk[a]!) dk j k (Or.inl hle)).symm.trans HS.out.2⟩⟩
      case rest =>
       obtain ⟨i3, n4, rfl, HI⟩ := hcut
       have hi3a : i ≤ i3 := HI.out.1
       have hi3b : i3 ≤ j + 1 := HI.out.2.1
       have HO3 : Hid (wc = putRow encU (Sort.ahead w n4) blk off dk ∧ i3 = scanUp (fun x => ltInt x dk[a]!) dk j i) := Lib.hid HI.out.2.2
       clear HI
       go_upto_block 8 with fail
       go_cut [11] (fun sq wx => ∃ (j3 m : Nat), sq = .int .i64 j3 ∧ Hid (i3 ≤ j3 + 1 ∧ j3 ≤ j ∧ wx = putRow encU (Sort.ahead w m) blk off dk ∧ j3 = scanDown (fun x => !ltInt x dk[a]!) dk i3 j))
       case first =>
        go_wp2_with fail
        go_loopg [11] (j + 1 - i3) (fun kq sq wx => ∃ (k m : Nat), sq = .int .i64 k ∧ (i3 ≤ k + 1 ∧ k ≤ j) ∧ kq = k + 1 - i3 ∧ Hid (wx = putRow encU (Sort.ahead w m) blk off dk ∧ scanDown (fun x => !ltInt x dk[a]!) dk i3 k = scanDown (fun x => !ltInt x dk[a]!) dk i3 j))
        case atStart => exact ⟨j, n4, (by first | rfl | go_num), (by omega), rfl, Lib.hid ⟨HO3.out.1, rfl⟩⟩
        case round =>
         obtain ⟨k, m, rfl, ⟨b1, b2⟩, hgk, HS⟩ := hrel
         obtain ⟨G, hG⟩ := rowG w wr blk off m d dk HH.out hds HS.out.1
         have hcw := hG.cell
         rw [hds] at hcw
         have HG := Lib.hid hG.eq
         have HGK := Lib.hid hgk
         clear hG hgk
         by_cases hle : i3 ≤ k
         ·have hle1 : (i3 : Int) ≤ (k : Int) := by omega
          go_wp2_with fail
          go_big_quiet (first | (go_at_call 139; refine Calls.quiet_of_same (less_u _ _ _)))
          go_wp2_with fail
          ·have ht : (!ltInt (G k) (G a)) = true := by assumption
           go_roundg (gk - 1)
           case measure => have := HGK.out; omega
           case rel => exact ⟨k - 1, m + nq, by go_num, (by omega), (by have := HGK.out; omega), Lib.hid ⟨by rw [HS.out.1]; exact putRow_drewN _ _ _ _ _ _ _, (scanDown_go (fun x => !ltInt x dk[a]!) dk i3 k hle (by omega) (by rw [← HG.out, ← HG.out]; exact ht)).symm.trans HS.out.2⟩⟩
          ·have ht : (!ltInt (G k) (G a)) = false := by assumption
           go_meet
           exact ⟨k, m + nq, rfl, Lib.hid ⟨b1, b2, by rw [HS.out.1]; exact putRow_drewN _ _ _ _ _ _ _, (scanDown_end (fun x => !ltInt x dk[a]!) dk i3 k (Or.inr (by rw [← HG.out, ← HG.out]; exact ht))).symm.trans HS.out.2⟩⟩
         ·have hle1 : decide ((i3 : Int) ≤ (k : Int)) = false := decide_eq_false (by omega)
          go_wp2_with fail
          go_big_quiet (first | (go_at_call 139; refine Calls.quiet_of_same (less_u _ _ _)))
          go_wp2_with fail
          go_meet
          exact ⟨k, m + nq, rfl, Lib.hid ⟨b1, b2, by rw [HS.out.1]; exact putRow_drewN _ _ _ _ _ _ _, (scanDown_end (fun x => !ltInt x dk[a]!) dk i3 k (Or.inl hle)).symm.trans HS.out.2⟩⟩
       case rest =>
        obtain ⟨j3, n5, rfl, HJ3⟩ := hcut
        have hj3a : i3 ≤ j3 + 1 := HJ3.out.1
        have hj3b : j3 ≤ j := HJ3.out.2.1
        have HW3 : Hid (wc = putRow encU (Sort.ahead w n5) blk off dk) := Lib.hid HJ3.out.2.2.1
        by_cases hgt : j3 < i3
        ·have hgt1 : (j3 : Int) < (i3 : Int) := by omega
         go_wp2_with fail
         go_meet
         exact ⟨i3, j3, n5, dk, rfl, rfl, Lib.hid ⟨by omega, by omega, hds, HW3.out, (part_break ltInt a i j dk HO3.out.2 HJ3.out.2.2.2 hgt).symm.trans HO.out.2⟩⟩
        ·have hlt3 := part_scans_lt ltInt a i j dk (by omega) HO3.out.2 HJ3.out.2.2.2 (by omega)
         have hgt1 : ¬ (j3 : Int) < (i3 : Int) := by omega
         obtain ⟨G3, hG⟩ := rowG w wc blk off n5 d dk HH.out hds HW3.out
         have ci := hG.cell i3 (by omega)
         have fi := hG.free i3 (by omega)
         have cj := hG.cell j3 (by omega)
         have fj := hG.free j3 (by omega)
         have HG3 := Lib.hid hG.eq
         clear hG
         go_wp2_with fail
         go_region
         go_wp2_with fail
         go_roundg (gk - 1)
         case measure => have := HGK0.out; omega
         case rel => exact ⟨i3 + 1, j3 - 1, n5 + 1, swp dk i3 j3, by go_num, by go_num, by omega, by omega, by omega, (by have := HGK0.out; omega), by rw [size_swp]; exact hds, Lib.hid ⟨swap_world encU (by omega) (by omega) HW3.out (by rw [HG3.out]) (by rw [HG3.out]), (part_go ltInt a i j dk HO3.out.2 HJ3.out.2.2.2 (by omega)).symm.trans HO.out.2⟩⟩
    case rest =>
     obtain ⟨i, j, n, dl, rfl, rfl, HR⟩ := hcut
     have hja : a ≤ j := HR.out.1
     have hjz : j ≤ z := HR.out.2.1
     have hdl : dl.size = d.size := HR.out.2.2.1
     obtain ⟨G, hG⟩ := rowG w wc blk off n d dl HH.out hdl HR.out.2.2.2.1
     have ca := hG.cell a (by omega)
     have fa := hG.free a (by omega)
     have cj := hG.cell j (by omega)
     have fj := hG.free j (by omega)
     obtain ⟨v', hy'⟩ := cell?_setCell_some (w := wc) (p := ⟨blk, off + j, none⟩) (x := .int .u32 (G a)) (q := ⟨blk, off + a, none⟩) ca
     have HG := Lib.hid hG.eq
     clear hG
     go_wp2_with fail
     go_region
     go_wp2_with fail
     go_ret2
     rw [HPF.out, ← HR.out.2.2.2.2]
     exact ⟨rfl, n + 1, swap_world encU (by omega) (by omega) HR.out.2.2.2.1 (by rw [HG.out]) (by rw [HG.out])⟩
end Go.Proofs.YtppchdinolndmaaGreat
