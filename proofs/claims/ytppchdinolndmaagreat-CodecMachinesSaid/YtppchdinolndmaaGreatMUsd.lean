/- Joined texts: Usd. -/
import Derived.Test.YtppchdinolndmaaGreatMUsc
import Derived.Sort.WalkA6
/- slices.partialInsertionSortOrdered at uint32: it computes the plain function of its name (Derived.Sort.Defs). -/
namespace Go.Proofs.YtppchdinolndmaaGreat
open Go.RowKit Go.Sort
set_option linter.unusedVariables false
set_option linter.unusedSimpArgs false
set_option maxHeartbeats 12800000 in
set_option maxRecDepth 100000 in
theorem partialIns_u (blk off len cap a b : Nat) (d : Array Int) (hlen : d.size = len) (w : World) (hH : Holds encU w blk off d) (hab : a < b) (hb : b ≤ d.size) (hsz : d.size < 4611686018427387904) :
  Calls Tryz.prog 138 #[.slice (some ⟨blk, off, none⟩) len cap, .int .i64 a, .int .i64 b] w fun e w' =>
   e = .returned (.bool (Sort.partialInsertionSort ltInt d a b).2) ∧ ∃ n, w' = putRow encU (Sort.ahead w n) blk off (Sort.partialInsertionSort ltInt d a b).1 := by
 subst hlen
 have HH := Lib.hid hH
 have HST : Hid (w = putRow encU (Sort.ahead w 0) blk off d) := Lib.hid (putRow_self _ _ _ _ _ hH).symm
 clear hH
 go_enter Tryz.func138, Tryz.ntmps138
 go_wp2_with fail
 go_loopg [7, 8] 5 (fun kq s7 s8 wx => ∃ (i s n : Nat) (dk : Array Int), s7 = .int .i64 i ∧ s8 = .int .i64 s ∧ s ≤ 5 ∧ kq = 5 - s ∧ a < i ∧ i ≤ b ∧ dk.size = d.size ∧ Hid (wx = putRow encU (Sort.ahead w n) blk off dk ∧ partialIns ltInt a b (5 - s) i dk = Sort.partialInsertionSort ltInt d a b))
 case atStart => exact ⟨a + 1, 0, 0, d, by go_num, rfl, by omega, rfl, by omega, by omega, rfl, Lib.hid ⟨HST.out, rfl⟩⟩
 case round =>
  obtain ⟨i, s, n, dk, rfl, rfl, hs5, hgk0, hai, hib, hds, HO⟩ := hrel
  have HGK0 := Lib.hid hgk0
  clear hgk0
  by_cases hs : s < 5
  ·have hs1 : (s : Int) < 5 := by omega
   go_upto_block 2 with fail
   go_cut [7] (fun s7 wx => ∃ (k m : Nat), s7 = .int .i64 k ∧ Hid (i ≤ k ∧ k ≤ b ∧ wx = putRow encU (Sort.ahead w m) blk off dk ∧ scanSorted ltInt dk b i = k))
   case first =>
    go_wp2_with fail
    go_loopg [7] (b - i) (fun kq sq wx => ∃ (k m : Nat), sq = .int .i64 k ∧ (i ≤ k ∧ k ≤ b) ∧ kq = b - k ∧ Hid (wx = putRow encU (Sort.ahead w m) blk off dk ∧ scanSorted ltInt dk b k = scanSorted ltInt dk b i))
    case atStart => exact ⟨i, n, rfl, (by omega), rfl, Lib.hid ⟨HO.out.1, rfl⟩⟩
    case round =>
     obtain ⟨k, m, rfl, ⟨b1, b2⟩, hgk, HS⟩ := hrel
     obtain ⟨G, hG⟩ := rowG w wr blk off m d dk HH.out hds HS.out.1
     have hcw := hG.cell
     rw [hds] at hcw
     have HG := Lib.hid hG.eq
     have HGK := Lib.hid hgk
     clear hG hgk
     have hk0 : 1 ≤ k := by omega
     by_cases hle : k < b
     ·have hle1 : (k : Int) < (b : Int) := by omega
      go_wp2_with fail
      go_quiet (first | (go_at_call 139; refine Calls.quiet_of_same (less_u _ _ _)))
      go_wp2_with fail
      ·have ht : (!ltInt (G k) (G (k - 1))) = true := by assumption
       have hl : ltInt (G k) (G (k - 1)) = false := by simpa using ht
       go_roundg (gk - 1)
       case measure => have := HGK.out; omega
       case rel => exact ⟨k + 1, m + nq, by go_num, (by omega), (by have := HGK.out; omega), Lib.hid ⟨by rw [HS.out.1]; exact putRow_drewN _ _ _ _ _ _ _, (scanSorted_go ltInt dk b k hle (by rw [← HG.out, ← HG.out]; exact hl)).symm.trans HS.out.2⟩⟩
      ·have ht : (!ltInt (G k) (G (k - 1))) = false := by assumption
       have hl : ltInt (G k) (G (k - 1)) = true := by simpa using ht
       go_meet
       exact ⟨k, m + nq, rfl, Lib.hid ⟨b1, b2, by rw [HS.out.1]; exact putRow_drewN _ _ _ _ _ _ _, HS.out.2.symm.trans (scanSorted_stop ltInt dk b k (Or.inr (by rw [← HG.out, ← HG.out]; exact hl)))⟩⟩
     ·have hle1 : decide ((k : Int) < (b : Int)) = false := decide_eq_false (by omega)
      go_wp2_with fail
      go_quiet (first | (go_at_call 139; refine Calls.quiet_of_same (less_u _ _ _)))
      go_wp2_with fail
      go_meet
      exact ⟨k, m + nq, rfl, Lib.hid ⟨b1, b2, by rw [HS.out.1]; exact putRow_drewN _ _ _ _ _ _ _, HS.out.2.symm.trans (scanSorted_stop ltInt dk b k (Or.inl hle))⟩⟩
   case rest =>
    obtain ⟨k, m, rfl, HK⟩ := hcut
    have hik : i ≤ k := HK.out.1
    have hkb : k ≤ b := HK.out.2.1
    have HW : Hid (wc = putRow encU (Sort.ahead w m) blk off dk) := Lib.hid HK.out.2.2.1
    by_cases he : k = b
    ·have he1 : ((k : Int) == (b : Int)) = true := by rw [he]; exact beq_self_eq_true _
     have HE := Lib.hid he
     clear he
     go_wp2_with fail
     go_ret
     rw [← HO.out.2, pi_true ltInt a b s i dk hs (HK.out.2.2.2.trans HE.out)]
     exact ⟨rfl, m, HW.out⟩
    ·have he1 : ((k : Int) == (b : Int)) = false := by rw [beq_eq_false_iff_ne]; omega
     by_cases h50 : b - a < 50
     ·have h51 : (b : Int) - (a : Int) < 50 := by omega
      go_wp2_with fail
      go_ret
      rw [← HO.out.2, pi_short ltInt a b s i dk hs (by rw [HK.out.2.2.2]; exact he) h50]
      exact ⟨rfl, m, HW.out⟩
     ·have h51 : ¬ (b : Int) - (a : Int) < 50 := by omega
      have HPG := Lib.hid (pi_go ltInt a b s i k dk hs HK.out.2.2.2 he h50)
      obtain ⟨G, hG⟩ := rowG w wc blk off m d dk HH.out hds HW.out
      have ci := hG.cell k (by omega)
      have fi := hG.free k (by omega)
      have cj := hG.cell (k - 1) (by omega)
      have fj := hG.free (k - 1) (by omega)
      have HG := Lib.hid hG.eq
      clear hG
      obtain ⟨dm, hdm⟩ : ∃ dm, dm = swp dk k (k - 1) := ⟨_, rfl⟩
      have hdms : dm.size = d.size := by rw [hdm, size_swp]; exact hds
      have HM : Hid (((wc.setCell ⟨blk, off + k, none⟩ (.int .u32 (G (k - 1)))).setCell ⟨blk, off + (k - 1), none⟩ (.int .u32 (G k))).drew = putRow encU (Sort.ahead w (m + 1)) blk off dm) := Lib.hid (by rw [hdm]; exact swap_world encU (by omega) (by omega) HW.out (by rw [HG.out]) (by rw [HG.out]))
      rw [← hdm] at HPG
      clear hdm
      have hk1 : 1 ≤ k := by omega
      go_wp2_with fail
      go_region
      go_upto_if 61 with fail
      go_cut [] (fun wx => ∃ (m2 : Nat) (d2 : Array Int), Hid (d2.size = d.size ∧ wx = putRow encU (Sort.ahead w m2) blk off d2 ∧ d2 = fixDown ltInt a k dm))
      case first =>
       clear ci fi cj fj
       by_cases h2 : 2 ≤ k - a
       ·have h21 : (2 : Int) ≤ (k : Int) - (a : Int) := by omega
        go_wp2_with fail
        go_loopg [9] (k - 1) (fun kq sq wx => ∃ (j m : Nat) (dj : Array Int), sq = .int .i64 j ∧ j ≤ k - 1 ∧ kq = j ∧ dj.size = d.size ∧ Hid (wx = putRow encU (Sort.ahead w m) blk off dj ∧ shiftDown ltInt j dj = shiftDown ltInt (k - 1) dm))
        case atStart => exact ⟨k - 1, m + 1, dm, (by first | rfl | go_num), Nat.le_refl _, rfl, hdms, Lib.hid ⟨HM.out, rfl⟩⟩
        case round =>
         obtain ⟨j, m, dj, rfl, hjk, hgk, hsj, HI⟩ := hrel
         have HGK := Lib.hid hgk
         clear hgk
         obtain ⟨G, hG⟩ := rowG w wr blk off m d dj HH.out hsj HI.out.1
         have hcw := hG.cell
         have hfw := hG.free
         rw [hsj] at hcw hfw
         have HG := Lib.hid hG.eq
         clear hG
         by_cases hj : 1 ≤ j
         ·have hj1 : (1 : Int) ≤ (j : Int) := by omega
          go_wp2_with fail
          go_quiet (first | (go_at_call 139; refine Calls.quiet_of_same (less_u _ _ _)))
          go_wp2_with fail
          ·have ht : (!ltInt (G j) (G (j - 1))) = true := by assumption
           have hl : ltInt (G j) (G (j - 1)) = false := by simpa using ht
           go_meet
           refine ⟨m + nq, dj, Lib.hid ⟨hsj, by rw [HI.out.1]; exact putRow_drewN _ _ _ _ _ _ _, ?_⟩⟩
           unfold fixDown
           rw [if_pos h2, ← HI.out.2, shiftDown_stop ltInt j dj (Or.inr (by rw [← HG.out, ← HG.out]; exact hl))]
          ·have ht : (!ltInt (G j) (G (j - 1))) = false := by assumption
           have hl : ltInt (G j) (G (j - 1)) = true := by simpa using ht
           go_region
           go_wp2_with fail
           go_roundg (j - 1)
           case measure => have := HGK.out; omega
           case rel =>
            refine ⟨j - 1, m + (nq + 1), swp dj j (j - 1), by congr 1; omega, by omega, rfl, by rw [size_swp]; exact hsj, Lib.hid ⟨?_, ?_⟩⟩
            ·rw [HI.out.1, HG.out, HG.out]
             exact swap_worldA _ w m (nq + 1) blk off dj j (j - 1) (by omega) (by omega)
            ·rw [← HI.out.2, shiftDown_go ltInt j dj hj (by rw [← HG.out, ← HG.out]; exact hl)]
         ·have hj1 : ¬ (1 : Int) ≤ (j : Int) := by omega
          go_wp2_with fail
          go_meet
          refine ⟨m, dj, Lib.hid ⟨hsj, HI.out.1, ?_⟩⟩
          unfold fixDown
          rw [if_pos h2, ← HI.out.2, shiftDown_stop ltInt j dj (Or.inl (by omega))]
       ·have h21 : ¬ (2 : Int) ≤ (k : Int) - (a : Int) := by omega
        go_wp2_with fail
        go_meet
        refine ⟨m + 1, dm, Lib.hid ⟨hdms, HM.out, ?_⟩⟩
        unfold fixDown
        rw [if_neg h2]
      case rest =>
       obtain ⟨m2, d2, HD⟩ := hcut
       have hd2 : d2.size = d.size := HD.out.1
       clear ci fi cj fj
       by_cases h2 : 2 ≤ b - k
       ·have h21 : (2 : Int) ≤ (b : Int) - (k : Int) := by omega
        go_wp2_with fail
        go_loopg [10] (b - (k + 1)) (fun kq sq wx => ∃ (j m : Nat) (dj : Array Int), sq = .int .i64 j ∧ (k + 1 ≤ j ∧ j ≤ b) ∧ kq = b - j ∧ dj.size = d.size ∧ Hid (wx = putRow encU (Sort.ahead w m) blk off dj ∧ shiftUp ltInt b j dj = shiftUp ltInt b (k + 1) d2))
        case atStart => exact ⟨k + 1, m2, d2, (by first | rfl | go_num), by omega, rfl, hd2, Lib.hid ⟨HD.out.2.1, rfl⟩⟩
        case round =>
         obtain ⟨j, m, dj, rfl, ⟨hj0, hjb⟩, hgk, hsj, HI⟩ := hrel
         have HGK := Lib.hid hgk
         clear hgk
         obtain ⟨G, hG⟩ := rowG w wr blk off m d dj HH.out hsj HI.out.1
         have hcw := hG.cell
         have hfw := hG.free
         rw [hsj] at hcw hfw
         have HG := Lib.hid hG.eq
         clear hG
         have hj : 1 ≤ j := by omega
         by_cases hjl : j < b
         ·have hj1 : (j : Int) < (b : Int) := by omega
          go_wp2_with fail
          go_quiet (first | (go_at_call 139; refine Calls.quiet_of_same (less_u _ _ _)))
          go_wp2_with fail
          ·have ht : (!ltInt (G j) (G (j - 1))) = true := by assumption
           have hl : ltInt (G j) (G (j - 1)) = false := by simpa using ht
           go_roundg (4 - s)
           case measure => have := HGK0.out; omega
           case rel =>
            refine ⟨k, s + 1, m + nq, dj, rfl, by go_num, by omega, by omega, by omega, hkb, hsj, Lib.hid ⟨by rw [HI.out.1]; exact putRow_drewN _ _ _ _ _ _ _, ?_⟩⟩
            rw [← HO.out.2, HPG.out, ← HD.out.2.2]
            unfold fixUp
            rw [if_pos h2, ← HI.out.2, shiftUp_stop ltInt b j dj (Or.inr (by rw [← HG.out, ← HG.out]; exact hl))]
          ·have ht : (!ltInt (G j) (G (j - 1))) = false := by assumption
           have hl : ltInt (G j) (G (j - 1)) = true := by simpa using ht
           go_region
           go_wp2_with fail
           go_roundg (gk - 1)
           case measure => have := HGK.out; omega
           case rel =>
            refine ⟨j + 1, m + (nq + 1), swp dj j (j - 1), by go_num, by omega, (by have := HGK.out; omega), by rw [size_swp]; exact hsj, Lib.hid ⟨?_, ?_⟩⟩
            ·rw [HI.out.1, HG.out, HG.out]
             exact swap_worldA _ w m (nq + 1) blk off dj j (j - 1) (by omega) (by omega)
            ·rw [← HI.out.2, shiftUp_go ltInt b j dj hjl (by rw [← HG.out, ← HG.out]; exact hl)]
         ·have hj1 : ¬ (j : Int) < (b : Int) := by omega
          go_wp2_with fail
          go_roundg (4 - s)
          case measure => have := HGK0.out; omega
          case rel =>
           refine ⟨k, s + 1, m, dj, rfl, by go_num, by omega, by omega, by omega, hkb, hsj, Lib.hid ⟨HI.out.1, ?_⟩⟩
           rw [← HO.out.2, HPG.out, ← HD.out.2.2]
           unfold fixUp
           rw [if_pos h2, ← HI.out.2, shiftUp_stop ltInt b j dj (Or.inl hjl)]
       ·have h21 : ¬ (2 : Int) ≤ (b : Int) - (k : Int) := by omega
        go_wp2_with fail
        go_roundg (4 - s)
        case measure => have := HGK0.out; omega
        case rel =>
         refine ⟨k, s + 1, m2, d2, rfl, by go_num, by omega, by omega, by omega, hkb, hd2, Lib.hid ⟨HD.out.2.1, ?_⟩⟩
         rw [← HO.out.2, HPG.out, ← HD.out.2.2]
         unfold fixUp
         rw [if_neg h2]
  ·have hs1 : ¬ (s : Int) < 5 := by omega
   obtain rfl : s = 5 := by omega
   go_wp2_with fail
   go_ret
   rw [← HO.out.2, pi_end]
   exact ⟨rfl, n, HO.out.1⟩
end Go.Proofs.YtppchdinolndmaaGreat
