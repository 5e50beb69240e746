/- Joined texts: Usf. -/
import Derived.Test.YtppchdinolndmaaGreatMUse
import Derived.Test.YtppchdinolndmaaGreatMShelf
/- slices.breakPatternsOrdered at uint32: it permutes its range. -/
namespace Go.Proofs.YtppchdinolndmaaGreat
open Go.RowKit Go.Sort
set_option linter.unusedVariables false
set_option linter.unusedSimpArgs false
theorem next_u (rb X : Nat) (hX : X < 18446744073709551616) (w : World) (hc : w.cell? ⟨rb, 0, none⟩ = some (.int .u64 X)) (hf : w.frozen? ⟨rb, 0, none⟩ = false) :
  Calls Tryz.prog 147 #[.pointer (some ⟨rb, 0, none⟩)] w fun e w' => ∃ R : Nat, R < 18446744073709551616 ∧ e = .returned (.int .u64 (R : Int)) ∧ w' = (w.setCell ⟨rb, 0, none⟩ (.int .u64 (R : Int))).drewN 3 := by
 obtain ⟨A, hA⟩ : ∃ A : Nat, A = X ^^^ (X * 8192 % 18446744073709551616) := ⟨_, rfl⟩
 obtain ⟨B, hB⟩ : ∃ B : Nat, B = A ^^^ (A / 128) := ⟨_, rfl⟩
 obtain ⟨C, hC⟩ : ∃ C : Nat, C = B ^^^ (B * 131072 % 18446744073709551616) := ⟨_, rfl⟩
 have lA : A < 18446744073709551616 := by rw [hA]; exact Nat.xor_lt_two_pow (n := 64) (by omega) (by omega)
 have lB : B < 18446744073709551616 := by rw [hB]; exact Nat.xor_lt_two_pow (n := 64) (by omega) (by omega)
 have lC : C < 18446744073709551616 := by rw [hC]; exact Nat.xor_lt_two_pow (n := 64) (by omega) (by omega)
 have e1 : bits .xor .u64 (X : Int) (IntKind.u64.wrap ((X : Int) * 8192)) = (A : Int) := by
  rw [IntKind.wrap_u64, show ((X : Int) * 8192 % 18446744073709551616) = ((X * 8192 % 18446744073709551616 : Nat) : Int) by omega, bits_xor_u64_nat _ _ hX (by omega), hA]
 have e2 : bits .xor .u64 (A : Int) ((A : Int) / 128) = (B : Int) := by
  rw [show ((A : Int) / 128) = ((A / 128 : Nat) : Int) by omega, bits_xor_u64_nat _ _ lA (by omega), hB]
 have e3 : bits .xor .u64 (B : Int) (IntKind.u64.wrap ((B : Int) * 131072)) = (C : Int) := by
  rw [IntKind.wrap_u64, show ((B : Int) * 131072 % 18446744073709551616) = ((B * 131072 % 18446744073709551616 : Nat) : Int) by omega, bits_xor_u64_nat _ _ lB (by omega), hC]
 clear hA hB hC
 have hss : ∀ v v', (w.setCell ⟨rb, 0, none⟩ v).setCell ⟨rb, 0, none⟩ v' = w.setCell ⟨rb, 0, none⟩ v' := setCell_setCell w rb 0
 go_enter Tryz.func147, Tryz.ntmps147
 go_wp2
 go_region
 all_goals go_wp2
 all_goals go_region
 all_goals go_wp2
 all_goals go_region
 all_goals go_wp2
 go_ret
 exact ⟨C, lC, rfl, rfl⟩
theorem power_u (n : Nat) (hn : n < 4611686018427387904) (w : World) :
  Calls Tryz.prog 146 #[.int .i64 n] w fun e w' => e = .returned (.int .u64 ((1 <<< bitsLen n : Nat) : Int)) ∧ w' = w := by
 have hLen : ∀ w, Calls Tryz.prog 130 #[.int .u64 (n : Int)] w fun e w' => e = .returned (.int .i64 (bitsLen n : Nat)) ∧ w' = w := fun w => by
  have h := Tryz.bits_Len (n : Int) w (by omega) (by omega)
  rwa [Int.toNat_natCast, bitLen_eq _ (by omega)] at h
 have hk : bitsLen n ≤ 62 := (bitsLen_le_iff n 62).2 (by omega)
 have hp := wrap_two_pow (bitsLen n) hk
 go_enter Tryz.func146, Tryz.ntmps146
 go_wp2_with (first | (go_at_call 130; refine (hLen _).mono ?_; rintro e w' ⟨rfl, rfl⟩))
 go_ret
 exact ⟨rfl, rfl⟩
def BrW (w : World) (n blk off : Nat) (d : Array Int) (r : Nat) : World := grow (putRow encU (Sort.ahead w n) blk off d) #[Obj.cells #[.int .u64 (r : Int)] 223]
theorem br_next (w : World) (n blk off : Nat) (d : Array Int) (r R : Nat) : ((BrW w n blk off d r).setCell ⟨w.heap.size, 0, none⟩ (.int .u64 (R : Int))).drewN 3 = BrW w (n + 3) blk off d R := by
 have hz : (putRow encU (Sort.ahead w n) blk off d).heap.size = w.heap.size := by simp
 unfold BrW
 rw [← hz, setCell_grow_one]
 show grow ((putRow encU (Sort.ahead w n) blk off d).drewN 3) _ = _
 rw [putRow_drewN]
theorem br_swap (w : World) (n blk off : Nat) (d : Array Int) (r i j : Nat) (hblk : blk < w.heap.size) (hi : i < d.size) (hj : j < d.size) (x y : Value) (hx : x = encU d[j]!) (hy : y = encU d[i]!) :
  (((BrW w n blk off d r).setCell ⟨blk, off + i, none⟩ x).setCell ⟨blk, off + j, none⟩ y).drew = BrW w (n + 1) blk off (swp d i j) r := by
 have hz : (putRow encU (Sort.ahead w n) blk off d).heap.size = w.heap.size := by simp
 unfold BrW
 rw [setCell_grow _ _ _ _ _ (by rw [hz]; exact hblk), setCell_grow _ _ _ _ _ (by simpa using hblk), drew_grow, swap_world encU hi hj rfl hx hy]
theorem br_row {w wr : World} {n blk off r : Nat} {d0 dk : Array Int} (hw : wr = BrW w n blk off dk r) (hH : Holds encU w blk off d0) (hblk : blk < w.heap.size) (hs : dk.size = d0.size) : ∃ G, RowG wr blk off dk G := by
 have hz : (putRow encU (Sort.ahead w n) blk off dk).heap.size = w.heap.size := by simp
 refine ⟨fun t => dk[t]!, ⟨fun t ht => ?_, fun t ht => ?_, fun _ => rfl⟩⟩
 ·rw [hw]; unfold BrW
  rw [cell?_grow _ _ _ (by rw [hz]; exact hblk)]
  exact cell?_putRow _ _ _ _ d0 dk (holds_ahead _ _ _ _ _ _ hH) hs t ht
 ·rw [hw]; unfold BrW
  rw [frozen?_grow _ _ _ (by rw [hz]; exact hblk), frozen?_putRow]
  exact ((holds_ahead _ _ n _ _ _ hH) t (by omega)).2
theorem br_cell (w : World) (n blk off : Nat) (d : Array Int) (r : Nat) : (BrW w n blk off d r).cell? ⟨w.heap.size, 0, none⟩ = some (.int .u64 (r : Int)) ∧ (BrW w n blk off d r).frozen? ⟨w.heap.size, 0, none⟩ = false := by
 have hz : (putRow encU (Sort.ahead w n) blk off d).heap.size = w.heap.size := by simp
 unfold BrW
 rw [← hz]
 exact ⟨grow_one_cell _ _ _, grow_one_frozen _ _ _⟩
theorem and_u (R M : Nat) (hR : R < 18446744073709551616) (h1 : 1 ≤ M) (h2 : M < 18446744073709551616) : ∃ O : Nat, bits .and .u64 (R : Int) ((M : Int) - 1) = (O : Int) ∧ O ≤ M - 1 := by
 refine ⟨R &&& (M - 1), ?_, Nat.and_le_right⟩
 rw [show ((M : Int) - 1) = ((M - 1 : Nat) : Int) by omega, bits_and_u64_nat _ _ hR (by omega)]
set_option maxHeartbeats 3000000 in
set_option maxRecDepth 100000 in
theorem breakPatterns_u (d : Array Int) (len : Nat) (hlen : d.size = len) (blk off cap a L : Nat) (w : World) (hH : Holds encU w blk off d) (hblk : blk < w.heap.size) (hb : a + L ≤ d.size) (h8 : 8 ≤ L) (hz : d.size < 4611686018427387904) :
  Calls Tryz.prog 135 #[.slice (some ⟨blk, off, none⟩) len cap, .int .i64 a, .int .i64 ((a + L : Nat) : Int)] w fun e w' =>
   e = .returned (.tuple #[]) ∧ ∃ n os d', PermIn a (a + L) d d' ∧ w' = grow (putRow encU (Sort.ahead w n) blk off d') os := by
 subst hlen
 obtain ⟨M, hM⟩ : ∃ M : Nat, M = 1 <<< bitsLen L := ⟨_, rfl⟩
 have hM1 : 1 ≤ M := by rw [hM, Nat.one_shiftLeft]; exact Nat.two_pow_pos _
 have hM2 : M ≤ 2 * L := by rw [hM, Nat.one_shiftLeft]; exact two_pow_bitsLen_le (by omega)
 have hNP : ∀ w, Calls Tryz.prog 146 #[.int .i64 (L : Int)] w fun e w' => e = .returned (.int .u64 (M : Int)) ∧ w' = w := by rw [hM]; exact fun w => power_u L (by omega) w
 clear hM
 have HH := Lib.hid hH
 have HST : Hid (w.alloc (Obj.cells #[.int .u64 (L : Int)] 223) = BrW w 0 blk off d L) := Lib.hid (by
  unfold BrW
  rw [show Sort.ahead w 0 = w from rfl, putRow_self _ _ _ _ _ hH, alloc_eq_grow])
 clear hH
 obtain ⟨q, hq⟩ : ∃ q, L / 4 = q := ⟨_, rfl⟩
 have hq1 : 2 ≤ q ∧ 4 * q ≤ L := by omega
 have hqz : ((a : Int) + (L : Int) - (a : Int)) / 4 = (q : Int) := by omega
 have hqt : ((L : Int)) / 4 = (q : Int) := by omega
 have hL8 : (8 : Int) ≤ (a : Int) + (L : Int) - (a : Int) := by omega
 have hLa : (a : Int) + (L : Int) - (a : Int) = (L : Int) := by omega
 go_enter Tryz.func135, Tryz.ntmps135
 go_wp2_with (first | (go_at_call 146; refine (hNP _).mono ?_; rintro e w' ⟨rfl, rfl⟩))
 clear hqz
 go_loopg [9] 3 (fun kq s9 wx => ∃ (t n r : Nat) (dk : Array Int), s9 = .int .i64 ((a + q * 2 - 1 + t : Nat) : Int) ∧ t ≤ 3 ∧ kq = 3 - t ∧ dk.size = d.size ∧ Hid (r < 18446744073709551616 ∧ PermIn a (a + L) d dk ∧ wx = BrW w n blk off dk r))
 case atStart => exact ⟨0, 0, L, d, by congr 1; omega, by omega, rfl, rfl, Lib.hid ⟨by omega, permIn_refl _ _ _, HST.out⟩⟩
 case round =>
  obtain ⟨t, n, r, dk, rfl, ht, hgk, hds, HO⟩ := hrel
  have HGK := Lib.hid hgk
  clear hgk
  obtain ⟨x, hx⟩ : ∃ x, a + q * 2 - 1 + t = x := ⟨_, rfl⟩
  rw [hx]
  by_cases ht3 : t < 3
  ·have hx1 : (x : Int) ≤ (a : Int) + (q : Int) * 2 + 1 := by omega
   have HN := Lib.hid (next_u w.heap.size r HO.out.1 wr (by rw [HO.out.2.2]; exact (br_cell _ _ _ _ _ _).1) (by rw [HO.out.2.2]; exact (br_cell _ _ _ _ _ _).2))
   go_upto_if 43 with (go_at_call 147; refine HN.out.mono ?_; rintro e w1 ⟨R, hR, rfl, hw1⟩; have HW1 : Hid (R < 18446744073709551616 ∧ w1 = BrW w (n + 3) blk off dk R) := Lib.hid ⟨hR, by rw [hw1, HO.out.2.2, br_next]⟩; obtain ⟨O, hO, lO⟩ := and_u R M hR hM1 (by omega); clear hw1 hR)
   go_cut [10] (fun s10 wx => wx = w1 ∧ ∃ o : Nat, s10 = .int .i64 o ∧ Hid (o < L))
   case first =>
    by_cases hLO : L ≤ O
    ·have hLO1 : (L : Int) ≤ (O : Int) := by omega
     go_wp2_with fail
     go_meet
     exact ⟨rfl, O - L, by congr 1; omega, Lib.hid (by omega)⟩
    ·have hLO1 : ¬ (L : Int) ≤ (O : Int) := by omega
     go_wp2_with fail
     go_meet
     exact ⟨rfl, O, rfl, Lib.hid (by omega)⟩
   case rest =>
    obtain ⟨rfl, o, rfl, HL⟩ := hcut
    have ho : o < L := HL.out
    obtain ⟨G, hG⟩ := br_row HW1.out.2 HH.out hblk hds
    have hcw := hG.cell
    have hfw := hG.free
    rw [hds] at hcw hfw
    have HG := Lib.hid hG.eq
    clear hG hO lO
    by_cases hEq : x = a + o
    ·subst hEq
     go_wp2_with fail
     go_region
     go_wp2_with fail
     go_roundg (gk - 1)
     case measure => have := HGK.out; omega
     case rel =>
      refine ⟨t + 1, n + 3 + 1, _, swp dk (a + o) (a + o), by congr 1; omega, by omega, (by have := HGK.out; omega), by rw [size_swp]; exact hds, Lib.hid ⟨HW1.out.1, permIn_trans _ _ _ _ _ HO.out.2.1 (swp_permIn _ _ _ _ _ (by omega) (by omega) (by omega) (by omega) (by omega)), ?_⟩⟩
      rw [HW1.out.2]
      exact br_swap w (n + 3) blk off dk _ _ _ hblk (by omega) (by omega) _ _ (by rw [HG.out]) (by rw [HG.out])
    ·have hEq1 : ¬ (x : Int) = (a : Int) + (o : Int) := by omega
     go_wp2_with fail
     go_region
     go_wp2_with fail
     go_roundg (gk - 1)
     case measure => have := HGK.out; omega
     case rel =>
      refine ⟨t + 1, n + 3 + 1, _, swp dk x (a + o), by congr 1; omega, by omega, (by have := HGK.out; omega), by rw [size_swp]; exact hds, Lib.hid ⟨HW1.out.1, permIn_trans _ _ _ _ _ HO.out.2.1 (swp_permIn _ _ _ _ _ (by omega) (by omega) (by omega) (by omega) (by omega)), ?_⟩⟩
      rw [HW1.out.2]
      exact br_swap w (n + 3) blk off dk _ _ _ hblk (by omega) (by omega) _ _ (by rw [HG.out]) (by rw [HG.out])
  ·have hx1 : ¬ (x : Int) ≤ (a : Int) + (q : Int) * 2 + 1 := by omega
   go_wp2_with fail
   go_end0
   exact ⟨rfl, n, _, dk, HO.out.2.1, HO.out.2.2⟩
end Go.Proofs.YtppchdinolndmaaGreat
