/- Joined texts: Usa, Usb. -/
import Derived.Test.YtppchdinolndmaaGreatMBase
import Derived.Sort.WalkA
import Derived.Sort.WalkB2
import Derived.Sort.WalkB3
import Derived.Deep.LoopGhost
import Derived.Deep.DeepCutAuto
import Derived.Deep.CutBlock
import Derived.Outline
namespace Go.Proofs.YtppchdinolndmaaGreat
open Go.RowKit Go.Sort
set_option linter.unusedVariables false
set_option linter.unusedSimpArgs false
abbrev encU : Int → Value := Value.int .u32
theorem nan_u (x : Int) (w : World) : Calls Tryz.prog 150 #[.int .u32 x] w fun e w' => e = .returned (.bool false) ∧ w' = w := by
 go_enter Tryz.func150, Tryz.ntmps150
 go_wp2
 go_ret
 exact ⟨by simp, rfl⟩
theorem less_u (x y : Int) (w : World) : Calls Tryz.prog 139 #[.int .u32 x, .int .u32 y] w fun e w' => e = .returned (.bool (ltInt x y)) ∧ w' = w := by
 go_enter Tryz.func139, Tryz.ntmps139
 go_wp2_with (go_at_call 150; refine (nan_u _ _).mono ?_; rintro e w' ⟨rfl, rfl⟩)
 go_ret
 exact ⟨rfl, rfl⟩
structure RowG (w : World) (blk off : Nat) (d : Array Int) (G : Nat → Int) : Prop where
 cell : ∀ t, t < d.size → w.cell? ⟨blk, off + t, none⟩ = some (.int .u32 (G t))
 free : ∀ t, t < d.size → w.frozen? ⟨blk, off + t, none⟩ = false
 eq : ∀ t, G t = d[t]!
theorem rowG (w0 w : World) (blk off n : Nat) (d0 d : Array Int) (h0 : Holds encU w0 blk off d0) (hs : d.size = d0.size) (hw : w = putRow encU (Sort.ahead w0 n) blk off d) : ∃ G, RowG w blk off d G :=
 ⟨fun t => d[t]!, ⟨fun t ht => by rw [hw]; exact cell?_putRow _ _ _ _ d0 d (holds_ahead _ _ _ _ _ _ h0) hs t ht, fun t ht => by rw [hw, frozen?_putRow]; exact ((holds_ahead _ _ n _ _ _ h0) t (by omega)).2, fun _ => rfl⟩⟩
set_option maxHeartbeats 1000000 in
theorem insertion_u (blk off cap a b : Nat) (d : Array Int) (w : World) (hH : Holds encU w blk off d) (hab : a ≤ b) (hb : b ≤ d.size) (hsz : d.size < 4611686018427387904) :
  Calls Tryz.prog 133 #[.slice (some ⟨blk, off, none⟩) d.size cap, .int .i64 a, .int .i64 b] w fun e w' =>
   e = .returned (.tuple #[]) ∧ ∃ n, w' = putRow encU (Sort.ahead w n) blk off (Sort.insertionSort ltInt d a b) := by
 have HH := Lib.hid hH
 have HST : Hid (w = putRow encU (Sort.ahead w 0) blk off d) := Lib.hid (putRow_self _ _ _ _ _ hH).symm
 clear hH
 go_enter Tryz.func133, Tryz.ntmps133
 go_wp2
 go_loopw [6] (fun vi wr => ∃ (i n : Nat) (dk : Array Int), vi = .int .i64 i ∧ a < i ∧ i ≤ b + 1 ∧ dk.size = d.size ∧ Hid (wr = putRow encU (Sort.ahead w n) blk off dk ∧ insOuter ltInt a b i dk = insOuter ltInt a b (a + 1) d)) (fun vi _ => b + 1 - (intOf vi).toNat)
 case atStart => exact ⟨a + 1, 0, d, by go_num, by omega, by omega, rfl, Lib.hid ⟨HST.out, rfl⟩⟩
 case round =>
  obtain ⟨i, n, dk, rfl, hai, hib, hsk, HO⟩ := hrel
  by_cases hlt : i < b
  ·go_wp2
   go_loopw [7] (fun vj wr2 => ∃ (j m : Nat) (dj : Array Int), vj = .int .i64 j ∧ a ≤ j ∧ j ≤ i ∧ dj.size = d.size ∧ Hid (wr2 = putRow encU (Sort.ahead w m) blk off dj ∧ insInner ltInt a j dj = insInner ltInt a i dk)) (fun vj _ => (intOf vj).toNat)
   case atStart => exact ⟨i, n, dk, rfl, by omega, Nat.le_refl _, hsk, Lib.hid ⟨HO.out.1, rfl⟩⟩
   case round =>
    obtain ⟨j, m, dj, rfl, haj, hji, hsj, HI⟩ := hrel
    obtain ⟨G, hG⟩ := rowG w wr blk off m d dj HH.out hsj HI.out.1
    have hcw := hG.cell
    have hfw := hG.free
    have HG := Lib.hid hG.eq
    rw [hsj] at hcw hfw
    clear hG
    have OUT : Hid ((j ≤ a ∨ ltInt dj[j]! dj[j - 1]! = false) → ∀ q, ∃ i' n' dk', Value.int .i64 ((i : Int) + 1) = .int .i64 (i' : Nat) ∧ a < i' ∧ i' ≤ b + 1 ∧ dk'.size = d.size ∧
      Hid (wr.drewN q = putRow encU (Sort.ahead w n') blk off dk' ∧ insOuter ltInt a b i' dk' = insOuter ltInt a b (a + 1) d)) := Lib.hid fun hs q =>
     ⟨i + 1, m + q, dj, by go_num, by omega, by omega, hsj, Lib.hid ⟨by rw [HI.out.1]; exact putRow_drewN _ _ _ _ _ _ _,
      by rw [← HO.out.2, insOuter_go _ _ _ _ _ hlt, ← HI.out.2, insInner_stop _ _ _ _ hs]⟩⟩
    go_wp2
    by_cases hja : a < j
    ·go_quiet (first | (go_at_call 139; refine Calls.quiet_of_same (less_u _ _ _)))
     go_wp2
     ·have hl : ltInt (G j) (G (j - 1)) = true := by assumption
      go_region
      all_goals go_wp2
      go_roundw
      case rel =>
       refine ⟨j - 1, m + (nq + 1), swp dj j (j - 1), by congr 1; omega, by omega, by omega, by rw [size_swp]; exact hsj, Lib.hid ⟨?_, ?_⟩⟩
       ·rw [HI.out.1, HG.out, HG.out]
        exact swap_worldA _ w m (nq + 1) blk off dj j (j - 1) (by omega) (by omega)
       ·rw [← HI.out.2, insInner_go ltInt a j dj hja (by rw [← HG.out, ← HG.out]; exact hl)]
      case measure => simp [intOf]; omega
     ·have hl : ltInt (G j) (G (j - 1)) = false := by assumption
      go_roundw
      case rel => exact OUT.out (Or.inr (by rw [← HG.out, ← HG.out]; exact hl)) nq
      case measure => simp [intOf]; omega
    ·go_quiet (first | (go_at_call 139; refine Calls.quiet_of_same (less_u _ _ _)))
     go_wp2
     go_roundw
     case rel => exact OUT.out (Or.inl (by omega)) nq
     case measure => simp [intOf]; omega
  ·go_wp2
   go_end0
   exact ⟨rfl, n, by unfold Sort.insertionSort; rw [← HO.out.2, insOuter_stop _ _ _ _ _ hlt]; exact HO.out.1⟩
set_option maxHeartbeats 1600000 in
set_option maxRecDepth 1000000 in
theorem reverse_u (blk off cap : Nat) (d : Array Int) (a b : Nat) (w : World) (hH : Holds encU w blk off d) (hab : a < b) (hb : b ≤ d.size) (hsz : d.size < 4611686018427387904) :
  Calls Tryz.prog 137 #[.slice (some ⟨blk, off, none⟩) d.size cap, .int .i64 a, .int .i64 b] w fun e w' => e = .returned (.tuple #[]) ∧ ∃ n, w' = putRow encU (Sort.ahead w n) blk off (reverseRange d a b) := by
 have HH := Lib.hid hH
 have HST : Hid (w = putRow encU (Sort.ahead w 0) blk off d) := Lib.hid (putRow_self _ _ _ _ _ hH).symm
 clear hH
 obtain ⟨e, rfl⟩ : ∃ e, b = e + 1 := ⟨b - 1, by omega⟩
 go_enter Tryz.func137, Tryz.ntmps137
 go_wp2
 go_loopg [6, 7] (e - a) (fun k s6 s7 wr => ∃ (i : Nat) (j : Int) (dk : Array Int) (n : Nat), s6 = .int .i64 i ∧ s7 = .int .i64 j ∧ j ≤ e ∧ -1 ≤ j ∧ j.toNat - i ≤ k ∧ dk.size = d.size ∧ Hid (wr = putRow encU (Sort.ahead w n) blk off dk ∧ reverseLoop i j.toNat dk = reverseLoop a e d))
 case atStart => exact ⟨a, e, d, 0, rfl, by simp, by omega, by omega, by omega, rfl, Lib.hid ⟨HST.out, by rw [Int.toNat_natCast]⟩⟩
 case round =>
  obtain ⟨i, j, dk, n, rfl, rfl, h1, h2, hk, hds, HO⟩ := hrel
  by_cases hlt : (i : Int) < j
  ·obtain ⟨jn, rfl⟩ : ∃ jn : Nat, j = jn := ⟨j.toNat, by omega⟩
   obtain ⟨G, hG⟩ := rowG w wr blk off n d dk HH.out hds HO.out.1
   have ci := hG.cell i (by omega)
   have fi := hG.free i (by omega)
   have cj := hG.cell jn (by omega)
   have fj := hG.free jn (by omega)
   have HG := Lib.hid hG.eq
   clear hG
   go_wp2_with fail
   go_region
   go_wp2
   go_roundg (jn - 1 - (i + 1))
   case measure => omega
   case rel =>
    have heq := HO.out.2
    rw [Int.toNat_natCast, reverseLoop, if_pos (by omega)] at heq
    exact ⟨i + 1, (jn : Int) - 1, swp dk i jn, n + 1, by go_num, rfl, by omega, by omega, by omega, by rw [size_swp]; exact hds,
     Lib.hid ⟨swap_world encU (by omega) (by omega) HO.out.1 (by rw [HG.out]) (by rw [HG.out]), by rw [show ((jn : Int) - 1).toNat = jn - 1 by omega]; exact heq⟩⟩
  ·go_wp2
   go_end0
   refine ⟨rfl, n, ?_⟩
   have heq := HO.out.2
   rw [reverseLoop, if_neg (by omega)] at heq
   rw [reverseRange, Nat.add_sub_cancel, ← heq]
   exact HO.out.1
def SdC (hi F root : Nat) (d : Array Int) (c : Nat) : Prop := 2 * root + 1 ≤ c ∧ c < hi ∧ (ltInt d[F + root]! d[F + c]! = false → siftDown ltInt hi F root d = d) ∧ (ltInt d[F + root]! d[F + c]! = true → siftDown ltInt hi F root d = siftDown ltInt hi F c (swp d (F + root) (F + c)))
theorem sdC_right {hi F root : Nat} {d : Array Int} (h1 : 2 * root + 2 < hi) (h2 : ltInt d[F + (2 * root + 1)]! d[F + (2 * root + 2)]! = true) : SdC hi F root d (2 * root + 2) :=
 ⟨by omega, h1, fun h => sd_right_stop ltInt d h1 h2 h, fun h => sd_right_go ltInt d h1 h2 h⟩
theorem sdC_left {hi F root : Nat} {d : Array Int} (h0 : 2 * root + 1 < hi) (h1 : 2 * root + 2 < hi → ltInt d[F + (2 * root + 1)]! d[F + (2 * root + 2)]! = false) : SdC hi F root d (2 * root + 1) :=
 ⟨by omega, h0, fun h => sd_left_stop ltInt d h0 h1 h, fun h => sd_left_go ltInt d h0 h1 h⟩
set_option maxHeartbeats 3200000 in
set_option maxRecDepth 1000000 in
theorem siftDown_u (blk off len cap : Nat) (d : Array Int) (hlen : d.size = len) (lo hi first : Nat) (w : World) (hH : Holds encU w blk off d) (hlo : lo ≤ hi) (hb : first + hi ≤ d.size) (hsz : d.size < 4611686018427387904) :
  Calls Tryz.prog 145 #[.slice (some ⟨blk, off, none⟩) len cap, .int .i64 lo, .int .i64 hi, .int .i64 first] w fun e w' => e = .returned (.tuple #[]) ∧ ∃ n, w' = putRow encU (Sort.ahead w n) blk off (siftDown ltInt hi first lo d) := by
 subst hlen
 have HH := Lib.hid hH
 have HST : Hid (w = putRow encU (Sort.ahead w 0) blk off d) := Lib.hid (putRow_self _ _ _ _ _ hH).symm
 clear hH
 go_enter Tryz.func145, Tryz.ntmps145
 go_wp2
 go_loopg [8] (hi - lo) (fun k s8 wr => ∃ (root : Nat) (dk : Array Int) (n : Nat), s8 = .int .i64 root ∧ root ≤ hi ∧ hi - root ≤ k ∧ dk.size = d.size ∧ Hid (wr = putRow encU (Sort.ahead w n) blk off dk ∧ siftDown ltInt hi first root dk = siftDown ltInt hi first lo d))
 case atStart => exact ⟨lo, d, 0, rfl, hlo, Nat.le_refl _, rfl, Lib.hid ⟨HST.out, rfl⟩⟩
 case round =>
  obtain ⟨root, dk, n, rfl, hr, hk, hds, HO⟩ := hrel
  by_cases h0 : hi ≤ 2 * root + 1
  ·have h0z : (hi : Int) ≤ 2 * (root : Int) + 1 := by omega
   go_wp2
   go_end0
   refine ⟨rfl, n, ?_⟩
   rw [← HO.out.2, sd_end ltInt dk h0]
   exact HO.out.1
  ·have h0z : ¬ ((hi : Int) ≤ 2 * (root : Int) + 1) := by omega
   go_upto_region 3 with fail
   go_cut [36] (fun s36 wx => ∃ (bb : Bool) (m : Nat), s36 = .bool bb ∧ Hid (wx = putRow encU (Sort.ahead w m) blk off dk ∧ (bb = true → SdC hi first root dk (2 * root + 2)) ∧ (bb = false → SdC hi first root dk (2 * root + 1))))
   case first =>
    obtain ⟨G, hG⟩ := rowG w wr blk off n d dk HH.out hds HO.out.1
    have hcw := hG.cell
    rw [hds] at hcw
    have HG := Lib.hid hG.eq
    clear hG
    by_cases h1 : 2 * root + 2 < hi
    ·have h1z : 2 * (root : Int) + 1 + 1 < (hi : Int) := by omega
     go_big_quiet (first | (go_at_call 139; refine Calls.quiet_of_same (less_u _ _ _)))
     go_wp2_with fail
     go_meet
     refine ⟨_, n + nq, rfl, Lib.hid ⟨by rw [HO.out.1]; exact putRow_drewN _ _ _ _ _ _ _, fun h => sdC_right h1 (by rw [← HG.out, ← HG.out]; exact h), fun h => sdC_left (by omega) (fun _ => by rw [← HG.out, ← HG.out]; exact h)⟩⟩
    ·have h1z : decide (2 * (root : Int) + 1 + 1 < (hi : Int)) = false := decide_eq_false (by omega)
     go_big_quiet (first | (go_at_call 139; refine Calls.quiet_of_same (less_u _ _ _)))
     go_wp2_with fail
     go_meet
     refine ⟨false, n + nq, rfl, Lib.hid ⟨by rw [HO.out.1]; exact putRow_drewN _ _ _ _ _ _ _, fun h => (by cases h), fun _ => sdC_left (by omega) (fun h => absurd h h1)⟩⟩
   case rest =>
    obtain ⟨bb, m, rfl, HC⟩ := hcut
    go_upto_if 36 with fail
    go_cut [9] (fun s9 wx => wx = wc ∧ ∃ c : Nat, s9 = .int .i64 c ∧ Hid (SdC hi first root dk c))
    case first =>
     cases bb with
     | true =>
      go_wp2_with fail
      go_meet
      exact ⟨rfl, 2 * root + 2, by go_num, Lib.hid (HC.out.2.1 (by trivial))⟩
     | false =>
      go_wp2_with fail
      go_meet
      exact ⟨rfl, 2 * root + 1, by go_num, Lib.hid (HC.out.2.2 (by trivial))⟩
    case rest =>
     obtain ⟨rfl, c, rfl, HD⟩ := hcut
     have hc1 : c < hi := HD.out.2.1
     have hc2 : 2 * root + 1 ≤ c := HD.out.1
     obtain ⟨G, hG⟩ := rowG w wc blk off m d dk HH.out hds HC.out.1
     have hcw := hG.cell
     have hfw := hG.free
     rw [hds] at hcw hfw
     have HG := Lib.hid hG.eq
     clear hG
     go_wp2_with fail
     go_big_quiet (first | (go_at_call 139; refine Calls.quiet_of_same (less_u _ _ _)))
     have HW : Hid (wc.drewN nq = putRow encU (Sort.ahead w (m + nq)) blk off dk) := Lib.hid (by rw [HC.out.1]; exact putRow_drewN _ _ _ _ _ _ _)
     have hcw2 : ∀ t, t < d.size → (wc.drewN nq).cell? ⟨blk, off + t, none⟩ = some (.int .u32 (G t)) := hcw
     have hfw2 : ∀ t, t < d.size → (wc.drewN nq).frozen? ⟨blk, off + t, none⟩ = false := hfw
     clear hcw hfw
     generalize wc.drewN nq = w2 at hcw2 hfw2 HW ⊢
     go_wp2_with fail
     ·have hS : ltInt (G (first + root)) (G (first + c)) = false := by
       have h : (!ltInt (G (first + root)) (G (first + c))) = true := by assumption
       simpa using h
      (try simp only [Exit.inBlock, Exit.then]); refine bodyPost_ret (results_none rfl _ _ _) rfl ?_
      refine ⟨rfl, m + nq, ?_⟩
      rw [← HO.out.2, HD.out.2.2.1 (by rw [← HG.out, ← HG.out]; exact hS)]
      exact HW.out
     ·have hS : ltInt (G (first + root)) (G (first + c)) = true := by
       have h : (!ltInt (G (first + root)) (G (first + c))) = false := by assumption
       simpa using h
      go_region
      go_wp2
      go_roundg (hi - c)
      case measure => omega
      case rel =>
       refine ⟨c, swp dk (first + root) (first + c), m + nq + 1, rfl, by omega, Nat.le_refl _, by rw [size_swp]; exact hds, Lib.hid ⟨swap_world encU (by omega) (by omega) HW.out (by rw [HG.out]) (by rw [HG.out]), ?_⟩⟩
       rw [← HO.out.2, HD.out.2.2.2 (by rw [← HG.out, ← HG.out]; exact hS)]
set_option maxHeartbeats 3200000 in
set_option maxRecDepth 1000000 in
theorem heapSort_u (blk off len cap : Nat) (d : Array Int) (hlen : d.size = len) (a b : Nat) (w : World) (hH : Holds encU w blk off d) (hab : a ≤ b) (hb : b ≤ d.size) (hsz : d.size < 4611686018427387904) :
  Calls Tryz.prog 134 #[.slice (some ⟨blk, off, none⟩) len cap, .int .i64 a, .int .i64 b] w fun e w' => e = .returned (.tuple #[]) ∧ ∃ n, w' = putRow encU (Sort.ahead w n) blk off (heapSort ltInt d a b) := by
 subst hlen
 have HH := Lib.hid hH
 have HST : Hid (w = putRow encU (Sort.ahead w 0) blk off d) := Lib.hid (putRow_self _ _ _ _ _ hH).symm
 clear hH
 have ecast : ((b - a : Nat) : Int) = (b : Int) - (a : Int) := by omega
 go_enter Tryz.func134, Tryz.ntmps134
 go_upto_block 0 with fail
 go_cut [9] (fun s9 wx => ∃ (dk : Array Int) (n : Nat), Hid (dk.size = d.size ∧ wx = putRow encU (Sort.ahead w n) blk off dk ∧ dk = heapBuild ltInt (b - a) a ((b - a - 1) / 2 + 1) d))
 case first =>
  go_wp2_with fail
  go_loopg [9] ((b - a - 1) / 2 + 1) (fun k s9 wr => s9 = .int .i64 ((k : Int) - 1) ∧ k ≤ (b - a - 1) / 2 + 1 ∧ ∃ (dk : Array Int) (n : Nat), dk.size = d.size ∧ Hid (wr = putRow encU (Sort.ahead w n) blk off dk ∧
   heapBuild ltInt (b - a) a k dk = heapBuild ltInt (b - a) a ((b - a - 1) / 2 + 1) d))
  case atStart => exact ⟨by rw [half_start hab], Nat.le_refl _, d, 0, rfl, Lib.hid ⟨HST.out, rfl⟩⟩
  case round =>
   obtain ⟨rfl, hkk, dk, n, hds, HO⟩ := hrel
   cases gk with
   | zero =>
    go_wp2_with fail
    go_meet
    exact ⟨dk, n, Lib.hid ⟨hds, HO.out.1, HO.out.2⟩⟩
   | succ k =>
    have hcall := siftDown_u blk off d.size cap dk hds k (b - a) a wr (by rw [HO.out.1]; exact holds_putRow encU _ blk off d dk (holds_ahead encU w n blk off d HH.out) hds) (by omega) (by omega) (by omega)
    rw [ecast] at hcall
    have HC := Lib.hid hcall
    clear hcall
    go_wp2_with (go_at_call 145; refine HC.out.mono ?_; rintro e w1 ⟨rfl, m, hw1⟩; have HW1 := Lib.hid hw1; clear hw1)
    go_roundg k
    case measure => omega
    case rel =>
     refine ⟨by simp, by omega, siftDown ltInt (b - a) a k dk, n + m, by rw [size_siftDown ltInt _ _ _ _ _ (Nat.le_refl _)]; exact hds, Lib.hid ⟨?_, HO.out.2⟩⟩
     rw [HW1.out, HO.out.1, putRow_ahead_putRow encU w n m blk off dk _ (size_siftDown ltInt _ _ _ _ _ (Nat.le_refl _))]
 case rest =>
  obtain ⟨dk, n, HK⟩ := hcut
  go_wp2_with fail
  go_loopg [10] (b - a) (fun k s10 wr2 => s10 = .int .i64 ((k : Int) - 1) ∧ k ≤ b - a ∧ ∃ (dj : Array Int) (n2 : Nat), dj.size = d.size ∧ Hid (wr2 = putRow encU (Sort.ahead w n2) blk off dj ∧ heapPop ltInt a k dj = heapPop ltInt a (b - a) dk))
  case atStart => exact ⟨by rw [ecast], Nat.le_refl _, dk, n, HK.out.1, Lib.hid ⟨HK.out.2.1, rfl⟩⟩
  case round =>
   obtain ⟨rfl, hkk, dj, n2, hdj, HO⟩ := hrel
   cases gk with
   | zero =>
    go_wp2
    go_end0
    refine ⟨rfl, n2, ?_⟩
    have e : dj = heapSort ltInt d a b := by rw [heapSort, ← HK.out.2.2, ← HO.out.2]; rfl
    rw [← e]
    exact HO.out.1
   | succ k =>
    obtain ⟨G, hG⟩ := rowG w wr blk off n2 d dj HH.out hdj HO.out.1
    have ca := hG.cell a (by omega)
    have fa := hG.free a (by omega)
    have ck := hG.cell (a + k) (by omega)
    have fk := hG.free (a + k) (by omega)
    have HG := Lib.hid hG.eq
    clear hG
    rcases Nat.eq_zero_or_pos k with hk0 | hkp
    ·subst hk0
     go_wp2_with fail
     go_region
     go_wp2_with fail
     rw [swap_world encU (i := a) (j := a) (x := .int .u32 (G (a))) (y := .int .u32 (G a)) (by omega) (by omega) HO.out.1 (by rw [HG.out]) (by rw [HG.out])]
     refine (siftDown_u blk off d.size cap (swp dj a (a)) (by rw [size_swp]; exact hdj) 0 0 a _ (holds_putRow encU _ blk off d _ (holds_ahead encU w (n2 + 1) blk off d HH.out) (by rw [size_swp]; exact hdj)) (Nat.zero_le _) (by rw [size_swp]; omega) (by rw [size_swp]; omega)).mono ?_
     rintro e w1 ⟨rfl, m, hw1⟩
     have HW1 := Lib.hid hw1
     clear hw1
     go_wp2
     go_roundg 0
     case measure => omega
     case rel =>
      refine ⟨by simp, by omega, siftDown ltInt 0 a 0 (swp dj a (a)), n2 + 1 + m, by rw [size_siftDown ltInt _ _ _ _ _ (Nat.le_refl _), size_swp]; exact hdj, Lib.hid ⟨?_, HO.out.2⟩⟩
      rw [HW1.out, putRow_ahead_putRow encU w (n2 + 1) m blk off _ _ (size_siftDown ltInt _ _ _ _ _ (Nat.le_refl _))]
    ·have hkz : 0 < (k : Int) := by omega
     go_wp2_with fail
     go_region
     go_wp2_with fail
     rw [swap_world encU (i := a) (j := a + k) (x := .int .u32 (G (a + k))) (y := .int .u32 (G a)) (by omega) (by omega) HO.out.1 (by rw [HG.out]) (by rw [HG.out])]
     refine (siftDown_u blk off d.size cap (swp dj a (a + k)) (by rw [size_swp]; exact hdj) 0 k a _ (holds_putRow encU _ blk off d _ (holds_ahead encU w (n2 + 1) blk off d HH.out) (by rw [size_swp]; exact hdj)) (Nat.zero_le _) (by rw [size_swp]; omega) (by rw [size_swp]; omega)).mono ?_
     rintro e w1 ⟨rfl, m, hw1⟩
     have HW1 := Lib.hid hw1
     clear hw1
     go_wp2
     go_roundg k
     case measure => omega
     case rel =>
      refine ⟨by simp, by omega, siftDown ltInt k a 0 (swp dj a (a + k)), n2 + 1 + m, by rw [size_siftDown ltInt _ _ _ _ _ (Nat.le_refl _), size_swp]; exact hdj, Lib.hid ⟨?_, HO.out.2⟩⟩
      rw [HW1.out, putRow_ahead_putRow encU w (n2 + 1) m blk off _ _ (size_siftDown ltInt _ _ _ _ _ (Nat.le_refl _))]
end Go.Proofs.YtppchdinolndmaaGreat
