/- Joined texts: Usg, Ush. -/
import Derived.Test.YtppchdinolndmaaGreatMUsa
import Derived.Test.YtppchdinolndmaaGreatMUsf
import Derived.Sort.AssemblyPlain
import Derived.Sort.LotD3
namespace Go.Proofs.YtppchdinolndmaaGreat
open Go.RowKit Go.Sort
set_option linter.unusedVariables false
set_option linter.unusedSimpArgs false
def GW (w : World) (n blk off : Nat) (d : Array Int) (os : Array Obj) : World := grow (putRow encU (Sort.ahead w n) blk off d) os
def St (w : World) (blk off : Nat) (d0 : Array Int) (wx : World) (d : Array Int) : Prop := d.size = d0.size ∧ ∃ n os, wx = GW w n blk off d os
section
variable {w wx : World} {blk off len cap : Nat} {d0 d : Array Int}
theorem gw_holds (hH : Holds encU w blk off d0) (hblk : blk < w.heap.size) (h : St w blk off d0 wx d) : Holds encU wx blk off d ∧ blk < wx.heap.size := by
 obtain ⟨hs, n, os, rfl⟩ := h
 have hz : (putRow encU (Sort.ahead w n) blk off d).heap.size = w.heap.size := by simp
 refine ⟨holds_grow _ _ _ _ _ _ (by rw [hz]; exact hblk) (holds_putRow encU _ blk off d0 d (holds_ahead encU w n blk off d0 hH) hs), ?_⟩
 unfold GW
 rw [size_grow, hz]
 omega
theorem st_put {w' : World} {d' : Array Int} (hblk : blk < w.heap.size) (h : St w blk off d0 wx d) (hs : d'.size = d.size) {m : Nat} (e : w' = putRow encU (Sort.ahead wx m) blk off d') : St w blk off d0 w' d' := by
 obtain ⟨hs0, n, os, rfl⟩ := h
 exact ⟨hs.trans hs0, n + m, os, by rw [e]; exact grow_step _ _ _ _ _ _ _ _ _ hblk hs⟩
theorem st_grow {w' : World} {d' : Array Int} (hblk : blk < w.heap.size) (h : St w blk off d0 wx d) (hs : d'.size = d.size) {m : Nat} {os' : Array Obj} (e : w' = grow (putRow encU (Sort.ahead wx m) blk off d') os') : St w blk off d0 w' d' := by
 obtain ⟨hs0, n, os, rfl⟩ := h
 exact ⟨hs.trans hs0, n + m, os ++ os', by rw [e]; exact grow_step_grow _ _ _ _ _ _ _ _ _ _ hblk hs⟩
theorem st_ahead {w' : World} (h : St w blk off d0 wx d) {m : Nat} {os' : Array Obj} (e : w' = grow (Sort.ahead wx m) os') : St w blk off d0 w' d := by
 obtain ⟨hs0, n, os, rfl⟩ := h
 refine ⟨hs0, n + m, os ++ os', ?_⟩
 rw [e]
 unfold GW
 rw [ahead_grow, grow_grow, ← putRow_ahead, ahead_ahead]
theorem st_drewN (h : St w blk off d0 wx d) (q : Nat) : St w blk off d0 (wx.drewN q) d := st_ahead (os' := #[]) (m := q) h (by rw [grow_empty]; rfl)
variable (hH : Holds encU w blk off d0) (hblk : blk < w.heap.size) (hlen : d0.size = len) (hz : d0.size < 4611686018427387904)
include hH hblk hlen hz
theorem c_ins (h : St w blk off d0 wx d) {a b : Nat} (hab : a ≤ b) (hb : b ≤ len) :
  Calls Tryz.prog 133 #[.slice (some ⟨blk, off, none⟩) len cap, .int .i64 a, .int .i64 b] wx fun e w' => e = .returned (.tuple #[]) ∧ ∃ d', (PermIn a b d d' ∧ SortedIn ltInt a b d') ∧ St w blk off d0 w' d' := by
 obtain ⟨h1, h2⟩ := gw_holds hH hblk h
 have hs := h.1
 subst hlen
 rw [← hs] at hb hz ⊢
 refine (insertion_u blk off cap a b d wx h1 hab hb hz).mono ?_
 rintro e w' ⟨rfl, m, e⟩
 have hp := insertionSort_holds swo_ltInt d a b hab hb
 exact ⟨rfl, _, hp, st_put hblk h hp.1.1 e⟩
theorem c_heap (h : St w blk off d0 wx d) {a b : Nat} (hab : a ≤ b) (hb : b ≤ len) :
  Calls Tryz.prog 134 #[.slice (some ⟨blk, off, none⟩) len cap, .int .i64 a, .int .i64 b] wx fun e w' => e = .returned (.tuple #[]) ∧ ∃ d', (PermIn a b d d' ∧ SortedIn ltInt a b d') ∧ St w blk off d0 w' d' := by
 obtain ⟨h1, h2⟩ := gw_holds hH hblk h
 have hs := h.1
 refine (heapSort_u blk off len cap d (hs.trans hlen) a b wx h1 hab (by omega) (by omega)).mono ?_
 rintro e w' ⟨rfl, m, e⟩
 have hp := heapSort_holds swo_ltInt d a b hab (by omega)
 exact ⟨rfl, _, hp, st_put hblk h hp.1.1 e⟩
theorem c_rev (h : St w blk off d0 wx d) {a b : Nat} (hab : a < b) (hb : b ≤ len) :
  Calls Tryz.prog 137 #[.slice (some ⟨blk, off, none⟩) len cap, .int .i64 a, .int .i64 b] wx fun e w' => e = .returned (.tuple #[]) ∧ ∃ d', PermIn a b d d' ∧ St w blk off d0 w' d' := by
 obtain ⟨h1, h2⟩ := gw_holds hH hblk h
 have hs := h.1
 subst hlen
 rw [← hs] at hb hz ⊢
 refine (reverse_u blk off cap d a b wx h1 hab hb hz).mono ?_
 rintro e w' ⟨rfl, m, e⟩
 have hp := reverseRange_holds d a b (by omega) hb
 exact ⟨rfl, _, hp, st_put hblk h hp.1 e⟩
theorem c_par (h : St w blk off d0 wx d) {a b : Nat} (hab : a < b) (hb : b ≤ len) (hB : Go.Sort.Below ltInt a b d) :
  Calls Tryz.prog 138 #[.slice (some ⟨blk, off, none⟩) len cap, .int .i64 a, .int .i64 b] wx fun e w' => ∃ r : Bool, e = .returned (.bool r) ∧ ∃ d', (PermIn a b d d' ∧ (r = true → SortedIn ltInt a b d')) ∧ St w blk off d0 w' d' := by
 obtain ⟨h1, h2⟩ := gw_holds hH hblk h
 have hs := h.1
 refine (partialIns_u blk off len cap a b d (hs.trans hlen) wx h1 hab (by omega) (by omega)).mono ?_
 rintro e w' ⟨rfl, m, e⟩
 have hp := partialInsertionSort_holds swo_ltInt d a b hab (by omega) hB
 exact ⟨_, rfl, _, hp, st_put hblk h hp.1.1 e⟩
theorem c_brk (h : St w blk off d0 wx d) {a b : Nat} (hab : a + 8 ≤ b) (hb : b ≤ len) :
  Calls Tryz.prog 135 #[.slice (some ⟨blk, off, none⟩) len cap, .int .i64 a, .int .i64 b] wx fun e w' => e = .returned (.tuple #[]) ∧ ∃ d', PermIn a b d d' ∧ St w blk off d0 w' d' := by
 obtain ⟨h1, h2⟩ := gw_holds hH hblk h
 have hs := h.1
 obtain ⟨L, rfl⟩ : ∃ L, b = a + L := ⟨b - a, by omega⟩
 refine (breakPatterns_u d len (hs.trans hlen) blk off cap a L wx h1 h2 (by omega) (by omega) (by omega)).mono ?_
 rintro e w' ⟨rfl, m, os, d', hp, e⟩
 exact ⟨rfl, d', hp, st_grow hblk h hp.1 e⟩
theorem c_piv (h : St w blk off d0 wx d) {a b : Nat} (hab : a + 8 ≤ b) (hb : b ≤ len) :
  Calls Tryz.prog 136 #[.slice (some ⟨blk, off, none⟩) len cap, .int .i64 a, .int .i64 b] wx fun e w' => ∃ (p : Nat) (x : Int), e = .returned (.tuple #[.int .i64 p, .int .i64 x]) ∧ (a ≤ p ∧ p < b) ∧ St w blk off d0 w' d := by
 obtain ⟨h1, h2⟩ := gw_holds hH hblk h
 have hs := h.1
 obtain ⟨L, rfl⟩ : ∃ L, b = a + L := ⟨b - a, by omega⟩
 refine (choosePivot_u d len (hs.trans hlen) blk off cap a L wx h1 h2 (by omega) (by omega) (by omega)).mono ?_
 rintro e w' ⟨p, x, rfl, hp, m, os, e⟩
 exact ⟨p, x, rfl, hp, st_ahead h e⟩
theorem c_peq (h : St w blk off d0 wx d) {a b pivot : Nat} (ha : 0 < a) (hp1 : a ≤ pivot) (hp2 : pivot < b) (hb : b ≤ len) (hB : Go.Sort.Below ltInt a b d) (hnl : ltInt d[a - 1]! d[pivot]! = false) :
  Calls Tryz.prog 140 #[.slice (some ⟨blk, off, none⟩) len cap, .int .i64 a, .int .i64 b, .int .i64 pivot] wx fun e w' => ∃ (mid : Nat) (d4 : Array Int), e = .returned (.int .i64 mid) ∧
   (a < mid ∧ mid ≤ b ∧ Go.Sort.Below ltInt mid b d4 ∧ ∀ R, PermIn mid b d4 R → SortedIn ltInt mid b R → PermIn a b d R ∧ SortedIn ltInt a b R) ∧ St w blk off d0 w' d4 := by
 obtain ⟨h1, h2⟩ := gw_holds hH hblk h
 have hs := h.1
 refine (partitionEqual_u blk off len cap a b pivot d (hs.trans hlen) wx h1 hp1 hp2 (by omega) (by omega)).mono ?_
 rintro e w' ⟨rfl, m, e⟩
 obtain ⟨r1, r2, r3, r4, r5⟩ := round_eq swo_ltInt (partitionEqual_holds _) ha hp1 hp2 (by omega) hB hnl (show Sort.partitionEqual ltInt d a b pivot = ((Sort.partitionEqual ltInt d a b pivot).1, (Sort.partitionEqual ltInt d a b pivot).2) from rfl)
 exact ⟨_, _, rfl, ⟨r1, r2, r4, r5⟩, st_put hblk h r3 e⟩
theorem c_prt (h : St w blk off d0 wx d) {a b pivot : Nat} (hp1 : a ≤ pivot) (hp2 : pivot < b) (hb : b ≤ len) (hB : Go.Sort.Below ltInt a b d) :
  Calls Tryz.prog 141 #[.slice (some ⟨blk, off, none⟩) len cap, .int .i64 a, .int .i64 b, .int .i64 pivot] wx fun e w' => ∃ (mid : Nat) (ap : Bool) (d4 : Array Int), e = .returned (.tuple #[.int .i64 mid, .bool ap]) ∧
   ((a ≤ mid ∧ mid < b) ∧ Go.Sort.Below ltInt a mid d4 ∧ Go.Sort.Below ltInt (mid + 1) b d4 ∧
   (∀ L, PermIn a mid d4 L → SortedIn ltInt a mid L → Go.Sort.Below ltInt (mid + 1) b L ∧ ∀ R, PermIn (mid + 1) b L R → SortedIn ltInt (mid + 1) b R → PermIn a b d R ∧ SortedIn ltInt a b R) ∧
   (∀ L, PermIn (mid + 1) b d4 L → SortedIn ltInt (mid + 1) b L → Go.Sort.Below ltInt a mid L ∧ ∀ R, PermIn a mid L R → SortedIn ltInt a mid R → PermIn a b d R ∧ SortedIn ltInt a b R)) ∧ St w blk off d0 w' d4 := by
 obtain ⟨h1, h2⟩ := gw_holds hH hblk h
 have hs := h.1
 refine (partition_u blk off len cap a b pivot d (hs.trans hlen) wx h1 hp1 hp2 (by omega) (by omega)).mono ?_
 rintro e w' ⟨rfl, m, e⟩
 obtain ⟨r1, r2, r3, r4, r5, r6, r7⟩ := round_part swo_ltInt (partition_holds _) hp1 hp2 (by omega) hB (show Sort.partition ltInt d a b pivot = ((Sort.partition ltInt d a b pivot).1, (Sort.partition ltInt d a b pivot).2.1, (Sort.partition ltInt d a b pivot).2.2) from rfl)
 exact ⟨_, _, _, rfl, ⟨⟨r1, r2⟩, r4, r5, r6, r7⟩, st_put hblk h r3 e⟩
end
def PdqT (w : World) (blk off len cap : Nat) (d0 : Array Int) (N : Nat) : Prop := ∀ (A B limit : Nat) (D : Array Int) (wx : World), B - A < N → St w blk off d0 wx D → A ≤ B → B ≤ len → limit < 4611686018427387904 → Go.Sort.Below ltInt A B D →
  Calls Tryz.prog 129 #[.slice (some ⟨blk, off, none⟩) len cap, .int .i64 A, .int .i64 B, .int .i64 limit] wx fun e w' => e = .returned (.tuple #[]) ∧ ∃ d', (PermIn A B D d' ∧ SortedIn ltInt A B d') ∧ St w blk off d0 w' d'
set_option maxHeartbeats 12800000 in
set_option maxRecDepth 100000 in
theorem pdq_step (w : World) (blk off len cap : Nat) (d0 : Array Int) (hH : Holds encU w blk off d0) (hblk : blk < w.heap.size) (hlen : d0.size = len) (hz : d0.size < 4611686018427387904) (N : Nat) (HI : PdqT w blk off len cap d0 N) (A B limit : Nat) (D : Array Int) (wx : World) (hN : B - A < N + 1) (hst : St w blk off d0 wx D) (hAB : A ≤ B) (hBl : B ≤ len) (hlim : limit < 4611686018427387904) (hBel : Go.Sort.Below ltInt A B D) :
  Calls Tryz.prog 129 #[.slice (some ⟨blk, off, none⟩) len cap, .int .i64 A, .int .i64 B, .int .i64 limit] wx fun e w' => e = .returned (.tuple #[]) ∧ ∃ d', (PermIn A B D d' ∧ SortedIn ltInt A B d') ∧ St w blk off d0 w' d' := by
 have HH := Lib.hid hH
 have HLEN := Lib.hid hlen
 have HST : Hid (St w blk off d0 wx D ∧ Go.Sort.Below ltInt A B D) := Lib.hid ⟨hst, hBel⟩
 have hzl : len < 4611686018427387904 := by omega
 have HZ := Lib.hid hz
 clear hH hst hBel hlen hz
 go_enter Tryz.func129, Tryz.ntmps129
 go_wp2_with fail
 go_loopg [1, 2, 3, 8, 9] (B - A) (fun kq s1 s2 s3 s8 s9 wy => ∃ (a b lim : Nat) (wb wp : Bool) (d : Array Int), s1 = .int .i64 a ∧ s2 = .int .i64 b ∧ s3 = .int .i64 lim ∧ s8 = .bool wb ∧ s9 = .bool wp ∧ (A ≤ a ∧ a ≤ b ∧ b ≤ B) ∧ kq = b - a ∧ lim < 4611686018427387904 ∧
  Hid (St w blk off d0 wy d ∧ Go.Sort.Below ltInt a b d ∧ ∀ R, PermIn a b d R → SortedIn ltInt a b R → PermIn A B D R ∧ SortedIn ltInt A B R))
 case atStart => exact ⟨A, B, limit, true, true, D, rfl, rfl, rfl, rfl, rfl, ⟨Nat.le_refl _, hAB, Nat.le_refl _⟩, rfl, hlim, Lib.hid ⟨HST.out.1, HST.out.2, fun R h1 h2 => ⟨h1, h2⟩⟩⟩
 case round =>
  obtain ⟨a, b, lim, wb, wp, d, rfl, rfl, rfl, rfl, rfl, ⟨hAa, hab, hbB⟩, hgk, hlm, HO⟩ := hrel
  have HGK := Lib.hid hgk
  clear hgk
  have hbl : b ≤ len := by omega
  by_cases h12 : b - a ≤ 12
  ·have h12z : (b : Int) - (a : Int) ≤ 12 := by omega
   have HC := Lib.hid (c_ins (cap := cap) HH.out hblk HLEN.out HZ.out HO.out.1 hab hbl)
   go_wp2_with (go_at_call 133; refine HC.out.mono ?_; rintro e w1 ⟨rfl, d', hp, hs⟩; have HP := Lib.hid hp; have HS := Lib.hid hs; clear hp hs)
   exact bodyPost_ret (v := .tuple #[]) (by simp [results, Tryz.results129, go_sem]) rfl ⟨rfl, d', HO.out.2.2 d' HP.out.1 HP.out.2, HS.out⟩
  ·have h12z : ¬ (b : Int) - (a : Int) ≤ 12 := by omega
   by_cases hl0 : lim = 0
   ·have hl1 : ((lim : Int) == 0) = true := by rw [hl0]; rfl
    have HC := Lib.hid (c_heap (cap := cap) HH.out hblk HLEN.out HZ.out HO.out.1 hab hbl)
    clear hl0
    go_wp2_with (go_at_call 134; refine HC.out.mono ?_; rintro e w1 ⟨rfl, d', hp, hs⟩; have HP := Lib.hid hp; have HS := Lib.hid hs; clear hp hs)
    exact bodyPost_ret (v := .tuple #[]) (by simp [results, Tryz.results129, go_sem]) rfl ⟨rfl, d', HO.out.2.2 d' HP.out.1 HP.out.2, HS.out⟩
   ·have hl1 : ((lim : Int) == 0) = false := by rw [beq_eq_false_iff_ne]; omega
    go_upto_if 35 with fail
    go_cut [3] (fun s3 wy => ∃ (lm : Nat) (d1 : Array Int), s3 = .int .i64 lm ∧ lm < 4611686018427387904 ∧ Hid (PermIn a b d d1 ∧ St w blk off d0 wy d1))
    case first =>
     cases wb with
     | true =>
      go_wp2_with fail
      go_meet
      exact ⟨lim, d, rfl, hlm, Lib.hid ⟨permIn_refl _ _ _, HO.out.1⟩⟩
     | false =>
      have HC := Lib.hid (c_brk (cap := cap) HH.out hblk HLEN.out HZ.out HO.out.1 (a := a) (b := b) (by omega) hbl)
      go_wp2_with (go_at_call 135; refine HC.out.mono ?_; rintro e w1 ⟨rfl, d', hp, hs⟩; have HP := Lib.hid hp; have HS := Lib.hid hs; clear hp hs)
      go_meet
      exact ⟨lim - 1, d', by congr 1; omega, by omega, Lib.hid ⟨HP.out, HS.out⟩⟩
    case rest =>
     obtain ⟨lm, d1, rfl, hlm1, H1⟩ := hcut
     have HC := Lib.hid (c_piv (cap := cap) HH.out hblk HLEN.out HZ.out H1.out.2 (a := a) (b := b) (by omega) hbl)
     go_upto_if 50 with (go_at_call 136; refine HC.out.mono ?_; rintro e w1 ⟨p0, x0, rfl, hp, hs⟩; have HP := Lib.hid hp; have HS := Lib.hid hs; clear hp hs)
     have hp0 : a ≤ p0 ∧ p0 < b := HP.out
     go_cut [11, 12] (fun s11 s12 wy => ∃ (p : Nat) (x : Int) (d2 : Array Int), s11 = .int .i64 p ∧ s12 = .int .i64 x ∧ (a ≤ p ∧ p < b) ∧ Hid (PermIn a b d1 d2 ∧ St w blk off d0 wy d2))
     case first =>
      by_cases hx : x0 = 2
      ·have hx1 : (x0 == 2) = true := by rw [hx]; rfl
       have HC2 := Lib.hid (c_rev (cap := cap) HH.out hblk HLEN.out HZ.out HS.out (a := a) (b := b) (by omega) hbl)
       clear hx
       go_wp2_with (go_at_call 137; refine HC2.out.mono ?_; rintro e w1 ⟨rfl, d', hp, hs⟩; have HP2 := Lib.hid hp; have HS2 := Lib.hid hs; clear hp hs)
       go_meet
       exact ⟨b - 1 - (p0 - a), 1, d', by congr 1; omega, rfl, by omega, Lib.hid ⟨HP2.out, HS2.out⟩⟩
      ·have hx1 : (x0 == 2) = false := by rw [beq_eq_false_iff_ne]; exact hx
       clear hx
       go_wp2_with fail
       go_meet
       exact ⟨p0, x0, d1, rfl, rfl, by omega, Lib.hid ⟨permIn_refl _ _ _, HS.out⟩⟩
     case rest =>
      obtain ⟨p, x, d2, rfl, rfl, ⟨hp1, hp2⟩, H2⟩ := hcut
      have HB2 : Hid (Go.Sort.Below ltInt a b d2) := Lib.hid ((HO.out.2.1.perm (by rw [HO.out.1.1, HLEN.out]; exact hbl) H1.out.1).perm (by rw [H1.out.2.1, HLEN.out]; exact hbl) H2.out.1)
      go_upto_region 15 with fail
      go_cut [68] (fun s68 wy => wy = wc ∧ ∃ bb : Bool, s68 = .bool bb)
      case first =>
       cases wb
       ·go_wp2_with fail
        go_meet
        exact ⟨rfl, _, rfl⟩
       ·cases wp
        ·go_wp2_with fail
         go_meet
         exact ⟨rfl, _, rfl⟩
        ·go_wp2_with fail
         go_meet
         exact ⟨rfl, _, rfl⟩
      case rest =>
       obtain ⟨rfl, bb, rfl⟩ := hcut
       go_upto_if 68 with fail
       go_cut [] (fun wy => ∃ d3 : Array Int, Hid (PermIn a b d2 d3 ∧ St w blk off d0 wy d3))
       case first =>
        cases bb with
        | false =>
         go_wp2_with fail
         go_meet
         exact ⟨d2, Lib.hid ⟨permIn_refl _ _ _, H2.out.2⟩⟩
        | true =>
         have HC3 := Lib.hid (c_par (cap := cap) HH.out hblk HLEN.out HZ.out H2.out.2 (a := a) (b := b) (by omega) hbl HB2.out)
         go_wp2_with fail
         refine HC3.out.mono ?_
         rintro e w1 ⟨r, rfl, d', hp, hs⟩
         have HP3 := Lib.hid hp
         have HS3 := Lib.hid hs
         clear hp hs
         cases r with
         | true =>
          go_wp2_with fail
          refine bodyPost_ret (v := .tuple #[]) (by simp [results, Tryz.results129, go_sem]) rfl ⟨rfl, d', HO.out.2.2 d' ?_ (HP3.out.2 (by trivial)), HS3.out⟩
          exact permIn_trans _ _ _ _ _ (permIn_trans _ _ _ _ _ H1.out.1 H2.out.1) HP3.out.1
         | false =>
          go_wp2_with fail
          go_meet
          exact ⟨d', Lib.hid ⟨HP3.out.1, HS3.out⟩⟩
       case rest =>
        obtain ⟨d3, H3⟩ := hcut
        have HB3 : Hid (Go.Sort.Below ltInt a b d3) := Lib.hid (HB2.out.perm (by rw [H2.out.2.1, HLEN.out]; exact hbl) H3.out.1)
        have HPD : Hid (PermIn a b d d3) := Lib.hid (permIn_trans _ _ _ _ _ (permIn_trans _ _ _ _ _ H1.out.1 H2.out.1) H3.out.1)
        go_upto_region 17 with fail
        go_cut [87] (fun s87 wy => ∃ bb : Bool, s87 = .bool bb ∧ Hid ((bb = true → 0 < a ∧ ltInt d3[a - 1]! d3[p]! = false) ∧ St w blk off d0 wy d3))
        case first =>
         by_cases ha : 0 < a
         ·have ha1 : (0 : Int) < (a : Int) := by omega
          have hh := (gw_holds HH.out hblk H3.out.2).1
          have c1 := (hh (a - 1) (by rw [H3.out.2.1, HLEN.out]; omega)).1
          have c2 := (hh p (by rw [H3.out.2.1, HLEN.out]; omega)).1
          obtain ⟨y1, hy1⟩ : ∃ y, d3[a - 1]! = y := ⟨_, rfl⟩
          obtain ⟨y2, hy2⟩ : ∃ y, d3[p]! = y := ⟨_, rfl⟩
          rw [hy1] at c1
          rw [hy2] at c2
          have HY1 := Lib.hid hy1
          have HY2 := Lib.hid hy2
          clear hh hy1 hy2
          have hpl : p < len := by omega
          go_quiet (first | (go_at_call 139; refine Calls.quiet_of_same (less_u _ _ _)))
          go_wp2_with fail
          go_meet
          refine ⟨_, rfl, Lib.hid ⟨fun h => ⟨ha, ?_⟩, st_drewN H3.out.2 _⟩⟩
          rw [HY1.out, HY2.out]
          simpa using h
         ·have ha1 : decide ((0 : Int) < (a : Int)) = false := decide_eq_false (by omega)
          go_quiet (first | (go_at_call 139; refine Calls.quiet_of_same (less_u _ _ _)))
          go_wp2_with fail
          go_meet
          exact ⟨false, rfl, Lib.hid ⟨fun h => (by cases h), st_drewN H3.out.2 _⟩⟩
        case rest =>
         obtain ⟨bb, rfl, H4⟩ := hcut
         cases bb with
         | true =>
          obtain ⟨ha, hnl⟩ := H4.out.1 (by trivial)
          have HC5 := Lib.hid (c_peq (cap := cap) HH.out hblk HLEN.out HZ.out H4.out.2 ha hp1 hp2 hbl HB3.out hnl)
          clear hnl
          go_wp2_with fail
          refine HC5.out.mono ?_
          rintro e w1 ⟨mid, d4, rfl, ⟨hm1, hm2, hbb, hR⟩, hs⟩
          have H5 : Hid (Go.Sort.Below ltInt mid b d4 ∧ (∀ R, PermIn mid b d4 R → SortedIn ltInt mid b R → PermIn a b d3 R ∧ SortedIn ltInt a b R) ∧ St w blk off d0 w1 d4) := Lib.hid ⟨hbb, hR, hs⟩
          clear hbb hR hs
          go_wp2_with fail
          go_roundg (b - mid)
          case measure => have := HGK.out; omega
          case rel => exact ⟨mid, b, lm, wb, wp, d4, rfl, rfl, rfl, rfl, rfl, by omega, rfl, hlm1, Lib.hid ⟨H5.out.2.2, H5.out.1, fun R h1 h2 => by
           obtain ⟨q1, q2⟩ := H5.out.2.1 R h1 h2
           exact HO.out.2.2 R (permIn_trans _ _ _ _ _ HPD.out q1) q2⟩⟩
         | false =>
          have HC5 := Lib.hid (c_prt (cap := cap) HH.out hblk HLEN.out HZ.out H4.out.2 hp1 hp2 hbl HB3.out)
          go_wp2_with fail
          refine HC5.out.mono ?_
          rintro e w1 ⟨mid, ap, d4, rfl, ⟨⟨hm1, hm2⟩, hb1, hb2, hRL, hRR⟩, hs⟩
          have H5 := Lib.hid (And.intro hb1 (And.intro hb2 (And.intro hRL (And.intro hRR hs))))
          clear hb1 hb2 hRL hRR hs
          by_cases hlt : mid - a < b - mid
          ·have hlt1 : (mid : Int) - (a : Int) < (b : Int) - (mid : Int) := by omega
           have HC6 := Lib.hid (HI a mid lm d4 w1 (by omega) H5.out.2.2.2.2 hm1 (by omega) hlm1 H5.out.1)
           go_wp2_with fail
           refine HC6.out.mono ?_
           rintro e w2 ⟨rfl, d5, hp, hs⟩
           have H6 := Lib.hid (And.intro hp hs)
           clear hp hs
           go_wp2_with fail
           go_roundg (b - (mid + 1))
           case measure => have := HGK.out; omega
           case rel =>
            obtain ⟨r1, r2⟩ := H5.out.2.2.1 d5 H6.out.1.1 H6.out.1.2
            exact ⟨mid + 1, b, lm, _, ap, d5, by go_num, rfl, rfl, rfl, rfl, by omega, rfl, hlm1, Lib.hid ⟨H6.out.2, r1, fun R h1 h2 => by
             obtain ⟨q1, q2⟩ := r2 R h1 h2
             exact HO.out.2.2 R (permIn_trans _ _ _ _ _ HPD.out q1) q2⟩⟩
          ·have hlt1 : ¬ (mid : Int) - (a : Int) < (b : Int) - (mid : Int) := by omega
           have HC6 := Lib.hid (HI (mid + 1) b lm d4 w1 (by omega) H5.out.2.2.2.2 (by omega) hbl hlm1 H5.out.2.1)
           go_wp2_with fail
           refine HC6.out.mono ?_
           rintro e w2 ⟨rfl, d5, hp, hs⟩
           have H6 := Lib.hid (And.intro hp hs)
           clear hp hs
           go_wp2_with fail
           go_roundg (mid - a)
           case measure => have := HGK.out; omega
           case rel =>
            obtain ⟨r1, r2⟩ := H5.out.2.2.2.1 d5 H6.out.1.1 H6.out.1.2
            exact ⟨a, mid, lm, _, ap, d5, rfl, rfl, rfl, rfl, rfl, by omega, rfl, hlm1, Lib.hid ⟨H6.out.2, r1, fun R h1 h2 => by
             obtain ⟨q1, q2⟩ := r2 R h1 h2
             exact HO.out.2.2 R (permIn_trans _ _ _ _ _ HPD.out q1) q2⟩⟩
theorem pdq_u (w : World) (blk off len cap : Nat) (d0 : Array Int) (hH : Holds encU w blk off d0) (hblk : blk < w.heap.size) (hlen : d0.size = len) (hz : d0.size < 4611686018427387904) : ∀ N, PdqT w blk off len cap d0 N := by
 intro N
 induction N with
 | zero => exact fun _ _ _ _ _ h => absurd h (Nat.not_lt_zero _)
 | succ N ih => exact fun A B limit D wx => pdq_step w blk off len cap d0 hH hblk hlen hz N ih A B limit D wx
end Go.Proofs.YtppchdinolndmaaGreat
