/- Joined texts: Usi. -/
import Derived.Test.YtppchdinolndmaaGreatMUsg
import Derived.Test.YtppchdinolndmaaGreatMUstp
import Derived.Lib.SlicesCompact
import Derived.Lib.SliceRun
/- slices.Sort and slices.Compact at uint32, over a row of the caller's own. -/
namespace Go.Proofs.YtppchdinolndmaaGreat
open Go.RowKit Go.Sort Go.Proofs.YtppchdinolndmaaGreatW.PrintWords
set_option linter.unusedVariables false
set_option linter.unusedSimpArgs false
theorem sort_u (w : World) (blk off cap : Nat) (d : Array Int) (hH : Holds encU w blk off d) (hblk : blk < w.heap.size) (hz : d.size < 4611686018427387904) :
  Calls Tryz.prog 125 #[.slice (some ⟨blk, off, none⟩) d.size cap] w fun e w' => e = .returned (.tuple #[]) ∧ ∃ d', (PermIn 0 d.size d d' ∧ SortedIn ltInt 0 d.size d') ∧ St w blk off d w' d' := by
 have hLen : ∀ w, Calls Tryz.prog 130 #[.int .u64 (d.size : Int)] w fun e w' => e = .returned (.int .i64 (bitsLen d.size : Nat)) ∧ w' = w := fun w => by
  have h := Tryz.bits_Len (d.size : Int) w (by omega) (by omega)
  rwa [Int.toNat_natCast, bitLen_eq _ (by omega)] at h
 have hk : bitsLen d.size ≤ 62 := (bitsLen_le_iff d.size 62).2 (by omega)
 have HP := Lib.hid (pdq_u w blk off d.size cap d hH hblk rfl hz (d.size + 1) 0 d.size (bitsLen d.size) d w (by omega) ⟨rfl, 0, #[], by unfold GW; rw [grow_empty]; exact (putRow_self _ _ _ _ _ hH).symm⟩ (Nat.zero_le _) (Nat.le_refl _) (by omega) (Or.inl rfl))
 clear hH
 go_enter Tryz.func125, Tryz.ntmps125
 go_wp2_with (first
  | (go_at_call 130; refine (hLen _).mono ?_; rintro e w' ⟨rfl, rfl⟩)
  | (go_at_call 129; refine HP.out.mono ?_; rintro e w' ⟨rfl, d', hp, hs⟩; have H1 := Lib.hid (And.intro hp hs); clear hp hs))
 exact bodyPost_end (v := .tuple #[]) (by simp [results, Tryz.results125, go_sem]) rfl ⟨rfl, d', H1.out.1, H1.out.2⟩
theorem zero_u32 (w : World) : (zeroValue 47).run Tryz.prog w = .ok (.int .u32 0) w := by kernel_rfl
theorem store_world {w wr : World} {n blk off : Nat} {dk : Array Int} {i : Nat} (hi : i < dk.size) (hwr : wr = putRow encU (Sort.ahead w n) blk off dk) (x : Int) :
  (wr.setCell ⟨blk, off + i, none⟩ (.int .u32 x)) = putRow encU (Sort.ahead w n) blk off (dk.setIfInBounds i x) := by
 subst hwr
 exact putRow_set encU _ blk off dk i x hi
def CompR (d : Array Int) (w : World) (blk off cap : Nat) (e : Ending) (w' : World) : Prop :=
 ∃ (k : Nat) (d' : Array Int), e = .returned (.slice (some ⟨blk, off, none⟩) k cap) ∧ k = (Lib.compactUpTo d d.size).length ∧ (∀ j, j < k → (Lib.compactUpTo d d.size)[j]? = some d'[j]!) ∧ d'.size = d.size ∧ ∃ q, w' = putRow encU (Sort.ahead w q) blk off d'
theorem compR_same {d : Array Int} {w w' : World} {blk off cap q : Nat} (hH : Holds encU w blk off d) (hall : ∀ j, j < d.size → Lib.keeps d j = true) (hw : w' = w.drewN q) : CompR d w blk off cap (.returned (.slice (some ⟨blk, off, none⟩) d.size cap)) w' := by
 have e : Lib.compactUpTo d d.size = d.toList := by rw [Lib.compactUpTo_all d _ hall, Lib.range_map_get]
 refine ⟨d.size, d, rfl, by rw [e]; simp, fun j hj => by rw [e]; simp [hj], rfl, q, ?_⟩
 rw [hw]
 exact (putRow_self encU (Sort.ahead w q) blk off d (holds_ahead encU w q blk off d hH)).symm
theorem compR_end {d dk : Array Int} {w wr : World} {blk off cap m kk : Nat} (hI : Lib.CompInv d d.size kk dk) (hw : wr = putRow encU (Sort.ahead w m) blk off dk) :
  CompR d w blk off cap (.returned (.slice (some ⟨blk, off, none⟩) kk cap)) (wr.setCells blk (off + kk) (List.replicate (d.size - kk) (.int .u32 0))) := by
 have hlt := hI.lt
 have hs := hI.size
 refine ⟨kk, (Lib.compactUpTo d d.size ++ List.replicate (d.size - kk) 0).toArray, rfl, hI.len.symm, fun j hj => ?_, ?_, m, ?_⟩
 ·have hl : j < (Lib.compactUpTo d d.size).length := by rw [hI.len]; exact hj
  rw [getElem!_pos _ _ (by simp; omega), List.getElem?_eq_getElem hl]
  simp only [List.getElem_toArray]
  rw [List.getElem_append_left hl]
 ·simp [hI.len]; omega
 ·rw [hw, show List.replicate (d.size - kk) (Value.int .u32 0) = (List.replicate (d.size - kk) (0 : Int)).map encU from by simp, Lib.putRow_setCells encU _ blk off _ dk kk (by simp; omega), hI.done 0]
set_option maxHeartbeats 4000000 in
set_option maxRecDepth 1000000 in
theorem compact_u (w : World) (blk off cap : Nat) (d : Array Int) (hH : Holds encU w blk off d) (hz : d.size < 4611686018427387904) (hcap : d.size ≤ cap) :
  Calls Tryz.prog 126 #[.slice (some ⟨blk, off, none⟩) d.size cap] w (CompR d w blk off cap) := by
 have HH := Lib.hid hH
 clear hH
 by_cases h2 : d.size < 2
 ·go_enter Tryz.func126, Tryz.ntmps126
  go_wp2
  go_ret
  exact compR_same (q := 0) HH.out (fun j hj => Lib.keeps_lt_one d j (by omega)) rfl
 ·go_enter Tryz.func126, Tryz.ntmps126
  go_wp2
  go_loopg [3] (d.size - 1) (fun kq s3 wx => ∃ k q : Nat, (1 ≤ k ∧ k ≤ d.size) ∧ kq = d.size - k ∧ s3 = .int .i64 k ∧ Hid (wx = w.drewN q ∧ ∀ j, j < k → Lib.keeps d j = true))
  case atStart => exact ⟨1, 0, by omega, rfl, rfl, Lib.hid ⟨rfl, Lib.keeps_lt_one d⟩⟩
  case round =>
   obtain ⟨k, q, ⟨hk1, hk⟩, hgk, rfl, HO⟩ := hrel
   have HGK := Lib.hid hgk
   clear hgk
   by_cases hlt : k < d.size
   ·have c1 : wr.cell? ⟨blk, off + k, none⟩ = some (.int .u32 d[k]!) := by rw [HO.out.1]; exact (HH.out k hlt).1
    have c0 : wr.cell? ⟨blk, off + (k - 1), none⟩ = some (.int .u32 d[k - 1]!) := by rw [HO.out.1]; exact (HH.out (k - 1) (by omega)).1
    obtain ⟨x, hx⟩ : ∃ x, d[k]! = x := ⟨_, rfl⟩
    obtain ⟨y, hy⟩ : ∃ y, d[k - 1]! = y := ⟨_, rfl⟩
    rw [hx] at c1
    rw [hy] at c0
    have HXY := Lib.hid (And.intro hx hy)
    clear hx hy
    by_cases hdup : x = y
    ·subst hdup
     have hb : (x == x) = true := beq_self_eq_true x
     go_wp2_with fail
     go_quiet (fail)
     go_wp2_with fail
     have HW1 : Hid (wr.drewN nq = putRow encU (Sort.ahead w (q + nq)) blk off d) := Lib.hid (by rw [HO.out.1, World.drewN_drewN]; exact (putRow_self encU (Sort.ahead w (q + nq)) blk off d (holds_ahead encU w (q + nq) blk off d HH.out)).symm)
     clear c0 c1
     go_loopg [3, 5] (d.size - k) (fun kq s3 s5 wx => ∃ (kk k2 m : Nat) (dk : Array Int), s3 = .int .i64 kk ∧ s5 = .int .i64 k2 ∧ (1 ≤ k2 ∧ k + k2 ≤ d.size ∧ kk < k + k2) ∧ kq = d.size - k - k2 + 1 ∧ Hid (wx = putRow encU (Sort.ahead w m) blk off dk ∧ Lib.CompInv d (k + k2) kk dk))
     case atStart => exact ⟨k, 1, q + nq, d, rfl, rfl, by omega, by omega, Lib.hid ⟨HW1.out, Lib.CompInv.start HO.out.2 (Lib.keeps_neg (by omega) (by rw [HXY.out.1, HXY.out.2]))⟩⟩
     case round =>
      obtain ⟨kk, k2, m, dk, rfl, rfl, ⟨h1, hle, hkk⟩, hgk2, HI⟩ := hrel
      have HGK2 := Lib.hid hgk2
      clear hgk2
      have hds : dk.size = d.size := HI.out.2.size
      have hHk := Lib.hid (holds_putRow encU _ blk off d dk (holds_ahead encU w m blk off d HH.out) hds)
      by_cases hlt2 : k + k2 < d.size
      ·have cm : wr.cell? ⟨blk, off + k + k2, none⟩ = some (.int .u32 d[k + k2]!) := by rw [HI.out.1, Nat.add_assoc, (hHk.out (k + k2) (by omega)).1, HI.out.2.high (k + k2) (by omega)]
       have cp : wr.cell? ⟨blk, off + k + (k2 - 1), none⟩ = some (.int .u32 d[k + k2 - 1]!) := by rw [HI.out.1, show off + k + (k2 - 1) = off + (k + k2 - 1) by omega, (hHk.out (k + k2 - 1) (by omega)).1, HI.out.2.high (k + k2 - 1) (by omega)]
       have ck : wr.cell? ⟨blk, off + kk, none⟩ = some (.int .u32 dk[kk]!) := by rw [HI.out.1, (hHk.out kk (by omega)).1]
       have fk : wr.frozen? ⟨blk, off + kk, none⟩ = false := by rw [HI.out.1]; exact (hHk.out kk (by omega)).2
       obtain ⟨u, hu⟩ : ∃ x, d[k + k2]! = x := ⟨_, rfl⟩
       obtain ⟨v, hv⟩ : ∃ x, d[k + k2 - 1]! = x := ⟨_, rfl⟩
       obtain ⟨o, ho⟩ : ∃ x, dk[kk]! = x := ⟨_, rfl⟩
       rw [hu] at cm
       rw [hv] at cp
       rw [ho] at ck
       have HUV := Lib.hid (And.intro hu hv)
       clear hu hv ho
       by_cases huv : u = v
       ·subst huv
        have hne : (u != u) = false := by simp
        go_wp2_with fail
        go_quiet (fail)
        go_wp2_with fail
        go_roundg (gk - 1)
        case measure => have := HGK2.out; omega
        case rel => exact ⟨kk, k2 + 1, m + nq, dk, rfl, by go_num, by omega, (by have := HGK2.out; omega), Lib.hid ⟨by rw [HI.out.1]; exact putRow_drewN _ _ _ _ _ _ _, HI.out.2.skip (Lib.keeps_neg (by omega) (by rw [HUV.out.1, HUV.out.2]))⟩⟩
       ·have hne : (u != v) = true := by simpa using huv
        have HNE := Lib.hid huv
        clear huv
        go_wp2_with fail
        go_quiet (fail)
        go_wp2_with fail
        go_roundg (gk - 1)
        case measure => have := HGK2.out; omega
        case rel =>
         refine ⟨kk + 1, k2 + 1, m + nq, dk.setIfInBounds kk u, by go_num, by go_num, by omega, (by have := HGK2.out; omega), Lib.hid ⟨?_, ?_⟩⟩
         ·refine store_world (by omega) ?_ u
          rw [HI.out.1]
          exact putRow_drewN _ _ _ _ _ _ _
         ·have h := HI.out.2.keep hlt2 (Lib.keeps_pos (by rw [HUV.out.1, HUV.out.2]; exact HNE.out))
          rw [HUV.out.1] at h
          exact h
      ·have hend : k + k2 = d.size := by omega
       have HEND := Lib.hid hend
       have hcl : ∀ ty, (Builtin.clear_ #[22] ty #[.slice (some ⟨blk, off + kk, none⟩) (d.size - kk) (cap - kk)]).run Tryz.prog wr = .ok (.tuple #[]) (wr.setCells blk (off + kk) (List.replicate (d.size - kk) (.int .u32 0))) :=
        fun ty => Lib.run_clear_slice wr 22 47 ty (.int .u32 0) Tryz.underlying22 zero_u32 rfl rfl blk (off + kk) _ _ (by omega) (fun j hj => by rw [HI.out.1, show off + kk + j = off + (kk + j) by omega, (hHk.out (kk + j) (by omega)).1]; rfl) (fun j hj => by rw [HI.out.1, show off + kk + j = off + (kk + j) by omega]; exact (hHk.out (kk + j) (by omega)).2)
       have hk2z : ¬ (k2 : Int) < (d.size : Int) - (k : Int) := by omega
       have hk2n : ¬ k2 < d.size - k := by omega
       clear hend
       go_wp2_with fail
       go_ret
       have hI := HI.out.2
       rw [HEND.out] at hI
       exact compR_end hI HI.out.1
    ·have hb : (x == y) = false := by rw [beq_eq_false_iff_ne]; exact hdup
     have HD := Lib.hid hdup
     clear hdup
     go_wp2_with fail
     go_quiet (fail)
     go_wp2_with fail
     go_roundg (gk - 1)
     case measure => have := HGK.out; omega
     case rel =>
      refine ⟨k + 1, q + nq, by omega, (by have := HGK.out; omega), by go_num, Lib.hid ⟨by rw [HO.out.1, World.drewN_drewN], fun j hj => ?_⟩⟩
      by_cases e : j = k
      ·subst e
       exact Lib.keeps_pos (by rw [HXY.out.1, HXY.out.2]; exact HD.out)
      ·exact HO.out.2 j (by omega)
   ·obtain rfl : k = d.size := by omega
    go_wp2
    go_ret
    exact compR_same HH.out HO.out.2 HO.out.1
end Go.Proofs.YtppchdinolndmaaGreat
