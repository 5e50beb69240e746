/- Joined texts: Zc, Zo. -/
import Derived.Test.YtcofkjiaiiiooaaGreatMUstp
import Derived.Test.YtcofkjiaiiiooaaGreatMBit
import Derived.OpenShut
import Derived.Laws.BitsAllLaws
/- crc.Of, crc.Is. -/
namespace Go.Proofs.YtcofkjiaiiiooaaGreat
open Go.RowKit Go.Proofs.YtcofkjiaiiiooaaGreatW.PrintWords
set_option linter.unusedVariables false
set_option linter.unusedSimpArgs false

/-- A sum's bit, its byte, all of it. -/
def crcBit (x : Int) : Int := if x % 2 = 1 then bits .xor .u32 (x / 2) 3988292384 else x / 2
def crcBits : Nat → Int → Int
  | 0, x => x
  | k + 1, x => crcBits k (crcBit x)
def crcStep (x b : Int) : Int := crcBits 8 (bits .xor .u32 x b)
def crcL (x : Int) (l : List Int) : Int := l.foldl crcStep x
def crcF (s : ByteArray) : Int := bits .xor .u32 4294967295 (crcL 4294967295 (bytesOf s))
def U32 (x : Int) : Prop := 0 ≤ x ∧ x ≤ 4294967295
theorem u32_of_wf {x : Int} (h : (Lit.int .u32 x).wf = true) : U32 x := by
  simp [Lit.wf, IntKind.min, IntKind.max, IntKind.signed, IntKind.bits] at h
  unfold U32
  omega
theorem u32_bits (op : BinOp) (x y : Int) : U32 (bits op .u32 x y) := u32_of_wf (wf_bits op .u32 x y)
theorem crcBit_u32 {x : Int} (h : U32 x) : U32 (crcBit x) := by
  unfold crcBit
  split
  · exact u32_bits _ _ _
  · unfold U32 at *; omega
theorem crcBits_u32 : ∀ (k : Nat) {x : Int}, U32 x → U32 (crcBits k x)
  | 0, _, h => h
  | k + 1, _, h => crcBits_u32 k (crcBit_u32 h)
theorem crcBits_add : ∀ (j : Nat) (x : Int), crcBits (j + 1) x = crcBit (crcBits j x)
  | 0, x => rfl
  | j + 1, x => crcBits_add j (crcBit x)
theorem crcL_u32 : ∀ (l : List Int) {x : Int}, U32 x → U32 (crcL x l)
  | [], _, h => h
  | b :: l, x, h => crcL_u32 l (crcBits_u32 8 (u32_bits _ _ _))
theorem crcL_take (x : Int) (l : List Int) (k : Nat) (h : k < l.length) : crcL x (l.take (k + 1)) = crcStep (crcL x (l.take k)) (l.getD k 0) := by
  unfold crcL
  rw [List.take_add_one, List.foldl_append, List.getD_eq_getElem?_getD, List.getElem?_eq_getElem h]
  rfl
abbrev TSum : TypeId := 164
set_option maxRecDepth 100000 in
set_option maxHeartbeats 4000000 in
theorem add_c {w : World} {g : Nat} (s : ByteArray) (hb : Blk w g TSum #[.int .u32 0]) (hs : s.size ≤ 10000000) :
    Calls Tryz.prog 53 #[.pointer (some ⟨g, 0, none⟩), .string s] w fun e w' => e = .returned (.tuple #[]) ∧ w' = w.setCell ⟨g, 0, none⟩ (.int .u32 (crcF s)) := by
  have c0 : w.cell? ⟨g, 0, none⟩ = some (.int .u32 0) := hb.cell rfl
  have hf := hb.frozen
  have hlen : (bytesOf s).length = s.size := bytesOf_length s
  have HL := Lib.hid hlen
  have h0 : bits .xor .u32 4294967295 0 = 4294967295 := by decide
  have HU : ∀ k, U32 (crcL 4294967295 ((bytesOf s).take k)) := fun k => crcL_u32 _ (by unfold U32; omega)
  have HUU := Lib.hid HU
  clear hb hlen HU
  have p1 : bits .and .u32 3988292384 4294967295 = 3988292384 := by decide
  have p0 : bits .and .u32 3988292384 0 = 0 := by decide
  go_enter Tryz.func53, Tryz.ntmps53
  go_wp2_with fail
  go_loopg [4, 5] s.size (fun kq s4 s5 wx => ∃ k : Nat, s4 = .int .u32 (crcL 4294967295 ((bytesOf s).take k)) ∧ s5 = .int .i64 k ∧ Hid (kq = s.size - k ∧ k ≤ s.size) ∧ wx = w)
  case atStart => exact ⟨0, rfl, rfl, Lib.hid ⟨rfl, Nat.zero_le _⟩, rfl⟩
  case round =>
    obtain ⟨k, rfl, rfl, HK, hww⟩ := hrel
    obtain rfl := hww.symm
    clear hww
    have hk0 : (0 : Int) ≤ (k : Int) := by omega
    by_cases hk : k < s.size
    · have hk1 : (k : Int) < (s.size : Int) := by omega
      have hx : (bytesOf s).getD k 0 = bt s (k : Int) := by rw [← rd_bytesOf]; simp [rd]
      obtain ⟨b, hbe⟩ : ∃ b, bt s (k : Int) = b := ⟨_, rfl⟩
      have hbx : ∀ h : k < s.size, (((s[k]'h).toNat : Nat) : Int) = b := fun h => by
        have := bt_at s (k : Int) (by rw [Int.toNat_natCast]; exact h)
        rw [hbe] at this
        simpa using this
      have hbx1 := hbx hk
      have hbr := bt_range s (k : Int)
      rw [hbe] at hbr hx
      have hst := crcL_take 4294967295 (bytesOf s) k (by rw [HL.out]; exact hk)
      rw [hx] at hst
      obtain ⟨x, hxe⟩ : ∃ x, crcL 4294967295 ((bytesOf s).take k) = x := ⟨_, rfl⟩
      have hxu : U32 x := by rw [← hxe]; exact HUU.out k
      rw [hxe] at hst
      rw [hxe]
      have hx0 := hxu.1
      have hx1 := hxu.2
      have HST := Lib.hid hst
      have hb0 := hbr.1
      have hb1 := hbr.2
      obtain ⟨y, hy⟩ : ∃ y, bits .xor .u32 x b = y := ⟨_, rfl⟩
      have HYU : Hid (U32 y) := Lib.hid (by rw [← hy]; exact u32_bits _ _ _)
      have HY := Lib.hid hy
      clear hxe hbe hbx hx hst hxu hbr
      go_wp2_with fail
      go_loopg [4, 23] 8 (fun kq s4 s23 wx => ∃ j : Nat, s4 = .int .u32 (crcBits j y) ∧ s23 = .int .i64 j ∧ Hid (kq = 8 - j ∧ j ≤ 8) ∧ wx = w)
      case atStart => exact ⟨0, rfl, rfl, Lib.hid ⟨rfl, Nat.zero_le _⟩, rfl⟩
      case round =>
        obtain ⟨j, rfl, rfl, HJ, hww⟩ := hrel
        obtain rfl := hww.symm
        clear hww
        have hj0 : (0 : Int) ≤ (j : Int) := by omega
        by_cases hj : j < 8
        · have hj1 : (j : Int) < 8 := by omega
          have hadd := crcBits_add j y
          obtain ⟨z, hz⟩ : ∃ z, crcBits j y = z := ⟨_, rfl⟩
          have hzu : U32 z := by rw [← hz]; exact crcBits_u32 j HYU.out
          rw [hz] at hadd
          rw [hz]
          have hz0 := hzu.1
          have hz1 := hzu.2
          clear hz hzu
          have e1 : bits .and .u32 z 1 = z % 2 := u32_mask 1 (by decide) hz0 (by omega)
          by_cases hodd : z % 2 = 1
          · rw [hodd] at e1
            have HADD : Hid (crcBits (j + 1) y = bits .xor .u32 (z / 2) 3988292384) := Lib.hid (by rw [hadd]; unfold crcBit; rw [if_pos hodd])
            clear hadd hodd
            go_wp2_with fail
            go_roundg (8 - (j + 1))
            case measure => have := HJ.out.1; omega
            case rel => exact ⟨j + 1, by rw [HADD.out], by go_num, Lib.hid ⟨rfl, by omega⟩, rfl⟩
          · have hev : z % 2 = 0 := by omega
            rw [hev] at e1
            have HADD : Hid (crcBits (j + 1) y = z / 2) := Lib.hid (by rw [hadd]; unfold crcBit; rw [if_neg hodd])
            have e2 : bits .xor .u32 (z / 2) 0 = z / 2 := by rw [u32_xor _ _ (by omega) (by omega) (by omega) (by omega)]; simp; omega
            clear hadd hodd hev
            go_wp2_with fail
            go_roundg (8 - (j + 1))
            case measure => have := HJ.out.1; omega
            case rel => exact ⟨j + 1, by rw [HADD.out], by go_num, Lib.hid ⟨rfl, by omega⟩, rfl⟩
        · have hj1 : ¬ (j : Int) < 8 := by omega
          have he : j = 8 := by have := HJ.out.2; omega
          subst he
          go_wp2_with fail
          go_roundg (s.size - (k + 1))
          case measure => have := HK.out.1; omega
          case rel => exact ⟨k + 1, by rw [HST.out, ← HY.out]; rfl, by go_num, Lib.hid ⟨rfl, by omega⟩, rfl⟩
    · have hk1 : ¬ (k : Int) < (s.size : Int) := by omega
      have he : (bytesOf s).take k = bytesOf s := List.take_of_length_le (by rw [HL.out]; omega)
      rw [he]
      clear he
      go_wp2_with fail
      exact bodyPost_end (v := .tuple #[]) (by simp [results, Tryz.results53, go_sem]) rfl ⟨rfl, rfl⟩
end Go.Proofs.YtcofkjiaiiiooaaGreat
/- crc.Of of one text; crc.Is. -/
namespace Go.Proofs.YtcofkjiaiiiooaaGreat
open Go.RowKit Go.Proofs.YtcofkjiaiiiooaaGreatW.PrintWords
set_option linter.unusedVariables false
set_option linter.unusedSimpArgs false

theorem now_c {w : World} {g : Nat} {x : Int} (hc : w.cell? ⟨g, 0, none⟩ = some (.int .u32 x)) :
    Calls Tryz.prog 54 #[.pointer (some ⟨g, 0, none⟩)] w fun e w' => e = .returned (.int .u32 x) ∧ w' = w := by
  go_enter Tryz.func54, Tryz.ntmps54
  go_wp2_with fail
  go_ret
  exact ⟨rfl, rfl⟩
set_option maxRecDepth 100000 in
set_option maxHeartbeats 4000000 in
theorem of_c {w : World} {X : Nat} (s : ByteArray) (hx : Blk w X 9 #[.string s]) (hs : s.size ≤ 10000000) :
    Calls Tryz.prog 46 #[.slice (some ⟨X, 0, none⟩) 1 1] w fun e w' => e = .returned (.int .u32 (crcF s)) ∧ Below w.heap.size w w' := by
  go_enter Tryz.func46, Tryz.ntmps46
  go_upto_region 2 with fail
  have hk1 := Blk.new w TSum #[.int .u32 0]
  have hd1 : Below w.heap.size w (w.alloc (.cells #[.int .u32 0] TSum (0, 0))) := below_new (Below.refl _ _) _
  have hc1 : (w.alloc (.cells #[.int .u32 0] TSum (0, 0))).cell? ⟨X, 0, none⟩ = some (.string s) := (hx.alloc _).cell rfl
  obtain ⟨W, hW⟩ : ∃ W, w.alloc (.cells #[.int .u32 0] TSum (0, 0)) = W := ⟨_, rfl⟩
  rw [hW] at hk1 hd1 hc1 ⊢
  have hc2 : (W.setCell ⟨w.heap.size, 0, none⟩ (.int .u32 (crcF s))).cell? ⟨w.heap.size, 0, none⟩ = some (.int .u32 (crcF s)) := (hk1.set 0 _).cell rfl
  have hd2 : Below w.heap.size w (W.setCell ⟨w.heap.size, 0, none⟩ (.int .u32 (crcF s))) := Eff.under hd1 (Eff.set W w.heap.size 0 _) hd1.size (fun k h => Nat.le_of_eq h.symm)
  have HADD := Lib.hid (add_c s hk1 hs)
  have HD2 := Lib.hid hd2
  clear hd1 hd2 hk1 hW hx hs
  obtain ⟨W2, hW2⟩ : ∃ W2, W.setCell ⟨w.heap.size, 0, none⟩ (.int .u32 (crcF s)) = W2 := ⟨_, rfl⟩
  rw [hW2] at hc2 HADD HD2
  clear hW2
  go_wp2_with fail
  go_loopg [5, 8] 1 (fun kq s5 s8 wx => (s8 = .int .i64 0 ∧ kq = 1 ∧ wx = W) ∨ (s8 = .int .i64 1 ∧ kq = 0 ∧ wx = W2))
  case atStart => exact .inl ⟨rfl, rfl, rfl⟩
  case round =>
    rcases hrel with ⟨rfl, hk, hww⟩ | ⟨rfl, hk, hww⟩
    · obtain rfl := hww.symm
      clear hww
      go_wp2_with (go_at_call 53; refine HADD.out.mono ?_; rintro e w1 ⟨rfl, rfl⟩)
      go_roundg 0
      case measure => omega
      case rel => exact .inr ⟨rfl, rfl, rfl⟩
    · obtain rfl := hww.symm
      clear hww
      go_wp2_with (go_at_call 54; refine (now_c hc2).mono ?_; rintro e w1 ⟨rfl, rfl⟩)
      go_ret
      exact ⟨rfl, HD2.out⟩
set_option maxRecDepth 100000 in
theorem is_c (s : ByteArray) (x : Int) (hs : s.size ≤ 10000000) (w : World) :
    Calls Tryz.prog 47 #[.string s, .int .u32 x] w fun e w' => e = .returned (.bool (crcF s == x)) ∧ Below w.heap.size w w' := by
  have hof := of_c s (Blk.new w 9 #[.string s]) hs
  have HOF := Lib.hid hof
  clear hof hs
  go_enter Tryz.func47, Tryz.ntmps47
  go_wp2_with (go_at_call 46; refine HOF.out.mono ?_; rintro e w1 ⟨rfl, hb1⟩)
  go_ret
  exact ⟨rfl, below_then (below_new (Below.refl _ _) _) hb1 (by simp)⟩
end Go.Proofs.YtcofkjiaiiiooaaGreat
