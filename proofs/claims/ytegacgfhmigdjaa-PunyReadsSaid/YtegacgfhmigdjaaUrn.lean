/- pilcrowref10.Denoted, walked. -/
import Derived.Test.YtegacgfhmigdjaaUrg
import Derived.Test.YtegacgfhmigdjaaUfd
namespace Go.Proofs.Ytegacgfhmigdjaa
open Go.RowKit Go.Proofs.YtegacgfhmigdjaaW.PrintWords Go.Proofs.YtegacgfhmigdjaaW.PrintLast Go.Proofs.YtegacgfhmigdjaaW.PrintMore Go.Proofs.Ytegacgfhmigdjaa.PPu
set_option linter.unusedVariables false
set_option linter.unusedSimpArgs false

theorem rget_c (s : ByteArray) (at_ b : Int) (w : World) (hs : s.size ≤ 1000000000) (h0 : 0 ≤ at_) (h1 : at_ ≤ s.size) :
    Calls Try.prog 50 #[.string s, .int .i64 at_, .int .i64 b] w fun e w' => ∃ r1 r2 r3, e = .returned (.tuple #[.int .u64 r1, .int .i64 r2, .int .i64 r3]) ∧ (match getP s at_ b with | some (v, e) => r1 = v ∧ r2 = e ∧ r3 = 0 | none => r3 ≠ 0) ∧ Below w.heap.size w w' := by
  have h := rget_f s b at_ hs h0 h1 (40 * s.size + 110) (Nat.le_refl _)
  cases hg : getP s at_ b with
  | none =>
    rw [hg] at h
    obtain ⟨er, he, hr⟩ := h
    exact (pilcrowref09_Get.calls _ s at_ b _ _ _ w hr).mono fun e w' h => ⟨_, _, _, h.1, he, by obtain ⟨nd, h2⟩ := h.2; rw [h2]; exact below_drewN' (Below.refl _ _) nd⟩
  | some x =>
    obtain ⟨v, e⟩ := x
    rw [hg] at h
    exact (pilcrowref09_Get.calls _ s at_ b _ _ _ w h).mono fun e w' h => ⟨_, _, _, h.1, ⟨rfl, rfl, rfl⟩, by obtain ⟨nd, h2⟩ := h.2; rw [h2]; exact below_drewN' (Below.refl _ _) nd⟩
theorem radapt_c (delta points : Int) (first : Bool) (w : World) (h0 : 0 ≤ delta) (h1 : delta ≤ topP) (hp : 1 ≤ points) :
    Calls Try.prog 37 #[.int .u64 delta, .int .u64 points, .bool first] w fun e w' => e = .returned (.int .i64 (adaptP delta points first)) ∧ Below w.heap.size w w' := by
  refine (pilcrowref09_Adapt.calls 30 delta points first _ w (radapt_f delta points first h0 h1 hp 30 (Nat.le_refl _))).mono ?_
  rintro e w' ⟨rfl, h2⟩
  exact ⟨rfl, by first | exact h2 | (obtain ⟨nd, h3⟩ := h2; rw [h3]; exact below_drewN' (Below.refl _ _) nd)⟩
theorem ris_c (n : Int) (w : World) : Calls Try.prog 34 #[.int .u32 n] w fun e w' => e = .returned (.bool (isP n)) ∧ Below w.heap.size w w' := by
  refine (pilcrowref01_Is.calls n (isP n) w ?_).mono ?_
  · unfold pilcrowref01_Is.f isP
    repeat' split
    all_goals first | rfl | (congr 1; simp; omega) | (exfalso; omega)
  · rintro e w' ⟨rfl, ⟨nd, rfl⟩⟩
    exact ⟨rfl, below_drewN' (Below.refl _ _) nd⟩
/-- Get behind a beginning that is left out. -/
theorem getI_shift (s : ByteArray) (off : Nat) (ho : off ≤ s.size) (b : Int) : ∀ (k : Nat) (a n w place : Int), 0 ≤ a → a ≤ (s.extract off s.size).size →
    getI s b k (off + a) n w place = (getI (s.extract off s.size) b k a n w place).map fun (x : Int × Int) => (x.1, x.2 + (off : Int))
  | 0, _, _, _, _, _, _ => rfl
  | k + 1, a, n, w, place, h0, h1 => by
    have hz : (s.extract off s.size).size = s.size - off := by rw [ByteArray.size_extract]; omega
    rw [getI, getI]
    by_cases he : a = ((s.extract off s.size).size : Int)
    · rw [if_pos he, if_pos (show (off : Int) + a = s.size by rw [hz] at he; omega)]; rfl
    · rw [if_neg he, if_neg (show ¬ (off : Int) + a = s.size by rw [hz] at he; omega)]
      have hb : bt s (off + a) = bt (s.extract off s.size) a := by
        obtain ⟨j, rfl⟩ : ∃ j : Nat, a = j := ⟨a.toNat, by omega⟩
        have hj : j < s.size - off := by rw [hz] at he h1; omega
        have h2 : j < (s.extract off s.size).size := by omega
        rw [← bt_at (s.extract off s.size) (j : Int) (by rw [Int.toNat_natCast]; exact h2), ← Int.natCast_add, ← bt_at s ((off + j : Nat) : Int) (by rw [Int.toNat_natCast]; omega)]
        simp only [Int.toNat_natCast]
        congr 2
        exact (ByteArray.getElem_extract h2).symm
      rw [hb]
      cases digP (bt (s.extract off s.size) a) with
      | none => rfl
      | some d =>
        simp only
        split
        · rfl
        split
        · simp only [Option.map_some]; congr 2; omega
        · rw [show (off : Int) + a + 1 = off + (a + 1) by omega]
          exact getI_shift s off ho b k (a + 1) _ _ _ (by omega) (by rw [hz] at he h1 ⊢; omega)
theorem getP_shift (s : ByteArray) (off : Nat) (ho : off ≤ s.size) (b a : Int) (h0 : 0 ≤ a) (h1 : a ≤ (s.extract off s.size).size) : getP s (off + a) b = (getP (s.extract off s.size) a b).map fun (x : Int × Int) => (x.1, x.2 + (off : Int)) := by
  have hz : (s.extract off s.size).size = s.size - off := by rw [ByteArray.size_extract]; omega
  unfold getP
  rw [show ((s.size : Int) - (off + a)).toNat = (((s.extract off s.size).size : Int) - a).toNat by rw [hz]; omega]
  exact getI_shift s off ho b _ a 0 1 0 h0 h1
theorem own_nil32 (w : World) {B : Nat} (h : B ≤ w.heap.size) : (w.alloc (.cells #[] 51 (0, 0))).ownsRow B 51 1 (.slice (some ⟨w.heap.size, 0, none⟩) 0 0) 0 [] :=
  ⟨by simp, .inr ⟨w.heap.size, 0, _, rfl, h, heap_alloc_new _ _, Nat.le_refl _, by decide, by simp, by simp⟩⟩
theorem own_grown {W w1 : World} {base size n : Nat} {e : TypeId} {v : Value} {xs : List Value} {u : Option Nat} (h : W.ownsRow base e size v n xs) (hg : W.grownBy w1 u) (hne : ∀ k, v.ownBlock = some k → some k ≠ u) : w1.ownsRow base e size v n xs :=
  own_move h fun k hk => hg.block k (by obtain ⟨cells, hc⟩ := own_typed h k hk; exact (Array.getElem?_eq_some_iff.1 hc).1) fun e => hne k hk e
theorem own_blt {W : World} {base size n : Nat} {e : TypeId} {v : Value} {xs : List Value} (h : W.ownsRow base e size v n xs) (k : Nat) (hk : v.ownBlock = some k) : k < W.heap.size := by
  obtain ⟨cells, hc⟩ := own_typed h k hk
  exact (Array.getElem?_eq_some_iff.1 hc).1
theorem ins_eq (l : List Int) (i : Nat) (x : Int) : [] ++ l.take i ++ [x] ++ l.drop i = insL l i x := by simp [insL]
theorem size3 (l : List Int) (mi : Nat) (N : Int) (h : mi ≤ l.length) (hl : (l.length + 1) * 4 ≤ 140737488355328) : (([] : List Int).length + mi) * 4 ≤ 140737488355328 ∧ (([] ++ l.take mi).length + 1) * 4 ≤ 140737488355328 ∧ (([] ++ l.take mi ++ [N]).length + (l.length - mi)) * 4 ≤ 140737488355328 := by
  simp only [List.length_nil, List.nil_append, List.length_take, List.length_append, List.length_singleton]
  omega
theorem apart5 {w2 w5 : World} {base n size : Nat} {e : TypeId} {v : Value} {xs : List Value} {o : Obj} (h : w2.ownsRow base e size v n xs) (hg : (w2.alloc o).grownBy w5 (Value.slice (some ⟨w2.heap.size, 0, none⟩) 0 0).ownBlock) : w5.ownsRow base e size v n xs :=
  own_grown (Go.Proofs.Ytegacgfhmigdjaa.own_alloc h o) hg fun k hk e => by
    have h1 := own_blt h k hk
    have h2 : some k = some w2.heap.size := e
    injection h2 with h2
    omega
theorem at5 {w2 : World} {o : Obj} {v5 : Value} (h : v5.ownBlock = (Value.slice (some ⟨w2.heap.size, 0, none⟩) 0 0).ownBlock ∨ ∃ b, v5.ownBlock = some b ∧ (w2.alloc o).heap.size ≤ b) : ∀ k, v5.ownBlock = some k → w2.heap.size ≤ k := fun k hk => by
  rcases h with h | ⟨b, h, hb⟩
  · rw [h] at hk
    have h2 : some w2.heap.size = some k := hk
    injection h2 with h2
    omega
  · rw [h] at hk
    injection hk with hk
    rw [World.size_alloc] at hb
    omega
theorem apart6 {w2 w5 w6 : World} {base n size : Nat} {e : TypeId} {v v5 : Value} {xs : List Value} {o : Obj} (h : w5.ownsRow base e size v n xs) (hlt : ∀ k, v.ownBlock = some k → k < w2.heap.size) (h5 : ∀ k, v5.ownBlock = some k → w2.heap.size ≤ k) (hg : (w5.alloc o).grownBy w6 v5.ownBlock) : w6.ownsRow base e size v n xs :=
  own_grown (Go.Proofs.Ytegacgfhmigdjaa.own_alloc h o) hg fun k hk e => by
    have h1 := hlt k hk
    have h2 := h5 k e.symm
    omega
theorem slice_lo (A : Option Addr) (n c mi : Nat) (hm : mi ≤ n) (hc : n ≤ c) : ∀ W : World, (Instr.slice 26 (.slice A n c) none (some (.int .u64 (mi : Int))) none).run Try.prog W = .ok (.slice A mi c) W := by
  obtain ⟨i0, hi0, hzz⟩ := Option.map_eq_some_iff.1 info_u32
  have h := cut_to (P := Try.prog) 26 51 .u64 Try.underlying26 hi0 A n c (mi : Int) (by omega) (by omega) hc
  simp only [Int.toNat_natCast] at h
  exact h
theorem slice_hi (A : Option Addr) (n c mi : Nat) (hm : mi ≤ n) : ∀ W : World, (Instr.slice 26 (.slice A n c) (some (.int .u64 (mi : Int))) none none).run Try.prog W = .ok (.slice (if c = mi then A else A.map (·.add mi)) (n - mi) (c - mi)) W := by
  obtain ⟨i0, hi0, hzz⟩ := Option.map_eq_some_iff.1 info_u32
  simp only [Prod.mk.injEq] at hzz
  have h := cut_from (P := Try.prog) 26 51 .u64 Try.underlying26 hi0 1 hzz.2.1 A n c (mi : Int) (by omega) (by omega)
  simp only [Int.toNat_natCast, Nat.mul_one] at h
  exact h
/-- The hyphen, as the reference keeps it. -/
def hyp (p : Int) : Int := if 0 < p then p else 0
theorem hyp_succ (s : ByteArray) (i : Nat) : hyp (lastP s 45 (i + 1)) = if bt s (i : Int) = 45 then (i : Int) else hyp (lastP s 45 i) := by
  rw [lastP]
  split
  · unfold hyp; split <;> omega
  · rfl
theorem den_of (s : ByteArray) (p : Int) (hp : lastP s 45 s.size = p) (off : Nat) (hoff : off = if 0 < p then p.toNat + 1 else 0) : denP s = denGo (s.extract off s.size) ((s.extract off s.size).size + 1) 0 (preL s (hyp p).toNat) 128 0 72 true := by
  unfold denP hyp
  simp only [hp]
  subst hoff
  by_cases h : 0 < p
  · rw [if_pos h, if_pos h, if_pos h, if_pos h]
  · rw [if_neg h, if_neg h, if_neg h, if_neg h, ByteArray.extract_zero_size]
    rfl
set_option maxRecDepth 100000 in
set_option maxHeartbeats 4000000 in
theorem rdenoted_c (s : ByteArray) (w : World) (hs : s.size ≤ 1000000) (hlow : ∀ i : Nat, i < s.size → ¬ bt s (i : Int) > 127) :
    Calls Try.prog 32 #[.string s] w fun e w' => ∃ v, e = .returned (.tuple #[v, .bool (denR s).2]) ∧ w'.ownsRow w.heap.size 51 1 v (denR s).1.length (nums .u32 (denR s).1) ∧ Below w.heap.size w w' := by
  obtain ⟨p, hp⟩ : ∃ p, lastP s 45 s.size = p := ⟨_, rfl⟩
  have hpr := last_range s 45 s.size
  rw [hp] at hpr
  obtain ⟨off, hoff⟩ : ∃ off : Nat, off = if 0 < p then p.toNat + 1 else 0 := ⟨_, rfl⟩
  have hos : off ≤ s.size := by rw [hoff]; split <;> omega
  obtain ⟨H, hH⟩ : ∃ H : Nat, hyp p = H := ⟨(hyp p).toNat, by unfold hyp; split <;> omega⟩
  have hHs : H ≤ s.size := by unfold hyp at hH; split at hH <;> omega
  have HD0 : Hid (denP s = denGo (s.extract off s.size) ((s.extract off s.size).size + 1) 0 (preL s H) 128 0 72 true) := Lib.hid (by have h := den_of s p hp off hoff; rw [hH] at h; exact h)
  have HOF : Hid ((0 < H ↔ 0 < p) ∧ (0 < p → off = H + 1) ∧ (¬ 0 < p → off = 0)) := Lib.hid ⟨by unfold hyp at hH; split at hH <;> omega, fun h => by rw [if_pos h] at hoff; unfold hyp at hH; rw [if_pos h] at hH; omega, fun h => by rw [if_neg h] at hoff; exact hoff⟩
  have HHH : Hid (hyp (lastP s 45 s.size) = H) := Lib.hid (by rw [hp]; exact hH)
  have HS := Lib.hid hs
  have HLOW := Lib.hid hlow
  have HOS := Lib.hid hos
  have HHS := Lib.hid hHs
  clear hp hpr hoff hos hH hHs hlow
  go_enter Try.func32, Try.ntmps32
  go_upto_block 0 with fail
  go_cut [4] (fun s4 wx => s4 = .int .i64 H ∧ wx = w)
  case first =>
    go_wp2_with fail
    go_loopg [4, 5] (s.size) (fun kq s4 s5 wx => ∃ i : Nat, s5 = .int .i64 i ∧ s4 = .int .i64 (hyp (lastP s 45 i)) ∧ Hid (kq = s.size - i ∧ i ≤ s.size) ∧ wx = w)
    case atStart => exact ⟨0, rfl, rfl, Lib.hid ⟨rfl, Nat.zero_le _⟩, rfl⟩
    case round =>
      obtain ⟨i, rfl, rfl, HK, rfl⟩ := hrel
      by_cases hi : i < s.size
      · have hi0 : (0 : Int) ≤ (i : Int) := by omega
        have hi3 : (i : Int) < (s.size : Int) := by omega
        have hbt : (s[i].toNat : Int) = bt s (i : Int) := by
          have h := bt_at s (i : Int) (by rw [Int.toNat_natCast]; exact hi)
          simpa using h
        have hb1 : decide (127 < bt s (i : Int)) = false := decide_eq_false (by have := HLOW.out i hi; omega)
        have HY := Lib.hid (hyp_succ s i)
        have hss : s.size ≤ 1000000 := HS.out
        by_cases hc : bt s (i : Int) = 45
        · have hc1 : (bt s (i : Int) == 45) = true := by rw [hc]; rfl
          have HC := Lib.hid hc
          clear hc
          go_wp2_with fail
          go_roundg (gk - 1)
          case measure => have := HK.out; omega
          case rel => exact ⟨i + 1, by go_num, by rw [HY.out, if_pos HC.out], Lib.hid ⟨by have := HK.out; omega, by omega⟩, rfl⟩
        · have hc1 : (bt s (i : Int) == 45) = false := by rw [beq_eq_false_iff_ne]; exact hc
          have HC := Lib.hid hc
          clear hc
          go_wp2_with fail
          go_roundg (gk - 1)
          case measure => have := HK.out; omega
          case rel => exact ⟨i + 1, by go_num, by rw [HY.out, if_neg HC.out], Lib.hid ⟨by have := HK.out; omega, by omega⟩, rfl⟩
      · have HIQ : Hid (i = s.size) := Lib.hid (by have := HK.out; omega)
        have hi3 : ¬ (i : Int) < (s.size : Int) := by omega
        go_wp2_with fail
        go_meet
        refine ⟨?_, rfl⟩
        rw [HIQ.out, HHH.out]
  case rest =>
    obtain ⟨rfl, hwe⟩ := hcut
    obtain rfl := hwe.symm
    have HO0 : Hid ((w.alloc (.cells #[] 51 (0, 0))).ownsRow w.heap.size 51 1 (.slice (some ⟨w.heap.size, 0, none⟩) 0 0) 0 []) := Lib.hid (own_nil32 w (Nat.le_refl _))
    go_upto_if 34 with fail
    go_cut [6, 7, 34] (fun s6 s7 s34 wx => s7 = .int .i64 off ∧ Hid (wx.ownsRow w.heap.size 51 1 s6 (preL s H).length (nums .u32 (preL s H))) ∧ Hid (Below w.heap.size w wx))
    case first =>
      by_cases h0 : 0 < H
      · have HOF1 : Hid (off = H + 1) := Lib.hid (HOF.out.2.1 (HOF.out.1.1 h0))
        have hH1 : decide ((0 : Int) < (H : Int)) = true := decide_eq_true (by omega)
        have hHs : H ≤ s.size := HHS.out
        have hss : s.size ≤ 1000000 := HS.out
        go_wp2_with fail
        go_loopg [6, 8] H (fun kq s6 s8 wx => ∃ i : Nat, s8 = .int .i64 i ∧ Hid (kq = H - i ∧ i ≤ H) ∧ Hid (wx.ownsRow w.heap.size 51 1 s6 (preL s i).length (nums .u32 (preL s i))) ∧ Hid (Below w.heap.size w wx))
        case atStart => exact ⟨0, rfl, Lib.hid ⟨rfl, Nat.zero_le _⟩, HO0, Lib.hid (below_new (Below.refl _ _) _)⟩
        case round =>
          obtain ⟨i, rfl, HK, HO, HB⟩ := hrel
          by_cases hi : i < H
          · have hi0 : (0 : Int) ≤ (i : Int) := by omega
            have hi1 : (i : Int) < (H : Int) := by omega
            have hi2 : i < s.size := by omega
            have hi3 : (i : Int) < (s.size : Int) := by omega
            have hbt : ((s[i].toNat : Int) % 4294967296) = bt s (i : Int) := by
              have h := bt_at s (i : Int) (by rw [Int.toNat_natCast]; exact hi2)
              have h2 := bt_range s (i : Int)
              rw [← h] at h2 ⊢
              simp only [Int.toNat_natCast] at h2 ⊢
              omega
            go_wp2_with (at_builtin; refine print_append_row (w0 := w) w.heap.size rfl (.tmp 40) (.tmp 45) 26 51 .u32 4 rfl Try.underlying26 info_u32 (by decide) u6 (preL s i) [bt s (i : Int)] (some ⟨wr.heap.size, 0, none⟩) 1 1 rfl rfl (Go.Proofs.Ytegacgfhmigdjaa.own_alloc HO.out _) (reads_one wr _ _ rfl) (below_new HB.out _) (below_new HB.out _).size (by rw [preL_len]; omega) ?_; intro v1 w1 ho1 hb1 hg1 hat1; have HO1 := Lib.hid ho1; have HB2 := Lib.hid hb1; clear ho1 hb1 hg1 hat1)
            go_roundg (gk - 1)
            case measure => have := HK.out; omega
            case rel => exact ⟨i + 1, by go_num, Lib.hid ⟨by have := HK.out; omega, by omega⟩, Lib.hid (by rw [preL_succ]; exact HO1.out), HB2⟩
          · have hi1 : ¬ (i : Int) < (H : Int) := by omega
            have HIQ : Hid (i = H) := Lib.hid (by have := HK.out; omega)
            go_wp2_with fail
            go_meet
            refine ⟨by rw [HOF1.out]; go_num, ?_, HB⟩
            rw [← HIQ.out]
            exact HO
      · have hH1 : decide ((0 : Int) < (H : Int)) = false := decide_eq_false (by omega)
        have HH0 : Hid (H = 0) := Lib.hid (by omega)
        have HOF1 : Hid (off = 0) := Lib.hid (HOF.out.2.2 (fun h => h0 (HOF.out.1.2 h)))
        go_wp2_with fail
        go_meet
        refine ⟨by rw [HOF1.out]; rfl, ?_, Lib.hid (below_new (Below.refl _ _) _)⟩
        rw [HH0.out]
        exact HO0
    case rest =>
      obtain ⟨rfl, HO, HB⟩ := hcut
      obtain ⟨T, hT⟩ : ∃ T, s.extract off s.size = T := ⟨_, rfl⟩
      have HT := Lib.hid hT
      have HTZ : Hid (T.size + off = s.size) := Lib.hid (by rw [← hT, ByteArray.size_extract]; have := HOS.out; omega)
      rw [hT] at HD0
      clear hT
      go_wp2_with fail
      go_loopg [6, 7, 9, 10, 11, 12] (T.size) (fun kq s6 s7 s9 s10 s11 s12 wx => ∃ (l : List Int) (n i b a : Int) (once : Bool) (f : Nat), s9 = .int .u64 n ∧ s10 = .int .u64 i ∧ s11 = .int .i64 b ∧ s7 = .int .i64 (off + a) ∧ s12 = .bool once ∧
        Hid (InvA T.size kq a f) ∧ Hid (InvN s.size l n i a) ∧ Hid (wx.ownsRow w.heap.size 51 1 s6 l.length (nums .u32 l)) ∧ Hid (Below w.heap.size w wx) ∧ Hid (denP s = denGo T f a l n i b once))
      case atStart => exact ⟨preL s H, 128, 0, 72, 0, true, T.size + 1, rfl, rfl, rfl, by rw [Int.add_zero], rfl, Lib.hid ⟨by decide, by omega, by omega, by omega⟩, Lib.hid ⟨by decide, by decide, by decide, by omega, by rw [preL_len]; have := HHS.out; omega⟩, HO, HB, HD0⟩
      case round =>
        obtain ⟨l, n, i, b, a, once, f, rfl, rfl, rfl, rfl, rfl, HA, HN, HO, HB, HD⟩ := hrel
        have ha0 : 0 ≤ a := HA.out.1
        by_cases ha : a < (T.size : Int)
        · have hat : (off : Int) + a < (s.size : Int) := by have := HTZ.out; omega
          have hat0 : (0 : Int) ≤ (off : Int) + a := by omega
          have HAT := Lib.hid ha
          obtain ⟨f, rfl⟩ := HA.out.f1
          have HD2 := HD.out
          rw [denGo, if_pos ha] at HD2
          have hsh := getP_shift s off HOS.out b a ha0 (by rw [HT.out]; omega)
          rw [HT.out] at hsh
          have HSH := Lib.hid hsh
          have HATS : Hid ((off : Int) + a ≤ s.size) := Lib.hid (by omega)
          clear hsh
          go_wp2_with fail
          refine (rget_c s (off + a) b _ (by have := HS.out; omega) hat0 HATS.out).mono ?_
          rintro e w1 ⟨r1, r2, r3, rfl, hg, hb1⟩
          have HB1 := Lib.hid (below_next HB.out hb1)
          rw [HSH.out] at hg
          cases hgp : getP T a b with
          | none =>
            rw [hgp] at hg HD2
            have hg : r3 ≠ 0 := hg
            have hz : (r3 == 0) = false := by simpa using hg
            have HR : Hid (denR s = ([], false)) := by show denR s = _; unfold denR; rw [HD2]
            clear hb1 hg HD2
            go_wp2_with fail
            refine bodyPost_ret (v := .tuple #[.slice none 0 0, .bool false]) (by simp [results, Try.results32, go_sem]) rfl ?_
            exact ⟨.slice none 0 0, by rw [HR.out], by rw [HR.out]; exact ⟨rfl, .inl ⟨rfl, rfl⟩⟩, HB1.out⟩
          | some x =>
            obtain ⟨v, q⟩ := x
            rw [hgp] at hg HD2
            obtain ⟨rfl, rfl, rfl⟩ := hg
            have HGR := Lib.hid (getP_range hgp)
            have HO1 : Hid (w1.ownsRow w.heap.size 51 1 u6 l.length (nums .u32 l)) := Lib.hid (own_below HO.out hb1)
            have HD3 := Lib.hid HD2
            clear hb1 HD2 hgp
            obtain ⟨A4, c4, rfl, hc4⟩ := Go.Proofs.Ytegacgfhmigdjaa.own_slice HO1.out
            obtain ⟨D, N, mi, SF⟩ := step_facts s.size T.size l n i a r1 q _ f HS.out (by have := HTZ.out; omega) HA.out HN.out HAT.out HGR.out
            have HD4 := HD3.out
            simp only [SF.hD, SF.hM, SF.hN, Int.toNat_natCast] at HD4
            have HD5 := Lib.hid HD4
            have HSF := Lib.hid SF
            have hsz0 := SF.z
            have hw1 := SF.w1
            have hw2 := SF.w2
            have hw3 := SF.w3
            have hq := SF.q
            have hm := SF.m
            have hw4 := SF.w4
            have hw5 := SF.w5
            have hw6 := SF.w6
            clear HD4 SF
            go_upto_region 29 with fail
            clear hq hm hw1 hw3 hw4 hw5 hw6
            have HRN : isP N = false → Hid (denR s = ([], false)) := fun h => by
              have h2 := HD5.out
              rw [h] at h2
              show denR s = _
              unfold denR
              rw [h2]
              rfl
            by_cases hbig : N > 1114111
            · have HR := HRN (isP_big hbig)
              clear HRN
              have hb : decide (1114111 < N) = true := decide_eq_true hbig
              clear hbig
              go_wp2_with fail
              refine bodyPost_ret (v := .tuple #[.slice none 0 0, .bool false]) (by simp [results, Try.results32, go_sem]) rfl ?_
              exact ⟨.slice none 0 0, by rw [HR.out], by rw [HR.out]; exact ⟨rfl, .inl ⟨rfl, rfl⟩⟩, HB1.out⟩
            · have hb : decide (1114111 < N) = false := decide_eq_false hbig
              have HBG : Hid (N ≤ 1114111) := Lib.hid (Int.not_lt.1 hbig)
              have hu32 := HSF.out.u32 HBG.out
              clear hbig
              go_wp2_with fail
              refine (ris_c N _).mono ?_
              rintro e w2 ⟨rfl, hb2⟩
              have HB2 := Lib.hid (below_next HB1.out hb2)
              have HO2 : Hid (w2.ownsRow w.heap.size 51 1 (.slice A4 l.length c4) l.length (nums .u32 l)) := Lib.hid (own_below HO1.out hb2)
              clear hb2
              cases his : isP N with
              | false =>
                have HR := HRN his
                clear HRN his
                go_wp2_with fail
                refine bodyPost_ret (v := .tuple #[.slice none 0 0, .bool false]) (by simp [results, Try.results32, go_sem]) rfl ?_
                exact ⟨.slice none 0 0, by rw [HR.out], by rw [HR.out]; exact ⟨rfl, .inl ⟨rfl, rfl⟩⟩, HB2.out⟩
              | true =>
                have HD6 : Hid (denP s = denGo T f q (insL l mi N) N ((mi : Int) + 1) (adaptP r1 ((l.length : Int) + 1) once) false) := by
                  have h := HD5.out
                  rw [his] at h
                  exact h
                clear HRN his
                have hw7 := HSF.out.w7
                have hw8 := HSF.out.w8
                have HMI := Lib.hid HSF.out.mle
                have HC4 := Lib.hid hc4
                have HSZ := Lib.hid (size3 l mi N HSF.out.mle HSF.out.ll)
                have hs1 := slice_lo A4 l.length c4 mi HMI.out HC4.out
                have hs2 := slice_hi A4 l.length c4 mi HMI.out
                obtain ⟨AD, hAD⟩ : ∃ AD, (if c4 = mi then A4 else A4.map (·.add mi)) = AD := ⟨_, rfl⟩
                rw [hAD] at hs2
                have HAD := Lib.hid hAD
                have HLT : Hid (∀ k, (Value.slice A4 l.length c4).ownBlock = some k → k < w2.heap.size) := Lib.hid (own_blt HO2.out)
                clear hAD hc4
                go_upto_region 32 with (at_builtin; refine (print_append_row (w0 := w) w.heap.size rfl (.tmp 89) (.tmp 92) 26 51 .u32 4 rfl Try.underlying26 info_u32 (by decide) (.slice (some ⟨w2.heap.size, 0, none⟩) 0 0) [] (l.take mi) A4 mi c4 rfl rfl (own_nil32 w2 HB2.out.size) ((own_reads' (Go.Proofs.Ytegacgfhmigdjaa.own_alloc HO2.out _)).take_ mi HMI.out) (below_new HB2.out _) (below_new HB2.out _).size HSZ.out.1 ?_); intro v5 w5 ho5 hb5 hg5 hat5; have HO5 := Lib.hid ho5; have HB5 := Lib.hid hb5; have HL5 := Lib.hid (apart5 HO2.out hg5); have HV5 := Lib.hid (at5 hat5); clear ho5 hb5 hg5 hat5)
                go_upto_region 33 with (at_builtin; refine (print_append_row (w0 := w) w.heap.size rfl (.tmp 94) (.tmp 97) 26 51 .u32 4 rfl Try.underlying26 info_u32 (by decide) v5 ([] ++ l.take mi) [N] (some ⟨w5.heap.size, 0, none⟩) 1 1 rfl rfl (Go.Proofs.Ytegacgfhmigdjaa.own_alloc HO5.out _) (reads_one w5 _ _ rfl) (below_new HB5.out _) (below_new HB5.out _).size HSZ.out.2.1 ?_); intro v6 w6 ho6 hb6 hg6 hat6; have HO6 := Lib.hid ho6; have HB6 := Lib.hid hb6; have HL6 := Lib.hid (apart6 HL5.out HLT.out HV5.out hg6); clear ho6 hb6 hg6 hat6)
                go_upto_region 34 with (at_builtin; refine (print_append_row (w0 := w) w.heap.size rfl (.tmp 99) (.tmp 102) 26 51 .u32 4 rfl Try.underlying26 info_u32 (by decide) v6 ([] ++ l.take mi ++ [N]) (l.drop mi) AD (l.length - mi) (c4 - mi) rfl rfl HO6.out (by rw [← HAD.out]; exact (own_reads' HL6.out).drop_ mi HMI.out HC4.out) HB6.out HB6.out.size HSZ.out.2.2 ?_); intro v7 w7 ho7 hb7 hg7 hat7; rw [ins_eq, insL_len HMI.out] at ho7; obtain ⟨A7, c7, rfl, hc7⟩ := Go.Proofs.Ytegacgfhmigdjaa.own_slice ho7; have HO7 := Lib.hid ho7; have HB7 := Lib.hid hb7; clear ho7 hb7 hg7 hat7 hc7)
                clear hs1 hs2
                go_wp2_with (go_at_call 37; refine (radapt_c r1 ((l.length : Int) + 1) once _ HGR.out.1 HGR.out.2.1 HSF.out.lp).mono ?_; rintro e w8 ⟨rfl, hb8⟩; have HB8 := Lib.hid (below_next HB7.out hb8); have HO8 := Lib.hid (own_below HO7.out hb8); clear hb8)
                go_roundg (T.size - q.toNat)
                case measure => exact HSF.out.less
                case rel =>
                  refine ⟨insL l mi N, N, (mi : Int) + 1, adaptP r1 ((l.length : Int) + 1) once, q, false, f, rfl, rfl, rfl, ?_, rfl, Lib.hid HSF.out.invA, Lib.hid (HSF.out.invN HBG.out), ?_, HB8, HD6⟩
                  · rw [Int.add_comm]
                  · rw [insL_len HMI.out]
                    exact HO8
        · have HR : Hid (denR s = (l, true)) := by
            obtain ⟨f, rfl⟩ := HA.out.f1
            have h := HD.out
            rw [denGo, if_neg ha] at h
            show denR s = _
            unfold denR
            rw [h]
          have HO2 : Hid (wr.ownsRow w.heap.size 51 1 u6 l.length (nums .u32 l)) := HO
          have hat : ¬ (off : Int) + a < (s.size : Int) := by have := HTZ.out; omega
          go_wp2_with fail
          refine bodyPost_ret (v := .tuple #[u6, .bool true]) (by simp [results, Try.results32, go_sem]) rfl ?_
          exact ⟨u6, by rw [HR.out], by rw [HR.out]; exact HO2.out, HB.out⟩
end Go.Proofs.Ytegacgfhmigdjaa
