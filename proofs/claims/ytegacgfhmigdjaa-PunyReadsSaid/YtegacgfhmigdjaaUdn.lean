/- puny.denoted, walked: what a text denotes. -/
import Derived.Test.YtegacgfhmigdjaaUins
import Derived.Test.YtegacgfhmigdjaaUpp
import Derived.Deep.DeepCutAuto
import Derived.Outline
namespace Go.Proofs.Ytegacgfhmigdjaa
open Go.RowKit Go.Proofs.YtegacgfhmigdjaaW.PrintWords Go.Proofs.YtegacgfhmigdjaaW.PrintLast Go.Proofs.YtegacgfhmigdjaaW.PrintMore Go.Proofs.Ytegacgfhmigdjaa.PPu
set_option linter.unusedVariables false
set_option linter.unusedSimpArgs false

/-- Is a number a scalar? -/
def isP (n : Int) : Bool := if n ≤ 1114111 then (if n < 55296 then true else decide (n > 57343)) else false
theorem is_c (n : Int) (w : World) : Calls Try.prog 45 #[.int .u32 n] w fun e w' => e = .returned (.bool (isP n)) ∧ Below w.heap.size w w' := by
  refine (scalar_Is.calls n (isP n) w ?_).mono ?_
  · unfold scalar_Is.f isP; split <;> (try split) <;> rfl
  · rintro e w' ⟨rfl, ⟨nd, rfl⟩⟩
    exact ⟨rfl, below_drewN' (Below.refl _ _) nd⟩
theorem get_c (s : ByteArray) (at_ b : Int) (w : World) (hs : s.size ≤ 1000000000) (h0 : 0 ≤ at_) (h1 : at_ ≤ s.size) :
    Calls Try.prog 54 #[.string s, .int .i64 at_, .int .i64 b] w fun e w' => ∃ r1 r2 r3, e = .returned (.tuple #[.int .u64 r1, .int .i64 r2, .int .i64 r3]) ∧ (match getP s at_ b with | some (v, e) => r1 = v ∧ r2 = e ∧ r3 = 0 | none => r3 ≠ 0) ∧ Below w.heap.size w w' := by
  have h := get_f s b at_ hs h0 h1 (2 * s.size + 10) (Nat.le_refl _)
  cases hg : getP s at_ b with
  | none =>
    rw [hg] at h
    obtain ⟨er, he, hr⟩ := h
    exact (bias_Get.calls _ s at_ b _ _ _ w hr).mono fun e w' h => ⟨_, _, _, h.1, he, h.2⟩
  | some x =>
    obtain ⟨v, e⟩ := x
    rw [hg] at h
    exact (bias_Get.calls _ s at_ b _ _ _ w h).mono fun e w' h => ⟨_, _, _, h.1, ⟨rfl, rfl, rfl⟩, h.2⟩
theorem adapt_c (delta points : Int) (first : Bool) (w : World) (h0 : 0 ≤ delta) (h1 : delta ≤ topP) (hp : 1 ≤ points) :
    Calls Try.prog 56 #[.int .u64 delta, .int .u64 points, .bool first] w fun e w' => e = .returned (.int .i64 (adaptP delta points first)) ∧ Below w.heap.size w w' :=
  bias_Adapt.calls 30 delta points first _ w (adapt_f delta points first h0 h1 hp 30 (Nat.le_refl _))
theorem last_c (s : ByteArray) (w : World) (hs : s.size ≤ 1000000000) :
    Calls Try.prog 53 #[.string s, .int .u8 45] w fun e w' => e = .returned (.int .i64 (lastP s 45 s.size)) ∧ Below w.heap.size w w' :=
  (strings_LastIndexByte.calls (s.size + 1) s 45 _ w (last_f s 45 hs _ (Nat.le_refl _))).mono fun e w' h => ⟨h.1, by obtain ⟨nd, h2⟩ := h.2; rw [h2]; exact below_drewN' (Below.refl _ _) nd⟩
theorem last_range (s : ByteArray) (c : Int) : ∀ m, -1 ≤ lastP s c m ∧ lastP s c m < m
  | 0 => ⟨Int.le_refl (-1), (by decide : (-1 : Int) < ((0 : Nat) : Int))⟩
  | m + 1 => by
    have := last_range s c m
    rw [lastP]
    split <;> omega
/-- The bytes ahead of p, as numbers. -/
def preL (s : ByteArray) (p : Nat) : List Int := (List.range p).map fun (j : Nat) => bt s (j : Int)
theorem preL_len (s : ByteArray) (p : Nat) : (preL s p).length = p := by simp [preL]
theorem preL_succ (s : ByteArray) (p : Nat) : preL s (p + 1) = preL s p ++ [bt s (p : Int)] := by simp [preL, List.range_succ]
theorem own_alloc {w : World} {base n size : Nat} {e : TypeId} {v : Value} {xs : List Value} (h : w.ownsRow base e size v n xs) (o : Obj) : (w.alloc o).ownsRow base e size v n xs :=
  own_move h fun k hk => by obtain ⟨cells, hc⟩ := own_typed h k hk; exact Below.heap_alloc w o k (Array.getElem?_eq_some_iff.1 hc).1
theorem own_slice {w : World} {base n size : Nat} {e : TypeId} {v : Value} {xs : List Value} (h : w.ownsRow base e size v n xs) : ∃ A c, v = .slice A n c ∧ n ≤ c := by
  rcases h.2 with ⟨rfl, h0⟩ | ⟨g, cap, cur, rfl, _, _, hnc, _⟩
  · exact ⟨none, 0, by rw [h0], by omega⟩
  · exact ⟨_, _, rfl, hnc⟩
theorem own_ne {w : World} {base n size : Nat} {e : TypeId} {v : Value} {xs : List Value} (h : w.ownsRow base e size v n xs) : v.ownBlock ≠ some w.heap.size := fun e' => by
  obtain ⟨cells, hc⟩ := own_typed h _ e'
  have := (Array.getElem?_eq_some_iff.1 hc).1
  omega
theorem own_below {w w1 : World} {base n size : Nat} {e : TypeId} {v : Value} {xs : List Value} (h : w.ownsRow base e size v n xs) (hb : Below w.heap.size w w1) : w1.ownsRow base e size v n xs :=
  own_move h fun k hk => by obtain ⟨cells, hc⟩ := own_typed h k hk; exact hb.block k (Array.getElem?_eq_some_iff.1 hc).1
theorem isP_big {n : Int} (h : n > 1114111) : isP n = false := by unfold isP; rw [if_neg (by omega)]
theorem reads_one (w : World) (x y : Int) (h : x = y) : ReadsInt (w.alloc (.cells #[.int .u32 x] 51 (0, 0))) .u32 (some ⟨w.heap.size, 0, none⟩) 1 [y] := by
  subst h
  refine ⟨rfl, by decide, fun _ => ⟨_, rfl, fun k hk => ?_⟩⟩
  obtain rfl : k = 0 := by omega
  rw [Addr.add_lit]
  exact (Blk.new w 51 #[.int .u32 x]).cell rfl
/-- One number behind the other: what they denote. -/
def denGo (s : ByteArray) : Nat → Int → List Int → Int → Int → Int → Bool → Option (List Int)
  | 0, _, _, _, _, _, _ => none
  | k + 1, at_, l, n, i, b, once =>
    if at_ < (s.size : Int) then
      match getP s at_ b with
      | none => none
      | some (delta, e) =>
        if isP (n + (i + delta) / ((l.length : Int) + 1)) = true then
          denGo s k e (insL l ((i + delta) % ((l.length : Int) + 1)).toNat (n + (i + delta) / ((l.length : Int) + 1))) (n + (i + delta) / ((l.length : Int) + 1)) ((i + delta) % ((l.length : Int) + 1) + 1) (adaptP delta ((l.length : Int) + 1) once) false
        else none
    else some l
def denP (s : ByteArray) : Option (List Int) :=
  let p := lastP s 45 s.size
  let t := if 0 < p then s.extract (p.toNat + 1) s.size else s
  denGo t (t.size + 1) 0 (if 0 < p then preL s p.toNat else []) 128 0 72 true
def denR (s : ByteArray) : List Int × Bool := match denP s with | some l => (l, true) | none => ([], false)
def InvA (ts kq : Nat) (a : Int) (f : Nat) : Prop := 0 ≤ a ∧ a ≤ ts ∧ kq = ts - a.toNat ∧ (ts : Int) + 1 ≤ f + a
def InvN (ss : Nat) (l : List Int) (n i a : Int) : Prop := 0 ≤ n ∧ n ≤ 1114111 ∧ 0 ≤ i ∧ i ≤ l.length ∧ (l.length : Int) ≤ ss + a
theorem InvA.f1 {ts kq : Nat} {a : Int} {f : Nat} (h : InvA ts kq a f) : ∃ j, f = j + 1 := ⟨f - 1, by obtain ⟨a0, a1, a2, a3⟩ := h; omega⟩
/-- What a round of the second loop reckons. -/
structure StepF (ss ts : Nat) (l : List Int) (n i r r2 D N : Int) (mi kq f : Nat) : Prop where
  hD : (i + r) / ((l.length : Int) + 1) = D
  hM : (i + r) % ((l.length : Int) + 1) = (mi : Int)
  hN : n + D = N
  z : ¬ ((l.length : Int) + 1 = 0)
  w1 : IntKind.u64.wrap (i + r) = i + r
  w2 : IntKind.u64.wrap ((l.length : Int) + 1) = (l.length : Int) + 1
  w3 : wrap64 ((l.length : Int) + 1) = (l.length : Int) + 1
  q : Int.tdiv (i + r) ((l.length : Int) + 1) = D
  m : Int.tmod (i + r) ((l.length : Int) + 1) = (mi : Int)
  w4 : IntKind.u64.wrap D = D
  w5 : IntKind.u64.wrap (mi : Int) = (mi : Int)
  w6 : IntKind.u64.wrap (n + D) = N
  w7 : IntKind.u64.wrap ((mi : Int) + 1) = (mi : Int) + 1
  w8 : wrap64 (mi : Int) = (mi : Int)
  n0 : 0 ≤ N
  mle : mi ≤ l.length
  ll : (l.length + 1) * 4 ≤ 140737488355328
  lp : 1 ≤ (l.length : Int) + 1
  u32 : N ≤ 1114111 → N % 4294967296 = N
  invN : N ≤ 1114111 → InvN ss (insL l mi N) N ((mi : Int) + 1) r2
  invA : InvA ts (ts - r2.toNat) r2 f
  less : ts - r2.toNat < kq
theorem step_facts (ss ts : Nat) (l : List Int) (n i a r r2 : Int) (kq f : Nat) (hs : ss ≤ 1000000) (ht : ts ≤ ss) (hA : InvA ts kq a (f + 1)) (hN : InvN ss l n i a) (ha : a < (ts : Int)) (hg : 0 ≤ r ∧ r ≤ topP ∧ a < r2 ∧ (a ≤ ts → r2 ≤ ts)) :
    ∃ (D N : Int) (mi : Nat), StepF ss ts l n i r r2 D N mi kq f := by
  have hT : topP = 4611686018427387904 := rfl
  obtain ⟨a0, a1, a2, a3⟩ := hA
  obtain ⟨n0, n1, i0, i1, l1⟩ := hN
  obtain ⟨r0, r1, r3, r4⟩ := hg
  have r5 := r4 a1
  have hD0 : 0 ≤ (i + r) / ((l.length : Int) + 1) := Int.ediv_nonneg (by omega) (by omega)
  have hD1 : (i + r) / ((l.length : Int) + 1) ≤ i + r := Int.ediv_le_self _ (by omega)
  have hM0 : 0 ≤ (i + r) % ((l.length : Int) + 1) := Int.emod_nonneg _ (by omega)
  have hM1 : (i + r) % ((l.length : Int) + 1) < (l.length : Int) + 1 := Int.emod_lt_of_pos _ (by omega)
  have hq : Int.tdiv (i + r) ((l.length : Int) + 1) = (i + r) / ((l.length : Int) + 1) := Int.tdiv_eq_ediv_of_nonneg (by omega)
  have hr : Int.tmod (i + r) ((l.length : Int) + 1) = (i + r) % ((l.length : Int) + 1) := Int.tmod_eq_emod_of_nonneg (by omega)
  obtain ⟨D, hD⟩ : ∃ D, (i + r) / ((l.length : Int) + 1) = D := ⟨_, rfl⟩
  obtain ⟨M, hM⟩ : ∃ M, (i + r) % ((l.length : Int) + 1) = M := ⟨_, rfl⟩
  rw [hD] at hD0 hD1 hq
  rw [hM] at hM0 hM1 hr
  obtain ⟨mi, rfl⟩ : ∃ mi : Nat, M = mi := ⟨M.toNat, by omega⟩
  have hmi : mi ≤ l.length := by omega
  refine ⟨D, n + D, mi, hD, hM, rfl, by omega, u64 (by omega) (by omega), u64 (by omega) (by omega), w64 (by omega) (by omega), hq, hr, u64 (by omega) (by omega), u64 (by omega) (by omega), u64 (by omega) (by omega), u64 (by omega) (by omega), w64 (by omega) (by omega), by omega, hmi, by omega, by omega, fun h => by omega, fun h => ?_, ?_, by omega⟩
  · refine ⟨by omega, h, by omega, ?_, ?_⟩
    · rw [insL_len hmi]; omega
    · rw [insL_len hmi]; omega
  · exact ⟨by omega, by omega, by omega, by omega⟩
set_option maxRecDepth 100000 in
set_option maxHeartbeats 4000000 in
theorem denoted_c (s : ByteArray) (w : World) (hs : s.size ≤ 1000000) :
    Calls Try.prog 42 #[.string s] w fun e w' => ∃ v, e = .returned (.tuple #[v, .bool (denR s).2]) ∧ w'.ownsRow w.heap.size 51 1 v (denR s).1.length (nums .u32 (denR s).1) ∧ Below w.heap.size w w' := by
  obtain ⟨p, hp⟩ : ∃ p, lastP s 45 s.size = p := ⟨_, rfl⟩
  have hpr := last_range s 45 s.size
  rw [hp] at hpr
  obtain ⟨t, ht⟩ : ∃ t, (if 0 < p then s.extract (p.toNat + 1) s.size else s) = t := ⟨_, rfl⟩
  obtain ⟨l0, hl0⟩ : ∃ l0, (if 0 < p then preL s p.toNat else []) = l0 := ⟨_, rfl⟩
  have HD : Hid (denP s = denGo t (t.size + 1) 0 l0 128 0 72 true) := by
    show denP s = _
    unfold denP
    simp only [hp, ht, hl0]
  have hts : t.size ≤ s.size := by rw [← ht]; split <;> simp [ByteArray.size_extract]
  have hll : l0.length ≤ s.size := by rw [← hl0]; split <;> simp [preL_len]; omega
  have HP := Lib.hid hp
  have HT := Lib.hid ht
  have HL0 := Lib.hid hl0
  have HS := Lib.hid hs
  have HTS := Lib.hid hts
  clear hp ht hl0
  go_enter Try.func42, Try.ntmps42
  go_upto_if 19 with (go_at_call 53; refine (last_c s _ (by have := HS.out; omega)).mono ?_; rintro e w1 ⟨rfl, hb1⟩; rw [HP.out]; have HB1 := Lib.hid hb1; clear hb1)
  go_cut [0, 4] (fun s0 s4 wx => s0 = .string t ∧ Hid (wx.ownsRow w.heap.size 51 1 s4 l0.length (nums .u32 l0)) ∧ Hid (Below w.heap.size w wx))
  case first =>
    by_cases h0 : 0 < p
    · rw [decide_eq_true h0]
      obtain ⟨q, rfl⟩ : ∃ q : Nat, p = q := ⟨p.toNat, by omega⟩
      have HQ := Lib.hid h0
      have hq1 : q + 1 ≤ s.size := by omega
      have hq2 : (q : Int) + 1 ≤ (s.size : Int) := by omega
      have HT2 : Hid (s.extract (q + 1) s.size = t) := by have h := HT.out; rw [if_pos h0] at h; exact h
      have HL2 : Hid (preL s q = l0) := by have h := HL0.out; rw [if_pos h0] at h; exact h
      go_wp2_with fail
      clear h0
      go_loopg [4, 21] q (fun kq s4 s21 wx => ∃ i : Nat, s21 = .int .i64 i ∧ Hid (kq = q - i ∧ i ≤ q) ∧ Hid (wx.ownsRow w.heap.size 51 1 s4 (preL s i).length (nums .u32 (preL s i))) ∧ Hid (Below w.heap.size w wx))
      case atStart => exact ⟨0, rfl, Lib.hid ⟨rfl, Nat.zero_le _⟩, Lib.hid ⟨rfl, .inl ⟨rfl, rfl⟩⟩, HB1⟩
      case round =>
        obtain ⟨i, rfl, HK, HO, HB⟩ := hrel
        by_cases hi : i < q
        · have hi0 : (0 : Int) ≤ (i : Int) := by omega
          have hi1 : (i : Int) < (q : Int) := by omega
          have hi2 : i < s.size := by omega
          have hi3 : (i : Int) < (s.size : Int) := by omega
          have hbt : ((s[i].toNat : Int) % 4294967296) = bt s (i : Int) := by
            have h := bt_at s (i : Int) (by rw [Int.toNat_natCast]; exact hi2)
            have h2 := bt_range s (i : Int)
            rw [← h] at h2 ⊢
            simp only [Int.toNat_natCast] at h2 ⊢
            omega
          go_wp2_with (at_builtin; refine print_append_row (w0 := w) w.heap.size rfl (.tmp 24) (.tmp 29) 26 51 .u32 4 rfl Try.underlying26 info_u32 (by decide) u4 (preL s i) [bt s (i : Int)] (some ⟨wr.heap.size, 0, none⟩) 1 1 rfl rfl (own_alloc HO.out _) (reads_one wr _ _ rfl) (below_new HB.out _) (below_new HB.out _).size (by rw [preL_len]; omega) ?_; intro v1 w1 ho1 hb1 hg1 hat1; have HO1 := Lib.hid ho1; have HB2 := Lib.hid hb1; clear ho1 hb1 hg1 hat1)
          go_roundg (gk - 1)
          case measure => have := HK.out; omega
          case rel => exact ⟨i + 1, by go_num, Lib.hid ⟨by have := HK.out; omega, by omega⟩, Lib.hid (by rw [preL_succ]; exact HO1.out), HB2⟩
        · have hi1 : ¬ (i : Int) < (q : Int) := by omega
          have hiq : i = q := by have := HK.out; omega
          have HIQ := Lib.hid hiq
          clear hiq
          go_wp2_with fail
          go_meet
          refine ⟨by rw [HT2.out], ?_, HB⟩
          rw [← HL2.out, ← HIQ.out]
          exact HO
    · rw [decide_eq_false h0]
      have HQ := Lib.hid h0
      go_wp2_with fail
      go_meet
      refine ⟨?_, ?_, HB1⟩
      · have h := HT.out
        rw [if_neg (by have := HQ.out; omega)] at h
        rw [h]
      · have h := HL0.out
        rw [if_neg (by have := HQ.out; omega)] at h
        rw [← h]
        exact Lib.hid ⟨rfl, .inl ⟨rfl, rfl⟩⟩
  case rest =>
    obtain ⟨rfl, HO, HB⟩ := hcut
    go_wp2_with fail
    go_loopg [4, 7, 8, 9, 10, 11] (t.size) (fun kq s4 s7 s8 s9 s10 s11 wx => ∃ (l : List Int) (n i b a : Int) (once : Bool) (f : Nat), s7 = .int .u64 n ∧ s8 = .int .u64 i ∧ s9 = .int .i64 b ∧ s10 = .int .i64 a ∧ s11 = .bool once ∧
      Hid (InvA t.size kq a f) ∧ Hid (InvN s.size l n i a) ∧ Hid (wx.ownsRow w.heap.size 51 1 s4 l.length (nums .u32 l)) ∧ Hid (Below w.heap.size w wx) ∧ Hid (denP s = denGo t f a l n i b once))
    case atStart => exact ⟨l0, 128, 0, 72, 0, true, t.size + 1, rfl, rfl, rfl, rfl, rfl, Lib.hid ⟨by decide, by omega, by omega, by omega⟩, Lib.hid ⟨by decide, by decide, by decide, by omega, by omega⟩, HO, HB, HD⟩
    case round =>
      obtain ⟨l, n, i, b, a, once, f, rfl, rfl, rfl, rfl, rfl, HA, HN, HO, HB, HD⟩ := hrel
      have hs1 := HS.out
      by_cases ha : a < (t.size : Int)
      · have ha0 : 0 ≤ a := HA.out.1
        have HAT := Lib.hid ha
        obtain ⟨f, rfl⟩ := HA.out.f1
        have HD2 := HD.out
        rw [denGo, if_pos ha] at HD2
        go_wp2_with fail
        refine (get_c t a b _ (by omega) ha0 (by omega)).mono ?_
        rintro e w1 ⟨r1, r2, r3, rfl, hg, hb1⟩
        have HB1 := Lib.hid (below_next HB.out hb1)
        cases hgp : getP t a b with
        | none =>
          rw [hgp] at hg HD2
          have hg : r3 ≠ 0 := hg
          have hz : (r3 == 0) = false := by simpa using hg
          have HR : Hid (denR s = ([], false)) := by show denR s = _; unfold denR; rw [HD2]
          clear hb1 hg HD2
          go_wp2_with fail
          refine bodyPost_ret (v := .tuple #[.slice none 0 0, .bool false]) (by simp [results, Try.results42, go_sem]) rfl ?_
          exact ⟨.slice none 0 0, by rw [HR.out], by rw [HR.out]; exact ⟨rfl, .inl ⟨rfl, rfl⟩⟩, HB1.out⟩
        | some x =>
          obtain ⟨v, e⟩ := x
          rw [hgp] at hg HD2
          obtain ⟨rfl, rfl, rfl⟩ := hg
          have HGR := Lib.hid (getP_range hgp)
          have HO1 : Hid (w1.ownsRow w.heap.size 51 1 u4 l.length (nums .u32 l)) := Lib.hid (own_below HO.out hb1)
          have HD3 := Lib.hid HD2
          clear hb1 HD2 hgp
          obtain ⟨A4, c4, rfl, hc4⟩ := own_slice HO1.out
          obtain ⟨D, N, mi, SF⟩ := step_facts s.size t.size l n i a r1 r2 _ f HS.out HTS.out HA.out HN.out HAT.out HGR.out
          have HD4 := HD3.out
          simp only [SF.hD, SF.hM, SF.hN, Int.toNat_natCast] at HD4
          have HD5 := Lib.hid HD4
          have HSF := Lib.hid SF
          have hsz0 := SF.z
          have hw1 := SF.w1
          have hw2 := SF.w2
          have hw3 := SF.w3
          have hq := SF.q
          have hm := SF.m
          have hw4 := SF.w4
          have hw5 := SF.w5
          have hw6 := SF.w6
          clear HD4 SF
          go_upto_region 22 with fail
          clear hq hm hw1 hw2 hw3 hw4 hw5 hw6
          have HRN : isP N = false → Hid (denR s = ([], false)) := fun h => by
            have h2 := HD5.out
            rw [h] at h2
            show denR s = _
            unfold denR
            rw [h2]
            rfl
          by_cases hbig : N > 1114111
          · have HR := HRN (isP_big hbig)
            clear HRN
            have hb : decide (1114111 < N) = true := decide_eq_true hbig
            clear hbig
            go_wp2_with fail
            refine bodyPost_ret (v := .tuple #[.slice none 0 0, .bool false]) (by simp [results, Try.results42, go_sem]) rfl ?_
            exact ⟨.slice none 0 0, by rw [HR.out], by rw [HR.out]; exact ⟨rfl, .inl ⟨rfl, rfl⟩⟩, HB1.out⟩
          · have hb : decide (1114111 < N) = false := decide_eq_false hbig
            have HBG : Hid (N ≤ 1114111) := Lib.hid (Int.not_lt.1 hbig)
            have hu32 := HSF.out.u32 HBG.out
            clear hbig
            go_wp2_with fail
            refine (is_c N _).mono ?_
            rintro e w2 ⟨rfl, hb2⟩
            have HB2 := Lib.hid (below_next HB1.out hb2)
            have HO2 : Hid (w2.ownsRow w.heap.size 51 1 (.slice A4 l.length c4) l.length (nums .u32 l)) := Lib.hid (own_below HO1.out hb2)
            clear hb2
            cases his : isP N with
            | false =>
              have HR := HRN his
              clear HRN his
              go_wp2_with fail
              refine bodyPost_ret (v := .tuple #[.slice none 0 0, .bool false]) (by simp [results, Try.results42, go_sem]) rfl ?_
              exact ⟨.slice none 0 0, by rw [HR.out], by rw [HR.out]; exact ⟨rfl, .inl ⟨rfl, rfl⟩⟩, HB2.out⟩
            | true =>
              have HD6 : Hid (denP s = denGo t f r2 (insL l mi N) N ((mi : Int) + 1) (adaptP r1 ((l.length : Int) + 1) once) false) := by
                have h := HD5.out
                rw [his] at h
                exact h
              clear HRN his
              have hw7 := HSF.out.w7
              have hw8 := HSF.out.w8
              go_wp2_with fail
              refine (insert_c (w0 := w) w.heap.size l mi N _ w2.heap.size (own_alloc HO2.out _) HSF.out.mle (heap_alloc_new _ _) (own_ne HO2.out) (below_new HB2.out _) (below_new HB2.out _).size HSF.out.ll).mono ?_
              rintro e w3 ⟨v3, rfl, ho3, hb3, _⟩
              have HO3 := Lib.hid ho3
              have HB3 := Lib.hid hb3
              clear ho3 hb3
              go_wp2_with fail
              refine (adapt_c r1 ((l.length : Int) + 1) once _ HGR.out.1 HGR.out.2.1 HSF.out.lp).mono ?_
              rintro e w4 ⟨rfl, hb4⟩
              have HB4 := Lib.hid (below_next HB3.out hb4)
              have HO4 : Hid (w4.ownsRow w.heap.size 51 1 v3 (insL l mi N).length (nums .u32 (insL l mi N))) := Lib.hid (own_below HO3.out hb4)
              clear hb4
              go_wp2_with fail
              go_roundg (t.size - r2.toNat)
              case measure => exact HSF.out.less
              case rel => exact ⟨insL l mi N, N, (mi : Int) + 1, adaptP r1 ((l.length : Int) + 1) once, r2, false, f, rfl, by go_num, rfl, rfl, rfl, Lib.hid HSF.out.invA, Lib.hid (HSF.out.invN HBG.out), HO4, HB4, HD6⟩
      · have HR : Hid (denR s = (l, true)) := by
          obtain ⟨f, rfl⟩ := HA.out.f1
          have h := HD.out
          rw [denGo, if_neg ha] at h
          show denR s = _
          unfold denR
          rw [h]
        have HO2 : Hid (wr.ownsRow w.heap.size 51 1 u4 l.length (nums .u32 l)) := HO
        go_wp2_with fail
        refine bodyPost_ret (v := .tuple #[u4, .bool true]) (by simp [results, Try.results42, go_sem]) rfl ?_
        exact ⟨u4, by rw [HR.out], by rw [HR.out]; exact HO2.out, HB.out⟩
end Go.Proofs.Ytegacgfhmigdjaa
