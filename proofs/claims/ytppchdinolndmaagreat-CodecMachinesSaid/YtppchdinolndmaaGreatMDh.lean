/- Joined texts: Dh, Dhn, Dhk. -/
import Derived.Test.YtppchdinolndmaaGreatMUstp
import Derived.Test.YtppchdinolndmaaGreatMBit
import Derived.Deep.CutBlock
namespace Go.Proofs.YtppchdinolndmaaGreat
open Go.RowKit Go.Proofs.YtppchdinolndmaaGreatW.PrintWords
set_option linter.unusedVariables false
set_option linter.unusedSimpArgs false
def fits16 (upper u : Int) : Bool := (decide (56320 ≤ u) && decide (u < 57344)) == (upper != 0)
def unitOf (big : Bool) (first b : Int) : Int := if big then first * 256 + b else first + b * 256
def nextH (big : Bool) (st : Bool × Int × Int) (b : Int) : Option ((Bool × Int × Int) × List Int) :=
 if st.1 = false then
  if big && !fits16 st.2.2 (b * 256) then none else some ((true, b, st.2.2), [])
 else if fits16 st.2.2 (unitOf big st.2.1 b) = false then none
 else if st.2.2 ≠ 0 then some ((false, st.2.1, 0), [65536 + (st.2.2 - 55296) * 1024 + (unitOf big st.2.1 b - 56320)])
 else if 55296 ≤ unitOf big st.2.1 b ∧ unitOf big st.2.1 b < 56320 then some ((false, st.2.1, unitOf big st.2.1 b), [])
 else some ((false, st.2.1, 0), [unitOf big st.2.1 b])
def DH (big : Bool) : DMach := ⟨Bool × Int × Int, (false, 0, 0), nextH big, fun st => if st.1 = false ∧ st.2.2 = 0 then some [] else none⟩
theorem DH_one (big : Bool) (st : (DH big).St) (b : Int) (st' : (DH big).St) (l : List Int) (h : (DH big).next st b = some (st', l)) : l.length ≤ 1 := by
 have h' : nextH big st b = some (st', l) := h
 unfold nextH at h'
 (repeat' split at h') <;> first | (cases h'; done) | (injection h' with h'; injection h' with _ h'; rw [← h']; decide) | (injection h' with h'; injection h' with _ h'; rw [← h']; simp)
def okH (st : Bool × Int × Int) : Prop := (0 ≤ st.2.1 ∧ st.2.1 ≤ 255) ∧ (st.2.2 = 0 ∨ (55296 ≤ st.2.2 ∧ st.2.2 ≤ 56319))
def EH (big : Bool) (w : World) (xs : List Value) (st : (DH big).St) (G : Nat → Prop) : Prop := xs = [.bool big, .bool st.1, .int .u8 st.2.1, .int .u32 st.2.2] ∧ okH st ∧ ∀ k, ¬ G k
theorem EH_ok (big : Bool) : EOk (DH big) (EH big) := ⟨fun h k hk => absurd hk (h.2.2 k), fun h _ _ => h⟩
abbrev TDH : TypeId := 125
theorem u32_orbb {x y : Int} (hx0 : 0 ≤ x) (hx : x ≤ 255) (hy0 : 0 ≤ y) (hy : y ≤ 255) : bits .or .u32 (x * 256) y = x * 256 + y := bits_join .u32 32 (by decide) wraps_u32 8 (x * 256) y (by omega) (by omega) (by omega) hy0 (by omega) (by omega)
theorem u32_orbl {x y : Int} (hx0 : 0 ≤ x) (hx : x ≤ 255) (hy0 : 0 ≤ y) (hy : y ≤ 255) : bits .or .u32 x (y * 256) = x + y * 256 := u32_or8 _ _ hx0 (by omega) (by omega) (by omega) (by omega)
set_option maxRecDepth 100000 in
theorem fits_c {w : World} {g : Nat} {upper : Int} (h : w.cell? ⟨g, 8, none⟩ = some (.int .u32 upper)) (u : Int) : Calls Tryz.prog 200 #[.pointer (some ⟨g, 0, none⟩), .int .u32 u] w fun e w' => e = .returned (.bool (fits16 upper u)) ∧ w = w' := by
 unfold fits16
 by_cases h1 : 56320 ≤ u
 ·have d1 : decide (56320 ≤ u) = true := decide_eq_true h1
  by_cases h2 : u < 57344
  ·have d2 : decide (u < 57344) = true := decide_eq_true h2
   go_enter Tryz.func200, Tryz.ntmps200
   go_wp2
   go_ret
   exact ⟨by simp [d1, d2], rfl⟩
  ·have d2 : decide (u < 57344) = false := decide_eq_false h2
   go_enter Tryz.func200, Tryz.ntmps200
   go_wp2
   go_ret
   exact ⟨by simp [d1, d2], rfl⟩
 ·have d1 : decide (56320 ≤ u) = false := decide_eq_false h1
  go_enter Tryz.func200, Tryz.ntmps200
  go_wp2
  go_ret
  exact ⟨by simp [d1], rfl⟩
theorem putH (big : Bool) {w : World} {g : Nat} {F : Nat → Prop} {d : DSt (DH big)} (h : GRep TDH (DH big) (EH big) w g F d) (he : d.err = 0) :
  (GRep TDH (DH big) (EH big) (w.setCell ⟨g, 8, none⟩ (.int .u32 0)) g F { d with st := (d.st.1, d.st.2.1, 0) } ∧ Eff w (w.setCell ⟨g, 8, none⟩ (.int .u32 0)) F) ∧ w.cell? ⟨g, 8, none⟩ = some (.int .u32 d.st.2.2) ∧ ∀ i, w.frozen? ⟨g, i, none⟩ = false := by
 obtain ⟨lv, st, xs, G, hb, hq, hF, hs, ⟨rfl, hok, hG⟩, hgg, hll⟩ := h
 obtain rfl := hs he
 obtain ⟨k1, k2⟩ := GRep.xset (by decide) w 3 (.int .u32 0) hb hq
 exact ⟨⟨⟨lv, (d.st.1, d.st.2.1, 0), _, G, k1, k2, hF, fun _ => rfl, ⟨rfl, ⟨hok.1, .inl rfl⟩, hG⟩, hgg, hll⟩, (Eff.set _ _ _ _).mono fun k _ e => (hF k).2 (.inl e)⟩, hb.cell rfl, hb.frozen⟩
set_option maxRecDepth 100000 in
set_option maxHeartbeats 4000000 in
theorem nextH_c (big : Bool) {w : World} {g : Nat} {F : Nat → Prop} {d : DSt (DH big)} (b : Int) (h : GRep TDH (DH big) (EH big) w g F d) (h0 : 0 ≤ b) (h1 : b ≤ 255) (hg : d.err = 0 ∧ d.en = false) (hl : d.held.length ≤ 9000000) :
  Calls Tryz.prog 199 #[.pointer (some ⟨g, 0, none⟩), .int .u8 b] w (NextP TDH (EH big) w g F d ((DH big).next d.st b)) := by
 have HH := Lib.hid h
 obtain ⟨lv, st, xs, G, hb, hq, hF, hs, ⟨rfl, hok, hG⟩, hgg, hll⟩ := h
 obtain rfl := hs hg.1
 obtain ⟨st, hst⟩ : ∃ st, d.st = st := ⟨_, rfl⟩
 rw [hst] at hb hok ⊢
 obtain ⟨half, first, upper⟩ := st
 obtain ⟨⟨hf0, hf1⟩, hup⟩ := hok
 simp only at hb hf0 hf1 hup
 have HB := Lib.hid hb
 have HQ := Lib.hid hq
 have HF := Lib.hid hF
 have HG := Lib.hid hG
 have HST := Lib.hid hst
 have c5 : w.cell? ⟨g, 5, none⟩ = some (.bool big) := hb.cell rfl
 have c6 : w.cell? ⟨g, 6, none⟩ = some (.bool half) := hb.cell rfl
 have c7 : w.cell? ⟨g, 7, none⟩ = some (.int .u8 first) := hb.cell rfl
 have c8 : w.cell? ⟨g, 8, none⟩ = some (.int .u32 upper) := hb.cell rfl
 have hfz := hb.frozen
 have hdn : (DH big).next (half, first, upper) b = nextH big (half, first, upper) b := rfl
 rw [hdn]
 clear hb hq hF hG hgg hll hst hs hdn
 cases half with
 | false =>
  obtain ⟨k1, k2⟩ := GRep.xset (by decide) w 2 (.int .u8 b) HB.out HQ.out
  obtain ⟨k3, k4⟩ := GRep.xset (by decide) _ 1 (.bool true) k1 k2
  have HK := Lib.hid (And.intro k3 k4)
  have HE : Hid (Eff w ((w.setCell ⟨g, 7, none⟩ (.int .u8 b)).setCell ⟨g, 6, none⟩ (.bool true)) (fun k => k = g)) := Lib.hid ((Eff.set _ _ _ _).trans (Eff.set _ _ _ _) (fun _ _ h => h))
  have hfz1 := k1.frozen
  obtain ⟨w2, hw2⟩ : ∃ w2, (w.setCell ⟨g, 7, none⟩ (.int .u8 b)).setCell ⟨g, 6, none⟩ (.bool true) = w2 := ⟨_, rfl⟩
  have c65 : (w.setCell ⟨g, 7, none⟩ (.int .u8 b)).cell? ⟨g, 6, none⟩ = some (.bool false) := k1.cell rfl
  have HRES : Hid (GRep TDH (DH big) (EH big) w2 g F { d with st := (true, b, upper), held := d.held ++ [] }) := by
   rw [← hw2]
   exact Lib.hid ⟨lv, (true, b, upper), _, G, k3, by simpa using k4, HF.out, fun _ => rfl, ⟨rfl, ⟨⟨h0, h1⟩, hup⟩, HG.out⟩, HG.out g, fun k _ => HG.out k⟩
  rw [hw2] at HK HE
  have c25 : w2.cell? ⟨g, 5, none⟩ = some (.bool big) := HK.out.1.cell rfl
  have c26 : w2.cell? ⟨g, 6, none⟩ = some (.bool true) := HK.out.1.cell rfl
  have c28 : w2.cell? ⟨g, 8, none⟩ = some (.int .u32 upper) := HK.out.1.cell rfl
  have hfz2 := HK.out.1.frozen
  clear k1 k2 k3 k4
  cases big with
  | false =>
   have hn : nextH false (false, first, upper) b = some ((true, b, upper), []) := by unfold nextH; simp
   rw [hn]
   go_enter Tryz.func199, Tryz.ntmps199
   go_wp2_with fail
   go_ret
   exact ⟨F, ⟨rfl, HRES.out⟩, HE.out.mono fun k _ e => (HF.out k).2 (.inl e), fun k h => .inl h⟩
  | true =>
   have HFT := Lib.hid (fits_c c28 (b * 256))
   cases hft : fits16 upper (b * 256) with
   | true =>
    have hn : nextH true (false, first, upper) b = some ((true, b, upper), []) := by unfold nextH; simp [hft]
    rw [hn]
    rw [hft] at HFT
    clear hft hn
    go_enter Tryz.func199, Tryz.ntmps199
    go_wp2_with (go_at_call 200; refine HFT.out.mono ?_; rintro e w3 ⟨rfl, rfl⟩)
    go_ret
    exact ⟨F, ⟨rfl, HRES.out⟩, HE.out.mono fun k _ e => (HF.out k).2 (.inl e), fun k h => .inl h⟩
   | false =>
    have hn : nextH true (false, first, upper) b = none := by unfold nextH; simp [hft]
    rw [hn]
    rw [hft] at HFT
    clear hft hn
    go_enter Tryz.func199, Tryz.ntmps199
    go_wp2_with (go_at_call 200; refine HFT.out.mono ?_; rintro e w3 ⟨rfl, rfl⟩)
    go_ret
    obtain ⟨k5, k6⟩ := GRep.xset (by decide) _ 1 (.bool false) HK.out.1 HK.out.2
    exact ⟨F, ⟨rfl, (false, b, upper), lv, (false, b, upper), _, G, k5, k6, HF.out, fun _ => rfl, ⟨rfl, ⟨⟨h0, h1⟩, hup⟩, HG.out⟩, HG.out g, fun k _ => HG.out k⟩, (HE.out.trans (Eff.set _ _ _ _) (fun _ _ h => h)).mono fun k _ e => (HF.out k).2 (.inl e), fun k h => .inl h⟩
 | true =>
  obtain ⟨u, hu⟩ : ∃ u, unitOf big first b = u := ⟨_, rfl⟩
  have hur : 0 ≤ u ∧ u ≤ 65535 := by rw [← hu]; unfold unitOf; split <;> omega
  have hnx : nextH big (true, first, upper) b = if fits16 upper u = false then none else if upper ≠ 0 then some ((false, first, 0), [65536 + (upper - 55296) * 1024 + (u - 56320)]) else if 55296 ≤ u ∧ u < 56320 then some ((false, first, u), []) else some ((false, first, 0), [u]) := by
   unfold nextH; simp only [hu]; rfl
  have HNX := Lib.hid hnx
  have HUR := Lib.hid hur
  have HU := Lib.hid hu
  clear hnx hur hu
  have HFT := Lib.hid (fits_c c8 u)
  have el : bits .or .u32 first (b * 256) = first + b * 256 := u32_orbl hf0 hf1 h0 h1
  have eb : bits .or .u32 (first * 256) b = first * 256 + b := u32_orbb hf0 hf1 h0 h1
  go_enter Tryz.func199, Tryz.ntmps199
  go_upto_if 45 with fail
  go_cut [5] (fun s5 wx => s5 = .int .u32 u ∧ wx = w)
  case first =>
   cases big with
   | false =>
    go_wp2_with fail
    go_meet
    exact ⟨by rw [← HU.out]; rfl, rfl⟩
   | true =>
    go_wp2_with fail
    go_meet
    exact ⟨by rw [← HU.out]; rfl, rfl⟩
  case rest =>
   obtain ⟨rfl, hww⟩ := hcut
   obtain rfl := hww.symm
   clear hww el eb
   cases hft : fits16 upper u with
   | false =>
    rw [hft] at HFT
    have HN : Hid (nextH big (true, first, upper) b = none) := Lib.hid (by rw [HNX.out, if_pos hft])
    clear hft
    go_wp2_with (go_at_call 200; refine HFT.out.mono ?_; rintro e w3 ⟨rfl, rfl⟩)
    go_ret
    rw [HN.out]
    exact ⟨F, ⟨rfl, d.st, HH.out⟩, Eff.refl _ _, fun k h => .inl h⟩
   | true =>
    rw [hft] at HFT
    have HN : Hid (nextH big (true, first, upper) b = if upper ≠ 0 then some ((false, first, 0), [65536 + (upper - 55296) * 1024 + (u - 56320)]) else if 55296 ≤ u ∧ u < 56320 then some ((false, first, u), []) else some ((false, first, 0), [u])) := Lib.hid (by rw [HNX.out, if_neg (by rw [hft]; decide)])
    have HFI : Hid (upper ≠ 0 → 56320 ≤ u ∧ u < 57344) := Lib.hid (fun hu => by
     unfold fits16 at hft
     have e : (upper != 0) = true := by simpa using hu
     rw [e] at hft
     simp at hft
     exact hft)
    clear hft HNX
    obtain ⟨k1, k2⟩ := GRep.xset (by decide) w 1 (.bool false) HB.out HQ.out
    have HK := Lib.hid (And.intro k1 k2)
    have HE : Hid (Eff w (w.setCell ⟨g, 6, none⟩ (.bool false)) (fun k => k = g)) := Lib.hid (Eff.set _ _ _ _)
    clear k1 k2
    go_upto_region 12 with (go_at_call 200; refine HFT.out.mono ?_; rintro e w3 ⟨rfl, rfl⟩)
    obtain ⟨w2, hw2⟩ : ∃ w2, w.setCell ⟨g, 6, none⟩ (.bool false) = w2 := ⟨_, rfl⟩
    rw [hw2] at HK HE
    have c28 : w2.cell? ⟨g, 8, none⟩ = some (.int .u32 upper) := HK.out.1.cell rfl
    have hfz2 := HK.out.1.frozen
    have hur1 := HUR.out.1
    have hur2 := HUR.out.2
    by_cases hu0 : upper = 0
    ·subst hu0
     by_cases hs1 : 55296 ≤ u ∧ u < 56320
     ·have d1 : decide (55296 ≤ u) = true := decide_eq_true hs1.1
      have d2 : decide (u < 56320) = true := decide_eq_true hs1.2
      have HN2 : Hid (nextH big (true, first, 0) b = some ((false, first, u), [])) := Lib.hid (by rw [HN.out, if_neg (by decide), if_pos hs1])
      obtain ⟨k5, k6⟩ := GRep.xset (by decide) w2 3 (.int .u32 u) HK.out.1 HK.out.2
      have HK5 := Lib.hid (And.intro k5 k6)
      have HUO := Lib.hid hs1
      clear k5 k6 HN hs1
      go_wp2_with fail
      go_ret
      rw [HN2.out]
      refine ⟨F, ⟨rfl, lv, (false, first, u), _, G, HK5.out.1, by simpa using HK5.out.2, HF.out, fun _ => rfl, ⟨rfl, ⟨⟨hf0, hf1⟩, .inr ⟨HUO.out.1, by have := HUO.out.2; show u ≤ 56319; omega⟩⟩, HG.out⟩, HG.out g, fun k _ => HG.out k⟩, (HE.out.trans (Eff.set _ _ _ _) (fun _ _ h => h)).mono fun k _ e => (HF.out k).2 (.inl e), fun k h => .inl h⟩
     ·have HN2 : Hid (nextH big (true, first, 0) b = some ((false, first, 0), [u])) := Lib.hid (by rw [HN.out, if_neg (by decide), if_neg hs1])
      have d3 : decide (55296 ≤ u ∧ u < 56320) = false := decide_eq_false hs1
      have HG2 : Hid (GRep TDH (DH big) (EH big) w2 g F { d with st := (false, first, 0) }) := Lib.hid ⟨lv, (false, first, 0), _, G, HK.out.1, HK.out.2, HF.out, fun _ => rfl, ⟨rfl, ⟨⟨hf0, hf1⟩, .inl rfl⟩, HG.out⟩, HG.out g, fun k _ => HG.out k⟩
      have HA := Lib.hid (HG2.out.eff (EH_ok big) (Eff.alloc w2 (.cells #[.int .u32 u] 47 (0, 0)) (fun _ => False)) (fun _ _ h => h))
      have HHO := Lib.hid (GRep.hold (EH_ok big) (by decide) HA.out (c := 1) (reads_u32 w2 u) (by show d.held.length + 1 ≤ _; omega))
      have FIN : Hid (∀ w6 F6, GRep TDH (DH big) (EH big) w6 g F6 { d with st := (false, first, 0), held := d.held ++ [u] } → Eff (w2.alloc (.cells #[.int .u32 u] 47 (0, 0))) w6 F → (∀ k, F6 k → F k ∨ (w2.alloc (.cells #[.int .u32 u] 47 (0, 0))).heap.size ≤ k) →
        NextP TDH (EH big) w g F d (some ((false, first, 0), [u])) (.returned (.bool true)) w6) := Lib.hid fun w6 F6 a1 a2 a3 => by
       refine ⟨F6, ⟨rfl, a1⟩, (HE.out.mono (fun k _ e => (HF.out k).2 (.inl e))).trans ((Eff.alloc w2 _ F).trans a2 (fun _ _ h => h)) (fun _ _ h => h), fun k h => (a3 k h).elim .inl fun h => .inr ?_⟩
       have b1 := HE.out.size
       have b2 : w2.heap.size ≤ (w2.alloc (.cells #[.int .u32 u] 47 (0, 0))).heap.size := by simp
       omega
      clear HN HG2 HA
      by_cases hs2 : 55296 ≤ u
      ·have d1 : decide (55296 ≤ u) = true := decide_eq_true hs2
       have d2 : decide (u < 56320) = false := decide_eq_false fun h => hs1 ⟨hs2, h⟩
       clear hs1 hs2
       go_wp2_with (go_at_call 195; refine HHO.out.mono ?_; rintro e w6 ⟨rfl, F6, hr6, he6, hf6⟩)
       go_ret
       rw [HN2.out]
       exact FIN.out _ _ hr6 he6 hf6
      ·have d1 : decide (55296 ≤ u) = false := decide_eq_false hs2
       clear hs1 hs2
       go_wp2_with (go_at_call 195; refine HHO.out.mono ?_; rintro e w6 ⟨rfl, F6, hr6, he6, hf6⟩)
       go_ret
       rw [HN2.out]
       exact FIN.out _ _ hr6 he6 hf6
    ·have hub : 55296 ≤ upper ∧ upper ≤ 56319 := hup.elim (fun h => absurd h hu0) id
     have hub1 := hub.1
     have hub2 := hub.2
     have hue : (upper != 0) = true := by simpa using hu0
     have hui := HFI.out hu0
     have hui1 := hui.1
     have hui2 := hui.2
     obtain ⟨x, hx⟩ : ∃ x, 65536 + (upper - 55296) * 1024 + (u - 56320) = x := ⟨_, rfl⟩
     have HN2 : Hid (nextH big (true, first, upper) b = some ((false, first, 0), [x])) := Lib.hid (by rw [HN.out, if_pos hu0, hx])
     have HX := Lib.hid hx
     have HG2 : Hid (GRep TDH (DH big) (EH big) w2 g F { d with st := (false, first, upper) }) := Lib.hid ⟨lv, (false, first, upper), _, G, HK.out.1, HK.out.2, HF.out, fun _ => rfl, ⟨rfl, ⟨⟨hf0, hf1⟩, hup⟩, HG.out⟩, HG.out g, fun k _ => HG.out k⟩
     have HHD := Lib.hid (GRep.hold (EH_ok big) (by decide) (d := { d with st := (false, first, upper) }) (HG2.out.eff (EH_ok big) (show Eff w2 (w2.alloc (.cells #[.int .u32 x] 47 (0, 0))).drew (fun _ => False) from (Eff.alloc w2 _ _).trans (Eff.drewN _ 1 _) (fun _ _ h => h)) (fun _ _ h => h)) (c := 1) (show ReadsInt (w2.alloc (.cells #[.int .u32 x] 47 (0, 0))).drew .u32 (some ⟨w2.heap.size, 0, none⟩) [x].length [x] from reads_u32 w2 x) (by show d.held.length + 1 ≤ _; omega))
     have hx2 : IntKind.u32.wrap (IntKind.u32.wrap (65536 + IntKind.u32.wrap (IntKind.u32.wrap (upper - 55296) * 1024)) + IntKind.u32.wrap (u - 56320)) = x := by
      simp only [IntKind.wrap_u32]
      omega
     have HX2 := Lib.hid hx2
     have HZA : Hid (w2.heap.size ≤ (w2.alloc (.cells #[.int .u32 x] 47 (0, 0))).drew.heap.size) := Lib.hid (show Eff w2 (w2.alloc (.cells #[.int .u32 x] 47 (0, 0))).drew (fun _ => False) from (Eff.alloc w2 _ _).trans (Eff.drewN _ 1 _) (fun _ _ h => h)).size
     clear HN hub hui hu0 hup hx2
     go_upto_region 15 with fail
     go_cut [] (fun wx => ∃ F6, Hid (GRep TDH (DH big) (EH big) wx g F6 { d with st := (false, first, upper), held := d.held ++ [x] } ∧ Eff w2 wx F ∧ ∀ k, F6 k → F k ∨ w2.heap.size ≤ k))
     case first =>
      go_region_with (go_at_call 195; rw [HX2.out]; refine HHD.out.mono ?_; rintro e w6 ⟨rfl, F6, hr6, he6, hf6⟩; have HR6 := Lib.hid (And.intro hr6 (And.intro he6 hf6)); clear hr6 he6 hf6)
      all_goals (go_wp2_with fail; go_meet)
      all_goals
       refine ⟨F6, Lib.hid ⟨HR6.out.1, ((Eff.alloc w2 _ F).trans (Eff.drewN _ 1 _) (fun _ _ h => h)).trans HR6.out.2.1 (fun _ _ h => h), fun k h => (HR6.out.2.2 k h).elim .inl (fun h => .inr (Nat.le_trans HZA.out h))⟩⟩
     case rest =>
      obtain ⟨F6, H6⟩ := hcut
      have hpH := putH big H6.out.1 hg.1
      obtain ⟨d1, d2, d3⟩ := hpH
      have HD1 := Lib.hid d1
      clear d1 HX2 HHD
      go_wp2_with fail
      go_ret
      rw [HN2.out]
      exact ⟨F6, ⟨rfl, HD1.out.1⟩, ((HE.out.mono (fun k _ e => (HF.out k).2 (.inl e))).trans H6.out.2.1 (fun _ _ h => h)).trans HD1.out.2 (fun k hk h => (H6.out.2.2 k h).elim id (fun h2 => by have := HE.out.size; omega)), fun k h => (H6.out.2.2 k h).elim .inl (fun h2 => .inr (Nat.le_trans HE.out.size h2))⟩
set_option maxRecDepth 100000 in
set_option maxHeartbeats 4000000 in
theorem finH (big : Bool) {w : World} {g : Nat} {F : Nat → Prop} {d : DSt (DH big)} (h : GRep TDH (DH big) (EH big) w g F d) :
  Calls Tryz.prog 197 #[.pointer (some ⟨g, 0, none⟩)] w fun e w' => ∃ F', e = .returned (.tuple #[]) ∧ GRep TDH (DH big) (EH big) w' g F' (endD (DH big) d) ∧ Eff w w' F ∧ (∀ k, F' k → F k ∨ w.heap.size ≤ k) := by
 have HH := Lib.hid h
 obtain ⟨lv, st, xs, G, hb, hq, hF, hs, ⟨rfl, hok, hG⟩, hgg, hll⟩ := h
 have c6 : w.cell? ⟨g, 6, none⟩ = some (.bool st.1) := hb.cell rfl
 have c8 : w.cell? ⟨g, 8, none⟩ = some (.int .u32 st.2.2) := hb.cell rfl
 have HS := Lib.hid hs
 clear hb hq hF hgg hll hs hG hok
 obtain ⟨half, first, upper⟩ := st
 simp only at c6 c8
 have HOP : Hid (d.err = 0 → (DH big).fin d.st = if half = false ∧ upper = 0 then some [] else none) := Lib.hid fun he => by rw [← HS.out he]; rfl
 clear HS
 have hopen : ∀ (hc : ¬ (half = false ∧ upper = 0)), d.err = 0 ∧ d.en = false → endD (DH big) d = { d with err := 4, fat := d.pos } := fun hc hg => by
  unfold endD; rw [if_pos hg, HOP.out hg.1, if_neg hc]
 have hshut : ∀ (hc : half = false ∧ upper = 0), d.err = 0 ∧ d.en = false → endD (DH big) d = { d with en := true } := fun hc hg => by
  unfold endD; rw [if_pos hg, HOP.out hg.1, if_pos hc]; simp
 have hnot : ¬ (d.err = 0 ∧ d.en = false) → endD (DH big) d = d := fun hg => by unfold endD; rw [if_neg hg]
 have HOPEN := Lib.hid hopen
 have HSHUT := Lib.hid hshut
 have HNOT := Lib.hid hnot
 clear hopen hshut hnot HOP
 by_cases hc : half = false ∧ upper = 0
 ·obtain ⟨rfl, rfl⟩ := hc
  by_cases hg : d.err = 0 ∧ d.en = false
  ·have HE := Lib.hid (HH.out.ending (EH_ok big) (by decide) hg)
   have HG := Lib.hid hg
   clear hg
   go_enter Tryz.func197, Tryz.ntmps197
   go_wp2_with (go_at_call 99; refine HE.out.mono ?_; rintro e w1 ⟨rfl, hr1, he1⟩)
   refine bodyPost_end (v := .tuple #[]) (by simp [results, Tryz.results197, go_sem]) rfl ⟨F, rfl, ?_, he1, fun k h => .inl h⟩
   rw [HSHUT.out (by simp) HG.out]
   exact hr1
  ·have HE := Lib.hid (HH.out.ended hg)
   have HG := Lib.hid hg
   clear hg
   go_enter Tryz.func197, Tryz.ntmps197
   go_wp2_with (go_at_call 99; refine HE.out.mono ?_; rintro e w1 ⟨rfl, rfl⟩)
   refine bodyPost_end (v := .tuple #[]) (by simp [results, Tryz.results197, go_sem]) rfl ⟨F, rfl, ?_, Eff.refl _ _, fun k h => .inl h⟩
   rw [HNOT.out HG.out]
   exact HH.out
 ·have HC := Lib.hid hc
  have hsp : half = true ∨ (half = false ∧ upper ≠ 0) := by
   cases half with
   | true => exact .inl rfl
   | false => exact .inr ⟨rfl, fun e => hc ⟨rfl, e⟩⟩
  clear hc
  by_cases hg : d.err = 0 ∧ d.en = false
  ·have HST := Lib.hid (HH.out.stop (EH_ok big) (by decide) hg 4 (by decide) d.st)
   have HG := Lib.hid hg
   clear hg
   have FIN : Hid (∀ w1, GRep TDH (DH big) (EH big) w1 g F { d with err := 4, fat := d.pos, st := d.st } → Calls Tryz.prog 99 #[.pointer (some ⟨g, 0, none⟩)] w1 fun e w' => e = .returned (.tuple #[]) ∧ w1 = w') := Lib.hid fun w1 hr => hr.ended (fun h => by have h1 : (4 : Int) = 0 := h.1; omega)
   rcases hsp with rfl | ⟨rfl, hup⟩
   ·go_enter Tryz.func197, Tryz.ntmps197
    go_upto_region 2 with (go_at_call 106; refine HST.out.mono ?_; rintro e w1 ⟨rfl, hr1, he1⟩)
    have HR1 := Lib.hid (And.intro hr1 he1)
    have HE := Lib.hid (FIN.out w1 hr1)
    clear hr1 he1
    go_wp2_with (go_at_call 99; refine HE.out.mono ?_; rintro e w2 ⟨rfl, rfl⟩)
    refine bodyPost_end (v := .tuple #[]) (by simp [results, Tryz.results197, go_sem]) rfl ⟨F, rfl, ?_, HR1.out.2, fun k h => .inl h⟩
    rw [HOPEN.out HC.out HG.out]
    exact HR1.out.1
   ·have hup1 : (upper != 0) = true := by simpa using hup
    go_enter Tryz.func197, Tryz.ntmps197
    go_upto_region 2 with (go_at_call 106; refine HST.out.mono ?_; rintro e w1 ⟨rfl, hr1, he1⟩)
    have HR1 := Lib.hid (And.intro hr1 he1)
    have HE := Lib.hid (FIN.out w1 hr1)
    clear hr1 he1
    go_wp2_with (go_at_call 99; refine HE.out.mono ?_; rintro e w2 ⟨rfl, rfl⟩)
    refine bodyPost_end (v := .tuple #[]) (by simp [results, Tryz.results197, go_sem]) rfl ⟨F, rfl, ?_, HR1.out.2, fun k h => .inl h⟩
    rw [HOPEN.out HC.out HG.out]
    exact HR1.out.1
  ·have HE := Lib.hid (HH.out.ended hg)
   have HST := Lib.hid (HH.out.stopped hg 4)
   have HG := Lib.hid hg
   clear hg
   rcases hsp with rfl | ⟨rfl, hup⟩
   ·go_enter Tryz.func197, Tryz.ntmps197
    go_wp2_with (first
     | (go_at_call 106; refine HST.out.mono ?_; rintro e w1 ⟨rfl, rfl⟩)
     | (go_at_call 99; refine HE.out.mono ?_; rintro e w2 ⟨rfl, rfl⟩))
    refine bodyPost_end (v := .tuple #[]) (by simp [results, Tryz.results197, go_sem]) rfl ⟨F, rfl, ?_, Eff.refl _ _, fun k h => .inl h⟩
    rw [HNOT.out HG.out]
    exact HH.out
   ·have hup1 : (upper != 0) = true := by simpa using hup
    go_enter Tryz.func197, Tryz.ntmps197
    go_wp2_with (first
     | (go_at_call 106; refine HST.out.mono ?_; rintro e w1 ⟨rfl, rfl⟩)
     | (go_at_call 99; refine HE.out.mono ?_; rintro e w2 ⟨rfl, rfl⟩))
    refine bodyPost_end (v := .tuple #[]) (by simp [results, Tryz.results197, go_sem]) rfl ⟨F, rfl, ?_, Eff.refl _ _, fun k h => .inl h⟩
    rw [HNOT.out HG.out]
    exact HH.out
theorem kH (big : Bool) : DecK 67 198 197 (DH big) (GRep TDH (DH big) (EH big)) where
 invF := by intro n g x y w; kernel_rfl
 invE := by intro n g w; kernel_rfl
 invD := by intro n g w; kernel_rfl
 invW := by intro n g w; kernel_rfl
 lt h k hk := h.lt (EH_ok big) k hk
 eff h he hs := h.eff (EH_ok big) he hs
 feed s room h hp hh := feedG (EH_ok big) (by decide) (DH_one big) _ _ (.inr (.inl ⟨rfl, rfl⟩)) (nextH_c big) s room h hp hh
 fin h _ _ := finH big h
 done h := h.done
 fail h := h.fail
theorem newH_c (big : Bool) (w : World) : Calls Tryz.prog 23 #[.bool big] w fun e w' => e = .returned (.pointer (some ⟨w.heap.size, 0, none⟩)) ∧ w' = w.alloc (.cells (gcs (DSt.new (DH big)) (.slice none 0 0) [.bool big, .bool false, .int .u8 0, .int .u32 0]) TDH (0, 0)) := by
 go_enter Tryz.func23, Tryz.ntmps23
 go_wp2_with fail
 go_ret
 exact ⟨rfl, rfl⟩
theorem newH_rep (big : Bool) (w : World) : GRep TDH (DH big) (EH big) (w.alloc (.cells (gcs (DSt.new (DH big)) (.slice none 0 0) [.bool big, .bool false, .int .u8 0, .int .u32 0]) TDH (0, 0))) w.heap.size (fun k => k = w.heap.size) (DSt.new (DH big)) :=
 ⟨.slice none 0 0, (false, 0, 0), _, fun _ => False, Blk.new w _ _, ⟨rfl, .inl ⟨rfl, none, rfl, fun a h => by cases h⟩⟩, fun k => ⟨.inl, fun h => h.elim id (fun h => h.elim (fun h => by cases h) False.elim)⟩, fun _ => rfl, ⟨rfl, ⟨by decide, .inl rfl⟩, fun _ h => h⟩, fun h => h, fun _ _ h => h⟩
set_option maxRecDepth 100000 in
theorem newD2 : NewD 2 67 (DH true) (GRep TDH (DH true) (EH true)) := by
 intro w
 go_enter Tryz.func7, Tryz.ntmps7
 go_wp2_with (go_at_call 23; refine (newH_c true _).mono ?_; rintro e w' ⟨rfl, rfl⟩)
 refine bodyPost_ret (v := .tuple #[.iface 67 (.pointer (some ⟨w.heap.size, 0, none⟩)), .int .i64 0]) (by simp [results, Tryz.results7, go_sem]) rfl ?_
 exact ⟨_, _, rfl, below_new (Below.refl _ _) _, newH_rep true w, fun k hk => Nat.le_of_eq hk.symm⟩
set_option maxRecDepth 100000 in
theorem newD3 : NewD 3 67 (DH false) (GRep TDH (DH false) (EH false)) := by
 intro w
 go_enter Tryz.func7, Tryz.ntmps7
 go_wp2_with (go_at_call 23; refine (newH_c false _).mono ?_; rintro e w' ⟨rfl, rfl⟩)
 refine bodyPost_ret (v := .tuple #[.iface 67 (.pointer (some ⟨w.heap.size, 0, none⟩)), .int .i64 0]) (by simp [results, Tryz.results7, go_sem]) rfl ?_
 exact ⟨_, _, rfl, below_new (Below.refl _ _) _, newH_rep false w, fun k hk => Nat.le_of_eq hk.symm⟩
end Go.Proofs.YtppchdinolndmaaGreat
