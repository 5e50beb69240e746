/- Joined texts: Dw, Dwn, Dwk. -/
import Derived.Test.YtppchdinolndmaaGreatMUstp
import Derived.Test.YtppchdinolndmaaGreatMBit
import Derived.Deep.CutBlock
namespace Go.Proofs.YtppchdinolndmaaGreat
open Go.RowKit Go.Proofs.YtppchdinolndmaaGreatW.PrintWords
set_option linter.unusedVariables false
set_option linter.unusedSimpArgs false
def fitsW (big : Bool) (v c : Int) : Bool :=
 if v = 3 then isScal c
 else if big = true ∧ v = 0 then c == 0
 else if big = true ∧ v = 1 then decide (c ≤ 16)
 else if big = true then isScal (c * 256)
 else if v = 2 then isScal c
 else true
def moreW (big : Bool) (v c b : Int) : Int := if big then c * 256 + b else c + b * (if v = 0 then 1 else if v = 1 then 256 else if v = 2 then 65536 else 16777216)
def nextW (big : Bool) (st : Int × Int) (b : Int) : Option ((Int × Int) × List Int) :=
 if fitsW big st.1 (moreW big st.1 st.2 b) = false then none
 else if st.1 = 3 then some ((0, 0), [moreW big st.1 st.2 b])
 else some ((st.1 + 1, moreW big st.1 st.2 b), [])
def DW (big : Bool) : DMach := ⟨Int × Int, (0, 0), nextW big, fun st => if st.1 = 0 then some [] else none⟩
theorem DW_one (big : Bool) (st : (DW big).St) (b : Int) (st' : (DW big).St) (l : List Int) (h : (DW big).next st b = some (st', l)) : l.length ≤ 1 := by
 have h' : nextW big st b = some (st', l) := h
 unfold nextW at h'
 (repeat' split at h') <;> first | (cases h'; done) | (injection h' with h'; injection h' with _ h'; rw [← h']; decide) | (injection h' with h'; injection h' with _ h'; rw [← h']; simp)
def okW (st : Int × Int) : Prop := 0 ≤ st.2 ∧ ((st.1 = 0 ∧ st.2 < 1) ∨ (st.1 = 1 ∧ st.2 < 256) ∨ (st.1 = 2 ∧ st.2 < 65536) ∨ (st.1 = 3 ∧ st.2 < 16777216))
theorem okW_more {big : Bool} {v c b : Int} (h : okW (v, c)) (h0 : 0 ≤ b) (h1 : b ≤ 255) (hv : v ≠ 3) : okW (v + 1, moreW big v c b) := by
 obtain ⟨hc, h⟩ := h
 simp only at hc h
 unfold okW moreW
 simp only
 rcases h with ⟨rfl, h⟩ | ⟨rfl, h⟩ | ⟨rfl, h⟩ | ⟨rfl, h⟩
 ·cases big <;> simp <;> omega
 ·cases big <;> simp <;> omega
 ·cases big <;> simp <;> omega
 ·exact absurd rfl hv
theorem moreW_range {big : Bool} {v c b : Int} (h : okW (v, c)) (h0 : 0 ≤ b) (h1 : b ≤ 255) : 0 ≤ moreW big v c b ∧ moreW big v c b ≤ 4294967295 ∧ (v ≠ 3 → moreW big v c b < 16777216) := by
 obtain ⟨hc, h⟩ := h
 simp only at hc h
 unfold moreW
 rcases h with ⟨rfl, h⟩ | ⟨rfl, h⟩ | ⟨rfl, h⟩ | ⟨rfl, h⟩ <;> cases big <;> simp <;> omega
def EW (big : Bool) (w : World) (xs : List Value) (st : (DW big).St) (G : Nat → Prop) : Prop := xs = [.bool big, .int .i64 st.1, .int .u32 st.2] ∧ okW st ∧ ∀ k, ¬ G k
theorem EW_ok (big : Bool) : EOk (DW big) (EW big) := ⟨fun h k hk => absurd hk (h.2.2 k), fun h _ _ => h⟩
abbrev TDW : TypeId := 127
theorem orW8 {x y : Int} (hx0 : 0 ≤ x) (hx : x < 16777216) (hy0 : 0 ≤ y) (hy : y ≤ 255) : bits .or .u32 (x * 256) y = x * 256 + y := bits_join .u32 32 (by decide) wraps_u32 8 (x * 256) y (by omega) (by omega) (by omega) hy0 (by omega) (by omega)
theorem orL8 {x y : Int} (hx0 : 0 ≤ x) (hx : x < 256) (hy0 : 0 ≤ y) (hy : y ≤ 255) : bits .or .u32 x (y * 256) = x + y * 256 := u32_or8 _ _ hx0 (by omega) (by omega) (by omega) (by omega)
theorem orL16 {x y : Int} (hx0 : 0 ≤ x) (hx : x < 65536) (hy0 : 0 ≤ y) (hy : y ≤ 255) : bits .or .u32 x (y * 65536) = x + y * 65536 := u32_or16 _ _ hx0 (by omega) (by omega) (by omega) (by omega)
theorem orL24 {x y : Int} (hx0 : 0 ≤ x) (hx : x < 16777216) (hy0 : 0 ≤ y) (hy : y ≤ 255) : bits .or .u32 x (y * 16777216) = x + y * 16777216 := u32_or24 _ _ hx0 (by omega) (by omega) (by omega) (by omega)
theorem orL0 {y : Int} (hy0 : 0 ≤ y) (hy : y ≤ 255) : bits .or .u32 0 y = y := by
 have h := bits_join .u32 32 (by decide) wraps_u32 8 0 y (by decide) (by decide) (by decide) hy0 (by omega) (by omega)
 omega
set_option maxRecDepth 100000 in
theorem fitsW_c (big : Bool) {w : World} {g : Nat} {v : Int} (hv : 0 ≤ v ∧ v ≤ 3) (h5 : w.cell? ⟨g, 5, none⟩ = some (.bool big)) (h6 : w.cell? ⟨g, 6, none⟩ = some (.int .i64 v)) (c : Int) (hc : 0 ≤ c ∧ c ≤ 4294967295) (hc3 : v ≠ 3 → c < 16777216) :
  Calls Tryz.prog 204 #[.pointer (some ⟨g, 0, none⟩), .int .u32 c] w fun e w' => e = .returned (.bool (fitsW big v c)) ∧ Below w.heap.size w w' := by
 have hs := Lib.hid (fun W => scal_c c W)
 have hs2 := Lib.hid (fun W => scal_c (c * 256) W)
 have h : v = 0 ∨ v = 1 ∨ v = 2 ∨ v = 3 := by omega
 rcases h with rfl | rfl | rfl | rfl
 ·have hcc := hc3 (by decide)
  cases big
  all_goals unfold fitsW
  all_goals go_enter Tryz.func204, Tryz.ntmps204
  all_goals go_wp2_with fail
  all_goals go_ret
  all_goals exact ⟨by simp, Below.refl _ _⟩
 ·have hcc := hc3 (by decide)
  cases big
  all_goals unfold fitsW
  all_goals go_enter Tryz.func204, Tryz.ntmps204
  all_goals go_wp2_with fail
  all_goals go_ret
  all_goals exact ⟨by simp, Below.refl _ _⟩
 ·have hcc := hc3 (by decide)
  have hc0 := hc.1
  cases big
  ·unfold fitsW
   go_enter Tryz.func204, Tryz.ntmps204
   go_wp2_with (go_at_call 105; refine (hs.out _).mono ?_; rintro e w1 ⟨rfl, hb1⟩)
   go_ret
   exact ⟨by simp, hb1⟩
  ·unfold fitsW
   go_enter Tryz.func204, Tryz.ntmps204
   go_wp2_with (go_at_call 105; refine (hs2.out _).mono ?_; rintro e w1 ⟨rfl, hb1⟩)
   go_ret
   exact ⟨by simp, hb1⟩
 ·cases big
  ·unfold fitsW
   go_enter Tryz.func204, Tryz.ntmps204
   go_wp2_with (go_at_call 105; refine (hs.out _).mono ?_; rintro e w1 ⟨rfl, hb1⟩)
   go_ret
   exact ⟨by simp, hb1⟩
  ·unfold fitsW
   go_enter Tryz.func204, Tryz.ntmps204
   go_wp2_with (go_at_call 105; refine (hs.out _).mono ?_; rintro e w1 ⟨rfl, hb1⟩)
   go_ret
   exact ⟨by simp, hb1⟩
theorem putW (big : Bool) {w : World} {g : Nat} {F : Nat → Prop} {d : DSt (DW big)} (h : GRep TDW (DW big) (EW big) w g F d) (he : d.err = 0) (v c : Int) (hok : okW (v, c)) :
  GRep TDW (DW big) (EW big) ((w.setCell ⟨g, 7, none⟩ (.int .u32 c)).setCell ⟨g, 6, none⟩ (.int .i64 v)) g F { d with st := (v, c) } ∧ Eff w ((w.setCell ⟨g, 7, none⟩ (.int .u32 c)).setCell ⟨g, 6, none⟩ (.int .i64 v)) F := by
 obtain ⟨lv, st, xs, G, hb, hq, hF, hs, ⟨rfl, _, hG⟩, hgg, hll⟩ := h
 obtain ⟨k1, k2⟩ := GRep.xset (by decide) w 2 (.int .u32 c) hb hq
 obtain ⟨k3, k4⟩ := GRep.xset (by decide) _ 1 (.int .i64 v) k1 k2
 exact ⟨⟨lv, (v, c), _, G, k3, k4, hF, fun _ => rfl, ⟨rfl, hok, hG⟩, hgg, hll⟩, ((Eff.set _ _ _ _).trans (Eff.set _ _ _ _) (fun _ _ h => h)).mono fun k _ e => (hF k).2 (.inl e)⟩
def EWx (big : Bool) (w : World) (xs : List Value) (st : (DW big).St) (G : Nat → Prop) : Prop := xs = [.bool big, .int .i64 st.1, .int .u32 st.2] ∧ ∀ k, ¬ G k
theorem EWx_ok (big : Bool) : EOk (DW big) (EWx big) := ⟨fun h k hk => absurd hk (h.2 k), fun h _ _ => h⟩
theorem putWx (big : Bool) {w : World} {g : Nat} {F : Nat → Prop} {d : DSt (DW big)} (h : GRep TDW (DW big) (EW big) w g F d) (he : d.err = 0) (v c : Int) :
  GRep TDW (DW big) (EWx big) ((w.setCell ⟨g, 7, none⟩ (.int .u32 c)).setCell ⟨g, 6, none⟩ (.int .i64 v)) g F { d with st := (v, c) } ∧ Eff w ((w.setCell ⟨g, 7, none⟩ (.int .u32 c)).setCell ⟨g, 6, none⟩ (.int .i64 v)) F := by
 obtain ⟨lv, st, xs, G, hb, hq, hF, hs, ⟨rfl, _, hG⟩, hgg, hll⟩ := h
 obtain ⟨k1, k2⟩ := GRep.xset (by decide) w 2 (.int .u32 c) hb hq
 obtain ⟨k3, k4⟩ := GRep.xset (by decide) _ 1 (.int .i64 v) k1 k2
 exact ⟨⟨lv, (v, c), _, G, k3, k4, hF, fun _ => rfl, ⟨rfl, hG⟩, hgg, hll⟩, ((Eff.set _ _ _ _).trans (Eff.set _ _ _ _) (fun _ _ h => h)).mono fun k _ e => (hF k).2 (.inl e)⟩
theorem putW0 (big : Bool) {w : World} {g : Nat} {F : Nat → Prop} {d : DSt (DW big)} (h : GRep TDW (DW big) (EWx big) w g F d) (he : d.err = 0) :
  (GRep TDW (DW big) (EW big) ((w.setCell ⟨g, 6, none⟩ (.int .i64 0)).setCell ⟨g, 7, none⟩ (.int .u32 0)) g F { d with st := (0, 0) } ∧ Eff w ((w.setCell ⟨g, 6, none⟩ (.int .i64 0)).setCell ⟨g, 7, none⟩ (.int .u32 0)) F) ∧
  w.cell? ⟨g, 6, none⟩ = some (.int .i64 d.st.1) ∧ w.cell? ⟨g, 7, none⟩ = some (.int .u32 d.st.2) ∧ ∀ i, w.frozen? ⟨g, i, none⟩ = false := by
 obtain ⟨lv, st, xs, G, hb, hq, hF, hs, ⟨rfl, hG⟩, hgg, hll⟩ := h
 obtain rfl := hs he
 obtain ⟨k1, k2⟩ := GRep.xset (by decide) w 1 (.int .i64 0) hb hq
 obtain ⟨k3, k4⟩ := GRep.xset (by decide) _ 2 (.int .u32 0) k1 k2
 exact ⟨⟨⟨lv, (0, 0), _, G, k3, k4, hF, fun _ => rfl, ⟨rfl, ⟨Int.le_refl 0, .inl ⟨rfl, Int.zero_lt_one⟩⟩, hG⟩, hgg, hll⟩, ((Eff.set _ _ _ _).trans (Eff.set _ _ _ _) (fun _ _ h => h)).mono fun k _ e => (hF k).2 (.inl e)⟩, hb.cell rfl, hb.cell rfl, hb.frozen⟩
set_option maxRecDepth 100000 in
set_option maxHeartbeats 4000000 in
theorem nextW_c (big : Bool) {w : World} {g : Nat} {F : Nat → Prop} {d : DSt (DW big)} (b : Int) (h : GRep TDW (DW big) (EW big) w g F d) (h0 : 0 ≤ b) (h1 : b ≤ 255) (hg : d.err = 0 ∧ d.en = false) (hl : d.held.length ≤ 9000000) :
  Calls Tryz.prog 203 #[.pointer (some ⟨g, 0, none⟩), .int .u8 b] w (NextP TDW (EW big) w g F d ((DW big).next d.st b)) := by
 have HH := Lib.hid h
 obtain ⟨lv, st, xs, G, hb, hq, hF, hs, ⟨rfl, hok, hG⟩, hgg, hll⟩ := h
 obtain rfl := hs hg.1
 obtain ⟨st, hst⟩ : ∃ st, d.st = st := ⟨_, rfl⟩
 rw [hst] at hb hok ⊢
 obtain ⟨v, c⟩ := st
 simp only at hb
 have HB := Lib.hid hb
 have HST := Lib.hid hst
 have HOK := Lib.hid hok
 have c5 : w.cell? ⟨g, 5, none⟩ = some (.bool big) := hb.cell rfl
 have c6 : w.cell? ⟨g, 6, none⟩ = some (.int .i64 v) := hb.cell rfl
 have c7 : w.cell? ⟨g, 7, none⟩ = some (.int .u32 c) := hb.cell rfl
 have hv : 0 ≤ v ∧ v ≤ 3 := by obtain ⟨_, h⟩ := hok; simp only at h; omega
 have hc : 0 ≤ c ∧ c < 16777216 := by obtain ⟨a, h⟩ := hok; simp only at h a; omega
 have HCV : Hid ((v = 0 ∧ c < 1) ∨ (v = 1 ∧ c < 256) ∨ (v = 2 ∧ c < 65536) ∨ (v = 3 ∧ c < 16777216)) := Lib.hid hok.2
 have hc0 := hc.1
 have hc1 := hc.2
 have HV := Lib.hid hv
 obtain ⟨u, hu⟩ : ∃ u, moreW big v c b = u := ⟨_, rfl⟩
 have hur := moreW_range (big := big) hok h0 h1
 rw [hu] at hur
 have HUR := Lib.hid hur
 have HUK : Hid (v ≠ 3 → okW (v + 1, u)) := Lib.hid fun h => by rw [← hu]; exact okW_more hok h0 h1 h
 have hnx : nextW big (v, c) b = if fitsW big v u = false then none else if v = 3 then some ((0, 0), [u]) else some ((v + 1, u), []) := by
  unfold nextW
  simp only [hu]
 have HNX := Lib.hid hnx
 have hdn : (DW big).next (v, c) b = nextW big (v, c) b := rfl
 rw [hdn]
 clear hnx
 have HU := Lib.hid hu
 have HFZ := Lib.hid hb.frozen
 clear hb hq hF hG hgg hll hst hs hdn hok hc hur hv hu
 have ob : bits .or .u32 (c * 256) b = c * 256 + b := orW8 hc0 hc1 h0 h1
 go_enter Tryz.func203, Tryz.ntmps203
 go_upto_if 18 with fail
 go_cut [5] (fun s5 wx => s5 = .int .u32 u ∧ Hid (Below w.heap.size w wx))
 case first =>
  cases big with
  | true =>
   go_wp2_with fail
   go_meet
   exact ⟨by rw [← HU.out]; rfl, Lib.hid (Below.refl _ _)⟩
  | false =>
   rcases HCV.out with ⟨rfl, hcv⟩ | ⟨rfl, hcv⟩ | ⟨rfl, hcv⟩ | ⟨rfl, hcv⟩
   ·obtain rfl : c = 0 := by omega
    have o1 := orL0 h0 h1
    go_wp2_with fail
    all_goals go_quiet (fail)
    all_goals go_wp2_with fail
    all_goals go_meet
    all_goals exact ⟨by rw [← HU.out]; simp [moreW], Lib.hid (below_drewN' (Below.refl _ _) _)⟩
   ·have o1 := orL8 hc0 hcv h0 h1
    go_wp2_with fail
    all_goals go_quiet (fail)
    all_goals go_wp2_with fail
    all_goals go_meet
    all_goals exact ⟨by rw [← HU.out]; simp [moreW], Lib.hid (below_drewN' (Below.refl _ _) _)⟩
   ·have o1 := orL16 hc0 hcv h0 h1
    go_wp2_with fail
    all_goals go_quiet (fail)
    all_goals go_wp2_with fail
    all_goals go_meet
    all_goals exact ⟨by rw [← HU.out]; simp [moreW], Lib.hid (below_drewN' (Below.refl _ _) _)⟩
   ·have o1 := orL24 hc0 hcv h0 h1
    go_wp2_with fail
    all_goals go_quiet (fail)
    all_goals go_wp2_with fail
    all_goals go_meet
    all_goals exact ⟨by rw [← HU.out]; simp [moreW], Lib.hid (below_drewN' (Below.refl _ _) _)⟩
 case rest =>
  obtain ⟨rfl, HB1⟩ := hcut
  have HG1 := Lib.hid (HH.out.eff (EW_ok big) (Eff.of_below HB1.out (fun _ => False)) (fun _ _ h => h))
  have HK1 := Lib.hid (HB.out.below HB1.out)
  clear c5 c6 c7 ob
  have c5 : wc.cell? ⟨g, 5, none⟩ = some (.bool big) := HK1.out.cell rfl
  have c6 : wc.cell? ⟨g, 6, none⟩ = some (.int .i64 v) := HK1.out.cell rfl
  have HFT := Lib.hid (fitsW_c big HV.out c5 c6 u ⟨HUR.out.1, HUR.out.2.1⟩ HUR.out.2.2)
  cases hft : fitsW big v u with
  | false =>
   rw [hft] at HFT
   have HN : Hid (nextW big (v, c) b = none) := Lib.hid (by rw [HNX.out, if_pos hft])
   clear hft
   go_wp2_with (go_at_call 204; refine HFT.out.mono ?_; rintro e w3 ⟨rfl, hb3⟩)
   go_ret
   rw [HN.out]
   exact ⟨F, ⟨rfl, d.st, HG1.out.eff (EW_ok big) (Eff.of_below hb3 (fun _ => False)) (fun _ _ h => h)⟩, Eff.of_below (below_next HB1.out hb3) _, fun k h => .inl h⟩
  | true =>
   rw [hft] at HFT
   have HN : Hid (nextW big (v, c) b = if v = 3 then some ((0, 0), [u]) else some ((v + 1, u), [])) := Lib.hid (by rw [HNX.out, if_neg (by rw [hft]; decide)])
   clear hft
   go_upto_region 6 with (go_at_call 204; refine HFT.out.mono ?_; rintro e w3 ⟨rfl, hb3⟩)
   have HG3 := Lib.hid (HG1.out.eff (EW_ok big) (Eff.of_below hb3 (fun _ => False)) (fun _ _ h => h))
   have HK3 := Lib.hid (HK1.out.below hb3)
   have HB3 := Lib.hid (below_next HB1.out hb3)
   clear hb3 HFT c5 c6
   have c36 : w3.cell? ⟨g, 6, none⟩ = some (.int .i64 v) := HK3.out.cell rfl
   have c37 : w3.cell? ⟨g, 7, none⟩ = some (.int .u32 c) := HK3.out.cell rfl
   have hf3 := HK3.out.frozen
   have hv0 := HV.out.1
   have hv1 := HV.out.2
   by_cases hv3 : v = 3
   ·subst hv3
    have HN3 : Hid (nextW big (3, c) b = some ((0, 0), [u])) := Lib.hid (by rw [HN.out, if_pos rfl])
    obtain ⟨hx1, hx2⟩ := putWx big HG3.out hg.1 4 u
    obtain ⟨w5, hw5⟩ : ∃ w5, (w3.setCell ⟨g, 7, none⟩ (.int .u32 u)).setCell ⟨g, 6, none⟩ (.int .i64 4) = w5 := ⟨_, rfl⟩
    rw [hw5] at hx1 hx2
    have HX1 := Lib.hid hx1
    have HX2 := Lib.hid hx2
    have HA := Lib.hid (hx1.eff (EWx_ok big) (Eff.alloc w5 (.cells #[.int .u32 u] 47 (0, 0)) (fun _ => False)) (fun _ _ h => h))
    have HHO := Lib.hid (GRep.hold (EWx_ok big) (by decide) HA.out (c := 1) (reads_u32 w5 u) (by show d.held.length + 1 ≤ _; omega))
    have c56 : w5.cell? ⟨g, 6, none⟩ = some (.int .i64 4) := (putW0 big hx1 hg.1).2.1
    have HZA : Hid (w5.heap.size ≤ (w5.alloc (.cells #[.int .u32 u] 47 (0, 0))).heap.size) := Lib.hid (Eff.alloc w5 _ (fun _ => False)).size
    clear hx1 hx2 HN
    go_upto_region 10 with (go_at_call 195; refine HHO.out.mono ?_; rintro e w6 ⟨rfl, F6, hr6, he6, hf6⟩)
    have hp6 := putW0 big hr6 hg.1
    have HP6 := Lib.hid hp6.1
    have c66 := hp6.2.1
    have c67 := hp6.2.2.1
    have hf6' := hp6.2.2.2
    have HE6 := Lib.hid (And.intro he6 hf6)
    clear hp6 hr6 he6 hf6 HHO HA hw5
    go_wp2_with fail
    go_ret
    rw [HN3.out]
    have e1 : Eff w w6 F := ((Eff.of_below HB3.out F).trans HX2.out (fun _ _ h => h)).trans ((Eff.alloc w5 _ F).trans HE6.out.1 (fun _ _ h => h)) (fun _ _ h => h)
    have z1 : w.heap.size ≤ w5.heap.size := Nat.le_trans HB3.out.size HX2.out.size
    exact ⟨F6, ⟨rfl, HP6.out.1⟩, e1.trans HP6.out.2 (fun k hk h => (HE6.out.2 k h).elim id (fun h2 => by have := HZA.out; omega)), fun k h => (HE6.out.2 k h).elim .inl (fun h2 => .inr (Nat.le_trans (Nat.le_trans z1 HZA.out) h2))⟩
   ·have HN3 : Hid (nextW big (v, c) b = some ((v + 1, u), [])) := Lib.hid (by rw [HN.out, if_neg hv3])
    have hv4 : (v + 1 == 4) = false := by simp; omega
    have hv5 : decide (v + 1 = 4) = false := decide_eq_false (by omega)
    have HPW := Lib.hid (putW big HG3.out hg.1 (v + 1) u (HUK.out hv3))
    go_wp2_with fail
    go_ret
    rw [HN3.out]
    exact ⟨F, ⟨rfl, by simpa using HPW.out.1⟩, (Eff.of_below HB3.out F).trans HPW.out.2 (fun _ _ h => h), fun k h => .inl h⟩
theorem EW_open {big : Bool} {w : World} {xs : List Value} {st : (DW big).St} {G : Nat → Prop} (h : EW big w xs st G) : xs = [.bool big, .int .i64 st.1, .int .u32 st.2] ∧ 0 ≤ st.1 :=
 ⟨h.1, by obtain ⟨_, h⟩ := h.2.1; omega⟩
set_option maxRecDepth 100000 in
set_option maxHeartbeats 4000000 in
theorem finW (big : Bool) {w : World} {g : Nat} {F : Nat → Prop} {d : DSt (DW big)} (h : GRep TDW (DW big) (EW big) w g F d) :
  Calls Tryz.prog 201 #[.pointer (some ⟨g, 0, none⟩)] w fun e w' => ∃ F', e = .returned (.tuple #[]) ∧ GRep TDW (DW big) (EW big) w' g F' (endD (DW big) d) ∧ Eff w w' F ∧ (∀ k, F' k → F k ∨ w.heap.size ≤ k) := by
 have HH := Lib.hid h
 obtain ⟨lv, st, xs, G, hb, hq, hF, hs, hE, hgg, hll⟩ := h
 obtain ⟨hxs, hn0⟩ := EW_open hE
 rw [hxs] at hb
 have c6 : w.cell? ⟨g, 6, none⟩ = some (.int .i64 (st.1)) := hb.cell rfl
 have HOP : Hid (d.err = 0 → ((DW big)).fin d.st = if st.1 = 0 then some [] else none) := Lib.hid fun he => by rw [← hs he]; rfl
 obtain ⟨n, hn⟩ : ∃ n, st.1 = n := ⟨_, rfl⟩
 rw [hn] at c6 hn0 HOP
 clear hb hq hF hgg hll hs hE hn hxs
 have hopen : n ≠ 0 → d.err = 0 ∧ d.en = false → endD (DW big) d = { d with err := 4, fat := d.pos } := fun hc hg => by
  unfold endD; rw [if_pos hg, HOP.out hg.1, if_neg hc]
 have hshut : n = 0 → d.err = 0 ∧ d.en = false → endD (DW big) d = { d with en := true } := fun hc hg => by
  unfold endD; rw [if_pos hg, HOP.out hg.1, if_pos hc]; simp
 have hnot : ¬ (d.err = 0 ∧ d.en = false) → endD (DW big) d = d := fun hg => by unfold endD; rw [if_neg hg]
 have HOPEN := Lib.hid hopen
 have HSHUT := Lib.hid hshut
 have HNOT := Lib.hid hnot
 clear hopen hshut hnot HOP
 by_cases hc : n = 0
 ·have HC := Lib.hid hc
  have hd : decide (n > 0) = false := decide_eq_false (by omega)
  have hd2 : ¬ 0 < n := by omega
  clear hc
  by_cases hg : d.err = 0 ∧ d.en = false
  ·have HE := Lib.hid (HH.out.ending (EW_ok big) (by decide) hg)
   have HG := Lib.hid hg
   clear hg
   go_enter Tryz.func201, Tryz.ntmps201
   go_wp2_with (go_at_call 99; refine HE.out.mono ?_; rintro e w1 ⟨rfl, hr1, he1⟩)
   refine bodyPost_end (v := .tuple #[]) (by simp [results, Tryz.results201, go_sem]) rfl ⟨F, rfl, ?_, he1, fun k h => .inl h⟩
   rw [HSHUT.out HC.out HG.out]
   exact hr1
  ·have HE := Lib.hid (HH.out.ended hg)
   have HG := Lib.hid hg
   clear hg
   go_enter Tryz.func201, Tryz.ntmps201
   go_wp2_with (go_at_call 99; refine HE.out.mono ?_; rintro e w1 ⟨rfl, rfl⟩)
   refine bodyPost_end (v := .tuple #[]) (by simp [results, Tryz.results201, go_sem]) rfl ⟨F, rfl, ?_, Eff.refl _ _, fun k h => .inl h⟩
   rw [HNOT.out HG.out]
   exact HH.out
 ·have HC := Lib.hid hc
  have hd : decide (n > 0) = true := decide_eq_true (by omega)
  have hd2 : 0 < n := by omega
  clear hc
  by_cases hg : d.err = 0 ∧ d.en = false
  ·have HST := Lib.hid (HH.out.stop (EW_ok big) (by decide) hg 4 (by decide) d.st)
   have HG := Lib.hid hg
   clear hg
   have FIN : Hid (∀ w1, GRep TDW (DW big) (EW big) w1 g F { d with err := 4, fat := d.pos, st := d.st } → Calls Tryz.prog 99 #[.pointer (some ⟨g, 0, none⟩)] w1 fun e w' => e = .returned (.tuple #[]) ∧ w1 = w') := Lib.hid fun w1 hr => hr.ended (fun h => by have h1 : (4 : Int) = 0 := h.1; omega)
   go_enter Tryz.func201, Tryz.ntmps201
   go_upto_region 2 with (go_at_call 106; refine HST.out.mono ?_; rintro e w1 ⟨rfl, hr1, he1⟩)
   have HR1 := Lib.hid (And.intro hr1 he1)
   have HE := Lib.hid (FIN.out w1 hr1)
   clear hr1 he1
   go_wp2_with (go_at_call 99; refine HE.out.mono ?_; rintro e w2 ⟨rfl, rfl⟩)
   refine bodyPost_end (v := .tuple #[]) (by simp [results, Tryz.results201, go_sem]) rfl ⟨F, rfl, ?_, HR1.out.2, fun k h => .inl h⟩
   rw [HOPEN.out HC.out HG.out]
   exact HR1.out.1
  ·have HE := Lib.hid (HH.out.ended hg)
   have HST := Lib.hid (HH.out.stopped hg 4)
   have HG := Lib.hid hg
   clear hg
   go_enter Tryz.func201, Tryz.ntmps201
   go_wp2_with (first
    | (go_at_call 106; refine HST.out.mono ?_; rintro e w1 ⟨rfl, rfl⟩)
    | (go_at_call 99; refine HE.out.mono ?_; rintro e w2 ⟨rfl, rfl⟩))
   refine bodyPost_end (v := .tuple #[]) (by simp [results, Tryz.results201, go_sem]) rfl ⟨F, rfl, ?_, Eff.refl _ _, fun k h => .inl h⟩
   rw [HNOT.out HG.out]
   exact HH.out
theorem kW (big : Bool) : DecK 69 202 201 (DW big) (GRep TDW (DW big) (EW big)) where
 invF := by intro n g x y w; kernel_rfl
 invE := by intro n g w; kernel_rfl
 invD := by intro n g w; kernel_rfl
 invW := by intro n g w; kernel_rfl
 lt h k hk := h.lt (EW_ok big) k hk
 eff h he hs := h.eff (EW_ok big) he hs
 feed s room h hp hh := feedG (EW_ok big) (by decide) (DW_one big) _ _ (.inr (.inr (.inl ⟨rfl, rfl⟩))) (nextW_c big) s room h hp hh
 fin h _ _ := finW big h
 done h := h.done
 fail h := h.fail
theorem newW_c (big : Bool) (w : World) : Calls Tryz.prog 24 #[.bool big] w fun e w' => e = .returned (.pointer (some ⟨w.heap.size, 0, none⟩)) ∧ w' = w.alloc (.cells (gcs (DSt.new (DW big)) (.slice none 0 0) [.bool big, .int .i64 0, .int .u32 0]) TDW (0, 0)) := by
 go_enter Tryz.func24, Tryz.ntmps24
 go_wp2_with fail
 go_ret
 exact ⟨rfl, rfl⟩
theorem newW_rep (big : Bool) (w : World) : GRep TDW (DW big) (EW big) (w.alloc (.cells (gcs (DSt.new (DW big)) (.slice none 0 0) [.bool big, .int .i64 0, .int .u32 0]) TDW (0, 0))) w.heap.size (fun k => k = w.heap.size) (DSt.new (DW big)) :=
 ⟨.slice none 0 0, ((DW big)).ini, _, fun _ => False, Blk.new w _ _, ⟨rfl, .inl ⟨rfl, none, rfl, fun a h => by cases h⟩⟩, fun k => ⟨.inl, fun h => h.elim id (fun h => h.elim (fun h => by cases h) False.elim)⟩, fun _ => rfl, ⟨rfl, ⟨Int.le_refl 0, .inl ⟨rfl, Int.zero_lt_one⟩⟩, fun _ h => h⟩, fun h => h, fun _ _ h => h⟩
set_option maxRecDepth 100000 in
theorem newD4 : NewD 4 69 (DW true) (GRep TDW (DW true) (EW true)) := by
 intro w
 go_enter Tryz.func7, Tryz.ntmps7
 go_wp2_with (go_at_call 24; refine (newW_c true _).mono ?_; rintro e w' ⟨rfl, rfl⟩)
 refine bodyPost_ret (v := .tuple #[.iface 69 (.pointer (some ⟨w.heap.size, 0, none⟩)), .int .i64 0]) (by simp [results, Tryz.results7, go_sem]) rfl ?_
 exact ⟨_, _, rfl, below_new (Below.refl _ _) _, newW_rep true w, fun k hk => Nat.le_of_eq hk.symm⟩
set_option maxRecDepth 100000 in
theorem newD5 : NewD 5 69 (DW false) (GRep TDW (DW false) (EW false)) := by
 intro w
 go_enter Tryz.func7, Tryz.ntmps7
 go_wp2_with (go_at_call 24; refine (newW_c false _).mono ?_; rintro e w' ⟨rfl, rfl⟩)
 refine bodyPost_ret (v := .tuple #[.iface 69 (.pointer (some ⟨w.heap.size, 0, none⟩)), .int .i64 0]) (by simp [results, Tryz.results7, go_sem]) rfl ?_
 exact ⟨_, _, rfl, below_new (Below.refl _ _) _, newW_rep false w, fun k hk => Nat.le_of_eq hk.symm⟩
end Go.Proofs.YtppchdinolndmaaGreat
