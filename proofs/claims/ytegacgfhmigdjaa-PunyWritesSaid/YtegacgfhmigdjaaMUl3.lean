/- Joined texts: Ul3. -/
import Derived.Test.YtegacgfhmigdjaaMUlw
/- pilcrowlaw10.PunyWrites, walked. -/
namespace Go.Proofs.Ytegacgfhmigdjaa
open Go.RowKit Go.Proofs.YtegacgfhmigdjaaW.PrintWords Go.Proofs.YtegacgfhmigdjaaW.PrintLast Go.Proofs.YtegacgfhmigdjaaW.PrintMore Go.Proofs.Ytegacgfhmigdjaa.PPu
set_option linter.unusedVariables false
set_option linter.unusedSimpArgs false

set_option maxRecDepth 100000 in
set_option maxHeartbeats 4000000 in
theorem writes_c (A0 A1 A2 : Option Addr) (c0 c1 c2 : Nat) (l lp lr : List Int) (w : World) (h0 : ReadsInt w .u32 A0 l.length l) (h1 : ReadsInt w .i64 A1 lp.length lp) (h2 : ReadsInt w .i64 A2 lr.length lr) (hc0 : l.length ≤ c0) (hc1 : lp.length ≤ c1) (hc2 : lr.length ≤ c2) (hf : ∀ n ∈ l, (Lit.int .u32 n).wf = true) :
    Calls Try.prog 8 #[.slice A0 l.length c0, .slice A1 lp.length c1, .slice A2 lr.length c2] w fun e w' => e = .returned (.bool true) ∧ Below w.heap.size w w' := by
  have HR0 := Lib.hid h0
  have HR1 := Lib.hid h1
  have HR2 := Lib.hid h2
  have HC0 := Lib.hid hc0
  have HC1 := Lib.hid hc1
  have HC2 := Lib.hid hc2
  have HF0 : Hid (∀ y ∈ l, 0 ≤ y) := Lib.hid fun y hy => (Go.bounds_u32 (hf y hy)).1
  clear h0 h1 h2 hc0 hc1 hc2 hf
  go_enter Try.func8, Try.ntmps8
  go_wp2_with fail
  refine (awake_c _).mono ?_
  rintro e w1 ⟨rfl, hb1⟩
  have HB1 := Lib.hid hb1
  clear hb1
  go_wp2_with fail
  refine (great_c l.length A1 A2 c1 c2 lp lr _ (HR1.out.below HB1.out) (HR2.out.below HB1.out) HC1.out HC2.out).mono ?_
  rintro e w2 ⟨rfl, hb2⟩
  have HB2 := Lib.hid (below_next HB1.out hb2)
  clear hb2
  cases hg : greatR l.length lp lr with
  | true =>
    clear hg
    go_wp2_with fail
    refine (awake_c _).mono ?_
    rintro e w3 ⟨rfl, hb3⟩
    have HB3 := Lib.hid (below_next HB2.out hb3)
    clear hb3
    go_wp2_with fail
    go_ret
    exact ⟨rfl, HB3.out⟩
  | false =>
    have HSZ : Hid (l.length ≤ 120 ∧ lp.length ≤ 200 ∧ lr.length ≤ 200) := Lib.hid (by
      unfold greatR at hg
      rw [Bool.or_eq_false_iff, Bool.or_eq_false_iff, decide_eq_false_iff_not, decide_eq_false_iff_not, decide_eq_false_iff_not] at hg
      omega)
    clear hg
    obtain ⟨t, en, E, F, hres⟩ := writeF_some l
    have HRES := Lib.hid hres
    clear hres
    go_wp2_with fail
    refine (newenc_c _).mono ?_
    rintro e w3 ⟨rfl, hw3⟩
    have HW := Lib.hid (write_fresh l A0 A1 A2 c0 c1 c2 lp lr w2 w3 hw3 (HR0.out.below HB2.out) HC0.out (by have := HSZ.out; omega) HF0.out (HR1.out.below HB2.out) (HR2.out.below HB2.out) (by have := HSZ.out; omega) (by have := HSZ.out; omega) t en E F HRES.out)
    clear hw3
    go_wp2_with fail
    refine HW.out.mono ?_
    rintro e w4 ⟨rfl, hx4, hb4⟩
    obtain ⟨lv4, hx4⟩ := hx4
    have HX4 := Lib.hid hx4
    have HB4 := Lib.hid (below_next HB2.out hb4)
    clear hb4 hx4 HW
    go_wp2_with fail
    refine (first_c A0 c0 l _ (HR0.out.below HB4.out) HC0.out (by have := HSZ.out; omega)).mono ?_
    rintro e w5 ⟨rfl, hb5⟩
    have HX5 := Lib.hid (HX4.out.below hb5)
    have HB5 := Lib.hid (below_next HB4.out hb5)
    clear hb5
    go_wp2_with fail
    refine (failed_c 2 (firstR l) _).mono ?_
    rintro e w6 ⟨rfl, hb6⟩
    have HX6 := Lib.hid (HX5.out.below hb6)
    have HB6 := Lib.hid (below_next HB5.out hb6)
    clear hb6
    have hcase : (firstR l = (encN l : Int) ∧ E = 2 ∧ F = (encN l : Int) ∧ encN l < l.length) ∨ (firstR l = -1 ∧ E = 0 ∧ F = 0 ∧ encN l = l.length) := by
      rcases HRES.out with ⟨h1, _, _, h2, h3⟩ | ⟨h1, _, _, h2, h3⟩
      · exact .inl ⟨by unfold firstR; rw [if_pos h1], h2, h3, h1⟩
      · exact .inr ⟨by unfold firstR; rw [if_neg (by omega)], h2, h3, h1⟩
    obtain ⟨n, hn⟩ : ∃ n, encN l = n := ⟨_, rfl⟩
    have HN : Hid (encN l = n) := Lib.hid hn
    rw [hn] at hcase
    rcases hcase with ⟨hfr, rfl, rfl, hlt⟩ | ⟨hfr, rfl, rfl, hlt⟩
    · rw [hfr]
      have hge : (0 : Int) ≤ (n : Int) := by omega
      clear hfr hlt hn
      go_wp2_with fail
      obtain ⟨w7, hw7⟩ : ∃ w7, w6.alloc (.cells #[.int .i64 2, .int .i64 (n : Int)] 33) = w7 := ⟨_, rfl⟩
      rw [hw7]
      obtain ⟨b7, hb7⟩ : ∃ b7, w6.heap.size = b7 := ⟨_, rfl⟩
      have HBL : Hid (Blk w7 b7 33 #[.int .i64 2, .int .i64 (n : Int)]) := Lib.hid (by rw [← hw7, ← hb7]; exact Blk.new w6 _ _)
      rw [hb7]
      have HBN : Hid (Below w6.heap.size w6 w7) := Lib.hid (by rw [← hw7]; exact below_new (Below.refl _ _) _)
      rw [HN.out] at HX6
      have HX7 := Lib.hid (HX6.out.below HBN.out)
      have HB7 := Lib.hid (below_next HB6.out HBN.out)
      clear hw7 hb7 HBN
      obtain ⟨g, hg⟩ : ∃ g, w2.heap.size = g := ⟨_, rfl⟩
      rw [hg] at HX7 ⊢
      clear hg
      have hq := eql_fail 2 (n : Int)
      have HBY := Lib.hid (fun W (hb : Below w7.heap.size w7 W) => rbytes_c A0 c0 l W (HR0.out.below (below_next HB7.out hb)) HC0.out HSZ.out.1 HF0.out t en 2 (n : Int) HRES.out)
      have HFA := Lib.hid (fun W (hb : Below w7.heap.size w7 W) => fail_c (HX7.out.blk.below hb) rfl rfl)
      have HAT := Lib.hid (fun W (hb : Below w7.heap.size w7 W) => at_c (HX7.out.blk.below hb) rfl)
      have HKE := Lib.hid (fun W (hb : Below w7.heap.size w7 W) => kept_c (o := 4) (HX7.out.blk.below hb) rfl)
      have HSB : Hid (∀ W, (Hid (Below w7.heap.size w7 W) ∧ W.cell? ⟨b7, 0, none⟩ = some (.int .i64 2) ∧ W.cell? ⟨b7, 1, none⟩ = some (.int .i64 (n : Int))) → Below w7.heap.size w7 W) := Lib.hid fun W h => h.1.out
      have HSO : Hid (∀ W, Hid (Below w7.heap.size w7 W) → Hid (Below w7.heap.size w7 W) ∧ W.cell? ⟨b7, 0, none⟩ = some (.int .i64 2) ∧ W.cell? ⟨b7, 1, none⟩ = some (.int .i64 (n : Int))) := Lib.hid fun W hb => ⟨hb, (HBL.out.below hb.out).cell rfl, (HBL.out.below hb.out).cell rfl⟩
      have HS0 : Hid (Below w7.heap.size w7 w7) := Lib.hid (Below.refl _ _)
      clear HX6 HB6 HX5 HB5 HX4 HB4 HBL
      go_region_held3 (fun w' => Hid (Below w7.heap.size w7 w') ∧ w'.cell? ⟨b7, 0, none⟩ = some (.int .i64 2) ∧ w'.cell? ⟨b7, 1, none⟩ = some (.int .i64 (n : Int))) (first | exact HSO.out _ (by with_reducible assumption) | exact HSO.out _ (Lib.hid (below_drew1 (Below.refl _ _)))) (first
        | (go_at_call 23; refine (HBY.out _ (HSB.out _ (by with_reducible assumption))).mono ?_; rintro e wa ⟨rfl, hba⟩; have HBW : Hid (Below w7.heap.size w7 wa) := Lib.hid (below_next (HSB.out _ (by with_reducible assumption)) hba); clear hba)
        | (go_at_call 16; refine (HFA.out _ (HSB.out _ (by with_reducible assumption))).mono ?_; rintro e wa ⟨rfl, hba⟩; have HBW : Hid (Below w7.heap.size w7 wa) := Lib.hid (below_next (HSB.out _ (by with_reducible assumption)) hba); clear hba)
        | (go_at_call 19; refine (HAT.out _ (HSB.out _ (by with_reducible assumption))).mono ?_; rintro e wa ⟨rfl, rfl⟩)
        | (go_at_call 24; refine (HKE.out _ (HSB.out _ (by with_reducible assumption))).mono ?_; rintro e wa ⟨rfl, rfl⟩))
      all_goals go_wp2_with fail
      all_goals go_ret
      all_goals refine ⟨rfl, ?_⟩
      all_goals exact below_next HB7.out (HSB.out _ (by with_reducible assumption))
    · rw [hfr]
      subst hlt
      clear hfr hn
      go_wp2_with fail
      obtain ⟨w7, hw7⟩ : ∃ w7, w6.alloc (.cells #[.int .i64 0, .int .i64 0] 33) = w7 := ⟨_, rfl⟩
      rw [hw7]
      obtain ⟨b7, hb7⟩ : ∃ b7, w6.heap.size = b7 := ⟨_, rfl⟩
      have HBL : Hid (Blk w7 b7 33 #[.int .i64 0, .int .i64 0]) := Lib.hid (by rw [← hw7, ← hb7]; exact Blk.new w6 _ _)
      rw [hb7]
      have HBN : Hid (Below w6.heap.size w6 w7) := Lib.hid (by rw [← hw7]; exact below_new (Below.refl _ _) _)
      rw [HN.out] at HX6
      have HX7 := Lib.hid (HX6.out.below HBN.out)
      have HB7 := Lib.hid (below_next HB6.out HBN.out)
      clear hw7 hb7 HBN
      obtain ⟨g, hg⟩ : ∃ g, w2.heap.size = g := ⟨_, rfl⟩
      rw [hg] at HX7 ⊢
      clear hg
      have hq := eql_fail 0 0
      have HBY := Lib.hid (fun W (hb : Below w7.heap.size w7 W) => rbytes_c A0 c0 l W (HR0.out.below (below_next HB7.out hb)) HC0.out HSZ.out.1 HF0.out t en 0 0 HRES.out)
      have HFA := Lib.hid (fun W (hb : Below w7.heap.size w7 W) => fail_c (HX7.out.blk.below hb) rfl rfl)
      have HAT := Lib.hid (fun W (hb : Below w7.heap.size w7 W) => at_c (HX7.out.blk.below hb) rfl)
      have HKE := Lib.hid (fun W (hb : Below w7.heap.size w7 W) => kept_c (o := 4) (HX7.out.blk.below hb) rfl)
      have HSB : Hid (∀ W, (Hid (Below w7.heap.size w7 W) ∧ W.cell? ⟨b7, 0, none⟩ = some (.int .i64 0) ∧ W.cell? ⟨b7, 1, none⟩ = some (.int .i64 0)) → Below w7.heap.size w7 W) := Lib.hid fun W h => h.1.out
      have HSO : Hid (∀ W, Hid (Below w7.heap.size w7 W) → Hid (Below w7.heap.size w7 W) ∧ W.cell? ⟨b7, 0, none⟩ = some (.int .i64 0) ∧ W.cell? ⟨b7, 1, none⟩ = some (.int .i64 0)) := Lib.hid fun W hb => ⟨hb, (HBL.out.below hb.out).cell rfl, (HBL.out.below hb.out).cell rfl⟩
      have HS0 : Hid (Below w7.heap.size w7 w7) := Lib.hid (Below.refl _ _)
      clear HX6 HB6 HX5 HB5 HX4 HB4 HBL
      go_region_held3 (fun w' => Hid (Below w7.heap.size w7 w') ∧ w'.cell? ⟨b7, 0, none⟩ = some (.int .i64 0) ∧ w'.cell? ⟨b7, 1, none⟩ = some (.int .i64 0)) (first | exact HSO.out _ (by with_reducible assumption) | exact HSO.out _ (Lib.hid (below_drew1 (Below.refl _ _)))) (first
        | (go_at_call 23; refine (HBY.out _ (HSB.out _ (by with_reducible assumption))).mono ?_; rintro e wa ⟨rfl, hba⟩; have HBW : Hid (Below w7.heap.size w7 wa) := Lib.hid (below_next (HSB.out _ (by with_reducible assumption)) hba); clear hba)
        | (go_at_call 16; refine (HFA.out _ (HSB.out _ (by with_reducible assumption))).mono ?_; rintro e wa ⟨rfl, hba⟩; have HBW : Hid (Below w7.heap.size w7 wa) := Lib.hid (below_next (HSB.out _ (by with_reducible assumption)) hba); clear hba)
        | (go_at_call 19; refine (HAT.out _ (HSB.out _ (by with_reducible assumption))).mono ?_; rintro e wa ⟨rfl, rfl⟩)
        | (go_at_call 24; refine (HKE.out _ (HSB.out _ (by with_reducible assumption))).mono ?_; rintro e wa ⟨rfl, rfl⟩))
      all_goals go_wp2_with fail
      all_goals go_ret
      all_goals refine ⟨rfl, ?_⟩
      all_goals exact below_next HB7.out (HSB.out _ (by with_reducible assumption))
end Go.Proofs.Ytegacgfhmigdjaa
