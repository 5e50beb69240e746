/- Joined texts: Ul5. -/
import Derived.Test.YtegacgfhmigdjaaMUlw
/- pilcrowlaw10.PunyBack, walked. -/
namespace Go.Proofs.Ytegacgfhmigdjaa
open Go.RowKit Go.Proofs.YtegacgfhmigdjaaW.PrintWords Go.Proofs.YtegacgfhmigdjaaW.PrintLast Go.Proofs.YtegacgfhmigdjaaW.PrintMore Go.Proofs.Ytegacgfhmigdjaa.PPu
set_option linter.unusedVariables false
set_option linter.unusedSimpArgs false

theorem text_small (ys : List Int) (hl : ys.length ≤ 120) (hr : ∀ y ∈ ys, 0 ≤ y ∧ y ≤ 1114111) : (textP ys).size ≤ 5000 := by
  have h := outer_len ys (lowL ys).length (zsL ys) 128 (startT ys) (OI.start (upz_zs ys) hr) (by omega)
  have e : (textP ys).size = (textL ys).length := str_size _
  have e2 : (textL ys).length = (outerT ys (lowL ys).length (zsL ys) (128, startT ys)).2.out.length := rfl
  omega
set_option maxRecDepth 100000 in
set_option maxHeartbeats 4000000 in
theorem back_c (A0 A1 A2 : Option Addr) (c0 c1 c2 : Nat) (l lp lr : List Int) (w : World) (h0 : ReadsInt w .u32 A0 l.length l) (h1 : ReadsInt w .i64 A1 lp.length lp) (h2 : ReadsInt w .i64 A2 lr.length lr) (hc0 : l.length ≤ c0) (hc1 : lp.length ≤ c1) (hc2 : lr.length ≤ c2) (hf : ∀ n ∈ l, (Lit.int .u32 n).wf = true) :
    Calls Try.prog 9 #[.slice A0 l.length c0, .slice A1 lp.length c1, .slice A2 lr.length c2] w fun e w' => e = .returned (.bool true) ∧ Below w.heap.size w w' := by
  have HR0 := Lib.hid h0
  have HR1 := Lib.hid h1
  have HR2 := Lib.hid h2
  have HC0 := Lib.hid hc0
  have HC1 := Lib.hid hc1
  have HC2 := Lib.hid hc2
  have HF0 : Hid (∀ y ∈ l, 0 ≤ y) := Lib.hid fun y hy => (Go.bounds_u32 (hf y hy)).1
  clear h0 h1 h2 hc0 hc1 hc2 hf
  go_enter Try.func9, Try.ntmps9
  go_wp2_with fail
  refine (awake_c _).mono ?_
  rintro e w1 ⟨rfl, hb1⟩
  have HB1 := Lib.hid hb1
  clear hb1
  go_wp2_with fail
  refine (great_c l.length A1 A2 c1 c2 lp lr _ (HR1.out.below HB1.out) (HR2.out.below HB1.out) HC1.out HC2.out).mono ?_
  rintro e w2 ⟨rfl, hb2⟩
  have HB2 := Lib.hid (below_next HB1.out hb2)
  clear hb2
  cases hg : greatR l.length lp lr with
  | true =>
    clear hg
    go_wp2_with fail
    refine (awake_c _).mono ?_
    rintro e w3 ⟨rfl, hb3⟩
    have HB3 := Lib.hid (below_next HB2.out hb3)
    clear hb3
    go_wp2_with fail
    go_ret
    exact ⟨rfl, HB3.out⟩
  | false =>
    have HSZ : Hid (l.length ≤ 120 ∧ lp.length ≤ 200 ∧ lr.length ≤ 200) := Lib.hid (by
      unfold greatR at hg
      rw [Bool.or_eq_false_iff, Bool.or_eq_false_iff, decide_eq_false_iff_not, decide_eq_false_iff_not, decide_eq_false_iff_not] at hg
      omega)
    clear hg
    go_wp2_with fail
    refine (first_c A0 c0 l _ (HR0.out.below HB2.out) HC0.out (by have := HSZ.out; omega)).mono ?_
    rintro e w3 ⟨rfl, hb3⟩
    have HB3 := Lib.hid (below_next HB2.out hb3)
    clear hb3
    by_cases hn : encN l < l.length
    · have hfi : firstR l = (encN l : Int) := by unfold firstR; rw [if_pos hn]
      rw [hfi]
      have hge : (0 : Int) ≤ (encN l : Int) := by omega
      clear hn hfi
      go_wp2_with fail
      refine (awake_c _).mono ?_
      rintro e w4 ⟨rfl, hb4⟩
      have HB4 := Lib.hid (below_next HB3.out hb4)
      clear hb4
      go_wp2_with fail
      go_ret
      exact ⟨rfl, HB4.out⟩
    · have hfi : firstR l = -1 := by unfold firstR; rw [if_neg hn]
      rw [hfi]
      have HEN : Hid (encN l = l.length) := Lib.hid (by have := encN_le l; omega)
      have HRG := Lib.hid (enc_range HEN.out HF0.out)
      have HRES := Lib.hid (text_read l HSZ.out.1 HF0.out HEN.out)
      have HTZ := Lib.hid (text_small l HSZ.out.1 HRG.out)
      have HTF := Lib.hid (text_feed l HSZ.out.1 HRG.out)
      clear hn hfi
      go_wp2_with fail
      refine (newenc_c _).mono ?_
      rintro e w4 ⟨rfl, hw4⟩
      have HW := Lib.hid (write_fresh l A0 A1 A2 c0 c1 c2 lp lr w3 w4 hw4 (HR0.out.below HB3.out) HC0.out (by have := HSZ.out; omega) HF0.out (HR1.out.below HB3.out) (HR2.out.below HB3.out) (by have := HSZ.out; omega) (by have := HSZ.out; omega) (textP l) true 0 0 (.inr ⟨HEN.out, rfl, rfl, rfl, rfl⟩))
      clear hw4
      go_wp2_with fail
      refine HW.out.mono ?_
      rintro e w5 ⟨rfl, hx5, hb5⟩
      have HB5 := Lib.hid (below_next HB3.out hb5)
      clear hb5 hx5 HW
      obtain ⟨t, ht⟩ : ∃ t, textP l = t := ⟨_, rfl⟩
      rw [ht] at HRES HTZ HTF
      rw [ht]
      clear ht
      go_wp2_with fail
      refine (newdec_c _).mono ?_
      rintro e w6 ⟨rfl, hw6⟩
      have HD6 : Hid (DG w6 w5.heap.size (w5.heap.size + 1) 0 [] (.slice none 0 0) (.slice none 0 0)) := Lib.hid (by rw [hw6]; exact DG.new w5 _)
      have HS6 : Hid (w6.heap.size = w5.heap.size + 1) := Lib.hid (by rw [hw6, World.size_alloc])
      have HB6 : Hid (Below w5.heap.size w5 w6) := Lib.hid (by rw [hw6]; exact below_new (Below.refl _ _) _)
      clear hw6
      go_wp2_with fail
      refine (read_c w5.heap.size (w5.heap.size + 1) t A2 A1 c2 c1 lr lp _ HD6.out (by rw [HS6.out]; exact Nat.le_refl _) (by have := HTZ.out; omega) (by have := HSZ.out; omega) (by have := HSZ.out; omega) ((hand_of (HR2.out.below HB5.out) (Nat.le_refl _) (Nat.le_succ _)).below HB6.out) ((hand_of (HR1.out.below HB5.out) (Nat.le_refl _) (Nat.le_succ _)).below HB6.out) l true 0 0 HRES.out).mono ?_
      rintro e w7 ⟨v7, lv7, rfl, ho7, hd7, he7⟩
      obtain ⟨A7, c7, rfl, hc7⟩ := Go.Proofs.Ytegacgfhmigdjaa.own_slice ho7
      have HO7 := Lib.hid ho7
      have HC7 := Lib.hid hc7
      have HB7 : Hid (Below w.heap.size w w7) := Lib.hid (below_next HB5.out (Eff.under HB6.out he7 (by rw [HS6.out]; omega) (fun k hk => by omega)))
      obtain ⟨tv7, hblk7⟩ := hd7.blk
      rw [HTF.out] at hblk7
      have HK7 := Lib.hid hblk7
      clear ho7 hd7 he7 hc7 hblk7
      obtain ⟨g, hg⟩ : ∃ g, w5.heap.size = g := ⟨_, rfl⟩
      rw [hg] at HK7 ⊢
      clear hg HD6 HB6 HS6
      go_wp2_with fail
      refine (same_c l (by have := HSZ.out; omega) A7 A0 c7 c0 _ (own_reads' HO7.out) (HR0.out.below HB7.out) HC7.out HC0.out).mono ?_
      rintro e w8 ⟨rfl, hb8⟩
      have HK8 := Lib.hid (HK7.out.below hb8)
      have HB8 := Lib.hid (below_next HB7.out hb8)
      clear hb8
      have hq := eql_fail 0 0
      go_wp2_with fail
      refine (fail_c HK8.out rfl rfl).mono ?_
      rintro e w9 ⟨rfl, hb9⟩
      have HK9 := Lib.hid (HK8.out.below hb9)
      have HB9 := Lib.hid (below_next HB8.out hb9)
      clear hb9
      go_wp2_with fail
      refine (at_c HK9.out rfl).mono ?_
      rintro e w10 ⟨rfl, rfl⟩
      go_wp2_with fail
      go_ret
      exact ⟨rfl, HB9.out⟩
end Go.Proofs.Ytegacgfhmigdjaa
