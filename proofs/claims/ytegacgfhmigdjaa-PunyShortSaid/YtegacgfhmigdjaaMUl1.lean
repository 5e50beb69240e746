/- Joined texts: Ul1. -/
import Derived.Test.YtegacgfhmigdjaaMUlw
import Derived.Test.YtegacgfhmigdjaaMUps
/- pilcrowlaw10.PunyShort, walked. -/
namespace Go.Proofs.Ytegacgfhmigdjaa
open Go.RowKit Go.Proofs.YtegacgfhmigdjaaW.PrintWords Go.Proofs.YtegacgfhmigdjaaW.PrintLast Go.Proofs.YtegacgfhmigdjaaW.PrintMore Go.Proofs.Ytegacgfhmigdjaa.PPu
set_option linter.unusedVariables false
set_option linter.unusedSimpArgs false

set_option maxRecDepth 100000 in
set_option maxHeartbeats 4000000 in
theorem short_c (A : Option Addr) (c : Nat) (l : List Int) (w : World) (h1 : ReadsInt w .u32 A l.length l) (hc : l.length ≤ c) (hf : ∀ n ∈ l, (Lit.int .u32 n).wf = true) :
    Calls Try.prog 7 #[.slice A l.length c] w fun e w' => e = .returned (.bool true) ∧ Below w.heap.size w w' := by
  have HR1 := Lib.hid h1
  have HC1 := Lib.hid hc
  have HF0 : Hid (∀ y ∈ l, 0 ≤ y) := Lib.hid fun y hy => (Go.bounds_u32 (hf y hy)).1
  clear h1 hc hf
  go_enter Try.func7, Try.ntmps7
  go_wp2_with fail
  refine (awake_c _).mono ?_
  rintro e w1 ⟨rfl, hb1⟩
  have HB1 := Lib.hid hb1
  clear hb1
  go_wp2_with fail
  refine (great_n l.length _).mono ?_
  rintro e w2 ⟨rfl, hb2⟩
  have HB2 := Lib.hid (below_next HB1.out hb2)
  clear hb2
  by_cases hg : l.length > 120
  · rw [decide_eq_true hg]
    clear hg
    go_wp2_with fail
    refine (awake_c _).mono ?_
    rintro e w3 ⟨rfl, hb3⟩
    have HB3 := Lib.hid (below_next HB2.out hb3)
    clear hb3
    go_wp2_with fail
    go_ret
    exact ⟨rfl, HB3.out⟩
  · rw [decide_eq_false hg]
    have HSZ : Hid (l.length ≤ 120) := Lib.hid (by omega)
    clear hg
    go_wp2_with fail
    refine (first_c A c l _ (HR1.out.below HB2.out) HC1.out (by have := HSZ.out; omega)).mono ?_
    rintro e w3 ⟨rfl, hb3⟩
    have HB3 := Lib.hid (below_next HB2.out hb3)
    clear hb3
    by_cases hn : encN l < l.length
    · have hfi : firstR l = (encN l : Int) := by unfold firstR; rw [if_pos hn]
      rw [hfi]
      have hge : (0 : Int) ≤ (encN l : Int) := by omega
      clear hn hfi
      go_wp2_with fail
      refine (awake_c _).mono ?_
      rintro e w4 ⟨rfl, hb4⟩
      have HB4 := Lib.hid (below_next HB3.out hb4)
      clear hb4
      go_wp2_with fail
      go_ret
      exact ⟨rfl, HB4.out⟩
    · have hfi : firstR l = -1 := by unfold firstR; rw [if_neg hn]
      rw [hfi]
      have HEN : Hid (encN l = l.length) := Lib.hid (by have := encN_le l; omega)
      have HRG := Lib.hid (enc_range HEN.out HF0.out)
      have HTS := Lib.hid (text_short l HSZ.out HRG.out)
      clear hn hfi
      go_wp2_with fail
      refine (newenc_c _).mono ?_
      rintro e w4 ⟨rfl, hw4⟩
      have HW := Lib.hid (write_fresh l A none none c 0 0 [] [] w3 w4 hw4 (HR1.out.below HB3.out) HC1.out (by have := HSZ.out; omega) HF0.out (reads_nil _ _) (reads_nil _ _) (by decide) (by decide) (textP l) true 0 0 (.inr ⟨HEN.out, rfl, rfl, rfl, rfl⟩))
      clear hw4
      go_wp2_with fail
      refine HW.out.mono ?_
      rintro e w5 ⟨rfl, hx5, hb5⟩
      have HB5 := Lib.hid (below_next HB3.out hb5)
      clear hb5 hx5 HW
      obtain ⟨t, ht⟩ : ∃ t, textP l = t := ⟨_, rfl⟩
      rw [ht] at HTS
      rw [ht]
      clear ht
      go_upto_block 0 with fail
      go_cut [5, 6] (fun s5 s6 wx => s5 = .int .i64 (lowL l).length ∧ s6 = .int .i64 (highL l).length ∧ wx = w5)
      case first =>
        go_wp2_with fail
        go_loopg [5, 6, 31] l.length (fun kq s5 s6 s31 wx => ∃ i : Nat, s31 = .int .i64 i ∧ s5 = .int .i64 (lowL (l.take i)).length ∧ s6 = .int .i64 (highL (l.take i)).length ∧ Hid (kq = l.length - i ∧ i ≤ l.length) ∧ wx = w5)
        case atStart => exact ⟨0, rfl, rfl, rfl, Lib.hid ⟨rfl, Nat.zero_le _⟩, rfl⟩
        case round =>
          obtain ⟨i, rfl, rfl, rfl, HK, rfl⟩ := hrel
          by_cases hi : i < l.length
          · have hi0 : (0 : Int) ≤ (i : Int) := by omega
            have hi3 : (i : Int) < (l.length : Int) := by omega
            have hss : l.length ≤ 120 := HSZ.out
            obtain ⟨pb, po, rfl, hsrc⟩ := src_u HR1.out (by omega)
            have hcc := hsrc.at_ HB5.out i hi
            clear hsrc
            have hlo := low_snoc l i hi
            have hhi := high_snoc l i hi
            have hll := low_len l i
            have hhl := high_len l i
            obtain ⟨y, hye⟩ : ∃ y, l.getD i 0 = y := ⟨_, rfl⟩
            rw [hye] at hcc hlo hhi
            obtain ⟨p, hp⟩ : ∃ p, (lowL (l.take i)).length = p := ⟨_, rfl⟩
            obtain ⟨q, hq⟩ : ∃ q, (highL (l.take i)).length = q := ⟨_, rfl⟩
            have HLO : Hid ((lowL (l.take (i + 1))).length = if y < 128 then p + 1 else p) := Lib.hid (by rw [hlo, ← hp]; split <;> simp)
            have HHI : Hid ((highL (l.take (i + 1))).length = if y < 128 then q else q + 1) := Lib.hid (by rw [hhi, ← hq]; split <;> simp)
            rw [hp] at hll ⊢
            rw [hq] at hhl ⊢
            clear hye hlo hhi hp hq
            by_cases hc : y < 128
            · have hc1 : decide (y < 128) = true := decide_eq_true hc
              have HC := Lib.hid hc
              clear hc
              go_wp2_with fail
              go_roundg (gk - 1)
              case measure => have := HK.out; omega
              case rel => exact ⟨i + 1, by go_num, by rw [HLO.out, if_pos HC.out]; go_num, by rw [HHI.out, if_pos HC.out], Lib.hid ⟨by have := HK.out; omega, hi⟩, rfl⟩
            · have hc1 : decide (y < 128) = false := decide_eq_false hc
              have HC := Lib.hid hc
              clear hc
              go_wp2_with fail
              go_roundg (gk - 1)
              case measure => have := HK.out; omega
              case rel => exact ⟨i + 1, by go_num, by rw [HLO.out, if_neg (by have := HC.out; omega)], by rw [HHI.out, if_neg (by have := HC.out; omega)]; go_num, Lib.hid ⟨by have := HK.out; omega, hi⟩, rfl⟩
          · have hi3 : ¬ (i : Int) < (l.length : Int) := by omega
            have HIE : Hid (l.take i = l) := Lib.hid (List.take_of_length_le (by omega))
            go_wp2_with fail
            go_meet
            exact ⟨by rw [HIE.out], by rw [HIE.out], rfl⟩
      case rest =>
        obtain ⟨rfl, rfl, hwe⟩ := hcut
        obtain rfl := hwe.symm
        obtain ⟨p, hp⟩ : ∃ p, (lowL l).length = p := ⟨_, rfl⟩
        obtain ⟨q, hq⟩ : ∃ q, (highL l).length = q := ⟨_, rfl⟩
        have hlh := low_high_len l
        rw [hp, hq] at HTS hlh
        rw [hp, hq]
        have hss : l.length ≤ 120 := HSZ.out
        have hts := HTS.out
        have hp2 : p ≤ 120 := by omega
        have hq2 : q ≤ 120 := by omega
        have hmn : min (p : Int) 1 = ((min p 1 : Nat) : Int) := by omega
        obtain ⟨z, hz⟩ : ∃ z, min p 1 = z := ⟨_, rfl⟩
        have hz1 : z ≤ 1 := by omega
        rw [hz] at hmn hts
        obtain ⟨T, hT⟩ : ∃ T, t.size = T := ⟨_, rfl⟩
        rw [hT] at hts
        have hr1 : (p : Int) + (z : Int) + (q : Int) ≤ (T : Int) := by omega
        have hr2 : (T : Int) ≤ (p : Int) + (z : Int) + (q : Int) + 8 * (q : Int) := by omega
        clear hp hq hz hlh hts HTS
        go_wp2_with fail
        go_ret
        exact ⟨rfl, HB5.out⟩
end Go.Proofs.Ytegacgfhmigdjaa
