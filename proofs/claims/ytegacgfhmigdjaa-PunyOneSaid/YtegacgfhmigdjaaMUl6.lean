/- Joined texts: Ul6. -/
import Derived.Test.YtegacgfhmigdjaaMUlw
import Derived.Test.YtegacgfhmigdjaaMUl2
/- pilcrowlaw10.PunyOne, walked. -/
namespace Go.Proofs.Ytegacgfhmigdjaa
open Go.RowKit Go.Proofs.YtegacgfhmigdjaaW.PrintWords Go.Proofs.YtegacgfhmigdjaaW.PrintLast Go.Proofs.YtegacgfhmigdjaaW.PrintMore Go.Proofs.Ytegacgfhmigdjaa.PPu
set_option linter.unusedVariables false
set_option linter.unusedSimpArgs false

/-- What a text comes to: an error and nothing, or a list that is written as the text. -/
theorem one_cases {s : ByteArray} {L : List Int} {en : Bool} {E F : Int} (h : ReadF s L en E F) (hs : s.size ≤ 120) : (E ≠ 0 ∧ L = []) ∨ (E = 0 ∧ encN L = L.length ∧ (∀ y ∈ L, 0 ≤ y) ∧ textP L = smallB s) := by
  have hl := h.len
  rcases h with ⟨_, h1, _, h2, _⟩ | ⟨hf, hd, h2⟩
  · exact .inl ⟨by rw [h2]; decide, h1⟩
  · unfold denR at hd
    cases hp : denP s with
    | none =>
      rw [hp] at hd
      simp only [Prod.mk.injEq] at hd
      obtain ⟨h3, h4⟩ := hd
      refine .inl ⟨?_, h3.symm⟩
      rcases h2 with h2 | h2 <;> simp only [Prod.mk.injEq] at h2
      · rw [← h4] at h2; exact absurd h2.1 (by decide)
      · rw [h2.2.1]; decide
    | some q =>
      rw [hp] at hd
      simp only [Prod.mk.injEq] at hd
      obtain ⟨rfl, h4⟩ := hd
      have hsc := one_scal s q hf hp
      refine .inr ⟨?_, hsc.1, hsc.2, one_text s q (by omega) hf hp⟩
      rcases h2 with h2 | h2 <;> simp only [Prod.mk.injEq] at h2
      · exact h2.2.1
      · rw [← h4] at h2; exact absurd h2.1 (by decide)
set_option maxRecDepth 100000 in
set_option maxHeartbeats 4000000 in
theorem one_c (s : ByteArray) (w : World) : Calls Try.prog 6 #[.string s] w fun e w' => e = .returned (.bool true) ∧ Below w.heap.size w w' := by
  go_enter Try.func6, Try.ntmps6
  go_wp2_with fail
  refine (awake_c _).mono ?_
  rintro e w1 ⟨rfl, hb1⟩
  have HB1 := Lib.hid hb1
  clear hb1
  go_wp2_with fail
  refine (great_n s.size _).mono ?_
  rintro e w2 ⟨rfl, hb2⟩
  have HB2 := Lib.hid (below_next HB1.out hb2)
  clear hb2
  by_cases hg : s.size > 120
  · rw [decide_eq_true hg]
    clear hg
    go_wp2_with fail
    refine (awake_c _).mono ?_
    rintro e w3 ⟨rfl, hb3⟩
    have HB3 := Lib.hid (below_next HB2.out hb3)
    clear hb3
    go_wp2_with fail
    go_ret
    exact ⟨rfl, HB3.out⟩
  · rw [decide_eq_false hg]
    have HSZ : Hid (s.size ≤ 120) := Lib.hid (by omega)
    clear hg
    obtain ⟨L, en, E, F, hres, hF⟩ := readF_some s
    have HRES := Lib.hid hres
    have hcase := one_cases hres HSZ.out
    have HLL : Hid (L.length ≤ 120) := Lib.hid (Nat.le_trans hres.len HSZ.out)
    clear hres hF
    go_wp2_with fail
    refine (newdec_c _).mono ?_
    rintro e w3 ⟨rfl, hw3⟩
    have HN3 : Hid (Blk w3 w2.heap.size 43 DECZ) := Lib.hid (by rw [hw3]; exact Blk.new w2 _ _)
    have HB3 : Hid (Below w2.heap.size w2 w3) := Lib.hid (by rw [hw3]; exact below_new (Below.refl _ _) _)
    have HG3 : Hid (w3.heap.size = w2.heap.size + 1) := Lib.hid (by rw [hw3, World.size_alloc])
    clear hw3
    obtain ⟨g, hg⟩ : ∃ g, w2.heap.size = g := ⟨_, rfl⟩
    have HG : Hid (w2.heap.size = g) := Lib.hid hg
    rw [hg] at HN3 HB3 HG3 ⊢
    clear hg
    go_wp2_with fail
    refine (read_at s g _ HN3.out (by have := HSZ.out; omega) L en E F HRES.out).mono ?_
    rintro e w4 ⟨v4, lv4, rfl, ho4, hd4, he4⟩
    obtain ⟨A4, c4, rfl, hc4⟩ := Go.Proofs.Ytegacgfhmigdjaa.own_slice ho4
    have HO4 := Lib.hid ho4
    have HC4 := Lib.hid hc4
    obtain ⟨tv4, hblk4⟩ := hd4.blk
    have HK4 := Lib.hid hblk4
    have HB4 : Hid (Below g w2 w4) := Lib.hid (Eff.under HB3.out he4 (by have := HG3.out; omega) (fun k hk => by have := HG3.out; omega))
    clear ho4 hd4 he4 hblk4 hc4 HN3 HB3 HG3
    go_wp2_with fail
    refine (fail_c HK4.out rfl rfl).mono ?_
    rintro e w5 ⟨rfl, hb5⟩
    have HB5 : Hid (Below w.heap.size w w5) := Lib.hid (below_next (below_next HB2.out (by rw [HG.out]; exact HB4.out)) hb5)
    have HO5 := Lib.hid (Go.Proofs.Ytegacgfhmigdjaa.own_below HO4.out hb5)
    clear hb5
    have hfe := fun (a b : Value) (W : World) => field_err a b W
    rcases hcase with ⟨hE, rfl⟩ | ⟨rfl, hn, h0, ht⟩
    · go_wp2_with fail
      go_ret
      exact ⟨rfl, HB5.out⟩
    · have HN := Lib.hid hn
      have H0 := Lib.hid h0
      have HT := Lib.hid ht
      clear hn h0 ht
      go_wp2_with fail
      refine (newenc_c _).mono ?_
      rintro e w6 ⟨rfl, hw6⟩
      have HW := Lib.hid (write_fresh L A4 none none c4 0 0 [] [] w5 w6 hw6 (own_reads' HO5.out) HC4.out (by have := HLL.out; omega) H0.out (reads_nil _ _) (reads_nil _ _) (by decide) (by decide) (textP L) true 0 0 (.inr ⟨HN.out, rfl, rfl, rfl, rfl⟩))
      clear hw6
      go_wp2_with fail
      refine HW.out.mono ?_
      rintro e w7 ⟨rfl, hx7, hb7⟩
      have HB7 := Lib.hid (below_next HB5.out hb7)
      clear hb7 hx7 HW
      rw [HT.out]
      go_wp2_with fail
      refine (small_c s _ (by have := HSZ.out; omega)).mono ?_
      rintro e w8 ⟨rfl, hb8⟩
      have HB8 := Lib.hid (below_next HB7.out hb8)
      clear hb8
      go_wp2_with fail
      go_ret
      exact ⟨rfl, HB8.out⟩
end Go.Proofs.Ytegacgfhmigdjaa
