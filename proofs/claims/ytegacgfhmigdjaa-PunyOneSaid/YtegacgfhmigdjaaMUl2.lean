/- Joined texts: Ul2. -/
import Derived.Test.YtegacgfhmigdjaaMUsm
import Derived.Test.YtegacgfhmigdjaaMUlw
import Derived.Deep.RegionHeld3
/- pilcrowlaw10.PunyLetters, walked. -/
namespace Go.Proofs.Ytegacgfhmigdjaa
open Go.RowKit Go.Proofs.YtegacgfhmigdjaaW.PrintWords Go.Proofs.YtegacgfhmigdjaaW.PrintLast Go.Proofs.YtegacgfhmigdjaaW.PrintMore Go.Proofs.Ytegacgfhmigdjaa.PPu
set_option linter.unusedVariables false
set_option linter.unusedSimpArgs false

/-- A fresh decoder reads a text. -/
theorem read_at (s : ByteArray) (g : Nat) (w : World) (hd : Blk w g 43 DECZ) (hs : s.size ≤ 100000) (L : List Int) (en : Bool) (E F : Int) (hres : ReadF s L en E F) :
    Calls Try.prog 13 #[.pointer (some ⟨g, 0, none⟩), .string s, .slice none 0 0, .slice none 0 0] w fun e w' => ∃ v lv', e = .returned (.tuple #[v, .bool true]) ∧ w'.ownsRow w.heap.size 51 1 v L.length (nums .u32 L) ∧ DE w' g w.heap.size E F (feedN s : Int) en [] lv' ∧ Eff w w' (fun k => k = g ∨ w.heap.size ≤ k) :=
  read_c g w.heap.size s none none 0 0 [] [] w ⟨hd, ⟨rfl, .inl ⟨rfl, none, rfl, fun a h => by cases h⟩⟩, rfl, ⟨rfl, .inl ⟨rfl, none, rfl, fun a h => by cases h⟩⟩⟩ (Nat.le_refl _) hs (by decide) (by decide) (.inl rfl) (.inl rfl) L en E F hres
set_option maxRecDepth 100000 in
set_option maxHeartbeats 4000000 in
theorem letters_c (s : ByteArray) (w : World) : Calls Try.prog 3 #[.string s] w fun e w' => e = .returned (.bool true) ∧ Below w.heap.size w w' := by
  go_enter Try.func3, Try.ntmps3
  go_wp2_with fail
  refine (awake_c _).mono ?_
  rintro e w1 ⟨rfl, hb1⟩
  have HB1 := Lib.hid hb1
  clear hb1
  go_wp2_with fail
  refine (great_n s.size _).mono ?_
  rintro e w2 ⟨rfl, hb2⟩
  have HB2 := Lib.hid (below_next HB1.out hb2)
  clear hb2
  by_cases hg : s.size > 120
  · rw [decide_eq_true hg]
    clear hg
    go_wp2_with fail
    refine (awake_c _).mono ?_
    rintro e w3 ⟨rfl, hb3⟩
    have HB3 := Lib.hid (below_next HB2.out hb3)
    clear hb3
    go_wp2_with fail
    go_ret
    exact ⟨rfl, HB3.out⟩
  · rw [decide_eq_false hg]
    have HSZ : Hid (s.size ≤ 120) := Lib.hid (by omega)
    clear hg
    obtain ⟨L, en, E, F, hres, hF⟩ := readF_some s
    have HRES := Lib.hid hres
    have HRES2 := Lib.hid (small_read hres)
    have HLL : Hid (L.length ≤ 120) := Lib.hid (Nat.le_trans hres.len HSZ.out)
    clear hres hF
    go_wp2_with fail
    refine (newdec_c _).mono ?_
    rintro e w3 ⟨rfl, hw3⟩
    have HN3 : Hid (Blk w3 w2.heap.size 43 DECZ ∧ w3.heap.size = w2.heap.size + 1) := Lib.hid ⟨by rw [hw3]; exact Blk.new w2 _ _, by rw [hw3, World.size_alloc]⟩
    have HB3 : Hid (Below w2.heap.size w2 w3) := Lib.hid (by rw [hw3]; exact below_new (Below.refl _ _) _)
    clear hw3
    go_wp2_with fail
    refine (newdec_c _).mono ?_
    rintro e w4 ⟨rfl, hw4⟩
    have HN4 : Hid (Blk w4 w2.heap.size 43 DECZ ∧ Blk w4 (w2.heap.size + 1) 43 DECZ ∧ w4.heap.size = w2.heap.size + 2) := Lib.hid ⟨by rw [hw4]; exact HN3.out.1.alloc _, by rw [hw4, ← HN3.out.2]; exact Blk.new w3 _ _, by rw [hw4, World.size_alloc, HN3.out.2]⟩
    have HB4 : Hid (Below w2.heap.size w2 w4) := Lib.hid (by rw [hw4]; exact below_new HB3.out _)
    rw [HN3.out.2]
    clear hw4 HN3 HB3
    obtain ⟨g, hg⟩ : ∃ g, w2.heap.size = g := ⟨_, rfl⟩
    have HG : Hid (w2.heap.size = g) := Lib.hid hg
    rw [hg] at HN4 HB4 ⊢
    obtain ⟨g2, hg2⟩ : ∃ g2, g + 1 = g2 := ⟨_, rfl⟩
    rw [hg2] at HN4 ⊢
    have HG2 : Hid (g2 = g + 1 ∧ w4.heap.size = g + 2) := Lib.hid ⟨hg2.symm, HN4.out.2.2⟩
    clear hg hg2
    go_wp2_with fail
    refine (read_at s g _ HN4.out.1 (by have := HSZ.out; omega) L en E F HRES.out).mono ?_
    rintro e w5 ⟨v5, lv5, rfl, ho5, hd5, he5⟩
    obtain ⟨A5, c5, rfl, hc5⟩ := Go.Proofs.Ytegacgfhmigdjaa.own_slice ho5
    have HO5 := Lib.hid ho5
    have HC5 := Lib.hid hc5
    have HD5 := Lib.hid hd5
    have HE5 : Hid (w4.heap.size ≤ w5.heap.size) := Lib.hid he5.size
    have HF5 : Hid (Blk w5 g2 43 DECZ) := Lib.hid (HN4.out.2.1.eff he5 (by have := HG2.out; omega))
    have HB5 : Hid (Below g w2 w5) := Lib.hid (Eff.under HB4.out he5 (by have := HG2.out; omega) (fun k hk => by have := HG2.out; omega))
    clear ho5 hd5 he5 hc5 HN4 HB4
    go_wp2_with fail
    refine (small_c s _ (by have := HSZ.out; omega)).mono ?_
    rintro e w6 ⟨rfl, hb6⟩
    have HO6 := Lib.hid (Go.Proofs.Ytegacgfhmigdjaa.own_below HO5.out hb6)
    have HF6 := Lib.hid (HF5.out.below hb6)
    obtain ⟨tv5, hblk5⟩ := HD5.out.blk
    have HK6 := Lib.hid (hblk5.below hb6)
    have HB6 : Hid (Below g w2 w6) := Lib.hid (Eff.under HB5.out (Eff.of_below hb6 (fun _ => False)) (by have := HG2.out; have := HE5.out; omega) (fun k hk => hk.elim))
    have HE6 : Hid (w4.heap.size ≤ w6.heap.size) := Lib.hid (Nat.le_trans HE5.out hb6.size)
    clear hb6 hblk5 HO5 HF5 HB5 HD5
    go_wp2_with fail
    refine (read_at (smallB s) g2 _ HF6.out (by rw [small_size]; have := HSZ.out; omega) L en E F HRES2.out).mono ?_
    rintro e w7 ⟨v7, lv7, rfl, ho7, hd7, he7⟩
    obtain ⟨A7, c7, rfl, hc7⟩ := Go.Proofs.Ytegacgfhmigdjaa.own_slice ho7
    have HO7 := Lib.hid ho7
    have HC7 := Lib.hid hc7
    have HO57 := Lib.hid (own_move HO6.out fun k hk => by
      obtain ⟨cells, hc⟩ := own_typed HO6.out k hk
      refine he7.block k (Array.getElem?_eq_some_iff.1 hc).1 fun e => ?_
      rcases e with e | e
      · exact own_types (q_of_own HO6.out) HF6.out (by decide) (by rw [hk, e])
      · have := (Array.getElem?_eq_some_iff.1 hc).1
        omega)
    obtain ⟨tv7, hblk7⟩ := hd7.blk
    have HK7 := Lib.hid hblk7
    have HK57 := Lib.hid (HK6.out.eff he7 (by have := HG2.out; have := HE6.out; omega))
    have HB7 : Hid (Below g w2 w7) := Lib.hid (Eff.under HB6.out he7 (by have := HG2.out; have := HE6.out; omega) (fun k hk => by have := HG2.out; have := HE6.out; omega))
    have HE7 : Hid (w4.heap.size ≤ w7.heap.size) := Lib.hid (Nat.le_trans HE6.out he7.size)
    clear ho7 hd7 he7 hc7 hblk7 HO6 HF6 HB6 HK6
    have hq := eql_fail E F
    have HSAME := Lib.hid (fun W (hb : Below w7.heap.size w7 W) => same_c L (by have := HLL.out; omega) A5 A7 c5 c7 W (own_reads' (Go.Proofs.Ytegacgfhmigdjaa.own_below HO57.out hb)) (own_reads' (Go.Proofs.Ytegacgfhmigdjaa.own_below HO7.out hb)) HC5.out HC7.out)
    have HFA := Lib.hid (fun W (hb : Below w7.heap.size w7 W) => fail_c (HK57.out.below hb) rfl rfl)
    have HFB := Lib.hid (fun W (hb : Below w7.heap.size w7 W) => fail_c (HK7.out.below hb) rfl rfl)
    go_wp2_with fail
    have HS0 : Hid (Below w7.heap.size w7 w7) := Lib.hid (Below.refl _ _)
    go_region_held3 (fun w' => Hid (Below w7.heap.size w7 w')) (first | with_reducible assumption | exact Lib.hid (below_drew1 (Below.refl _ _))) (first
      | (go_at_call 15; refine (HSAME.out _ (Hid.out (by with_reducible assumption))).mono ?_; rintro e wa ⟨rfl, hba⟩; have HBW : Hid (Below w7.heap.size w7 wa) := Lib.hid (below_next (Hid.out (by with_reducible assumption)) hba); clear hba)
      | (go_at_call_of 16 (Value.pointer (some (Addr.mk g 0 none))); refine (HFA.out _ (Hid.out (by with_reducible assumption))).mono ?_; rintro e wa ⟨rfl, hba⟩; have HBW : Hid (Below w7.heap.size w7 wa) := Lib.hid (below_next (Hid.out (by with_reducible assumption)) hba); clear hba)
      | (go_at_call_of 16 (Value.pointer (some (Addr.mk g2 0 none))); refine (HFB.out _ (Hid.out (by with_reducible assumption))).mono ?_; rintro e wa ⟨rfl, hba⟩; have HBW : Hid (Below w7.heap.size w7 wa) := Lib.hid (below_next (Hid.out (by with_reducible assumption)) hba); clear hba))
    all_goals go_wp2_with fail
    all_goals go_ret
    all_goals refine ⟨rfl, ?_⟩
    all_goals exact below_next (below_next HB2.out (by rw [HG.out]; exact HB7.out)) (Hid.out (by with_reducible assumption))
end Go.Proofs.Ytegacgfhmigdjaa
