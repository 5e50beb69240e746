/- pilcrowref10.Read and pilcrowlaw10.failed, walked. -/
import Derived.Test.YtegacgfhmigdjaaUrn
import Derived.Test.YtegacgfhmigdjaaUrd
namespace Go.Proofs.Ytegacgfhmigdjaa
open Go.RowKit Go.Proofs.YtegacgfhmigdjaaW.PrintWords Go.Proofs.YtegacgfhmigdjaaW.PrintLast Go.Proofs.YtegacgfhmigdjaaW.PrintMore Go.Proofs.Ytegacgfhmigdjaa.PPu
set_option linter.unusedVariables false
set_option linter.unusedSimpArgs false

theorem low_lt (s : ByteArray) : ∀ k i j : Nat, i ≤ j → j < lowN s k i → ¬ bt s (j : Int) > 127
  | 0, i, j, h, h1 => by rw [lowN] at h1; omega
  | k + 1, i, j, h, h1 => by
    rw [lowN] at h1
    split at h1
    · split at h1
      · omega
      · rename_i hb
        by_cases e : i = j
        · subst e; omega
        · exact low_lt s k (i + 1) j (by omega) h1
    · omega
theorem low_all {s : ByteArray} (h : feedN s = s.size) : ∀ i : Nat, i < s.size → ¬ bt s (i : Int) > 127 := fun i hi => low_lt s s.size 0 i (Nat.zero_le _) (by rw [← h] at hi; exact hi)
set_option maxRecDepth 100000 in
set_option maxHeartbeats 4000000 in
theorem rread_c (s : ByteArray) (w : World) (hs : s.size ≤ 100000) (L : List Int) (en : Bool) (E F : Int) (hres : ReadF s L en E F) :
    Calls Try.prog 17 #[.string s] w fun e w' => ∃ v, e = .returned (.tuple #[v, .int .i64 E, .int .i64 (feedN s)]) ∧ w'.ownsRow w.heap.size 51 1 v L.length (nums .u32 L) ∧ Below w.heap.size w w' := by
  have HR := Lib.hid hres
  have HS := Lib.hid hs
  clear hres hs
  go_enter Try.func17, Try.ntmps17
  go_upto_block 0 with fail
  go_wp2_with fail
  go_loopg [5] (s.size) (fun kq s5 wx => ∃ i : Nat, s5 = .int .i64 i ∧ Hid (kq = s.size - i ∧ i ≤ s.size ∧ lowN s (s.size - i) i = feedN s) ∧ wx = w)
  case atStart => exact ⟨0, rfl, Lib.hid ⟨rfl, Nat.zero_le _, rfl⟩, rfl⟩
  case round =>
    obtain ⟨i, rfl, HK, rfl⟩ := hrel
    by_cases hi : i < s.size
    · have hi0 : (0 : Int) ≤ (i : Int) := by omega
      have hi3 : (i : Int) < (s.size : Int) := by omega
      have hss : s.size ≤ 100000 := HS.out
      have hbt : (s[i].toNat : Int) = bt s (i : Int) := by
        have h := bt_at s (i : Int) (by rw [Int.toNat_natCast]; exact hi)
        simpa using h
      by_cases hb : bt s (i : Int) ≥ 128
      · have hb1 : decide (127 < bt s (i : Int)) = true := decide_eq_true (by omega)
        have HN : Hid (feedN s = i) := Lib.hid (HK.out.2.2.symm.trans (low_stop hi hb))
        have HQ : Hid (L = [] ∧ E = 3) := Lib.hid (by
          rcases HR.out with ⟨_, h1, _, h2, _⟩ | ⟨h1, _⟩
          · exact ⟨h1, h2⟩
          · exfalso; have := HN.out; omega)
        clear hb
        go_wp2_with fail
        refine bodyPost_ret (v := .tuple #[.slice none 0 0, .int .i64 3, .int .i64 i]) (by simp [results, Try.results17, go_sem]) rfl ?_
        exact ⟨.slice none 0 0, by rw [HQ.out.2, HN.out], by rw [HQ.out.1]; exact ⟨rfl, .inl ⟨rfl, rfl⟩⟩, Below.refl _ _⟩
      · have hb1 : decide (127 < bt s (i : Int)) = false := decide_eq_false (by omega)
        have HN : Hid (lowN s (s.size - (i + 1)) (i + 1) = feedN s) := Lib.hid ((low_on hi hb).symm.trans HK.out.2.2)
        clear hb
        go_wp2_with fail
        go_roundg (gk - 1)
        case measure => have := HK.out; omega
        case rel => exact ⟨i + 1, by go_num, Lib.hid ⟨by have := HK.out; omega, by omega, HN.out⟩, rfl⟩
    · have HIQ : Hid (i = s.size) := Lib.hid (by have := HK.out; omega)
      have HN : Hid (feedN s = s.size) := Lib.hid (HK.out.2.2.symm.trans (low_end HIQ.out))
      have HQ : Hid (denR s = (L, en) ∧ (en = true ∧ E = 0 ∨ en = false ∧ E = 4)) := Lib.hid (by
        rcases HR.out with ⟨h1, _⟩ | ⟨_, h1, h2⟩
        · exfalso; have := HN.out; omega
        · refine ⟨h1, ?_⟩
          rcases h2 with h2 | h2
          · injection h2 with h2 h3; injection h3 with h3 _; exact .inl ⟨h2, h3⟩
          · injection h2 with h2 h3; injection h3 with h3 _; exact .inr ⟨h2, h3⟩)
      have hi3 : ¬ (i : Int) < (s.size : Int) := by omega
      go_wp2_with fail
      refine (rdenoted_c s _ (by have := HS.out; omega) (low_all HN.out)).mono ?_
      rintro e w1 ⟨v1, rfl, ho1, hb1⟩
      have hden := HQ.out.1
      rw [hden] at ho1 ⊢
      have HO1 := Lib.hid ho1
      have HB1 := Lib.hid hb1
      rcases HQ.out.2 with ⟨rfl, rfl⟩ | ⟨rfl, rfl⟩
      · clear ho1 hb1 hden
        go_wp2_with fail
        refine bodyPost_ret (v := .tuple #[v1, .int .i64 0, .int .i64 s.size]) (by simp [results, Try.results17, go_sem]) rfl ?_
        exact ⟨v1, by rw [HN.out], HO1.out, HB1.out⟩
      · have HL : Hid (L = []) := Lib.hid (denR_no hden)
        clear ho1 hb1 hden
        go_wp2_with fail
        refine bodyPost_ret (v := .tuple #[.slice none 0 0, .int .i64 4, .int .i64 s.size]) (by simp [results, Try.results17, go_sem]) rfl ?_
        exact ⟨.slice none 0 0, by rw [HN.out], by rw [HL.out]; exact ⟨rfl, .inl ⟨rfl, rfl⟩⟩, HB1.out⟩
/-- What is told, if an error is met at a place. -/
theorem failed_c (e a : Int) (w : World) : Calls Try.prog 18 #[.int .i64 e, .int .i64 a] w fun r w' => r = .returned (.agg #[.int .i64 e, .int .i64 (if e = 0 then 0 else a)]) ∧ Below w.heap.size w w' := by
  by_cases he : e = 0
  · subst he
    go_enter Try.func18, Try.ntmps18
    go_wp2_with fail
    refine bodyPost_ret (v := .agg #[.int .i64 0, .int .i64 0]) (by simp [results, Try.results18, go_sem]) rfl ⟨rfl, ?_⟩
    exact below_new (Below.refl _ _) _
  · have hb : (e == 0) = false := by rw [beq_eq_false_iff_ne]; exact he
    rw [if_neg he]
    go_enter Try.func18, Try.ntmps18
    go_wp2_with fail
    refine bodyPost_ret (v := .agg #[.int .i64 e, .int .i64 a]) (by simp [results, Try.results18, go_sem]) rfl ⟨rfl, ?_⟩
    exact below_new (Below.refl _ _) _
end Go.Proofs.Ytegacgfhmigdjaa
