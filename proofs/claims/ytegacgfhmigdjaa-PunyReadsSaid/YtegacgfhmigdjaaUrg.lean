/- The reference's biased numbers: the same as the program's. -/
import Derived.Test.YtegacgfhmigdjaaPPux3
import Derived.Test.YtegacgfhmigdjaaUpp
namespace Go.Proofs.Ytegacgfhmigdjaa
open Go.RowKit Go.Proofs.YtegacgfhmigdjaaW.PrintWords Go.Proofs.YtegacgfhmigdjaaW.PrintLast Go.Proofs.YtegacgfhmigdjaaW.PrintMore Go.Proofs.Ytegacgfhmigdjaa.PPu
set_option linter.unusedVariables false
set_option linter.unusedSimpArgs false

set_option maxRecDepth 100000 in
theorem rdig_fin : ∀ c : Fin 256, pilcrowref09_Digit.f 60 (c.val : Int) = some ((digP (c.val : Int)).getD (-1)) := by decide +kernel
theorem rdig_f (k : Nat) (hk : 60 ≤ k) (c : Int) (h0 : 0 ≤ c) (h1 : c ≤ 255) : pilcrowref09_Digit.f k c = some ((digP c).getD (-1)) := by
  obtain ⟨j, rfl⟩ : ∃ j, k = 60 + j := ⟨k - 60, by omega⟩
  induction j with
  | zero =>
    have h := rdig_fin ⟨c.toNat, by omega⟩
    simp only [Int.toNat_of_nonneg h0] at h
    exact h
  | succ j ih => exact pilcrowref09_Digit.mono c (60 + j) _ (ih (by omega))
theorem rthr_f (p b : Int) : pilcrowref09_Threshold.f p b = some (thrP p b) := by
  have hb : ∀ x : Int, pilcrowref09_bound.f x = some (mn (mx x 0) 1000) := fun x => by
    unfold pilcrowref09_bound.f mn mx
    repeat' split
    all_goals first | rfl | (congr 1; omega) | (exfalso; omega)
  have h1 : 0 ≤ mn (mx p 0) 1000 ∧ mn (mx p 0) 1000 ≤ 1000 := by unfold mn mx; split <;> split <;> omega
  have h2 : 0 ≤ mn (mx b 0) 1000 ∧ mn (mx b 0) 1000 ≤ 1000 := by unfold mn mx; split <;> split <;> omega
  unfold pilcrowref09_Threshold.f thrP
  rw [hb, hb]
  simp only [Option.bind_some]
  rw [w64 (x := mn (mx p 0) 1000 + 1) (by omega) (by omega), w64 (x := 36 * (mn (mx p 0) 1000 + 1)) (by omega) (by omega), w64 (by omega) (by omega)]
  generalize mn (mx p 0) 1000 = P at *
  generalize mn (mx b 0) 1000 = Q at *
  unfold mn mx
  repeat' split
  all_goals first | rfl | (congr 1; omega) | (exfalso; omega)
/-- The digit, laid on d times. -/
theorem rget_l1 (s : ByteArray) (b at_ place : Int) (w : Int) (hw0 : 1 ≤ w) (hw1 : w ≤ topP + 1) (d : Int) (hd1 : d ≤ 35) : ∀ (m : Nat) (i n : Int) (k : Nat), 0 ≤ i → i + m = d → 0 ≤ n → n ≤ topP → m + 1 ≤ k →
    (topP < n + m * w → ∃ er, er ≠ 0 ∧ pilcrowref09_Get.l1 k s at_ b n w topP place d i = some (0, 0, er)) ∧
    (¬ topP < n + m * w → ∃ k', k ≤ k' + m ∧ pilcrowref09_Get.l1 k s at_ b n w topP place d i = pilcrowref09_Get.l1 k' s at_ b (n + m * w) w topP place d d)
  | 0, i, n, k, h0, hi, n0, n1, hk => by
    have hi2 : i = d := by omega
    subst hi2
    simp only [Int.natCast_zero, Int.zero_mul, Int.add_zero]
    exact ⟨fun h => absurd h (by omega), fun _ => ⟨k, by omega, rfl⟩⟩
  | m + 1, i, n, k, h0, hi, n0, n1, hk => by
    have hT : topP = 4611686018427387904 := rfl
    obtain ⟨k, rfl⟩ : ∃ j, k = j + 1 := ⟨k - 1, by omega⟩
    have hmw : ((m + 1 : Nat) : Int) * w = w + m * w := by rw [Int.natCast_add, Int.add_mul]; omega
    have hmw0 : 0 ≤ (m : Int) * w := Int.mul_nonneg (by omega) (by omega)
    rw [hmw, pilcrowref09_Get.l1, if_pos (show i < d by omega), u64 (x := topP - n) (by omega) (by omega)]
    by_cases hc : w > topP - n
    · rw [if_pos hc]
      exact ⟨fun _ => ⟨5, by decide, rfl⟩, fun h => absurd h (by omega)⟩
    · rw [if_neg hc, u64 (x := n + w) (by omega) (by omega), w64 (x := i + 1) (by omega) (by omega)]
      obtain ⟨h1, h2⟩ := rget_l1 s b at_ place w hw0 hw1 d hd1 m (i + 1) (n + w) k (by omega) (by omega) (by omega) (by omega) (by omega)
      rw [show n + (w + (m : Int) * w) = n + w + m * w by omega]
      refine ⟨h1, fun h => ?_⟩
      obtain ⟨k', hk', e⟩ := h2 h
      exact ⟨k', by omega, e⟩
theorem rget_l0 (s : ByteArray) (b : Int) (hs : s.size ≤ 1000000000) : ∀ (m : Nat) (at_ n w place : Int) (k : Nat), 0 ≤ at_ → at_ + m = s.size → 0 ≤ n → n ≤ topP → 1 ≤ w → w ≤ topP + 1 → 0 ≤ place → place + m ≤ 1000000000 → 40 * m + 100 ≤ k →
    GetIs (getI s b (m + 1) at_ n w place) (pilcrowref09_Get.l0 k s at_ b n w topP place)
  | m, at_, n, w, place, k, ha, hm, hn0, hn1, hw0, hw1, hp0, hp1, hk => by
    obtain ⟨k, rfl⟩ : ∃ j, k = j + 1 := ⟨k - 1, by omega⟩
    have hT : topP = 4611686018427387904 := rfl
    rw [pilcrowref09_Get.l0, getI]
    by_cases he : at_ = (s.size : Int)
    · rw [if_pos he, if_neg (show ¬ at_ < (s.size : Int) by omega)]
      exact ⟨4, by decide, rfl⟩
    · rw [if_neg he, if_pos (show at_ < (s.size : Int) by omega), if_pos ha]
      have hb := bt_range s at_
      rw [rdig_f k (by omega) _ hb.1 hb.2, Option.bind_some]
      cases hd : digP (bt s at_) with
      | none =>
        rw [Option.getD_none, if_pos (show (-1 : Int) < 0 by decide)]
        exact ⟨3, by decide, rfl⟩
      | some d =>
        obtain ⟨d0, d1⟩ := dig_range hd
        rw [Option.getD_some, if_neg (show ¬ d < 0 by omega)]
        obtain ⟨D, rfl⟩ : ∃ D : Nat, d = D := ⟨d.toNat, by omega⟩
        obtain ⟨h1, h2⟩ := rget_l1 s b at_ place w hw0 hw1 (D : Int) d1 D 0 n k (Int.le_refl 0) (by omega) hn0 hn1 (by omega)
        simp only
        by_cases ht : topP < n + (D : Int) * w
        · rw [if_pos ht]
          exact h1 ht
        · rw [if_neg ht]
          obtain ⟨k', hk', e⟩ := h2 ht
          rw [e]
          obtain ⟨q, rfl⟩ : ∃ j, k' = j + 1 := ⟨k' - 1, by omega⟩
          have hdw : 0 ≤ (D : Int) * w := Int.mul_nonneg d0 (by omega)
          rw [pilcrowref09_Get.l1, if_neg (Int.lt_irrefl _), rthr_f, Option.bind_some]
          obtain ⟨t0, t1⟩ := thr_range place b
          generalize hth : thrP place b = t at *
          rw [w64 (x := at_ + 1) (by omega) (by omega)]
          by_cases hlt : (D : Int) < t
          · rw [if_pos hlt, if_pos hlt]; rfl
          · rw [if_neg hlt, if_neg hlt, w64 (x := 36 - t) (by omega) (by omega), u64 (x := 36 - t) (by omega) (by omega), if_neg (show ¬ (36 - t = 0) by omega), w64 (x := place + 1) (by omega) (by omega), Int.tdiv_eq_ediv_of_nonneg (show (0 : Int) ≤ topP by decide)]
            have h3 : 0 ≤ topP / (36 - t) := Int.ediv_nonneg (by decide) (by omega)
            have h4 : topP / (36 - t) ≤ topP := Int.ediv_le_self _ (by decide)
            rw [u64 h3 (by omega)]
            obtain ⟨m, rfl⟩ : ∃ j, m = j + 1 := ⟨m - 1, by omega⟩
            have hiff : topP / (36 - t) < w ↔ topP < w * (36 - t) := div_lt (by omega) (by decide)
            have hwp : 1 ≤ w * (36 - t) := by
              have := Int.mul_le_mul (a := 1) (b := 1) (c := w) (d := 36 - t) hw0 (by omega) (by omega) (by omega)
              omega
            by_cases hg : topP < w * (36 - t)
            · rw [if_pos (hiff.2 hg), if_pos hg, u64 (x := topP + 1) (by omega) (by omega)]
              exact rget_l0 s b hs m (at_ + 1) (n + D * w) (topP + 1) (place + 1) q (by omega) (by omega) (by omega) (by omega) (by omega) (by omega) (by omega) (by omega) (by omega)
            · rw [if_neg (fun h => hg (hiff.1 h)), if_neg hg, u64 (x := w * (36 - t)) (by omega) (by omega)]
              exact rget_l0 s b hs m (at_ + 1) (n + D * w) (w * (36 - t)) (place + 1) q (by omega) (by omega) (by omega) (by omega) (by omega) (by omega) (by omega) (by omega) (by omega)
theorem rget_f (s : ByteArray) (b at_ : Int) (hs : s.size ≤ 1000000000) (h0 : 0 ≤ at_) (h1 : at_ ≤ s.size) (k : Nat) (hk : 40 * s.size + 110 ≤ k) : GetIs (getP s at_ b) (pilcrowref09_Get.f k s at_ b) := by
  obtain ⟨k, rfl⟩ : ∃ j, k = j + 1 := ⟨k - 1, by omega⟩
  unfold pilcrowref09_Get.f getP
  rw [if_neg (by omega), decide_eq_false (by omega), pilcrowref09_Get.j0, if_neg (by decide)]
  exact rget_l0 s b hs ((s.size : Int) - at_).toNat at_ 0 1 0 k h0 (by omega) (by omega) (by decide) (by omega) (by decide) (by omega) (by omega) (by omega)
theorem rad_l0 : ∀ (m : Nat) (x b : Int) (k : Nat), 0 ≤ x → x < 456 * 35 ^ m → x ≤ 9223372036854775807 → 0 ≤ b → b + m ≤ 1000 → m + 1 ≤ k → ∀ j, m + 1 ≤ j → pilcrowref09_Adapt.l0 k x b = some (adK j x (36 * b))
  | m, x, b, k, h0, hx, hx2, hb, hb2, hk, j, hj => by
    obtain ⟨k, rfl⟩ : ∃ i, k = i + 1 := ⟨k - 1, by omega⟩
    obtain ⟨j, rfl⟩ : ∃ i, j = i + 1 := ⟨j - 1, by omega⟩
    rw [pilcrowref09_Adapt.l0, adK]
    by_cases h : x > 455
    · rw [if_pos h, if_pos h, Int.tdiv_eq_ediv_of_nonneg h0, u64 (x := x / 35) (by omega) (by omega), w64 (by omega) (by omega)]
      cases m with
      | zero => simp at hx; omega
      | succ m =>
        have := rad_l0 m (x / 35) (b + 1) k (by omega) (by
          rw [Int.pow_succ] at hx
          exact Int.ediv_lt_of_lt_mul (by decide) (by rw [Int.mul_assoc]; exact hx)) (by omega) (by omega) (by omega) (by omega) j (by omega)
        rw [this, show 36 * (b + 1) = 36 * b + 36 by omega]
    · have e1 : 36 * x / (x + 38) ≤ 36 * x := Int.ediv_le_self _ (by omega)
      have e2 : 0 ≤ 36 * x / (x + 38) := Int.ediv_nonneg (by omega) (by omega)
      rw [if_neg h, if_neg h, u64 (x := x + 38) (by omega) (by omega), if_neg (by omega), u64 (x := 36 * x) (by omega) (by omega), Int.tdiv_eq_ediv_of_nonneg (by omega), u64 e2 (by omega), w64 (x := 36 * x / (x + 38)) (by omega) (by omega), w64 (x := 36 * b) (by omega) (by omega), w64 (by omega) (by omega)]
theorem radapt_f (delta points : Int) (first : Bool) (h0 : 0 ≤ delta) (h1 : delta ≤ topP) (hp : 1 ≤ points) (k : Nat) (hk : 30 ≤ k) : pilcrowref09_Adapt.f k delta points first = some (adaptP delta points first) := by
  have hT : topP = 4611686018427387904 := rfl
  obtain ⟨k, rfl⟩ : ∃ i, k = i + 2 := ⟨k - 2, by omega⟩
  have key : ∀ y : Int, 0 ≤ y → y ≤ 2305843009213693952 → (if points = 0 then (none : Option Int) else pilcrowref09_Adapt.l0 k (IntKind.u64.wrap (y + IntKind.u64.wrap (Int.tdiv y points))) 0) = some (adK 100 (y + y / points) 0) := by
    intro y y0 y1
    rw [if_neg (by omega), Int.tdiv_eq_ediv_of_nonneg y0]
    have e1 : y / points ≤ y := Int.ediv_le_self _ y0
    have e2 : 0 ≤ y / points := Int.ediv_nonneg y0 (by omega)
    rw [u64 e2 (by omega), u64 (by omega) (by omega)]
    exact rad_l0 12 _ 0 k (by omega) (by omega) (by omega) (by omega) (by omega) (by omega) 100 (by omega)
  unfold pilcrowref09_Adapt.f adaptP
  rw [if_neg (by omega), pilcrowref09_Adapt.j0]
  cases first with
  | true =>
    rw [if_pos rfl, Int.tdiv_eq_ediv_of_nonneg h0, u64 (x := delta / 700) (by omega) (by omega), pilcrowref09_Adapt.j1]
    simp only [if_true]
    exact key _ (by omega) (by omega)
  | false =>
    rw [if_neg (by decide), Int.tdiv_eq_ediv_of_nonneg h0, u64 (x := delta / 2) (by omega) (by omega), pilcrowref09_Adapt.j1]
    simp only [Bool.false_eq_true, if_false]
    exact key _ (by omega) (by omega)
end Go.Proofs.Ytegacgfhmigdjaa
