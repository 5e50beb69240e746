/- Joined texts: Ups. -/
import Derived.Test.YtegacgfhmigdjaaMUsj
/- A list's text: its length, in plain Lean. -/
namespace Go.Proofs.Ytegacgfhmigdjaa
open Go.RowKit Go.Proofs.YtegacgfhmigdjaaW.PrintWords Go.Proofs.YtegacgfhmigdjaaW.PrintLast Go.Proofs.YtegacgfhmigdjaaW.PrintMore Go.Proofs.Ytegacgfhmigdjaa.PPu
set_option linter.unusedVariables false
set_option linter.unusedSimpArgs false

/-- What each number of the list keeps, all the text keeps. -/
theorem outer_ind (ys : List Int) (start : Nat) (hl : ys.length ≤ 10000) (P : TS → Prop) (hstep : ∀ m i s, II ys m i s → i < ys.length → P s → P (stepT start m s (ys.getD i 0))) (hd : ∀ s d, P s → P { s with delta := d }) :
    ∀ (zs : List Int) (n : Int) (s : TS), OI ys zs n s → P s → P (outerT ys start zs (n, s)).2 ∧ ∃ n', OI ys [] n' (outerT ys start zs (n, s)).2
  | [], n, s, h, hp => ⟨hp, n, h⟩
  | m :: zs, n, s, h, hp => by
    obtain ⟨D, hD, -, -, -, -, -, -, -, h0⟩ := h.enter hl
    have hin : ∀ i, i ≤ ys.length → II ys m i (innerT start m (ys.take i) { s with delta := s.delta + D }) ∧ P (innerT start m (ys.take i) { s with delta := s.delta + D }) := by
      intro i
      induction i with
      | zero => intro _; exact ⟨h0, hd _ _ hp⟩
      | succ i ih =>
        intro hi
        rw [inner_succ start m ys _ i (by omega)]
        obtain ⟨h1, h2⟩ := ih (by omega)
        exact ⟨h1.step (by omega) start, hstep m i _ h1 (by omega) h2⟩
    obtain ⟨h1, hp1⟩ := hin ys.length (Nat.le_refl _)
    rw [List.take_length] at h1 hp1
    have h2 := h1.leave h
    rw [← hD] at h2 hp1
    exact outer_ind ys start hl P hstep hd zs (m + 1) _ h2 (hd _ _ hp1)
theorem cntB_all : ∀ (ys : List Int) (n : Int), (∀ c ∈ ys, c < n) → cntB ys n = ys.length
  | [], _, _ => rfl
  | y :: ys, n, h => by
    have ih := cntB_all ys n (fun c hc => h c (List.mem_cons_of_mem _ hc))
    unfold cntB at *
    rw [List.filter_cons, if_pos (by simpa using h y List.mem_cons_self), List.length_cons, List.length_cons, ih]
theorem OI.all_done {ys : List Int} {n : Int} {s : TS} (h : OI ys [] n s) : s.done = ys.length := by
  rw [h.done]
  exact cntB_all ys n fun c hc => (h.cov c hc).elim id fun e => (by cases e)
theorem adK_le : ∀ (m k : Nat) (x b : Int), 0 ≤ x → x < 456 * 35 ^ m → m + 1 ≤ k → b ≤ adK k x b ∧ adK k x b ≤ b + 36 * m + 36
  | m, k, x, b, h0, hx, hk => by
    obtain ⟨k, rfl⟩ : ∃ j, k = j + 1 := ⟨k - 1, by omega⟩
    rw [adK]
    by_cases h : x > 455
    · rw [if_pos h]
      cases m with
      | zero => simp at hx; omega
      | succ m =>
        rw [Int.pow_succ] at hx
        have := adK_le m k (x / 35) (b + 36) (by omega) (Int.ediv_lt_of_lt_mul (by decide) (by rw [Int.mul_assoc]; exact hx)) (by omega)
        omega
    · rw [if_neg h]
      have e2 : 0 ≤ 36 * x / (x + 38) := Int.ediv_nonneg (by omega) (by omega)
      have e3 : 36 * x / (x + 38) ≤ 36 := by
        have := Int.ediv_le_ediv (a := 36 * x) (b := 36 * (x + 38)) (c := x + 38) (by omega) (by omega)
        rw [Int.mul_ediv_cancel _ (by omega)] at this
        exact this
      omega
theorem adaptP_le {delta points : Int} {fb : Bool} (h0 : 0 ≤ delta) (h1 : delta ≤ 200000000) (hp : 1 ≤ points) : 0 ≤ adaptP delta points fb ∧ adaptP delta points fb ≤ 298 := by
  unfold adaptP
  have key : ∀ y : Int, 0 ≤ y → y ≤ 100000000 → 0 ≤ adK 100 (y + y / points) 0 ∧ adK 100 (y + y / points) 0 ≤ 298 := by
    intro y y0 y1
    have e1 : y / points ≤ y := Int.ediv_le_self _ y0
    have e2 : 0 ≤ y / points := Int.ediv_nonneg y0 (by omega)
    have := adK_le 4 100 (y + y / points) 0 (by omega) (by omega) (by omega)
    omega
  cases fb with
  | true => simp only [if_true]; exact key _ (by omega) (by omega)
  | false => simp only [Bool.false_eq_true, if_false]; exact key _ (by omega) (by omega)
theorem putI_short (b : Int) (hb0 : 0 ≤ b) (hb : b ≤ 298) : ∀ (m k : Nat) (n : Int) (place : Nat), 0 ≤ n → n < 26 * 10 ^ m → place + m = 8 → (putI k n b place).length ≤ m + 1
  | m, 0, _, _, _, _, _ => by rw [putI]; simp
  | m, k + 1, n, place, h0, hn, hp => by
    obtain ⟨t0, t1⟩ := thr_range (place : Int) b
    rw [putI]
    by_cases hlt : n < thrP place b
    · rw [if_pos hlt]; simp
    · rw [if_neg hlt]
      obtain ⟨q0, q1, r0, r1⟩ := quo_facts (by omega) t0 t1 (n := n)
      cases m with
      | zero =>
        exfalso
        have e : thrP (place : Int) b = 26 := by
          have : place = 8 := by omega
          subst this
          unfold thrP mn mx
          have a1 : (if ((8 : Nat) : Int) ≤ 0 then (0 : Int) else ((8 : Nat) : Int)) = 8 := by decide
          repeat' split
          all_goals omega
        simp at hn
        omega
      | succ m =>
        rw [Int.pow_succ] at hn
        have := putI_short b hb0 hb m k ((n - thrP place b) / (36 - thrP place b)) (place + 1) q0 (by omega) (by omega)
        simp only [List.length_cons]
        rw [show ((place + 1 : Nat) : Int) = (place : Int) + 1 from rfl] at this
        omega
theorem putL_short {n b : Int} (h0 : 0 ≤ n) (hn : n ≤ 200000000) (hb0 : 0 ≤ b) (hb : b ≤ 298) : (putL n b).length ≤ 9 := by
  have h := putI_short b hb0 hb 8 20 n 0 h0 (by omega) rfl
  exact h
theorem II.delta_short {ys : List Int} {m : Int} {i : Nat} {s : TS} (h : II ys m i s) (hi : i ≤ ys.length) (hl : ys.length ≤ 120) : s.delta ≤ 200000000 := by
  have m0 := h.m0
  have m1 := h.m1
  have e4 : (m - 128) * ((ys.length : Int) + 1) ≤ 1114000 * 121 := mul_le (by omega) (by omega) (by omega) (by omega)
  have d1 := h.d1
  omega
theorem low_high_len : ∀ ys : List Int, (lowL ys).length + (highL ys).length = ys.length
  | [] => rfl
  | y :: ys => by
    have := low_high_len ys
    unfold lowL highL at *
    by_cases c : y < 128
    · simp only [List.filter_cons, c, decide_true, if_true, Bool.not_true, Bool.false_eq_true, if_false, List.length_cons]; omega
    · simp only [List.filter_cons, c, decide_false, Bool.not_false, if_true, Bool.false_eq_true, if_false, List.length_cons]; omega
/-- How long a list's text is. -/
theorem text_short (ys : List Int) (hl : ys.length ≤ 120) (hr : ∀ y ∈ ys, 0 ≤ y ∧ y ≤ 1114111) :
    (lowL ys).length + min (lowL ys).length 1 + (highL ys).length ≤ (textP ys).size ∧ (textP ys).size ≤ (lowL ys).length + min (lowL ys).length 1 + (highL ys).length + 8 * (highL ys).length := by
  have hsep : (sepL ys).length = min (lowL ys).length 1 := by unfold sepL; split <;> simp <;> omega
  have h := outer_ind ys (lowL ys).length (by omega) (fun s => (0 ≤ s.b ∧ s.b ≤ 298) ∧ (lowL ys).length ≤ s.done ∧ (lowL ys).length + (sepL ys).length + (s.done - (lowL ys).length) ≤ s.out.length ∧ s.out.length ≤ (lowL ys).length + (sepL ys).length + 9 * (s.done - (lowL ys).length))
    (fun m i s hI hi ⟨⟨b0, b1⟩, hd, h1, h2⟩ => by
      have hd0 := hI.d0
      have hd1 := hI.delta_short (by omega) hl
      unfold stepT
      by_cases c1 : ys.getD i 0 < m
      · rw [if_pos c1]; exact ⟨⟨b0, b1⟩, hd, h1, h2⟩
      · rw [if_neg c1]
        by_cases c2 : ys.getD i 0 = m
        · rw [if_pos c2]
          have hp1 := (putL_len s.delta s.b).1
          have hp2 := putL_short hd0 hd1 b0 b1
          refine ⟨adaptP_le hd0 hd1 (by omega), by show _ ≤ s.done + 1; omega, ?_, ?_⟩
          · show _ ≤ (s.out ++ putL s.delta s.b).length
            rw [List.length_append]
            show _ + (s.done + 1 - _) ≤ _
            omega
          · show (s.out ++ putL s.delta s.b).length ≤ _ + 9 * (s.done + 1 - _)
            rw [List.length_append]
            omega
        · rw [if_neg c2]; exact ⟨⟨b0, b1⟩, hd, h1, h2⟩)
    (fun s d h => h) (zsL ys) 128 (startT ys) (OI.start (upz_zs ys) hr) ⟨⟨by show (0 : Int) ≤ 72; decide, by show (72 : Int) ≤ 298; decide⟩, Nat.le_refl _, by show _ ≤ (lowL ys ++ sepL ys).length; rw [List.length_append]; show _ + ((lowL ys).length - (lowL ys).length) ≤ _; omega, by show (lowL ys ++ sepL ys).length ≤ _; rw [List.length_append]; omega⟩
  obtain ⟨⟨_, hd, h1, h2⟩, n', hO⟩ := h
  have hdone := hO.all_done
  have hlh := low_high_len ys
  rw [hdone] at h1 h2 hd
  rw [← bytesOf_length, bytes_p ys hr]
  unfold textL textZ
  rw [← hsep]
  omega
end Go.Proofs.Ytegacgfhmigdjaa
