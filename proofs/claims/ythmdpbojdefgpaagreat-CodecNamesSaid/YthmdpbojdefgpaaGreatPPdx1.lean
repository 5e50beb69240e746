/- Go functions as Lean functions, and that the one comes to what the other answers: written by the kit's print.py for several functions together (wip/printall.sh of this repo). -/
import Derived.Test.YthmdpbojdefgpaaGreatPPdx0
namespace Go.Proofs.YthmdpbojdefgpaaGreat.PPd
open Go.RowKit Go.Proofs.YthmdpbojdefgpaaGreatW.PrintWords Go.Proofs.YthmdpbojdefgpaaGreatW.PrintLast Go.Proofs.YthmdpbojdefgpaaGreatW.PrintMore
attribute [local go_sem] max2_int min2_int max_two min_two max_three min_three max_four min_four   -- for this text's walks alone
set_option linter.unusedVariables false
set_option linter.unusedSimpArgs false

/-! ### diff_first: function 277 -/
def diff_first.f (a0 : Int) : Option (Int × Int) := if (wrap64 (a0)) ≥ 254 then (some (187660, 3)) else (if (wrap64 (a0)) ≥ 251 then (some (wrap64 (10513 + (wrap64 ((wrap64 ((wrap64 ((wrap64 (a0)) - 251)) * 243)) * 243))), 2)) else (if (wrap64 (a0)) ≥ 208 then (some (wrap64 (64 + (wrap64 ((wrap64 ((wrap64 (a0)) - 208)) * 243))), 1)) else (if (wrap64 (a0)) ≥ 80 then (some (wrap64 ((wrap64 (a0)) - 144), 0)) else (if (wrap64 (a0)) ≥ 37 then (some (wrap64 ((-64) + (wrap64 ((wrap64 ((wrap64 (a0)) - 80)) * 243))), 1)) else (if (wrap64 (a0)) ≥ 34 then (some (wrap64 ((-10513) + (wrap64 ((wrap64 ((wrap64 ((wrap64 (a0)) - 37)) * 243)) * 243))), 2)) else (some ((-14536567), 3)))))))
set_option maxHeartbeats 8000000 in
set_option maxRecDepth 100000 in
theorem diff_first.calls (a0 : Int) (r1 : Int) (r2 : Int) (w : World) (h : diff_first.f a0 = some (r1, r2)) :
    Calls Tryz.prog 277 #[.int .u8 a0] w fun e w' => e = .returned (.tuple #[.int .i64 r1, .int .i64 r2]) ∧ Drawn0 w w' := by
  have H : (if (wrap64 (a0)) ≥ 254 then (some (187660, 3)) else (if (wrap64 (a0)) ≥ 251 then (some (wrap64 (10513 + (wrap64 ((wrap64 ((wrap64 ((wrap64 (a0)) - 251)) * 243)) * 243))), 2)) else (if (wrap64 (a0)) ≥ 208 then (some (wrap64 (64 + (wrap64 ((wrap64 ((wrap64 (a0)) - 208)) * 243))), 1)) else (if (wrap64 (a0)) ≥ 80 then (some (wrap64 ((wrap64 (a0)) - 144), 0)) else (if (wrap64 (a0)) ≥ 37 then (some (wrap64 ((-64) + (wrap64 ((wrap64 ((wrap64 (a0)) - 80)) * 243))), 1)) else (if (wrap64 (a0)) ≥ 34 then (some (wrap64 ((-10513) + (wrap64 ((wrap64 ((wrap64 ((wrap64 (a0)) - 37)) * 243)) * 243))), 2)) else (some ((-14536567), 3)))))))) = some (r1, r2) := h
  clear h
  by_cases c2 : (wrap64 (a0)) ≥ 254
  · rw [if_pos c2] at H
    have c2b0 : decide (254 ≤ (wrap64 (a0))) = true := decide_eq_true c2
    clear c2
    simp only [Option.some.injEq, Prod.mk.injEq] at H
    obtain ⟨rfl, rfl⟩ := H
    go_enter Tryz.func277, Tryz.ntmps277
    go_wp2
    go_ret2
    exact ⟨by first | rfl | (simp; done) | (simp [*]; done), by repeat (first | exact Drawn0.refl _ | apply Drawn0.step)⟩
  · rw [if_neg c2] at H
    have c2b0 : decide (254 ≤ (wrap64 (a0))) = false := decide_eq_false c2
    clear c2
    by_cases c3 : (wrap64 (a0)) ≥ 251
    · rw [if_pos c3] at H
      have c3b0 : decide (251 ≤ (wrap64 (a0))) = true := decide_eq_true c3
      clear c3
      simp only [Option.some.injEq, Prod.mk.injEq] at H
      obtain ⟨rfl, rfl⟩ := H
      go_enter Tryz.func277, Tryz.ntmps277
      go_wp2
      go_ret2
      exact ⟨by first | rfl | (simp; done) | (simp [*]; done), by repeat (first | exact Drawn0.refl _ | apply Drawn0.step)⟩
    · rw [if_neg c3] at H
      have c3b0 : decide (251 ≤ (wrap64 (a0))) = false := decide_eq_false c3
      clear c3
      by_cases c4 : (wrap64 (a0)) ≥ 208
      · rw [if_pos c4] at H
        have c4b0 : decide (208 ≤ (wrap64 (a0))) = true := decide_eq_true c4
        clear c4
        simp only [Option.some.injEq, Prod.mk.injEq] at H
        obtain ⟨rfl, rfl⟩ := H
        go_enter Tryz.func277, Tryz.ntmps277
        go_wp2
        go_ret2
        exact ⟨by first | rfl | (simp; done) | (simp [*]; done), by repeat (first | exact Drawn0.refl _ | apply Drawn0.step)⟩
      · rw [if_neg c4] at H
        have c4b0 : decide (208 ≤ (wrap64 (a0))) = false := decide_eq_false c4
        clear c4
        by_cases c5 : (wrap64 (a0)) ≥ 80
        · rw [if_pos c5] at H
          have c5b0 : decide (80 ≤ (wrap64 (a0))) = true := decide_eq_true c5
          clear c5
          simp only [Option.some.injEq, Prod.mk.injEq] at H
          obtain ⟨rfl, rfl⟩ := H
          go_enter Tryz.func277, Tryz.ntmps277
          go_wp2
          go_ret2
          exact ⟨by first | rfl | (simp; done) | (simp [*]; done), by repeat (first | exact Drawn0.refl _ | apply Drawn0.step)⟩
        · rw [if_neg c5] at H
          have c5b0 : decide (80 ≤ (wrap64 (a0))) = false := decide_eq_false c5
          clear c5
          by_cases c6 : (wrap64 (a0)) ≥ 37
          · rw [if_pos c6] at H
            have c6b0 : decide (37 ≤ (wrap64 (a0))) = true := decide_eq_true c6
            clear c6
            simp only [Option.some.injEq, Prod.mk.injEq] at H
            obtain ⟨rfl, rfl⟩ := H
            go_enter Tryz.func277, Tryz.ntmps277
            go_wp2
            go_ret2
            exact ⟨by first | rfl | (simp; done) | (simp [*]; done), by repeat (first | exact Drawn0.refl _ | apply Drawn0.step)⟩
          · rw [if_neg c6] at H
            have c6b0 : decide (37 ≤ (wrap64 (a0))) = false := decide_eq_false c6
            clear c6
            by_cases c7 : (wrap64 (a0)) ≥ 34
            · rw [if_pos c7] at H
              have c7b0 : decide (34 ≤ (wrap64 (a0))) = true := decide_eq_true c7
              clear c7
              simp only [Option.some.injEq, Prod.mk.injEq] at H
              obtain ⟨rfl, rfl⟩ := H
              go_enter Tryz.func277, Tryz.ntmps277
              go_wp2
              go_ret2
              exact ⟨by first | rfl | (simp; done) | (simp [*]; done), by repeat (first | exact Drawn0.refl _ | apply Drawn0.step)⟩
            · rw [if_neg c7] at H
              have c7b0 : decide (34 ≤ (wrap64 (a0))) = false := decide_eq_false c7
              clear c7
              simp only [Option.some.injEq, Prod.mk.injEq] at H
              obtain ⟨rfl, rfl⟩ := H
              go_enter Tryz.func277, Tryz.ntmps277
              go_wp2
              go_ret2
              exact ⟨by first | rfl | (simp; done) | (simp [*]; done), by repeat (first | exact Drawn0.refl _ | apply Drawn0.step)⟩

/-! ### diff_Trail: function 278 -/
mutual
def diff_Trail.j0 : Nat → Int → Bool → Option (Int × Bool)
  | 0, _, _ => none
  | k + 1, x0, x11 => if x11 = true then (some (wrap64 ((wrap64 ((wrap64 (x0)) - 28)) + 16), true)) else (if x0 ≥ 16 then (diff_Trail.j1 k x0 (decide (x0 ≤ 25))) else (diff_Trail.j1 k x0 false))
def diff_Trail.j1 : Nat → Int → Bool → Option (Int × Bool)
  | 0, _, _ => none
  | k + 1, x0, x22 => if x22 = true then (some (wrap64 ((wrap64 ((wrap64 (x0)) - 16)) + 6), true)) else (if x0 ≥ 1 then (if x0 ≤ 6 then (some (wrap64 ((wrap64 (x0)) - 1), true)) else (some (0, false))) else (some (0, false)))
end
def diff_Trail.f (k : Nat) (a0 : Int) : Option (Int × Bool) := if a0 ≥ 33 then (some (wrap64 ((wrap64 ((wrap64 (a0)) - 33)) + 20), true)) else (if a0 ≥ 28 then (diff_Trail.j0 k a0 (decide (a0 ≤ 31))) else (diff_Trail.j0 k a0 false))
theorem diff_Trail.mono_l : ∀ k, (∀ y0 y1, LeO (diff_Trail.j0 k y0 y1) (diff_Trail.j0 (k + 1) y0 y1)) ∧ (∀ y0 y1, LeO (diff_Trail.j1 k y0 y1) (diff_Trail.j1 (k + 1) y0 y1))
  | 0 => ⟨fun _ _ r h => by simp [diff_Trail.j0] at h, fun _ _ r h => by simp [diff_Trail.j1] at h⟩
  | k + 1 => by
    obtain ⟨ih0, ih1⟩ := diff_Trail.mono_l k
    refine ⟨?_, ?_⟩
    · intro y0 y1
      unfold diff_Trail.j0
      repeat' first
      | (with_reducible exact ih0 _ _)
      | (with_reducible exact ih1 _ _)
      | (with_reducible exact LeO.refl _)
      | (with_reducible exact LeO.none _)
      | (with_reducible refine LeO.ite ?_ ?_)
      | (with_reducible refine LeO.bind ?_ (fun _ => ?_))
      | exact ih0 _ _
      | exact ih1 _ _
      | exact LeO.none _
      | refine LeO.ite ?_ ?_
      | refine LeO.bind ?_ (fun _ => ?_)
    · intro y0 y1
      unfold diff_Trail.j1
      repeat' first
      | (with_reducible exact ih0 _ _)
      | (with_reducible exact ih1 _ _)
      | (with_reducible exact LeO.refl _)
      | (with_reducible exact LeO.none _)
      | (with_reducible refine LeO.ite ?_ ?_)
      | (with_reducible refine LeO.bind ?_ (fun _ => ?_))
      | exact ih0 _ _
      | exact ih1 _ _
      | exact LeO.none _
      | refine LeO.ite ?_ ?_
      | refine LeO.bind ?_ (fun _ => ?_)
theorem diff_Trail.mono : ∀ a0 k, LeO (diff_Trail.f k a0) (diff_Trail.f (k + 1) a0) := by
  intro a0 k
  obtain ⟨ih0, ih1⟩ := diff_Trail.mono_l k
  unfold diff_Trail.f
  repeat' first
      | (with_reducible exact ih0 _ _)
      | (with_reducible exact ih1 _ _)
      | (with_reducible exact LeO.refl _)
      | (with_reducible exact LeO.none _)
      | (with_reducible refine LeO.ite ?_ ?_)
      | (with_reducible refine LeO.bind ?_ (fun _ => ?_))
      | exact ih0 _ _
      | exact ih1 _ _
      | exact LeO.none _
      | refine LeO.ite ?_ ?_
      | refine LeO.bind ?_ (fun _ => ?_)
set_option maxHeartbeats 8000000 in
set_option maxRecDepth 100000 in
theorem diff_Trail.calls (k : Nat) (a0 : Int) (r1 : Int) (r2 : Bool) (w : World) (h : diff_Trail.f k a0 = some (r1, r2)) :
    Calls Tryz.prog 278 #[.int .u8 a0] w fun e w' => e = .returned (.tuple #[.int .i64 r1, .bool r2]) ∧ Drawn0 w w' := by
  have H : (if a0 ≥ 33 then (some (wrap64 ((wrap64 ((wrap64 (a0)) - 33)) + 20), true)) else (if a0 ≥ 28 then (diff_Trail.j0 k a0 (decide (a0 ≤ 31))) else (diff_Trail.j0 k a0 false))) = some (r1, r2) := h
  clear h
  by_cases c2 : a0 ≥ 33
  · rw [if_pos c2] at H
    have c2b0 : decide (33 ≤ a0) = true := decide_eq_true c2
    clear c2
    simp only [Option.some.injEq, Prod.mk.injEq] at H
    obtain ⟨rfl, rfl⟩ := H
    go_enter Tryz.func278, Tryz.ntmps278
    go_wp2
    go_ret2
    exact ⟨by first | rfl | (simp; done) | (simp [*]; done), by repeat (first | exact Drawn0.refl _ | apply Drawn0.step)⟩
  · rw [if_neg c2] at H
    have c2b0 : decide (33 ≤ a0) = false := decide_eq_false c2
    clear c2
    have HC3 := Aside0.mk H
    clear H
    go_enter Tryz.func278, Tryz.ntmps278
    go_upto_region 3 with (fail)
    go_cut [11] (fun v11 wc => ∃ (kq : Nat) (x11_2 : Bool), v11 = .bool x11_2 ∧ Aside0 (diff_Trail.j0 kq a0 x11_2 = some (r1, r2)) ∧ Aside0 (kq ≤ k) ∧ Drawn0 w wc)
    case first =>
      have H := HC3.out
      clear HC3
      by_cases c4 : a0 ≥ 28
      · rw [if_pos c4] at H
        have c4b0 : decide (28 ≤ a0) = true := decide_eq_true c4
        clear c4
        (first | rw [c4b0] | (simp only [i64_w, i32_w]; rw [c4b0]) | skip)
        have H' := Aside0.mk H
        clear H
        go_wp2
        go_meet
        case rel => exact ⟨_, (decide (a0 ≤ 31)), (by first | rfl | (simp; done) | (simp [*]; done)), H', ⟨by first | omega | exact Nat.le_refl _⟩, by repeat (first | exact Drawn0.refl _ | apply Drawn0.step)⟩
      · rw [if_neg c4] at H
        have c4b0 : decide (28 ≤ a0) = false := decide_eq_false c4
        clear c4
        (first | rw [c4b0] | (simp only [i64_w, i32_w]; rw [c4b0]) | skip)
        have H' := Aside0.mk H
        clear H
        go_wp2
        go_meet
        case rel => exact ⟨_, (false), (by first | rfl | (simp; done) | (simp [*]; done)), H', ⟨by first | omega | exact Nat.le_refl _⟩, by repeat (first | exact Drawn0.refl _ | apply Drawn0.step)⟩
    case rest =>
      clear HC3
      try clear c2
      try clear c2b0
      try clear p2
      try clear c4
      try clear c4b0
      obtain ⟨kq, x11_2, rfl, HA, HJ2, ⟨mc2, rfl⟩⟩ := hcut
      cases kq with
      | zero => exact absurd HA.out (by simp [diff_Trail.j0])
      | succ kj2 =>
        have H := HA.out
        clear HA
        simp only [diff_Trail.j0] at H
        by_cases c5 : x11_2 = true
        · subst c5
          have H1 : (some (wrap64 ((wrap64 ((wrap64 (a0)) - 28)) + 16), true)) = some (r1, r2) := by rw [if_pos rfl] at H; exact H
          clear H
          have H := H1
          clear H1
          simp only [Option.some.injEq, Prod.mk.injEq] at H
          obtain ⟨rfl, rfl⟩ := H
          go_wp2
          go_ret2
          exact ⟨by first | rfl | (simp; done) | (simp [*]; done), by repeat (first | exact Drawn0.refl _ | apply Drawn0.step)⟩
        · replace c5 := Bool.eq_false_iff.mpr c5
          subst c5
          have H1 : (if a0 ≥ 16 then (diff_Trail.j1 kj2 a0 (decide (a0 ≤ 25))) else (diff_Trail.j1 kj2 a0 false)) = some (r1, r2) := by rw [if_neg (show ¬ (false = true) by decide)] at H; exact H
          clear H
          have H := H1
          clear H1
          have HC6 := Aside0.mk H
          clear H
          go_upto_region 5 with (fail)
          go_cut [22] (fun v22 wc => ∃ (kq : Nat) (x22_5 : Bool), v22 = .bool x22_5 ∧ Aside0 (diff_Trail.j1 kq a0 x22_5 = some (r1, r2)) ∧ Aside0 (kq ≤ kj2) ∧ Drawn0 w wc)
          case first =>
            have H := HC6.out
            clear HC6
            by_cases c7 : a0 ≥ 16
            · rw [if_pos c7] at H
              have c7b0 : decide (16 ≤ a0) = true := decide_eq_true c7
              clear c7
              (first | rw [c7b0] | (simp only [i64_w, i32_w]; rw [c7b0]) | skip)
              have H' := Aside0.mk H
              clear H
              go_wp2
              go_meet
              case rel => exact ⟨_, (decide (a0 ≤ 25)), (by first | rfl | (simp; done) | (simp [*]; done)), H', ⟨by have := HJ2.out; first | omega | exact Nat.le_refl _⟩, by repeat (first | exact Drawn0.refl _ | apply Drawn0.step)⟩
            · rw [if_neg c7] at H
              have c7b0 : decide (16 ≤ a0) = false := decide_eq_false c7
              clear c7
              (first | rw [c7b0] | (simp only [i64_w, i32_w]; rw [c7b0]) | skip)
              have H' := Aside0.mk H
              clear H
              go_wp2
              go_meet
              case rel => exact ⟨_, (false), (by first | rfl | (simp; done) | (simp [*]; done)), H', ⟨by have := HJ2.out; first | omega | exact Nat.le_refl _⟩, by repeat (first | exact Drawn0.refl _ | apply Drawn0.step)⟩
          case rest =>
            clear HC6
            try clear c2
            try clear c2b0
            try clear p2
            try clear c4
            try clear c4b0
            try clear c5
            try clear p6
            try clear c7
            try clear c7b0
            try clear p2
            obtain ⟨kq, x22_5, rfl, HA, HJ5, ⟨mc5, rfl⟩⟩ := hcut
            cases kq with
            | zero => exact absurd HA.out (by simp [diff_Trail.j1])
            | succ kj5 =>
              have H := HA.out
              clear HA
              simp only [diff_Trail.j1] at H
              by_cases c8 : x22_5 = true
              · subst c8
                have H1 : (some (wrap64 ((wrap64 ((wrap64 (a0)) - 16)) + 6), true)) = some (r1, r2) := by rw [if_pos rfl] at H; exact H
                clear H
                have H := H1
                clear H1
                simp only [Option.some.injEq, Prod.mk.injEq] at H
                obtain ⟨rfl, rfl⟩ := H
                go_wp2
                go_ret2
                exact ⟨by first | rfl | (simp; done) | (simp [*]; done), by repeat (first | exact Drawn0.refl _ | apply Drawn0.step)⟩
              · replace c8 := Bool.eq_false_iff.mpr c8
                subst c8
                have H1 : (if a0 ≥ 1 then (if a0 ≤ 6 then (some (wrap64 ((wrap64 (a0)) - 1), true)) else (some (0, false))) else (some (0, false))) = some (r1, r2) := by rw [if_neg (show ¬ (false = true) by decide)] at H; exact H
                clear H
                have H := H1
                clear H1
                by_cases c9 : a0 ≥ 1
                · rw [if_pos c9] at H
                  have c9b0 : decide (1 ≤ a0) = true := decide_eq_true c9
                  clear c9
                  by_cases c10 : a0 ≤ 6
                  · rw [if_pos c10] at H
                    have c10b0 : decide (a0 ≤ 6) = true := decide_eq_true c10
                    clear c10
                    simp only [Option.some.injEq, Prod.mk.injEq] at H
                    obtain ⟨rfl, rfl⟩ := H
                    go_wp2
                    go_ret2
                    exact ⟨by first | rfl | (simp; done) | (simp [*]; done), by repeat (first | exact Drawn0.refl _ | apply Drawn0.step)⟩
                  · rw [if_neg c10] at H
                    have c10b0 : decide (a0 ≤ 6) = false := decide_eq_false c10
                    clear c10
                    simp only [Option.some.injEq, Prod.mk.injEq] at H
                    obtain ⟨rfl, rfl⟩ := H
                    go_wp2
                    go_ret2
                    exact ⟨by first | rfl | (simp; done) | (simp [*]; done), by repeat (first | exact Drawn0.refl _ | apply Drawn0.step)⟩
                · rw [if_neg c9] at H
                  have c9b0 : decide (1 ≤ a0) = false := decide_eq_false c9
                  clear c9
                  simp only [Option.some.injEq, Prod.mk.injEq] at H
                  obtain ⟨rfl, rfl⟩ := H
                  go_wp2
                  go_ret2
                  exact ⟨by first | rfl | (simp; done) | (simp [*]; done), by repeat (first | exact Drawn0.refl _ | apply Drawn0.step)⟩

/-! ### diff_Range: function 275 -/
mutual
def diff_Range.j0 : Nat → ByteArray → Bool → Option (Int × Int × Int × Bool)
  | 0, _, _ => none
  | k + 1, x0, x24 => if x24 = true then (some (0, 0, 0, false)) else (if 0 < (x0.size : Int) then ((diff_first.f (bt x0 0)).bind fun bt101 => (if (x0.size : Int) > (wrap64 (bt101.2 + 1)) then (some (0, 0, 0, false)) else (diff_Range.l0 k x0 bt101.1 bt101.2 0 1 1))) else (none))
def diff_Range.l0 : Nat → ByteArray → Int → Int → Int → Int → Int → Option (Int × Int × Int × Bool)
  | 0, _, _, _, _, _, _ => none
  | k + 1, x0, x6, x7, x8, x9, x10 => if x10 ≤ x7 then (if x10 ≥ (x0.size : Int) then (diff_Range.l0 k x0 x6 x7 (wrap64 (x8 * 243)) (wrap64 (x9 * 243)) (wrap64 (x10 + 1))) else (if 0 ≤ x10 then (if x10 < (x0.size : Int) then ((diff_Trail.f k (bt x0 x10)).bind fun bt103 => (if bt103.2 = true then (diff_Range.l0 k x0 x6 x7 (wrap64 ((wrap64 (x8 * 243)) + bt103.1)) x9 (wrap64 (x10 + 1))) else (some (0, 0, 0, false)))) else (none)) else (none))) else (some (wrap64 (x6 + x8), wrap64 ((wrap64 ((wrap64 (x6 + x8)) + x9)) - 1), wrap64 (x7 + 1), true))
end
def diff_Range.f (k : Nat) (a0 : ByteArray) : Option (Int × Int × Int × Bool) := if a0.toList = ([] : List UInt8) then (diff_Range.j0 k a0 true) else (if 0 < (a0.size : Int) then (if (bt a0 0) < 33 then (diff_Range.j0 k a0 true) else (diff_Range.j0 k a0 (decide ((bt a0 0) > 254)))) else (none))
theorem diff_Range.mono_l : ∀ k, (∀ y0 y1, LeO (diff_Range.j0 k y0 y1) (diff_Range.j0 (k + 1) y0 y1)) ∧ (∀ y0 y1 y2 y3 y4 y5, LeO (diff_Range.l0 k y0 y1 y2 y3 y4 y5) (diff_Range.l0 (k + 1) y0 y1 y2 y3 y4 y5))
  | 0 => ⟨fun _ _ r h => by simp [diff_Range.j0] at h, fun _ _ _ _ _ _ r h => by simp [diff_Range.l0] at h⟩
  | k + 1 => by
    obtain ⟨ih0, ih1⟩ := diff_Range.mono_l k
    refine ⟨?_, ?_⟩
    · intro y0 y1
      unfold diff_Range.j0
      repeat' first
      | (with_reducible exact ih0 _ _)
      | (with_reducible exact ih1 _ _ _ _ _ _)
      | (with_reducible exact diff_Trail.mono _ _)
      | (with_reducible exact LeO.refl _)
      | (with_reducible exact LeO.none _)
      | (with_reducible refine LeO.ite ?_ ?_)
      | (with_reducible refine LeO.bind ?_ (fun _ => ?_))
      | exact ih0 _ _
      | exact ih1 _ _ _ _ _ _
      | exact diff_Trail.mono _ _
      | exact LeO.none _
      | refine LeO.ite ?_ ?_
      | refine LeO.bind ?_ (fun _ => ?_)
    · intro y0 y1 y2 y3 y4 y5
      unfold diff_Range.l0
      repeat' first
      | (with_reducible exact ih0 _ _)
      | (with_reducible exact ih1 _ _ _ _ _ _)
      | (with_reducible exact diff_Trail.mono _ _)
      | (with_reducible exact LeO.refl _)
      | (with_reducible exact LeO.none _)
      | (with_reducible refine LeO.ite ?_ ?_)
      | (with_reducible refine LeO.bind ?_ (fun _ => ?_))
      | exact ih0 _ _
      | exact ih1 _ _ _ _ _ _
      | exact diff_Trail.mono _ _
      | exact LeO.none _
      | refine LeO.ite ?_ ?_
      | refine LeO.bind ?_ (fun _ => ?_)
theorem diff_Range.mono : ∀ a0 k, LeO (diff_Range.f k a0) (diff_Range.f (k + 1) a0) := by
  intro a0 k
  obtain ⟨ih0, ih1⟩ := diff_Range.mono_l k
  unfold diff_Range.f
  repeat' first
      | (with_reducible exact ih0 _ _)
      | (with_reducible exact ih1 _ _ _ _ _ _)
      | (with_reducible exact diff_Trail.mono _ _)
      | (with_reducible exact LeO.refl _)
      | (with_reducible exact LeO.none _)
      | (with_reducible refine LeO.ite ?_ ?_)
      | (with_reducible refine LeO.bind ?_ (fun _ => ?_))
      | exact ih0 _ _
      | exact ih1 _ _ _ _ _ _
      | exact diff_Trail.mono _ _
      | exact LeO.none _
      | refine LeO.ite ?_ ?_
      | refine LeO.bind ?_ (fun _ => ?_)
set_option maxHeartbeats 8000000 in
set_option maxRecDepth 100000 in
theorem diff_Range.calls (k : Nat) (a0 : ByteArray) (r1 : Int) (r2 : Int) (r3 : Int) (r4 : Bool) (w : World) (h : diff_Range.f k a0 = some (r1, r2, r3, r4)) :
    Calls Tryz.prog 275 #[.string a0] w fun e w' => e = .returned (.tuple #[.int .i64 r1, .int .i64 r2, .int .i64 r3, .bool r4]) ∧ Drawn0 w w' := by
  have H : (if a0.toList = ([] : List UInt8) then (diff_Range.j0 k a0 true) else (if 0 < (a0.size : Int) then (if (bt a0 0) < 33 then (diff_Range.j0 k a0 true) else (diff_Range.j0 k a0 (decide ((bt a0 0) > 254)))) else (none))) = some (r1, r2, r3, r4) := h
  clear h
  have HC2 := Aside0.mk H
  clear H
  go_enter Tryz.func275, Tryz.ntmps275
  go_upto_region 1 with (fail)
  go_cut [24] (fun v24 wc => ∃ (kq : Nat) (x24_1 : Bool), v24 = .bool x24_1 ∧ Aside0 (diff_Range.j0 kq a0 x24_1 = some (r1, r2, r3, r4)) ∧ Aside0 (kq ≤ k) ∧ Drawn0 w wc)
  case first =>
    have H := HC2.out
    clear HC2
    by_cases c3 : a0.toList = ([] : List UInt8)
    · rw [if_pos c3] at H
      have c3b0 : (a0.toList == ([] : List UInt8)) = true := beq_iff_eq.mpr c3
      have c3b1 : (a0.toList != ([] : List UInt8)) = false := bne_eq_false_iff_eq.mpr c3
      clear c3
      (first | rw [c3b0] | (simp only [i64_w, i32_w]; rw [c3b0]) | skip)
      have H' := Aside0.mk H
      clear H
      go_wp2
      go_meet
      case rel => exact ⟨_, (true), (by first | rfl | (simp; done) | (simp [*]; done)), H', ⟨by first | omega | exact Nat.le_refl _⟩, by repeat (first | exact Drawn0.refl _ | apply Drawn0.step)⟩
    · rw [if_neg c3] at H
      have c3b0 : (a0.toList == ([] : List UInt8)) = false := beq_eq_false_iff_ne.mpr c3
      have c3b1 : (a0.toList != ([] : List UInt8)) = true := bne_iff_ne.mpr c3
      (first | rw [c3b0] | (simp only [i64_w, i32_w]; rw [c3b0]) | skip)
      by_cases c4 : 0 < (a0.size : Int)
      · rw [if_pos c4] at H
        have c4b0 : decide (0 < (a0.size : Int)) = true := decide_eq_true c4
        have c4b1 : decide (0 < a0.size) = true := decide_eq_true (by omega)
        clear c4
        by_cases c6 : (bt a0 0) < 33
        · rw [if_pos c6] at H
          have c6b0 : decide ((bt a0 0) < 33) = true := decide_eq_true c6
          clear c6
          have H' := Aside0.mk H
          clear H
          have p5 : 0 ≤ (0 : Int) := (by omega)
          have q5 : 0 < a0.size := (by have : (0 : Int) < (a0.size : Int) := of_decide_eq_true (by first | (with_reducible assumption) | assumption); omega)
          have hx5 : ∀ h : 0 < a0.size, ((a0[0]'h).toNat : Int) = bt a0 0 := bt_at a0 0
          clear p5
          have qi5 : (0 < (a0.size : Int)) = True := eq_true (of_decide_eq_true (by first | (with_reducible assumption) | assumption))
          replace q5 := eq_true q5
          go_wp2
          go_meet
          case rel => exact ⟨_, (true), (by first | rfl | (simp; done) | (simp [*]; done)), H', ⟨by first | omega | exact Nat.le_refl _⟩, by repeat (first | exact Drawn0.refl _ | apply Drawn0.step)⟩
        · rw [if_neg c6] at H
          have c6b0 : decide ((bt a0 0) < 33) = false := decide_eq_false c6
          clear c6
          have H' := Aside0.mk H
          clear H
          have p5 : 0 ≤ (0 : Int) := (by omega)
          have q5 : 0 < a0.size := (by have : (0 : Int) < (a0.size : Int) := of_decide_eq_true (by first | (with_reducible assumption) | assumption); omega)
          have hx5 : ∀ h : 0 < a0.size, ((a0[0]'h).toNat : Int) = bt a0 0 := bt_at a0 0
          clear p5
          have qi5 : (0 < (a0.size : Int)) = True := eq_true (of_decide_eq_true (by first | (with_reducible assumption) | assumption))
          replace q5 := eq_true q5
          have p7 : 0 ≤ (0 : Int) := (by omega)
          have q7 : 0 < a0.size := (by have : (0 : Int) < (a0.size : Int) := of_decide_eq_true (by first | (with_reducible assumption) | assumption); omega)
          have hx7 : ∀ h : 0 < a0.size, ((a0[0]'h).toNat : Int) = bt a0 0 := bt_at a0 0
          clear p7
          have qi7 : (0 < (a0.size : Int)) = True := eq_true (of_decide_eq_true (by first | (with_reducible assumption) | assumption))
          replace q7 := eq_true q7
          go_wp2
          go_meet
          case rel => exact ⟨_, (decide ((bt a0 0) > 254)), (by first | rfl | (simp; done) | (simp [*]; done)), H', ⟨by first | omega | exact Nat.le_refl _⟩, by repeat (first | exact Drawn0.refl _ | apply Drawn0.step)⟩
      · rw [if_neg c4] at H
        exact absurd H (by simp)
  case rest =>
    clear HC2
    try clear c2
    try clear p2
    try clear c3
    try clear c3b0
    try clear c3b1
    try clear c4
    try clear c4b0
    try clear c4b1
    try clear p5
    try clear q5
    try clear hx5
    try clear qi5
    try clear c6
    try clear c6b0
    try clear p7
    try clear q7
    try clear hx7
    try clear qi7
    try clear p5
    try clear p7
    try clear q5
    try clear q7
    obtain ⟨kq, x24_1, rfl, HA, HJ1, ⟨mc1, rfl⟩⟩ := hcut
    cases kq with
    | zero => exact absurd HA.out (by simp [diff_Range.j0])
    | succ kj1 =>
      have H := HA.out
      clear HA
      simp only [diff_Range.j0] at H
      by_cases c8 : x24_1 = true
      · subst c8
        have H1 : (some (0, 0, 0, false)) = some (r1, r2, r3, r4) := by rw [if_pos rfl] at H; exact H
        clear H
        have H := H1
        clear H1
        simp only [Option.some.injEq, Prod.mk.injEq] at H
        obtain ⟨rfl, rfl, rfl, rfl⟩ := H
        go_wp2
        refine bodyPost_ret (results_list (rs := [.tmp 2, .tmp 3, .tmp 4, .tmp 5]) rfl (by simp) (.tmp (.tmp (.tmp (.tmp .nil))))) rfl ?_
        exact ⟨by first | rfl | (simp; done) | (simp [*]; done), by repeat (first | exact Drawn0.refl _ | apply Drawn0.step)⟩
      · replace c8 := Bool.eq_false_iff.mpr c8
        subst c8
        have H1 : (if 0 < (a0.size : Int) then ((diff_first.f (bt a0 0)).bind fun bt101 => (if (a0.size : Int) > (wrap64 (bt101.2 + 1)) then (some (0, 0, 0, false)) else (diff_Range.l0 kj1 a0 bt101.1 bt101.2 0 1 1))) else (none)) = some (r1, r2, r3, r4) := by rw [if_neg (show ¬ (false = true) by decide)] at H; exact H
        clear H
        have H := H1
        clear H1
        by_cases c9 : 0 < (a0.size : Int)
        · rw [if_pos c9] at H
          have c9b0 : decide (0 < (a0.size : Int)) = true := decide_eq_true c9
          have c9b1 : decide (0 < a0.size) = true := decide_eq_true (by omega)
          clear c9
          replace H := Option.bind_eq_some_iff.mp H
          obtain ⟨⟨t101, t102⟩, A110, H⟩ := H
          replace H : (if (a0.size : Int) > (wrap64 (t102 + 1)) then (some (0, 0, 0, false)) else (diff_Range.l0 kj1 a0 t101 t102 0 1 1)) = some (r1, r2, r3, r4) := H
          have A11 := Aside0.mk A110
          clear A110
          by_cases c12 : (a0.size : Int) > (wrap64 (t102 + 1))
          · rw [if_pos c12] at H
            have c12b0 : decide ((wrap64 (t102 + 1)) < (a0.size : Int)) = true := decide_eq_true c12
            clear c12
            simp only [Option.some.injEq, Prod.mk.injEq] at H
            obtain ⟨rfl, rfl, rfl, rfl⟩ := H
            have p10 : 0 ≤ (0 : Int) := (by omega)
            have q10 : 0 < a0.size := (by have : (0 : Int) < (a0.size : Int) := of_decide_eq_true (by first | (with_reducible assumption) | assumption); omega)
            have hx10 : ∀ h : 0 < a0.size, ((a0[0]'h).toNat : Int) = bt a0 0 := bt_at a0 0
            clear p10
            have qi10 : (0 < (a0.size : Int)) = True := eq_true (of_decide_eq_true (by first | (with_reducible assumption) | assumption))
            replace q10 := eq_true q10
            go_wp2_with (first | ((with_reducible refine gate_callee (f := 277) rfl ?_); refine goesL_ (some 28) rfl rfl Tryz.func277 (by kernel_rfl) rfl #[.int .u8 (bt a0 0)] rfl (by (try simp only [List.map_toArray, List.map_cons, List.map_nil]); first | done | rfl | (simp only [List.length_drop, List.length_take]; rfl)) ?_; (with_reducible refine (diff_first.calls (bt a0 0) t101 t102 _ A11.out).mono ?_); rintro e w' ⟨rfl, ⟨nd, rfl⟩⟩; refine ⟨_, rfl, ?_⟩))
            refine bodyPost_ret (results_list (rs := [.tmp 2, .tmp 3, .tmp 4, .tmp 5]) rfl (by simp) (.tmp (.tmp (.tmp (.tmp .nil))))) rfl ?_
            exact ⟨by first | rfl | (simp; done) | (simp [*]; done), by repeat (first | exact Drawn0.refl _ | apply Drawn0.step)⟩
          · rw [if_neg c12] at H
            have c12b0 : decide ((wrap64 (t102 + 1)) < (a0.size : Int)) = false := decide_eq_false c12
            clear c12
            have H' := Aside0.mk H
            clear H
            have p10 : 0 ≤ (0 : Int) := (by omega)
            have q10 : 0 < a0.size := (by have : (0 : Int) < (a0.size : Int) := of_decide_eq_true (by first | (with_reducible assumption) | assumption); omega)
            have hx10 : ∀ h : 0 < a0.size, ((a0[0]'h).toNat : Int) = bt a0 0 := bt_at a0 0
            clear p10
            have qi10 : (0 < (a0.size : Int)) = True := eq_true (of_decide_eq_true (by first | (with_reducible assumption) | assumption))
            replace q10 := eq_true q10
            go_wp2_with (first | ((with_reducible refine gate_callee (f := 277) rfl ?_); refine goesL_ (some 28) rfl rfl Tryz.func277 (by kernel_rfl) rfl #[.int .u8 (bt a0 0)] rfl (by (try simp only [List.map_toArray, List.map_cons, List.map_nil]); first | done | rfl | (simp only [List.length_drop, List.length_take]; rfl)) ?_; (with_reducible refine (diff_first.calls (bt a0 0) t101 t102 _ A11.out).mono ?_); rintro e w' ⟨rfl, ⟨nd, rfl⟩⟩; refine ⟨_, rfl, ?_⟩))
            go_loopg [8, 9, 10] kj1 (fun kq v8 v9 v10 w' => ∃ (x8_2 : Int) (x9_2 : Int) (x10_2 : Int), v8 = .int .i64 x8_2 ∧ v9 = .int .i64 x9_2 ∧ v10 = .int .i64 x10_2 ∧ Aside0 (diff_Range.l0 kq a0 t101 t102 x8_2 x9_2 x10_2 = some (r1, r2, r3, r4)) ∧ Aside0 (kq ≤ kj1) ∧ Drawn0 w w')
            case atStart => exact ⟨(0), (1), (1), (by first | rfl | (simp; done) | (simp [*]; done)), (by first | rfl | (simp; done) | (simp [*]; done)), (by first | rfl | (simp; done) | (simp [*]; done)), H', ⟨Nat.le_refl _⟩, by repeat (first | exact Drawn0.refl _ | apply Drawn0.step)⟩
            case round =>
              clear H'
              try clear c1
              try clear p1
              try clear q1
              try clear hx1
              try clear qi1
              try clear c2
              try clear p2
              try clear c3
              try clear c3b0
              try clear c3b1
              try clear c4
              try clear c4b0
              try clear c4b1
              try clear p5
              try clear q5
              try clear hx5
              try clear qi5
              try clear c6
              try clear c6b0
              try clear p6
              try clear p7
              try clear q7
              try clear hx7
              try clear qi7
              try clear c8
              try clear c9
              try clear c9b0
              try clear c9b1
              try clear p10
              try clear q10
              try clear hx10
              try clear qi10
              try clear c12
              try clear c12b0
              try clear p10
              try clear p2
              try clear p5
              try clear p7
              try clear q10
              try clear q5
              try clear q7
              obtain ⟨x8_2, x9_2, x10_2, rfl, rfl, rfl, HA, HK2, ⟨m2, rfl⟩⟩ := hrel
              cases gk with
              | zero => exact absurd HA.out (by simp [diff_Range.l0])
              | succ k2 =>
                have H := HA.out
                clear HA
                simp only [diff_Range.l0] at H
                by_cases c13 : x10_2 ≤ t102
                · rw [if_pos c13] at H
                  have c13b0 : decide (x10_2 ≤ t102) = true := decide_eq_true c13
                  clear c13
                  by_cases c14 : x10_2 ≥ (a0.size : Int)
                  · rw [if_pos c14] at H
                    have c14b0 : decide ((a0.size : Int) ≤ x10_2) = true := decide_eq_true c14
                    clear c14
                    have H' := Aside0.mk H
                    clear H
                    go_wp2
                    go_roundg k2
                    case measure => have := HJ1.out; have := HK2.out; omega
                    case rel => exact ⟨(wrap64 (x8_2 * 243)), (wrap64 (x9_2 * 243)), (wrap64 (x10_2 + 1)), (by first | rfl | (simp; done) | (simp [*]; done)), (by first | rfl | (simp; done) | (simp [*]; done)), (by first | rfl | (simp; done) | (simp [*]; done)), H', ⟨by have := HJ1.out; have := HK2.out; omega⟩, by repeat (first | exact Drawn0.refl _ | apply Drawn0.step)⟩
                  · rw [if_neg c14] at H
                    have c14b0 : decide ((a0.size : Int) ≤ x10_2) = false := decide_eq_false c14
                    clear c14
                    by_cases c15 : 0 ≤ x10_2
                    · rw [if_pos c15] at H
                      have c15b0 : decide (0 ≤ x10_2) = true := decide_eq_true c15
                      clear c15
                      by_cases c16 : x10_2 < (a0.size : Int)
                      · rw [if_pos c16] at H
                        have c16b0 : decide (x10_2 < (a0.size : Int)) = true := decide_eq_true c16
                        clear c16
                        replace H := Option.bind_eq_some_iff.mp H
                        obtain ⟨⟨t103, t104⟩, A180, H⟩ := H
                        replace H : (if t104 = true then (diff_Range.l0 k2 a0 t101 t102 (wrap64 ((wrap64 (x8_2 * 243)) + t103)) x9_2 (wrap64 (x10_2 + 1))) else (some (0, 0, 0, false))) = some (r1, r2, r3, r4) := H
                        have A18 := Aside0.mk A180
                        clear A180
                        by_cases c19 : t104 = true
                        · subst c19
                          have H1 : (diff_Range.l0 k2 a0 t101 t102 (wrap64 ((wrap64 (x8_2 * 243)) + t103)) x9_2 (wrap64 (x10_2 + 1))) = some (r1, r2, r3, r4) := by rw [if_pos rfl] at H; exact H
                          clear H
                          have H := H1
                          clear H1
                          have H' := Aside0.mk H
                          clear H
                          have p17 : 0 ≤ (x10_2 : Int) := of_decide_eq_true (by first | (with_reducible assumption) | assumption)
                          have q17 : x10_2 < (a0.size : Int) := of_decide_eq_true (by first | (with_reducible assumption) | assumption)
                          have hx17 := bt_at a0 x10_2
                          replace p17 := eq_true p17
                          replace q17 := eq_true q17
                          go_wp2_with (first | ((with_reducible refine gate_callee (f := 278) rfl ?_); refine goesL_ (some 53) rfl rfl Tryz.func278 (by kernel_rfl) rfl #[.int .u8 (bt a0 x10_2)] rfl (by (try simp only [List.map_toArray, List.map_cons, List.map_nil]); first | done | rfl | (simp only [List.length_drop, List.length_take]; rfl)) ?_; (with_reducible refine (diff_Trail.calls k2 (bt a0 x10_2) t103 true _ A18.out).mono ?_); rintro e w' ⟨rfl, ⟨nd, rfl⟩⟩; refine ⟨_, rfl, ?_⟩))
                          go_roundg k2
                          case measure => have := HJ1.out; have := HK2.out; omega
                          case rel => exact ⟨(wrap64 ((wrap64 (x8_2 * 243)) + t103)), (x9_2), (wrap64 (x10_2 + 1)), (by first | rfl | (simp; done) | (simp [*]; done)), (by first | rfl | (simp; done) | (simp [*]; done)), (by first | rfl | (simp; done) | (simp [*]; done)), H', ⟨by have := HJ1.out; have := HK2.out; omega⟩, by repeat (first | exact Drawn0.refl _ | apply Drawn0.step)⟩
                        · replace c19 := Bool.eq_false_iff.mpr c19
                          subst c19
                          have H1 : (some (0, 0, 0, false)) = some (r1, r2, r3, r4) := by rw [if_neg (show ¬ (false = true) by decide)] at H; exact H
                          clear H
                          have H := H1
                          clear H1
                          simp only [Option.some.injEq, Prod.mk.injEq] at H
                          obtain ⟨rfl, rfl, rfl, rfl⟩ := H
                          have p17 : 0 ≤ (x10_2 : Int) := of_decide_eq_true (by first | (with_reducible assumption) | assumption)
                          have q17 : x10_2 < (a0.size : Int) := of_decide_eq_true (by first | (with_reducible assumption) | assumption)
                          have hx17 := bt_at a0 x10_2
                          replace p17 := eq_true p17
                          replace q17 := eq_true q17
                          go_wp2_with (first | ((with_reducible refine gate_callee (f := 278) rfl ?_); refine goesL_ (some 53) rfl rfl Tryz.func278 (by kernel_rfl) rfl #[.int .u8 (bt a0 x10_2)] rfl (by (try simp only [List.map_toArray, List.map_cons, List.map_nil]); first | done | rfl | (simp only [List.length_drop, List.length_take]; rfl)) ?_; (with_reducible refine (diff_Trail.calls k2 (bt a0 x10_2) t103 false _ A18.out).mono ?_); rintro e w' ⟨rfl, ⟨nd, rfl⟩⟩; refine ⟨_, rfl, ?_⟩))
                          refine bodyPost_ret (results_list (rs := [.tmp 2, .tmp 3, .tmp 4, .tmp 5]) rfl (by simp) (.tmp (.tmp (.tmp (.tmp .nil))))) rfl ?_
                          exact ⟨by first | rfl | (simp; done) | (simp [*]; done), by repeat (first | exact Drawn0.refl _ | apply Drawn0.step)⟩
                      · rw [if_neg c16] at H
                        exact absurd H (by simp)
                    · rw [if_neg c15] at H
                      exact absurd H (by simp)
                · rw [if_neg c13] at H
                  have c13b0 : decide (x10_2 ≤ t102) = false := decide_eq_false c13
                  clear c13
                  simp only [Option.some.injEq, Prod.mk.injEq] at H
                  obtain ⟨rfl, rfl, rfl, rfl⟩ := H
                  go_wp2
                  refine bodyPost_ret (results_list (rs := [.tmp 2, .tmp 3, .tmp 4, .tmp 5]) rfl (by simp) (.tmp (.tmp (.tmp (.tmp .nil))))) rfl ?_
                  exact ⟨by first | rfl | (simp; done) | (simp [*]; done), by repeat (first | exact Drawn0.refl _ | apply Drawn0.step)⟩
        · rw [if_neg c9] at H
          exact absurd H (by simp)

/-! ### diff_place: function 204 -/
def diff_place.j0 : Nat → Int → Bool → Option (Int × Int × Int)
  | 0, _, _ => none
  | k + 1, x0, x5 => if x5 = true then (some (0, wrap64 (144 + x0), 0)) else (if x0 > 187659 then (some (wrap64 ((wrap64 (x0 - 187659)) - 1), 254, 3)) else (if x0 > 10512 then (some (wrap64 ((wrap64 (x0 - 10512)) - 1), 251, 2)) else (if x0 > 63 then (some (wrap64 ((wrap64 (x0 - 63)) - 1), 208, 1)) else (if x0 < (-187660) then (some (wrap64 (x0 - (-187660)), 34, 3)) else (if x0 < (-10513) then (some (wrap64 (x0 - (-10513)), 37, 2)) else (some (wrap64 (x0 - (-64)), 80, 1)))))))
def diff_place.f (k : Nat) (a0 : Int) : Option (Int × Int × Int) := if a0 ≥ (-64) then (diff_place.j0 k a0 (decide (a0 ≤ 63))) else (diff_place.j0 k a0 false)
theorem diff_place.mono_l : ∀ k, (∀ y0 y1, LeO (diff_place.j0 k y0 y1) (diff_place.j0 (k + 1) y0 y1))
  | 0 => fun _ _ r h => by simp [diff_place.j0] at h
  | k + 1 => by
    have ih0 := diff_place.mono_l k
    · intro y0 y1
      unfold diff_place.j0
      repeat' first
      | (with_reducible exact ih0 _ _)
      | (with_reducible exact LeO.refl _)
      | (with_reducible exact LeO.none _)
      | (with_reducible refine LeO.ite ?_ ?_)
      | (with_reducible refine LeO.bind ?_ (fun _ => ?_))
      | exact ih0 _ _
      | exact LeO.none _
      | refine LeO.ite ?_ ?_
      | refine LeO.bind ?_ (fun _ => ?_)
theorem diff_place.mono : ∀ a0 k, LeO (diff_place.f k a0) (diff_place.f (k + 1) a0) := by
  intro a0 k
  have ih0 := diff_place.mono_l k
  unfold diff_place.f
  repeat' first
      | (with_reducible exact ih0 _ _)
      | (with_reducible exact LeO.refl _)
      | (with_reducible exact LeO.none _)
      | (with_reducible refine LeO.ite ?_ ?_)
      | (with_reducible refine LeO.bind ?_ (fun _ => ?_))
      | exact ih0 _ _
      | exact LeO.none _
      | refine LeO.ite ?_ ?_
      | refine LeO.bind ?_ (fun _ => ?_)
set_option maxHeartbeats 8000000 in
set_option maxRecDepth 100000 in
theorem diff_place.calls (k : Nat) (a0 : Int) (r1 : Int) (r2 : Int) (r3 : Int) (w : World) (h : diff_place.f k a0 = some (r1, r2, r3)) :
    Calls Tryz.prog 204 #[.int .i64 a0] w fun e w' => e = .returned (.tuple #[.int .i64 r1, .int .i64 r2, .int .i64 r3]) ∧ Drawn0 w w' := by
  have H : (if a0 ≥ (-64) then (diff_place.j0 k a0 (decide (a0 ≤ 63))) else (diff_place.j0 k a0 false)) = some (r1, r2, r3) := h
  clear h
  have HC2 := Aside0.mk H
  clear H
  go_enter Tryz.func204, Tryz.ntmps204
  go_upto_region 1 with (fail)
  go_cut [5] (fun v5 wc => ∃ (kq : Nat) (x5_1 : Bool), v5 = .bool x5_1 ∧ Aside0 (diff_place.j0 kq a0 x5_1 = some (r1, r2, r3)) ∧ Aside0 (kq ≤ k) ∧ Drawn0 w wc)
  case first =>
    have H := HC2.out
    clear HC2
    by_cases c3 : a0 ≥ (-64)
    · rw [if_pos c3] at H
      have c3b0 : decide ((-64) ≤ a0) = true := decide_eq_true c3
      clear c3
      (first | rw [c3b0] | (simp only [i64_w, i32_w]; rw [c3b0]) | skip)
      have H' := Aside0.mk H
      clear H
      go_wp2
      go_meet
      case rel => exact ⟨_, (decide (a0 ≤ 63)), (by first | rfl | (simp; done) | (simp [*]; done)), H', ⟨by first | omega | exact Nat.le_refl _⟩, by repeat (first | exact Drawn0.refl _ | apply Drawn0.step)⟩
    · rw [if_neg c3] at H
      have c3b0 : decide ((-64) ≤ a0) = false := decide_eq_false c3
      clear c3
      (first | rw [c3b0] | (simp only [i64_w, i32_w]; rw [c3b0]) | skip)
      have H' := Aside0.mk H
      clear H
      go_wp2
      go_meet
      case rel => exact ⟨_, (false), (by first | rfl | (simp; done) | (simp [*]; done)), H', ⟨by first | omega | exact Nat.le_refl _⟩, by repeat (first | exact Drawn0.refl _ | apply Drawn0.step)⟩
  case rest =>
    clear HC2
    try clear c2
    try clear p2
    try clear c3
    try clear c3b0
    obtain ⟨kq, x5_1, rfl, HA, HJ1, ⟨mc1, rfl⟩⟩ := hcut
    cases kq with
    | zero => exact absurd HA.out (by simp [diff_place.j0])
    | succ kj1 =>
      have H := HA.out
      clear HA
      simp only [diff_place.j0] at H
      by_cases c4 : x5_1 = true
      · subst c4
        have H1 : (some (0, wrap64 (144 + a0), 0)) = some (r1, r2, r3) := by rw [if_pos rfl] at H; exact H
        clear H
        have H := H1
        clear H1
        simp only [Option.some.injEq, Prod.mk.injEq] at H
        obtain ⟨rfl, rfl, rfl⟩ := H
        go_wp2
        go_ret3
        exact ⟨by first | rfl | (simp; done) | (simp [*]; done), by repeat (first | exact Drawn0.refl _ | apply Drawn0.step)⟩
      · replace c4 := Bool.eq_false_iff.mpr c4
        subst c4
        have H1 : (if a0 > 187659 then (some (wrap64 ((wrap64 (a0 - 187659)) - 1), 254, 3)) else (if a0 > 10512 then (some (wrap64 ((wrap64 (a0 - 10512)) - 1), 251, 2)) else (if a0 > 63 then (some (wrap64 ((wrap64 (a0 - 63)) - 1), 208, 1)) else (if a0 < (-187660) then (some (wrap64 (a0 - (-187660)), 34, 3)) else (if a0 < (-10513) then (some (wrap64 (a0 - (-10513)), 37, 2)) else (some (wrap64 (a0 - (-64)), 80, 1))))))) = some (r1, r2, r3) := by rw [if_neg (show ¬ (false = true) by decide)] at H; exact H
        clear H
        have H := H1
        clear H1
        by_cases c5 : a0 > 187659
        · rw [if_pos c5] at H
          have c5b0 : decide (187659 < a0) = true := decide_eq_true c5
          clear c5
          simp only [Option.some.injEq, Prod.mk.injEq] at H
          obtain ⟨rfl, rfl, rfl⟩ := H
          go_wp2
          go_ret3
          exact ⟨by first | rfl | (simp; done) | (simp [*]; done), by repeat (first | exact Drawn0.refl _ | apply Drawn0.step)⟩
        · rw [if_neg c5] at H
          have c5b0 : decide (187659 < a0) = false := decide_eq_false c5
          clear c5
          by_cases c6 : a0 > 10512
          · rw [if_pos c6] at H
            have c6b0 : decide (10512 < a0) = true := decide_eq_true c6
            clear c6
            simp only [Option.some.injEq, Prod.mk.injEq] at H
            obtain ⟨rfl, rfl, rfl⟩ := H
            go_wp2
            go_ret3
            exact ⟨by first | rfl | (simp; done) | (simp [*]; done), by repeat (first | exact Drawn0.refl _ | apply Drawn0.step)⟩
          · rw [if_neg c6] at H
            have c6b0 : decide (10512 < a0) = false := decide_eq_false c6
            clear c6
            by_cases c7 : a0 > 63
            · rw [if_pos c7] at H
              have c7b0 : decide (63 < a0) = true := decide_eq_true c7
              clear c7
              simp only [Option.some.injEq, Prod.mk.injEq] at H
              obtain ⟨rfl, rfl, rfl⟩ := H
              go_wp2
              go_ret3
              exact ⟨by first | rfl | (simp; done) | (simp [*]; done), by repeat (first | exact Drawn0.refl _ | apply Drawn0.step)⟩
            · rw [if_neg c7] at H
              have c7b0 : decide (63 < a0) = false := decide_eq_false c7
              clear c7
              by_cases c8 : a0 < (-187660)
              · rw [if_pos c8] at H
                have c8b0 : decide (a0 < (-187660)) = true := decide_eq_true c8
                clear c8
                simp only [Option.some.injEq, Prod.mk.injEq] at H
                obtain ⟨rfl, rfl, rfl⟩ := H
                go_wp2
                go_ret3
                exact ⟨by first | rfl | (simp; done) | (simp [*]; done), by repeat (first | exact Drawn0.refl _ | apply Drawn0.step)⟩
              · rw [if_neg c8] at H
                have c8b0 : decide (a0 < (-187660)) = false := decide_eq_false c8
                clear c8
                by_cases c9 : a0 < (-10513)
                · rw [if_pos c9] at H
                  have c9b0 : decide (a0 < (-10513)) = true := decide_eq_true c9
                  clear c9
                  simp only [Option.some.injEq, Prod.mk.injEq] at H
                  obtain ⟨rfl, rfl, rfl⟩ := H
                  go_wp2
                  go_ret3
                  exact ⟨by first | rfl | (simp; done) | (simp [*]; done), by repeat (first | exact Drawn0.refl _ | apply Drawn0.step)⟩
                · rw [if_neg c9] at H
                  have c9b0 : decide (a0 < (-10513)) = false := decide_eq_false c9
                  clear c9
                  simp only [Option.some.injEq, Prod.mk.injEq] at H
                  obtain ⟨rfl, rfl, rfl⟩ := H
                  go_wp2
                  go_ret3
                  exact ⟨by first | rfl | (simp; done) | (simp [*]; done), by repeat (first | exact Drawn0.refl _ | apply Drawn0.step)⟩

end Go.Proofs.YthmdpbojdefgpaaGreat.PPd
