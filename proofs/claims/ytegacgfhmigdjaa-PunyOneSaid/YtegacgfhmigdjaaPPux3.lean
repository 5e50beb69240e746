/- Go functions as Lean functions, and that the one comes to what the other answers: written by the kit's print.py for several functions together (wip/printall.sh of this repo). -/
import Derived.Test.YtegacgfhmigdjaaPPux0
import Derived.Test.YtegacgfhmigdjaaPPux2
namespace Go.Proofs.Ytegacgfhmigdjaa.PPu
open Go.RowKit Go.Proofs.YtegacgfhmigdjaaW.PrintWords Go.Proofs.YtegacgfhmigdjaaW.PrintLast Go.Proofs.YtegacgfhmigdjaaW.PrintMore
attribute [local go_sem] max2_int min2_int max_two min_two max_three min_three max_four min_four   -- for this text's walks alone
set_option linter.unusedVariables false
set_option linter.unusedSimpArgs false

/-! ### pilcrowref09_Digit: function 64 -/
mutual
def pilcrowref09_Digit.j0 : Nat → Int → Bool → Option (Int)
  | 0, _, _ => none
  | k + 1, x0, x9 => if x9 = true then (pilcrowref09_Digit.j1 k ((x0 + 32) % 256)) else (pilcrowref09_Digit.j1 k x0)
def pilcrowref09_Digit.j1 : Nat → Int → Option (Int)
  | 0, _ => none
  | k + 1, x0 => pilcrowref09_Digit.l0 k x0 0
def pilcrowref09_Digit.l0 : Nat → Int → Int → Option (Int)
  | 0, _, _ => none
  | k + 1, x0, x3 => if x3 < 36 then ((pilcrowref09_Digits.f).bind fun t120 => (if 0 ≤ x3 then (if x3 < (t120.size : Int) then (if (bt t120 x3) = x0 then (some x3) else (pilcrowref09_Digit.l0 k x0 (wrap64 (x3 + 1)))) else (none)) else (none))) else (some (-1))
end
def pilcrowref09_Digit.f (k : Nat) (a0 : Int) : Option (Int) := if a0 ≥ 65 then (pilcrowref09_Digit.j0 k a0 (decide (a0 ≤ 90))) else (pilcrowref09_Digit.j0 k a0 false)
theorem pilcrowref09_Digit.mono_l : ∀ k, (∀ y0 y1, LeO (pilcrowref09_Digit.j0 k y0 y1) (pilcrowref09_Digit.j0 (k + 1) y0 y1)) ∧ (∀ y0, LeO (pilcrowref09_Digit.j1 k y0) (pilcrowref09_Digit.j1 (k + 1) y0)) ∧ (∀ y0 y1, LeO (pilcrowref09_Digit.l0 k y0 y1) (pilcrowref09_Digit.l0 (k + 1) y0 y1))
  | 0 => ⟨fun _ _ r h => by simp [pilcrowref09_Digit.j0] at h, fun _ r h => by simp [pilcrowref09_Digit.j1] at h, fun _ _ r h => by simp [pilcrowref09_Digit.l0] at h⟩
  | k + 1 => by
    obtain ⟨ih0, ih1, ih2⟩ := pilcrowref09_Digit.mono_l k
    refine ⟨?_, ?_, ?_⟩
    · intro y0 y1
      unfold pilcrowref09_Digit.j0
      repeat' first
      | (with_reducible exact ih0 _ _)
      | (with_reducible exact ih1 _)
      | (with_reducible exact ih2 _ _)
      | (with_reducible exact LeO.refl _)
      | (with_reducible exact LeO.none _)
      | (with_reducible refine LeO.ite ?_ ?_)
      | (with_reducible refine LeO.bind ?_ (fun _ => ?_))
      | exact ih0 _ _
      | exact ih1 _
      | exact ih2 _ _
      | exact LeO.none _
      | refine LeO.ite ?_ ?_
      | refine LeO.bind ?_ (fun _ => ?_)
    · intro y0
      unfold pilcrowref09_Digit.j1
      repeat' first
      | (with_reducible exact ih0 _ _)
      | (with_reducible exact ih1 _)
      | (with_reducible exact ih2 _ _)
      | (with_reducible exact LeO.refl _)
      | (with_reducible exact LeO.none _)
      | (with_reducible refine LeO.ite ?_ ?_)
      | (with_reducible refine LeO.bind ?_ (fun _ => ?_))
      | exact ih0 _ _
      | exact ih1 _
      | exact ih2 _ _
      | exact LeO.none _
      | refine LeO.ite ?_ ?_
      | refine LeO.bind ?_ (fun _ => ?_)
    · intro y0 y1
      unfold pilcrowref09_Digit.l0
      repeat' first
      | (with_reducible exact ih0 _ _)
      | (with_reducible exact ih1 _)
      | (with_reducible exact ih2 _ _)
      | (with_reducible exact LeO.refl _)
      | (with_reducible exact LeO.none _)
      | (with_reducible refine LeO.ite ?_ ?_)
      | (with_reducible refine LeO.bind ?_ (fun _ => ?_))
      | exact ih0 _ _
      | exact ih1 _
      | exact ih2 _ _
      | exact LeO.none _
      | refine LeO.ite ?_ ?_
      | refine LeO.bind ?_ (fun _ => ?_)
theorem pilcrowref09_Digit.mono : ∀ a0 k, LeO (pilcrowref09_Digit.f k a0) (pilcrowref09_Digit.f (k + 1) a0) := by
  intro a0 k
  obtain ⟨ih0, ih1, ih2⟩ := pilcrowref09_Digit.mono_l k
  unfold pilcrowref09_Digit.f
  repeat' first
      | (with_reducible exact ih0 _ _)
      | (with_reducible exact ih1 _)
      | (with_reducible exact ih2 _ _)
      | (with_reducible exact LeO.refl _)
      | (with_reducible exact LeO.none _)
      | (with_reducible refine LeO.ite ?_ ?_)
      | (with_reducible refine LeO.bind ?_ (fun _ => ?_))
      | exact ih0 _ _
      | exact ih1 _
      | exact ih2 _ _
      | exact LeO.none _
      | refine LeO.ite ?_ ?_
      | refine LeO.bind ?_ (fun _ => ?_)
set_option maxHeartbeats 8000000 in
set_option maxRecDepth 100000 in
theorem pilcrowref09_Digit.calls (k : Nat) (a0 : Int) (r : Int) (w : World) (h : pilcrowref09_Digit.f k a0 = some r) :
    Calls Try.prog 64 #[.int .u8 a0] w fun e w' => e = .returned (.int .i64 r) ∧ Drawn0 w w' := by
  have H : (if a0 ≥ 65 then (pilcrowref09_Digit.j0 k a0 (decide (a0 ≤ 90))) else (pilcrowref09_Digit.j0 k a0 false)) = some r := h
  clear h
  have HC2 := Aside0.mk H
  clear H
  go_enter Try.func64, Try.ntmps64
  go_upto_region 1 with (fail)
  go_cut [9] (fun v9 wc => ∃ (kq : Nat) (x9_1 : Bool), v9 = .bool x9_1 ∧ Aside0 (pilcrowref09_Digit.j0 kq a0 x9_1 = some r) ∧ Aside0 (kq ≤ k) ∧ Drawn0 w wc)
  case first =>
    have H := HC2.out
    clear HC2
    by_cases c3 : a0 ≥ 65
    · rw [if_pos c3] at H
      have c3b0 : decide (65 ≤ a0) = true := decide_eq_true c3
      clear c3
      (first | rw [c3b0] | (simp only [i64_w, i32_w]; rw [c3b0]) | skip)
      have H' := Aside0.mk H
      clear H
      go_wp2
      go_meet
      case rel => exact ⟨_, (decide (a0 ≤ 90)), (by first | rfl | (simp; done) | (simp [*]; done)), H', ⟨by first | omega | exact Nat.le_refl _⟩, by repeat (first | exact Drawn0.refl _ | apply Drawn0.step)⟩
    · rw [if_neg c3] at H
      have c3b0 : decide (65 ≤ a0) = false := decide_eq_false c3
      clear c3
      (first | rw [c3b0] | (simp only [i64_w, i32_w]; rw [c3b0]) | skip)
      have H' := Aside0.mk H
      clear H
      go_wp2
      go_meet
      case rel => exact ⟨_, (false), (by first | rfl | (simp; done) | (simp [*]; done)), H', ⟨by first | omega | exact Nat.le_refl _⟩, by repeat (first | exact Drawn0.refl _ | apply Drawn0.step)⟩
  case rest =>
    clear HC2
    try clear p2
    try clear c3
    try clear c3b0
    obtain ⟨kq, x9_1, rfl, HA, HJ1, ⟨mc1, rfl⟩⟩ := hcut
    cases kq with
    | zero => exact absurd HA.out (by simp [pilcrowref09_Digit.j0])
    | succ kj1 =>
      have H := HA.out
      clear HA
      simp only [pilcrowref09_Digit.j0] at H
      have HC4 := Aside0.mk H
      clear H
      go_upto_if 9 with (fail)
      go_cut [0] (fun v0 wc => ∃ (kq : Nat) (x0_3 : Int), v0 = .int .u8 x0_3 ∧ Aside0 (pilcrowref09_Digit.j1 kq x0_3 = some r) ∧ Aside0 (kq ≤ kj1) ∧ Drawn0 w wc)
      case first =>
        have H := HC4.out
        clear HC4
        by_cases c5 : x9_1 = true
        · subst c5
          have H1 : (pilcrowref09_Digit.j1 kj1 ((a0 + 32) % 256)) = some r := by rw [if_pos rfl] at H; exact H
          clear H
          have H := H1
          clear H1
          have H' := Aside0.mk H
          clear H
          go_wp2
          go_meet
          case rel => exact ⟨_, ((a0 + 32) % 256), (by first | rfl | (simp; done) | (simp [*]; done)), H', ⟨by have := HJ1.out; first | omega | exact Nat.le_refl _⟩, by repeat (first | exact Drawn0.refl _ | apply Drawn0.step)⟩
        · replace c5 := Bool.eq_false_iff.mpr c5
          subst c5
          have H1 : (pilcrowref09_Digit.j1 kj1 a0) = some r := by rw [if_neg (show ¬ (false = true) by decide)] at H; exact H
          clear H
          have H := H1
          clear H1
          have H' := Aside0.mk H
          clear H
          go_wp2
          go_meet
          case rel => exact ⟨_, (a0), (by first | rfl | (simp; done) | (simp [*]; done)), H', ⟨by have := HJ1.out; first | omega | exact Nat.le_refl _⟩, by repeat (first | exact Drawn0.refl _ | apply Drawn0.step)⟩
      case rest =>
        clear HC4
        try clear c1
        try clear p2
        try clear c3
        try clear c3b0
        try clear c5
        try clear p2
        obtain ⟨kq, x0_3, rfl, HA, HJ3, ⟨mc3, rfl⟩⟩ := hcut
        cases kq with
        | zero => exact absurd HA.out (by simp [pilcrowref09_Digit.j1])
        | succ kj3 =>
          have H := HA.out
          clear HA
          simp only [pilcrowref09_Digit.j1] at H
          have H' := Aside0.mk H
          clear H
          go_wp2
          go_loopg [3] kj3 (fun kq v3 w' => ∃ (x3_3 : Int), v3 = .int .i64 x3_3 ∧ Aside0 (pilcrowref09_Digit.l0 kq x0_3 x3_3 = some r) ∧ Aside0 (kq ≤ kj3) ∧ Drawn0 w w')
          case atStart => exact ⟨(0), (by first | rfl | (simp; done) | (simp [*]; done)), H', ⟨Nat.le_refl _⟩, by repeat (first | exact Drawn0.refl _ | apply Drawn0.step)⟩
          case round =>
            clear H'
            try clear c1
            try clear p2
            try clear c3
            try clear c3b0
            try clear c5
            try clear p2
            obtain ⟨x3_3, rfl, HA, HK3, ⟨m3, rfl⟩⟩ := hrel
            cases gk with
            | zero => exact absurd HA.out (by simp [pilcrowref09_Digit.l0])
            | succ k3 =>
              have H := HA.out
              clear HA
              simp only [pilcrowref09_Digit.l0] at H
              by_cases c6 : x3_3 < 36
              · rw [if_pos c6] at H
                have c6b0 : decide (x3_3 < 36) = true := decide_eq_true c6
                clear c6
                replace H := Option.bind_eq_some_iff.mp H
                obtain ⟨t120, A70, H⟩ := H
                replace H : (if 0 ≤ x3_3 then (if x3_3 < (t120.size : Int) then (if (bt t120 x3_3) = x0_3 then (some x3_3) else (pilcrowref09_Digit.l0 k3 x0_3 (wrap64 (x3_3 + 1)))) else (none)) else (none)) = some r := H
                have A7 := Aside0.mk A70
                clear A70
                by_cases c8 : 0 ≤ x3_3
                · rw [if_pos c8] at H
                  have c8b0 : decide (0 ≤ x3_3) = true := decide_eq_true c8
                  clear c8
                  by_cases c9 : x3_3 < (t120.size : Int)
                  · rw [if_pos c9] at H
                    have c9b0 : decide (x3_3 < (t120.size : Int)) = true := decide_eq_true c9
                    clear c9
                    by_cases c11 : (bt t120 x3_3) = x0_3
                    · rw [if_pos c11] at H
                      have c11b0 : ((bt t120 x3_3) == x0_3) = true := beq_iff_eq.mpr c11
                      have c11b1 : ((bt t120 x3_3) != x0_3) = false := bne_eq_false_iff_eq.mpr c11
                      clear c11
                      obtain rfl := Option.some.inj H
                      go_wp2_with (first | ((with_reducible refine gate_callee (f := 52) rfl ?_); refine goesL_ (some 16) rfl rfl Try.func52 (by kernel_rfl) rfl #[] rfl (by (try simp only [List.map_toArray, List.map_cons, List.map_nil]); first | done | rfl | (simp only [List.length_drop, List.length_take]; rfl)) ?_; (with_reducible refine (pilcrowref09_Digits.calls  t120 _ A7.out).mono ?_); rintro e w' ⟨rfl, ⟨nd, rfl⟩⟩; refine ⟨_, rfl, ?_⟩; have p10 : 0 ≤ (x3_3 : Int) := of_decide_eq_true (by first | (with_reducible assumption) | assumption); have q10 : x3_3 < (t120.size : Int) := of_decide_eq_true (by first | (with_reducible assumption) | assumption); have hx10 := bt_at t120 x3_3; replace p10 := eq_true p10; replace q10 := eq_true q10))
                      go_ret
                      exact ⟨by first | rfl | (simp; done) | (simp [*]; done), by repeat (first | exact Drawn0.refl _ | apply Drawn0.step)⟩
                    · rw [if_neg c11] at H
                      have c11b0 : ((bt t120 x3_3) == x0_3) = false := beq_eq_false_iff_ne.mpr c11
                      have c11b1 : ((bt t120 x3_3) != x0_3) = true := bne_iff_ne.mpr c11
                      have H' := Aside0.mk H
                      clear H
                      go_wp2_with (first | ((with_reducible refine gate_callee (f := 52) rfl ?_); refine goesL_ (some 16) rfl rfl Try.func52 (by kernel_rfl) rfl #[] rfl (by (try simp only [List.map_toArray, List.map_cons, List.map_nil]); first | done | rfl | (simp only [List.length_drop, List.length_take]; rfl)) ?_; (with_reducible refine (pilcrowref09_Digits.calls  t120 _ A7.out).mono ?_); rintro e w' ⟨rfl, ⟨nd, rfl⟩⟩; refine ⟨_, rfl, ?_⟩; have p10 : 0 ≤ (x3_3 : Int) := of_decide_eq_true (by first | (with_reducible assumption) | assumption); have q10 : x3_3 < (t120.size : Int) := of_decide_eq_true (by first | (with_reducible assumption) | assumption); have hx10 := bt_at t120 x3_3; replace p10 := eq_true p10; replace q10 := eq_true q10))
                      go_roundg k3
                      case measure => have := HJ1.out; have := HJ3.out; have := HK3.out; omega
                      case rel => exact ⟨(wrap64 (x3_3 + 1)), (by first | rfl | (simp; done) | (simp [*]; done)), H', ⟨by have := HJ1.out; have := HJ3.out; have := HK3.out; omega⟩, by repeat (first | exact Drawn0.refl _ | apply Drawn0.step)⟩
                  · rw [if_neg c9] at H
                    exact absurd H (by simp)
                · rw [if_neg c8] at H
                  exact absurd H (by simp)
              · rw [if_neg c6] at H
                have c6b0 : decide (x3_3 < 36) = false := decide_eq_false c6
                clear c6
                obtain rfl := Option.some.inj H
                go_wp2
                go_ret
                exact ⟨by first | rfl | (simp; done) | (simp [*]; done), by repeat (first | exact Drawn0.refl _ | apply Drawn0.step)⟩

/-! ### pilcrowref09_Get: function 50 -/
mutual
def pilcrowref09_Get.j0 : Nat → ByteArray → Int → Int → Bool → Option (Int × Int × Int)
  | 0, _, _, _, _ => none
  | k + 1, x0, x1, x2, x23 => if x23 = true then (some (0, 0, 1)) else (pilcrowref09_Get.l0 k x0 x1 x2 0 1 4611686018427387904 0)
def pilcrowref09_Get.l0 : Nat → ByteArray → Int → Int → Int → Int → Int → Int → Option (Int × Int × Int)
  | 0, _, _, _, _, _, _, _ => none
  | k + 1, x0, x1, x2, x9, x10, x11, x12 => if x1 < (x0.size : Int) then (if 0 ≤ x1 then ((pilcrowref09_Digit.f k (bt x0 x1)).bind fun t121 => (if t121 < 0 then (some (0, 0, 3)) else (pilcrowref09_Get.l1 k x0 x1 x2 x9 x10 x11 x12 t121 0))) else (none)) else (some (0, 0, 4))
def pilcrowref09_Get.l1 : Nat → ByteArray → Int → Int → Int → Int → Int → Int → Int → Int → Option (Int × Int × Int)
  | 0, _, _, _, _, _, _, _, _, _ => none
  | k + 1, x0, x1, x2, x9, x10, x11, x12, x13, x14 => if x14 < x13 then (if x10 > (IntKind.u64.wrap (x11 - x9)) then (some (0, 0, 5)) else (pilcrowref09_Get.l1 k x0 x1 x2 (IntKind.u64.wrap (x9 + x10)) x10 x11 x12 x13 (wrap64 (x14 + 1)))) else ((pilcrowref09_Threshold.f x12 x2).bind fun t122 => (if x13 < t122 then (some (x9, wrap64 (x1 + 1), 0)) else (if (IntKind.u64.wrap (wrap64 (36 - t122))) = 0 then (none) else (if x10 > (IntKind.u64.wrap (Int.tdiv x11 (IntKind.u64.wrap (wrap64 (36 - t122))))) then (pilcrowref09_Get.l0 k x0 (wrap64 (x1 + 1)) x2 x9 (IntKind.u64.wrap (x11 + 1)) x11 (wrap64 (x12 + 1))) else (pilcrowref09_Get.l0 k x0 (wrap64 (x1 + 1)) x2 x9 (IntKind.u64.wrap (x10 * (IntKind.u64.wrap (wrap64 (36 - t122))))) x11 (wrap64 (x12 + 1)))))))
end
def pilcrowref09_Get.f (k : Nat) (a0 : ByteArray) (a1 : Int) (a2 : Int) : Option (Int × Int × Int) := if a1 < 0 then (pilcrowref09_Get.j0 k a0 a1 a2 true) else (pilcrowref09_Get.j0 k a0 a1 a2 (decide (a1 > (a0.size : Int))))
theorem pilcrowref09_Get.mono_l : ∀ k, (∀ y0 y1 y2 y3, LeO (pilcrowref09_Get.j0 k y0 y1 y2 y3) (pilcrowref09_Get.j0 (k + 1) y0 y1 y2 y3)) ∧ (∀ y0 y1 y2 y3 y4 y5 y6, LeO (pilcrowref09_Get.l0 k y0 y1 y2 y3 y4 y5 y6) (pilcrowref09_Get.l0 (k + 1) y0 y1 y2 y3 y4 y5 y6)) ∧ (∀ y0 y1 y2 y3 y4 y5 y6 y7 y8, LeO (pilcrowref09_Get.l1 k y0 y1 y2 y3 y4 y5 y6 y7 y8) (pilcrowref09_Get.l1 (k + 1) y0 y1 y2 y3 y4 y5 y6 y7 y8))
  | 0 => ⟨fun _ _ _ _ r h => by simp [pilcrowref09_Get.j0] at h, fun _ _ _ _ _ _ _ r h => by simp [pilcrowref09_Get.l0] at h, fun _ _ _ _ _ _ _ _ _ r h => by simp [pilcrowref09_Get.l1] at h⟩
  | k + 1 => by
    obtain ⟨ih0, ih1, ih2⟩ := pilcrowref09_Get.mono_l k
    refine ⟨?_, ?_, ?_⟩
    · intro y0 y1 y2 y3
      unfold pilcrowref09_Get.j0
      repeat' first
      | (with_reducible exact ih0 _ _ _ _)
      | (with_reducible exact ih1 _ _ _ _ _ _ _)
      | (with_reducible exact ih2 _ _ _ _ _ _ _ _ _)
      | (with_reducible exact pilcrowref09_Digit.mono _ _)
      | (with_reducible exact LeO.refl _)
      | (with_reducible exact LeO.none _)
      | (with_reducible refine LeO.ite ?_ ?_)
      | (with_reducible refine LeO.bind ?_ (fun _ => ?_))
      | exact ih0 _ _ _ _
      | exact ih1 _ _ _ _ _ _ _
      | exact ih2 _ _ _ _ _ _ _ _ _
      | exact pilcrowref09_Digit.mono _ _
      | exact LeO.none _
      | refine LeO.ite ?_ ?_
      | refine LeO.bind ?_ (fun _ => ?_)
    · intro y0 y1 y2 y3 y4 y5 y6
      unfold pilcrowref09_Get.l0
      repeat' first
      | (with_reducible exact ih0 _ _ _ _)
      | (with_reducible exact ih1 _ _ _ _ _ _ _)
      | (with_reducible exact ih2 _ _ _ _ _ _ _ _ _)
      | (with_reducible exact pilcrowref09_Digit.mono _ _)
      | (with_reducible exact LeO.refl _)
      | (with_reducible exact LeO.none _)
      | (with_reducible refine LeO.ite ?_ ?_)
      | (with_reducible refine LeO.bind ?_ (fun _ => ?_))
      | exact ih0 _ _ _ _
      | exact ih1 _ _ _ _ _ _ _
      | exact ih2 _ _ _ _ _ _ _ _ _
      | exact pilcrowref09_Digit.mono _ _
      | exact LeO.none _
      | refine LeO.ite ?_ ?_
      | refine LeO.bind ?_ (fun _ => ?_)
    · intro y0 y1 y2 y3 y4 y5 y6 y7 y8
      unfold pilcrowref09_Get.l1
      repeat' first
      | (with_reducible exact ih0 _ _ _ _)
      | (with_reducible exact ih1 _ _ _ _ _ _ _)
      | (with_reducible exact ih2 _ _ _ _ _ _ _ _ _)
      | (with_reducible exact pilcrowref09_Digit.mono _ _)
      | (with_reducible exact LeO.refl _)
      | (with_reducible exact LeO.none _)
      | (with_reducible refine LeO.ite ?_ ?_)
      | (with_reducible refine LeO.bind ?_ (fun _ => ?_))
      | exact ih0 _ _ _ _
      | exact ih1 _ _ _ _ _ _ _
      | exact ih2 _ _ _ _ _ _ _ _ _
      | exact pilcrowref09_Digit.mono _ _
      | exact LeO.none _
      | refine LeO.ite ?_ ?_
      | refine LeO.bind ?_ (fun _ => ?_)
theorem pilcrowref09_Get.mono : ∀ a0 a1 a2 k, LeO (pilcrowref09_Get.f k a0 a1 a2) (pilcrowref09_Get.f (k + 1) a0 a1 a2) := by
  intro a0 a1 a2 k
  obtain ⟨ih0, ih1, ih2⟩ := pilcrowref09_Get.mono_l k
  unfold pilcrowref09_Get.f
  repeat' first
      | (with_reducible exact ih0 _ _ _ _)
      | (with_reducible exact ih1 _ _ _ _ _ _ _)
      | (with_reducible exact ih2 _ _ _ _ _ _ _ _ _)
      | (with_reducible exact pilcrowref09_Digit.mono _ _)
      | (with_reducible exact LeO.refl _)
      | (with_reducible exact LeO.none _)
      | (with_reducible refine LeO.ite ?_ ?_)
      | (with_reducible refine LeO.bind ?_ (fun _ => ?_))
      | exact ih0 _ _ _ _
      | exact ih1 _ _ _ _ _ _ _
      | exact ih2 _ _ _ _ _ _ _ _ _
      | exact pilcrowref09_Digit.mono _ _
      | exact LeO.none _
      | refine LeO.ite ?_ ?_
      | refine LeO.bind ?_ (fun _ => ?_)
set_option maxHeartbeats 8000000 in
set_option maxRecDepth 100000 in
theorem pilcrowref09_Get.calls (k : Nat) (a0 : ByteArray) (a1 : Int) (a2 : Int) (r1 : Int) (r2 : Int) (r3 : Int) (w : World) (h : pilcrowref09_Get.f k a0 a1 a2 = some (r1, r2, r3)) :
    Calls Try.prog 50 #[.string a0, .int .i64 a1, .int .i64 a2] w fun e w' => e = .returned (.tuple #[.int .u64 r1, .int .i64 r2, .int .i64 r3]) ∧ Drawn0 w w' := by
  have H : (if a1 < 0 then (pilcrowref09_Get.j0 k a0 a1 a2 true) else (pilcrowref09_Get.j0 k a0 a1 a2 (decide (a1 > (a0.size : Int))))) = some (r1, r2, r3) := h
  clear h
  have HC4 := Aside0.mk H
  clear H
  go_enter Try.func50, Try.ntmps50
  go_upto_region 1 with (fail)
  go_cut [23] (fun v23 wc => ∃ (kq : Nat) (x23_3 : Bool), v23 = .bool x23_3 ∧ Aside0 (pilcrowref09_Get.j0 kq a0 a1 a2 x23_3 = some (r1, r2, r3)) ∧ Aside0 (kq ≤ k) ∧ Drawn0 w wc)
  case first =>
    have H := HC4.out
    clear HC4
    by_cases c5 : a1 < 0
    · rw [if_pos c5] at H
      have c5b0 : decide (a1 < 0) = true := decide_eq_true c5
      clear c5
      (first | rw [c5b0] | (simp only [i64_w, i32_w]; rw [c5b0]) | skip)
      have H' := Aside0.mk H
      clear H
      go_wp2
      go_meet
      case rel => exact ⟨_, (true), (by first | rfl | (simp; done) | (simp [*]; done)), H', ⟨by first | omega | exact Nat.le_refl _⟩, by repeat (first | exact Drawn0.refl _ | apply Drawn0.step)⟩
    · rw [if_neg c5] at H
      have c5b0 : decide (a1 < 0) = false := decide_eq_false c5
      clear c5
      (first | rw [c5b0] | (simp only [i64_w, i32_w]; rw [c5b0]) | skip)
      have H' := Aside0.mk H
      clear H
      go_wp2
      go_meet
      case rel => exact ⟨_, (decide (a1 > (a0.size : Int))), (by first | rfl | (simp; done) | (simp [*]; done)), H', ⟨by first | omega | exact Nat.le_refl _⟩, by repeat (first | exact Drawn0.refl _ | apply Drawn0.step)⟩
  case rest =>
    clear HC4
    try clear p2
    try clear c5
    try clear c5b0
    obtain ⟨kq, x23_3, rfl, HA, HJ3, ⟨mc3, rfl⟩⟩ := hcut
    cases kq with
    | zero => exact absurd HA.out (by simp [pilcrowref09_Get.j0])
    | succ kj3 =>
      have H := HA.out
      clear HA
      simp only [pilcrowref09_Get.j0] at H
      by_cases c6 : x23_3 = true
      · subst c6
        have H1 : (some (0, 0, 1)) = some (r1, r2, r3) := by rw [if_pos rfl] at H; exact H
        clear H
        have H := H1
        clear H1
        simp only [Option.some.injEq, Prod.mk.injEq] at H
        obtain ⟨rfl, rfl, rfl⟩ := H
        go_wp2
        go_ret3
        exact ⟨by first | rfl | (simp; done) | (simp [*]; done), by repeat (first | exact Drawn0.refl _ | apply Drawn0.step)⟩
      · replace c6 := Bool.eq_false_iff.mpr c6
        subst c6
        have H1 : (pilcrowref09_Get.l0 kj3 a0 a1 a2 0 1 4611686018427387904 0) = some (r1, r2, r3) := by rw [if_neg (show ¬ (false = true) by decide)] at H; exact H
        clear H
        have H := H1
        clear H1
        have H' := Aside0.mk H
        clear H
        go_wp2
        go_loopg [1, 9, 10, 12] kj3 (fun kq v1 v9 v10 v12 w' => ∃ (x1_2 : Int) (x9_2 : Int) (x10_2 : Int) (x12_2 : Int), v1 = .int .i64 x1_2 ∧ v9 = .int .u64 x9_2 ∧ v10 = .int .u64 x10_2 ∧ v12 = .int .i64 x12_2 ∧ Aside0 (pilcrowref09_Get.l0 kq a0 x1_2 a2 x9_2 x10_2 4611686018427387904 x12_2 = some (r1, r2, r3)) ∧ Aside0 (kq ≤ kj3) ∧ Drawn0 w w')
        case atStart => exact ⟨(a1), (0), (1), (0), (by first | rfl | (simp; done) | (simp [*]; done)), (by first | rfl | (simp; done) | (simp [*]; done)), (by first | rfl | (simp; done) | (simp [*]; done)), (by first | rfl | (simp; done) | (simp [*]; done)), H', ⟨Nat.le_refl _⟩, by repeat (first | exact Drawn0.refl _ | apply Drawn0.step)⟩
        case round =>
          clear H'
          try clear p2
          try clear c3
          try clear c5
          try clear c5b0
          try clear c6
          try clear p2
          obtain ⟨x1_2, x9_2, x10_2, x12_2, rfl, rfl, rfl, rfl, HA, HK2, ⟨m2, rfl⟩⟩ := hrel
          cases gk with
          | zero => exact absurd HA.out (by simp [pilcrowref09_Get.l0])
          | succ k2 =>
            have H := HA.out
            clear HA
            simp only [pilcrowref09_Get.l0] at H
            by_cases c7 : x1_2 < (a0.size : Int)
            · rw [if_pos c7] at H
              have c7b0 : decide (x1_2 < (a0.size : Int)) = true := decide_eq_true c7
              clear c7
              by_cases c8 : 0 ≤ x1_2
              · rw [if_pos c8] at H
                have c8b0 : decide (0 ≤ x1_2) = true := decide_eq_true c8
                clear c8
                replace H := Option.bind_eq_some_iff.mp H
                obtain ⟨t121, A100, H⟩ := H
                replace H : (if t121 < 0 then (some (0, 0, 3)) else (pilcrowref09_Get.l1 k2 a0 x1_2 a2 x9_2 x10_2 4611686018427387904 x12_2 t121 0)) = some (r1, r2, r3) := H
                have A10 := Aside0.mk A100
                clear A100
                by_cases c11 : t121 < 0
                · rw [if_pos c11] at H
                  have c11b0 : decide (t121 < 0) = true := decide_eq_true c11
                  clear c11
                  simp only [Option.some.injEq, Prod.mk.injEq] at H
                  obtain ⟨rfl, rfl, rfl⟩ := H
                  have p9 : 0 ≤ (x1_2 : Int) := of_decide_eq_true (by first | (with_reducible assumption) | assumption)
                  have q9 : x1_2 < (a0.size : Int) := of_decide_eq_true (by first | (with_reducible assumption) | assumption)
                  have hx9 := bt_at a0 x1_2
                  replace p9 := eq_true p9
                  replace q9 := eq_true q9
                  go_wp2_with (first | ((with_reducible refine gate_callee (f := 64) rfl ?_); refine goesL_ (some 33) rfl rfl Try.func64 (by kernel_rfl) rfl #[.int .u8 (bt a0 x1_2)] rfl (by (try simp only [List.map_toArray, List.map_cons, List.map_nil]); first | done | rfl | (simp only [List.length_drop, List.length_take]; rfl)) ?_; (with_reducible refine (pilcrowref09_Digit.calls k2 (bt a0 x1_2) t121 _ A10.out).mono ?_); rintro e w' ⟨rfl, ⟨nd, rfl⟩⟩; refine ⟨_, rfl, ?_⟩))
                  go_ret3
                  exact ⟨by first | rfl | (simp; done) | (simp [*]; done), by repeat (first | exact Drawn0.refl _ | apply Drawn0.step)⟩
                · rw [if_neg c11] at H
                  have c11b0 : decide (t121 < 0) = false := decide_eq_false c11
                  clear c11
                  have H' := Aside0.mk H
                  clear H
                  have p9 : 0 ≤ (x1_2 : Int) := of_decide_eq_true (by first | (with_reducible assumption) | assumption)
                  have q9 : x1_2 < (a0.size : Int) := of_decide_eq_true (by first | (with_reducible assumption) | assumption)
                  have hx9 := bt_at a0 x1_2
                  replace p9 := eq_true p9
                  replace q9 := eq_true q9
                  go_wp2_with (first | ((with_reducible refine gate_callee (f := 64) rfl ?_); refine goesL_ (some 33) rfl rfl Try.func64 (by kernel_rfl) rfl #[.int .u8 (bt a0 x1_2)] rfl (by (try simp only [List.map_toArray, List.map_cons, List.map_nil]); first | done | rfl | (simp only [List.length_drop, List.length_take]; rfl)) ?_; (with_reducible refine (pilcrowref09_Digit.calls k2 (bt a0 x1_2) t121 _ A10.out).mono ?_); rintro e w' ⟨rfl, ⟨nd, rfl⟩⟩; refine ⟨_, rfl, ?_⟩))
                  go_loopg [9, 14] k2 (fun kq v9 v14 w' => ∃ (x9_3 : Int) (x14_3 : Int), v9 = .int .u64 x9_3 ∧ v14 = .int .i64 x14_3 ∧ Aside0 (pilcrowref09_Get.l1 kq a0 x1_2 a2 x9_3 x10_2 4611686018427387904 x12_2 t121 x14_3 = some (r1, r2, r3)) ∧ Aside0 (kq ≤ k2) ∧ Drawn0 w w')
                  case atStart => exact ⟨(x9_2), (0), (by first | rfl | (simp; done) | (simp [*]; done)), (by first | rfl | (simp; done) | (simp [*]; done)), H', ⟨Nat.le_refl _⟩, by repeat (first | exact Drawn0.refl _ | apply Drawn0.step)⟩
                  case round =>
                    clear H'
                    try clear c1
                    try clear p2
                    try clear c3
                    try clear c5
                    try clear c5b0
                    try clear c6
                    try clear c7
                    try clear c7b0
                    try clear c8
                    try clear c8b0
                    try clear p9
                    try clear q9
                    try clear hx9
                    try clear c11
                    try clear c11b0
                    try clear p2
                    try clear p9
                    try clear q9
                    obtain ⟨x9_3, x14_3, rfl, rfl, HA, HK3, ⟨m3, rfl⟩⟩ := hrel
                    cases gk with
                    | zero => exact absurd HA.out (by simp [pilcrowref09_Get.l1])
                    | succ k3 =>
                      have H := HA.out
                      clear HA
                      simp only [pilcrowref09_Get.l1] at H
                      by_cases c12 : x14_3 < t121
                      · rw [if_pos c12] at H
                        have c12b0 : decide (x14_3 < t121) = true := decide_eq_true c12
                        clear c12
                        by_cases c13 : x10_2 > (IntKind.u64.wrap (4611686018427387904 - x9_3))
                        · rw [if_pos c13] at H
                          have c13b0 : decide ((IntKind.u64.wrap (4611686018427387904 - x9_3)) < x10_2) = true := decide_eq_true c13
                          clear c13
                          simp only [Option.some.injEq, Prod.mk.injEq] at H
                          obtain ⟨rfl, rfl, rfl⟩ := H
                          go_wp2
                          go_ret3
                          exact ⟨by first | rfl | (simp; done) | (simp [*]; done), by repeat (first | exact Drawn0.refl _ | apply Drawn0.step)⟩
                        · rw [if_neg c13] at H
                          have c13b0 : decide ((IntKind.u64.wrap (4611686018427387904 - x9_3)) < x10_2) = false := decide_eq_false c13
                          clear c13
                          have H' := Aside0.mk H
                          clear H
                          go_wp2
                          go_roundg k3
                          case measure => have := HJ3.out; have := HK2.out; have := HK3.out; omega
                          case rel => exact ⟨(IntKind.u64.wrap (x9_3 + x10_2)), (wrap64 (x14_3 + 1)), (by first | rfl | (simp; done) | (simp [*]; done)), (by first | rfl | (simp; done) | (simp [*]; done)), H', ⟨by have := HJ3.out; have := HK2.out; have := HK3.out; omega⟩, by repeat (first | exact Drawn0.refl _ | apply Drawn0.step)⟩
                      · rw [if_neg c12] at H
                        have c12b0 : decide (x14_3 < t121) = false := decide_eq_false c12
                        clear c12
                        replace H := Option.bind_eq_some_iff.mp H
                        obtain ⟨t122, A140, H⟩ := H
                        replace H : (if t121 < t122 then (some (x9_3, wrap64 (x1_2 + 1), 0)) else (if (IntKind.u64.wrap (wrap64 (36 - t122))) = 0 then (none) else (if x10_2 > (IntKind.u64.wrap (Int.tdiv 4611686018427387904 (IntKind.u64.wrap (wrap64 (36 - t122))))) then (pilcrowref09_Get.l0 k3 a0 (wrap64 (x1_2 + 1)) a2 x9_3 (IntKind.u64.wrap (4611686018427387904 + 1)) 4611686018427387904 (wrap64 (x12_2 + 1))) else (pilcrowref09_Get.l0 k3 a0 (wrap64 (x1_2 + 1)) a2 x9_3 (IntKind.u64.wrap (x10_2 * (IntKind.u64.wrap (wrap64 (36 - t122))))) 4611686018427387904 (wrap64 (x12_2 + 1)))))) = some (r1, r2, r3) := H
                        have A14 := Aside0.mk A140
                        clear A140
                        by_cases c15 : t121 < t122
                        · rw [if_pos c15] at H
                          have c15b0 : decide (t121 < t122) = true := decide_eq_true c15
                          clear c15
                          simp only [Option.some.injEq, Prod.mk.injEq] at H
                          obtain ⟨rfl, rfl, rfl⟩ := H
                          go_wp2_with (first | ((with_reducible refine gate_callee (f := 51) rfl ?_); refine goesL_ (some 53) rfl rfl Try.func51 (by kernel_rfl) rfl #[.int .i64 x12_2, .int .i64 a2] rfl (by (try simp only [List.map_toArray, List.map_cons, List.map_nil]); first | done | rfl | (simp only [List.length_drop, List.length_take]; rfl)) ?_; (with_reducible refine (pilcrowref09_Threshold.calls x12_2 a2 t122 _ A14.out).mono ?_); rintro e w' ⟨rfl, ⟨nd, rfl⟩⟩; refine ⟨_, rfl, ?_⟩))
                          go_ret3
                          exact ⟨by first | rfl | (simp; done) | (simp [*]; done), by repeat (first | exact Drawn0.refl _ | apply Drawn0.step)⟩
                        · rw [if_neg c15] at H
                          have c15b0 : decide (t121 < t122) = false := decide_eq_false c15
                          clear c15
                          by_cases c16 : (IntKind.u64.wrap (wrap64 (36 - t122))) = 0
                          · rw [if_pos c16] at H
                            exact absurd H (by simp)
                          · rw [if_neg c16] at H
                            have c16b0 : ((IntKind.u64.wrap (wrap64 (36 - t122))) == 0) = false := beq_eq_false_iff_ne.mpr c16
                            have c16b1 : ((IntKind.u64.wrap (wrap64 (36 - t122))) != 0) = true := bne_iff_ne.mpr c16
                            by_cases c17 : x10_2 > (IntKind.u64.wrap (Int.tdiv 4611686018427387904 (IntKind.u64.wrap (wrap64 (36 - t122)))))
                            · rw [if_pos c17] at H
                              have c17b0 : decide ((IntKind.u64.wrap (Int.tdiv 4611686018427387904 (IntKind.u64.wrap (wrap64 (36 - t122))))) < x10_2) = true := decide_eq_true c17
                              clear c17
                              have H' := Aside0.mk H
                              clear H
                              go_wp2_with (first | ((with_reducible refine gate_callee (f := 51) rfl ?_); refine goesL_ (some 53) rfl rfl Try.func51 (by kernel_rfl) rfl #[.int .i64 x12_2, .int .i64 a2] rfl (by (try simp only [List.map_toArray, List.map_cons, List.map_nil]); first | done | rfl | (simp only [List.length_drop, List.length_take]; rfl)) ?_; (with_reducible refine (pilcrowref09_Threshold.calls x12_2 a2 t122 _ A14.out).mono ?_); rintro e w' ⟨rfl, ⟨nd, rfl⟩⟩; refine ⟨_, rfl, ?_⟩))
                              go_roundg k3
                              case measure => have := HJ3.out; have := HK2.out; have := HK3.out; omega
                              case rel => exact ⟨(wrap64 (x1_2 + 1)), (x9_3), (IntKind.u64.wrap (4611686018427387904 + 1)), (wrap64 (x12_2 + 1)), (by first | rfl | (simp; done) | (simp [*]; done)), (by first | rfl | (simp; done) | (simp [*]; done)), (by first | rfl | (simp; done) | (simp [*]; done)), (by first | rfl | (simp; done) | (simp [*]; done)), H', ⟨by have := HJ3.out; have := HK2.out; have := HK3.out; omega⟩, by repeat (first | exact Drawn0.refl _ | apply Drawn0.step)⟩
                            · rw [if_neg c17] at H
                              have c17b0 : decide ((IntKind.u64.wrap (Int.tdiv 4611686018427387904 (IntKind.u64.wrap (wrap64 (36 - t122))))) < x10_2) = false := decide_eq_false c17
                              clear c17
                              have H' := Aside0.mk H
                              clear H
                              go_wp2_with (first | ((with_reducible refine gate_callee (f := 51) rfl ?_); refine goesL_ (some 53) rfl rfl Try.func51 (by kernel_rfl) rfl #[.int .i64 x12_2, .int .i64 a2] rfl (by (try simp only [List.map_toArray, List.map_cons, List.map_nil]); first | done | rfl | (simp only [List.length_drop, List.length_take]; rfl)) ?_; (with_reducible refine (pilcrowref09_Threshold.calls x12_2 a2 t122 _ A14.out).mono ?_); rintro e w' ⟨rfl, ⟨nd, rfl⟩⟩; refine ⟨_, rfl, ?_⟩))
                              go_roundg k3
                              case measure => have := HJ3.out; have := HK2.out; have := HK3.out; omega
                              case rel => exact ⟨(wrap64 (x1_2 + 1)), (x9_3), (IntKind.u64.wrap (x10_2 * (IntKind.u64.wrap (wrap64 (36 - t122))))), (wrap64 (x12_2 + 1)), (by first | rfl | (simp; done) | (simp [*]; done)), (by first | rfl | (simp; done) | (simp [*]; done)), (by first | rfl | (simp; done) | (simp [*]; done)), (by first | rfl | (simp; done) | (simp [*]; done)), H', ⟨by have := HJ3.out; have := HK2.out; have := HK3.out; omega⟩, by repeat (first | exact Drawn0.refl _ | apply Drawn0.step)⟩
              · rw [if_neg c8] at H
                exact absurd H (by simp)
            · rw [if_neg c7] at H
              have c7b0 : decide (x1_2 < (a0.size : Int)) = false := decide_eq_false c7
              clear c7
              simp only [Option.some.injEq, Prod.mk.injEq] at H
              obtain ⟨rfl, rfl, rfl⟩ := H
              go_wp2
              go_ret3
              exact ⟨by first | rfl | (simp; done) | (simp [*]; done), by repeat (first | exact Drawn0.refl _ | apply Drawn0.step)⟩

end Go.Proofs.Ytegacgfhmigdjaa.PPu
