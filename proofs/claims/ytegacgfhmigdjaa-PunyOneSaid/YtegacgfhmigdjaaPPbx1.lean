/- Go functions as Lean functions, and that the one comes to what the other answers: written by the kit's print.py for several functions together (wip/printall.sh of this repo). -/
import Derived.Test.YtegacgfhmigdjaaPPbx0
namespace Go.Proofs.Ytegacgfhmigdjaa.PPb
open Go.RowKit Go.Proofs.YtegacgfhmigdjaaW.PrintWords Go.Proofs.YtegacgfhmigdjaaW.PrintLast Go.Proofs.YtegacgfhmigdjaaW.PrintMore
attribute [local go_sem] max2_int min2_int max_two min_two max_three min_three max_four min_four   -- for this text's walks alone
set_option linter.unusedVariables false
set_option linter.unusedSimpArgs false

/-! ### pilcrowref01_Is: function 34 -/
def pilcrowref01_Is.f (a0 : Int) : Option (Bool) := if a0 ≥ 55296 then (if a0 ≤ 57343 then (some false) else (some (decide (a0 ≤ 1114111)))) else (some (decide (a0 ≤ 1114111)))
set_option maxHeartbeats 8000000 in
set_option maxRecDepth 100000 in
theorem pilcrowref01_Is.calls (a0 : Int) (r : Bool) (w : World) (h : pilcrowref01_Is.f a0 = some r) :
    Calls Try.prog 34 #[.int .u32 a0] w fun e w' => e = .returned (.bool r) ∧ Drawn0 w w' := by
  have H : (if a0 ≥ 55296 then (if a0 ≤ 57343 then (some false) else (some (decide (a0 ≤ 1114111)))) else (some (decide (a0 ≤ 1114111)))) = some r := h
  clear h
  by_cases c2 : a0 ≥ 55296
  · rw [if_pos c2] at H
    have c2b0 : decide (55296 ≤ a0) = true := decide_eq_true c2
    clear c2
    by_cases c3 : a0 ≤ 57343
    · rw [if_pos c3] at H
      have c3b0 : decide (a0 ≤ 57343) = true := decide_eq_true c3
      clear c3
      obtain rfl := Option.some.inj H
      go_enter Try.func34, Try.ntmps34
      go_wp2
      go_ret
      exact ⟨by first | rfl | (simp; done) | (simp [*]; done), by repeat (first | exact Drawn0.refl _ | apply Drawn0.step)⟩
    · rw [if_neg c3] at H
      have c3b0 : decide (a0 ≤ 57343) = false := decide_eq_false c3
      clear c3
      obtain rfl := Option.some.inj H
      go_enter Try.func34, Try.ntmps34
      go_wp2
      go_ret
      exact ⟨by first | rfl | (simp; done) | (simp [*]; done), by repeat (first | exact Drawn0.refl _ | apply Drawn0.step)⟩
  · rw [if_neg c2] at H
    have c2b0 : decide (55296 ≤ a0) = false := decide_eq_false c2
    clear c2
    obtain rfl := Option.some.inj H
    go_enter Try.func34, Try.ntmps34
    go_wp2
    go_ret
    exact ⟨by first | rfl | (simp; done) | (simp [*]; done), by repeat (first | exact Drawn0.refl _ | apply Drawn0.step)⟩

/-! ### pilcrowref01_First: function 22 -/
def pilcrowref01_First.l0 : Nat → List Int → Int → Option (Int)
  | 0, _, _ => none
  | k + 1, x0, x3 => if x3 < (x0.length : Int) then (if 0 ≤ x3 then ((pilcrowref01_Is.f (rd x0 x3)).bind fun t102 => (if t102 = true then (pilcrowref01_First.l0 k x0 (wrap64 (x3 + 1))) else (some x3))) else (none)) else (some (-1))
def pilcrowref01_First.f (k : Nat) (l0 : List Int) : Option (Int) := pilcrowref01_First.l0 k l0 0
theorem pilcrowref01_First.mono_l : ∀ k, (∀ y0 y1, LeO (pilcrowref01_First.l0 k y0 y1) (pilcrowref01_First.l0 (k + 1) y0 y1))
  | 0 => fun _ _ r h => by simp [pilcrowref01_First.l0] at h
  | k + 1 => by
    have ih0 := pilcrowref01_First.mono_l k
    · intro y0 y1
      unfold pilcrowref01_First.l0
      repeat' first
      | (with_reducible exact ih0 _ _)
      | (with_reducible exact LeO.refl _)
      | (with_reducible exact LeO.none _)
      | (with_reducible refine LeO.ite ?_ ?_)
      | (with_reducible refine LeO.bind ?_ (fun _ => ?_))
      | exact ih0 _ _
      | exact LeO.none _
      | refine LeO.ite ?_ ?_
      | refine LeO.bind ?_ (fun _ => ?_)
theorem pilcrowref01_First.mono : ∀ a0 k, LeO (pilcrowref01_First.f k a0) (pilcrowref01_First.f (k + 1) a0) := by
  intro a0 k
  have ih0 := pilcrowref01_First.mono_l k
  unfold pilcrowref01_First.f
  repeat' first
      | (with_reducible exact ih0 _ _)
      | (with_reducible exact LeO.refl _)
      | (with_reducible exact LeO.none _)
      | (with_reducible refine LeO.ite ?_ ?_)
      | (with_reducible refine LeO.bind ?_ (fun _ => ?_))
      | exact ih0 _ _
      | exact LeO.none _
      | refine LeO.ite ?_ ?_
      | refine LeO.bind ?_ (fun _ => ?_)
set_option maxHeartbeats 8000000 in
set_option maxRecDepth 100000 in
theorem pilcrowref01_First.calls (k : Nat) (A0 : Option Addr) (c0 : Nat) (l0 : List Int) (r : Int) (w : World) (hr0 : Kd.C (Kd.int .u32) w A0 l0.length l0) (hc0 : l0.length ≤ c0) (h : pilcrowref01_First.f k l0 = some r) :
    Calls Try.prog 22 #[.slice A0 l0.length c0] w fun e w' => e = .returned (.int .i64 r) ∧ Drawn0 w w' := by
  have HR0 := Aside0.mk hr0
  have HC0 := Aside0.mk hc0
  clear hr0 hc0
  have H : (pilcrowref01_First.l0 k l0 0) = some r := h
  clear h
  have H' := Aside0.mk H
  clear H
  go_enter Try.func22, Try.ntmps22
  go_wp2
  go_loopg [3] k (fun kq v3 w' => ∃ (x3_1 : Int), v3 = .int .i64 x3_1 ∧ Aside0 (pilcrowref01_First.l0 kq l0 x3_1 = some r) ∧ Aside0 (kq ≤ k) ∧ Drawn0 w w')
  case atStart => exact ⟨(0), (by first | rfl | (simp; done) | (simp [*]; done)), H', ⟨Nat.le_refl _⟩, by repeat (first | exact Drawn0.refl _ | apply Drawn0.step)⟩
  case round =>
    clear H'
    obtain ⟨x3_1, rfl, HA, HK1, ⟨m1, rfl⟩⟩ := hrel
    cases gk with
    | zero => exact absurd HA.out (by simp [pilcrowref01_First.l0])
    | succ k1 =>
      have H := HA.out
      clear HA
      simp only [pilcrowref01_First.l0] at H
      by_cases c2 : x3_1 < (l0.length : Int)
      · rw [if_pos c2] at H
        have c2b0 : decide (x3_1 < (l0.length : Int)) = true := decide_eq_true c2
        clear c2
        by_cases c3 : 0 ≤ x3_1
        · rw [if_pos c3] at H
          have c3b0 : decide (0 ≤ x3_1) = true := decide_eq_true c3
          clear c3
          replace H := Option.bind_eq_some_iff.mp H
          obtain ⟨t102, A40, H⟩ := H
          replace H : (if t102 = true then (pilcrowref01_First.l0 k1 l0 (wrap64 (x3_1 + 1))) else (some x3_1)) = some r := H
          have A4 := Aside0.mk A40
          clear A40
          by_cases c5 : t102 = true
          · subst c5
            have H1 : (pilcrowref01_First.l0 k1 l0 (wrap64 (x3_1 + 1))) = some r := by rw [if_pos rfl] at H; exact H
            clear H
            have H := H1
            clear H1
            have H' := Aside0.mk H
            clear H
            have p101 : 0 ≤ (x3_1 : Int) := of_decide_eq_true (by first | (with_reducible assumption) | assumption)
            have q101 : x3_1 < (l0.length : Int) := of_decide_eq_true (by first | (with_reducible assumption) | assumption)
            obtain ⟨ad101, e101, hx101_0⟩ := Kd.at_int HR0.out x3_1 p101 q101
            cases e101
            replace p101 := eq_true p101
            replace q101 := eq_true q101
            go_wp2_with (first | ((with_reducible refine gate_callee (f := 34) rfl ?_); refine goesL_ (some 14) rfl rfl Try.func34 (by kernel_rfl) rfl #[.int .u32 (rd l0 x3_1)] rfl (by (try simp only [List.map_toArray, List.map_cons, List.map_nil]); first | done | rfl | (simp only [List.length_drop, List.length_take]; rfl)) ?_; (with_reducible refine (pilcrowref01_Is.calls (rd l0 x3_1) true _ A4.out).mono ?_); rintro e w' ⟨rfl, ⟨nd, rfl⟩⟩; refine ⟨_, rfl, ?_⟩))
            go_roundg k1
            case measure => have := HK1.out; omega
            case rel => exact ⟨(wrap64 (x3_1 + 1)), (by first | rfl | (simp; done) | (simp [*]; done)), H', ⟨by have := HK1.out; omega⟩, by repeat (first | exact Drawn0.refl _ | apply Drawn0.step)⟩
          · replace c5 := Bool.eq_false_iff.mpr c5
            subst c5
            have H1 : (some x3_1) = some r := by rw [if_neg (show ¬ (false = true) by decide)] at H; exact H
            clear H
            have H := H1
            clear H1
            obtain rfl := Option.some.inj H
            have p101 : 0 ≤ (x3_1 : Int) := of_decide_eq_true (by first | (with_reducible assumption) | assumption)
            have q101 : x3_1 < (l0.length : Int) := of_decide_eq_true (by first | (with_reducible assumption) | assumption)
            obtain ⟨ad101, e101, hx101_0⟩ := Kd.at_int HR0.out x3_1 p101 q101
            cases e101
            replace p101 := eq_true p101
            replace q101 := eq_true q101
            go_wp2_with (first | ((with_reducible refine gate_callee (f := 34) rfl ?_); refine goesL_ (some 14) rfl rfl Try.func34 (by kernel_rfl) rfl #[.int .u32 (rd l0 x3_1)] rfl (by (try simp only [List.map_toArray, List.map_cons, List.map_nil]); first | done | rfl | (simp only [List.length_drop, List.length_take]; rfl)) ?_; (with_reducible refine (pilcrowref01_Is.calls (rd l0 x3_1) false _ A4.out).mono ?_); rintro e w' ⟨rfl, ⟨nd, rfl⟩⟩; refine ⟨_, rfl, ?_⟩))
            go_ret
            exact ⟨by first | rfl | (simp; done) | (simp [*]; done), by repeat (first | exact Drawn0.refl _ | apply Drawn0.step)⟩
        · rw [if_neg c3] at H
          exact absurd H (by simp)
      · rw [if_neg c2] at H
        have c2b0 : decide (x3_1 < (l0.length : Int)) = false := decide_eq_false c2
        clear c2
        obtain rfl := Option.some.inj H
        go_wp2
        go_ret
        exact ⟨by first | rfl | (simp; done) | (simp [*]; done), by repeat (first | exact Drawn0.refl _ | apply Drawn0.step)⟩

/-! ### pilcrowref10_ahead: function 35 -/
def pilcrowref10_ahead.f (l0 : List Int) (a1 : Int) (a2 : Int) : Option (Bool) := if 0 ≤ a1 then (if a1 < (l0.length : Int) then (if (rd l0 a1) < 128 then (if 0 ≤ a2 then (if a2 < (l0.length : Int) then (some (decide ((rd l0 a2) ≥ 128))) else (none)) else (none)) else (if 0 ≤ a2 then (if a2 < (l0.length : Int) then (if (rd l0 a2) < 128 then (some false) else (if (rd l0 a1) < (rd l0 a2) then (some true) else (if (rd l0 a1) = (rd l0 a2) then (some (decide (a1 < a2))) else (some false)))) else (none)) else (none))) else (none)) else (none)
set_option maxHeartbeats 8000000 in
set_option maxRecDepth 100000 in
theorem pilcrowref10_ahead.calls (A0 : Option Addr) (c0 : Nat) (l0 : List Int) (a1 : Int) (a2 : Int) (r : Bool) (w : World) (hr0 : Kd.C (Kd.int .u32) w A0 l0.length l0) (hc0 : l0.length ≤ c0) (h : pilcrowref10_ahead.f l0 a1 a2 = some r) :
    Calls Try.prog 35 #[.slice A0 l0.length c0, .int .i64 a1, .int .i64 a2] w fun e w' => e = .returned (.bool r) ∧ Drawn0 w w' := by
  have HR0 := Aside0.mk hr0
  have HC0 := Aside0.mk hc0
  clear hr0 hc0
  have H : (if 0 ≤ a1 then (if a1 < (l0.length : Int) then (if (rd l0 a1) < 128 then (if 0 ≤ a2 then (if a2 < (l0.length : Int) then (some (decide ((rd l0 a2) ≥ 128))) else (none)) else (none)) else (if 0 ≤ a2 then (if a2 < (l0.length : Int) then (if (rd l0 a2) < 128 then (some false) else (if (rd l0 a1) < (rd l0 a2) then (some true) else (if (rd l0 a1) = (rd l0 a2) then (some (decide (a1 < a2))) else (some false)))) else (none)) else (none))) else (none)) else (none)) = some r := h
  clear h
  by_cases c4 : 0 ≤ a1
  · rw [if_pos c4] at H
    have c4b0 : decide (0 ≤ a1) = true := decide_eq_true c4
    clear c4
    by_cases c5 : a1 < (l0.length : Int)
    · rw [if_pos c5] at H
      have c5b0 : decide (a1 < (l0.length : Int)) = true := decide_eq_true c5
      clear c5
      by_cases c6 : (rd l0 a1) < 128
      · rw [if_pos c6] at H
        have c6b0 : decide ((rd l0 a1) < 128) = true := decide_eq_true c6
        clear c6
        by_cases c7 : 0 ≤ a2
        · rw [if_pos c7] at H
          have c7b0 : decide (0 ≤ a2) = true := decide_eq_true c7
          clear c7
          by_cases c8 : a2 < (l0.length : Int)
          · rw [if_pos c8] at H
            have c8b0 : decide (a2 < (l0.length : Int)) = true := decide_eq_true c8
            clear c8
            obtain rfl := Option.some.inj H
            have p103 : 0 ≤ (a1 : Int) := of_decide_eq_true (by first | (with_reducible assumption) | assumption)
            have q103 : a1 < (l0.length : Int) := of_decide_eq_true (by first | (with_reducible assumption) | assumption)
            obtain ⟨ad103, e103, hx103_0⟩ := Kd.at_int HR0.out a1 p103 q103
            cases e103
            replace p103 := eq_true p103
            replace q103 := eq_true q103
            have p104 : 0 ≤ (a1 : Int) := of_decide_eq_true (by first | (with_reducible assumption) | assumption)
            have q104 : a1 < (l0.length : Int) := of_decide_eq_true (by first | (with_reducible assumption) | assumption)
            obtain ⟨ad104, e104, hx104_0⟩ := Kd.at_int HR0.out a1 p104 q104
            obtain rfl : ad103 = ad104 := (by injection e104)
            replace p104 := eq_true p104
            replace q104 := eq_true q104
            have p105 : 0 ≤ (a2 : Int) := of_decide_eq_true (by first | (with_reducible assumption) | assumption)
            have q105 : a2 < (l0.length : Int) := of_decide_eq_true (by first | (with_reducible assumption) | assumption)
            obtain ⟨ad105, e105, hx105_0⟩ := Kd.at_int HR0.out a2 p105 q105
            obtain rfl : ad103 = ad105 := (by injection e105)
            replace p105 := eq_true p105
            replace q105 := eq_true q105
            go_enter Try.func35, Try.ntmps35
            go_wp2
            repeat (go_quiet (fail); try go_wp2)
            go_ret
            exact ⟨by first | rfl | (simp; done) | (simp [*]; done), by repeat (first | exact Drawn0.refl _ | apply Drawn0.step)⟩
          · rw [if_neg c8] at H
            exact absurd H (by simp)
        · rw [if_neg c7] at H
          exact absurd H (by simp)
      · rw [if_neg c6] at H
        have c6b0 : decide ((rd l0 a1) < 128) = false := decide_eq_false c6
        clear c6
        by_cases c9 : 0 ≤ a2
        · rw [if_pos c9] at H
          have c9b0 : decide (0 ≤ a2) = true := decide_eq_true c9
          clear c9
          by_cases c10 : a2 < (l0.length : Int)
          · rw [if_pos c10] at H
            have c10b0 : decide (a2 < (l0.length : Int)) = true := decide_eq_true c10
            clear c10
            by_cases c11 : (rd l0 a2) < 128
            · rw [if_pos c11] at H
              have c11b0 : decide ((rd l0 a2) < 128) = true := decide_eq_true c11
              clear c11
              obtain rfl := Option.some.inj H
              have p103 : 0 ≤ (a1 : Int) := of_decide_eq_true (by first | (with_reducible assumption) | assumption)
              have q103 : a1 < (l0.length : Int) := of_decide_eq_true (by first | (with_reducible assumption) | assumption)
              obtain ⟨ad103, e103, hx103_0⟩ := Kd.at_int HR0.out a1 p103 q103
              cases e103
              replace p103 := eq_true p103
              replace q103 := eq_true q103
              have p106 : 0 ≤ (a2 : Int) := of_decide_eq_true (by first | (with_reducible assumption) | assumption)
              have q106 : a2 < (l0.length : Int) := of_decide_eq_true (by first | (with_reducible assumption) | assumption)
              obtain ⟨ad106, e106, hx106_0⟩ := Kd.at_int HR0.out a2 p106 q106
              obtain rfl : ad103 = ad106 := (by injection e106)
              replace p106 := eq_true p106
              replace q106 := eq_true q106
              have p107 : 0 ≤ (a1 : Int) := of_decide_eq_true (by first | (with_reducible assumption) | assumption)
              have q107 : a1 < (l0.length : Int) := of_decide_eq_true (by first | (with_reducible assumption) | assumption)
              obtain ⟨ad107, e107, hx107_0⟩ := Kd.at_int HR0.out a1 p107 q107
              obtain rfl : ad103 = ad107 := (by injection e107)
              replace p107 := eq_true p107
              replace q107 := eq_true q107
              go_enter Try.func35, Try.ntmps35
              go_wp2
              repeat (go_quiet (fail); try go_wp2)
              go_ret
              exact ⟨by first | rfl | (simp; done) | (simp [*]; done), by repeat (first | exact Drawn0.refl _ | apply Drawn0.step)⟩
            · rw [if_neg c11] at H
              have c11b0 : decide ((rd l0 a2) < 128) = false := decide_eq_false c11
              clear c11
              by_cases c12 : (rd l0 a1) < (rd l0 a2)
              · rw [if_pos c12] at H
                have c12b0 : decide ((rd l0 a1) < (rd l0 a2)) = true := decide_eq_true c12
                clear c12
                obtain rfl := Option.some.inj H
                have p103 : 0 ≤ (a1 : Int) := of_decide_eq_true (by first | (with_reducible assumption) | assumption)
                have q103 : a1 < (l0.length : Int) := of_decide_eq_true (by first | (with_reducible assumption) | assumption)
                obtain ⟨ad103, e103, hx103_0⟩ := Kd.at_int HR0.out a1 p103 q103
                cases e103
                replace p103 := eq_true p103
                replace q103 := eq_true q103
                have p106 : 0 ≤ (a2 : Int) := of_decide_eq_true (by first | (with_reducible assumption) | assumption)
                have q106 : a2 < (l0.length : Int) := of_decide_eq_true (by first | (with_reducible assumption) | assumption)
                obtain ⟨ad106, e106, hx106_0⟩ := Kd.at_int HR0.out a2 p106 q106
                obtain rfl : ad103 = ad106 := (by injection e106)
                replace p106 := eq_true p106
                replace q106 := eq_true q106
                have p108 : 0 ≤ (a1 : Int) := of_decide_eq_true (by first | (with_reducible assumption) | assumption)
                have q108 : a1 < (l0.length : Int) := of_decide_eq_true (by first | (with_reducible assumption) | assumption)
                obtain ⟨ad108, e108, hx108_0⟩ := Kd.at_int HR0.out a1 p108 q108
                obtain rfl : ad103 = ad108 := (by injection e108)
                replace p108 := eq_true p108
                replace q108 := eq_true q108
                have p109 : 0 ≤ (a2 : Int) := of_decide_eq_true (by first | (with_reducible assumption) | assumption)
                have q109 : a2 < (l0.length : Int) := of_decide_eq_true (by first | (with_reducible assumption) | assumption)
                obtain ⟨ad109, e109, hx109_0⟩ := Kd.at_int HR0.out a2 p109 q109
                obtain rfl : ad103 = ad109 := (by injection e109)
                replace p109 := eq_true p109
                replace q109 := eq_true q109
                go_enter Try.func35, Try.ntmps35
                go_wp2
                repeat (go_quiet (fail); try go_wp2)
                go_ret
                exact ⟨by first | rfl | (simp; done) | (simp [*]; done), by repeat (first | exact Drawn0.refl _ | apply Drawn0.step)⟩
              · rw [if_neg c12] at H
                have c12b0 : decide ((rd l0 a1) < (rd l0 a2)) = false := decide_eq_false c12
                clear c12
                by_cases c13 : (rd l0 a1) = (rd l0 a2)
                · rw [if_pos c13] at H
                  have c13b0 : ((rd l0 a1) == (rd l0 a2)) = true := beq_iff_eq.mpr c13
                  have c13b1 : ((rd l0 a1) != (rd l0 a2)) = false := bne_eq_false_iff_eq.mpr c13
                  clear c13
                  obtain rfl := Option.some.inj H
                  have p103 : 0 ≤ (a1 : Int) := of_decide_eq_true (by first | (with_reducible assumption) | assumption)
                  have q103 : a1 < (l0.length : Int) := of_decide_eq_true (by first | (with_reducible assumption) | assumption)
                  obtain ⟨ad103, e103, hx103_0⟩ := Kd.at_int HR0.out a1 p103 q103
                  cases e103
                  replace p103 := eq_true p103
                  replace q103 := eq_true q103
                  have p106 : 0 ≤ (a2 : Int) := of_decide_eq_true (by first | (with_reducible assumption) | assumption)
                  have q106 : a2 < (l0.length : Int) := of_decide_eq_true (by first | (with_reducible assumption) | assumption)
                  obtain ⟨ad106, e106, hx106_0⟩ := Kd.at_int HR0.out a2 p106 q106
                  obtain rfl : ad103 = ad106 := (by injection e106)
                  replace p106 := eq_true p106
                  replace q106 := eq_true q106
                  have p108 : 0 ≤ (a1 : Int) := of_decide_eq_true (by first | (with_reducible assumption) | assumption)
                  have q108 : a1 < (l0.length : Int) := of_decide_eq_true (by first | (with_reducible assumption) | assumption)
                  obtain ⟨ad108, e108, hx108_0⟩ := Kd.at_int HR0.out a1 p108 q108
                  obtain rfl : ad103 = ad108 := (by injection e108)
                  replace p108 := eq_true p108
                  replace q108 := eq_true q108
                  have p109 : 0 ≤ (a2 : Int) := of_decide_eq_true (by first | (with_reducible assumption) | assumption)
                  have q109 : a2 < (l0.length : Int) := of_decide_eq_true (by first | (with_reducible assumption) | assumption)
                  obtain ⟨ad109, e109, hx109_0⟩ := Kd.at_int HR0.out a2 p109 q109
                  obtain rfl : ad103 = ad109 := (by injection e109)
                  replace p109 := eq_true p109
                  replace q109 := eq_true q109
                  have p110 : 0 ≤ (a1 : Int) := of_decide_eq_true (by first | (with_reducible assumption) | assumption)
                  have q110 : a1 < (l0.length : Int) := of_decide_eq_true (by first | (with_reducible assumption) | assumption)
                  obtain ⟨ad110, e110, hx110_0⟩ := Kd.at_int HR0.out a1 p110 q110
                  obtain rfl : ad103 = ad110 := (by injection e110)
                  replace p110 := eq_true p110
                  replace q110 := eq_true q110
                  have p111 : 0 ≤ (a2 : Int) := of_decide_eq_true (by first | (with_reducible assumption) | assumption)
                  have q111 : a2 < (l0.length : Int) := of_decide_eq_true (by first | (with_reducible assumption) | assumption)
                  obtain ⟨ad111, e111, hx111_0⟩ := Kd.at_int HR0.out a2 p111 q111
                  obtain rfl : ad103 = ad111 := (by injection e111)
                  replace p111 := eq_true p111
                  replace q111 := eq_true q111
                  go_enter Try.func35, Try.ntmps35
                  go_wp2
                  repeat (go_quiet (fail); try go_wp2)
                  go_ret
                  exact ⟨by first | rfl | (simp; done) | (simp [*]; done), by repeat (first | exact Drawn0.refl _ | apply Drawn0.step)⟩
                · rw [if_neg c13] at H
                  have c13b0 : ((rd l0 a1) == (rd l0 a2)) = false := beq_eq_false_iff_ne.mpr c13
                  have c13b1 : ((rd l0 a1) != (rd l0 a2)) = true := bne_iff_ne.mpr c13
                  obtain rfl := Option.some.inj H
                  have p103 : 0 ≤ (a1 : Int) := of_decide_eq_true (by first | (with_reducible assumption) | assumption)
                  have q103 : a1 < (l0.length : Int) := of_decide_eq_true (by first | (with_reducible assumption) | assumption)
                  obtain ⟨ad103, e103, hx103_0⟩ := Kd.at_int HR0.out a1 p103 q103
                  cases e103
                  replace p103 := eq_true p103
                  replace q103 := eq_true q103
                  have p106 : 0 ≤ (a2 : Int) := of_decide_eq_true (by first | (with_reducible assumption) | assumption)
                  have q106 : a2 < (l0.length : Int) := of_decide_eq_true (by first | (with_reducible assumption) | assumption)
                  obtain ⟨ad106, e106, hx106_0⟩ := Kd.at_int HR0.out a2 p106 q106
                  obtain rfl : ad103 = ad106 := (by injection e106)
                  replace p106 := eq_true p106
                  replace q106 := eq_true q106
                  have p108 : 0 ≤ (a1 : Int) := of_decide_eq_true (by first | (with_reducible assumption) | assumption)
                  have q108 : a1 < (l0.length : Int) := of_decide_eq_true (by first | (with_reducible assumption) | assumption)
                  obtain ⟨ad108, e108, hx108_0⟩ := Kd.at_int HR0.out a1 p108 q108
                  obtain rfl : ad103 = ad108 := (by injection e108)
                  replace p108 := eq_true p108
                  replace q108 := eq_true q108
                  have p109 : 0 ≤ (a2 : Int) := of_decide_eq_true (by first | (with_reducible assumption) | assumption)
                  have q109 : a2 < (l0.length : Int) := of_decide_eq_true (by first | (with_reducible assumption) | assumption)
                  obtain ⟨ad109, e109, hx109_0⟩ := Kd.at_int HR0.out a2 p109 q109
                  obtain rfl : ad103 = ad109 := (by injection e109)
                  replace p109 := eq_true p109
                  replace q109 := eq_true q109
                  have p110 : 0 ≤ (a1 : Int) := of_decide_eq_true (by first | (with_reducible assumption) | assumption)
                  have q110 : a1 < (l0.length : Int) := of_decide_eq_true (by first | (with_reducible assumption) | assumption)
                  obtain ⟨ad110, e110, hx110_0⟩ := Kd.at_int HR0.out a1 p110 q110
                  obtain rfl : ad103 = ad110 := (by injection e110)
                  replace p110 := eq_true p110
                  replace q110 := eq_true q110
                  have p111 : 0 ≤ (a2 : Int) := of_decide_eq_true (by first | (with_reducible assumption) | assumption)
                  have q111 : a2 < (l0.length : Int) := of_decide_eq_true (by first | (with_reducible assumption) | assumption)
                  obtain ⟨ad111, e111, hx111_0⟩ := Kd.at_int HR0.out a2 p111 q111
                  obtain rfl : ad103 = ad111 := (by injection e111)
                  replace p111 := eq_true p111
                  replace q111 := eq_true q111
                  go_enter Try.func35, Try.ntmps35
                  go_wp2
                  repeat (go_quiet (fail); try go_wp2)
                  go_ret
                  exact ⟨by first | rfl | (simp; done) | (simp [*]; done), by repeat (first | exact Drawn0.refl _ | apply Drawn0.step)⟩
          · rw [if_neg c10] at H
            exact absurd H (by simp)
        · rw [if_neg c9] at H
          exact absurd H (by simp)
    · rw [if_neg c5] at H
      exact absurd H (by simp)
  · rw [if_neg c4] at H
    exact absurd H (by simp)

/-! ### pilcrowref09_bound: function 65 -/
def pilcrowref09_bound.f (a0 : Int) : Option (Int) := if a0 < 0 then (some 0) else (if a0 > 1000 then (some 1000) else (some a0))
set_option maxHeartbeats 8000000 in
set_option maxRecDepth 100000 in
theorem pilcrowref09_bound.calls (a0 : Int) (r : Int) (w : World) (h : pilcrowref09_bound.f a0 = some r) :
    Calls Try.prog 65 #[.int .i64 a0] w fun e w' => e = .returned (.int .i64 r) ∧ Drawn0 w w' := by
  have H : (if a0 < 0 then (some 0) else (if a0 > 1000 then (some 1000) else (some a0))) = some r := h
  clear h
  by_cases c2 : a0 < 0
  · rw [if_pos c2] at H
    have c2b0 : decide (a0 < 0) = true := decide_eq_true c2
    clear c2
    obtain rfl := Option.some.inj H
    go_enter Try.func65, Try.ntmps65
    go_wp2
    go_ret
    exact ⟨by first | rfl | (simp; done) | (simp [*]; done), by repeat (first | exact Drawn0.refl _ | apply Drawn0.step)⟩
  · rw [if_neg c2] at H
    have c2b0 : decide (a0 < 0) = false := decide_eq_false c2
    clear c2
    by_cases c3 : a0 > 1000
    · rw [if_pos c3] at H
      have c3b0 : decide (1000 < a0) = true := decide_eq_true c3
      clear c3
      obtain rfl := Option.some.inj H
      go_enter Try.func65, Try.ntmps65
      go_wp2
      go_ret
      exact ⟨by first | rfl | (simp; done) | (simp [*]; done), by repeat (first | exact Drawn0.refl _ | apply Drawn0.step)⟩
    · rw [if_neg c3] at H
      have c3b0 : decide (1000 < a0) = false := decide_eq_false c3
      clear c3
      obtain rfl := Option.some.inj H
      go_enter Try.func65, Try.ntmps65
      go_wp2
      go_ret
      exact ⟨by first | rfl | (simp; done) | (simp [*]; done), by repeat (first | exact Drawn0.refl _ | apply Drawn0.step)⟩

/-! ### pilcrowref09_Threshold: function 51 -/
def pilcrowref09_Threshold.f (a0 : Int) (a1 : Int) : Option (Int) := (pilcrowref09_bound.f a0).bind fun t112 => ((pilcrowref09_bound.f a1).bind fun t113 => (if (wrap64 ((wrap64 (36 * (wrap64 (t112 + 1)))) - t113)) < 1 then (some 1) else (if (wrap64 ((wrap64 (36 * (wrap64 (t112 + 1)))) - t113)) > 26 then (some 26) else (some (wrap64 ((wrap64 (36 * (wrap64 (t112 + 1)))) - t113))))))
set_option maxHeartbeats 8000000 in
set_option maxRecDepth 100000 in
theorem pilcrowref09_Threshold.calls (a0 : Int) (a1 : Int) (r : Int) (w : World) (h : pilcrowref09_Threshold.f a0 a1 = some r) :
    Calls Try.prog 51 #[.int .i64 a0, .int .i64 a1] w fun e w' => e = .returned (.int .i64 r) ∧ Drawn0 w w' := by
  have H : ((pilcrowref09_bound.f a0).bind fun t112 => ((pilcrowref09_bound.f a1).bind fun t113 => (if (wrap64 ((wrap64 (36 * (wrap64 (t112 + 1)))) - t113)) < 1 then (some 1) else (if (wrap64 ((wrap64 (36 * (wrap64 (t112 + 1)))) - t113)) > 26 then (some 26) else (some (wrap64 ((wrap64 (36 * (wrap64 (t112 + 1)))) - t113))))))) = some r := h
  clear h
  replace H := Option.bind_eq_some_iff.mp H
  obtain ⟨t112, A30, H⟩ := H
  replace H : ((pilcrowref09_bound.f a1).bind fun t113 => (if (wrap64 ((wrap64 (36 * (wrap64 (t112 + 1)))) - t113)) < 1 then (some 1) else (if (wrap64 ((wrap64 (36 * (wrap64 (t112 + 1)))) - t113)) > 26 then (some 26) else (some (wrap64 ((wrap64 (36 * (wrap64 (t112 + 1)))) - t113)))))) = some r := H
  have A3 := Aside0.mk A30
  clear A30
  replace H := Option.bind_eq_some_iff.mp H
  obtain ⟨t113, A40, H⟩ := H
  replace H : (if (wrap64 ((wrap64 (36 * (wrap64 (t112 + 1)))) - t113)) < 1 then (some 1) else (if (wrap64 ((wrap64 (36 * (wrap64 (t112 + 1)))) - t113)) > 26 then (some 26) else (some (wrap64 ((wrap64 (36 * (wrap64 (t112 + 1)))) - t113))))) = some r := H
  have A4 := Aside0.mk A40
  clear A40
  by_cases c5 : (wrap64 ((wrap64 (36 * (wrap64 (t112 + 1)))) - t113)) < 1
  · rw [if_pos c5] at H
    have c5b0 : decide ((wrap64 ((wrap64 (36 * (wrap64 (t112 + 1)))) - t113)) < 1) = true := decide_eq_true c5
    clear c5
    obtain rfl := Option.some.inj H
    go_enter Try.func51, Try.ntmps51
    go_wp2_with (first | ((with_reducible refine gate_callee (f := 65) rfl ?_); refine goesL_ (some 7) rfl rfl Try.func65 (by kernel_rfl) rfl #[.int .i64 a0] rfl (by (try simp only [List.map_toArray, List.map_cons, List.map_nil]); first | done | rfl | (simp only [List.length_drop, List.length_take]; rfl)) ?_; (with_reducible refine (pilcrowref09_bound.calls a0 t112 _ A3.out).mono ?_); rintro e w' ⟨rfl, ⟨nd, rfl⟩⟩; refine ⟨_, rfl, ?_⟩) | ((with_reducible refine gate_callee (f := 65) rfl ?_); refine goesL_ (some 11) rfl rfl Try.func65 (by kernel_rfl) rfl #[.int .i64 a1] rfl (by (try simp only [List.map_toArray, List.map_cons, List.map_nil]); first | done | rfl | (simp only [List.length_drop, List.length_take]; rfl)) ?_; (with_reducible refine (pilcrowref09_bound.calls a1 t113 _ A4.out).mono ?_); rintro e w' ⟨rfl, ⟨nd, rfl⟩⟩; refine ⟨_, rfl, ?_⟩))
    go_ret
    exact ⟨by first | rfl | (simp; done) | (simp [*]; done), by repeat (first | exact Drawn0.refl _ | apply Drawn0.step)⟩
  · rw [if_neg c5] at H
    have c5b0 : decide ((wrap64 ((wrap64 (36 * (wrap64 (t112 + 1)))) - t113)) < 1) = false := decide_eq_false c5
    clear c5
    by_cases c6 : (wrap64 ((wrap64 (36 * (wrap64 (t112 + 1)))) - t113)) > 26
    · rw [if_pos c6] at H
      have c6b0 : decide (26 < (wrap64 ((wrap64 (36 * (wrap64 (t112 + 1)))) - t113))) = true := decide_eq_true c6
      clear c6
      obtain rfl := Option.some.inj H
      go_enter Try.func51, Try.ntmps51
      go_wp2_with (first | ((with_reducible refine gate_callee (f := 65) rfl ?_); refine goesL_ (some 7) rfl rfl Try.func65 (by kernel_rfl) rfl #[.int .i64 a0] rfl (by (try simp only [List.map_toArray, List.map_cons, List.map_nil]); first | done | rfl | (simp only [List.length_drop, List.length_take]; rfl)) ?_; (with_reducible refine (pilcrowref09_bound.calls a0 t112 _ A3.out).mono ?_); rintro e w' ⟨rfl, ⟨nd, rfl⟩⟩; refine ⟨_, rfl, ?_⟩) | ((with_reducible refine gate_callee (f := 65) rfl ?_); refine goesL_ (some 11) rfl rfl Try.func65 (by kernel_rfl) rfl #[.int .i64 a1] rfl (by (try simp only [List.map_toArray, List.map_cons, List.map_nil]); first | done | rfl | (simp only [List.length_drop, List.length_take]; rfl)) ?_; (with_reducible refine (pilcrowref09_bound.calls a1 t113 _ A4.out).mono ?_); rintro e w' ⟨rfl, ⟨nd, rfl⟩⟩; refine ⟨_, rfl, ?_⟩))
      go_ret
      exact ⟨by first | rfl | (simp; done) | (simp [*]; done), by repeat (first | exact Drawn0.refl _ | apply Drawn0.step)⟩
    · rw [if_neg c6] at H
      have c6b0 : decide (26 < (wrap64 ((wrap64 (36 * (wrap64 (t112 + 1)))) - t113))) = false := decide_eq_false c6
      clear c6
      obtain rfl := Option.some.inj H
      go_enter Try.func51, Try.ntmps51
      go_wp2_with (first | ((with_reducible refine gate_callee (f := 65) rfl ?_); refine goesL_ (some 7) rfl rfl Try.func65 (by kernel_rfl) rfl #[.int .i64 a0] rfl (by (try simp only [List.map_toArray, List.map_cons, List.map_nil]); first | done | rfl | (simp only [List.length_drop, List.length_take]; rfl)) ?_; (with_reducible refine (pilcrowref09_bound.calls a0 t112 _ A3.out).mono ?_); rintro e w' ⟨rfl, ⟨nd, rfl⟩⟩; refine ⟨_, rfl, ?_⟩) | ((with_reducible refine gate_callee (f := 65) rfl ?_); refine goesL_ (some 11) rfl rfl Try.func65 (by kernel_rfl) rfl #[.int .i64 a1] rfl (by (try simp only [List.map_toArray, List.map_cons, List.map_nil]); first | done | rfl | (simp only [List.length_drop, List.length_take]; rfl)) ?_; (with_reducible refine (pilcrowref09_bound.calls a1 t113 _ A4.out).mono ?_); rintro e w' ⟨rfl, ⟨nd, rfl⟩⟩; refine ⟨_, rfl, ?_⟩))
      go_ret
      exact ⟨by first | rfl | (simp; done) | (simp [*]; done), by repeat (first | exact Drawn0.refl _ | apply Drawn0.step)⟩

/-! ### pilcrowref09_Digits: function 52 -/
def pilcrowref09_Digits.f  : Option (ByteArray) := some (⟨#[97, 98, 99, 100, 101, 102, 103, 104, 105, 106, 107, 108, 109, 110, 111, 112, 113, 114, 115, 116, 117, 118, 119, 120, 121, 122, 48, 49, 50, 51, 52, 53, 54, 55, 56, 57]⟩ : ByteArray)
set_option maxHeartbeats 8000000 in
set_option maxRecDepth 100000 in
theorem pilcrowref09_Digits.calls  (r : ByteArray) (w : World) (h : pilcrowref09_Digits.f  = some r) :
    Calls Try.prog 52 #[] w fun e w' => e = .returned (.string r) ∧ Drawn0 w w' := by
  have H : (some (⟨#[97, 98, 99, 100, 101, 102, 103, 104, 105, 106, 107, 108, 109, 110, 111, 112, 113, 114, 115, 116, 117, 118, 119, 120, 121, 122, 48, 49, 50, 51, 52, 53, 54, 55, 56, 57]⟩ : ByteArray)) = some r := h
  clear h
  obtain rfl := Option.some.inj H
  go_enter Try.func52, Try.ntmps52
  go_wp2
  go_ret
  exact ⟨by first | rfl | (simp; done) | (simp [*]; done), by repeat (first | exact Drawn0.refl _ | apply Drawn0.step)⟩

/-! ### pilcrowref09_Put: function 36 -/
def pilcrowref09_Put.l0 : Nat → Int → Int → ByteArray → Int → Option (ByteArray)
  | 0, _, _, _, _ => none
  | k + 1, x0, x1, x5, x6 => if x6 < 200 then ((pilcrowref09_Threshold.f x6 x1).bind fun t114 => (if x0 < (IntKind.u64.wrap (t114)) then ((pilcrowref09_Digits.f).bind fun t115 => (if 0 ≤ x0 then (if x0 ≤ (IntKind.u64.wrap (x0 + 1)) then (if (IntKind.u64.wrap (x0 + 1)) ≤ (t115.size : Int) then (if x5.size + (t115.extract (x0 : Int).toNat ((IntKind.u64.wrap (x0 + 1)) : Int).toNat).size ≤ 9223372036854775807 then (some (x5 ++ (t115.extract (x0 : Int).toNat ((IntKind.u64.wrap (x0 + 1)) : Int).toNat))) else (none)) else (none)) else (none)) else (none))) else (if (IntKind.u64.wrap (36 - (IntKind.u64.wrap (t114)))) = 0 then (none) else ((pilcrowref09_Digits.f).bind fun t116 => (if 0 ≤ (IntKind.u64.wrap ((IntKind.u64.wrap (t114)) + (Int.tmod (IntKind.u64.wrap (x0 - (IntKind.u64.wrap (t114)))) (IntKind.u64.wrap (36 - (IntKind.u64.wrap (t114))))))) then (if (IntKind.u64.wrap ((IntKind.u64.wrap (t114)) + (Int.tmod (IntKind.u64.wrap (x0 - (IntKind.u64.wrap (t114)))) (IntKind.u64.wrap (36 - (IntKind.u64.wrap (t114))))))) ≤ (IntKind.u64.wrap ((IntKind.u64.wrap ((IntKind.u64.wrap (t114)) + (Int.tmod (IntKind.u64.wrap (x0 - (IntKind.u64.wrap (t114)))) (IntKind.u64.wrap (36 - (IntKind.u64.wrap (t114))))))) + 1)) then (if (IntKind.u64.wrap ((IntKind.u64.wrap ((IntKind.u64.wrap (t114)) + (Int.tmod (IntKind.u64.wrap (x0 - (IntKind.u64.wrap (t114)))) (IntKind.u64.wrap (36 - (IntKind.u64.wrap (t114))))))) + 1)) ≤ (t116.size : Int) then (if x5.size + (t116.extract ((IntKind.u64.wrap ((IntKind.u64.wrap (t114)) + (Int.tmod (IntKind.u64.wrap (x0 - (IntKind.u64.wrap (t114)))) (IntKind.u64.wrap (36 - (IntKind.u64.wrap (t114))))))) : Int).toNat ((IntKind.u64.wrap ((IntKind.u64.wrap ((IntKind.u64.wrap (t114)) + (Int.tmod (IntKind.u64.wrap (x0 - (IntKind.u64.wrap (t114)))) (IntKind.u64.wrap (36 - (IntKind.u64.wrap (t114))))))) + 1)) : Int).toNat).size ≤ 9223372036854775807 then (pilcrowref09_Put.l0 k (IntKind.u64.wrap (Int.tdiv (IntKind.u64.wrap (x0 - (IntKind.u64.wrap (t114)))) (IntKind.u64.wrap (36 - (IntKind.u64.wrap (t114)))))) x1 (x5 ++ (t116.extract ((IntKind.u64.wrap ((IntKind.u64.wrap (t114)) + (Int.tmod (IntKind.u64.wrap (x0 - (IntKind.u64.wrap (t114)))) (IntKind.u64.wrap (36 - (IntKind.u64.wrap (t114))))))) : Int).toNat ((IntKind.u64.wrap ((IntKind.u64.wrap ((IntKind.u64.wrap (t114)) + (Int.tmod (IntKind.u64.wrap (x0 - (IntKind.u64.wrap (t114)))) (IntKind.u64.wrap (36 - (IntKind.u64.wrap (t114))))))) + 1)) : Int).toNat)) (wrap64 (x6 + 1))) else (none)) else (none)) else (none)) else (none)))))) else (some x5)
def pilcrowref09_Put.f (k : Nat) (a0 : Int) (a1 : Int) : Option (ByteArray) := pilcrowref09_Put.l0 k a0 a1 (⟨#[]⟩ : ByteArray) 0
theorem pilcrowref09_Put.mono_l : ∀ k, (∀ y0 y1 y2 y3, LeO (pilcrowref09_Put.l0 k y0 y1 y2 y3) (pilcrowref09_Put.l0 (k + 1) y0 y1 y2 y3))
  | 0 => fun _ _ _ _ r h => by simp [pilcrowref09_Put.l0] at h
  | k + 1 => by
    have ih0 := pilcrowref09_Put.mono_l k
    · intro y0 y1 y2 y3
      unfold pilcrowref09_Put.l0
      repeat' first
      | (with_reducible exact ih0 _ _ _ _)
      | (with_reducible exact LeO.refl _)
      | (with_reducible exact LeO.none _)
      | (with_reducible refine LeO.ite ?_ ?_)
      | (with_reducible refine LeO.bind ?_ (fun _ => ?_))
      | exact ih0 _ _ _ _
      | exact LeO.none _
      | refine LeO.ite ?_ ?_
      | refine LeO.bind ?_ (fun _ => ?_)
theorem pilcrowref09_Put.mono : ∀ a0 a1 k, LeO (pilcrowref09_Put.f k a0 a1) (pilcrowref09_Put.f (k + 1) a0 a1) := by
  intro a0 a1 k
  have ih0 := pilcrowref09_Put.mono_l k
  unfold pilcrowref09_Put.f
  repeat' first
      | (with_reducible exact ih0 _ _ _ _)
      | (with_reducible exact LeO.refl _)
      | (with_reducible exact LeO.none _)
      | (with_reducible refine LeO.ite ?_ ?_)
      | (with_reducible refine LeO.bind ?_ (fun _ => ?_))
      | exact ih0 _ _ _ _
      | exact LeO.none _
      | refine LeO.ite ?_ ?_
      | refine LeO.bind ?_ (fun _ => ?_)
set_option maxHeartbeats 8000000 in
set_option maxRecDepth 100000 in
theorem pilcrowref09_Put.calls (k : Nat) (a0 : Int) (a1 : Int) (r : ByteArray) (w : World) (h : pilcrowref09_Put.f k a0 a1 = some r) :
    Calls Try.prog 36 #[.int .u64 a0, .int .i64 a1] w fun e w' => e = .returned (.string r) ∧ Drawn0 w w' := by
  have H : (pilcrowref09_Put.l0 k a0 a1 (⟨#[]⟩ : ByteArray) 0) = some r := h
  clear h
  have H' := Aside0.mk H
  clear H
  go_enter Try.func36, Try.ntmps36
  go_wp2
  go_loopg [0, 5, 6] k (fun kq v0 v5 v6 w' => ∃ (x0_1 : Int) (x5_1 : ByteArray) (x6_1 : Int), v0 = .int .u64 x0_1 ∧ v5 = .string x5_1 ∧ v6 = .int .i64 x6_1 ∧ Aside0 (pilcrowref09_Put.l0 kq x0_1 a1 x5_1 x6_1 = some r) ∧ Aside0 (kq ≤ k) ∧ Drawn0 w w')
  case atStart => exact ⟨(a0), ((⟨#[]⟩ : ByteArray)), (0), (by first | rfl | (simp; done) | (simp [*]; done)), (by first | rfl | (simp; done) | (simp [*]; done)), (by first | rfl | (simp; done) | (simp [*]; done)), H', ⟨Nat.le_refl _⟩, by repeat (first | exact Drawn0.refl _ | apply Drawn0.step)⟩
  case round =>
    clear H'
    try clear p2
    obtain ⟨x0_1, x5_1, x6_1, rfl, rfl, rfl, HA, HK1, ⟨m1, rfl⟩⟩ := hrel
    cases gk with
    | zero => exact absurd HA.out (by simp [pilcrowref09_Put.l0])
    | succ k1 =>
      have H := HA.out
      clear HA
      simp only [pilcrowref09_Put.l0] at H
      by_cases c3 : x6_1 < 200
      · rw [if_pos c3] at H
        have c3b0 : decide (x6_1 < 200) = true := decide_eq_true c3
        clear c3
        replace H := Option.bind_eq_some_iff.mp H
        obtain ⟨t114, A40, H⟩ := H
        replace H : (if x0_1 < (IntKind.u64.wrap (t114)) then ((pilcrowref09_Digits.f).bind fun t115 => (if 0 ≤ x0_1 then (if x0_1 ≤ (IntKind.u64.wrap (x0_1 + 1)) then (if (IntKind.u64.wrap (x0_1 + 1)) ≤ (t115.size : Int) then (if x5_1.size + (t115.extract (x0_1 : Int).toNat ((IntKind.u64.wrap (x0_1 + 1)) : Int).toNat).size ≤ 9223372036854775807 then (some (x5_1 ++ (t115.extract (x0_1 : Int).toNat ((IntKind.u64.wrap (x0_1 + 1)) : Int).toNat))) else (none)) else (none)) else (none)) else (none))) else (if (IntKind.u64.wrap (36 - (IntKind.u64.wrap (t114)))) = 0 then (none) else ((pilcrowref09_Digits.f).bind fun t116 => (if 0 ≤ (IntKind.u64.wrap ((IntKind.u64.wrap (t114)) + (Int.tmod (IntKind.u64.wrap (x0_1 - (IntKind.u64.wrap (t114)))) (IntKind.u64.wrap (36 - (IntKind.u64.wrap (t114))))))) then (if (IntKind.u64.wrap ((IntKind.u64.wrap (t114)) + (Int.tmod (IntKind.u64.wrap (x0_1 - (IntKind.u64.wrap (t114)))) (IntKind.u64.wrap (36 - (IntKind.u64.wrap (t114))))))) ≤ (IntKind.u64.wrap ((IntKind.u64.wrap ((IntKind.u64.wrap (t114)) + (Int.tmod (IntKind.u64.wrap (x0_1 - (IntKind.u64.wrap (t114)))) (IntKind.u64.wrap (36 - (IntKind.u64.wrap (t114))))))) + 1)) then (if (IntKind.u64.wrap ((IntKind.u64.wrap ((IntKind.u64.wrap (t114)) + (Int.tmod (IntKind.u64.wrap (x0_1 - (IntKind.u64.wrap (t114)))) (IntKind.u64.wrap (36 - (IntKind.u64.wrap (t114))))))) + 1)) ≤ (t116.size : Int) then (if x5_1.size + (t116.extract ((IntKind.u64.wrap ((IntKind.u64.wrap (t114)) + (Int.tmod (IntKind.u64.wrap (x0_1 - (IntKind.u64.wrap (t114)))) (IntKind.u64.wrap (36 - (IntKind.u64.wrap (t114))))))) : Int).toNat ((IntKind.u64.wrap ((IntKind.u64.wrap ((IntKind.u64.wrap (t114)) + (Int.tmod (IntKind.u64.wrap (x0_1 - (IntKind.u64.wrap (t114)))) (IntKind.u64.wrap (36 - (IntKind.u64.wrap (t114))))))) + 1)) : Int).toNat).size ≤ 9223372036854775807 then (pilcrowref09_Put.l0 k1 (IntKind.u64.wrap (Int.tdiv (IntKind.u64.wrap (x0_1 - (IntKind.u64.wrap (t114)))) (IntKind.u64.wrap (36 - (IntKind.u64.wrap (t114)))))) a1 (x5_1 ++ (t116.extract ((IntKind.u64.wrap ((IntKind.u64.wrap (t114)) + (Int.tmod (IntKind.u64.wrap (x0_1 - (IntKind.u64.wrap (t114)))) (IntKind.u64.wrap (36 - (IntKind.u64.wrap (t114))))))) : Int).toNat ((IntKind.u64.wrap ((IntKind.u64.wrap ((IntKind.u64.wrap (t114)) + (Int.tmod (IntKind.u64.wrap (x0_1 - (IntKind.u64.wrap (t114)))) (IntKind.u64.wrap (36 - (IntKind.u64.wrap (t114))))))) + 1)) : Int).toNat)) (wrap64 (x6_1 + 1))) else (none)) else (none)) else (none)) else (none))))) = some r := H
        have A4 := Aside0.mk A40
        clear A40
        by_cases c5 : x0_1 < (IntKind.u64.wrap (t114))
        · rw [if_pos c5] at H
          have c5b0 : decide (x0_1 < (IntKind.u64.wrap (t114))) = true := decide_eq_true c5
          clear c5
          replace H := Option.bind_eq_some_iff.mp H
          obtain ⟨t115, A60, H⟩ := H
          replace H : (if 0 ≤ x0_1 then (if x0_1 ≤ (IntKind.u64.wrap (x0_1 + 1)) then (if (IntKind.u64.wrap (x0_1 + 1)) ≤ (t115.size : Int) then (if x5_1.size + (t115.extract (x0_1 : Int).toNat ((IntKind.u64.wrap (x0_1 + 1)) : Int).toNat).size ≤ 9223372036854775807 then (some (x5_1 ++ (t115.extract (x0_1 : Int).toNat ((IntKind.u64.wrap (x0_1 + 1)) : Int).toNat))) else (none)) else (none)) else (none)) else (none)) = some r := H
          have A6 := Aside0.mk A60
          clear A60
          by_cases c7 : 0 ≤ x0_1
          · rw [if_pos c7] at H
            have c7b0 := eq_true c7
            have c7b1 : decide (0 ≤ x0_1) = true := decide_eq_true c7
            clear c7
            by_cases c8 : x0_1 ≤ (IntKind.u64.wrap (x0_1 + 1))
            · rw [if_pos c8] at H
              have c8b0 := eq_true c8
              have c8b1 : decide (x0_1 ≤ (IntKind.u64.wrap (x0_1 + 1))) = true := decide_eq_true c8
              by_cases c9 : (IntKind.u64.wrap (x0_1 + 1)) ≤ (t115.size : Int)
              · rw [if_pos c9] at H
                have c9b0 := eq_true c9
                have c9b1 : decide ((IntKind.u64.wrap (x0_1 + 1)) ≤ (t115.size : Int)) = true := decide_eq_true c9
                by_cases c10 : x5_1.size + (t115.extract (x0_1 : Int).toNat ((IntKind.u64.wrap (x0_1 + 1)) : Int).toNat).size ≤ 9223372036854775807
                · rw [if_pos c10] at H
                  have c10b0 := eq_true c10
                  have c10b1 : decide (x5_1.size + (t115.extract (x0_1 : Int).toNat ((IntKind.u64.wrap (x0_1 + 1)) : Int).toNat).size ≤ 9223372036854775807) = true := decide_eq_true c10
                  try have c10b2 : (9223372036854775807 < x5_1.size + (t115.extract (x0_1 : Int).toNat ((IntKind.u64.wrap (x0_1 + 1)) : Int).toNat).size) = False := eq_false (Nat.not_lt.2 c10)
                  obtain rfl := Option.some.inj H
                  go_wp2_with (first | ((with_reducible refine gate_callee (f := 51) rfl ?_); refine goesL_ (some 15) rfl rfl Try.func51 (by kernel_rfl) rfl #[.int .i64 x6_1, .int .i64 a1] rfl (by (try simp only [List.map_toArray, List.map_cons, List.map_nil]); first | done | rfl | (simp only [List.length_drop, List.length_take]; rfl)) ?_; (with_reducible refine (pilcrowref09_Threshold.calls x6_1 a1 t114 _ A4.out).mono ?_); rintro e w' ⟨rfl, ⟨nd, rfl⟩⟩; refine ⟨_, rfl, ?_⟩) | ((with_reducible refine gate_callee (f := 52) rfl ?_); refine goesL_ (some 21) rfl rfl Try.func52 (by kernel_rfl) rfl #[] rfl (by (try simp only [List.map_toArray, List.map_cons, List.map_nil]); first | done | rfl | (simp only [List.length_drop, List.length_take]; rfl)) ?_; (with_reducible refine (pilcrowref09_Digits.calls  t115 _ A6.out).mono ?_); rintro e w' ⟨rfl, ⟨nd, rfl⟩⟩; refine ⟨_, rfl, ?_⟩))
                  go_ret
                  exact ⟨by first | rfl | (simp; done) | (simp [*]; done), by repeat (first | exact Drawn0.refl _ | apply Drawn0.step)⟩
                · rw [if_neg c10] at H
                  exact absurd H (by simp)
              · rw [if_neg c9] at H
                exact absurd H (by simp)
            · rw [if_neg c8] at H
              exact absurd H (by simp)
          · rw [if_neg c7] at H
            exact absurd H (by simp)
        · rw [if_neg c5] at H
          have c5b0 : decide (x0_1 < (IntKind.u64.wrap (t114))) = false := decide_eq_false c5
          clear c5
          by_cases c11 : (IntKind.u64.wrap (36 - (IntKind.u64.wrap (t114)))) = 0
          · rw [if_pos c11] at H
            exact absurd H (by simp)
          · rw [if_neg c11] at H
            have c11b0 : ((IntKind.u64.wrap (36 - (IntKind.u64.wrap (t114)))) == 0) = false := beq_eq_false_iff_ne.mpr c11
            have c11b1 : ((IntKind.u64.wrap (36 - (IntKind.u64.wrap (t114)))) != 0) = true := bne_iff_ne.mpr c11
            replace H := Option.bind_eq_some_iff.mp H
            obtain ⟨t116, A120, H⟩ := H
            replace H : (if 0 ≤ (IntKind.u64.wrap ((IntKind.u64.wrap (t114)) + (Int.tmod (IntKind.u64.wrap (x0_1 - (IntKind.u64.wrap (t114)))) (IntKind.u64.wrap (36 - (IntKind.u64.wrap (t114))))))) then (if (IntKind.u64.wrap ((IntKind.u64.wrap (t114)) + (Int.tmod (IntKind.u64.wrap (x0_1 - (IntKind.u64.wrap (t114)))) (IntKind.u64.wrap (36 - (IntKind.u64.wrap (t114))))))) ≤ (IntKind.u64.wrap ((IntKind.u64.wrap ((IntKind.u64.wrap (t114)) + (Int.tmod (IntKind.u64.wrap (x0_1 - (IntKind.u64.wrap (t114)))) (IntKind.u64.wrap (36 - (IntKind.u64.wrap (t114))))))) + 1)) then (if (IntKind.u64.wrap ((IntKind.u64.wrap ((IntKind.u64.wrap (t114)) + (Int.tmod (IntKind.u64.wrap (x0_1 - (IntKind.u64.wrap (t114)))) (IntKind.u64.wrap (36 - (IntKind.u64.wrap (t114))))))) + 1)) ≤ (t116.size : Int) then (if x5_1.size + (t116.extract ((IntKind.u64.wrap ((IntKind.u64.wrap (t114)) + (Int.tmod (IntKind.u64.wrap (x0_1 - (IntKind.u64.wrap (t114)))) (IntKind.u64.wrap (36 - (IntKind.u64.wrap (t114))))))) : Int).toNat ((IntKind.u64.wrap ((IntKind.u64.wrap ((IntKind.u64.wrap (t114)) + (Int.tmod (IntKind.u64.wrap (x0_1 - (IntKind.u64.wrap (t114)))) (IntKind.u64.wrap (36 - (IntKind.u64.wrap (t114))))))) + 1)) : Int).toNat).size ≤ 9223372036854775807 then (pilcrowref09_Put.l0 k1 (IntKind.u64.wrap (Int.tdiv (IntKind.u64.wrap (x0_1 - (IntKind.u64.wrap (t114)))) (IntKind.u64.wrap (36 - (IntKind.u64.wrap (t114)))))) a1 (x5_1 ++ (t116.extract ((IntKind.u64.wrap ((IntKind.u64.wrap (t114)) + (Int.tmod (IntKind.u64.wrap (x0_1 - (IntKind.u64.wrap (t114)))) (IntKind.u64.wrap (36 - (IntKind.u64.wrap (t114))))))) : Int).toNat ((IntKind.u64.wrap ((IntKind.u64.wrap ((IntKind.u64.wrap (t114)) + (Int.tmod (IntKind.u64.wrap (x0_1 - (IntKind.u64.wrap (t114)))) (IntKind.u64.wrap (36 - (IntKind.u64.wrap (t114))))))) + 1)) : Int).toNat)) (wrap64 (x6_1 + 1))) else (none)) else (none)) else (none)) else (none)) = some r := H
            have A12 := Aside0.mk A120
            clear A120
            obtain ⟨ji13, hji13⟩ : ∃ j_ : Int, (IntKind.u64.wrap ((IntKind.u64.wrap (t114)) + (Int.tmod (IntKind.u64.wrap (x0_1 - (IntKind.u64.wrap (t114)))) (IntKind.u64.wrap (36 - (IntKind.u64.wrap (t114))))))) = j_ := ⟨_, rfl⟩
            replace H : (if 0 ≤ (ji13) then (if (ji13) ≤ (IntKind.u64.wrap ((ji13) + 1)) then (if (IntKind.u64.wrap ((ji13) + 1)) ≤ (t116.size : Int) then (if x5_1.size + (t116.extract ((ji13) : Int).toNat ((IntKind.u64.wrap ((ji13) + 1)) : Int).toNat).size ≤ 9223372036854775807 then (pilcrowref09_Put.l0 k1 (IntKind.u64.wrap (Int.tdiv (IntKind.u64.wrap (x0_1 - (IntKind.u64.wrap (t114)))) (IntKind.u64.wrap (36 - (IntKind.u64.wrap (t114)))))) a1 (x5_1 ++ (t116.extract ((ji13) : Int).toNat ((IntKind.u64.wrap ((ji13) + 1)) : Int).toNat)) (wrap64 (x6_1 + 1))) else (none)) else (none)) else (none)) else (none)) = some r := by first | (rw [hji13] at H; exact H) | (simp only [hji13] at H ⊢; exact H)
            (try rw [hji13] at A4)
            (try rw [hji13] at A12)
            by_cases c14 : 0 ≤ (ji13)
            · rw [if_pos c14] at H
              have c14b0 := eq_true c14
              have c14b1 : decide (0 ≤ (ji13)) = true := decide_eq_true c14
              clear c14
              by_cases c15 : (ji13) ≤ (IntKind.u64.wrap ((ji13) + 1))
              · rw [if_pos c15] at H
                have c15b0 := eq_true c15
                have c15b1 : decide ((ji13) ≤ (IntKind.u64.wrap ((ji13) + 1))) = true := decide_eq_true c15
                by_cases c16 : (IntKind.u64.wrap ((ji13) + 1)) ≤ (t116.size : Int)
                · rw [if_pos c16] at H
                  have c16b0 := eq_true c16
                  have c16b1 : decide ((IntKind.u64.wrap ((ji13) + 1)) ≤ (t116.size : Int)) = true := decide_eq_true c16
                  by_cases c17 : x5_1.size + (t116.extract ((ji13) : Int).toNat ((IntKind.u64.wrap ((ji13) + 1)) : Int).toNat).size ≤ 9223372036854775807
                  · rw [if_pos c17] at H
                    have c17b0 := eq_true c17
                    have c17b1 : decide (x5_1.size + (t116.extract ((ji13) : Int).toNat ((IntKind.u64.wrap ((ji13) + 1)) : Int).toNat).size ≤ 9223372036854775807) = true := decide_eq_true c17
                    try have c17b2 : (9223372036854775807 < x5_1.size + (t116.extract ((ji13) : Int).toNat ((IntKind.u64.wrap ((ji13) + 1)) : Int).toNat).size) = False := eq_false (Nat.not_lt.2 c17)
                    have H' := Aside0.mk H
                    clear H
                    go_wp2_with (first | ((with_reducible refine gate_callee (f := 51) rfl ?_); refine goesL_ (some 15) rfl rfl Try.func51 (by kernel_rfl) rfl #[.int .i64 x6_1, .int .i64 a1] rfl (by (try simp only [List.map_toArray, List.map_cons, List.map_nil]); first | done | rfl | (simp only [List.length_drop, List.length_take]; rfl)) ?_; (with_reducible refine (pilcrowref09_Threshold.calls x6_1 a1 t114 _ A4.out).mono ?_); rintro e w' ⟨rfl, ⟨nd, rfl⟩⟩; refine ⟨_, rfl, ?_⟩) | ((with_reducible refine gate_callee (f := 52) rfl ?_); refine goesL_ (some 36) rfl rfl Try.func52 (by kernel_rfl) rfl #[] rfl (by (try simp only [List.map_toArray, List.map_cons, List.map_nil]); first | done | rfl | (simp only [List.length_drop, List.length_take]; rfl)) ?_; (with_reducible refine (pilcrowref09_Digits.calls  t116 _ A12.out).mono ?_); rintro e w' ⟨rfl, ⟨nd, rfl⟩⟩; refine ⟨_, rfl, ?_⟩))
                    go_roundg k1
                    case measure => have := HK1.out; omega
                    case rel => exact ⟨(IntKind.u64.wrap (Int.tdiv (IntKind.u64.wrap (x0_1 - (IntKind.u64.wrap (t114)))) (IntKind.u64.wrap (36 - (IntKind.u64.wrap (t114)))))), (x5_1 ++ (t116.extract ((ji13) : Int).toNat ((IntKind.u64.wrap ((ji13) + 1)) : Int).toNat)), (wrap64 (x6_1 + 1)), (by first | rfl | (simp; done) | (simp [*]; done)), (by first | rfl | (simp; done) | (simp only [← hji13] <;> (first | rfl | simp)) | (simp [*]; done)), (by first | rfl | (simp; done) | (simp [*]; done)), H', ⟨by have := HK1.out; omega⟩, by repeat (first | exact Drawn0.refl _ | apply Drawn0.step)⟩
                  · rw [if_neg c17] at H
                    exact absurd H (by simp)
                · rw [if_neg c16] at H
                  exact absurd H (by simp)
              · rw [if_neg c15] at H
                exact absurd H (by simp)
            · rw [if_neg c14] at H
              exact absurd H (by simp)
      · rw [if_neg c3] at H
        have c3b0 : decide (x6_1 < 200) = false := decide_eq_false c3
        clear c3
        obtain rfl := Option.some.inj H
        go_wp2
        go_ret
        exact ⟨by first | rfl | (simp; done) | (simp [*]; done), by repeat (first | exact Drawn0.refl _ | apply Drawn0.step)⟩

/-! ### pilcrowref09_Adapt: function 37 -/
mutual
def pilcrowref09_Adapt.j0 : Nat → Int → Int → Bool → Option (Int)
  | 0, _, _, _ => none
  | k + 1, x0, x1, x2 => if x2 = true then (pilcrowref09_Adapt.j1 k (IntKind.u64.wrap (Int.tdiv x0 700)) x1) else (pilcrowref09_Adapt.j1 k (IntKind.u64.wrap (Int.tdiv x0 2)) x1)
def pilcrowref09_Adapt.j1 : Nat → Int → Int → Option (Int)
  | 0, _, _ => none
  | k + 1, x0, x1 => if x1 = 0 then (none) else (pilcrowref09_Adapt.l0 k (IntKind.u64.wrap (x0 + (IntKind.u64.wrap (Int.tdiv x0 x1)))) 0)
def pilcrowref09_Adapt.l0 : Nat → Int → Int → Option (Int)
  | 0, _, _ => none
  | k + 1, x0, x7 => if x0 > 455 then (pilcrowref09_Adapt.l0 k (IntKind.u64.wrap (Int.tdiv x0 35)) (wrap64 (x7 + 1))) else (if (IntKind.u64.wrap (x0 + 38)) = 0 then (none) else (some (wrap64 ((wrap64 (36 * x7)) + (wrap64 (IntKind.u64.wrap (Int.tdiv (IntKind.u64.wrap (36 * x0)) (IntKind.u64.wrap (x0 + 38)))))))))
end
def pilcrowref09_Adapt.f (k : Nat) (a0 : Int) (a1 : Int) (a2 : Bool) : Option (Int) := if a1 = 0 then (pilcrowref09_Adapt.j0 k a0 1 a2) else (pilcrowref09_Adapt.j0 k a0 a1 a2)
theorem pilcrowref09_Adapt.mono_l : ∀ k, (∀ y0 y1 y2, LeO (pilcrowref09_Adapt.j0 k y0 y1 y2) (pilcrowref09_Adapt.j0 (k + 1) y0 y1 y2)) ∧ (∀ y0 y1, LeO (pilcrowref09_Adapt.j1 k y0 y1) (pilcrowref09_Adapt.j1 (k + 1) y0 y1)) ∧ (∀ y0 y1, LeO (pilcrowref09_Adapt.l0 k y0 y1) (pilcrowref09_Adapt.l0 (k + 1) y0 y1))
  | 0 => ⟨fun _ _ _ r h => by simp [pilcrowref09_Adapt.j0] at h, fun _ _ r h => by simp [pilcrowref09_Adapt.j1] at h, fun _ _ r h => by simp [pilcrowref09_Adapt.l0] at h⟩
  | k + 1 => by
    obtain ⟨ih0, ih1, ih2⟩ := pilcrowref09_Adapt.mono_l k
    refine ⟨?_, ?_, ?_⟩
    · intro y0 y1 y2
      unfold pilcrowref09_Adapt.j0
      repeat' first
      | (with_reducible exact ih0 _ _ _)
      | (with_reducible exact ih1 _ _)
      | (with_reducible exact ih2 _ _)
      | (with_reducible exact LeO.refl _)
      | (with_reducible exact LeO.none _)
      | (with_reducible refine LeO.ite ?_ ?_)
      | (with_reducible refine LeO.bind ?_ (fun _ => ?_))
      | exact ih0 _ _ _
      | exact ih1 _ _
      | exact ih2 _ _
      | exact LeO.none _
      | refine LeO.ite ?_ ?_
      | refine LeO.bind ?_ (fun _ => ?_)
    · intro y0 y1
      unfold pilcrowref09_Adapt.j1
      repeat' first
      | (with_reducible exact ih0 _ _ _)
      | (with_reducible exact ih1 _ _)
      | (with_reducible exact ih2 _ _)
      | (with_reducible exact LeO.refl _)
      | (with_reducible exact LeO.none _)
      | (with_reducible refine LeO.ite ?_ ?_)
      | (with_reducible refine LeO.bind ?_ (fun _ => ?_))
      | exact ih0 _ _ _
      | exact ih1 _ _
      | exact ih2 _ _
      | exact LeO.none _
      | refine LeO.ite ?_ ?_
      | refine LeO.bind ?_ (fun _ => ?_)
    · intro y0 y1
      unfold pilcrowref09_Adapt.l0
      repeat' first
      | (with_reducible exact ih0 _ _ _)
      | (with_reducible exact ih1 _ _)
      | (with_reducible exact ih2 _ _)
      | (with_reducible exact LeO.refl _)
      | (with_reducible exact LeO.none _)
      | (with_reducible refine LeO.ite ?_ ?_)
      | (with_reducible refine LeO.bind ?_ (fun _ => ?_))
      | exact ih0 _ _ _
      | exact ih1 _ _
      | exact ih2 _ _
      | exact LeO.none _
      | refine LeO.ite ?_ ?_
      | refine LeO.bind ?_ (fun _ => ?_)
theorem pilcrowref09_Adapt.mono : ∀ a0 a1 a2 k, LeO (pilcrowref09_Adapt.f k a0 a1 a2) (pilcrowref09_Adapt.f (k + 1) a0 a1 a2) := by
  intro a0 a1 a2 k
  obtain ⟨ih0, ih1, ih2⟩ := pilcrowref09_Adapt.mono_l k
  unfold pilcrowref09_Adapt.f
  repeat' first
      | (with_reducible exact ih0 _ _ _)
      | (with_reducible exact ih1 _ _)
      | (with_reducible exact ih2 _ _)
      | (with_reducible exact LeO.refl _)
      | (with_reducible exact LeO.none _)
      | (with_reducible refine LeO.ite ?_ ?_)
      | (with_reducible refine LeO.bind ?_ (fun _ => ?_))
      | exact ih0 _ _ _
      | exact ih1 _ _
      | exact ih2 _ _
      | exact LeO.none _
      | refine LeO.ite ?_ ?_
      | refine LeO.bind ?_ (fun _ => ?_)
set_option maxHeartbeats 8000000 in
set_option maxRecDepth 100000 in
theorem pilcrowref09_Adapt.calls (k : Nat) (a0 : Int) (a1 : Int) (a2 : Bool) (r : Int) (w : World) (h : pilcrowref09_Adapt.f k a0 a1 a2 = some r) :
    Calls Try.prog 37 #[.int .u64 a0, .int .u64 a1, .bool a2] w fun e w' => e = .returned (.int .i64 r) ∧ Drawn0 w w' := by
  have H : (if a1 = 0 then (pilcrowref09_Adapt.j0 k a0 1 a2) else (pilcrowref09_Adapt.j0 k a0 a1 a2)) = some r := h
  clear h
  have HC4 := Aside0.mk H
  clear H
  go_enter Try.func37, Try.ntmps37
  go_upto_if 9 with (fail)
  go_cut [1] (fun v1 wc => ∃ (kq : Nat) (x1_3 : Int), v1 = .int .u64 x1_3 ∧ Aside0 (pilcrowref09_Adapt.j0 kq a0 x1_3 a2 = some r) ∧ Aside0 (kq ≤ k) ∧ Drawn0 w wc)
  case first =>
    have H := HC4.out
    clear HC4
    by_cases c5 : a1 = 0
    · rw [if_pos c5] at H
      have c5b0 : (a1 == 0) = true := beq_iff_eq.mpr c5
      have c5b1 : (a1 != 0) = false := bne_eq_false_iff_eq.mpr c5
      clear c5
      (first | rw [c5b0] | (simp only [i64_w, i32_w]; rw [c5b0]) | skip)
      have H' := Aside0.mk H
      clear H
      go_wp2
      go_meet
      case rel => exact ⟨_, (1), (by first | rfl | (simp; done) | (simp [*]; done)), H', ⟨by first | omega | exact Nat.le_refl _⟩, by repeat (first | exact Drawn0.refl _ | apply Drawn0.step)⟩
    · rw [if_neg c5] at H
      have c5b0 : (a1 == 0) = false := beq_eq_false_iff_ne.mpr c5
      have c5b1 : (a1 != 0) = true := bne_iff_ne.mpr c5
      (first | rw [c5b0] | (simp only [i64_w, i32_w]; rw [c5b0]) | skip)
      have H' := Aside0.mk H
      clear H
      go_wp2
      go_meet
      case rel => exact ⟨_, (a1), (by first | rfl | (simp; done) | (simp [*]; done)), H', ⟨by first | omega | exact Nat.le_refl _⟩, by repeat (first | exact Drawn0.refl _ | apply Drawn0.step)⟩
  case rest =>
    clear HC4
    try clear p2
    try clear c3
    try clear c5
    try clear c5b0
    try clear c5b1
    obtain ⟨kq, x1_3, rfl, HA, HJ3, ⟨mc3, rfl⟩⟩ := hcut
    cases kq with
    | zero => exact absurd HA.out (by simp [pilcrowref09_Adapt.j0])
    | succ kj3 =>
      have H := HA.out
      clear HA
      simp only [pilcrowref09_Adapt.j0] at H
      have HC6 := Aside0.mk H
      clear H
      go_upto_if 10 with (fail)
      go_cut [0] (fun v0 wc => ∃ (kq : Nat) (x0_5 : Int), v0 = .int .u64 x0_5 ∧ Aside0 (pilcrowref09_Adapt.j1 kq x0_5 x1_3 = some r) ∧ Aside0 (kq ≤ kj3) ∧ Drawn0 w wc)
      case first =>
        have H := HC6.out
        clear HC6
        by_cases c7 : a2 = true
        · subst c7
          have H1 : (pilcrowref09_Adapt.j1 kj3 (IntKind.u64.wrap (Int.tdiv a0 700)) x1_3) = some r := by rw [if_pos rfl] at H; exact H
          clear H
          have H := H1
          clear H1
          have H' := Aside0.mk H
          clear H
          go_wp2
          go_meet
          case rel => exact ⟨_, (IntKind.u64.wrap (Int.tdiv a0 700)), (by first | rfl | (simp; done) | (simp [*]; done)), H', ⟨by have := HJ3.out; first | omega | exact Nat.le_refl _⟩, by repeat (first | exact Drawn0.refl _ | apply Drawn0.step)⟩
        · replace c7 := Bool.eq_false_iff.mpr c7
          subst c7
          have H1 : (pilcrowref09_Adapt.j1 kj3 (IntKind.u64.wrap (Int.tdiv a0 2)) x1_3) = some r := by rw [if_neg (show ¬ (false = true) by decide)] at H; exact H
          clear H
          have H := H1
          clear H1
          have H' := Aside0.mk H
          clear H
          go_wp2
          go_meet
          case rel => exact ⟨_, (IntKind.u64.wrap (Int.tdiv a0 2)), (by first | rfl | (simp; done) | (simp [*]; done)), H', ⟨by have := HJ3.out; first | omega | exact Nat.le_refl _⟩, by repeat (first | exact Drawn0.refl _ | apply Drawn0.step)⟩
      case rest =>
        clear HC6
        try clear p2
        try clear c3
        try clear c5
        try clear c5b0
        try clear c5b1
        try clear c7
        try clear p2
        obtain ⟨kq, x0_5, rfl, HA, HJ5, ⟨mc5, rfl⟩⟩ := hcut
        cases kq with
        | zero => exact absurd HA.out (by simp [pilcrowref09_Adapt.j1])
        | succ kj5 =>
          have H := HA.out
          clear HA
          simp only [pilcrowref09_Adapt.j1] at H
          by_cases c8 : x1_3 = 0
          · rw [if_pos c8] at H
            exact absurd H (by simp)
          · rw [if_neg c8] at H
            have c8b0 : (x1_3 == 0) = false := beq_eq_false_iff_ne.mpr c8
            have c8b1 : (x1_3 != 0) = true := bne_iff_ne.mpr c8
            have H' := Aside0.mk H
            clear H
            go_wp2
            go_loopg [0, 7] kj5 (fun kq v0 v7 w' => ∃ (x0_3 : Int) (x7_3 : Int), v0 = .int .u64 x0_3 ∧ v7 = .int .i64 x7_3 ∧ Aside0 (pilcrowref09_Adapt.l0 kq x0_3 x7_3 = some r) ∧ Aside0 (kq ≤ kj5) ∧ Drawn0 w w')
            case atStart => exact ⟨(IntKind.u64.wrap (x0_5 + (IntKind.u64.wrap (Int.tdiv x0_5 x1_3)))), (0), (by first | rfl | (simp; done) | (simp [*]; done)), (by first | rfl | (simp; done) | (simp [*]; done)), H', ⟨Nat.le_refl _⟩, by repeat (first | exact Drawn0.refl _ | apply Drawn0.step)⟩
            case round =>
              clear H'
              try clear p2
              try clear c3
              try clear c5
              try clear c5b0
              try clear c5b1
              try clear c7
              try clear c8
              try clear c8b0
              try clear c8b1
              try clear p2
              obtain ⟨x0_3, x7_3, rfl, rfl, HA, HK3, ⟨m3, rfl⟩⟩ := hrel
              cases gk with
              | zero => exact absurd HA.out (by simp [pilcrowref09_Adapt.l0])
              | succ k3 =>
                have H := HA.out
                clear HA
                simp only [pilcrowref09_Adapt.l0] at H
                by_cases c9 : x0_3 > 455
                · rw [if_pos c9] at H
                  have c9b0 : decide (455 < x0_3) = true := decide_eq_true c9
                  clear c9
                  have H' := Aside0.mk H
                  clear H
                  go_wp2
                  go_roundg k3
                  case measure => have := HJ3.out; have := HJ5.out; have := HK3.out; omega
                  case rel => exact ⟨(IntKind.u64.wrap (Int.tdiv x0_3 35)), (wrap64 (x7_3 + 1)), (by first | rfl | (simp; done) | (simp [*]; done)), (by first | rfl | (simp; done) | (simp [*]; done)), H', ⟨by have := HJ3.out; have := HJ5.out; have := HK3.out; omega⟩, by repeat (first | exact Drawn0.refl _ | apply Drawn0.step)⟩
                · rw [if_neg c9] at H
                  have c9b0 : decide (455 < x0_3) = false := decide_eq_false c9
                  clear c9
                  by_cases c10 : (IntKind.u64.wrap (x0_3 + 38)) = 0
                  · rw [if_pos c10] at H
                    exact absurd H (by simp)
                  · rw [if_neg c10] at H
                    have c10b0 : ((IntKind.u64.wrap (x0_3 + 38)) == 0) = false := beq_eq_false_iff_ne.mpr c10
                    have c10b1 : ((IntKind.u64.wrap (x0_3 + 38)) != 0) = true := bne_iff_ne.mpr c10
                    obtain rfl := Option.some.inj H
                    go_wp2
                    go_ret
                    exact ⟨by first | rfl | (simp; done) | (simp [*]; done), by repeat (first | exact Drawn0.refl _ | apply Drawn0.step)⟩

end Go.Proofs.Ytegacgfhmigdjaa.PPb
