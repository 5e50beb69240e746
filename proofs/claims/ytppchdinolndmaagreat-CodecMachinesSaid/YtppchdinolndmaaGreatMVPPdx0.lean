/- Joined texts: VPPdx0, VPPdx1, VPPdx2, VPPdx. -/
import Derived.Test.YtppchdinolndmaaGreatProg
import Derived.Below
import Derived.Deep.Draws
import Derived.Deep.AppendLies
import Derived.Maps.AppendAt
import Derived.OwnWalk
import Derived.Laws.BytesArg
import Derived.Laws.MakeOwn
import Derived.Laws.OwnMore
import Derived.Deep.OwnRows
import Derived.Tactics
import Derived.Lib.ConvBytes
import Derived.Laws.Slices
import Derived.WalkKit
import Derived.KernelRfl
import Derived.RowKit3
import Derived.Deep.LoopGhost
import Derived.Deep.QuietTactic
import Derived.BigQuiet
import Derived.WideLaws
import Derived.Deep.DeepCutAuto
import Derived.Deep.CutBlock
import Derived.Deep.RegionHeld3
import Derived.Laws.Rows
import Derived.Lib.AppendStr
import Derived.ArgAppend
import Derived.Laws.IdiomCopy
import Derived.OrdersHeld
import Derived.Laws.BitsLemmas
import Derived.RowKit
import Derived.Test.YtppchdinolndmaaGreatMVWWords
import Derived.Test.YtppchdinolndmaaGreatMVWLast
import Derived.Laws.StructEq
namespace Go.Proofs.YtppchdinolndmaaGreat.PPd
open Go.RowKit Go.Proofs.YtppchdinolndmaaGreatW.PrintWords Go.Proofs.YtppchdinolndmaaGreatW.PrintLast Go.Proofs.YtppchdinolndmaaGreatW.PrintMore
attribute [local go_sem] max2_int min2_int max_two min_two max_three min_three max_four min_four   -- for this text's walks alone
set_option linter.unusedVariables false
set_option linter.unusedSimpArgs false
def errW : Option Int → Value
 | none => .nilIface
 | some c => .iface 0 (.int .i64 c)
theorem errW_none : errW none = .nilIface := rfl
theorem errW_some (c : Int) : errW (some c) = .iface 0 (.int .i64 c) := rfl
theorem info5 : (Tryz.prog.info? 5).map (fun i => (i.zero, i.size, i.bytes)) = some (some (.int .u8 0), 1, 1) := by kernel_rfl
attribute [local go_sem] max2_int min2_int max_two min_two max_three min_three max_four min_four   -- for this text's walks alone
set_option linter.unusedVariables false
set_option linter.unusedSimpArgs false
def diff_first.f (a0 : Int) : Option (Int × Int) := if (wrap64 (a0)) ≥ 254 then (some (187660, 3)) else (if (wrap64 (a0)) ≥ 251 then (some (wrap64 (10513 + (wrap64 ((wrap64 ((wrap64 ((wrap64 (a0)) - 251)) * 243)) * 243))), 2)) else (if (wrap64 (a0)) ≥ 208 then (some (wrap64 (64 + (wrap64 ((wrap64 ((wrap64 (a0)) - 208)) * 243))), 1)) else (if (wrap64 (a0)) ≥ 80 then (some (wrap64 ((wrap64 (a0)) - 144), 0)) else (if (wrap64 (a0)) ≥ 37 then (some (wrap64 ((-64) + (wrap64 ((wrap64 ((wrap64 (a0)) - 80)) * 243))), 1)) else (if (wrap64 (a0)) ≥ 34 then (some (wrap64 ((-10513) + (wrap64 ((wrap64 ((wrap64 ((wrap64 (a0)) - 37)) * 243)) * 243))), 2)) else (some ((-14536567), 3)))))))
set_option maxHeartbeats 8000000 in
set_option maxRecDepth 100000 in
theorem diff_first.calls (a0 : Int) (r1 : Int) (r2 : Int) (w : World) (h : diff_first.f a0 = some (r1, r2)) :
  Calls Tryz.prog 229 #[.int .u8 a0] w fun e w' => e = .returned (.tuple #[.int .i64 r1, .int .i64 r2]) ∧ Drawn0 w w' := by
 have H : (if (wrap64 (a0)) ≥ 254 then (some (187660, 3)) else (if (wrap64 (a0)) ≥ 251 then (some (wrap64 (10513 + (wrap64 ((wrap64 ((wrap64 ((wrap64 (a0)) - 251)) * 243)) * 243))), 2)) else (if (wrap64 (a0)) ≥ 208 then (some (wrap64 (64 + (wrap64 ((wrap64 ((wrap64 (a0)) - 208)) * 243))), 1)) else (if (wrap64 (a0)) ≥ 80 then (some (wrap64 ((wrap64 (a0)) - 144), 0)) else (if (wrap64 (a0)) ≥ 37 then (some (wrap64 ((-64) + (wrap64 ((wrap64 ((wrap64 (a0)) - 80)) * 243))), 1)) else (if (wrap64 (a0)) ≥ 34 then (some (wrap64 ((-10513) + (wrap64 ((wrap64 ((wrap64 ((wrap64 (a0)) - 37)) * 243)) * 243))), 2)) else (some ((-14536567), 3)))))))) = some (r1, r2) := h
 clear h
 by_cases c2 : (wrap64 (a0)) ≥ 254
 ·rw [if_pos c2] at H
  have c2b0 : decide (254 ≤ (wrap64 (a0))) = true := decide_eq_true c2
  clear c2
  simp only [Option.some.injEq, Prod.mk.injEq] at H
  obtain ⟨rfl, rfl⟩ := H
  go_enter Tryz.func229, Tryz.ntmps229
  go_wp2
  go_ret2
  exact ⟨by first | rfl | (simp; done) | (simp [*]; done), by repeat (first | exact Drawn0.refl _ | apply Drawn0.step)⟩
 ·rw [if_neg c2] at H
  have c2b0 : decide (254 ≤ (wrap64 (a0))) = false := decide_eq_false c2
  clear c2
  by_cases c3 : (wrap64 (a0)) ≥ 251
  ·rw [if_pos c3] at H
   have c3b0 : decide (251 ≤ (wrap64 (a0))) = true := decide_eq_true c3
   clear c3
   simp only [Option.some.injEq, Prod.mk.injEq] at H
   obtain ⟨rfl, rfl⟩ := H
   go_enter Tryz.func229, Tryz.ntmps229
   go_wp2
   go_ret2
   exact ⟨by first | rfl | (simp; done) | (simp [*]; done), by repeat (first | exact Drawn0.refl _ | apply Drawn0.step)⟩
  ·rw [if_neg c3] at H
   have c3b0 : decide (251 ≤ (wrap64 (a0))) = false := decide_eq_false c3
   clear c3
   by_cases c4 : (wrap64 (a0)) ≥ 208
   ·rw [if_pos c4] at H
    have c4b0 : decide (208 ≤ (wrap64 (a0))) = true := decide_eq_true c4
    clear c4
    simp only [Option.some.injEq, Prod.mk.injEq] at H
    obtain ⟨rfl, rfl⟩ := H
    go_enter Tryz.func229, Tryz.ntmps229
    go_wp2
    go_ret2
    exact ⟨by first | rfl | (simp; done) | (simp [*]; done), by repeat (first | exact Drawn0.refl _ | apply Drawn0.step)⟩
   ·rw [if_neg c4] at H
    have c4b0 : decide (208 ≤ (wrap64 (a0))) = false := decide_eq_false c4
    clear c4
    by_cases c5 : (wrap64 (a0)) ≥ 80
    ·rw [if_pos c5] at H
     have c5b0 : decide (80 ≤ (wrap64 (a0))) = true := decide_eq_true c5
     clear c5
     simp only [Option.some.injEq, Prod.mk.injEq] at H
     obtain ⟨rfl, rfl⟩ := H
     go_enter Tryz.func229, Tryz.ntmps229
     go_wp2
     go_ret2
     exact ⟨by first | rfl | (simp; done) | (simp [*]; done), by repeat (first | exact Drawn0.refl _ | apply Drawn0.step)⟩
    ·rw [if_neg c5] at H
     have c5b0 : decide (80 ≤ (wrap64 (a0))) = false := decide_eq_false c5
     clear c5
     by_cases c6 : (wrap64 (a0)) ≥ 37
     ·rw [if_pos c6] at H
      have c6b0 : decide (37 ≤ (wrap64 (a0))) = true := decide_eq_true c6
      clear c6
      simp only [Option.some.injEq, Prod.mk.injEq] at H
      obtain ⟨rfl, rfl⟩ := H
      go_enter Tryz.func229, Tryz.ntmps229
      go_wp2
      go_ret2
      exact ⟨by first | rfl | (simp; done) | (simp [*]; done), by repeat (first | exact Drawn0.refl _ | apply Drawn0.step)⟩
     ·rw [if_neg c6] at H
      have c6b0 : decide (37 ≤ (wrap64 (a0))) = false := decide_eq_false c6
      clear c6
      by_cases c7 : (wrap64 (a0)) ≥ 34
      ·rw [if_pos c7] at H
       have c7b0 : decide (34 ≤ (wrap64 (a0))) = true := decide_eq_true c7
       clear c7
       simp only [Option.some.injEq, Prod.mk.injEq] at H
       obtain ⟨rfl, rfl⟩ := H
       go_enter Tryz.func229, Tryz.ntmps229
       go_wp2
       go_ret2
       exact ⟨by first | rfl | (simp; done) | (simp [*]; done), by repeat (first | exact Drawn0.refl _ | apply Drawn0.step)⟩
      ·rw [if_neg c7] at H
       have c7b0 : decide (34 ≤ (wrap64 (a0))) = false := decide_eq_false c7
       clear c7
       simp only [Option.some.injEq, Prod.mk.injEq] at H
       obtain ⟨rfl, rfl⟩ := H
       go_enter Tryz.func229, Tryz.ntmps229
       go_wp2
       go_ret2
       exact ⟨by first | rfl | (simp; done) | (simp [*]; done), by repeat (first | exact Drawn0.refl _ | apply Drawn0.step)⟩
mutual
def diff_Trail.j0 : Nat → Int → Bool → Option (Int × Bool)
 | 0, _, _ => none
 | k + 1, x0, x11 => if x11 = true then (some (wrap64 ((wrap64 ((wrap64 (x0)) - 28)) + 16), true)) else (if x0 ≥ 16 then (diff_Trail.j1 k x0 (decide (x0 ≤ 25))) else (diff_Trail.j1 k x0 false))
def diff_Trail.j1 : Nat → Int → Bool → Option (Int × Bool)
 | 0, _, _ => none
 | k + 1, x0, x22 => if x22 = true then (some (wrap64 ((wrap64 ((wrap64 (x0)) - 16)) + 6), true)) else (if x0 ≥ 1 then (if x0 ≤ 6 then (some (wrap64 ((wrap64 (x0)) - 1), true)) else (some (0, false))) else (some (0, false)))
end
def diff_Trail.f (k : Nat) (a0 : Int) : Option (Int × Bool) := if a0 ≥ 33 then (some (wrap64 ((wrap64 ((wrap64 (a0)) - 33)) + 20), true)) else (if a0 ≥ 28 then (diff_Trail.j0 k a0 (decide (a0 ≤ 31))) else (diff_Trail.j0 k a0 false))
theorem diff_Trail.mono_l : ∀ k, (∀ y0 y1, LeO (diff_Trail.j0 k y0 y1) (diff_Trail.j0 (k + 1) y0 y1)) ∧ (∀ y0 y1, LeO (diff_Trail.j1 k y0 y1) (diff_Trail.j1 (k + 1) y0 y1))
 | 0 => ⟨fun _ _ r h => by simp [diff_Trail.j0] at h, fun _ _ r h => by simp [diff_Trail.j1] at h⟩
 | k + 1 => by
  obtain ⟨ih0, ih1⟩ := diff_Trail.mono_l k
  refine ⟨?_, ?_⟩
  ·intro y0 y1
   unfold diff_Trail.j0
   repeat' first
   | (with_reducible exact ih0 _ _)
   | (with_reducible exact ih1 _ _)
   | (with_reducible exact LeO.refl _)
   | (with_reducible exact LeO.none _)
   | (with_reducible refine LeO.ite ?_ ?_)
   | (with_reducible refine LeO.bind ?_ (fun _ => ?_))
   | exact ih0 _ _
   | exact ih1 _ _
   | exact LeO.none _
   | refine LeO.ite ?_ ?_
   | refine LeO.bind ?_ (fun _ => ?_)
  ·intro y0 y1
   unfold diff_Trail.j1
   repeat' first
   | (with_reducible exact ih0 _ _)
   | (with_reducible exact ih1 _ _)
   | (with_reducible exact LeO.refl _)
   | (with_reducible exact LeO.none _)
   | (with_reducible refine LeO.ite ?_ ?_)
   | (with_reducible refine LeO.bind ?_ (fun _ => ?_))
   | exact ih0 _ _
   | exact ih1 _ _
   | exact LeO.none _
   | refine LeO.ite ?_ ?_
   | refine LeO.bind ?_ (fun _ => ?_)
theorem diff_Trail.mono : ∀ a0 k, LeO (diff_Trail.f k a0) (diff_Trail.f (k + 1) a0) := by
 intro a0 k
 obtain ⟨ih0, ih1⟩ := diff_Trail.mono_l k
 unfold diff_Trail.f
 repeat' first
   | (with_reducible exact ih0 _ _)
   | (with_reducible exact ih1 _ _)
   | (with_reducible exact LeO.refl _)
   | (with_reducible exact LeO.none _)
   | (with_reducible refine LeO.ite ?_ ?_)
   | (with_reducible refine LeO.bind ?_ (fun _ => ?_))
   | exact ih0 _ _
   | exact ih1 _ _
   | exact LeO.none _
   | refine LeO.ite ?_ ?_
   | refine LeO.bind ?_ (fun _ => ?_)
set_option maxHeartbeats 8000000 in
set_option maxRecDepth 100000 in
theorem diff_Trail.calls (k : Nat) (a0 : Int) (r1 : Int) (r2 : Bool) (w : World) (h : diff_Trail.f k a0 = some (r1, r2)) :
  Calls Tryz.prog 230 #[.int .u8 a0] w fun e w' => e = .returned (.tuple #[.int .i64 r1, .bool r2]) ∧ Drawn0 w w' := by
 have H : (if a0 ≥ 33 then (some (wrap64 ((wrap64 ((wrap64 (a0)) - 33)) + 20), true)) else (if a0 ≥ 28 then (diff_Trail.j0 k a0 (decide (a0 ≤ 31))) else (diff_Trail.j0 k a0 false))) = some (r1, r2) := h
 clear h
 by_cases c2 : a0 ≥ 33
 ·rw [if_pos c2] at H
  have c2b0 : decide (33 ≤ a0) = true := decide_eq_true c2
  clear c2
  simp only [Option.some.injEq, Prod.mk.injEq] at H
  obtain ⟨rfl, rfl⟩ := H
  go_enter Tryz.func230, Tryz.ntmps230
  go_wp2
  go_ret2
  exact ⟨by first | rfl | (simp; done) | (simp [*]; done), by repeat (first | exact Drawn0.refl _ | apply Drawn0.step)⟩
 ·rw [if_neg c2] at H
  have c2b0 : decide (33 ≤ a0) = false := decide_eq_false c2
  clear c2
  have HC3 := Aside0.mk H
  clear H
  go_enter Tryz.func230, Tryz.ntmps230
  go_upto_region 3 with (fail)
  go_cut [11] (fun v11 wc => ∃ (kq : Nat) (x11_2 : Bool), v11 = .bool x11_2 ∧ Aside0 (diff_Trail.j0 kq a0 x11_2 = some (r1, r2)) ∧ Aside0 (kq ≤ k) ∧ Drawn0 w wc)
  case first =>
   have H := HC3.out
   clear HC3
   by_cases c4 : a0 ≥ 28
   ·rw [if_pos c4] at H
    have c4b0 : decide (28 ≤ a0) = true := decide_eq_true c4
    clear c4
    (first | rw [c4b0] | (simp only [i64_w, i32_w]; rw [c4b0]) | skip)
    have H' := Aside0.mk H
    clear H
    go_wp2
    go_meet
    case rel => exact ⟨_, (decide (a0 ≤ 31)), (by first | rfl | (simp; done) | (simp [*]; done)), H', ⟨by first | omega | exact Nat.le_refl _⟩, by repeat (first | exact Drawn0.refl _ | apply Drawn0.step)⟩
   ·rw [if_neg c4] at H
    have c4b0 : decide (28 ≤ a0) = false := decide_eq_false c4
    clear c4
    (first | rw [c4b0] | (simp only [i64_w, i32_w]; rw [c4b0]) | skip)
    have H' := Aside0.mk H
    clear H
    go_wp2
    go_meet
    case rel => exact ⟨_, (false), (by first | rfl | (simp; done) | (simp [*]; done)), H', ⟨by first | omega | exact Nat.le_refl _⟩, by repeat (first | exact Drawn0.refl _ | apply Drawn0.step)⟩
  case rest =>
   clear HC3
   try clear c2
   try clear c2b0
   try clear p2
   try clear c4
   try clear c4b0
   obtain ⟨kq, x11_2, rfl, HA, HJ2, ⟨mc2, rfl⟩⟩ := hcut
   cases kq with
   | zero => exact absurd HA.out (by simp [diff_Trail.j0])
   | succ kj2 =>
    have H := HA.out
    clear HA
    simp only [diff_Trail.j0] at H
    by_cases c5 : x11_2 = true
    ·subst c5
     have H1 : (some (wrap64 ((wrap64 ((wrap64 (a0)) - 28)) + 16), true)) = some (r1, r2) := by rw [if_pos rfl] at H; exact H
     clear H
     have H := H1
     clear H1
     simp only [Option.some.injEq, Prod.mk.injEq] at H
     obtain ⟨rfl, rfl⟩ := H
     go_wp2
     go_ret2
     exact ⟨by first | rfl | (simp; done) | (simp [*]; done), by repeat (first | exact Drawn0.refl _ | apply Drawn0.step)⟩
    ·replace c5 := Bool.eq_false_iff.mpr c5
     subst c5
     have H1 : (if a0 ≥ 16 then (diff_Trail.j1 kj2 a0 (decide (a0 ≤ 25))) else (diff_Trail.j1 kj2 a0 false)) = some (r1, r2) := by rw [if_neg (show ¬ (false = true) by decide)] at H; exact H
     clear H
     have H := H1
     clear H1
     have HC6 := Aside0.mk H
     clear H
     go_upto_region 5 with (fail)
     go_cut [22] (fun v22 wc => ∃ (kq : Nat) (x22_5 : Bool), v22 = .bool x22_5 ∧ Aside0 (diff_Trail.j1 kq a0 x22_5 = some (r1, r2)) ∧ Aside0 (kq ≤ kj2) ∧ Drawn0 w wc)
     case first =>
      have H := HC6.out
      clear HC6
      by_cases c7 : a0 ≥ 16
      ·rw [if_pos c7] at H
       have c7b0 : decide (16 ≤ a0) = true := decide_eq_true c7
       clear c7
       (first | rw [c7b0] | (simp only [i64_w, i32_w]; rw [c7b0]) | skip)
       have H' := Aside0.mk H
       clear H
       go_wp2
       go_meet
       case rel => exact ⟨_, (decide (a0 ≤ 25)), (by first | rfl | (simp; done) | (simp [*]; done)), H', ⟨by have := HJ2.out; first | omega | exact Nat.le_refl _⟩, by repeat (first | exact Drawn0.refl _ | apply Drawn0.step)⟩
      ·rw [if_neg c7] at H
       have c7b0 : decide (16 ≤ a0) = false := decide_eq_false c7
       clear c7
       (first | rw [c7b0] | (simp only [i64_w, i32_w]; rw [c7b0]) | skip)
       have H' := Aside0.mk H
       clear H
       go_wp2
       go_meet
       case rel => exact ⟨_, (false), (by first | rfl | (simp; done) | (simp [*]; done)), H', ⟨by have := HJ2.out; first | omega | exact Nat.le_refl _⟩, by repeat (first | exact Drawn0.refl _ | apply Drawn0.step)⟩
     case rest =>
      clear HC6
      try clear c2
      try clear c2b0
      try clear p2
      try clear c4
      try clear c4b0
      try clear c5
      try clear p6
      try clear c7
      try clear c7b0
      try clear p2
      obtain ⟨kq, x22_5, rfl, HA, HJ5, ⟨mc5, rfl⟩⟩ := hcut
      cases kq with
      | zero => exact absurd HA.out (by simp [diff_Trail.j1])
      | succ kj5 =>
       have H := HA.out
       clear HA
       simp only [diff_Trail.j1] at H
       by_cases c8 : x22_5 = true
       ·subst c8
        have H1 : (some (wrap64 ((wrap64 ((wrap64 (a0)) - 16)) + 6), true)) = some (r1, r2) := by rw [if_pos rfl] at H; exact H
        clear H
        have H := H1
        clear H1
        simp only [Option.some.injEq, Prod.mk.injEq] at H
        obtain ⟨rfl, rfl⟩ := H
        go_wp2
        go_ret2
        exact ⟨by first | rfl | (simp; done) | (simp [*]; done), by repeat (first | exact Drawn0.refl _ | apply Drawn0.step)⟩
       ·replace c8 := Bool.eq_false_iff.mpr c8
        subst c8
        have H1 : (if a0 ≥ 1 then (if a0 ≤ 6 then (some (wrap64 ((wrap64 (a0)) - 1), true)) else (some (0, false))) else (some (0, false))) = some (r1, r2) := by rw [if_neg (show ¬ (false = true) by decide)] at H; exact H
        clear H
        have H := H1
        clear H1
        by_cases c9 : a0 ≥ 1
        ·rw [if_pos c9] at H
         have c9b0 : decide (1 ≤ a0) = true := decide_eq_true c9
         clear c9
         by_cases c10 : a0 ≤ 6
         ·rw [if_pos c10] at H
          have c10b0 : decide (a0 ≤ 6) = true := decide_eq_true c10
          clear c10
          simp only [Option.some.injEq, Prod.mk.injEq] at H
          obtain ⟨rfl, rfl⟩ := H
          go_wp2
          go_ret2
          exact ⟨by first | rfl | (simp; done) | (simp [*]; done), by repeat (first | exact Drawn0.refl _ | apply Drawn0.step)⟩
         ·rw [if_neg c10] at H
          have c10b0 : decide (a0 ≤ 6) = false := decide_eq_false c10
          clear c10
          simp only [Option.some.injEq, Prod.mk.injEq] at H
          obtain ⟨rfl, rfl⟩ := H
          go_wp2
          go_ret2
          exact ⟨by first | rfl | (simp; done) | (simp [*]; done), by repeat (first | exact Drawn0.refl _ | apply Drawn0.step)⟩
        ·rw [if_neg c9] at H
         have c9b0 : decide (1 ≤ a0) = false := decide_eq_false c9
         clear c9
         simp only [Option.some.injEq, Prod.mk.injEq] at H
         obtain ⟨rfl, rfl⟩ := H
         go_wp2
         go_ret2
         exact ⟨by first | rfl | (simp; done) | (simp [*]; done), by repeat (first | exact Drawn0.refl _ | apply Drawn0.step)⟩
mutual
def diff_Range.j0 : Nat → ByteArray → Bool → Option (Int × Int × Int × Bool)
 | 0, _, _ => none
 | k + 1, x0, x24 => if x24 = true then (some (0, 0, 0, false)) else (if 0 < (x0.size : Int) then ((diff_first.f (bt x0 0)).bind fun bt101 => (if (x0.size : Int) > (wrap64 (bt101.2 + 1)) then (some (0, 0, 0, false)) else (diff_Range.l0 k x0 bt101.1 bt101.2 0 1 1))) else (none))
def diff_Range.l0 : Nat → ByteArray → Int → Int → Int → Int → Int → Option (Int × Int × Int × Bool)
 | 0, _, _, _, _, _, _ => none
 | k + 1, x0, x6, x7, x8, x9, x10 => if x10 ≤ x7 then (if x10 ≥ (x0.size : Int) then (diff_Range.l0 k x0 x6 x7 (wrap64 (x8 * 243)) (wrap64 (x9 * 243)) (wrap64 (x10 + 1))) else (if 0 ≤ x10 then (if x10 < (x0.size : Int) then ((diff_Trail.f k (bt x0 x10)).bind fun bt103 => (if bt103.2 = true then (diff_Range.l0 k x0 x6 x7 (wrap64 ((wrap64 (x8 * 243)) + bt103.1)) x9 (wrap64 (x10 + 1))) else (some (0, 0, 0, false)))) else (none)) else (none))) else (some (wrap64 (x6 + x8), wrap64 ((wrap64 ((wrap64 (x6 + x8)) + x9)) - 1), wrap64 (x7 + 1), true))
end
def diff_Range.f (k : Nat) (a0 : ByteArray) : Option (Int × Int × Int × Bool) := if a0.toList = ([] : List UInt8) then (diff_Range.j0 k a0 true) else (if 0 < (a0.size : Int) then (if (bt a0 0) < 33 then (diff_Range.j0 k a0 true) else (diff_Range.j0 k a0 (decide ((bt a0 0) > 254)))) else (none))
theorem diff_Range.mono_l : ∀ k, (∀ y0 y1, LeO (diff_Range.j0 k y0 y1) (diff_Range.j0 (k + 1) y0 y1)) ∧ (∀ y0 y1 y2 y3 y4 y5, LeO (diff_Range.l0 k y0 y1 y2 y3 y4 y5) (diff_Range.l0 (k + 1) y0 y1 y2 y3 y4 y5))
 | 0 => ⟨fun _ _ r h => by simp [diff_Range.j0] at h, fun _ _ _ _ _ _ r h => by simp [diff_Range.l0] at h⟩
 | k + 1 => by
  obtain ⟨ih0, ih1⟩ := diff_Range.mono_l k
  refine ⟨?_, ?_⟩
  ·intro y0 y1
   unfold diff_Range.j0
   repeat' first
   | (with_reducible exact ih0 _ _)
   | (with_reducible exact ih1 _ _ _ _ _ _)
   | (with_reducible exact diff_Trail.mono _ _)
   | (with_reducible exact LeO.refl _)
   | (with_reducible exact LeO.none _)
   | (with_reducible refine LeO.ite ?_ ?_)
   | (with_reducible refine LeO.bind ?_ (fun _ => ?_))
   | exact ih0 _ _
   | exact ih1 _ _ _ _ _ _
   | exact diff_Trail.mono _ _
   | exact LeO.none _
   | refine LeO.ite ?_ ?_
   | refine LeO.bind ?_ (fun _ => ?_)
  ·intro y0 y1 y2 y3 y4 y5
   unfold diff_Range.l0
   repeat' first
   | (with_reducible exact ih0 _ _)
   | (with_reducible exact ih1 _ _ _ _ _ _)
   | (with_reducible exact diff_Trail.mono _ _)
   | (with_reducible exact LeO.refl _)
   | (with_reducible exact LeO.none _)
   | (with_reducible refine LeO.ite ?_ ?_)
   | (with_reducible refine LeO.bind ?_ (fun _ => ?_))
   | exact ih0 _ _
   | exact ih1 _ _ _ _ _ _
   | exact diff_Trail.mono _ _
   | exact LeO.none _
   | refine LeO.ite ?_ ?_
   | refine LeO.bind ?_ (fun _ => ?_)
theorem diff_Range.mono : ∀ a0 k, LeO (diff_Range.f k a0) (diff_Range.f (k + 1) a0) := by
 intro a0 k
 obtain ⟨ih0, ih1⟩ := diff_Range.mono_l k
 unfold diff_Range.f
 repeat' first
   | (with_reducible exact ih0 _ _)
   | (with_reducible exact ih1 _ _ _ _ _ _)
   | (with_reducible exact diff_Trail.mono _ _)
   | (with_reducible exact LeO.refl _)
   | (with_reducible exact LeO.none _)
   | (with_reducible refine LeO.ite ?_ ?_)
   | (with_reducible refine LeO.bind ?_ (fun _ => ?_))
   | exact ih0 _ _
   | exact ih1 _ _ _ _ _ _
   | exact diff_Trail.mono _ _
   | exact LeO.none _
   | refine LeO.ite ?_ ?_
   | refine LeO.bind ?_ (fun _ => ?_)
set_option maxHeartbeats 8000000 in
set_option maxRecDepth 100000 in
theorem diff_Range.calls (k : Nat) (a0 : ByteArray) (r1 : Int) (r2 : Int) (r3 : Int) (r4 : Bool) (w : World) (h : diff_Range.f k a0 = some (r1, r2, r3, r4)) :
  Calls Tryz.prog 227 #[.string a0] w fun e w' => e = .returned (.tuple #[.int .i64 r1, .int .i64 r2, .int .i64 r3, .bool r4]) ∧ Drawn0 w w' := by
 have H : (if a0.toList = ([] : List UInt8) then (diff_Range.j0 k a0 true) else (if 0 < (a0.size : Int) then (if (bt a0 0) < 33 then (diff_Range.j0 k a0 true) else (diff_Range.j0 k a0 (decide ((bt a0 0) > 254)))) else (none))) = some (r1, r2, r3, r4) := h
 clear h
 have HC2 := Aside0.mk H
 clear H
 go_enter Tryz.func227, Tryz.ntmps227
 go_upto_region 1 with (fail)
 go_cut [24] (fun v24 wc => ∃ (kq : Nat) (x24_1 : Bool), v24 = .bool x24_1 ∧ Aside0 (diff_Range.j0 kq a0 x24_1 = some (r1, r2, r3, r4)) ∧ Aside0 (kq ≤ k) ∧ Drawn0 w wc)
 case first =>
  have H := HC2.out
  clear HC2
  by_cases c3 : a0.toList = ([] : List UInt8)
  ·rw [if_pos c3] at H
   have c3b0 : (a0.toList == ([] : List UInt8)) = true := beq_iff_eq.mpr c3
   have c3b1 : (a0.toList != ([] : List UInt8)) = false := bne_eq_false_iff_eq.mpr c3
   clear c3
   (first | rw [c3b0] | (simp only [i64_w, i32_w]; rw [c3b0]) | skip)
   have H' := Aside0.mk H
   clear H
   go_wp2
   go_meet
   case rel => exact ⟨_, (true), (by first | rfl | (simp; done) | (simp [*]; done)), H', ⟨by first | omega | exact Nat.le_refl _⟩, by repeat (first | exact Drawn0.refl _ | apply Drawn0.step)⟩
  ·rw [if_neg c3] at H
   have c3b0 : (a0.toList == ([] : List UInt8)) = false := beq_eq_false_iff_ne.mpr c3
   have c3b1 : (a0.toList != ([] : List UInt8)) = true := bne_iff_ne.mpr c3
   (first | rw [c3b0] | (simp only [i64_w, i32_w]; rw [c3b0]) | skip)
   by_cases c4 : 0 < (a0.size : Int)
   ·rw [if_pos c4] at H
    have c4b0 : decide (0 < (a0.size : Int)) = true := decide_eq_true c4
    have c4b1 : decide (0 < a0.size) = true := decide_eq_true (by omega)
    clear c4
    by_cases c6 : (bt a0 0) < 33
    ·rw [if_pos c6] at H
     have c6b0 : decide ((bt a0 0) < 33) = true := decide_eq_true c6
     clear c6
     have H' := Aside0.mk H
     clear H
     have p5 : 0 ≤ (0 : Int) := (by omega)
     have q5 : 0 < a0.size := (by have : (0 : Int) < (a0.size : Int) := of_decide_eq_true (by first | (with_reducible assumption) | assumption); omega)
     have hx5 : ∀ h : 0 < a0.size, ((a0[0]'h).toNat : Int) = bt a0 0 := bt_at a0 0
     clear p5
     have qi5 : (0 < (a0.size : Int)) = True := eq_true (of_decide_eq_true (by first | (with_reducible assumption) | assumption))
     replace q5 := eq_true q5
     go_wp2
     go_meet
     case rel => exact ⟨_, (true), (by first | rfl | (simp; done) | (simp [*]; done)), H', ⟨by first | omega | exact Nat.le_refl _⟩, by repeat (first | exact Drawn0.refl _ | apply Drawn0.step)⟩
    ·rw [if_neg c6] at H
     have c6b0 : decide ((bt a0 0) < 33) = false := decide_eq_false c6
     clear c6
     have H' := Aside0.mk H
     clear H
     have p5 : 0 ≤ (0 : Int) := (by omega)
     have q5 : 0 < a0.size := (by have : (0 : Int) < (a0.size : Int) := of_decide_eq_true (by first | (with_reducible assumption) | assumption); omega)
     have hx5 : ∀ h : 0 < a0.size, ((a0[0]'h).toNat : Int) = bt a0 0 := bt_at a0 0
     clear p5
     have qi5 : (0 < (a0.size : Int)) = True := eq_true (of_decide_eq_true (by first | (with_reducible assumption) | assumption))
     replace q5 := eq_true q5
     have p7 : 0 ≤ (0 : Int) := (by omega)
     have q7 : 0 < a0.size := (by have : (0 : Int) < (a0.size : Int) := of_decide_eq_true (by first | (with_reducible assumption) | assumption); omega)
     have hx7 : ∀ h : 0 < a0.size, ((a0[0]'h).toNat : Int) = bt a0 0 := bt_at a0 0
     clear p7
     have qi7 : (0 < (a0.size : Int)) = True := eq_true (of_decide_eq_true (by first | (with_reducible assumption) | assumption))
     replace q7 := eq_true q7
     go_wp2
     go_meet
     case rel => exact ⟨_, (decide ((bt a0 0) > 254)), (by first | rfl | (simp; done) | (simp [*]; done)), H', ⟨by first | omega | exact Nat.le_refl _⟩, by repeat (first | exact Drawn0.refl _ | apply Drawn0.step)⟩
   ·rw [if_neg c4] at H
    exact absurd H (by simp)
 case rest =>
  clear HC2
  try clear c2
  try clear p2
  try clear c3
  try clear c3b0
  try clear c3b1
  try clear c4
  try clear c4b0
  try clear c4b1
  try clear p5
  try clear q5
  try clear hx5
  try clear qi5
  try clear c6
  try clear c6b0
  try clear p7
  try clear q7
  try clear hx7
  try clear qi7
  try clear p5
  try clear p7
  try clear q5
  try clear q7
  obtain ⟨kq, x24_1, rfl, HA, HJ1, ⟨mc1, rfl⟩⟩ := hcut
  cases kq with
  | zero => exact absurd HA.out (by simp [diff_Range.j0])
  | succ kj1 =>
   have H := HA.out
   clear HA
   simp only [diff_Range.j0] at H
   by_cases c8 : x24_1 = true
   ·subst c8
    have H1 : (some (0, 0, 0, false)) = some (r1, r2, r3, r4) := by rw [if_pos rfl] at H; exact H
    clear H
    have H := H1
    clear H1
    simp only [Option.some.injEq, Prod.mk.injEq] at H
    obtain ⟨rfl, rfl, rfl, rfl⟩ := H
    go_wp2
    refine bodyPost_ret (results_list (rs := [.tmp 2, .tmp 3, .tmp 4, .tmp 5]) rfl (by simp) (.tmp (.tmp (.tmp (.tmp .nil))))) rfl ?_
    exact ⟨by first | rfl | (simp; done) | (simp [*]; done), by repeat (first | exact Drawn0.refl _ | apply Drawn0.step)⟩
   ·replace c8 := Bool.eq_false_iff.mpr c8
    subst c8
    have H1 : (if 0 < (a0.size : Int) then ((diff_first.f (bt a0 0)).bind fun bt101 => (if (a0.size : Int) > (wrap64 (bt101.2 + 1)) then (some (0, 0, 0, false)) else (diff_Range.l0 kj1 a0 bt101.1 bt101.2 0 1 1))) else (none)) = some (r1, r2, r3, r4) := by rw [if_neg (show ¬ (false = true) by decide)] at H; exact H
    clear H
    have H := H1
    clear H1
    by_cases c9 : 0 < (a0.size : Int)
    ·rw [if_pos c9] at H
     have c9b0 : decide (0 < (a0.size : Int)) = true := decide_eq_true c9
     have c9b1 : decide (0 < a0.size) = true := decide_eq_true (by omega)
     clear c9
     replace H := Option.bind_eq_some_iff.mp H
     obtain ⟨⟨t101, t102⟩, A110, H⟩ := H
     replace H : (if (a0.size : Int) > (wrap64 (t102 + 1)) then (some (0, 0, 0, false)) else (diff_Range.l0 kj1 a0 t101 t102 0 1 1)) = some (r1, r2, r3, r4) := H
     have A11 := Aside0.mk A110
     clear A110
     by_cases c12 : (a0.size : Int) > (wrap64 (t102 + 1))
     ·rw [if_pos c12] at H
      have c12b0 : decide ((wrap64 (t102 + 1)) < (a0.size : Int)) = true := decide_eq_true c12
      clear c12
      simp only [Option.some.injEq, Prod.mk.injEq] at H
      obtain ⟨rfl, rfl, rfl, rfl⟩ := H
      have p10 : 0 ≤ (0 : Int) := (by omega)
      have q10 : 0 < a0.size := (by have : (0 : Int) < (a0.size : Int) := of_decide_eq_true (by first | (with_reducible assumption) | assumption); omega)
      have hx10 : ∀ h : 0 < a0.size, ((a0[0]'h).toNat : Int) = bt a0 0 := bt_at a0 0
      clear p10
      have qi10 : (0 < (a0.size : Int)) = True := eq_true (of_decide_eq_true (by first | (with_reducible assumption) | assumption))
      replace q10 := eq_true q10
      go_wp2_with (first | ((with_reducible refine gate_callee (f := 229) rfl ?_); refine goesL_ (some 28) rfl rfl Tryz.func229 (by kernel_rfl) rfl #[.int .u8 (bt a0 0)] rfl (by (try simp only [List.map_toArray, List.map_cons, List.map_nil]); first | done | rfl | (simp only [List.length_drop, List.length_take]; rfl)) ?_; (with_reducible refine (diff_first.calls (bt a0 0) t101 t102 _ A11.out).mono ?_); rintro e w' ⟨rfl, ⟨nd, rfl⟩⟩; refine ⟨_, rfl, ?_⟩))
      refine bodyPost_ret (results_list (rs := [.tmp 2, .tmp 3, .tmp 4, .tmp 5]) rfl (by simp) (.tmp (.tmp (.tmp (.tmp .nil))))) rfl ?_
      exact ⟨by first | rfl | (simp; done) | (simp [*]; done), by repeat (first | exact Drawn0.refl _ | apply Drawn0.step)⟩
     ·rw [if_neg c12] at H
      have c12b0 : decide ((wrap64 (t102 + 1)) < (a0.size : Int)) = false := decide_eq_false c12
      clear c12
      have H' := Aside0.mk H
      clear H
      have p10 : 0 ≤ (0 : Int) := (by omega)
      have q10 : 0 < a0.size := (by have : (0 : Int) < (a0.size : Int) := of_decide_eq_true (by first | (with_reducible assumption) | assumption); omega)
      have hx10 : ∀ h : 0 < a0.size, ((a0[0]'h).toNat : Int) = bt a0 0 := bt_at a0 0
      clear p10
      have qi10 : (0 < (a0.size : Int)) = True := eq_true (of_decide_eq_true (by first | (with_reducible assumption) | assumption))
      replace q10 := eq_true q10
      go_wp2_with (first | ((with_reducible refine gate_callee (f := 229) rfl ?_); refine goesL_ (some 28) rfl rfl Tryz.func229 (by kernel_rfl) rfl #[.int .u8 (bt a0 0)] rfl (by (try simp only [List.map_toArray, List.map_cons, List.map_nil]); first | done | rfl | (simp only [List.length_drop, List.length_take]; rfl)) ?_; (with_reducible refine (diff_first.calls (bt a0 0) t101 t102 _ A11.out).mono ?_); rintro e w' ⟨rfl, ⟨nd, rfl⟩⟩; refine ⟨_, rfl, ?_⟩))
      go_loopg [8, 9, 10] kj1 (fun kq v8 v9 v10 w' => ∃ (x8_2 : Int) (x9_2 : Int) (x10_2 : Int), v8 = .int .i64 x8_2 ∧ v9 = .int .i64 x9_2 ∧ v10 = .int .i64 x10_2 ∧ Aside0 (diff_Range.l0 kq a0 t101 t102 x8_2 x9_2 x10_2 = some (r1, r2, r3, r4)) ∧ Aside0 (kq ≤ kj1) ∧ Drawn0 w w')
      case atStart => exact ⟨(0), (1), (1), (by first | rfl | (simp; done) | (simp [*]; done)), (by first | rfl | (simp; done) | (simp [*]; done)), (by first | rfl | (simp; done) | (simp [*]; done)), H', ⟨Nat.le_refl _⟩, by repeat (first | exact Drawn0.refl _ | apply Drawn0.step)⟩
      case round =>
       clear H'
       try clear c1
       try clear p1
       try clear q1
       try clear hx1
       try clear qi1
       try clear c2
       try clear p2
       try clear c3
       try clear c3b0
       try clear c3b1
       try clear c4
       try clear c4b0
       try clear c4b1
       try clear p5
       try clear q5
       try clear hx5
       try clear qi5
       try clear c6
       try clear c6b0
       try clear p6
       try clear p7
       try clear q7
       try clear hx7
       try clear qi7
       try clear c8
       try clear c9
       try clear c9b0
       try clear c9b1
       try clear p10
       try clear q10
       try clear hx10
       try clear qi10
       try clear c12
       try clear c12b0
       try clear p10
       try clear p2
       try clear p5
       try clear p7
       try clear q10
       try clear q5
       try clear q7
       obtain ⟨x8_2, x9_2, x10_2, rfl, rfl, rfl, HA, HK2, ⟨m2, rfl⟩⟩ := hrel
       cases gk with
       | zero => exact absurd HA.out (by simp [diff_Range.l0])
       | succ k2 =>
        have H := HA.out
        clear HA
        simp only [diff_Range.l0] at H
        by_cases c13 : x10_2 ≤ t102
        ·rw [if_pos c13] at H
         have c13b0 : decide (x10_2 ≤ t102) = true := decide_eq_true c13
         clear c13
         by_cases c14 : x10_2 ≥ (a0.size : Int)
         ·rw [if_pos c14] at H
          have c14b0 : decide ((a0.size : Int) ≤ x10_2) = true := decide_eq_true c14
          clear c14
          have H' := Aside0.mk H
          clear H
          go_wp2
          go_roundg k2
          case measure => have := HJ1.out; have := HK2.out; omega
          case rel => exact ⟨(wrap64 (x8_2 * 243)), (wrap64 (x9_2 * 243)), (wrap64 (x10_2 + 1)), (by first | rfl | (simp; done) | (simp [*]; done)), (by first | rfl | (simp; done) | (simp [*]; done)), (by first | rfl | (simp; done) | (simp [*]; done)), H', ⟨by have := HJ1.out; have := HK2.out; omega⟩, by repeat (first | exact Drawn0.refl _ | apply Drawn0.step)⟩
         ·rw [if_neg c14] at H
          have c14b0 : decide ((a0.size : Int) ≤ x10_2) = false := decide_eq_false c14
          clear c14
          by_cases c15 : 0 ≤ x10_2
          ·rw [if_pos c15] at H
           have c15b0 : decide (0 ≤ x10_2) = true := decide_eq_true c15
           clear c15
           by_cases c16 : x10_2 < (a0.size : Int)
           ·rw [if_pos c16] at H
            have c16b0 : decide (x10_2 < (a0.size : Int)) = true := decide_eq_true c16
            clear c16
            replace H := Option.bind_eq_some_iff.mp H
            obtain ⟨⟨t103, t104⟩, A180, H⟩ := H
            replace H : (if t104 = true then (diff_Range.l0 k2 a0 t101 t102 (wrap64 ((wrap64 (x8_2 * 243)) + t103)) x9_2 (wrap64 (x10_2 + 1))) else (some (0, 0, 0, false))) = some (r1, r2, r3, r4) := H
            have A18 := Aside0.mk A180
            clear A180
            by_cases c19 : t104 = true
            ·subst c19
             have H1 : (diff_Range.l0 k2 a0 t101 t102 (wrap64 ((wrap64 (x8_2 * 243)) + t103)) x9_2 (wrap64 (x10_2 + 1))) = some (r1, r2, r3, r4) := by rw [if_pos rfl] at H; exact H
             clear H
             have H := H1
             clear H1
             have H' := Aside0.mk H
             clear H
             have p17 : 0 ≤ (x10_2 : Int) := of_decide_eq_true (by first | (with_reducible assumption) | assumption)
             have q17 : x10_2 < (a0.size : Int) := of_decide_eq_true (by first | (with_reducible assumption) | assumption)
             have hx17 := bt_at a0 x10_2
             replace p17 := eq_true p17
             replace q17 := eq_true q17
             go_wp2_with (first | ((with_reducible refine gate_callee (f := 230) rfl ?_); refine goesL_ (some 53) rfl rfl Tryz.func230 (by kernel_rfl) rfl #[.int .u8 (bt a0 x10_2)] rfl (by (try simp only [List.map_toArray, List.map_cons, List.map_nil]); first | done | rfl | (simp only [List.length_drop, List.length_take]; rfl)) ?_; (with_reducible refine (diff_Trail.calls k2 (bt a0 x10_2) t103 true _ A18.out).mono ?_); rintro e w' ⟨rfl, ⟨nd, rfl⟩⟩; refine ⟨_, rfl, ?_⟩))
             go_roundg k2
             case measure => have := HJ1.out; have := HK2.out; omega
             case rel => exact ⟨(wrap64 ((wrap64 (x8_2 * 243)) + t103)), (x9_2), (wrap64 (x10_2 + 1)), (by first | rfl | (simp; done) | (simp [*]; done)), (by first | rfl | (simp; done) | (simp [*]; done)), (by first | rfl | (simp; done) | (simp [*]; done)), H', ⟨by have := HJ1.out; have := HK2.out; omega⟩, by repeat (first | exact Drawn0.refl _ | apply Drawn0.step)⟩
            ·replace c19 := Bool.eq_false_iff.mpr c19
             subst c19
             have H1 : (some (0, 0, 0, false)) = some (r1, r2, r3, r4) := by rw [if_neg (show ¬ (false = true) by decide)] at H; exact H
             clear H
             have H := H1
             clear H1
             simp only [Option.some.injEq, Prod.mk.injEq] at H
             obtain ⟨rfl, rfl, rfl, rfl⟩ := H
             have p17 : 0 ≤ (x10_2 : Int) := of_decide_eq_true (by first | (with_reducible assumption) | assumption)
             have q17 : x10_2 < (a0.size : Int) := of_decide_eq_true (by first | (with_reducible assumption) | assumption)
             have hx17 := bt_at a0 x10_2
             replace p17 := eq_true p17
             replace q17 := eq_true q17
             go_wp2_with (first | ((with_reducible refine gate_callee (f := 230) rfl ?_); refine goesL_ (some 53) rfl rfl Tryz.func230 (by kernel_rfl) rfl #[.int .u8 (bt a0 x10_2)] rfl (by (try simp only [List.map_toArray, List.map_cons, List.map_nil]); first | done | rfl | (simp only [List.length_drop, List.length_take]; rfl)) ?_; (with_reducible refine (diff_Trail.calls k2 (bt a0 x10_2) t103 false _ A18.out).mono ?_); rintro e w' ⟨rfl, ⟨nd, rfl⟩⟩; refine ⟨_, rfl, ?_⟩))
             refine bodyPost_ret (results_list (rs := [.tmp 2, .tmp 3, .tmp 4, .tmp 5]) rfl (by simp) (.tmp (.tmp (.tmp (.tmp .nil))))) rfl ?_
             exact ⟨by first | rfl | (simp; done) | (simp [*]; done), by repeat (first | exact Drawn0.refl _ | apply Drawn0.step)⟩
           ·rw [if_neg c16] at H
            exact absurd H (by simp)
          ·rw [if_neg c15] at H
           exact absurd H (by simp)
        ·rw [if_neg c13] at H
         have c13b0 : decide (x10_2 ≤ t102) = false := decide_eq_false c13
         clear c13
         simp only [Option.some.injEq, Prod.mk.injEq] at H
         obtain ⟨rfl, rfl, rfl, rfl⟩ := H
         go_wp2
         refine bodyPost_ret (results_list (rs := [.tmp 2, .tmp 3, .tmp 4, .tmp 5]) rfl (by simp) (.tmp (.tmp (.tmp (.tmp .nil))))) rfl ?_
         exact ⟨by first | rfl | (simp; done) | (simp [*]; done), by repeat (first | exact Drawn0.refl _ | apply Drawn0.step)⟩
    ·rw [if_neg c9] at H
     exact absurd H (by simp)
def diff_place.j0 : Nat → Int → Bool → Option (Int × Int × Int)
 | 0, _, _ => none
 | k + 1, x0, x5 => if x5 = true then (some (0, wrap64 (144 + x0), 0)) else (if x0 > 187659 then (some (wrap64 ((wrap64 (x0 - 187659)) - 1), 254, 3)) else (if x0 > 10512 then (some (wrap64 ((wrap64 (x0 - 10512)) - 1), 251, 2)) else (if x0 > 63 then (some (wrap64 ((wrap64 (x0 - 63)) - 1), 208, 1)) else (if x0 < (-187660) then (some (wrap64 (x0 - (-187660)), 34, 3)) else (if x0 < (-10513) then (some (wrap64 (x0 - (-10513)), 37, 2)) else (some (wrap64 (x0 - (-64)), 80, 1)))))))
def diff_place.f (k : Nat) (a0 : Int) : Option (Int × Int × Int) := if a0 ≥ (-64) then (diff_place.j0 k a0 (decide (a0 ≤ 63))) else (diff_place.j0 k a0 false)
theorem diff_place.mono_l : ∀ k, (∀ y0 y1, LeO (diff_place.j0 k y0 y1) (diff_place.j0 (k + 1) y0 y1))
 | 0 => fun _ _ r h => by simp [diff_place.j0] at h
 | k + 1 => by
  have ih0 := diff_place.mono_l k
  ·intro y0 y1
   unfold diff_place.j0
   repeat' first
   | (with_reducible exact ih0 _ _)
   | (with_reducible exact LeO.refl _)
   | (with_reducible exact LeO.none _)
   | (with_reducible refine LeO.ite ?_ ?_)
   | (with_reducible refine LeO.bind ?_ (fun _ => ?_))
   | exact ih0 _ _
   | exact LeO.none _
   | refine LeO.ite ?_ ?_
   | refine LeO.bind ?_ (fun _ => ?_)
theorem diff_place.mono : ∀ a0 k, LeO (diff_place.f k a0) (diff_place.f (k + 1) a0) := by
 intro a0 k
 have ih0 := diff_place.mono_l k
 unfold diff_place.f
 repeat' first
   | (with_reducible exact ih0 _ _)
   | (with_reducible exact LeO.refl _)
   | (with_reducible exact LeO.none _)
   | (with_reducible refine LeO.ite ?_ ?_)
   | (with_reducible refine LeO.bind ?_ (fun _ => ?_))
   | exact ih0 _ _
   | exact LeO.none _
   | refine LeO.ite ?_ ?_
   | refine LeO.bind ?_ (fun _ => ?_)
set_option maxHeartbeats 8000000 in
set_option maxRecDepth 100000 in
theorem diff_place.calls (k : Nat) (a0 : Int) (r1 : Int) (r2 : Int) (r3 : Int) (w : World) (h : diff_place.f k a0 = some (r1, r2, r3)) :
  Calls Tryz.prog 156 #[.int .i64 a0] w fun e w' => e = .returned (.tuple #[.int .i64 r1, .int .i64 r2, .int .i64 r3]) ∧ Drawn0 w w' := by
 have H : (if a0 ≥ (-64) then (diff_place.j0 k a0 (decide (a0 ≤ 63))) else (diff_place.j0 k a0 false)) = some (r1, r2, r3) := h
 clear h
 have HC2 := Aside0.mk H
 clear H
 go_enter Tryz.func156, Tryz.ntmps156
 go_upto_region 1 with (fail)
 go_cut [5] (fun v5 wc => ∃ (kq : Nat) (x5_1 : Bool), v5 = .bool x5_1 ∧ Aside0 (diff_place.j0 kq a0 x5_1 = some (r1, r2, r3)) ∧ Aside0 (kq ≤ k) ∧ Drawn0 w wc)
 case first =>
  have H := HC2.out
  clear HC2
  by_cases c3 : a0 ≥ (-64)
  ·rw [if_pos c3] at H
   have c3b0 : decide ((-64) ≤ a0) = true := decide_eq_true c3
   clear c3
   (first | rw [c3b0] | (simp only [i64_w, i32_w]; rw [c3b0]) | skip)
   have H' := Aside0.mk H
   clear H
   go_wp2
   go_meet
   case rel => exact ⟨_, (decide (a0 ≤ 63)), (by first | rfl | (simp; done) | (simp [*]; done)), H', ⟨by first | omega | exact Nat.le_refl _⟩, by repeat (first | exact Drawn0.refl _ | apply Drawn0.step)⟩
  ·rw [if_neg c3] at H
   have c3b0 : decide ((-64) ≤ a0) = false := decide_eq_false c3
   clear c3
   (first | rw [c3b0] | (simp only [i64_w, i32_w]; rw [c3b0]) | skip)
   have H' := Aside0.mk H
   clear H
   go_wp2
   go_meet
   case rel => exact ⟨_, (false), (by first | rfl | (simp; done) | (simp [*]; done)), H', ⟨by first | omega | exact Nat.le_refl _⟩, by repeat (first | exact Drawn0.refl _ | apply Drawn0.step)⟩
 case rest =>
  clear HC2
  try clear c1
  try clear p2
  try clear c3
  try clear c3b0
  obtain ⟨kq, x5_1, rfl, HA, HJ1, ⟨mc1, rfl⟩⟩ := hcut
  cases kq with
  | zero => exact absurd HA.out (by simp [diff_place.j0])
  | succ kj1 =>
   have H := HA.out
   clear HA
   simp only [diff_place.j0] at H
   by_cases c4 : x5_1 = true
   ·subst c4
    have H1 : (some (0, wrap64 (144 + a0), 0)) = some (r1, r2, r3) := by rw [if_pos rfl] at H; exact H
    clear H
    have H := H1
    clear H1
    simp only [Option.some.injEq, Prod.mk.injEq] at H
    obtain ⟨rfl, rfl, rfl⟩ := H
    go_wp2
    go_ret3
    exact ⟨by first | rfl | (simp; done) | (simp [*]; done), by repeat (first | exact Drawn0.refl _ | apply Drawn0.step)⟩
   ·replace c4 := Bool.eq_false_iff.mpr c4
    subst c4
    have H1 : (if a0 > 187659 then (some (wrap64 ((wrap64 (a0 - 187659)) - 1), 254, 3)) else (if a0 > 10512 then (some (wrap64 ((wrap64 (a0 - 10512)) - 1), 251, 2)) else (if a0 > 63 then (some (wrap64 ((wrap64 (a0 - 63)) - 1), 208, 1)) else (if a0 < (-187660) then (some (wrap64 (a0 - (-187660)), 34, 3)) else (if a0 < (-10513) then (some (wrap64 (a0 - (-10513)), 37, 2)) else (some (wrap64 (a0 - (-64)), 80, 1))))))) = some (r1, r2, r3) := by rw [if_neg (show ¬ (false = true) by decide)] at H; exact H
    clear H
    have H := H1
    clear H1
    by_cases c5 : a0 > 187659
    ·rw [if_pos c5] at H
     have c5b0 : decide (187659 < a0) = true := decide_eq_true c5
     clear c5
     simp only [Option.some.injEq, Prod.mk.injEq] at H
     obtain ⟨rfl, rfl, rfl⟩ := H
     go_wp2
     go_ret3
     exact ⟨by first | rfl | (simp; done) | (simp [*]; done), by repeat (first | exact Drawn0.refl _ | apply Drawn0.step)⟩
    ·rw [if_neg c5] at H
     have c5b0 : decide (187659 < a0) = false := decide_eq_false c5
     clear c5
     by_cases c6 : a0 > 10512
     ·rw [if_pos c6] at H
      have c6b0 : decide (10512 < a0) = true := decide_eq_true c6
      clear c6
      simp only [Option.some.injEq, Prod.mk.injEq] at H
      obtain ⟨rfl, rfl, rfl⟩ := H
      go_wp2
      go_ret3
      exact ⟨by first | rfl | (simp; done) | (simp [*]; done), by repeat (first | exact Drawn0.refl _ | apply Drawn0.step)⟩
     ·rw [if_neg c6] at H
      have c6b0 : decide (10512 < a0) = false := decide_eq_false c6
      clear c6
      by_cases c7 : a0 > 63
      ·rw [if_pos c7] at H
       have c7b0 : decide (63 < a0) = true := decide_eq_true c7
       clear c7
       simp only [Option.some.injEq, Prod.mk.injEq] at H
       obtain ⟨rfl, rfl, rfl⟩ := H
       go_wp2
       go_ret3
       exact ⟨by first | rfl | (simp; done) | (simp [*]; done), by repeat (first | exact Drawn0.refl _ | apply Drawn0.step)⟩
      ·rw [if_neg c7] at H
       have c7b0 : decide (63 < a0) = false := decide_eq_false c7
       clear c7
       by_cases c8 : a0 < (-187660)
       ·rw [if_pos c8] at H
        have c8b0 : decide (a0 < (-187660)) = true := decide_eq_true c8
        clear c8
        simp only [Option.some.injEq, Prod.mk.injEq] at H
        obtain ⟨rfl, rfl, rfl⟩ := H
        go_wp2
        go_ret3
        exact ⟨by first | rfl | (simp; done) | (simp [*]; done), by repeat (first | exact Drawn0.refl _ | apply Drawn0.step)⟩
       ·rw [if_neg c8] at H
        have c8b0 : decide (a0 < (-187660)) = false := decide_eq_false c8
        clear c8
        by_cases c9 : a0 < (-10513)
        ·rw [if_pos c9] at H
         have c9b0 : decide (a0 < (-10513)) = true := decide_eq_true c9
         clear c9
         simp only [Option.some.injEq, Prod.mk.injEq] at H
         obtain ⟨rfl, rfl, rfl⟩ := H
         go_wp2
         go_ret3
         exact ⟨by first | rfl | (simp; done) | (simp [*]; done), by repeat (first | exact Drawn0.refl _ | apply Drawn0.step)⟩
        ·rw [if_neg c9] at H
         have c9b0 : decide (a0 < (-10513)) = false := decide_eq_false c9
         clear c9
         simp only [Option.some.injEq, Prod.mk.injEq] at H
         obtain ⟨rfl, rfl, rfl⟩ := H
         go_wp2
         go_ret3
         exact ⟨by first | rfl | (simp; done) | (simp [*]; done), by repeat (first | exact Drawn0.refl _ | apply Drawn0.step)⟩
attribute [local go_sem] max2_int min2_int max_two min_two max_three min_three max_four min_four   -- for this text's walks alone
set_option linter.unusedVariables false
set_option linter.unusedSimpArgs false
def diff_Byte.j0 : Nat → Int → Bool → Option (Int × Bool)
 | 0, _, _ => none
 | k + 1, x0, x4 => if x4 = true then (some (0, false)) else (if x0 ≥ 20 then (some ((wrap64 ((wrap64 (x0 - 20)) + 33)) % 256, true)) else (if x0 ≥ 16 then (some ((wrap64 ((wrap64 (x0 - 16)) + 28)) % 256, true)) else (if x0 ≥ 6 then (some ((wrap64 ((wrap64 (x0 - 6)) + 16)) % 256, true)) else (some ((wrap64 (x0 + 1)) % 256, true)))))
def diff_Byte.f (k : Nat) (a0 : Int) : Option (Int × Bool) := if a0 < 0 then (diff_Byte.j0 k a0 true) else (diff_Byte.j0 k a0 (decide (a0 ≥ 243)))
theorem diff_Byte.mono_l : ∀ k, (∀ y0 y1, LeO (diff_Byte.j0 k y0 y1) (diff_Byte.j0 (k + 1) y0 y1))
 | 0 => fun _ _ r h => by simp [diff_Byte.j0] at h
 | k + 1 => by
  have ih0 := diff_Byte.mono_l k
  ·intro y0 y1
   unfold diff_Byte.j0
   repeat' first
   | (with_reducible exact ih0 _ _)
   | (with_reducible exact LeO.refl _)
   | (with_reducible exact LeO.none _)
   | (with_reducible refine LeO.ite ?_ ?_)
   | (with_reducible refine LeO.bind ?_ (fun _ => ?_))
   | exact ih0 _ _
   | exact LeO.none _
   | refine LeO.ite ?_ ?_
   | refine LeO.bind ?_ (fun _ => ?_)
theorem diff_Byte.mono : ∀ a0 k, LeO (diff_Byte.f k a0) (diff_Byte.f (k + 1) a0) := by
 intro a0 k
 have ih0 := diff_Byte.mono_l k
 unfold diff_Byte.f
 repeat' first
   | (with_reducible exact ih0 _ _)
   | (with_reducible exact LeO.refl _)
   | (with_reducible exact LeO.none _)
   | (with_reducible refine LeO.ite ?_ ?_)
   | (with_reducible refine LeO.bind ?_ (fun _ => ?_))
   | exact ih0 _ _
   | exact LeO.none _
   | refine LeO.ite ?_ ?_
   | refine LeO.bind ?_ (fun _ => ?_)
set_option maxHeartbeats 8000000 in
set_option maxRecDepth 100000 in
theorem diff_Byte.calls (k : Nat) (a0 : Int) (r1 : Int) (r2 : Bool) (w : World) (h : diff_Byte.f k a0 = some (r1, r2)) :
  Calls Tryz.prog 157 #[.int .i64 a0] w fun e w' => e = .returned (.tuple #[.int .u8 r1, .bool r2]) ∧ Drawn0 w w' := by
 have H : (if a0 < 0 then (diff_Byte.j0 k a0 true) else (diff_Byte.j0 k a0 (decide (a0 ≥ 243)))) = some (r1, r2) := h
 clear h
 have HC2 := Aside0.mk H
 clear H
 go_enter Tryz.func157, Tryz.ntmps157
 go_upto_region 1 with (fail)
 go_cut [4] (fun v4 wc => ∃ (kq : Nat) (x4_1 : Bool), v4 = .bool x4_1 ∧ Aside0 (diff_Byte.j0 kq a0 x4_1 = some (r1, r2)) ∧ Aside0 (kq ≤ k) ∧ Drawn0 w wc)
 case first =>
  have H := HC2.out
  clear HC2
  by_cases c3 : a0 < 0
  ·rw [if_pos c3] at H
   have c3b0 : decide (a0 < 0) = true := decide_eq_true c3
   clear c3
   (first | rw [c3b0] | (simp only [i64_w, i32_w]; rw [c3b0]) | skip)
   have H' := Aside0.mk H
   clear H
   go_wp2
   go_meet
   case rel => exact ⟨_, (true), (by first | rfl | (simp; done) | (simp [*]; done)), H', ⟨by first | omega | exact Nat.le_refl _⟩, by repeat (first | exact Drawn0.refl _ | apply Drawn0.step)⟩
  ·rw [if_neg c3] at H
   have c3b0 : decide (a0 < 0) = false := decide_eq_false c3
   clear c3
   (first | rw [c3b0] | (simp only [i64_w, i32_w]; rw [c3b0]) | skip)
   have H' := Aside0.mk H
   clear H
   go_wp2
   go_meet
   case rel => exact ⟨_, (decide (a0 ≥ 243)), (by first | rfl | (simp; done) | (simp [*]; done)), H', ⟨by first | omega | exact Nat.le_refl _⟩, by repeat (first | exact Drawn0.refl _ | apply Drawn0.step)⟩
 case rest =>
  clear HC2
  try clear c1
  try clear p2
  try clear c3
  try clear c3b0
  obtain ⟨kq, x4_1, rfl, HA, HJ1, ⟨mc1, rfl⟩⟩ := hcut
  cases kq with
  | zero => exact absurd HA.out (by simp [diff_Byte.j0])
  | succ kj1 =>
   have H := HA.out
   clear HA
   simp only [diff_Byte.j0] at H
   by_cases c4 : x4_1 = true
   ·subst c4
    have H1 : (some (0, false)) = some (r1, r2) := by rw [if_pos rfl] at H; exact H
    clear H
    have H := H1
    clear H1
    simp only [Option.some.injEq, Prod.mk.injEq] at H
    obtain ⟨rfl, rfl⟩ := H
    go_wp2
    go_ret2
    exact ⟨by first | rfl | (simp; done) | (simp [*]; done), by repeat (first | exact Drawn0.refl _ | apply Drawn0.step)⟩
   ·replace c4 := Bool.eq_false_iff.mpr c4
    subst c4
    have H1 : (if a0 ≥ 20 then (some ((wrap64 ((wrap64 (a0 - 20)) + 33)) % 256, true)) else (if a0 ≥ 16 then (some ((wrap64 ((wrap64 (a0 - 16)) + 28)) % 256, true)) else (if a0 ≥ 6 then (some ((wrap64 ((wrap64 (a0 - 6)) + 16)) % 256, true)) else (some ((wrap64 (a0 + 1)) % 256, true))))) = some (r1, r2) := by rw [if_neg (show ¬ (false = true) by decide)] at H; exact H
    clear H
    have H := H1
    clear H1
    by_cases c5 : a0 ≥ 20
    ·rw [if_pos c5] at H
     have c5b0 : decide (20 ≤ a0) = true := decide_eq_true c5
     clear c5
     simp only [Option.some.injEq, Prod.mk.injEq] at H
     obtain ⟨rfl, rfl⟩ := H
     go_wp2
     go_ret2
     exact ⟨by first | rfl | (simp; done) | (simp [*]; done), by repeat (first | exact Drawn0.refl _ | apply Drawn0.step)⟩
    ·rw [if_neg c5] at H
     have c5b0 : decide (20 ≤ a0) = false := decide_eq_false c5
     clear c5
     by_cases c6 : a0 ≥ 16
     ·rw [if_pos c6] at H
      have c6b0 : decide (16 ≤ a0) = true := decide_eq_true c6
      clear c6
      simp only [Option.some.injEq, Prod.mk.injEq] at H
      obtain ⟨rfl, rfl⟩ := H
      go_wp2
      go_ret2
      exact ⟨by first | rfl | (simp; done) | (simp [*]; done), by repeat (first | exact Drawn0.refl _ | apply Drawn0.step)⟩
     ·rw [if_neg c6] at H
      have c6b0 : decide (16 ≤ a0) = false := decide_eq_false c6
      clear c6
      by_cases c7 : a0 ≥ 6
      ·rw [if_pos c7] at H
       have c7b0 : decide (6 ≤ a0) = true := decide_eq_true c7
       clear c7
       simp only [Option.some.injEq, Prod.mk.injEq] at H
       obtain ⟨rfl, rfl⟩ := H
       go_wp2
       go_ret2
       exact ⟨by first | rfl | (simp; done) | (simp [*]; done), by repeat (first | exact Drawn0.refl _ | apply Drawn0.step)⟩
      ·rw [if_neg c7] at H
       have c7b0 : decide (6 ≤ a0) = false := decide_eq_false c7
       clear c7
       simp only [Option.some.injEq, Prod.mk.injEq] at H
       obtain ⟨rfl, rfl⟩ := H
       go_wp2
       go_ret2
       exact ⟨by first | rfl | (simp; done) | (simp [*]; done), by repeat (first | exact Drawn0.refl _ | apply Drawn0.step)⟩
mutual
def diff_Pack.j0 : Nat → Int → Bool → Option (ByteArray × Bool)
 | 0, _, _ => none
 | k + 1, x0, x15 => if x15 = true then (some ((⟨#[]⟩ : ByteArray), false)) else ((diff_place.f k x0).bind fun bt105 => (if 0 ≤ (wrap64 (bt105.2.2 + 1)) then (if (wrap64 (bt105.2.2 + 1) : Int).toNat ≤ 281474976710656 then (diff_Pack.l0 k bt105.1 bt105.2.1 (List.replicate (wrap64 (bt105.2.2 + 1) : Int).toNat 0) bt105.2.2) else (none)) else (none)))
def diff_Pack.l0 : Nat → Int → Int → List Int → Int → Option (ByteArray × Bool)
 | 0, _, _, _, _ => none
 | k + 1, x4, x5, x7, x8 => if x8 > 0 then (if (Int.tmod x4 243) < 0 then ((diff_Byte.f k (wrap64 ((Int.tmod x4 243) + 243))).bind fun bt111 => (if 0 ≤ x8 then (if x8 < (x7.length : Int) then (diff_Pack.l0 k (wrap64 ((wrap64 (Int.tdiv x4 243)) - 1)) x5 (x7.set (x8 : Int).toNat bt111.1) (wrap64 (x8 - 1))) else (none)) else (none))) else ((diff_Byte.f k (Int.tmod x4 243)).bind fun bt114 => (if 0 ≤ x8 then (if x8 < (x7.length : Int) then (diff_Pack.l0 k (wrap64 (Int.tdiv x4 243)) x5 (x7.set (x8 : Int).toNat bt114.1) (wrap64 (x8 - 1))) else (none)) else (none)))) else (if 0 < (x7.length : Int) then (some (strOfNums (x7.set (0 : Int).toNat ((wrap64 (x5 + x4)) % 256)), true)) else (none))
end
def diff_Pack.f (k : Nat) (a0 : Int) : Option (ByteArray × Bool) := if a0 < (-1114111) then (diff_Pack.j0 k a0 true) else (diff_Pack.j0 k a0 (decide (a0 > 1114111)))
theorem diff_Pack.mono_l : ∀ k, (∀ y0 y1, LeO (diff_Pack.j0 k y0 y1) (diff_Pack.j0 (k + 1) y0 y1)) ∧ (∀ y0 y1 y2 y3, LeO (diff_Pack.l0 k y0 y1 y2 y3) (diff_Pack.l0 (k + 1) y0 y1 y2 y3))
 | 0 => ⟨fun _ _ r h => by simp [diff_Pack.j0] at h, fun _ _ _ _ r h => by simp [diff_Pack.l0] at h⟩
 | k + 1 => by
  obtain ⟨ih0, ih1⟩ := diff_Pack.mono_l k
  refine ⟨?_, ?_⟩
  ·intro y0 y1
   unfold diff_Pack.j0
   repeat' first
   | (with_reducible exact ih0 _ _)
   | (with_reducible exact ih1 _ _ _ _)
   | (with_reducible exact diff_Byte.mono _ _)
   | (with_reducible exact diff_place.mono _ _)
   | (with_reducible exact LeO.refl _)
   | (with_reducible exact LeO.none _)
   | (with_reducible refine LeO.ite ?_ ?_)
   | (with_reducible refine LeO.bind ?_ (fun _ => ?_))
   | exact ih0 _ _
   | exact ih1 _ _ _ _
   | exact diff_Byte.mono _ _
   | exact diff_place.mono _ _
   | exact LeO.none _
   | refine LeO.ite ?_ ?_
   | refine LeO.bind ?_ (fun _ => ?_)
  ·intro y0 y1 y2 y3
   unfold diff_Pack.l0
   repeat' first
   | (with_reducible exact ih0 _ _)
   | (with_reducible exact ih1 _ _ _ _)
   | (with_reducible exact diff_Byte.mono _ _)
   | (with_reducible exact diff_place.mono _ _)
   | (with_reducible exact LeO.refl _)
   | (with_reducible exact LeO.none _)
   | (with_reducible refine LeO.ite ?_ ?_)
   | (with_reducible refine LeO.bind ?_ (fun _ => ?_))
   | exact ih0 _ _
   | exact ih1 _ _ _ _
   | exact diff_Byte.mono _ _
   | exact diff_place.mono _ _
   | exact LeO.none _
   | refine LeO.ite ?_ ?_
   | refine LeO.bind ?_ (fun _ => ?_)
theorem diff_Pack.mono : ∀ a0 k, LeO (diff_Pack.f k a0) (diff_Pack.f (k + 1) a0) := by
 intro a0 k
 obtain ⟨ih0, ih1⟩ := diff_Pack.mono_l k
 unfold diff_Pack.f
 repeat' first
   | (with_reducible exact ih0 _ _)
   | (with_reducible exact ih1 _ _ _ _)
   | (with_reducible exact diff_Byte.mono _ _)
   | (with_reducible exact diff_place.mono _ _)
   | (with_reducible exact LeO.refl _)
   | (with_reducible exact LeO.none _)
   | (with_reducible refine LeO.ite ?_ ?_)
   | (with_reducible refine LeO.bind ?_ (fun _ => ?_))
   | exact ih0 _ _
   | exact ih1 _ _ _ _
   | exact diff_Byte.mono _ _
   | exact diff_place.mono _ _
   | exact LeO.none _
   | refine LeO.ite ?_ ?_
   | refine LeO.bind ?_ (fun _ => ?_)
set_option maxHeartbeats 8000000 in
set_option maxRecDepth 100000 in
theorem diff_Pack.calls (k : Nat) (a0 : Int) (r1 : ByteArray) (r2 : Bool) (w : World) (h : diff_Pack.f k a0 = some (r1, r2)) :
  Calls Tryz.prog 154 #[.int .i64 a0] w fun e w' => e = .returned (.tuple #[.string r1, .bool r2]) ∧ Below w.heap.size w w' := by
 have HB := Aside0.mk (Below.refl w.heap.size w)
 have H : (if a0 < (-1114111) then (diff_Pack.j0 k a0 true) else (diff_Pack.j0 k a0 (decide (a0 > 1114111)))) = some (r1, r2) := h
 clear h
 have HC2 := Aside0.mk H
 clear H
 go_enter Tryz.func154, Tryz.ntmps154
 go_upto_region 1 with (fail)
 go_cut [15] (fun v15 wc => ∃ (kq : Nat) (x15_1 : Bool), v15 = .bool x15_1 ∧ Aside0 (diff_Pack.j0 kq a0 x15_1 = some (r1, r2)) ∧ Aside0 (kq ≤ k) ∧ Aside0 (Below w.heap.size w wc))
 case first =>
  have H := HC2.out
  clear HC2
  by_cases c3 : a0 < (-1114111)
  ·rw [if_pos c3] at H
   have c3b0 : decide (a0 < (-1114111)) = true := decide_eq_true c3
   clear c3
   (first | rw [c3b0] | (simp only [i64_w, i32_w]; rw [c3b0]) | skip)
   have H' := Aside0.mk H
   clear H
   go_wp2
   go_meet
   case rel => exact ⟨_, (true), (by first | rfl | (simp; done) | (simp [*]; done)), H', ⟨by first | omega | exact Nat.le_refl _⟩, ⟨by repeat (first | (with_reducible first | exact HB.out | apply below_alloc | apply pw_below_drewN | apply below_drew1) | exact HB.out)⟩⟩
  ·rw [if_neg c3] at H
   have c3b0 : decide (a0 < (-1114111)) = false := decide_eq_false c3
   clear c3
   (first | rw [c3b0] | (simp only [i64_w, i32_w]; rw [c3b0]) | skip)
   have H' := Aside0.mk H
   clear H
   go_wp2
   go_meet
   case rel => exact ⟨_, (decide (a0 > 1114111)), (by first | rfl | (simp; done) | (simp [*]; done)), H', ⟨by first | omega | exact Nat.le_refl _⟩, ⟨by repeat (first | (with_reducible first | exact HB.out | apply below_alloc | apply pw_below_drewN | apply below_drew1) | exact HB.out)⟩⟩
 case rest =>
  clear HC2
  try clear c1
  try clear p2
  try clear c3
  try clear c3b0
  obtain ⟨kq, x15_1, rfl, HA, HJ1, HB⟩ := hcut
  cases kq with
  | zero => exact absurd HA.out (by simp [diff_Pack.j0])
  | succ kj1 =>
   have H := HA.out
   clear HA
   simp only [diff_Pack.j0] at H
   by_cases c4 : x15_1 = true
   ·subst c4
    have H1 : (some ((⟨#[]⟩ : ByteArray), false)) = some (r1, r2) := by rw [if_pos rfl] at H; exact H
    clear H
    have H := H1
    clear H1
    simp only [Option.some.injEq, Prod.mk.injEq] at H
    obtain ⟨rfl, rfl⟩ := H
    go_wp2
    go_ret2
    exact ⟨by first | rfl | (simp [errW_none, errW_some] <;> rfl) | (simp [*, errW_none, errW_some] <;> rfl), by repeat (first | (with_reducible first | exact HB.out | apply below_alloc | apply pw_below_drewN | apply below_drew1) | exact HB.out)⟩
   ·replace c4 := Bool.eq_false_iff.mpr c4
    subst c4
    have H1 : ((diff_place.f kj1 a0).bind fun bt105 => (if 0 ≤ (wrap64 (bt105.2.2 + 1)) then (if (wrap64 (bt105.2.2 + 1) : Int).toNat ≤ 281474976710656 then (diff_Pack.l0 kj1 bt105.1 bt105.2.1 (List.replicate (wrap64 (bt105.2.2 + 1) : Int).toNat 0) bt105.2.2) else (none)) else (none))) = some (r1, r2) := by rw [if_neg (show ¬ (false = true) by decide)] at H; exact H
    clear H
    have H := H1
    clear H1
    replace H := Option.bind_eq_some_iff.mp H
    obtain ⟨⟨t105, t106, t107⟩, A50, H⟩ := H
    replace H : (if 0 ≤ (wrap64 (t107 + 1)) then (if (wrap64 (t107 + 1) : Int).toNat ≤ 281474976710656 then (diff_Pack.l0 kj1 t105 t106 (List.replicate (wrap64 (t107 + 1) : Int).toNat 0) t107) else (none)) else (none)) = some (r1, r2) := H
    have A5 := Aside0.mk A50
    clear A50
    obtain ⟨ji6, hji6⟩ : ∃ j_ : Int, (wrap64 (t107 + 1)) = j_ := ⟨_, rfl⟩
    replace H : (if 0 ≤ (ji6) then (if (ji6 : Int).toNat ≤ 281474976710656 then (diff_Pack.l0 kj1 t105 t106 (List.replicate (ji6 : Int).toNat 0) t107) else (none)) else (none)) = some (r1, r2) := by first | (rw [hji6] at H; exact H) | (simp only [hji6] at H ⊢; exact H)
    (try rw [hji6] at A5)
    have hji6w : (IntKind.i64.wrap (t107 + 1)) = ji6 := (i64_w _).trans hji6
    by_cases c7 : 0 ≤ (ji6)
    ·rw [if_pos c7] at H
     have c7b0 := eq_true c7
     have c7b1 : decide (0 ≤ (ji6)) = true := decide_eq_true c7
     clear c7
     by_cases c8 : (ji6 : Int).toNat ≤ 281474976710656
     ·rw [if_pos c8] at H
      have c8b0 := eq_true c8
      have c8b1 : decide ((ji6 : Int).toNat ≤ 281474976710656) = true := decide_eq_true c8
      clear c8
      obtain ⟨y108, hy108⟩ : ∃ y_ : List Int, y_ = (List.replicate (ji6 : Int).toNat 0) := ⟨_, rfl⟩
      replace H : (diff_Pack.l0 kj1 t105 t106 y108 t107) = some (r1, r2) := by first | (rw [hy108]; with_reducible exact H) | (have H2_ := (Option.bind_some _ _).symm.trans H; rw [hy108]; with_reducible exact H2_) | (have H2_ := (Option.bind_some _ _).symm.trans H; with_reducible exact H2_) | with_reducible exact H | (rw [hy108]; exact H) | exact H
      have Ny108 := Aside0.mk hy108
      clear hy108
      have H' := Aside0.mk H
      clear H
      go_wp2_with (first | ((with_reducible refine gate_callee (f := 156) rfl ?_); refine goesL_ (some 18) rfl rfl Tryz.func156 (by kernel_rfl) rfl #[.int .i64 a0] rfl (by (try simp only [List.map_toArray, List.map_cons, List.map_nil]); first | done | rfl | (simp only [List.length_drop, List.length_take]; rfl)) ?_; (with_reducible refine (diff_place.calls kj1 a0 t105 t106 t107 _ A5.out).mono ?_); rintro e w' ⟨rfl, ⟨nd, rfl⟩⟩; refine ⟨_, rfl, ?_⟩) | ((with_reducible refine gate_dst (N := 24) rfl ?_); refine Kd.R_make (Kd.int .u8) _ 5 rfl (N := 24) rfl 80 _ _ rfl ji6 rfl rfl Tryz.underlying80 (.int .u8 0) 1 info5 rfl (by decide) (by omega) 0 (ok := fun _ => True) (okp := fun _ => True) rfl (fun _ hk => hk) trivial (of_decide_eq_true (by first | (with_reducible assumption) | assumption)) (Nat.le_trans (Nat.mul_le_mul_right _ (of_decide_eq_true (by first | (with_reducible assumption) | assumption) : ji6.toNat ≤ 281474976710656)) (by omega)) (Below.refl _ _) (Nat.le_refl _) ?_; intro v109 w9 ho10 hb hg_ hnew_; clear hg_ hnew_; (first | rw [← Ny108.out] at ho10 | (simp only [Int.reduceToNat] at ho10; rw [← Ny108.out] at ho10)); have n0_ := Aside0.mk (Kd.R_lower ho10 (below_size (by repeat (first | (with_reducible first | exact HB.out | apply below_alloc | apply pw_below_drewN | apply below_drew1) | exact HB.out)))); have n1_ := Aside0.mk (below_step (by repeat (first | (with_reducible first | exact HB.out | apply below_alloc | apply pw_below_drewN | apply below_drew1) | exact HB.out)) hb); clear HB; have HO110 := n0_; have HB := n1_; clear n0_ n1_; clear hb ho10))
      go_loopg [4, 8] kj1 (fun kq v4 v8 w' => ∃ (x4_2 : Int) (x7_2 : List Int) (x8_2 : Int), v4 = .int .i64 x4_2 ∧ v8 = .int .i64 x8_2 ∧ Aside0 (diff_Pack.l0 kq x4_2 t106 x7_2 x8_2 = some (r1, r2)) ∧ Aside0 (kq ≤ kj1) ∧ Aside0 (Kd.R (Kd.int .u8) 5 w' w.heap.size (fun _ => True) v109 x7_2) ∧ Aside0 (Below w.heap.size w w'))
      case atStart => exact ⟨(t105), (y108), (t107), (by first | rfl | (simp; done) | (simp [*]; done)), (by first | rfl | (simp; done) | (simp [*]; done)), H', ⟨Nat.le_refl _⟩, ⟨by (with_reducible repeat (first | apply Kd.R_alloc | apply Kd.R_drewN | apply Kd.R_drew)); exact HO110.out⟩, ⟨by repeat (first | (with_reducible first | exact HB.out | apply below_alloc | apply pw_below_drewN | apply below_drew1) | exact HB.out)⟩⟩
      case round =>
       clear H'
       try clear c1
       try clear p2
       try clear c3
       try clear c3b0
       try clear c4
       try clear p6
       try clear c7
       try clear c7b0
       try clear c7b1
       try clear c8
       try clear c8b0
       try clear c8b1
       try clear p2
       obtain ⟨x4_2, x7_2, x8_2, rfl, rfl, HA, HK2, HO_7, HB⟩ := hrel
       cases gk with
       | zero => exact absurd HA.out (by simp [diff_Pack.l0])
       | succ k2 =>
        have H := HA.out
        clear HA
        simp only [diff_Pack.l0] at H
        by_cases c11 : x8_2 > 0
        ·rw [if_pos c11] at H
         have c11b0 : decide (0 < x8_2) = true := decide_eq_true c11
         clear c11
         by_cases c12 : (Int.tmod x4_2 243) < 0
         ·rw [if_pos c12] at H
          have c12b0 : decide ((Int.tmod x4_2 243) < 0) = true := decide_eq_true c12
          clear c12
          replace H := Option.bind_eq_some_iff.mp H
          obtain ⟨⟨t111, t112⟩, A130, H⟩ := H
          replace H : (if 0 ≤ x8_2 then (if x8_2 < (x7_2.length : Int) then (diff_Pack.l0 k2 (wrap64 ((wrap64 (Int.tdiv x4_2 243)) - 1)) t106 (x7_2.set (x8_2 : Int).toNat t111) (wrap64 (x8_2 - 1))) else (none)) else (none)) = some (r1, r2) := H
          have A13 := Aside0.mk A130
          clear A130
          by_cases c14 : 0 ≤ x8_2
          ·rw [if_pos c14] at H
           have c14b0 : decide (0 ≤ x8_2) = true := decide_eq_true c14
           clear c14
           by_cases c15 : x8_2 < (x7_2.length : Int)
           ·rw [if_pos c15] at H
            have c15b0 : decide (x8_2 < (x7_2.length : Int)) = true := decide_eq_true c15
            clear c15
            obtain ⟨y113, hy113⟩ : ∃ y_ : List Int, y_ = (x7_2.set (x8_2 : Int).toNat t111) := ⟨_, rfl⟩
            replace H : (diff_Pack.l0 k2 (wrap64 ((wrap64 (Int.tdiv x4_2 243)) - 1)) t106 y113 (wrap64 (x8_2 - 1))) = some (r1, r2) := by first | (rw [hy113]; with_reducible exact H) | (have H2_ := (Option.bind_some _ _).symm.trans H; rw [hy113]; with_reducible exact H2_) | (have H2_ := (Option.bind_some _ _).symm.trans H; with_reducible exact H2_) | with_reducible exact H | (rw [hy113]; exact H) | exact H
            have Ny113 := Aside0.mk hy113
            clear hy113
            have H' := Aside0.mk H
            clear H
            go_wp2_with (first | ((with_reducible refine gate_callee (f := 157) rfl ?_); refine goesL_ (some 44) rfl rfl Tryz.func157 (by kernel_rfl) rfl #[.int .i64 (wrap64 ((Int.tmod x4_2 243) + 243))] rfl (by (try simp only [List.map_toArray, List.map_cons, List.map_nil]); first | done | rfl | (simp only [List.length_drop, List.length_take]; rfl)) ?_; (with_reducible refine (diff_Byte.calls k2 (wrap64 ((Int.tmod x4_2 243) + 243)) t111 t112 _ A13.out).mono ?_); rintro e w' ⟨rfl, ⟨nd, rfl⟩⟩; refine ⟨_, rfl, ?_⟩; (try (rw [drewN_self wr]; generalize hq_ : World.drewN wr _ = wr; have n0_ : Aside0 (Kd.R (Kd.int .u8) 5 wr w.heap.size (fun _ => True) v109 x7_2) := ⟨by rw [← hq_]; exact (by (with_reducible repeat (first | apply Kd.R_alloc | apply Kd.R_drewN | apply Kd.R_drew)); exact HO_7.out)⟩; have n1_ : Aside0 (Below w.heap.size w wr) := ⟨by rw [← hq_]; exact (by repeat (first | (with_reducible first | exact HB.out | apply below_alloc | apply pw_below_drewN | apply below_drew1) | exact HB.out))⟩; clear HO_7 HB hq_; have HO_7 := n0_; have HB := n1_; clear n0_ n1_)); have p16 : 0 ≤ (x8_2 : Int) := of_decide_eq_true (by first | (with_reducible assumption) | assumption); have q16 : (x8_2 : Int) < ((x7_2.length : Int) : Int) := of_decide_eq_true (by first | (with_reducible assumption) | assumption); obtain ⟨go16, co16, eo16, gb16, gl16, cl16, HG16⟩ := Kd.R_form HO_7.out (by omega); (first | cases eo16 | (injection eo16 with ea_ en_ ec_; (first | subst ea_ | (injection ea_ with ea_; subst ea_)); subst ec_; clear en_)); have GB16 := Aside0.mk gb16; have GG16 := Aside0.mk HG16; clear gb16 gl16 HG16; obtain ⟨hx16_0, hf16_0⟩ := Kd.R_celln 0 HO_7.out (x8_2 : Int) p16 q16; replace p16 := eq_true p16; replace q16 := eq_true q16; obtain ⟨hy17_, hz17_⟩ := Kd.R_celln 0 HO_7.out (x8_2 : Int) (of_decide_eq_true (by first | (with_reducible assumption) | assumption)) (of_decide_eq_true (by first | (with_reducible assumption) | assumption)); have HP17 := Kd.R_putg HO_7.out (x8_2 : Int) t111) | ((with_reducible refine gate_store (t := 5) (p := 47) rfl ?_); refine store_event (t := 5) (p := 47) (v := ?vo_w18) (w1 := (wr.setCell ⟨go16, (x8_2 : Int).toNat, none⟩ (.int .u8 t111))) ?hg ?ho ?hn ?hr ?_; (case ho => rfl); (case hg => rfl); (case hn => rfl); (case hr => first | (go_simp; done) | (go_simp; rfl)); intro w18 hw; have hg : wr.grownBy w18 (some go16) := (by rw [hw]; exact HP17.2); have hp_ : Kd.R (Kd.int .u8) 5 w18 w.heap.size (fun _ => True) (.slice (some ⟨go16, 0, none⟩) x7_2.length co16) y113 := (by rw [hw, Ny113.out]; exact HP17.1); clear HP17; have n0_ := Aside0.mk (hp_); have n1_ := Aside0.mk ((by rw [hw]; exact below_set (HB.out) GB16.out : Below w.heap.size w w18)); clear HO_7; clear HB; have HO_7 := n0_; have HB := n1_; clear n0_ n1_; clear hg hw hp_))
            go_roundg k2
            case measure => have := HJ1.out; have := HK2.out; omega
            case rel => exact ⟨(wrap64 ((wrap64 (Int.tdiv x4_2 243)) - 1)), (y113), (wrap64 (x8_2 - 1)), (by first | rfl | (simp; done) | (simp [*]; done)), (by first | rfl | (simp; done) | (simp [*]; done)), H', ⟨by have := HJ1.out; have := HK2.out; omega⟩, ⟨by (with_reducible repeat (first | apply Kd.R_alloc | apply Kd.R_drewN | apply Kd.R_drew)); exact HO_7.out⟩, ⟨by repeat (first | (with_reducible first | exact HB.out | apply below_alloc | apply pw_below_drewN | apply below_drew1) | exact HB.out)⟩⟩
           ·rw [if_neg c15] at H
            exact absurd H (by simp)
          ·rw [if_neg c14] at H
           exact absurd H (by simp)
         ·rw [if_neg c12] at H
          have c12b0 : decide ((Int.tmod x4_2 243) < 0) = false := decide_eq_false c12
          clear c12
          replace H := Option.bind_eq_some_iff.mp H
          obtain ⟨⟨t114, t115⟩, A190, H⟩ := H
          replace H : (if 0 ≤ x8_2 then (if x8_2 < (x7_2.length : Int) then (diff_Pack.l0 k2 (wrap64 (Int.tdiv x4_2 243)) t106 (x7_2.set (x8_2 : Int).toNat t114) (wrap64 (x8_2 - 1))) else (none)) else (none)) = some (r1, r2) := H
          have A19 := Aside0.mk A190
          clear A190
          by_cases c20 : 0 ≤ x8_2
          ·rw [if_pos c20] at H
           have c20b0 : decide (0 ≤ x8_2) = true := decide_eq_true c20
           clear c20
           by_cases c21 : x8_2 < (x7_2.length : Int)
           ·rw [if_pos c21] at H
            have c21b0 : decide (x8_2 < (x7_2.length : Int)) = true := decide_eq_true c21
            clear c21
            obtain ⟨y116, hy116⟩ : ∃ y_ : List Int, y_ = (x7_2.set (x8_2 : Int).toNat t114) := ⟨_, rfl⟩
            replace H : (diff_Pack.l0 k2 (wrap64 (Int.tdiv x4_2 243)) t106 y116 (wrap64 (x8_2 - 1))) = some (r1, r2) := by first | (rw [hy116]; with_reducible exact H) | (have H2_ := (Option.bind_some _ _).symm.trans H; rw [hy116]; with_reducible exact H2_) | (have H2_ := (Option.bind_some _ _).symm.trans H; with_reducible exact H2_) | with_reducible exact H | (rw [hy116]; exact H) | exact H
            have Ny116 := Aside0.mk hy116
            clear hy116
            have H' := Aside0.mk H
            clear H
            go_wp2_with (first | ((with_reducible refine gate_callee (f := 157) rfl ?_); refine goesL_ (some 44) rfl rfl Tryz.func157 (by kernel_rfl) rfl #[.int .i64 (Int.tmod x4_2 243)] rfl (by (try simp only [List.map_toArray, List.map_cons, List.map_nil]); first | done | rfl | (simp only [List.length_drop, List.length_take]; rfl)) ?_; (with_reducible refine (diff_Byte.calls k2 (Int.tmod x4_2 243) t114 t115 _ A19.out).mono ?_); rintro e w' ⟨rfl, ⟨nd, rfl⟩⟩; refine ⟨_, rfl, ?_⟩; (try (rw [drewN_self wr]; generalize hq_ : World.drewN wr _ = wr; have n0_ : Aside0 (Kd.R (Kd.int .u8) 5 wr w.heap.size (fun _ => True) v109 x7_2) := ⟨by rw [← hq_]; exact (by (with_reducible repeat (first | apply Kd.R_alloc | apply Kd.R_drewN | apply Kd.R_drew)); exact HO_7.out)⟩; have n1_ : Aside0 (Below w.heap.size w wr) := ⟨by rw [← hq_]; exact (by repeat (first | (with_reducible first | exact HB.out | apply below_alloc | apply pw_below_drewN | apply below_drew1) | exact HB.out))⟩; clear HO_7 HB hq_; have HO_7 := n0_; have HB := n1_; clear n0_ n1_)); have p22 : 0 ≤ (x8_2 : Int) := of_decide_eq_true (by first | (with_reducible assumption) | assumption); have q22 : (x8_2 : Int) < ((x7_2.length : Int) : Int) := of_decide_eq_true (by first | (with_reducible assumption) | assumption); obtain ⟨go22, co22, eo22, gb22, gl22, cl22, HG22⟩ := Kd.R_form HO_7.out (by omega); (first | cases eo22 | (injection eo22 with ea_ en_ ec_; (first | subst ea_ | (injection ea_ with ea_; subst ea_)); subst ec_; clear en_)); have GB22 := Aside0.mk gb22; have GG22 := Aside0.mk HG22; clear gb22 gl22 HG22; obtain ⟨hx22_0, hf22_0⟩ := Kd.R_celln 0 HO_7.out (x8_2 : Int) p22 q22; replace p22 := eq_true p22; replace q22 := eq_true q22; obtain ⟨hy23_, hz23_⟩ := Kd.R_celln 0 HO_7.out (x8_2 : Int) (of_decide_eq_true (by first | (with_reducible assumption) | assumption)) (of_decide_eq_true (by first | (with_reducible assumption) | assumption)); have HP23 := Kd.R_putg HO_7.out (x8_2 : Int) t114) | ((with_reducible refine gate_store (t := 5) (p := 47) rfl ?_); refine store_event (t := 5) (p := 47) (v := ?vo_w24) (w1 := (wr.setCell ⟨go22, (x8_2 : Int).toNat, none⟩ (.int .u8 t114))) ?hg ?ho ?hn ?hr ?_; (case ho => rfl); (case hg => rfl); (case hn => rfl); (case hr => first | (go_simp; done) | (go_simp; rfl)); intro w24 hw; have hg : wr.grownBy w24 (some go22) := (by rw [hw]; exact HP23.2); have hp_ : Kd.R (Kd.int .u8) 5 w24 w.heap.size (fun _ => True) (.slice (some ⟨go22, 0, none⟩) x7_2.length co22) y116 := (by rw [hw, Ny116.out]; exact HP23.1); clear HP23; have n0_ := Aside0.mk (hp_); have n1_ := Aside0.mk ((by rw [hw]; exact below_set (HB.out) GB22.out : Below w.heap.size w w24)); clear HO_7; clear HB; have HO_7 := n0_; have HB := n1_; clear n0_ n1_; clear hg hw hp_))
            go_roundg k2
            case measure => have := HJ1.out; have := HK2.out; omega
            case rel => exact ⟨(wrap64 (Int.tdiv x4_2 243)), (y116), (wrap64 (x8_2 - 1)), (by first | rfl | (simp; done) | (simp [*]; done)), (by first | rfl | (simp; done) | (simp [*]; done)), H', ⟨by have := HJ1.out; have := HK2.out; omega⟩, ⟨by (with_reducible repeat (first | apply Kd.R_alloc | apply Kd.R_drewN | apply Kd.R_drew)); exact HO_7.out⟩, ⟨by repeat (first | (with_reducible first | exact HB.out | apply below_alloc | apply pw_below_drewN | apply below_drew1) | exact HB.out)⟩⟩
           ·rw [if_neg c21] at H
            exact absurd H (by simp)
          ·rw [if_neg c20] at H
           exact absurd H (by simp)
        ·rw [if_neg c11] at H
         have c11b0 : decide (0 < x8_2) = false := decide_eq_false c11
         clear c11
         by_cases c25 : 0 < (x7_2.length : Int)
         ·rw [if_pos c25] at H
          have c25b0 : decide (0 < (x7_2.length : Int)) = true := decide_eq_true c25
          have c25b1 : decide (0 < x7_2.length) = true := decide_eq_true (by omega)
          clear c25
          obtain ⟨y117, hy117⟩ : ∃ y_ : List Int, y_ = (x7_2.set (0 : Int).toNat ((wrap64 (t106 + x4_2)) % 256)) := ⟨_, rfl⟩
          replace H : (some (strOfNums y117, true)) = some (r1, r2) := by first | (rw [hy117]; with_reducible exact H) | (have H2_ := (Option.bind_some _ _).symm.trans H; rw [hy117]; with_reducible exact H2_) | (have H2_ := (Option.bind_some _ _).symm.trans H; with_reducible exact H2_) | with_reducible exact H | (rw [hy117]; exact H) | exact H
          have Ny117 := Aside0.mk hy117
          clear hy117
          simp only [Option.some.injEq, Prod.mk.injEq] at H
          obtain ⟨rfl, rfl⟩ := H
          have p26 : 0 ≤ (0 : Int) := (by omega)
          have q26 : (0 : Int) < ((x7_2.length : Int) : Int) := of_decide_eq_true (by first | (with_reducible assumption) | assumption)
          have qi26 : (0 < x7_2.length) = True := eq_true (by omega)
          obtain ⟨go26, co26, eo26, gb26, gl26, cl26, HG26⟩ := Kd.R_form HO_7.out (by omega)
          (first | cases eo26 | (injection eo26 with ea_ en_ ec_; (first | subst ea_ | (injection ea_ with ea_; subst ea_)); subst ec_; clear en_))
          have GB26 := Aside0.mk gb26
          have GG26 := Aside0.mk HG26
          clear gb26 gl26 HG26
          obtain ⟨hx26_0, hf26_0⟩ := Kd.R_celln 0 HO_7.out (0 : Int) p26 q26
          (try rw [show ((0 : Int)).toNat = 0 from rfl] at hx26_0)
          (try simp only [Nat.reduceMul, Nat.zero_mul, Nat.zero_add, Nat.reduceAdd] at hx26_0)
          (try rw [show ((0 : Int)).toNat = 0 from rfl] at hf26_0)
          (try simp only [Nat.reduceMul, Nat.zero_mul, Nat.zero_add, Nat.reduceAdd] at hf26_0)
          replace p26 := eq_true p26
          replace q26 := eq_true q26
          have HP27 := Kd.R_putg HO_7.out (0 : Int) ((wrap64 (t106 + x4_2)) % 256)
          go_wp2_with (first | ((with_reducible refine gate_store (t := 5) (p := 53) rfl ?_); refine store_event (t := 5) (p := 53) (v := ?vo_w28) (w1 := (wr.setCell ⟨go26, (0 : Int).toNat, none⟩ (.int .u8 ((wrap64 (t106 + x4_2)) % 256)))) ?hg ?ho ?hn ?hr ?_; (case ho => rfl); (case hg => rfl); (case hn => rfl); (case hr => first | (go_simp; done) | (go_simp; rfl)); intro w28 hw; have hg : wr.grownBy w28 (some go26) := (by rw [hw]; exact HP27.2); have hp_ : Kd.R (Kd.int .u8) 5 w28 w.heap.size (fun _ => True) (.slice (some ⟨go26, 0, none⟩) x7_2.length co26) y117 := (by rw [hw, Ny117.out]; exact HP27.1); clear HP27; have n0_ := Aside0.mk (hp_); have n1_ := Aside0.mk ((by rw [hw]; exact below_set (HB.out) GB26.out : Below w.heap.size w w28)); clear HO_7; clear HB; have HO_7 := n0_; have HB := n1_; clear n0_ n1_; clear hg hw hp_; have hcv29 := own_string (P := Tryz.prog) Tryz.underlying80 Tryz.underlying5 Tryz.underlying9 (Kd.own_of_R HO_7.out)))
          go_ret2
          exact ⟨by first | rfl | (simp [errW_none, errW_some] <;> rfl) | (simp only [← hji6]; first | rfl | (simp [errW_none, errW_some] <;> rfl)) | (simp [*, errW_none, errW_some] <;> rfl), by repeat (first | (with_reducible first | exact HB.out | apply below_alloc | apply pw_below_drewN | apply below_drew1) | exact HB.out)⟩
         ·rw [if_neg c25] at H
          exact absurd H (by simp)
     ·rw [if_neg c8] at H
      exact absurd H (by simp)
    ·rw [if_neg c7] at H
     exact absurd H (by simp)
mutual
def diff_Prev.j0 : Nat → Int → Bool → Option (Int)
 | 0, _, _ => none
 | k + 1, x0, x3 => if x3 = true then (some 12400) else (if x0 ≥ 19968 then (diff_Prev.j1 k x0 (decide (x0 ≤ 40869))) else (diff_Prev.j1 k x0 false))
def diff_Prev.j1 : Nat → Int → Bool → Option (Int)
 | 0, _, _ => none
 | k + 1, x0, x10 => if x10 = true then (some 30481) else (if x0 ≥ 44032 then (if x0 ≤ 55203 then (some 49617) else (some (((Go.bits .andNot .u32 x0 127) + 64) % 4294967296))) else (some (((Go.bits .andNot .u32 x0 127) + 64) % 4294967296)))
end
def diff_Prev.f (k : Nat) (a0 : Int) : Option (Int) := if a0 ≥ 12352 then (diff_Prev.j0 k a0 (decide (a0 ≤ 12447))) else (diff_Prev.j0 k a0 false)
theorem diff_Prev.mono_l : ∀ k, (∀ y0 y1, LeO (diff_Prev.j0 k y0 y1) (diff_Prev.j0 (k + 1) y0 y1)) ∧ (∀ y0 y1, LeO (diff_Prev.j1 k y0 y1) (diff_Prev.j1 (k + 1) y0 y1))
 | 0 => ⟨fun _ _ r h => by simp [diff_Prev.j0] at h, fun _ _ r h => by simp [diff_Prev.j1] at h⟩
 | k + 1 => by
  obtain ⟨ih0, ih1⟩ := diff_Prev.mono_l k
  refine ⟨?_, ?_⟩
  ·intro y0 y1
   unfold diff_Prev.j0
   repeat' first
   | (with_reducible exact ih0 _ _)
   | (with_reducible exact ih1 _ _)
   | (with_reducible exact LeO.refl _)
   | (with_reducible exact LeO.none _)
   | (with_reducible refine LeO.ite ?_ ?_)
   | (with_reducible refine LeO.bind ?_ (fun _ => ?_))
   | exact ih0 _ _
   | exact ih1 _ _
   | exact LeO.none _
   | refine LeO.ite ?_ ?_
   | refine LeO.bind ?_ (fun _ => ?_)
  ·intro y0 y1
   unfold diff_Prev.j1
   repeat' first
   | (with_reducible exact ih0 _ _)
   | (with_reducible exact ih1 _ _)
   | (with_reducible exact LeO.refl _)
   | (with_reducible exact LeO.none _)
   | (with_reducible refine LeO.ite ?_ ?_)
   | (with_reducible refine LeO.bind ?_ (fun _ => ?_))
   | exact ih0 _ _
   | exact ih1 _ _
   | exact LeO.none _
   | refine LeO.ite ?_ ?_
   | refine LeO.bind ?_ (fun _ => ?_)
theorem diff_Prev.mono : ∀ a0 k, LeO (diff_Prev.f k a0) (diff_Prev.f (k + 1) a0) := by
 intro a0 k
 obtain ⟨ih0, ih1⟩ := diff_Prev.mono_l k
 unfold diff_Prev.f
 repeat' first
   | (with_reducible exact ih0 _ _)
   | (with_reducible exact ih1 _ _)
   | (with_reducible exact LeO.refl _)
   | (with_reducible exact LeO.none _)
   | (with_reducible refine LeO.ite ?_ ?_)
   | (with_reducible refine LeO.bind ?_ (fun _ => ?_))
   | exact ih0 _ _
   | exact ih1 _ _
   | exact LeO.none _
   | refine LeO.ite ?_ ?_
   | refine LeO.bind ?_ (fun _ => ?_)
set_option maxHeartbeats 8000000 in
set_option maxRecDepth 100000 in
theorem diff_Prev.calls (k : Nat) (a0 : Int) (r : Int) (w : World) (h : diff_Prev.f k a0 = some r) :
  Calls Tryz.prog 155 #[.int .u32 a0] w fun e w' => e = .returned (.int .u32 r) ∧ Drawn0 w w' := by
 have H : (if a0 ≥ 12352 then (diff_Prev.j0 k a0 (decide (a0 ≤ 12447))) else (diff_Prev.j0 k a0 false)) = some r := h
 clear h
 have HC2 := Aside0.mk H
 clear H
 go_enter Tryz.func155, Tryz.ntmps155
 go_upto_region 1 with (fail)
 go_cut [3] (fun v3 wc => ∃ (kq : Nat) (x3_1 : Bool), v3 = .bool x3_1 ∧ Aside0 (diff_Prev.j0 kq a0 x3_1 = some r) ∧ Aside0 (kq ≤ k) ∧ Drawn0 w wc)
 case first =>
  have H := HC2.out
  clear HC2
  by_cases c3 : a0 ≥ 12352
  ·rw [if_pos c3] at H
   have c3b0 : decide (12352 ≤ a0) = true := decide_eq_true c3
   clear c3
   (first | rw [c3b0] | (simp only [i64_w, i32_w]; rw [c3b0]) | skip)
   have H' := Aside0.mk H
   clear H
   go_wp2
   go_meet
   case rel => exact ⟨_, (decide (a0 ≤ 12447)), (by first | rfl | (simp; done) | (simp [*]; done)), H', ⟨by first | omega | exact Nat.le_refl _⟩, by repeat (first | exact Drawn0.refl _ | apply Drawn0.step)⟩
  ·rw [if_neg c3] at H
   have c3b0 : decide (12352 ≤ a0) = false := decide_eq_false c3
   clear c3
   (first | rw [c3b0] | (simp only [i64_w, i32_w]; rw [c3b0]) | skip)
   have H' := Aside0.mk H
   clear H
   go_wp2
   go_meet
   case rel => exact ⟨_, (false), (by first | rfl | (simp; done) | (simp [*]; done)), H', ⟨by first | omega | exact Nat.le_refl _⟩, by repeat (first | exact Drawn0.refl _ | apply Drawn0.step)⟩
 case rest =>
  clear HC2
  try clear c1
  try clear p2
  try clear c3
  try clear c3b0
  obtain ⟨kq, x3_1, rfl, HA, HJ1, ⟨mc1, rfl⟩⟩ := hcut
  cases kq with
  | zero => exact absurd HA.out (by simp [diff_Prev.j0])
  | succ kj1 =>
   have H := HA.out
   clear HA
   simp only [diff_Prev.j0] at H
   by_cases c4 : x3_1 = true
   ·subst c4
    have H1 : (some 12400) = some r := by rw [if_pos rfl] at H; exact H
    clear H
    have H := H1
    clear H1
    obtain rfl := Option.some.inj H
    go_wp2
    go_ret
    exact ⟨by first | rfl | (simp; done) | (simp [*]; done), by repeat (first | exact Drawn0.refl _ | apply Drawn0.step)⟩
   ·replace c4 := Bool.eq_false_iff.mpr c4
    subst c4
    have H1 : (if a0 ≥ 19968 then (diff_Prev.j1 kj1 a0 (decide (a0 ≤ 40869))) else (diff_Prev.j1 kj1 a0 false)) = some r := by rw [if_neg (show ¬ (false = true) by decide)] at H; exact H
    clear H
    have H := H1
    clear H1
    have HC5 := Aside0.mk H
    clear H
    go_upto_region 3 with (fail)
    go_cut [10] (fun v10 wc => ∃ (kq : Nat) (x10_4 : Bool), v10 = .bool x10_4 ∧ Aside0 (diff_Prev.j1 kq a0 x10_4 = some r) ∧ Aside0 (kq ≤ kj1) ∧ Drawn0 w wc)
    case first =>
     have H := HC5.out
     clear HC5
     by_cases c6 : a0 ≥ 19968
     ·rw [if_pos c6] at H
      have c6b0 : decide (19968 ≤ a0) = true := decide_eq_true c6
      clear c6
      (first | rw [c6b0] | (simp only [i64_w, i32_w]; rw [c6b0]) | skip)
      have H' := Aside0.mk H
      clear H
      go_wp2
      go_meet
      case rel => exact ⟨_, (decide (a0 ≤ 40869)), (by first | rfl | (simp; done) | (simp [*]; done)), H', ⟨by have := HJ1.out; first | omega | exact Nat.le_refl _⟩, by repeat (first | exact Drawn0.refl _ | apply Drawn0.step)⟩
     ·rw [if_neg c6] at H
      have c6b0 : decide (19968 ≤ a0) = false := decide_eq_false c6
      clear c6
      (first | rw [c6b0] | (simp only [i64_w, i32_w]; rw [c6b0]) | skip)
      have H' := Aside0.mk H
      clear H
      go_wp2
      go_meet
      case rel => exact ⟨_, (false), (by first | rfl | (simp; done) | (simp [*]; done)), H', ⟨by have := HJ1.out; first | omega | exact Nat.le_refl _⟩, by repeat (first | exact Drawn0.refl _ | apply Drawn0.step)⟩
    case rest =>
     clear HC5
     try clear c1
     try clear p2
     try clear c3
     try clear c3b0
     try clear c4
     try clear c6
     try clear c6b0
     try clear p2
     obtain ⟨kq, x10_4, rfl, HA, HJ4, ⟨mc4, rfl⟩⟩ := hcut
     cases kq with
     | zero => exact absurd HA.out (by simp [diff_Prev.j1])
     | succ kj4 =>
      have H := HA.out
      clear HA
      simp only [diff_Prev.j1] at H
      by_cases c7 : x10_4 = true
      ·subst c7
       have H1 : (some 30481) = some r := by rw [if_pos rfl] at H; exact H
       clear H
       have H := H1
       clear H1
       obtain rfl := Option.some.inj H
       go_wp2
       go_ret
       exact ⟨by first | rfl | (simp; done) | (simp [*]; done), by repeat (first | exact Drawn0.refl _ | apply Drawn0.step)⟩
      ·replace c7 := Bool.eq_false_iff.mpr c7
       subst c7
       have H1 : (if a0 ≥ 44032 then (if a0 ≤ 55203 then (some 49617) else (some (((Go.bits .andNot .u32 a0 127) + 64) % 4294967296))) else (some (((Go.bits .andNot .u32 a0 127) + 64) % 4294967296))) = some r := by rw [if_neg (show ¬ (false = true) by decide)] at H; exact H
       clear H
       have H := H1
       clear H1
       by_cases c8 : a0 ≥ 44032
       ·rw [if_pos c8] at H
        have c8b0 : decide (44032 ≤ a0) = true := decide_eq_true c8
        clear c8
        by_cases c9 : a0 ≤ 55203
        ·rw [if_pos c9] at H
         have c9b0 : decide (a0 ≤ 55203) = true := decide_eq_true c9
         clear c9
         obtain rfl := Option.some.inj H
         go_wp2
         go_ret
         exact ⟨by first | rfl | (simp; done) | (simp [*]; done), by repeat (first | exact Drawn0.refl _ | apply Drawn0.step)⟩
        ·rw [if_neg c9] at H
         have c9b0 : decide (a0 ≤ 55203) = false := decide_eq_false c9
         clear c9
         obtain rfl := Option.some.inj H
         go_wp2
         go_ret
         exact ⟨by first | rfl | (simp; done) | (simp [*]; done), by repeat (first | exact Drawn0.refl _ | apply Drawn0.step)⟩
       ·rw [if_neg c8] at H
        have c8b0 : decide (44032 ≤ a0) = false := decide_eq_false c8
        clear c8
        obtain rfl := Option.some.inj H
        go_wp2
        go_ret
        exact ⟨by first | rfl | (simp; done) | (simp [*]; done), by repeat (first | exact Drawn0.refl _ | apply Drawn0.step)⟩
def bocu_some.f (a0 : Int) (a1 : Int) : Option (Bool) := if (mx a0 33) ≥ 55296 then (if (mx a0 33) < 57344 then (some (decide (57344 ≤ (mn a1 1114111)))) else (some (decide ((mx a0 33) ≤ (mn a1 1114111))))) else (some (decide ((mx a0 33) ≤ (mn a1 1114111))))
attribute [local go_sem] max2_int min2_int max_two min_two max_three min_three max_four min_four   -- for this text's walks alone
set_option linter.unusedVariables false
set_option linter.unusedSimpArgs false
end Go.Proofs.YtppchdinolndmaaGreat.PPd
