/- Go functions as Lean functions, and that the one comes to what the other answers: written by the kit's print.py for several functions together (wip/printall.sh of this repo). -/
import Derived.Test.YtegacgfhmigdjaaPPbx0
import Derived.Test.YtegacgfhmigdjaaPPbx1
namespace Go.Proofs.Ytegacgfhmigdjaa.PPb
open Go.RowKit Go.Proofs.YtegacgfhmigdjaaW.PrintWords Go.Proofs.YtegacgfhmigdjaaW.PrintLast Go.Proofs.YtegacgfhmigdjaaW.PrintMore
attribute [local go_sem] max2_int min2_int max_two min_two max_three min_three max_four min_four   -- for this text's walks alone
set_option linter.unusedVariables false
set_option linter.unusedSimpArgs false

/-! ### pilcrowref10_Bytes: function 23 -/
mutual
def pilcrowref10_Bytes.l0 : Nat → List Int → ByteArray → Int → Int → Option (ByteArray)
  | 0, _, _, _, _ => none
  | k + 1, x0, x3, x4, x5 => if x5 < (x0.length : Int) then (if 0 ≤ x5 then (if (rd x0 x5) < 128 then ((some (([(rd x0 x5) % 256] : List Int) : List Int)).bind fun y120 => (if x3.size + (strOfNums y120).size ≤ 9223372036854775807 then (pilcrowref10_Bytes.l0 k x0 (x3 ++ (strOfNums y120)) (wrap64 (x4 + 1)) (wrap64 (x5 + 1))) else (none))) else (pilcrowref10_Bytes.l0 k x0 x3 x4 (wrap64 (x5 + 1)))) else (none)) else (if x4 > 0 then (if x3.size + 1 ≤ 9223372036854775807 then (pilcrowref10_Bytes.j1 k x0 (x3 ++ (⟨#[45]⟩ : ByteArray)) x4) else (none)) else (pilcrowref10_Bytes.j1 k x0 x3 x4))
def pilcrowref10_Bytes.j1 : Nat → List Int → ByteArray → Int → Option (ByteArray)
  | 0, _, _, _ => none
  | k + 1, x0, x3, x4 => pilcrowref10_Bytes.l1 k x0 x3 x4 128 0 72 x4
def pilcrowref10_Bytes.l1 : Nat → List Int → ByteArray → Int → Int → Int → Int → Int → Option (ByteArray)
  | 0, _, _, _, _, _, _, _ => none
  | k + 1, x0, x3, x4, x6, x7, x8, x9 => if x9 < (x0.length : Int) then (pilcrowref10_Bytes.l2 k x0 x3 x4 x6 x7 x8 x9 0 0) else (some x3)
def pilcrowref10_Bytes.l2 : Nat → List Int → ByteArray → Int → Int → Int → Int → Int → Int → Int → Option (ByteArray)
  | 0, _, _, _, _, _, _, _, _, _ => none
  | k + 1, x0, x3, x4, x6, x7, x8, x9, x10, x11 => if x11 < (x0.length : Int) then (pilcrowref10_Bytes.l3 k x0 x3 x4 x6 x7 x8 x9 x10 x11 0 0) else (pilcrowref10_Bytes.l4 k x0 x3 x4 x6 x7 x8 x9 x10 0 0)
def pilcrowref10_Bytes.l3 : Nat → List Int → ByteArray → Int → Int → Int → Int → Int → Int → Int → Int → Int → Option (ByteArray)
  | 0, _, _, _, _, _, _, _, _, _, _, _ => none
  | k + 1, x0, x3, x4, x6, x7, x8, x9, x10, x11, x12, x13 => if x13 < (x0.length : Int) then ((pilcrowref10_ahead.f x0 x13 x11).bind fun t123 => (if t123 = true then (pilcrowref10_Bytes.l3 k x0 x3 x4 x6 x7 x8 x9 x10 x11 (wrap64 (x12 + 1)) (wrap64 (x13 + 1))) else (if 0 ≤ x13 then (if (rd x0 x13) < 128 then (if 0 ≤ x11 then (if x11 < (x0.length : Int) then (if (rd x0 x11) < 128 then (if x13 < x11 then (pilcrowref10_Bytes.l3 k x0 x3 x4 x6 x7 x8 x9 x10 x11 (wrap64 (x12 + 1)) (wrap64 (x13 + 1))) else (pilcrowref10_Bytes.l3 k x0 x3 x4 x6 x7 x8 x9 x10 x11 x12 (wrap64 (x13 + 1)))) else (pilcrowref10_Bytes.l3 k x0 x3 x4 x6 x7 x8 x9 x10 x11 x12 (wrap64 (x13 + 1)))) else (none)) else (none)) else (pilcrowref10_Bytes.l3 k x0 x3 x4 x6 x7 x8 x9 x10 x11 x12 (wrap64 (x13 + 1)))) else (none)))) else (if x12 = x9 then (pilcrowref10_Bytes.l2 k x0 x3 x4 x6 x7 x8 x9 x11 (wrap64 (x11 + 1))) else (pilcrowref10_Bytes.l2 k x0 x3 x4 x6 x7 x8 x9 x10 (wrap64 (x11 + 1))))
def pilcrowref10_Bytes.l4 : Nat → List Int → ByteArray → Int → Int → Int → Int → Int → Int → Int → Int → Option (ByteArray)
  | 0, _, _, _, _, _, _, _, _, _, _ => none
  | k + 1, x0, x3, x4, x6, x7, x8, x9, x10, x14, x15 => if x15 < x10 then ((pilcrowref10_ahead.f x0 x15 x10).bind fun t126 => (if t126 = true then (pilcrowref10_Bytes.l4 k x0 x3 x4 x6 x7 x8 x9 x10 (wrap64 (x14 + 1)) (wrap64 (x15 + 1))) else (pilcrowref10_Bytes.l4 k x0 x3 x4 x6 x7 x8 x9 x10 x14 (wrap64 (x15 + 1))))) else (if 0 ≤ x10 then (if x10 < (x0.length : Int) then ((pilcrowref09_Put.f k (IntKind.u64.wrap ((IntKind.u64.wrap ((IntKind.u64.wrap ((((rd x0 x10) - x6) % 4294967296) * (IntKind.u64.wrap (wrap64 (x9 + 1))))) + (IntKind.u64.wrap (x14)))) - (IntKind.u64.wrap (x7)))) x8).bind fun t128 => (if x3.size + t128.size ≤ 9223372036854775807 then ((pilcrowref09_Adapt.f k (IntKind.u64.wrap ((IntKind.u64.wrap ((IntKind.u64.wrap ((((rd x0 x10) - x6) % 4294967296) * (IntKind.u64.wrap (wrap64 (x9 + 1))))) + (IntKind.u64.wrap (x14)))) - (IntKind.u64.wrap (x7)))) (IntKind.u64.wrap (wrap64 (x9 + 1))) (x9 == x4)).bind fun t129 => (pilcrowref10_Bytes.l1 k x0 (x3 ++ t128) x4 (rd x0 x10) (wrap64 (x14 + 1)) t129 (wrap64 (x9 + 1)))) else (none))) else (none)) else (none))
end
def pilcrowref10_Bytes.f (k : Nat) (l0 : List Int) : Option (ByteArray) := (pilcrowref01_First.f k l0).bind fun t117 => (if t117 ≥ 0 then (some (⟨#[]⟩ : ByteArray)) else (pilcrowref10_Bytes.l0 k l0 (⟨#[]⟩ : ByteArray) 0 0))
theorem pilcrowref10_Bytes.mono_l : ∀ k, (∀ y0 y1 y2 y3, LeO (pilcrowref10_Bytes.l0 k y0 y1 y2 y3) (pilcrowref10_Bytes.l0 (k + 1) y0 y1 y2 y3)) ∧ (∀ y0 y1 y2, LeO (pilcrowref10_Bytes.j1 k y0 y1 y2) (pilcrowref10_Bytes.j1 (k + 1) y0 y1 y2)) ∧ (∀ y0 y1 y2 y3 y4 y5 y6, LeO (pilcrowref10_Bytes.l1 k y0 y1 y2 y3 y4 y5 y6) (pilcrowref10_Bytes.l1 (k + 1) y0 y1 y2 y3 y4 y5 y6)) ∧ (∀ y0 y1 y2 y3 y4 y5 y6 y7 y8, LeO (pilcrowref10_Bytes.l2 k y0 y1 y2 y3 y4 y5 y6 y7 y8) (pilcrowref10_Bytes.l2 (k + 1) y0 y1 y2 y3 y4 y5 y6 y7 y8)) ∧ (∀ y0 y1 y2 y3 y4 y5 y6 y7 y8 y9 y10, LeO (pilcrowref10_Bytes.l3 k y0 y1 y2 y3 y4 y5 y6 y7 y8 y9 y10) (pilcrowref10_Bytes.l3 (k + 1) y0 y1 y2 y3 y4 y5 y6 y7 y8 y9 y10)) ∧ (∀ y0 y1 y2 y3 y4 y5 y6 y7 y8 y9, LeO (pilcrowref10_Bytes.l4 k y0 y1 y2 y3 y4 y5 y6 y7 y8 y9) (pilcrowref10_Bytes.l4 (k + 1) y0 y1 y2 y3 y4 y5 y6 y7 y8 y9))
  | 0 => ⟨fun _ _ _ _ r h => by simp [pilcrowref10_Bytes.l0] at h, fun _ _ _ r h => by simp [pilcrowref10_Bytes.j1] at h, fun _ _ _ _ _ _ _ r h => by simp [pilcrowref10_Bytes.l1] at h, fun _ _ _ _ _ _ _ _ _ r h => by simp [pilcrowref10_Bytes.l2] at h, fun _ _ _ _ _ _ _ _ _ _ _ r h => by simp [pilcrowref10_Bytes.l3] at h, fun _ _ _ _ _ _ _ _ _ _ r h => by simp [pilcrowref10_Bytes.l4] at h⟩
  | k + 1 => by
    obtain ⟨ih0, ih1, ih2, ih3, ih4, ih5⟩ := pilcrowref10_Bytes.mono_l k
    refine ⟨?_, ?_, ?_, ?_, ?_, ?_⟩
    · intro y0 y1 y2 y3
      unfold pilcrowref10_Bytes.l0
      repeat' first
      | (with_reducible exact ih0 _ _ _ _)
      | (with_reducible exact ih1 _ _ _)
      | (with_reducible exact ih2 _ _ _ _ _ _ _)
      | (with_reducible exact ih3 _ _ _ _ _ _ _ _ _)
      | (with_reducible exact ih4 _ _ _ _ _ _ _ _ _ _ _)
      | (with_reducible exact ih5 _ _ _ _ _ _ _ _ _ _)
      | (with_reducible exact pilcrowref01_First.mono _ _)
      | (with_reducible exact pilcrowref09_Adapt.mono _ _ _ _)
      | (with_reducible exact pilcrowref09_Put.mono _ _ _)
      | (with_reducible exact LeO.refl _)
      | (with_reducible exact LeO.none _)
      | (with_reducible refine LeO.ite ?_ ?_)
      | (with_reducible refine LeO.bind ?_ (fun _ => ?_))
      | exact ih0 _ _ _ _
      | exact ih1 _ _ _
      | exact ih2 _ _ _ _ _ _ _
      | exact ih3 _ _ _ _ _ _ _ _ _
      | exact ih4 _ _ _ _ _ _ _ _ _ _ _
      | exact ih5 _ _ _ _ _ _ _ _ _ _
      | exact pilcrowref01_First.mono _ _
      | exact pilcrowref09_Adapt.mono _ _ _ _
      | exact pilcrowref09_Put.mono _ _ _
      | exact LeO.none _
      | refine LeO.ite ?_ ?_
      | refine LeO.bind ?_ (fun _ => ?_)
    · intro y0 y1 y2
      unfold pilcrowref10_Bytes.j1
      repeat' first
      | (with_reducible exact ih0 _ _ _ _)
      | (with_reducible exact ih1 _ _ _)
      | (with_reducible exact ih2 _ _ _ _ _ _ _)
      | (with_reducible exact ih3 _ _ _ _ _ _ _ _ _)
      | (with_reducible exact ih4 _ _ _ _ _ _ _ _ _ _ _)
      | (with_reducible exact ih5 _ _ _ _ _ _ _ _ _ _)
      | (with_reducible exact pilcrowref01_First.mono _ _)
      | (with_reducible exact pilcrowref09_Adapt.mono _ _ _ _)
      | (with_reducible exact pilcrowref09_Put.mono _ _ _)
      | (with_reducible exact LeO.refl _)
      | (with_reducible exact LeO.none _)
      | (with_reducible refine LeO.ite ?_ ?_)
      | (with_reducible refine LeO.bind ?_ (fun _ => ?_))
      | exact ih0 _ _ _ _
      | exact ih1 _ _ _
      | exact ih2 _ _ _ _ _ _ _
      | exact ih3 _ _ _ _ _ _ _ _ _
      | exact ih4 _ _ _ _ _ _ _ _ _ _ _
      | exact ih5 _ _ _ _ _ _ _ _ _ _
      | exact pilcrowref01_First.mono _ _
      | exact pilcrowref09_Adapt.mono _ _ _ _
      | exact pilcrowref09_Put.mono _ _ _
      | exact LeO.none _
      | refine LeO.ite ?_ ?_
      | refine LeO.bind ?_ (fun _ => ?_)
    · intro y0 y1 y2 y3 y4 y5 y6
      unfold pilcrowref10_Bytes.l1
      repeat' first
      | (with_reducible exact ih0 _ _ _ _)
      | (with_reducible exact ih1 _ _ _)
      | (with_reducible exact ih2 _ _ _ _ _ _ _)
      | (with_reducible exact ih3 _ _ _ _ _ _ _ _ _)
      | (with_reducible exact ih4 _ _ _ _ _ _ _ _ _ _ _)
      | (with_reducible exact ih5 _ _ _ _ _ _ _ _ _ _)
      | (with_reducible exact pilcrowref01_First.mono _ _)
      | (with_reducible exact pilcrowref09_Adapt.mono _ _ _ _)
      | (with_reducible exact pilcrowref09_Put.mono _ _ _)
      | (with_reducible exact LeO.refl _)
      | (with_reducible exact LeO.none _)
      | (with_reducible refine LeO.ite ?_ ?_)
      | (with_reducible refine LeO.bind ?_ (fun _ => ?_))
      | exact ih0 _ _ _ _
      | exact ih1 _ _ _
      | exact ih2 _ _ _ _ _ _ _
      | exact ih3 _ _ _ _ _ _ _ _ _
      | exact ih4 _ _ _ _ _ _ _ _ _ _ _
      | exact ih5 _ _ _ _ _ _ _ _ _ _
      | exact pilcrowref01_First.mono _ _
      | exact pilcrowref09_Adapt.mono _ _ _ _
      | exact pilcrowref09_Put.mono _ _ _
      | exact LeO.none _
      | refine LeO.ite ?_ ?_
      | refine LeO.bind ?_ (fun _ => ?_)
    · intro y0 y1 y2 y3 y4 y5 y6 y7 y8
      unfold pilcrowref10_Bytes.l2
      repeat' first
      | (with_reducible exact ih0 _ _ _ _)
      | (with_reducible exact ih1 _ _ _)
      | (with_reducible exact ih2 _ _ _ _ _ _ _)
      | (with_reducible exact ih3 _ _ _ _ _ _ _ _ _)
      | (with_reducible exact ih4 _ _ _ _ _ _ _ _ _ _ _)
      | (with_reducible exact ih5 _ _ _ _ _ _ _ _ _ _)
      | (with_reducible exact pilcrowref01_First.mono _ _)
      | (with_reducible exact pilcrowref09_Adapt.mono _ _ _ _)
      | (with_reducible exact pilcrowref09_Put.mono _ _ _)
      | (with_reducible exact LeO.refl _)
      | (with_reducible exact LeO.none _)
      | (with_reducible refine LeO.ite ?_ ?_)
      | (with_reducible refine LeO.bind ?_ (fun _ => ?_))
      | exact ih0 _ _ _ _
      | exact ih1 _ _ _
      | exact ih2 _ _ _ _ _ _ _
      | exact ih3 _ _ _ _ _ _ _ _ _
      | exact ih4 _ _ _ _ _ _ _ _ _ _ _
      | exact ih5 _ _ _ _ _ _ _ _ _ _
      | exact pilcrowref01_First.mono _ _
      | exact pilcrowref09_Adapt.mono _ _ _ _
      | exact pilcrowref09_Put.mono _ _ _
      | exact LeO.none _
      | refine LeO.ite ?_ ?_
      | refine LeO.bind ?_ (fun _ => ?_)
    · intro y0 y1 y2 y3 y4 y5 y6 y7 y8 y9 y10
      unfold pilcrowref10_Bytes.l3
      repeat' first
      | (with_reducible exact ih0 _ _ _ _)
      | (with_reducible exact ih1 _ _ _)
      | (with_reducible exact ih2 _ _ _ _ _ _ _)
      | (with_reducible exact ih3 _ _ _ _ _ _ _ _ _)
      | (with_reducible exact ih4 _ _ _ _ _ _ _ _ _ _ _)
      | (with_reducible exact ih5 _ _ _ _ _ _ _ _ _ _)
      | (with_reducible exact pilcrowref01_First.mono _ _)
      | (with_reducible exact pilcrowref09_Adapt.mono _ _ _ _)
      | (with_reducible exact pilcrowref09_Put.mono _ _ _)
      | (with_reducible exact LeO.refl _)
      | (with_reducible exact LeO.none _)
      | (with_reducible refine LeO.ite ?_ ?_)
      | (with_reducible refine LeO.bind ?_ (fun _ => ?_))
      | exact ih0 _ _ _ _
      | exact ih1 _ _ _
      | exact ih2 _ _ _ _ _ _ _
      | exact ih3 _ _ _ _ _ _ _ _ _
      | exact ih4 _ _ _ _ _ _ _ _ _ _ _
      | exact ih5 _ _ _ _ _ _ _ _ _ _
      | exact pilcrowref01_First.mono _ _
      | exact pilcrowref09_Adapt.mono _ _ _ _
      | exact pilcrowref09_Put.mono _ _ _
      | exact LeO.none _
      | refine LeO.ite ?_ ?_
      | refine LeO.bind ?_ (fun _ => ?_)
    · intro y0 y1 y2 y3 y4 y5 y6 y7 y8 y9
      unfold pilcrowref10_Bytes.l4
      repeat' first
      | (with_reducible exact ih0 _ _ _ _)
      | (with_reducible exact ih1 _ _ _)
      | (with_reducible exact ih2 _ _ _ _ _ _ _)
      | (with_reducible exact ih3 _ _ _ _ _ _ _ _ _)
      | (with_reducible exact ih4 _ _ _ _ _ _ _ _ _ _ _)
      | (with_reducible exact ih5 _ _ _ _ _ _ _ _ _ _)
      | (with_reducible exact pilcrowref01_First.mono _ _)
      | (with_reducible exact pilcrowref09_Adapt.mono _ _ _ _)
      | (with_reducible exact pilcrowref09_Put.mono _ _ _)
      | (with_reducible exact LeO.refl _)
      | (with_reducible exact LeO.none _)
      | (with_reducible refine LeO.ite ?_ ?_)
      | (with_reducible refine LeO.bind ?_ (fun _ => ?_))
      | exact ih0 _ _ _ _
      | exact ih1 _ _ _
      | exact ih2 _ _ _ _ _ _ _
      | exact ih3 _ _ _ _ _ _ _ _ _
      | exact ih4 _ _ _ _ _ _ _ _ _ _ _
      | exact ih5 _ _ _ _ _ _ _ _ _ _
      | exact pilcrowref01_First.mono _ _
      | exact pilcrowref09_Adapt.mono _ _ _ _
      | exact pilcrowref09_Put.mono _ _ _
      | exact LeO.none _
      | refine LeO.ite ?_ ?_
      | refine LeO.bind ?_ (fun _ => ?_)
theorem pilcrowref10_Bytes.mono : ∀ a0 k, LeO (pilcrowref10_Bytes.f k a0) (pilcrowref10_Bytes.f (k + 1) a0) := by
  intro a0 k
  obtain ⟨ih0, ih1, ih2, ih3, ih4, ih5⟩ := pilcrowref10_Bytes.mono_l k
  unfold pilcrowref10_Bytes.f
  repeat' first
      | (with_reducible exact ih0 _ _ _ _)
      | (with_reducible exact ih1 _ _ _)
      | (with_reducible exact ih2 _ _ _ _ _ _ _)
      | (with_reducible exact ih3 _ _ _ _ _ _ _ _ _)
      | (with_reducible exact ih4 _ _ _ _ _ _ _ _ _ _ _)
      | (with_reducible exact ih5 _ _ _ _ _ _ _ _ _ _)
      | (with_reducible exact pilcrowref01_First.mono _ _)
      | (with_reducible exact pilcrowref09_Adapt.mono _ _ _ _)
      | (with_reducible exact pilcrowref09_Put.mono _ _ _)
      | (with_reducible exact LeO.refl _)
      | (with_reducible exact LeO.none _)
      | (with_reducible refine LeO.ite ?_ ?_)
      | (with_reducible refine LeO.bind ?_ (fun _ => ?_))
      | exact ih0 _ _ _ _
      | exact ih1 _ _ _
      | exact ih2 _ _ _ _ _ _ _
      | exact ih3 _ _ _ _ _ _ _ _ _
      | exact ih4 _ _ _ _ _ _ _ _ _ _ _
      | exact ih5 _ _ _ _ _ _ _ _ _ _
      | exact pilcrowref01_First.mono _ _
      | exact pilcrowref09_Adapt.mono _ _ _ _
      | exact pilcrowref09_Put.mono _ _ _
      | exact LeO.none _
      | refine LeO.ite ?_ ?_
      | refine LeO.bind ?_ (fun _ => ?_)
set_option maxHeartbeats 8000000 in
set_option maxRecDepth 100000 in
theorem pilcrowref10_Bytes.calls (k : Nat) (A0 : Option Addr) (c0 : Nat) (l0 : List Int) (r : ByteArray) (w : World) (hr0 : Kd.C (Kd.int .u32) w A0 l0.length l0) (hc0 : l0.length ≤ c0) (h : pilcrowref10_Bytes.f k l0 = some r) :
    Calls Try.prog 23 #[.slice A0 l0.length c0] w fun e w' => e = .returned (.string r) ∧ Below w.heap.size w w' := by
  have HR0 := Aside0.mk hr0
  have HC0 := Aside0.mk hc0
  clear hr0 hc0
  have HB := Aside0.mk (Below.refl w.heap.size w)
  have H : ((pilcrowref01_First.f k l0).bind fun t117 => (if t117 ≥ 0 then (some (⟨#[]⟩ : ByteArray)) else (pilcrowref10_Bytes.l0 k l0 (⟨#[]⟩ : ByteArray) 0 0))) = some r := h
  clear h
  replace H := Option.bind_eq_some_iff.mp H
  obtain ⟨t117, A20, H⟩ := H
  replace H : (if t117 ≥ 0 then (some (⟨#[]⟩ : ByteArray)) else (pilcrowref10_Bytes.l0 k l0 (⟨#[]⟩ : ByteArray) 0 0)) = some r := H
  have A2 := Aside0.mk A20
  clear A20
  by_cases c3 : t117 ≥ 0
  · rw [if_pos c3] at H
    have c3b0 : decide (0 ≤ t117) = true := decide_eq_true c3
    clear c3
    obtain rfl := Option.some.inj H
    go_enter Try.func23, Try.ntmps23
    go_wp2_with (first | ((with_reducible refine gate_callee (f := 22) rfl ?_); refine goesL_ (some 18) rfl rfl Try.func22 (by kernel_rfl) rfl #[.slice A0 l0.length c0] rfl (by (try simp only [List.map_toArray, List.map_cons, List.map_nil]); first | done | rfl | (simp only [List.length_drop, List.length_take]; rfl)) ?_; (with_reducible refine (pilcrowref01_First.calls k _ _ l0 t117 _ ?side1 ?side2 A2.out).mono ?_); (case side1 => repeat (first | exact HR0.out | (with_reducible refine Kd.C_alloc ?_ _) | (with_reducible refine Kd.C_drewN ?_ _) | (with_reducible refine Kd.C_drew ?_))); (case side2 => exact HC0.out); rintro e w' ⟨rfl, ⟨nd, rfl⟩⟩; refine ⟨_, rfl, ?_⟩))
    go_ret
    exact ⟨by first | rfl | (simp [errW_none, errW_some] <;> rfl) | (simp [*, errW_none, errW_some] <;> rfl), by repeat (first | (with_reducible first | exact HB.out | apply below_alloc | apply pw_below_drewN | apply below_drew1) | exact HB.out)⟩
  · rw [if_neg c3] at H
    have c3b0 : decide (0 ≤ t117) = false := decide_eq_false c3
    clear c3
    have H' := Aside0.mk H
    clear H
    go_enter Try.func23, Try.ntmps23
    go_wp2_with (first | ((with_reducible refine gate_callee (f := 22) rfl ?_); refine goesL_ (some 18) rfl rfl Try.func22 (by kernel_rfl) rfl #[.slice A0 l0.length c0] rfl (by (try simp only [List.map_toArray, List.map_cons, List.map_nil]); first | done | rfl | (simp only [List.length_drop, List.length_take]; rfl)) ?_; (with_reducible refine (pilcrowref01_First.calls k _ _ l0 t117 _ ?side1 ?side2 A2.out).mono ?_); (case side1 => repeat (first | exact HR0.out | (with_reducible refine Kd.C_alloc ?_ _) | (with_reducible refine Kd.C_drewN ?_ _) | (with_reducible refine Kd.C_drew ?_))); (case side2 => exact HC0.out); rintro e w' ⟨rfl, ⟨nd, rfl⟩⟩; refine ⟨_, rfl, ?_⟩))
    go_loopg [3, 4, 5] k (fun kq v3 v4 v5 w' => ∃ (x3_1 : ByteArray) (x4_1 : Int) (x5_1 : Int), v3 = .string x3_1 ∧ v4 = .int .i64 x4_1 ∧ v5 = .int .i64 x5_1 ∧ Aside0 (pilcrowref10_Bytes.l0 kq l0 x3_1 x4_1 x5_1 = some r) ∧ Aside0 (kq ≤ k) ∧ Aside0 (Below w.heap.size w w'))
    case atStart => exact ⟨((⟨#[]⟩ : ByteArray)), (0), (0), (by first | rfl | (simp; done) | (simp [*]; done)), (by first | rfl | (simp; done) | (simp [*]; done)), (by first | rfl | (simp; done) | (simp [*]; done)), H', ⟨Nat.le_refl _⟩, ⟨by repeat (first | (with_reducible first | exact HB.out | apply below_alloc | apply pw_below_drewN | apply below_drew1) | exact HB.out)⟩⟩
    case round =>
      clear H'
      try clear c2
      try clear p2
      try clear c3
      try clear c3b0
      obtain ⟨x3_1, x4_1, x5_1, rfl, rfl, rfl, HA, HK1, HB⟩ := hrel
      cases gk with
      | zero => exact absurd HA.out (by simp [pilcrowref10_Bytes.l0])
      | succ k1 =>
        have H := HA.out
        clear HA
        simp only [pilcrowref10_Bytes.l0] at H
        by_cases c4 : x5_1 < (l0.length : Int)
        · rw [if_pos c4] at H
          have c4b0 : decide (x5_1 < (l0.length : Int)) = true := decide_eq_true c4
          clear c4
          by_cases c5 : 0 ≤ x5_1
          · rw [if_pos c5] at H
            have c5b0 : decide (0 ≤ x5_1) = true := decide_eq_true c5
            clear c5
            by_cases c6 : (rd l0 x5_1) < 128
            · rw [if_pos c6] at H
              have c6b0 : decide ((rd l0 x5_1) < 128) = true := decide_eq_true c6
              clear c6
              obtain ⟨y120, hy120⟩ : ∃ y_ : List Int, y_ = (([(rd l0 x5_1) % 256] : List Int)) := ⟨_, rfl⟩
              replace H : (if x3_1.size + (strOfNums y120).size ≤ 9223372036854775807 then (pilcrowref10_Bytes.l0 k1 l0 (x3_1 ++ (strOfNums y120)) (wrap64 (x4_1 + 1)) (wrap64 (x5_1 + 1))) else (none)) = some r := by first | (rw [hy120]; with_reducible exact H) | (have H2_ := (Option.bind_some _ _).symm.trans H; rw [hy120]; with_reducible exact H2_) | (have H2_ := (Option.bind_some _ _).symm.trans H; with_reducible exact H2_) | with_reducible exact H | (rw [hy120]; exact H) | exact H
              have Ny120 := Aside0.mk hy120
              clear hy120
              by_cases c7 : x3_1.size + (strOfNums y120).size ≤ 9223372036854775807
              · rw [if_pos c7] at H
                have c7b0 := eq_true c7
                have c7b1 : decide (x3_1.size + (strOfNums y120).size ≤ 9223372036854775807) = true := decide_eq_true c7
                try have c7b2 : (9223372036854775807 < x3_1.size + (strOfNums y120).size) = False := eq_false (Nat.not_lt.2 c7)
                have H' := Aside0.mk H
                clear H
                have p118 : 0 ≤ (x5_1 : Int) := of_decide_eq_true (by first | (with_reducible assumption) | assumption)
                have q118 : x5_1 < (l0.length : Int) := of_decide_eq_true (by first | (with_reducible assumption) | assumption)
                obtain ⟨ad118, e118, hx118_0⟩ := Kd.at_int HR0.out x5_1 p118 q118
                cases e118
                replace hx118_0 := (HB.out.cell (World.block_lt_of_cell? w _ hx118_0)).trans hx118_0
                replace p118 := eq_true p118
                replace q118 := eq_true q118
                have p119 : 0 ≤ (x5_1 : Int) := of_decide_eq_true (by first | (with_reducible assumption) | assumption)
                have q119 : x5_1 < (l0.length : Int) := of_decide_eq_true (by first | (with_reducible assumption) | assumption)
                obtain ⟨ad119, e119, hx119_0⟩ := Kd.at_int HR0.out x5_1 p119 q119
                obtain rfl : ad118 = ad119 := (by injection e119)
                replace hx119_0 := (HB.out.cell (World.block_lt_of_cell? w _ hx119_0)).trans hx119_0
                replace p119 := eq_true p119
                replace q119 := eq_true q119
                go_wp2_with (first | ((with_reducible refine gate_dst (N := 38) rfl ?_); refine Kd.R_lit (Kd.int .u8) _ 5 ?hg (N := 38) ?hd (xs := ([(rd l0 x5_1) % 256] : List Int)) (inner := [.int .u8 ((rd l0 x5_1) % 256)]) (ok := fun _ => True) (okp := fun _ => True) ?hr ?hp (fun _ hk => hk) trivial (Below.refl _ _) (Nat.le_refl _) (by simp) ?_; (case hd => rfl); (case hg => rfl); (case hr => first | (go_simp; done) | (go_simp; rfl)); (case hp => exact (Reps.one (show Kd.M (Kd.int .u8) _ _ _ ((rd l0 x5_1) % 256) [.int .u8 ((rd l0 x5_1) % 256)] from rfl) (Reps.none _ _))); intro v121 w8 ho9 hb hg_ hnew_; clear hg_ hnew_; (first | rw [← Ny120.out] at ho9 | (simp only [Int.reduceToNat] at ho9; rw [← Ny120.out] at ho9)); have n0_ := Aside0.mk (Kd.R_lower ho9 (below_size (by repeat (first | (with_reducible first | exact HB.out | apply below_alloc | apply pw_below_drewN | apply below_drew1) | exact HB.out)))); have n1_ := Aside0.mk (below_step (by repeat (first | (with_reducible first | exact HB.out | apply below_alloc | apply pw_below_drewN | apply below_drew1) | exact HB.out)) hb); clear HB; have HO122 := n0_; have HB := n1_; clear n0_ n1_; clear hb ho9; have hcv10 := own_string (P := Try.prog) Try.underlying41 Try.underlying5 Try.underlying9 (Kd.own_of_R HO122.out)))
                go_roundg k1
                case measure => have := HK1.out; omega
                case rel => exact ⟨(x3_1 ++ (strOfNums y120)), (wrap64 (x4_1 + 1)), (wrap64 (x5_1 + 1)), (by first | rfl | (simp; done) | (simp [*]; done)), (by first | rfl | (simp; done) | (simp [*]; done)), (by first | rfl | (simp; done) | (simp [*]; done)), H', ⟨by have := HK1.out; omega⟩, ⟨by repeat (first | (with_reducible first | exact HB.out | apply below_alloc | apply pw_below_drewN | apply below_drew1) | exact HB.out)⟩⟩
              · rw [if_neg c7] at H
                exact absurd H (by simp)
            · rw [if_neg c6] at H
              have c6b0 : decide ((rd l0 x5_1) < 128) = false := decide_eq_false c6
              clear c6
              have H' := Aside0.mk H
              clear H
              have p118 : 0 ≤ (x5_1 : Int) := of_decide_eq_true (by first | (with_reducible assumption) | assumption)
              have q118 : x5_1 < (l0.length : Int) := of_decide_eq_true (by first | (with_reducible assumption) | assumption)
              obtain ⟨ad118, e118, hx118_0⟩ := Kd.at_int HR0.out x5_1 p118 q118
              cases e118
              replace hx118_0 := (HB.out.cell (World.block_lt_of_cell? w _ hx118_0)).trans hx118_0
              replace p118 := eq_true p118
              replace q118 := eq_true q118
              go_wp2
              go_roundg k1
              case measure => have := HK1.out; omega
              case rel => exact ⟨(x3_1), (x4_1), (wrap64 (x5_1 + 1)), (by first | rfl | (simp; done) | (simp [*]; done)), (by first | rfl | (simp; done) | (simp [*]; done)), (by first | rfl | (simp; done) | (simp [*]; done)), H', ⟨by have := HK1.out; omega⟩, ⟨by repeat (first | (with_reducible first | exact HB.out | apply below_alloc | apply pw_below_drewN | apply below_drew1) | exact HB.out)⟩⟩
          · rw [if_neg c5] at H
            exact absurd H (by simp)
        · rw [if_neg c4] at H
          have c4b0 : decide (x5_1 < (l0.length : Int)) = false := decide_eq_false c4
          clear c4
          have HC11 := Aside0.mk H
          clear H
          go_upto_if 44 with (fail)
          go_cut [3] (fun v3 wc => ∃ (kq : Nat) (x3_10 : ByteArray), v3 = .string x3_10 ∧ Aside0 (pilcrowref10_Bytes.j1 kq l0 x3_10 x4_1 = some r) ∧ Aside0 (kq ≤ k1) ∧ Aside0 (Below w.heap.size w wc))
          case first =>
            have H := HC11.out
            clear HC11
            by_cases c12 : x4_1 > 0
            · rw [if_pos c12] at H
              have c12b0 : decide (0 < x4_1) = true := decide_eq_true c12
              clear c12
              (first | rw [c12b0] | (simp only [i64_w, i32_w]; rw [c12b0]) | skip)
              by_cases c13 : x3_1.size + 1 ≤ 9223372036854775807
              · rw [if_pos c13] at H
                have c13b0 := eq_true c13
                have c13b1 : decide (x3_1.size + 1 ≤ 9223372036854775807) = true := decide_eq_true c13
                try have c13b2 : (9223372036854775807 < x3_1.size + 1) = False := eq_false (Nat.not_lt.2 c13)
                have H' := Aside0.mk H
                clear H
                go_wp2
                go_meet
                case rel => exact ⟨_, (x3_1 ++ (⟨#[45]⟩ : ByteArray)), (by first | rfl | (simp; done) | (simp [*]; done)), H', ⟨by have := HK1.out; first | omega | exact Nat.le_refl _⟩, ⟨by repeat (first | (with_reducible first | exact HB.out | apply below_alloc | apply pw_below_drewN | apply below_drew1) | exact HB.out)⟩⟩
              · rw [if_neg c13] at H
                exact absurd H (by simp)
            · rw [if_neg c12] at H
              have c12b0 : decide (0 < x4_1) = false := decide_eq_false c12
              clear c12
              (first | rw [c12b0] | (simp only [i64_w, i32_w]; rw [c12b0]) | skip)
              have H' := Aside0.mk H
              clear H
              go_wp2
              go_meet
              case rel => exact ⟨_, (x3_1), (by first | rfl | (simp; done) | (simp [*]; done)), H', ⟨by have := HK1.out; first | omega | exact Nat.le_refl _⟩, ⟨by repeat (first | (with_reducible first | exact HB.out | apply below_alloc | apply pw_below_drewN | apply below_drew1) | exact HB.out)⟩⟩
          case rest =>
            clear HC11
            try clear c1
            try clear p1
            try clear q1
            try clear hx1
            try clear hcv1
            try clear c2
            try clear p2
            try clear c3
            try clear c3b0
            try clear c4
            try clear c4b0
            try clear c5
            try clear c5b0
            try clear c6
            try clear c6b0
            try clear p6
            try clear c7
            try clear c7b0
            try clear c7b1
            try clear c7b2
            try clear hcv10
            try clear p11
            try clear q11
            try clear hx11
            try clear c12
            try clear c12b0
            try clear c13
            try clear c13b0
            try clear c13b1
            try clear c13b2
            try clear hx118_0
            try clear hx119_0
            try clear p118
            try clear p119
            try clear p2
            try clear q118
            try clear q119
            obtain ⟨kq, x3_10, rfl, HA, HJ10, HB⟩ := hcut
            cases kq with
            | zero => exact absurd HA.out (by simp [pilcrowref10_Bytes.j1])
            | succ kj10 =>
              have H := HA.out
              clear HA
              simp only [pilcrowref10_Bytes.j1] at H
              have H' := Aside0.mk H
              clear H
              go_wp2
              go_loopg [3, 6, 7, 8, 9] kj10 (fun kq v3 v6 v7 v8 v9 w' => ∃ (x3_3 : ByteArray) (x6_3 : Int) (x7_3 : Int) (x8_3 : Int) (x9_3 : Int), v3 = .string x3_3 ∧ v6 = .int .u32 x6_3 ∧ v7 = .int .i64 x7_3 ∧ v8 = .int .i64 x8_3 ∧ v9 = .int .i64 x9_3 ∧ Aside0 (pilcrowref10_Bytes.l1 kq l0 x3_3 x4_1 x6_3 x7_3 x8_3 x9_3 = some r) ∧ Aside0 (kq ≤ kj10) ∧ Aside0 (Below w.heap.size w w'))
              case atStart => exact ⟨(x3_10), (128), (0), (72), (x4_1), (by first | rfl | (simp; done) | (simp [*]; done)), (by first | rfl | (simp; done) | (simp [*]; done)), (by first | rfl | (simp; done) | (simp [*]; done)), (by first | rfl | (simp; done) | (simp [*]; done)), (by first | rfl | (simp; done) | (simp [*]; done)), H', ⟨Nat.le_refl _⟩, ⟨by repeat (first | (with_reducible first | exact HB.out | apply below_alloc | apply pw_below_drewN | apply below_drew1) | exact HB.out)⟩⟩
              case round =>
                clear H'
                try clear c1
                try clear p1
                try clear q1
                try clear hx1
                try clear hcv1
                try clear c2
                try clear p2
                try clear c3
                try clear c3b0
                try clear c4
                try clear c4b0
                try clear c5
                try clear c5b0
                try clear c6
                try clear c6b0
                try clear p6
                try clear c7
                try clear c7b0
                try clear c7b1
                try clear c7b2
                try clear hcv10
                try clear p11
                try clear q11
                try clear hx11
                try clear c12
                try clear c12b0
                try clear c13
                try clear c13b0
                try clear c13b1
                try clear c13b2
                try clear hx118_0
                try clear hx119_0
                try clear p1
                try clear p11
                try clear p118
                try clear p119
                try clear p2
                try clear p6
                try clear q1
                try clear q11
                try clear q118
                try clear q119
                obtain ⟨x3_3, x6_3, x7_3, x8_3, x9_3, rfl, rfl, rfl, rfl, rfl, HA, HK3, HB⟩ := hrel
                cases gk with
                | zero => exact absurd HA.out (by simp [pilcrowref10_Bytes.l1])
                | succ k3 =>
                  have H := HA.out
                  clear HA
                  simp only [pilcrowref10_Bytes.l1] at H
                  by_cases c14 : x9_3 < (l0.length : Int)
                  · rw [if_pos c14] at H
                    have c14b0 : decide (x9_3 < (l0.length : Int)) = true := decide_eq_true c14
                    clear c14
                    have H' := Aside0.mk H
                    clear H
                    go_wp2
                    go_loopg [10, 11] k3 (fun kq v10 v11 w' => ∃ (x10_4 : Int) (x11_4 : Int), v10 = .int .i64 x10_4 ∧ v11 = .int .i64 x11_4 ∧ Aside0 (pilcrowref10_Bytes.l2 kq l0 x3_3 x4_1 x6_3 x7_3 x8_3 x9_3 x10_4 x11_4 = some r) ∧ Aside0 (kq ≤ k3) ∧ Aside0 (Below w.heap.size w w'))
                    case atStart => exact ⟨(0), (0), (by first | rfl | (simp; done) | (simp [*]; done)), (by first | rfl | (simp; done) | (simp [*]; done)), H', ⟨Nat.le_refl _⟩, ⟨by repeat (first | (with_reducible first | exact HB.out | apply below_alloc | apply pw_below_drewN | apply below_drew1) | exact HB.out)⟩⟩
                    case round =>
                      clear H'
                      try clear c1
                      try clear p1
                      try clear q1
                      try clear hx1
                      try clear hcv1
                      try clear c2
                      try clear p2
                      try clear c3
                      try clear c3b0
                      try clear c4
                      try clear c4b0
                      try clear c5
                      try clear c5b0
                      try clear c6
                      try clear c6b0
                      try clear p6
                      try clear c7
                      try clear c7b0
                      try clear c7b1
                      try clear c7b2
                      try clear hcv10
                      try clear p11
                      try clear q11
                      try clear hx11
                      try clear c12
                      try clear c12b0
                      try clear c13
                      try clear c13b0
                      try clear c13b1
                      try clear c13b2
                      try clear c14
                      try clear c14b0
                      try clear hx118_0
                      try clear hx119_0
                      try clear p1
                      try clear p11
                      try clear p118
                      try clear p119
                      try clear p2
                      try clear p6
                      try clear q1
                      try clear q11
                      try clear q118
                      try clear q119
                      obtain ⟨x10_4, x11_4, rfl, rfl, HA, HK4, HB⟩ := hrel
                      cases gk with
                      | zero => exact absurd HA.out (by simp [pilcrowref10_Bytes.l2])
                      | succ k4 =>
                        have H := HA.out
                        clear HA
                        simp only [pilcrowref10_Bytes.l2] at H
                        by_cases c15 : x11_4 < (l0.length : Int)
                        · rw [if_pos c15] at H
                          have c15b0 : decide (x11_4 < (l0.length : Int)) = true := decide_eq_true c15
                          clear c15
                          have H' := Aside0.mk H
                          clear H
                          go_wp2
                          go_loopg [12, 13] k4 (fun kq v12 v13 w' => ∃ (x12_5 : Int) (x13_5 : Int), v12 = .int .i64 x12_5 ∧ v13 = .int .i64 x13_5 ∧ Aside0 (pilcrowref10_Bytes.l3 kq l0 x3_3 x4_1 x6_3 x7_3 x8_3 x9_3 x10_4 x11_4 x12_5 x13_5 = some r) ∧ Aside0 (kq ≤ k4) ∧ Aside0 (Below w.heap.size w w'))
                          case atStart => exact ⟨(0), (0), (by first | rfl | (simp; done) | (simp [*]; done)), (by first | rfl | (simp; done) | (simp [*]; done)), H', ⟨Nat.le_refl _⟩, ⟨by repeat (first | (with_reducible first | exact HB.out | apply below_alloc | apply pw_below_drewN | apply below_drew1) | exact HB.out)⟩⟩
                          case round =>
                            clear H'
                            try clear c1
                            try clear p1
                            try clear q1
                            try clear hx1
                            try clear hcv1
                            try clear c2
                            try clear p2
                            try clear c3
                            try clear c3b0
                            try clear c4
                            try clear c4b0
                            try clear c5
                            try clear c5b0
                            try clear c6
                            try clear c6b0
                            try clear p6
                            try clear c7
                            try clear c7b0
                            try clear c7b1
                            try clear c7b2
                            try clear hcv10
                            try clear p11
                            try clear q11
                            try clear hx11
                            try clear c12
                            try clear c12b0
                            try clear c13
                            try clear c13b0
                            try clear c13b1
                            try clear c13b2
                            try clear c14
                            try clear c14b0
                            try clear c15
                            try clear c15b0
                            try clear hx118_0
                            try clear hx119_0
                            try clear p1
                            try clear p11
                            try clear p118
                            try clear p119
                            try clear p2
                            try clear p6
                            try clear q1
                            try clear q11
                            try clear q118
                            try clear q119
                            obtain ⟨x12_5, x13_5, rfl, rfl, HA, HK5, HB⟩ := hrel
                            cases gk with
                            | zero => exact absurd HA.out (by simp [pilcrowref10_Bytes.l3])
                            | succ k5 =>
                              have H := HA.out
                              clear HA
                              simp only [pilcrowref10_Bytes.l3] at H
                              by_cases c16 : x13_5 < (l0.length : Int)
                              · rw [if_pos c16] at H
                                have c16b0 : decide (x13_5 < (l0.length : Int)) = true := decide_eq_true c16
                                clear c16
                                replace H := Option.bind_eq_some_iff.mp H
                                obtain ⟨t123, A170, H⟩ := H
                                replace H : (if t123 = true then (pilcrowref10_Bytes.l3 k5 l0 x3_3 x4_1 x6_3 x7_3 x8_3 x9_3 x10_4 x11_4 (wrap64 (x12_5 + 1)) (wrap64 (x13_5 + 1))) else (if 0 ≤ x13_5 then (if (rd l0 x13_5) < 128 then (if 0 ≤ x11_4 then (if x11_4 < (l0.length : Int) then (if (rd l0 x11_4) < 128 then (if x13_5 < x11_4 then (pilcrowref10_Bytes.l3 k5 l0 x3_3 x4_1 x6_3 x7_3 x8_3 x9_3 x10_4 x11_4 (wrap64 (x12_5 + 1)) (wrap64 (x13_5 + 1))) else (pilcrowref10_Bytes.l3 k5 l0 x3_3 x4_1 x6_3 x7_3 x8_3 x9_3 x10_4 x11_4 x12_5 (wrap64 (x13_5 + 1)))) else (pilcrowref10_Bytes.l3 k5 l0 x3_3 x4_1 x6_3 x7_3 x8_3 x9_3 x10_4 x11_4 x12_5 (wrap64 (x13_5 + 1)))) else (none)) else (none)) else (pilcrowref10_Bytes.l3 k5 l0 x3_3 x4_1 x6_3 x7_3 x8_3 x9_3 x10_4 x11_4 x12_5 (wrap64 (x13_5 + 1)))) else (none))) = some r := H
                                have A17 := Aside0.mk A170
                                clear A170
                                by_cases c18 : t123 = true
                                · subst c18
                                  have H1 : (pilcrowref10_Bytes.l3 k5 l0 x3_3 x4_1 x6_3 x7_3 x8_3 x9_3 x10_4 x11_4 (wrap64 (x12_5 + 1)) (wrap64 (x13_5 + 1))) = some r := by rw [if_pos rfl] at H; exact H
                                  clear H
                                  have H := H1
                                  clear H1
                                  have H' := Aside0.mk H
                                  clear H
                                  go_wp2_with (first | ((with_reducible refine gate_callee (f := 35) rfl ?_); refine goesL_ (some 69) rfl rfl Try.func35 (by kernel_rfl) rfl #[.slice A0 l0.length c0, .int .i64 x13_5, .int .i64 x11_4] rfl (by (try simp only [List.map_toArray, List.map_cons, List.map_nil]); first | done | rfl | (simp only [List.length_drop, List.length_take]; rfl)) ?_; (with_reducible refine (pilcrowref10_ahead.calls _ _ l0 x13_5 x11_4 true _ ?side1 ?side2 A17.out).mono ?_); (case side1 => repeat (first | exact (Kd.C_below HR0.out HB.out) | (with_reducible refine Kd.C_alloc ?_ _) | (with_reducible refine Kd.C_drewN ?_ _) | (with_reducible refine Kd.C_drew ?_))); (case side2 => exact HC0.out); rintro e w' ⟨rfl, ⟨nd, rfl⟩⟩; refine ⟨_, rfl, ?_⟩))
                                  go_roundg k5
                                  case measure => have := HK1.out; have := HJ10.out; have := HK3.out; have := HK4.out; have := HK5.out; omega
                                  case rel => exact ⟨(wrap64 (x12_5 + 1)), (wrap64 (x13_5 + 1)), (by first | rfl | (simp; done) | (simp [*]; done)), (by first | rfl | (simp; done) | (simp [*]; done)), H', ⟨by have := HK1.out; have := HJ10.out; have := HK3.out; have := HK4.out; have := HK5.out; omega⟩, ⟨by repeat (first | (with_reducible first | exact HB.out | apply below_alloc | apply pw_below_drewN | apply below_drew1) | exact HB.out)⟩⟩
                                · replace c18 := Bool.eq_false_iff.mpr c18
                                  subst c18
                                  have H1 : (if 0 ≤ x13_5 then (if (rd l0 x13_5) < 128 then (if 0 ≤ x11_4 then (if x11_4 < (l0.length : Int) then (if (rd l0 x11_4) < 128 then (if x13_5 < x11_4 then (pilcrowref10_Bytes.l3 k5 l0 x3_3 x4_1 x6_3 x7_3 x8_3 x9_3 x10_4 x11_4 (wrap64 (x12_5 + 1)) (wrap64 (x13_5 + 1))) else (pilcrowref10_Bytes.l3 k5 l0 x3_3 x4_1 x6_3 x7_3 x8_3 x9_3 x10_4 x11_4 x12_5 (wrap64 (x13_5 + 1)))) else (pilcrowref10_Bytes.l3 k5 l0 x3_3 x4_1 x6_3 x7_3 x8_3 x9_3 x10_4 x11_4 x12_5 (wrap64 (x13_5 + 1)))) else (none)) else (none)) else (pilcrowref10_Bytes.l3 k5 l0 x3_3 x4_1 x6_3 x7_3 x8_3 x9_3 x10_4 x11_4 x12_5 (wrap64 (x13_5 + 1)))) else (none)) = some r := by rw [if_neg (show ¬ (false = true) by decide)] at H; exact H
                                  clear H
                                  have H := H1
                                  clear H1
                                  by_cases c19 : 0 ≤ x13_5
                                  · rw [if_pos c19] at H
                                    have c19b0 : decide (0 ≤ x13_5) = true := decide_eq_true c19
                                    clear c19
                                    by_cases c20 : (rd l0 x13_5) < 128
                                    · rw [if_pos c20] at H
                                      have c20b0 : decide ((rd l0 x13_5) < 128) = true := decide_eq_true c20
                                      clear c20
                                      by_cases c21 : 0 ≤ x11_4
                                      · rw [if_pos c21] at H
                                        have c21b0 : decide (0 ≤ x11_4) = true := decide_eq_true c21
                                        clear c21
                                        by_cases c22 : x11_4 < (l0.length : Int)
                                        · rw [if_pos c22] at H
                                          have c22b0 : decide (x11_4 < (l0.length : Int)) = true := decide_eq_true c22
                                          clear c22
                                          by_cases c23 : (rd l0 x11_4) < 128
                                          · rw [if_pos c23] at H
                                            have c23b0 : decide ((rd l0 x11_4) < 128) = true := decide_eq_true c23
                                            clear c23
                                            by_cases c24 : x13_5 < x11_4
                                            · rw [if_pos c24] at H
                                              have c24b0 : decide (x13_5 < x11_4) = true := decide_eq_true c24
                                              clear c24
                                              have H' := Aside0.mk H
                                              clear H
                                              go_wp2_with (first | ((with_reducible refine gate_callee (f := 35) rfl ?_); refine goesL_ (some 69) rfl rfl Try.func35 (by kernel_rfl) rfl #[.slice A0 l0.length c0, .int .i64 x13_5, .int .i64 x11_4] rfl (by (try simp only [List.map_toArray, List.map_cons, List.map_nil]); first | done | rfl | (simp only [List.length_drop, List.length_take]; rfl)) ?_; (with_reducible refine (pilcrowref10_ahead.calls _ _ l0 x13_5 x11_4 false _ ?side1 ?side2 A17.out).mono ?_); (case side1 => repeat (first | exact (Kd.C_below HR0.out HB.out) | (with_reducible refine Kd.C_alloc ?_ _) | (with_reducible refine Kd.C_drewN ?_ _) | (with_reducible refine Kd.C_drew ?_))); (case side2 => exact HC0.out); rintro e w' ⟨rfl, ⟨nd, rfl⟩⟩; refine ⟨_, rfl, ?_⟩; have p124 : 0 ≤ (x13_5 : Int) := of_decide_eq_true (by first | (with_reducible assumption) | assumption); have q124 : x13_5 < (l0.length : Int) := of_decide_eq_true (by first | (with_reducible assumption) | assumption); obtain ⟨ad124, e124, hx124_0⟩ := Kd.at_int HR0.out x13_5 p124 q124; cases e124; replace hx124_0 := (HB.out.cell (World.block_lt_of_cell? w _ hx124_0)).trans hx124_0; replace p124 := eq_true p124; replace q124 := eq_true q124; have p125 : 0 ≤ (x11_4 : Int) := of_decide_eq_true (by first | (with_reducible assumption) | assumption); have q125 : x11_4 < (l0.length : Int) := of_decide_eq_true (by first | (with_reducible assumption) | assumption); obtain ⟨ad125, e125, hx125_0⟩ := Kd.at_int HR0.out x11_4 p125 q125; obtain rfl : ad124 = ad125 := (by injection e125); replace hx125_0 := (HB.out.cell (World.block_lt_of_cell? w _ hx125_0)).trans hx125_0; replace p125 := eq_true p125; replace q125 := eq_true q125))
                                              go_roundg k5
                                              case measure => have := HK1.out; have := HJ10.out; have := HK3.out; have := HK4.out; have := HK5.out; omega
                                              case rel => exact ⟨(wrap64 (x12_5 + 1)), (wrap64 (x13_5 + 1)), (by first | rfl | (simp; done) | (simp [*]; done)), (by first | rfl | (simp; done) | (simp [*]; done)), H', ⟨by have := HK1.out; have := HJ10.out; have := HK3.out; have := HK4.out; have := HK5.out; omega⟩, ⟨by repeat (first | (with_reducible first | exact HB.out | apply below_alloc | apply pw_below_drewN | apply below_drew1) | exact HB.out)⟩⟩
                                            · rw [if_neg c24] at H
                                              have c24b0 : decide (x13_5 < x11_4) = false := decide_eq_false c24
                                              clear c24
                                              have H' := Aside0.mk H
                                              clear H
                                              go_wp2_with (first | ((with_reducible refine gate_callee (f := 35) rfl ?_); refine goesL_ (some 69) rfl rfl Try.func35 (by kernel_rfl) rfl #[.slice A0 l0.length c0, .int .i64 x13_5, .int .i64 x11_4] rfl (by (try simp only [List.map_toArray, List.map_cons, List.map_nil]); first | done | rfl | (simp only [List.length_drop, List.length_take]; rfl)) ?_; (with_reducible refine (pilcrowref10_ahead.calls _ _ l0 x13_5 x11_4 false _ ?side1 ?side2 A17.out).mono ?_); (case side1 => repeat (first | exact (Kd.C_below HR0.out HB.out) | (with_reducible refine Kd.C_alloc ?_ _) | (with_reducible refine Kd.C_drewN ?_ _) | (with_reducible refine Kd.C_drew ?_))); (case side2 => exact HC0.out); rintro e w' ⟨rfl, ⟨nd, rfl⟩⟩; refine ⟨_, rfl, ?_⟩; have p124 : 0 ≤ (x13_5 : Int) := of_decide_eq_true (by first | (with_reducible assumption) | assumption); have q124 : x13_5 < (l0.length : Int) := of_decide_eq_true (by first | (with_reducible assumption) | assumption); obtain ⟨ad124, e124, hx124_0⟩ := Kd.at_int HR0.out x13_5 p124 q124; cases e124; replace hx124_0 := (HB.out.cell (World.block_lt_of_cell? w _ hx124_0)).trans hx124_0; replace p124 := eq_true p124; replace q124 := eq_true q124; have p125 : 0 ≤ (x11_4 : Int) := of_decide_eq_true (by first | (with_reducible assumption) | assumption); have q125 : x11_4 < (l0.length : Int) := of_decide_eq_true (by first | (with_reducible assumption) | assumption); obtain ⟨ad125, e125, hx125_0⟩ := Kd.at_int HR0.out x11_4 p125 q125; obtain rfl : ad124 = ad125 := (by injection e125); replace hx125_0 := (HB.out.cell (World.block_lt_of_cell? w _ hx125_0)).trans hx125_0; replace p125 := eq_true p125; replace q125 := eq_true q125))
                                              go_roundg k5
                                              case measure => have := HK1.out; have := HJ10.out; have := HK3.out; have := HK4.out; have := HK5.out; omega
                                              case rel => exact ⟨(x12_5), (wrap64 (x13_5 + 1)), (by first | rfl | (simp; done) | (simp [*]; done)), (by first | rfl | (simp; done) | (simp [*]; done)), H', ⟨by have := HK1.out; have := HJ10.out; have := HK3.out; have := HK4.out; have := HK5.out; omega⟩, ⟨by repeat (first | (with_reducible first | exact HB.out | apply below_alloc | apply pw_below_drewN | apply below_drew1) | exact HB.out)⟩⟩
                                          · rw [if_neg c23] at H
                                            have c23b0 : decide ((rd l0 x11_4) < 128) = false := decide_eq_false c23
                                            clear c23
                                            have H' := Aside0.mk H
                                            clear H
                                            go_wp2_with (first | ((with_reducible refine gate_callee (f := 35) rfl ?_); refine goesL_ (some 69) rfl rfl Try.func35 (by kernel_rfl) rfl #[.slice A0 l0.length c0, .int .i64 x13_5, .int .i64 x11_4] rfl (by (try simp only [List.map_toArray, List.map_cons, List.map_nil]); first | done | rfl | (simp only [List.length_drop, List.length_take]; rfl)) ?_; (with_reducible refine (pilcrowref10_ahead.calls _ _ l0 x13_5 x11_4 false _ ?side1 ?side2 A17.out).mono ?_); (case side1 => repeat (first | exact (Kd.C_below HR0.out HB.out) | (with_reducible refine Kd.C_alloc ?_ _) | (with_reducible refine Kd.C_drewN ?_ _) | (with_reducible refine Kd.C_drew ?_))); (case side2 => exact HC0.out); rintro e w' ⟨rfl, ⟨nd, rfl⟩⟩; refine ⟨_, rfl, ?_⟩; have p124 : 0 ≤ (x13_5 : Int) := of_decide_eq_true (by first | (with_reducible assumption) | assumption); have q124 : x13_5 < (l0.length : Int) := of_decide_eq_true (by first | (with_reducible assumption) | assumption); obtain ⟨ad124, e124, hx124_0⟩ := Kd.at_int HR0.out x13_5 p124 q124; cases e124; replace hx124_0 := (HB.out.cell (World.block_lt_of_cell? w _ hx124_0)).trans hx124_0; replace p124 := eq_true p124; replace q124 := eq_true q124; have p125 : 0 ≤ (x11_4 : Int) := of_decide_eq_true (by first | (with_reducible assumption) | assumption); have q125 : x11_4 < (l0.length : Int) := of_decide_eq_true (by first | (with_reducible assumption) | assumption); obtain ⟨ad125, e125, hx125_0⟩ := Kd.at_int HR0.out x11_4 p125 q125; obtain rfl : ad124 = ad125 := (by injection e125); replace hx125_0 := (HB.out.cell (World.block_lt_of_cell? w _ hx125_0)).trans hx125_0; replace p125 := eq_true p125; replace q125 := eq_true q125))
                                            go_roundg k5
                                            case measure => have := HK1.out; have := HJ10.out; have := HK3.out; have := HK4.out; have := HK5.out; omega
                                            case rel => exact ⟨(x12_5), (wrap64 (x13_5 + 1)), (by first | rfl | (simp; done) | (simp [*]; done)), (by first | rfl | (simp; done) | (simp [*]; done)), H', ⟨by have := HK1.out; have := HJ10.out; have := HK3.out; have := HK4.out; have := HK5.out; omega⟩, ⟨by repeat (first | (with_reducible first | exact HB.out | apply below_alloc | apply pw_below_drewN | apply below_drew1) | exact HB.out)⟩⟩
                                        · rw [if_neg c22] at H
                                          exact absurd H (by simp)
                                      · rw [if_neg c21] at H
                                        exact absurd H (by simp)
                                    · rw [if_neg c20] at H
                                      have c20b0 : decide ((rd l0 x13_5) < 128) = false := decide_eq_false c20
                                      clear c20
                                      have H' := Aside0.mk H
                                      clear H
                                      go_wp2_with (first | ((with_reducible refine gate_callee (f := 35) rfl ?_); refine goesL_ (some 69) rfl rfl Try.func35 (by kernel_rfl) rfl #[.slice A0 l0.length c0, .int .i64 x13_5, .int .i64 x11_4] rfl (by (try simp only [List.map_toArray, List.map_cons, List.map_nil]); first | done | rfl | (simp only [List.length_drop, List.length_take]; rfl)) ?_; (with_reducible refine (pilcrowref10_ahead.calls _ _ l0 x13_5 x11_4 false _ ?side1 ?side2 A17.out).mono ?_); (case side1 => repeat (first | exact (Kd.C_below HR0.out HB.out) | (with_reducible refine Kd.C_alloc ?_ _) | (with_reducible refine Kd.C_drewN ?_ _) | (with_reducible refine Kd.C_drew ?_))); (case side2 => exact HC0.out); rintro e w' ⟨rfl, ⟨nd, rfl⟩⟩; refine ⟨_, rfl, ?_⟩; have p124 : 0 ≤ (x13_5 : Int) := of_decide_eq_true (by first | (with_reducible assumption) | assumption); have q124 : x13_5 < (l0.length : Int) := of_decide_eq_true (by first | (with_reducible assumption) | assumption); obtain ⟨ad124, e124, hx124_0⟩ := Kd.at_int HR0.out x13_5 p124 q124; cases e124; replace hx124_0 := (HB.out.cell (World.block_lt_of_cell? w _ hx124_0)).trans hx124_0; replace p124 := eq_true p124; replace q124 := eq_true q124))
                                      go_roundg k5
                                      case measure => have := HK1.out; have := HJ10.out; have := HK3.out; have := HK4.out; have := HK5.out; omega
                                      case rel => exact ⟨(x12_5), (wrap64 (x13_5 + 1)), (by first | rfl | (simp; done) | (simp [*]; done)), (by first | rfl | (simp; done) | (simp [*]; done)), H', ⟨by have := HK1.out; have := HJ10.out; have := HK3.out; have := HK4.out; have := HK5.out; omega⟩, ⟨by repeat (first | (with_reducible first | exact HB.out | apply below_alloc | apply pw_below_drewN | apply below_drew1) | exact HB.out)⟩⟩
                                  · rw [if_neg c19] at H
                                    exact absurd H (by simp)
                              · rw [if_neg c16] at H
                                have c16b0 : decide (x13_5 < (l0.length : Int)) = false := decide_eq_false c16
                                clear c16
                                by_cases c25 : x12_5 = x9_3
                                · rw [if_pos c25] at H
                                  have c25b0 : (x12_5 == x9_3) = true := beq_iff_eq.mpr c25
                                  have c25b1 : (x12_5 != x9_3) = false := bne_eq_false_iff_eq.mpr c25
                                  clear c25
                                  have H' := Aside0.mk H
                                  clear H
                                  go_wp2
                                  go_roundg k5
                                  case measure => have := HK1.out; have := HJ10.out; have := HK3.out; have := HK4.out; have := HK5.out; omega
                                  case rel => exact ⟨(x11_4), (wrap64 (x11_4 + 1)), (by first | rfl | (simp; done) | (simp [*]; done)), (by first | rfl | (simp; done) | (simp [*]; done)), H', ⟨by have := HK1.out; have := HJ10.out; have := HK3.out; have := HK4.out; have := HK5.out; omega⟩, ⟨by repeat (first | (with_reducible first | exact HB.out | apply below_alloc | apply pw_below_drewN | apply below_drew1) | exact HB.out)⟩⟩
                                · rw [if_neg c25] at H
                                  have c25b0 : (x12_5 == x9_3) = false := beq_eq_false_iff_ne.mpr c25
                                  have c25b1 : (x12_5 != x9_3) = true := bne_iff_ne.mpr c25
                                  have H' := Aside0.mk H
                                  clear H
                                  go_wp2
                                  go_roundg k5
                                  case measure => have := HK1.out; have := HJ10.out; have := HK3.out; have := HK4.out; have := HK5.out; omega
                                  case rel => exact ⟨(x10_4), (wrap64 (x11_4 + 1)), (by first | rfl | (simp; done) | (simp [*]; done)), (by first | rfl | (simp; done) | (simp [*]; done)), H', ⟨by have := HK1.out; have := HJ10.out; have := HK3.out; have := HK4.out; have := HK5.out; omega⟩, ⟨by repeat (first | (with_reducible first | exact HB.out | apply below_alloc | apply pw_below_drewN | apply below_drew1) | exact HB.out)⟩⟩
                        · rw [if_neg c15] at H
                          have c15b0 : decide (x11_4 < (l0.length : Int)) = false := decide_eq_false c15
                          clear c15
                          have H' := Aside0.mk H
                          clear H
                          go_wp2
                          go_loopg [14, 15] k4 (fun kq v14 v15 w' => ∃ (x14_5 : Int) (x15_5 : Int), v14 = .int .i64 x14_5 ∧ v15 = .int .i64 x15_5 ∧ Aside0 (pilcrowref10_Bytes.l4 kq l0 x3_3 x4_1 x6_3 x7_3 x8_3 x9_3 x10_4 x14_5 x15_5 = some r) ∧ Aside0 (kq ≤ k4) ∧ Aside0 (Below w.heap.size w w'))
                          case atStart => exact ⟨(0), (0), (by first | rfl | (simp; done) | (simp [*]; done)), (by first | rfl | (simp; done) | (simp [*]; done)), H', ⟨Nat.le_refl _⟩, ⟨by repeat (first | (with_reducible first | exact HB.out | apply below_alloc | apply pw_below_drewN | apply below_drew1) | exact HB.out)⟩⟩
                          case round =>
                            clear H'
                            try clear c1
                            try clear p1
                            try clear q1
                            try clear hx1
                            try clear hcv1
                            try clear c2
                            try clear p2
                            try clear c3
                            try clear c3b0
                            try clear c4
                            try clear c4b0
                            try clear c5
                            try clear c5b0
                            try clear c6
                            try clear c6b0
                            try clear p6
                            try clear c7
                            try clear c7b0
                            try clear c7b1
                            try clear c7b2
                            try clear hcv10
                            try clear p11
                            try clear q11
                            try clear hx11
                            try clear c12
                            try clear c12b0
                            try clear p12
                            try clear q12
                            try clear hx12
                            try clear c13
                            try clear c13b0
                            try clear c13b1
                            try clear c13b2
                            try clear c14
                            try clear c14b0
                            try clear c15
                            try clear c15b0
                            try clear c16
                            try clear c16b0
                            try clear c18
                            try clear c19
                            try clear c19b0
                            try clear c20
                            try clear c20b0
                            try clear c21
                            try clear c21b0
                            try clear c22
                            try clear c22b0
                            try clear c23
                            try clear c23b0
                            try clear c24
                            try clear c24b0
                            try clear c25
                            try clear c25b0
                            try clear c25b1
                            try clear hx118_0
                            try clear hx119_0
                            try clear hx124_0
                            try clear hx125_0
                            try clear p1
                            try clear p11
                            try clear p118
                            try clear p119
                            try clear p124
                            try clear p125
                            try clear p2
                            try clear p6
                            try clear q1
                            try clear q11
                            try clear q118
                            try clear q119
                            try clear q124
                            try clear q125
                            obtain ⟨x14_5, x15_5, rfl, rfl, HA, HK5, HB⟩ := hrel
                            cases gk with
                            | zero => exact absurd HA.out (by simp [pilcrowref10_Bytes.l4])
                            | succ k5 =>
                              have H := HA.out
                              clear HA
                              simp only [pilcrowref10_Bytes.l4] at H
                              by_cases c26 : x15_5 < x10_4
                              · rw [if_pos c26] at H
                                have c26b0 : decide (x15_5 < x10_4) = true := decide_eq_true c26
                                clear c26
                                replace H := Option.bind_eq_some_iff.mp H
                                obtain ⟨t126, A270, H⟩ := H
                                replace H : (if t126 = true then (pilcrowref10_Bytes.l4 k5 l0 x3_3 x4_1 x6_3 x7_3 x8_3 x9_3 x10_4 (wrap64 (x14_5 + 1)) (wrap64 (x15_5 + 1))) else (pilcrowref10_Bytes.l4 k5 l0 x3_3 x4_1 x6_3 x7_3 x8_3 x9_3 x10_4 x14_5 (wrap64 (x15_5 + 1)))) = some r := H
                                have A27 := Aside0.mk A270
                                clear A270
                                by_cases c28 : t126 = true
                                · subst c28
                                  have H1 : (pilcrowref10_Bytes.l4 k5 l0 x3_3 x4_1 x6_3 x7_3 x8_3 x9_3 x10_4 (wrap64 (x14_5 + 1)) (wrap64 (x15_5 + 1))) = some r := by rw [if_pos rfl] at H; exact H
                                  clear H
                                  have H := H1
                                  clear H1
                                  have H' := Aside0.mk H
                                  clear H
                                  go_wp2_with (first | ((with_reducible refine gate_callee (f := 35) rfl ?_); refine goesL_ (some 103) rfl rfl Try.func35 (by kernel_rfl) rfl #[.slice A0 l0.length c0, .int .i64 x15_5, .int .i64 x10_4] rfl (by (try simp only [List.map_toArray, List.map_cons, List.map_nil]); first | done | rfl | (simp only [List.length_drop, List.length_take]; rfl)) ?_; (with_reducible refine (pilcrowref10_ahead.calls _ _ l0 x15_5 x10_4 true _ ?side1 ?side2 A27.out).mono ?_); (case side1 => repeat (first | exact (Kd.C_below HR0.out HB.out) | (with_reducible refine Kd.C_alloc ?_ _) | (with_reducible refine Kd.C_drewN ?_ _) | (with_reducible refine Kd.C_drew ?_))); (case side2 => exact HC0.out); rintro e w' ⟨rfl, ⟨nd, rfl⟩⟩; refine ⟨_, rfl, ?_⟩))
                                  go_roundg k5
                                  case measure => have := HK1.out; have := HJ10.out; have := HK3.out; have := HK4.out; have := HK5.out; omega
                                  case rel => exact ⟨(wrap64 (x14_5 + 1)), (wrap64 (x15_5 + 1)), (by first | rfl | (simp; done) | (simp [*]; done)), (by first | rfl | (simp; done) | (simp [*]; done)), H', ⟨by have := HK1.out; have := HJ10.out; have := HK3.out; have := HK4.out; have := HK5.out; omega⟩, ⟨by repeat (first | (with_reducible first | exact HB.out | apply below_alloc | apply pw_below_drewN | apply below_drew1) | exact HB.out)⟩⟩
                                · replace c28 := Bool.eq_false_iff.mpr c28
                                  subst c28
                                  have H1 : (pilcrowref10_Bytes.l4 k5 l0 x3_3 x4_1 x6_3 x7_3 x8_3 x9_3 x10_4 x14_5 (wrap64 (x15_5 + 1))) = some r := by rw [if_neg (show ¬ (false = true) by decide)] at H; exact H
                                  clear H
                                  have H := H1
                                  clear H1
                                  have H' := Aside0.mk H
                                  clear H
                                  go_wp2_with (first | ((with_reducible refine gate_callee (f := 35) rfl ?_); refine goesL_ (some 103) rfl rfl Try.func35 (by kernel_rfl) rfl #[.slice A0 l0.length c0, .int .i64 x15_5, .int .i64 x10_4] rfl (by (try simp only [List.map_toArray, List.map_cons, List.map_nil]); first | done | rfl | (simp only [List.length_drop, List.length_take]; rfl)) ?_; (with_reducible refine (pilcrowref10_ahead.calls _ _ l0 x15_5 x10_4 false _ ?side1 ?side2 A27.out).mono ?_); (case side1 => repeat (first | exact (Kd.C_below HR0.out HB.out) | (with_reducible refine Kd.C_alloc ?_ _) | (with_reducible refine Kd.C_drewN ?_ _) | (with_reducible refine Kd.C_drew ?_))); (case side2 => exact HC0.out); rintro e w' ⟨rfl, ⟨nd, rfl⟩⟩; refine ⟨_, rfl, ?_⟩))
                                  go_roundg k5
                                  case measure => have := HK1.out; have := HJ10.out; have := HK3.out; have := HK4.out; have := HK5.out; omega
                                  case rel => exact ⟨(x14_5), (wrap64 (x15_5 + 1)), (by first | rfl | (simp; done) | (simp [*]; done)), (by first | rfl | (simp; done) | (simp [*]; done)), H', ⟨by have := HK1.out; have := HJ10.out; have := HK3.out; have := HK4.out; have := HK5.out; omega⟩, ⟨by repeat (first | (with_reducible first | exact HB.out | apply below_alloc | apply pw_below_drewN | apply below_drew1) | exact HB.out)⟩⟩
                              · rw [if_neg c26] at H
                                have c26b0 : decide (x15_5 < x10_4) = false := decide_eq_false c26
                                clear c26
                                by_cases c29 : 0 ≤ x10_4
                                · rw [if_pos c29] at H
                                  have c29b0 : decide (0 ≤ x10_4) = true := decide_eq_true c29
                                  clear c29
                                  by_cases c30 : x10_4 < (l0.length : Int)
                                  · rw [if_pos c30] at H
                                    have c30b0 : decide (x10_4 < (l0.length : Int)) = true := decide_eq_true c30
                                    clear c30
                                    replace H := Option.bind_eq_some_iff.mp H
                                    obtain ⟨t128, A310, H⟩ := H
                                    replace H : (if x3_3.size + t128.size ≤ 9223372036854775807 then ((pilcrowref09_Adapt.f k5 (IntKind.u64.wrap ((IntKind.u64.wrap ((IntKind.u64.wrap ((((rd l0 x10_4) - x6_3) % 4294967296) * (IntKind.u64.wrap (wrap64 (x9_3 + 1))))) + (IntKind.u64.wrap (x14_5)))) - (IntKind.u64.wrap (x7_3)))) (IntKind.u64.wrap (wrap64 (x9_3 + 1))) (x9_3 == x4_1)).bind fun t129 => (pilcrowref10_Bytes.l1 k5 l0 (x3_3 ++ t128) x4_1 (rd l0 x10_4) (wrap64 (x14_5 + 1)) t129 (wrap64 (x9_3 + 1)))) else (none)) = some r := H
                                    have A31 := Aside0.mk A310
                                    clear A310
                                    by_cases c32 : x3_3.size + t128.size ≤ 9223372036854775807
                                    · rw [if_pos c32] at H
                                      have c32b0 := eq_true c32
                                      have c32b1 : decide (x3_3.size + t128.size ≤ 9223372036854775807) = true := decide_eq_true c32
                                      try have c32b2 : (9223372036854775807 < x3_3.size + t128.size) = False := eq_false (Nat.not_lt.2 c32)
                                      replace H := Option.bind_eq_some_iff.mp H
                                      obtain ⟨t129, A330, H⟩ := H
                                      replace H : (pilcrowref10_Bytes.l1 k5 l0 (x3_3 ++ t128) x4_1 (rd l0 x10_4) (wrap64 (x14_5 + 1)) t129 (wrap64 (x9_3 + 1))) = some r := H
                                      have A33 := Aside0.mk A330
                                      clear A330
                                      have H' := Aside0.mk H
                                      clear H
                                      have p127 : 0 ≤ (x10_4 : Int) := of_decide_eq_true (by first | (with_reducible assumption) | assumption)
                                      have q127 : x10_4 < (l0.length : Int) := of_decide_eq_true (by first | (with_reducible assumption) | assumption)
                                      obtain ⟨ad127, e127, hx127_0⟩ := Kd.at_int HR0.out x10_4 p127 q127
                                      cases e127
                                      replace hx127_0 := (HB.out.cell (World.block_lt_of_cell? w _ hx127_0)).trans hx127_0
                                      replace p127 := eq_true p127
                                      replace q127 := eq_true q127
                                      go_wp2_with (first | ((with_reducible refine gate_callee (f := 36) rfl ?_); refine goesL_ (some 126) rfl rfl Try.func36 (by kernel_rfl) rfl #[.int .u64 (IntKind.u64.wrap ((IntKind.u64.wrap ((IntKind.u64.wrap ((((rd l0 x10_4) - x6_3) % 4294967296) * (IntKind.u64.wrap (wrap64 (x9_3 + 1))))) + (IntKind.u64.wrap (x14_5)))) - (IntKind.u64.wrap (x7_3)))), .int .i64 x8_3] rfl (by (try simp only [List.map_toArray, List.map_cons, List.map_nil]); first | done | rfl | (simp only [List.length_drop, List.length_take]; rfl)) ?_; (with_reducible refine (pilcrowref09_Put.calls k5 (IntKind.u64.wrap ((IntKind.u64.wrap ((IntKind.u64.wrap ((((rd l0 x10_4) - x6_3) % 4294967296) * (IntKind.u64.wrap (wrap64 (x9_3 + 1))))) + (IntKind.u64.wrap (x14_5)))) - (IntKind.u64.wrap (x7_3)))) x8_3 t128 _ A31.out).mono ?_); rintro e w' ⟨rfl, ⟨nd, rfl⟩⟩; refine ⟨_, rfl, ?_⟩) | ((with_reducible refine gate_callee (f := 37) rfl ?_); refine goesL_ (some 135) rfl rfl Try.func37 (by kernel_rfl) rfl #[.int .u64 (IntKind.u64.wrap ((IntKind.u64.wrap ((IntKind.u64.wrap ((((rd l0 x10_4) - x6_3) % 4294967296) * (IntKind.u64.wrap (wrap64 (x9_3 + 1))))) + (IntKind.u64.wrap (x14_5)))) - (IntKind.u64.wrap (x7_3)))), .int .u64 (IntKind.u64.wrap (wrap64 (x9_3 + 1))), .bool (x9_3 == x4_1)] rfl (by (try simp only [List.map_toArray, List.map_cons, List.map_nil]); first | done | rfl | (simp only [List.length_drop, List.length_take]; rfl)) ?_; (with_reducible refine (pilcrowref09_Adapt.calls k5 (IntKind.u64.wrap ((IntKind.u64.wrap ((IntKind.u64.wrap ((((rd l0 x10_4) - x6_3) % 4294967296) * (IntKind.u64.wrap (wrap64 (x9_3 + 1))))) + (IntKind.u64.wrap (x14_5)))) - (IntKind.u64.wrap (x7_3)))) (IntKind.u64.wrap (wrap64 (x9_3 + 1))) (x9_3 == x4_1) t129 _ A33.out).mono ?_); rintro e w' ⟨rfl, ⟨nd, rfl⟩⟩; refine ⟨_, rfl, ?_⟩; have p130 : 0 ≤ (x10_4 : Int) := of_decide_eq_true (by first | (with_reducible assumption) | assumption); have q130 : x10_4 < (l0.length : Int) := of_decide_eq_true (by first | (with_reducible assumption) | assumption); obtain ⟨ad130, e130, hx130_0⟩ := Kd.at_int HR0.out x10_4 p130 q130; obtain rfl : ad127 = ad130 := (by injection e130); replace hx130_0 := (HB.out.cell (World.block_lt_of_cell? w _ hx130_0)).trans hx130_0; replace p130 := eq_true p130; replace q130 := eq_true q130))
                                      go_roundg k5
                                      case measure => have := HK1.out; have := HJ10.out; have := HK3.out; have := HK4.out; have := HK5.out; omega
                                      case rel => exact ⟨(x3_3 ++ t128), (rd l0 x10_4), (wrap64 (x14_5 + 1)), (t129), (wrap64 (x9_3 + 1)), (by first | rfl | (simp; done) | (simp [*]; done)), (by first | rfl | (simp; done) | (simp [*]; done)), (by first | rfl | (simp; done) | (simp [*]; done)), (by first | rfl | (simp; done) | (simp [*]; done)), (by first | rfl | (simp; done) | (simp [*]; done)), H', ⟨by have := HK1.out; have := HJ10.out; have := HK3.out; have := HK4.out; have := HK5.out; omega⟩, ⟨by repeat (first | (with_reducible first | exact HB.out | apply below_alloc | apply pw_below_drewN | apply below_drew1) | exact HB.out)⟩⟩
                                    · rw [if_neg c32] at H
                                      exact absurd H (by simp)
                                  · rw [if_neg c30] at H
                                    exact absurd H (by simp)
                                · rw [if_neg c29] at H
                                  exact absurd H (by simp)
                  · rw [if_neg c14] at H
                    have c14b0 : decide (x9_3 < (l0.length : Int)) = false := decide_eq_false c14
                    clear c14
                    obtain rfl := Option.some.inj H
                    go_wp2
                    go_ret
                    exact ⟨by first | rfl | (simp [errW_none, errW_some] <;> rfl) | (simp [*, errW_none, errW_some] <;> rfl), by repeat (first | (with_reducible first | exact HB.out | apply below_alloc | apply pw_below_drewN | apply below_drew1) | exact HB.out)⟩

end Go.Proofs.Ytegacgfhmigdjaa.PPb
