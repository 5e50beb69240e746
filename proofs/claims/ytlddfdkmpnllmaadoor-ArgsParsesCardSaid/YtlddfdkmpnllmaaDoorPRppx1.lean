/- Go functions as Lean functions, and that the one comes to what the other answers: written by the kit's print.py for several functions together (wip/printall.sh of this repo). -/
import Derived.Test.YtlddfdkmpnllmaaDoorPRppx0
namespace Go.Proofs.YtlddfdkmpnllmaaDoor.PRpp
open Go.RowKit Go.Proofs.YtlddfdkmpnllmaaDoorW.PrintWords Go.Proofs.YtlddfdkmpnllmaaDoorW.PrintLast Go.Proofs.YtlddfdkmpnllmaaDoorW.PrintMore
attribute [local go_sem] max2_int min2_int max_two min_two max_three min_three max_four min_four   -- for this text's walks alone
set_option linter.unusedVariables false
set_option linter.unusedSimpArgs false

/-! ### pilcrowref24_find: function 23 -/
def pilcrowref24_find.l0 : Nat → List ByteArray → ByteArray → Int → Option (Int)
  | 0, _, _, _ => none
  | k + 1, x0, x1, x5 => if x5 < (x0.length : Int) then (if 0 ≤ x5 then (if (rdOf ByteArray.empty x0 x5).toList = x1.toList then (some x5) else (pilcrowref24_find.l0 k x0 x1 (wrap64 (x5 + 1)))) else (none)) else (some (-1))
def pilcrowref24_find.f (k : Nat) (l0 : List ByteArray) (a1 : ByteArray) : Option (Int) := pilcrowref24_find.l0 k l0 a1 0
theorem pilcrowref24_find.mono_l : ∀ k, (∀ y0 y1 y2, LeO (pilcrowref24_find.l0 k y0 y1 y2) (pilcrowref24_find.l0 (k + 1) y0 y1 y2))
  | 0 => fun _ _ _ r h => by simp [pilcrowref24_find.l0] at h
  | k + 1 => by
    have ih0 := pilcrowref24_find.mono_l k
    · intro y0 y1 y2
      unfold pilcrowref24_find.l0
      repeat' first
      | (with_reducible exact ih0 _ _ _)
      | (with_reducible exact LeO.refl _)
      | (with_reducible exact LeO.none _)
      | (with_reducible refine LeO.ite ?_ ?_)
      | (with_reducible refine LeO.bind ?_ (fun _ => ?_))
      | exact ih0 _ _ _
      | exact LeO.none _
      | refine LeO.ite ?_ ?_
      | refine LeO.bind ?_ (fun _ => ?_)
theorem pilcrowref24_find.mono : ∀ a0 a1 k, LeO (pilcrowref24_find.f k a0 a1) (pilcrowref24_find.f (k + 1) a0 a1) := by
  intro a0 a1 k
  have ih0 := pilcrowref24_find.mono_l k
  unfold pilcrowref24_find.f
  repeat' first
      | (with_reducible exact ih0 _ _ _)
      | (with_reducible exact LeO.refl _)
      | (with_reducible exact LeO.none _)
      | (with_reducible refine LeO.ite ?_ ?_)
      | (with_reducible refine LeO.bind ?_ (fun _ => ?_))
      | exact ih0 _ _ _
      | exact LeO.none _
      | refine LeO.ite ?_ ?_
      | refine LeO.bind ?_ (fun _ => ?_)
set_option maxHeartbeats 8000000 in
set_option maxRecDepth 100000 in
theorem pilcrowref24_find.calls (k : Nat) (A0 : Option Addr) (c0 : Nat) (l0 : List ByteArray) (a1 : ByteArray) (r : Int) (w : World) (hr0 : Kd.C Kd.string w A0 l0.length l0) (hc0 : l0.length ≤ c0) (h : pilcrowref24_find.f k l0 a1 = some r) :
    Calls Tryd.prog 23 #[.slice A0 l0.length c0, .string a1] w fun e w' => e = .returned (.int .i64 r) ∧ Drawn0 w w' := by
  have HR0 := Aside0.mk hr0
  have HC0 := Aside0.mk hc0
  clear hr0 hc0
  have H : (pilcrowref24_find.l0 k l0 a1 0) = some r := h
  clear h
  have H' := Aside0.mk H
  clear H
  go_enter Tryd.func23, Tryd.ntmps23
  go_wp2
  go_loopg [5] k (fun kq v5 w' => ∃ (x5_1 : Int), v5 = .int .i64 x5_1 ∧ Aside0 (pilcrowref24_find.l0 kq l0 a1 x5_1 = some r) ∧ Aside0 (kq ≤ k) ∧ Drawn0 w w')
  case atStart => exact ⟨(0), (by first | rfl | (simp; done) | (simp [*]; done)), H', ⟨Nat.le_refl _⟩, by repeat (first | exact Drawn0.refl _ | apply Drawn0.step)⟩
  case round =>
    clear H'
    try clear c2
    try clear p2
    obtain ⟨x5_1, rfl, HA, HK1, ⟨m1, rfl⟩⟩ := hrel
    cases gk with
    | zero => exact absurd HA.out (by simp [pilcrowref24_find.l0])
    | succ k1 =>
      have H := HA.out
      clear HA
      simp only [pilcrowref24_find.l0] at H
      by_cases c3 : x5_1 < (l0.length : Int)
      · rw [if_pos c3] at H
        have c3b0 : decide (x5_1 < (l0.length : Int)) = true := decide_eq_true c3
        clear c3
        by_cases c4 : 0 ≤ x5_1
        · rw [if_pos c4] at H
          have c4b0 : decide (0 ≤ x5_1) = true := decide_eq_true c4
          clear c4
          by_cases c5 : (rdOf ByteArray.empty l0 x5_1).toList = a1.toList
          · rw [if_pos c5] at H
            have c5b0 : ((rdOf ByteArray.empty l0 x5_1).toList == a1.toList) = true := beq_iff_eq.mpr c5
            have c5b1 : ((rdOf ByteArray.empty l0 x5_1).toList != a1.toList) = false := bne_eq_false_iff_eq.mpr c5
            clear c5
            obtain rfl := Option.some.inj H
            have p101 : 0 ≤ (x5_1 : Int) := of_decide_eq_true (by first | (with_reducible assumption) | assumption)
            have q101 : x5_1 < (l0.length : Int) := of_decide_eq_true (by first | (with_reducible assumption) | assumption)
            obtain ⟨ad101, e101, hx101_0⟩ := Kd.at_string HR0.out x5_1 p101 q101
            cases e101
            replace p101 := eq_true p101
            replace q101 := eq_true q101
            go_wp2
            go_ret
            exact ⟨by first | rfl | (simp; done) | (simp [*]; done), by repeat (first | exact Drawn0.refl _ | apply Drawn0.step)⟩
          · rw [if_neg c5] at H
            have c5b0 : ((rdOf ByteArray.empty l0 x5_1).toList == a1.toList) = false := beq_eq_false_iff_ne.mpr c5
            have c5b1 : ((rdOf ByteArray.empty l0 x5_1).toList != a1.toList) = true := bne_iff_ne.mpr c5
            have H' := Aside0.mk H
            clear H
            have p101 : 0 ≤ (x5_1 : Int) := of_decide_eq_true (by first | (with_reducible assumption) | assumption)
            have q101 : x5_1 < (l0.length : Int) := of_decide_eq_true (by first | (with_reducible assumption) | assumption)
            obtain ⟨ad101, e101, hx101_0⟩ := Kd.at_string HR0.out x5_1 p101 q101
            cases e101
            replace p101 := eq_true p101
            replace q101 := eq_true q101
            go_wp2
            go_roundg k1
            case measure => have := HK1.out; omega
            case rel => exact ⟨(wrap64 (x5_1 + 1)), (by first | rfl | (simp; done) | (simp [*]; done)), H', ⟨by have := HK1.out; omega⟩, by repeat (first | exact Drawn0.refl _ | apply Drawn0.step)⟩
        · rw [if_neg c4] at H
          exact absurd H (by simp)
      · rw [if_neg c3] at H
        have c3b0 : decide (x5_1 < (l0.length : Int)) = false := decide_eq_false c3
        clear c3
        obtain rfl := Option.some.inj H
        go_wp2
        go_ret
        exact ⟨by first | rfl | (simp; done) | (simp [*]; done), by repeat (first | exact Drawn0.refl _ | apply Drawn0.step)⟩

/-! ### pilcrowref24_Commands: function 24 -/
def pilcrowref24_Commands.f  : Option (List ByteArray) := some (([(⟨#[]⟩ : ByteArray), (⟨#[101, 110, 99, 111, 100, 101]⟩ : ByteArray), (⟨#[100, 101, 99, 111, 100, 101]⟩ : ByteArray), (⟨#[116, 114, 97, 110, 115, 99, 111, 100, 101]⟩ : ByteArray), (⟨#[100, 101, 116, 101, 99, 116]⟩ : ByteArray), (⟨#[118, 101, 114, 105, 102, 121]⟩ : ByteArray), (⟨#[115, 116, 97, 116]⟩ : ByteArray)] : List ByteArray))
set_option maxHeartbeats 8000000 in
set_option maxRecDepth 100000 in
theorem pilcrowref24_Commands.calls  (r : List ByteArray) (w : World) (h : pilcrowref24_Commands.f  = some r) :
    Calls Tryd.prog 24 #[] w fun e w' => ∃ v0_ : Value, e = .returned (v0_) ∧ Kd.R Kd.string 9 w' w.heap.size (fun _ => True) v0_ r ∧ Below w.heap.size w w' := by
  have HB := Aside0.mk (Below.refl w.heap.size w)
  have H : (some (([(⟨#[]⟩ : ByteArray), (⟨#[101, 110, 99, 111, 100, 101]⟩ : ByteArray), (⟨#[100, 101, 99, 111, 100, 101]⟩ : ByteArray), (⟨#[116, 114, 97, 110, 115, 99, 111, 100, 101]⟩ : ByteArray), (⟨#[100, 101, 116, 101, 99, 116]⟩ : ByteArray), (⟨#[118, 101, 114, 105, 102, 121]⟩ : ByteArray), (⟨#[115, 116, 97, 116]⟩ : ByteArray)] : List ByteArray))) = some r := h
  clear h
  obtain ⟨y102, hy102⟩ : ∃ y_ : List ByteArray, y_ = (([(⟨#[]⟩ : ByteArray), (⟨#[101, 110, 99, 111, 100, 101]⟩ : ByteArray), (⟨#[100, 101, 99, 111, 100, 101]⟩ : ByteArray), (⟨#[116, 114, 97, 110, 115, 99, 111, 100, 101]⟩ : ByteArray), (⟨#[100, 101, 116, 101, 99, 116]⟩ : ByteArray), (⟨#[118, 101, 114, 105, 102, 121]⟩ : ByteArray), (⟨#[115, 116, 97, 116]⟩ : ByteArray)] : List ByteArray)) := ⟨_, rfl⟩
  replace H : (some y102) = some r := by first | (rw [hy102]; with_reducible exact H) | (have H2_ := (Option.bind_some _ _).symm.trans H; rw [hy102]; with_reducible exact H2_) | (have H2_ := (Option.bind_some _ _).symm.trans H; with_reducible exact H2_) | with_reducible exact H | (rw [hy102]; exact H) | exact H
  have Ny102 := Aside0.mk hy102
  clear hy102
  obtain rfl := Option.some.inj H
  go_enter Tryd.func24, Tryd.ntmps24
  go_wp2_with (first | ((with_reducible refine gate_dst (N := 1) rfl ?_); refine Kd.R_lit Kd.string _ 9 ?hg (N := 1) ?hd (xs := ([(⟨#[]⟩ : ByteArray), (⟨#[101, 110, 99, 111, 100, 101]⟩ : ByteArray), (⟨#[100, 101, 99, 111, 100, 101]⟩ : ByteArray), (⟨#[116, 114, 97, 110, 115, 99, 111, 100, 101]⟩ : ByteArray), (⟨#[100, 101, 116, 101, 99, 116]⟩ : ByteArray), (⟨#[118, 101, 114, 105, 102, 121]⟩ : ByteArray), (⟨#[115, 116, 97, 116]⟩ : ByteArray)] : List ByteArray)) (inner := [.string (⟨#[]⟩ : ByteArray), .string (⟨#[101, 110, 99, 111, 100, 101]⟩ : ByteArray), .string (⟨#[100, 101, 99, 111, 100, 101]⟩ : ByteArray), .string (⟨#[116, 114, 97, 110, 115, 99, 111, 100, 101]⟩ : ByteArray), .string (⟨#[100, 101, 116, 101, 99, 116]⟩ : ByteArray), .string (⟨#[118, 101, 114, 105, 102, 121]⟩ : ByteArray), .string (⟨#[115, 116, 97, 116]⟩ : ByteArray)]) (ok := fun _ => True) (okp := fun _ => True) ?hr ?hp (fun _ hk => hk) trivial (Below.refl _ _) (Nat.le_refl _) (by simp) ?_; (case hd => rfl); (case hg => rfl); (case hr => first | (go_simp; done) | (go_simp; rfl)); (case hp => exact (Reps.one (show Kd.M Kd.string _ _ _ (⟨#[]⟩ : ByteArray) [.string (⟨#[]⟩ : ByteArray)] from rfl) (Reps.one (show Kd.M Kd.string _ _ _ (⟨#[101, 110, 99, 111, 100, 101]⟩ : ByteArray) [.string (⟨#[101, 110, 99, 111, 100, 101]⟩ : ByteArray)] from rfl) (Reps.one (show Kd.M Kd.string _ _ _ (⟨#[100, 101, 99, 111, 100, 101]⟩ : ByteArray) [.string (⟨#[100, 101, 99, 111, 100, 101]⟩ : ByteArray)] from rfl) (Reps.one (show Kd.M Kd.string _ _ _ (⟨#[116, 114, 97, 110, 115, 99, 111, 100, 101]⟩ : ByteArray) [.string (⟨#[116, 114, 97, 110, 115, 99, 111, 100, 101]⟩ : ByteArray)] from rfl) (Reps.one (show Kd.M Kd.string _ _ _ (⟨#[100, 101, 116, 101, 99, 116]⟩ : ByteArray) [.string (⟨#[100, 101, 116, 101, 99, 116]⟩ : ByteArray)] from rfl) (Reps.one (show Kd.M Kd.string _ _ _ (⟨#[118, 101, 114, 105, 102, 121]⟩ : ByteArray) [.string (⟨#[118, 101, 114, 105, 102, 121]⟩ : ByteArray)] from rfl) (Reps.one (show Kd.M Kd.string _ _ _ (⟨#[115, 116, 97, 116]⟩ : ByteArray) [.string (⟨#[115, 116, 97, 116]⟩ : ByteArray)] from rfl) (Reps.none _ _))))))))); intro v103 w1 ho2 hb hg_ hnew_; clear hg_ hnew_; (first | rw [← Ny102.out] at ho2 | (simp only [Int.reduceToNat] at ho2; rw [← Ny102.out] at ho2)); have n0_ := Aside0.mk (Kd.R_lower ho2 (below_size (by repeat (first | (with_reducible first | exact HB.out | apply below_alloc | apply pw_below_drewN | apply below_drew1) | exact HB.out)))); have n1_ := Aside0.mk (below_step (by repeat (first | (with_reducible first | exact HB.out | apply below_alloc | apply pw_below_drewN | apply below_drew1) | exact HB.out)) hb); clear HB; have HO104 := n0_; have HB := n1_; clear n0_ n1_; clear hb ho2))
  go_ret
  exact ⟨_, by first | rfl | (simp [errW_none, errW_some] <;> rfl) | (simp [*, errW_none, errW_some] <;> rfl), by (with_reducible repeat (first | apply Kd.R_alloc | apply Kd.R_drewN | apply Kd.R_drew)); exact HO104.out, by repeat (first | (with_reducible first | exact HB.out | apply below_alloc | apply pw_below_drewN | apply below_drew1) | exact HB.out)⟩

/-! ### pilcrowref24_Options: function 25 -/
def pilcrowref24_Options.f  : Option (List ByteArray) := some (([(⟨#[45, 45, 102, 114, 111, 109]⟩ : ByteArray), (⟨#[45, 45, 116, 111]⟩ : ByteArray), (⟨#[45, 45, 102, 111, 114, 109]⟩ : ByteArray), (⟨#[45, 45, 115, 105, 122, 101]⟩ : ByteArray), (⟨#[45, 45, 102, 114, 97, 109, 101, 100]⟩ : ByteArray), (⟨#[45, 45, 115, 105, 103, 110]⟩ : ByteArray), (⟨#[45, 45, 115, 116, 114, 105, 112]⟩ : ByteArray)] : List ByteArray))
set_option maxHeartbeats 8000000 in
set_option maxRecDepth 100000 in
theorem pilcrowref24_Options.calls  (r : List ByteArray) (w : World) (h : pilcrowref24_Options.f  = some r) :
    Calls Tryd.prog 25 #[] w fun e w' => ∃ v0_ : Value, e = .returned (v0_) ∧ Kd.R Kd.string 9 w' w.heap.size (fun _ => True) v0_ r ∧ Below w.heap.size w w' := by
  have HB := Aside0.mk (Below.refl w.heap.size w)
  have H : (some (([(⟨#[45, 45, 102, 114, 111, 109]⟩ : ByteArray), (⟨#[45, 45, 116, 111]⟩ : ByteArray), (⟨#[45, 45, 102, 111, 114, 109]⟩ : ByteArray), (⟨#[45, 45, 115, 105, 122, 101]⟩ : ByteArray), (⟨#[45, 45, 102, 114, 97, 109, 101, 100]⟩ : ByteArray), (⟨#[45, 45, 115, 105, 103, 110]⟩ : ByteArray), (⟨#[45, 45, 115, 116, 114, 105, 112]⟩ : ByteArray)] : List ByteArray))) = some r := h
  clear h
  obtain ⟨y105, hy105⟩ : ∃ y_ : List ByteArray, y_ = (([(⟨#[45, 45, 102, 114, 111, 109]⟩ : ByteArray), (⟨#[45, 45, 116, 111]⟩ : ByteArray), (⟨#[45, 45, 102, 111, 114, 109]⟩ : ByteArray), (⟨#[45, 45, 115, 105, 122, 101]⟩ : ByteArray), (⟨#[45, 45, 102, 114, 97, 109, 101, 100]⟩ : ByteArray), (⟨#[45, 45, 115, 105, 103, 110]⟩ : ByteArray), (⟨#[45, 45, 115, 116, 114, 105, 112]⟩ : ByteArray)] : List ByteArray)) := ⟨_, rfl⟩
  replace H : (some y105) = some r := by first | (rw [hy105]; with_reducible exact H) | (have H2_ := (Option.bind_some _ _).symm.trans H; rw [hy105]; with_reducible exact H2_) | (have H2_ := (Option.bind_some _ _).symm.trans H; with_reducible exact H2_) | with_reducible exact H | (rw [hy105]; exact H) | exact H
  have Ny105 := Aside0.mk hy105
  clear hy105
  obtain rfl := Option.some.inj H
  go_enter Tryd.func25, Tryd.ntmps25
  go_wp2_with (first | ((with_reducible refine gate_dst (N := 1) rfl ?_); refine Kd.R_lit Kd.string _ 9 ?hg (N := 1) ?hd (xs := ([(⟨#[45, 45, 102, 114, 111, 109]⟩ : ByteArray), (⟨#[45, 45, 116, 111]⟩ : ByteArray), (⟨#[45, 45, 102, 111, 114, 109]⟩ : ByteArray), (⟨#[45, 45, 115, 105, 122, 101]⟩ : ByteArray), (⟨#[45, 45, 102, 114, 97, 109, 101, 100]⟩ : ByteArray), (⟨#[45, 45, 115, 105, 103, 110]⟩ : ByteArray), (⟨#[45, 45, 115, 116, 114, 105, 112]⟩ : ByteArray)] : List ByteArray)) (inner := [.string (⟨#[45, 45, 102, 114, 111, 109]⟩ : ByteArray), .string (⟨#[45, 45, 116, 111]⟩ : ByteArray), .string (⟨#[45, 45, 102, 111, 114, 109]⟩ : ByteArray), .string (⟨#[45, 45, 115, 105, 122, 101]⟩ : ByteArray), .string (⟨#[45, 45, 102, 114, 97, 109, 101, 100]⟩ : ByteArray), .string (⟨#[45, 45, 115, 105, 103, 110]⟩ : ByteArray), .string (⟨#[45, 45, 115, 116, 114, 105, 112]⟩ : ByteArray)]) (ok := fun _ => True) (okp := fun _ => True) ?hr ?hp (fun _ hk => hk) trivial (Below.refl _ _) (Nat.le_refl _) (by simp) ?_; (case hd => rfl); (case hg => rfl); (case hr => first | (go_simp; done) | (go_simp; rfl)); (case hp => exact (Reps.one (show Kd.M Kd.string _ _ _ (⟨#[45, 45, 102, 114, 111, 109]⟩ : ByteArray) [.string (⟨#[45, 45, 102, 114, 111, 109]⟩ : ByteArray)] from rfl) (Reps.one (show Kd.M Kd.string _ _ _ (⟨#[45, 45, 116, 111]⟩ : ByteArray) [.string (⟨#[45, 45, 116, 111]⟩ : ByteArray)] from rfl) (Reps.one (show Kd.M Kd.string _ _ _ (⟨#[45, 45, 102, 111, 114, 109]⟩ : ByteArray) [.string (⟨#[45, 45, 102, 111, 114, 109]⟩ : ByteArray)] from rfl) (Reps.one (show Kd.M Kd.string _ _ _ (⟨#[45, 45, 115, 105, 122, 101]⟩ : ByteArray) [.string (⟨#[45, 45, 115, 105, 122, 101]⟩ : ByteArray)] from rfl) (Reps.one (show Kd.M Kd.string _ _ _ (⟨#[45, 45, 102, 114, 97, 109, 101, 100]⟩ : ByteArray) [.string (⟨#[45, 45, 102, 114, 97, 109, 101, 100]⟩ : ByteArray)] from rfl) (Reps.one (show Kd.M Kd.string _ _ _ (⟨#[45, 45, 115, 105, 103, 110]⟩ : ByteArray) [.string (⟨#[45, 45, 115, 105, 103, 110]⟩ : ByteArray)] from rfl) (Reps.one (show Kd.M Kd.string _ _ _ (⟨#[45, 45, 115, 116, 114, 105, 112]⟩ : ByteArray) [.string (⟨#[45, 45, 115, 116, 114, 105, 112]⟩ : ByteArray)] from rfl) (Reps.none _ _))))))))); intro v106 w1 ho2 hb hg_ hnew_; clear hg_ hnew_; (first | rw [← Ny105.out] at ho2 | (simp only [Int.reduceToNat] at ho2; rw [← Ny105.out] at ho2)); have n0_ := Aside0.mk (Kd.R_lower ho2 (below_size (by repeat (first | (with_reducible first | exact HB.out | apply below_alloc | apply pw_below_drewN | apply below_drew1) | exact HB.out)))); have n1_ := Aside0.mk (below_step (by repeat (first | (with_reducible first | exact HB.out | apply below_alloc | apply pw_below_drewN | apply below_drew1) | exact HB.out)) hb); clear HB; have HO107 := n0_; have HB := n1_; clear n0_ n1_; clear hb ho2))
  go_ret
  exact ⟨_, by first | rfl | (simp [errW_none, errW_some] <;> rfl) | (simp [*, errW_none, errW_some] <;> rfl), by (with_reducible repeat (first | apply Kd.R_alloc | apply Kd.R_drewN | apply Kd.R_drew)); exact HO107.out, by repeat (first | (with_reducible first | exact HB.out | apply below_alloc | apply pw_below_drewN | apply below_drew1) | exact HB.out)⟩

/-! ### pilcrowref24_May: function 26 -/
def pilcrowref24_May.f (a0 : Int) (a1 : Int) : Option (Bool) := (some (([(⟨#[]⟩ : ByteArray), (⟨#[46, 120, 120, 120, 120, 120, 46]⟩ : ByteArray), (⟨#[120, 46, 120, 46, 120, 46, 120]⟩ : ByteArray), (⟨#[120, 120, 46, 46, 46, 120, 120]⟩ : ByteArray), (⟨#[46, 46, 46, 46, 46, 46, 46]⟩ : ByteArray), (⟨#[46, 46, 46, 46, 46, 46, 46]⟩ : ByteArray), (⟨#[120, 46, 46, 46, 46, 46, 120]⟩ : ByteArray)] : List ByteArray) : List ByteArray)).bind fun y108 => (if 0 ≤ a0 then (if a0 < (y108.length : Int) then (if 0 ≤ a1 then (if a1 < ((rdOf ByteArray.empty y108 a0).size : Int) then (some ((bt (rdOf ByteArray.empty y108 a0) a1) == 120)) else (none)) else (none)) else (none)) else (none))
set_option maxHeartbeats 8000000 in
set_option maxRecDepth 100000 in
theorem pilcrowref24_May.calls (a0 : Int) (a1 : Int) (r : Bool) (w : World) (h : pilcrowref24_May.f a0 a1 = some r) :
    Calls Tryd.prog 26 #[.int .i64 a0, .int .i64 a1] w fun e w' => e = .returned (.bool r) ∧ Below w.heap.size w w' := by
  have HB := Aside0.mk (Below.refl w.heap.size w)
  have H : ((some (([(⟨#[]⟩ : ByteArray), (⟨#[46, 120, 120, 120, 120, 120, 46]⟩ : ByteArray), (⟨#[120, 46, 120, 46, 120, 46, 120]⟩ : ByteArray), (⟨#[120, 120, 46, 46, 46, 120, 120]⟩ : ByteArray), (⟨#[46, 46, 46, 46, 46, 46, 46]⟩ : ByteArray), (⟨#[46, 46, 46, 46, 46, 46, 46]⟩ : ByteArray), (⟨#[120, 46, 46, 46, 46, 46, 120]⟩ : ByteArray)] : List ByteArray) : List ByteArray)).bind fun y108 => (if 0 ≤ a0 then (if a0 < (y108.length : Int) then (if 0 ≤ a1 then (if a1 < ((rdOf ByteArray.empty y108 a0).size : Int) then (some ((bt (rdOf ByteArray.empty y108 a0) a1) == 120)) else (none)) else (none)) else (none)) else (none))) = some r := h
  clear h
  obtain ⟨y108, hy108⟩ : ∃ y_ : List ByteArray, y_ = (([(⟨#[]⟩ : ByteArray), (⟨#[46, 120, 120, 120, 120, 120, 46]⟩ : ByteArray), (⟨#[120, 46, 120, 46, 120, 46, 120]⟩ : ByteArray), (⟨#[120, 120, 46, 46, 46, 120, 120]⟩ : ByteArray), (⟨#[46, 46, 46, 46, 46, 46, 46]⟩ : ByteArray), (⟨#[46, 46, 46, 46, 46, 46, 46]⟩ : ByteArray), (⟨#[120, 46, 46, 46, 46, 46, 120]⟩ : ByteArray)] : List ByteArray)) := ⟨_, rfl⟩
  replace H : (if 0 ≤ a0 then (if a0 < (y108.length : Int) then (if 0 ≤ a1 then (if a1 < ((rdOf ByteArray.empty y108 a0).size : Int) then (some ((bt (rdOf ByteArray.empty y108 a0) a1) == 120)) else (none)) else (none)) else (none)) else (none)) = some r := by first | (rw [hy108]; with_reducible exact H) | (have H2_ := (Option.bind_some _ _).symm.trans H; rw [hy108]; with_reducible exact H2_) | (have H2_ := (Option.bind_some _ _).symm.trans H; with_reducible exact H2_) | with_reducible exact H | (rw [hy108]; exact H) | exact H
  have Ny108 := Aside0.mk hy108
  clear hy108
  by_cases c3 : 0 ≤ a0
  · rw [if_pos c3] at H
    have c3b0 : decide (0 ≤ a0) = true := decide_eq_true c3
    clear c3
    by_cases c4 : a0 < (y108.length : Int)
    · rw [if_pos c4] at H
      have c4b0 : decide (a0 < (y108.length : Int)) = true := decide_eq_true c4
      clear c4
      by_cases c5 : 0 ≤ a1
      · rw [if_pos c5] at H
        have c5b0 : decide (0 ≤ a1) = true := decide_eq_true c5
        clear c5
        by_cases c6 : a1 < ((rdOf ByteArray.empty y108 a0).size : Int)
        · rw [if_pos c6] at H
          have c6b0 : decide (a1 < ((rdOf ByteArray.empty y108 a0).size : Int)) = true := decide_eq_true c6
          clear c6
          obtain rfl := Option.some.inj H
          go_enter Tryd.func26, Tryd.ntmps26
          go_wp2_with (first | ((with_reducible refine gate_dst (N := 6) rfl ?_); refine Kd.R_lit Kd.string _ 9 ?hg (N := 6) ?hd (xs := ([(⟨#[]⟩ : ByteArray), (⟨#[46, 120, 120, 120, 120, 120, 46]⟩ : ByteArray), (⟨#[120, 46, 120, 46, 120, 46, 120]⟩ : ByteArray), (⟨#[120, 120, 46, 46, 46, 120, 120]⟩ : ByteArray), (⟨#[46, 46, 46, 46, 46, 46, 46]⟩ : ByteArray), (⟨#[46, 46, 46, 46, 46, 46, 46]⟩ : ByteArray), (⟨#[120, 46, 46, 46, 46, 46, 120]⟩ : ByteArray)] : List ByteArray)) (inner := [.string (⟨#[]⟩ : ByteArray), .string (⟨#[46, 120, 120, 120, 120, 120, 46]⟩ : ByteArray), .string (⟨#[120, 46, 120, 46, 120, 46, 120]⟩ : ByteArray), .string (⟨#[120, 120, 46, 46, 46, 120, 120]⟩ : ByteArray), .string (⟨#[46, 46, 46, 46, 46, 46, 46]⟩ : ByteArray), .string (⟨#[46, 46, 46, 46, 46, 46, 46]⟩ : ByteArray), .string (⟨#[120, 46, 46, 46, 46, 46, 120]⟩ : ByteArray)]) (ok := fun _ => True) (okp := fun _ => True) ?hr ?hp (fun _ hk => hk) trivial (Below.refl _ _) (Nat.le_refl _) (by simp) ?_; (case hd => rfl); (case hg => rfl); (case hr => first | (go_simp; done) | (go_simp; rfl)); (case hp => exact (Reps.one (show Kd.M Kd.string _ _ _ (⟨#[]⟩ : ByteArray) [.string (⟨#[]⟩ : ByteArray)] from rfl) (Reps.one (show Kd.M Kd.string _ _ _ (⟨#[46, 120, 120, 120, 120, 120, 46]⟩ : ByteArray) [.string (⟨#[46, 120, 120, 120, 120, 120, 46]⟩ : ByteArray)] from rfl) (Reps.one (show Kd.M Kd.string _ _ _ (⟨#[120, 46, 120, 46, 120, 46, 120]⟩ : ByteArray) [.string (⟨#[120, 46, 120, 46, 120, 46, 120]⟩ : ByteArray)] from rfl) (Reps.one (show Kd.M Kd.string _ _ _ (⟨#[120, 120, 46, 46, 46, 120, 120]⟩ : ByteArray) [.string (⟨#[120, 120, 46, 46, 46, 120, 120]⟩ : ByteArray)] from rfl) (Reps.one (show Kd.M Kd.string _ _ _ (⟨#[46, 46, 46, 46, 46, 46, 46]⟩ : ByteArray) [.string (⟨#[46, 46, 46, 46, 46, 46, 46]⟩ : ByteArray)] from rfl) (Reps.one (show Kd.M Kd.string _ _ _ (⟨#[46, 46, 46, 46, 46, 46, 46]⟩ : ByteArray) [.string (⟨#[46, 46, 46, 46, 46, 46, 46]⟩ : ByteArray)] from rfl) (Reps.one (show Kd.M Kd.string _ _ _ (⟨#[120, 46, 46, 46, 46, 46, 120]⟩ : ByteArray) [.string (⟨#[120, 46, 46, 46, 46, 46, 120]⟩ : ByteArray)] from rfl) (Reps.none _ _))))))))); intro v109 w8 ho9 hb hg_ hnew_; clear hg_ hnew_; (first | rw [← Ny108.out] at ho9 | (simp only [Int.reduceToNat] at ho9; rw [← Ny108.out] at ho9)); have n0_ := Aside0.mk (Kd.R_lower ho9 (below_size (by repeat (first | (with_reducible first | exact HB.out | apply below_alloc | apply pw_below_drewN | apply below_drew1) | exact HB.out)))); have n1_ := Aside0.mk (below_step (by repeat (first | (with_reducible first | exact HB.out | apply below_alloc | apply pw_below_drewN | apply below_drew1) | exact HB.out)) hb); clear HB; have HO110 := n0_; have HB := n1_; clear n0_ n1_; clear hb ho9; obtain ⟨Ao10, co10, eo10⟩ := Kd.R_slice HO110.out; subst eo10; have p111 : 0 ≤ (a0 : Int) := of_decide_eq_true (by first | (with_reducible assumption) | assumption); have q111 : a0 < (y108.length : Int) := of_decide_eq_true (by first | (with_reducible assumption) | assumption); obtain ⟨ad111, e111, hx111_0⟩ := Kd.at_string (Kd.R_reads' HO110.out).2.2 a0 p111 q111; cases e111; replace p111 := eq_true p111; replace q111 := eq_true q111; have p7 : 0 ≤ (a1 : Int) := of_decide_eq_true (by first | (with_reducible assumption) | assumption); have q7 : a1 < ((rdOf ByteArray.empty y108 a0).size : Int) := of_decide_eq_true (by first | (with_reducible assumption) | assumption); have hx7 := bt_at (rdOf ByteArray.empty y108 a0) a1; replace p7 := eq_true p7; replace q7 := eq_true q7))
          go_ret
          exact ⟨by first | rfl | (simp [errW_none, errW_some] <;> rfl) | (simp [*, errW_none, errW_some] <;> rfl), by repeat (first | (with_reducible first | exact HB.out | apply below_alloc | apply pw_below_drewN | apply below_drew1) | exact HB.out)⟩
        · rw [if_neg c6] at H
          exact absurd H (by simp)
      · rw [if_neg c5] at H
        exact absurd H (by simp)
    · rw [if_neg c4] at H
      exact absurd H (by simp)
  · rw [if_neg c3] at H
    exact absurd H (by simp)

/-- THE ONE PURE STATEMENT of pilcrowref24_May: yours. -/
def pilcrowref24_May.Pure : Prop := ∀ (a0 : Int) (a1 : Int), (Lit.int .i64 a0).wf = true → (Lit.int .i64 a1).wf = true → pilcrowref24_May.f a0 a1 = some true
theorem pilcrowref24_May.walk (P : pilcrowref24_May.Pure) (a0 : Int) (a1 : Int) (w : World) (w0 : (Lit.int .i64 a0).wf = true) (w1 : (Lit.int .i64 a1).wf = true) :
    Calls Tryd.prog 26 #[.int .i64 a0, .int .i64 a1] w fun e w' => e = .returned (.bool true) ∧ Below w.heap.size w w' := by
  have h := P a0 a1 w0 w1
  refine (pilcrowref24_May.calls a0 a1 true w h).mono ?_
  rintro e w' ⟨rfl, hd⟩
  exact ⟨rfl, hd⟩

/-! ### pilcrowref18_Names: function 32 -/
def pilcrowref18_Names.f  : Option (List ByteArray) := some (([(⟨#[]⟩ : ByteArray), (⟨#[117, 116, 102, 45, 56]⟩ : ByteArray), (⟨#[117, 116, 102, 45, 49, 54, 98, 101]⟩ : ByteArray), (⟨#[117, 116, 102, 45, 49, 54, 108, 101]⟩ : ByteArray), (⟨#[117, 116, 102, 45, 51, 50, 98, 101]⟩ : ByteArray), (⟨#[117, 116, 102, 45, 51, 50, 108, 101]⟩ : ByteArray), (⟨#[117, 116, 102, 45, 101, 98, 99, 100, 105, 99]⟩ : ByteArray), (⟨#[112, 117, 110, 121, 99, 111, 100, 101]⟩ : ByteArray), (⟨#[98, 111, 99, 117, 45, 49]⟩ : ByteArray), (⟨#[115, 99, 115, 117]⟩ : ByteArray), (⟨#[115, 99, 115, 117, 45, 112, 108, 97, 105, 110]⟩ : ByteArray)] : List ByteArray))
set_option maxHeartbeats 8000000 in
set_option maxRecDepth 100000 in
theorem pilcrowref18_Names.calls  (r : List ByteArray) (w : World) (h : pilcrowref18_Names.f  = some r) :
    Calls Tryd.prog 32 #[] w fun e w' => ∃ v0_ : Value, e = .returned (v0_) ∧ Kd.R Kd.string 9 w' w.heap.size (fun _ => True) v0_ r ∧ Below w.heap.size w w' := by
  have HB := Aside0.mk (Below.refl w.heap.size w)
  have H : (some (([(⟨#[]⟩ : ByteArray), (⟨#[117, 116, 102, 45, 56]⟩ : ByteArray), (⟨#[117, 116, 102, 45, 49, 54, 98, 101]⟩ : ByteArray), (⟨#[117, 116, 102, 45, 49, 54, 108, 101]⟩ : ByteArray), (⟨#[117, 116, 102, 45, 51, 50, 98, 101]⟩ : ByteArray), (⟨#[117, 116, 102, 45, 51, 50, 108, 101]⟩ : ByteArray), (⟨#[117, 116, 102, 45, 101, 98, 99, 100, 105, 99]⟩ : ByteArray), (⟨#[112, 117, 110, 121, 99, 111, 100, 101]⟩ : ByteArray), (⟨#[98, 111, 99, 117, 45, 49]⟩ : ByteArray), (⟨#[115, 99, 115, 117]⟩ : ByteArray), (⟨#[115, 99, 115, 117, 45, 112, 108, 97, 105, 110]⟩ : ByteArray)] : List ByteArray))) = some r := h
  clear h
  obtain ⟨y112, hy112⟩ : ∃ y_ : List ByteArray, y_ = (([(⟨#[]⟩ : ByteArray), (⟨#[117, 116, 102, 45, 56]⟩ : ByteArray), (⟨#[117, 116, 102, 45, 49, 54, 98, 101]⟩ : ByteArray), (⟨#[117, 116, 102, 45, 49, 54, 108, 101]⟩ : ByteArray), (⟨#[117, 116, 102, 45, 51, 50, 98, 101]⟩ : ByteArray), (⟨#[117, 116, 102, 45, 51, 50, 108, 101]⟩ : ByteArray), (⟨#[117, 116, 102, 45, 101, 98, 99, 100, 105, 99]⟩ : ByteArray), (⟨#[112, 117, 110, 121, 99, 111, 100, 101]⟩ : ByteArray), (⟨#[98, 111, 99, 117, 45, 49]⟩ : ByteArray), (⟨#[115, 99, 115, 117]⟩ : ByteArray), (⟨#[115, 99, 115, 117, 45, 112, 108, 97, 105, 110]⟩ : ByteArray)] : List ByteArray)) := ⟨_, rfl⟩
  replace H : (some y112) = some r := by first | (rw [hy112]; with_reducible exact H) | (have H2_ := (Option.bind_some _ _).symm.trans H; rw [hy112]; with_reducible exact H2_) | (have H2_ := (Option.bind_some _ _).symm.trans H; with_reducible exact H2_) | with_reducible exact H | (rw [hy112]; exact H) | exact H
  have Ny112 := Aside0.mk hy112
  clear hy112
  obtain rfl := Option.some.inj H
  go_enter Tryd.func32, Tryd.ntmps32
  go_wp2_with (first | ((with_reducible refine gate_dst (N := 1) rfl ?_); refine Kd.R_lit Kd.string _ 9 ?hg (N := 1) ?hd (xs := ([(⟨#[]⟩ : ByteArray), (⟨#[117, 116, 102, 45, 56]⟩ : ByteArray), (⟨#[117, 116, 102, 45, 49, 54, 98, 101]⟩ : ByteArray), (⟨#[117, 116, 102, 45, 49, 54, 108, 101]⟩ : ByteArray), (⟨#[117, 116, 102, 45, 51, 50, 98, 101]⟩ : ByteArray), (⟨#[117, 116, 102, 45, 51, 50, 108, 101]⟩ : ByteArray), (⟨#[117, 116, 102, 45, 101, 98, 99, 100, 105, 99]⟩ : ByteArray), (⟨#[112, 117, 110, 121, 99, 111, 100, 101]⟩ : ByteArray), (⟨#[98, 111, 99, 117, 45, 49]⟩ : ByteArray), (⟨#[115, 99, 115, 117]⟩ : ByteArray), (⟨#[115, 99, 115, 117, 45, 112, 108, 97, 105, 110]⟩ : ByteArray)] : List ByteArray)) (inner := [.string (⟨#[]⟩ : ByteArray), .string (⟨#[117, 116, 102, 45, 56]⟩ : ByteArray), .string (⟨#[117, 116, 102, 45, 49, 54, 98, 101]⟩ : ByteArray), .string (⟨#[117, 116, 102, 45, 49, 54, 108, 101]⟩ : ByteArray), .string (⟨#[117, 116, 102, 45, 51, 50, 98, 101]⟩ : ByteArray), .string (⟨#[117, 116, 102, 45, 51, 50, 108, 101]⟩ : ByteArray), .string (⟨#[117, 116, 102, 45, 101, 98, 99, 100, 105, 99]⟩ : ByteArray), .string (⟨#[112, 117, 110, 121, 99, 111, 100, 101]⟩ : ByteArray), .string (⟨#[98, 111, 99, 117, 45, 49]⟩ : ByteArray), .string (⟨#[115, 99, 115, 117]⟩ : ByteArray), .string (⟨#[115, 99, 115, 117, 45, 112, 108, 97, 105, 110]⟩ : ByteArray)]) (ok := fun _ => True) (okp := fun _ => True) ?hr ?hp (fun _ hk => hk) trivial (Below.refl _ _) (Nat.le_refl _) (by simp) ?_; (case hd => rfl); (case hg => rfl); (case hr => first | (go_simp; done) | (go_simp; rfl)); (case hp => exact (Reps.one (show Kd.M Kd.string _ _ _ (⟨#[]⟩ : ByteArray) [.string (⟨#[]⟩ : ByteArray)] from rfl) (Reps.one (show Kd.M Kd.string _ _ _ (⟨#[117, 116, 102, 45, 56]⟩ : ByteArray) [.string (⟨#[117, 116, 102, 45, 56]⟩ : ByteArray)] from rfl) (Reps.one (show Kd.M Kd.string _ _ _ (⟨#[117, 116, 102, 45, 49, 54, 98, 101]⟩ : ByteArray) [.string (⟨#[117, 116, 102, 45, 49, 54, 98, 101]⟩ : ByteArray)] from rfl) (Reps.one (show Kd.M Kd.string _ _ _ (⟨#[117, 116, 102, 45, 49, 54, 108, 101]⟩ : ByteArray) [.string (⟨#[117, 116, 102, 45, 49, 54, 108, 101]⟩ : ByteArray)] from rfl) (Reps.one (show Kd.M Kd.string _ _ _ (⟨#[117, 116, 102, 45, 51, 50, 98, 101]⟩ : ByteArray) [.string (⟨#[117, 116, 102, 45, 51, 50, 98, 101]⟩ : ByteArray)] from rfl) (Reps.one (show Kd.M Kd.string _ _ _ (⟨#[117, 116, 102, 45, 51, 50, 108, 101]⟩ : ByteArray) [.string (⟨#[117, 116, 102, 45, 51, 50, 108, 101]⟩ : ByteArray)] from rfl) (Reps.one (show Kd.M Kd.string _ _ _ (⟨#[117, 116, 102, 45, 101, 98, 99, 100, 105, 99]⟩ : ByteArray) [.string (⟨#[117, 116, 102, 45, 101, 98, 99, 100, 105, 99]⟩ : ByteArray)] from rfl) (Reps.one (show Kd.M Kd.string _ _ _ (⟨#[112, 117, 110, 121, 99, 111, 100, 101]⟩ : ByteArray) [.string (⟨#[112, 117, 110, 121, 99, 111, 100, 101]⟩ : ByteArray)] from rfl) (Reps.one (show Kd.M Kd.string _ _ _ (⟨#[98, 111, 99, 117, 45, 49]⟩ : ByteArray) [.string (⟨#[98, 111, 99, 117, 45, 49]⟩ : ByteArray)] from rfl) (Reps.one (show Kd.M Kd.string _ _ _ (⟨#[115, 99, 115, 117]⟩ : ByteArray) [.string (⟨#[115, 99, 115, 117]⟩ : ByteArray)] from rfl) (Reps.one (show Kd.M Kd.string _ _ _ (⟨#[115, 99, 115, 117, 45, 112, 108, 97, 105, 110]⟩ : ByteArray) [.string (⟨#[115, 99, 115, 117, 45, 112, 108, 97, 105, 110]⟩ : ByteArray)] from rfl) (Reps.none _ _))))))))))))); intro v113 w1 ho2 hb hg_ hnew_; clear hg_ hnew_; (first | rw [← Ny112.out] at ho2 | (simp only [Int.reduceToNat] at ho2; rw [← Ny112.out] at ho2)); have n0_ := Aside0.mk (Kd.R_lower ho2 (below_size (by repeat (first | (with_reducible first | exact HB.out | apply below_alloc | apply pw_below_drewN | apply below_drew1) | exact HB.out)))); have n1_ := Aside0.mk (below_step (by repeat (first | (with_reducible first | exact HB.out | apply below_alloc | apply pw_below_drewN | apply below_drew1) | exact HB.out)) hb); clear HB; have HO114 := n0_; have HB := n1_; clear n0_ n1_; clear hb ho2))
  go_ret
  exact ⟨_, by first | rfl | (simp [errW_none, errW_some] <;> rfl) | (simp [*, errW_none, errW_some] <;> rfl), by (with_reducible repeat (first | apply Kd.R_alloc | apply Kd.R_drewN | apply Kd.R_drew)); exact HO114.out, by repeat (first | (with_reducible first | exact HB.out | apply below_alloc | apply pw_below_drewN | apply below_drew1) | exact HB.out)⟩

/-! ### pilcrowref24_size: function 37 -/
def pilcrowref24_size.l0 : Nat → ByteArray → Int → Int → Option (Int)
  | 0, _, _, _ => none
  | k + 1, x0, x3, x4 => if x4 < (x0.size : Int) then (if 0 ≤ x4 then (if (bt x0 x4) < 48 then (some 0) else (if (bt x0 x4) > 57 then (some 0) else (if x4 = 0 then (if (bt x0 x4) = 48 then (some 0) else (if x4 > 4 then (some 0) else (pilcrowref24_size.l0 k x0 (wrap64 ((wrap64 ((wrap64 (10 * x3)) + (wrap64 (bt x0 x4)))) - 48)) (wrap64 (x4 + 1))))) else (if x4 > 4 then (some 0) else (pilcrowref24_size.l0 k x0 (wrap64 ((wrap64 ((wrap64 (10 * x3)) + (wrap64 (bt x0 x4)))) - 48)) (wrap64 (x4 + 1))))))) else (none)) else (if x3 > 65536 then (some 0) else (some x3))
def pilcrowref24_size.f (k : Nat) (a0 : ByteArray) : Option (Int) := pilcrowref24_size.l0 k a0 0 0
theorem pilcrowref24_size.mono_l : ∀ k, (∀ y0 y1 y2, LeO (pilcrowref24_size.l0 k y0 y1 y2) (pilcrowref24_size.l0 (k + 1) y0 y1 y2))
  | 0 => fun _ _ _ r h => by simp [pilcrowref24_size.l0] at h
  | k + 1 => by
    have ih0 := pilcrowref24_size.mono_l k
    · intro y0 y1 y2
      unfold pilcrowref24_size.l0
      repeat' first
      | (with_reducible exact ih0 _ _ _)
      | (with_reducible exact LeO.refl _)
      | (with_reducible exact LeO.none _)
      | (with_reducible refine LeO.ite ?_ ?_)
      | (with_reducible refine LeO.bind ?_ (fun _ => ?_))
      | exact ih0 _ _ _
      | exact LeO.none _
      | refine LeO.ite ?_ ?_
      | refine LeO.bind ?_ (fun _ => ?_)
theorem pilcrowref24_size.mono : ∀ a0 k, LeO (pilcrowref24_size.f k a0) (pilcrowref24_size.f (k + 1) a0) := by
  intro a0 k
  have ih0 := pilcrowref24_size.mono_l k
  unfold pilcrowref24_size.f
  repeat' first
      | (with_reducible exact ih0 _ _ _)
      | (with_reducible exact LeO.refl _)
      | (with_reducible exact LeO.none _)
      | (with_reducible refine LeO.ite ?_ ?_)
      | (with_reducible refine LeO.bind ?_ (fun _ => ?_))
      | exact ih0 _ _ _
      | exact LeO.none _
      | refine LeO.ite ?_ ?_
      | refine LeO.bind ?_ (fun _ => ?_)
set_option maxHeartbeats 8000000 in
set_option maxRecDepth 100000 in
theorem pilcrowref24_size.calls (k : Nat) (a0 : ByteArray) (r : Int) (w : World) (h : pilcrowref24_size.f k a0 = some r) :
    Calls Tryd.prog 37 #[.string a0] w fun e w' => e = .returned (.int .i64 r) ∧ Drawn0 w w' := by
  have H : (pilcrowref24_size.l0 k a0 0 0) = some r := h
  clear h
  have H' := Aside0.mk H
  clear H
  go_enter Tryd.func37, Tryd.ntmps37
  go_wp2
  go_loopg [3, 4] k (fun kq v3 v4 w' => ∃ (x3_1 : Int) (x4_1 : Int), v3 = .int .i64 x3_1 ∧ v4 = .int .i64 x4_1 ∧ Aside0 (pilcrowref24_size.l0 kq a0 x3_1 x4_1 = some r) ∧ Aside0 (kq ≤ k) ∧ Drawn0 w w')
  case atStart => exact ⟨(0), (0), (by first | rfl | (simp; done) | (simp [*]; done)), (by first | rfl | (simp; done) | (simp [*]; done)), H', ⟨Nat.le_refl _⟩, by repeat (first | exact Drawn0.refl _ | apply Drawn0.step)⟩
  case round =>
    clear H'
    obtain ⟨x3_1, x4_1, rfl, rfl, HA, HK1, ⟨m1, rfl⟩⟩ := hrel
    cases gk with
    | zero => exact absurd HA.out (by simp [pilcrowref24_size.l0])
    | succ k1 =>
      have H := HA.out
      clear HA
      simp only [pilcrowref24_size.l0] at H
      by_cases c2 : x4_1 < (a0.size : Int)
      · rw [if_pos c2] at H
        have c2b0 : decide (x4_1 < (a0.size : Int)) = true := decide_eq_true c2
        clear c2
        by_cases c3 : 0 ≤ x4_1
        · rw [if_pos c3] at H
          have c3b0 : decide (0 ≤ x4_1) = true := decide_eq_true c3
          clear c3
          by_cases c5 : (bt a0 x4_1) < 48
          · rw [if_pos c5] at H
            have c5b0 : decide ((bt a0 x4_1) < 48) = true := decide_eq_true c5
            clear c5
            obtain rfl := Option.some.inj H
            have p4 : 0 ≤ (x4_1 : Int) := of_decide_eq_true (by first | (with_reducible assumption) | assumption)
            have q4 : x4_1 < (a0.size : Int) := of_decide_eq_true (by first | (with_reducible assumption) | assumption)
            have hx4 := bt_at a0 x4_1
            replace p4 := eq_true p4
            replace q4 := eq_true q4
            go_wp2
            go_ret
            exact ⟨by first | rfl | (simp; done) | (simp [*]; done), by repeat (first | exact Drawn0.refl _ | apply Drawn0.step)⟩
          · rw [if_neg c5] at H
            have c5b0 : decide ((bt a0 x4_1) < 48) = false := decide_eq_false c5
            clear c5
            by_cases c7 : (bt a0 x4_1) > 57
            · rw [if_pos c7] at H
              have c7b0 : decide (57 < (bt a0 x4_1)) = true := decide_eq_true c7
              clear c7
              obtain rfl := Option.some.inj H
              have p4 : 0 ≤ (x4_1 : Int) := of_decide_eq_true (by first | (with_reducible assumption) | assumption)
              have q4 : x4_1 < (a0.size : Int) := of_decide_eq_true (by first | (with_reducible assumption) | assumption)
              have hx4 := bt_at a0 x4_1
              replace p4 := eq_true p4
              replace q4 := eq_true q4
              have p6 : 0 ≤ (x4_1 : Int) := of_decide_eq_true (by first | (with_reducible assumption) | assumption)
              have q6 : x4_1 < (a0.size : Int) := of_decide_eq_true (by first | (with_reducible assumption) | assumption)
              have hx6 := bt_at a0 x4_1
              replace p6 := eq_true p6
              replace q6 := eq_true q6
              go_wp2
              go_ret
              exact ⟨by first | rfl | (simp; done) | (simp [*]; done), by repeat (first | exact Drawn0.refl _ | apply Drawn0.step)⟩
            · rw [if_neg c7] at H
              have c7b0 : decide (57 < (bt a0 x4_1)) = false := decide_eq_false c7
              clear c7
              by_cases c8 : x4_1 = 0
              · rw [if_pos c8] at H
                have c8b0 : (x4_1 == 0) = true := beq_iff_eq.mpr c8
                have c8b1 : (x4_1 != 0) = false := bne_eq_false_iff_eq.mpr c8
                clear c8
                by_cases c10 : (bt a0 x4_1) = 48
                · rw [if_pos c10] at H
                  have c10b0 : ((bt a0 x4_1) == 48) = true := beq_iff_eq.mpr c10
                  have c10b1 : ((bt a0 x4_1) != 48) = false := bne_eq_false_iff_eq.mpr c10
                  clear c10
                  obtain rfl := Option.some.inj H
                  have p4 : 0 ≤ (x4_1 : Int) := of_decide_eq_true (by first | (with_reducible assumption) | assumption)
                  have q4 : x4_1 < (a0.size : Int) := of_decide_eq_true (by first | (with_reducible assumption) | assumption)
                  have hx4 := bt_at a0 x4_1
                  replace p4 := eq_true p4
                  replace q4 := eq_true q4
                  have p6 : 0 ≤ (x4_1 : Int) := of_decide_eq_true (by first | (with_reducible assumption) | assumption)
                  have q6 : x4_1 < (a0.size : Int) := of_decide_eq_true (by first | (with_reducible assumption) | assumption)
                  have hx6 := bt_at a0 x4_1
                  replace p6 := eq_true p6
                  replace q6 := eq_true q6
                  have p9 : 0 ≤ (x4_1 : Int) := of_decide_eq_true (by first | (with_reducible assumption) | assumption)
                  have q9 : x4_1 < (a0.size : Int) := of_decide_eq_true (by first | (with_reducible assumption) | assumption)
                  have hx9 := bt_at a0 x4_1
                  replace p9 := eq_true p9
                  replace q9 := eq_true q9
                  go_wp2
                  go_ret
                  exact ⟨by first | rfl | (simp; done) | (simp [*]; done), by repeat (first | exact Drawn0.refl _ | apply Drawn0.step)⟩
                · rw [if_neg c10] at H
                  have c10b0 : ((bt a0 x4_1) == 48) = false := beq_eq_false_iff_ne.mpr c10
                  have c10b1 : ((bt a0 x4_1) != 48) = true := bne_iff_ne.mpr c10
                  by_cases c11 : x4_1 > 4
                  · rw [if_pos c11] at H
                    have c11b0 : decide (4 < x4_1) = true := decide_eq_true c11
                    clear c11
                    obtain rfl := Option.some.inj H
                    have p4 : 0 ≤ (x4_1 : Int) := of_decide_eq_true (by first | (with_reducible assumption) | assumption)
                    have q4 : x4_1 < (a0.size : Int) := of_decide_eq_true (by first | (with_reducible assumption) | assumption)
                    have hx4 := bt_at a0 x4_1
                    replace p4 := eq_true p4
                    replace q4 := eq_true q4
                    have p6 : 0 ≤ (x4_1 : Int) := of_decide_eq_true (by first | (with_reducible assumption) | assumption)
                    have q6 : x4_1 < (a0.size : Int) := of_decide_eq_true (by first | (with_reducible assumption) | assumption)
                    have hx6 := bt_at a0 x4_1
                    replace p6 := eq_true p6
                    replace q6 := eq_true q6
                    have p9 : 0 ≤ (x4_1 : Int) := of_decide_eq_true (by first | (with_reducible assumption) | assumption)
                    have q9 : x4_1 < (a0.size : Int) := of_decide_eq_true (by first | (with_reducible assumption) | assumption)
                    have hx9 := bt_at a0 x4_1
                    replace p9 := eq_true p9
                    replace q9 := eq_true q9
                    go_wp2
                    go_ret
                    exact ⟨by first | rfl | (simp; done) | (simp [*]; done), by repeat (first | exact Drawn0.refl _ | apply Drawn0.step)⟩
                  · rw [if_neg c11] at H
                    have c11b0 : decide (4 < x4_1) = false := decide_eq_false c11
                    clear c11
                    have H' := Aside0.mk H
                    clear H
                    have p4 : 0 ≤ (x4_1 : Int) := of_decide_eq_true (by first | (with_reducible assumption) | assumption)
                    have q4 : x4_1 < (a0.size : Int) := of_decide_eq_true (by first | (with_reducible assumption) | assumption)
                    have hx4 := bt_at a0 x4_1
                    replace p4 := eq_true p4
                    replace q4 := eq_true q4
                    have p6 : 0 ≤ (x4_1 : Int) := of_decide_eq_true (by first | (with_reducible assumption) | assumption)
                    have q6 : x4_1 < (a0.size : Int) := of_decide_eq_true (by first | (with_reducible assumption) | assumption)
                    have hx6 := bt_at a0 x4_1
                    replace p6 := eq_true p6
                    replace q6 := eq_true q6
                    have p9 : 0 ≤ (x4_1 : Int) := of_decide_eq_true (by first | (with_reducible assumption) | assumption)
                    have q9 : x4_1 < (a0.size : Int) := of_decide_eq_true (by first | (with_reducible assumption) | assumption)
                    have hx9 := bt_at a0 x4_1
                    replace p9 := eq_true p9
                    replace q9 := eq_true q9
                    have p12 : 0 ≤ (x4_1 : Int) := of_decide_eq_true (by first | (with_reducible assumption) | assumption)
                    have q12 : x4_1 < (a0.size : Int) := of_decide_eq_true (by first | (with_reducible assumption) | assumption)
                    have hx12 := bt_at a0 x4_1
                    replace p12 := eq_true p12
                    replace q12 := eq_true q12
                    go_wp2
                    go_roundg k1
                    case measure => have := HK1.out; omega
                    case rel => exact ⟨(wrap64 ((wrap64 ((wrap64 (10 * x3_1)) + (wrap64 (bt a0 x4_1)))) - 48)), (wrap64 (x4_1 + 1)), (by first | rfl | (simp; done) | (simp [*]; done)), (by first | rfl | (simp; done) | (simp [*]; done)), H', ⟨by have := HK1.out; omega⟩, by repeat (first | exact Drawn0.refl _ | apply Drawn0.step)⟩
              · rw [if_neg c8] at H
                have c8b0 : (x4_1 == 0) = false := beq_eq_false_iff_ne.mpr c8
                have c8b1 : (x4_1 != 0) = true := bne_iff_ne.mpr c8
                by_cases c13 : x4_1 > 4
                · rw [if_pos c13] at H
                  have c13b0 : decide (4 < x4_1) = true := decide_eq_true c13
                  clear c13
                  obtain rfl := Option.some.inj H
                  have p4 : 0 ≤ (x4_1 : Int) := of_decide_eq_true (by first | (with_reducible assumption) | assumption)
                  have q4 : x4_1 < (a0.size : Int) := of_decide_eq_true (by first | (with_reducible assumption) | assumption)
                  have hx4 := bt_at a0 x4_1
                  replace p4 := eq_true p4
                  replace q4 := eq_true q4
                  have p6 : 0 ≤ (x4_1 : Int) := of_decide_eq_true (by first | (with_reducible assumption) | assumption)
                  have q6 : x4_1 < (a0.size : Int) := of_decide_eq_true (by first | (with_reducible assumption) | assumption)
                  have hx6 := bt_at a0 x4_1
                  replace p6 := eq_true p6
                  replace q6 := eq_true q6
                  go_wp2
                  go_ret
                  exact ⟨by first | rfl | (simp; done) | (simp [*]; done), by repeat (first | exact Drawn0.refl _ | apply Drawn0.step)⟩
                · rw [if_neg c13] at H
                  have c13b0 : decide (4 < x4_1) = false := decide_eq_false c13
                  clear c13
                  have H' := Aside0.mk H
                  clear H
                  have p4 : 0 ≤ (x4_1 : Int) := of_decide_eq_true (by first | (with_reducible assumption) | assumption)
                  have q4 : x4_1 < (a0.size : Int) := of_decide_eq_true (by first | (with_reducible assumption) | assumption)
                  have hx4 := bt_at a0 x4_1
                  replace p4 := eq_true p4
                  replace q4 := eq_true q4
                  have p6 : 0 ≤ (x4_1 : Int) := of_decide_eq_true (by first | (with_reducible assumption) | assumption)
                  have q6 : x4_1 < (a0.size : Int) := of_decide_eq_true (by first | (with_reducible assumption) | assumption)
                  have hx6 := bt_at a0 x4_1
                  replace p6 := eq_true p6
                  replace q6 := eq_true q6
                  have p14 : 0 ≤ (x4_1 : Int) := of_decide_eq_true (by first | (with_reducible assumption) | assumption)
                  have q14 : x4_1 < (a0.size : Int) := of_decide_eq_true (by first | (with_reducible assumption) | assumption)
                  have hx14 := bt_at a0 x4_1
                  replace p14 := eq_true p14
                  replace q14 := eq_true q14
                  go_wp2
                  go_roundg k1
                  case measure => have := HK1.out; omega
                  case rel => exact ⟨(wrap64 ((wrap64 ((wrap64 (10 * x3_1)) + (wrap64 (bt a0 x4_1)))) - 48)), (wrap64 (x4_1 + 1)), (by first | rfl | (simp; done) | (simp [*]; done)), (by first | rfl | (simp; done) | (simp [*]; done)), H', ⟨by have := HK1.out; omega⟩, by repeat (first | exact Drawn0.refl _ | apply Drawn0.step)⟩
        · rw [if_neg c3] at H
          exact absurd H (by simp)
      · rw [if_neg c2] at H
        have c2b0 : decide (x4_1 < (a0.size : Int)) = false := decide_eq_false c2
        clear c2
        by_cases c15 : x3_1 > 65536
        · rw [if_pos c15] at H
          have c15b0 : decide (65536 < x3_1) = true := decide_eq_true c15
          clear c15
          obtain rfl := Option.some.inj H
          go_wp2
          go_ret
          exact ⟨by first | rfl | (simp; done) | (simp [*]; done), by repeat (first | exact Drawn0.refl _ | apply Drawn0.step)⟩
        · rw [if_neg c15] at H
          have c15b0 : decide (65536 < x3_1) = false := decide_eq_false c15
          clear c15
          obtain rfl := Option.some.inj H
          go_wp2
          go_ret
          exact ⟨by first | rfl | (simp; done) | (simp [*]; done), by repeat (first | exact Drawn0.refl _ | apply Drawn0.step)⟩

/-! ### pilcrowref24_value: function 27 -/
def pilcrowref24_value.f (k : Nat) (a0 : Int) (a1 : ByteArray) (a2 : Bool) : Option (Int) := if a0 ≥ 4 then (if a2 = true then (some 0) else (some 1)) else (if a2 = true then (if a0 = 3 then ((pilcrowref24_size.f k a1).bind fun t115 => (some t115)) else (if a1.toList = ([] : List UInt8) then (some 0) else ((pilcrowref18_Names.f).bind fun t116 => ((pilcrowref24_find.f k t116 a1).bind fun t119 => (some (mx t119 0)))))) else (some 0))
theorem pilcrowref24_value.mono : ∀ a0 a1 a2 k, LeO (pilcrowref24_value.f k a0 a1 a2) (pilcrowref24_value.f (k + 1) a0 a1 a2) := by
  intro a0 a1 a2 k
  unfold pilcrowref24_value.f
  repeat' first
      | (with_reducible exact pilcrowref24_find.mono _ _ _)
      | (with_reducible exact pilcrowref24_size.mono _ _)
      | (with_reducible exact LeO.refl _)
      | (with_reducible exact LeO.none _)
      | (with_reducible refine LeO.ite ?_ ?_)
      | (with_reducible refine LeO.bind ?_ (fun _ => ?_))
      | exact pilcrowref24_find.mono _ _ _
      | exact pilcrowref24_size.mono _ _
      | exact LeO.none _
      | refine LeO.ite ?_ ?_
      | refine LeO.bind ?_ (fun _ => ?_)
set_option maxHeartbeats 8000000 in
set_option maxRecDepth 100000 in
theorem pilcrowref24_value.calls (k : Nat) (a0 : Int) (a1 : ByteArray) (a2 : Bool) (r : Int) (w : World) (h : pilcrowref24_value.f k a0 a1 a2 = some r) :
    Calls Tryd.prog 27 #[.int .i64 a0, .string a1, .bool a2] w fun e w' => e = .returned (.int .i64 r) ∧ Below w.heap.size w w' := by
  have HB := Aside0.mk (Below.refl w.heap.size w)
  have H : (if a0 ≥ 4 then (if a2 = true then (some 0) else (some 1)) else (if a2 = true then (if a0 = 3 then ((pilcrowref24_size.f k a1).bind fun t115 => (some t115)) else (if a1.toList = ([] : List UInt8) then (some 0) else ((pilcrowref18_Names.f).bind fun t116 => ((pilcrowref24_find.f k t116 a1).bind fun t119 => (some (mx t119 0)))))) else (some 0))) = some r := h
  clear h
  by_cases c4 : a0 ≥ 4
  · rw [if_pos c4] at H
    have c4b0 : decide (4 ≤ a0) = true := decide_eq_true c4
    clear c4
    by_cases c5 : a2 = true
    · subst c5
      have H1 : (some 0) = some r := by rw [if_pos rfl] at H; exact H
      clear H
      have H := H1
      clear H1
      obtain rfl := Option.some.inj H
      go_enter Tryd.func27, Tryd.ntmps27
      go_wp2
      go_ret
      exact ⟨by first | rfl | (simp [errW_none, errW_some] <;> rfl) | (simp [*, errW_none, errW_some] <;> rfl), by repeat (first | (with_reducible first | exact HB.out | apply below_alloc | apply pw_below_drewN | apply below_drew1) | exact HB.out)⟩
    · replace c5 := Bool.eq_false_iff.mpr c5
      subst c5
      have H1 : (some 1) = some r := by rw [if_neg (show ¬ (false = true) by decide)] at H; exact H
      clear H
      have H := H1
      clear H1
      obtain rfl := Option.some.inj H
      go_enter Tryd.func27, Tryd.ntmps27
      go_wp2
      go_ret
      exact ⟨by first | rfl | (simp [errW_none, errW_some] <;> rfl) | (simp [*, errW_none, errW_some] <;> rfl), by repeat (first | (with_reducible first | exact HB.out | apply below_alloc | apply pw_below_drewN | apply below_drew1) | exact HB.out)⟩
  · rw [if_neg c4] at H
    have c4b0 : decide (4 ≤ a0) = false := decide_eq_false c4
    clear c4
    by_cases c6 : a2 = true
    · subst c6
      have H1 : (if a0 = 3 then ((pilcrowref24_size.f k a1).bind fun t115 => (some t115)) else (if a1.toList = ([] : List UInt8) then (some 0) else ((pilcrowref18_Names.f).bind fun t116 => ((pilcrowref24_find.f k t116 a1).bind fun t119 => (some (mx t119 0)))))) = some r := by rw [if_pos rfl] at H; exact H
      clear H
      have H := H1
      clear H1
      by_cases c7 : a0 = 3
      · rw [if_pos c7] at H
        have c7b0 : (a0 == 3) = true := beq_iff_eq.mpr c7
        have c7b1 : (a0 != 3) = false := bne_eq_false_iff_eq.mpr c7
        clear c7
        replace H := Option.bind_eq_some_iff.mp H
        obtain ⟨t115, A80, H⟩ := H
        replace H : (some t115) = some r := H
        have A8 := Aside0.mk A80
        clear A80
        obtain rfl := Option.some.inj H
        go_enter Tryd.func27, Tryd.ntmps27
        go_wp2_with (first | ((with_reducible refine gate_callee (f := 37) rfl ?_); refine goesL_ (some 15) rfl rfl Tryd.func37 (by kernel_rfl) rfl #[.string a1] rfl (by (try simp only [List.map_toArray, List.map_cons, List.map_nil]); first | done | rfl | (simp only [List.length_drop, List.length_take]; rfl)) ?_; (with_reducible refine (pilcrowref24_size.calls k a1 t115 _ A8.out).mono ?_); rintro e w' ⟨rfl, ⟨nd, rfl⟩⟩; refine ⟨_, rfl, ?_⟩))
        go_ret
        exact ⟨by first | rfl | (simp [errW_none, errW_some] <;> rfl) | (simp [*, errW_none, errW_some] <;> rfl), by repeat (first | (with_reducible first | exact HB.out | apply below_alloc | apply pw_below_drewN | apply below_drew1) | exact HB.out)⟩
      · rw [if_neg c7] at H
        have c7b0 : (a0 == 3) = false := beq_eq_false_iff_ne.mpr c7
        have c7b1 : (a0 != 3) = true := bne_iff_ne.mpr c7
        by_cases c9 : a1.toList = ([] : List UInt8)
        · rw [if_pos c9] at H
          have c9b0 : (a1.toList == ([] : List UInt8)) = true := beq_iff_eq.mpr c9
          have c9b1 : (a1.toList != ([] : List UInt8)) = false := bne_eq_false_iff_eq.mpr c9
          clear c9
          obtain rfl := Option.some.inj H
          go_enter Tryd.func27, Tryd.ntmps27
          go_wp2
          go_ret
          exact ⟨by first | rfl | (simp [errW_none, errW_some] <;> rfl) | (simp [*, errW_none, errW_some] <;> rfl), by repeat (first | (with_reducible first | exact HB.out | apply below_alloc | apply pw_below_drewN | apply below_drew1) | exact HB.out)⟩
        · rw [if_neg c9] at H
          have c9b0 : (a1.toList == ([] : List UInt8)) = false := beq_eq_false_iff_ne.mpr c9
          have c9b1 : (a1.toList != ([] : List UInt8)) = true := bne_iff_ne.mpr c9
          replace H := Option.bind_eq_some_iff.mp H
          obtain ⟨t116, A100, H⟩ := H
          replace H : ((pilcrowref24_find.f k t116 a1).bind fun t119 => (some (mx t119 0))) = some r := H
          have A10 := Aside0.mk A100
          clear A100
          replace H := Option.bind_eq_some_iff.mp H
          obtain ⟨t119, A110, H⟩ := H
          replace H : (some (mx t119 0)) = some r := H
          have A11 := Aside0.mk A110
          clear A110
          obtain ⟨ji12, hji12⟩ : ∃ j_ : Int, (mx t119 0) = j_ := ⟨_, rfl⟩
          replace H : (some ji12) = some r := by first | (rw [hji12] at H; exact H) | (simp only [hji12] at H ⊢; exact H)
          (try rw [hji12] at A10)
          (try rw [hji12] at A11)
          (try (have hji12l : 0 ≤ ji12 := by (rw [← hji12]; unfold mx; (repeat' split) <;> omega)))
          (try (have hji12m : 0 ≤ ji12 := by omega))
          have hji12_ : (if t119 < 0 then 0 else t119) = ji12 := hji12
          obtain rfl := Option.some.inj H
          go_enter Tryd.func27, Tryd.ntmps27
          go_wp2_with (first | ((with_reducible refine gate_callee (f := 32) rfl ?_); refine goesL_ (some 18) rfl rfl Tryd.func32 (by kernel_rfl) rfl #[] rfl (by (try simp only [List.map_toArray, List.map_cons, List.map_nil]); first | done | rfl | (simp only [List.length_drop, List.length_take]; rfl)) ?_; (with_reducible refine (pilcrowref18_Names.calls  t116 _ A10.out).mono ?_); rintro e w13 ⟨v117, rfl, ho0, hb⟩; refine ⟨_, rfl, ?_⟩; have n0_ := Aside0.mk (Kd.R_lower ho0 (below_size (by repeat (first | (with_reducible first | exact HB.out | apply below_alloc | apply pw_below_drewN | apply below_drew1) | exact HB.out)))); have n1_ := Aside0.mk (below_step (by repeat (first | (with_reducible first | exact HB.out | apply below_alloc | apply pw_below_drewN | apply below_drew1) | exact HB.out)) hb); clear HB; have HO118 := n0_; have HB := n1_; clear n0_ n1_; (try clear hb); (try clear hb2); (try clear hk); (try clear hi); (try clear ho0); obtain ⟨Ao14, co14, eo14⟩ := Kd.R_slice HO118.out; subst eo14) | ((with_reducible refine gate_callee (f := 23) rfl ?_); refine goesL_ (some 20) rfl rfl Tryd.func23 (by kernel_rfl) rfl #[.slice Ao14 t116.length co14, .string a1] rfl (by (try simp only [List.map_toArray, List.map_cons, List.map_nil]); first | done | rfl | (simp only [List.length_drop, List.length_take]; rfl)) ?_; (with_reducible refine (pilcrowref24_find.calls k _ _ t116 a1 t119 _ ?side1 ?side2 A11.out).mono ?_); (case side1 => repeat (first | exact (Kd.R_reads' HO118.out).2.2 | (with_reducible refine Kd.C_alloc ?_ _) | (with_reducible refine Kd.C_drewN ?_ _) | (with_reducible refine Kd.C_drew ?_))); (case side2 => exact (Kd.R_reads' HO118.out).2.1); rintro e w' ⟨rfl, ⟨nd, rfl⟩⟩; refine ⟨_, rfl, ?_⟩))
          go_ret
          exact ⟨by first | rfl | (simp [errW_none, errW_some] <;> rfl) | (simp only [← hji12]; first | rfl | (simp [errW_none, errW_some] <;> rfl)) | (simp [*, errW_none, errW_some] <;> rfl), by repeat (first | (with_reducible first | exact HB.out | apply below_alloc | apply pw_below_drewN | apply below_drew1) | exact HB.out)⟩
    · replace c6 := Bool.eq_false_iff.mpr c6
      subst c6
      have H1 : (some 0) = some r := by rw [if_neg (show ¬ (false = true) by decide)] at H; exact H
      clear H
      have H := H1
      clear H1
      obtain rfl := Option.some.inj H
      go_enter Tryd.func27, Tryd.ntmps27
      go_wp2
      go_ret
      exact ⟨by first | rfl | (simp [errW_none, errW_some] <;> rfl) | (simp [*, errW_none, errW_some] <;> rfl), by repeat (first | (with_reducible first | exact HB.out | apply below_alloc | apply pw_below_drewN | apply below_drew1) | exact HB.out)⟩

end Go.Proofs.YtlddfdkmpnllmaaDoor.PRpp
