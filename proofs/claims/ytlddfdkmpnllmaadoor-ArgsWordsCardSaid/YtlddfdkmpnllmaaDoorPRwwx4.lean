/- Go functions as Lean functions, and that the one comes to what the other answers: written by the kit's print.py for several functions together (wip/printall.sh of this repo). -/
import Derived.Test.YtlddfdkmpnllmaaDoorPRwwx0
namespace Go.Proofs.YtlddfdkmpnllmaaDoor.PRww
open Go.RowKit Go.Proofs.YtlddfdkmpnllmaaDoorW.PrintWords Go.Proofs.YtlddfdkmpnllmaaDoorW.PrintLast Go.Proofs.YtlddfdkmpnllmaaDoorW.PrintMore
attribute [local go_sem] max2_int min2_int max_two min_two max_three min_three max_four min_four   -- for this text's walks alone
set_option linter.unusedVariables false
set_option linter.unusedSimpArgs false

/-! ### pilcrowref22_Num: function 33 -/
mutual
def pilcrowref22_Num.j0 : Nat → Int → Bool → Option (ByteArray)
  | 0, _, _ => none
  | k + 1, x0, x8 => if x8 = true then (some (strOfNums (([(wrap64 (48 + x0)) % 256] : List Int)))) else (if x0 < 0 then (if x0 > (-10) then ((pilcrowref22_Num.f k (wrap64 (-x0))).bind fun t108 => (if 1 + t108.size ≤ 9223372036854775807 then (some ((⟨#[45]⟩ : ByteArray) ++ t108)) else (none))) else ((pilcrowref22_Num.f k (wrap64 (Int.tdiv x0 10))).bind fun t109 => ((pilcrowref22_Num.f k (wrap64 (-(Int.tmod x0 10)))).bind fun t110 => (if t109.size + t110.size ≤ 9223372036854775807 then (some (t109 ++ t110)) else (none))))) else ((pilcrowref22_Num.f k (wrap64 (Int.tdiv x0 10))).bind fun t111 => ((pilcrowref22_Num.f k (Int.tmod x0 10)).bind fun t112 => (if t111.size + t112.size ≤ 9223372036854775807 then (some (t111 ++ t112)) else (none)))))
def pilcrowref22_Num.f : Nat → Int → Option (ByteArray)
  | 0, _ => none
  | k + 1, a0 => if a0 ≥ 0 then (pilcrowref22_Num.j0 k a0 (decide (a0 < 10))) else (pilcrowref22_Num.j0 k a0 false)
end
theorem pilcrowref22_Num.mono_l : ∀ k, (∀ y0, LeO (pilcrowref22_Num.f k y0) (pilcrowref22_Num.f (k + 1) y0)) ∧ (∀ y0 y1, LeO (pilcrowref22_Num.j0 k y0 y1) (pilcrowref22_Num.j0 (k + 1) y0 y1))
  | 0 => ⟨fun _ r h => by simp [pilcrowref22_Num.f] at h, fun _ _ r h => by simp [pilcrowref22_Num.j0] at h⟩
  | k + 1 => by
    obtain ⟨ih0, ih1⟩ := pilcrowref22_Num.mono_l k
    refine ⟨?_, ?_⟩
    · intro y0
      unfold pilcrowref22_Num.f
      repeat' first
      | (with_reducible exact ih0 _)
      | (with_reducible exact ih1 _ _)
      | (with_reducible exact LeO.refl _)
      | (with_reducible exact LeO.none _)
      | (with_reducible refine LeO.ite ?_ ?_)
      | (with_reducible refine LeO.bind ?_ (fun _ => ?_))
      | exact ih0 _
      | exact ih1 _ _
      | exact LeO.none _
      | refine LeO.ite ?_ ?_
      | refine LeO.bind ?_ (fun _ => ?_)
    · intro y0 y1
      unfold pilcrowref22_Num.j0
      repeat' first
      | (with_reducible exact ih0 _)
      | (with_reducible exact ih1 _ _)
      | (with_reducible exact LeO.refl _)
      | (with_reducible exact LeO.none _)
      | (with_reducible refine LeO.ite ?_ ?_)
      | (with_reducible refine LeO.bind ?_ (fun _ => ?_))
      | exact ih0 _
      | exact ih1 _ _
      | exact LeO.none _
      | refine LeO.ite ?_ ?_
      | refine LeO.bind ?_ (fun _ => ?_)
theorem pilcrowref22_Num.mono : ∀ a0 k, LeO (pilcrowref22_Num.f k a0) (pilcrowref22_Num.f (k + 1) a0) := by
  intro a0 k
  obtain ⟨ih0, ih1⟩ := pilcrowref22_Num.mono_l k
  exact ih0 a0
set_option maxHeartbeats 8000000 in
set_option maxRecDepth 100000 in
theorem pilcrowref22_Num.calls (k : Nat) : ∀ (a0 : Int) (r : ByteArray) (w : World) (h : pilcrowref22_Num.f k a0 = some r),
    Calls Tryd.prog 33 #[.int .i64 a0] w fun e w' => e = .returned (.string r) ∧ Below w.heap.size w w' := by
  induction k using Nat.strongRecOn with
  | _ k ih =>
  intro a0 r w h
  cases k with
  | zero => exact absurd h (by simp [pilcrowref22_Num.f])
  | succ k =>
  simp only [pilcrowref22_Num.f] at h
  have HB := Aside0.mk (Below.refl w.heap.size w)
  have H : (if a0 ≥ 0 then (pilcrowref22_Num.j0 k a0 (decide (a0 < 10))) else (pilcrowref22_Num.j0 k a0 false)) = some r := h
  clear h
  have HC2 := Aside0.mk H
  clear H
  go_enter Tryd.func33, Tryd.ntmps33
  go_upto_region 1 with (fail)
  go_cut [8] (fun v8 wc => ∃ (kq : Nat) (x8_1 : Bool), v8 = .bool x8_1 ∧ Aside0 (pilcrowref22_Num.j0 kq a0 x8_1 = some r) ∧ Aside0 (kq ≤ k) ∧ Aside0 (Below w.heap.size w wc))
  case first =>
    have H := HC2.out
    clear HC2
    by_cases c3 : a0 ≥ 0
    · rw [if_pos c3] at H
      have c3b0 : decide (0 ≤ a0) = true := decide_eq_true c3
      clear c3
      (first | rw [c3b0] | (simp only [i64_w, i32_w]; rw [c3b0]) | skip)
      have H' := Aside0.mk H
      clear H
      go_wp2
      go_meet
      case rel => exact ⟨_, (decide (a0 < 10)), (by first | rfl | (simp; done) | (simp [*]; done)), H', ⟨by first | omega | exact Nat.le_refl _⟩, ⟨by repeat (first | (with_reducible first | exact HB.out | apply below_alloc | apply pw_below_drewN | apply below_drew1) | exact HB.out)⟩⟩
    · rw [if_neg c3] at H
      have c3b0 : decide (0 ≤ a0) = false := decide_eq_false c3
      clear c3
      (first | rw [c3b0] | (simp only [i64_w, i32_w]; rw [c3b0]) | skip)
      have H' := Aside0.mk H
      clear H
      go_wp2
      go_meet
      case rel => exact ⟨_, (false), (by first | rfl | (simp; done) | (simp [*]; done)), H', ⟨by first | omega | exact Nat.le_refl _⟩, ⟨by repeat (first | (with_reducible first | exact HB.out | apply below_alloc | apply pw_below_drewN | apply below_drew1) | exact HB.out)⟩⟩
  case rest =>
    clear HC2
    try clear p2
    try clear c3
    try clear c3b0
    obtain ⟨kq, x8_1, rfl, HA, HJ1, HB⟩ := hcut
    cases kq with
    | zero => exact absurd HA.out (by simp [pilcrowref22_Num.j0])
    | succ kj1 =>
      have H := HA.out
      clear HA
      simp only [pilcrowref22_Num.j0] at H
      by_cases c4 : x8_1 = true
      · subst c4
        have H1 : (some (strOfNums (([(wrap64 (48 + a0)) % 256] : List Int)))) = some r := by rw [if_pos rfl] at H; exact H
        clear H
        have H := H1
        clear H1
        obtain ⟨y105, hy105⟩ : ∃ y_ : List Int, y_ = (([(wrap64 (48 + a0)) % 256] : List Int)) := ⟨_, rfl⟩
        replace H : (some (strOfNums y105)) = some r := by first | (rw [hy105]; with_reducible exact H) | (have H2_ := (Option.bind_some _ _).symm.trans H; rw [hy105]; with_reducible exact H2_) | (have H2_ := (Option.bind_some _ _).symm.trans H; with_reducible exact H2_) | with_reducible exact H | (rw [hy105]; exact H) | exact H
        have Ny105 := Aside0.mk hy105
        clear hy105
        obtain rfl := Option.some.inj H
        go_wp2_with (first | ((with_reducible refine gate_dst (N := 12) rfl ?_); refine Kd.R_lit (Kd.int .u8) _ 5 ?hg (N := 12) ?hd (xs := ([(wrap64 (48 + a0)) % 256] : List Int)) (inner := [.int .u8 ((wrap64 (48 + a0)) % 256)]) (ok := fun _ => True) (okp := fun _ => True) ?hr ?hp (fun _ hk => hk) trivial (Below.refl _ _) (Nat.le_refl _) (by simp) ?_; (case hd => rfl); (case hg => rfl); (case hr => first | (go_simp; done) | (go_simp; rfl)); (case hp => exact (Reps.one (show Kd.M (Kd.int .u8) _ _ _ ((wrap64 (48 + a0)) % 256) [.int .u8 ((wrap64 (48 + a0)) % 256)] from rfl) (Reps.none _ _))); intro v106 w5 ho6 hb hg_ hnew_; clear hg_ hnew_; (first | rw [← Ny105.out] at ho6 | (simp only [Int.reduceToNat] at ho6; rw [← Ny105.out] at ho6)); have n0_ := Aside0.mk (Kd.R_lower ho6 (below_size (by repeat (first | (with_reducible first | exact HB.out | apply below_alloc | apply pw_below_drewN | apply below_drew1) | exact HB.out)))); have n1_ := Aside0.mk (below_step (by repeat (first | (with_reducible first | exact HB.out | apply below_alloc | apply pw_below_drewN | apply below_drew1) | exact HB.out)) hb); clear HB; have HO107 := n0_; have HB := n1_; clear n0_ n1_; clear hb ho6; have hcv7 := own_string (P := Tryd.prog) Tryd.underlying62 Tryd.underlying5 Tryd.underlying9 (Kd.own_of_R HO107.out)))
        go_ret
        exact ⟨by first | rfl | (simp [errW_none, errW_some] <;> rfl) | (simp [*, errW_none, errW_some] <;> rfl), by repeat (first | (with_reducible first | exact HB.out | apply below_alloc | apply pw_below_drewN | apply below_drew1) | exact HB.out)⟩
      · replace c4 := Bool.eq_false_iff.mpr c4
        subst c4
        have H1 : (if a0 < 0 then (if a0 > (-10) then ((pilcrowref22_Num.f kj1 (wrap64 (-a0))).bind fun t108 => (if 1 + t108.size ≤ 9223372036854775807 then (some ((⟨#[45]⟩ : ByteArray) ++ t108)) else (none))) else ((pilcrowref22_Num.f kj1 (wrap64 (Int.tdiv a0 10))).bind fun t109 => ((pilcrowref22_Num.f kj1 (wrap64 (-(Int.tmod a0 10)))).bind fun t110 => (if t109.size + t110.size ≤ 9223372036854775807 then (some (t109 ++ t110)) else (none))))) else ((pilcrowref22_Num.f kj1 (wrap64 (Int.tdiv a0 10))).bind fun t111 => ((pilcrowref22_Num.f kj1 (Int.tmod a0 10)).bind fun t112 => (if t111.size + t112.size ≤ 9223372036854775807 then (some (t111 ++ t112)) else (none))))) = some r := by rw [if_neg (show ¬ (false = true) by decide)] at H; exact H
        clear H
        have H := H1
        clear H1
        by_cases c8 : a0 < 0
        · rw [if_pos c8] at H
          have c8b0 : decide (a0 < 0) = true := decide_eq_true c8
          clear c8
          by_cases c9 : a0 > (-10)
          · rw [if_pos c9] at H
            have c9b0 : decide ((-10) < a0) = true := decide_eq_true c9
            clear c9
            replace H := Option.bind_eq_some_iff.mp H
            obtain ⟨t108, A100, H⟩ := H
            replace H : (if 1 + t108.size ≤ 9223372036854775807 then (some ((⟨#[45]⟩ : ByteArray) ++ t108)) else (none)) = some r := H
            have A10 := Aside0.mk A100
            clear A100
            by_cases c11 : 1 + t108.size ≤ 9223372036854775807
            · rw [if_pos c11] at H
              have c11b0 := eq_true c11
              have c11b1 : decide (1 + t108.size ≤ 9223372036854775807) = true := decide_eq_true c11
              try have c11b2 : (9223372036854775807 < 1 + t108.size) = False := eq_false (Nat.not_lt.2 c11)
              obtain rfl := Option.some.inj H
              go_wp2_with (first | ((with_reducible refine gate_callee (f := 33) rfl ?_); refine goesL_ (some 20) rfl rfl Tryd.func33 (by kernel_rfl) rfl #[.int .i64 (wrap64 (-a0))] rfl (by (try simp only [List.map_toArray, List.map_cons, List.map_nil]); first | done | rfl | (simp only [List.length_drop, List.length_take]; rfl)) ?_; (with_reducible refine (ih kj1 (by have := HJ1.out; omega) (wrap64 (-a0)) t108 _ A10.out).mono ?_); rintro e w12 ⟨rfl, hb⟩; refine ⟨_, rfl, ?_⟩; have n0_ := Aside0.mk (below_step (by repeat (first | (with_reducible first | exact HB.out | apply below_alloc | apply pw_below_drewN | apply below_drew1) | exact HB.out)) hb); clear HB; have HB := n0_; clear n0_; (try clear hb); (try clear hb2); (try clear hk); (try clear hi)))
              go_ret
              exact ⟨by first | rfl | (simp [errW_none, errW_some] <;> rfl) | (simp [*, errW_none, errW_some] <;> rfl), by repeat (first | (with_reducible first | exact HB.out | apply below_alloc | apply pw_below_drewN | apply below_drew1) | exact HB.out)⟩
            · rw [if_neg c11] at H
              exact absurd H (by simp)
          · rw [if_neg c9] at H
            have c9b0 : decide ((-10) < a0) = false := decide_eq_false c9
            clear c9
            replace H := Option.bind_eq_some_iff.mp H
            obtain ⟨t109, A130, H⟩ := H
            replace H : ((pilcrowref22_Num.f kj1 (wrap64 (-(Int.tmod a0 10)))).bind fun t110 => (if t109.size + t110.size ≤ 9223372036854775807 then (some (t109 ++ t110)) else (none))) = some r := H
            have A13 := Aside0.mk A130
            clear A130
            replace H := Option.bind_eq_some_iff.mp H
            obtain ⟨t110, A140, H⟩ := H
            replace H : (if t109.size + t110.size ≤ 9223372036854775807 then (some (t109 ++ t110)) else (none)) = some r := H
            have A14 := Aside0.mk A140
            clear A140
            by_cases c15 : t109.size + t110.size ≤ 9223372036854775807
            · rw [if_pos c15] at H
              have c15b0 := eq_true c15
              have c15b1 : decide (t109.size + t110.size ≤ 9223372036854775807) = true := decide_eq_true c15
              try have c15b2 : (9223372036854775807 < t109.size + t110.size) = False := eq_false (Nat.not_lt.2 c15)
              obtain rfl := Option.some.inj H
              go_wp2_with (first | ((with_reducible refine gate_callee (f := 33) rfl ?_); refine goesL_ (some 24) rfl rfl Tryd.func33 (by kernel_rfl) rfl #[.int .i64 (wrap64 (Int.tdiv a0 10))] rfl (by (try simp only [List.map_toArray, List.map_cons, List.map_nil]); first | done | rfl | (simp only [List.length_drop, List.length_take]; rfl)) ?_; (with_reducible refine (ih kj1 (by have := HJ1.out; omega) (wrap64 (Int.tdiv a0 10)) t109 _ A13.out).mono ?_); rintro e w16 ⟨rfl, hb⟩; refine ⟨_, rfl, ?_⟩; have n0_ := Aside0.mk (below_step (by repeat (first | (with_reducible first | exact HB.out | apply below_alloc | apply pw_below_drewN | apply below_drew1) | exact HB.out)) hb); clear HB; have HB := n0_; clear n0_; (try clear hb); (try clear hb2); (try clear hk); (try clear hi)) | ((with_reducible refine gate_callee (f := 33) rfl ?_); refine goesL_ (some 28) rfl rfl Tryd.func33 (by kernel_rfl) rfl #[.int .i64 (wrap64 (-(Int.tmod a0 10)))] rfl (by (try simp only [List.map_toArray, List.map_cons, List.map_nil]); first | done | rfl | (simp only [List.length_drop, List.length_take]; rfl)) ?_; (with_reducible refine (ih kj1 (by have := HJ1.out; omega) (wrap64 (-(Int.tmod a0 10))) t110 _ A14.out).mono ?_); rintro e w17 ⟨rfl, hb⟩; refine ⟨_, rfl, ?_⟩; have n0_ := Aside0.mk (below_step (by repeat (first | (with_reducible first | exact HB.out | apply below_alloc | apply pw_below_drewN | apply below_drew1) | exact HB.out)) hb); clear HB; have HB := n0_; clear n0_; (try clear hb); (try clear hb2); (try clear hk); (try clear hi)))
              go_ret
              exact ⟨by first | rfl | (simp [errW_none, errW_some] <;> rfl) | (simp [*, errW_none, errW_some] <;> rfl), by repeat (first | (with_reducible first | exact HB.out | apply below_alloc | apply pw_below_drewN | apply below_drew1) | exact HB.out)⟩
            · rw [if_neg c15] at H
              exact absurd H (by simp)
        · rw [if_neg c8] at H
          have c8b0 : decide (a0 < 0) = false := decide_eq_false c8
          clear c8
          replace H := Option.bind_eq_some_iff.mp H
          obtain ⟨t111, A180, H⟩ := H
          replace H : ((pilcrowref22_Num.f kj1 (Int.tmod a0 10)).bind fun t112 => (if t111.size + t112.size ≤ 9223372036854775807 then (some (t111 ++ t112)) else (none))) = some r := H
          have A18 := Aside0.mk A180
          clear A180
          replace H := Option.bind_eq_some_iff.mp H
          obtain ⟨t112, A190, H⟩ := H
          replace H : (if t111.size + t112.size ≤ 9223372036854775807 then (some (t111 ++ t112)) else (none)) = some r := H
          have A19 := Aside0.mk A190
          clear A190
          by_cases c20 : t111.size + t112.size ≤ 9223372036854775807
          · rw [if_pos c20] at H
            have c20b0 := eq_true c20
            have c20b1 : decide (t111.size + t112.size ≤ 9223372036854775807) = true := decide_eq_true c20
            try have c20b2 : (9223372036854775807 < t111.size + t112.size) = False := eq_false (Nat.not_lt.2 c20)
            obtain rfl := Option.some.inj H
            go_wp2_with (first | ((with_reducible refine gate_callee (f := 33) rfl ?_); refine goesL_ (some 32) rfl rfl Tryd.func33 (by kernel_rfl) rfl #[.int .i64 (wrap64 (Int.tdiv a0 10))] rfl (by (try simp only [List.map_toArray, List.map_cons, List.map_nil]); first | done | rfl | (simp only [List.length_drop, List.length_take]; rfl)) ?_; (with_reducible refine (ih kj1 (by have := HJ1.out; omega) (wrap64 (Int.tdiv a0 10)) t111 _ A18.out).mono ?_); rintro e w21 ⟨rfl, hb⟩; refine ⟨_, rfl, ?_⟩; have n0_ := Aside0.mk (below_step (by repeat (first | (with_reducible first | exact HB.out | apply below_alloc | apply pw_below_drewN | apply below_drew1) | exact HB.out)) hb); clear HB; have HB := n0_; clear n0_; (try clear hb); (try clear hb2); (try clear hk); (try clear hi)) | ((with_reducible refine gate_callee (f := 33) rfl ?_); refine goesL_ (some 35) rfl rfl Tryd.func33 (by kernel_rfl) rfl #[.int .i64 (Int.tmod a0 10)] rfl (by (try simp only [List.map_toArray, List.map_cons, List.map_nil]); first | done | rfl | (simp only [List.length_drop, List.length_take]; rfl)) ?_; (with_reducible refine (ih kj1 (by have := HJ1.out; omega) (Int.tmod a0 10) t112 _ A19.out).mono ?_); rintro e w22 ⟨rfl, hb⟩; refine ⟨_, rfl, ?_⟩; have n0_ := Aside0.mk (below_step (by repeat (first | (with_reducible first | exact HB.out | apply below_alloc | apply pw_below_drewN | apply below_drew1) | exact HB.out)) hb); clear HB; have HB := n0_; clear n0_; (try clear hb); (try clear hb2); (try clear hk); (try clear hi)))
            go_ret
            exact ⟨by first | rfl | (simp [errW_none, errW_some] <;> rfl) | (simp [*, errW_none, errW_some] <;> rfl), by repeat (first | (with_reducible first | exact HB.out | apply below_alloc | apply pw_below_drewN | apply below_drew1) | exact HB.out)⟩
          · rw [if_neg c20] at H
            exact absurd H (by simp)

/-! ### pilcrowref24_Commands: function 24 -/
def pilcrowref24_Commands.f  : Option (List ByteArray) := some (([(⟨#[]⟩ : ByteArray), (⟨#[101, 110, 99, 111, 100, 101]⟩ : ByteArray), (⟨#[100, 101, 99, 111, 100, 101]⟩ : ByteArray), (⟨#[116, 114, 97, 110, 115, 99, 111, 100, 101]⟩ : ByteArray), (⟨#[100, 101, 116, 101, 99, 116]⟩ : ByteArray), (⟨#[118, 101, 114, 105, 102, 121]⟩ : ByteArray), (⟨#[115, 116, 97, 116]⟩ : ByteArray)] : List ByteArray))
set_option maxHeartbeats 8000000 in
set_option maxRecDepth 100000 in
theorem pilcrowref24_Commands.calls  (r : List ByteArray) (w : World) (h : pilcrowref24_Commands.f  = some r) :
    Calls Tryd.prog 24 #[] w fun e w' => ∃ v0_ : Value, e = .returned (v0_) ∧ Kd.R Kd.string 9 w' w.heap.size (fun _ => True) v0_ r ∧ Below w.heap.size w w' := by
  have HB := Aside0.mk (Below.refl w.heap.size w)
  have H : (some (([(⟨#[]⟩ : ByteArray), (⟨#[101, 110, 99, 111, 100, 101]⟩ : ByteArray), (⟨#[100, 101, 99, 111, 100, 101]⟩ : ByteArray), (⟨#[116, 114, 97, 110, 115, 99, 111, 100, 101]⟩ : ByteArray), (⟨#[100, 101, 116, 101, 99, 116]⟩ : ByteArray), (⟨#[118, 101, 114, 105, 102, 121]⟩ : ByteArray), (⟨#[115, 116, 97, 116]⟩ : ByteArray)] : List ByteArray))) = some r := h
  clear h
  obtain ⟨y113, hy113⟩ : ∃ y_ : List ByteArray, y_ = (([(⟨#[]⟩ : ByteArray), (⟨#[101, 110, 99, 111, 100, 101]⟩ : ByteArray), (⟨#[100, 101, 99, 111, 100, 101]⟩ : ByteArray), (⟨#[116, 114, 97, 110, 115, 99, 111, 100, 101]⟩ : ByteArray), (⟨#[100, 101, 116, 101, 99, 116]⟩ : ByteArray), (⟨#[118, 101, 114, 105, 102, 121]⟩ : ByteArray), (⟨#[115, 116, 97, 116]⟩ : ByteArray)] : List ByteArray)) := ⟨_, rfl⟩
  replace H : (some y113) = some r := by first | (rw [hy113]; with_reducible exact H) | (have H2_ := (Option.bind_some _ _).symm.trans H; rw [hy113]; with_reducible exact H2_) | (have H2_ := (Option.bind_some _ _).symm.trans H; with_reducible exact H2_) | with_reducible exact H | (rw [hy113]; exact H) | exact H
  have Ny113 := Aside0.mk hy113
  clear hy113
  obtain rfl := Option.some.inj H
  go_enter Tryd.func24, Tryd.ntmps24
  go_wp2_with (first | ((with_reducible refine gate_dst (N := 1) rfl ?_); refine Kd.R_lit Kd.string _ 9 ?hg (N := 1) ?hd (xs := ([(⟨#[]⟩ : ByteArray), (⟨#[101, 110, 99, 111, 100, 101]⟩ : ByteArray), (⟨#[100, 101, 99, 111, 100, 101]⟩ : ByteArray), (⟨#[116, 114, 97, 110, 115, 99, 111, 100, 101]⟩ : ByteArray), (⟨#[100, 101, 116, 101, 99, 116]⟩ : ByteArray), (⟨#[118, 101, 114, 105, 102, 121]⟩ : ByteArray), (⟨#[115, 116, 97, 116]⟩ : ByteArray)] : List ByteArray)) (inner := [.string (⟨#[]⟩ : ByteArray), .string (⟨#[101, 110, 99, 111, 100, 101]⟩ : ByteArray), .string (⟨#[100, 101, 99, 111, 100, 101]⟩ : ByteArray), .string (⟨#[116, 114, 97, 110, 115, 99, 111, 100, 101]⟩ : ByteArray), .string (⟨#[100, 101, 116, 101, 99, 116]⟩ : ByteArray), .string (⟨#[118, 101, 114, 105, 102, 121]⟩ : ByteArray), .string (⟨#[115, 116, 97, 116]⟩ : ByteArray)]) (ok := fun _ => True) (okp := fun _ => True) ?hr ?hp (fun _ hk => hk) trivial (Below.refl _ _) (Nat.le_refl _) (by simp) ?_; (case hd => rfl); (case hg => rfl); (case hr => first | (go_simp; done) | (go_simp; rfl)); (case hp => exact (Reps.one (show Kd.M Kd.string _ _ _ (⟨#[]⟩ : ByteArray) [.string (⟨#[]⟩ : ByteArray)] from rfl) (Reps.one (show Kd.M Kd.string _ _ _ (⟨#[101, 110, 99, 111, 100, 101]⟩ : ByteArray) [.string (⟨#[101, 110, 99, 111, 100, 101]⟩ : ByteArray)] from rfl) (Reps.one (show Kd.M Kd.string _ _ _ (⟨#[100, 101, 99, 111, 100, 101]⟩ : ByteArray) [.string (⟨#[100, 101, 99, 111, 100, 101]⟩ : ByteArray)] from rfl) (Reps.one (show Kd.M Kd.string _ _ _ (⟨#[116, 114, 97, 110, 115, 99, 111, 100, 101]⟩ : ByteArray) [.string (⟨#[116, 114, 97, 110, 115, 99, 111, 100, 101]⟩ : ByteArray)] from rfl) (Reps.one (show Kd.M Kd.string _ _ _ (⟨#[100, 101, 116, 101, 99, 116]⟩ : ByteArray) [.string (⟨#[100, 101, 116, 101, 99, 116]⟩ : ByteArray)] from rfl) (Reps.one (show Kd.M Kd.string _ _ _ (⟨#[118, 101, 114, 105, 102, 121]⟩ : ByteArray) [.string (⟨#[118, 101, 114, 105, 102, 121]⟩ : ByteArray)] from rfl) (Reps.one (show Kd.M Kd.string _ _ _ (⟨#[115, 116, 97, 116]⟩ : ByteArray) [.string (⟨#[115, 116, 97, 116]⟩ : ByteArray)] from rfl) (Reps.none _ _))))))))); intro v114 w1 ho2 hb hg_ hnew_; clear hg_ hnew_; (first | rw [← Ny113.out] at ho2 | (simp only [Int.reduceToNat] at ho2; rw [← Ny113.out] at ho2)); have n0_ := Aside0.mk (Kd.R_lower ho2 (below_size (by repeat (first | (with_reducible first | exact HB.out | apply below_alloc | apply pw_below_drewN | apply below_drew1) | exact HB.out)))); have n1_ := Aside0.mk (below_step (by repeat (first | (with_reducible first | exact HB.out | apply below_alloc | apply pw_below_drewN | apply below_drew1) | exact HB.out)) hb); clear HB; have HO115 := n0_; have HB := n1_; clear n0_ n1_; clear hb ho2))
  go_ret
  exact ⟨_, by first | rfl | (simp [errW_none, errW_some] <;> rfl) | (simp [*, errW_none, errW_some] <;> rfl), by (with_reducible repeat (first | apply Kd.R_alloc | apply Kd.R_drewN | apply Kd.R_drew)); exact HO115.out, by repeat (first | (with_reducible first | exact HB.out | apply below_alloc | apply pw_below_drewN | apply below_drew1) | exact HB.out)⟩

/-! ### pilcrowref18_Names: function 32 -/
def pilcrowref18_Names.f  : Option (List ByteArray) := some (([(⟨#[]⟩ : ByteArray), (⟨#[117, 116, 102, 45, 56]⟩ : ByteArray), (⟨#[117, 116, 102, 45, 49, 54, 98, 101]⟩ : ByteArray), (⟨#[117, 116, 102, 45, 49, 54, 108, 101]⟩ : ByteArray), (⟨#[117, 116, 102, 45, 51, 50, 98, 101]⟩ : ByteArray), (⟨#[117, 116, 102, 45, 51, 50, 108, 101]⟩ : ByteArray), (⟨#[117, 116, 102, 45, 101, 98, 99, 100, 105, 99]⟩ : ByteArray), (⟨#[112, 117, 110, 121, 99, 111, 100, 101]⟩ : ByteArray), (⟨#[98, 111, 99, 117, 45, 49]⟩ : ByteArray), (⟨#[115, 99, 115, 117]⟩ : ByteArray), (⟨#[115, 99, 115, 117, 45, 112, 108, 97, 105, 110]⟩ : ByteArray)] : List ByteArray))
set_option maxHeartbeats 8000000 in
set_option maxRecDepth 100000 in
theorem pilcrowref18_Names.calls  (r : List ByteArray) (w : World) (h : pilcrowref18_Names.f  = some r) :
    Calls Tryd.prog 32 #[] w fun e w' => ∃ v0_ : Value, e = .returned (v0_) ∧ Kd.R Kd.string 9 w' w.heap.size (fun _ => True) v0_ r ∧ Below w.heap.size w w' := by
  have HB := Aside0.mk (Below.refl w.heap.size w)
  have H : (some (([(⟨#[]⟩ : ByteArray), (⟨#[117, 116, 102, 45, 56]⟩ : ByteArray), (⟨#[117, 116, 102, 45, 49, 54, 98, 101]⟩ : ByteArray), (⟨#[117, 116, 102, 45, 49, 54, 108, 101]⟩ : ByteArray), (⟨#[117, 116, 102, 45, 51, 50, 98, 101]⟩ : ByteArray), (⟨#[117, 116, 102, 45, 51, 50, 108, 101]⟩ : ByteArray), (⟨#[117, 116, 102, 45, 101, 98, 99, 100, 105, 99]⟩ : ByteArray), (⟨#[112, 117, 110, 121, 99, 111, 100, 101]⟩ : ByteArray), (⟨#[98, 111, 99, 117, 45, 49]⟩ : ByteArray), (⟨#[115, 99, 115, 117]⟩ : ByteArray), (⟨#[115, 99, 115, 117, 45, 112, 108, 97, 105, 110]⟩ : ByteArray)] : List ByteArray))) = some r := h
  clear h
  obtain ⟨y116, hy116⟩ : ∃ y_ : List ByteArray, y_ = (([(⟨#[]⟩ : ByteArray), (⟨#[117, 116, 102, 45, 56]⟩ : ByteArray), (⟨#[117, 116, 102, 45, 49, 54, 98, 101]⟩ : ByteArray), (⟨#[117, 116, 102, 45, 49, 54, 108, 101]⟩ : ByteArray), (⟨#[117, 116, 102, 45, 51, 50, 98, 101]⟩ : ByteArray), (⟨#[117, 116, 102, 45, 51, 50, 108, 101]⟩ : ByteArray), (⟨#[117, 116, 102, 45, 101, 98, 99, 100, 105, 99]⟩ : ByteArray), (⟨#[112, 117, 110, 121, 99, 111, 100, 101]⟩ : ByteArray), (⟨#[98, 111, 99, 117, 45, 49]⟩ : ByteArray), (⟨#[115, 99, 115, 117]⟩ : ByteArray), (⟨#[115, 99, 115, 117, 45, 112, 108, 97, 105, 110]⟩ : ByteArray)] : List ByteArray)) := ⟨_, rfl⟩
  replace H : (some y116) = some r := by first | (rw [hy116]; with_reducible exact H) | (have H2_ := (Option.bind_some _ _).symm.trans H; rw [hy116]; with_reducible exact H2_) | (have H2_ := (Option.bind_some _ _).symm.trans H; with_reducible exact H2_) | with_reducible exact H | (rw [hy116]; exact H) | exact H
  have Ny116 := Aside0.mk hy116
  clear hy116
  obtain rfl := Option.some.inj H
  go_enter Tryd.func32, Tryd.ntmps32
  go_wp2_with (first | ((with_reducible refine gate_dst (N := 1) rfl ?_); refine Kd.R_lit Kd.string _ 9 ?hg (N := 1) ?hd (xs := ([(⟨#[]⟩ : ByteArray), (⟨#[117, 116, 102, 45, 56]⟩ : ByteArray), (⟨#[117, 116, 102, 45, 49, 54, 98, 101]⟩ : ByteArray), (⟨#[117, 116, 102, 45, 49, 54, 108, 101]⟩ : ByteArray), (⟨#[117, 116, 102, 45, 51, 50, 98, 101]⟩ : ByteArray), (⟨#[117, 116, 102, 45, 51, 50, 108, 101]⟩ : ByteArray), (⟨#[117, 116, 102, 45, 101, 98, 99, 100, 105, 99]⟩ : ByteArray), (⟨#[112, 117, 110, 121, 99, 111, 100, 101]⟩ : ByteArray), (⟨#[98, 111, 99, 117, 45, 49]⟩ : ByteArray), (⟨#[115, 99, 115, 117]⟩ : ByteArray), (⟨#[115, 99, 115, 117, 45, 112, 108, 97, 105, 110]⟩ : ByteArray)] : List ByteArray)) (inner := [.string (⟨#[]⟩ : ByteArray), .string (⟨#[117, 116, 102, 45, 56]⟩ : ByteArray), .string (⟨#[117, 116, 102, 45, 49, 54, 98, 101]⟩ : ByteArray), .string (⟨#[117, 116, 102, 45, 49, 54, 108, 101]⟩ : ByteArray), .string (⟨#[117, 116, 102, 45, 51, 50, 98, 101]⟩ : ByteArray), .string (⟨#[117, 116, 102, 45, 51, 50, 108, 101]⟩ : ByteArray), .string (⟨#[117, 116, 102, 45, 101, 98, 99, 100, 105, 99]⟩ : ByteArray), .string (⟨#[112, 117, 110, 121, 99, 111, 100, 101]⟩ : ByteArray), .string (⟨#[98, 111, 99, 117, 45, 49]⟩ : ByteArray), .string (⟨#[115, 99, 115, 117]⟩ : ByteArray), .string (⟨#[115, 99, 115, 117, 45, 112, 108, 97, 105, 110]⟩ : ByteArray)]) (ok := fun _ => True) (okp := fun _ => True) ?hr ?hp (fun _ hk => hk) trivial (Below.refl _ _) (Nat.le_refl _) (by simp) ?_; (case hd => rfl); (case hg => rfl); (case hr => first | (go_simp; done) | (go_simp; rfl)); (case hp => exact (Reps.one (show Kd.M Kd.string _ _ _ (⟨#[]⟩ : ByteArray) [.string (⟨#[]⟩ : ByteArray)] from rfl) (Reps.one (show Kd.M Kd.string _ _ _ (⟨#[117, 116, 102, 45, 56]⟩ : ByteArray) [.string (⟨#[117, 116, 102, 45, 56]⟩ : ByteArray)] from rfl) (Reps.one (show Kd.M Kd.string _ _ _ (⟨#[117, 116, 102, 45, 49, 54, 98, 101]⟩ : ByteArray) [.string (⟨#[117, 116, 102, 45, 49, 54, 98, 101]⟩ : ByteArray)] from rfl) (Reps.one (show Kd.M Kd.string _ _ _ (⟨#[117, 116, 102, 45, 49, 54, 108, 101]⟩ : ByteArray) [.string (⟨#[117, 116, 102, 45, 49, 54, 108, 101]⟩ : ByteArray)] from rfl) (Reps.one (show Kd.M Kd.string _ _ _ (⟨#[117, 116, 102, 45, 51, 50, 98, 101]⟩ : ByteArray) [.string (⟨#[117, 116, 102, 45, 51, 50, 98, 101]⟩ : ByteArray)] from rfl) (Reps.one (show Kd.M Kd.string _ _ _ (⟨#[117, 116, 102, 45, 51, 50, 108, 101]⟩ : ByteArray) [.string (⟨#[117, 116, 102, 45, 51, 50, 108, 101]⟩ : ByteArray)] from rfl) (Reps.one (show Kd.M Kd.string _ _ _ (⟨#[117, 116, 102, 45, 101, 98, 99, 100, 105, 99]⟩ : ByteArray) [.string (⟨#[117, 116, 102, 45, 101, 98, 99, 100, 105, 99]⟩ : ByteArray)] from rfl) (Reps.one (show Kd.M Kd.string _ _ _ (⟨#[112, 117, 110, 121, 99, 111, 100, 101]⟩ : ByteArray) [.string (⟨#[112, 117, 110, 121, 99, 111, 100, 101]⟩ : ByteArray)] from rfl) (Reps.one (show Kd.M Kd.string _ _ _ (⟨#[98, 111, 99, 117, 45, 49]⟩ : ByteArray) [.string (⟨#[98, 111, 99, 117, 45, 49]⟩ : ByteArray)] from rfl) (Reps.one (show Kd.M Kd.string _ _ _ (⟨#[115, 99, 115, 117]⟩ : ByteArray) [.string (⟨#[115, 99, 115, 117]⟩ : ByteArray)] from rfl) (Reps.one (show Kd.M Kd.string _ _ _ (⟨#[115, 99, 115, 117, 45, 112, 108, 97, 105, 110]⟩ : ByteArray) [.string (⟨#[115, 99, 115, 117, 45, 112, 108, 97, 105, 110]⟩ : ByteArray)] from rfl) (Reps.none _ _))))))))))))); intro v117 w1 ho2 hb hg_ hnew_; clear hg_ hnew_; (first | rw [← Ny116.out] at ho2 | (simp only [Int.reduceToNat] at ho2; rw [← Ny116.out] at ho2)); have n0_ := Aside0.mk (Kd.R_lower ho2 (below_size (by repeat (first | (with_reducible first | exact HB.out | apply below_alloc | apply pw_below_drewN | apply below_drew1) | exact HB.out)))); have n1_ := Aside0.mk (below_step (by repeat (first | (with_reducible first | exact HB.out | apply below_alloc | apply pw_below_drewN | apply below_drew1) | exact HB.out)) hb); clear HB; have HO118 := n0_; have HB := n1_; clear n0_ n1_; clear hb ho2))
  go_ret
  exact ⟨_, by first | rfl | (simp [errW_none, errW_some] <;> rfl) | (simp [*, errW_none, errW_some] <;> rfl), by (with_reducible repeat (first | apply Kd.R_alloc | apply Kd.R_drewN | apply Kd.R_drew)); exact HO118.out, by repeat (first | (with_reducible first | exact HB.out | apply below_alloc | apply pw_below_drewN | apply below_drew1) | exact HB.out)⟩

/-! ### pilcrowref24_Options: function 25 -/
def pilcrowref24_Options.f  : Option (List ByteArray) := some (([(⟨#[45, 45, 102, 114, 111, 109]⟩ : ByteArray), (⟨#[45, 45, 116, 111]⟩ : ByteArray), (⟨#[45, 45, 102, 111, 114, 109]⟩ : ByteArray), (⟨#[45, 45, 115, 105, 122, 101]⟩ : ByteArray), (⟨#[45, 45, 102, 114, 97, 109, 101, 100]⟩ : ByteArray), (⟨#[45, 45, 115, 105, 103, 110]⟩ : ByteArray), (⟨#[45, 45, 115, 116, 114, 105, 112]⟩ : ByteArray)] : List ByteArray))
set_option maxHeartbeats 8000000 in
set_option maxRecDepth 100000 in
theorem pilcrowref24_Options.calls  (r : List ByteArray) (w : World) (h : pilcrowref24_Options.f  = some r) :
    Calls Tryd.prog 25 #[] w fun e w' => ∃ v0_ : Value, e = .returned (v0_) ∧ Kd.R Kd.string 9 w' w.heap.size (fun _ => True) v0_ r ∧ Below w.heap.size w w' := by
  have HB := Aside0.mk (Below.refl w.heap.size w)
  have H : (some (([(⟨#[45, 45, 102, 114, 111, 109]⟩ : ByteArray), (⟨#[45, 45, 116, 111]⟩ : ByteArray), (⟨#[45, 45, 102, 111, 114, 109]⟩ : ByteArray), (⟨#[45, 45, 115, 105, 122, 101]⟩ : ByteArray), (⟨#[45, 45, 102, 114, 97, 109, 101, 100]⟩ : ByteArray), (⟨#[45, 45, 115, 105, 103, 110]⟩ : ByteArray), (⟨#[45, 45, 115, 116, 114, 105, 112]⟩ : ByteArray)] : List ByteArray))) = some r := h
  clear h
  obtain ⟨y119, hy119⟩ : ∃ y_ : List ByteArray, y_ = (([(⟨#[45, 45, 102, 114, 111, 109]⟩ : ByteArray), (⟨#[45, 45, 116, 111]⟩ : ByteArray), (⟨#[45, 45, 102, 111, 114, 109]⟩ : ByteArray), (⟨#[45, 45, 115, 105, 122, 101]⟩ : ByteArray), (⟨#[45, 45, 102, 114, 97, 109, 101, 100]⟩ : ByteArray), (⟨#[45, 45, 115, 105, 103, 110]⟩ : ByteArray), (⟨#[45, 45, 115, 116, 114, 105, 112]⟩ : ByteArray)] : List ByteArray)) := ⟨_, rfl⟩
  replace H : (some y119) = some r := by first | (rw [hy119]; with_reducible exact H) | (have H2_ := (Option.bind_some _ _).symm.trans H; rw [hy119]; with_reducible exact H2_) | (have H2_ := (Option.bind_some _ _).symm.trans H; with_reducible exact H2_) | with_reducible exact H | (rw [hy119]; exact H) | exact H
  have Ny119 := Aside0.mk hy119
  clear hy119
  obtain rfl := Option.some.inj H
  go_enter Tryd.func25, Tryd.ntmps25
  go_wp2_with (first | ((with_reducible refine gate_dst (N := 1) rfl ?_); refine Kd.R_lit Kd.string _ 9 ?hg (N := 1) ?hd (xs := ([(⟨#[45, 45, 102, 114, 111, 109]⟩ : ByteArray), (⟨#[45, 45, 116, 111]⟩ : ByteArray), (⟨#[45, 45, 102, 111, 114, 109]⟩ : ByteArray), (⟨#[45, 45, 115, 105, 122, 101]⟩ : ByteArray), (⟨#[45, 45, 102, 114, 97, 109, 101, 100]⟩ : ByteArray), (⟨#[45, 45, 115, 105, 103, 110]⟩ : ByteArray), (⟨#[45, 45, 115, 116, 114, 105, 112]⟩ : ByteArray)] : List ByteArray)) (inner := [.string (⟨#[45, 45, 102, 114, 111, 109]⟩ : ByteArray), .string (⟨#[45, 45, 116, 111]⟩ : ByteArray), .string (⟨#[45, 45, 102, 111, 114, 109]⟩ : ByteArray), .string (⟨#[45, 45, 115, 105, 122, 101]⟩ : ByteArray), .string (⟨#[45, 45, 102, 114, 97, 109, 101, 100]⟩ : ByteArray), .string (⟨#[45, 45, 115, 105, 103, 110]⟩ : ByteArray), .string (⟨#[45, 45, 115, 116, 114, 105, 112]⟩ : ByteArray)]) (ok := fun _ => True) (okp := fun _ => True) ?hr ?hp (fun _ hk => hk) trivial (Below.refl _ _) (Nat.le_refl _) (by simp) ?_; (case hd => rfl); (case hg => rfl); (case hr => first | (go_simp; done) | (go_simp; rfl)); (case hp => exact (Reps.one (show Kd.M Kd.string _ _ _ (⟨#[45, 45, 102, 114, 111, 109]⟩ : ByteArray) [.string (⟨#[45, 45, 102, 114, 111, 109]⟩ : ByteArray)] from rfl) (Reps.one (show Kd.M Kd.string _ _ _ (⟨#[45, 45, 116, 111]⟩ : ByteArray) [.string (⟨#[45, 45, 116, 111]⟩ : ByteArray)] from rfl) (Reps.one (show Kd.M Kd.string _ _ _ (⟨#[45, 45, 102, 111, 114, 109]⟩ : ByteArray) [.string (⟨#[45, 45, 102, 111, 114, 109]⟩ : ByteArray)] from rfl) (Reps.one (show Kd.M Kd.string _ _ _ (⟨#[45, 45, 115, 105, 122, 101]⟩ : ByteArray) [.string (⟨#[45, 45, 115, 105, 122, 101]⟩ : ByteArray)] from rfl) (Reps.one (show Kd.M Kd.string _ _ _ (⟨#[45, 45, 102, 114, 97, 109, 101, 100]⟩ : ByteArray) [.string (⟨#[45, 45, 102, 114, 97, 109, 101, 100]⟩ : ByteArray)] from rfl) (Reps.one (show Kd.M Kd.string _ _ _ (⟨#[45, 45, 115, 105, 103, 110]⟩ : ByteArray) [.string (⟨#[45, 45, 115, 105, 103, 110]⟩ : ByteArray)] from rfl) (Reps.one (show Kd.M Kd.string _ _ _ (⟨#[45, 45, 115, 116, 114, 105, 112]⟩ : ByteArray) [.string (⟨#[45, 45, 115, 116, 114, 105, 112]⟩ : ByteArray)] from rfl) (Reps.none _ _))))))))); intro v120 w1 ho2 hb hg_ hnew_; clear hg_ hnew_; (first | rw [← Ny119.out] at ho2 | (simp only [Int.reduceToNat] at ho2; rw [← Ny119.out] at ho2)); have n0_ := Aside0.mk (Kd.R_lower ho2 (below_size (by repeat (first | (with_reducible first | exact HB.out | apply below_alloc | apply pw_below_drewN | apply below_drew1) | exact HB.out)))); have n1_ := Aside0.mk (below_step (by repeat (first | (with_reducible first | exact HB.out | apply below_alloc | apply pw_below_drewN | apply below_drew1) | exact HB.out)) hb); clear HB; have HO121 := n0_; have HB := n1_; clear n0_ n1_; clear hb ho2))
  go_ret
  exact ⟨_, by first | rfl | (simp [errW_none, errW_some] <;> rfl) | (simp [*, errW_none, errW_some] <;> rfl), by (with_reducible repeat (first | apply Kd.R_alloc | apply Kd.R_drewN | apply Kd.R_drew)); exact HO121.out, by repeat (first | (with_reducible first | exact HB.out | apply below_alloc | apply pw_below_drewN | apply below_drew1) | exact HB.out)⟩

end Go.Proofs.YtlddfdkmpnllmaaDoor.PRww
