/- Joined texts: VPPux0, VPPux1, VPPux. -/
import Derived.Test.YtppchdinolndmaaGreatDoorProg
import Derived.Below
import Derived.Deep.Draws
import Derived.Deep.AppendLies
import Derived.Maps.AppendAt
import Derived.OwnWalk
import Derived.Laws.BytesArg
import Derived.Laws.MakeOwn
import Derived.Laws.OwnMore
import Derived.Deep.OwnRows
import Derived.Tactics
import Derived.Lib.ConvBytes
import Derived.Laws.Slices
import Derived.WalkKit
import Derived.KernelRfl
import Derived.RowKit3
import Derived.Deep.LoopGhost
import Derived.Deep.QuietTactic
import Derived.BigQuiet
import Derived.WideLaws
import Derived.Deep.DeepCutAuto
import Derived.Deep.CutBlock
import Derived.Deep.RegionHeld3
import Derived.Laws.Rows
import Derived.Lib.AppendStr
import Derived.ArgAppend
import Derived.Laws.IdiomCopy
import Derived.OrdersHeld
import Derived.Laws.BitsLemmas
import Derived.RowKit
import Derived.Test.YtppchdinolndmaaGreatDoorMVWWords
import Derived.Test.YtppchdinolndmaaGreatDoorMVWLast
import Derived.Laws.StructEq
namespace Go.Proofs.YtppchdinolndmaaGreatDoor.PPu
open Go.RowKit Go.Proofs.YtppchdinolndmaaGreatDoorW.PrintWords Go.Proofs.YtppchdinolndmaaGreatDoorW.PrintLast Go.Proofs.YtppchdinolndmaaGreatDoorW.PrintMore
attribute [local go_sem] max2_int min2_int max_two min_two max_three min_three max_four min_four   -- for this text's walks alone
set_option linter.unusedVariables false
set_option linter.unusedSimpArgs false
theorem info5 : (Tryz.prog.info? 5).map (fun i => (i.zero, i.size, i.bytes)) = some (some (.int .u8 0), 1, 1) := by kernel_rfl
attribute [local go_sem] max2_int min2_int max_two min_two max_three min_three max_four min_four   -- for this text's walks alone
set_option linter.unusedVariables false
set_option linter.unusedSimpArgs false
def bias_small.f (a0 : Int) : Option (Int) := some (mn (mx a0 0) 1000)
set_option maxHeartbeats 8000000 in
set_option maxRecDepth 100000 in
theorem bias_small.calls (a0 : Int) (r : Int) (w : World) (h : bias_small.f a0 = some r) :
  Calls Tryz.prog 170 #[.int .i64 a0] w fun e w' => e = .returned (.int .i64 r) ∧ Below w.heap.size w w' := by
 have HB := Aside0.mk (Below.refl w.heap.size w)
 have H : (some (mn (mx a0 0) 1000)) = some r := h
 clear h
 obtain ⟨ji2, hji2⟩ : ∃ j_ : Int, (mx a0 0) = j_ := ⟨_, rfl⟩
 replace H : (some (mn (ji2) 1000)) = some r := by first | (rw [hji2] at H; exact H) | (simp only [hji2] at H ⊢; exact H)
 (try (have hji2l : 0 ≤ ji2 := by (rw [← hji2]; unfold mx; (repeat' split) <;> omega)))
 (try (have hji2m : 0 ≤ ji2 := by omega))
 have hji2_ : (if a0 < 0 then 0 else a0) = ji2 := hji2
 obtain ⟨ji3, hji3⟩ : ∃ j_ : Int, (mn (ji2) 1000) = j_ := ⟨_, rfl⟩
 replace H : (some ji3) = some r := by first | (rw [hji3] at H; exact H) | (simp only [hji3] at H ⊢; exact H)
 have hji3_ : (if 1000 < (ji2) then 1000 else (ji2)) = ji3 := hji3
 obtain rfl := Option.some.inj H
 go_enter Tryz.func170, Tryz.ntmps170
 go_wp2
 go_ret
 exact ⟨by first | rfl | (simp [errW_none, errW_some] <;> rfl) | (simp only [← hji2, ← hji3]; first | rfl | (simp [errW_none, errW_some] <;> rfl)) | (simp [*, errW_none, errW_some] <;> rfl), by repeat (first | (with_reducible first | exact HB.out | apply below_alloc | apply pw_below_drewN | apply below_drew1) | exact HB.out)⟩
def bias_Threshold.f (a0 : Int) (a1 : Int) : Option (Int) := (bias_small.f a0).bind fun t101 => ((bias_small.f a1).bind fun t102 => (some (mn (mx (wrap64 ((wrap64 (36 * (wrap64 (t101 + 1)))) - t102)) 1) 26)))
set_option maxHeartbeats 8000000 in
set_option maxRecDepth 100000 in
theorem bias_Threshold.calls (a0 : Int) (a1 : Int) (r : Int) (w : World) (h : bias_Threshold.f a0 a1 = some r) :
  Calls Tryz.prog 158 #[.int .i64 a0, .int .i64 a1] w fun e w' => e = .returned (.int .i64 r) ∧ Below w.heap.size w w' := by
 have HB := Aside0.mk (Below.refl w.heap.size w)
 have H : ((bias_small.f a0).bind fun t101 => ((bias_small.f a1).bind fun t102 => (some (mn (mx (wrap64 ((wrap64 (36 * (wrap64 (t101 + 1)))) - t102)) 1) 26)))) = some r := h
 clear h
 replace H := Option.bind_eq_some_iff.mp H
 obtain ⟨t101, A30, H⟩ := H
 replace H : ((bias_small.f a1).bind fun t102 => (some (mn (mx (wrap64 ((wrap64 (36 * (wrap64 (t101 + 1)))) - t102)) 1) 26))) = some r := H
 have A3 := Aside0.mk A30
 clear A30
 replace H := Option.bind_eq_some_iff.mp H
 obtain ⟨t102, A40, H⟩ := H
 replace H : (some (mn (mx (wrap64 ((wrap64 (36 * (wrap64 (t101 + 1)))) - t102)) 1) 26)) = some r := H
 have A4 := Aside0.mk A40
 clear A40
 obtain ⟨ji5, hji5⟩ : ∃ j_ : Int, (mx (wrap64 ((wrap64 (36 * (wrap64 (t101 + 1)))) - t102)) 1) = j_ := ⟨_, rfl⟩
 replace H : (some (mn (ji5) 26)) = some r := by first | (rw [hji5] at H; exact H) | (simp only [hji5] at H ⊢; exact H)
 (try rw [hji5] at A3)
 (try rw [hji5] at A4)
 (try (have hji5l : 1 ≤ ji5 := by (rw [← hji5]; unfold mx; (repeat' split) <;> omega)))
 (try (have hji5m : 0 ≤ ji5 := by omega))
 have hji5_ : (if (wrap64 ((wrap64 (36 * (wrap64 (t101 + 1)))) - t102)) < 1 then 1 else (wrap64 ((wrap64 (36 * (wrap64 (t101 + 1)))) - t102))) = ji5 := hji5
 obtain ⟨ji6, hji6⟩ : ∃ j_ : Int, (mn (ji5) 26) = j_ := ⟨_, rfl⟩
 replace H : (some ji6) = some r := by first | (rw [hji6] at H; exact H) | (simp only [hji6] at H ⊢; exact H)
 (try rw [hji6] at A3)
 (try rw [hji6] at A4)
 have hji6_ : (if 26 < (ji5) then 26 else (ji5)) = ji6 := hji6
 obtain rfl := Option.some.inj H
 go_enter Tryz.func158, Tryz.ntmps158
 go_wp2_with (first | ((with_reducible refine gate_callee (f := 170) rfl ?_); refine goesL_ (some 6) rfl rfl Tryz.func170 (by kernel_rfl) rfl #[.int .i64 a0] rfl (by (try simp only [List.map_toArray, List.map_cons, List.map_nil]); first | done | rfl | (simp only [List.length_drop, List.length_take]; rfl)) ?_; (with_reducible refine (bias_small.calls a0 t101 _ A3.out).mono ?_); rintro e w7 ⟨rfl, hb⟩; refine ⟨_, rfl, ?_⟩; have n0_ := Aside0.mk (below_step (by repeat (first | (with_reducible first | exact HB.out | apply below_alloc | apply pw_below_drewN | apply below_drew1) | exact HB.out)) hb); clear HB; have HB := n0_; clear n0_; (try clear hb); (try clear hb2); (try clear hk); (try clear hi)) | ((with_reducible refine gate_callee (f := 170) rfl ?_); refine goesL_ (some 10) rfl rfl Tryz.func170 (by kernel_rfl) rfl #[.int .i64 a1] rfl (by (try simp only [List.map_toArray, List.map_cons, List.map_nil]); first | done | rfl | (simp only [List.length_drop, List.length_take]; rfl)) ?_; (with_reducible refine (bias_small.calls a1 t102 _ A4.out).mono ?_); rintro e w8 ⟨rfl, hb⟩; refine ⟨_, rfl, ?_⟩; have n0_ := Aside0.mk (below_step (by repeat (first | (with_reducible first | exact HB.out | apply below_alloc | apply pw_below_drewN | apply below_drew1) | exact HB.out)) hb); clear HB; have HB := n0_; clear n0_; (try clear hb); (try clear hb2); (try clear hk); (try clear hi)))
 go_ret
 exact ⟨by first | rfl | (simp [errW_none, errW_some] <;> rfl) | (simp only [← hji5, ← hji6]; first | rfl | (simp [errW_none, errW_some] <;> rfl)) | (simp [*, errW_none, errW_some] <;> rfl), by repeat (first | (with_reducible first | exact HB.out | apply below_alloc | apply pw_below_drewN | apply below_drew1) | exact HB.out)⟩
def bias_Letter.j0 : Nat → Int → Bool → Option (Int × Bool)
 | 0, _, _ => none
 | k + 1, x0, x4 => if x4 = true then (some (0, false)) else (if x0 < 26 then (some ((97 + ((x0) % 256)) % 256, true)) else (some ((48 + ((wrap64 (x0 - 26)) % 256)) % 256, true)))
def bias_Letter.f (k : Nat) (a0 : Int) : Option (Int × Bool) := if a0 < 0 then (bias_Letter.j0 k a0 true) else (bias_Letter.j0 k a0 (decide (a0 ≥ 36)))
set_option maxHeartbeats 8000000 in
set_option maxRecDepth 100000 in
theorem bias_Letter.calls (k : Nat) (a0 : Int) (r1 : Int) (r2 : Bool) (w : World) (h : bias_Letter.f k a0 = some (r1, r2)) :
  Calls Tryz.prog 159 #[.int .i64 a0] w fun e w' => e = .returned (.tuple #[.int .u8 r1, .bool r2]) ∧ Drawn0 w w' := by
 have H : (if a0 < 0 then (bias_Letter.j0 k a0 true) else (bias_Letter.j0 k a0 (decide (a0 ≥ 36)))) = some (r1, r2) := h
 clear h
 have HC2 := Aside0.mk H
 clear H
 go_enter Tryz.func159, Tryz.ntmps159
 go_upto_region 1 with (fail)
 go_cut [4] (fun v4 wc => ∃ (kq : Nat) (x4_1 : Bool), v4 = .bool x4_1 ∧ Aside0 (bias_Letter.j0 kq a0 x4_1 = some (r1, r2)) ∧ Aside0 (kq ≤ k) ∧ Drawn0 w wc)
 case first =>
  have H := HC2.out
  clear HC2
  by_cases c3 : a0 < 0
  ·rw [if_pos c3] at H
   have c3b0 : decide (a0 < 0) = true := decide_eq_true c3
   clear c3
   (first | rw [c3b0] | (simp only [i64_w, i32_w]; rw [c3b0]) | skip)
   have H' := Aside0.mk H
   clear H
   go_wp2
   go_meet
   case rel => exact ⟨_, (true), (by first | rfl | (simp; done) | (simp [*]; done)), H', ⟨by first | omega | exact Nat.le_refl _⟩, by repeat (first | exact Drawn0.refl _ | apply Drawn0.step)⟩
  ·rw [if_neg c3] at H
   have c3b0 : decide (a0 < 0) = false := decide_eq_false c3
   clear c3
   (first | rw [c3b0] | (simp only [i64_w, i32_w]; rw [c3b0]) | skip)
   have H' := Aside0.mk H
   clear H
   go_wp2
   go_meet
   case rel => exact ⟨_, (decide (a0 ≥ 36)), (by first | rfl | (simp; done) | (simp [*]; done)), H', ⟨by first | omega | exact Nat.le_refl _⟩, by repeat (first | exact Drawn0.refl _ | apply Drawn0.step)⟩
 case rest =>
  clear HC2
  try clear c1
  try clear p2
  try clear c3
  try clear c3b0
  obtain ⟨kq, x4_1, rfl, HA, HJ1, ⟨mc1, rfl⟩⟩ := hcut
  cases kq with
  | zero => exact absurd HA.out (by simp [bias_Letter.j0])
  | succ kj1 =>
   have H := HA.out
   clear HA
   simp only [bias_Letter.j0] at H
   by_cases c4 : x4_1 = true
   ·subst c4
    have H1 : (some (0, false)) = some (r1, r2) := by rw [if_pos rfl] at H; exact H
    clear H
    have H := H1
    clear H1
    simp only [Option.some.injEq, Prod.mk.injEq] at H
    obtain ⟨rfl, rfl⟩ := H
    go_wp2
    go_ret2
    exact ⟨by first | rfl | (simp; done) | (simp [*]; done), by repeat (first | exact Drawn0.refl _ | apply Drawn0.step)⟩
   ·replace c4 := Bool.eq_false_iff.mpr c4
    subst c4
    have H1 : (if a0 < 26 then (some ((97 + ((a0) % 256)) % 256, true)) else (some ((48 + ((wrap64 (a0 - 26)) % 256)) % 256, true))) = some (r1, r2) := by rw [if_neg (show ¬ (false = true) by decide)] at H; exact H
    clear H
    have H := H1
    clear H1
    by_cases c5 : a0 < 26
    ·rw [if_pos c5] at H
     have c5b0 : decide (a0 < 26) = true := decide_eq_true c5
     clear c5
     simp only [Option.some.injEq, Prod.mk.injEq] at H
     obtain ⟨rfl, rfl⟩ := H
     go_wp2
     go_ret2
     exact ⟨by first | rfl | (simp; done) | (simp [*]; done), by repeat (first | exact Drawn0.refl _ | apply Drawn0.step)⟩
    ·rw [if_neg c5] at H
     have c5b0 : decide (a0 < 26) = false := decide_eq_false c5
     clear c5
     simp only [Option.some.injEq, Prod.mk.injEq] at H
     obtain ⟨rfl, rfl⟩ := H
     go_wp2
     go_ret2
     exact ⟨by first | rfl | (simp; done) | (simp [*]; done), by repeat (first | exact Drawn0.refl _ | apply Drawn0.step)⟩
def bias_Put.l0 : Nat → Int → Int → List Int → Int → Option (ByteArray)
 | 0, _, _, _, _ => none
 | k + 1, x0, x1, x5, x6 => (bias_Threshold.f x6 x1).bind fun t103 => (if x0 < (IntKind.u64.wrap (t103)) then ((bias_Letter.f k (wrap64 (x0))).bind fun bt104 => (if x5.length < 140737488355328 then (some (strOfNums (x5 ++ [bt104.1]))) else (none))) else (if (IntKind.u64.wrap (36 - (IntKind.u64.wrap (t103)))) = 0 then (none) else ((bias_Letter.f k (wrap64 (IntKind.u64.wrap ((IntKind.u64.wrap (t103)) + (Int.tmod (IntKind.u64.wrap (x0 - (IntKind.u64.wrap (t103)))) (IntKind.u64.wrap (36 - (IntKind.u64.wrap (t103))))))))).bind fun bt109 => (if x5.length < 140737488355328 then (bias_Put.l0 k (IntKind.u64.wrap (Int.tdiv (IntKind.u64.wrap (x0 - (IntKind.u64.wrap (t103)))) (IntKind.u64.wrap (36 - (IntKind.u64.wrap (t103)))))) x1 (x5 ++ [bt109.1]) (wrap64 (x6 + 1))) else (none)))))
def bias_Put.f (k : Nat) (a0 : Int) (a1 : Int) : Option (ByteArray) := bias_Put.l0 k a0 a1 ([] : List Int) 0
set_option maxHeartbeats 8000000 in
set_option maxRecDepth 100000 in
theorem bias_Put.calls (k : Nat) (a0 : Int) (a1 : Int) (r : ByteArray) (w : World) (h : bias_Put.f k a0 a1 = some r) :
  Calls Tryz.prog 154 #[.int .u64 a0, .int .i64 a1] w fun e w' => e = .returned (.string r) ∧ Below w.heap.size w w' := by
 have HB := Aside0.mk (Below.refl w.heap.size w)
 have H : (bias_Put.l0 k a0 a1 ([] : List Int) 0) = some r := h
 clear h
 have H' := Aside0.mk H
 clear H
 go_enter Tryz.func154, Tryz.ntmps154
 go_wp2
 go_loopg [0, 5, 6] k (fun kq v0 v5 v6 w' => ∃ (x0_1 : Int) (x5_1 : List Int) (x6_1 : Int), v0 = .int .u64 x0_1 ∧ v6 = .int .i64 x6_1 ∧ Aside0 (bias_Put.l0 kq x0_1 a1 x5_1 x6_1 = some r) ∧ Aside0 (kq ≤ k) ∧ Aside0 (Kd.R (Kd.int .u8) 5 w' w.heap.size (fun _ => True) v5 x5_1) ∧ Aside0 (Below w.heap.size w w'))
 case atStart => exact ⟨(a0), (([] : List Int)), (0), (by first | rfl | (simp; done) | (simp [*]; done)), (by first | rfl | (simp; done) | (simp [*]; done)), H', ⟨Nat.le_refl _⟩, ⟨by first | exact Kd.R_nil _ _ _ _ _ | exact Kd.N_nil _ _ _ _ _ | exact Kd.V_nil _ _ _ _ _ | exact Kd.Q_nil _ _ _ _ _ | exact Kd.S_nil _ _ _ _ _⟩, ⟨by repeat (first | (with_reducible first | exact HB.out | apply below_alloc | apply pw_below_drewN | apply below_drew1) | exact HB.out)⟩⟩
 case round =>
  clear H'
  try clear c1
  try clear p2
  obtain ⟨x0_1, x5_1, x6_1, rfl, rfl, HA, HK1, HO_5, HB⟩ := hrel
  cases gk with
  | zero => exact absurd HA.out (by simp [bias_Put.l0])
  | succ k1 =>
   have H := HA.out
   clear HA
   simp only [bias_Put.l0] at H
   replace H := Option.bind_eq_some_iff.mp H
   obtain ⟨t103, A30, H⟩ := H
   replace H : (if x0_1 < (IntKind.u64.wrap (t103)) then ((bias_Letter.f k1 (wrap64 (x0_1))).bind fun bt104 => (if x5_1.length < 140737488355328 then (some (strOfNums (x5_1 ++ [bt104.1]))) else (none))) else (if (IntKind.u64.wrap (36 - (IntKind.u64.wrap (t103)))) = 0 then (none) else ((bias_Letter.f k1 (wrap64 (IntKind.u64.wrap ((IntKind.u64.wrap (t103)) + (Int.tmod (IntKind.u64.wrap (x0_1 - (IntKind.u64.wrap (t103)))) (IntKind.u64.wrap (36 - (IntKind.u64.wrap (t103))))))))).bind fun bt109 => (if x5_1.length < 140737488355328 then (bias_Put.l0 k1 (IntKind.u64.wrap (Int.tdiv (IntKind.u64.wrap (x0_1 - (IntKind.u64.wrap (t103)))) (IntKind.u64.wrap (36 - (IntKind.u64.wrap (t103)))))) a1 (x5_1 ++ [bt109.1]) (wrap64 (x6_1 + 1))) else (none))))) = some r := H
   have A3 := Aside0.mk A30
   clear A30
   by_cases c4 : x0_1 < (IntKind.u64.wrap (t103))
   ·rw [if_pos c4] at H
    have c4b0 : decide (x0_1 < (IntKind.u64.wrap (t103))) = true := decide_eq_true c4
    clear c4
    replace H := Option.bind_eq_some_iff.mp H
    obtain ⟨⟨t104, t105⟩, A50, H⟩ := H
    replace H : (if x5_1.length < 140737488355328 then (some (strOfNums (x5_1 ++ [t104]))) else (none)) = some r := H
    have A5 := Aside0.mk A50
    clear A50
    by_cases c6 : x5_1.length < 140737488355328
    ·rw [if_pos c6] at H
     have LMc6 := Aside0.mk c6
     clear c6
     obtain ⟨y106, hy106⟩ : ∃ y_ : List Int, y_ = (x5_1 ++ [t104]) := ⟨_, rfl⟩
     replace H : (some (strOfNums y106)) = some r := by first | (rw [hy106]; with_reducible exact H) | (have H2_ := (Option.bind_some _ _).symm.trans H; rw [hy106]; with_reducible exact H2_) | (have H2_ := (Option.bind_some _ _).symm.trans H; with_reducible exact H2_) | with_reducible exact H | (rw [hy106]; exact H) | exact H
     have Ny106 := Aside0.mk hy106
     clear hy106
     obtain rfl := Option.some.inj H
     go_wp2_with (first | ((with_reducible refine gate_callee (f := 158) rfl ?_); refine goesL_ (some 16) rfl rfl Tryz.func158 (by kernel_rfl) rfl #[.int .i64 x6_1, .int .i64 a1] rfl (by (try simp only [List.map_toArray, List.map_cons, List.map_nil]); first | done | rfl | (simp only [List.length_drop, List.length_take]; rfl)) ?_; (with_reducible refine (bias_Threshold.calls x6_1 a1 t103 _ A3.out).mono ?_); rintro e w7 ⟨rfl, hb⟩; refine ⟨_, rfl, ?_⟩; have n0_ := Aside0.mk (Kd.R_below (by (with_reducible repeat (first | apply Kd.R_alloc | apply Kd.R_drewN | apply Kd.R_drew)); exact HO_5.out) hb); have n1_ := Aside0.mk (below_step (by repeat (first | (with_reducible first | exact HB.out | apply below_alloc | apply pw_below_drewN | apply below_drew1) | exact HB.out)) hb); clear HO_5; clear HB; have HO_5 := n0_; have HB := n1_; clear n0_ n1_; (try clear hb); (try clear hb2); (try clear hk); (try clear hi)) | ((with_reducible refine gate_callee (f := 159) rfl ?_); refine goesL_ (some 24) rfl rfl Tryz.func159 (by kernel_rfl) rfl #[.int .i64 (wrap64 (x0_1))] rfl (by (try simp only [List.map_toArray, List.map_cons, List.map_nil]); first | done | rfl | (simp only [List.length_drop, List.length_take]; rfl)) ?_; (with_reducible refine (bias_Letter.calls k1 (wrap64 (x0_1)) t104 t105 _ A5.out).mono ?_); rintro e w' ⟨rfl, ⟨nd, rfl⟩⟩; refine ⟨_, rfl, ?_⟩) | ((with_reducible refine gate_builtin (b := .append) (xs := #[.tmp 27, .tmp 29]) rfl ?_); at_builtin; refine Kd.R_append (Kd.int .u8) (w0 := w) w.heap.size rfl (.tmp 27) (.tmp 29) 49 5 (.int .u8 0) 1 rfl Tryz.underlying49 info5 rfl (by decide) (by omega) u5 x5_1 t104 [.int .u8 t104] (fun _ => True) (fun _ => False) rfl rfl ?aP (fun _ hk => hk.elim) ?aF ?aO ?aB ?aS ?aL ?_; (case aP => exact rfl); (case aB => exact (by repeat (first | (with_reducible first | exact HB.out | apply below_alloc | apply pw_below_drewN | apply below_drew1) | exact HB.out))); (case aF => exact (fun _ _ => trivial)); (case aO => exact (by (with_reducible repeat (first | apply Kd.R_alloc | apply Kd.R_drewN | apply Kd.R_drew)); exact HO_5.out)); (case aS => exact (below_size (by repeat (first | (with_reducible first | exact HB.out | apply below_alloc | apply pw_below_drewN | apply below_drew1) | exact HB.out)))); (case aL => have := LMc6.out; omega); intro v107 w8 ho hb hg hat; rw [← Ny106.out] at ho; have n0_ := Aside0.mk (hb); have n1_ := Aside0.mk (ho); clear HB; clear HO_5; have HB := n0_; have HO108 := n1_; clear n0_ n1_; clear ho hb hg hat; have hcv9 := own_string (P := Tryz.prog) Tryz.underlying49 Tryz.underlying5 Tryz.underlying9 (Kd.own_of_R HO108.out)))
     go_ret
     exact ⟨by first | rfl | (simp [errW_none, errW_some] <;> rfl) | (simp [*, errW_none, errW_some] <;> rfl), by repeat (first | (with_reducible first | exact HB.out | apply below_alloc | apply pw_below_drewN | apply below_drew1) | exact HB.out)⟩
    ·rw [if_neg c6] at H
     exact absurd H (by simp)
   ·rw [if_neg c4] at H
    have c4b0 : decide (x0_1 < (IntKind.u64.wrap (t103))) = false := decide_eq_false c4
    clear c4
    by_cases c10 : (IntKind.u64.wrap (36 - (IntKind.u64.wrap (t103)))) = 0
    ·rw [if_pos c10] at H
     exact absurd H (by simp)
    ·rw [if_neg c10] at H
     have c10b0 : ((IntKind.u64.wrap (36 - (IntKind.u64.wrap (t103)))) == 0) = false := beq_eq_false_iff_ne.mpr c10
     have c10b1 : ((IntKind.u64.wrap (36 - (IntKind.u64.wrap (t103)))) != 0) = true := bne_iff_ne.mpr c10
     replace H := Option.bind_eq_some_iff.mp H
     obtain ⟨⟨t109, t110⟩, A110, H⟩ := H
     replace H : (if x5_1.length < 140737488355328 then (bias_Put.l0 k1 (IntKind.u64.wrap (Int.tdiv (IntKind.u64.wrap (x0_1 - (IntKind.u64.wrap (t103)))) (IntKind.u64.wrap (36 - (IntKind.u64.wrap (t103)))))) a1 (x5_1 ++ [t109]) (wrap64 (x6_1 + 1))) else (none)) = some r := H
     have A11 := Aside0.mk A110
     clear A110
     by_cases c12 : x5_1.length < 140737488355328
     ·rw [if_pos c12] at H
      have LMc12 := Aside0.mk c12
      clear c12
      obtain ⟨y111, hy111⟩ : ∃ y_ : List Int, y_ = (x5_1 ++ [t109]) := ⟨_, rfl⟩
      replace H : (bias_Put.l0 k1 (IntKind.u64.wrap (Int.tdiv (IntKind.u64.wrap (x0_1 - (IntKind.u64.wrap (t103)))) (IntKind.u64.wrap (36 - (IntKind.u64.wrap (t103)))))) a1 y111 (wrap64 (x6_1 + 1))) = some r := by first | (rw [hy111]; with_reducible exact H) | (have H2_ := (Option.bind_some _ _).symm.trans H; rw [hy111]; with_reducible exact H2_) | (have H2_ := (Option.bind_some _ _).symm.trans H; with_reducible exact H2_) | with_reducible exact H | (rw [hy111]; exact H) | exact H
      have Ny111 := Aside0.mk hy111
      clear hy111
      have H' := Aside0.mk H
      clear H
      go_wp2_with (first | ((with_reducible refine gate_callee (f := 158) rfl ?_); refine goesL_ (some 16) rfl rfl Tryz.func158 (by kernel_rfl) rfl #[.int .i64 x6_1, .int .i64 a1] rfl (by (try simp only [List.map_toArray, List.map_cons, List.map_nil]); first | done | rfl | (simp only [List.length_drop, List.length_take]; rfl)) ?_; (with_reducible refine (bias_Threshold.calls x6_1 a1 t103 _ A3.out).mono ?_); rintro e w13 ⟨rfl, hb⟩; refine ⟨_, rfl, ?_⟩; have n0_ := Aside0.mk (Kd.R_below (by (with_reducible repeat (first | apply Kd.R_alloc | apply Kd.R_drewN | apply Kd.R_drew)); exact HO_5.out) hb); have n1_ := Aside0.mk (below_step (by repeat (first | (with_reducible first | exact HB.out | apply below_alloc | apply pw_below_drewN | apply below_drew1) | exact HB.out)) hb); clear HO_5; clear HB; have HO_5 := n0_; have HB := n1_; clear n0_ n1_; (try clear hb); (try clear hb2); (try clear hk); (try clear hi)) | ((with_reducible refine gate_callee (f := 159) rfl ?_); refine goesL_ (some 42) rfl rfl Tryz.func159 (by kernel_rfl) rfl #[.int .i64 (wrap64 (IntKind.u64.wrap ((IntKind.u64.wrap (t103)) + (Int.tmod (IntKind.u64.wrap (x0_1 - (IntKind.u64.wrap (t103)))) (IntKind.u64.wrap (36 - (IntKind.u64.wrap (t103))))))))] rfl (by (try simp only [List.map_toArray, List.map_cons, List.map_nil]); first | done | rfl | (simp only [List.length_drop, List.length_take]; rfl)) ?_; (with_reducible refine (bias_Letter.calls k1 (wrap64 (IntKind.u64.wrap ((IntKind.u64.wrap (t103)) + (Int.tmod (IntKind.u64.wrap (x0_1 - (IntKind.u64.wrap (t103)))) (IntKind.u64.wrap (36 - (IntKind.u64.wrap (t103)))))))) t109 t110 _ A11.out).mono ?_); rintro e w' ⟨rfl, ⟨nd, rfl⟩⟩; refine ⟨_, rfl, ?_⟩) | ((with_reducible refine gate_builtin (b := .append) (xs := #[.tmp 45, .tmp 47]) rfl ?_); at_builtin; refine Kd.R_append (Kd.int .u8) (w0 := w) w.heap.size rfl (.tmp 45) (.tmp 47) 49 5 (.int .u8 0) 1 rfl Tryz.underlying49 info5 rfl (by decide) (by omega) u5 x5_1 t109 [.int .u8 t109] (fun _ => True) (fun _ => False) rfl rfl ?aP (fun _ hk => hk.elim) ?aF ?aO ?aB ?aS ?aL ?_; (case aP => exact rfl); (case aB => exact (by repeat (first | (with_reducible first | exact HB.out | apply below_alloc | apply pw_below_drewN | apply below_drew1) | exact HB.out))); (case aF => exact (fun _ _ => trivial)); (case aO => exact (by (with_reducible repeat (first | apply Kd.R_alloc | apply Kd.R_drewN | apply Kd.R_drew)); exact HO_5.out)); (case aS => exact (below_size (by repeat (first | (with_reducible first | exact HB.out | apply below_alloc | apply pw_below_drewN | apply below_drew1) | exact HB.out)))); (case aL => have := LMc12.out; omega); intro v112 w14 ho hb hg hat; rw [← Ny111.out] at ho; have n0_ := Aside0.mk (hb); have n1_ := Aside0.mk (ho); clear HB; clear HO_5; have HB := n0_; have HO113 := n1_; clear n0_ n1_; clear ho hb hg hat))
      go_roundg k1
      case measure => have := HK1.out; omega
      case rel => exact ⟨(IntKind.u64.wrap (Int.tdiv (IntKind.u64.wrap (x0_1 - (IntKind.u64.wrap (t103)))) (IntKind.u64.wrap (36 - (IntKind.u64.wrap (t103)))))), (y111), (wrap64 (x6_1 + 1)), (by first | rfl | (simp; done) | (simp [*]; done)), (by first | rfl | (simp; done) | (simp [*]; done)), H', ⟨by have := HK1.out; omega⟩, ⟨by (with_reducible repeat (first | apply Kd.R_alloc | apply Kd.R_drewN | apply Kd.R_drew)); exact HO113.out⟩, ⟨by repeat (first | (with_reducible first | exact HB.out | apply below_alloc | apply pw_below_drewN | apply below_drew1) | exact HB.out)⟩⟩
     ·rw [if_neg c12] at H
      exact absurd H (by simp)
mutual
def bias_Adapt.j0 : Nat → Int → Int → Option (Int)
 | 0, _, _ => none
 | k + 1, x0, x1 => if (mx x1 1) = 0 then (none) else (bias_Adapt.l0 k (IntKind.u64.wrap (x0 + (IntKind.u64.wrap (Int.tdiv x0 (mx x1 1))))) 0)
def bias_Adapt.l0 : Nat → Int → Int → Option (Int)
 | 0, _, _ => none
 | k + 1, x0, x7 => if x0 > 455 then (bias_Adapt.l0 k (IntKind.u64.wrap (Int.tdiv x0 35)) (wrap64 (x7 + 36))) else (if (IntKind.u64.wrap (x0 + 38)) = 0 then (none) else (some (wrap64 (x7 + (wrap64 (IntKind.u64.wrap (Int.tdiv (IntKind.u64.wrap (36 * x0)) (IntKind.u64.wrap (x0 + 38)))))))))
end
def bias_Adapt.f (k : Nat) (a0 : Int) (a1 : Int) (a2 : Bool) : Option (Int) := if a2 = true then (bias_Adapt.j0 k (IntKind.u64.wrap (Int.tdiv a0 700)) a1) else (bias_Adapt.j0 k (IntKind.u64.wrap (Int.tdiv a0 2)) a1)
set_option maxHeartbeats 8000000 in
set_option maxRecDepth 100000 in
theorem bias_Adapt.calls (k : Nat) (a0 : Int) (a1 : Int) (a2 : Bool) (r : Int) (w : World) (h : bias_Adapt.f k a0 a1 a2 = some r) :
  Calls Tryz.prog 155 #[.int .u64 a0, .int .u64 a1, .bool a2] w fun e w' => e = .returned (.int .i64 r) ∧ Below w.heap.size w w' := by
 have HB := Aside0.mk (Below.refl w.heap.size w)
 have H : (if a2 = true then (bias_Adapt.j0 k (IntKind.u64.wrap (Int.tdiv a0 700)) a1) else (bias_Adapt.j0 k (IntKind.u64.wrap (Int.tdiv a0 2)) a1)) = some r := h
 clear h
 have HC4 := Aside0.mk H
 clear H
 go_enter Tryz.func155, Tryz.ntmps155
 go_upto_if 8 with (fail)
 go_cut [0] (fun v0 wc => ∃ (kq : Nat) (x0_3 : Int), v0 = .int .u64 x0_3 ∧ Aside0 (bias_Adapt.j0 kq x0_3 a1 = some r) ∧ Aside0 (kq ≤ k) ∧ Aside0 (Below w.heap.size w wc))
 case first =>
  have H := HC4.out
  clear HC4
  by_cases c5 : a2 = true
  ·subst c5
   have H1 : (bias_Adapt.j0 k (IntKind.u64.wrap (Int.tdiv a0 700)) a1) = some r := by rw [if_pos rfl] at H; exact H
   clear H
   have H := H1
   clear H1
   have H' := Aside0.mk H
   clear H
   go_wp2
   go_meet
   case rel => exact ⟨_, (IntKind.u64.wrap (Int.tdiv a0 700)), (by first | rfl | (simp; done) | (simp [*]; done)), H', ⟨by first | omega | exact Nat.le_refl _⟩, ⟨by repeat (first | (with_reducible first | exact HB.out | apply below_alloc | apply pw_below_drewN | apply below_drew1) | exact HB.out)⟩⟩
  ·replace c5 := Bool.eq_false_iff.mpr c5
   subst c5
   have H1 : (bias_Adapt.j0 k (IntKind.u64.wrap (Int.tdiv a0 2)) a1) = some r := by rw [if_neg (show ¬ (false = true) by decide)] at H; exact H
   clear H
   have H := H1
   clear H1
   have H' := Aside0.mk H
   clear H
   go_wp2
   go_meet
   case rel => exact ⟨_, (IntKind.u64.wrap (Int.tdiv a0 2)), (by first | rfl | (simp; done) | (simp [*]; done)), H', ⟨by first | omega | exact Nat.le_refl _⟩, ⟨by repeat (first | (with_reducible first | exact HB.out | apply below_alloc | apply pw_below_drewN | apply below_drew1) | exact HB.out)⟩⟩
 case rest =>
  clear HC4
  try clear c1
  try clear p2
  try clear c5
  obtain ⟨kq, x0_3, rfl, HA, HJ3, HB⟩ := hcut
  cases kq with
  | zero => exact absurd HA.out (by simp [bias_Adapt.j0])
  | succ kj3 =>
   have H := HA.out
   clear HA
   simp only [bias_Adapt.j0] at H
   obtain ⟨ji6, hji6⟩ : ∃ j_ : Int, (mx a1 1) = j_ := ⟨_, rfl⟩
   replace H : (if (ji6) = 0 then (none) else (bias_Adapt.l0 kj3 (IntKind.u64.wrap (x0_3 + (IntKind.u64.wrap (Int.tdiv x0_3 (ji6))))) 0)) = some r := by first | (rw [hji6] at H; exact H) | (simp only [hji6] at H ⊢; exact H)
   have hji6_ : (if a1 < 1 then 1 else a1) = ji6 := hji6
   by_cases c7 : (ji6) = 0
   ·rw [if_pos c7] at H
    exact absurd H (by simp)
   ·rw [if_neg c7] at H
    have c7b0 : ((ji6) == 0) = false := beq_eq_false_iff_ne.mpr c7
    have c7b1 : ((ji6) != 0) = true := bne_iff_ne.mpr c7
    have H' := Aside0.mk H
    clear H
    go_wp2
    go_loopg [0, 7] kj3 (fun kq v0 v7 w' => ∃ (x0_2 : Int) (x7_2 : Int), v0 = .int .u64 x0_2 ∧ v7 = .int .i64 x7_2 ∧ Aside0 (bias_Adapt.l0 kq x0_2 x7_2 = some r) ∧ Aside0 (kq ≤ kj3) ∧ Aside0 (Below w.heap.size w w'))
    case atStart => exact ⟨(IntKind.u64.wrap (x0_3 + (IntKind.u64.wrap (Int.tdiv x0_3 (ji6))))), (0), (by first | rfl | (simp; done) | (simp only [← hji6] <;> (first | rfl | simp)) | (simp [*]; done)), (by first | rfl | (simp; done) | (simp [*]; done)), H', ⟨Nat.le_refl _⟩, ⟨by repeat (first | (with_reducible first | exact HB.out | apply below_alloc | apply pw_below_drewN | apply below_drew1) | exact HB.out)⟩⟩
    case round =>
     clear H'
     try clear c1
     try clear p2
     try clear c5
     try clear c7
     try clear c7b0
     try clear c7b1
     try clear p2
     obtain ⟨x0_2, x7_2, rfl, rfl, HA, HK2, HB⟩ := hrel
     cases gk with
     | zero => exact absurd HA.out (by simp [bias_Adapt.l0])
     | succ k2 =>
      have H := HA.out
      clear HA
      simp only [bias_Adapt.l0] at H
      by_cases c8 : x0_2 > 455
      ·rw [if_pos c8] at H
       have c8b0 : decide (455 < x0_2) = true := decide_eq_true c8
       clear c8
       have H' := Aside0.mk H
       clear H
       go_wp2
       go_roundg k2
       case measure => have := HJ3.out; have := HK2.out; omega
       case rel => exact ⟨(IntKind.u64.wrap (Int.tdiv x0_2 35)), (wrap64 (x7_2 + 36)), (by first | rfl | (simp; done) | (simp [*]; done)), (by first | rfl | (simp; done) | (simp [*]; done)), H', ⟨by have := HJ3.out; have := HK2.out; omega⟩, ⟨by repeat (first | (with_reducible first | exact HB.out | apply below_alloc | apply pw_below_drewN | apply below_drew1) | exact HB.out)⟩⟩
      ·rw [if_neg c8] at H
       have c8b0 : decide (455 < x0_2) = false := decide_eq_false c8
       clear c8
       by_cases c9 : (IntKind.u64.wrap (x0_2 + 38)) = 0
       ·rw [if_pos c9] at H
        exact absurd H (by simp)
       ·rw [if_neg c9] at H
        have c9b0 : ((IntKind.u64.wrap (x0_2 + 38)) == 0) = false := beq_eq_false_iff_ne.mpr c9
        have c9b1 : ((IntKind.u64.wrap (x0_2 + 38)) != 0) = true := bne_iff_ne.mpr c9
        obtain rfl := Option.some.inj H
        go_wp2
        go_ret
        exact ⟨by first | rfl | (simp [errW_none, errW_some] <;> rfl) | (simp only [← hji6]; first | rfl | (simp [errW_none, errW_some] <;> rfl)) | (simp [*, errW_none, errW_some] <;> rfl), by repeat (first | (with_reducible first | exact HB.out | apply below_alloc | apply pw_below_drewN | apply below_drew1) | exact HB.out)⟩
def scalar_Is.f (a0 : Int) : Option (Bool) := if a0 ≤ 1114111 then (if a0 < 55296 then (some true) else (some (decide (a0 > 57343)))) else (some false)
set_option maxHeartbeats 8000000 in
set_option maxRecDepth 100000 in
theorem scalar_Is.calls (a0 : Int) (r : Bool) (w : World) (h : scalar_Is.f a0 = some r) :
  Calls Tryz.prog 29 #[.int .u32 a0] w fun e w' => e = .returned (.bool r) ∧ Drawn0 w w' := by
 have H : (if a0 ≤ 1114111 then (if a0 < 55296 then (some true) else (some (decide (a0 > 57343)))) else (some false)) = some r := h
 clear h
 by_cases c2 : a0 ≤ 1114111
 ·rw [if_pos c2] at H
  have c2b0 : decide (a0 ≤ 1114111) = true := decide_eq_true c2
  clear c2
  by_cases c3 : a0 < 55296
  ·rw [if_pos c3] at H
   have c3b0 : decide (a0 < 55296) = true := decide_eq_true c3
   clear c3
   obtain rfl := Option.some.inj H
   go_enter Tryz.func29, Tryz.ntmps29
   go_wp2
   go_ret
   exact ⟨by first | rfl | (simp; done) | (simp [*]; done), by repeat (first | exact Drawn0.refl _ | apply Drawn0.step)⟩
  ·rw [if_neg c3] at H
   have c3b0 : decide (a0 < 55296) = false := decide_eq_false c3
   clear c3
   obtain rfl := Option.some.inj H
   go_enter Tryz.func29, Tryz.ntmps29
   go_wp2
   go_ret
   exact ⟨by first | rfl | (simp; done) | (simp [*]; done), by repeat (first | exact Drawn0.refl _ | apply Drawn0.step)⟩
 ·rw [if_neg c2] at H
  have c2b0 : decide (a0 ≤ 1114111) = false := decide_eq_false c2
  clear c2
  obtain rfl := Option.some.inj H
  go_enter Tryz.func29, Tryz.ntmps29
  go_wp2
  go_ret
  exact ⟨by first | rfl | (simp; done) | (simp [*]; done), by repeat (first | exact Drawn0.refl _ | apply Drawn0.step)⟩
attribute [local go_sem] max2_int min2_int max_two min_two max_three min_three max_four min_four   -- for this text's walks alone
set_option linter.unusedVariables false
set_option linter.unusedSimpArgs false
end Go.Proofs.YtppchdinolndmaaGreatDoor.PPu
