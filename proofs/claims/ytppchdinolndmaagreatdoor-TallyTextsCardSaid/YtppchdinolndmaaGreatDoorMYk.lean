/- Joined texts: Yk. -/
import Derived.Test.YtppchdinolndmaaGreatDoorMYe
import Derived.Test.YtppchdinolndmaaGreatDoorMUfk
/- pilcrowlaw23.TallyTexts. -/
namespace Go.Proofs.YtppchdinolndmaaGreatDoor
open Go.RowKit Go.Proofs.YtppchdinolndmaaGreatDoorW.PrintWords Go.Proofs.YtppchdinolndmaaGreatDoorW.PrintLast Go.Proofs.YtppchdinolndmaaGreatDoorW.PrintMore
set_option linter.unusedVariables false
set_option linter.unusedSimpArgs false
theorem fit_of (n0 n1 n2 n3 n4 n5 n6 n7 n8 n9 n10 : Int) (w0 : (Lit.int .i64 n0).wf = true) (w1 : (Lit.int .i64 n1).wf = true) (w2 : (Lit.int .i64 n2).wf = true) (w3 : (Lit.int .i64 n3).wf = true) (w4 : (Lit.int .i64 n4).wf = true) (w5 : (Lit.int .i64 n5).wf = true) (w6 : (Lit.int .i64 n6).wf = true) (w7 : (Lit.int .i64 n7).wf = true) (w8 : (Lit.int .i64 n8).wf = true) (w9 : (Lit.int .u32 n9).wf = true) (w10 : (Lit.int .u32 n10).wf = true) : FitT ⟨n0, n1, n2, n3, n4, n5, n6, n7, n8, n9, n10⟩ := by
 have b9 := Go.bounds_u32 w9
 have b10 := Go.bounds_u32 w10
 refine ⟨fun k => ?_, b9, b10⟩
 match k with
 | 0 => exact Go.bounds_i64 w0
 | 1 => exact Go.bounds_i64 w1
 | 2 => exact Go.bounds_i64 w2
 | 3 => exact Go.bounds_i64 w3
 | 4 => exact Go.bounds_i64 w4
 | 5 => exact Go.bounds_i64 w5
 | 6 => exact Go.bounds_i64 w6
 | 7 => exact Go.bounds_i64 w7
 | 8 => exact Go.bounds_i64 w8
 | 9 => exact ⟨by show (-9223372036854775808 : Int) ≤ n9; omega, by show n9 ≤ 9223372036854775807; omega⟩
 | 10 => exact ⟨by show (-9223372036854775808 : Int) ≤ n10; omega, by show n10 ≤ 9223372036854775807; omega⟩
 | n + 11 => exact ⟨by show (-9223372036854775808 : Int) ≤ 0; decide, by show (0 : Int) ≤ 9223372036854775807; decide⟩
set_option maxRecDepth 100000 in
set_option maxHeartbeats 4000000 in
theorem texts_gen (t : Tl) (hfit : FitT t) (w : World) (ht : Tab w) :
  Calls Tryz.prog 5 #[.agg (cellsT t)] w fun e w' => e = .returned (.bool true) ∧ Below w.heap.size w w' := by
 have HT := Lib.hid (fun W (hW : Below w.heap.size w W) => ht.below hW)
 have HAW := Lib.hid (fun W (hW : Below w.heap.size w W) => yawake_c W (ht.below hW))
 have HTX : Hid (∀ W, Below w.heap.size w W → Calls Tryz.prog 12 #[.agg (cellsT t)] W fun e w' => e = .returned (.string (textT t)) ∧ Below W.heap.size W w') := Lib.hid fun W hW => ttext_c hfit W (HT.out W hW)
 have HRX : Hid (∀ W, Calls Tryz.prog 13 #[.agg (cellsT t)] W fun e w' => e = .returned (.string (textT t)) ∧ Below W.heap.size W w') := Lib.hid fun W => refText_c hfit W
 have hk0 : Blk (w.alloc (.cells (cellsT t) TTY (0, 0))) w.heap.size TTY (cellsT t) := Blk.new w _ _
 have hb0 : Below w.heap.size w (w.alloc (.cells (cellsT t) TTY (0, 0))) := below_new (Below.refl _ _) _
 obtain ⟨TX, hTX⟩ : ∃ s, textT t = s := ⟨_, rfl⟩
 rw [hTX] at HTX HRX
 clear hTX hfit ht
 go_enter Tryz.func5, Tryz.ntmps5
 go_upto_region 1 with fail
 obtain ⟨W0, hW0⟩ : ∃ W, w.alloc (.cells (cellsT t) TTY (0, 0)) = W := ⟨_, rfl⟩
 rw [hW0] at hk0 hb0
 have hW0' : w.alloc (.cells #[.int .i64 t.sc, .int .i64 t.un, .int .i64 t.by8, .int .i64 t.ct, .int .i64 t.ai, .int .i64 t.la, .int .i64 t.pl, .int .i64 t.pr, .int .i64 t.be, .int .u32 t.le, .int .u32 t.mo] TTY (0, 0)) = W0 := hW0
 first | rw [hW0] | rw [hW0']
 obtain ⟨b1, hb1e⟩ : ∃ f, w.heap.size = f := ⟨_, rfl⟩
 have HKB : Hid (∀ W, Below W0.heap.size W0 W → W.cell? ⟨b1, 0, none⟩ = some (.int .i64 t.sc) ∧ W.cell? ⟨b1, 1, none⟩ = some (.int .i64 t.un) ∧ W.cell? ⟨b1, 2, none⟩ = some (.int .i64 t.by8) ∧ W.cell? ⟨b1, 3, none⟩ = some (.int .i64 t.ct) ∧ W.cell? ⟨b1, 4, none⟩ = some (.int .i64 t.ai) ∧ W.cell? ⟨b1, 5, none⟩ = some (.int .i64 t.la) ∧ W.cell? ⟨b1, 6, none⟩ = some (.int .i64 t.pl) ∧ W.cell? ⟨b1, 7, none⟩ = some (.int .i64 t.pr) ∧ W.cell? ⟨b1, 8, none⟩ = some (.int .i64 t.be) ∧ W.cell? ⟨b1, 9, none⟩ = some (.int .u32 t.le) ∧ W.cell? ⟨b1, 10, none⟩ = some (.int .u32 t.mo)) := Lib.hid fun W hW => by
  rw [← hb1e]
  exact ⟨(hk0.below hW).cell rfl, (hk0.below hW).cell rfl, (hk0.below hW).cell rfl, (hk0.below hW).cell rfl, (hk0.below hW).cell rfl, (hk0.below hW).cell rfl, (hk0.below hW).cell rfl, (hk0.below hW).cell rfl, (hk0.below hW).cell rfl, (hk0.below hW).cell rfl, (hk0.below hW).cell rfl⟩
 have HB0 := Lib.hid hb0
 have HBE := Lib.hid hb1e
 have HUP : Hid (∀ W, Below W0.heap.size W0 W → Below w.heap.size w W) := Lib.hid fun W hW => below_next hb0 hW
 rw [hb1e]
 clear hW0 hW0' hk0 hb0 hb1e
 go_region_held3 (fun w' => w'.cell? ⟨b1, 0, none⟩ = some (.int .i64 t.sc) ∧ w'.cell? ⟨b1, 1, none⟩ = some (.int .i64 t.un) ∧ w'.cell? ⟨b1, 2, none⟩ = some (.int .i64 t.by8) ∧ w'.cell? ⟨b1, 3, none⟩ = some (.int .i64 t.ct) ∧ w'.cell? ⟨b1, 4, none⟩ = some (.int .i64 t.ai) ∧ w'.cell? ⟨b1, 5, none⟩ = some (.int .i64 t.la) ∧ w'.cell? ⟨b1, 6, none⟩ = some (.int .i64 t.pl) ∧ w'.cell? ⟨b1, 7, none⟩ = some (.int .i64 t.pr) ∧ w'.cell? ⟨b1, 8, none⟩ = some (.int .i64 t.be) ∧ w'.cell? ⟨b1, 9, none⟩ = some (.int .u32 t.le) ∧ w'.cell? ⟨b1, 10, none⟩ = some (.int .u32 t.mo)) (first | with_reducible assumption | (refine HKB.out _ ?_; repeat (first | with_reducible exact Below.refl _ _ | with_reducible assumption | with_reducible apply below_alloc | with_reducible apply pw_below_drewN | with_reducible apply below_drew1)))
  (first
   | (go_at_call 8; refine (HAW.out _ (HUP.out _ (by repeat (first | with_reducible exact Below.refl _ _ | with_reducible assumption | with_reducible apply below_alloc | with_reducible apply pw_below_drewN | with_reducible apply below_drew1)))).mono ?_; rintro e w3 ⟨rfl, hb3⟩; have hB3 : Below W0.heap.size W0 w3 := below_next (by repeat (first | with_reducible exact Below.refl _ _ | with_reducible assumption | with_reducible apply below_alloc | with_reducible apply pw_below_drewN | with_reducible apply below_drew1)) hb3; have hS3 := HKB.out _ hB3; clear hb3)
   | (go_at_call 12; refine (HTX.out _ (HUP.out _ (by repeat (first | with_reducible exact Below.refl _ _ | with_reducible assumption | with_reducible apply below_alloc | with_reducible apply pw_below_drewN | with_reducible apply below_drew1)))).mono ?_; rintro e w4 ⟨rfl, hb4⟩; have hB4 : Below W0.heap.size W0 w4 := below_next (by repeat (first | with_reducible exact Below.refl _ _ | with_reducible assumption | with_reducible apply below_alloc | with_reducible apply pw_below_drewN | with_reducible apply below_drew1)) hb4; have hS4 := HKB.out _ hB4; clear hb4)
   | (go_at_call 13; refine (HRX.out _).mono ?_; rintro e w5 ⟨rfl, hb5⟩; have hB5 : Below W0.heap.size W0 w5 := below_next (by repeat (first | with_reducible exact Below.refl _ _ | with_reducible assumption | with_reducible apply below_alloc | with_reducible apply pw_below_drewN | with_reducible apply below_drew1)) hb5; have hS5 := HKB.out _ hB5; clear hb5)
   | fail)
 all_goals go_wp2_with fail
 all_goals go_ret
 all_goals exact ⟨rfl, HUP.out _ (by repeat (first | with_reducible exact Below.refl _ _ | with_reducible assumption | with_reducible apply below_alloc | with_reducible apply pw_below_drewN | with_reducible apply below_drew1))⟩
theorem texts_c (n0 n1 n2 n3 n4 n5 n6 n7 n8 n9 n10 : Int) (w : World) (ht : Tab w) (w0 : (Lit.int .i64 n0).wf = true) (w1 : (Lit.int .i64 n1).wf = true) (w2 : (Lit.int .i64 n2).wf = true) (w3 : (Lit.int .i64 n3).wf = true) (w4 : (Lit.int .i64 n4).wf = true) (w5 : (Lit.int .i64 n5).wf = true) (w6 : (Lit.int .i64 n6).wf = true) (w7 : (Lit.int .i64 n7).wf = true) (w8 : (Lit.int .i64 n8).wf = true) (w9 : (Lit.int .u32 n9).wf = true) (w10 : (Lit.int .u32 n10).wf = true) :
  Calls Tryz.prog 5 #[.agg #[.int .i64 n0, .int .i64 n1, .int .i64 n2, .int .i64 n3, .int .i64 n4, .int .i64 n5, .int .i64 n6, .int .i64 n7, .int .i64 n8, .int .u32 n9, .int .u32 n10]] w fun e w' => e = .returned (.bool true) ∧ Below w.heap.size w w' :=
 texts_gen ⟨n0, n1, n2, n3, n4, n5, n6, n7, n8, n9, n10⟩ (fit_of n0 n1 n2 n3 n4 n5 n6 n7 n8 n9 n10 w0 w1 w2 w3 w4 w5 w6 w7 w8 w9 w10) w ht
end Go.Proofs.YtppchdinolndmaaGreatDoor
