/- Joined texts: Yj, Yl. -/
import Derived.Test.YtppchdinolndmaaGreatDoorMYe
import Derived.Test.YtppchdinolndmaaGreatDoorMUfk
namespace Go.Proofs.YtppchdinolndmaaGreatDoor
open Go.RowKit Go.Proofs.YtppchdinolndmaaGreatDoorW.PrintWords Go.Proofs.YtppchdinolndmaaGreatDoorW.PrintLast Go.Proofs.YtppchdinolndmaaGreatDoorW.PrintMore
set_option linter.unusedVariables false
set_option linter.unusedSimpArgs false
theorem fits_rng {l : List Int} (hf : ∀ n ∈ l, (Lit.int .u32 n).wf = true) : ∀ y ∈ l, 0 ≤ y ∧ y ≤ 4294967295 := fun y hy => by
 exact Go.bounds_u32 (hf y hy)
set_option maxRecDepth 100000 in
set_option maxHeartbeats 2000000 in
theorem counts_c (A : Option Addr) (cp : Nat) (l : List Int) (w : World) (ht : Tab w) (hr : ReadsInt w .u32 A l.length l) (hcp : l.length ≤ cp) (hf : ∀ n ∈ l, (Lit.int .u32 n).wf = true) :
  Calls Tryz.prog 3 #[.slice A l.length cp] w fun e w' => e = .returned (.bool true) ∧ Below w.heap.size w w' := by
 have HAW := Lib.hid (fun W (hW : Below w.heap.size w W) => yawake_c W (ht.below hW))
 have h0 := fits_rng hf
 have HOF := Lib.hid (fun (hl : l.length ≤ 1000) W (hW : Below w.heap.size w W) => of_c A cp l hl h0 hcp W (hr.below hW))
 have HRO := Lib.hid (fun (hl : l.length ≤ 100000) W (hW : Below w.heap.size w W) => refOf_c A cp l W (hr.below hW) hcp hl (fun y hy => (h0 y hy).1))
 have heq : ∀ W, (binOp .eql 26 (.agg (cellsT (ofT l))) (.agg (cellsT (ofT l)))).run Tryz.prog W = .ok (.bool true) W := fun W => eql_tally (ofT l) W
 obtain ⟨T1, hT1⟩ : ∃ T, ofT l = T := ⟨_, rfl⟩
 rw [hT1] at HOF HRO heq
 clear hT1 hf h0 hr ht
 go_enter Tryz.func3, Tryz.ntmps3
 go_wp2_with fail
 refine (HAW.out _ (Below.refl _ _)).mono ?_
 rintro e w1 ⟨rfl, hb1⟩
 have HB1 := Lib.hid hb1
 clear hb1
 by_cases g : (l.length : Int) > 500
 ·go_wp2_with fail
  refine (HAW.out _ HB1.out).mono ?_
  rintro e w2 ⟨rfl, hb2⟩
  have HB2 := Lib.hid (below_next HB1.out hb2)
  clear hb2
  go_wp2_with fail
  go_ret
  exact ⟨rfl, HB2.out⟩
 ·have hl : l.length ≤ 500 := by omega
  go_wp2_with (first
   | (go_at_call 9; refine (HOF.out (by omega) _ HB1.out).mono ?_; rintro e w2 ⟨rfl, hb2⟩; have HB2 := Lib.hid (below_next HB1.out hb2); clear hb2)
   | (go_at_call 10; refine (HRO.out (by omega) _ HB2.out).mono ?_; rintro e w3 ⟨rfl, hb3⟩; have HB3 := Lib.hid (below_next HB2.out hb3); clear hb3))
  go_ret
  exact ⟨rfl, HB3.out⟩
theorem units_all : ∀ (l : List Int) (t : Tl), l.foldl gU t.un = (l.foldl stepY t).un
 | [], t => rfl
 | c :: r, t => by
  rw [List.foldl_cons, List.foldl_cons, ← units_all r (stepY t c)]
  congr 1
  unfold gU stepY
  split <;> rfl
set_option maxRecDepth 100000 in
set_option maxHeartbeats 4000000 in
theorem sums_c (A : Option Addr) (cp : Nat) (l : List Int) (w : World) (ht : Tab w) (hr : ReadsInt w .u32 A l.length l) (hcp : l.length ≤ cp) (hf : ∀ n ∈ l, (Lit.int .u32 n).wf = true) :
  Calls Tryz.prog 6 #[.slice A l.length cp] w fun e w' => e = .returned (.bool true) ∧ Below w.heap.size w w' := by
 have HAW := Lib.hid (fun W (hW : Below w.heap.size w W) => yawake_c W (ht.below hW))
 have h0 := fits_rng hf
 have HOF := Lib.hid (fun (hl : l.length ≤ 1000) W (hW : Below w.heap.size w W) => of_c A cp l hl h0 hcp W (hr.below hW))
 have HRU := Lib.hid (fun (hl : l.length ≤ 100000) W (hW : Below w.heap.size w W) => refUnits_c A cp l W (hr.below hW) hcp hl (fun y hy => (h0 y hy).1))
 have HOK := Lib.hid (okT l (fun y hy => (h0 y hy).1))
 have hu : l.foldl gU 0 = (ofT l).un := units_all l zeroT
 rw [hu] at HRU
 obtain ⟨t, hT⟩ : ∃ T, ofT l = T := ⟨_, rfl⟩
 rw [hT] at HOF HRU HOK
 have HOF : Hid (∀ (hl : l.length ≤ 1000) W (hW : Below w.heap.size w W), Calls Tryz.prog 9 #[.slice A l.length cp] W fun e w' => e = .returned (.agg #[.int .i64 t.sc, .int .i64 t.un, .int .i64 t.by8, .int .i64 t.ct, .int .i64 t.ai, .int .i64 t.la, .int .i64 t.pl, .int .i64 t.pr, .int .i64 t.be, .int .u32 t.le, .int .u32 t.mo]) ∧ Below W.heap.size W w') := Lib.hid HOF.out
 clear hT hf h0 hr ht hu
 go_enter Tryz.func6, Tryz.ntmps6
 go_wp2_with fail
 refine (HAW.out _ (Below.refl _ _)).mono ?_
 rintro e w1 ⟨rfl, hb1⟩
 have HB1 := Lib.hid hb1
 clear hb1
 by_cases g : (l.length : Int) > 500
 ·go_wp2_with fail
  refine (HAW.out _ HB1.out).mono ?_
  rintro e w2 ⟨rfl, hb2⟩
  have HB2 := Lib.hid (below_next HB1.out hb2)
  clear hb2
  go_wp2_with fail
  go_ret
  exact ⟨rfl, HB2.out⟩
 ·have hl : l.length ≤ 500 := by omega
  go_upto_region 4 with (go_at_call 9; refine (HOF.out (by omega) _ HB1.out).mono ?_; rintro e w2 ⟨rfl, hb2⟩)
  have hk2 := Blk.new w2 TTY (cellsT t)
  have hd2 : Below w2.heap.size w2 (w2.alloc (.cells (cellsT t) TTY (0, 0))) := below_new (Below.refl _ _) _
  obtain ⟨W2, hW2⟩ : ∃ W, w2.alloc (.cells (cellsT t) TTY (0, 0)) = W := ⟨_, rfl⟩
  have hW2' : w2.alloc (.cells #[.int .i64 t.sc, .int .i64 t.un, .int .i64 t.by8, .int .i64 t.ct, .int .i64 t.ai, .int .i64 t.la, .int .i64 t.pl, .int .i64 t.pr, .int .i64 t.be, .int .u32 t.le, .int .u32 t.mo] TTY (0, 0)) = W2 := hW2
  rw [hW2] at hk2 hd2
  first | rw [hW2] | rw [hW2']
  obtain ⟨b2, hb2e⟩ : ∃ f, w2.heap.size = f := ⟨_, rfl⟩
  rw [hb2e] at hk2 ⊢
  have HB2 := Lib.hid (below_next (below_next HB1.out hb2) hd2)
  clear hW2 hW2' hd2 hb2 hb2e
  obtain ⟨c0, c1, c2, c3, c4, c5, c6, c7, c8, c9, c10, _⟩ := cells_at hk2
  have h := HOK.out
  obtain ⟨a1, a2, a3, a4, a5, a6, a7, a8, a9, a10, a11, a12, a13⟩ := h
  have hm : t.sc ≤ 1000 := by omega
  obtain ⟨p1, p2, p3, p4, p5, p6⟩ := a10
  have q1 : t.ct + t.ai ≤ 1000 := by omega
  have q2 : t.ct + t.ai + t.la ≤ 1000 := by omega
  have q3 : t.ct + t.ai + t.la + t.pl ≤ 1000 := by omega
  have q4 : t.ct + t.ai + t.la + t.pl + t.pr ≤ 1000 := by omega
  have r1 : (t.ct + t.ai + t.la + t.pl + t.pr + t.be == t.sc) = true := by simpa using a9
  have r2 : (t.un == t.sc + t.be) = true := by simpa using a11
  have r3 : decide (t.sc ≤ t.by8) = true := by simpa using a12
  have r4 : decide (t.by8 ≤ 4 * t.sc) = true := by simpa using a13
  have r5 : decide (t.le ≤ t.mo) = true := by simpa using a7
  have r6 : (t.sc == 0) = (t.un == 0) := by
   by_cases hz : t.sc = 0
   ·have : t.un = 0 := by omega
    rw [hz, this]
   ·have : t.un ≠ 0 := by omega
    rw [beq_eq_false_iff_ne.2 hz, beq_eq_false_iff_ne.2 this]
  go_wp2_with (go_at_call 14; refine (HRU.out (by omega) _ HB2.out).mono ?_; rintro e w3 ⟨rfl, hb3⟩; have HB3 := Lib.hid (below_next HB2.out hb3); clear hb3)
  all_goals go_ret
  all_goals exact ⟨rfl, HB3.out⟩
end Go.Proofs.YtppchdinolndmaaGreatDoor
