/- Joined texts: Ym. -/
import Derived.Test.YtppchdinolndmaaGreatDoorMYj
import Derived.Test.YtppchdinolndmaaGreatDoorMCo
/- pilcrowlaw23.TallyAdds. -/
namespace Go.Proofs.YtppchdinolndmaaGreatDoor
open Go.RowKit Go.Proofs.YtppchdinolndmaaGreatDoorW.PrintWords Go.Proofs.YtppchdinolndmaaGreatDoorW.PrintLast Go.Proofs.YtppchdinolndmaaGreatDoorW.PrintMore
set_option linter.unusedVariables false
set_option linter.unusedSimpArgs false
set_option maxRecDepth 100000 in
set_option maxHeartbeats 8000000 in
theorem adds_c (A0 A1 : Option Addr) (c0 c1 : Nat) (l0 l1 : List Int) (w : World) (ht : Tab w) (hr0 : ReadsInt w .u32 A0 l0.length l0) (hr1 : ReadsInt w .u32 A1 l1.length l1) (hc0 : l0.length ≤ c0) (hc1 : l1.length ≤ c1) (hf0 : ∀ n ∈ l0, (Lit.int .u32 n).wf = true) (hf1 : ∀ n ∈ l1, (Lit.int .u32 n).wf = true) :
  Calls Tryz.prog 4 #[.slice A0 l0.length c0, .slice A1 l1.length c1] w fun e w' => e = .returned (.bool true) ∧ Below w.heap.size w w' := by
 have HAW := Lib.hid (fun W (hW : Below w.heap.size w W) => yawake_c W (ht.below hW))
 have b0 := fits_rng hf0
 have b1 := fits_rng hf1
 have ba : ∀ y ∈ l0 ++ l1, 0 ≤ y ∧ y ≤ 4294967295 := fun y hy => (List.mem_append.1 hy).elim (b0 y) (b1 y)
 have hk0 := okT l0 (fun y hy => (b0 y hy).1)
 have hk1 := okT l1 (fun y hy => (b1 y hy).1)
 have e01 := addT_of l0 (fun y hy => (b0 y hy).1) l1 (fun y hy => (b1 y hy).1)
 have HOA0 := Lib.hid (fun (hl : l0.length ≤ 1000) W (hW : Below w.heap.size w W) => of_c A0 c0 l0 hl b0 hc0 W (hr0.below hW))
 have HOB0 := Lib.hid (fun (hl : l1.length ≤ 1000) W (hW : Below w.heap.size w W) => of_c A1 c1 l1 hl b1 hc1 W (hr1.below hW))
 have HALL0 := Lib.hid (fun (hl : (l0 ++ l1).length ≤ 1000) (A : Option Addr) (cp : Nat) (hcp : (l0 ++ l1).length ≤ cp) W hW => of_c A cp (l0 ++ l1) hl ba hcp W hW)
 have HR0 := Lib.hid hr0
 have HR1 := Lib.hid hr1
 obtain ⟨x, hx⟩ : ∃ T, ofT l0 = T := ⟨_, rfl⟩
 obtain ⟨y, hy⟩ : ∃ T, ofT l1 = T := ⟨_, rfl⟩
 obtain ⟨z, hz⟩ : ∃ T, ofT (l0 ++ l1) = T := ⟨_, rfl⟩
 rw [hx, hy, hz] at e01
 rw [hx] at HOA0 hk0
 rw [hy] at HOB0 hk1
 rw [hz] at HALL0
 have e10 : addT y x = z := by rw [addT_comm]; exact e01
 have HADD : Hid (l0.length ≤ 300 → l1.length ≤ 300 → ∀ W, Calls Tryz.prog 11 #[.agg #[.int .i64 x.sc, .int .i64 x.un, .int .i64 x.by8, .int .i64 x.ct, .int .i64 x.ai, .int .i64 x.la, .int .i64 x.pl, .int .i64 x.pr, .int .i64 x.be, .int .u32 x.le, .int .u32 x.mo], .agg #[.int .i64 y.sc, .int .i64 y.un, .int .i64 y.by8, .int .i64 y.ct, .int .i64 y.ai, .int .i64 y.la, .int .i64 y.pl, .int .i64 y.pr, .int .i64 y.be, .int .u32 y.le, .int .u32 y.mo]] W fun e w' => e = .returned (.agg #[.int .i64 z.sc, .int .i64 z.un, .int .i64 z.by8, .int .i64 z.ct, .int .i64 z.ai, .int .i64 z.la, .int .i64 z.pl, .int .i64 z.pr, .int .i64 z.be, .int .u32 z.le, .int .u32 z.mo]) ∧ Below W.heap.size W w') := Lib.hid fun h0 h1 W => by
  have h := add_c (hk0.small (by omega)) (hk1.small (by omega)) W
  rw [e01] at h
  exact h
 have HDDA : Hid (l0.length ≤ 300 → l1.length ≤ 300 → ∀ W, Calls Tryz.prog 11 #[.agg #[.int .i64 y.sc, .int .i64 y.un, .int .i64 y.by8, .int .i64 y.ct, .int .i64 y.ai, .int .i64 y.la, .int .i64 y.pl, .int .i64 y.pr, .int .i64 y.be, .int .u32 y.le, .int .u32 y.mo], .agg #[.int .i64 x.sc, .int .i64 x.un, .int .i64 x.by8, .int .i64 x.ct, .int .i64 x.ai, .int .i64 x.la, .int .i64 x.pl, .int .i64 x.pr, .int .i64 x.be, .int .u32 x.le, .int .u32 x.mo]] W fun e w' => e = .returned (.agg #[.int .i64 z.sc, .int .i64 z.un, .int .i64 z.by8, .int .i64 z.ct, .int .i64 z.ai, .int .i64 z.la, .int .i64 z.pl, .int .i64 z.pr, .int .i64 z.be, .int .u32 z.le, .int .u32 z.mo]) ∧ Below W.heap.size W w') := Lib.hid fun h0 h1 W => by
  have h := add_c (hk1.small (by omega)) (hk0.small (by omega)) W
  rw [e10] at h
  exact h
 have HOA : Hid (∀ (hl : l0.length ≤ 1000) W (hW : Below w.heap.size w W), Calls Tryz.prog 9 #[.slice A0 l0.length c0] W fun e w' => e = .returned (.agg #[.int .i64 x.sc, .int .i64 x.un, .int .i64 x.by8, .int .i64 x.ct, .int .i64 x.ai, .int .i64 x.la, .int .i64 x.pl, .int .i64 x.pr, .int .i64 x.be, .int .u32 x.le, .int .u32 x.mo]) ∧ Below W.heap.size W w') := Lib.hid HOA0.out
 have HOB : Hid (∀ (hl : l1.length ≤ 1000) W (hW : Below w.heap.size w W), Calls Tryz.prog 9 #[.slice A1 l1.length c1] W fun e w' => e = .returned (.agg #[.int .i64 y.sc, .int .i64 y.un, .int .i64 y.by8, .int .i64 y.ct, .int .i64 y.ai, .int .i64 y.la, .int .i64 y.pl, .int .i64 y.pr, .int .i64 y.be, .int .u32 y.le, .int .u32 y.mo]) ∧ Below W.heap.size W w') := Lib.hid HOB0.out
 have heq : ∀ W, (binOp .eql 26 (.agg #[.int .i64 z.sc, .int .i64 z.un, .int .i64 z.by8, .int .i64 z.ct, .int .i64 z.ai, .int .i64 z.la, .int .i64 z.pl, .int .i64 z.pr, .int .i64 z.be, .int .u32 z.le, .int .u32 z.mo]) (.agg #[.int .i64 z.sc, .int .i64 z.un, .int .i64 z.by8, .int .i64 z.ct, .int .i64 z.ai, .int .i64 z.la, .int .i64 z.pl, .int .i64 z.pr, .int .i64 z.be, .int .u32 z.le, .int .u32 z.mo])).run Tryz.prog W = .ok (.bool true) W := fun W => eql_tally z W
 clear HOA0 HOB0 hk0 hk1 e01 e10 hx hy hz b0 b1 ba hr0 hr1 hf0 hf1 ht
 go_enter Tryz.func4, Tryz.ntmps4
 go_wp2_with fail
 refine (HAW.out _ (Below.refl _ _)).mono ?_
 rintro e w1 ⟨rfl, hb1⟩
 have HB1 := Lib.hid hb1
 clear hb1
 by_cases g : (l0.length : Int) > 300
 ·go_wp2_with fail
  refine (HAW.out _ HB1.out).mono ?_
  rintro e w2 ⟨rfl, hb2⟩
  have HB2 := Lib.hid (below_next HB1.out hb2)
  clear hb2
  go_wp2_with fail
  go_ret
  exact ⟨rfl, HB2.out⟩
 by_cases g2 : (l1.length : Int) > 300
 ·go_wp2_with fail
  refine (HAW.out _ HB1.out).mono ?_
  rintro e w2 ⟨rfl, hb2⟩
  have HB2 := Lib.hid (below_next HB1.out hb2)
  clear hb2
  go_wp2_with fail
  go_ret
  exact ⟨rfl, HB2.out⟩
 have hl0 : l0.length ≤ 300 := by omega
 have hl1 : l1.length ≤ 300 := by omega
 go_wp2_with fail
 refine (HOA.out (by omega) _ HB1.out).mono ?_
 rintro e w2 ⟨rfl, hb2⟩
 have HB2 := Lib.hid (below_next HB1.out hb2)
 clear hb2
 go_upto_region 4 with (go_at_call 9; refine (HOB.out (by omega) _ HB2.out).mono ?_; rintro e w3 ⟨rfl, hb3⟩; have HB3 := Lib.hid (below_next HB2.out hb3); clear hb3)
 obtain ⟨W4, hW4⟩ : ∃ W, (w3.alloc (.cells #[.int .i64 x.sc, .int .i64 x.un, .int .i64 x.by8, .int .i64 x.ct, .int .i64 x.ai, .int .i64 x.la, .int .i64 x.pl, .int .i64 x.pr, .int .i64 x.be, .int .u32 x.le, .int .u32 x.mo] 26 (0, 0))).alloc (.cells #[.int .i64 y.sc, .int .i64 y.un, .int .i64 y.by8, .int .i64 y.ct, .int .i64 y.ai, .int .i64 y.la, .int .i64 y.pl, .int .i64 y.pr, .int .i64 y.be, .int .u32 y.le, .int .u32 y.mo] 26 (0, 0)) = W := ⟨_, rfl⟩
 have ez : (w3.alloc (.cells #[.int .i64 x.sc, .int .i64 x.un, .int .i64 x.by8, .int .i64 x.ct, .int .i64 x.ai, .int .i64 x.la, .int .i64 x.pl, .int .i64 x.pr, .int .i64 x.be, .int .u32 x.le, .int .u32 x.mo] 26 (0, 0))).heap.size = w3.heap.size + 1 := World.size_alloc _ _
 have kx : Blk W4 w3.heap.size TTY #[.int .i64 x.sc, .int .i64 x.un, .int .i64 x.by8, .int .i64 x.ct, .int .i64 x.ai, .int .i64 x.la, .int .i64 x.pl, .int .i64 x.pr, .int .i64 x.be, .int .u32 x.le, .int .u32 x.mo] := by rw [← hW4]; exact (Blk.new w3 _ _).alloc _
 have ky : Blk W4 (w3.heap.size + 1) TTY #[.int .i64 y.sc, .int .i64 y.un, .int .i64 y.by8, .int .i64 y.ct, .int .i64 y.ai, .int .i64 y.la, .int .i64 y.pl, .int .i64 y.pr, .int .i64 y.be, .int .u32 y.le, .int .u32 y.mo] := by rw [← hW4]; have := Blk.new (w3.alloc (.cells #[.int .i64 x.sc, .int .i64 x.un, .int .i64 x.by8, .int .i64 x.ct, .int .i64 x.ai, .int .i64 x.la, .int .i64 x.pl, .int .i64 x.pr, .int .i64 x.be, .int .u32 x.le, .int .u32 x.mo] 26 (0, 0))) TTY #[.int .i64 y.sc, .int .i64 y.un, .int .i64 y.by8, .int .i64 y.ct, .int .i64 y.ai, .int .i64 y.la, .int .i64 y.pl, .int .i64 y.pr, .int .i64 y.be, .int .u32 y.le, .int .u32 y.mo]; rwa [ez] at this
 have hb4 : Below w3.heap.size w3 W4 := by rw [← hW4]; exact below_then (below_new (Below.refl _ _) _) (below_new (Below.refl _ _) _) (by rw [ez]; omega)
 rw [hW4]
 have HB4 := Lib.hid (below_next HB3.out hb4)
 obtain ⟨bx, hbx⟩ : ∃ b, w3.heap.size = b := ⟨_, rfl⟩
 rw [hbx] at kx ky ⊢
 obtain ⟨by1, hby⟩ : ∃ b, bx + 1 = b := ⟨_, rfl⟩
 rw [hby] at ky ⊢
 have HKX := Lib.hid kx
 have HKY := Lib.hid ky
 clear hW4 ez kx ky hb4 hbx hby
 have hr0' := HR0.out.below HB4.out
 have HR0' := Lib.hid hr0'
 have HR1' := Lib.hid (HR1.out.below HB4.out)
 clear hr0'
 have hbt : (([] : List Int).length + l0.length) * 4 ≤ 140737488355328 := by simp only [List.length_nil]; omega
 have hbu : (([] ++ l0 : List Int).length + l1.length) * 4 ≤ 140737488355328 := by rw [List.nil_append]; omega
 have hlz : (l0 ++ l1).length ≤ 1000 := by rw [List.length_append]; omega
 have HALLQ : Hid (∀ (v : Value) (base : Nat) (W : World), QRow W base 24 1 v ([] ++ l0 ++ l1).length (nums .u32 ([] ++ l0 ++ l1)) → Calls Tryz.prog 9 #[v] W fun e w' => e = .returned (.agg #[.int .i64 z.sc, .int .i64 z.un, .int .i64 z.by8, .int .i64 z.ct, .int .i64 z.ai, .int .i64 z.la, .int .i64 z.pl, .int .i64 z.pr, .int .i64 z.be, .int .u32 z.le, .int .u32 z.mo]) ∧ Below W.heap.size W w') := Lib.hid fun v base W hq => by
  rw [List.nil_append] at hq
  obtain ⟨A, cp, rfl, h1, _, h3⟩ := q_slice2 hq
  exact HALL0.out hlz A cp h1 W h3
 have hq0 := q_empty W4 W4.heap.size (Nat.le_refl _)
 have hr0 : ReadsInt (W4.alloc (.cells #[] 24 (0, 0))) .u32 A0 l0.length l0 := HR0'.out.below (below_new (Below.refl _ _) _)
 have hz0 : W4.heap.size ≤ (W4.alloc (.cells #[] 24 (0, 0))).heap.size := by rw [World.size_alloc]; omega
 clear hlz
 go_upto_region 5 with (first
  | (go_at_call 9; refine (HALLQ.out _ _ _ hq6).mono ?_; rintro e w7 ⟨rfl, hb7⟩)
  | (at_builtin; refine q_append_row W4.heap.size rfl _ _ 22 24 .u32 4 rfl rfl info_u32 (by decide) v1 ([] ++ l0) l1 A1 l1.length c1 rfl rfl hq5 hr1 hB5.size hbu ?_; intro v2 w6 hq6 hg6 hv6; have hB6 : Below W4.heap.size W4 w6 := Eff.under hB5 (Eff.of_grown hg6) hB5.size (fun k hk => q_ge hq5 k hk.symm))
  | (at_builtin; refine q_append_row W4.heap.size rfl _ _ 22 24 .u32 4 rfl rfl info_u32 (by decide) _ [] l0 A0 l0.length c0 rfl rfl hq0 hr0 hz0 hbt ?_; intro v1 w5 hq5 hg5 hv5; have hB5 : Below W4.heap.size W4 w5 := Eff.under (below_new (Below.refl _ _) _) (Eff.of_grown hg5) hz0 (fun k hk => by injection hk with hk; rw [hk]; exact Nat.le_refl _); have hr1 := HR1'.out.below hB5))
 have hz7 := Blk.new w7 TTY #[.int .i64 z.sc, .int .i64 z.un, .int .i64 z.by8, .int .i64 z.ct, .int .i64 z.ai, .int .i64 z.la, .int .i64 z.pl, .int .i64 z.pr, .int .i64 z.be, .int .u32 z.le, .int .u32 z.mo]
 obtain ⟨W8, hW8⟩ : ∃ W, w7.alloc (.cells #[.int .i64 z.sc, .int .i64 z.un, .int .i64 z.by8, .int .i64 z.ct, .int .i64 z.ai, .int .i64 z.la, .int .i64 z.pl, .int .i64 z.pr, .int .i64 z.be, .int .u32 z.le, .int .u32 z.mo] 26 (0, 0)) = W := ⟨_, rfl⟩
 have hB8 : Below W4.heap.size W4 W8 := by rw [← hW8]; exact below_new (below_next hB6 hb7) _
 rw [hW8] at hz7 ⊢
 obtain ⟨bz, hbz⟩ : ∃ b, w7.heap.size = b := ⟨_, rfl⟩
 rw [hbz] at hz7 ⊢
 have kx := HKX.out.below hB8
 have ky := HKY.out.below hB8
 have HB8 := Lib.hid (below_next HB4.out hB8)
 have HKB : Hid (∀ W, Below W8.heap.size W8 W → W.cell? ⟨bx, 0, none⟩ = some (.int .i64 x.sc) ∧ W.cell? ⟨bx, 1, none⟩ = some (.int .i64 x.un) ∧ W.cell? ⟨bx, 2, none⟩ = some (.int .i64 x.by8) ∧ W.cell? ⟨bx, 3, none⟩ = some (.int .i64 x.ct) ∧ W.cell? ⟨bx, 4, none⟩ = some (.int .i64 x.ai) ∧ W.cell? ⟨bx, 5, none⟩ = some (.int .i64 x.la) ∧ W.cell? ⟨bx, 6, none⟩ = some (.int .i64 x.pl) ∧ W.cell? ⟨bx, 7, none⟩ = some (.int .i64 x.pr) ∧ W.cell? ⟨bx, 8, none⟩ = some (.int .i64 x.be) ∧ W.cell? ⟨bx, 9, none⟩ = some (.int .u32 x.le) ∧ W.cell? ⟨bx, 10, none⟩ = some (.int .u32 x.mo) ∧ W.cell? ⟨by1, 0, none⟩ = some (.int .i64 y.sc) ∧ W.cell? ⟨by1, 1, none⟩ = some (.int .i64 y.un) ∧ W.cell? ⟨by1, 2, none⟩ = some (.int .i64 y.by8) ∧ W.cell? ⟨by1, 3, none⟩ = some (.int .i64 y.ct) ∧ W.cell? ⟨by1, 4, none⟩ = some (.int .i64 y.ai) ∧ W.cell? ⟨by1, 5, none⟩ = some (.int .i64 y.la) ∧ W.cell? ⟨by1, 6, none⟩ = some (.int .i64 y.pl) ∧ W.cell? ⟨by1, 7, none⟩ = some (.int .i64 y.pr) ∧ W.cell? ⟨by1, 8, none⟩ = some (.int .i64 y.be) ∧ W.cell? ⟨by1, 9, none⟩ = some (.int .u32 y.le) ∧ W.cell? ⟨by1, 10, none⟩ = some (.int .u32 y.mo) ∧ W.cell? ⟨bz, 0, none⟩ = some (.int .i64 z.sc) ∧ W.cell? ⟨bz, 1, none⟩ = some (.int .i64 z.un) ∧ W.cell? ⟨bz, 2, none⟩ = some (.int .i64 z.by8) ∧ W.cell? ⟨bz, 3, none⟩ = some (.int .i64 z.ct) ∧ W.cell? ⟨bz, 4, none⟩ = some (.int .i64 z.ai) ∧ W.cell? ⟨bz, 5, none⟩ = some (.int .i64 z.la) ∧ W.cell? ⟨bz, 6, none⟩ = some (.int .i64 z.pl) ∧ W.cell? ⟨bz, 7, none⟩ = some (.int .i64 z.pr) ∧ W.cell? ⟨bz, 8, none⟩ = some (.int .i64 z.be) ∧ W.cell? ⟨bz, 9, none⟩ = some (.int .u32 z.le) ∧ W.cell? ⟨bz, 10, none⟩ = some (.int .u32 z.mo)) := Lib.hid fun W hW => ⟨(kx.below hW).cell rfl, (kx.below hW).cell rfl, (kx.below hW).cell rfl, (kx.below hW).cell rfl, (kx.below hW).cell rfl, (kx.below hW).cell rfl, (kx.below hW).cell rfl, (kx.below hW).cell rfl, (kx.below hW).cell rfl, (kx.below hW).cell rfl, (kx.below hW).cell rfl, (ky.below hW).cell rfl, (ky.below hW).cell rfl, (ky.below hW).cell rfl, (ky.below hW).cell rfl, (ky.below hW).cell rfl, (ky.below hW).cell rfl, (ky.below hW).cell rfl, (ky.below hW).cell rfl, (ky.below hW).cell rfl, (ky.below hW).cell rfl, (ky.below hW).cell rfl, (hz7.below hW).cell rfl, (hz7.below hW).cell rfl, (hz7.below hW).cell rfl, (hz7.below hW).cell rfl, (hz7.below hW).cell rfl, (hz7.below hW).cell rfl, (hz7.below hW).cell rfl, (hz7.below hW).cell rfl, (hz7.below hW).cell rfl, (hz7.below hW).cell rfl, (hz7.below hW).cell rfl⟩
 clear hbt hbu hq0 hr0 hz0 hz7 hW8 hB8 hbz kx ky hq5 hg5 hv5 hB5 hr1 hq6 hg6 hv6 hB6 hb7 HKX HKY HALLQ HALL0
 go_region_held3 (fun w' => w'.cell? ⟨bx, 0, none⟩ = some (.int .i64 x.sc) ∧ w'.cell? ⟨bx, 1, none⟩ = some (.int .i64 x.un) ∧ w'.cell? ⟨bx, 2, none⟩ = some (.int .i64 x.by8) ∧ w'.cell? ⟨bx, 3, none⟩ = some (.int .i64 x.ct) ∧ w'.cell? ⟨bx, 4, none⟩ = some (.int .i64 x.ai) ∧ w'.cell? ⟨bx, 5, none⟩ = some (.int .i64 x.la) ∧ w'.cell? ⟨bx, 6, none⟩ = some (.int .i64 x.pl) ∧ w'.cell? ⟨bx, 7, none⟩ = some (.int .i64 x.pr) ∧ w'.cell? ⟨bx, 8, none⟩ = some (.int .i64 x.be) ∧ w'.cell? ⟨bx, 9, none⟩ = some (.int .u32 x.le) ∧ w'.cell? ⟨bx, 10, none⟩ = some (.int .u32 x.mo) ∧ w'.cell? ⟨by1, 0, none⟩ = some (.int .i64 y.sc) ∧ w'.cell? ⟨by1, 1, none⟩ = some (.int .i64 y.un) ∧ w'.cell? ⟨by1, 2, none⟩ = some (.int .i64 y.by8) ∧ w'.cell? ⟨by1, 3, none⟩ = some (.int .i64 y.ct) ∧ w'.cell? ⟨by1, 4, none⟩ = some (.int .i64 y.ai) ∧ w'.cell? ⟨by1, 5, none⟩ = some (.int .i64 y.la) ∧ w'.cell? ⟨by1, 6, none⟩ = some (.int .i64 y.pl) ∧ w'.cell? ⟨by1, 7, none⟩ = some (.int .i64 y.pr) ∧ w'.cell? ⟨by1, 8, none⟩ = some (.int .i64 y.be) ∧ w'.cell? ⟨by1, 9, none⟩ = some (.int .u32 y.le) ∧ w'.cell? ⟨by1, 10, none⟩ = some (.int .u32 y.mo) ∧ w'.cell? ⟨bz, 0, none⟩ = some (.int .i64 z.sc) ∧ w'.cell? ⟨bz, 1, none⟩ = some (.int .i64 z.un) ∧ w'.cell? ⟨bz, 2, none⟩ = some (.int .i64 z.by8) ∧ w'.cell? ⟨bz, 3, none⟩ = some (.int .i64 z.ct) ∧ w'.cell? ⟨bz, 4, none⟩ = some (.int .i64 z.ai) ∧ w'.cell? ⟨bz, 5, none⟩ = some (.int .i64 z.la) ∧ w'.cell? ⟨bz, 6, none⟩ = some (.int .i64 z.pl) ∧ w'.cell? ⟨bz, 7, none⟩ = some (.int .i64 z.pr) ∧ w'.cell? ⟨bz, 8, none⟩ = some (.int .i64 z.be) ∧ w'.cell? ⟨bz, 9, none⟩ = some (.int .u32 z.le) ∧ w'.cell? ⟨bz, 10, none⟩ = some (.int .u32 z.mo)) (first | with_reducible assumption | (refine HKB.out _ ?_; repeat (first | with_reducible exact Below.refl _ _ | with_reducible assumption | with_reducible apply below_alloc | with_reducible apply pw_below_drewN | with_reducible apply below_drew1)))
  (first
   | (have hq9 := hB9; go_at_call 11; refine (HDDA.out hl0 hl1 _).mono ?_; rintro e w10 ⟨rfl, hb10⟩; have hB10 : Below W8.heap.size W8 w10 := below_next (by repeat (first | with_reducible exact Below.refl _ _ | with_reducible assumption | with_reducible apply below_alloc | with_reducible apply pw_below_drewN | with_reducible apply below_drew1)) hb10; have hS10 := HKB.out _ hB10; clear hb10)
   | (go_at_call 11; refine (HADD.out hl0 hl1 _).mono ?_; rintro e w9 ⟨rfl, hb9⟩; have hB9 : Below W8.heap.size W8 w9 := below_next (by repeat (first | with_reducible exact Below.refl _ _ | with_reducible assumption | with_reducible apply below_alloc | with_reducible apply pw_below_drewN | with_reducible apply below_drew1)) hb9; have hS9 := HKB.out _ hB9; clear hb9)
   | fail)
 all_goals go_wp2_with fail
 all_goals go_ret
 all_goals exact ⟨rfl, below_next HB8.out (by repeat (first | with_reducible exact Below.refl _ _ | with_reducible assumption | with_reducible apply below_alloc | with_reducible apply pw_below_drewN | with_reducible apply below_drew1))⟩
end Go.Proofs.YtppchdinolndmaaGreatDoor
