/- Joined texts: Lt. -/
import Derived.Test.YtmgnndnofbemeaaGreatMCo
import Derived.Test.YtmgnndnofbemeaaGreatMTa
import Derived.Test.YtmgnndnofbemeaaGreatMUfk
/- pilcrowlaw25.TransChains, walked. -/
namespace Go.Proofs.YtmgnndnofbemeaaGreat
open Go.RowKit Go.Proofs.YtmgnndnofbemeaaGreatW.PrintWords
set_option linter.unusedVariables false
set_option linter.unusedSimpArgs false
theorem chains (a b c : Int) (ha : 1 ≤ a ∧ a ≤ 10) (hb : 1 ≤ b ∧ b ≤ 10) (hc : 1 ≤ c ∧ c ≤ 10) (s : List Int) (hs : isBytes s) (hn : s.length ≤ 400) :
  (trR b c (trR a b s).1).2 = (0, 0) ∧ (trR b c (trR a b s).1).1 = (trR a c s).1 ∧ (decR b (trR a b s).1).1.length ≤ s.length ∧ (trR a b s).1.length ≤ 9 * s.length + 9 ∧ isBytes (trR a b s).1 := by
 have hsc := decR_scal a s hs
 have hl := decR_len a s
 have htb := there_back b hb.1 hb.2 (decR a s).1 hsc (by omega)
 have hln := encR_len b (decR a s).1 (fun x hx => (hsc x hx).1) (by omega)
 have e1 : trR a b s = ((encR b (decR a s).1).1, (decR a s).2) := if_pos ⟨ha, hb⟩
 have e2 : trR a c s = ((encR c (decR a s).1).1, (decR a s).2) := if_pos ⟨ha, hc⟩
 have e3 : trR b c (encR b (decR a s).1).1 = ((encR c (decR a s).1).1, (0, 0)) := by
  have : trR b c (encR b (decR a s).1).1 = ((encR c (decR b (encR b (decR a s).1).1).1).1, (decR b (encR b (decR a s).1).1).2) := if_pos ⟨hb, hc⟩
  rw [this, htb.2]
 rw [e1, e2]
 dsimp only
 rw [e3, htb.2]
 exact ⟨rfl, rfl, hl, by omega, hln.2⟩
theorem index_i64 {P : Program} {t e : TypeId} {n : Nat} (hu : P.underlying t = some (.array n e)) (he : P.underlying e = some (.int .i64)) (hsz : (P.info? e).map (·.size) = some 1) (cs : Array Value) (kk : IntKind) (k : Nat) (b : Value) (hk : k < n) (hc : cs[k]? = some b) (w : World) :
  (Instr.index t (.agg cs) (.int kk k)).run P w = .ok b w := by
 have h0 : (0 : Int) ≤ (k : Int) := by omega
 cases hq : P.info? e with
 | none => rw [hq] at hsz; cases hsz
 | some i =>
  have hs : i.size = 1 := by rw [hq] at hsz; simpa using hsz
  simp [Instr.index, run_underlying hu, run_underlying he, asIntOf, sizeOf, typeInfo, hq, hs, h0, part, isAgg, hc, go_sem]
  intro h
  omega
theorem hsInt : (Tryz.prog.info? 3).map (·.size) = some 1 := by kernel_rfl
set_option maxRecDepth 100000 in
set_option maxHeartbeats 8000000 in
theorem chains_c (a b c : Int) (s : ByteArray) (w : World) :
  Calls Tryz.prog 9 #[.agg #[.int .i64 a, .int .i64 b, .int .i64 c], .string s] w fun e w' => e = .returned (.bool true) ∧ Below w.heap.size w w' := by
 have HAW := Lib.hid (fun W => tawake_c W)
 go_enter Tryz.func9, Tryz.ntmps9
 obtain ⟨W0, hW0⟩ : ∃ W0, w.alloc (.cells #[.int .i64 a, .int .i64 b, .int .i64 c] 62 (0, 0)) = W0 := ⟨_, rfl⟩
 have hblk : Blk W0 w.heap.size 62 #[.int .i64 a, .int .i64 b, .int .i64 c] := by rw [← hW0]; exact Blk.new w _ _
 have hbw : Below w.heap.size w W0 := by rw [← hW0]; exact below_new (Below.refl _ _) _
 have HBLK := Lib.hid hblk
 have HBW := Lib.hid hbw
 go_upto_region 1 with fail
 clear hW0 hblk hbw
 go_wp2_with fail
 refine (HAW.out _).mono ?_
 rintro e w1 ⟨rfl, hb1⟩
 have HB1 := Lib.hid (below_next HBW.out hb1)
 have K1 := Lib.hid (HBLK.out.below hb1)
 clear hb1 HBW HBLK
 by_cases g1 : (s.size : Int) > 200
 ·go_wp2_with fail
  refine (HAW.out _).mono ?_
  rintro e w3 ⟨rfl, hb3⟩
  have HB3 := Lib.hid (below_next HB1.out hb3)
  clear hb3
  go_wp2_with fail
  go_ret
  exact ⟨rfl, HB3.out⟩
 have k1 := K1.out
 have c10 := k1.cell (i := 0) rfl
 have c11 := k1.cell (i := 1) rfl
 have c12 := k1.cell (i := 2) rfl
 clear k1
 obtain ⟨gp, hgp⟩ : ∃ g, w.heap.size = g := ⟨_, rfl⟩
 rw [hgp] at c10 c11 c12 K1 ⊢
 go_upto_region 4 with fail
 have hx0 : ∀ W, (Instr.index 62 (.agg #[.int .i64 a, .int .i64 b, .int .i64 c]) (.int .i64 0)).run Tryz.prog W = .ok (.int .i64 a) W := fun W => index_i64 Tryz.underlying62 Tryz.underlying3 hsInt _ .i64 0 _ (by decide) rfl W
 have hx1 : ∀ W, (Instr.index 62 (.agg #[.int .i64 a, .int .i64 b, .int .i64 c]) (.int .i64 1)).run Tryz.prog W = .ok (.int .i64 b) W := fun W => index_i64 Tryz.underlying62 Tryz.underlying3 hsInt _ .i64 1 _ (by decide) rfl W
 have hx2 : ∀ W, (Instr.index 62 (.agg #[.int .i64 a, .int .i64 b, .int .i64 c]) (.int .i64 2)).run Tryz.prog W = .ok (.int .i64 c) W := fun W => index_i64 Tryz.underlying62 Tryz.underlying3 hsInt _ .i64 2 _ (by decide) rfl W
 refine wp_loop_rounds 4 ?_
 rw [rounds_succ]
 by_cases a1 : a < 1
 ·go_wp2_with fail
  all_goals go_ret
  all_goals exact ⟨rfl, by first | exact HB1.out | (rw [← hgp]; exact HB1.out)⟩
 by_cases a2 : a > 10
 ·go_wp2_with fail
  all_goals go_ret
  all_goals exact ⟨rfl, by first | exact HB1.out | (rw [← hgp]; exact HB1.out)⟩
 go_wp2_with fail
 rw [rounds_succ]
 by_cases b1 : b < 1
 ·go_wp2_with fail
  all_goals go_ret
  all_goals exact ⟨rfl, by first | exact HB1.out | (rw [← hgp]; exact HB1.out)⟩
 by_cases b2 : b > 10
 ·go_wp2_with fail
  all_goals go_ret
  all_goals exact ⟨rfl, by first | exact HB1.out | (rw [← hgp]; exact HB1.out)⟩
 go_wp2_with fail
 rw [rounds_succ]
 by_cases k1 : c < 1
 ·go_wp2_with fail
  all_goals go_ret
  all_goals exact ⟨rfl, by first | exact HB1.out | (rw [← hgp]; exact HB1.out)⟩
 by_cases k2 : c > 10
 ·go_wp2_with fail
  all_goals go_ret
  all_goals exact ⟨rfl, by first | exact HB1.out | (rw [← hgp]; exact HB1.out)⟩
 have hch := chains a b c (by omega) (by omega) (by omega) (bytesOf s) (bytesOf_rng s) (by rw [bytesOf_length]; omega)
 have hl1 := decR_len a (bytesOf s)
 rw [bytesOf_length] at hch hl1
 have HT1 := Lib.hid (fun W => trans_text a b s (by omega) (by omega) W)
 have HT3 := Lib.hid (fun W => trans_text a c s (by omega) (by omega) W)
 have HT2 := Lib.hid (fun W => trans_text b c (strOf (trR a b (bytesOf s)).1) (by rw [strOf_size]; omega) (by rw [bytesOf_strOf hch.2.2.2.2]; omega) W)
 rw [bytesOf_strOf hch.2.2.2.2, hch.1, hch.2.1] at HT2
 obtain ⟨T1, hT1⟩ : ∃ T, strOf (trR a b (bytesOf s)).1 = T := ⟨_, rfl⟩
 obtain ⟨T3, hT3⟩ : ∃ T, strOf (trR a c (bytesOf s)).1 = T := ⟨_, rfl⟩
 obtain ⟨e1, he1⟩ : ∃ T, (trR a b (bytesOf s)).2.1 = T := ⟨_, rfl⟩
 obtain ⟨p1, hp1⟩ : ∃ T, (trR a b (bytesOf s)).2.2 = T := ⟨_, rfl⟩
 obtain ⟨e3, he3⟩ : ∃ T, (trR a c (bytesOf s)).2.1 = T := ⟨_, rfl⟩
 obtain ⟨p3, hp3⟩ : ∃ T, (trR a c (bytesOf s)).2.2 = T := ⟨_, rfl⟩
 rw [hT1, he1, hp1] at HT1
 rw [hT1, hT3] at HT2
 rw [hT3, he3, hp3] at HT3
 clear hch hl1 hT1 hT3 he1 hp1 he3 hp3
 go_wp2_with fail
 rw [rounds_succ]
 go_upto_region 10 with (go_at_call 24; refine (HT1.out _).mono ?_; rintro e w2 ⟨rfl, hb2⟩)
 have HB2 : Hid (Below w.heap.size w (w2.alloc (.cells #[.int .i64 e1, .int .i64 p1] 27 (0, 0)))) := Lib.hid (below_new (below_next HB1.out hb2) _)
 have K2 : Hid (Blk (w2.alloc (.cells #[.int .i64 e1, .int .i64 p1] 27 (0, 0))) gp 62 #[.int .i64 a, .int .i64 b, .int .i64 c]) := Lib.hid ((K1.out.below hb2).alloc _)
 obtain ⟨W2, hW2⟩ : ∃ W, w2.alloc (.cells #[.int .i64 e1, .int .i64 p1] 27 (0, 0)) = W := ⟨_, rfl⟩
 rw [hW2] at HB2 K2 ⊢
 obtain ⟨f2, hf2⟩ : ∃ g, w2.heap.size = g := ⟨_, rfl⟩
 rw [hf2]
 have d20 := K2.out.cell (i := 0) rfl
 have d21 := K2.out.cell (i := 1) rfl
 have d22 := K2.out.cell (i := 2) rfl
 clear hb2 hW2 hf2 HB1 K1 HT1 c10 c11 c12
 go_upto_region 11 with (go_at_call 24; refine (HT2.out _).mono ?_; rintro e w3 ⟨rfl, hb3⟩)
 have HB3 : Hid (Below w.heap.size w (w3.alloc (.cells #[.int .i64 0, .int .i64 0] 27 (0, 0)))) := Lib.hid (below_new (below_next HB2.out hb3) _)
 have K3 : Hid (Blk (w3.alloc (.cells #[.int .i64 0, .int .i64 0] 27 (0, 0))) gp 62 #[.int .i64 a, .int .i64 b, .int .i64 c]) := Lib.hid ((K2.out.below hb3).alloc _)
 have F3 := Lib.hid (Blk.new w3 27 #[.int .i64 0, .int .i64 0])
 obtain ⟨W3, hW3⟩ : ∃ W, w3.alloc (.cells #[.int .i64 0, .int .i64 0] 27 (0, 0)) = W := ⟨_, rfl⟩
 rw [hW3] at HB3 K3 F3 ⊢
 obtain ⟨f3, hf3⟩ : ∃ g, w3.heap.size = g := ⟨_, rfl⟩
 rw [hf3] at F3 ⊢
 have d30 := K3.out.cell (i := 0) rfl
 have d31 := K3.out.cell (i := 1) rfl
 have d32 := K3.out.cell (i := 2) rfl
 clear hb3 hW3 hf3 HB2 K2 HT2 d20 d21 d22
 go_upto_region 12 with (go_at_call 24; refine (HT3.out _).mono ?_; rintro e w4 ⟨rfl, hb4⟩)
 have HB4 : Hid (Below w.heap.size w (w4.alloc (.cells #[.int .i64 e3, .int .i64 p3] 27 (0, 0)))) := Lib.hid (below_new (below_next HB3.out hb4) _)
 have F4 := (F3.out.below hb4).alloc (.cells #[.int .i64 e3, .int .i64 p3] 27 (0, 0))
 obtain ⟨W4, hW4⟩ : ∃ W, w4.alloc (.cells #[.int .i64 e3, .int .i64 p3] 27 (0, 0)) = W := ⟨_, rfl⟩
 rw [hW4] at HB4 F4 ⊢
 have a0 := F4.cell (i := 0) rfl
 have a1' := F4.cell (i := 1) rfl
 have q0 := fun W => eql_fail 0 0 W
 clear hb4 hW4 F4 HB3 K3 HT3 F3 d30 d31 d32
 go_wp2_with fail
 go_ret
 exact ⟨rfl, by first | exact HB4.out | (rw [← hgp]; exact HB4.out)⟩
end Go.Proofs.YtmgnndnofbemeaaGreat
