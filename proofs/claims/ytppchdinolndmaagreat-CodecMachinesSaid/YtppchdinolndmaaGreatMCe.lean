/- Joined texts: Ce, Az. -/
import Derived.Test.YtppchdinolndmaaGreatME16
import Derived.Test.YtppchdinolndmaaGreatMSb
import Derived.Test.YtppchdinolndmaaGreatMUstp
import Derived.Test.YtppchdinolndmaaGreatMUins
import Derived.Test.YtppchdinolndmaaGreatMSame
import Derived.Test.YtppchdinolndmaaGreatMBase
namespace Go.Proofs.YtppchdinolndmaaGreat
open Go.RowKit Go.Proofs.YtppchdinolndmaaGreatW.PrintWords
set_option linter.unusedVariables false
set_option linter.unusedSimpArgs false
theorem aw_enc : runE (E16 false) (E16 false).ini [65] 0 [] = ([65, 0], 0, 0) := by decide
theorem aw_bocu : runD DB DB.ini (bytesOf ⟨#[80]⟩) 0 [] = ([], 3, 0) := by kernel_rfl
theorem aw_puny : runD DP DP.ini (bytesOf ⟨#[97, 98, 45]⟩) 0 [] = ([97, 98], 0, 0) := by kernel_rfl
theorem aw_str : strOf [65, 0] = ⟨#[65, 0]⟩ := by kernel_rfl
set_option maxRecDepth 100000 in
theorem aw_encode (w : World) : Calls Tryz.prog 8 #[.int .i64 3, .slice (some ⟨w.heap.size, 0, none⟩) 1 1] (w.alloc (.cells #[.int .u32 65] 47 (0, 0))) fun e w' => e = .returned (.tuple #[.string ⟨#[65, 0]⟩, .agg #[.int .i64 0, .int .i64 0]]) ∧ Below w.heap.size w w' := by
 have h := encode_c (k16 false) newE3 4 (fun _ c => bytes16_len false c) (fun _ => Nat.zero_le _) [65] (by simp) (by decide) (by decide) (by rw [aw_enc]; decide) (some ⟨w.heap.size, 0, none⟩) 1 (by decide) (fun h => by cases h) _ (reads_u32 w 65)
 rw [aw_enc] at h
 simp only [aw_str] at h
 refine h.mono ?_
 rintro e w' ⟨rfl, hb⟩
 exact ⟨rfl, below_then (below_new (Below.refl _ _) _) hb (by simp)⟩
theorem aw_decB (w : World) : Calls Tryz.prog 9 #[.int .i64 8, .string ⟨#[80]⟩] w fun e w' => ∃ v, e = .returned (.tuple #[v, .agg #[.int .i64 3, .int .i64 0]]) ∧ Below w.heap.size w w' := by
 have h := decode_c kB newD8 DB_one ⟨#[80]⟩ (by decide) (by rw [aw_bocu]; decide) w
 rw [aw_bocu] at h
 refine h.mono ?_
 rintro e w' ⟨v, rfl, _, hb⟩
 exact ⟨v, rfl, hb⟩
theorem aw_decP (w : World) : Calls Tryz.prog 9 #[.int .i64 7, .string ⟨#[97, 98, 45]⟩] w fun e w' => ∃ A c, e = .returned (.tuple #[.slice A 2 c, .agg #[.int .i64 0, .int .i64 0]]) ∧ 2 ≤ c ∧ ReadsInt w' .u32 A 2 [97, 98] ∧ Below w.heap.size w w' := by
 have h := decode_c kP newD7 DP_one ⟨#[97, 98, 45]⟩ (by decide) (by rw [aw_puny]; decide) w
 rw [aw_puny] at h
 refine h.mono ?_
 rintro e w' ⟨v, rfl, hq, hb⟩
 obtain ⟨A, c, rfl, hc⟩ := q_slice hq
 exact ⟨A, c, rfl, hc, q_reads hq, hb⟩
set_option maxRecDepth 100000 in
theorem aw_enc0 (w : World) : Calls Tryz.prog 8 #[.int .i64 0, .slice none 0 0] w fun e w' => e = .returned (.tuple #[.string ⟨#[]⟩, .agg #[.int .i64 11, .int .i64 0]]) ∧ Below w.heap.size w w' := by
 have hn : ∀ W, Calls Tryz.prog 6 #[.int .i64 0] W fun e w' => e = .returned (.tuple #[.nilIface, .int .i64 11]) ∧ w' = W := by
  intro W
  go_enter Tryz.func6, Tryz.ntmps6
  go_wp2_with fail
  exact bodyPost_ret (v := .tuple #[.nilIface, .int .i64 11]) (by simp [results, Tryz.results6, go_sem]) rfl ⟨rfl, rfl⟩
 go_enter Tryz.func8, Tryz.ntmps8
 go_wp2_with (go_at_call 6; refine (hn _).mono ?_; rintro e w' ⟨rfl, rfl⟩)
 refine bodyPost_ret (v := .tuple #[.string ⟨#[]⟩, .agg #[.int .i64 11, .int .i64 0]]) (by simp [results, Tryz.results8, go_sem]; try rfl) rfl ?_
 exact ⟨rfl, below_new (Below.refl _ _) _⟩
theorem reads_ab (w : World) : ReadsInt (w.alloc (.cells #[.int .u32 97, .int .u32 98] 47 (0, 0))) .u32 (some ⟨w.heap.size, 0, none⟩) 2 [97, 98] := by
 refine ⟨rfl, by decide, fun _ => ⟨_, rfl, fun k hk => ?_⟩⟩
 have h : k = 0 ∨ k = 1 := by omega
 rcases h with rfl | rfl
 ·rw [Addr.add_lit]; exact (Blk.new w 47 #[.int .u32 97, .int .u32 98]).cell rfl
 ·rw [Addr.add_lit]; exact (Blk.new w 47 #[.int .u32 97, .int .u32 98]).cell rfl
theorem aw_codec : codecF ⟨#[115, 99, 115, 117]⟩ = 9 := by kernel_rfl
theorem aw_name : nameF 7 = ⟨#[112, 117, 110, 121, 99, 111, 100, 101]⟩ := by kernel_rfl
set_option maxRecDepth 100000 in
set_option maxHeartbeats 4000000 in
theorem cawake_c (w : World) : Calls Tryz.prog 5 #[] w fun e w' => e = .returned (.bool true) ∧ Below w.heap.size w w' := by
 go_enter Tryz.func5, Tryz.ntmps5
 go_wp2_with fail
 refine (aw_encode w).mono ?_
 rintro e w1 ⟨rfl, hb1⟩
 have HB1 := Lib.hid hb1
 clear hb1
 go_upto_region 2 with fail
 have hk1 := Blk.new w1 34 #[.int .i64 0, .int .i64 0]
 have hd1 : Below w1.heap.size w1 (w1.alloc (.cells #[.int .i64 0, .int .i64 0] 34 (0, 0))) := below_new (Below.refl _ _) _
 obtain ⟨W1, hW1⟩ : ∃ W, w1.alloc (.cells #[.int .i64 0, .int .i64 0] 34 (0, 0)) = W := ⟨_, rfl⟩
 rw [hW1] at hk1 hd1 ⊢
 have HW1 := Lib.hid (below_next HB1.out hd1)
 have HD1 := Lib.hid hd1
 obtain ⟨f1, hf1⟩ : ∃ f, w1.heap.size = f := ⟨_, rfl⟩
 rw [hf1] at hk1 ⊢
 have HK1 := Lib.hid hk1
 clear hk1 hd1 hf1 hW1
 go_wp2_with fail
 refine (aw_decB W1).mono ?_
 rintro e w2 ⟨v2, rfl, hb2⟩
 have HB2 := Lib.hid (below_next HW1.out hb2)
 have HE2 := Lib.hid hb2
 clear hb2
 go_upto_region 3 with fail
 have hk2 := Blk.new w2 34 #[.int .i64 3, .int .i64 0]
 have hd2 : Below w2.heap.size w2 (w2.alloc (.cells #[.int .i64 3, .int .i64 0] 34 (0, 0))) := below_new (Below.refl _ _) _
 obtain ⟨W2, hW2⟩ : ∃ W, w2.alloc (.cells #[.int .i64 3, .int .i64 0] 34 (0, 0)) = W := ⟨_, rfl⟩
 rw [hW2] at hk2 hd2 ⊢
 have HW2 := Lib.hid (below_next HB2.out hd2)
 have HD2 := Lib.hid hd2
 obtain ⟨f2, hf2⟩ : ∃ f, w2.heap.size = f := ⟨_, rfl⟩
 rw [hf2] at hk2 ⊢
 have HK2 := Lib.hid hk2
 clear hk2 hd2 hf2 hW2
 go_wp2_with fail
 refine (aw_decP W2).mono ?_
 rintro e w3 ⟨A3, c3, rfl, hc3, hr3, hb3⟩
 have HB3 := Lib.hid (below_next HW2.out hb3)
 have HE3 := Lib.hid hb3
 have HR3 := Lib.hid hr3
 clear hb3 hr3
 go_upto_region 4 with fail
 have hk3 := Blk.new w3 34 #[.int .i64 0, .int .i64 0]
 have hd3 : Below w3.heap.size w3 (w3.alloc (.cells #[.int .i64 0, .int .i64 0] 34 (0, 0))) := below_new (Below.refl _ _) _
 obtain ⟨W3, hW3⟩ : ∃ W, w3.alloc (.cells #[.int .i64 0, .int .i64 0] 34 (0, 0)) = W := ⟨_, rfl⟩
 rw [hW3] at hk3 hd3 ⊢
 have HW3 := Lib.hid (below_next HB3.out hd3)
 have HD3 := Lib.hid hd3
 obtain ⟨f3, hf3⟩ : ∃ f, w3.heap.size = f := ⟨_, rfl⟩
 rw [hf3] at hk3 ⊢
 have HK3 := Lib.hid hk3
 clear hk3 hd3 hf3 hW3
 go_wp2_with fail
 refine (aw_enc0 W3).mono ?_
 rintro e w4 ⟨rfl, hb4⟩
 have HB4 := Lib.hid (below_next HW3.out hb4)
 have HE4 := Lib.hid hb4
 clear hb4
 go_upto_region 5 with fail
 have hk4 := Blk.new w4 34 #[.int .i64 11, .int .i64 0]
 have hd4 : Below w4.heap.size w4 (w4.alloc (.cells #[.int .i64 11, .int .i64 0] 34 (0, 0))) := below_new (Below.refl _ _) _
 obtain ⟨W4, hW4⟩ : ∃ W, w4.alloc (.cells #[.int .i64 11, .int .i64 0] 34 (0, 0)) = W := ⟨_, rfl⟩
 rw [hW4] at hk4 hd4 ⊢
 have HW4 := Lib.hid (below_next HB4.out hd4)
 have HD4 := Lib.hid hd4
 obtain ⟨f4, hf4⟩ : ∃ f, w4.heap.size = f := ⟨_, rfl⟩
 rw [hf4] at hk4 ⊢
 have HK4 := Lib.hid hk4
 clear hk4 hd4 hf4 hW4
 have HE12 := Lib.hid (below_next HE2.out HD2.out)
 have HE23 := Lib.hid (below_next HE3.out HD3.out)
 have HE34 := Lib.hid (below_next HE4.out HD4.out)
 have HM1 := Lib.hid (((HK1.out.below HE12.out).below HE23.out).below HE34.out)
 have HM2 := Lib.hid ((HK2.out.below HE23.out).below HE34.out)
 have HM3 := Lib.hid (HK3.out.below HE34.out)
 have HR4 := Lib.hid ((HR3.out.below HD3.out).below HE34.out)
 have a10 := HM1.out.cell (i := 0) rfl
 have a11 := HM1.out.cell (i := 1) rfl
 have a20 := HM2.out.cell (i := 0) rfl
 have a21 := HM2.out.cell (i := 1) rfl
 have a30 := HM3.out.cell (i := 0) rfl
 have a31 := HM3.out.cell (i := 1) rfl
 have a40 := HK4.out.cell (i := 0) rfl
 have a41 := HK4.out.cell (i := 1) rfl
 have q0 := fun W => eql_fail 0 0 W
 have q3 := fun W => eql_fail 3 0 W
 have q11 := fun W => eql_fail 11 0 W
 clear HE12 HE23 HE34 HE2 HE3 HE4
 go_wp2_with fail
 have hsame := same_c [97, 98] (by decide) A3 (some ⟨W4.heap.size, 0, none⟩) c3 2 (W4.alloc (.cells #[.int .u32 97, .int .u32 98] 47 (0, 0))) (HR4.out.below (below_new (Below.refl _ _) _)) (reads_ab W4) hc3 (by decide)
 refine hsame.mono ?_
 rintro e w5 ⟨rfl, hb5⟩
 have HE5 := Lib.hid (below_next (below_new (Below.refl _ _) _) hb5)
 have HB5 := Lib.hid (below_next HW4.out HE5.out)
 have HN3 := Lib.hid (HM3.out.below HE5.out)
 have HN4 := Lib.hid (HK4.out.below HE5.out)
 have b30 := HN3.out.cell (i := 0) rfl
 have b31 := HN3.out.cell (i := 1) rfl
 have b40 := HN4.out.cell (i := 0) rfl
 have b41 := HN4.out.cell (i := 1) rfl
 clear hsame hb5 a10 a11 a20 a21 a30 a31 a40 a41
 go_wp2_with fail
 refine (codec_calls _ _).mono ?_
 rintro e w6 ⟨rfl, hb6⟩
 have HB6 := Lib.hid (below_next HB5.out hb6)
 rw [aw_codec]
 clear hb6
 go_wp2_with fail
 refine (name_calls _ _).mono ?_
 rintro e w7 ⟨rfl, hb7⟩
 have HB7 := Lib.hid (below_next HB6.out hb7)
 rw [aw_name]
 clear hb7
 go_wp2_with fail
 go_ret
 exact ⟨rfl, HB7.out⟩
end Go.Proofs.YtppchdinolndmaaGreat
