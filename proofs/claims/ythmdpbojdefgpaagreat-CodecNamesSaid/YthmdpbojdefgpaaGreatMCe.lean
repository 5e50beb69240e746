/- Joined texts: Ce, Az, Cn. -/
import Derived.Test.YthmdpbojdefgpaaGreatME16
import Derived.Test.YthmdpbojdefgpaaGreatMSb
import Derived.Test.YthmdpbojdefgpaaGreatMUstp
import Derived.Test.YthmdpbojdefgpaaGreatMUins
import Derived.Test.YthmdpbojdefgpaaGreatMSame
import Derived.Test.YthmdpbojdefgpaaGreatMBase
/- What awake asks: by the machines, at fixed inputs. -/
namespace Go.Proofs.YthmdpbojdefgpaaGreat
open Go.RowKit Go.Proofs.YthmdpbojdefgpaaGreatW.PrintWords
set_option linter.unusedVariables false
set_option linter.unusedSimpArgs false

theorem aw_enc : runE (E16 false) (E16 false).ini [65] 0 [] = ([65, 0], 0, 0) := by decide
theorem aw_bocu : runD DB DB.ini (bytesOf ⟨#[80]⟩) 0 [] = ([], 3, 0) := by kernel_rfl
theorem aw_puny : runD DP DP.ini (bytesOf ⟨#[97, 98, 45]⟩) 0 [] = ([97, 98], 0, 0) := by kernel_rfl
theorem aw_str : strOf [65, 0] = ⟨#[65, 0]⟩ := by kernel_rfl
set_option maxRecDepth 100000 in
theorem aw_encode (w : World) : Calls Tryz.prog 13 #[.int .i64 3, .slice (some ⟨w.heap.size, 0, none⟩) 1 1] (w.alloc (.cells #[.int .u32 65] 57 (0, 0))) fun e w' => e = .returned (.tuple #[.string ⟨#[65, 0]⟩, .agg #[.int .i64 0, .int .i64 0]]) ∧ Below w.heap.size w w' := by
  have h := encode_c (k16 false) newE3 4 (fun _ c => bytes16_len false c) (fun _ => Nat.zero_le _) [65] (by simp) (by decide) (by decide) (by rw [aw_enc]; decide) (some ⟨w.heap.size, 0, none⟩) 1 (by decide) (fun h => by cases h) _ (reads_u32 w 65)
  rw [aw_enc] at h
  simp only [aw_str] at h
  refine h.mono ?_
  rintro e w' ⟨rfl, hb⟩
  exact ⟨rfl, below_then (below_new (Below.refl _ _) _) hb (by simp)⟩
theorem aw_decB (w : World) : Calls Tryz.prog 15 #[.int .i64 8, .string ⟨#[80]⟩] w fun e w' => ∃ v, e = .returned (.tuple #[v, .agg #[.int .i64 3, .int .i64 0]]) ∧ Below w.heap.size w w' := by
  have h := decode_c kB newD8 DB_one ⟨#[80]⟩ (by decide) (by rw [aw_bocu]; decide) w
  rw [aw_bocu] at h
  refine h.mono ?_
  rintro e w' ⟨v, rfl, _, hb⟩
  exact ⟨v, rfl, hb⟩
theorem aw_decP (w : World) : Calls Tryz.prog 15 #[.int .i64 7, .string ⟨#[97, 98, 45]⟩] w fun e w' => ∃ A c, e = .returned (.tuple #[.slice A 2 c, .agg #[.int .i64 0, .int .i64 0]]) ∧ 2 ≤ c ∧ ReadsInt w' .u32 A 2 [97, 98] ∧ Below w.heap.size w w' := by
  have h := decode_c kP newD7 DP_one ⟨#[97, 98, 45]⟩ (by decide) (by rw [aw_puny]; decide) w
  rw [aw_puny] at h
  refine h.mono ?_
  rintro e w' ⟨v, rfl, hq, hb⟩
  obtain ⟨A, c, rfl, hc⟩ := q_slice hq
  exact ⟨A, c, rfl, hc, q_reads hq, hb⟩
set_option maxRecDepth 100000 in
theorem aw_enc0 (w : World) : Calls Tryz.prog 13 #[.int .i64 0, .slice none 0 0] w fun e w' => e = .returned (.tuple #[.string ⟨#[]⟩, .agg #[.int .i64 11, .int .i64 0]]) ∧ Below w.heap.size w w' := by
  have hn : ∀ W, Calls Tryz.prog 19 #[.int .i64 0] W fun e w' => e = .returned (.tuple #[.nilIface, .int .i64 11]) ∧ w' = W := by
    intro W
    go_enter Tryz.func19, Tryz.ntmps19
    go_wp2_with fail
    exact bodyPost_ret (v := .tuple #[.nilIface, .int .i64 11]) (by simp [results, Tryz.results19, go_sem]) rfl ⟨rfl, rfl⟩
  go_enter Tryz.func13, Tryz.ntmps13
  go_wp2_with (go_at_call 19; refine (hn _).mono ?_; rintro e w' ⟨rfl, rfl⟩)
  refine bodyPost_ret (v := .tuple #[.string ⟨#[]⟩, .agg #[.int .i64 11, .int .i64 0]]) (by simp [results, Tryz.results13, go_sem]; try rfl) rfl ?_
  exact ⟨rfl, below_new (Below.refl _ _) _⟩
end Go.Proofs.YthmdpbojdefgpaaGreat
/- awake of pilcrowlaw18. -/
namespace Go.Proofs.YthmdpbojdefgpaaGreat
open Go.RowKit Go.Proofs.YthmdpbojdefgpaaGreatW.PrintWords
set_option linter.unusedVariables false
set_option linter.unusedSimpArgs false

theorem reads_ab (w : World) : ReadsInt (w.alloc (.cells #[.int .u32 97, .int .u32 98] 57 (0, 0))) .u32 (some ⟨w.heap.size, 0, none⟩) 2 [97, 98] := by
  refine ⟨rfl, by decide, fun _ => ⟨_, rfl, fun k hk => ?_⟩⟩
  have h : k = 0 ∨ k = 1 := by omega
  rcases h with rfl | rfl
  · rw [Addr.add_lit]; exact (Blk.new w 57 #[.int .u32 97, .int .u32 98]).cell rfl
  · rw [Addr.add_lit]; exact (Blk.new w 57 #[.int .u32 97, .int .u32 98]).cell rfl
theorem aw_codec : codecF ⟨#[115, 99, 115, 117]⟩ = 9 := by kernel_rfl
theorem aw_name : nameF 7 = ⟨#[112, 117, 110, 121, 99, 111, 100, 101]⟩ := by kernel_rfl
set_option maxRecDepth 100000 in
set_option maxHeartbeats 4000000 in
theorem cawake_c (w : World) : Calls Tryz.prog 10 #[] w fun e w' => e = .returned (.bool true) ∧ Below w.heap.size w w' := by
  go_enter Tryz.func10, Tryz.ntmps10
  go_wp2_with fail
  refine (aw_encode w).mono ?_
  rintro e w1 ⟨rfl, hb1⟩
  have HB1 := Lib.hid hb1
  clear hb1
  go_upto_region 2 with fail
  have hk1 := Blk.new w1 31 #[.int .i64 0, .int .i64 0]
  have hd1 : Below w1.heap.size w1 (w1.alloc (.cells #[.int .i64 0, .int .i64 0] 31 (0, 0))) := below_new (Below.refl _ _) _
  obtain ⟨W1, hW1⟩ : ∃ W, w1.alloc (.cells #[.int .i64 0, .int .i64 0] 31 (0, 0)) = W := ⟨_, rfl⟩
  rw [hW1] at hk1 hd1 ⊢
  have HW1 := Lib.hid (below_next HB1.out hd1)
  have HD1 := Lib.hid hd1
  obtain ⟨f1, hf1⟩ : ∃ f, w1.heap.size = f := ⟨_, rfl⟩
  rw [hf1] at hk1 ⊢
  have HK1 := Lib.hid hk1
  clear hk1 hd1 hf1 hW1
  go_wp2_with fail
  refine (aw_decB W1).mono ?_
  rintro e w2 ⟨v2, rfl, hb2⟩
  have HB2 := Lib.hid (below_next HW1.out hb2)
  have HE2 := Lib.hid hb2
  clear hb2
  go_upto_region 3 with fail
  have hk2 := Blk.new w2 31 #[.int .i64 3, .int .i64 0]
  have hd2 : Below w2.heap.size w2 (w2.alloc (.cells #[.int .i64 3, .int .i64 0] 31 (0, 0))) := below_new (Below.refl _ _) _
  obtain ⟨W2, hW2⟩ : ∃ W, w2.alloc (.cells #[.int .i64 3, .int .i64 0] 31 (0, 0)) = W := ⟨_, rfl⟩
  rw [hW2] at hk2 hd2 ⊢
  have HW2 := Lib.hid (below_next HB2.out hd2)
  have HD2 := Lib.hid hd2
  obtain ⟨f2, hf2⟩ : ∃ f, w2.heap.size = f := ⟨_, rfl⟩
  rw [hf2] at hk2 ⊢
  have HK2 := Lib.hid hk2
  clear hk2 hd2 hf2 hW2
  go_wp2_with fail
  refine (aw_decP W2).mono ?_
  rintro e w3 ⟨A3, c3, rfl, hc3, hr3, hb3⟩
  have HB3 := Lib.hid (below_next HW2.out hb3)
  have HE3 := Lib.hid hb3
  have HR3 := Lib.hid hr3
  clear hb3 hr3
  go_upto_region 4 with fail
  have hk3 := Blk.new w3 31 #[.int .i64 0, .int .i64 0]
  have hd3 : Below w3.heap.size w3 (w3.alloc (.cells #[.int .i64 0, .int .i64 0] 31 (0, 0))) := below_new (Below.refl _ _) _
  obtain ⟨W3, hW3⟩ : ∃ W, w3.alloc (.cells #[.int .i64 0, .int .i64 0] 31 (0, 0)) = W := ⟨_, rfl⟩
  rw [hW3] at hk3 hd3 ⊢
  have HW3 := Lib.hid (below_next HB3.out hd3)
  have HD3 := Lib.hid hd3
  obtain ⟨f3, hf3⟩ : ∃ f, w3.heap.size = f := ⟨_, rfl⟩
  rw [hf3] at hk3 ⊢
  have HK3 := Lib.hid hk3
  clear hk3 hd3 hf3 hW3
  go_wp2_with fail
  refine (aw_enc0 W3).mono ?_
  rintro e w4 ⟨rfl, hb4⟩
  have HB4 := Lib.hid (below_next HW3.out hb4)
  have HE4 := Lib.hid hb4
  clear hb4
  go_upto_region 5 with fail
  have hk4 := Blk.new w4 31 #[.int .i64 11, .int .i64 0]
  have hd4 : Below w4.heap.size w4 (w4.alloc (.cells #[.int .i64 11, .int .i64 0] 31 (0, 0))) := below_new (Below.refl _ _) _
  obtain ⟨W4, hW4⟩ : ∃ W, w4.alloc (.cells #[.int .i64 11, .int .i64 0] 31 (0, 0)) = W := ⟨_, rfl⟩
  rw [hW4] at hk4 hd4 ⊢
  have HW4 := Lib.hid (below_next HB4.out hd4)
  have HD4 := Lib.hid hd4
  obtain ⟨f4, hf4⟩ : ∃ f, w4.heap.size = f := ⟨_, rfl⟩
  rw [hf4] at hk4 ⊢
  have HK4 := Lib.hid hk4
  clear hk4 hd4 hf4 hW4
  have HE12 := Lib.hid (below_next HE2.out HD2.out)
  have HE23 := Lib.hid (below_next HE3.out HD3.out)
  have HE34 := Lib.hid (below_next HE4.out HD4.out)
  have HM1 := Lib.hid (((HK1.out.below HE12.out).below HE23.out).below HE34.out)
  have HM2 := Lib.hid ((HK2.out.below HE23.out).below HE34.out)
  have HM3 := Lib.hid (HK3.out.below HE34.out)
  have HR4 := Lib.hid ((HR3.out.below HD3.out).below HE34.out)
  have a10 := HM1.out.cell (i := 0) rfl
  have a11 := HM1.out.cell (i := 1) rfl
  have a20 := HM2.out.cell (i := 0) rfl
  have a21 := HM2.out.cell (i := 1) rfl
  have a30 := HM3.out.cell (i := 0) rfl
  have a31 := HM3.out.cell (i := 1) rfl
  have a40 := HK4.out.cell (i := 0) rfl
  have a41 := HK4.out.cell (i := 1) rfl
  have q0 := fun W => eql_fail 0 0 W
  have q3 := fun W => eql_fail 3 0 W
  have q11 := fun W => eql_fail 11 0 W
  clear HE12 HE23 HE34 HE2 HE3 HE4
  go_wp2_with fail
  have hsame := same_c [97, 98] (by decide) A3 (some ⟨W4.heap.size, 0, none⟩) c3 2 (W4.alloc (.cells #[.int .u32 97, .int .u32 98] 57 (0, 0))) (HR4.out.below (below_new (Below.refl _ _) _)) (reads_ab W4) hc3 (by decide)
  refine hsame.mono ?_
  rintro e w5 ⟨rfl, hb5⟩
  have HE5 := Lib.hid (below_next (below_new (Below.refl _ _) _) hb5)
  have HB5 := Lib.hid (below_next HW4.out HE5.out)
  have HN3 := Lib.hid (HM3.out.below HE5.out)
  have HN4 := Lib.hid (HK4.out.below HE5.out)
  have b30 := HN3.out.cell (i := 0) rfl
  have b31 := HN3.out.cell (i := 1) rfl
  have b40 := HN4.out.cell (i := 0) rfl
  have b41 := HN4.out.cell (i := 1) rfl
  clear hsame hb5 a10 a11 a20 a21 a30 a31 a40 a41
  go_wp2_with fail
  refine (codec_calls _ _).mono ?_
  rintro e w6 ⟨rfl, hb6⟩
  have HB6 := Lib.hid (below_next HB5.out hb6)
  rw [aw_codec]
  clear hb6
  go_wp2_with fail
  refine (name_calls _ _).mono ?_
  rintro e w7 ⟨rfl, hb7⟩
  have HB7 := Lib.hid (below_next HB6.out hb7)
  rw [aw_name]
  clear hb7
  go_wp2_with fail
  go_ret
  exact ⟨rfl, HB7.out⟩
end Go.Proofs.YthmdpbojdefgpaaGreat
/- pilcrowlaw18.CodecNames, walked over its own awake. -/
namespace Go.Proofs.YthmdpbojdefgpaaGreat
open Go.RowKit
set_option linter.unusedVariables false
set_option linter.unusedSimpArgs false

theorem name_cell (w : World) (c : Int) (h0 : 1 ≤ c) (h1 : c ≤ 10) : (w.alloc (.cells (codecNames.map fun n => Value.string ⟨n.toArray⟩).toArray 9 (0, 0))).cell? ⟨w.heap.size, c.toNat, none⟩ = some (.string (nameF c)) := by
  have h : c = 1 ∨ c = 2 ∨ c = 3 ∨ c = 4 ∨ c = 5 ∨ c = 6 ∨ c = 7 ∨ c = 8 ∨ c = 9 ∨ c = 10 := by omega
  rw [World.cell?_alloc_new]
  rcases h with rfl | rfl | rfl | rfl | rfl | rfl | rfl | rfl | rfl | rfl <;> rfl
theorem refnames_at (c : Int) (h0 : 1 ≤ c) (h1 : c ≤ 10) (w : World) : Calls Tryz.prog 9 #[] w fun e w' => e = .returned (.slice (some ⟨w.heap.size, 0, none⟩) 11 11) ∧ w'.cell? ⟨w.heap.size, c.toNat, none⟩ = some (.string (nameF c)) ∧ Below w.heap.size w w' := by
  refine (refnames_c w).mono ?_
  rintro e w' ⟨rfl, rfl⟩
  exact ⟨rfl, name_cell w c h0 h1, below_new (Below.refl _ _) _⟩
set_option maxRecDepth 100000 in
set_option maxHeartbeats 4000000 in
theorem names_c (c : Int) (s : ByteArray) (w : World) : Calls Tryz.prog 3 #[.int .i64 c, .string s] w fun e w' => e = .returned (.bool true) ∧ Below w.heap.size w w' := by
  go_enter Tryz.func3, Tryz.ntmps3
  go_upto_region 2 with fail
  go_cut [13] (fun s13 wx => s13 = .bool (decide (1 ≤ c ∧ c ≤ 10)) ∧ wx = w)
  case first =>
    by_cases h1 : 1 ≤ c
    · have h1' : decide (1 ≤ c) = true := decide_eq_true h1
      by_cases h2 : c ≤ 10
      · have h2' : decide (c ≤ 10) = true := decide_eq_true h2
        have h3 : decide (1 ≤ c ∧ c ≤ 10) = true := decide_eq_true ⟨h1, h2⟩
        have H3 := Lib.hid h3
        clear h3 h1 h2
        go_wp2_with fail
        go_meet
        exact ⟨by rw [H3.out], rfl⟩
      · have h2' : decide (c ≤ 10) = false := decide_eq_false h2
        have h3 : decide (1 ≤ c ∧ c ≤ 10) = false := decide_eq_false fun h => h2 h.2
        have H3 := Lib.hid h3
        clear h3 h1 h2
        go_wp2_with fail
        go_meet
        exact ⟨by rw [H3.out], rfl⟩
    · have h1' : decide (1 ≤ c) = false := decide_eq_false h1
      have h3 : decide (1 ≤ c ∧ c ≤ 10) = false := decide_eq_false fun h => h1 h.1
      have H3 := Lib.hid h3
      clear h3 h1
      go_wp2_with fail
      go_meet
      exact ⟨by rw [H3.out], rfl⟩
  obtain ⟨rfl, hww⟩ := hcut
  obtain rfl := hww.symm
  clear hww
  go_upto_if 13 with fail
  go_cut [5] (fun s5 wx => s5 = .string (nameF c) ∧ Hid (Below w.heap.size w wx))
  case first =>
    by_cases h12 : 1 ≤ c ∧ c ≤ 10
    · have h3 : decide (1 ≤ c ∧ c ≤ 10) = true := decide_eq_true h12
      have HN := Lib.hid (fun W => refnames_at c h12.1 h12.2 W)
      have hc0 : 0 ≤ c := by omega
      have hc1 : c < 11 := by omega
      rw [h3]
      clear h3 h12
      go_wp2_with (go_at_call 9; refine (HN.out _).mono ?_; rintro e w1 ⟨rfl, hcell, hb1⟩)
      go_meet
      exact ⟨rfl, Lib.hid hb1⟩
    · have h3 : decide (1 ≤ c ∧ c ≤ 10) = false := decide_eq_false h12
      have he := name_none c (by omega)
      have HE := Lib.hid he
      rw [h3]
      clear he h3 h12
      go_wp2_with fail
      go_meet
      exact ⟨by rw [HE.out], Lib.hid (Below.refl _ _)⟩
  case rest =>
    obtain ⟨rfl, HB1⟩ := hcut
    have HAW := Lib.hid (fun W => cawake_c W)
    by_cases hn : s.size > 100
    · have hn1 : (s.size : Int) > 100 := by omega
      clear hn
      go_wp2_with fail
      refine (cawake_c _).mono ?_
      rintro e w2 ⟨rfl, hb2⟩
      have HB2 := Lib.hid (below_next HB1.out hb2)
      clear hb2
      go_wp2_with fail
      refine (cawake_c _).mono ?_
      rintro e w3 ⟨rfl, hb3⟩
      have HB3 := Lib.hid (below_next HB2.out hb3)
      clear hb3
      go_wp2_with fail
      go_ret
      exact ⟨rfl, HB3.out⟩
    · have hn1 : ¬ (s.size : Int) > 100 := by omega
      clear hn
      go_wp2_with fail
      refine (cawake_c _).mono ?_
      rintro e w2 ⟨rfl, hb2⟩
      have HB2 := Lib.hid (below_next HB1.out hb2)
      clear hb2
      go_wp2_with fail
      refine (codec_calls s _).mono ?_
      rintro e w3 ⟨rfl, hb3⟩
      have HB3 := Lib.hid (below_next HB2.out hb3)
      clear hb3 HB1 HB2
      have hkr := codecF_range s
      have hkn : ∀ i : Int, 1 ≤ i → i ≤ 10 → nameF i = s → codecF s = i := fun i h0 h1 h => by rw [← h]; exact codec_name i h0 h1
      obtain ⟨k, hk⟩ : ∃ k, codecF s = k := ⟨_, rfl⟩
      rw [hk] at hkr hkn ⊢
      have HKR := Lib.hid hkr
      have HKN := Lib.hid hkn
      clear hkr hkn hk
      go_upto_region 7 with fail
      obtain ⟨N, hN⟩ : ∃ N, nameF c = N := ⟨_, rfl⟩
      rw [hN]
      have hnc := fun W => name_calls c W
      rw [hN] at hnc
      have HNC := Lib.hid hnc
      have hcn : (1 ≤ c ∧ c ≤ 10) → codecF N = c := fun h => by rw [← hN]; exact codec_name c h.1 h.2
      have hns : (1 ≤ c ∧ c ≤ 10) → ¬ N.toList = [] := fun h => by rw [← hN]; exact name_some c h.1 h.2
      have hnn : ¬ (1 ≤ c ∧ c ≤ 10) → N = ⟨#[]⟩ := fun h => by rw [← hN]; exact name_none c (by omega)
      clear hN hnc
      have HCC := Lib.hid (fun W => codec_calls N W)
      go_cut [61] (fun s61 wx => s61 = .bool false ∧ Hid (Below w.heap.size w wx))
      case first =>
        rcases HKR.out with hk0 | ⟨hk1, hk2, hk3⟩
        · subst hk0
          by_cases h12 : 1 ≤ c ∧ c ≤ 10
          · have hcn' := hcn h12
            have hne := hns h12
            have hpi : N.toList.isEmpty = false := by cases h : N.toList with | nil => exact absurd h hne | cons a r => rfl
            have hpd : decide (N.toList = []) = false := decide_eq_false hne
            have hpn : (!N.toList.isEmpty) = true := by rw [hpi]; rfl
            rw [hcn'] at HCC
            clear hcn hns hnn hcn' h12
            go_wp2_with (first
              | (go_at_call 12; refine (HNC.out _).mono ?_; rintro e w4 ⟨rfl, hb4⟩; have HB4 := Lib.hid (below_next HB3.out hb4); clear hb4)
              | (go_at_call 11; refine (HCC.out _).mono ?_; rintro e w5 ⟨rfl, hb5⟩; have HB5 := Lib.hid (below_next HB4.out hb5); clear hb5))
            all_goals go_meet
            all_goals exact ⟨rfl, HB5⟩
          · have hne := hnn h12
            subst hne
            clear hcn hns hnn h12
            go_wp2_with (go_at_call 12; refine (HNC.out _).mono ?_; rintro e w4 ⟨rfl, hb4⟩; have HB4 := Lib.hid (below_next HB3.out hb4); clear hb4)
            all_goals go_meet
            all_goals exact ⟨rfl, HB4⟩
        · have d1 : decide (k < 0) = false := decide_eq_false (by omega)
          have d2 : decide (10 < k) = false := decide_eq_false (by omega)
          have d3 : decide (0 < k) = true := decide_eq_true (by omega)
          have d4 : 0 ≤ k := by omega
          have d5 : k < 11 := by omega
          have hra := fun W => refnames_at k hk1 hk2 W
          rw [hk3] at hra
          have HRA := Lib.hid hra
          clear hra hk3
          by_cases h12 : 1 ≤ c ∧ c ≤ 10
          · have hcn' := hcn h12
            have hne := hns h12
            have hpi : N.toList.isEmpty = false := by cases h : N.toList with | nil => exact absurd h hne | cons a r => rfl
            have hpd : decide (N.toList = []) = false := decide_eq_false hne
            have hpn : (!N.toList.isEmpty) = true := by rw [hpi]; rfl
            rw [hcn'] at HCC
            clear hcn hns hnn hcn' h12
            go_wp2_with (first
              | (go_at_call 12; refine (HNC.out _).mono ?_; rintro e w4 ⟨rfl, hb4⟩; have HB4 := Lib.hid (below_next HB3.out hb4); clear hb4)
              | (go_at_call 11; refine (HCC.out _).mono ?_; rintro e w5 ⟨rfl, hb5⟩; have HB5 := Lib.hid (below_next HB4.out hb5); clear hb5)
              | (go_at_call 9; refine (HRA.out _).mono ?_; rintro e w6 ⟨rfl, hcell, hb6⟩; have HB6 := Lib.hid (below_next HB5.out hb6); clear hb6))
            all_goals go_meet
            all_goals exact ⟨rfl, HB6⟩
          · have hne := hnn h12
            subst hne
            clear hcn hns hnn h12
            go_wp2_with (first
              | (go_at_call 12; refine (HNC.out _).mono ?_; rintro e w4 ⟨rfl, hb4⟩; have HB4 := Lib.hid (below_next HB3.out hb4); clear hb4)
              | (go_at_call 9; refine (HRA.out _).mono ?_; rintro e w6 ⟨rfl, hcell, hb6⟩; have HB6 := Lib.hid (below_next HB4.out hb6); clear hb6))
            all_goals go_meet
            all_goals exact ⟨rfl, HB6⟩
      case rest =>
        obtain ⟨rfl, HB4⟩ := hcut
        clear hcn hns hnn HCC HNC
        go_wp2_with fail
        go_loopg [7] 10 (fun kq s7 wx => ∃ i : Nat, s7 = .int .i64 i ∧ Hid (kq = 11 - i ∧ 1 ≤ i ∧ i ≤ 11) ∧ Hid (Below w.heap.size w wx))
        case atStart => exact ⟨1, rfl, Lib.hid ⟨rfl, by decide, by decide⟩, HB4⟩
        case round =>
          obtain ⟨i, rfl, HI, HBI⟩ := hrel
          by_cases hi : i ≤ 10
          · have hi1 : (i : Int) ≤ 10 := by omega
            have hi0 : (0 : Int) ≤ (i : Int) := by omega
            have hi2 : (i : Int) < 11 := by omega
            have hra := fun W => refnames_at (i : Int) (by have := HI.out; omega) hi1 W
            obtain ⟨M, hM⟩ : ∃ M, nameF (i : Int) = M := ⟨_, rfl⟩
            rw [hM, Int.toNat_natCast] at hra
            have HRA := Lib.hid hra
            have hki : M = s → k = i := fun h => HKN.out i (by have := HI.out; omega) hi1 (by rw [hM]; exact h)
            clear hra hM
            by_cases hMs : M = s
            · have hk := hki hMs
              subst hMs
              have hkk : (k == (i : Int)) = true := by simpa using hk
              have hkn : (k != (i : Int)) = false := by simpa using hk
              clear hki hk
              go_wp2_with (go_at_call 9; refine (HRA.out _).mono ?_; rintro e w6 ⟨rfl, hcell, hb6⟩; have HB6 := Lib.hid (below_next HBI.out hb6); clear hb6)
              go_roundg (10 - i)
              case measure => have := HI.out; omega
              case rel => exact ⟨i + 1, by go_num, Lib.hid ⟨by omega, by omega, by omega⟩, HB6⟩
            · have hMt : ¬ M.toList = s.toList := fun h => hMs ((str_eq_iff M s).1 (by rw [h]; simp))
              have hMd : decide (M.toList = s.toList) = false := decide_eq_false hMt
              have hMb : (M.toList == s.toList) = false := (str_ne_iff M s).2 hMs
              clear hki hMs
              go_wp2_with (go_at_call 9; refine (HRA.out _).mono ?_; rintro e w6 ⟨rfl, hcell, hb6⟩; have HB6 := Lib.hid (below_next HBI.out hb6); clear hb6)
              go_roundg (10 - i)
              case measure => have := HI.out; omega
              case rel => exact ⟨i + 1, by go_num, Lib.hid ⟨by omega, by omega, by omega⟩, HB6⟩
          · have hi1 : ¬ (i : Int) ≤ 10 := by omega
            go_wp2_with fail
            all_goals go_ret
            all_goals exact ⟨rfl, HBI.out⟩
end Go.Proofs.YthmdpbojdefgpaaGreat
