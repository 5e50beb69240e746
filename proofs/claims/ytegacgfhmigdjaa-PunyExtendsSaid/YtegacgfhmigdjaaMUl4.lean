/- Joined texts: Ul4. -/
import Derived.Test.YtegacgfhmigdjaaMUlw
import Derived.Test.YtegacgfhmigdjaaMUl2
/- pilcrowlaw10.PunyExtends, walked. -/
namespace Go.Proofs.Ytegacgfhmigdjaa
open Go.RowKit Go.Proofs.YtegacgfhmigdjaaW.PrintWords Go.Proofs.YtegacgfhmigdjaaW.PrintLast Go.Proofs.YtegacgfhmigdjaaW.PrintMore Go.Proofs.Ytegacgfhmigdjaa.PPu
set_option linter.unusedVariables false
set_option linter.unusedSimpArgs false

theorem neq_fail (a b : Int) (w : World) : (binOp .neq 33 (.agg #[.int .i64 a, .int .i64 b]) (.agg #[.int .i64 a, .int .i64 b])).run Try.prog w = .ok (.bool false) w := by
  have he : (Op.equalIn 10000 33 (.agg #[.int .i64 a, .int .i64 b]) (.agg #[.int .i64 a, .int .i64 b])).run Try.prog w = .ok true w := by
    rw [run_equalIn_struct w 9999 33 _ _ fieldsOf_fail (by kernel_rfl)]
    simp only [Program.fieldsOf, Try.underlying33]
    have ei : ∀ (a b : Int) (w : World), (Op.equalIn 9999 3 (.int .i64 a) (.int .i64 b)).run Try.prog w = .ok (a == b) w := fun a b w => by
      unfold Op.equalIn
      simp only [Sem.run_bind, run_underlying Try.underlying3, Result.andThen_ok, if_true, Sem.run_pure]
    have ej : ∀ (a b : Int) (w : World), (Op.equalIn 9999 31 (.int .i64 a) (.int .i64 b)).run Try.prog w = .ok (a == b) w := fun a b w => by
      unfold Op.equalIn
      simp only [Sem.run_bind, run_underlying Try.underlying31, Result.andThen_ok, if_true, Sem.run_pure]
    simp [Op.eqFields, go_sem, ei, ej]
  simp only [binOp]
  simp [Op.equal, Op.maxDepth, he]
set_option maxRecDepth 100000 in
set_option maxHeartbeats 4000000 in
theorem extends_c (s m : ByteArray) (w : World) : Calls Try.prog 5 #[.string s, .string m] w fun e w' => e = .returned (.bool true) ∧ Below w.heap.size w w' := by
  go_enter Try.func5, Try.ntmps5
  go_wp2_with fail
  refine (awake_c _).mono ?_
  rintro e w1 ⟨rfl, hb1⟩
  have HB1 := Lib.hid hb1
  clear hb1
  go_wp2_with fail
  refine (great_n s.size _).mono ?_
  rintro e w2 ⟨rfl, hb2⟩
  have HB2 := Lib.hid (below_next HB1.out hb2)
  clear hb2
  by_cases hg : s.size > 120
  · rw [decide_eq_true hg]
    clear hg
    go_wp2_with fail
    refine (awake_c _).mono ?_
    rintro e w3 ⟨rfl, hb3⟩
    have HB3 := Lib.hid (below_next HB2.out hb3)
    clear hb3
    go_wp2_with fail
    go_ret
    exact ⟨rfl, HB3.out⟩
  · rw [decide_eq_false hg]
    have HSZ : Hid (s.size ≤ 120) := Lib.hid (by omega)
    clear hg
    by_cases hm : m.size > 100
    · have hm1 : (m.size : Int) > 100 := by omega
      go_wp2_with fail
      refine (awake_c _).mono ?_
      rintro e w3 ⟨rfl, hb3⟩
      have HB3 := Lib.hid (below_next HB2.out hb3)
      clear hb3
      go_wp2_with fail
      go_ret
      exact ⟨rfl, HB3.out⟩
    · have hm1 : ¬ (m.size : Int) > 100 := by omega
      have HMZ : Hid (m.size ≤ 100) := Lib.hid (by omega)
      clear hm
      go_wp2_with fail
      obtain ⟨L, en, E, F, hres, hF⟩ := readF_some s
      have HRES := Lib.hid hres
      have HFS := Lib.hid (feed_spec s).2.2
      clear hres hF
      refine (newdec_c _).mono ?_
      rintro e w3 ⟨rfl, hw3⟩
      have HN3 : Hid (Blk w3 w2.heap.size 43 DECZ) := Lib.hid (by rw [hw3]; exact Blk.new w2 _ _)
      have HB3 : Hid (Below w2.heap.size w2 w3) := Lib.hid (by rw [hw3]; exact below_new (Below.refl _ _) _)
      have HG3 : Hid (w3.heap.size = w2.heap.size + 1) := Lib.hid (by rw [hw3, World.size_alloc])
      clear hw3
      obtain ⟨g, hg⟩ : ∃ g, w2.heap.size = g := ⟨_, rfl⟩
      have HG : Hid (w2.heap.size = g) := Lib.hid hg
      rw [hg] at HN3 HB3 HG3 ⊢
      clear hg
      go_wp2_with fail
      refine (read_at s g _ HN3.out (by have := HSZ.out; omega) L en E F HRES.out).mono ?_
      rintro e w4 ⟨v4, lv4, rfl, ho4, hd4, he4⟩
      obtain ⟨tv4, hblk4⟩ := hd4.blk
      have HK4 := Lib.hid hblk4
      have HB4 : Hid (Below g w2 w4) := Lib.hid (Eff.under HB3.out he4 (by have := HG3.out; omega) (fun k hk => by have := HG3.out; omega))
      have HE4 : Hid (g + 1 ≤ w4.heap.size) := Lib.hid (by have := HG3.out; have := he4.size; omega)
      clear ho4 hd4 he4 hblk4 HN3 HB3 HG3
      obtain ⟨n, hn⟩ : ∃ n, feedN s = n := ⟨_, rfl⟩
      have HN := Lib.hid hn
      rw [hn] at HK4 HFS
      clear hn
      go_wp2_with fail
      refine (at_c HK4.out rfl).mono ?_
      rintro e w5 ⟨rfl, rfl⟩
      have hn1 : n ≤ s.size := HFS.out
      have hn2 : (n : Int) ≤ (s.size : Int) := by omega
      have hn3 : (0 : Int) ≤ (n : Int) := by omega
      have hn4 : ¬ (n : Int) < 0 := by omega
      have hn5 : ¬ (n : Int) > (s.size : Int) := by omega
      go_wp2_with fail
      refine (newdec_c _).mono ?_
      rintro e w6 ⟨rfl, hw6⟩
      have HN6 : Hid (Blk w6 w4.heap.size 43 DECZ) := Lib.hid (by rw [hw6]; exact Blk.new w4 _ _)
      have HB46 : Hid (Below w4.heap.size w4 w6) := Lib.hid (by rw [hw6]; exact below_new (Below.refl _ _) _)
      have HG6 : Hid (w6.heap.size = w4.heap.size + 1) := Lib.hid (by rw [hw6, World.size_alloc])
      clear hw6
      obtain ⟨f, hf⟩ : ∃ f, w4.heap.size = f := ⟨_, rfl⟩
      have HF5 : Hid (w4.heap.size = f) := Lib.hid hf
      rw [hf] at HN6 HG6 ⊢
      clear hf
      go_wp2_with fail
      refine (newdec_c _).mono ?_
      rintro e w7 ⟨rfl, hw7⟩
      rw [HG6.out]
      have HN7 : Hid (Blk w7 (f + 1) 43 DECZ) := Lib.hid (by rw [hw7, ← HG6.out]; exact Blk.new w6 _ _)
      have HB67 : Hid (Below w6.heap.size w6 w7) := Lib.hid (by rw [hw7]; exact below_new (Below.refl _ _) _)
      have HG7 : Hid (w7.heap.size = f + 1 + 1) := Lib.hid (by rw [hw7, World.size_alloc, HG6.out])
      have HF7 := Lib.hid (HN6.out.below HB67.out)
      clear hw7
      obtain ⟨f2, hf2⟩ : ∃ f2, f + 1 = f2 := ⟨_, rfl⟩
      rw [hf2] at HN7 HG7 ⊢
      have HF2 : Hid (f2 = f + 1) := Lib.hid hf2.symm
      clear hf2
      have hss : s.size ≤ 120 := HSZ.out
      have hez : (s.extract 0 n).size = n := by rw [ByteArray.size_extract]; omega
      have hn6 : n ≤ 120 := by omega
      have hle : (s.extract 0 n).size + (⟨#[45]⟩ : ByteArray).size ≤ 9223372036854775807 := by rw [hez]; show n + 1 ≤ _; omega
      go_wp2_with fail
      obtain ⟨LF, enf, EF, FF, hrf, hpf⟩ := hyph_read s ⟨#[45]⟩ rfl
      rw [HN.out] at hrf hpf
      have hzf : (s.extract 0 n ++ (⟨#[45]⟩ : ByteArray)).size = n + 1 := size_pre s _ n HFS.out
      refine (read_at (s.extract 0 n ++ (⟨#[45]⟩ : ByteArray)) f _ HF7.out (by have := HSZ.out; omega) LF enf EF FF hrf).mono ?_
      rintro e w8 ⟨v8, lv8, rfl, ho8, hd8, he8⟩
      obtain ⟨A8, c8, rfl, hc8⟩ := Go.Proofs.Ytegacgfhmigdjaa.own_slice ho8
      have HLL : Hid (LF.length ≤ 121) := Lib.hid (by have := hrf.len; have := HSZ.out; omega)
      have HPF := Lib.hid hpf
      have HO8 := Lib.hid ho8
      have HC8 := Lib.hid hc8
      obtain ⟨tv8, hblk8⟩ := hd8.blk
      have HK8 := Lib.hid hblk8
      have HE8 : Hid (w7.heap.size ≤ w8.heap.size) := Lib.hid he8.size
      have HF8 : Hid (Blk w8 f2 43 DECZ) := Lib.hid (HN7.out.eff he8 (by have := HG7.out; have := HF2.out; omega))
      have HE478 : Hid (Eff w7 w8 (fun k => k = f ∨ w7.heap.size ≤ k)) := Lib.hid he8
      clear hrf hpf hzf ho8 hc8 hblk8 hd8 he8
      go_wp2_with fail
      go_loopg [13, 14] n (fun kq s13 s14 wx => ∃ i : Nat, s14 = .int .i64 i ∧ Hid (kq = n - i ∧ i ≤ n) ∧ Hid (wx.ownsRow w8.heap.size 51 1 s13 (preL s i).length (nums .u32 (preL s i))) ∧ Hid (Below w8.heap.size w8 wx))
      case atStart => exact ⟨0, rfl, Lib.hid ⟨rfl, Nat.zero_le _⟩, Lib.hid ⟨rfl, .inl ⟨rfl, rfl⟩⟩, Lib.hid (Below.refl _ _)⟩
      case round =>
        obtain ⟨i, rfl, HK, HO, HB⟩ := hrel
        by_cases hi : i < n
        · have hi0 : (0 : Int) ≤ (i : Int) := by omega
          have hi1 : (i : Int) < (n : Int) := by omega
          have hi2 : i < s.size := by omega
          have hi3 : (i : Int) < (s.size : Int) := by omega
          have hbt : ((s[i].toNat : Int) % 4294967296) = bt s (i : Int) := by
            have h := bt_at s (i : Int) (by rw [Int.toNat_natCast]; exact hi2)
            have h2 := bt_range s (i : Int)
            rw [← h] at h2 ⊢
            simp only [Int.toNat_natCast] at h2 ⊢
            omega
          go_wp2_with (at_builtin; refine print_append_row (w0 := w8) w8.heap.size rfl (.tmp 68) (.tmp 73) 26 51 .u32 4 rfl Try.underlying26 info_u32 (by decide) u13 (preL s i) [bt s (i : Int)] (some ⟨wr.heap.size, 0, none⟩) 1 1 rfl rfl (own_alloc HO.out _) (reads_one wr _ _ rfl) (below_new HB.out _) (below_new HB.out _).size (by rw [preL_len]; omega) ?_; intro v1 w1 ho1 hb1 hg1 hat1; have HO1 := Lib.hid ho1; have HB2 := Lib.hid hb1; clear ho1 hb1 hg1 hat1)
          go_roundg (gk - 1)
          case measure => have := HK.out; omega
          case rel => exact ⟨i + 1, by go_num, Lib.hid ⟨by have := HK.out; omega, by omega⟩, Lib.hid (by rw [preL_succ]; exact HO1.out), HB2⟩
        · have hi1 : ¬ (i : Int) < (n : Int) := by omega
          have hiq : i = n := by have := HK.out; omega
          rw [hiq] at HO
          obtain ⟨A9, c9, rfl, hc9⟩ := Go.Proofs.Ytegacgfhmigdjaa.own_slice HO.out
          have HC9 := Lib.hid hc9
          clear hiq hi hc9 HK
          have HB9 : Hid (Below w8.heap.size w8 wr) := HB
          have HKG8 : Hid (Blk w8 g 43 _) := Lib.hid (((HK4.out.below HB46.out).below HB67.out).eff HE478.out (by have := HE4.out; have := HF5.out; have := HG7.out; have := HF2.out; omega))
          have hfe := fun (a b : Value) (W : World) => field_err a b W
          have hcase : (E ≠ 3 ∧ n = s.size) ∨ (n < s.size ∧ E = 3 ∧ F = (n : Int)) := by
            rcases HRES.out with ⟨h1, _, _, h2, h3⟩ | ⟨h1, _, h2⟩
            · exact .inr ⟨by rw [← HN.out]; exact h1, h2, by rw [h3, HN.out]⟩
            · refine .inl ?_
              have h3 : E ≠ 3 := by
                rcases h2 with h2 | h2 <;> (simp only [Prod.mk.injEq] at h2; obtain ⟨_, h2, _⟩ := h2; rw [h2]; decide)
              exact ⟨h3, by rw [← HN.out]; exact h1⟩
          have HB48 : Hid (Below g w2 w8) := Lib.hid (Eff.under (below_then HB4.out (below_next HB46.out HB67.out) (by have := HE4.out; omega)) HE478.out (by have := HE4.out; have := HF5.out; have := HG7.out; have := HF2.out; omega) (fun k hk => by have := HE4.out; have := HF5.out; have := HG7.out; have := HF2.out; omega))
          by_cases h0 : n = 0
          · have h01 : ¬ (n : Int) > 0 := by omega
            clear h0
            go_wp2_with fail
            refine (fail_c (HKG8.out.below HB9.out) rfl rfl).mono ?_
            rintro e wa ⟨rfl, hba⟩
            have HBA := Lib.hid (below_next HB9.out hba)
            clear hba
            rcases hcase with ⟨hne, hc⟩ | ⟨hc, rfl, rfl⟩
            · have hc1 : (n : Int) = (s.size : Int) := by omega
              clear hc
              go_wp2_with fail
              go_ret
              exact ⟨rfl, below_next (below_next HB2.out (by rw [HG.out]; exact HB48.out)) HBA.out⟩
            · have hc1 : (n : Int) + 1 ≤ (s.size : Int) := by omega
              have HC := Lib.hid hc
              clear hc
              go_wp2_with fail
              rw [show (min ((n : Int) + 1) (s.size : Int)).toNat = n + 1 by omega]
              have hrg := bad_read s m (by rw [HN.out]; exact HC.out)
              rw [HN.out] at hrg
              have hzg : (s.extract 0 (n + 1) ++ m).size = n + 1 + m.size := size_pre s _ (n + 1) HC.out
              refine (read_at (s.extract 0 (n + 1) ++ m) f2 _ (HF8.out.below HBA.out) (by have := HSZ.out; have := HMZ.out; omega) [] false 3 n hrg).mono ?_
              rintro e wb ⟨vb, lvb, rfl, hob, hdb, heb⟩
              obtain ⟨tvb, hblkb⟩ := hdb.blk
              have HKB := Lib.hid hblkb
              have HKGB := Lib.hid ((HKG8.out.below HBA.out).eff heb (by have := HE4.out; have := HF5.out; have := HBA.out.size; have := HE8.out; have := HG7.out; have := HF2.out; omega))
              have HBB : Hid (Below g w2 wb) := Lib.hid (Eff.under (below_then HB48.out HBA.out (by have := HE4.out; have := HF5.out; have := HE8.out; have := HG7.out; have := HF2.out; omega)) heb (by have := HE4.out; have := HF5.out; have := HBA.out.size; have := HE8.out; have := HG7.out; have := HF2.out; omega) (fun k hk => by have := HE4.out; have := HF5.out; have := HBA.out.size; have := HE8.out; have := HG7.out; have := HF2.out; omega))
              clear hrg hzg hob hdb heb hblkb
              have hqe := eql_fail 3 (n : Int)
              have HFA := Lib.hid (fun W (hb : Below wb.heap.size wb W) => fail_c (HKGB.out.below hb) rfl rfl)
              have HFB := Lib.hid (fun W (hb : Below wb.heap.size wb W) => fail_c (HKB.out.below hb) rfl rfl)
              go_wp2_with fail
              have HS0 : Hid (Below wb.heap.size wb wb) := Lib.hid (Below.refl _ _)
              go_region_held3 (fun w' => Hid (Below wb.heap.size wb w')) (first | with_reducible assumption | exact Lib.hid (below_drew1 (Below.refl _ _))) (first
                | (go_at_call_of 16 (Value.pointer (some (Addr.mk g 0 none))); refine (HFA.out _ (Hid.out (by with_reducible assumption))).mono ?_; rintro e wa ⟨rfl, hba⟩; have HBW : Hid (Below wb.heap.size wb wa) := Lib.hid (below_next (Hid.out (by with_reducible assumption)) hba); clear hba)
                | (go_at_call_of 16 (Value.pointer (some (Addr.mk f2 0 none))); refine (HFB.out _ (Hid.out (by with_reducible assumption))).mono ?_; rintro e wa ⟨rfl, hba⟩; have HBW : Hid (Below wb.heap.size wb wa) := Lib.hid (below_next (Hid.out (by with_reducible assumption)) hba); clear hba))
              all_goals go_wp2_with fail
              all_goals go_ret
              all_goals refine ⟨rfl, ?_⟩
              all_goals exact below_next (below_next HB2.out (by rw [HG.out]; exact HBB.out)) (Hid.out (by with_reducible assumption))
          · have h01 : (n : Int) > 0 := by omega
            obtain ⟨hLF, rfl, rfl⟩ := HPF.out (by omega)
            clear h0
            rw [hLF] at HO8 HC8 HLL ⊢
            have hq := neq_fail 0 0
            go_wp2_with fail
            refine (fail_c (HK8.out.below HB9.out) rfl rfl).mono ?_
            rintro e wy ⟨rfl, hby⟩
            have HBY := Lib.hid (below_next HB9.out hby)
            have HOY := Lib.hid (Go.Proofs.Ytegacgfhmigdjaa.own_below HO.out hby)
            clear hby
            go_wp2_with fail
            refine (same_c (preL s n) (by have := HLL.out; omega) A8 A9 c8 c9 _ (own_reads' (Go.Proofs.Ytegacgfhmigdjaa.own_below HO8.out HBY.out)) (own_reads' HOY.out) HC8.out HC9.out).mono ?_
            rintro e wz ⟨rfl, hbz⟩
            have HBZ := Lib.hid (below_next HBY.out hbz)
            clear hbz
            go_wp2_with fail
            refine (fail_c (HKG8.out.below HBZ.out) rfl rfl).mono ?_
            rintro e wa ⟨rfl, hba⟩
            have HBA := Lib.hid (below_next HBZ.out hba)
            clear hba
            rcases hcase with ⟨hne, hc⟩ | ⟨hc, rfl, rfl⟩
            · have hc1 : (n : Int) = (s.size : Int) := by omega
              clear hc
              go_wp2_with fail
              go_ret
              exact ⟨rfl, below_next (below_next HB2.out (by rw [HG.out]; exact HB48.out)) HBA.out⟩
            · have hc1 : (n : Int) + 1 ≤ (s.size : Int) := by omega
              have HC := Lib.hid hc
              clear hc
              go_wp2_with fail
              rw [show (min ((n : Int) + 1) (s.size : Int)).toNat = n + 1 by omega]
              have hrg := bad_read s m (by rw [HN.out]; exact HC.out)
              rw [HN.out] at hrg
              have hzg : (s.extract 0 (n + 1) ++ m).size = n + 1 + m.size := size_pre s _ (n + 1) HC.out
              refine (read_at (s.extract 0 (n + 1) ++ m) f2 _ (HF8.out.below HBA.out) (by have := HSZ.out; have := HMZ.out; omega) [] false 3 n hrg).mono ?_
              rintro e wb ⟨vb, lvb, rfl, hob, hdb, heb⟩
              obtain ⟨tvb, hblkb⟩ := hdb.blk
              have HKB := Lib.hid hblkb
              have HKGB := Lib.hid ((HKG8.out.below HBA.out).eff heb (by have := HE4.out; have := HF5.out; have := HBA.out.size; have := HE8.out; have := HG7.out; have := HF2.out; omega))
              have HBB : Hid (Below g w2 wb) := Lib.hid (Eff.under (below_then HB48.out HBA.out (by have := HE4.out; have := HF5.out; have := HE8.out; have := HG7.out; have := HF2.out; omega)) heb (by have := HE4.out; have := HF5.out; have := HBA.out.size; have := HE8.out; have := HG7.out; have := HF2.out; omega) (fun k hk => by have := HE4.out; have := HF5.out; have := HBA.out.size; have := HE8.out; have := HG7.out; have := HF2.out; omega))
              clear hrg hzg hob hdb heb hblkb
              have hqe := eql_fail 3 (n : Int)
              have HFA := Lib.hid (fun W (hb : Below wb.heap.size wb W) => fail_c (HKGB.out.below hb) rfl rfl)
              have HFB := Lib.hid (fun W (hb : Below wb.heap.size wb W) => fail_c (HKB.out.below hb) rfl rfl)
              go_wp2_with fail
              have HS0 : Hid (Below wb.heap.size wb wb) := Lib.hid (Below.refl _ _)
              go_region_held3 (fun w' => Hid (Below wb.heap.size wb w')) (first | with_reducible assumption | exact Lib.hid (below_drew1 (Below.refl _ _))) (first
                | (go_at_call_of 16 (Value.pointer (some (Addr.mk g 0 none))); refine (HFA.out _ (Hid.out (by with_reducible assumption))).mono ?_; rintro e wa ⟨rfl, hba⟩; have HBW : Hid (Below wb.heap.size wb wa) := Lib.hid (below_next (Hid.out (by with_reducible assumption)) hba); clear hba)
                | (go_at_call_of 16 (Value.pointer (some (Addr.mk f2 0 none))); refine (HFB.out _ (Hid.out (by with_reducible assumption))).mono ?_; rintro e wa ⟨rfl, hba⟩; have HBW : Hid (Below wb.heap.size wb wa) := Lib.hid (below_next (Hid.out (by with_reducible assumption)) hba); clear hba))
              all_goals go_wp2_with fail
              all_goals go_ret
              all_goals refine ⟨rfl, ?_⟩
              all_goals exact below_next (below_next HB2.out (by rw [HG.out]; exact HBB.out)) (Hid.out (by with_reducible assumption))
end Go.Proofs.Ytegacgfhmigdjaa
