/- Joined texts: Ta. -/
import Derived.Test.YtmgnndnofbemeaaGreatMTb
import Derived.Test.YtmgnndnofbemeaaGreatME16
import Derived.Test.YtmgnndnofbemeaaGreatMSb
import Derived.Test.YtmgnndnofbemeaaGreatMDv
import Derived.Test.YtmgnndnofbemeaaGreatMUstp
import Derived.Test.YtmgnndnofbemeaaGreatMBase
import Derived.Test.YtmgnndnofbemeaaGreatMSame
import Derived.RegionTactic
/- awake of pilcrowlaw25 answers true. -/
namespace Go.Proofs.YtmgnndnofbemeaaGreat
open Go.RowKit Go.Proofs.YtmgnndnofbemeaaGreatW.PrintWords
set_option linter.unusedVariables false
set_option linter.unusedSimpArgs false
theorem t_dec1 : runD DV DV.ini (bytesOf ⟨#[195, 169]⟩) 0 [] = ([233], 0, 0) := by kernel_rfl
theorem t_dec2 : runD DV DV.ini (bytesOf ⟨#[65, 195]⟩) 0 [] = ([65], 4, 2) := by kernel_rfl
theorem t_enc1 : runE (E16 true) (E16 true).ini [233] 0 [] = ([0, 233], 0, 0) := by decide
theorem t_enc2 : runE (E16 true) (E16 true).ini [65] 0 [] = ([0, 65], 0, 0) := by decide
theorem t_str1 : strOf [0, 233] = ⟨#[0, 233]⟩ := by kernel_rfl
theorem t_str2 : strOf [0, 65] = ⟨#[0, 65]⟩ := by kernel_rfl
theorem name_ne (c : Int) (h : c = 1 ∨ c = 2) : ¬ (nameF c).toList = [] := by
 rw [ByteArray.toList_eq]
 rcases h with rfl | rfl <;> decide
set_option maxRecDepth 100000 in
set_option maxHeartbeats 4000000 in
theorem trtext_c (s : ByteArray) (x e1 a1 : Int) (bs : List Int) (T : ByteArray) (hs : s.size ≤ 4000) (hd : runD DV DV.ini (bytesOf s) 0 [] = ([x], e1, a1)) (hx : 0 ≤ x) (he : runE (E16 true) (E16 true).ini [x] 0 [] = (bs, 0, 0)) (hb : bs.length ≤ 4000) (hT : strOf bs = T) (w : World) :
  Calls Tryz.prog 24 #[.int .i64 1, .int .i64 2, .string s] w fun e w' => e = .returned (.tuple #[.string T, .agg #[.int .i64 e1, .int .i64 a1]]) ∧ Below w.heap.size w w' := by
 have HN1 := Lib.hid (fun W => name_calls 1 W)
 have HN2 := Lib.hid (fun W => name_calls 2 W)
 have h1 := name_ne 1 (.inl rfl)
 have h2 := name_ne 2 (.inr rfl)
 obtain ⟨M1, hM1⟩ : ∃ N, nameF 1 = N := ⟨_, rfl⟩
 obtain ⟨M2, hM2⟩ : ∃ N, nameF 2 = N := ⟨_, rfl⟩
 rw [hM1] at HN1 h1
 rw [hM2] at HN2 h2
 have d1 : decide (M1.toList = []) = false := decide_eq_false h1
 have d2 : decide (M2.toList = []) = false := decide_eq_false h2
 have i1 : M1.toList.isEmpty = false := by cases h : M1.toList with | nil => exact absurd h h1 | cons a r => rfl
 have i2 : M2.toList.isEmpty = false := by cases h : M2.toList with | nil => exact absurd h h2 | cons a r => rfl
 have HDEC : Hid (∀ W : World, Calls Tryz.prog 14 #[.int .i64 1, .string s] W fun e w' => ∃ A c, e = .returned (.tuple #[.slice (some A) 1 c, .agg #[.int .i64 e1, .int .i64 a1]]) ∧ 1 ≤ c ∧ ReadsInt w' .u32 (some A) 1 [x] ∧ Below W.heap.size W w') := Lib.hid fun W => by
  have h := decode_c kV newD1 DV_one s hs (by rw [hd]; simp) W
  rw [hd] at h
  refine h.mono ?_
  rintro e w' ⟨v, rfl, hq, hbw⟩
  rcases hq.2 with ⟨h0, _⟩ | ⟨g, off, cap, cur, rfl, hg, hr⟩
  ·exact absurd h0 (by simp)
  ·exact ⟨_, cap, rfl, hr.2.1, q_reads hq, hbw⟩
 have HENC : Hid (∀ (W : World) (A : Addr) (c : Nat), 1 ≤ c → ReadsInt W .u32 (some A) 1 [x] → Calls Tryz.prog 13 #[.int .i64 2, .slice (some A) 1 c] W fun e w' => e = .returned (.tuple #[.string T, .agg #[.int .i64 0, .int .i64 0]]) ∧ Below W.heap.size W w') := Lib.hid fun W A c hc hr => by
  have h := encode_c (k16 true) newE2 4 (fun _ c => bytes16_len true c) (fun _ => Nat.zero_le _) [x] (by intro y hy; simp at hy; rw [hy]; exact hx) (by simp) (by simp) (by rw [he]; show bs.length ≤ 4096; omega) (some A) c hc (fun h => by cases h) W hr
  rw [he] at h
  simp only [hT] at h
  exact h
 clear hM1 hM2 h1 h2 hd he hT hb hx hs
 go_enter Tryz.func24, Tryz.ntmps24
 go_wp2_with fail
 refine (HN1.out _).mono ?_
 rintro e w1 ⟨rfl, hb1⟩
 have k7 := (Blk.new w 27 #[.int .i64 0, .int .i64 0]).below hb1
 have HB1 := Lib.hid (below_then (below_new (Below.refl _ _) _) hb1 (by simp))
 have K7 := Lib.hid k7
 clear hb1 k7 HN1
 go_wp2_with fail
 refine (HN2.out _).mono ?_
 rintro e w2 ⟨rfl, hb2⟩
 have HB2 := Lib.hid (below_next HB1.out hb2)
 have K7 := Lib.hid (K7.out.below hb2)
 clear hb2 HN2 HB1
 go_wp2_with fail
 refine (HDEC.out _).mono ?_
 rintro e w3 ⟨A, cp, rfl, hcp, hrd, hb3⟩
 have HB3 := Lib.hid (below_next HB2.out hb3)
 have K7 := Lib.hid (K7.out.below hb3)
 have HRD := Lib.hid hrd
 clear hb3 HB2 hrd
 go_upto_region 4 with fail
 obtain ⟨W3, hW3⟩ : ∃ W, w3.alloc (.cells #[.int .i64 e1, .int .i64 a1] 27 (0, 0)) = W := ⟨_, rfl⟩
 have k9 : Blk W3 w3.heap.size 27 #[.int .i64 e1, .int .i64 a1] := by rw [← hW3]; exact Blk.new w3 _ _
 have K7 : Hid (Blk W3 w.heap.size 27 #[.int .i64 0, .int .i64 0]) := Lib.hid (by rw [← hW3]; exact K7.out.alloc _)
 have hrd : ReadsInt W3 .u32 (some A) 1 [x] := by rw [← hW3]; exact HRD.out.below (below_new (Below.refl _ _) _)
 have hd : Below w.heap.size w W3 := by rw [← hW3]; exact below_new HB3.out _
 rw [hW3]
 obtain ⟨g9, hg9⟩ : ∃ g, w3.heap.size = g := ⟨_, rfl⟩
 rw [hg9] at k9 ⊢
 have K9 := Lib.hid k9
 have HD := Lib.hid hd
 have HEN := Lib.hid (HENC.out W3 A cp hcp hrd)
 clear k9 hrd hd hW3 hg9 HRD HB3 HENC HDEC
 go_wp2_with fail
 refine HEN.out.mono ?_
 rintro e w4 ⟨rfl, hb4⟩
 have HD4 := Lib.hid (below_next HD.out hb4)
 have K7 := Lib.hid (K7.out.below hb4)
 have K9 := Lib.hid (K9.out.below hb4)
 clear hb4 HD HEN
 go_upto_region 5 with fail
 obtain ⟨W4, hW4⟩ : ∃ W, w4.alloc (.cells #[.int .i64 0, .int .i64 0] 27 (0, 0)) = W := ⟨_, rfl⟩
 have k9 : Blk W4 g9 27 #[.int .i64 e1, .int .i64 a1] := by rw [← hW4]; exact K9.out.alloc _
 have k7 : Blk W4 w.heap.size 27 #[.int .i64 0, .int .i64 0] := by rw [← hW4]; exact K7.out.alloc _
 have hd : Below w.heap.size w W4 := by rw [← hW4]; exact below_new HD4.out _
 rw [hW4]
 have b90 := k9.cell (i := 0) rfl
 have b91 := k9.cell (i := 1) rfl
 have b70 := k7.cell (i := 0) rfl
 have b71 := k7.cell (i := 1) rfl
 have f7 := k7.frozen
 have K7 := Lib.hid k7
 have HD := Lib.hid hd
 clear k9 k7 hd hW4 HD4 K9
 go_region
 go_wp2_with fail
 refine bodyPost_ret (results_list (rs := [.tmp 6, .cell 7 27]) rfl (by simp) (.tmp (.cell w.heap.size 27 #[.int .i64 e1, .int .i64 a1] (0, 0) _ rfl (by
   refine blk_drew ?_
   refine blk_put (cs := #[.int .i64 e1, .int .i64 0]) ?_ 1 _ rfl
   refine blk_put (cs := #[.int .i64 0, .int .i64 0]) ?_ 0 _ rfl
   exact K7.out) Tryz.underlying27 rfl (by kernel_rfl) .nil))) rfl ?_
 exact ⟨rfl, below_drewN' (below_set (below_set HD.out (Nat.le_refl _)) (Nat.le_refl _)) 1⟩
abbrev TPi : TypeId := 186
set_option maxRecDepth 100000 in
set_option maxHeartbeats 4000000 in
theorem trnew_c (w : World) : Calls Tryz.prog 58 #[.int .i64 1, .int .i64 2, .int .i64 1] w fun e w' => ∃ g gd F x, e = .returned (.tuple #[.pointer (some ⟨g, 0, none⟩), .int .i64 0]) ∧ Blk w' g TPi #[.iface 100 (.pointer (some ⟨gd, 0, none⟩)), x, .int .i64 1, .slice none 0 0] ∧ GRep TDV DV EV w' gd F (DSt.new DV) ∧ Below w.heap.size w w' := by
 have HD := Lib.hid (fun W => newD1 W)
 have HE := Lib.hid (fun W => newE2 W)
 go_enter Tryz.func58, Tryz.ntmps58
 go_wp2_with fail
 refine (HD.out _).mono ?_
 rintro e w1 ⟨gd, F, rfl, hb1, hr1, _⟩
 have HB1 := Lib.hid hb1
 have HR1 := Lib.hid hr1
 clear hb1 hr1
 go_wp2_with fail
 refine (HE.out _).mono ?_
 rintro e w2 ⟨ge, F2, rfl, hb2, _, _⟩
 have HB2 := Lib.hid (below_next HB1.out hb2)
 have HR2 := Lib.hid (kV.eff HR1.out (Eff.of_below hb2 (fun _ => False)) (fun _ _ h => h))
 clear hb2
 go_wp2_with fail
 refine bodyPost_ret (results_list (rs := [.tmp 6, .tmp 7]) rfl (by simp) (.tmp (.tmp .nil))) rfl ?_
 exact ⟨_, gd, F, _, rfl, Blk.new _ _ _, kV.eff HR2.out (Eff.alloc _ _ (fun _ => False)) (fun _ _ h => h), below_new HB2.out _⟩
theorem pheld_c {w : World} {g : Nat} {v0 v1 v2 : Value} (hb : Blk w g TPi #[v0, v1, v2, .slice none 0 0]) : Calls Tryz.prog 59 #[.pointer (some ⟨g, 0, none⟩)] w fun e w' => e = .returned (.int .i64 0) ∧ w' = w := by
 have c3 := hb.cell (i := 3) rfl
 clear hb
 go_enter Tryz.func59, Tryz.ntmps59
 go_wp2_with fail
 go_ret
 exact ⟨rfl, rfl⟩
set_option maxRecDepth 100000 in
set_option maxHeartbeats 4000000 in
theorem pdone_c {w : World} {g gd : Nat} {F : Nat → Prop} {v1 v2 : Value} (hb : Blk w g TPi #[.iface 100 (.pointer (some ⟨gd, 0, none⟩)), v1, v2, .slice none 0 0]) (hr : GRep TDV DV EV w gd F (DSt.new DV)) :
  Calls Tryz.prog 60 #[.pointer (some ⟨g, 0, none⟩)] w fun e w' => e = .returned (.bool false) ∧ w' = w := by
 have c0 := hb.cell (i := 0) rfl
 have hdn := kV.done hr
 have HDN : Hid (Calls Tryz.prog 220 #[.pointer (some ⟨gd, 0, none⟩)] w fun e w' => e = .returned (.bool false) ∧ w = w') := Lib.hid hdn
 clear hb hr hdn
 go_enter Tryz.func60, Tryz.ntmps60
 go_wp2_with (rw [kV.invD]; refine Calls.mono HDN.out ?_; rintro e w1 ⟨rfl, rfl⟩)
 go_ret
 exact ⟨rfl, rfl⟩
set_option maxRecDepth 100000 in
set_option maxHeartbeats 4000000 in
theorem tawake_c (w : World) : Calls Tryz.prog 23 #[] w fun e w' => e = .returned (.bool true) ∧ Below w.heap.size w w' := by
 have H1 := Lib.hid (fun W => trtext_c ⟨#[195, 169]⟩ 233 0 0 [0, 233] ⟨#[0, 233]⟩ (by decide) t_dec1 (by decide) t_enc1 (by decide) t_str1 W)
 have H2 := Lib.hid (fun W => trtext_c ⟨#[65, 195]⟩ 65 4 2 [0, 65] ⟨#[0, 65]⟩ (by decide) t_dec2 (by decide) t_enc2 (by decide) t_str2 W)
 have H3 := Lib.hid (fun W => trans_to 1 0 5 (by decide) (by decide) (.inl (by decide)) W)
 have H4 := Lib.hid (fun W => trnew_c W)
 go_enter Tryz.func23, Tryz.ntmps23
 go_wp2_with fail
 refine (H1.out _).mono ?_
 rintro e w1 ⟨rfl, hb1⟩
 have HB1 := Lib.hid hb1
 clear hb1 H1
 go_upto_region 2 with fail
 obtain ⟨W1, hW1⟩ : ∃ W, w1.alloc (.cells #[.int .i64 0, .int .i64 0] 27 (0, 0)) = W := ⟨_, rfl⟩
 have k1 : Blk W1 w1.heap.size 27 #[.int .i64 0, .int .i64 0] := by rw [← hW1]; exact Blk.new w1 _ _
 have hd : Below w.heap.size w W1 := by rw [← hW1]; exact below_new HB1.out _
 rw [hW1]
 obtain ⟨g1, hg1⟩ : ∃ g, w1.heap.size = g := ⟨_, rfl⟩
 rw [hg1] at k1 ⊢
 have K1 := Lib.hid k1
 have HD := Lib.hid hd
 clear k1 hd hW1 hg1 HB1
 go_wp2_with fail
 refine (H2.out _).mono ?_
 rintro e w2 ⟨rfl, hb2⟩
 have HB2 := Lib.hid (below_next HD.out hb2)
 have K1 := Lib.hid (K1.out.below hb2)
 clear hb2 H2 HD
 go_upto_region 3 with fail
 obtain ⟨W2, hW2⟩ : ∃ W, w2.alloc (.cells #[.int .i64 4, .int .i64 2] 27 (0, 0)) = W := ⟨_, rfl⟩
 have k2 : Blk W2 w2.heap.size 27 #[.int .i64 4, .int .i64 2] := by rw [← hW2]; exact Blk.new w2 _ _
 have K1 : Hid (Blk W2 g1 27 #[.int .i64 0, .int .i64 0]) := Lib.hid (by rw [← hW2]; exact K1.out.alloc _)
 have hd : Below w.heap.size w W2 := by rw [← hW2]; exact below_new HB2.out _
 rw [hW2]
 obtain ⟨g2, hg2⟩ : ∃ g, w2.heap.size = g := ⟨_, rfl⟩
 rw [hg2] at k2 ⊢
 have K2 := Lib.hid k2
 have HD := Lib.hid hd
 clear k2 hd hW2 hg2 HB2
 go_wp2_with fail
 refine (H3.out _).mono ?_
 rintro e w3 ⟨rfl, hb3⟩
 have HB3 := Lib.hid (below_next HD.out hb3)
 have K1 := Lib.hid (K1.out.below hb3)
 have K2 := Lib.hid (K2.out.below hb3)
 clear hb3 H3 HD
 go_wp2_with fail
 refine (H4.out _).mono ?_
 rintro e w4 ⟨g, gd, F, x, rfl, hp, hr, hb4⟩
 have HB4 := Lib.hid (below_next HB3.out hb4)
 have k1 := K1.out.below hb4
 have k2 := K2.out.below hb4
 have a10 := k1.cell (i := 0) rfl
 have a11 := k1.cell (i := 1) rfl
 have a20 := k2.cell (i := 0) rfl
 have a21 := k2.cell (i := 1) rfl
 have HH := Lib.hid (pheld_c hp)
 have HP := Lib.hid (pdone_c hp hr)
 have q0 := fun W => eql_fail 0 0 W
 have q4 := fun W => eql_fail 4 2 W
 clear hb4 H4 HB3 K1 K2 k1 k2 hp hr
 go_wp2_with (first
  | (go_at_call 59; refine HH.out.mono ?_; rintro e w5 ⟨rfl, rfl⟩)
  | (go_at_call 60; refine HP.out.mono ?_; rintro e w6 ⟨rfl, rfl⟩))
 go_ret
 exact ⟨rfl, HB4.out⟩
end Go.Proofs.YtmgnndnofbemeaaGreat
