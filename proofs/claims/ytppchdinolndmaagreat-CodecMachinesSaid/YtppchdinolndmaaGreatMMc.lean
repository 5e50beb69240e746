/- Joined texts: Mc. -/
import Derived.Test.YtppchdinolndmaaGreatMCo
import Derived.Test.YtppchdinolndmaaGreatMCe
import Derived.StillTailTactics
import Derived.Deep.CutBlock
import Derived.WalkMore
/- pilcrowlaw18.CodecMachines over whatever encoder and decoder. -/
namespace Go.Proofs.YtppchdinolndmaaGreat
open Go.RowKit Go.Proofs.YtppchdinolndmaaGreatW.PrintWords
set_option linter.unusedVariables false
set_option linter.unusedSimpArgs false
theorem drop_drop1 {l : List Int} {i : Nat} (hi : i < l.length) : l.drop i = l.getD i 0 :: l.drop (i + 1) := by
 rw [List.drop_eq_getElem_cons hi, List.getD_eq_getElem?_getD, List.getElem?_eq_getElem hi]; rfl
theorem doneE_false {M : EMach} {D : ESt M} (h : ¬ (D.err = 0 ∧ D.en = false)) (hk : D.kept ≠ []) : (!D.going && D.kept.isEmpty) = false := by
 cases hh : D.kept with
 | nil => exact absurd hh hk
 | cons a b => simp
theorem goingE_false {M : EMach} {D : ESt M} (h : ¬ (D.err = 0 ∧ D.en = false)) : D.going = false := by
 unfold ESt.going
 rcases Bool.eq_false_or_eq_true (D.err == 0 && !D.en) with hh | hh
 ·simp at hh; exact absurd hh h
 ·exact hh
theorem goingD_false {M : DMach} {D : DSt M} (h : ¬ (D.err = 0 ∧ D.en = false)) : D.going = false := by
 unfold DSt.going
 rcases Bool.eq_false_or_eq_true (D.err == 0 && !D.en) with hh | hh
 ·simp at hh; exact absurd hh h
 ·exact hh
set_option maxRecDepth 100000 in
set_option maxHeartbeats 16000000 in
theorem machines_in {c : Int} (hc0 : 1 ≤ c) (hc1 : c ≤ 10) {M : EMach} {MD : DMach} {tg : TypeId} {fF fE : Nat} {Rep : World → Nat → (Nat → Prop) → ESt M → Prop} (K : EncK tg fF fE M Rep) (HN : NewE c tg M Rep) (HNA : NilM tg "Feed")
  {td : TypeId} {gF gE : Nat} {RepD : World → Nat → (Nat → Prop) → DSt MD → Prop} (KD : DecK td gF gE MD RepD) (HND : NewD c td MD RepD) (HNAD : NilM td "Feed")
  (s : ByteArray) (hs : s.size ≤ 100) (A : Option Addr) (cp : Nat) (l : List Int) (hl : l.length ≤ 60) (R RD : List Int × Int × Int) (hi0 : InvE M R (ESt.new M) l []) (hRl : R.1.length ≤ 9 * l.length + 9) (hd0 : InvD MD RD (DSt.new MD) (bytesOf s) []) (hDl : RD.1.length ≤ s.size)
  (henc : ∀ (v : Value) (base : Nat) (W : World), QRow W base 47 1 v l.length (nums .u32 l) → Calls Tryz.prog 8 #[.int .i64 c, v] W fun e w' => e = .returned (.tuple #[.string (strOf R.1), .agg #[.int .i64 R.2.1, .int .i64 R.2.2]]) ∧ Below W.heap.size W w')
  (hdec : ∀ W : World, Calls Tryz.prog 9 #[.int .i64 c, .string s] W fun e w' => ∃ A1 c1, e = .returned (.tuple #[.slice A1 RD.1.length c1, .agg #[.int .i64 RD.2.1, .int .i64 RD.2.2]]) ∧ RD.1.length ≤ c1 ∧ ReadsInt w' .u32 A1 RD.1.length RD.1 ∧ Below W.heap.size W w')
  (w : World) (hr : ReadsInt w .u32 A l.length l) (hcp : l.length ≤ cp) (h0 : ∀ y ∈ l, 0 ≤ y) :
  Calls Tryz.prog 3 #[.int .i64 c, .slice A l.length cp, .string s] w fun e w' => e = .returned (.bool true) ∧ Below w.heap.size w w' := by
 have HAW := Lib.hid (fun W => cawake_c W)
 have HR := Lib.hid hr
 have HI0 := Lib.hid hi0
 have HD0 := Lib.hid hd0
 have HENC := Lib.hid henc
 have HDEC := Lib.hid hdec
 have HSC := Lib.hid h0
 have HLN := Lib.hid (And.intro hRl hDl)
 clear hr hi0 hd0 henc hdec h0 hRl hDl
 go_enter Tryz.func3, Tryz.ntmps3
 go_wp2_with fail
 refine (HAW.out _).mono ?_
 rintro e w1 ⟨rfl, hb1⟩
 have HB1 := Lib.hid hb1
 clear hb1
 have hl1 : ¬ (l.length : Int) > 60 := by omega
 have hs1 : ¬ (s.size : Int) > 100 := by omega
 go_upto_region 4 with (go_at_call 6; refine (HN _).mono ?_; rintro e w2 ⟨g, F, rfl, hb2, hr2, hF2⟩)
 go_upto_region 5 with (go_at_call 7; refine (HND _).mono ?_; rintro e w3 ⟨gd, Fd, rfl, hb3, hr3, hF3⟩)
 have HM3 : Hid (MAt Rep RepD w w3 g F (ESt.new M) gd Fd (DSt.new MD)) := Lib.hid
  ⟨K.eff hr2 (Eff.of_below hb3 (fun _ => False)) (fun _ _ h => h), hr3, below_next (below_next HB1.out hb2) hb3, fun k hk => Nat.le_trans HB1.out.size (hF2 k hk), fun k hk => Nat.le_trans (below_next HB1.out hb2).size (hF3 k hk), fun k hk hd => absurd (K.lt hr2 k hk) (Nat.not_lt.2 (hF3 k hd))⟩
 clear hb2 hr2 hF2 hb3 hr3 hF3 HB1 HAW hl1 hs1
 go_upto_block 0 with fail
 go_cut [11, 12] (fun s11 s12 wx => ∃ (D : ESt M) (o X : List Int) (F' : Nat → Prop), s11 = .string (strOf o) ∧ Hid (InvE M R D X o ∧ (X = [] ∨ ¬ D.err = 0) ∧ D.pos ≤ 100) ∧ Hid (MAt Rep RepD w wx g F' D gd Fd (DSt.new MD)))
 case first =>
  go_wp2_with fail
  go_loopg [11, 12, 13] (muO R (ESt.new M) l []) (fun kq s11 s12 s13 wx => ∃ (i k : Nat) (D : ESt M) (o : List Int) (F' : Nat → Prop), s11 = .string (strOf o) ∧ s12 = .int .i64 i ∧ s13 = .int .i64 k ∧ Hid (kq = muO R D (l.drop i) o ∧ k + kq ≤ 10 * l.length + 10 ∧ i ≤ l.length ∧ D.pos = i ∧ D.en = false) ∧ Hid (InvE M R D (l.drop i) o) ∧ Hid (MAt Rep RepD w wx g F' D gd Fd (DSt.new MD)))
  case atStart => exact ⟨0, 0, ESt.new M, [], F, rfl, rfl, rfl, Lib.hid ⟨rfl, by
   have := HLN.out.1
   show 0 + (l.length + (R.1.length - 0) + (if (0 : Int) = 0 ∧ false = false then 1 else 0)) ≤ _
   rw [if_pos ⟨rfl, rfl⟩]; omega, Nat.zero_le _, rfl, rfl⟩, HI0, HM3⟩
  case round =>
   obtain ⟨i, k, D, o, F', rfl, rfl, rfl, HK, HI, HM⟩ := hrel
   clear HM3
   have hi0 : (0 : Int) ≤ (i : Int) := by omega
   have hkk : (k : Int) < 20 * (l.length : Int) + 20 := by have := HK.out.2.1; omega
   have hkk0 : (0 : Int) ≤ (k : Int) := by omega
   have hfl := K.fail HM.out.rep
   have hile : i ≤ l.length := HK.out.2.2.1
   have hfe := fun (a b : Value) (w : World) => field_agg0 a b w
   by_cases hd : D.err = 0
   ·rw [hd] at hfl
    have HFL := Lib.hid hfl
    have HD := Lib.hid hd
    clear hfl hd
    by_cases hi : i < l.length
    ·have hi1 : (i : Int) < (l.length : Int) := by omega
     go_upto_region 14 with (rw [K.invW]; refine Calls.mono HFL.out ?_; rintro e w4 ⟨rfl, hb4⟩)
     have hM4 := HM.out.below K KD hb4
     obtain ⟨ad, rfl, hcell⟩ := ReadsInt.at_ (HR.out.below hM4.bel) (i : Int) hi0 hi1
     rw [Int.toNat_natCast, show rd l (i : Int) = l.getD i 0 by simp [rd]] at hcell
     have hx0 := HSC.out (l.getD i 0) (by rw [List.getD_eq_getElem?_getD, List.getElem?_eq_getElem hi]; exact List.getElem_mem hi)
     have hadb : ¬ F' (ad.add i).block := fun hf => by
      have h1 := hM4.low _ hf
      obtain ⟨ad', h', hc'⟩ := ReadsInt.at_ HR.out (i : Int) hi0 hi1
      injection h' with h'
      subst h'
      have h2 := World.block_lt_of_cell? w _ hc'
      rw [Int.toNat_natCast] at h2
      omega
     have hInv := HI.out
     rw [drop_drop1 hi] at hInv
     obtain ⟨x, hx⟩ : ∃ x, l.getD i 0 = x := ⟨_, rfl⟩
     have hdx := drop_drop1 hi
     rw [hx] at hcell hx0 hInv hdx
     have hst := oneE_step hInv ⟨HD.out, HK.out.2.2.2.2⟩
     have hpos := stepE_pos M 1 [x] D
     have hle := HI.out.len
     have hle2 := hst.1.len
     have hlen := HLN.out.1
     have hfeed : ∀ W, Below w4.heap.size w4 W → Calls Tryz.prog fF #[.pointer (some ⟨g, 0, none⟩), .slice (some (ad.add i)) 1 (cp - i), .int .i64 1] W fun e w' => ∃ F7, e = .returned (.tuple #[.int .i64 (stepE M 1 [x] D).1, .string (strOf (stepE M 1 [x] D).2.1)]) ∧ MAt Rep RepD w w' g F7 (stepE M 1 [x] D).2.2 gd Fd (DSt.new MD) := fun W hW => by
      have hM5 := hM4.below K KD hW
      refine (feed1 K hM5.rep (ad.add i) (cp - i) x ((hW.cell (World.block_lt_of_cell? _ _ hcell)).trans hcell) hx0 hadb (by have := HK.out.2.2.2.1; omega) (by omega)).mono ?_
      rintro e w' ⟨F7, rfl, h1, h2, h3⟩
      exact ⟨F7, rfl, hM5.enc K KD h1 h2 h3⟩
     rw [List.length_append] at hle2
     rw [← hdx, List.drop_drop] at hst
     obtain ⟨n, hn⟩ : ∃ n, (stepE M 1 [x] D).1 = n := ⟨_, rfl⟩
     obtain ⟨T, hT⟩ : ∃ T, (stepE M 1 [x] D).2.1 = T := ⟨_, rfl⟩
     obtain ⟨D2, hD2⟩ : ∃ D2, (stepE M 1 [x] D).2.2 = D2 := ⟨_, rfl⟩
     simp only [hn, hT, hD2] at hfeed hst hpos hle2
     have HFEED := Lib.hid hfeed
     have HST := Lib.hid hst
     have HPOS := Lib.hid hpos
     have hn1 : n ≤ 1 := hst.2.1
     have hcat : ∀ W, (Op.stringOp .add (strOf o) (strOf T)).run Tryz.prog W = .ok (.string (strOf o ++ strOf T)) W := fun W => run_string_add_sum W _ _ (by rw [strOf_size, strOf_size]; omega)
     have hcut1 := mcut ad l.length cp i hi hcp
     have hna := fun (n : Nat) (w : World) => HNA n g w
     have hmf : ∀ (fn : Fn) (first cap : Array Value) (w : World), (Instr.makeFunc fn first cap).run Tryz.prog w = .ok (.func fn first cap) w := fun _ _ _ _ => rfl
     have hil : (i : Int) + 1 ≤ (l.length : Int) := by omega
     have hwi : IntKind.i64.wrap ((i : Int) + 1) = (i : Int) + 1 := by rw [IntKind.wrap_i64]; omega
     have hlc : (l.length : Int) ≤ (cp : Int) := by omega
     clear hn hT hD2 hfeed hst hpos hle hle2 hlen hInv hcell hadb hx hx0 hM4 hb4 hdx HI HM
     go_cut [14, 15] (fun s14 s15 wx => s14 = .int .i64 n ∧ s15 = .string (strOf T) ∧ ∃ F7, Hid (MAt Rep RepD w wx g F7 D2 gd Fd (DSt.new MD)))
     case first =>
      go_region_with (rw [K.invF]; refine Calls.mono (HFEED.out _ (by first | exact Below.refl _ _ | exact below_drew1 (Below.refl _ _))) ?_; rintro e w5 ⟨F7, rfl, h7⟩; have H7 := Lib.hid h7; clear h7)
      all_goals (go_wp2_with fail; go_meet)
      all_goals exact ⟨rfl, rfl, F7, H7⟩
     case rest =>
      obtain ⟨rfl, rfl, F7, HM7⟩ := hcut
      have hn0 : (0 : Int) ≤ (n : Int) := by omega
      have hnn : (n : Int) ≤ 1 := by omega
      clear hcut1 hna hmf HFEED
      go_wp2_with fail
      go_roundg (muO R D2 (l.drop (i + n)) (o ++ T))
      case measure => have := HST.out.2.2.2; have := HK.out.1; omega
      case rel =>
       refine ⟨i + n, k + 1, D2, o ++ T, F7, by rw [strOf_append], by go_num, by go_num, Lib.hid ⟨rfl, ?_, ?_, ?_, HST.out.2.2.1⟩, Lib.hid HST.out.1, HM7⟩
       ·have := HST.out.2.2.2; have := HK.out.1; have := HK.out.2.1; omega
       ·omega
       ·rw [HPOS.out, HK.out.2.2.2.1]
    ·have hi1 : ¬ (i : Int) < (l.length : Int) := by omega
     go_wp2_with (rw [K.invW]; refine Calls.mono HFL.out ?_; rintro e w4 ⟨rfl, hb4⟩; have HM4 := Lib.hid (HM.out.below K KD hb4); clear hb4)
     go_meet
     exact ⟨D, o, l.drop i, F', rfl, Lib.hid ⟨HI.out, .inl (List.drop_eq_nil_of_le (by omega)), by have := HK.out.2.2.2.1; omega⟩, HM4⟩
   ·have hdb : (D.err == 0) = false := beq_eq_false_iff_ne.2 hd
    have HFL := Lib.hid hfl
    have HD := Lib.hid hd
    clear hfl hd
    go_wp2_with (rw [K.invW]; refine Calls.mono HFL.out ?_; rintro e w4 ⟨rfl, hb4⟩; have HM4 := Lib.hid (HM.out.below K KD hb4); clear hb4)
    go_meet
    exact ⟨D, o, l.drop i, F', rfl, Lib.hid ⟨HI.out, .inr HD.out, by have := HK.out.2.2.2.1; omega⟩, HM4⟩
 case rest =>
  obtain ⟨D, o, X, F1, rfl, HI, HM⟩ := hcut
  clear HM3 HI0
  have hfn := K.fin HM.out.rep (by have := HI.out.2.2; omega) (by have := HI.out.1.len; have := HLN.out.1; omega)
  obtain ⟨hng, hRR⟩ := endE_fin HI.out.1 HI.out.2.1
  have hpp := endE_pos M D
  obtain ⟨D6, hD6⟩ : ∃ D6, endE M D = D6 := ⟨_, rfl⟩
  rw [hD6] at hfn hng hRR hpp
  have HFN := Lib.hid hfn
  have H6 : Hid (¬ (D6.err = 0 ∧ D6.en = false) ∧ R = (o ++ D6.kept, D6.err, D6.fat) ∧ D6.pos ≤ 100) := Lib.hid ⟨hng, hRR, by rw [hpp]; exact HI.out.2.2⟩
  clear hfn hng hRR hpp hD6 HI
  go_upto_region 20 with (rw [K.invE]; refine Calls.mono HFN.out ?_; rintro e w6 ⟨F6, rfl, h6, he6, hF6⟩)
  have HM6 := Lib.hid (HM.out.enc K KD h6 he6 hF6)
  clear h6 he6 hF6 HM HFN
  go_upto_block 2 with fail
  go_cut [11] (fun s11 wx => ∃ (D : ESt M) (F' : Nat → Prop), s11 = .string (strOf R.1) ∧ Hid (D.going = false ∧ D.kept = [] ∧ R.2 = (D.err, D.fat)) ∧ Hid (MAt Rep RepD w wx g F' D gd Fd (DSt.new MD)))
  case first =>
   go_wp2_with fail
   go_loopg [11, 16] D6.kept.length (fun kq s11 s16 wx => ∃ (k : Nat) (D : ESt M) (o : List Int) (F' : Nat → Prop), s11 = .string (strOf o) ∧ s16 = .int .i64 k ∧ Hid (kq = D.kept.length ∧ k + kq ≤ 9 * l.length + 9 ∧ (¬ (D.err = 0 ∧ D.en = false) ∧ R = (o ++ D.kept, D.err, D.fat) ∧ D.pos ≤ 100)) ∧ Hid (MAt Rep RepD w wx g F' D gd Fd (DSt.new MD)))
   case atStart =>
    refine ⟨0, D6, o, F6, rfl, rfl, Lib.hid ⟨rfl, ?_, H6.out⟩, HM6⟩
    have h1 := H6.out.2.1
    have h2 := HLN.out.1
    rw [h1] at h2
    simp only [List.length_append] at h2
    omega
   case round =>
    obtain ⟨k, D, o, F', rfl, rfl, HK, HM⟩ := hrel
    clear HM6 H6
    have hkk : (k : Int) < 20 * (l.length : Int) + 20 := by have := HK.out.2.1; omega
    have hkk0 : (0 : Int) ≤ (k : Int) := by omega
    have hdone := K.done HM.out.rep
    by_cases hk : D.kept = []
    ·rw [hk, goingE_false HK.out.2.2.1] at hdone
     have HDN := Lib.hid hdone
     have HKN := Lib.hid hk
     clear hdone hk
     go_wp2_with (rw [K.invD]; refine Calls.mono HDN.out ?_; rintro e w7 ⟨rfl, rfl⟩)
     go_meet
     have hRR := HK.out.2.2.2.1
     rw [HKN.out, List.append_nil] at hRR
     exact ⟨D, F', by rw [hRR], Lib.hid ⟨goingE_false HK.out.2.2.1, HKN.out, by rw [hRR]⟩, HM⟩
    ·rw [doneE_false HK.out.2.2.1 hk] at hdone
     have HDN := Lib.hid hdone
     have hdr := drainE HK.out.2.2.1 HK.out.2.2.2.1 hk
     have hln : o.length + D.kept.length ≤ 9 * l.length + 9 := by
      have h1 := HK.out.2.2.2.1
      have h2 := HLN.out.1
      rw [h1] at h2
      simp only [List.length_append] at h2
      exact h2
     have hfd := feed0 K HM.out.rep (by have := HK.out.2.2.2.2; omega) (by omega)
     have hps : (stepE M 1 [] D).2.2.pos = D.pos := rfl
     have htl : (stepE M 1 [] D).2.1.length ≤ D.kept.length := by rw [stepE_nil]; exact List.length_take_le' ..
     obtain ⟨T, hT⟩ : ∃ T, (stepE M 1 [] D).2.1 = T := ⟨_, rfl⟩
     obtain ⟨D2, hD2⟩ : ∃ D2, (stepE M 1 [] D).2.2 = D2 := ⟨_, rfl⟩
     rw [hT, hD2] at hfd hdr
     rw [hD2] at hps
     rw [hT] at htl
     have HFD := Lib.hid hfd
     have HDR := Lib.hid (And.intro hdr hps)
     have hcat : ∀ W, (Op.stringOp .add (strOf o) (strOf T)).run Tryz.prog W = .ok (.string (strOf o ++ strOf T)) W := fun W => run_string_add_sum W _ _ (by rw [strOf_size, strOf_size]; omega)
     clear hdone hdr hfd hps hT hD2 hk hln htl
     go_upto_region 24 with (first
      | (rw [K.invD]; refine Calls.mono HDN.out ?_; rintro e w7 ⟨rfl, rfl⟩)
      | (rw [K.invF]; refine Calls.mono HFD.out ?_; rintro e w8 ⟨F8, rfl, h8, he8, hF8⟩))
     have HM8 := Lib.hid (HM.out.enc K KD h8 he8 hF8)
     clear h8 he8 hF8 HM HFD HDN
     go_wp2_with fail
     go_roundg D2.kept.length
     case measure => have := HDR.out.1.2.2; have := HK.out.1; omega
     case rel =>
      refine ⟨k + 1, D2, o ++ T, F8, by rw [strOf_append], by go_num, Lib.hid ⟨rfl, ?_, HDR.out.1.1, HDR.out.1.2.1, by rw [HDR.out.2]; exact HK.out.2.2.2.2⟩, HM8⟩
      have := HDR.out.1.2.2; have := HK.out.1; have := HK.out.2.1; omega
  case rest =>
   obtain ⟨DE, FE, rfl, HE, HM⟩ := hcut
   clear HM6 H6
   have HRW0 := Lib.hid (MRow.nil HM.out)
   clear HM
   go_upto_block 4 with fail
   go_cut [12, 19] (fun s12 s19 wx => ∃ (D : DSt MD) (o X : List Int) (F' : Nat → Prop), Hid (InvD MD RD D X o ∧ (X = [] ∨ ¬ D.err = 0) ∧ D.pos ≤ 200) ∧ Hid (MRow Rep RepD w wx g FE DE gd F' D s19 o))
   case first =>
    go_wp2_with fail
    go_loopg [12, 19, 20] (muP RD (DSt.new MD) (bytesOf s) []) (fun kq s12 s19 s20 wx => ∃ (i k : Nat) (D : DSt MD) (o : List Int) (F' : Nat → Prop), s12 = .int .i64 i ∧ s20 = .int .i64 k ∧ Hid (kq = muP RD D ((bytesOf s).drop i) o ∧ k + kq ≤ 2 * s.size + 1 ∧ i ≤ s.size ∧ D.pos = i ∧ D.en = false) ∧ Hid (InvD MD RD D ((bytesOf s).drop i) o) ∧ Hid (MRow Rep RepD w wx g FE DE gd F' D s19 o))
    case atStart => exact ⟨0, 0, DSt.new MD, [], Fd, rfl, rfl, Lib.hid ⟨rfl, by
     have := HLN.out.2
     show 0 + ((bytesOf s).length + (RD.1.length - 0) + (if (0 : Int) = 0 ∧ false = false then 1 else 0)) ≤ _
     rw [if_pos ⟨rfl, rfl⟩, bytesOf_length]; omega, Nat.zero_le _, rfl, rfl⟩, HD0, HRW0⟩
    case round =>
     obtain ⟨i, k, D, o, F', rfl, rfl, HK, HI, HM⟩ := hrel
     clear HRW0
     have hi0 : (0 : Int) ≤ (i : Int) := by omega
     have hkk : (k : Int) < 20 * (s.size : Int) + 20 := by have := HK.out.2.1; omega
     have hkk0 : (0 : Int) ≤ (k : Int) := by omega
     have hfl := KD.fail HM.out.mat.repd
     have hile : i ≤ s.size := HK.out.2.2.1
     have hfe := fun (a b : Value) (w : World) => field_agg0 a b w
     by_cases hd : D.err = 0
     ·rw [hd] at hfl
      have HFL := Lib.hid hfl
      have HD := Lib.hid hd
      clear hfl hd
      by_cases hi : i < s.size
      ·have hi1 : (i : Int) < (s.size : Int) := by omega
       have hil : (i : Int) + 1 ≤ (s.size : Int) := by omega
       have hwi : IntKind.i64.wrap ((i : Int) + 1) = (i : Int) + 1 := by rw [IntKind.wrap_i64]; omega
       go_upto_region 30 with (rw [KD.invW]; refine Calls.mono HFL.out ?_; rintro e w9 ⟨rfl, hb9⟩)
       have hM9 := HM.out.below K KD hb9
       have hib : i < (bytesOf s).length := by rw [bytesOf_length]; exact hi
       have hInv := HI.out
       have hdx := drop_drop1 hib
       have hb1e := bytes_one s i hi
       rw [hdx] at hInv
       obtain ⟨x, hx⟩ : ∃ x, (bytesOf s).getD i 0 = x := ⟨_, rfl⟩
       rw [hx] at hInv hdx hb1e
       have hst := oneD_step hInv ⟨HD.out, HK.out.2.2.2.2⟩
       have hpos : (tellD MD [x] D).2.2.pos = D.pos + (tellD MD [x] D).1 := feedD_pos MD 1 [x] D
       have hle := HI.out.len
       have hle2 := hst.1.len
       have hlen := HLN.out.2
       have hsz1 : (s.extract i (i + 1)).size ≤ 1 := by rw [ByteArray.size_extract]; omega
       obtain ⟨b, hbq⟩ : ∃ b, s.extract i (i + 1) = b := ⟨_, rfl⟩
       have HBQ := Lib.hid hbq
       rw [hbq] at hb1e hsz1
       have hfeed : ∀ W, Below w9.heap.size w9 W → Calls Tryz.prog gF #[.pointer (some ⟨gd, 0, none⟩), .string b, .int .i64 1] W fun e w' => ∃ A c F7, e = .returned (.tuple #[.int .i64 (tellD MD [x] D).1, .slice A (tellD MD [x] D).2.1.length c]) ∧ ReadsInt w' .u32 A (tellD MD [x] D).2.1.length (tellD MD [x] D).2.1 ∧ MRow Rep RepD w w' g FE DE gd F7 (tellD MD [x] D).2.2 u19 o := fun W hW => by
        have hM5 := hM9.below K KD hW
        have h := feedD1 KD hM5.mat.repd b hsz1 (by have := HK.out.2.2.2.1; omega) (by omega)
        rw [hb1e] at h
        refine h.mono ?_
        rintro e w' ⟨A, c, F7, rfl, h0, h1, h2, h3⟩
        exact ⟨A, c, F7, rfl, h0, hM5.dec K KD h1 h2 h3⟩
       rw [List.length_append] at hle2
       rw [← hdx, List.drop_drop] at hst
       obtain ⟨n, hn⟩ : ∃ n, (tellD MD [x] D).1 = n := ⟨_, rfl⟩
       obtain ⟨T, hT⟩ : ∃ T, (tellD MD [x] D).2.1 = T := ⟨_, rfl⟩
       obtain ⟨D2, hD2⟩ : ∃ D2, (tellD MD [x] D).2.2 = D2 := ⟨_, rfl⟩
       simp only [hn, hT, hD2] at hfeed hst hpos hle2
       have HFEED := Lib.hid hfeed
       have HST := Lib.hid hst
       have HPOS := Lib.hid hpos
       have hn1 : n ≤ 1 := hst.2.1
       have hlnT : (o.length + T.length) * 4 ≤ 140737488355328 := by omega
       have hna := fun (n : Nat) (w : World) => HNAD n gd w
       have hmf : ∀ (fn : Fn) (first cap : Array Value) (w : World), (Instr.makeFunc fn first cap).run Tryz.prog w = .ok (.func fn first cap) w := fun _ _ _ _ => rfl
       clear hn hT hD2 hfeed hst hpos hle hle2 hlen hInv hx hM9 hb9 hdx HI HM hb1e hsz1 hib
       have hsl : ∀ W : World, (Instr.slice 9 (.string s) (some (.int .i64 (i : Int))) (some (.int .i64 ((i : Int) + 1))) none).run Tryz.prog W = .ok (.string b) W := fun W => by
        have := run_slice_string (P := Tryz.prog) W 9 s .i64 .i64 (i : Int) ((i : Int) + 1) Tryz.underlying9 hi0 (by omega) hil
        rw [Int.toNat_natCast, show ((i : Int) + 1).toNat = i + 1 by omega, HBQ.out] at this
        exact this
       go_cut [21, 22] (fun s21 s22 wx => s21 = .int .i64 n ∧ ∃ A c F7, s22 = .slice A T.length c ∧ Hid (ReadsInt wx .u32 A T.length T) ∧ Hid (MRow Rep RepD w wx g FE DE gd F7 D2 u19 o))
       case first =>
        go_region_with (rw [KD.invF]; refine Calls.mono (HFEED.out _ (by first | exact Below.refl _ _ | exact below_drew1 (Below.refl _ _))) ?_; rintro e w5 ⟨A7, c7, F7, rfl, h6, h7⟩; have H6 := Lib.hid h6; have H7 := Lib.hid h7; clear h6 h7)
        all_goals (go_wp2_with fail; go_meet)
        all_goals exact ⟨rfl, A7, c7, F7, rfl, H6, H7⟩
       case rest =>
        obtain ⟨rfl, A7, c7, F7, rfl, H6, HM7⟩ := hcut
        have hn0 : (0 : Int) ≤ (n : Int) := by omega
        have hnn : (n : Int) ≤ 1 := by omega
        have hq7 := HM7.out.row
        have hro := H6.out
        have hsz7 := HM7.out.mat.bel.size
        clear hsl hna hmf HFEED
        go_wp2_with (at_builtin; refine q_append_row w.heap.size rfl _ _ 22 47 .u32 4 rfl rfl info_u32 (by decide) u19 o T A7 T.length c7 rfl rfl hq7 hro hsz7 hlnT ?_; intro v1 w8 hq8 hg8 hv8)
        have HM8 := Lib.hid (HM7.out.app K KD hq8 hg8 hv8)
        clear hq7 hro hsz7 hq8 hg8 hv8
        go_roundg (muP RD D2 ((bytesOf s).drop (i + n)) (o ++ T))
        case measure => have := HST.out.2.2.2; have := HK.out.1; omega
        case rel =>
         refine ⟨i + n, k + 1, D2, o ++ T, F7, by go_num, by go_num, Lib.hid ⟨rfl, ?_, ?_, ?_, HST.out.2.2.1⟩, Lib.hid HST.out.1, HM8⟩
         ·have := HST.out.2.2.2; have := HK.out.1; have := HK.out.2.1; omega
         ·omega
         ·rw [HPOS.out, HK.out.2.2.2.1]
      ·have hi1 : ¬ (i : Int) < (s.size : Int) := by omega
       go_wp2_with (rw [KD.invW]; refine Calls.mono HFL.out ?_; rintro e w9 ⟨rfl, hb9⟩; have HM9 := Lib.hid (HM.out.below K KD hb9); clear hb9)
       go_meet
       exact ⟨D, o, (bytesOf s).drop i, F', Lib.hid ⟨HI.out, .inl (List.drop_eq_nil_of_le (by rw [bytesOf_length]; omega)), by have := HK.out.2.2.2.1; omega⟩, HM9⟩
     ·have hdb : (D.err == 0) = false := beq_eq_false_iff_ne.2 hd
      have HFL := Lib.hid hfl
      have HD := Lib.hid hd
      clear hfl hd
      go_wp2_with (rw [KD.invW]; refine Calls.mono HFL.out ?_; rintro e w9 ⟨rfl, hb9⟩; have HM9 := Lib.hid (HM.out.below K KD hb9); clear hb9)
      go_meet
      exact ⟨D, o, (bytesOf s).drop i, F', Lib.hid ⟨HI.out, .inr HD.out, by have := HK.out.2.2.2.1; omega⟩, HM9⟩
   case rest =>
    obtain ⟨D, o, X, F3, HI, HM⟩ := hcut
    clear HRW0 HD0
    have hfn := KD.fin HM.out.mat.repd (by have := HI.out.2.2; omega) (by have := HI.out.1.len; have := HLN.out.2; omega)
    obtain ⟨hng, hRR⟩ := endD_fin HI.out.1 HI.out.2.1
    have hpp := endD_pos MD D
    obtain ⟨D6, hD6⟩ : ∃ D6, endD MD D = D6 := ⟨_, rfl⟩
    rw [hD6] at hfn hng hRR hpp
    have HFN := Lib.hid hfn
    have H6 : Hid (¬ (D6.err = 0 ∧ D6.en = false) ∧ RD = (o ++ D6.held, D6.err, D6.fat) ∧ D6.pos ≤ 200) := Lib.hid ⟨hng, hRR, by rw [hpp]; exact HI.out.2.2⟩
    clear hfn hng hRR hpp hD6 HI
    go_upto_region 36 with (rw [KD.invE]; refine Calls.mono HFN.out ?_; rintro e w6 ⟨F6, rfl, h6, he6, hF6⟩)
    have HM6 := Lib.hid (HM.out.dec K KD h6 he6 hF6)
    clear h6 he6 hF6 HM HFN
    go_upto_block 6 with fail
    go_cut [19] (fun s19 wx => ∃ (D : DSt MD) (F' : Nat → Prop), Hid (D.going = false ∧ D.held = [] ∧ RD.2 = (D.err, D.fat)) ∧ Hid (MRow Rep RepD w wx g FE DE gd F' D s19 RD.1))
    case first =>
     go_wp2_with fail
     go_loopg [19, 23] D6.held.length (fun kq s19 s23 wx => ∃ (k : Nat) (D : DSt MD) (o : List Int) (F' : Nat → Prop), s23 = .int .i64 k ∧ Hid (kq = D.held.length ∧ k + kq ≤ s.size ∧ (¬ (D.err = 0 ∧ D.en = false) ∧ RD = (o ++ D.held, D.err, D.fat) ∧ D.pos ≤ 200)) ∧ Hid (MRow Rep RepD w wx g FE DE gd F' D s19 o))
     case atStart =>
      refine ⟨0, D6, o, F6, rfl, Lib.hid ⟨rfl, ?_, H6.out⟩, HM6⟩
      have h1 := H6.out.2.1
      have h2 := HLN.out.2
      rw [h1] at h2
      simp only [List.length_append] at h2
      omega
     case round =>
      obtain ⟨k, D, o, F', rfl, HK, HM⟩ := hrel
      clear HM6 H6
      have hkk : (k : Int) < 20 * (s.size : Int) + 20 := by have := HK.out.2.1; omega
      have hkk0 : (0 : Int) ≤ (k : Int) := by omega
      have hdone := KD.done HM.out.mat.repd
      by_cases hk : D.held = []
      ·rw [hk, goingD_false HK.out.2.2.1] at hdone
       have HDN := Lib.hid hdone
       have HKN := Lib.hid hk
       clear hdone hk
       go_wp2_with (rw [KD.invD]; refine Calls.mono HDN.out ?_; rintro e w7 ⟨rfl, rfl⟩)
       go_meet
       have hRR := HK.out.2.2.2.1
       rw [HKN.out, List.append_nil] at hRR
       exact ⟨D, F', Lib.hid ⟨goingD_false HK.out.2.2.1, HKN.out, by rw [hRR]⟩, Lib.hid (by rw [hRR]; exact HM.out)⟩
      ·have hdf : (!D.going && D.held.isEmpty) = false := by
        cases hh : D.held with
        | nil => exact absurd hh hk
        | cons a b => simp
       rw [hdf] at hdone
       have HDN := Lib.hid hdone
       have hdr := drainD HK.out.2.2.1 HK.out.2.2.2.1 hk
       have hln : o.length + D.held.length ≤ s.size := by
        have h1 := HK.out.2.2.2.1
        have h2 := HLN.out.2
        rw [h1] at h2
        simp only [List.length_append] at h2
        exact h2
       have hfd := feedD1 KD HM.out.mat.repd ⟨#[]⟩ (by decide) (by have := HK.out.2.2.2.2; omega) (by omega)
       rw [bytesOf_nil] at hfd
       have hps : (tellD MD [] D).2.2.pos = D.pos := rfl
       have htl : (tellD MD [] D).2.1.length ≤ D.held.length := List.length_take_le' ..
       have hn0 : (tellD MD [] D).1 = 0 := rfl
       rw [hn0] at hfd
       obtain ⟨T, hT⟩ : ∃ T, (tellD MD [] D).2.1 = T := ⟨_, rfl⟩
       obtain ⟨D2, hD2⟩ : ∃ D2, (tellD MD [] D).2.2 = D2 := ⟨_, rfl⟩
       rw [hT, hD2] at hfd hdr
       rw [hD2] at hps
       rw [hT] at htl
       have HFD := Lib.hid hfd
       have HDR := Lib.hid (And.intro hdr hps)
       have hlnT : (o.length + T.length) * 4 ≤ 140737488355328 := by omega
       clear hdone hdr hfd hps hT hD2 hk hln htl hn0 hdf
       go_upto_region 40 with (first
        | (rw [KD.invD]; refine Calls.mono HDN.out ?_; rintro e w7 ⟨rfl, rfl⟩)
        | (rw [KD.invF]; refine Calls.mono HFD.out ?_; rintro e w8 ⟨A8, c8, F8, rfl, hro, h8, he8, hF8⟩))
       have HM8 := Lib.hid (HM.out.dec K KD h8 he8 hF8)
       clear h8 he8 hF8 HM HFD HDN
       have hq8 := HM8.out.row
       have hsz8 := HM8.out.mat.bel.size
       go_wp2_with (at_builtin; refine q_append_row w.heap.size rfl _ _ 22 47 .u32 4 rfl rfl info_u32 (by decide) u19 o T A8 T.length c8 rfl rfl hq8 hro hsz8 hlnT ?_; intro v1 w9 hq9 hg9 hv9)
       have HM9 := Lib.hid (HM8.out.app K KD hq9 hg9 hv9)
       clear hq8 hro hsz8 hq9 hg9 hv9
       go_roundg D2.held.length
       case measure => have := HDR.out.1.2.2; have := HK.out.1; omega
       case rel =>
        refine ⟨k + 1, D2, o ++ T, F8, by go_num, Lib.hid ⟨rfl, ?_, HDR.out.1.1, HDR.out.1.2.1, by rw [HDR.out.2]; exact HK.out.2.2.2.2⟩, HM9⟩
        have := HDR.out.1.2.2; have := HK.out.1; have := HK.out.2.1; omega
    case rest =>
     obtain ⟨DD, FD, HDD, HM⟩ := hcut
     clear HM6 H6
     obtain ⟨A9, c9, rfl, hc9, _, hr9⟩ := q_slice2 HM.out.row
     have HR9 := Lib.hid hr9
     have hq0 := q_empty wc wc.heap.size (Nat.le_refl _)
     have hr0 : ReadsInt (wc.alloc (.cells #[] 47 (0, 0))) .u32 A l.length l := HR.out.below (below_new HM.out.mat.bel _)
     have hz0 : wc.heap.size ≤ (wc.alloc (.cells #[] 47 (0, 0))).heap.size := by rw [World.size_alloc]; omega
     have hlen : (([] : List Int).length + l.length) * 4 ≤ 140737488355328 := by simp only [List.length_nil]; omega
     have HDL : Hid (RD.1.length ≤ 1000000000) := Lib.hid (by have := HLN.out.2; omega)
     clear hr9
     go_upto_region 42 with (first
      | (at_builtin; refine q_append_row wc.heap.size rfl _ _ 22 47 .u32 4 rfl rfl info_u32 (by decide) _ [] l A l.length cp rfl rfl hq0 hr0 hz0 hlen ?_; intro v1 w10 hq10 hg10 hv10)
      | (go_at_call 8; refine (HENC.out _ _ _ hq10).mono ?_; rintro e w11 ⟨rfl, hb11⟩))
     have hB10 : Below wc.heap.size wc w10 := Eff.under (below_new (Below.refl _ _) _) (Eff.of_grown hg10) hz0 (fun k hk => by injection hk with hk; rw [hk]; exact Nat.le_refl _)
     obtain ⟨W12, hW12⟩ : ∃ W, w11.alloc (.cells #[.int .i64 R.2.1, .int .i64 R.2.2] 34 (0, 0)) = W := ⟨_, rfl⟩
     have k12 : Blk W12 w11.heap.size 34 #[.int .i64 R.2.1, .int .i64 R.2.2] := by rw [← hW12]; exact Blk.new w11 _ _
     have hB12 : Below wc.heap.size wc W12 := by rw [← hW12]; exact below_new (below_next hB10 hb11) _
     rw [hW12]
     obtain ⟨f12, hf12⟩ : ∃ b, w11.heap.size = b := ⟨_, rfl⟩
     rw [hf12] at k12 ⊢
     have HK12 := Lib.hid k12
     have HB12 := Lib.hid hB12
     clear hq0 hr0 hz0 hlen hq10 hg10 hv10 hb11 hB10 hW12 k12 hB12 hf12
     go_upto_region 43 with (go_at_call 9; refine (HDEC.out _).mono ?_; rintro e w13 ⟨A13, c13, rfl, hc13, hr13, hb13⟩)
     obtain ⟨W14, hW14⟩ : ∃ W, w13.alloc (.cells #[.int .i64 RD.2.1, .int .i64 RD.2.2] 34 (0, 0)) = W := ⟨_, rfl⟩
     have k14 : Blk W14 w13.heap.size 34 #[.int .i64 RD.2.1, .int .i64 RD.2.2] := by rw [← hW14]; exact Blk.new w13 _ _
     have hd14 : Below W12.heap.size W12 W14 := by rw [← hW14]; exact below_new hb13 _
     have k12 := HK12.out.below hd14
     have HR13 : Hid (ReadsInt W14 .u32 A13 RD.1.length RD.1) := Lib.hid (by rw [← hW14]; exact hr13.below (below_new (Below.refl _ _) _))
     have HB14 := Lib.hid (below_next HB12.out hd14)
     rw [hW14]
     obtain ⟨f14, hf14⟩ : ∃ b, w13.heap.size = b := ⟨_, rfl⟩
     rw [hf14] at k14 ⊢
     have HKB : Hid (∀ W, Below W14.heap.size W14 W → W.cell? ⟨f12, 0, none⟩ = some (.int .i64 R.2.1) ∧ W.cell? ⟨f12, 1, none⟩ = some (.int .i64 R.2.2) ∧ W.cell? ⟨f14, 0, none⟩ = some (.int .i64 RD.2.1) ∧ W.cell? ⟨f14, 1, none⟩ = some (.int .i64 RD.2.2)) := Lib.hid fun W hW =>
      ⟨(k12.below hW).cell rfl, (k12.below hW).cell rfl, (k14.below hW).cell rfl, (k14.below hW).cell rfl⟩
     have HMW : Hid (∀ W, Below W14.heap.size W14 W → MRow Rep RepD w W g FE DE gd FD DD (.slice A9 RD.1.length c9) RD.1) := Lib.hid fun W hW => HM.out.below K KD (below_next HB14.out hW)
     have HFE : Hid (∀ W, Below W14.heap.size W14 W → Calls Tryz.prog 100 #[.pointer (some ⟨g, 0, none⟩)] W fun e w' => e = .returned (.agg #[.int .i64 R.2.1, .int .i64 R.2.2]) ∧ Below W.heap.size W w') := Lib.hid fun W hW => by
      have h := K.fail (HMW.out W hW).mat.rep
      rw [show DE.err = R.2.1 by rw [HE.out.2.2], show DE.fat = R.2.2 by rw [HE.out.2.2]] at h
      exact h
     have HFD : Hid (∀ W, Below W14.heap.size W14 W → Calls Tryz.prog 100 #[.pointer (some ⟨gd, 0, none⟩)] W fun e w' => e = .returned (.agg #[.int .i64 RD.2.1, .int .i64 RD.2.2]) ∧ Below W.heap.size W w') := Lib.hid fun W hW => by
      have h := KD.fail (HMW.out W hW).mat.repd
      rw [show DD.err = RD.2.1 by rw [HDD.out.2.2], show DD.fat = RD.2.2 by rw [HDD.out.2.2]] at h
      exact h
     have HNE : Hid (∀ W, Below W14.heap.size W14 W → Calls Tryz.prog 98 #[.pointer (some ⟨g, 0, none⟩)] W fun e w' => e = .returned (.bool true) ∧ W = w') := Lib.hid fun W hW => by
      have h := K.done (HMW.out W hW).mat.rep
      rw [HE.out.1, HE.out.2.1] at h
      exact h
     have HND2 : Hid (∀ W, Below W14.heap.size W14 W → Calls Tryz.prog 189 #[.pointer (some ⟨gd, 0, none⟩)] W fun e w' => e = .returned (.bool true) ∧ W = w') := Lib.hid fun W hW => by
      have h := KD.done (HMW.out W hW).mat.repd
      rw [HDD.out.1, HDD.out.2.1] at h
      exact h
     have HSA : Hid (∀ W, Below W14.heap.size W14 W → Calls Tryz.prog 10 #[.slice A9 RD.1.length c9, .slice A13 RD.1.length c13] W fun e w' => e = .returned (.bool true) ∧ Below W.heap.size W w') := Lib.hid fun W hW =>
      same_c RD.1 HDL.out A9 A13 c9 c13 W (HR9.out.below (below_next HB14.out hW)) (HR13.out.below hW) hc9 hc13
     have HBW := Lib.hid (below_next HM.out.mat.bel HB14.out)
     have q1 := fun W => eql_fail R.2.1 R.2.2 W
     have q2 := fun W => eql_fail RD.2.1 RD.2.2 W
     clear k12 k14 hd14 hr13 hb13 hW14 hf14 HK12 HB12 HR9 HR13 HM HMW HE HDD HDL hc9 hc13 HB14 HENC HDEC HR HSC HLN
     obtain ⟨r1, hr1⟩ : ∃ x, R.2.1 = x := ⟨_, rfl⟩
     obtain ⟨r2, hr2⟩ : ∃ x, R.2.2 = x := ⟨_, rfl⟩
     obtain ⟨d1, hd1⟩ : ∃ x, RD.2.1 = x := ⟨_, rfl⟩
     obtain ⟨d2, hd2⟩ : ∃ x, RD.2.2 = x := ⟨_, rfl⟩
     obtain ⟨tx, htx⟩ : ∃ x, strOf R.1 = x := ⟨_, rfl⟩
     simp only [hr1, hr2, hd1, hd2, htx] at HKB HFE HFD q1 q2 ⊢
     clear hr1 hr2 hd1 hd2 htx
     go_region_held3 (fun w' => w'.cell? ⟨f12, 0, none⟩ = some (.int .i64 r1) ∧ w'.cell? ⟨f12, 1, none⟩ = some (.int .i64 r2) ∧ w'.cell? ⟨f14, 0, none⟩ = some (.int .i64 d1) ∧ w'.cell? ⟨f14, 1, none⟩ = some (.int .i64 d2)) (first | with_reducible assumption | (refine HKB.out _ ?_; repeat (first | with_reducible exact Below.refl _ _ | with_reducible assumption | with_reducible apply below_alloc | with_reducible apply pw_below_drewN | with_reducible apply below_drew1)))
      (first
       | (go_at_call 10; refine (HSA.out _ (by repeat (first | with_reducible exact Below.refl _ _ | with_reducible assumption | with_reducible apply below_alloc | with_reducible apply pw_below_drewN | with_reducible apply below_drew1))).mono ?_; rintro e w17 ⟨rfl, hb17⟩; have hB17 : Below W14.heap.size W14 w17 := below_next (by repeat (first | with_reducible exact Below.refl _ _ | with_reducible assumption | with_reducible apply below_alloc | with_reducible apply pw_below_drewN | with_reducible apply below_drew1)) hb17; have hS17 := HKB.out _ hB17; clear hb17)
       | (rw [K.invW]; refine Calls.mono (HFE.out _ (by repeat (first | with_reducible exact Below.refl _ _ | with_reducible assumption | with_reducible apply below_alloc | with_reducible apply pw_below_drewN | with_reducible apply below_drew1))) ?_; rintro e w15 ⟨rfl, hb15⟩; have hB15 : Below W14.heap.size W14 w15 := below_next (by repeat (first | with_reducible exact Below.refl _ _ | with_reducible assumption | with_reducible apply below_alloc | with_reducible apply pw_below_drewN | with_reducible apply below_drew1)) hb15; have hS15 := HKB.out _ hB15; clear hb15)
       | (rw [KD.invW]; refine Calls.mono (HFD.out _ (by repeat (first | with_reducible exact Below.refl _ _ | with_reducible assumption | with_reducible apply below_alloc | with_reducible apply pw_below_drewN | with_reducible apply below_drew1))) ?_; rintro e w18 ⟨rfl, hb18⟩; have hB18 : Below W14.heap.size W14 w18 := below_next (by repeat (first | with_reducible exact Below.refl _ _ | with_reducible assumption | with_reducible apply below_alloc | with_reducible apply pw_below_drewN | with_reducible apply below_drew1)) hb18; have hS18 := HKB.out _ hB18; clear hb18)
       | (rw [K.invD]; refine Calls.mono (HNE.out _ (by repeat (first | with_reducible exact Below.refl _ _ | with_reducible assumption | with_reducible apply below_alloc | with_reducible apply pw_below_drewN | with_reducible apply below_drew1))) ?_; rintro e w16 ⟨rfl, rfl⟩)
       | (rw [KD.invD]; refine Calls.mono (HND2.out _ (by repeat (first | with_reducible exact Below.refl _ _ | with_reducible assumption | with_reducible apply below_alloc | with_reducible apply pw_below_drewN | with_reducible apply below_drew1))) ?_; rintro e w19 ⟨rfl, rfl⟩)
       | fail)
     all_goals go_wp2_with fail
     all_goals go_ret
     all_goals exact ⟨rfl, below_next HBW.out (by repeat (first | with_reducible exact Below.refl _ _ | with_reducible assumption | with_reducible apply below_alloc | with_reducible apply pw_below_drewN | with_reducible apply below_drew1))⟩
end Go.Proofs.YtppchdinolndmaaGreat
