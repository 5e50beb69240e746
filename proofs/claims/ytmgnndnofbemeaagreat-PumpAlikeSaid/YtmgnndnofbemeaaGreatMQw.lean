/- Joined texts: Qw. -/
import Derived.Test.YtmgnndnofbemeaaGreatMUstp
import Derived.Test.YtmgnndnofbemeaaGreatMBase
import Derived.Test.YtmgnndnofbemeaaGreatMSb
import Derived.Deep.CutBlock
import Derived.WalkMore
/- pump.Write over whatever encoder (printed by wip/gen/pwrite.py). -/
namespace Go.Proofs.YtmgnndnofbemeaaGreat
open Go.RowKit Go.Proofs.YtmgnndnofbemeaaGreatW.PrintWords
set_option linter.unusedVariables false
set_option linter.unusedSimpArgs false
theorem qcut_hi (A : Option Addr) (n c mi : Nat) (hm : mi ≤ n) : ∃ A' : Option Addr, (∀ W : World, (Instr.slice 22 (.slice A n c) (some (.int .i64 (mi : Int))) none none).run Tryz.prog W = .ok (.slice A' (n - mi) (c - mi)) W) ∧
  ∀ (w : World) (k : IntKind) (xs : List Int), n ≤ c → ReadsInt w k A n xs → ReadsInt w k A' (n - mi) (xs.drop mi) := by
 obtain ⟨i0, hi0, hzz⟩ := Option.map_eq_some_iff.1 info_u32
 simp only [Prod.mk.injEq] at hzz
 exact print_cut (P := Tryz.prog) 22 48 .i64 Tryz.underlying22 hi0 hzz.2.1 A n c mi hm
theorem qcut_lo (A : Option Addr) (n c mi : Nat) (hm : mi ≤ n) (hc : n ≤ c) : ∀ W : World, (Instr.slice 22 (.slice A n c) none (some (.int .i64 (mi : Int))) none).run Tryz.prog W = .ok (.slice A mi c) W := by
 obtain ⟨i0, hi0, hzz⟩ := Option.map_eq_some_iff.1 info_u32
 have h := cut_to (P := Tryz.prog) 22 48 .i64 Tryz.underlying22 hi0 A n c (mi : Int) (by omega) (by omega) hc
 simp only [Int.toNat_natCast] at h
 exact h
theorem roomN_le {r : List Int} (h : ∀ x ∈ r, x ≤ 9223372036854775807) (k : Nat) : roomN r k ≤ 9223372036854775807 := by
 unfold roomN
 split
 ·decide
 ·split
  ·decide
  ·rename_i h1 h2
   rw [List.getD_eq_getElem?_getD, List.getElem?_eq_getElem (by omega)]
   exact h _ (List.getElem_mem _)
theorem reads_block {w : World} {k : IntKind} {A : Option Addr} {l : List Int} (h : ReadsInt w k A l.length l) (hne : l ≠ []) (ad : Addr) (ha : A = some ad) : ad.block < w.heap.size := by
 obtain ⟨ad', h', hc⟩ := ReadsInt.at_ h 0 (by omega) (by have := List.length_pos_iff.2 hne; omega)
 rw [ha] at h'
 injection h' with h'
 subst h'
 have h1 := World.block_lt_of_cell? w _ hc
 rw [add_block] at h1
 exact h1
set_option maxRecDepth 100000 in
set_option maxHeartbeats 8000000 in
theorem pwrite_c {c : Int} {tg : TypeId} {fF fE : Nat} {M : EMach} {Rep : World → Nat → (Nat → Prop) → ESt M → Prop} (K : EncK tg fF fE M Rep) (HN : NewE c tg M Rep) (HNA : NilA tg "Feed")
  (l : List Int) (hs : l.length ≤ 4000) (hsc : ∀ x ∈ l, 0 ≤ x) (hL : (runE M M.ini l 0 []).1.length ≤ 100000) (A : Option Addr) (cp : Nat) (hcp : l.length ≤ cp) (A1 A2 : Option Addr) (c1 c2 : Nat) (p r : List Int) (w : World) (h0 : ReadsInt w .u32 A l.length l) (h1 : ReadsInt w .i64 A1 p.length p) (h2 : ReadsInt w .i64 A2 r.length r) (hp : p.length ≤ 1000) (hr : r.length ≤ 1000) (hrr : ∀ x ∈ r, x ≤ 9223372036854775807) :
  Calls Tryz.prog 21 #[.int .i64 c, .slice A l.length cp, .agg #[.slice A1 p.length c1, .slice A2 r.length c2]] w fun e w' => ∃ n, e = .returned (.tuple #[.string (strOf (runE M M.ini l 0 []).1), .agg #[.int .i64 (runE M M.ini l 0 []).2.1, .int .i64 (runE M M.ini l 0 []).2.2], .int .i64 (n : Nat)]) ∧
   n ≤ max p.length r.length + l.length + (runE M M.ini l 0 []).1.length + 1 ∧ Below w.heap.size w w' := by
 have hi0 := InvE.new M l
 obtain ⟨R, hR⟩ : ∃ R, runE M M.ini l 0 [] = R := ⟨_, rfl⟩
 rw [hR] at hi0 hL ⊢
 obtain ⟨mu0, hmu0⟩ : ∃ m, muE (max p.length r.length) R 0 (ESt.new M) l [] = m := ⟨_, rfl⟩
 have hmu : mu0 = max p.length r.length + l.length + R.1.length + 1 := by
  rw [← hmu0]
  unfold muE
  rw [if_pos ⟨rfl, rfl⟩]
  rfl
 have hbb : Below w.heap.size w ((w.alloc (.cells #[.slice A1 p.length c1, .slice A2 r.length c2] 52 (0, 0))).alloc (.cells #[.int .i64 0, .int .i64 0] 27 (0, 0))) := below_new (below_new (Below.refl _ _) _) _
 have hr0 : ReadsInt ((w.alloc (.cells #[.slice A1 p.length c1, .slice A2 r.length c2] 52 (0, 0))).alloc (.cells #[.int .i64 0, .int .i64 0] 27 (0, 0))) .u32 A l.length l := h0.below hbb
 have hr1 : ReadsInt ((w.alloc (.cells #[.slice A1 p.length c1, .slice A2 r.length c2] 52 (0, 0))).alloc (.cells #[.int .i64 0, .int .i64 0] 27 (0, 0))) .i64 A1 p.length p := h1.below hbb
 have hr2 : ReadsInt ((w.alloc (.cells #[.slice A1 p.length c1, .slice A2 r.length c2] 52 (0, 0))).alloc (.cells #[.int .i64 0, .int .i64 0] 27 (0, 0))) .i64 A2 r.length r := h2.below hbb
 have hk5 : Blk ((w.alloc (.cells #[.slice A1 p.length c1, .slice A2 r.length c2] 52 (0, 0))).alloc (.cells #[.int .i64 0, .int .i64 0] 27 (0, 0))) w.heap.size 52 #[.slice A1 p.length c1, .slice A2 r.length c2] := (Blk.new w _ _).alloc _
 have hk7 : Blk ((w.alloc (.cells #[.slice A1 p.length c1, .slice A2 r.length c2] 52 (0, 0))).alloc (.cells #[.int .i64 0, .int .i64 0] 27 (0, 0))) (w.heap.size + 1) 27 #[.int .i64 0, .int .i64 0] := by
  have := Blk.new (w.alloc (.cells #[.slice A1 p.length c1, .slice A2 r.length c2] 52 (0, 0))) 27 #[.int .i64 0, .int .i64 0]
  rwa [World.size_alloc] at this
 have hz0 : ((w.alloc (.cells #[.slice A1 p.length c1, .slice A2 r.length c2] 52 (0, 0))).alloc (.cells #[.int .i64 0, .int .i64 0] 27 (0, 0))).heap.size = w.heap.size + 2 := by rw [World.size_alloc, World.size_alloc]
 obtain ⟨W0, hW0⟩ : ∃ W0, (w.alloc (.cells #[.slice A1 p.length c1, .slice A2 r.length c2] 52 (0, 0))).alloc (.cells #[.int .i64 0, .int .i64 0] 27 (0, 0)) = W0 := ⟨_, rfl⟩
 rw [hW0] at hbb hr0 hr1 hr2 hk5 hk7 hz0
 have HBW := Lib.hid hbb
 have HR0 := Lib.hid hr0
 have HR1 := Lib.hid hr1
 have HR2 := Lib.hid hr2
 have HK5 := Lib.hid hk5
 have HK7 := Lib.hid hk7
 have HI0 := Lib.hid hi0
 have HMU := Lib.hid (And.intro hmu0 hmu)
 have HSZ := Lib.hid (And.intro hs (And.intro hL (And.intro hp hr)))
 have HSC := Lib.hid (And.intro hsc (And.intro hcp hrr))
 have HZ0 := Lib.hid hz0
 clear h0 h1 h2 hbb hr0 hr1 hr2 hk5 hk7 hi0 hmu0 hmu hs hsc hcp hrr hL hR hz0
 obtain ⟨b5, hb5⟩ : ∃ b, w.heap.size = b := ⟨_, rfl⟩
 go_enter Tryz.func21, Tryz.ntmps21
 go_upto_region 1 with fail
 try rw [hW0]
 clear hW0
 have HB5 := Lib.hid hb5
 rw [hb5] at HBW HK5 HK7 HZ0
 try rw [hb5]
 clear hb5
 go_step3
 go_upto_region 4 with (go_at_call 16; refine (HN _).mono ?_; rintro e w1 ⟨g, F, rfl, hb1, hr1, hF1⟩)
 obtain ⟨W1, hW1⟩ : ∃ W1, w1.alloc (.cells #[.pointer none, .slice none 0 0] 79 (0, 0)) = W1 := ⟨_, rfl⟩
 have hea : Eff w1 W1 (fun _ => False) := by rw [← hW1]; exact Eff.alloc _ _ _
 have hbx : BX W1 w1.heap.size W0.heap.size [] true (.slice none 0 0) := by rw [← hW1]; exact BX.new w1 _
 have hrep1 := K.eff hr1 hea (fun _ _ h => h)
 have hb01 : Below W0.heap.size W0 W1 := Eff.under hb1 hea hb1.size (fun _ h => h.elim)
 have hngb : ¬ F w1.heap.size := fun h => by have := K.lt hr1 _ h; omega
 obtain ⟨gb, hgb⟩ : ∃ gb, w1.heap.size = gb := ⟨_, rfl⟩
 have HGB1 : Hid (W0.heap.size ≤ gb) := Lib.hid (by rw [← hgb]; exact hb1.size)
 rw [hgb] at hbx hngb
 have HREL0 : Hid (Rep W1 g F (ESt.new M) ∧ BX W1 gb W0.heap.size (bytesOf (strOf [])) true (.slice none 0 0) ∧ Below W0.heap.size W0 W1 ∧ (∀ k, F k → W0.heap.size ≤ k) ∧ ¬ F gb ∧ (∀ k, (Value.slice none 0 0).ownBlock = some k → ¬ F k)) :=
  Lib.hid ⟨hrep1, hbx, hb01, hF1, hngb, fun k h => by cases h⟩
 go_upto_block 0 with fail
 clear hgb hW1 hea hbx hrep1 hb01 hb1 hr1 hF1 hngb
 go_step3
 go_upto_block 0 with fail
 go_cut [8] (fun s8 wx => ∃ (k : Nat) (D : ESt M) (F' : Nat → Prop) (no : Bool) (lv : Value), s8 = .int .i64 k ∧ Hid (k ≤ mu0) ∧ Hid (R = (R.1, D.err, D.fat)) ∧ Hid (Rep wx g F' D ∧ BX wx gb W0.heap.size (bytesOf (strOf R.1)) no lv ∧ Below W0.heap.size W0 wx))
 case first =>
  go_wp2_with fail
  go_loopg [1, 8] mu0 (fun kq s1 s8 wx => ∃ (k : Nat) (X : List Int) (A : Option Addr) (cp : Nat) (D : ESt M) (o : List Int) (F' : Nat → Prop) (no : Bool) (lv : Value), s1 = .slice A X.length cp ∧ s8 = .int .i64 k ∧ Hid (kq = muE (max p.length r.length) R k D X o ∧ k + kq ≤ mu0 ∧ D.pos + X.length = l.length) ∧ Hid (InvE M R D X o) ∧
   Hid (ReadsInt W0 .u32 A X.length X ∧ X.length ≤ cp ∧ ∀ x ∈ X, 0 ≤ x) ∧
   Hid (Rep wx g F' D ∧ BX wx gb W0.heap.size (bytesOf (strOf o)) no lv ∧ Below W0.heap.size W0 wx ∧ (∀ k, F' k → W0.heap.size ≤ k) ∧ ¬ F' gb ∧ (∀ k, lv.ownBlock = some k → ¬ F' k)))
  case atStart =>
   exact ⟨0, l, A, cp, ESt.new M, [], F, true, .slice none 0 0, rfl, rfl, Lib.hid ⟨HMU.out.1.symm, by omega, Nat.zero_add _⟩, HI0, Lib.hid ⟨HR0.out, HSC.out.2.1, HSC.out.1⟩, HREL0⟩
  case round =>
   obtain ⟨k, X, A, cp, D, o, F', no, lv, rfl, rfl, HK, HI, HX, HR⟩ := hrel
   have hdone := K.done HR.out.1
   have hkb : (k : Int) ≤ 200000 := by have := HK.out.2.1; have := HMU.out.2; have := HSZ.out; omega
   by_cases hd : ¬ (D.err = 0 ∧ D.en = false) ∧ D.kept = []
   ·have hdt : (!D.going && D.kept.isEmpty) = true := by
     rw [hd.2]
     unfold ESt.going
     rcases Bool.eq_false_or_eq_true (D.err == 0 && !D.en) with h | h
     ·simp at h; exact absurd h hd.1
     ·rw [h]; rfl
    rw [hdt] at hdone
    have HDN := Lib.hid hdone
    have hRR : R = (o, D.err, D.fat) := by have := HI.out.no hd.1; rw [hd.2, List.append_nil] at this; exact this
    have HRR := Lib.hid hRR
    clear hdone hd hdt hRR
    go_wp2_with (rw [K.invD]; refine Calls.mono HDN.out ?_; rintro e w6 ⟨rfl, rfl⟩)
    go_meet
    refine ⟨k, D, F', no, lv, rfl, Lib.hid (by have := HK.out.2.1; omega), Lib.hid (by rw [HRR.out]), Lib.hid ⟨HR.out.1, ?_, HR.out.2.2.1⟩⟩
    rw [HRR.out]
    exact HR.out.2.1
   ·have hdf : (!D.going && D.kept.isEmpty) = false := by
     unfold ESt.going
     rcases Bool.eq_false_or_eq_true (D.err == 0 && !D.en) with h | h
     ·rw [h]; rfl
     ·rw [h]
      cases hh : D.kept with
      | nil => exact absurd ⟨(fun hx => (by rw [hx.1, hx.2] at h; cases h)), hh⟩ hd
      | cons a b => rfl
    rw [hdf] at hdone
    have HDN := Lib.hid hdone
    have HND := Lib.hid hd
    clear hdone hd hdf
    by_cases hx : X = []
    ·have hxl : ((X.length : Int) == 0) = true := by rw [hx]; rfl
     have hle := HI.out.len
     have hfin := K.fin HR.out.1 (by have := HK.out.2.2; have := HSZ.out; omega) (by have := HSZ.out; omega)
     obtain ⟨D1, hD1⟩ : ∃ D1, endE M D = D1 := ⟨_, rfl⟩
     have hI1 : InvE M R D1 X o := by have h := HI.out; rw [hx] at h ⊢; rw [← hD1]; exact h.fin
     have hn1 : ¬ (D1.err = 0 ∧ D1.en = false) := by rw [← hD1]; exact endE_not M D
     have hp1 : D1.pos = D.pos := by rw [← hD1]; exact endE_pos M D
     rw [hD1] at hfin
     have HFN := Lib.hid hfin
     have HI1 := Lib.hid hI1
     have HDD : Hid (D1 = if X = [] then endE M D else D) := Lib.hid (by rw [if_pos hx, hD1])
     clear hfin hI1 hle hD1 hx
     have hw7 : ∀ W F7, Rep W g F7 D1 → Calls Tryz.prog 129 #[.pointer (some ⟨g, 0, none⟩)] W fun e w' => e = .returned (.bool D1.kept.isEmpty) ∧ W = w' := fun W F7 h => by
      have hgf : D1.going = false := by
       unfold ESt.going
       rcases Bool.eq_false_or_eq_true (D1.err == 0 && !D1.en) with h | h
       ·simp at h; exact absurd h hn1
       ·exact h
      have := K.done h
      rw [hgf] at this
      exact this
     have HW7 := Lib.hid hw7
     have HP1 := Lib.hid (And.intro hn1 hp1)
     clear hw7 hn1 hp1
     go_upto_region 8 with (first
      | (rw [K.invD]; refine Calls.mono HDN.out ?_; rintro e w6 ⟨rfl, rfl⟩)
      | (rw [K.invE]; refine Calls.mono HFN.out ?_; rintro e w6 ⟨F6, rfl, h6, he6, hF6⟩))
     have HR6 : Hid (Rep w6 g F6 D1 ∧ BX w6 gb W0.heap.size (bytesOf (strOf o)) no lv ∧ Below W0.heap.size W0 w6 ∧ (∀ k, F6 k → W0.heap.size ≤ k) ∧ ¬ F6 gb ∧ (∀ k, lv.ownBlock = some k → ¬ F6 k)) := by
      obtain ⟨r1, r2, r3, r4, r5, r6⟩ := HR.out
      refine Lib.hid ⟨h6, r2.eff he6 r5 r6, Eff.under r3 he6 r3.size (fun k hk => r4 k hk), fun k hk => (hF6 k hk).elim (r4 k) (fun h => Nat.le_trans r3.size h), fun h => ?_, fun k hk h => ?_⟩
      ·rcases hF6 gb h with h | h
       ·exact r5 h
       ·have := r2.blk.lt; omega
      ·rcases hF6 k h with h | h
       ·exact r6 k hk h
       ·have := r2.lt k hk; omega
     have HDN7 := Lib.hid (HW7.out w6 F6 h6)
     clear h6 he6 hF6 HR HDN HFN HW7
     cases hh : D1.kept with
     | nil =>
      rw [hh] at HDN7
      have hRR : R = (o, D1.err, D1.fat) := by have := HI1.out.no HP1.out.1; rw [hh, List.append_nil] at this; exact this
      have HRR := Lib.hid hRR
      clear hRR hh
      go_wp2_with (rw [K.invD]; refine Calls.mono HDN7.out ?_; rintro e w7 ⟨rfl, rfl⟩)
      go_meet
      refine ⟨k, D1, F6, no, lv, rfl, Lib.hid (by have := HK.out.2.1; omega), Lib.hid (by rw [HRR.out]), Lib.hid ⟨HR6.out.1, ?_, HR6.out.2.2.1⟩⟩
      rw [HRR.out]
      exact HR6.out.2.1
     | cons a0 a1 =>
      rw [hh] at HDN7
      clear hh
      go_upto_region 9 with (rw [K.invD]; refine Calls.mono HDN7.out ?_; rintro e w7 ⟨rfl, rfl⟩)
      obtain ⟨w5, hw5⟩ : ∃ W, w6 = W := ⟨_, rfl⟩
      obtain rfl := hw5.symm
      have HPP : Hid (D1.pos = D.pos) := Lib.hid HP1.out.2
      clear hw5 HDN7 HP1 hxl
      have hm1 := offN_le p k X.length
      obtain ⟨m, hm⟩ : ∃ m, offN p k X.length = m := ⟨_, rfl⟩
      obtain ⟨ro, hro⟩ : ∃ z, roomN r k = z := ⟨_, rfl⟩
      have hstep := muE_step (C := max p.length r.length) (k := k) (m := m) (room := ro) HI.out (by rw [← hro]; exact roomN_pos r k) (fun hC => by rw [← hm]; unfold offN; rw [if_pos (by omega)]) HND.out HDD.out
      rw [hm] at hm1
      have hxs : (X.take m).length = m := by rw [List.length_take]; omega
      have hlen1 := HI1.out.len
      have hro1 := roomN_pos r k
      have hro2 := roomN_le HSC.out.2.2 k
      rw [hro] at hro1 hro2
      have hfd : ∀ (W : World), Below w5.heap.size w5 W → Calls Tryz.prog fF #[.pointer (some ⟨g, 0, none⟩), .slice A (X.take m).length cp, .int .i64 ro] W fun e w' => ∃ F', e = .returned (.tuple #[.int .i64 (stepE M ro (X.take m) D1).1, .string (strOf (stepE M ro (X.take m) D1).2.1)]) ∧ Rep w' g F' (stepE M ro (X.take m) D1).2.2 ∧ Eff W w' F6 ∧ (∀ k, F' k → F6 k ∨ W.heap.size ≤ k) := fun W hW =>
       K.feed A cp (X.take m) ro (K.eff HR6.out.1 (Eff.of_below hW (fun _ => False)) (fun _ _ h => h)) (by rw [hxs]; exact ((HX.out.1.below HR6.out.2.2.1).below (hW.mono (Nat.le_refl _))).take_ m hm1)
        (fun hne ad had hF => by have h1 := reads_block HX.out.1 (fun e => hne (by rw [e]; exact List.take_nil)) ad had; have := HR6.out.2.2.2.1 _ hF; omega) (fun x hx => HX.out.2.2 x (List.mem_of_mem_take hx)) (by rw [hxs]; have := HK.out.2.2; have := HSZ.out; have := HPP.out; omega) (by have := HSZ.out; omega) ⟨by omega, hro2⟩
      rw [hxs] at hfd
      have hle := stepE_le M ro (X.take m) D1
      have hpos := stepE_pos M ro (X.take m) D1
      rw [hxs] at hle
      obtain ⟨⟨n, T, D2⟩, hF⟩ : ∃ Q, stepE M ro (X.take m) D1 = Q := ⟨_, rfl⟩
      rw [hF] at hstep hfd hle hpos
      simp only at hstep hfd hle hpos
      have hnx : n ≤ X.length := by omega
      have hTl : o.length + T.length ≤ 100000 := by have h1 := hstep.1.len; rw [List.length_append] at h1; have := HSZ.out; omega
      have HST := Lib.hid hstep
      have HPOS := Lib.hid hpos
      have hof : ∀ W, Below w5.heap.size w5 W → Calls Tryz.prog 56 #[.agg #[.slice A1 p.length c1, .slice A2 r.length c2], .int .i64 k, .int .i64 X.length] W fun e w' => e = .returned (.int .i64 m) ∧ Below w5.heap.size w5 w' := fun W hW => by
       have h := offer_c A1 A2 r.length c1 c2 p k X.length W ((HR1.out.below HR6.out.2.2.1).below hW) (by omega)
       rw [hm] at h
       exact h.mono fun e w' h => ⟨h.1, below_next hW h.2⟩
      have hrm : ∀ W, Below w5.heap.size w5 W → Calls Tryz.prog 57 #[.agg #[.slice A1 p.length c1, .slice A2 r.length c2], .int .i64 k] W fun e w' => e = .returned (.int .i64 ro) ∧ Below w5.heap.size w5 w' := fun W hW => by
       have h := room_c A1 A2 p.length c1 c2 r k W ((HR2.out.below HR6.out.2.2.1).below hW) (by omega)
       rw [hro] at h
       exact h.mono fun e w' h => ⟨h.1, below_next hW h.2⟩
      have hkb5 : ∀ W, Below w5.heap.size w5 W → W.cell? ⟨b5, 0, none⟩ = some (.slice A1 p.length c1) ∧ W.cell? ⟨b5, 1, none⟩ = some (.slice A2 r.length c2) := fun W hW =>
       ⟨((HK5.out.below HR6.out.2.2.1).below hW).cell rfl, ((HK5.out.below HR6.out.2.2.1).below hW).cell rfl⟩
      have hfeed : ∀ W, Below w5.heap.size w5 W → Calls Tryz.prog fF #[.pointer (some ⟨g, 0, none⟩), .slice A m cp, .int .i64 ro] W fun e w' => ∃ F7, e = .returned (.tuple #[.int .i64 n, .string (strOf T)]) ∧ Rep w' g F7 D2 ∧ Eff w5 w' F6 ∧ (∀ k, F7 k → F6 k ∨ w5.heap.size ≤ k) := fun W hW => by
       refine Calls.mono (hfd W hW) ?_
       rintro e w' ⟨F7, rfl, hr, he, hF7⟩
       exact ⟨F7, rfl, hr, (Eff.of_below hW F6).trans he (fun _ _ h => h), fun k hk => (hF7 k hk).imp id (fun h => Nat.le_trans hW.size h)⟩
      have hlo := qcut_lo A X.length cp m hm1 HX.out.2.1
      obtain ⟨A3, hhi, hA3⟩ := qcut_hi A X.length cp n hnx
      have HA3 := Lib.hid (hA3 W0 .u32 X HX.out.2.1 HX.out.1)
      have HOF := Lib.hid hof
      have HRM := Lib.hid hrm
      have HKB5 := Lib.hid hkb5
      have HFEED := Lib.hid hfeed
      have hna := fun (n : Nat) (w : World) => HNA n g w
      have hmf : ∀ (fn : Fn) (first cap : Array Value) (w : World), (Instr.makeFunc fn first cap).run Tryz.prog w = .ok (.func fn first cap) w := fun _ _ _ _ => rfl
      clear hm hro hstep hxs hlen1 hfd hle hpos hF hof hrm hkb5 hfeed hA3 HND HDD hro1 hro2
      go_cut [12, 13] (fun s12 s13 wx => s12 = .int .i64 n ∧ s13 = .string (strOf T) ∧ ∃ F7, Hid (Rep wx g F7 D2 ∧ Eff w5 wx F6 ∧ ∀ k, F7 k → F6 k ∨ w5.heap.size ≤ k))
      case first =>
       obtain ⟨c50, c51⟩ := HKB5.out w5 (Below.refl _ _)
       go_region_with (first
        | (go_at_call 56; refine (HOF.out _ (by first | exact Below.refl _ _ | exact below_drew1 (Below.refl _ _) | exact HBR.out | exact below_drew1 HBR.out)).mono ?_; rintro e w7 ⟨rfl, hb7⟩; obtain ⟨d50, d51⟩ := HKB5.out w7 hb7; have HBO := Lib.hid hb7; clear hb7)
        | (go_at_call 57; refine (HRM.out _ (by first | exact HBO.out | exact below_drew1 HBO.out | exact Below.refl _ _ | exact below_drew1 (Below.refl _ _))).mono ?_; rintro e w8 ⟨rfl, hb8⟩; obtain ⟨e50, e51⟩ := HKB5.out w8 hb8; have HBR := Lib.hid hb8; clear hb8)
        | (rw [K.invF]; refine Calls.mono (HFEED.out _ (by first | exact HBR.out | exact HBO.out | exact below_drew1 HBR.out | exact below_drew1 HBO.out)) ?_; rintro e w9 ⟨F7, rfl, h92, h93, h94⟩; have H92 := Lib.hid (And.intro h92 (And.intro h93 h94)); clear h92 h93 h94))
       all_goals (go_wp2_with fail; go_meet)
       all_goals exact ⟨rfl, rfl, F7, H92⟩
      case rest =>
       obtain ⟨rfl, rfl, F7, H92⟩ := hcut
       have hbx := HR6.out.2.1.eff H92.out.2.1 HR6.out.2.2.2.2.1 HR6.out.2.2.2.2.2
       have hb9 := Eff.under HR6.out.2.2.1 H92.out.2.1 HR6.out.2.2.1.size (fun k hk => HR6.out.2.2.2.1 k hk)
       have HB9 := Lib.hid hb9
       have HBX := Lib.hid hbx
       have HW := Lib.hid (writeString_own gb W0.heap.size _ no lv (strOf T) _ hbx hb9.size (by rw [bytesOf_length, strOf_size, strOf_size]; omega))
       clear hbx hb9 hlo hna hmf
       go_wp2_with (go_at_call 33; refine HW.out.mono ?_; rintro e w10 ⟨rfl, lv1, hx1, he1, ha1⟩)
       go_roundg (muE (max p.length r.length) R (k + 1) D2 (X.drop n) (o ++ T))
       case measure => rw [HK.out.1]; exact HST.out.2
       case rel =>
        refine ⟨k + 1, X.drop n, A3, cp - n, D2, o ++ T, F7, false, lv1, by rw [List.length_drop], rfl, Lib.hid ⟨rfl, by have := HST.out.2; have := HK.out.1; have := HK.out.2.1; omega, by have h1 := HPOS.out; have h2 := HK.out.2.2; have h3 := HPP.out; rw [List.length_drop]; omega⟩, Lib.hid HST.out.1, Lib.hid ⟨by rw [List.length_drop]; exact HA3.out, by rw [List.length_drop]; have := HX.out.2.1; omega, fun x hx => HX.out.2.2 x (List.mem_of_mem_drop hx)⟩, ?_⟩
        obtain ⟨r1, r2, r3, r4, r5, r6⟩ := HR6.out
        obtain ⟨e1, e2, e3⟩ := H92.out
        have hg7 : ¬ F7 gb := fun h => by
         rcases e3 gb h with h | h
         ·exact r5 h
         ·have := r2.blk.lt; omega
        have hl7 : ∀ k, lv.ownBlock = some k → ¬ F7 k := fun k hk h => by
         rcases e3 k h with h | h
         ·exact r6 k hk h
         ·have := r2.lt k hk; omega
        rw [← bytesOf_append, ← strOf_append] at hx1
        have hrep := K.eff e1 he1 (fun k hk h => by
         rcases h with h | h
         ·rw [h] at hk; exact hg7 hk
         ·exact hl7 k h.symm hk)
        refine Lib.hid ⟨hrep, hx1, Eff.under HB9.out he1 HB9.out.size (fun k hk => ?_), fun k hk => (e3 k hk).elim (r4 k) (fun h => Nat.le_trans r3.size h), hg7, fun k hk hF => ?_⟩
        ·rcases hk with h | h
         ·rw [h]; exact HGB1.out
         ·exact HBX.out.ge k h.symm
        ·rcases ha1 with h | ⟨b, h, hb⟩
         ·exact hl7 k (by rw [← h]; exact hk) hF
         ·rw [hk] at h; injection h with h; have := K.lt e1 k hF; omega
    ·have HDD : Hid (D = if X = [] then endE M D else D) := Lib.hid (by rw [if_neg hx])
     have hxl : ((X.length : Int) == 0) = false := by
      have : 0 < X.length := List.length_pos_iff.2 hx
      simpa using (by omega : ¬ ((X.length : Int) = 0))
     have HI1 := HI
     have HPP : Hid (D.pos = D.pos) := Lib.hid rfl
     clear hx
     go_upto_region 9 with (rw [K.invD]; refine Calls.mono HDN.out ?_; rintro e w7 ⟨rfl, rfl⟩)
     obtain ⟨w5, hw5⟩ : ∃ W, wr = W := ⟨_, rfl⟩
     obtain rfl := hw5.symm
     obtain ⟨F6, hF6⟩ : ∃ F6, F' = F6 := ⟨_, rfl⟩
     obtain rfl := hF6.symm
     have HR6 := HR
     clear hw5 hF6 HR HDN hxl
     have hm1 := offN_le p k X.length
     obtain ⟨m, hm⟩ : ∃ m, offN p k X.length = m := ⟨_, rfl⟩
     obtain ⟨ro, hro⟩ : ∃ z, roomN r k = z := ⟨_, rfl⟩
     have hstep := muE_step (C := max p.length r.length) (k := k) (m := m) (room := ro) HI.out (by rw [← hro]; exact roomN_pos r k) (fun hC => by rw [← hm]; unfold offN; rw [if_pos (by omega)]) HND.out HDD.out
     rw [hm] at hm1
     have hxs : (X.take m).length = m := by rw [List.length_take]; omega
     have hlen1 := HI1.out.len
     have hro1 := roomN_pos r k
     have hro2 := roomN_le HSC.out.2.2 k
     rw [hro] at hro1 hro2
     have hfd : ∀ (W : World), Below w5.heap.size w5 W → Calls Tryz.prog fF #[.pointer (some ⟨g, 0, none⟩), .slice A (X.take m).length cp, .int .i64 ro] W fun e w' => ∃ F', e = .returned (.tuple #[.int .i64 (stepE M ro (X.take m) D).1, .string (strOf (stepE M ro (X.take m) D).2.1)]) ∧ Rep w' g F' (stepE M ro (X.take m) D).2.2 ∧ Eff W w' F6 ∧ (∀ k, F' k → F6 k ∨ W.heap.size ≤ k) := fun W hW =>
      K.feed A cp (X.take m) ro (K.eff HR6.out.1 (Eff.of_below hW (fun _ => False)) (fun _ _ h => h)) (by rw [hxs]; exact ((HX.out.1.below HR6.out.2.2.1).below (hW.mono (Nat.le_refl _))).take_ m hm1)
       (fun hne ad had hF => by have h1 := reads_block HX.out.1 (fun e => hne (by rw [e]; exact List.take_nil)) ad had; have := HR6.out.2.2.2.1 _ hF; omega) (fun x hx => HX.out.2.2 x (List.mem_of_mem_take hx)) (by rw [hxs]; have := HK.out.2.2; have := HSZ.out; have := HPP.out; omega) (by have := HSZ.out; omega) ⟨by omega, hro2⟩
     rw [hxs] at hfd
     have hle := stepE_le M ro (X.take m) D
     have hpos := stepE_pos M ro (X.take m) D
     rw [hxs] at hle
     obtain ⟨⟨n, T, D2⟩, hF⟩ : ∃ Q, stepE M ro (X.take m) D = Q := ⟨_, rfl⟩
     rw [hF] at hstep hfd hle hpos
     simp only at hstep hfd hle hpos
     have hnx : n ≤ X.length := by omega
     have hTl : o.length + T.length ≤ 100000 := by have h1 := hstep.1.len; rw [List.length_append] at h1; have := HSZ.out; omega
     have HST := Lib.hid hstep
     have HPOS := Lib.hid hpos
     have hof : ∀ W, Below w5.heap.size w5 W → Calls Tryz.prog 56 #[.agg #[.slice A1 p.length c1, .slice A2 r.length c2], .int .i64 k, .int .i64 X.length] W fun e w' => e = .returned (.int .i64 m) ∧ Below w5.heap.size w5 w' := fun W hW => by
      have h := offer_c A1 A2 r.length c1 c2 p k X.length W ((HR1.out.below HR6.out.2.2.1).below hW) (by omega)
      rw [hm] at h
      exact h.mono fun e w' h => ⟨h.1, below_next hW h.2⟩
     have hrm : ∀ W, Below w5.heap.size w5 W → Calls Tryz.prog 57 #[.agg #[.slice A1 p.length c1, .slice A2 r.length c2], .int .i64 k] W fun e w' => e = .returned (.int .i64 ro) ∧ Below w5.heap.size w5 w' := fun W hW => by
      have h := room_c A1 A2 p.length c1 c2 r k W ((HR2.out.below HR6.out.2.2.1).below hW) (by omega)
      rw [hro] at h
      exact h.mono fun e w' h => ⟨h.1, below_next hW h.2⟩
     have hkb5 : ∀ W, Below w5.heap.size w5 W → W.cell? ⟨b5, 0, none⟩ = some (.slice A1 p.length c1) ∧ W.cell? ⟨b5, 1, none⟩ = some (.slice A2 r.length c2) := fun W hW =>
      ⟨((HK5.out.below HR6.out.2.2.1).below hW).cell rfl, ((HK5.out.below HR6.out.2.2.1).below hW).cell rfl⟩
     have hfeed : ∀ W, Below w5.heap.size w5 W → Calls Tryz.prog fF #[.pointer (some ⟨g, 0, none⟩), .slice A m cp, .int .i64 ro] W fun e w' => ∃ F7, e = .returned (.tuple #[.int .i64 n, .string (strOf T)]) ∧ Rep w' g F7 D2 ∧ Eff w5 w' F6 ∧ (∀ k, F7 k → F6 k ∨ w5.heap.size ≤ k) := fun W hW => by
      refine Calls.mono (hfd W hW) ?_
      rintro e w' ⟨F7, rfl, hr, he, hF7⟩
      exact ⟨F7, rfl, hr, (Eff.of_below hW F6).trans he (fun _ _ h => h), fun k hk => (hF7 k hk).imp id (fun h => Nat.le_trans hW.size h)⟩
     have hlo := qcut_lo A X.length cp m hm1 HX.out.2.1
     obtain ⟨A3, hhi, hA3⟩ := qcut_hi A X.length cp n hnx
     have HA3 := Lib.hid (hA3 W0 .u32 X HX.out.2.1 HX.out.1)
     have HOF := Lib.hid hof
     have HRM := Lib.hid hrm
     have HKB5 := Lib.hid hkb5
     have HFEED := Lib.hid hfeed
     have hna := fun (n : Nat) (w : World) => HNA n g w
     have hmf : ∀ (fn : Fn) (first cap : Array Value) (w : World), (Instr.makeFunc fn first cap).run Tryz.prog w = .ok (.func fn first cap) w := fun _ _ _ _ => rfl
     clear hm hro hstep hxs hlen1 hfd hle hpos hF hof hrm hkb5 hfeed hA3 HND HDD hro1 hro2
     go_cut [12, 13] (fun s12 s13 wx => s12 = .int .i64 n ∧ s13 = .string (strOf T) ∧ ∃ F7, Hid (Rep wx g F7 D2 ∧ Eff w5 wx F6 ∧ ∀ k, F7 k → F6 k ∨ w5.heap.size ≤ k))
     case first =>
      obtain ⟨c50, c51⟩ := HKB5.out w5 (Below.refl _ _)
      go_region_with (first
       | (go_at_call 56; refine (HOF.out _ (by first | exact Below.refl _ _ | exact below_drew1 (Below.refl _ _) | exact HBR.out | exact below_drew1 HBR.out)).mono ?_; rintro e w7 ⟨rfl, hb7⟩; obtain ⟨d50, d51⟩ := HKB5.out w7 hb7; have HBO := Lib.hid hb7; clear hb7)
       | (go_at_call 57; refine (HRM.out _ (by first | exact HBO.out | exact below_drew1 HBO.out | exact Below.refl _ _ | exact below_drew1 (Below.refl _ _))).mono ?_; rintro e w8 ⟨rfl, hb8⟩; obtain ⟨e50, e51⟩ := HKB5.out w8 hb8; have HBR := Lib.hid hb8; clear hb8)
       | (rw [K.invF]; refine Calls.mono (HFEED.out _ (by first | exact HBR.out | exact HBO.out | exact below_drew1 HBR.out | exact below_drew1 HBO.out)) ?_; rintro e w9 ⟨F7, rfl, h92, h93, h94⟩; have H92 := Lib.hid (And.intro h92 (And.intro h93 h94)); clear h92 h93 h94))
      all_goals (go_wp2_with fail; go_meet)
      all_goals exact ⟨rfl, rfl, F7, H92⟩
     case rest =>
      obtain ⟨rfl, rfl, F7, H92⟩ := hcut
      have hbx := HR6.out.2.1.eff H92.out.2.1 HR6.out.2.2.2.2.1 HR6.out.2.2.2.2.2
      have hb9 := Eff.under HR6.out.2.2.1 H92.out.2.1 HR6.out.2.2.1.size (fun k hk => HR6.out.2.2.2.1 k hk)
      have HB9 := Lib.hid hb9
      have HBX := Lib.hid hbx
      have HW := Lib.hid (writeString_own gb W0.heap.size _ no lv (strOf T) _ hbx hb9.size (by rw [bytesOf_length, strOf_size, strOf_size]; omega))
      clear hbx hb9 hlo hna hmf
      go_wp2_with (go_at_call 33; refine HW.out.mono ?_; rintro e w10 ⟨rfl, lv1, hx1, he1, ha1⟩)
      go_roundg (muE (max p.length r.length) R (k + 1) D2 (X.drop n) (o ++ T))
      case measure => rw [HK.out.1]; exact HST.out.2
      case rel =>
       refine ⟨k + 1, X.drop n, A3, cp - n, D2, o ++ T, F7, false, lv1, by rw [List.length_drop], rfl, Lib.hid ⟨rfl, by have := HST.out.2; have := HK.out.1; have := HK.out.2.1; omega, by have h1 := HPOS.out; have h2 := HK.out.2.2; have h3 := HPP.out; rw [List.length_drop]; omega⟩, Lib.hid HST.out.1, Lib.hid ⟨by rw [List.length_drop]; exact HA3.out, by rw [List.length_drop]; have := HX.out.2.1; omega, fun x hx => HX.out.2.2 x (List.mem_of_mem_drop hx)⟩, ?_⟩
       obtain ⟨r1, r2, r3, r4, r5, r6⟩ := HR6.out
       obtain ⟨e1, e2, e3⟩ := H92.out
       have hg7 : ¬ F7 gb := fun h => by
        rcases e3 gb h with h | h
        ·exact r5 h
        ·have := r2.blk.lt; omega
       have hl7 : ∀ k, lv.ownBlock = some k → ¬ F7 k := fun k hk h => by
        rcases e3 k h with h | h
        ·exact r6 k hk h
        ·have := r2.lt k hk; omega
       rw [← bytesOf_append, ← strOf_append] at hx1
       have hrep := K.eff e1 he1 (fun k hk h => by
        rcases h with h | h
        ·rw [h] at hk; exact hg7 hk
        ·exact hl7 k h.symm hk)
       refine Lib.hid ⟨hrep, hx1, Eff.under HB9.out he1 HB9.out.size (fun k hk => ?_), fun k hk => (e3 k hk).elim (r4 k) (fun h => Nat.le_trans r3.size h), hg7, fun k hk hF => ?_⟩
       ·rcases hk with h | h
        ·rw [h]; exact HGB1.out
        ·exact HBX.out.ge k h.symm
       ·rcases ha1 with h | ⟨b, h, hb⟩
        ·exact hl7 k (by rw [← h]; exact hk) hF
        ·rw [hk] at h; injection h with h; have := K.lt e1 k hF; omega
 case rest =>
  obtain ⟨k, D, F', no, lv9, rfl, HK, HRR, HR⟩ := hcut
  obtain ⟨r1, r2, r3⟩ := HR.out
  have hstr := builder_str gb W0.heap.size (strOf R.1) no lv9 _ r2 HGB1.out r3.size
  obtain ⟨T, cs, t1, t2, hT, e1, e2⟩ := K.blk r1
  have hgg : g ≠ gb := fun e => by
   have h1 : wc.heap[g]? = _ := hT
   have h2 : wc.heap[gb]? = _ := r2.blk
   rw [e, h2] at h1
   injection h1 with h1; injection h1 with _ h1 _
   exact t2 h1.symm
  have hk0 := HK7.out.below r3
  have HST := Lib.hid hstr
  have HR3 := Lib.hid r3
  have HT := Lib.hid hT
  have HK0 := Lib.hid hk0
  have HE := Lib.hid (And.intro e1 e2)
  clear hstr r1 r2 r3 hT hk0 e1 e2
  go_wp2_with (go_at_call 34; refine HST.out.mono ?_; rintro e w8 ⟨rfl, hb8, hk8⟩)
  have hT8 : Blk w8 g T cs := hk8 _ _ HT.out (by simpa using hgg) (fun c fz h => t1 (by injection h with _ h _))
  have hk08 : Blk w8 (b5 + 1) 27 #[.int .i64 0, .int .i64 0] := hk8 _ _ HK0.out (by have := HGB1.out; have := HZ0.out; simp; omega) (fun c fz h => by injection h with _ h _; exact absurd h (by decide))
  have HB8 := Lib.hid hb8
  have HK8 := Lib.hid hk08
  rw [K.invW]
  refine Calls.mono (fail_c hT8 HE.out.1 HE.out.2) ?_
  rintro e w9 ⟨rfl, hb9⟩
  have hk9 := HK8.out.below hb9
  have HB9 := Lib.hid hb9
  have HK9 := Lib.hid hk9
  have hc80 := hk9.cell (i := 0) rfl
  have hc81 := hk9.cell (i := 1) rfl
  have hf8 := hk9.frozen
  clear hk9 hb9 hk08 hT8 hb8 hk8
  go_wp2_with fail
  have hz0 := HZ0.out
  have hb5 := HB5.out
  have hk10 : Blk ((w9.setCell ⟨b5 + 1, 0, none⟩ (.int .i64 D.err)).setCell ⟨b5 + 1, 1, none⟩ (.int .i64 D.fat)) (b5 + 1) 27 #[.int .i64 D.err, .int .i64 D.fat] := (HK9.out.set 0 (.int .i64 D.err)).set 1 (.int .i64 D.fat)
  have he10 : Eff w9 ((w9.setCell ⟨b5 + 1, 0, none⟩ (.int .i64 D.err)).setCell ⟨b5 + 1, 1, none⟩ (.int .i64 D.fat)) (fun k => k = b5 + 1) := (Eff.set _ _ _ _).trans (Eff.set _ _ _ _) (fun _ _ h => h)
  obtain ⟨w10, hw10⟩ : ∃ w10, (w9.setCell ⟨b5 + 1, 0, none⟩ (.int .i64 D.err)).setCell ⟨b5 + 1, 1, none⟩ (.int .i64 D.fat) = w10 := ⟨_, rfl⟩
  rw [hw10] at hk10 he10 ⊢
  have c90 := hk10.cell (i := 0) rfl
  have c91 := hk10.cell (i := 1) rfl
  try simp only [Exit.noGoto]
  refine bodyPost_ret (v := .tuple #[.string (strOf R.1), .agg #[.int .i64 D.err, .int .i64 D.fat], .int .i64 k]) (by simp [results, Tryz.results21, go_sem, c90, c91]; try rfl) rfl ?_
  have h1 : R.2.1 = D.err := congrArg (fun z => z.2.1) HRR.out
  have h2 : R.2.2 = D.fat := congrArg (fun z => z.2.2) HRR.out
  rw [h1, h2]
  have hb10 : Below b5 w w10 := Eff.under ((((HBW.out.trans (HR3.out.mono (by omega))).trans (HB8.out.mono (by omega)))).trans (HB9.out.mono (Nat.le_trans (Nat.le_trans (by omega) HR3.out.size) HB8.out.size))) he10 (Nat.le_trans (Nat.le_trans (Nat.le_trans (by omega) HR3.out.size) HB8.out.size) HB9.out.size) (fun k hk => by omega)
  exact ⟨k, rfl, by have := HK.out; have := HMU.out.2; omega, by rw [hb5]; exact hb10⟩
end Go.Proofs.YtmgnndnofbemeaaGreat
