/- Joined texts: Qb. -/
import Derived.Test.YtmgnndnofbemeaaGreatMUstp
import Derived.Deep.CutBlock
import Derived.WalkMore
/- pump.Read over whatever decoder (printed by wip/gen/pread.py). -/
namespace Go.Proofs.YtmgnndnofbemeaaGreat
open Go.RowKit Go.Proofs.YtmgnndnofbemeaaGreatW.PrintWords
set_option linter.unusedVariables false
set_option linter.unusedSimpArgs false
theorem bytes_take (X : ByteArray) (m : Nat) (h : m ≤ X.size) : bytesOf (X.extract 0 m) = (bytesOf X).take m := by
 unfold bytesOf
 rw [← List.map_take]
 congr 1
 simp [ByteArray.data_extract]
theorem bytes_drop (X : ByteArray) (n : Nat) : bytesOf (X.extract n X.size) = (bytesOf X).drop n := by
 unfold bytesOf
 rw [← List.map_drop]
 congr 1
 simp only [ByteArray.data_extract, Array.toList_extract, List.extract_eq_take_drop]
 exact List.take_of_length_le (by rw [List.length_drop, Array.length_toList]; exact Nat.le_refl _)
theorem bytes_nil {X : ByteArray} (h : bytesOf X = []) : X = ⟨#[]⟩ := by
 have := bytesOf_length X
 rw [h] at this
 exact ByteArray.ext (Array.eq_empty_of_size_eq_zero this.symm)
def pumpD (M : DMach) (p r : List Int) : Nat → Nat → DSt M → List Int → Nat
 | 0, k, _, _ => k
 | f + 1, k, d, s =>
  if ¬ (d.err = 0 ∧ d.en = false) ∧ d.held = [] then k
  else if s = [] ∧ (endD M d).held = [] then k
  else
   pumpD M p r f (k + 1) ((feedD M (roomN r k) (s.take (offN p k s.length)) (if s = [] then endD M d else d)).2.drop (giveN (roomN r k) (feedD M (roomN r k) (s.take (offN p k s.length)) (if s = [] then endD M d else d)).2.held.length))
    (s.drop (feedD M (roomN r k) (s.take (offN p k s.length)) (if s = [] then endD M d else d)).1)
theorem pumpD_stop {M : DMach} {p r : List Int} {f k : Nat} {d : DSt M} {s : List Int} (h : (¬ (d.err = 0 ∧ d.en = false) ∧ d.held = []) ∨ (s = [] ∧ (endD M d).held = [])) : pumpD M p r f k d s = k := by
 cases f with
 | zero => rfl
 | succ f =>
  unfold pumpD
  by_cases h1 : ¬ (d.err = 0 ∧ d.en = false) ∧ d.held = []
  ·rw [if_pos h1]
  ·rw [if_neg h1, if_pos (h.resolve_left h1)]
theorem pumpD_step {M : DMach} {p r : List Int} {f k m n tt : Nat} {d d1 d2 : DSt M} {s : List Int} {ro : Int} (h1 : ¬ (¬ (d.err = 0 ∧ d.en = false) ∧ d.held = [])) (hd : d1 = if s = [] then endD M d else d) (h2 : s = [] → d1.held ≠ [])
  (hm : offN p k s.length = m) (hr : roomN r k = ro) (hF : feedD M ro (s.take m) d1 = (n, d2)) (ht : giveN ro d2.held.length = tt) : pumpD M p r (f + 1) k d s = pumpD M p r f (k + 1) (d2.drop tt) (s.drop n) := by
 rw [pumpD, if_neg h1, if_neg (fun h => h2 h.1 (by rw [hd, if_pos h.1]; exact h.2)), ← hd, hm, hr, hF, ht]
set_option maxRecDepth 100000 in
set_option maxHeartbeats 8000000 in
theorem pread_c {c : Int} {tg : TypeId} {fF fE : Nat} {M : DMach} {Rep : World → Nat → (Nat → Prop) → DSt M → Prop} (K : DecK tg fF fE M Rep) (HN : NewD c tg M Rep) (HNA : NilA tg "Feed")
  (s : ByteArray) (hs : s.size ≤ 4000) (hL : (runD M M.ini (bytesOf s) 0 []).1.length ≤ 100000) (A1 A2 : Option Addr) (c1 c2 : Nat) (p r : List Int) (w : World) (h1 : ReadsInt w .i64 A1 p.length p) (h2 : ReadsInt w .i64 A2 r.length r) (hp : p.length ≤ 1000) (hr : r.length ≤ 1000) :
  Calls Tryz.prog 22 #[.int .i64 c, .string s, .agg #[.slice A1 p.length c1, .slice A2 r.length c2]] w fun e w' => ∃ v n, e = .returned (.tuple #[v, .agg #[.int .i64 (runD M M.ini (bytesOf s) 0 []).2.1, .int .i64 (runD M M.ini (bytesOf s) 0 []).2.2], .int .i64 (n : Nat)]) ∧
   n = pumpD M p r (max p.length r.length + s.size + (runD M M.ini (bytesOf s) 0 []).1.length + 1) 0 (DSt.new M) (bytesOf s) ∧ n ≤ max p.length r.length + s.size + (runD M M.ini (bytesOf s) 0 []).1.length + 1 ∧
   QRow w' w.heap.size 48 1 v (runD M M.ini (bytesOf s) 0 []).1.length (nums .u32 (runD M M.ini (bytesOf s) 0 []).1) ∧ Below w.heap.size w w' := by
 have hi0 := InvD.new M (bytesOf s)
 obtain ⟨R, hR⟩ : ∃ R, runD M M.ini (bytesOf s) 0 [] = R := ⟨_, rfl⟩
 rw [hR] at hi0 hL ⊢
 obtain ⟨mu0, hmu0⟩ : ∃ m, muD (max p.length r.length) R 0 (DSt.new M) (bytesOf s) [] = m := ⟨_, rfl⟩
 have hmu : mu0 = max p.length r.length + s.size + R.1.length + 1 := by
  rw [← hmu0]
  unfold muD
  rw [bytesOf_length, if_pos ⟨rfl, rfl⟩]
  rfl
 obtain ⟨N, hN⟩ : ∃ N, pumpD M p r (max p.length r.length + s.size + R.1.length + 1) 0 (DSt.new M) (bytesOf s) = N := ⟨_, rfl⟩
 rw [hN]
 have hN' : pumpD M p r mu0 0 (DSt.new M) (bytesOf s) = N := by rw [hmu]; exact hN
 have HN0 := Lib.hid hN'
 clear hN hN'
 have hbb : Below w.heap.size w ((w.alloc (.cells #[.slice A1 p.length c1, .slice A2 r.length c2] 52 (0, 0))).alloc (.cells #[.int .i64 0, .int .i64 0] 27 (0, 0))) := below_new (below_new (Below.refl _ _) _) _
 have hr1 : ReadsInt ((w.alloc (.cells #[.slice A1 p.length c1, .slice A2 r.length c2] 52 (0, 0))).alloc (.cells #[.int .i64 0, .int .i64 0] 27 (0, 0))) .i64 A1 p.length p := reads_eff64 h1 (Eff.of_below hbb (fun _ => False)) (fun _ _ _ h => h)
 have hr2 : ReadsInt ((w.alloc (.cells #[.slice A1 p.length c1, .slice A2 r.length c2] 52 (0, 0))).alloc (.cells #[.int .i64 0, .int .i64 0] 27 (0, 0))) .i64 A2 r.length r := reads_eff64 h2 (Eff.of_below hbb (fun _ => False)) (fun _ _ _ h => h)
 have hk5 : Blk ((w.alloc (.cells #[.slice A1 p.length c1, .slice A2 r.length c2] 52 (0, 0))).alloc (.cells #[.int .i64 0, .int .i64 0] 27 (0, 0))) w.heap.size 52 #[.slice A1 p.length c1, .slice A2 r.length c2] := (Blk.new w _ _).alloc _
 have hk7 : Blk ((w.alloc (.cells #[.slice A1 p.length c1, .slice A2 r.length c2] 52 (0, 0))).alloc (.cells #[.int .i64 0, .int .i64 0] 27 (0, 0))) (w.heap.size + 1) 27 #[.int .i64 0, .int .i64 0] := by
  have := Blk.new (w.alloc (.cells #[.slice A1 p.length c1, .slice A2 r.length c2] 52 (0, 0))) 27 #[.int .i64 0, .int .i64 0]
  rwa [World.size_alloc] at this
 have hz0 : ((w.alloc (.cells #[.slice A1 p.length c1, .slice A2 r.length c2] 52 (0, 0))).alloc (.cells #[.int .i64 0, .int .i64 0] 27 (0, 0))).heap.size = w.heap.size + 2 := by rw [World.size_alloc, World.size_alloc]
 obtain ⟨W0, hW0⟩ : ∃ W0, (w.alloc (.cells #[.slice A1 p.length c1, .slice A2 r.length c2] 52 (0, 0))).alloc (.cells #[.int .i64 0, .int .i64 0] 27 (0, 0)) = W0 := ⟨_, rfl⟩
 rw [hW0] at hbb hr1 hr2 hk5 hk7 hz0
 have HBW := Lib.hid hbb
 have HR1 := Lib.hid hr1
 have HR2 := Lib.hid hr2
 have HK5 := Lib.hid hk5
 have HK7 := Lib.hid hk7
 have HI0 := Lib.hid hi0
 have HMU := Lib.hid (And.intro hmu0 hmu)
 have HSZ := Lib.hid (And.intro hs (And.intro hL (And.intro hp hr)))
 have HZ0 := Lib.hid hz0
 clear h1 h2 hbb hr1 hr2 hk5 hk7 hi0 hmu0 hmu hs hL hR hz0
 obtain ⟨b5, hb5⟩ : ∃ b, w.heap.size = b := ⟨_, rfl⟩
 go_enter Tryz.func22, Tryz.ntmps22
 go_upto_region 1 with fail
 try rw [hW0]
 clear hW0
 have HB5 := Lib.hid hb5
 rw [hb5] at HBW HK5 HK7 HZ0
 try rw [hb5]
 clear hb5
 go_step3
 go_wp2_with (go_at_call 17; refine (HN _).mono ?_; rintro e w1 ⟨g, F, rfl, hb1, hr1, hF1⟩)
 go_step3
 go_upto_block 0 with fail
 have HREL0 : Hid (Rep w1 g F (DSt.new M) ∧ Below W0.heap.size W0 w1 ∧ (∀ k, F k → W0.heap.size ≤ k) ∧ ∀ k, F k → some k ≠ (Value.slice none 0 0).ownBlock) := Lib.hid ⟨hr1, hb1, hF1, fun k _ h => by cases h⟩
 clear hb1 hr1 hF1
 go_cut [6, 8] (fun s6 s8 wx => ∃ (k : Nat) (D : DSt M) (F' : Nat → Prop), s8 = .int .i64 k ∧ Hid (k ≤ mu0 ∧ k = N) ∧ Hid (R = (R.1, D.err, D.fat)) ∧ Hid (Rep wx g F' D ∧ QRow wx W0.heap.size 48 1 s6 R.1.length (nums .u32 R.1) ∧ Below W0.heap.size W0 wx))
 case first =>
  go_wp2_with fail
  go_loopg [1, 6, 8] mu0 (fun kq s1 s6 s8 wx => ∃ (k : Nat) (X : ByteArray) (D : DSt M) (xs : List Int) (F' : Nat → Prop), s1 = .string X ∧ s8 = .int .i64 k ∧ Hid (muD (max p.length r.length) R k D (bytesOf X) xs ≤ kq ∧ k + kq ≤ mu0 ∧ D.pos + X.size = s.size ∧ pumpD M p r kq k D (bytesOf X) = N) ∧ Hid (InvD M R D (bytesOf X) xs) ∧
   Hid (Rep wx g F' D ∧ QRow wx W0.heap.size 48 1 s6 xs.length (nums .u32 xs) ∧ Below W0.heap.size W0 wx ∧ (∀ k, F' k → W0.heap.size ≤ k) ∧ ∀ k, F' k → some k ≠ s6.ownBlock))
  case atStart =>
   exact ⟨0, s, DSt.new M, [], F, rfl, rfl, Lib.hid ⟨by rw [HMU.out.1]; exact Nat.le_refl _, by omega, Nat.zero_add _, HN0.out⟩, HI0, Lib.hid ⟨HREL0.out.1, ⟨rfl, .inl ⟨rfl, none, rfl, fun a h => by cases h⟩⟩, HREL0.out.2.1, HREL0.out.2.2.1, HREL0.out.2.2.2⟩⟩
  case round =>
   obtain ⟨k, X, D, xs, F', rfl, rfl, HK, HI, HR⟩ := hrel
   obtain ⟨r1, r2, r3, r4, r5⟩ := HR.out
   have hdone := K.done r1
   have HQ := Lib.hid r2
   have hkb : (k : Int) ≤ 200000 := by have := HK.out.2.1; have := HMU.out.2; have := HSZ.out; omega
   by_cases hd : ¬ (D.err = 0 ∧ D.en = false) ∧ D.held = []
   ·have hdt : (!D.going && D.held.isEmpty) = true := by
     rw [hd.2]
     unfold DSt.going
     rcases Bool.eq_false_or_eq_true (D.err == 0 && !D.en) with h | h
     ·simp at h; exact absurd h hd.1
     ·rw [h]; rfl
    rw [hdt] at hdone
    have HDN := Lib.hid hdone
    have hRR : R = (xs, D.err, D.fat) := by have := HI.out.no hd.1; rw [hd.2, List.append_nil] at this; exact this
    have hkN : k = N := by rw [← HK.out.2.2.2]; exact (pumpD_stop (.inl hd)).symm
    have HKN := Lib.hid hkN
    have HRR := Lib.hid hRR
    clear hkN hdone r1 r2 r3 r4 r5 hd hdt hRR
    go_wp2_with (rw [K.invD]; refine Calls.mono HDN.out ?_; rintro e w6 ⟨rfl, rfl⟩)
    go_meet
    refine ⟨k, D, F', rfl, Lib.hid ⟨by have := HK.out.2.1; omega, HKN.out⟩, Lib.hid (by rw [HRR.out]), Lib.hid ⟨HR.out.1, ?_, HR.out.2.2.1⟩⟩
    rw [HRR.out]
    exact HQ.out
   ·have hdf : (!D.going && D.held.isEmpty) = false := by
     unfold DSt.going
     rcases Bool.eq_false_or_eq_true (D.err == 0 && !D.en) with h | h
     ·rw [h]; rfl
     ·rw [h]
      cases hh : D.held with
      | nil => exact absurd ⟨(fun hx => (by rw [hx.1, hx.2] at h; cases h)), hh⟩ hd
      | cons a b => rfl
    rw [hdf] at hdone
    have HDN := Lib.hid hdone
    have HND := Lib.hid hd
    clear hdone hd hdf
    by_cases hx : bytesOf X = []
    ·have hx0 := bytes_nil hx
     subst hx0
     clear hx
     have hle := HI.out.len
     have hfin := K.fin r1 (by have := HK.out.2.2.1; have := HSZ.out; omega) (by have := HSZ.out; omega)
     obtain ⟨D1, hD1⟩ : ∃ D1, endD M D = D1 := ⟨_, rfl⟩
     have hI1 : InvD M R D1 (bytesOf ⟨#[]⟩) xs := by rw [← hD1]; exact HI.out.fin
     have hn1 : ¬ (D1.err = 0 ∧ D1.en = false) := by rw [← hD1]; exact endD_not M D
     have hp1 : D1.pos = D.pos := by rw [← hD1]; exact endD_pos M D
     rw [hD1] at hfin
     have HFN := Lib.hid hfin
     have HI1 := Lib.hid hI1
     have HDD : Hid (D1 = if bytesOf ⟨#[]⟩ = [] then endD M D else D) := Lib.hid (by rw [hD1]; rfl)
     clear hfin hI1 hle r1 r2 r3 r4 r5 hD1
     have hw7 : ∀ W F7, Rep W g F7 D1 → Calls Tryz.prog 220 #[.pointer (some ⟨g, 0, none⟩)] W fun e w' => e = .returned (.bool D1.held.isEmpty) ∧ W = w' := fun W F7 h => by
      have hgf : D1.going = false := by
       unfold DSt.going
       rcases Bool.eq_false_or_eq_true (D1.err == 0 && !D1.en) with h | h
       ·simp at h; exact absurd h hn1
       ·exact h
      have := K.done h
      rw [hgf] at this
      exact this
     have HW7 := Lib.hid hw7
     have HP1 := Lib.hid (And.intro hn1 hp1)
     have HKN : Hid (D1.held = [] → k = N) := Lib.hid fun h => by rw [← HK.out.2.2.2]; exact (pumpD_stop (.inr ⟨rfl, by rw [← show D1 = endD M D from HDD.out]; exact h⟩)).symm
     clear hw7 hn1 hp1
     go_upto_region 7 with (first
      | (rw [K.invD]; refine Calls.mono HDN.out ?_; rintro e w6 ⟨rfl, rfl⟩)
      | (rw [K.invE]; refine Calls.mono HFN.out ?_; rintro e w6 ⟨F6, rfl, h6, he6, hF6⟩))
     have HR6 : Hid (Rep w6 g F6 D1 ∧ QRow w6 W0.heap.size 48 1 u6 xs.length (nums .u32 xs) ∧ Below W0.heap.size W0 w6 ∧ (∀ k, F6 k → W0.heap.size ≤ k) ∧ ∀ k, F6 k → some k ≠ u6.ownBlock) := by
      obtain ⟨r1, r2, r3, r4, r5⟩ := HR.out
      refine Lib.hid ⟨h6, q_move r2 fun k hk => he6.block k (q_lt r2 k hk) (fun hF => r5 k hF hk.symm), Eff.under r3 he6 r3.size (fun k hk => r4 k hk), fun k hk => (hF6 k hk).elim (r4 k) (fun h => Nat.le_trans r3.size h), fun k hk e => ?_⟩
      rcases hF6 k hk with h | h
      ·exact r5 k h e
      ·have := q_lt r2 k e.symm; omega
     have HDN7 := Lib.hid (HW7.out w6 F6 h6)
     clear h6 he6 hF6 HR HDN HFN HW7
     cases hh : D1.held with
     | nil =>
      rw [hh] at HDN7
      have hRR : R = (xs, D1.err, D1.fat) := by have := HI1.out.no HP1.out.1; rw [hh, List.append_nil] at this; exact this
      have HRR := Lib.hid hRR
      have HKM := Lib.hid (HKN.out hh)
      clear hRR hh HKN
      go_wp2_with (rw [K.invD]; refine Calls.mono HDN7.out ?_; rintro e w7 ⟨rfl, rfl⟩)
      go_meet
      refine ⟨k, D1, F6, rfl, Lib.hid ⟨by have := HK.out.2.1; omega, HKM.out⟩, Lib.hid (by rw [HRR.out]), Lib.hid ⟨HR6.out.1, ?_, HR6.out.2.2.1⟩⟩
      rw [HRR.out]
      exact HR6.out.2.1
     | cons a0 a1 =>
      rw [hh] at HDN7
      have HNS : Hid (bytesOf (⟨#[]⟩ : ByteArray) = [] → D1.held ≠ []) := Lib.hid fun _ h => by rw [hh] at h; cases h
      clear hh HKN
      go_upto_region 8 with (rw [K.invD]; refine Calls.mono HDN7.out ?_; rintro e w7 ⟨rfl, rfl⟩)
      obtain ⟨w5, hw5⟩ : ∃ W, w6 = W := ⟨_, rfl⟩
      obtain rfl := hw5.symm
      obtain ⟨X, hX⟩ : ∃ X : ByteArray, ⟨#[]⟩ = X := ⟨_, rfl⟩
      rw [hX] at HK HI HDD HI1 HNS
      try rw [hX]
      have HPP : Hid (D1.pos = D.pos) := Lib.hid HP1.out.2
      clear hw5 HDN7 HP1 hX
      have hm1 := offN_le p k X.size
      obtain ⟨m, hm⟩ : ∃ m, offN p k X.size = m := ⟨_, rfl⟩
      obtain ⟨ro, hro⟩ : ∃ z, roomN r k = z := ⟨_, rfl⟩
      have hstep := mu_step (C := max p.length r.length) (k := k) (m := m) (room := ro) HI.out (by rw [← hro]; exact roomN_pos r k) (fun hC => by rw [bytesOf_length, ← hm]; unfold offN; rw [if_pos (by omega)]) HND.out HDD.out
      rw [hm] at hm1
      have hxs : (X.extract 0 m).size = m := by rw [ByteArray.size_extract]; omega
      have hlen1 := HI1.out.len
      have hfd := fun (W : World) (hW : Below w5.heap.size w5 W) => K.feed (X.extract 0 m) ro (K.eff HR6.out.1 (Eff.of_below hW (fun _ => False)) (fun _ _ h => h)) (by rw [hxs]; have := HK.out.2.2.1; have := HSZ.out; have := HPP.out; omega) (by rw [hxs]; have := HK.out.2.2.1; have := HSZ.out; omega)
      rw [bytes_take X m hm1] at hfd
      have hle := feedD_le M ro ((bytesOf X).take m) D1
      have hpos := feedD_pos M ro ((bytesOf X).take m) D1
      rw [List.length_take, bytesOf_length] at hle
      obtain ⟨⟨n, D2⟩, hF⟩ : ∃ Q, feedD M ro ((bytesOf X).take m) D1 = Q := ⟨_, rfl⟩
      rw [hF] at hstep hfd hle hpos
      simp only at hstep hfd hle hpos
      obtain ⟨tt, ht⟩ : ∃ t, giveN ro D2.held.length = t := ⟨_, rfl⟩
      rw [ht] at hstep hfd
      have hgk : gk = (gk - 1) + 1 := by have h1 := hstep.2; have h2 := HK.out.1; omega
      have hps := HK.out.2.2.2
      rw [hgk, pumpD_step HND.out HDD.out HNS.out (by rw [bytesOf_length]; exact hm) hro hF ht] at hps
      have HPS := Lib.hid hps
      clear hps hgk
      obtain ⟨T, hT⟩ : ∃ T, D2.held.take tt = T := ⟨_, rfl⟩
      rw [hT] at hstep hfd
      have hnx : n ≤ X.size := by omega
      have hTl : xs.length + T.length ≤ 100000 := by have h1 := hstep.1.len; rw [List.length_append] at h1; have := HSZ.out; omega
      have HST := Lib.hid hstep
      have HPOS := Lib.hid hpos
      have hof : ∀ W, Below w5.heap.size w5 W → Calls Tryz.prog 56 #[.agg #[.slice A1 p.length c1, .slice A2 r.length c2], .int .i64 k, .int .i64 X.size] W fun e w' => e = .returned (.int .i64 m) ∧ Below w5.heap.size w5 w' := fun W hW => by
       have h := offer_c A1 A2 r.length c1 c2 p k X.size W (reads_eff64 (reads_eff64 HR1.out (Eff.of_below HR6.out.2.2.1 (fun _ => False)) (fun _ _ _ h => h)) (Eff.of_below hW (fun _ => False)) (fun _ _ _ h => h)) (by omega)
       rw [hm] at h
       exact h.mono fun e w' h => ⟨h.1, below_next hW h.2⟩
      have hrm : ∀ W, Below w5.heap.size w5 W → Calls Tryz.prog 57 #[.agg #[.slice A1 p.length c1, .slice A2 r.length c2], .int .i64 k] W fun e w' => e = .returned (.int .i64 ro) ∧ Below w5.heap.size w5 w' := fun W hW => by
       have h := room_c A1 A2 p.length c1 c2 r k W (reads_eff64 (reads_eff64 HR2.out (Eff.of_below HR6.out.2.2.1 (fun _ => False)) (fun _ _ _ h => h)) (Eff.of_below hW (fun _ => False)) (fun _ _ _ h => h)) (by omega)
       rw [hro] at h
       exact h.mono fun e w' h => ⟨h.1, below_next hW h.2⟩
      have hkb5 : ∀ W, Below w5.heap.size w5 W → W.cell? ⟨b5, 0, none⟩ = some (.slice A1 p.length c1) ∧ W.cell? ⟨b5, 1, none⟩ = some (.slice A2 r.length c2) := fun W hW =>
       ⟨((HK5.out.below HR6.out.2.2.1).below hW).cell rfl, ((HK5.out.below HR6.out.2.2.1).below hW).cell rfl⟩
      have hfeed : ∀ W, Below w5.heap.size w5 W → Calls Tryz.prog fF #[.pointer (some ⟨g, 0, none⟩), .string (X.extract 0 m), .int .i64 ro] W fun e w' => ∃ A7 c7 F7, e = .returned (.tuple #[.int .i64 n, .slice A7 T.length c7]) ∧ ReadsInt w' .u32 A7 T.length T ∧ Rep w' g F7 (D2.drop tt) ∧ Eff w5 w' F6 ∧ (∀ k, F7 k → F6 k ∨ w5.heap.size ≤ k) := fun W hW => by
       refine Calls.mono (hfd W hW) ?_
       rintro e w' ⟨v, F7, rfl, ho, hr, he, hF7⟩
       obtain ⟨A7, c7, rfl⟩ := Go.Proofs.YtmgnndnofbemeaaGreatW.PrintWords.own_slice ho
       exact ⟨A7, c7, F7, rfl, q_reads (q_of_own ho), hr, (Eff.of_below hW F6).trans he (fun _ _ h => h), fun k hk => (hF7 k hk).imp id (fun h => Nat.le_trans hW.size h)⟩
      have HOF := Lib.hid hof
      have HRM := Lib.hid hrm
      have HKB5 := Lib.hid hkb5
      have HFEED := Lib.hid hfeed
      have hna := fun (n : Nat) (w : World) => HNA n g w
      have hmf : ∀ (fn : Fn) (first cap : Array Value) (w : World), (Instr.makeFunc fn first cap).run Tryz.prog w = .ok (.func fn first cap) w := fun _ _ _ _ => rfl
      clear hm hro hstep hxs hlen1 hfd hle hpos hF ht hT hof hrm hkb5 hfeed HND HDD
      go_cut [11, 12] (fun s11 s12 wx => s11 = .int .i64 n ∧ ∃ A7 c7 F7, s12 = .slice A7 T.length c7 ∧ Hid (ReadsInt wx .u32 A7 T.length T) ∧ Hid (Rep wx g F7 (D2.drop tt) ∧ Eff w5 wx F6 ∧ ∀ k, F7 k → F6 k ∨ w5.heap.size ≤ k))
      case first =>
       obtain ⟨c50, c51⟩ := HKB5.out w5 (Below.refl _ _)
       go_region_with (first
        | (go_at_call 56; refine (HOF.out _ (by first | exact Below.refl _ _ | exact below_drew1 (Below.refl _ _) | exact HBR.out | exact below_drew1 HBR.out)).mono ?_; rintro e w7 ⟨rfl, hb7⟩; obtain ⟨d50, d51⟩ := HKB5.out w7 hb7; have HBO := Lib.hid hb7; clear hb7)
        | (go_at_call 57; refine (HRM.out _ (by first | exact HBO.out | exact below_drew1 HBO.out | exact Below.refl _ _ | exact below_drew1 (Below.refl _ _))).mono ?_; rintro e w8 ⟨rfl, hb8⟩; obtain ⟨e50, e51⟩ := HKB5.out w8 hb8; have HBR := Lib.hid hb8; clear hb8)
        | (rw [K.invF]; refine Calls.mono (HFEED.out _ (by first | exact HBR.out | exact HBO.out | exact below_drew1 HBR.out | exact below_drew1 HBO.out)) ?_; rintro e w9 ⟨A7, c7, F7, rfl, h91, h92, h93, h94⟩; have H91 := Lib.hid h91; have H92 := Lib.hid (And.intro h92 (And.intro h93 h94)); clear h91 h92 h93 h94))
       all_goals (go_wp2_with fail; go_meet)
       all_goals exact ⟨rfl, A7, c7, F7, rfl, H91, H92⟩
      case rest =>
       obtain ⟨rfl, A7, c7, F7, rfl, H91, H92⟩ := hcut
       have hQ9 := q_move HR6.out.2.1 fun k hk => H92.out.2.1.block k (q_lt HR6.out.2.1 k hk) (fun hF => HR6.out.2.2.2.2 k hF hk.symm)
       have hr9 := H91.out
       have hz9 := Nat.le_trans HR6.out.2.2.1.size H92.out.2.1.size
       have HQ9 := Lib.hid hQ9
       have hln : (xs.length + T.length) * 4 ≤ 140737488355328 := by omega
       go_wp2_with (at_builtin; refine q_append_row W0.heap.size rfl _ _ 22 48 .u32 4 rfl rfl info_u32 (by decide) u6 xs T A7 T.length c7 rfl rfl hQ9 hr9 hz9 hln ?_; intro v1 w10 hq10 hg10 hv10)
       go_roundg (gk - 1)
       case measure => have h1 := HST.out.2; have h2 := HK.out.1; omega
       case rel =>
        refine ⟨k + 1, X.extract n X.size, D2.drop tt, xs ++ T, F7, rfl, rfl, Lib.hid ⟨by rw [bytes_drop]; have h1 := HST.out.2; have h2 := HK.out.1; omega, by have := HST.out.2; have := HK.out.1; have := HK.out.2.1; omega, by have h1 := HPOS.out; have h2 := HK.out.2.2.1; have h3 := HPP.out; rw [ByteArray.size_extract]; show D2.pos + _ = _; omega, by rw [bytes_drop]; exact HPS.out⟩, Lib.hid (by rw [bytes_drop]; exact HST.out.1), ?_⟩
        obtain ⟨r1, r2, r3, r4, r5⟩ := HR6.out
        obtain ⟨e1, e2, e3⟩ := H92.out
        have he7 := Eff.of_grown hg10
        have hF7 : ∀ k, F7 k → ¬ some k = u6.ownBlock := fun k hk e => by
         rcases e3 k hk with h | h
         ·exact r5 k h e
         ·have := q_lt r2 k e.symm; omega
        have hge : ∀ k, F7 k → W0.heap.size ≤ k := fun k hk => (e3 k hk).elim (r4 k) (fun h => Nat.le_trans r3.size h)
        refine Lib.hid ⟨K.eff e1 he7 (fun k hk h => hF7 k hk h), hq10, Eff.under (Eff.under r3 e2 r3.size (fun k hk => r4 k hk)) he7 hz9 (fun k hk => ?_), hge, fun k hk e => ?_⟩
        ·exact q_ge HQ9.out k hk.symm
        ·rcases hv10 with h | ⟨b, h, hb⟩
         ·exact hF7 k hk (by rw [e, h])
         ·rw [h] at e; injection e with e; have := K.lt e1 k hk; omega
    ·have HDD : Hid (D = if bytesOf X = [] then endD M D else D) := Lib.hid (by rw [if_neg hx])
     have hXb : ¬ X.toList = [] := fun e => hx (by
      have h : X.toList.length = X.size := by rw [ByteArray.toList_eq]; simp
      rw [e] at h
      exact List.eq_nil_of_length_eq_zero (by rw [bytesOf_length]; exact h.symm))
     have hXi : X.toList.isEmpty = false := by
      cases h : X.toList with
      | nil => exact absurd h hXb
      | cons a b => rfl
     have HI1 := HI
     have HNS : Hid (bytesOf X = [] → D.held ≠ []) := Lib.hid fun h => absurd h hx
     have HPP : Hid (D.pos = D.pos) := Lib.hid rfl
     clear hx r1 r2 r3 r4 r5
     go_upto_region 8 with (rw [K.invD]; refine Calls.mono HDN.out ?_; rintro e w7 ⟨rfl, rfl⟩)
     obtain ⟨w5, hw5⟩ : ∃ W, wr = W := ⟨_, rfl⟩
     obtain rfl := hw5.symm
     obtain ⟨F6, hF6⟩ : ∃ F6, F' = F6 := ⟨_, rfl⟩
     obtain rfl := hF6.symm
     have HR6 := HR
     clear hw5 hF6 HR HDN HQ hXb hXi
     have hm1 := offN_le p k X.size
     obtain ⟨m, hm⟩ : ∃ m, offN p k X.size = m := ⟨_, rfl⟩
     obtain ⟨ro, hro⟩ : ∃ z, roomN r k = z := ⟨_, rfl⟩
     have hstep := mu_step (C := max p.length r.length) (k := k) (m := m) (room := ro) HI.out (by rw [← hro]; exact roomN_pos r k) (fun hC => by rw [bytesOf_length, ← hm]; unfold offN; rw [if_pos (by omega)]) HND.out HDD.out
     rw [hm] at hm1
     have hxs : (X.extract 0 m).size = m := by rw [ByteArray.size_extract]; omega
     have hlen1 := HI1.out.len
     have hfd := fun (W : World) (hW : Below w5.heap.size w5 W) => K.feed (X.extract 0 m) ro (K.eff HR6.out.1 (Eff.of_below hW (fun _ => False)) (fun _ _ h => h)) (by rw [hxs]; have := HK.out.2.2.1; have := HSZ.out; have := HPP.out; omega) (by rw [hxs]; have := HK.out.2.2.1; have := HSZ.out; omega)
     rw [bytes_take X m hm1] at hfd
     have hle := feedD_le M ro ((bytesOf X).take m) D
     have hpos := feedD_pos M ro ((bytesOf X).take m) D
     rw [List.length_take, bytesOf_length] at hle
     obtain ⟨⟨n, D2⟩, hF⟩ : ∃ Q, feedD M ro ((bytesOf X).take m) D = Q := ⟨_, rfl⟩
     rw [hF] at hstep hfd hle hpos
     simp only at hstep hfd hle hpos
     obtain ⟨tt, ht⟩ : ∃ t, giveN ro D2.held.length = t := ⟨_, rfl⟩
     rw [ht] at hstep hfd
     have hgk : gk = (gk - 1) + 1 := by have h1 := hstep.2; have h2 := HK.out.1; omega
     have hps := HK.out.2.2.2
     rw [hgk, pumpD_step HND.out HDD.out HNS.out (by rw [bytesOf_length]; exact hm) hro hF ht] at hps
     have HPS := Lib.hid hps
     clear hps hgk
     obtain ⟨T, hT⟩ : ∃ T, D2.held.take tt = T := ⟨_, rfl⟩
     rw [hT] at hstep hfd
     have hnx : n ≤ X.size := by omega
     have hTl : xs.length + T.length ≤ 100000 := by have h1 := hstep.1.len; rw [List.length_append] at h1; have := HSZ.out; omega
     have HST := Lib.hid hstep
     have HPOS := Lib.hid hpos
     have hof : ∀ W, Below w5.heap.size w5 W → Calls Tryz.prog 56 #[.agg #[.slice A1 p.length c1, .slice A2 r.length c2], .int .i64 k, .int .i64 X.size] W fun e w' => e = .returned (.int .i64 m) ∧ Below w5.heap.size w5 w' := fun W hW => by
      have h := offer_c A1 A2 r.length c1 c2 p k X.size W (reads_eff64 (reads_eff64 HR1.out (Eff.of_below HR6.out.2.2.1 (fun _ => False)) (fun _ _ _ h => h)) (Eff.of_below hW (fun _ => False)) (fun _ _ _ h => h)) (by omega)
      rw [hm] at h
      exact h.mono fun e w' h => ⟨h.1, below_next hW h.2⟩
     have hrm : ∀ W, Below w5.heap.size w5 W → Calls Tryz.prog 57 #[.agg #[.slice A1 p.length c1, .slice A2 r.length c2], .int .i64 k] W fun e w' => e = .returned (.int .i64 ro) ∧ Below w5.heap.size w5 w' := fun W hW => by
      have h := room_c A1 A2 p.length c1 c2 r k W (reads_eff64 (reads_eff64 HR2.out (Eff.of_below HR6.out.2.2.1 (fun _ => False)) (fun _ _ _ h => h)) (Eff.of_below hW (fun _ => False)) (fun _ _ _ h => h)) (by omega)
      rw [hro] at h
      exact h.mono fun e w' h => ⟨h.1, below_next hW h.2⟩
     have hkb5 : ∀ W, Below w5.heap.size w5 W → W.cell? ⟨b5, 0, none⟩ = some (.slice A1 p.length c1) ∧ W.cell? ⟨b5, 1, none⟩ = some (.slice A2 r.length c2) := fun W hW =>
      ⟨((HK5.out.below HR6.out.2.2.1).below hW).cell rfl, ((HK5.out.below HR6.out.2.2.1).below hW).cell rfl⟩
     have hfeed : ∀ W, Below w5.heap.size w5 W → Calls Tryz.prog fF #[.pointer (some ⟨g, 0, none⟩), .string (X.extract 0 m), .int .i64 ro] W fun e w' => ∃ A7 c7 F7, e = .returned (.tuple #[.int .i64 n, .slice A7 T.length c7]) ∧ ReadsInt w' .u32 A7 T.length T ∧ Rep w' g F7 (D2.drop tt) ∧ Eff w5 w' F6 ∧ (∀ k, F7 k → F6 k ∨ w5.heap.size ≤ k) := fun W hW => by
      refine Calls.mono (hfd W hW) ?_
      rintro e w' ⟨v, F7, rfl, ho, hr, he, hF7⟩
      obtain ⟨A7, c7, rfl⟩ := Go.Proofs.YtmgnndnofbemeaaGreatW.PrintWords.own_slice ho
      exact ⟨A7, c7, F7, rfl, q_reads (q_of_own ho), hr, (Eff.of_below hW F6).trans he (fun _ _ h => h), fun k hk => (hF7 k hk).imp id (fun h => Nat.le_trans hW.size h)⟩
     have HOF := Lib.hid hof
     have HRM := Lib.hid hrm
     have HKB5 := Lib.hid hkb5
     have HFEED := Lib.hid hfeed
     have hna := fun (n : Nat) (w : World) => HNA n g w
     have hmf : ∀ (fn : Fn) (first cap : Array Value) (w : World), (Instr.makeFunc fn first cap).run Tryz.prog w = .ok (.func fn first cap) w := fun _ _ _ _ => rfl
     clear hm hro hstep hxs hlen1 hfd hle hpos hF ht hT hof hrm hkb5 hfeed HND HDD
     go_cut [11, 12] (fun s11 s12 wx => s11 = .int .i64 n ∧ ∃ A7 c7 F7, s12 = .slice A7 T.length c7 ∧ Hid (ReadsInt wx .u32 A7 T.length T) ∧ Hid (Rep wx g F7 (D2.drop tt) ∧ Eff w5 wx F6 ∧ ∀ k, F7 k → F6 k ∨ w5.heap.size ≤ k))
     case first =>
      obtain ⟨c50, c51⟩ := HKB5.out w5 (Below.refl _ _)
      go_region_with (first
       | (go_at_call 56; refine (HOF.out _ (by first | exact Below.refl _ _ | exact below_drew1 (Below.refl _ _) | exact HBR.out | exact below_drew1 HBR.out)).mono ?_; rintro e w7 ⟨rfl, hb7⟩; obtain ⟨d50, d51⟩ := HKB5.out w7 hb7; have HBO := Lib.hid hb7; clear hb7)
       | (go_at_call 57; refine (HRM.out _ (by first | exact HBO.out | exact below_drew1 HBO.out | exact Below.refl _ _ | exact below_drew1 (Below.refl _ _))).mono ?_; rintro e w8 ⟨rfl, hb8⟩; obtain ⟨e50, e51⟩ := HKB5.out w8 hb8; have HBR := Lib.hid hb8; clear hb8)
       | (rw [K.invF]; refine Calls.mono (HFEED.out _ (by first | exact HBR.out | exact HBO.out | exact below_drew1 HBR.out | exact below_drew1 HBO.out)) ?_; rintro e w9 ⟨A7, c7, F7, rfl, h91, h92, h93, h94⟩; have H91 := Lib.hid h91; have H92 := Lib.hid (And.intro h92 (And.intro h93 h94)); clear h91 h92 h93 h94))
      all_goals (go_wp2_with fail; go_meet)
      all_goals exact ⟨rfl, A7, c7, F7, rfl, H91, H92⟩
     case rest =>
      obtain ⟨rfl, A7, c7, F7, rfl, H91, H92⟩ := hcut
      have hQ9 := q_move HR6.out.2.1 fun k hk => H92.out.2.1.block k (q_lt HR6.out.2.1 k hk) (fun hF => HR6.out.2.2.2.2 k hF hk.symm)
      have hr9 := H91.out
      have hz9 := Nat.le_trans HR6.out.2.2.1.size H92.out.2.1.size
      have HQ9 := Lib.hid hQ9
      have hln : (xs.length + T.length) * 4 ≤ 140737488355328 := by omega
      go_wp2_with (at_builtin; refine q_append_row W0.heap.size rfl _ _ 22 48 .u32 4 rfl rfl info_u32 (by decide) u6 xs T A7 T.length c7 rfl rfl hQ9 hr9 hz9 hln ?_; intro v1 w10 hq10 hg10 hv10)
      go_roundg (gk - 1)
      case measure => have h1 := HST.out.2; have h2 := HK.out.1; omega
      case rel =>
       refine ⟨k + 1, X.extract n X.size, D2.drop tt, xs ++ T, F7, rfl, rfl, Lib.hid ⟨by rw [bytes_drop]; have h1 := HST.out.2; have h2 := HK.out.1; omega, by have := HST.out.2; have := HK.out.1; have := HK.out.2.1; omega, by have h1 := HPOS.out; have h2 := HK.out.2.2.1; have h3 := HPP.out; rw [ByteArray.size_extract]; show D2.pos + _ = _; omega, by rw [bytes_drop]; exact HPS.out⟩, Lib.hid (by rw [bytes_drop]; exact HST.out.1), ?_⟩
       obtain ⟨r1, r2, r3, r4, r5⟩ := HR6.out
       obtain ⟨e1, e2, e3⟩ := H92.out
       have he7 := Eff.of_grown hg10
       have hF7 : ∀ k, F7 k → ¬ some k = u6.ownBlock := fun k hk e => by
        rcases e3 k hk with h | h
        ·exact r5 k h e
        ·have := q_lt r2 k e.symm; omega
       have hge : ∀ k, F7 k → W0.heap.size ≤ k := fun k hk => (e3 k hk).elim (r4 k) (fun h => Nat.le_trans r3.size h)
       refine Lib.hid ⟨K.eff e1 he7 (fun k hk h => hF7 k hk h), hq10, Eff.under (Eff.under r3 e2 r3.size (fun k hk => r4 k hk)) he7 hz9 (fun k hk => ?_), hge, fun k hk e => ?_⟩
       ·exact q_ge HQ9.out k hk.symm
       ·rcases hv10 with h | ⟨b, h, hb⟩
        ·exact hF7 k hk (by rw [e, h])
        ·rw [h] at e; injection e with e; have := K.lt e1 k hk; omega
 case rest =>
  obtain ⟨k, D, F', rfl, HK, HRR, HR⟩ := hcut
  have hfl := K.fail HR.out.1
  have HFL := Lib.hid hfl
  clear hfl
  go_wp2_with (rw [K.invW]; refine Calls.mono HFL.out ?_; rintro e w8 ⟨rfl, hb8⟩; have HB8 := Lib.hid hb8; have hk8 := (HK7.out.below HR.out.2.2).below hb8; have hc80 := hk8.cell (i := 0) rfl; have hc81 := hk8.cell (i := 1) rfl; have hf8 := hk8.frozen; clear hk8 hb8)
  obtain ⟨r1, r2, r3⟩ := HR.out
  have hz0 := HZ0.out
  have hb5 := HB5.out
  have hk8 := (HK7.out.below r3).below HB8.out
  have hk9 : Blk ((w8.setCell ⟨b5 + 1, 0, none⟩ (.int .i64 D.err)).setCell ⟨b5 + 1, 1, none⟩ (.int .i64 D.fat)) (b5 + 1) 27 #[.int .i64 D.err, .int .i64 D.fat] := (hk8.set 0 (.int .i64 D.err)).set 1 (.int .i64 D.fat)
  have he9 : Eff w8 ((w8.setCell ⟨b5 + 1, 0, none⟩ (.int .i64 D.err)).setCell ⟨b5 + 1, 1, none⟩ (.int .i64 D.fat)) (fun k => k = b5 + 1) := (Eff.set _ _ _ _).trans (Eff.set _ _ _ _) (fun _ _ h => h)
  obtain ⟨w9, hw9⟩ : ∃ w9, (w8.setCell ⟨b5 + 1, 0, none⟩ (.int .i64 D.err)).setCell ⟨b5 + 1, 1, none⟩ (.int .i64 D.fat) = w9 := ⟨_, rfl⟩
  rw [hw9] at hk9 he9 ⊢
  have c90 := hk9.cell (i := 0) rfl
  have c91 := hk9.cell (i := 1) rfl
  try simp only [Exit.noGoto]
  refine bodyPost_ret (v := .tuple #[u6, .agg #[.int .i64 D.err, .int .i64 D.fat], .int .i64 k]) (by simp [results, Tryz.results22, go_sem, c90, c91]; try rfl) rfl ?_
  have h1 : R.2.1 = D.err := congrArg (fun z => z.2.1) HRR.out
  have h2 : R.2.2 = D.fat := congrArg (fun z => z.2.2) HRR.out
  rw [h1, h2]
  have hb9 : Below b5 w w9 := Eff.under ((HBW.out.trans (r3.mono (by omega))).trans (HB8.out.mono (Nat.le_trans (by omega) r3.size))) he9 (Nat.le_trans (Nat.le_trans (by omega) r3.size) HB8.out.size) (fun k hk => by omega)
  refine ⟨u6, k, rfl, HK.out.2, by have := HK.out.1; have := HMU.out.2; omega, q_low (q_move (q_move r2 fun k hk => HB8.out.block k (q_lt r2 k hk)) fun k hk => he9.block k ?_ ?_) (by omega), by rw [hb5]; exact hb9⟩
  ·exact Nat.lt_of_lt_of_le (q_lt r2 k hk) HB8.out.size
  ·intro e
   have := q_ge r2 k hk
   omega
end Go.Proofs.YtmgnndnofbemeaaGreat
