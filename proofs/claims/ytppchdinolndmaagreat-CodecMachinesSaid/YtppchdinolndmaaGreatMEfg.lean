/- Joined texts: Efg, K8. -/
import Derived.Test.YtppchdinolndmaaGreatMUstp
import Derived.Test.YtppchdinolndmaaGreatMBit
import Derived.StillTailTactics
import Derived.Deep.CutBlock
import Derived.Test.YtppchdinolndmaaGreatME8
namespace Go.Proofs.YtppchdinolndmaaGreat
open Go.RowKit Go.Proofs.YtppchdinolndmaaGreatW.PrintWords
set_option linter.unusedVariables false
set_option linter.unusedSimpArgs false
structure CsOk (M : EMach) (Cs : ESt M → Array Value) : Prop where
 c0 : ∀ d, (Cs d)[0]? = some (.int .i64 d.pos)
 c1 : ∀ d, (Cs d)[1]? = some (.int .i64 d.err)
 c2 : ∀ d, (Cs d)[2]? = some (.int .i64 d.fat)
 c3 : ∀ d, (Cs d)[3]? = some (.bool d.en)
 c4 : ∀ d, (Cs d)[4]? = some (.string (strOf d.kept))
 s0 : ∀ d (n : Nat), (Cs d).setIfInBounds 0 (.int .i64 n) = Cs { d with pos := n }
 s12 : ∀ d (e f : Int), ((Cs d).setIfInBounds 1 (.int .i64 e)).setIfInBounds 2 (.int .i64 f) = Cs { d with err := e, fat := f }
 s4 : ∀ d l, (Cs d).setIfInBounds 4 (.string (strOf l)) = Cs { d with kept := l }
set_option maxRecDepth 100000 in
set_option maxHeartbeats 30000000 in
theorem feedEG {M : EMach} {T : TypeId} {Cs : ESt M → Array Value} (ok : CsOk M Cs) (z : Nat) (hz : z ≤ 5) (len : ∀ st c, (M.put st c).2.length ≤ z) (bad : ∀ st, M.bad st = []) (fF fB : Nat) (hc : (fF = 101 ∧ fB = 108) ∨ (fF = 111 ∧ fB = 112) ∨ (fF = 114 ∧ fB = 115) ∨ (fF = 117 ∧ fB = 119) ∨ (fF = 152 ∧ fB = 153))
  {w : World} {g : Nat} (byt : ∀ {w : World} (d : ESt M), Blk w g T (Cs d) → ∀ c : Int, 0 ≤ c → isScal c = true → Calls Tryz.prog fB #[.pointer (some ⟨g, 0, none⟩), .int .u32 c] w fun e w' => e = .returned (.string (strOf (M.put d.st c).2)) ∧ Blk w' g T (Cs { d with st := (M.put d.st c).1 }) ∧ Eff w w' (fun k => k = g))
  {F : Nat → Prop} {d : ESt M} (A : Option Addr) (c : Nat) (l : List Int) (room : Int) (h : Blk w g T (Cs d) ∧ ∀ k, F k ↔ k = g) (hr : ReadsInt w .u32 A l.length l) (hs : l ≠ [] → ∀ ad, A = some ad → ¬ F ad.block)
  (hsc : ∀ x ∈ l, 0 ≤ x) (hp : d.pos + l.length ≤ 1000000) (hk : d.kept.length ≤ 10000000) (hroom : -1000000000 ≤ room ∧ room ≤ 9223372036854775807) :
  Calls Tryz.prog fF #[.pointer (some ⟨g, 0, none⟩), .slice A l.length c, .int .i64 room] w fun e w' => ∃ F' : Nat → Prop, e = .returned (.tuple #[.int .i64 (feedE M room l (d.drop (giveZ room d.kept.length)) (d.kept.take (giveZ room d.kept.length))).1,
    .string (strOf (feedE M room l (d.drop (giveZ room d.kept.length)) (d.kept.take (giveZ room d.kept.length))).2.1)]) ∧
   (Blk w' g T (Cs (feedE M room l (d.drop (giveZ room d.kept.length)) (d.kept.take (giveZ room d.kept.length))).2.2) ∧ ∀ k, F' k ↔ k = g) ∧ Eff w w' F ∧ (∀ k, F' k → F k ∨ w.heap.size ≤ k) := by
 have c0 := ok.c0
 have c1 := ok.c1
 have c2 := ok.c2
 have c3 := ok.c3
 have c4 := ok.c4
 have S0 : ∀ {W : World} {D : ESt M}, Blk W g T (Cs D) → Blk (W.setCell ⟨g, 0, none⟩ (.int .i64 ((D.pos : Int) + 1))) g T (Cs { D with pos := D.pos + 1 }) := fun {W D} h => by
  have := h.set 0 (.int .i64 ((D.pos + 1 : Nat) : Int))
  rw [ok.s0, Int.natCast_add] at this
  exact this
 have S12 : ∀ {W : World} {D : ESt M}, Blk W g T (Cs D) → Blk ((W.setCell ⟨g, 1, none⟩ (.int .i64 2)).setCell ⟨g, 2, none⟩ (.int .i64 D.pos)) g T (Cs { D with err := 2, fat := D.pos }) := fun {W D} h => by
  have := (h.set 1 (.int .i64 2)).set 2 (.int .i64 D.pos)
  rw [ok.s12] at this
  exact this
 have S4 : ∀ {W : World} {D : ESt M} {l : List Int}, Blk W g T (Cs D) → Blk (W.setCell ⟨g, 4, none⟩ (.string (strOf l))) g T (Cs { D with kept := l }) := fun {W D l} h => by
  have := h.set 4 (.string (strOf l))
  rw [ok.s4] at this
  exact this
 rcases hc with ⟨rfl, rfl⟩ | ⟨rfl, rfl⟩ | ⟨rfl, rfl⟩ | ⟨rfl, rfl⟩ | ⟨rfl, rfl⟩
 all_goals
  obtain ⟨hb, hF⟩ := h
  obtain ⟨d0, hd0⟩ : ∃ d0, d.drop (giveZ room d.kept.length) = d0 := ⟨_, rfl⟩
  obtain ⟨o0, ho0⟩ : ∃ o0, d.kept.take (giveZ room d.kept.length) = o0 := ⟨_, rfl⟩
  have ho0l : o0.length ≤ 10000000 := by rw [← ho0, List.length_take]; omega
  have hd0k : d0.kept.length ≤ 10000000 := by rw [← hd0]; show (d.kept.drop _).length ≤ _; rw [List.length_drop]; omega
  have hd0p : d0.pos = d.pos := by rw [← hd0]; rfl
  have hg0 := give_l (room := room) (xs := d.kept) (o := 4) hb (c4 d)
  rw [ho0] at hg0
  have hb0 : Blk (w.setCell ⟨g, 4, none⟩ (.string (strOf (d.kept.drop (giveZ room d.kept.length))))) g T (Cs d0) := by rw [← hd0]; exact S4 hb
  have he0 : Eff w (w.setCell ⟨g, 4, none⟩ (.string (strOf (d.kept.drop (giveZ room d.kept.length))))) (fun k => k = g) := Eff.set _ _ _ _
  obtain ⟨w0, hw0⟩ : ∃ w0, w.setCell ⟨g, 4, none⟩ (.string (strOf (d.kept.drop (giveZ room d.kept.length)))) = w0 := ⟨_, rfl⟩
  rw [hw0] at hg0 hb0 he0
  rw [hd0, ho0]
  have hsg : l ≠ [] → ∀ ad, A = some ad → ad.block ≠ g := fun hne ad had e => hs hne ad had ((hF _).2 e)
  have HR0 := Lib.hid hr
  have HSG := Lib.hid hsg
  have HB0 := Lib.hid hb0
  have HE0 := Lib.hid he0
  have HFF := Lib.hid hF
  have HSC := Lib.hid hsc
  have HLEN := Lib.hid (And.intro ho0l (And.intro hd0k (And.intro hd0p hp)))
  have HG0 := Lib.hid hg0
  clear hb hr hs hsg hb0 he0 hF hsc hw0 ho0l hd0k hd0p hp hg0 hd0 ho0 hk
  first | go_enter Tryz.func101, Tryz.ntmps101 | go_enter Tryz.func111, Tryz.ntmps111 | go_enter Tryz.func114, Tryz.ntmps114 | go_enter Tryz.func117, Tryz.ntmps117 | go_enter Tryz.func152, Tryz.ntmps152
  go_upto_block 0 with (go_at_call 104; refine HG0.out.mono ?_; rintro e w' ⟨rfl, rfl⟩)
  go_cut [8, 9] (fun s8 s9 wx => ∃ (k : Nat) (D : ESt M) (o : List Int), s8 = .string (strOf o) ∧ s9 = .int .i64 k ∧ Hid (feedE M room l d0 o0 = (k, o, D)) ∧ Hid (Blk wx g T (Cs D)) ∧ Hid (Eff w wx (fun k => k = g)))
  case first =>
   go_wp2_with fail
   go_loopg [8, 9] l.length (fun kq s8 s9 wx => ∃ (k : Nat) (D : ESt M) (o : List Int), s8 = .string (strOf o) ∧ s9 = .int .i64 k ∧ Hid (kq = l.length - k) ∧ Hid (FE M z room l d0 o0 k D o) ∧ Hid (Blk wx g T (Cs D)) ∧ Hid (Eff w wx (fun k => k = g)))
   case atStart => exact ⟨0, d0, o0, rfl, rfl, Lib.hid rfl, Lib.hid (FE.start _ _ _ _ _ _), HB0, HE0⟩
   case round =>
    obtain ⟨k, D, o, rfl, rfl, HK, HFE, HB, HE⟩ := hrel
    have hk0 : (0 : Int) ≤ (k : Int) := by omega
    have HEW := HE
    by_cases hk : k < l.length
    ·have hk1 : (k : Int) < (l.length : Int) := by omega
     by_cases hkp : D.kept = []
     ·have hkept := kept_l (xs := D.kept) (o := 4) HB.out (c4 D)
      rw [hkp, List.length_nil] at hkept
      have HKP := Lib.hid hkp
      have HKT := Lib.hid hkept
      clear hkept hkp
      by_cases hgo : D.err = 0 ∧ D.en = false
      ·have HGO := Lib.hid hgo
       have HGC := Lib.hid (going_yes HB.out (by rw [c1, hgo.1]) (by rw [c3, hgo.2]))
       clear hgo
       obtain ⟨ad, rfl, hcell⟩ := ReadsInt.at_ (reads_eff HR0.out HE.out (fun hne ad had e => HSG.out hne ad had e)) (k : Int) hk0 hk1
       rw [Int.toNat_natCast, show rd l (k : Int) = l.getD k 0 by simp [rd]] at hcell
       obtain ⟨x, hx⟩ : ∃ x, l.getD k 0 = x := ⟨_, rfl⟩
       rw [hx] at hcell
       have HX := Lib.hid hx
       clear hx
       by_cases hsx : isScal x = true
       ·have HSX := Lib.hid hsx
        have HIS := Lib.hid (scal_c x wr)
        have hsc1 : ∀ w1, Below wr.heap.size wr w1 → True := fun _ _ => trivial
        clear hsc1
        go_upto_region 6 with (first
         | (go_at_call 102; refine HKT.out.mono ?_; rintro e w1 ⟨rfl, rfl⟩)
         | (go_at_call 103; refine HGC.out.mono ?_; rintro e w1 ⟨rfl, rfl⟩)
         | (go_at_call 105; refine HIS.out.mono ?_; rw [hsx]; rintro e w1 ⟨rfl, hb1⟩))
        have HB1 := Lib.hid (HB.out.below hb1)
        have HE1 := Lib.hid (HEW.out.trans (Eff.of_below hb1 _) (fun _ _ h => h))
        have hc1 : w1.cell? (ad.add k) = some (.int .u32 x) := (hb1.cell (World.block_lt_of_cell? wr _ hcell)).trans hcell
        clear hb1 hcell
        have hxk : 0 ≤ x := HSC.out x (by rw [← HX.out, List.getD_eq_getElem?_getD, List.getElem?_eq_getElem hk]; exact List.getElem_mem hk)
        have hby := fun W (hW : Blk W g T (Cs D) ∧ Eff w1 W (fun k => k = g)) => byt D hW.1 x hxk hsx
        have hbl := len D.st x
        obtain ⟨P, hP⟩ : ∃ P, M.put D.st x = P := ⟨_, rfl⟩
        rw [hP] at hby hbl
        obtain ⟨sx, B⟩ := P
        simp only at hby hbl
        have HPP := Lib.hid hP
        have HBY := Lib.hid hby
        have HFE1 := Lib.hid (HFE.out.eat len hk ⟨HKP.out, HGO.out⟩ (by rw [HX.out]; exact hsx))
        clear hby hP
        go_cut [] (fun wx => Hid (Blk wx g T (Cs { D with kept := B, st := sx }) ∧ Eff w wx (fun k => k = g)))
        case first =>
         go_region_with (first
          | ((first | go_at_call 108 | go_at_call 112 | go_at_call 115 | go_at_call 119 | go_at_call 153); refine (HBY.out _ (by first | exact ⟨HB1.out, Eff.refl _ _⟩ | exact ⟨HB1.out, Eff.drewN _ 1 _⟩)).mono ?_; rintro e w3 ⟨rfl, hb3, he3⟩; have HB3 : Hid (Blk w3 g T (Cs { D with st := sx }) ∧ Eff w1 w3 (fun k => k = g)) := Lib.hid ⟨hb3, (by first | exact he3 | exact (Eff.drewN w1 1 _).trans he3 (fun _ _ h => h))⟩; clear hb3 he3)
          | (go_at_call 107; refine (keep_l (o := 4) (xs := D.kept) (ys := B) HB3.out.1 (c4 _) (by rw [HKP.out, List.length_nil]; omega)).mono ?_; rintro e w4 ⟨rfl, rfl⟩))
         all_goals (go_wp2_with fail; go_meet)
         all_goals exact Lib.hid ⟨by rw [HKP.out, List.nil_append]; exact S4 HB3.out.1, (HE1.out.trans HB3.out.2 (fun _ _ h => h)).trans (Eff.set _ _ _ _) (fun _ _ h => h)⟩
        case rest =>
         have HB6 := Lib.hid hcut.out.1
         have HE6 := Lib.hid hcut.out.2
         clear hcut HB1 HE1 hc1
         have HEAT := Lib.hid (eat_c (n := D.pos) HB6.out (c0 _) (by rw [c1]; show some (Value.int .i64 D.err) = _; rw [HGO.out.1]) (by rw [c3]; show some (Value.bool D.en) = _; rw [HGO.out.2]) (by omega) (by have := HFE.out.pos; have := HFE.out.le; have := HLEN.out; omega))
         obtain ⟨m, hm⟩ : ∃ m, giveZ (room - o.length) B.length = m := ⟨_, rfl⟩
         have HFE2 : Hid (FE M z room l d0 o0 (k + 1) { D with pos := D.pos + 1, kept := B.drop m, st := sx } (o ++ B.take m)) := by
          have h := HFE1.out
          rw [HX.out, HPP.out] at h
          simp only [hm] at h
          exact Lib.hid h
         have HB7 : Hid (Blk (wc.setCell ⟨g, 0, none⟩ (.int .i64 ((D.pos : Int) + 1))) g T (Cs { D with pos := D.pos + 1, kept := B, st := sx })) := by
          exact Lib.hid (S0 HB6.out)
         have HGV : Hid (Calls Tryz.prog 104 #[.pointer (some ⟨g, 4, none⟩), .int .i64 (room - o.length)] (wc.setCell ⟨g, 0, none⟩ (.int .i64 ((D.pos : Int) + 1))) fun e w' => e = .returned (.string (strOf (B.take m))) ∧ w' = (wc.setCell ⟨g, 0, none⟩ (.int .i64 ((D.pos : Int) + 1))).setCell ⟨g, 4, none⟩ (.string (strOf (B.drop m)))) := by
          have h := give_l (room := room - o.length) (xs := B) (o := 4) HB7.out (c4 _)
          rw [hm] at h
          exact Lib.hid h
         have hso : (strOf o).size = o.length := strOf_size o
         have hol : o.length ≤ 20000000 := by have hzk := Nat.mul_le_mul_right k hz; have := HFE.out.out; have := HLEN.out.1; have := HLEN.out.2.2.2; omega
         obtain ⟨T, hT⟩ : ∃ T, B.take m = T := ⟨_, rfl⟩
         have hTl : T.length ≤ z := by rw [← hT, List.length_take]; omega
         have hst : (strOf T).size = T.length := strOf_size T
         have HTT := Lib.hid hT
         rw [hT] at HGV
         have hkb : (k : Int) ≤ 1000000 := by have := HLEN.out.2.2.2; omega
         have hr1 := hroom.1
         have hr2 := hroom.2
         clear hm hT hbl
         go_wp2_with (first
          | (go_at_call 109; refine HEAT.out.mono ?_; rintro e w5 ⟨rfl, rfl⟩)
          | (go_at_call 104; refine HGV.out.mono ?_; rintro e w5 ⟨rfl, rfl⟩))
         go_roundg (l.length - (k + 1))
         case measure => have := HK.out; omega
         case rel =>
          refine ⟨k + 1, _, o ++ B.take m, by rw [strOf_append, HTT.out], by go_num, Lib.hid rfl, HFE2, ?_, ?_⟩
          ·exact Lib.hid (S4 HB7.out)
          ·exact Lib.hid ((HE6.out.trans (Eff.set _ _ _ _) (fun _ _ h => h)).trans (Eff.set _ _ _ _) (fun _ _ h => h))
       ·have hsx0 : isScal x = false := by simpa using hsx
        have HIS := Lib.hid (scal_c x wr)
        have HST := Lib.hid (fun w1 (hb1 : Below wr.heap.size wr w1) => stop_c (err := 2) (n := D.pos) (z := D.fat) (by decide) (HB.out.below hb1) (c0 _) (by rw [c1, HGO.out.1]) (c2 _) (by rw [c3, HGO.out.2]))
        go_upto_region 5 with (first
         | (go_at_call 102; refine HKT.out.mono ?_; rintro e w1 ⟨rfl, rfl⟩)
         | (go_at_call 103; refine HGC.out.mono ?_; rintro e w1 ⟨rfl, rfl⟩)
         | (go_at_call 105; refine HIS.out.mono ?_; rw [hsx0]; rintro e w1 ⟨rfl, hb1⟩))
        have HS1 := Lib.hid (HST.out w1 hb1)
        have HB1 := Lib.hid (HB.out.below hb1)
        have HE1 := Lib.hid (HEW.out.trans (Eff.of_below hb1 _) (fun _ _ h => h))
        clear hb1
        go_wp2_with (go_at_call 106; refine HS1.out.mono ?_; rintro e w2 ⟨rfl, rfl⟩)
        go_meet
        refine ⟨k, _, o, rfl, rfl, Lib.hid (HFE.out.bad0 (bad _) hk ⟨HKP.out, HGO.out⟩ (by rw [HX.out]; exact hsx0)), Lib.hid (S12 HB1.out), Lib.hid ((HE1.out.trans (Eff.set _ _ _ _) (fun _ _ h => h)).trans (Eff.set _ _ _ _) (fun _ _ h => h))⟩
      ·have HGO := Lib.hid hgo
       have HGC := Lib.hid (going_c (err := D.err) (en := D.en) HB.out (c1 D) (c3 D))
       have hgf : (D.err == 0 && !D.en) = false := by
        rcases Bool.eq_false_or_eq_true (D.err == 0 && !D.en) with h | h
        ·simp at h; exact absurd h hgo
        ·exact h
       rw [hgf] at HGC
       clear hgo hgf
       go_wp2_with (first
         | (go_at_call 102; refine HKT.out.mono ?_; rintro e w1 ⟨rfl, rfl⟩)
         | (go_at_call 103; refine HGC.out.mono ?_; rintro e w1 ⟨rfl, rfl⟩))
       go_meet
       exact ⟨k, D, o, rfl, rfl, Lib.hid (HFE.out.stop (fun h => HGO.out h.2)), HB, HEW⟩
     ·have hkept := kept_l (xs := D.kept) (o := 4) HB.out (c4 D)
      have hz : ((D.kept.length : Int) == 0) = false := by simpa using hkp
      have HKP := Lib.hid hkp
      have HKT := Lib.hid hkept
      clear hkept hkp
      go_wp2_with (go_at_call 102; refine HKT.out.mono ?_; rintro e w1 ⟨rfl, rfl⟩)
      go_meet
      exact ⟨k, D, o, rfl, rfl, Lib.hid (HFE.out.stop (fun h => HKP.out h.1)), HB, HEW⟩
    ·have hk1 : ¬ (k : Int) < (l.length : Int) := by omega
     have HKK := Lib.hid hk
     clear hk
     go_wp2_with fail
     go_meet
     exact ⟨k, D, o, rfl, rfl, Lib.hid (HFE.out.all HKK.out), HB, HEW⟩
  case rest =>
   obtain ⟨k, D, o, rfl, rfl, HFE, HB, HE⟩ := hcut
   go_wp2_with fail
   refine bodyPost_ret (v := .tuple #[.int .i64 k, .string (strOf o)]) (by simp [results, Tryz.results101, Tryz.results111, Tryz.results114, Tryz.results117, Tryz.results152, go_sem]) rfl ?_
   rw [HFE.out]
   exact ⟨fun k => k = g, rfl, ⟨HB.out, fun _ => Iff.rfl⟩, HE.out.mono (fun k _ h => (HFF.out k).2 h), fun k h => .inl ((HFF.out k).2 h)⟩
theorem fin8 {w : World} {g : Nat} {F : Nat → Prop} {d : ESt E8} (h : Rep8 w g F d) :
  Calls Tryz.prog 99 #[.pointer (some ⟨g, 0, none⟩)] w fun e w' => ∃ F', e = .returned (.tuple #[]) ∧ Rep8 w' g F' (endE E8 d) ∧ Eff w w' F ∧ (∀ k, F' k → F k ∨ w.heap.size ≤ k) := by
 obtain ⟨hb, hF⟩ := h
 unfold endE
 by_cases hg : d.err = 0 ∧ d.en = false
 ·rw [if_pos hg]
  refine (end_c hb (by show some (Value.int .i64 d.err) = _; rw [hg.1]) (by show some (Value.bool d.en) = _; rw [hg.2])).mono ?_
  rintro e w' ⟨rfl, rfl⟩
  refine ⟨F, rfl, ⟨?_, hF⟩, (Eff.set _ _ _ _).mono (fun k _ h => (hF k).2 h), fun k h => .inl h⟩
  have h2 := hb.set 3 (.bool true)
  show Blk _ g T8 #[.int .i64 d.pos, .int .i64 d.err, .int .i64 d.fat, .bool true, .string (strOf (d.kept ++ []))]
  rw [List.append_nil]
  exact h2
 ·rw [if_neg hg]
  refine (end_not (err := d.err) (en := d.en) hb rfl rfl (by
   rcases Bool.eq_false_or_eq_true (d.err == 0 && !d.en) with h | h
   ·simp at h; exact absurd h hg
   ·exact h)).mono ?_
  rintro e w' ⟨rfl, rfl⟩
  exact ⟨F, rfl, ⟨hb, hF⟩, Eff.refl _ _, fun k h => .inl h⟩
theorem k8 : EncK 51 101 99 E8 Rep8 where
 invF := by intro n g x y w; kernel_rfl
 invE := by intro n g w; kernel_rfl
 invD := by intro n g w; kernel_rfl
 invW := by intro n g w; kernel_rfl
 lt h k hk := by rw [(h.2 k).1 hk]; exact h.1.lt
 eff h he hs := ⟨h.1.eff he (hs _ ((h.2 _).2 rfl)), h.2⟩
 feed A c l room h hr hs hsc hp hk hroom := feedEG (Cs := Cs8) ⟨fun _ => rfl, fun _ => rfl, fun _ => rfl, fun _ => rfl, fun _ => rfl, fun _ _ => rfl, fun _ _ _ => rfl, fun _ _ => rfl⟩ 4 (by decide) bytes8_len (fun _ => rfl) _ _ (.inl ⟨rfl, rfl⟩) (fun _ hb => bytes8_c hb) A c l room h hr hs hsc hp hk hroom
 fin h _ _ := fin8 h
 done h := outdone_c h.1 rfl rfl rfl
 blk h := ⟨T8, _, by decide, by decide, h.1, rfl, rfl⟩
theorem new8 (w : World) : Calls Tryz.prog 15 #[] w fun e w' => e = .returned (.pointer (some ⟨w.heap.size, 0, none⟩)) ∧ w' = w.alloc (.cells (Cs8 (ESt.new E8)) T8 (0, 0)) := by
 go_enter Tryz.func15, Tryz.ntmps15
 go_wp2_with fail
 go_ret
 exact ⟨rfl, rfl⟩
theorem new8_rep (w : World) : Rep8 (w.alloc (.cells (Cs8 (ESt.new E8)) T8 (0, 0))) w.heap.size (fun k => k = w.heap.size) (ESt.new E8) := ⟨Blk.new w _ _, fun _ => Iff.rfl⟩
set_option maxRecDepth 100000 in
theorem newE1 : NewE 1 51 E8 Rep8 := by
 intro w
 go_enter Tryz.func6, Tryz.ntmps6
 go_wp2_with (go_at_call 15; refine (new8 _).mono ?_; rintro e w' ⟨rfl, rfl⟩)
 refine bodyPost_ret (v := .tuple #[.iface 51 (.pointer (some ⟨w.heap.size, 0, none⟩)), .int .i64 0]) (by simp [results, Tryz.results6, go_sem]) rfl ?_
 exact ⟨_, _, rfl, below_new (Below.refl _ _) _, new8_rep w, fun k hk => Nat.le_of_eq hk.symm⟩
end Go.Proofs.YtppchdinolndmaaGreat
