/- Joined texts: E32, K32, Hb. -/
import Derived.Test.YtmgnndnofbemeaaGreatMUstp
import Derived.Test.YtmgnndnofbemeaaGreatMBit
import Derived.StillTailTactics
import Derived.Deep.CutBlock
import Derived.Test.YtmgnndnofbemeaaGreatME8
import Derived.Test.YtmgnndnofbemeaaGreatMDh
import Derived.Test.YtmgnndnofbemeaaGreatME16
import Derived.Test.YtmgnndnofbemeaaGreatMDw
namespace Go.Proofs.YtmgnndnofbemeaaGreat
open Go.RowKit Go.Proofs.YtmgnndnofbemeaaGreatW.PrintWords
set_option linter.unusedVariables false
set_option linter.unusedSimpArgs false
def bytes32 (big : Bool) (c : Int) : List Int := if big then [c / 16777216, c / 65536, c / 256 % 256, c % 256] else [c % 256, c / 256 % 256, c / 65536, c / 16777216]
def E32 (big : Bool) : EMach := ⟨Unit, (), fun _ c => ((), bytes32 big c), fun _ => [], fun _ => []⟩
abbrev T32 : TypeId := 141
def Cs32 (big : Bool) (d : ESt (E32 big)) : Array Value := #[.int .i64 d.pos, .int .i64 d.err, .int .i64 d.fat, .bool d.en, .string (strOf d.kept), .bool big]
def Rep32 (big : Bool) (w : World) (g : Nat) (F : Nat → Prop) (d : ESt (E32 big)) : Prop := Blk w g T32 (Cs32 big d) ∧ ∀ k, F k ↔ k = g
theorem bytes32_len (big : Bool) (st : (E32 big).St) (c : Int) : ((E32 big).put st c).2.length ≤ 4 := by
 show (bytes32 big c).length ≤ 4
 cases big <;> exact Nat.le_refl 4
set_option maxRecDepth 100000 in
theorem bytes32_c (big : Bool) {w : World} {g : Nat} {d : ESt (E32 big)} (hb : Blk w g T32 (Cs32 big d)) (c : Int) (h0 : 0 ≤ c) (h1 : isScal c = true) :
  Calls Tryz.prog 146 #[.pointer (some ⟨g, 0, none⟩), .int .u32 c] w fun e w' => e = .returned (.string (strOf ((E32 big).put d.st c).2)) ∧ Blk w' g T32 (Cs32 big { d with st := ((E32 big).put d.st c).1 }) ∧ Eff w w' (fun k => k = g) := by
 have hc1 : c ≤ 1114111 := by unfold isScal at h1; simp at h1; omega
 have HB := Lib.hid hb
 have c5 : w.cell? ⟨g, 5, none⟩ = some (.bool big) := hb.cell rfl
 clear hb
 cases big
 ·have hc := conv8 w [c % 256, c / 256 % 256, c / 65536, c / 16777216] 4 (by simp)
  simp only [nums, List.map_cons, List.map_nil, List.length_cons, List.length_nil] at hc
  go_enter Tryz.func146, Tryz.ntmps146
  go_wp2
  go_ret
  exact ⟨rfl, HB.out.alloc _, Eff.alloc _ _ _⟩
 ·have hc := conv8 w [c / 16777216, c / 65536, c / 256 % 256, c % 256] 4 (by simp)
  simp only [nums, List.map_cons, List.map_nil, List.length_cons, List.length_nil] at hc
  go_enter Tryz.func146, Tryz.ntmps146
  go_wp2
  go_ret
  exact ⟨rfl, HB.out.alloc _, Eff.alloc _ _ _⟩
set_option maxRecDepth 100000 in
set_option maxHeartbeats 4000000 in
theorem feedE32 (big : Bool) {w : World} {g : Nat} {F : Nat → Prop} {d : ESt (E32 big)} (A : Option Addr) (c : Nat) (l : List Int) (room : Int) (h : Rep32 big w g F d) (hr : ReadsInt w .u32 A l.length l) (hs : l ≠ [] → ∀ ad, A = some ad → ¬ F ad.block)
  (hsc : ∀ x ∈ l, 0 ≤ x) (hp : d.pos + l.length ≤ 1000000) (hk : d.kept.length ≤ 10000000) (hroom : -1000000000 ≤ room ∧ room ≤ 9223372036854775807) :
  Calls Tryz.prog 145 #[.pointer (some ⟨g, 0, none⟩), .slice A l.length c, .int .i64 room] w fun e w' => ∃ F', e = .returned (.tuple #[.int .i64 (feedE (E32 big) room l (d.drop (giveZ room d.kept.length)) (d.kept.take (giveZ room d.kept.length))).1,
    .string (strOf (feedE (E32 big) room l (d.drop (giveZ room d.kept.length)) (d.kept.take (giveZ room d.kept.length))).2.1)]) ∧
   Rep32 big w' g F' (feedE (E32 big) room l (d.drop (giveZ room d.kept.length)) (d.kept.take (giveZ room d.kept.length))).2.2 ∧ Eff w w' F ∧ (∀ k, F' k → F k ∨ w.heap.size ≤ k) := by
 obtain ⟨hb, hF⟩ := h
 obtain ⟨d0, hd0⟩ : ∃ d0, d.drop (giveZ room d.kept.length) = d0 := ⟨_, rfl⟩
 obtain ⟨o0, ho0⟩ : ∃ o0, d.kept.take (giveZ room d.kept.length) = o0 := ⟨_, rfl⟩
 have ho0l : o0.length ≤ 10000000 := by rw [← ho0, List.length_take]; omega
 have hd0k : d0.kept.length ≤ 10000000 := by rw [← hd0]; show (d.kept.drop _).length ≤ _; rw [List.length_drop]; omega
 have hd0p : d0.pos = d.pos := by rw [← hd0]; rfl
 have hg0 := give_l (room := room) (xs := d.kept) (o := 4) hb rfl
 rw [ho0] at hg0
 have hb0 : Blk (w.setCell ⟨g, 4, none⟩ (.string (strOf (d.kept.drop (giveZ room d.kept.length))))) g T32 (Cs32 big d0) := by rw [← hd0]; exact hb.set 4 _
 have he0 : Eff w (w.setCell ⟨g, 4, none⟩ (.string (strOf (d.kept.drop (giveZ room d.kept.length))))) (fun k => k = g) := Eff.set _ _ _ _
 obtain ⟨w0, hw0⟩ : ∃ w0, w.setCell ⟨g, 4, none⟩ (.string (strOf (d.kept.drop (giveZ room d.kept.length)))) = w0 := ⟨_, rfl⟩
 rw [hw0] at hg0 hb0 he0
 rw [hd0, ho0]
 have hsg : l ≠ [] → ∀ ad, A = some ad → ad.block ≠ g := fun hne ad had e => hs hne ad had ((hF _).2 e)
 have HR0 := Lib.hid hr
 have HSG := Lib.hid hsg
 have HB0 := Lib.hid hb0
 have HE0 := Lib.hid he0
 have HFF := Lib.hid hF
 have HSC := Lib.hid hsc
 have HLEN := Lib.hid (And.intro ho0l (And.intro hd0k (And.intro hd0p hp)))
 have HG0 := Lib.hid hg0
 clear hb hr hs hsg hb0 he0 hF hsc hw0 ho0l hd0k hd0p hp hg0 hd0 ho0 hk
 go_enter Tryz.func145, Tryz.ntmps145
 go_upto_block 0 with (go_at_call 135; refine HG0.out.mono ?_; rintro e w' ⟨rfl, rfl⟩)
 go_cut [8, 9] (fun s8 s9 wx => ∃ (k : Nat) (D : ESt (E32 big)) (o : List Int), s8 = .string (strOf o) ∧ s9 = .int .i64 k ∧ Hid (feedE (E32 big) room l d0 o0 = (k, o, D)) ∧ Hid (Blk wx g T32 (Cs32 big D)) ∧ Hid (Eff w wx (fun k => k = g)))
 case first =>
  go_wp2_with fail
  go_loopg [8, 9] l.length (fun kq s8 s9 wx => ∃ (k : Nat) (D : ESt (E32 big)) (o : List Int), s8 = .string (strOf o) ∧ s9 = .int .i64 k ∧ Hid (kq = l.length - k) ∧ Hid (FE (E32 big) 4 room l d0 o0 k D o) ∧ Hid (Blk wx g T32 (Cs32 big D)) ∧ Hid (Eff w wx (fun k => k = g)))
  case atStart => exact ⟨0, d0, o0, rfl, rfl, Lib.hid rfl, Lib.hid (FE.start _ _ _ _ _ _), HB0, HE0⟩
  case round =>
   obtain ⟨k, D, o, rfl, rfl, HK, HFE, HB, HE⟩ := hrel
   have hk0 : (0 : Int) ≤ (k : Int) := by omega
   have HEW := HE
   by_cases hk : k < l.length
   ·have hk1 : (k : Int) < (l.length : Int) := by omega
    by_cases hkp : D.kept = []
    ·have hkept := kept_l (xs := D.kept) (o := 4) HB.out rfl
     rw [hkp, List.length_nil] at hkept
     have HKP := Lib.hid hkp
     have HKT := Lib.hid hkept
     clear hkept hkp
     by_cases hgo : D.err = 0 ∧ D.en = false
     ·have HGO := Lib.hid hgo
      have HGC := Lib.hid (going_yes HB.out (by show some (Value.int .i64 D.err) = _; rw [hgo.1]) (by show some (Value.bool D.en) = _; rw [hgo.2]))
      clear hgo
      obtain ⟨ad, rfl, hcell⟩ := ReadsInt.at_ (reads_eff HR0.out HE.out (fun hne ad had e => HSG.out hne ad had e)) (k : Int) hk0 hk1
      rw [Int.toNat_natCast, show rd l (k : Int) = l.getD k 0 by simp [rd]] at hcell
      obtain ⟨x, hx⟩ : ∃ x, l.getD k 0 = x := ⟨_, rfl⟩
      rw [hx] at hcell
      have HX := Lib.hid hx
      clear hx
      by_cases hsx : isScal x = true
      ·have HSX := Lib.hid hsx
       have HIS := Lib.hid (scal_c x wr)
       have hsc1 : ∀ w1, Below wr.heap.size wr w1 → True := fun _ _ => trivial
       clear hsc1
       go_upto_region 6 with (first
        | (go_at_call 133; refine HKT.out.mono ?_; rintro e w1 ⟨rfl, rfl⟩)
        | (go_at_call 134; refine HGC.out.mono ?_; rintro e w1 ⟨rfl, rfl⟩)
        | (go_at_call 136; refine HIS.out.mono ?_; rw [hsx]; rintro e w1 ⟨rfl, hb1⟩))
       have HB1 := Lib.hid (HB.out.below hb1)
       have HE1 := Lib.hid (HEW.out.trans (Eff.of_below hb1 _) (fun _ _ h => h))
       have hc1 : w1.cell? (ad.add k) = some (.int .u32 x) := (hb1.cell (World.block_lt_of_cell? wr _ hcell)).trans hcell
       clear hb1 hcell
       have hxk : 0 ≤ x := HSC.out x (by rw [← HX.out, List.getD_eq_getElem?_getD, List.getElem?_eq_getElem hk]; exact List.getElem_mem hk)
       have hby := fun W (hW : Blk W g T32 (Cs32 big D) ∧ Eff w1 W (fun k => k = g)) => bytes32_c big (d := D) hW.1 x hxk hsx
       have hbl := (bytes32_len big) D.st x
       obtain ⟨P, hP⟩ : ∃ P, ((E32 big)).put D.st x = P := ⟨_, rfl⟩
       rw [hP] at hby hbl
       obtain ⟨sx, B⟩ := P
       simp only at hby hbl
       have HPP := Lib.hid hP
       have HBY := Lib.hid hby
       have HFE1 := Lib.hid (HFE.out.eat (bytes32_len big) hk ⟨HKP.out, HGO.out⟩ (by rw [HX.out]; exact hsx))
       clear hby hP
       go_cut [] (fun wx => Hid (Blk wx g T32 (Cs32 big { D with kept := B, st := sx }) ∧ Eff w wx (fun k => k = g)))
       case first =>
        go_region_with (first
         | (go_at_call 146; refine (HBY.out _ (by first | exact ⟨HB1.out, Eff.refl _ _⟩ | exact ⟨HB1.out, Eff.drewN _ 1 _⟩)).mono ?_; rintro e w3 ⟨rfl, hb3, he3⟩; have HB3 : Hid (Blk w3 g T32 (Cs32 big { D with st := sx }) ∧ Eff w1 w3 (fun k => k = g)) := Lib.hid ⟨hb3, (by first | exact he3 | exact (Eff.drewN w1 1 _).trans he3 (fun _ _ h => h))⟩; clear hb3 he3)
         | (go_at_call 138; refine (keep_l (o := 4) (xs := D.kept) (ys := B) HB3.out.1 rfl (by rw [HKP.out, List.length_nil]; omega)).mono ?_; rintro e w4 ⟨rfl, rfl⟩))
        all_goals (go_wp2_with fail; go_meet)
        all_goals exact Lib.hid ⟨by rw [HKP.out, List.nil_append]; exact HB3.out.1.set 4 _, (HE1.out.trans HB3.out.2 (fun _ _ h => h)).trans (Eff.set _ _ _ _) (fun _ _ h => h)⟩
       case rest =>
        have HB6 := Lib.hid hcut.out.1
        have HE6 := Lib.hid hcut.out.2
        clear hcut HB1 HE1 hc1
        have HEAT := Lib.hid (eat_c (n := D.pos) HB6.out rfl (by show some (Value.int .i64 D.err) = _; rw [HGO.out.1]) (by show some (Value.bool D.en) = _; rw [HGO.out.2]) (by omega) (by have := HFE.out.pos; have := HFE.out.le; have := HLEN.out; omega))
        obtain ⟨m, hm⟩ : ∃ m, giveZ (room - o.length) B.length = m := ⟨_, rfl⟩
        have HFE2 : Hid (FE (E32 big) 4 room l d0 o0 (k + 1) { D with pos := D.pos + 1, kept := B.drop m, st := sx } (o ++ B.take m)) := by
         have h := HFE1.out
         rw [HX.out, HPP.out] at h
         simp only [hm] at h
         exact Lib.hid h
        have HB7 : Hid (Blk (wc.setCell ⟨g, 0, none⟩ (.int .i64 ((D.pos : Int) + 1))) g T32 (Cs32 big { D with pos := D.pos + 1, kept := B, st := sx })) := by
         refine Lib.hid ?_
         show Blk _ g T32 #[.int .i64 ((D.pos + 1 : Nat) : Int), .int .i64 D.err, .int .i64 D.fat, .bool D.en, .string (strOf B), .bool big]
         rw [Int.natCast_add]
         exact HB6.out.set 0 _
        have HGV : Hid (Calls Tryz.prog 135 #[.pointer (some ⟨g, 4, none⟩), .int .i64 (room - o.length)] (wc.setCell ⟨g, 0, none⟩ (.int .i64 ((D.pos : Int) + 1))) fun e w' => e = .returned (.string (strOf (B.take m))) ∧ w' = (wc.setCell ⟨g, 0, none⟩ (.int .i64 ((D.pos : Int) + 1))).setCell ⟨g, 4, none⟩ (.string (strOf (B.drop m)))) := by
         have h := give_l (room := room - o.length) (xs := B) (o := 4) HB7.out rfl
         rw [hm] at h
         exact Lib.hid h
        have hso : (strOf o).size = o.length := strOf_size o
        have hol : o.length ≤ 20000000 := by have := HFE.out.out; have := HLEN.out.1; have := HLEN.out.2.2.2; omega
        obtain ⟨T, hT⟩ : ∃ T, B.take m = T := ⟨_, rfl⟩
        have hTl : T.length ≤ 4 := by rw [← hT, List.length_take]; omega
        have hst : (strOf T).size = T.length := strOf_size T
        have HTT := Lib.hid hT
        rw [hT] at HGV
        have hkb : (k : Int) ≤ 1000000 := by have := HLEN.out.2.2.2; omega
        have hr1 := hroom.1
        have hr2 := hroom.2
        clear hm hT hbl
        go_wp2_with (first
         | (go_at_call 140; refine HEAT.out.mono ?_; rintro e w5 ⟨rfl, rfl⟩)
         | (go_at_call 135; refine HGV.out.mono ?_; rintro e w5 ⟨rfl, rfl⟩))
        go_roundg (l.length - (k + 1))
        case measure => have := HK.out; omega
        case rel =>
         refine ⟨k + 1, _, o ++ B.take m, by rw [strOf_append, HTT.out], by go_num, Lib.hid rfl, HFE2, ?_, ?_⟩
         ·exact Lib.hid (HB7.out.set 4 _)
         ·exact Lib.hid ((HE6.out.trans (Eff.set _ _ _ _) (fun _ _ h => h)).trans (Eff.set _ _ _ _) (fun _ _ h => h))
      ·have hsx0 : isScal x = false := by simpa using hsx
       have HIS := Lib.hid (scal_c x wr)
       have HST := Lib.hid (fun w1 (hb1 : Below wr.heap.size wr w1) => stop_c (err := 2) (n := D.pos) (z := D.fat) (by decide) (HB.out.below hb1) rfl (by show some (Value.int .i64 D.err) = _; rw [HGO.out.1]) rfl (by show some (Value.bool D.en) = _; rw [HGO.out.2]))
       go_upto_region 5 with (first
        | (go_at_call 133; refine HKT.out.mono ?_; rintro e w1 ⟨rfl, rfl⟩)
        | (go_at_call 134; refine HGC.out.mono ?_; rintro e w1 ⟨rfl, rfl⟩)
        | (go_at_call 136; refine HIS.out.mono ?_; rw [hsx0]; rintro e w1 ⟨rfl, hb1⟩))
       have HS1 := Lib.hid (HST.out w1 hb1)
       have HB1 := Lib.hid (HB.out.below hb1)
       have HE1 := Lib.hid (HEW.out.trans (Eff.of_below hb1 _) (fun _ _ h => h))
       clear hb1
       go_wp2_with (go_at_call 137; refine HS1.out.mono ?_; rintro e w2 ⟨rfl, rfl⟩)
       go_meet
       refine ⟨k, _, o, rfl, rfl, Lib.hid (HFE.out.bad0 rfl hk ⟨HKP.out, HGO.out⟩ (by rw [HX.out]; exact hsx0)), Lib.hid ((HB1.out.set 1 (.int .i64 2)).set 2 (.int .i64 D.pos)), Lib.hid ((HE1.out.trans (Eff.set _ _ _ _) (fun _ _ h => h)).trans (Eff.set _ _ _ _) (fun _ _ h => h))⟩
     ·have HGO := Lib.hid hgo
      have HGC := Lib.hid (going_c (err := D.err) (en := D.en) HB.out rfl rfl)
      have hgf : (D.err == 0 && !D.en) = false := by
       rcases Bool.eq_false_or_eq_true (D.err == 0 && !D.en) with h | h
       ·simp at h; exact absurd h hgo
       ·exact h
      rw [hgf] at HGC
      clear hgo hgf
      go_wp2_with (first
        | (go_at_call 133; refine HKT.out.mono ?_; rintro e w1 ⟨rfl, rfl⟩)
        | (go_at_call 134; refine HGC.out.mono ?_; rintro e w1 ⟨rfl, rfl⟩))
      go_meet
      exact ⟨k, D, o, rfl, rfl, Lib.hid (HFE.out.stop (fun h => HGO.out h.2)), HB, HEW⟩
    ·have hkept := kept_l (xs := D.kept) (o := 4) HB.out rfl
     have hz : ((D.kept.length : Int) == 0) = false := by simpa using hkp
     have HKP := Lib.hid hkp
     have HKT := Lib.hid hkept
     clear hkept hkp
     go_wp2_with (go_at_call 133; refine HKT.out.mono ?_; rintro e w1 ⟨rfl, rfl⟩)
     go_meet
     exact ⟨k, D, o, rfl, rfl, Lib.hid (HFE.out.stop (fun h => HKP.out h.1)), HB, HEW⟩
   ·have hk1 : ¬ (k : Int) < (l.length : Int) := by omega
    have HKK := Lib.hid hk
    clear hk
    go_wp2_with fail
    go_meet
    exact ⟨k, D, o, rfl, rfl, Lib.hid (HFE.out.all HKK.out), HB, HEW⟩
 case rest =>
  obtain ⟨k, D, o, rfl, rfl, HFE, HB, HE⟩ := hcut
  go_wp2_with fail
  refine bodyPost_ret (v := .tuple #[.int .i64 k, .string (strOf o)]) (by simp [results, Tryz.results145, go_sem]) rfl ?_
  rw [HFE.out]
  exact ⟨fun k => k = g, rfl, ⟨HB.out, fun _ => Iff.rfl⟩, HE.out.mono (fun k _ h => (HFF.out k).2 h), fun k h => .inl ((HFF.out k).2 h)⟩
end Go.Proofs.YtmgnndnofbemeaaGreat
namespace Go.Proofs.YtmgnndnofbemeaaGreat
open Go.RowKit Go.Proofs.YtmgnndnofbemeaaGreatW.PrintWords
set_option linter.unusedVariables false
set_option linter.unusedSimpArgs false
theorem inv32F : Inv2 90 "Feed" 145 := by intro n g x y w; kernel_rfl
theorem inv32E : Inv0 90 "End" 130 := by intro n g w; kernel_rfl
theorem inv32D : Inv0 90 "Done" 129 := by intro n g w; kernel_rfl
theorem inv32W : Inv0 90 "Fail" 131 := by intro n g w; kernel_rfl
theorem fin32 (big : Bool) {w : World} {g : Nat} {F : Nat → Prop} {d : ESt (E32 big)} (h : Rep32 big w g F d) :
  Calls Tryz.prog 130 #[.pointer (some ⟨g, 0, none⟩)] w fun e w' => ∃ F', e = .returned (.tuple #[]) ∧ Rep32 big w' g F' (endE (E32 big) d) ∧ Eff w w' F ∧ (∀ k, F' k → F k ∨ w.heap.size ≤ k) := by
 obtain ⟨hb, hF⟩ := h
 unfold endE
 by_cases hg : d.err = 0 ∧ d.en = false
 ·rw [if_pos hg]
  refine (end_c hb (by show some (Value.int .i64 d.err) = _; rw [hg.1]) (by show some (Value.bool d.en) = _; rw [hg.2])).mono ?_
  rintro e w' ⟨rfl, rfl⟩
  refine ⟨F, rfl, ⟨?_, hF⟩, (Eff.set _ _ _ _).mono (fun k _ h => (hF k).2 h), fun k h => .inl h⟩
  have h2 := hb.set 3 (.bool true)
  show Blk _ g T32 #[.int .i64 d.pos, .int .i64 d.err, .int .i64 d.fat, .bool true, .string (strOf (d.kept ++ [])), .bool big]
  rw [List.append_nil]
  exact h2
 ·rw [if_neg hg]
  refine (end_not (err := d.err) (en := d.en) hb rfl rfl (by
   rcases Bool.eq_false_or_eq_true (d.err == 0 && !d.en) with h | h
   ·simp at h; exact absurd h hg
   ·exact h)).mono ?_
  rintro e w' ⟨rfl, rfl⟩
  exact ⟨F, rfl, ⟨hb, hF⟩, Eff.refl _ _, fun k h => .inl h⟩
theorem k32 (big : Bool) : EncK 90 145 130 (E32 big) (Rep32 big) where
 invF := inv32F
 invE := inv32E
 invD := inv32D
 invW := inv32W
 lt h k hk := by rw [(h.2 k).1 hk]; exact h.1.lt
 eff h he hs := ⟨h.1.eff he (hs _ ((h.2 _).2 rfl)), h.2⟩
 feed A c l room h hr hs hsc hp hk hroom := feedE32 big A c l room h hr hs hsc hp hk hroom
 fin h _ _ := fin32 big h
 done h := outdone_c h.1 rfl rfl rfl
 blk h := ⟨T32, _, by decide, by decide, h.1, rfl, rfl⟩
theorem new32 (big : Bool) (w : World) : Calls Tryz.prog 38 #[.bool big] w fun e w' => e = .returned (.pointer (some ⟨w.heap.size, 0, none⟩)) ∧ w' = w.alloc (.cells (Cs32 big (ESt.new (E32 big))) T32 (0, 0)) := by
 go_enter Tryz.func38, Tryz.ntmps38
 go_wp2_with fail
 go_ret
 exact ⟨rfl, rfl⟩
theorem new32_rep (big : Bool) (w : World) : Rep32 big (w.alloc (.cells (Cs32 big (ESt.new (E32 big))) T32 (0, 0))) w.heap.size (fun k => k = w.heap.size) (ESt.new (E32 big)) := ⟨Blk.new w _ _, fun _ => Iff.rfl⟩
set_option maxRecDepth 100000 in
theorem newE4 : NewE 4 90 (E32 true) (Rep32 true) := by
 intro w
 go_enter Tryz.func16, Tryz.ntmps16
 go_wp2_with (go_at_call 38; refine (new32 true _).mono ?_; rintro e w' ⟨rfl, rfl⟩)
 refine bodyPost_ret (v := .tuple #[.iface 90 (.pointer (some ⟨w.heap.size, 0, none⟩)), .int .i64 0]) (by simp [results, Tryz.results16, go_sem]) rfl ?_
 exact ⟨_, _, rfl, below_new (Below.refl _ _) _, new32_rep true w, fun k hk => Nat.le_of_eq hk.symm⟩
set_option maxRecDepth 100000 in
theorem newE5 : NewE 5 90 (E32 false) (Rep32 false) := by
 intro w
 go_enter Tryz.func16, Tryz.ntmps16
 go_wp2_with (go_at_call 38; refine (new32 false _).mono ?_; rintro e w' ⟨rfl, rfl⟩)
 refine bodyPost_ret (v := .tuple #[.iface 90 (.pointer (some ⟨w.heap.size, 0, none⟩)), .int .i64 0]) (by simp [results, Tryz.results16, go_sem]) rfl ?_
 exact ⟨_, _, rfl, below_new (Below.refl _ _) _, new32_rep false w, fun k hk => Nat.le_of_eq hk.symm⟩
end Go.Proofs.YtmgnndnofbemeaaGreat
namespace Go.Proofs.YtmgnndnofbemeaaGreat
set_option linter.unusedVariables false
set_option linter.unusedSimpArgs false
theorem fits_up {u : Int} (h : ¬ (56320 ≤ u ∧ u < 57344)) : fits16 0 u = true := by
 unfold fits16
 have : (decide (56320 ≤ u) && decide (u < 57344)) = false := by simp; omega
 rw [this]; rfl
theorem fits_low {up u : Int} (h0 : up ≠ 0) (h : 56320 ≤ u ∧ u < 57344) : fits16 up u = true := by
 unfold fits16
 have : (decide (56320 ≤ u) && decide (u < 57344)) = true := by simp; omega
 have h2 : (up != 0) = true := by simpa using h0
 rw [this, h2]; rfl
theorem unit_steps (big : Bool) (f up u : Int) (h0 : 0 ≤ u) (h1 : u ≤ 65535) (hf : fits16 up u = true) (hb : fits16 up (u / 256 * 256) = true) {s' : Bool × Int × Int} {k : List Int}
  (hn : nextH big (true, (if big = true then u / 256 else u % 256), up) (if big = true then u % 256 else u / 256) = some (s', k)) (rest : List Int) (p : Nat) (acc : List Int) :
  runD (DH big) (false, f, up) (unit16 big u ++ rest) p acc = runD (DH big) s' rest (p + 1 + 1) (acc ++ k) := by
 have e1 : (DH big).next (false, f, up) (if big = true then u / 256 else u % 256) = some ((true, (if big = true then u / 256 else u % 256), up), []) := by
  show nextH big (false, f, up) _ = some ((true, (if big = true then u / 256 else u % 256), up), [])
  unfold nextH
  rw [if_pos rfl]
  cases big
  ·rfl
  ·simp only [if_true, Bool.true_and]
   rw [hb]
   rfl
 have e0 : unit16 big u ++ rest = (if big = true then u / 256 else u % 256) :: (if big = true then u % 256 else u / 256) :: rest := by
  unfold unit16
  cases big <;> rfl
 rw [e0, runD_some e1, runD_some (show (DH big).next (true, (if big = true then u / 256 else u % 256), up) (if big = true then u % 256 else u / 256) = some (s', k) from hn), List.append_nil]
theorem nextH_two (big : Bool) (f up b : Int) : nextH big (true, f, up) b = if fits16 up (unitOf big f b) = false then none
  else if up ≠ 0 then some ((false, f, 0), [65536 + (up - 55296) * 1024 + (unitOf big f b - 56320)])
  else if 55296 ≤ unitOf big f b ∧ unitOf big f b < 56320 then some ((false, f, unitOf big f b), []) else some ((false, f, 0), [unitOf big f b]) := by
 unfold nextH
 rw [if_neg (show ¬ (true = false) by decide)]
theorem unit_of (big : Bool) (u : Int) (h0 : 0 ≤ u) (h1 : u ≤ 65535) : unitOf big (if big = true then u / 256 else u % 256) (if big = true then u % 256 else u / 256) = u := by
 unfold unitOf
 cases big <;> simp <;> omega
theorem back16 (big : Bool) : BackM (E16 big) (DH big) := by
 refine (sim_plain (fun s : Bool × Int × Int => s.1 = false ∧ s.2.2 = 0) ⟨rfl, rfl⟩ (fun st s c hj h0 h1 => ?_) (fun _ => rfl) (fun s hs => by show (if s.1 = false ∧ s.2.2 = 0 then some [] else none) = _; rw [if_pos hs])).back
 have hc1 : c ≤ 1114111 := by unfold isScal at h1; simp at h1; omega
 have hsur : ¬ (55296 ≤ c ∧ c ≤ 57343) := by unfold isScal at h1; simp at h1; omega
 obtain ⟨s1, f, up⟩ := s
 obtain ⟨rfl, rfl⟩ := hj
 show ∃ s' : Bool × Int × Int, (s'.1 = false ∧ s'.2.2 = 0) ∧ ∀ rest p acc, ∃ q, runD (DH big) (false, f, 0) (bytes16 big c ++ rest) p acc = runD (DH big) s' rest q (acc ++ [c])
 unfold bytes16
 by_cases a : c < 65536
 ·rw [if_pos a]
  refine ⟨(false, (if big = true then c / 256 else c % 256), 0), ⟨rfl, rfl⟩, fun rest p acc => ⟨p + 1 + 1, unit_steps big f 0 c h0 (by omega) (fits_up (by omega)) (fits_up (by omega)) ?_ rest p acc⟩⟩
  rw [nextH_two, unit_of big c h0 (by omega), if_neg (by rw [fits_up (by omega)]; decide), if_neg (show ¬ ((0 : Int) ≠ 0) by decide), if_neg (by omega)]
 ·rw [if_neg a]
  have ha : 65536 ≤ c := by omega
  refine ⟨(false, (if big = true then (56320 + (c - 65536) % 1024) / 256 else (56320 + (c - 65536) % 1024) % 256), 0), ⟨rfl, rfl⟩, fun rest p acc => ⟨p + 1 + 1 + 1 + 1, ?_⟩⟩
  rw [List.append_assoc, unit_steps big f 0 (55296 + (c - 65536) / 1024) (by omega) (by omega) (fits_up (by omega)) (fits_up (by omega)) (s' := (false, (if big = true then (55296 + (c - 65536) / 1024) / 256 else (55296 + (c - 65536) / 1024) % 256), 55296 + (c - 65536) / 1024)) (k := []) ?_ _ p acc,
   unit_steps big _ (55296 + (c - 65536) / 1024) (56320 + (c - 65536) % 1024) (by omega) (by omega) (fits_low (by omega) (by omega)) (fits_low (by omega) (by omega)) (s' := (false, (if big = true then (56320 + (c - 65536) % 1024) / 256 else (56320 + (c - 65536) % 1024) % 256), 0)) (k := [c]) ?_ _ _ _, List.append_nil]
  rotate_left
  ·rw [nextH_two, unit_of big _ (by omega) (by omega), if_neg (by rw [fits_up (by omega)]; decide), if_neg (show ¬ ((0 : Int) ≠ 0) by decide), if_pos (by omega)]
  ·rw [nextH_two, unit_of big _ (by omega) (by omega), if_neg (by rw [fits_low (by show 55296 + (c - 65536) / 1024 ≠ 0; omega) (by omega)]; decide), if_pos (show 55296 + (c - 65536) / 1024 ≠ 0 by omega)]
   show some (_, [65536 + (55296 + (c - 65536) / 1024 - 55296) * 1024 + (56320 + (c - 65536) % 1024 - 56320)]) = _
   rw [show 65536 + (55296 + (c - 65536) / 1024 - 55296) * 1024 + (56320 + (c - 65536) % 1024 - 56320) = c by omega]
theorem scal_mid {c x : Int} (h0 : 0 ≤ c) (h1 : isScal c = true) (hx : x = c / 256 * 256) : isScal x = true := by
 unfold isScal at h1 ⊢
 simp at h1 ⊢
 omega
theorem back32 (big : Bool) : BackM (E32 big) (DW big) := by
 refine (sim_plain (fun s : Int × Int => s = (0, 0)) rfl (fun st s c hj h0 h1 => ?_) (fun _ => rfl) (fun s hs => by show (if s.1 = 0 then some [] else none) = _; rw [hs]; rfl)).back
 have hc1 : c ≤ 1114111 := by unfold isScal at h1; simp at h1; omega
 have hm := scal_mid h0 h1 rfl
 subst hj
 show ∃ s' : Int × Int, s' = (0, 0) ∧ ∀ rest p acc, ∃ q, runD (DW big) (0, 0) (bytes32 big c ++ rest) p acc = runD (DW big) s' rest q (acc ++ [c])
 refine ⟨_, rfl, fun rest p acc => ⟨p + 1 + 1 + 1 + 1, ?_⟩⟩
 have step : ∀ v v' x b y, v ≠ 3 → v + 1 = v' → moreW big v x b = y → fitsW big v y = true → (DW big).next (v, x) b = some ((v', y), []) := fun v v' x b y hv hv' hy hf => by
  show nextW big (v, x) b = some ((v', y), [])
  unfold nextW
  rw [hy, if_neg (by rw [hf]; decide), if_neg hv, hv']
 have last : ∀ x b y, moreW big 3 x b = y → isScal y = true → (DW big).next (3, x) b = some ((0, 0), [y]) := fun x b y hy hf => by
  show nextW big (3, x) b = some ((0, 0), [y])
  unfold nextW
  rw [hy, if_neg (by unfold fitsW; rw [if_pos rfl, hf]; decide), if_pos rfl]
 unfold bytes32
 cases big
 ·show runD (DW false) (0, 0) (c % 256 :: c / 256 % 256 :: c / 65536 :: c / 16777216 :: rest) p acc = _
  rw [runD_some (step 0 1 0 (c % 256) (c % 256) (by decide) rfl (by unfold moreW; simp) rfl),
   runD_some (step 1 2 (c % 256) (c / 256 % 256) (c % 65536) (by decide) rfl (by unfold moreW; simp; omega) rfl),
   runD_some (step 2 3 (c % 65536) (c / 65536) c (by decide) rfl (by unfold moreW; simp; omega) (by unfold fitsW; simp; exact h1)),
   runD_some (last c (c / 16777216) c (by unfold moreW; simp; omega) h1), List.append_nil, List.append_nil, List.append_nil]
 ·show runD (DW true) (0, 0) (c / 16777216 :: c / 65536 :: c / 256 % 256 :: c % 256 :: rest) p acc = _
  rw [runD_some (step 0 1 0 (c / 16777216) 0 (by decide) rfl (by unfold moreW; simp; omega) rfl),
   runD_some (step 1 2 0 (c / 65536) (c / 65536) (by decide) rfl (by unfold moreW; simp) (by unfold fitsW; simp; omega)),
   runD_some (step 2 3 (c / 65536) (c / 256 % 256) (c / 256) (by decide) rfl (by unfold moreW; simp; omega) (by unfold fitsW; simp; exact hm)),
   runD_some (last (c / 256) (c % 256) c (by unfold moreW; simp; omega) h1), List.append_nil, List.append_nil, List.append_nil]
end Go.Proofs.YtmgnndnofbemeaaGreat
