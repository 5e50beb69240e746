/- Joined texts: E16, K16. -/
import Derived.Test.YtmgnndnofbemeaaGreatMUstp
import Derived.Test.YtmgnndnofbemeaaGreatMBit
import Derived.StillTailTactics
import Derived.Deep.CutBlock
namespace Go.Proofs.YtmgnndnofbemeaaGreat
open Go.RowKit Go.Proofs.YtmgnndnofbemeaaGreatW.PrintWords
set_option linter.unusedVariables false
set_option linter.unusedSimpArgs false
def unit16 (big : Bool) (u : Int) : List Int := if big then [u / 256, u % 256] else [u % 256, u / 256]
def bytes16 (big : Bool) (c : Int) : List Int := if c < 65536 then unit16 big c else unit16 big (55296 + (c - 65536) / 1024) ++ unit16 big (56320 + (c - 65536) % 1024)
def E16 (big : Bool) : EMach := ⟨Unit, (), fun _ c => ((), bytes16 big c), fun _ => [], fun _ => []⟩
abbrev T16 : TypeId := 139
def Cs16 (big : Bool) (d : ESt (E16 big)) : Array Value := #[.int .i64 d.pos, .int .i64 d.err, .int .i64 d.fat, .bool d.en, .string (strOf d.kept), .bool big]
def Rep16 (big : Bool) (w : World) (g : Nat) (F : Nat → Prop) (d : ESt (E16 big)) : Prop := Blk w g T16 (Cs16 big d) ∧ ∀ k, F k ↔ k = g
set_option maxRecDepth 100000 in
theorem unit16_c (big : Bool) {g : Nat} {d : ESt (E16 big)} {w : World} (hb : Blk w g T16 (Cs16 big d)) (u : Int) (h0 : 0 ≤ u) (h1 : u ≤ 65535) :
  Calls Tryz.prog 144 #[.pointer (some ⟨g, 0, none⟩), .int .u32 u] w fun e w' => e = .returned (.string (strOf (unit16 big u))) ∧ Below w.heap.size w w' := by
 have c5 : w.cell? ⟨g, 5, none⟩ = some (.bool big) := hb.cell rfl
 clear hb
 cases big
 ·have hc := conv8 w [u % 256, u / 256] 2 (by simp)
  simp only [nums, List.map_cons, List.map_nil, List.length_cons, List.length_nil] at hc
  go_enter Tryz.func144, Tryz.ntmps144
  go_wp2
  go_ret
  exact ⟨rfl, below_new (Below.refl _ _) _⟩
 ·have hc := conv8 w [u / 256, u % 256] 2 (by simp)
  simp only [nums, List.map_cons, List.map_nil, List.length_cons, List.length_nil] at hc
  go_enter Tryz.func144, Tryz.ntmps144
  go_wp2
  go_ret
  exact ⟨rfl, below_new (Below.refl _ _) _⟩
set_option maxRecDepth 100000 in
theorem bytes16_c (big : Bool) {g : Nat} {d : ESt (E16 big)} {w : World} (hb : Blk w g T16 (Cs16 big d)) (c : Int) (h0 : 0 ≤ c) (h1 : isScal c = true) :
  Calls Tryz.prog 143 #[.pointer (some ⟨g, 0, none⟩), .int .u32 c] w fun e w' => e = .returned (.string (strOf (bytes16 big c))) ∧ Below w.heap.size w w' := by
 have hc1 : c ≤ 1114111 := by unfold isScal at h1; simp at h1; omega
 unfold bytes16
 by_cases hc : c < 65536
 ·have hu := unit16_c big hb c h0 (by omega)
  rw [if_pos hc]
  go_enter Tryz.func143, Tryz.ntmps143
  go_wp2_with (go_at_call 144; refine hu.mono ?_; rintro e w1 ⟨rfl, hb1⟩)
  go_ret
  exact ⟨rfl, hb1⟩
 ·rw [if_neg hc]
  have e1 : bits .or .u32 55296 ((c - 65536) / 1024) = 55296 + (c - 65536) / 1024 := u32_orD800 (by omega) (by omega)
  have e2 : bits .and .u32 (c - 65536) 1023 = (c - 65536) % 1024 := u32_and1023 (by omega) (by omega)
  have e3 : bits .or .u32 56320 ((c - 65536) % 1024) = 56320 + (c - 65536) % 1024 := u32_orDC00 (by omega) (by omega)
  have hu1 := unit16_c big hb (55296 + (c - 65536) / 1024) (by omega) (by omega)
  have hu2 := fun w1 (h : Below w.heap.size w w1) => unit16_c big (hb.below h) (56320 + (c - 65536) % 1024) (by omega) (by omega)
  have hl : ∀ u, (unit16 big u).length = 2 := by intro u; cases big <;> rfl
  rw [strOf_append]
  go_enter Tryz.func143, Tryz.ntmps143
  go_wp2_with fail
  refine hu1.mono ?_
  rintro e w1 ⟨rfl, hb1⟩
  have hu2' := hu2 w1 hb1
  have hz1 : (strOf (unit16 big (55296 + (c - 65536) / 1024))).size = 2 := by rw [strOf_size, hl]
  have hz2 : (strOf (unit16 big (56320 + (c - 65536) % 1024))).size = 2 := by rw [strOf_size, hl]
  clear hu1 hu2 hl
  go_wp2_with fail
  refine hu2'.mono ?_
  rintro e w2 ⟨rfl, hb2⟩
  go_wp2_with fail
  go_ret
  exact ⟨rfl, below_next hb1 hb2⟩
theorem bytes16_len (big : Bool) (c : Int) : (bytes16 big c).length ≤ 4 := by
 have hl : ∀ u, (unit16 big u).length = 2 := by intro u; cases big <;> rfl
 unfold bytes16
 split
 ·rw [hl]; decide
 ·rw [List.length_append, hl, hl]; decide
set_option maxRecDepth 100000 in
set_option maxHeartbeats 4000000 in
theorem feed16 (big : Bool) {w : World} {g : Nat} {F : Nat → Prop} {d : ESt (E16 big)} (A : Option Addr) (c : Nat) (l : List Int) (room : Int) (h : Rep16 big w g F d) (hr : ReadsInt w .u32 A l.length l) (hs : l ≠ [] → ∀ ad, A = some ad → ¬ F ad.block)
  (hsc : ∀ x ∈ l, 0 ≤ x) (hp : d.pos + l.length ≤ 1000000) (hk : d.kept.length ≤ 10000000) (hroom : -1000000000 ≤ room ∧ room ≤ 9223372036854775807) :
  Calls Tryz.prog 142 #[.pointer (some ⟨g, 0, none⟩), .slice A l.length c, .int .i64 room] w fun e w' => ∃ F', e = .returned (.tuple #[.int .i64 (feedE (E16 big) room l (d.drop (giveZ room d.kept.length)) (d.kept.take (giveZ room d.kept.length))).1,
    .string (strOf (feedE (E16 big) room l (d.drop (giveZ room d.kept.length)) (d.kept.take (giveZ room d.kept.length))).2.1)]) ∧
   Rep16 big w' g F' (feedE (E16 big) room l (d.drop (giveZ room d.kept.length)) (d.kept.take (giveZ room d.kept.length))).2.2 ∧ Eff w w' F ∧ (∀ k, F' k → F k ∨ w.heap.size ≤ k) := by
 obtain ⟨hb, hF⟩ := h
 obtain ⟨d0, hd0⟩ : ∃ d0, d.drop (giveZ room d.kept.length) = d0 := ⟨_, rfl⟩
 obtain ⟨o0, ho0⟩ : ∃ o0, d.kept.take (giveZ room d.kept.length) = o0 := ⟨_, rfl⟩
 have ho0l : o0.length ≤ 10000000 := by rw [← ho0, List.length_take]; omega
 have hd0k : d0.kept.length ≤ 10000000 := by rw [← hd0]; show (d.kept.drop _).length ≤ _; rw [List.length_drop]; omega
 have hd0p : d0.pos = d.pos := by rw [← hd0]; rfl
 have hg0 := give_l (room := room) (xs := d.kept) (o := 4) hb rfl
 rw [ho0] at hg0
 have hb0 : Blk (w.setCell ⟨g, 4, none⟩ (.string (strOf (d.kept.drop (giveZ room d.kept.length))))) g T16 (Cs16 big d0) := by rw [← hd0]; exact hb.set 4 _
 have he0 : Eff w (w.setCell ⟨g, 4, none⟩ (.string (strOf (d.kept.drop (giveZ room d.kept.length))))) (fun k => k = g) := Eff.set _ _ _ _
 obtain ⟨w0, hw0⟩ : ∃ w0, w.setCell ⟨g, 4, none⟩ (.string (strOf (d.kept.drop (giveZ room d.kept.length)))) = w0 := ⟨_, rfl⟩
 rw [hw0] at hg0 hb0 he0
 rw [hd0, ho0]
 have hsg : l ≠ [] → ∀ ad, A = some ad → ad.block ≠ g := fun hne ad had e => hs hne ad had ((hF _).2 e)
 have HR0 := Lib.hid hr
 have HSG := Lib.hid hsg
 have HB0 := Lib.hid hb0
 have HE0 := Lib.hid he0
 have HFF := Lib.hid hF
 have HSC := Lib.hid hsc
 have HLEN := Lib.hid (And.intro ho0l (And.intro hd0k (And.intro hd0p hp)))
 have HG0 := Lib.hid hg0
 clear hb hr hs hsg hb0 he0 hF hsc hw0 ho0l hd0k hd0p hp hg0 hd0 ho0 hk
 go_enter Tryz.func142, Tryz.ntmps142
 go_upto_block 0 with (go_at_call 135; refine HG0.out.mono ?_; rintro e w' ⟨rfl, rfl⟩)
 go_cut [8, 9] (fun s8 s9 wx => ∃ (k : Nat) (D : ESt (E16 big)) (o : List Int), s8 = .string (strOf o) ∧ s9 = .int .i64 k ∧ Hid (feedE (E16 big) room l d0 o0 = (k, o, D)) ∧ Hid (Blk wx g T16 (Cs16 big D)) ∧ Hid (Eff w wx (fun k => k = g)))
 case first =>
  go_wp2_with fail
  go_loopg [8, 9] l.length (fun kq s8 s9 wx => ∃ (k : Nat) (D : ESt (E16 big)) (o : List Int), s8 = .string (strOf o) ∧ s9 = .int .i64 k ∧ Hid (kq = l.length - k) ∧ Hid (FE (E16 big) 4 room l d0 o0 k D o) ∧ Hid (Blk wx g T16 (Cs16 big D)) ∧ Hid (Eff w wx (fun k => k = g)))
  case atStart => exact ⟨0, d0, o0, rfl, rfl, Lib.hid rfl, Lib.hid (FE.start _ _ _ _ _ _), HB0, HE0⟩
  case round =>
   obtain ⟨k, D, o, rfl, rfl, HK, HFE, HB, HE⟩ := hrel
   have hk0 : (0 : Int) ≤ (k : Int) := by omega
   have HEW := HE
   by_cases hk : k < l.length
   ·have hk1 : (k : Int) < (l.length : Int) := by omega
    by_cases hkp : D.kept = []
    ·have hkept := kept_l (xs := D.kept) (o := 4) HB.out rfl
     rw [hkp, List.length_nil] at hkept
     have HKP := Lib.hid hkp
     have HKT := Lib.hid hkept
     clear hkept hkp
     by_cases hgo : D.err = 0 ∧ D.en = false
     ·have HGO := Lib.hid hgo
      have HGC := Lib.hid (going_yes HB.out (by show some (Value.int .i64 D.err) = _; rw [hgo.1]) (by show some (Value.bool D.en) = _; rw [hgo.2]))
      clear hgo
      obtain ⟨ad, rfl, hcell⟩ := ReadsInt.at_ (reads_eff HR0.out HE.out (fun hne ad had e => HSG.out hne ad had e)) (k : Int) hk0 hk1
      rw [Int.toNat_natCast, show rd l (k : Int) = l.getD k 0 by simp [rd]] at hcell
      obtain ⟨x, hx⟩ : ∃ x, l.getD k 0 = x := ⟨_, rfl⟩
      rw [hx] at hcell
      have HX := Lib.hid hx
      clear hx
      by_cases hsx : isScal x = true
      ·have HSX := Lib.hid hsx
       have HIS := Lib.hid (scal_c x wr)
       have hsc1 : ∀ w1, Below wr.heap.size wr w1 → True := fun _ _ => trivial
       clear hsc1
       go_upto_region 6 with (first
        | (go_at_call 133; refine HKT.out.mono ?_; rintro e w1 ⟨rfl, rfl⟩)
        | (go_at_call 134; refine HGC.out.mono ?_; rintro e w1 ⟨rfl, rfl⟩)
        | (go_at_call 136; refine HIS.out.mono ?_; rw [hsx]; rintro e w1 ⟨rfl, hb1⟩))
       have HB1 := Lib.hid (HB.out.below hb1)
       have HE1 := Lib.hid (HEW.out.trans (Eff.of_below hb1 _) (fun _ _ h => h))
       have hc1 : w1.cell? (ad.add k) = some (.int .u32 x) := (hb1.cell (World.block_lt_of_cell? wr _ hcell)).trans hcell
       clear hb1 hcell
       have hby := fun W (hW : Below w1.heap.size w1 W) => bytes16_c big (HB1.out.below hW) x (HSC.out x (by rw [← HX.out, List.getD_eq_getElem?_getD, List.getElem?_eq_getElem hk]; exact List.getElem_mem hk)) hsx
       have hbl := bytes16_len big x
       obtain ⟨B, hB⟩ : ∃ B, bytes16 big x = B := ⟨_, rfl⟩
       rw [hB] at hby hbl
       have HBB := Lib.hid hB
       have HBY := Lib.hid hby
       have HKE := Lib.hid (fun W (hW : Below w1.heap.size w1 W) => keep_l (o := 4) (xs := D.kept) (ys := B) (HB1.out.below hW) rfl (by rw [HKP.out, List.length_nil]; omega))
       have HFE1 := Lib.hid (HFE.out.eat (bytes16_len big |> fun h _ c => h c) hk ⟨HKP.out, HGO.out⟩ (by rw [HX.out]; exact hsx))
       clear hby hB
       go_cut [] (fun wx => Hid (Blk wx g T16 (Cs16 big { D with kept := B }) ∧ Eff w wx (fun k => k = g)))
       case first =>
        go_region_with (first
         | (go_at_call 143; refine (HBY.out _ (by first | exact Below.refl _ _ | exact below_drew1 (Below.refl _ _))).mono ?_; rintro e w3 ⟨rfl, hb3⟩; have HB3 : Hid (Below w1.heap.size w1 w3) := Lib.hid (by first | exact below_next (Below.refl _ _) hb3 | exact below_next (below_drew1 (Below.refl _ _)) hb3); clear hb3)
         | (go_at_call 138; refine (HKE.out _ HB3.out).mono ?_; rintro e w4 ⟨rfl, rfl⟩))
        all_goals (go_wp2_with fail; go_meet)
        all_goals exact Lib.hid ⟨by rw [HKP.out, List.nil_append]; exact (HB1.out.below HB3.out).set 4 _, (HE1.out.trans (Eff.of_below HB3.out _) (fun _ _ h => h)).trans (Eff.set _ _ _ _) (fun _ _ h => h)⟩
       case rest =>
        have HB6 := Lib.hid hcut.out.1
        have HE6 := Lib.hid hcut.out.2
        clear hcut HB1 HE1 hc1
        have HEAT := Lib.hid (eat_c (n := D.pos) HB6.out rfl (by show some (Value.int .i64 D.err) = _; rw [HGO.out.1]) (by show some (Value.bool D.en) = _; rw [HGO.out.2]) (by omega) (by have := HFE.out.pos; have := HFE.out.le; have := HLEN.out; omega))
        obtain ⟨m, hm⟩ : ∃ m, giveZ (room - o.length) B.length = m := ⟨_, rfl⟩
        have HFE2 : Hid (FE (E16 big) 4 room l d0 o0 (k + 1) { D with pos := D.pos + 1, kept := B.drop m } (o ++ B.take m)) := by
         have h := HFE1.out
         rw [HX.out, show ((E16 big).put D.st x).2 = B from HBB.out, hm] at h
         exact Lib.hid h
        have HB7 : Hid (Blk (wc.setCell ⟨g, 0, none⟩ (.int .i64 ((D.pos : Int) + 1))) g T16 (Cs16 big { D with pos := D.pos + 1, kept := B })) := by
         refine Lib.hid ?_
         show Blk _ g T16 #[.int .i64 ((D.pos + 1 : Nat) : Int), .int .i64 D.err, .int .i64 D.fat, .bool D.en, .string (strOf B), .bool big]
         rw [Int.natCast_add]
         exact HB6.out.set 0 _
        have HGV : Hid (Calls Tryz.prog 135 #[.pointer (some ⟨g, 4, none⟩), .int .i64 (room - o.length)] (wc.setCell ⟨g, 0, none⟩ (.int .i64 ((D.pos : Int) + 1))) fun e w' => e = .returned (.string (strOf (B.take m))) ∧ w' = (wc.setCell ⟨g, 0, none⟩ (.int .i64 ((D.pos : Int) + 1))).setCell ⟨g, 4, none⟩ (.string (strOf (B.drop m)))) := by
         have h := give_l (room := room - o.length) (xs := B) (o := 4) HB7.out rfl
         rw [hm] at h
         exact Lib.hid h
        have hso : (strOf o).size = o.length := strOf_size o
        have hol : o.length ≤ 20000000 := by have := HFE.out.out; have := HLEN.out.1; have := HLEN.out.2.2.2; omega
        obtain ⟨T, hT⟩ : ∃ T, B.take m = T := ⟨_, rfl⟩
        have hTl : T.length ≤ 4 := by rw [← hT, List.length_take]; omega
        have hst : (strOf T).size = T.length := strOf_size T
        have HTT := Lib.hid hT
        rw [hT] at HGV
        have hkb : (k : Int) ≤ 1000000 := by have := HLEN.out.2.2.2; omega
        have hr1 := hroom.1
        have hr2 := hroom.2
        clear hm hT hbl
        go_wp2_with (first
         | (go_at_call 140; refine HEAT.out.mono ?_; rintro e w5 ⟨rfl, rfl⟩)
         | (go_at_call 135; refine HGV.out.mono ?_; rintro e w5 ⟨rfl, rfl⟩))
        go_roundg (l.length - (k + 1))
        case measure => have := HK.out; omega
        case rel =>
         refine ⟨k + 1, _, o ++ B.take m, by rw [strOf_append, HTT.out], by go_num, Lib.hid rfl, HFE2, ?_, ?_⟩
         ·exact Lib.hid (HB7.out.set 4 _)
         ·exact Lib.hid ((HE6.out.trans (Eff.set _ _ _ _) (fun _ _ h => h)).trans (Eff.set _ _ _ _) (fun _ _ h => h))
      ·have hsx0 : isScal x = false := by simpa using hsx
       have HIS := Lib.hid (scal_c x wr)
       have HST := Lib.hid (fun w1 (hb1 : Below wr.heap.size wr w1) => stop_c (err := 2) (n := D.pos) (z := D.fat) (by decide) (HB.out.below hb1) rfl (by show some (Value.int .i64 D.err) = _; rw [HGO.out.1]) rfl (by show some (Value.bool D.en) = _; rw [HGO.out.2]))
       go_upto_region 5 with (first
        | (go_at_call 133; refine HKT.out.mono ?_; rintro e w1 ⟨rfl, rfl⟩)
        | (go_at_call 134; refine HGC.out.mono ?_; rintro e w1 ⟨rfl, rfl⟩)
        | (go_at_call 136; refine HIS.out.mono ?_; rw [hsx0]; rintro e w1 ⟨rfl, hb1⟩))
       have HS1 := Lib.hid (HST.out w1 hb1)
       have HB1 := Lib.hid (HB.out.below hb1)
       have HE1 := Lib.hid (HEW.out.trans (Eff.of_below hb1 _) (fun _ _ h => h))
       clear hb1
       go_wp2_with (go_at_call 137; refine HS1.out.mono ?_; rintro e w2 ⟨rfl, rfl⟩)
       go_meet
       refine ⟨k, _, o, rfl, rfl, Lib.hid (HFE.out.bad0 rfl hk ⟨HKP.out, HGO.out⟩ (by rw [HX.out]; exact hsx0)), Lib.hid ((HB1.out.set 1 (.int .i64 2)).set 2 (.int .i64 D.pos)), Lib.hid ((HE1.out.trans (Eff.set _ _ _ _) (fun _ _ h => h)).trans (Eff.set _ _ _ _) (fun _ _ h => h))⟩
     ·have HGO := Lib.hid hgo
      have HGC := Lib.hid (going_c (err := D.err) (en := D.en) HB.out rfl rfl)
      have hgf : (D.err == 0 && !D.en) = false := by
       rcases Bool.eq_false_or_eq_true (D.err == 0 && !D.en) with h | h
       ·simp at h; exact absurd h hgo
       ·exact h
      rw [hgf] at HGC
      clear hgo hgf
      go_wp2_with (first
        | (go_at_call 133; refine HKT.out.mono ?_; rintro e w1 ⟨rfl, rfl⟩)
        | (go_at_call 134; refine HGC.out.mono ?_; rintro e w1 ⟨rfl, rfl⟩))
      go_meet
      exact ⟨k, D, o, rfl, rfl, Lib.hid (HFE.out.stop (fun h => HGO.out h.2)), HB, HEW⟩
    ·have hkept := kept_l (xs := D.kept) (o := 4) HB.out rfl
     have hz : ((D.kept.length : Int) == 0) = false := by simpa using hkp
     have HKP := Lib.hid hkp
     have HKT := Lib.hid hkept
     clear hkept hkp
     go_wp2_with (go_at_call 133; refine HKT.out.mono ?_; rintro e w1 ⟨rfl, rfl⟩)
     go_meet
     exact ⟨k, D, o, rfl, rfl, Lib.hid (HFE.out.stop (fun h => HKP.out h.1)), HB, HEW⟩
   ·have hk1 : ¬ (k : Int) < (l.length : Int) := by omega
    have HKK := Lib.hid hk
    clear hk
    go_wp2_with fail
    go_meet
    exact ⟨k, D, o, rfl, rfl, Lib.hid (HFE.out.all HKK.out), HB, HEW⟩
 case rest =>
  obtain ⟨k, D, o, rfl, rfl, HFE, HB, HE⟩ := hcut
  go_wp2_with fail
  refine bodyPost_ret (v := .tuple #[.int .i64 k, .string (strOf o)]) (by simp [results, Tryz.results142, go_sem]) rfl ?_
  rw [HFE.out]
  exact ⟨fun k => k = g, rfl, ⟨HB.out, fun _ => Iff.rfl⟩, HE.out.mono (fun k _ h => (HFF.out k).2 h), fun k h => .inl ((HFF.out k).2 h)⟩
end Go.Proofs.YtmgnndnofbemeaaGreat
namespace Go.Proofs.YtmgnndnofbemeaaGreat
open Go.RowKit Go.Proofs.YtmgnndnofbemeaaGreatW.PrintWords
set_option linter.unusedVariables false
set_option linter.unusedSimpArgs false
theorem inv16F : Inv2 88 "Feed" 142 := by intro n g x y w; kernel_rfl
theorem inv16E : Inv0 88 "End" 130 := by intro n g w; kernel_rfl
theorem inv16D : Inv0 88 "Done" 129 := by intro n g w; kernel_rfl
theorem inv16W : Inv0 88 "Fail" 131 := by intro n g w; kernel_rfl
theorem fin16 (big : Bool) {w : World} {g : Nat} {F : Nat → Prop} {d : ESt (E16 big)} (h : Rep16 big w g F d) :
  Calls Tryz.prog 130 #[.pointer (some ⟨g, 0, none⟩)] w fun e w' => ∃ F', e = .returned (.tuple #[]) ∧ Rep16 big w' g F' (endE (E16 big) d) ∧ Eff w w' F ∧ (∀ k, F' k → F k ∨ w.heap.size ≤ k) := by
 obtain ⟨hb, hF⟩ := h
 unfold endE
 by_cases hg : d.err = 0 ∧ d.en = false
 ·rw [if_pos hg]
  refine (end_c hb (by show some (Value.int .i64 d.err) = _; rw [hg.1]) (by show some (Value.bool d.en) = _; rw [hg.2])).mono ?_
  rintro e w' ⟨rfl, rfl⟩
  refine ⟨F, rfl, ⟨?_, hF⟩, (Eff.set _ _ _ _).mono (fun k _ h => (hF k).2 h), fun k h => .inl h⟩
  have h2 := hb.set 3 (.bool true)
  show Blk _ g T16 #[.int .i64 d.pos, .int .i64 d.err, .int .i64 d.fat, .bool true, .string (strOf (d.kept ++ [])), .bool big]
  rw [List.append_nil]
  exact h2
 ·rw [if_neg hg]
  refine (end_not (err := d.err) (en := d.en) hb rfl rfl (by
   rcases Bool.eq_false_or_eq_true (d.err == 0 && !d.en) with h | h
   ·simp at h; exact absurd h hg
   ·exact h)).mono ?_
  rintro e w' ⟨rfl, rfl⟩
  exact ⟨F, rfl, ⟨hb, hF⟩, Eff.refl _ _, fun k h => .inl h⟩
theorem k16 (big : Bool) : EncK 88 142 130 (E16 big) (Rep16 big) where
 invF := inv16F
 invE := inv16E
 invD := inv16D
 invW := inv16W
 lt h k hk := by rw [(h.2 k).1 hk]; exact h.1.lt
 eff h he hs := ⟨h.1.eff he (hs _ ((h.2 _).2 rfl)), h.2⟩
 feed A c l room h hr hs hsc hp hk hroom := feed16 big A c l room h hr hs hsc hp hk hroom
 fin h _ _ := fin16 big h
 done h := outdone_c h.1 rfl rfl rfl
 blk h := ⟨T16, _, by decide, by decide, h.1, rfl, rfl⟩
theorem new16 (big : Bool) (w : World) : Calls Tryz.prog 37 #[.bool big] w fun e w' => e = .returned (.pointer (some ⟨w.heap.size, 0, none⟩)) ∧ w' = w.alloc (.cells (Cs16 big (ESt.new (E16 big))) T16 (0, 0)) := by
 go_enter Tryz.func37, Tryz.ntmps37
 go_wp2_with fail
 go_ret
 exact ⟨rfl, rfl⟩
theorem new16_rep (big : Bool) (w : World) : Rep16 big (w.alloc (.cells (Cs16 big (ESt.new (E16 big))) T16 (0, 0))) w.heap.size (fun k => k = w.heap.size) (ESt.new (E16 big)) := ⟨Blk.new w _ _, fun _ => Iff.rfl⟩
set_option maxRecDepth 100000 in
theorem newE2 : NewE 2 88 (E16 true) (Rep16 true) := by
 intro w
 go_enter Tryz.func16, Tryz.ntmps16
 go_wp2_with (go_at_call 37; refine (new16 true _).mono ?_; rintro e w' ⟨rfl, rfl⟩)
 refine bodyPost_ret (v := .tuple #[.iface 88 (.pointer (some ⟨w.heap.size, 0, none⟩)), .int .i64 0]) (by simp [results, Tryz.results16, go_sem]) rfl ?_
 exact ⟨_, _, rfl, below_new (Below.refl _ _) _, new16_rep true w, fun k hk => Nat.le_of_eq hk.symm⟩
set_option maxRecDepth 100000 in
theorem newE3 : NewE 3 88 (E16 false) (Rep16 false) := by
 intro w
 go_enter Tryz.func16, Tryz.ntmps16
 go_wp2_with (go_at_call 37; refine (new16 false _).mono ?_; rintro e w' ⟨rfl, rfl⟩)
 refine bodyPost_ret (v := .tuple #[.iface 88 (.pointer (some ⟨w.heap.size, 0, none⟩)), .int .i64 0]) (by simp [results, Tryz.results16, go_sem]) rfl ?_
 exact ⟨_, _, rfl, below_new (Below.refl _ _) _, new16_rep false w, fun k hk => Nat.le_of_eq hk.symm⟩
end Go.Proofs.YtmgnndnofbemeaaGreat
