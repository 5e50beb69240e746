/- Joined texts: Eb, Ebf, Kb. -/
import Derived.Test.YtmgnndnofbemeaaGreatMUstp
import Derived.Test.YtmgnndnofbemeaaGreatMBit
import Derived.StillTailTactics
import Derived.Deep.CutBlock
namespace Go.Proofs.YtmgnndnofbemeaaGreat
open Go.RowKit Go.Proofs.YtmgnndnofbemeaaGreatW.PrintWords Go.Proofs.YtmgnndnofbemeaaGreatW.PrintLast Go.Proofs.YtmgnndnofbemeaaGreatW.PrintMore Go.Proofs.YtmgnndnofbemeaaGreat.PPd
set_option linter.unusedVariables false
set_option linter.unusedSimpArgs false
theorem place_tot (k : Nat) (d : Int) : ∃ a b t, diff_place.f (k + 1) d = some (a, b, t) ∧ 0 ≤ t ∧ t ≤ 3 := by
 have h : ∀ b, ∃ x y t, diff_place.j0 (k + 1) d b = some (x, y, t) ∧ 0 ≤ t ∧ t ≤ 3 := by
  intro b
  simp only [diff_place.j0]
  (repeat' split) <;> exact ⟨_, _, _, rfl, by decide, by decide⟩
 unfold diff_place.f
 split <;> exact h _
theorem byte_tot (k : Nat) (v : Int) : ∃ a b, diff_Byte.f (k + 1) v = some (a, b) := by
 have h : ∀ b, ∃ x y, diff_Byte.j0 (k + 1) v b = some (x, y) := by
  intro b
  simp only [diff_Byte.j0]
  (repeat' split) <;> exact ⟨_, _, rfl⟩
 unfold diff_Byte.f
 split <;> exact h _
theorem pack_loop : ∀ (n k : Nat) (x l : Int) (out : List Int), n < out.length → n + 2 ≤ k → n ≤ 10 → ∃ s : ByteArray, diff_Pack.l0 k x l out (n : Int) = some (s, true) ∧ s.size = out.length
 | 0, k, x, l, out, ho, hk, hn => by
  obtain ⟨k, rfl⟩ : ∃ j, k = j + 1 := ⟨k - 1, by omega⟩
  simp only [diff_Pack.l0]
  rw [if_neg (by decide), if_pos (by omega)]
  exact ⟨_, rfl, by rw [strOfNums_size, List.length_set]⟩
 | n + 1, k, x, l, out, ho, hk, hn => by
  obtain ⟨k, rfl⟩ : ∃ j, k = j + 2 := ⟨k - 2, by omega⟩
  have hw : wrap64 (((n + 1 : Nat) : Int) - 1) = (n : Int) := by unfold wrap64; omega
  simp only [diff_Pack.l0]
  rw [if_pos (by omega)]
  split
  ·obtain ⟨a, b, hab⟩ := byte_tot k (wrap64 (Int.tmod x 243 + 243))
   rw [hab]
   simp only [Option.bind_some]
   rw [if_pos (by omega), if_pos (by omega), hw]
   obtain ⟨s, h1, h2⟩ := pack_loop n (k + 1) _ l (out.set (((n + 1 : Nat) : Int)).toNat a) (by rw [List.length_set]; omega) (by omega) (by omega)
   exact ⟨s, h1, by rw [h2, List.length_set]⟩
  ·obtain ⟨a, b, hab⟩ := byte_tot k (Int.tmod x 243)
   rw [hab]
   simp only [Option.bind_some]
   rw [if_pos (by omega), if_pos (by omega), hw]
   obtain ⟨s, h1, h2⟩ := pack_loop n (k + 1) _ l (out.set (((n + 1 : Nat) : Int)).toNat a) (by rw [List.length_set]; omega) (by omega) (by omega)
   exact ⟨s, h1, by rw [h2, List.length_set]⟩
theorem pack_tot (d : Int) : ∃ (s : ByteArray) (b : Bool), diff_Pack.f 20 d = some (s, b) ∧ s.size ≤ 4 := by
 have h : ∀ b, ∃ (s : ByteArray) (r : Bool), diff_Pack.j0 20 d b = some (s, r) ∧ s.size ≤ 4 := by
  intro b
  simp only [diff_Pack.j0]
  split
  ·exact ⟨_, _, rfl, by decide⟩
  ·obtain ⟨x, y, t, hp, h0, h1⟩ := place_tot 18 d
   rw [hp]
   simp only [Option.bind_some]
   have hw : wrap64 (t + 1) = t + 1 := by unfold wrap64; omega
   rw [hw, if_pos (by omega), if_pos (by omega)]
   obtain ⟨s, h2, h3⟩ := pack_loop t.toNat 19 x y (List.replicate (t + 1).toNat 0) (by rw [List.length_replicate]; omega) (by omega) (by omega)
   rw [Int.toNat_of_nonneg h0] at h2
   exact ⟨s, true, h2, by rw [h3, List.length_replicate]; omega⟩
 unfold diff_Pack.f
 split <;> exact h _
def packB (d : Int) : List Int := bytesOf ((diff_Pack.f 20 d).getD (⟨#[]⟩, false)).1
theorem packB_len (d : Int) : (packB d).length ≤ 4 := by
 obtain ⟨s, b, h, h4⟩ := pack_tot d
 unfold packB
 rw [h, bytesOf_length]
 exact h4
theorem pack_c (d : Int) (w : World) : Calls Tryz.prog 185 #[.int .i64 d] w fun e w' => ∃ b, e = .returned (.tuple #[.string (strOf (packB d)), .bool b]) ∧ Below w.heap.size w w' := by
 obtain ⟨s, b, h, h4⟩ := pack_tot d
 have e : strOf (packB d) = s := by unfold packB; rw [h]; exact strOf_bytesOf s
 rw [e]
 exact (diff_Pack.calls 20 d s b w h).mono fun _ _ h => ⟨b, h.1, h.2⟩
abbrev SBo : Type := { p : Int // 0 ≤ p ∧ p ≤ 4294967295 }
def putBo (p : SBo) (c : Int) : SBo × List Int := if c ≤ 32 then (if c < 32 then ⟨64, by decide⟩ else p, [c]) else (⟨prevB c, prevB_range c⟩, packB (c - p.1))
def EBo : EMach := ⟨SBo, ⟨64, by decide⟩, putBo, fun _ => [], fun _ => []⟩
abbrev TBo : TypeId := 150
def CsBo (d : ESt EBo) : Array Value := #[.int .i64 d.pos, .int .i64 d.err, .int .i64 d.fat, .bool d.en, .string (strOf d.kept), .int .u32 (Subtype.val (p := fun p : Int => 0 ≤ p ∧ p ≤ 4294967295) d.st)]
def RepBo (w : World) (g : Nat) (F : Nat → Prop) (d : ESt EBo) : Prop := Blk w g TBo (CsBo d) ∧ ∀ k, F k ↔ k = g
theorem bytesBo_len (st : EBo.St) (c : Int) : (EBo.put st c).2.length ≤ 4 := by
 show (putBo st c).2.length ≤ 4
 unfold putBo
 split
 ·show [c].length ≤ 4
  simp
 ·exact packB_len _
set_option maxRecDepth 100000 in
theorem bytesBo_c {w : World} {g : Nat} {d : ESt EBo} (hb : Blk w g TBo (CsBo d)) (c : Int) (h0 : 0 ≤ c) (h1 : isScal c = true) :
  Calls Tryz.prog 184 #[.pointer (some ⟨g, 0, none⟩), .int .u32 c] w fun e w' => e = .returned (.string (strOf (EBo.put d.st c).2)) ∧ Blk w' g TBo (CsBo { d with st := (EBo.put d.st c).1 }) ∧ Eff w w' (fun k => k = g) := by
 have hc1 : c ≤ 1114111 := by unfold isScal at h1; simp at h1; omega
 have HB := Lib.hid hb
 obtain ⟨p, hp⟩ : ∃ p : SBo, d.st = p := ⟨_, rfl⟩
 have hpu : EBo.put d.st c = putBo p c := by rw [← hp]; rfl
 rw [hpu]
 have HP := Lib.hid hp
 have c5 : w.cell? ⟨g, 5, none⟩ = some (.int .u32 p.1) := by rw [← hp]; exact hb.cell rfl
 have hf := hb.frozen
 have hp1 := p.2.1
 have hp2 := p.2.2
 clear hb hp hpu
 by_cases hc32 : c ≤ 32
 ·have d1 : decide (c ≤ 32) = true := decide_eq_true hc32
  by_cases hc31 : c < 32
  ·have hpu : Hid (putBo p c = (⟨64, by decide⟩, [c])) := Lib.hid (by unfold putBo; rw [if_pos hc32, if_pos hc31])
   have d2 : decide (c < 32) = true := decide_eq_true hc31
   have hc := conv8 (w.setCell ⟨g, 5, none⟩ (.int .u32 64)) [c] 1 (by simp)
   simp only [nums, List.map_cons, List.map_nil, List.length_cons, List.length_nil, World.size_setCell, Nat.zero_add] at hc
   have HK := Lib.hid (HB.out.set 5 (.int .u32 64))
   go_enter Tryz.func184, Tryz.ntmps184
   go_wp2_with fail
   go_ret
   rw [hpu.out]
   exact ⟨rfl, HK.out.alloc _, (Eff.set _ _ _ _).trans (Eff.alloc _ _ _) (fun _ _ h => h)⟩
  ·have hpu : Hid (putBo p c = (p, [c])) := Lib.hid (by unfold putBo; rw [if_pos hc32, if_neg hc31])
   have d2 : decide (c < 32) = false := decide_eq_false hc31
   have hc := conv8 w [c] 1 (by simp)
   simp only [nums, List.map_cons, List.map_nil, List.length_cons, List.length_nil, Nat.zero_add] at hc
   go_enter Tryz.func184, Tryz.ntmps184
   go_wp2_with fail
   go_ret
   rw [hpu.out]
   refine ⟨rfl, ?_, Eff.alloc _ _ _⟩
   have h := HB.out.alloc (.cells #[.int .u8 c] 5 (0, 0))
   have e : CsBo { d with st := p } = CsBo d := by rw [← HP.out]
   exact e ▸ h
 ·have hpu : Hid (putBo p c = (⟨prevB c, prevB_range c⟩, packB (c - p.1))) := Lib.hid (by unfold putBo; rw [if_neg hc32])
  have d1 : decide (c ≤ 32) = false := decide_eq_false hc32
  have HPC := Lib.hid (fun W => pack_c (c - p.1) W)
  have HVC := Lib.hid (fun W => prev_c c W)
  clear hc32
  go_enter Tryz.func184, Tryz.ntmps184
  go_upto_region 6 with (go_at_call 185; refine (HPC.out _).mono ?_; rintro e w1 ⟨ok, rfl, hb1⟩)
  have HB1 := Lib.hid hb1
  have HK1 := Lib.hid (HB.out.below hb1)
  clear hb1
  go_wp2_with (go_at_call 186; refine (HVC.out _).mono ?_; rintro e w2 ⟨rfl, hb2⟩; have HB2 := Lib.hid (below_next HB1.out hb2); have hk2 := HK1.out.below hb2; have HK2 := Lib.hid hk2; have c25 : w2.cell? ⟨g, 5, none⟩ = _ := hk2.cell rfl; have hf2 := hk2.frozen; clear hk2 hb2)
  go_ret
  rw [hpu.out]
  exact ⟨rfl, HK2.out.set 5 _, (Eff.of_below HB2.out _).trans (Eff.set _ _ _ _) (fun _ _ h => h)⟩
end Go.Proofs.YtmgnndnofbemeaaGreat
namespace Go.Proofs.YtmgnndnofbemeaaGreat
open Go.RowKit Go.Proofs.YtmgnndnofbemeaaGreatW.PrintWords
set_option linter.unusedVariables false
set_option linter.unusedSimpArgs false
set_option maxRecDepth 100000 in
set_option maxHeartbeats 4000000 in
theorem feedEBo {w : World} {g : Nat} {F : Nat → Prop} {d : ESt EBo} (A : Option Addr) (c : Nat) (l : List Int) (room : Int) (h : RepBo w g F d) (hr : ReadsInt w .u32 A l.length l) (hs : l ≠ [] → ∀ ad, A = some ad → ¬ F ad.block)
  (hsc : ∀ x ∈ l, 0 ≤ x) (hp : d.pos + l.length ≤ 1000000) (hk : d.kept.length ≤ 10000000) (hroom : -1000000000 ≤ room ∧ room ≤ 9223372036854775807) :
  Calls Tryz.prog 183 #[.pointer (some ⟨g, 0, none⟩), .slice A l.length c, .int .i64 room] w fun e w' => ∃ F', e = .returned (.tuple #[.int .i64 (feedE EBo room l (d.drop (giveZ room d.kept.length)) (d.kept.take (giveZ room d.kept.length))).1,
    .string (strOf (feedE EBo room l (d.drop (giveZ room d.kept.length)) (d.kept.take (giveZ room d.kept.length))).2.1)]) ∧
   RepBo w' g F' (feedE EBo room l (d.drop (giveZ room d.kept.length)) (d.kept.take (giveZ room d.kept.length))).2.2 ∧ Eff w w' F ∧ (∀ k, F' k → F k ∨ w.heap.size ≤ k) := by
 obtain ⟨hb, hF⟩ := h
 obtain ⟨d0, hd0⟩ : ∃ d0, d.drop (giveZ room d.kept.length) = d0 := ⟨_, rfl⟩
 obtain ⟨o0, ho0⟩ : ∃ o0, d.kept.take (giveZ room d.kept.length) = o0 := ⟨_, rfl⟩
 have ho0l : o0.length ≤ 10000000 := by rw [← ho0, List.length_take]; omega
 have hd0k : d0.kept.length ≤ 10000000 := by rw [← hd0]; show (d.kept.drop _).length ≤ _; rw [List.length_drop]; omega
 have hd0p : d0.pos = d.pos := by rw [← hd0]; rfl
 have hg0 := give_l (room := room) (xs := d.kept) (o := 4) hb rfl
 rw [ho0] at hg0
 have hb0 : Blk (w.setCell ⟨g, 4, none⟩ (.string (strOf (d.kept.drop (giveZ room d.kept.length))))) g TBo (CsBo d0) := by rw [← hd0]; exact hb.set 4 _
 have he0 : Eff w (w.setCell ⟨g, 4, none⟩ (.string (strOf (d.kept.drop (giveZ room d.kept.length))))) (fun k => k = g) := Eff.set _ _ _ _
 obtain ⟨w0, hw0⟩ : ∃ w0, w.setCell ⟨g, 4, none⟩ (.string (strOf (d.kept.drop (giveZ room d.kept.length)))) = w0 := ⟨_, rfl⟩
 rw [hw0] at hg0 hb0 he0
 rw [hd0, ho0]
 have hsg : l ≠ [] → ∀ ad, A = some ad → ad.block ≠ g := fun hne ad had e => hs hne ad had ((hF _).2 e)
 have HR0 := Lib.hid hr
 have HSG := Lib.hid hsg
 have HB0 := Lib.hid hb0
 have HE0 := Lib.hid he0
 have HFF := Lib.hid hF
 have HSC := Lib.hid hsc
 have HLEN := Lib.hid (And.intro ho0l (And.intro hd0k (And.intro hd0p hp)))
 have HG0 := Lib.hid hg0
 clear hb hr hs hsg hb0 he0 hF hsc hw0 ho0l hd0k hd0p hp hg0 hd0 ho0 hk
 go_enter Tryz.func183, Tryz.ntmps183
 go_upto_block 0 with (go_at_call 135; refine HG0.out.mono ?_; rintro e w' ⟨rfl, rfl⟩)
 go_cut [8, 9] (fun s8 s9 wx => ∃ (k : Nat) (D : ESt EBo) (o : List Int), s8 = .string (strOf o) ∧ s9 = .int .i64 k ∧ Hid (feedE EBo room l d0 o0 = (k, o, D)) ∧ Hid (Blk wx g TBo (CsBo D)) ∧ Hid (Eff w wx (fun k => k = g)))
 case first =>
  go_wp2_with fail
  go_loopg [8, 9] l.length (fun kq s8 s9 wx => ∃ (k : Nat) (D : ESt EBo) (o : List Int), s8 = .string (strOf o) ∧ s9 = .int .i64 k ∧ Hid (kq = l.length - k) ∧ Hid (FE EBo 4 room l d0 o0 k D o) ∧ Hid (Blk wx g TBo (CsBo D)) ∧ Hid (Eff w wx (fun k => k = g)))
  case atStart => exact ⟨0, d0, o0, rfl, rfl, Lib.hid rfl, Lib.hid (FE.start _ _ _ _ _ _), HB0, HE0⟩
  case round =>
   obtain ⟨k, D, o, rfl, rfl, HK, HFE, HB, HE⟩ := hrel
   have hk0 : (0 : Int) ≤ (k : Int) := by omega
   have HEW := HE
   by_cases hk : k < l.length
   ·have hk1 : (k : Int) < (l.length : Int) := by omega
    by_cases hkp : D.kept = []
    ·have hkept := kept_l (xs := D.kept) (o := 4) HB.out rfl
     rw [hkp, List.length_nil] at hkept
     have HKP := Lib.hid hkp
     have HKT := Lib.hid hkept
     clear hkept hkp
     by_cases hgo : D.err = 0 ∧ D.en = false
     ·have HGO := Lib.hid hgo
      have HGC := Lib.hid (going_yes HB.out (by show some (Value.int .i64 D.err) = _; rw [hgo.1]) (by show some (Value.bool D.en) = _; rw [hgo.2]))
      clear hgo
      obtain ⟨ad, rfl, hcell⟩ := ReadsInt.at_ (reads_eff HR0.out HE.out (fun hne ad had e => HSG.out hne ad had e)) (k : Int) hk0 hk1
      rw [Int.toNat_natCast, show rd l (k : Int) = l.getD k 0 by simp [rd]] at hcell
      obtain ⟨x, hx⟩ : ∃ x, l.getD k 0 = x := ⟨_, rfl⟩
      rw [hx] at hcell
      have HX := Lib.hid hx
      clear hx
      by_cases hsx : isScal x = true
      ·have HSX := Lib.hid hsx
       have HIS := Lib.hid (scal_c x wr)
       have hsc1 : ∀ w1, Below wr.heap.size wr w1 → True := fun _ _ => trivial
       clear hsc1
       go_upto_region 6 with (first
        | (go_at_call 133; refine HKT.out.mono ?_; rintro e w1 ⟨rfl, rfl⟩)
        | (go_at_call 134; refine HGC.out.mono ?_; rintro e w1 ⟨rfl, rfl⟩)
        | (go_at_call 136; refine HIS.out.mono ?_; rw [hsx]; rintro e w1 ⟨rfl, hb1⟩))
       have HB1 := Lib.hid (HB.out.below hb1)
       have HE1 := Lib.hid (HEW.out.trans (Eff.of_below hb1 _) (fun _ _ h => h))
       have hc1 : w1.cell? (ad.add k) = some (.int .u32 x) := (hb1.cell (World.block_lt_of_cell? wr _ hcell)).trans hcell
       clear hb1 hcell
       have hxk : 0 ≤ x := HSC.out x (by rw [← HX.out, List.getD_eq_getElem?_getD, List.getElem?_eq_getElem hk]; exact List.getElem_mem hk)
       have hby := fun W (hW : Blk W g TBo (CsBo D) ∧ Eff w1 W (fun k => k = g)) => bytesBo_c (d := D) hW.1 x hxk hsx
       have hbl := bytesBo_len D.st x
       obtain ⟨P, hP⟩ : ∃ P, (EBo).put D.st x = P := ⟨_, rfl⟩
       rw [hP] at hby hbl
       obtain ⟨sx, B⟩ := P
       simp only at hby hbl
       have HPP := Lib.hid hP
       have HBY := Lib.hid hby
       have HFE1 := Lib.hid (HFE.out.eat bytesBo_len hk ⟨HKP.out, HGO.out⟩ (by rw [HX.out]; exact hsx))
       clear hby hP
       go_cut [] (fun wx => Hid (Blk wx g TBo (CsBo { D with kept := B, st := sx }) ∧ Eff w wx (fun k => k = g)))
       case first =>
        go_region_with (first
         | (go_at_call 184; refine (HBY.out _ (by first | exact ⟨HB1.out, Eff.refl _ _⟩ | exact ⟨HB1.out, Eff.drewN _ 1 _⟩)).mono ?_; rintro e w3 ⟨rfl, hb3, he3⟩; have HB3 : Hid (Blk w3 g TBo (CsBo { D with st := sx }) ∧ Eff w1 w3 (fun k => k = g)) := Lib.hid ⟨hb3, (by first | exact he3 | exact (Eff.drewN w1 1 _).trans he3 (fun _ _ h => h))⟩; clear hb3 he3)
         | (go_at_call 138; refine (keep_l (o := 4) (xs := D.kept) (ys := B) HB3.out.1 rfl (by rw [HKP.out, List.length_nil]; omega)).mono ?_; rintro e w4 ⟨rfl, rfl⟩))
        all_goals (go_wp2_with fail; go_meet)
        all_goals exact Lib.hid ⟨by rw [HKP.out, List.nil_append]; exact HB3.out.1.set 4 _, (HE1.out.trans HB3.out.2 (fun _ _ h => h)).trans (Eff.set _ _ _ _) (fun _ _ h => h)⟩
       case rest =>
        have HB6 := Lib.hid hcut.out.1
        have HE6 := Lib.hid hcut.out.2
        clear hcut HB1 HE1 hc1
        have HEAT := Lib.hid (eat_c (n := D.pos) HB6.out rfl (by show some (Value.int .i64 D.err) = _; rw [HGO.out.1]) (by show some (Value.bool D.en) = _; rw [HGO.out.2]) (by omega) (by have := HFE.out.pos; have := HFE.out.le; have := HLEN.out; omega))
        obtain ⟨m, hm⟩ : ∃ m, giveZ (room - o.length) B.length = m := ⟨_, rfl⟩
        have HFE2 : Hid (FE EBo 4 room l d0 o0 (k + 1) { D with pos := D.pos + 1, kept := B.drop m, st := sx } (o ++ B.take m)) := by
         have h := HFE1.out
         rw [HX.out, HPP.out] at h
         simp only [hm] at h
         exact Lib.hid h
        have HB7 : Hid (Blk (wc.setCell ⟨g, 0, none⟩ (.int .i64 ((D.pos : Int) + 1))) g TBo (CsBo { D with pos := D.pos + 1, kept := B, st := sx })) := by
         refine Lib.hid ?_
         show Blk _ g TBo #[.int .i64 ((D.pos + 1 : Nat) : Int), .int .i64 D.err, .int .i64 D.fat, .bool D.en, .string (strOf B), .int .u32 (Subtype.val (p := fun p : Int => 0 ≤ p ∧ p ≤ 4294967295) sx)]
         rw [Int.natCast_add]
         exact HB6.out.set 0 _
        have HGV : Hid (Calls Tryz.prog 135 #[.pointer (some ⟨g, 4, none⟩), .int .i64 (room - o.length)] (wc.setCell ⟨g, 0, none⟩ (.int .i64 ((D.pos : Int) + 1))) fun e w' => e = .returned (.string (strOf (B.take m))) ∧ w' = (wc.setCell ⟨g, 0, none⟩ (.int .i64 ((D.pos : Int) + 1))).setCell ⟨g, 4, none⟩ (.string (strOf (B.drop m)))) := by
         have h := give_l (room := room - o.length) (xs := B) (o := 4) HB7.out rfl
         rw [hm] at h
         exact Lib.hid h
        have hso : (strOf o).size = o.length := strOf_size o
        have hol : o.length ≤ 20000000 := by have := HFE.out.out; have := HLEN.out.1; have := HLEN.out.2.2.2; omega
        obtain ⟨T, hT⟩ : ∃ T, B.take m = T := ⟨_, rfl⟩
        have hTl : T.length ≤ 4 := by rw [← hT, List.length_take]; omega
        have hst : (strOf T).size = T.length := strOf_size T
        have HTT := Lib.hid hT
        rw [hT] at HGV
        have hkb : (k : Int) ≤ 1000000 := by have := HLEN.out.2.2.2; omega
        have hr1 := hroom.1
        have hr2 := hroom.2
        clear hm hT hbl
        go_wp2_with (first
         | (go_at_call 140; refine HEAT.out.mono ?_; rintro e w5 ⟨rfl, rfl⟩)
         | (go_at_call 135; refine HGV.out.mono ?_; rintro e w5 ⟨rfl, rfl⟩))
        go_roundg (l.length - (k + 1))
        case measure => have := HK.out; omega
        case rel =>
         refine ⟨k + 1, _, o ++ B.take m, by rw [strOf_append, HTT.out], by go_num, Lib.hid rfl, HFE2, ?_, ?_⟩
         ·exact Lib.hid (HB7.out.set 4 _)
         ·exact Lib.hid ((HE6.out.trans (Eff.set _ _ _ _) (fun _ _ h => h)).trans (Eff.set _ _ _ _) (fun _ _ h => h))
      ·have hsx0 : isScal x = false := by simpa using hsx
       have HIS := Lib.hid (scal_c x wr)
       have HST := Lib.hid (fun w1 (hb1 : Below wr.heap.size wr w1) => stop_c (err := 2) (n := D.pos) (z := D.fat) (by decide) (HB.out.below hb1) rfl (by show some (Value.int .i64 D.err) = _; rw [HGO.out.1]) rfl (by show some (Value.bool D.en) = _; rw [HGO.out.2]))
       go_upto_region 5 with (first
        | (go_at_call 133; refine HKT.out.mono ?_; rintro e w1 ⟨rfl, rfl⟩)
        | (go_at_call 134; refine HGC.out.mono ?_; rintro e w1 ⟨rfl, rfl⟩)
        | (go_at_call 136; refine HIS.out.mono ?_; rw [hsx0]; rintro e w1 ⟨rfl, hb1⟩))
       have HS1 := Lib.hid (HST.out w1 hb1)
       have HB1 := Lib.hid (HB.out.below hb1)
       have HE1 := Lib.hid (HEW.out.trans (Eff.of_below hb1 _) (fun _ _ h => h))
       clear hb1
       go_wp2_with (go_at_call 137; refine HS1.out.mono ?_; rintro e w2 ⟨rfl, rfl⟩)
       go_meet
       refine ⟨k, _, o, rfl, rfl, Lib.hid (HFE.out.bad0 rfl hk ⟨HKP.out, HGO.out⟩ (by rw [HX.out]; exact hsx0)), Lib.hid ((HB1.out.set 1 (.int .i64 2)).set 2 (.int .i64 D.pos)), Lib.hid ((HE1.out.trans (Eff.set _ _ _ _) (fun _ _ h => h)).trans (Eff.set _ _ _ _) (fun _ _ h => h))⟩
     ·have HGO := Lib.hid hgo
      have HGC := Lib.hid (going_c (err := D.err) (en := D.en) HB.out rfl rfl)
      have hgf : (D.err == 0 && !D.en) = false := by
       rcases Bool.eq_false_or_eq_true (D.err == 0 && !D.en) with h | h
       ·simp at h; exact absurd h hgo
       ·exact h
      rw [hgf] at HGC
      clear hgo hgf
      go_wp2_with (first
        | (go_at_call 133; refine HKT.out.mono ?_; rintro e w1 ⟨rfl, rfl⟩)
        | (go_at_call 134; refine HGC.out.mono ?_; rintro e w1 ⟨rfl, rfl⟩))
      go_meet
      exact ⟨k, D, o, rfl, rfl, Lib.hid (HFE.out.stop (fun h => HGO.out h.2)), HB, HEW⟩
    ·have hkept := kept_l (xs := D.kept) (o := 4) HB.out rfl
     have hz : ((D.kept.length : Int) == 0) = false := by simpa using hkp
     have HKP := Lib.hid hkp
     have HKT := Lib.hid hkept
     clear hkept hkp
     go_wp2_with (go_at_call 133; refine HKT.out.mono ?_; rintro e w1 ⟨rfl, rfl⟩)
     go_meet
     exact ⟨k, D, o, rfl, rfl, Lib.hid (HFE.out.stop (fun h => HKP.out h.1)), HB, HEW⟩
   ·have hk1 : ¬ (k : Int) < (l.length : Int) := by omega
    have HKK := Lib.hid hk
    clear hk
    go_wp2_with fail
    go_meet
    exact ⟨k, D, o, rfl, rfl, Lib.hid (HFE.out.all HKK.out), HB, HEW⟩
 case rest =>
  obtain ⟨k, D, o, rfl, rfl, HFE, HB, HE⟩ := hcut
  go_wp2_with fail
  refine bodyPost_ret (v := .tuple #[.int .i64 k, .string (strOf o)]) (by simp [results, Tryz.results183, go_sem]) rfl ?_
  rw [HFE.out]
  exact ⟨fun k => k = g, rfl, ⟨HB.out, fun _ => Iff.rfl⟩, HE.out.mono (fun k _ h => (HFF.out k).2 h), fun k h => .inl ((HFF.out k).2 h)⟩
end Go.Proofs.YtmgnndnofbemeaaGreat
namespace Go.Proofs.YtmgnndnofbemeaaGreat
open Go.RowKit Go.Proofs.YtmgnndnofbemeaaGreatW.PrintWords
set_option linter.unusedVariables false
set_option linter.unusedSimpArgs false
theorem finBo {w : World} {g : Nat} {F : Nat → Prop} {d : ESt EBo} (h : RepBo w g F d) :
  Calls Tryz.prog 130 #[.pointer (some ⟨g, 0, none⟩)] w fun e w' => ∃ F', e = .returned (.tuple #[]) ∧ RepBo w' g F' (endE EBo d) ∧ Eff w w' F ∧ (∀ k, F' k → F k ∨ w.heap.size ≤ k) := by
 obtain ⟨hb, hF⟩ := h
 unfold endE
 by_cases hg : d.err = 0 ∧ d.en = false
 ·rw [if_pos hg]
  refine (end_c hb (by show some (Value.int .i64 d.err) = _; rw [hg.1]) (by show some (Value.bool d.en) = _; rw [hg.2])).mono ?_
  rintro e w' ⟨rfl, rfl⟩
  refine ⟨F, rfl, ⟨?_, hF⟩, (Eff.set _ _ _ _).mono (fun k _ h => (hF k).2 h), fun k h => .inl h⟩
  have h2 := hb.set 3 (.bool true)
  show Blk _ g TBo #[.int .i64 d.pos, .int .i64 d.err, .int .i64 d.fat, .bool true, .string (strOf (d.kept ++ [])), .int .u32 (Subtype.val (p := fun p : Int => 0 ≤ p ∧ p ≤ 4294967295) d.st)]
  rw [List.append_nil]
  exact h2
 ·rw [if_neg hg]
  refine (end_not (err := d.err) (en := d.en) hb rfl rfl (by
   rcases Bool.eq_false_or_eq_true (d.err == 0 && !d.en) with h | h
   ·simp at h; exact absurd h hg
   ·exact h)).mono ?_
  rintro e w' ⟨rfl, rfl⟩
  exact ⟨F, rfl, ⟨hb, hF⟩, Eff.refl _ _, fun k h => .inl h⟩
theorem kBo : EncK 96 183 130 EBo RepBo where
 invF := by intro n g x y w; kernel_rfl
 invE := by intro n g w; kernel_rfl
 invD := by intro n g w; kernel_rfl
 invW := by intro n g w; kernel_rfl
 lt h k hk := by rw [(h.2 k).1 hk]; exact h.1.lt
 eff h he hs := ⟨h.1.eff he (hs _ ((h.2 _).2 rfl)), h.2⟩
 feed A c l room h hr hs hsc hp hk hroom := feedEBo A c l room h hr hs hsc hp hk hroom
 fin h _ _ := finBo h
 done h := outdone_c h.1 rfl rfl rfl
 blk h := ⟨TBo, _, by decide, by decide, h.1, rfl, rfl⟩
theorem newBo (w : World) : Calls Tryz.prog 41 #[] w fun e w' => e = .returned (.pointer (some ⟨w.heap.size, 0, none⟩)) ∧ w' = w.alloc (.cells (CsBo (ESt.new EBo)) TBo (0, 0)) := by
 go_enter Tryz.func41, Tryz.ntmps41
 go_wp2_with fail
 go_ret
 exact ⟨rfl, rfl⟩
theorem newBo_rep (w : World) : RepBo (w.alloc (.cells (CsBo (ESt.new EBo)) TBo (0, 0))) w.heap.size (fun k => k = w.heap.size) (ESt.new EBo) := ⟨Blk.new w _ _, fun _ => Iff.rfl⟩
set_option maxRecDepth 100000 in
theorem newE8 : NewE 8 96 EBo RepBo := by
 intro w
 go_enter Tryz.func16, Tryz.ntmps16
 go_wp2_with (go_at_call 41; refine (newBo _).mono ?_; rintro e w' ⟨rfl, rfl⟩)
 refine bodyPost_ret (v := .tuple #[.iface 96 (.pointer (some ⟨w.heap.size, 0, none⟩)), .int .i64 0]) (by simp [results, Tryz.results16, go_sem]) rfl ?_
 exact ⟨_, _, rfl, below_new (Below.refl _ _) _, newBo_rep w, fun k hk => Nat.le_of_eq hk.symm⟩
end Go.Proofs.YtmgnndnofbemeaaGreat
