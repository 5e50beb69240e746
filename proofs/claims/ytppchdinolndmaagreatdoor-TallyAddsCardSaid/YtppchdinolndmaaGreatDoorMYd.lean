/- Joined texts: Yd. -/
import Derived.Test.YtppchdinolndmaaGreatDoorMYc
import Derived.Test.YtppchdinolndmaaGreatDoorME8
import Derived.Deep.CutBlock
import Derived.StillTailTactics
/- tally.Of: of any numbers it answers what stepY counts. -/
namespace Go.Proofs.YtppchdinolndmaaGreatDoor
open Go.RowKit Go.Proofs.YtppchdinolndmaaGreatDoorW.PrintWords Go.Proofs.YtppchdinolndmaaGreatDoorW.PrintLast Go.Proofs.YtppchdinolndmaaGreatDoorW.PrintMore
attribute [local go_sem] max2_int min2_int max_two min_two
set_option linter.unusedVariables false
set_option linter.unusedSimpArgs false
abbrev TTY : TypeId := 26
theorem yreads_u32 (w : World) (x : Int) : ReadsInt (w.alloc (.cells #[.int .u32 x] 24 (0, 0))) .u32 (some ⟨w.heap.size, 0, none⟩) [x].length [x] := by
 refine ⟨rfl, by show 1 ≤ 9223372036854775807; decide, fun _ => ⟨_, rfl, fun k hk => ?_⟩⟩
 have hk : k < 1 := hk
 have h : k = 0 := by omega
 subst h
 rw [Addr.add_lit]; exact (Blk.new w 24 #[.int .u32 x]).cell rfl
theorem bytes8_len8 {x : Int} (h0 : 0 ≤ x) : ((bytes8 x).length : Int) = len8 x := by
 unfold bytes8 len8
 (repeat' split) <;> first | rfl | omega
def Enc1 : Prop := ∀ (x : Int) (w : World), 0 ≤ x → isScal x = true → Calls Tryz.prog 18 #[.int .i64 1, .slice (some ⟨w.heap.size, 0, none⟩) 1 1] (w.alloc (.cells #[.int .u32 x] 24 (0, 0)))
  fun e w' => e = .returned (.tuple #[.string (strOf (bytes8 x)), .agg #[.int .i64 0, .int .i64 0]]) ∧ Below w.heap.size w w'
theorem cls_rng {x : Int} (hs : isScal x = true) : clsF x = 1 ∨ clsF x = 2 ∨ clsF x = 3 ∨ clsF x = 4 ∨ clsF x = 5 ∨ clsF x = 6 := by
 unfold clsF
 rw [hs]
 simp only [Bool.true_eq_false, if_false]
 (repeat' split) <;> simp
def swT (t : Tl) (x : Int) : Tl := { t with ct := t.ct + one x 1, ai := t.ai + one x 2, la := t.la + one x 3, pl := t.pl + one x 4, pr := t.pr + one x 5, be := t.be + one x 6 }
def leT (t : Tl) (x : Int) : Tl := { t with le := if t.sc = 0 then x else t.le }
theorem stepY_scal {t : Tl} {x : Int} (hs : isScal x = true) : stepY t x = ⟨t.sc + 1, t.un + unF x, t.by8 + len8 x, t.ct + one x 1, t.ai + one x 2, t.la + one x 3, t.pl + one x 4, t.pr + one x 5, t.be + one x 6, if t.sc = 0 then x else if x < t.le then x else t.le, if t.mo < x then x else t.mo⟩ := by
 unfold stepY; rw [if_pos hs]
theorem sw_cells {t : Tl} {x : Int} {W : World} {g : Nat} (hb : Blk W g TTY (cellsT t)) : (clsF x = 1 → Blk (W.setCell ⟨g, 3, none⟩ (.int .i64 (t.ct + 1))) g TTY (cellsT (swT t x))) ∧ (clsF x = 2 → Blk (W.setCell ⟨g, 4, none⟩ (.int .i64 (t.ai + 1))) g TTY (cellsT (swT t x))) ∧
  (clsF x = 3 → Blk (W.setCell ⟨g, 5, none⟩ (.int .i64 (t.la + 1))) g TTY (cellsT (swT t x))) ∧ (clsF x = 4 → Blk (W.setCell ⟨g, 6, none⟩ (.int .i64 (t.pl + 1))) g TTY (cellsT (swT t x))) ∧
  (clsF x = 5 → Blk (W.setCell ⟨g, 7, none⟩ (.int .i64 (t.pr + 1))) g TTY (cellsT (swT t x))) ∧ (clsF x = 6 → Blk (W.setCell ⟨g, 8, none⟩ (.int .i64 (t.be + 1))) g TTY (cellsT (swT t x))) := by
 refine ⟨fun h => ?_, fun h => ?_, fun h => ?_, fun h => ?_, fun h => ?_, fun h => ?_⟩
 all_goals
  have e : ∀ k : Int, one x k = if clsF x = k then 1 else 0 := fun _ => rfl
  unfold swT
  simp only [e, h]
  simp only [if_true, show ((1 : Int) = 2) = False by simp, show ((1 : Int) = 3) = False by simp, show ((1 : Int) = 4) = False by simp, show ((1 : Int) = 5) = False by simp, show ((1 : Int) = 6) = False by simp, show ((2 : Int) = 1) = False by simp, show ((2 : Int) = 3) = False by simp, show ((2 : Int) = 4) = False by simp, show ((2 : Int) = 5) = False by simp, show ((2 : Int) = 6) = False by simp,
   show ((3 : Int) = 1) = False by simp, show ((3 : Int) = 2) = False by simp, show ((3 : Int) = 4) = False by simp, show ((3 : Int) = 5) = False by simp, show ((3 : Int) = 6) = False by simp, show ((4 : Int) = 1) = False by simp, show ((4 : Int) = 2) = False by simp, show ((4 : Int) = 3) = False by simp, show ((4 : Int) = 5) = False by simp, show ((4 : Int) = 6) = False by simp,
   show ((5 : Int) = 1) = False by simp, show ((5 : Int) = 2) = False by simp, show ((5 : Int) = 3) = False by simp, show ((5 : Int) = 4) = False by simp, show ((5 : Int) = 6) = False by simp, show ((6 : Int) = 1) = False by simp, show ((6 : Int) = 2) = False by simp, show ((6 : Int) = 3) = False by simp, show ((6 : Int) = 4) = False by simp, show ((6 : Int) = 5) = False by simp, if_false, Int.add_zero]
  exact hb.set _ _
structure CellsAt (W : World) (g : Nat) (t : Tl) : Prop where
 c0 : W.cell? ⟨g, 0, none⟩ = some (.int .i64 t.sc)
 c1 : W.cell? ⟨g, 1, none⟩ = some (.int .i64 t.un)
 c2 : W.cell? ⟨g, 2, none⟩ = some (.int .i64 t.by8)
 c3 : W.cell? ⟨g, 3, none⟩ = some (.int .i64 t.ct)
 c4 : W.cell? ⟨g, 4, none⟩ = some (.int .i64 t.ai)
 c5 : W.cell? ⟨g, 5, none⟩ = some (.int .i64 t.la)
 c6 : W.cell? ⟨g, 6, none⟩ = some (.int .i64 t.pl)
 c7 : W.cell? ⟨g, 7, none⟩ = some (.int .i64 t.pr)
 c8 : W.cell? ⟨g, 8, none⟩ = some (.int .i64 t.be)
 c9 : W.cell? ⟨g, 9, none⟩ = some (.int .u32 t.le)
 c10 : W.cell? ⟨g, 10, none⟩ = some (.int .u32 t.mo)
 f : ∀ i, W.frozen? ⟨g, i, none⟩ = false
theorem cells_at {W : World} {g : Nat} {t : Tl} (h : Blk W g TTY (cellsT t)) : CellsAt W g t :=
 ⟨h.cell rfl, h.cell rfl, h.cell rfl, h.cell rfl, h.cell rfl, h.cell rfl, h.cell rfl, h.cell rfl, h.cell rfl, h.cell rfl, h.cell rfl, h.frozen⟩
theorem below_set1 {w W : World} {g : Nat} (h : Below w.heap.size w W) (hg : w.heap.size ≤ g) (i : Nat) (v : Value) : Below w.heap.size w (W.setCell ⟨g, i, none⟩ v) :=
 Eff.under h (Eff.set W g i v) h.size (fun k hk => by rw [hk]; exact hg)
theorem set11 {W : World} {g : Nat} {z : Tl} (t : Tl) (h0 : Blk W g TTY (cellsT z)) : Blk (((((((((((W.setCell ⟨g, 0, none⟩ (.int .i64 t.sc)).setCell ⟨g, 1, none⟩ (.int .i64 t.un)).setCell ⟨g, 2, none⟩ (.int .i64 t.by8)).setCell ⟨g, 3, none⟩ (.int .i64 t.ct)).setCell ⟨g, 4, none⟩ (.int .i64 t.ai)).setCell ⟨g, 5, none⟩ (.int .i64 t.la)).setCell ⟨g, 6, none⟩ (.int .i64 t.pl)).setCell ⟨g, 7, none⟩ (.int .i64 t.pr)).setCell ⟨g, 8, none⟩ (.int .i64 t.be)).setCell ⟨g, 9, none⟩ (.int .u32 t.le)).setCell ⟨g, 10, none⟩ (.int .u32 t.mo)) g TTY (cellsT t) := by
 have h1 := blk_put (cs' := #[.int .i64 t.sc, .int .i64 z.un, .int .i64 z.by8, .int .i64 z.ct, .int .i64 z.ai, .int .i64 z.la, .int .i64 z.pl, .int .i64 z.pr, .int .i64 z.be, .int .u32 z.le, .int .u32 z.mo]) h0 0 (.int .i64 t.sc) rfl
 have h2 := blk_put (cs' := #[.int .i64 t.sc, .int .i64 t.un, .int .i64 z.by8, .int .i64 z.ct, .int .i64 z.ai, .int .i64 z.la, .int .i64 z.pl, .int .i64 z.pr, .int .i64 z.be, .int .u32 z.le, .int .u32 z.mo]) h1 1 (.int .i64 t.un) rfl
 have h3 := blk_put (cs' := #[.int .i64 t.sc, .int .i64 t.un, .int .i64 t.by8, .int .i64 z.ct, .int .i64 z.ai, .int .i64 z.la, .int .i64 z.pl, .int .i64 z.pr, .int .i64 z.be, .int .u32 z.le, .int .u32 z.mo]) h2 2 (.int .i64 t.by8) rfl
 have h4 := blk_put (cs' := #[.int .i64 t.sc, .int .i64 t.un, .int .i64 t.by8, .int .i64 t.ct, .int .i64 z.ai, .int .i64 z.la, .int .i64 z.pl, .int .i64 z.pr, .int .i64 z.be, .int .u32 z.le, .int .u32 z.mo]) h3 3 (.int .i64 t.ct) rfl
 have h5 := blk_put (cs' := #[.int .i64 t.sc, .int .i64 t.un, .int .i64 t.by8, .int .i64 t.ct, .int .i64 t.ai, .int .i64 z.la, .int .i64 z.pl, .int .i64 z.pr, .int .i64 z.be, .int .u32 z.le, .int .u32 z.mo]) h4 4 (.int .i64 t.ai) rfl
 have h6 := blk_put (cs' := #[.int .i64 t.sc, .int .i64 t.un, .int .i64 t.by8, .int .i64 t.ct, .int .i64 t.ai, .int .i64 t.la, .int .i64 z.pl, .int .i64 z.pr, .int .i64 z.be, .int .u32 z.le, .int .u32 z.mo]) h5 5 (.int .i64 t.la) rfl
 have h7 := blk_put (cs' := #[.int .i64 t.sc, .int .i64 t.un, .int .i64 t.by8, .int .i64 t.ct, .int .i64 t.ai, .int .i64 t.la, .int .i64 t.pl, .int .i64 z.pr, .int .i64 z.be, .int .u32 z.le, .int .u32 z.mo]) h6 6 (.int .i64 t.pl) rfl
 have h8 := blk_put (cs' := #[.int .i64 t.sc, .int .i64 t.un, .int .i64 t.by8, .int .i64 t.ct, .int .i64 t.ai, .int .i64 t.la, .int .i64 t.pl, .int .i64 t.pr, .int .i64 z.be, .int .u32 z.le, .int .u32 z.mo]) h7 7 (.int .i64 t.pr) rfl
 have h9 := blk_put (cs' := #[.int .i64 t.sc, .int .i64 t.un, .int .i64 t.by8, .int .i64 t.ct, .int .i64 t.ai, .int .i64 t.la, .int .i64 t.pl, .int .i64 t.pr, .int .i64 t.be, .int .u32 z.le, .int .u32 z.mo]) h8 8 (.int .i64 t.be) rfl
 have h10 := blk_put (cs' := #[.int .i64 t.sc, .int .i64 t.un, .int .i64 t.by8, .int .i64 t.ct, .int .i64 t.ai, .int .i64 t.la, .int .i64 t.pl, .int .i64 t.pr, .int .i64 t.be, .int .u32 t.le, .int .u32 z.mo]) h9 9 (.int .u32 t.le) rfl
 have h11 := blk_put (cs' := #[.int .i64 t.sc, .int .i64 t.un, .int .i64 t.by8, .int .i64 t.ct, .int .i64 t.ai, .int .i64 t.la, .int .i64 t.pl, .int .i64 t.pr, .int .i64 t.be, .int .u32 t.le, .int .u32 t.mo]) h10 10 (.int .u32 t.mo) rfl
 exact h11
set_option maxRecDepth 100000 in
set_option maxHeartbeats 2000000 in
theorem of_gen (henc : Enc1) (A : Option Addr) (cp : Nat) (l : List Int) (hl : l.length ≤ 1000) (h0 : ∀ y ∈ l, 0 ≤ y ∧ y ≤ 4294967295) (hcp : l.length ≤ cp) (w : World) (hr : ReadsInt w .u32 A l.length l) :
  Calls Tryz.prog 9 #[.slice A l.length cp] w fun e w' => e = .returned (.agg (cellsT (ofT l))) ∧ Below w.heap.size w w' := by
 have HENC := Lib.hid henc
 clear henc
 have HR := Lib.hid hr
 have HL := Lib.hid hl
 have H0 := Lib.hid h0
 clear hr h0
 have ebl : (w.alloc (.cells (cellsT zeroT) TTY (0, 0))).heap.size = w.heap.size + 1 := World.size_alloc _ _
 have HZ1 : Hid (Blk ((w.alloc (.cells (cellsT zeroT) TTY (0, 0))).alloc (.cells (cellsT zeroT) TTY (0, 0))) w.heap.size TTY (cellsT zeroT)) := Lib.hid ((Blk.new w _ _).alloc _)
 have HZ2 : Hid (Blk ((w.alloc (.cells (cellsT zeroT) TTY (0, 0))).alloc (.cells (cellsT zeroT) TTY (0, 0))) (w.heap.size + 1) TTY (cellsT zeroT)) := Lib.hid (by have := Blk.new (w.alloc (.cells (cellsT zeroT) TTY (0, 0))) TTY (cellsT zeroT); rwa [ebl] at this)
 have HB0 : Hid (Below w.heap.size w ((w.alloc (.cells (cellsT zeroT) TTY (0, 0))).alloc (.cells (cellsT zeroT) TTY (0, 0)))) := Lib.hid (below_then (below_new (Below.refl _ _) _) (below_new (Below.refl _ _) _) (by rw [ebl]; omega))
 clear ebl
 go_enter Tryz.func9, Tryz.ntmps9
 go_wp2_with fail
 go_loopg [10] l.length (fun kq s10 wx => ∃ i : Nat, s10 = .int .i64 i ∧ Hid (kq = l.length - i ∧ i ≤ l.length) ∧ Hid (Blk wx w.heap.size TTY (cellsT zeroT)) ∧ Hid (Blk wx (w.heap.size + 1) TTY (cellsT (ofT (l.take i)))) ∧ Hid (Below w.heap.size w wx))
 case atStart => exact ⟨0, rfl, Lib.hid ⟨rfl, Nat.zero_le _⟩, HZ1, HZ2, HB0⟩
 case round =>
  obtain ⟨i, rfl, HK, HZ, HB, HW⟩ := hrel
  clear HZ1 HZ2 HB0
  have hi0 : (0 : Int) ≤ (i : Int) := by omega
  by_cases hi : i < l.length
  ·have hi1 : (i : Int) < (l.length : Int) := by omega
   obtain ⟨ad, rfl, hcell⟩ := ReadsInt.at_ (HR.out.below HW.out) (i : Int) hi0 hi1
   rw [Int.toNat_natCast, show rd l (i : Int) = l.getD i 0 by simp [rd]] at hcell
   have hm : l.getD i 0 ∈ l := by rw [List.getD_eq_getElem?_getD, List.getElem?_eq_getElem hi]; exact List.getElem_mem hi
   have ht : l.take (i + 1) = l.take i ++ [l.getD i 0] := by
    rw [List.take_add_one, List.getElem?_eq_getElem hi, List.getD_eq_getElem?_getD, List.getElem?_eq_getElem hi]
    rfl
   have hok := (okT (l.take i) (fun c hc => (H0.out c (List.mem_of_mem_take hc)).1))
   have HT : Hid (ofT (l.take (i + 1)) = stepY (ofT (l.take i)) (l.getD i 0)) := Lib.hid (by rw [ht, ofT_snoc])
   have hx0 := H0.out _ hm
   obtain ⟨x, hx⟩ : ∃ x, l.getD i 0 = x := ⟨_, rfl⟩
   obtain ⟨t, htt⟩ : ∃ t, ofT (l.take i) = t := ⟨_, rfl⟩
   rw [hx] at hcell hx0 HT
   rw [htt] at hok HB HT
   have hsm := hok.small (by rw [List.length_take]; omega)
   have HX0 := Lib.hid hx0
   have HSM := Lib.hid hsm
   have HOK := Lib.hid hok
   clear hx htt hm ht hx0 hsm hok
   by_cases hs : isScal x = true
   ·have HS := Lib.hid hs
    have HC := Lib.hid (class_c x wr)
    go_upto_block 2 with (go_at_call 17; refine HC.out.mono ?_; rintro e w1 ⟨rfl, hb1⟩)
    have HB1 := Lib.hid (HB.out.below hb1)
    have HZ1 := Lib.hid (HZ.out.below hb1)
    have HW1 := Lib.hid (below_next HW.out hb1)
    have HSW := Lib.hid (sw_cells (x := x) HB1.out)
    have hg : ¬ w.heap.size + 1 = w.heap.size := by omega
    have HG := Lib.hid hg
    clear hb1 hcell HC HB HZ HW hg
    have hcr := cls_rng HS.out
    obtain ⟨K, hK⟩ : ∃ K, clsF x = K := ⟨_, rfl⟩
    have HKK := Lib.hid hK
    rw [hK] at hcr ⊢
    clear hK
    go_cut [] (fun wx => Hid (Blk wx (w.heap.size + 1) TTY (cellsT (swT t x))) ∧ Hid (Blk wx w.heap.size TTY (cellsT zeroT)) ∧ Hid (Below w.heap.size w wx))
    case first =>
     obtain ⟨c0, c1, c2, c3, c4, c5, c6, c7, c8, c9, c10, f⟩ := cells_at HB1.out
     obtain ⟨s0, s1, s2, s3, s4, s5, s6, s7, s8⟩ := HSM.out
     have f3 := f 3
     have f4 := f 4
     have f5 := f 5
     have f6 := f 6
     have f7 := f 7
     have f8 := f 8
     clear c0 c1 c2 c9 c10 f s0 s1 s2
     rcases hcr with rfl | rfl | rfl | rfl | rfl | rfl
     all_goals
      go_wp2_with fail
      go_meet
      refine ⟨Lib.hid ?_, Lib.hid (HZ1.out.far (fun e => HG.out e.symm) _), Lib.hid (below_set1 HW1.out (by omega) _ _)⟩
      first | exact HSW.out.1 HKK.out | exact HSW.out.2.1 HKK.out | exact HSW.out.2.2.1 HKK.out | exact HSW.out.2.2.2.1 HKK.out | exact HSW.out.2.2.2.2.1 HKK.out | exact HSW.out.2.2.2.2.2 HKK.out
    case rest =>
     obtain ⟨HB2, HZ2, HW2⟩ := hcut
     clear HB1 HZ1 HW1 HSW hcr HKK
     have HQ : Hid ((swT t x).sc = t.sc ∧ (swT t x).un = t.un ∧ (swT t x).by8 = t.by8 ∧ (swT t x).le = t.le ∧ (swT t x).mo = t.mo) := Lib.hid ⟨rfl, rfl, rfl, rfl, rfl⟩
     have HSTEP : Hid (∀ T1 : Tl, swT t x = T1 → (⟨T1.sc + 1, T1.un + unF x, T1.by8 + len8 x, T1.ct, T1.ai, T1.la, T1.pl, T1.pr, T1.be, mn (leT T1 x).le x, mx T1.mo x⟩ : Tl) = stepY t x) := Lib.hid fun T1 e => by
      rw [← e, stepY_scal HS.out]
      unfold leT swT mn mx
      dsimp only
      by_cases hz : t.sc = 0
      ·rw [if_pos hz, if_pos hz, if_neg (by omega)]
      ·rw [if_neg hz, if_neg hz]
     obtain ⟨t1, ht1⟩ : ∃ t1, swT t x = t1 := ⟨_, rfl⟩
     have HT1 := Lib.hid ht1
     rw [ht1] at HB2 HQ
     clear ht1
     have hsc0 : (0 : Int) ≤ t1.sc ∧ t1.sc ≤ 1000000000 := by rw [HQ.out.1]; exact HSM.out.a0
     have hun0 : (0 : Int) ≤ t1.un ∧ t1.un ≤ 1000000000 := by rw [HQ.out.2.1]; exact HSM.out.a1
     have hby0 : (0 : Int) ≤ t1.by8 ∧ t1.by8 ≤ 1000000000 := by rw [HQ.out.2.2.1]; exact HSM.out.a2
     have c0 := (cells_at HB2.out).c0
     have c9 := (cells_at HB2.out).c9
     have f9 := (cells_at HB2.out).f 9
     go_upto_if 56 with fail
     go_cut [] (fun wx => Hid (Blk wx (w.heap.size + 1) TTY (cellsT (leT t1 x))) ∧ Hid (Blk wx w.heap.size TTY (cellsT zeroT)) ∧ Hid (Below w.heap.size w wx))
     case first =>
      by_cases hz : t1.sc = 0
      ·go_wp2_with fail
       go_meet
       refine ⟨Lib.hid ?_, Lib.hid (HZ2.out.far (fun e => HG.out e.symm) _), Lib.hid (below_set1 HW2.out (by omega) _ _)⟩
       have := HB2.out.set 9 (.int .u32 x)
       unfold leT
       rw [if_pos hz]
       exact this
      ·go_wp2_with fail
       go_meet
       refine ⟨Lib.hid ?_, HZ2, HW2⟩
       unfold leT
       rw [if_neg hz]
       exact HB2.out
     case rest =>
      obtain ⟨HB3, HZ3, HW3⟩ := hcut
      clear HB2 HZ2 HW2 c0 c9 f9
      go_upto_region 22 with (go_at_call 18; refine (HENC.out x _ HX0.out.1 HS.out).mono ?_; rintro e w4 ⟨rfl, hb4⟩)
      obtain ⟨W5, hW5⟩ : ∃ W, w4.alloc (.cells #[.int .i64 0, .int .i64 0] 41 (0, 0)) = W := ⟨_, rfl⟩
      have hb5 : Below wc.heap.size wc W5 := by rw [← hW5]; exact below_then hb4 (below_new (Below.refl _ _) _) hb4.size
      rw [hW5]
      have HB5 := Lib.hid (HB3.out.below hb5)
      have HZ5 := Lib.hid (HZ3.out.below hb5)
      have HW5 := Lib.hid (below_next HW3.out hb5)
      have hl8 := bytes8_len8 HX0.out.1
      have hl8r := len8_rng x
      have hsz8 : ((strOf (bytes8 x)).size : Int) = len8 x := by rw [strOf_size]; exact hl8
      obtain ⟨S8, hS8⟩ : ∃ s, strOf (bytes8 x) = s := ⟨_, rfl⟩
      rw [hS8] at hsz8 ⊢
      clear hS8 hl8 hb4 hb5 hW5 HB3 HZ3 HW3
      have HS8 := Lib.hid (And.intro hsz8 hl8r)
      clear hsz8 hl8r
      have c0 : W5.cell? ⟨w.heap.size + 1, 0, none⟩ = some (.int .i64 t1.sc) := HB5.out.cell (i := 0) rfl
      have f0 := (cells_at HB5.out).f 0
      go_upto_region 23 with fail
      have HB6 := Lib.hid (HB5.out.set 0 (.int .i64 (t1.sc + 1)))
      have HZ6 := Lib.hid (HZ5.out.far (fun e => HG.out e.symm) (.int .i64 (t1.sc + 1)) (p := ⟨w.heap.size + 1, 0, none⟩))
      have HW6 := Lib.hid (below_set1 HW5.out (Nat.le_succ _) 0 (.int .i64 (t1.sc + 1)) (g := w.heap.size + 1))
      obtain ⟨W6, hW6⟩ : ∃ W, W5.setCell ⟨w.heap.size + 1, 0, none⟩ (.int .i64 (t1.sc + 1)) = W := ⟨_, rfl⟩
      rw [hW6] at HB6 HZ6 HW6 ⊢
      clear HB5 HZ5 HW5 hW6 c0 f0
      have hur : unF x = 1 ∨ unF x = 2 := by unfold unF; split <;> simp
      obtain ⟨U, hU⟩ : ∃ U, unF x = U := ⟨_, rfl⟩
      have HU := Lib.hid hU
      rw [hU] at hur
      have hur0 : 0 ≤ U ∧ U ≤ 2 := by omega
      have hwr : IntKind.i64.wrap (t1.un + U) = t1.un + U := by rw [i64_w]; exact yw64 (by omega) (by omega)
      have HWR := Lib.hid hwr
      clear hur hwr
      have HUC : Hid (∀ (V : World) (a : Nat), ReadsInt V .u32 (some ⟨a, 0, none⟩) [x].length [x] → Calls Tryz.prog 19 #[.slice (some ⟨a, 0, none⟩) 1 1] V fun e w' => e = .returned (.int .i64 U) ∧ Below V.heap.size V w') := Lib.hid fun V a hV => by
       rw [← hU]
       exact sunits_c x HS.out _ 1 (Nat.le_refl 1) V hV
      have HKB : Hid (∀ W, Below W6.heap.size W6 W → W.cell? ⟨w.heap.size + 1, 1, none⟩ = some (.int .i64 t1.un) ∧ W.frozen? ⟨w.heap.size + 1, 1, none⟩ = false) := Lib.hid fun W hW => ⟨(HB6.out.below hW).cell rfl, (HB6.out.below hW).frozen 1⟩
      clear hU
      go_cut [] (fun wx => Hid (Blk wx (w.heap.size + 1) TTY (cellsT { leT t1 x with sc := t1.sc + 1, un := t1.un + U })) ∧ Hid (Blk wx w.heap.size TTY (cellsT zeroT)) ∧ Hid (Below w.heap.size w wx))
      case first =>
       have ca := HKB.out W6 (Below.refl _ _)
       have cb := HKB.out (W6.alloc (.cells #[.int .u32 x] 24 (0, 0))) (below_new (Below.refl _ _) _)
       have ca1 := ca.1
       have ca2 := ca.2
       have cb1 := cb.1
       have cb2 := cb.2
       clear ca cb
       go_region_with (go_at_call 19; refine (HUC.out _ _ (by first | with_reducible exact yreads_u32 _ _ | with_reducible exact (yreads_u32 _ _).below (below_drew1 (Below.refl _ _)) | exact yreads_u32 W6 x)).mono ?_; rintro e w7 ⟨rfl, hb7⟩; have hB7 : Below W6.heap.size W6 w7 := below_next (by repeat (first | with_reducible exact Below.refl _ _ | with_reducible assumption | with_reducible apply below_alloc | with_reducible apply pw_below_drewN | with_reducible apply below_drew1)) hb7; have hS7 := (HKB.out _ hB7).1; have hF7 := (HKB.out _ hB7).2; clear hb7)
       all_goals (go_wp2_with fail; go_meet)
       all_goals rw [HWR.out]
       all_goals refine ⟨Lib.hid ?_, Lib.hid ((HZ6.out.below hB7).far (fun e => HG.out e.symm) _), Lib.hid (below_set1 (below_next HW6.out hB7) (Nat.le_succ _) _ _)⟩
       all_goals exact (HB6.out.below hB7).set 1 _
      case rest =>
       obtain ⟨HB7, HZ7, HW7⟩ := hcut
       clear HB6 HZ6 HW6 HUC HKB hun0
       obtain ⟨L1, hL1⟩ : ∃ L1, (leT t1 x).le = L1 := ⟨_, rfl⟩
       have HL1 := Lib.hid hL1
       have HST : Hid ((⟨t1.sc + 1, t1.un + U, t1.by8 + len8 x, t1.ct, t1.ai, t1.la, t1.pl, t1.pr, t1.be, mn L1 x, mx t1.mo x⟩ : Tl) = stepY t x) := Lib.hid (by rw [← HU.out, ← hL1]; exact HSTEP.out t1 HT1.out)
       have hc := cells_at HB7.out
       have c2 : wc.cell? ⟨w.heap.size + 1, 2, none⟩ = some (.int .i64 t1.by8) := hc.c2
       have c9 : wc.cell? ⟨w.heap.size + 1, 9, none⟩ = some (.int .u32 L1) := by rw [← hL1]; exact hc.c9
       have c10 : wc.cell? ⟨w.heap.size + 1, 10, none⟩ = some (.int .u32 t1.mo) := hc.c10
       have f2 := hc.f 2
       have f9 := hc.f 9
       have f10 := hc.f 10
       have hs8 := HS8.out
       rw [← hs8.1] at hs8
       have hs81 := hs8.2
       clear hc hL1 hs8 HSTEP
       go_wp2_with fail
       all_goals go_roundg (gk - 1)
       all_goals first
        | (case measure => have := HK.out; omega)
        | skip
       all_goals refine ⟨i + 1, by go_num, Lib.hid ⟨by have := HK.out; omega, by omega⟩, Lib.hid ((((HZ7.out.far (fun e => HG.out e.symm) _).far (fun e => HG.out e.symm) _).far (fun e => HG.out e.symm) _)), Lib.hid ?_, Lib.hid (below_set1 (below_set1 (below_set1 HW7.out (Nat.le_succ _) _ _) (Nat.le_succ _) _ _) (Nat.le_succ _) _ _)⟩
       all_goals rw [HT.out, ← HST.out, ← HS8.out.1]
       all_goals
        have hmn : ∀ V : Int, (V = if x < L1 then x else L1) → mn L1 x = V := fun V h => h.symm
        have hmx : ∀ V : Int, (V = if t1.mo < x then x else t1.mo) → mx t1.mo x = V := fun V h => h.symm
        first
         | (rw [hmn x (by split <;> omega), hmx x (by split <;> omega)]; exact ((HB7.out.set 2 (.int .i64 (t1.by8 + S8.size))).set 9 (.int .u32 x)).set 10 (.int .u32 x))
         | (rw [hmn x (by split <;> omega), hmx t1.mo (by split <;> omega)]; exact ((HB7.out.set 2 (.int .i64 (t1.by8 + S8.size))).set 9 (.int .u32 x)).set 10 (.int .u32 t1.mo))
         | (rw [hmn L1 (by split <;> omega), hmx x (by split <;> omega)]; exact ((HB7.out.set 2 (.int .i64 (t1.by8 + S8.size))).set 9 (.int .u32 L1)).set 10 (.int .u32 x))
         | (rw [hmn L1 (by split <;> omega), hmx t1.mo (by split <;> omega)]; exact ((HB7.out.set 2 (.int .i64 (t1.by8 + S8.size))).set 9 (.int .u32 L1)).set 10 (.int .u32 t1.mo))
   ·have hcl : clsF x = 0 := by unfold clsF; rw [if_pos (by simpa using hs)]
    have HC := Lib.hid (class_c x wr)
    rw [hcl] at HC
    have hst : stepY t x = t := by unfold stepY; rw [if_neg hs]
    rw [hst] at HT
    go_wp2_with (go_at_call 17; refine HC.out.mono ?_; rintro e w1 ⟨rfl, hb1⟩; have HB1 := Lib.hid hb1; clear hb1)
    go_roundg (gk - 1)
    case measure => have := HK.out; omega
    case rel => exact ⟨i + 1, by go_num, Lib.hid ⟨by have := HK.out; omega, hi⟩, Lib.hid (HZ.out.below HB1.out), Lib.hid (by rw [HT.out]; exact HB.out.below HB1.out), Lib.hid (below_next HW.out HB1.out)⟩
  ·have hi1 : ¬ (i : Int) < (l.length : Int) := by omega
   have hI : i = l.length := by have := HK.out; omega
   rw [hI, List.take_length] at HB
   obtain ⟨t, htt⟩ : ∃ t, ofT l = t := ⟨_, rfl⟩
   rw [htt] at HB
   have HTT := Lib.hid htt
   clear hI htt
   obtain ⟨c0, c1, c2, c3, c4, c5, c6, c7, c8, c9, c10, f⟩ := cells_at HB.out
   obtain ⟨z0, z1, z2, z3, z4, z5, z6, z7, z8, z9, z10, zf⟩ := cells_at HZ.out
   have zf0 := zf 0
   have zf1 := zf 1
   have zf2 := zf 2
   have zf3 := zf 3
   have zf4 := zf 4
   have zf5 := zf 5
   have zf6 := zf 6
   have zf7 := zf 7
   have zf8 := zf 8
   have zf9 := zf 9
   have zf10 := zf 10
   clear f zf
   go_wp2_with fail
   refine bodyPost_ret (results_cell_row rfl _ _ w.heap.size TTY (cellsT t) (0, 0) _ rfl (set11 t HZ.out) Tryz.underlying26 rfl (by kernel_rfl)) rfl ?_
   refine ⟨by rw [HTT.out], ?_⟩
   (repeat refine below_set1 ?_ (Nat.le_refl _) _ _)
   exact HW.out
end Go.Proofs.YtppchdinolndmaaGreatDoor
