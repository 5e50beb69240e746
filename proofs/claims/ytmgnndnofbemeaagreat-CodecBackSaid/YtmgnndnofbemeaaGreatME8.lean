/- Joined texts: E8, E8f, K8, Ha, Fi. -/
import Derived.Test.YtmgnndnofbemeaaGreatMUstp
import Derived.Test.YtmgnndnofbemeaaGreatMBit
import Derived.StillTailTactics
import Derived.Deep.CutBlock
import Derived.Test.YtmgnndnofbemeaaGreatMBase
import Derived.Test.YtmgnndnofbemeaaGreatMDv
import Derived.Test.YtmgnndnofbemeaaGreatMSame
namespace Go.Proofs.YtmgnndnofbemeaaGreat
open Go.RowKit Go.Proofs.YtmgnndnofbemeaaGreatW.PrintWords
set_option linter.unusedVariables false
set_option linter.unusedSimpArgs false
def bytes8 (c : Int) : List Int :=
 if c < 128 then [c] else if c < 2048 then [192 + c / 64, 128 + c % 64] else if c < 65536 then [224 + c / 4096, 128 + c / 64 % 64, 128 + c % 64]
 else [240 + c / 262144, 128 + c / 4096 % 64, 128 + c / 64 % 64, 128 + c % 64]
def E8 : EMach := ⟨Unit, (), fun _ c => ((), bytes8 c), fun _ => [], fun _ => []⟩
abbrev T8 : TypeId := 137
def Cs8 (d : ESt E8) : Array Value := #[.int .i64 d.pos, .int .i64 d.err, .int .i64 d.fat, .bool d.en, .string (strOf d.kept)]
def Rep8 (w : World) (g : Nat) (F : Nat → Prop) (d : ESt E8) : Prop := Blk w g T8 (Cs8 d) ∧ ∀ k, F k ↔ k = g
theorem bytes8_len (st : E8.St) (c : Int) : (E8.put st c).2.length ≤ 4 := by
 show (bytes8 c).length ≤ 4
 unfold bytes8
 split
 ·exact (by decide : 1 ≤ 4)
 ·split
  ·exact (by decide : 2 ≤ 4)
  ·split
   ·exact (by decide : 3 ≤ 4)
   ·exact (by decide : 4 ≤ 4)
theorem e8_and63 {x : Int} (h0 : 0 ≤ x) (h1 : x < 256) : bits .and .u8 x 63 = x % 64 := bits_mask .u8 8 (by decide) wraps_u8 6 (by decide) x h0 h1
theorem e8_or128 {y : Int} (h0 : 0 ≤ y) (h1 : y < 64) : bits .or .u8 128 y = 128 + y := bits_join .u8 8 (by decide) wraps_u8 6 128 y (by decide) (by decide) (by decide) h0 h1 (by omega)
theorem e8_or192 {y : Int} (h0 : 0 ≤ y) (h1 : y < 32) : bits .or .u8 192 y = 192 + y := bits_join .u8 8 (by decide) wraps_u8 5 192 y (by decide) (by decide) (by decide) h0 h1 (by omega)
theorem e8_or224 {y : Int} (h0 : 0 ≤ y) (h1 : y < 16) : bits .or .u8 224 y = 224 + y := bits_join .u8 8 (by decide) wraps_u8 4 224 y (by decide) (by decide) (by decide) h0 h1 (by omega)
theorem e8_or240 {y : Int} (h0 : 0 ≤ y) (h1 : y < 8) : bits .or .u8 240 y = 240 + y := bits_join .u8 8 (by decide) wraps_u8 3 240 y (by decide) (by decide) (by decide) h0 h1 (by omega)
theorem tail8_0 {w : World} {b : Nat} {c : Int} (hc : w.cell? ⟨b, 0, none⟩ = some (.int .u32 c)) (h0 : 0 ≤ c) (h1 : c ≤ 1114111) :
  Calls Tryz.prog 141 #[.int .i64 0, .pointer (some ⟨b, 0, none⟩)] w fun e w' => e = .returned (.int .u8 (128 + c % 64)) ∧ w' = w := by
 have e1 : bits .and .u8 (c % 256) 63 = c % 64 := by rw [e8_and63 (by omega) (by omega)]; omega
 have e2 : bits .or .u8 128 (c % 64) = 128 + c % 64 := e8_or128 (by omega) (by omega)
 go_enter Tryz.func141, Tryz.ntmps141
 go_wp2
 go_ret
 exact ⟨rfl, rfl⟩
theorem tail8_1 {w : World} {b : Nat} {c : Int} (hc : w.cell? ⟨b, 0, none⟩ = some (.int .u32 c)) (h0 : 0 ≤ c) (h1 : c ≤ 1114111) :
  Calls Tryz.prog 141 #[.int .i64 1, .pointer (some ⟨b, 0, none⟩)] w fun e w' => e = .returned (.int .u8 (128 + c / 64 % 64)) ∧ w' = w := by
 have e1 : bits .and .u8 (c / 64 % 256) 63 = c / 64 % 64 := by rw [e8_and63 (by omega) (by omega)]; omega
 have e2 : bits .or .u8 128 (c / 64 % 64) = 128 + c / 64 % 64 := e8_or128 (by omega) (by omega)
 go_enter Tryz.func141, Tryz.ntmps141
 go_wp2
 go_ret
 exact ⟨rfl, rfl⟩
theorem tail8_2 {w : World} {b : Nat} {c : Int} (hc : w.cell? ⟨b, 0, none⟩ = some (.int .u32 c)) (h0 : 0 ≤ c) (h1 : c ≤ 1114111) :
  Calls Tryz.prog 141 #[.int .i64 2, .pointer (some ⟨b, 0, none⟩)] w fun e w' => e = .returned (.int .u8 (128 + c / 4096 % 64)) ∧ w' = w := by
 have e1 : bits .and .u8 (c / 4096 % 256) 63 = c / 4096 % 64 := by rw [e8_and63 (by omega) (by omega)]; omega
 have e2 : bits .or .u8 128 (c / 4096 % 64) = 128 + c / 4096 % 64 := e8_or128 (by omega) (by omega)
 go_enter Tryz.func141, Tryz.ntmps141
 go_wp2
 go_ret
 exact ⟨rfl, rfl⟩
set_option maxRecDepth 100000 in
set_option maxHeartbeats 4000000 in
theorem bytes8_c {w : World} {g : Nat} {d : ESt E8} (hb : Blk w g T8 (Cs8 d)) (c : Int) (h0 : 0 ≤ c) (h1 : isScal c = true) :
  Calls Tryz.prog 139 #[.pointer (some ⟨g, 0, none⟩), .int .u32 c] w fun e w' => e = .returned (.string (strOf (E8.put d.st c).2)) ∧ Blk w' g T8 (Cs8 { d with st := (E8.put d.st c).1 }) ∧ Eff w w' (fun k => k = g) := by
 have hc1 : c ≤ 1114111 := by unfold isScal at h1; simp at h1; omega
 have HB := Lib.hid hb
 show Calls _ _ _ _ fun e w' => e = .returned (.string (strOf (bytes8 c))) ∧ Blk w' g T8 (Cs8 d) ∧ Eff w w' (fun k => k = g)
 clear hb h1
 have hmf : ∀ (fn : Fn) (first cap : Array Value) (w : World), (Instr.makeFunc fn first cap).run Tryz.prog w = .ok (.func fn first cap) w := fun _ _ _ _ => rfl
 have hW0 := (Blk.new w 48 #[.int .u32 c])
 have hc0 : (w.alloc (.cells #[.int .u32 c] 48 (0, 0))).cell? ⟨w.heap.size, 0, none⟩ = some (.int .u32 c) := hW0.cell rfl
 clear hW0
 by_cases ha : c < 128
 ·have d1 : decide (c < 128) = true := decide_eq_true ha
  have hB : bytes8 c = [c] := by unfold bytes8; rw [if_pos ha]
  rw [hB]
  have hc := conv8 (w.alloc (.cells #[.int .u32 c] 48 (0, 0))) [c] 1 (by simp)
  simp only [nums, List.map_cons, List.map_nil, List.length_cons, List.length_nil, Nat.zero_add, World.size_alloc] at hc
  go_enter Tryz.func139, Tryz.ntmps139
  go_wp2_with fail
  go_ret
  exact ⟨rfl, (HB.out.alloc _).alloc _, (Eff.alloc _ _ _).trans (Eff.alloc _ _ _) (fun _ _ h => h)⟩
 ·have d1 : decide (c < 128) = false := decide_eq_false ha
  by_cases hbb : c < 2048
  ·have d2 : decide (c < 2048) = true := decide_eq_true hbb
   have hB : bytes8 c = [192 + c / 64, 128 + c % 64] := by unfold bytes8; rw [if_neg ha, if_pos hbb]
   rw [hB]
   have hT0 := fun W (h : W.cell? ⟨w.heap.size, 0, none⟩ = some (.int .u32 c)) => tail8_0 (w := W) h h0 hc1
   have HT0 := Lib.hid hT0
   clear hT0
   have e2 : bits .or .u8 192 (c / 64) = 192 + c / 64 := e8_or192 (by omega) (by omega)
   have e3 : IntKind.u8.wrap (c / 64) = c / 64 := by rw [IntKind.wrap_u8]; omega
   have hc := conv8d (w.alloc (.cells #[.int .u32 c] 48 (0, 0))) [192 + c / 64, 128 + c % 64] 2 (by simp)
   simp only [nums, List.map_cons, List.map_nil, List.length_cons, List.length_nil, Nat.zero_add, World.size_alloc] at hc
   go_enter Tryz.func139, Tryz.ntmps139
   go_wp2_with fail
   refine wp_region_still_tail 6 (by kernel_rfl) (by kernel_rfl) ?_
   simp only [List.take_succ_cons, List.take_zero, List.drop_succ_cons, List.drop_zero]
   change wpStill _ _ (w.alloc (.cells #[.int .u32 c] 48 (0, 0))).drew _ _ _
   have hc1 : (w.alloc (.cells #[.int .u32 c] 48 (0, 0))).drew.cell? ⟨w.heap.size, 0, none⟩ = some (.int .u32 c) := hc0
   still_step
   still_step
   still_step
   still_step
   still_step
   still_call (HT0.out _ hc1)
   refine wpStill_nil ?_
   change wpList _ _ _ _ _ (w.alloc (.cells #[.int .u32 c] 48 (0, 0))).drew
   go_wp2_with fail
   go_ret
   exact ⟨rfl, (HB.out.alloc _).alloc _, ((Eff.alloc w _ _).trans (Eff.alloc _ _ _) (fun _ _ h => h)).trans (Eff.drewN _ 1 _) (fun _ _ h => h)⟩
  ·have d2 : decide (c < 2048) = false := decide_eq_false hbb
   by_cases hcc : c < 65536
   ·have d3 : decide (c < 65536) = true := decide_eq_true hcc
    have hB : bytes8 c = [224 + c / 4096, 128 + c / 64 % 64, 128 + c % 64] := by unfold bytes8; rw [if_neg ha, if_neg hbb, if_pos hcc]
    rw [hB]
    have HT0 := Lib.hid (fun W (h : W.cell? ⟨w.heap.size, 0, none⟩ = some (.int .u32 c)) => tail8_0 (w := W) h h0 hc1)
    have HT1 := Lib.hid (fun W (h : W.cell? ⟨w.heap.size, 0, none⟩ = some (.int .u32 c)) => tail8_1 (w := W) h h0 hc1)
    have e2 : bits .or .u8 224 (c / 4096) = 224 + c / 4096 := e8_or224 (by omega) (by omega)
    have e3 : IntKind.u8.wrap (c / 4096) = c / 4096 := by rw [IntKind.wrap_u8]; omega
    have hc := conv8d (w.alloc (.cells #[.int .u32 c] 48 (0, 0))) [224 + c / 4096, 128 + c / 64 % 64, 128 + c % 64] 3 (by simp)
    simp only [nums, List.map_cons, List.map_nil, List.length_cons, List.length_nil, Nat.zero_add, World.size_alloc] at hc
    go_enter Tryz.func139, Tryz.ntmps139
    go_wp2_with fail
    refine wp_region_still_tail 8 (by kernel_rfl) (by kernel_rfl) ?_
    simp only [List.take_succ_cons, List.take_zero, List.drop_succ_cons, List.drop_zero]
    change wpStill _ _ (w.alloc (.cells #[.int .u32 c] 48 (0, 0))).drew _ _ _
    have hc1 : (w.alloc (.cells #[.int .u32 c] 48 (0, 0))).drew.cell? ⟨w.heap.size, 0, none⟩ = some (.int .u32 c) := hc0
    still_step
    still_step
    still_step
    still_step
    still_step
    still_call (HT1.out _ hc1)
    still_step
    still_call (HT0.out _ hc1)
    refine wpStill_nil ?_
    change wpList _ _ _ _ _ (w.alloc (.cells #[.int .u32 c] 48 (0, 0))).drew
    go_wp2_with fail
    go_ret
    exact ⟨rfl, (HB.out.alloc _).alloc _, ((Eff.alloc w _ _).trans (Eff.alloc _ _ _) (fun _ _ h => h)).trans (Eff.drewN _ 1 _) (fun _ _ h => h)⟩
   ·have d3 : decide (c < 65536) = false := decide_eq_false hcc
    have hB : bytes8 c = [240 + c / 262144, 128 + c / 4096 % 64, 128 + c / 64 % 64, 128 + c % 64] := by unfold bytes8; rw [if_neg ha, if_neg hbb, if_neg hcc]
    rw [hB]
    have HT0 := Lib.hid (fun W (h : W.cell? ⟨w.heap.size, 0, none⟩ = some (.int .u32 c)) => tail8_0 (w := W) h h0 hc1)
    have HT1 := Lib.hid (fun W (h : W.cell? ⟨w.heap.size, 0, none⟩ = some (.int .u32 c)) => tail8_1 (w := W) h h0 hc1)
    have HT2 := Lib.hid (fun W (h : W.cell? ⟨w.heap.size, 0, none⟩ = some (.int .u32 c)) => tail8_2 (w := W) h h0 hc1)
    have e2 : bits .or .u8 240 (c / 262144) = 240 + c / 262144 := e8_or240 (by omega) (by omega)
    have e3 : IntKind.u8.wrap (c / 262144) = c / 262144 := by rw [IntKind.wrap_u8]; omega
    have hc := conv8d (w.alloc (.cells #[.int .u32 c] 48 (0, 0))) [240 + c / 262144, 128 + c / 4096 % 64, 128 + c / 64 % 64, 128 + c % 64] 4 (by simp)
    simp only [nums, List.map_cons, List.map_nil, List.length_cons, List.length_nil, Nat.zero_add, World.size_alloc] at hc
    go_enter Tryz.func139, Tryz.ntmps139
    go_wp2_with fail
    refine wp_region_still_tail 10 (by kernel_rfl) (by kernel_rfl) ?_
    simp only [List.take_succ_cons, List.take_zero, List.drop_succ_cons, List.drop_zero]
    change wpStill _ _ (w.alloc (.cells #[.int .u32 c] 48 (0, 0))).drew _ _ _
    have hc1 : (w.alloc (.cells #[.int .u32 c] 48 (0, 0))).drew.cell? ⟨w.heap.size, 0, none⟩ = some (.int .u32 c) := hc0
    still_step
    still_step
    still_step
    still_step
    still_step
    still_call (HT2.out _ hc1)
    still_step
    still_call (HT1.out _ hc1)
    still_step
    still_call (HT0.out _ hc1)
    refine wpStill_nil ?_
    change wpList _ _ _ _ _ (w.alloc (.cells #[.int .u32 c] 48 (0, 0))).drew
    go_wp2_with fail
    go_ret
    exact ⟨rfl, (HB.out.alloc _).alloc _, ((Eff.alloc w _ _).trans (Eff.alloc _ _ _) (fun _ _ h => h)).trans (Eff.drewN _ 1 _) (fun _ _ h => h)⟩
end Go.Proofs.YtmgnndnofbemeaaGreat
namespace Go.Proofs.YtmgnndnofbemeaaGreat
open Go.RowKit Go.Proofs.YtmgnndnofbemeaaGreatW.PrintWords
set_option linter.unusedVariables false
set_option linter.unusedSimpArgs false
set_option maxRecDepth 100000 in
set_option maxHeartbeats 4000000 in
theorem feedE8 {w : World} {g : Nat} {F : Nat → Prop} {d : ESt E8} (A : Option Addr) (c : Nat) (l : List Int) (room : Int) (h : Rep8 w g F d) (hr : ReadsInt w .u32 A l.length l) (hs : l ≠ [] → ∀ ad, A = some ad → ¬ F ad.block)
  (hsc : ∀ x ∈ l, 0 ≤ x) (hp : d.pos + l.length ≤ 1000000) (hk : d.kept.length ≤ 10000000) (hroom : -1000000000 ≤ room ∧ room ≤ 9223372036854775807) :
  Calls Tryz.prog 132 #[.pointer (some ⟨g, 0, none⟩), .slice A l.length c, .int .i64 room] w fun e w' => ∃ F', e = .returned (.tuple #[.int .i64 (feedE E8 room l (d.drop (giveZ room d.kept.length)) (d.kept.take (giveZ room d.kept.length))).1,
    .string (strOf (feedE E8 room l (d.drop (giveZ room d.kept.length)) (d.kept.take (giveZ room d.kept.length))).2.1)]) ∧
   Rep8 w' g F' (feedE E8 room l (d.drop (giveZ room d.kept.length)) (d.kept.take (giveZ room d.kept.length))).2.2 ∧ Eff w w' F ∧ (∀ k, F' k → F k ∨ w.heap.size ≤ k) := by
 obtain ⟨hb, hF⟩ := h
 obtain ⟨d0, hd0⟩ : ∃ d0, d.drop (giveZ room d.kept.length) = d0 := ⟨_, rfl⟩
 obtain ⟨o0, ho0⟩ : ∃ o0, d.kept.take (giveZ room d.kept.length) = o0 := ⟨_, rfl⟩
 have ho0l : o0.length ≤ 10000000 := by rw [← ho0, List.length_take]; omega
 have hd0k : d0.kept.length ≤ 10000000 := by rw [← hd0]; show (d.kept.drop _).length ≤ _; rw [List.length_drop]; omega
 have hd0p : d0.pos = d.pos := by rw [← hd0]; rfl
 have hg0 := give_l (room := room) (xs := d.kept) (o := 4) hb rfl
 rw [ho0] at hg0
 have hb0 : Blk (w.setCell ⟨g, 4, none⟩ (.string (strOf (d.kept.drop (giveZ room d.kept.length))))) g T8 (Cs8 d0) := by rw [← hd0]; exact hb.set 4 _
 have he0 : Eff w (w.setCell ⟨g, 4, none⟩ (.string (strOf (d.kept.drop (giveZ room d.kept.length))))) (fun k => k = g) := Eff.set _ _ _ _
 obtain ⟨w0, hw0⟩ : ∃ w0, w.setCell ⟨g, 4, none⟩ (.string (strOf (d.kept.drop (giveZ room d.kept.length)))) = w0 := ⟨_, rfl⟩
 rw [hw0] at hg0 hb0 he0
 rw [hd0, ho0]
 have hsg : l ≠ [] → ∀ ad, A = some ad → ad.block ≠ g := fun hne ad had e => hs hne ad had ((hF _).2 e)
 have HR0 := Lib.hid hr
 have HSG := Lib.hid hsg
 have HB0 := Lib.hid hb0
 have HE0 := Lib.hid he0
 have HFF := Lib.hid hF
 have HSC := Lib.hid hsc
 have HLEN := Lib.hid (And.intro ho0l (And.intro hd0k (And.intro hd0p hp)))
 have HG0 := Lib.hid hg0
 clear hb hr hs hsg hb0 he0 hF hsc hw0 ho0l hd0k hd0p hp hg0 hd0 ho0 hk
 go_enter Tryz.func132, Tryz.ntmps132
 go_upto_block 0 with (go_at_call 135; refine HG0.out.mono ?_; rintro e w' ⟨rfl, rfl⟩)
 go_cut [8, 9] (fun s8 s9 wx => ∃ (k : Nat) (D : ESt E8) (o : List Int), s8 = .string (strOf o) ∧ s9 = .int .i64 k ∧ Hid (feedE E8 room l d0 o0 = (k, o, D)) ∧ Hid (Blk wx g T8 (Cs8 D)) ∧ Hid (Eff w wx (fun k => k = g)))
 case first =>
  go_wp2_with fail
  go_loopg [8, 9] l.length (fun kq s8 s9 wx => ∃ (k : Nat) (D : ESt E8) (o : List Int), s8 = .string (strOf o) ∧ s9 = .int .i64 k ∧ Hid (kq = l.length - k) ∧ Hid (FE E8 4 room l d0 o0 k D o) ∧ Hid (Blk wx g T8 (Cs8 D)) ∧ Hid (Eff w wx (fun k => k = g)))
  case atStart => exact ⟨0, d0, o0, rfl, rfl, Lib.hid rfl, Lib.hid (FE.start _ _ _ _ _ _), HB0, HE0⟩
  case round =>
   obtain ⟨k, D, o, rfl, rfl, HK, HFE, HB, HE⟩ := hrel
   have hk0 : (0 : Int) ≤ (k : Int) := by omega
   have HEW := HE
   by_cases hk : k < l.length
   ·have hk1 : (k : Int) < (l.length : Int) := by omega
    by_cases hkp : D.kept = []
    ·have hkept := kept_l (xs := D.kept) (o := 4) HB.out rfl
     rw [hkp, List.length_nil] at hkept
     have HKP := Lib.hid hkp
     have HKT := Lib.hid hkept
     clear hkept hkp
     by_cases hgo : D.err = 0 ∧ D.en = false
     ·have HGO := Lib.hid hgo
      have HGC := Lib.hid (going_yes HB.out (by show some (Value.int .i64 D.err) = _; rw [hgo.1]) (by show some (Value.bool D.en) = _; rw [hgo.2]))
      clear hgo
      obtain ⟨ad, rfl, hcell⟩ := ReadsInt.at_ (reads_eff HR0.out HE.out (fun hne ad had e => HSG.out hne ad had e)) (k : Int) hk0 hk1
      rw [Int.toNat_natCast, show rd l (k : Int) = l.getD k 0 by simp [rd]] at hcell
      obtain ⟨x, hx⟩ : ∃ x, l.getD k 0 = x := ⟨_, rfl⟩
      rw [hx] at hcell
      have HX := Lib.hid hx
      clear hx
      by_cases hsx : isScal x = true
      ·have HSX := Lib.hid hsx
       have HIS := Lib.hid (scal_c x wr)
       have hsc1 : ∀ w1, Below wr.heap.size wr w1 → True := fun _ _ => trivial
       clear hsc1
       go_upto_region 6 with (first
        | (go_at_call 133; refine HKT.out.mono ?_; rintro e w1 ⟨rfl, rfl⟩)
        | (go_at_call 134; refine HGC.out.mono ?_; rintro e w1 ⟨rfl, rfl⟩)
        | (go_at_call 136; refine HIS.out.mono ?_; rw [hsx]; rintro e w1 ⟨rfl, hb1⟩))
       have HB1 := Lib.hid (HB.out.below hb1)
       have HE1 := Lib.hid (HEW.out.trans (Eff.of_below hb1 _) (fun _ _ h => h))
       have hc1 : w1.cell? (ad.add k) = some (.int .u32 x) := (hb1.cell (World.block_lt_of_cell? wr _ hcell)).trans hcell
       clear hb1 hcell
       have hxk : 0 ≤ x := HSC.out x (by rw [← HX.out, List.getD_eq_getElem?_getD, List.getElem?_eq_getElem hk]; exact List.getElem_mem hk)
       have hby := fun W (hW : Blk W g T8 (Cs8 D) ∧ Eff w1 W (fun k => k = g)) => bytes8_c (d := D) hW.1 x hxk hsx
       have hbl := bytes8_len D.st x
       obtain ⟨P, hP⟩ : ∃ P, (E8).put D.st x = P := ⟨_, rfl⟩
       rw [hP] at hby hbl
       obtain ⟨sx, B⟩ := P
       simp only at hby hbl
       have HPP := Lib.hid hP
       have HBY := Lib.hid hby
       have HFE1 := Lib.hid (HFE.out.eat bytes8_len hk ⟨HKP.out, HGO.out⟩ (by rw [HX.out]; exact hsx))
       clear hby hP
       go_cut [] (fun wx => Hid (Blk wx g T8 (Cs8 { D with kept := B, st := sx }) ∧ Eff w wx (fun k => k = g)))
       case first =>
        go_region_with (first
         | (go_at_call 139; refine (HBY.out _ (by first | exact ⟨HB1.out, Eff.refl _ _⟩ | exact ⟨HB1.out, Eff.drewN _ 1 _⟩)).mono ?_; rintro e w3 ⟨rfl, hb3, he3⟩; have HB3 : Hid (Blk w3 g T8 (Cs8 { D with st := sx }) ∧ Eff w1 w3 (fun k => k = g)) := Lib.hid ⟨hb3, (by first | exact he3 | exact (Eff.drewN w1 1 _).trans he3 (fun _ _ h => h))⟩; clear hb3 he3)
         | (go_at_call 138; refine (keep_l (o := 4) (xs := D.kept) (ys := B) HB3.out.1 rfl (by rw [HKP.out, List.length_nil]; omega)).mono ?_; rintro e w4 ⟨rfl, rfl⟩))
        all_goals (go_wp2_with fail; go_meet)
        all_goals exact Lib.hid ⟨by rw [HKP.out, List.nil_append]; exact HB3.out.1.set 4 _, (HE1.out.trans HB3.out.2 (fun _ _ h => h)).trans (Eff.set _ _ _ _) (fun _ _ h => h)⟩
       case rest =>
        have HB6 := Lib.hid hcut.out.1
        have HE6 := Lib.hid hcut.out.2
        clear hcut HB1 HE1 hc1
        have HEAT := Lib.hid (eat_c (n := D.pos) HB6.out rfl (by show some (Value.int .i64 D.err) = _; rw [HGO.out.1]) (by show some (Value.bool D.en) = _; rw [HGO.out.2]) (by omega) (by have := HFE.out.pos; have := HFE.out.le; have := HLEN.out; omega))
        obtain ⟨m, hm⟩ : ∃ m, giveZ (room - o.length) B.length = m := ⟨_, rfl⟩
        have HFE2 : Hid (FE E8 4 room l d0 o0 (k + 1) { D with pos := D.pos + 1, kept := B.drop m, st := sx } (o ++ B.take m)) := by
         have h := HFE1.out
         rw [HX.out, HPP.out] at h
         simp only [hm] at h
         exact Lib.hid h
        have HB7 : Hid (Blk (wc.setCell ⟨g, 0, none⟩ (.int .i64 ((D.pos : Int) + 1))) g T8 (Cs8 { D with pos := D.pos + 1, kept := B, st := sx })) := by
         refine Lib.hid ?_
         show Blk _ g T8 #[.int .i64 ((D.pos + 1 : Nat) : Int), .int .i64 D.err, .int .i64 D.fat, .bool D.en, .string (strOf B)]
         rw [Int.natCast_add]
         exact HB6.out.set 0 _
        have HGV : Hid (Calls Tryz.prog 135 #[.pointer (some ⟨g, 4, none⟩), .int .i64 (room - o.length)] (wc.setCell ⟨g, 0, none⟩ (.int .i64 ((D.pos : Int) + 1))) fun e w' => e = .returned (.string (strOf (B.take m))) ∧ w' = (wc.setCell ⟨g, 0, none⟩ (.int .i64 ((D.pos : Int) + 1))).setCell ⟨g, 4, none⟩ (.string (strOf (B.drop m)))) := by
         have h := give_l (room := room - o.length) (xs := B) (o := 4) HB7.out rfl
         rw [hm] at h
         exact Lib.hid h
        have hso : (strOf o).size = o.length := strOf_size o
        have hol : o.length ≤ 20000000 := by have := HFE.out.out; have := HLEN.out.1; have := HLEN.out.2.2.2; omega
        obtain ⟨T, hT⟩ : ∃ T, B.take m = T := ⟨_, rfl⟩
        have hTl : T.length ≤ 4 := by rw [← hT, List.length_take]; omega
        have hst : (strOf T).size = T.length := strOf_size T
        have HTT := Lib.hid hT
        rw [hT] at HGV
        have hkb : (k : Int) ≤ 1000000 := by have := HLEN.out.2.2.2; omega
        have hr1 := hroom.1
        have hr2 := hroom.2
        clear hm hT hbl
        go_wp2_with (first
         | (go_at_call 140; refine HEAT.out.mono ?_; rintro e w5 ⟨rfl, rfl⟩)
         | (go_at_call 135; refine HGV.out.mono ?_; rintro e w5 ⟨rfl, rfl⟩))
        go_roundg (l.length - (k + 1))
        case measure => have := HK.out; omega
        case rel =>
         refine ⟨k + 1, _, o ++ B.take m, by rw [strOf_append, HTT.out], by go_num, Lib.hid rfl, HFE2, ?_, ?_⟩
         ·exact Lib.hid (HB7.out.set 4 _)
         ·exact Lib.hid ((HE6.out.trans (Eff.set _ _ _ _) (fun _ _ h => h)).trans (Eff.set _ _ _ _) (fun _ _ h => h))
      ·have hsx0 : isScal x = false := by simpa using hsx
       have HIS := Lib.hid (scal_c x wr)
       have HST := Lib.hid (fun w1 (hb1 : Below wr.heap.size wr w1) => stop_c (err := 2) (n := D.pos) (z := D.fat) (by decide) (HB.out.below hb1) rfl (by show some (Value.int .i64 D.err) = _; rw [HGO.out.1]) rfl (by show some (Value.bool D.en) = _; rw [HGO.out.2]))
       go_upto_region 5 with (first
        | (go_at_call 133; refine HKT.out.mono ?_; rintro e w1 ⟨rfl, rfl⟩)
        | (go_at_call 134; refine HGC.out.mono ?_; rintro e w1 ⟨rfl, rfl⟩)
        | (go_at_call 136; refine HIS.out.mono ?_; rw [hsx0]; rintro e w1 ⟨rfl, hb1⟩))
       have HS1 := Lib.hid (HST.out w1 hb1)
       have HB1 := Lib.hid (HB.out.below hb1)
       have HE1 := Lib.hid (HEW.out.trans (Eff.of_below hb1 _) (fun _ _ h => h))
       clear hb1
       go_wp2_with (go_at_call 137; refine HS1.out.mono ?_; rintro e w2 ⟨rfl, rfl⟩)
       go_meet
       refine ⟨k, _, o, rfl, rfl, Lib.hid (HFE.out.bad0 rfl hk ⟨HKP.out, HGO.out⟩ (by rw [HX.out]; exact hsx0)), Lib.hid ((HB1.out.set 1 (.int .i64 2)).set 2 (.int .i64 D.pos)), Lib.hid ((HE1.out.trans (Eff.set _ _ _ _) (fun _ _ h => h)).trans (Eff.set _ _ _ _) (fun _ _ h => h))⟩
     ·have HGO := Lib.hid hgo
      have HGC := Lib.hid (going_c (err := D.err) (en := D.en) HB.out rfl rfl)
      have hgf : (D.err == 0 && !D.en) = false := by
       rcases Bool.eq_false_or_eq_true (D.err == 0 && !D.en) with h | h
       ·simp at h; exact absurd h hgo
       ·exact h
      rw [hgf] at HGC
      clear hgo hgf
      go_wp2_with (first
        | (go_at_call 133; refine HKT.out.mono ?_; rintro e w1 ⟨rfl, rfl⟩)
        | (go_at_call 134; refine HGC.out.mono ?_; rintro e w1 ⟨rfl, rfl⟩))
      go_meet
      exact ⟨k, D, o, rfl, rfl, Lib.hid (HFE.out.stop (fun h => HGO.out h.2)), HB, HEW⟩
    ·have hkept := kept_l (xs := D.kept) (o := 4) HB.out rfl
     have hz : ((D.kept.length : Int) == 0) = false := by simpa using hkp
     have HKP := Lib.hid hkp
     have HKT := Lib.hid hkept
     clear hkept hkp
     go_wp2_with (go_at_call 133; refine HKT.out.mono ?_; rintro e w1 ⟨rfl, rfl⟩)
     go_meet
     exact ⟨k, D, o, rfl, rfl, Lib.hid (HFE.out.stop (fun h => HKP.out h.1)), HB, HEW⟩
   ·have hk1 : ¬ (k : Int) < (l.length : Int) := by omega
    have HKK := Lib.hid hk
    clear hk
    go_wp2_with fail
    go_meet
    exact ⟨k, D, o, rfl, rfl, Lib.hid (HFE.out.all HKK.out), HB, HEW⟩
 case rest =>
  obtain ⟨k, D, o, rfl, rfl, HFE, HB, HE⟩ := hcut
  go_wp2_with fail
  refine bodyPost_ret (v := .tuple #[.int .i64 k, .string (strOf o)]) (by simp [results, Tryz.results132, go_sem]) rfl ?_
  rw [HFE.out]
  exact ⟨fun k => k = g, rfl, ⟨HB.out, fun _ => Iff.rfl⟩, HE.out.mono (fun k _ h => (HFF.out k).2 h), fun k h => .inl ((HFF.out k).2 h)⟩
end Go.Proofs.YtmgnndnofbemeaaGreat
namespace Go.Proofs.YtmgnndnofbemeaaGreat
open Go.RowKit Go.Proofs.YtmgnndnofbemeaaGreatW.PrintWords
set_option linter.unusedVariables false
set_option linter.unusedSimpArgs false
theorem fin8 {w : World} {g : Nat} {F : Nat → Prop} {d : ESt E8} (h : Rep8 w g F d) :
  Calls Tryz.prog 130 #[.pointer (some ⟨g, 0, none⟩)] w fun e w' => ∃ F', e = .returned (.tuple #[]) ∧ Rep8 w' g F' (endE E8 d) ∧ Eff w w' F ∧ (∀ k, F' k → F k ∨ w.heap.size ≤ k) := by
 obtain ⟨hb, hF⟩ := h
 unfold endE
 by_cases hg : d.err = 0 ∧ d.en = false
 ·rw [if_pos hg]
  refine (end_c hb (by show some (Value.int .i64 d.err) = _; rw [hg.1]) (by show some (Value.bool d.en) = _; rw [hg.2])).mono ?_
  rintro e w' ⟨rfl, rfl⟩
  refine ⟨F, rfl, ⟨?_, hF⟩, (Eff.set _ _ _ _).mono (fun k _ h => (hF k).2 h), fun k h => .inl h⟩
  have h2 := hb.set 3 (.bool true)
  show Blk _ g T8 #[.int .i64 d.pos, .int .i64 d.err, .int .i64 d.fat, .bool true, .string (strOf (d.kept ++ []))]
  rw [List.append_nil]
  exact h2
 ·rw [if_neg hg]
  refine (end_not (err := d.err) (en := d.en) hb rfl rfl (by
   rcases Bool.eq_false_or_eq_true (d.err == 0 && !d.en) with h | h
   ·simp at h; exact absurd h hg
   ·exact h)).mono ?_
  rintro e w' ⟨rfl, rfl⟩
  exact ⟨F, rfl, ⟨hb, hF⟩, Eff.refl _ _, fun k h => .inl h⟩
theorem k8 : EncK 86 132 130 E8 Rep8 where
 invF := by intro n g x y w; kernel_rfl
 invE := by intro n g w; kernel_rfl
 invD := by intro n g w; kernel_rfl
 invW := by intro n g w; kernel_rfl
 lt h k hk := by rw [(h.2 k).1 hk]; exact h.1.lt
 eff h he hs := ⟨h.1.eff he (hs _ ((h.2 _).2 rfl)), h.2⟩
 feed A c l room h hr hs hsc hp hk hroom := feedE8 A c l room h hr hs hsc hp hk hroom
 fin h _ _ := fin8 h
 done h := outdone_c h.1 rfl rfl rfl
 blk h := ⟨T8, _, by decide, by decide, h.1, rfl, rfl⟩
theorem new8 (w : World) : Calls Tryz.prog 36 #[] w fun e w' => e = .returned (.pointer (some ⟨w.heap.size, 0, none⟩)) ∧ w' = w.alloc (.cells (Cs8 (ESt.new E8)) T8 (0, 0)) := by
 go_enter Tryz.func36, Tryz.ntmps36
 go_wp2_with fail
 go_ret
 exact ⟨rfl, rfl⟩
theorem new8_rep (w : World) : Rep8 (w.alloc (.cells (Cs8 (ESt.new E8)) T8 (0, 0))) w.heap.size (fun k => k = w.heap.size) (ESt.new E8) := ⟨Blk.new w _ _, fun _ => Iff.rfl⟩
set_option maxRecDepth 100000 in
theorem newE1 : NewE 1 86 E8 Rep8 := by
 intro w
 go_enter Tryz.func16, Tryz.ntmps16
 go_wp2_with (go_at_call 36; refine (new8 _).mono ?_; rintro e w' ⟨rfl, rfl⟩)
 refine bodyPost_ret (v := .tuple #[.iface 86 (.pointer (some ⟨w.heap.size, 0, none⟩)), .int .i64 0]) (by simp [results, Tryz.results16, go_sem]) rfl ?_
 exact ⟨_, _, rfl, below_new (Below.refl _ _) _, new8_rep w, fun k hk => Nat.le_of_eq hk.symm⟩
end Go.Proofs.YtmgnndnofbemeaaGreat
namespace Go.Proofs.YtmgnndnofbemeaaGreat
set_option linter.unusedVariables false
set_option linter.unusedSimpArgs false
def bytesE (E : EMach) : E.St → List Int → List Int
 | st, [] => E.fin st
 | st, c :: r => (E.put st c).2 ++ bytesE E (E.put st c).1 r
def AllS (l : List Int) : Prop := ∀ x ∈ l, 0 ≤ x ∧ isScal x = true
theorem runE_ok (E : EMach) : ∀ (l : List Int) (st : E.St) (p : Nat) (acc : List Int), AllS l → runE E st l p acc = (acc ++ bytesE E st l, 0, 0)
 | [], st, p, acc, h => rfl
 | c :: r, st, p, acc, h => by
  rw [runE, if_pos (h c (List.mem_cons_self ..)).2, runE_ok E r _ _ _ (fun x hx => h x (List.mem_cons_of_mem _ hx)), bytesE, List.append_assoc]
def BackM (E : EMach) (D : DMach) : Prop := ∀ l, AllS l → runD D D.ini (bytesE E E.ini l) 0 [] = (l, 0, 0)
structure SimM (E : EMach) (D : DMach) (I : E.St → D.St → List Int → Prop) : Prop where
 ini : I E.ini D.ini []
 put : ∀ st s pd c, I st s pd → 0 ≤ c → isScal c = true → ∃ s' pd' told, pd ++ [c] = told ++ pd' ∧ I (E.put st c).1 s' pd' ∧ ∀ rest p acc, ∃ q, runD D s ((E.put st c).2 ++ rest) p acc = runD D s' rest q (acc ++ told)
 fin : ∀ st s pd, I st s pd → ∀ p acc, runD D s (E.fin st) p acc = (acc ++ pd, 0, 0)
theorem SimM.back {E : EMach} {D : DMach} {I : E.St → D.St → List Int → Prop} (h : SimM E D I) : BackM E D := by
 have key : ∀ (l : List Int) (st : E.St) (s : D.St) (pd : List Int), I st s pd → AllS l → ∀ p acc, runD D s (bytesE E st l) p acc = (acc ++ (pd ++ l), 0, 0) := by
  intro l
  induction l with
  | nil => intro st s pd hi _ p acc; rw [bytesE, h.fin st s pd hi, List.append_nil]
  | cons c r ih =>
   intro st s pd hi hl p acc
   have hc := hl c (List.mem_cons_self ..)
   obtain ⟨s', pd', told, e, hi', hr⟩ := h.put st s pd c hi hc.1 hc.2
   obtain ⟨q, hq⟩ := hr (bytesE E (E.put st c).1 r) p acc
   rw [bytesE, hq, ih _ _ _ hi' (fun x hx => hl x (List.mem_cons_of_mem _ hx)), show pd ++ c :: r = (pd ++ [c]) ++ r by simp, e]
   simp
 intro l hl
 have := key l E.ini D.ini [] h.ini hl 0 []
 simpa using this
theorem runD_some {D : DMach} {s s' : D.St} {b : Int} {k : List Int} (h : D.next s b = some (s', k)) (r : List Int) (p : Nat) (acc : List Int) : runD D s (b :: r) p acc = runD D s' r (p + 1) (acc ++ k) := by
 rw [runD, h]
theorem sim_plain {E : EMach} {D : DMach} (J : D.St → Prop) (h0 : J D.ini) (hp : ∀ st s c, J s → 0 ≤ c → isScal c = true → ∃ s', J s' ∧ ∀ rest p acc, ∃ q, runD D s ((E.put st c).2 ++ rest) p acc = runD D s' rest q (acc ++ [c])) (hf : ∀ st, E.fin st = []) (hd : ∀ s, J s → D.fin s = some []) :
  SimM E D (fun _ s pd => J s ∧ pd = []) where
 ini := ⟨h0, rfl⟩
 put st s pd c hi h0 h1 := by
  obtain ⟨hj, rfl⟩ := hi
  obtain ⟨s', hs', hr⟩ := hp st s c hj h0 h1
  exact ⟨s', [], [c], rfl, ⟨hs', rfl⟩, hr⟩
 fin st s pd hi p acc := by
  obtain ⟨hj, rfl⟩ := hi
  rw [hf, runD, hd s hj]
theorem back8 : BackM E8 DV := by
 refine (sim_plain (fun s : V8 => s.need = 0) rfl (fun st s c hj h0 h1 => ?_) (fun _ => rfl) (fun s hs => by show (if s.need = 0 then some [] else none) = _; rw [if_pos hs])).back
 have hc1 : c ≤ 1114111 := by unfold isScal at h1; simp at h1; omega
 have hsur : ¬ (55296 ≤ c ∧ c ≤ 57343) := by unfold isScal at h1; simp at h1; omega
 show ∃ s' : V8, s'.need = 0 ∧ ∀ rest p acc, ∃ q, runD DV s (bytes8 c ++ rest) p acc = runD DV s' rest q (acc ++ [c])
 have n1 : ∀ (lo hi cc b : Int), lo ≤ b → b ≤ hi → DV.next (⟨1, lo, hi, cc⟩ : V8) b = some ((⟨0, 128, 191, cc * 64 + b % 64⟩ : V8), [cc * 64 + b % 64]) := fun lo hi cc b g1 g2 => by
  show nextV ⟨1, lo, hi, cc⟩ b = some (⟨0, 128, 191, cc * 64 + b % 64⟩, [cc * 64 + b % 64])
  unfold nextV
  rw [if_neg (show ¬ ((1 : Int) = 0) by decide), if_neg (by show ¬ (b < lo ∨ hi < b); omega), if_pos rfl]
 have nn : ∀ (n lo hi cc b : Int), 2 ≤ n → lo ≤ b → b ≤ hi → DV.next (⟨n, lo, hi, cc⟩ : V8) b = some ((⟨n - 1, 128, 191, cc * 64 + b % 64⟩ : V8), []) := fun n lo hi cc b g0 g1 g2 => by
  show nextV ⟨n, lo, hi, cc⟩ b = some (⟨n - 1, 128, 191, cc * 64 + b % 64⟩, [])
  unfold nextV
  rw [if_neg (by show ¬ n = 0; omega), if_neg (by show ¬ (b < lo ∨ hi < b); omega), if_neg (by show ¬ n = 1; omega)]
 unfold bytes8
 by_cases a1 : c < 128
 ·rw [if_pos a1]
  refine ⟨s, hj, fun rest p acc => ⟨p + 1, runD_some (D := DV) (s' := s) ?_ rest p acc⟩⟩
  show nextV s c = some (s, [c])
  unfold nextV
  rw [if_pos hj, if_pos a1]
  rfl
 ·rw [if_neg a1]
  have lead : ∀ b, 194 ≤ b → b ≤ 244 → DV.next s b = some ((⟨if b < 224 then 1 else if b < 240 then 2 else 3, if b = 224 then 160 else if b = 240 then 144 else 128, if b = 237 then 159 else if b = 244 then 143 else 191, if b < 224 then b % 32 else if b < 240 then b % 16 else b % 8⟩ : V8), []) := fun b g1 g2 => by
   show nextV s b = some (⟨if b < 224 then 1 else if b < 240 then 2 else 3, if b = 224 then 160 else if b = 240 then 144 else 128, if b = 237 then 159 else if b = 244 then 143 else 191, if b < 224 then b % 32 else if b < 240 then b % 16 else b % 8⟩, [])
   unfold nextV leadV
   rw [if_pos hj, if_neg (by omega), if_neg (by omega)]
  by_cases a2 : c < 2048
  ·rw [if_pos a2]
   refine ⟨(⟨0, 128, 191, c⟩ : V8), rfl, fun rest p acc => ⟨p + 1 + 1, ?_⟩⟩
   ·rw [List.cons_append, List.cons_append, List.nil_append, runD_some (lead _ (by omega) (by omega)), if_pos (by omega), if_neg (by omega), if_neg (by omega), if_neg (by omega), if_neg (by omega), if_pos (by omega), runD_some (n1 _ _ _ _ (by omega) (by omega)), List.append_nil, show (192 + c / 64) % 32 * 64 + (128 + c % 64) % 64 = c by omega]
  ·rw [if_neg a2]
   by_cases a3 : c < 65536
   ·rw [if_pos a3]
    refine ⟨(⟨0, 128, 191, c⟩ : V8), rfl, fun rest p acc => ⟨p + 1 + 1 + 1, ?_⟩⟩
    ·rw [List.cons_append, List.cons_append, List.cons_append, List.nil_append, runD_some (lead _ (by omega) (by omega)), if_neg (by omega), if_pos (by omega), if_neg (show ¬ 224 + c / 4096 < 224 by omega), if_pos (show 224 + c / 4096 < 240 by omega), if_neg (show ¬ 224 + c / 4096 = 240 by omega), if_neg (show ¬ 224 + c / 4096 = 244 by omega)]
     rw [runD_some (nn _ _ _ _ _ (by omega) (by split <;> omega) (by split <;> omega)), show (2 : Int) - 1 = 1 from rfl, runD_some (n1 _ _ _ _ (by omega) (by omega)), List.append_nil, List.append_nil, show ((224 + c / 4096) % 16 * 64 + (128 + c / 64 % 64) % 64) * 64 + (128 + c % 64) % 64 = c by omega]
   ·rw [if_neg a3]
    refine ⟨(⟨0, 128, 191, c⟩ : V8), rfl, fun rest p acc => ⟨p + 1 + 1 + 1 + 1, ?_⟩⟩
    ·rw [List.cons_append, List.cons_append, List.cons_append, List.cons_append, List.nil_append, runD_some (lead _ (by omega) (by omega)), if_neg (show ¬ 240 + c / 262144 < 224 by omega), if_neg (show ¬ 240 + c / 262144 < 240 by omega), if_neg (show ¬ 240 + c / 262144 < 224 by omega), if_neg (show ¬ 240 + c / 262144 < 240 by omega), if_neg (show ¬ 240 + c / 262144 = 224 by omega), if_neg (show ¬ 240 + c / 262144 = 237 by omega)]
     rw [runD_some (nn _ _ _ _ _ (by omega) (by split <;> omega) (by split <;> omega)), show (3 : Int) - 1 = 2 from rfl, runD_some (nn _ _ _ _ _ (by omega) (by omega) (by omega)), show (2 : Int) - 1 = 1 from rfl, runD_some (n1 _ _ _ _ (by omega) (by omega)), List.append_nil, List.append_nil, List.append_nil, show (((240 + c / 262144) % 8 * 64 + (128 + c / 4096 % 64) % 64) * 64 + (128 + c / 64 % 64) % 64) * 64 + (128 + c % 64) % 64 = c by omega]
end Go.Proofs.YtmgnndnofbemeaaGreat
namespace Go.Proofs.YtmgnndnofbemeaaGreat
open Go.RowKit Go.Proofs.YtmgnndnofbemeaaGreatW.PrintWords Go.Proofs.YtmgnndnofbemeaaGreatW.PrintLast Go.Proofs.YtmgnndnofbemeaaGreatW.PrintMore Go.Proofs.YtmgnndnofbemeaaGreat.PPu
set_option linter.unusedVariables false
set_option linter.unusedSimpArgs false
def firF (l : List Int) : Int := match l.findIdx? (fun c => !isScal c) with | some i => (i : Int) | none => -1
theorem is_f (c : Int) (h0 : 0 ≤ c) : pilcrowref01_Is.f c = some (isScal c) := by
 unfold pilcrowref01_Is.f isScal
 by_cases a : 55296 ≤ c
 ·rw [if_pos a]
  by_cases b : c ≤ 57343
  ·rw [if_pos b, decide_eq_true a, decide_eq_true b]; simp
  ·rw [if_neg b, decide_eq_true a, decide_eq_false b]; simp
 ·rw [if_neg a, decide_eq_false a]; simp
theorem fir_l0 (l : List Int) (hl : l.length ≤ 1000000) (h0 : ∀ y ∈ l, 0 ≤ y) : ∀ (m i k : Nat), i + m = l.length → m + 1 ≤ k → pilcrowref01_First.l0 k l i = some (match (l.drop i).findIdx? (fun c => !isScal c) with | some j => ((i + j : Nat) : Int) | none => -1)
 | 0, i, k, hi, hk => by
  obtain ⟨k, rfl⟩ : ∃ j, k = j + 1 := ⟨k - 1, by omega⟩
  rw [pilcrowref01_First.l0, if_neg (by omega), List.drop_eq_nil_of_le (by omega)]
  rfl
 | m + 1, i, k, hi, hk => by
  obtain ⟨k, rfl⟩ : ∃ j, k = j + 1 := ⟨k - 1, by omega⟩
  have hm : l.getD i 0 ∈ l := by rw [List.getD_eq_getElem?_getD, List.getElem?_eq_getElem (by omega)]; exact List.getElem_mem _
  have hd : l.drop i = l.getD i 0 :: l.drop (i + 1) := drop_cons l i (by omega)
  have hr : rd l (i : Int) = l.getD i 0 := by simp [rd]
  rw [pilcrowref01_First.l0, if_pos (by omega), if_pos (by omega), hr, is_f _ (h0 _ hm), Option.bind_some, hd, List.findIdx?_cons]
  cases hs : isScal (l.getD i 0) with
  | true =>
   rw [if_pos rfl, wrap64_in (by omega) (by omega), show ((i : Int) + 1) = ((i + 1 : Nat) : Int) by omega, fir_l0 l hl h0 m (i + 1) k (by omega) (by omega)]
   simp only [Bool.not_true, Bool.false_eq_true, if_false]
   cases (l.drop (i + 1)).findIdx? (fun c => !isScal c) with
   | none => rfl
   | some j => simp only [Option.map_some]; rw [show i + 1 + j = i + (j + 1) by omega]
  | false =>
   rw [if_neg (by decide)]
   simp
theorem fir_c (A : Option Addr) (c : Nat) (l : List Int) (w : World) (h : ReadsInt w .u32 A l.length l) (hc : l.length ≤ c) (hl : l.length ≤ 1000000) (h0 : ∀ y ∈ l, 0 ≤ y) :
  Calls Tryz.prog 12 #[.slice A l.length c] w fun e w' => e = .returned (.int .i64 (firF l)) ∧ Below w.heap.size w w' := by
 have h1 := fir_l0 l hl h0 l.length 0 (l.length + 1) (by omega) (Nat.le_refl _)
 rw [List.drop_zero] at h1
 have h2 : pilcrowref01_First.f (l.length + 1) l = some (firF l) := by
  unfold pilcrowref01_First.f firF
  rw [show (0 : Int) = ((0 : Nat) : Int) from rfl, h1]
  cases l.findIdx? (fun c => !isScal c) with
  | none => rfl
  | some j => simp
 refine (pilcrowref01_First.calls (l.length + 1) A c l (firF l) w (Kd.C_of_reads (d := (0 : Int)) h) hc h2).mono ?_
 rintro e w' ⟨rfl, ⟨nd, rfl⟩⟩
 exact ⟨rfl, below_drewN' (Below.refl _ _) nd⟩
theorem fir_no {l : List Int} (h : firF l < 0) (h0 : ∀ y ∈ l, 0 ≤ y) : AllS l ∧ firF l = -1 := by
 unfold firF at h ⊢
 cases hf : l.findIdx? (fun c => !isScal c) with
 | some j => rw [hf] at h; dsimp only at h; omega
 | none =>
  refine ⟨fun x hx => ⟨h0 x hx, ?_⟩, rfl⟩
  have := List.findIdx?_eq_none_iff.1 hf x hx
  simpa using this
end Go.Proofs.YtmgnndnofbemeaaGreat
