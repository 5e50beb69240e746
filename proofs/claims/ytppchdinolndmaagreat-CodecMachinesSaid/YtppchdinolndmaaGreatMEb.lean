/- Joined texts: Eb, Kb. -/
import Derived.Test.YtppchdinolndmaaGreatMUstp
import Derived.Test.YtppchdinolndmaaGreatMBit
import Derived.StillTailTactics
import Derived.Deep.CutBlock
import Derived.Test.YtppchdinolndmaaGreatMEfg
namespace Go.Proofs.YtppchdinolndmaaGreat
open Go.RowKit Go.Proofs.YtppchdinolndmaaGreatW.PrintWords Go.Proofs.YtppchdinolndmaaGreatW.PrintLast Go.Proofs.YtppchdinolndmaaGreatW.PrintMore Go.Proofs.YtppchdinolndmaaGreat.PPd
set_option linter.unusedVariables false
set_option linter.unusedSimpArgs false
theorem place_tot (k : Nat) (d : Int) : ∃ a b t, diff_place.f (k + 1) d = some (a, b, t) ∧ 0 ≤ t ∧ t ≤ 3 := by
 have h : ∀ b, ∃ x y t, diff_place.j0 (k + 1) d b = some (x, y, t) ∧ 0 ≤ t ∧ t ≤ 3 := by
  intro b
  simp only [diff_place.j0]
  (repeat' split) <;> exact ⟨_, _, _, rfl, by decide, by decide⟩
 unfold diff_place.f
 split <;> exact h _
theorem byte_tot (k : Nat) (v : Int) : ∃ a b, diff_Byte.f (k + 1) v = some (a, b) := by
 have h : ∀ b, ∃ x y, diff_Byte.j0 (k + 1) v b = some (x, y) := by
  intro b
  simp only [diff_Byte.j0]
  (repeat' split) <;> exact ⟨_, _, rfl⟩
 unfold diff_Byte.f
 split <;> exact h _
theorem pack_loop : ∀ (n k : Nat) (x l : Int) (out : List Int), n < out.length → n + 2 ≤ k → n ≤ 10 → ∃ s : ByteArray, diff_Pack.l0 k x l out (n : Int) = some (s, true) ∧ s.size = out.length
 | 0, k, x, l, out, ho, hk, hn => by
  obtain ⟨k, rfl⟩ : ∃ j, k = j + 1 := ⟨k - 1, by omega⟩
  simp only [diff_Pack.l0]
  rw [if_neg (by decide), if_pos (by omega)]
  exact ⟨_, rfl, by rw [strOfNums_size, List.length_set]⟩
 | n + 1, k, x, l, out, ho, hk, hn => by
  obtain ⟨k, rfl⟩ : ∃ j, k = j + 2 := ⟨k - 2, by omega⟩
  have hw : wrap64 (((n + 1 : Nat) : Int) - 1) = (n : Int) := by unfold wrap64; omega
  simp only [diff_Pack.l0]
  rw [if_pos (by omega)]
  split
  ·obtain ⟨a, b, hab⟩ := byte_tot k (wrap64 (Int.tmod x 243 + 243))
   rw [hab]
   simp only [Option.bind_some]
   rw [if_pos (by omega), if_pos (by omega), hw]
   obtain ⟨s, h1, h2⟩ := pack_loop n (k + 1) _ l (out.set (((n + 1 : Nat) : Int)).toNat a) (by rw [List.length_set]; omega) (by omega) (by omega)
   exact ⟨s, h1, by rw [h2, List.length_set]⟩
  ·obtain ⟨a, b, hab⟩ := byte_tot k (Int.tmod x 243)
   rw [hab]
   simp only [Option.bind_some]
   rw [if_pos (by omega), if_pos (by omega), hw]
   obtain ⟨s, h1, h2⟩ := pack_loop n (k + 1) _ l (out.set (((n + 1 : Nat) : Int)).toNat a) (by rw [List.length_set]; omega) (by omega) (by omega)
   exact ⟨s, h1, by rw [h2, List.length_set]⟩
theorem pack_tot (d : Int) : ∃ (s : ByteArray) (b : Bool), diff_Pack.f 20 d = some (s, b) ∧ s.size ≤ 4 := by
 have h : ∀ b, ∃ (s : ByteArray) (r : Bool), diff_Pack.j0 20 d b = some (s, r) ∧ s.size ≤ 4 := by
  intro b
  simp only [diff_Pack.j0]
  split
  ·exact ⟨_, _, rfl, by decide⟩
  ·obtain ⟨x, y, t, hp, h0, h1⟩ := place_tot 18 d
   rw [hp]
   simp only [Option.bind_some]
   have hw : wrap64 (t + 1) = t + 1 := by unfold wrap64; omega
   rw [hw, if_pos (by omega), if_pos (by omega)]
   obtain ⟨s, h2, h3⟩ := pack_loop t.toNat 19 x y (List.replicate (t + 1).toNat 0) (by rw [List.length_replicate]; omega) (by omega) (by omega)
   rw [Int.toNat_of_nonneg h0] at h2
   exact ⟨s, true, h2, by rw [h3, List.length_replicate]; omega⟩
 unfold diff_Pack.f
 split <;> exact h _
def packB (d : Int) : List Int := bytesOf ((diff_Pack.f 20 d).getD (⟨#[]⟩, false)).1
theorem packB_len (d : Int) : (packB d).length ≤ 4 := by
 obtain ⟨s, b, h, h4⟩ := pack_tot d
 unfold packB
 rw [h, bytesOf_length]
 exact h4
theorem pack_c (d : Int) (w : World) : Calls Tryz.prog 154 #[.int .i64 d] w fun e w' => ∃ b, e = .returned (.tuple #[.string (strOf (packB d)), .bool b]) ∧ Below w.heap.size w w' := by
 obtain ⟨s, b, h, h4⟩ := pack_tot d
 have e : strOf (packB d) = s := by unfold packB; rw [h]; exact strOf_bytesOf s
 rw [e]
 exact (diff_Pack.calls 20 d s b w h).mono fun _ _ h => ⟨b, h.1, h.2⟩
abbrev SBo : Type := { p : Int // 0 ≤ p ∧ p ≤ 4294967295 }
def putBo (p : SBo) (c : Int) : SBo × List Int := if c ≤ 32 then (if c < 32 then ⟨64, by decide⟩ else p, [c]) else (⟨prevB c, prevB_range c⟩, packB (c - p.1))
def EBo : EMach := ⟨SBo, ⟨64, by decide⟩, putBo, fun _ => [], fun _ => []⟩
abbrev TBo : TypeId := 113
def CsBo (d : ESt EBo) : Array Value := #[.int .i64 d.pos, .int .i64 d.err, .int .i64 d.fat, .bool d.en, .string (strOf d.kept), .int .u32 (Subtype.val (p := fun p : Int => 0 ≤ p ∧ p ≤ 4294967295) d.st)]
def RepBo (w : World) (g : Nat) (F : Nat → Prop) (d : ESt EBo) : Prop := Blk w g TBo (CsBo d) ∧ ∀ k, F k ↔ k = g
theorem bytesBo_len (st : EBo.St) (c : Int) : (EBo.put st c).2.length ≤ 4 := by
 show (putBo st c).2.length ≤ 4
 unfold putBo
 split
 ·show [c].length ≤ 4
  simp
 ·exact packB_len _
set_option maxRecDepth 100000 in
theorem bytesBo_c {w : World} {g : Nat} {d : ESt EBo} (hb : Blk w g TBo (CsBo d)) (c : Int) (h0 : 0 ≤ c) (h1 : isScal c = true) :
  Calls Tryz.prog 153 #[.pointer (some ⟨g, 0, none⟩), .int .u32 c] w fun e w' => e = .returned (.string (strOf (EBo.put d.st c).2)) ∧ Blk w' g TBo (CsBo { d with st := (EBo.put d.st c).1 }) ∧ Eff w w' (fun k => k = g) := by
 have hc1 : c ≤ 1114111 := by unfold isScal at h1; simp at h1; omega
 have HB := Lib.hid hb
 obtain ⟨p, hp⟩ : ∃ p : SBo, d.st = p := ⟨_, rfl⟩
 have hpu : EBo.put d.st c = putBo p c := by rw [← hp]; rfl
 rw [hpu]
 have HP := Lib.hid hp
 have c5 : w.cell? ⟨g, 5, none⟩ = some (.int .u32 p.1) := by rw [← hp]; exact hb.cell rfl
 have hf := hb.frozen
 have hp1 := p.2.1
 have hp2 := p.2.2
 clear hb hp hpu
 by_cases hc32 : c ≤ 32
 ·have d1 : decide (c ≤ 32) = true := decide_eq_true hc32
  by_cases hc31 : c < 32
  ·have hpu : Hid (putBo p c = (⟨64, by decide⟩, [c])) := Lib.hid (by unfold putBo; rw [if_pos hc32, if_pos hc31])
   have d2 : decide (c < 32) = true := decide_eq_true hc31
   have hc := conv8 (w.setCell ⟨g, 5, none⟩ (.int .u32 64)) [c] 1 (by simp)
   simp only [nums, List.map_cons, List.map_nil, List.length_cons, List.length_nil, World.size_setCell, Nat.zero_add] at hc
   have HK := Lib.hid (HB.out.set 5 (.int .u32 64))
   go_enter Tryz.func153, Tryz.ntmps153
   go_wp2_with fail
   go_ret
   rw [hpu.out]
   exact ⟨rfl, HK.out.alloc _, (Eff.set _ _ _ _).trans (Eff.alloc _ _ _) (fun _ _ h => h)⟩
  ·have hpu : Hid (putBo p c = (p, [c])) := Lib.hid (by unfold putBo; rw [if_pos hc32, if_neg hc31])
   have d2 : decide (c < 32) = false := decide_eq_false hc31
   have hc := conv8 w [c] 1 (by simp)
   simp only [nums, List.map_cons, List.map_nil, List.length_cons, List.length_nil, Nat.zero_add] at hc
   go_enter Tryz.func153, Tryz.ntmps153
   go_wp2_with fail
   go_ret
   rw [hpu.out]
   refine ⟨rfl, ?_, Eff.alloc _ _ _⟩
   have h := HB.out.alloc (.cells #[.int .u8 c] 5 (0, 0))
   have e : CsBo { d with st := p } = CsBo d := by rw [← HP.out]
   exact e ▸ h
 ·have hpu : Hid (putBo p c = (⟨prevB c, prevB_range c⟩, packB (c - p.1))) := Lib.hid (by unfold putBo; rw [if_neg hc32])
  have d1 : decide (c ≤ 32) = false := decide_eq_false hc32
  have HPC := Lib.hid (fun W => pack_c (c - p.1) W)
  have HVC := Lib.hid (fun W => prev_c c W)
  clear hc32
  go_enter Tryz.func153, Tryz.ntmps153
  go_upto_region 6 with (go_at_call 154; refine (HPC.out _).mono ?_; rintro e w1 ⟨ok, rfl, hb1⟩)
  have HB1 := Lib.hid hb1
  have HK1 := Lib.hid (HB.out.below hb1)
  clear hb1
  go_wp2_with (go_at_call 155; refine (HVC.out _).mono ?_; rintro e w2 ⟨rfl, hb2⟩; have HB2 := Lib.hid (below_next HB1.out hb2); have hk2 := HK1.out.below hb2; have HK2 := Lib.hid hk2; have c25 : w2.cell? ⟨g, 5, none⟩ = _ := hk2.cell rfl; have hf2 := hk2.frozen; clear hk2 hb2)
  go_ret
  rw [hpu.out]
  exact ⟨rfl, HK2.out.set 5 _, (Eff.of_below HB2.out _).trans (Eff.set _ _ _ _) (fun _ _ h => h)⟩
end Go.Proofs.YtppchdinolndmaaGreat
namespace Go.Proofs.YtppchdinolndmaaGreat
open Go.RowKit Go.Proofs.YtppchdinolndmaaGreatW.PrintWords
set_option linter.unusedVariables false
set_option linter.unusedSimpArgs false
theorem finBo {w : World} {g : Nat} {F : Nat → Prop} {d : ESt EBo} (h : RepBo w g F d) :
  Calls Tryz.prog 99 #[.pointer (some ⟨g, 0, none⟩)] w fun e w' => ∃ F', e = .returned (.tuple #[]) ∧ RepBo w' g F' (endE EBo d) ∧ Eff w w' F ∧ (∀ k, F' k → F k ∨ w.heap.size ≤ k) := by
 obtain ⟨hb, hF⟩ := h
 unfold endE
 by_cases hg : d.err = 0 ∧ d.en = false
 ·rw [if_pos hg]
  refine (end_c hb (by show some (Value.int .i64 d.err) = _; rw [hg.1]) (by show some (Value.bool d.en) = _; rw [hg.2])).mono ?_
  rintro e w' ⟨rfl, rfl⟩
  refine ⟨F, rfl, ⟨?_, hF⟩, (Eff.set _ _ _ _).mono (fun k _ h => (hF k).2 h), fun k h => .inl h⟩
  have h2 := hb.set 3 (.bool true)
  show Blk _ g TBo #[.int .i64 d.pos, .int .i64 d.err, .int .i64 d.fat, .bool true, .string (strOf (d.kept ++ [])), .int .u32 (Subtype.val (p := fun p : Int => 0 ≤ p ∧ p ≤ 4294967295) d.st)]
  rw [List.append_nil]
  exact h2
 ·rw [if_neg hg]
  refine (end_not (err := d.err) (en := d.en) hb rfl rfl (by
   rcases Bool.eq_false_or_eq_true (d.err == 0 && !d.en) with h | h
   ·simp at h; exact absurd h hg
   ·exact h)).mono ?_
  rintro e w' ⟨rfl, rfl⟩
  exact ⟨F, rfl, ⟨hb, hF⟩, Eff.refl _ _, fun k h => .inl h⟩
theorem kBo : EncK 61 152 99 EBo RepBo where
 invF := by intro n g x y w; kernel_rfl
 invE := by intro n g w; kernel_rfl
 invD := by intro n g w; kernel_rfl
 invW := by intro n g w; kernel_rfl
 lt h k hk := by rw [(h.2 k).1 hk]; exact h.1.lt
 eff h he hs := ⟨h.1.eff he (hs _ ((h.2 _).2 rfl)), h.2⟩
 feed A c l room h hr hs hsc hp hk hroom := feedEG (Cs := CsBo) ⟨fun _ => rfl, fun _ => rfl, fun _ => rfl, fun _ => rfl, fun _ => rfl, fun _ _ => rfl, fun _ _ _ => rfl, fun _ _ => rfl⟩ 4 (by decide) bytesBo_len (fun _ => rfl) _ _ (.inr (.inr (.inr (.inr ⟨rfl, rfl⟩)))) (fun _ hb => bytesBo_c hb) A c l room h hr hs hsc hp hk hroom
 fin h _ _ := finBo h
 done h := outdone_c h.1 rfl rfl rfl
 blk h := ⟨TBo, _, by decide, by decide, h.1, rfl, rfl⟩
theorem newBo (w : World) : Calls Tryz.prog 20 #[] w fun e w' => e = .returned (.pointer (some ⟨w.heap.size, 0, none⟩)) ∧ w' = w.alloc (.cells (CsBo (ESt.new EBo)) TBo (0, 0)) := by
 go_enter Tryz.func20, Tryz.ntmps20
 go_wp2_with fail
 go_ret
 exact ⟨rfl, rfl⟩
theorem newBo_rep (w : World) : RepBo (w.alloc (.cells (CsBo (ESt.new EBo)) TBo (0, 0))) w.heap.size (fun k => k = w.heap.size) (ESt.new EBo) := ⟨Blk.new w _ _, fun _ => Iff.rfl⟩
set_option maxRecDepth 100000 in
theorem newE8 : NewE 8 61 EBo RepBo := by
 intro w
 go_enter Tryz.func6, Tryz.ntmps6
 go_wp2_with (go_at_call 20; refine (newBo _).mono ?_; rintro e w' ⟨rfl, rfl⟩)
 refine bodyPost_ret (v := .tuple #[.iface 61 (.pointer (some ⟨w.heap.size, 0, none⟩)), .int .i64 0]) (by simp [results, Tryz.results6, go_sem]) rfl ?_
 exact ⟨_, _, rfl, below_new (Below.refl _ _) _, newBo_rep w, fun k hk => Nat.le_of_eq hk.symm⟩
end Go.Proofs.YtppchdinolndmaaGreat
