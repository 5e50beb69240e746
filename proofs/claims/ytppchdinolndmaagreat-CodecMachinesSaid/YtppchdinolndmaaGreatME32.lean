/- Joined texts: E32, K32. -/
import Derived.Test.YtppchdinolndmaaGreatMUstp
import Derived.Test.YtppchdinolndmaaGreatMBit
import Derived.StillTailTactics
import Derived.Deep.CutBlock
import Derived.Test.YtppchdinolndmaaGreatMEfg
namespace Go.Proofs.YtppchdinolndmaaGreat
open Go.RowKit Go.Proofs.YtppchdinolndmaaGreatW.PrintWords
set_option linter.unusedVariables false
set_option linter.unusedSimpArgs false
def bytes32 (big : Bool) (c : Int) : List Int := if big then [c / 16777216, c / 65536, c / 256 % 256, c % 256] else [c % 256, c / 256 % 256, c / 65536, c / 16777216]
def E32 (big : Bool) : EMach := ⟨Unit, (), fun _ c => ((), bytes32 big c), fun _ => [], fun _ => []⟩
abbrev T32 : TypeId := 104
def Cs32 (big : Bool) (d : ESt (E32 big)) : Array Value := #[.int .i64 d.pos, .int .i64 d.err, .int .i64 d.fat, .bool d.en, .string (strOf d.kept), .bool big]
def Rep32 (big : Bool) (w : World) (g : Nat) (F : Nat → Prop) (d : ESt (E32 big)) : Prop := Blk w g T32 (Cs32 big d) ∧ ∀ k, F k ↔ k = g
theorem bytes32_len (big : Bool) (st : (E32 big).St) (c : Int) : ((E32 big).put st c).2.length ≤ 4 := by
 show (bytes32 big c).length ≤ 4
 cases big <;> exact Nat.le_refl 4
set_option maxRecDepth 100000 in
theorem bytes32_c (big : Bool) {w : World} {g : Nat} {d : ESt (E32 big)} (hb : Blk w g T32 (Cs32 big d)) (c : Int) (h0 : 0 ≤ c) (h1 : isScal c = true) :
  Calls Tryz.prog 115 #[.pointer (some ⟨g, 0, none⟩), .int .u32 c] w fun e w' => e = .returned (.string (strOf ((E32 big).put d.st c).2)) ∧ Blk w' g T32 (Cs32 big { d with st := ((E32 big).put d.st c).1 }) ∧ Eff w w' (fun k => k = g) := by
 have hc1 : c ≤ 1114111 := by unfold isScal at h1; simp at h1; omega
 have HB := Lib.hid hb
 have c5 : w.cell? ⟨g, 5, none⟩ = some (.bool big) := hb.cell rfl
 clear hb
 cases big
 ·have hc := conv8 w [c % 256, c / 256 % 256, c / 65536, c / 16777216] 4 (by simp)
  simp only [nums, List.map_cons, List.map_nil, List.length_cons, List.length_nil] at hc
  go_enter Tryz.func115, Tryz.ntmps115
  go_wp2
  go_ret
  exact ⟨rfl, HB.out.alloc _, Eff.alloc _ _ _⟩
 ·have hc := conv8 w [c / 16777216, c / 65536, c / 256 % 256, c % 256] 4 (by simp)
  simp only [nums, List.map_cons, List.map_nil, List.length_cons, List.length_nil] at hc
  go_enter Tryz.func115, Tryz.ntmps115
  go_wp2
  go_ret
  exact ⟨rfl, HB.out.alloc _, Eff.alloc _ _ _⟩
theorem inv32F : Inv2 55 "Feed" 114 := by intro n g x y w; kernel_rfl
theorem inv32E : Inv0 55 "End" 99 := by intro n g w; kernel_rfl
theorem inv32D : Inv0 55 "Done" 98 := by intro n g w; kernel_rfl
theorem inv32W : Inv0 55 "Fail" 100 := by intro n g w; kernel_rfl
theorem fin32 (big : Bool) {w : World} {g : Nat} {F : Nat → Prop} {d : ESt (E32 big)} (h : Rep32 big w g F d) :
  Calls Tryz.prog 99 #[.pointer (some ⟨g, 0, none⟩)] w fun e w' => ∃ F', e = .returned (.tuple #[]) ∧ Rep32 big w' g F' (endE (E32 big) d) ∧ Eff w w' F ∧ (∀ k, F' k → F k ∨ w.heap.size ≤ k) := by
 obtain ⟨hb, hF⟩ := h
 unfold endE
 by_cases hg : d.err = 0 ∧ d.en = false
 ·rw [if_pos hg]
  refine (end_c hb (by show some (Value.int .i64 d.err) = _; rw [hg.1]) (by show some (Value.bool d.en) = _; rw [hg.2])).mono ?_
  rintro e w' ⟨rfl, rfl⟩
  refine ⟨F, rfl, ⟨?_, hF⟩, (Eff.set _ _ _ _).mono (fun k _ h => (hF k).2 h), fun k h => .inl h⟩
  have h2 := hb.set 3 (.bool true)
  show Blk _ g T32 #[.int .i64 d.pos, .int .i64 d.err, .int .i64 d.fat, .bool true, .string (strOf (d.kept ++ [])), .bool big]
  rw [List.append_nil]
  exact h2
 ·rw [if_neg hg]
  refine (end_not (err := d.err) (en := d.en) hb rfl rfl (by
   rcases Bool.eq_false_or_eq_true (d.err == 0 && !d.en) with h | h
   ·simp at h; exact absurd h hg
   ·exact h)).mono ?_
  rintro e w' ⟨rfl, rfl⟩
  exact ⟨F, rfl, ⟨hb, hF⟩, Eff.refl _ _, fun k h => .inl h⟩
theorem k32 (big : Bool) : EncK 55 114 99 (E32 big) (Rep32 big) where
 invF := inv32F
 invE := inv32E
 invD := inv32D
 invW := inv32W
 lt h k hk := by rw [(h.2 k).1 hk]; exact h.1.lt
 eff h he hs := ⟨h.1.eff he (hs _ ((h.2 _).2 rfl)), h.2⟩
 feed A c l room h hr hs hsc hp hk hroom := feedEG (Cs := Cs32 big) ⟨fun _ => rfl, fun _ => rfl, fun _ => rfl, fun _ => rfl, fun _ => rfl, fun _ _ => rfl, fun _ _ _ => rfl, fun _ _ => rfl⟩ 4 (by decide) (bytes32_len big) (fun _ => rfl) _ _ (.inr (.inr (.inl ⟨rfl, rfl⟩))) (fun _ hb => bytes32_c big hb) A c l room h hr hs hsc hp hk hroom
 fin h _ _ := fin32 big h
 done h := outdone_c h.1 rfl rfl rfl
 blk h := ⟨T32, _, by decide, by decide, h.1, rfl, rfl⟩
theorem new32 (big : Bool) (w : World) : Calls Tryz.prog 17 #[.bool big] w fun e w' => e = .returned (.pointer (some ⟨w.heap.size, 0, none⟩)) ∧ w' = w.alloc (.cells (Cs32 big (ESt.new (E32 big))) T32 (0, 0)) := by
 go_enter Tryz.func17, Tryz.ntmps17
 go_wp2_with fail
 go_ret
 exact ⟨rfl, rfl⟩
theorem new32_rep (big : Bool) (w : World) : Rep32 big (w.alloc (.cells (Cs32 big (ESt.new (E32 big))) T32 (0, 0))) w.heap.size (fun k => k = w.heap.size) (ESt.new (E32 big)) := ⟨Blk.new w _ _, fun _ => Iff.rfl⟩
set_option maxRecDepth 100000 in
theorem newE4 : NewE 4 55 (E32 true) (Rep32 true) := by
 intro w
 go_enter Tryz.func6, Tryz.ntmps6
 go_wp2_with (go_at_call 17; refine (new32 true _).mono ?_; rintro e w' ⟨rfl, rfl⟩)
 refine bodyPost_ret (v := .tuple #[.iface 55 (.pointer (some ⟨w.heap.size, 0, none⟩)), .int .i64 0]) (by simp [results, Tryz.results6, go_sem]) rfl ?_
 exact ⟨_, _, rfl, below_new (Below.refl _ _) _, new32_rep true w, fun k hk => Nat.le_of_eq hk.symm⟩
set_option maxRecDepth 100000 in
theorem newE5 : NewE 5 55 (E32 false) (Rep32 false) := by
 intro w
 go_enter Tryz.func6, Tryz.ntmps6
 go_wp2_with (go_at_call 17; refine (new32 false _).mono ?_; rintro e w' ⟨rfl, rfl⟩)
 refine bodyPost_ret (v := .tuple #[.iface 55 (.pointer (some ⟨w.heap.size, 0, none⟩)), .int .i64 0]) (by simp [results, Tryz.results6, go_sem]) rfl ?_
 exact ⟨_, _, rfl, below_new (Below.refl _ _) _, new32_rep false w, fun k hk => Nat.le_of_eq hk.symm⟩
end Go.Proofs.YtppchdinolndmaaGreat
