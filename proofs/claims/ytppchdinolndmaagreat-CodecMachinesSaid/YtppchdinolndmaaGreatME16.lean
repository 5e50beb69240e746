/- Joined texts: E16, K16. -/
import Derived.Test.YtppchdinolndmaaGreatMUstp
import Derived.Test.YtppchdinolndmaaGreatMBit
import Derived.StillTailTactics
import Derived.Deep.CutBlock
import Derived.Test.YtppchdinolndmaaGreatMEfg
namespace Go.Proofs.YtppchdinolndmaaGreat
open Go.RowKit Go.Proofs.YtppchdinolndmaaGreatW.PrintWords
set_option linter.unusedVariables false
set_option linter.unusedSimpArgs false
def unit16 (big : Bool) (u : Int) : List Int := if big then [u / 256, u % 256] else [u % 256, u / 256]
def bytes16 (big : Bool) (c : Int) : List Int := if c < 65536 then unit16 big c else unit16 big (55296 + (c - 65536) / 1024) ++ unit16 big (56320 + (c - 65536) % 1024)
def E16 (big : Bool) : EMach := ⟨Unit, (), fun _ c => ((), bytes16 big c), fun _ => [], fun _ => []⟩
abbrev T16 : TypeId := 102
def Cs16 (big : Bool) (d : ESt (E16 big)) : Array Value := #[.int .i64 d.pos, .int .i64 d.err, .int .i64 d.fat, .bool d.en, .string (strOf d.kept), .bool big]
def Rep16 (big : Bool) (w : World) (g : Nat) (F : Nat → Prop) (d : ESt (E16 big)) : Prop := Blk w g T16 (Cs16 big d) ∧ ∀ k, F k ↔ k = g
set_option maxRecDepth 100000 in
theorem unit16_c (big : Bool) {g : Nat} {d : ESt (E16 big)} {w : World} (hb : Blk w g T16 (Cs16 big d)) (u : Int) (h0 : 0 ≤ u) (h1 : u ≤ 65535) :
  Calls Tryz.prog 113 #[.pointer (some ⟨g, 0, none⟩), .int .u32 u] w fun e w' => e = .returned (.string (strOf (unit16 big u))) ∧ Below w.heap.size w w' := by
 have c5 : w.cell? ⟨g, 5, none⟩ = some (.bool big) := hb.cell rfl
 clear hb
 cases big
 ·have hc := conv8 w [u % 256, u / 256] 2 (by simp)
  simp only [nums, List.map_cons, List.map_nil, List.length_cons, List.length_nil] at hc
  go_enter Tryz.func113, Tryz.ntmps113
  go_wp2
  go_ret
  exact ⟨rfl, below_new (Below.refl _ _) _⟩
 ·have hc := conv8 w [u / 256, u % 256] 2 (by simp)
  simp only [nums, List.map_cons, List.map_nil, List.length_cons, List.length_nil] at hc
  go_enter Tryz.func113, Tryz.ntmps113
  go_wp2
  go_ret
  exact ⟨rfl, below_new (Below.refl _ _) _⟩
set_option maxRecDepth 100000 in
theorem bytes16_c (big : Bool) {g : Nat} {d : ESt (E16 big)} {w : World} (hb : Blk w g T16 (Cs16 big d)) (c : Int) (h0 : 0 ≤ c) (h1 : isScal c = true) :
  Calls Tryz.prog 112 #[.pointer (some ⟨g, 0, none⟩), .int .u32 c] w fun e w' => e = .returned (.string (strOf (bytes16 big c))) ∧ Below w.heap.size w w' := by
 have hc1 : c ≤ 1114111 := by unfold isScal at h1; simp at h1; omega
 unfold bytes16
 by_cases hc : c < 65536
 ·have hu := unit16_c big hb c h0 (by omega)
  rw [if_pos hc]
  go_enter Tryz.func112, Tryz.ntmps112
  go_wp2_with (go_at_call 113; refine hu.mono ?_; rintro e w1 ⟨rfl, hb1⟩)
  go_ret
  exact ⟨rfl, hb1⟩
 ·rw [if_neg hc]
  have e1 : bits .or .u32 55296 ((c - 65536) / 1024) = 55296 + (c - 65536) / 1024 := u32_orD800 (by omega) (by omega)
  have e2 : bits .and .u32 (c - 65536) 1023 = (c - 65536) % 1024 := u32_and1023 (by omega) (by omega)
  have e3 : bits .or .u32 56320 ((c - 65536) % 1024) = 56320 + (c - 65536) % 1024 := u32_orDC00 (by omega) (by omega)
  have hu1 := unit16_c big hb (55296 + (c - 65536) / 1024) (by omega) (by omega)
  have hu2 := fun w1 (h : Below w.heap.size w w1) => unit16_c big (hb.below h) (56320 + (c - 65536) % 1024) (by omega) (by omega)
  have hl : ∀ u, (unit16 big u).length = 2 := by intro u; cases big <;> rfl
  rw [strOf_append]
  go_enter Tryz.func112, Tryz.ntmps112
  go_wp2_with fail
  refine hu1.mono ?_
  rintro e w1 ⟨rfl, hb1⟩
  have hu2' := hu2 w1 hb1
  have hz1 : (strOf (unit16 big (55296 + (c - 65536) / 1024))).size = 2 := by rw [strOf_size, hl]
  have hz2 : (strOf (unit16 big (56320 + (c - 65536) % 1024))).size = 2 := by rw [strOf_size, hl]
  clear hu1 hu2 hl
  go_wp2_with fail
  refine hu2'.mono ?_
  rintro e w2 ⟨rfl, hb2⟩
  go_wp2_with fail
  go_ret
  exact ⟨rfl, below_next hb1 hb2⟩
theorem bytes16_len (big : Bool) (c : Int) : (bytes16 big c).length ≤ 4 := by
 have hl : ∀ u, (unit16 big u).length = 2 := by intro u; cases big <;> rfl
 unfold bytes16
 split
 ·rw [hl]; decide
 ·rw [List.length_append, hl, hl]; decide
theorem inv16F : Inv2 53 "Feed" 111 := by intro n g x y w; kernel_rfl
theorem inv16E : Inv0 53 "End" 99 := by intro n g w; kernel_rfl
theorem inv16D : Inv0 53 "Done" 98 := by intro n g w; kernel_rfl
theorem inv16W : Inv0 53 "Fail" 100 := by intro n g w; kernel_rfl
theorem fin16 (big : Bool) {w : World} {g : Nat} {F : Nat → Prop} {d : ESt (E16 big)} (h : Rep16 big w g F d) :
  Calls Tryz.prog 99 #[.pointer (some ⟨g, 0, none⟩)] w fun e w' => ∃ F', e = .returned (.tuple #[]) ∧ Rep16 big w' g F' (endE (E16 big) d) ∧ Eff w w' F ∧ (∀ k, F' k → F k ∨ w.heap.size ≤ k) := by
 obtain ⟨hb, hF⟩ := h
 unfold endE
 by_cases hg : d.err = 0 ∧ d.en = false
 ·rw [if_pos hg]
  refine (end_c hb (by show some (Value.int .i64 d.err) = _; rw [hg.1]) (by show some (Value.bool d.en) = _; rw [hg.2])).mono ?_
  rintro e w' ⟨rfl, rfl⟩
  refine ⟨F, rfl, ⟨?_, hF⟩, (Eff.set _ _ _ _).mono (fun k _ h => (hF k).2 h), fun k h => .inl h⟩
  have h2 := hb.set 3 (.bool true)
  show Blk _ g T16 #[.int .i64 d.pos, .int .i64 d.err, .int .i64 d.fat, .bool true, .string (strOf (d.kept ++ [])), .bool big]
  rw [List.append_nil]
  exact h2
 ·rw [if_neg hg]
  refine (end_not (err := d.err) (en := d.en) hb rfl rfl (by
   rcases Bool.eq_false_or_eq_true (d.err == 0 && !d.en) with h | h
   ·simp at h; exact absurd h hg
   ·exact h)).mono ?_
  rintro e w' ⟨rfl, rfl⟩
  exact ⟨F, rfl, ⟨hb, hF⟩, Eff.refl _ _, fun k h => .inl h⟩
theorem k16 (big : Bool) : EncK 53 111 99 (E16 big) (Rep16 big) where
 invF := inv16F
 invE := inv16E
 invD := inv16D
 invW := inv16W
 lt h k hk := by rw [(h.2 k).1 hk]; exact h.1.lt
 eff h he hs := ⟨h.1.eff he (hs _ ((h.2 _).2 rfl)), h.2⟩
 feed A c l room h hr hs hsc hp hk hroom := feedEG (Cs := Cs16 big) ⟨fun _ => rfl, fun _ => rfl, fun _ => rfl, fun _ => rfl, fun _ => rfl, fun _ _ => rfl, fun _ _ _ => rfl, fun _ _ => rfl⟩ 4 (by decide) (fun _ c => bytes16_len big c) (fun _ => rfl) _ _ (.inr (.inl ⟨rfl, rfl⟩)) (fun _ hb c h0 h1 => (bytes16_c big hb c h0 h1).mono fun e w1 h => ⟨h.1, hb.below h.2, Eff.of_below h.2 _⟩) A c l room h hr hs hsc hp hk hroom
 fin h _ _ := fin16 big h
 done h := outdone_c h.1 rfl rfl rfl
 blk h := ⟨T16, _, by decide, by decide, h.1, rfl, rfl⟩
theorem new16 (big : Bool) (w : World) : Calls Tryz.prog 16 #[.bool big] w fun e w' => e = .returned (.pointer (some ⟨w.heap.size, 0, none⟩)) ∧ w' = w.alloc (.cells (Cs16 big (ESt.new (E16 big))) T16 (0, 0)) := by
 go_enter Tryz.func16, Tryz.ntmps16
 go_wp2_with fail
 go_ret
 exact ⟨rfl, rfl⟩
theorem new16_rep (big : Bool) (w : World) : Rep16 big (w.alloc (.cells (Cs16 big (ESt.new (E16 big))) T16 (0, 0))) w.heap.size (fun k => k = w.heap.size) (ESt.new (E16 big)) := ⟨Blk.new w _ _, fun _ => Iff.rfl⟩
set_option maxRecDepth 100000 in
theorem newE2 : NewE 2 53 (E16 true) (Rep16 true) := by
 intro w
 go_enter Tryz.func6, Tryz.ntmps6
 go_wp2_with (go_at_call 16; refine (new16 true _).mono ?_; rintro e w' ⟨rfl, rfl⟩)
 refine bodyPost_ret (v := .tuple #[.iface 53 (.pointer (some ⟨w.heap.size, 0, none⟩)), .int .i64 0]) (by simp [results, Tryz.results6, go_sem]) rfl ?_
 exact ⟨_, _, rfl, below_new (Below.refl _ _) _, new16_rep true w, fun k hk => Nat.le_of_eq hk.symm⟩
set_option maxRecDepth 100000 in
theorem newE3 : NewE 3 53 (E16 false) (Rep16 false) := by
 intro w
 go_enter Tryz.func6, Tryz.ntmps6
 go_wp2_with (go_at_call 16; refine (new16 false _).mono ?_; rintro e w' ⟨rfl, rfl⟩)
 refine bodyPost_ret (v := .tuple #[.iface 53 (.pointer (some ⟨w.heap.size, 0, none⟩)), .int .i64 0]) (by simp [results, Tryz.results6, go_sem]) rfl ?_
 exact ⟨_, _, rfl, below_new (Below.refl _ _) _, new16_rep false w, fun k hk => Nat.le_of_eq hk.symm⟩
end Go.Proofs.YtppchdinolndmaaGreat
