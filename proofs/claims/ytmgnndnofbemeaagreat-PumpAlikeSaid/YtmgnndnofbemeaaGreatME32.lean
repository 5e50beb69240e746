/- Joined texts: E32, K32, Hb. -/
import Derived.Test.YtmgnndnofbemeaaGreatMUstp
import Derived.Test.YtmgnndnofbemeaaGreatMBit
import Derived.StillTailTactics
import Derived.Deep.CutBlock
import Derived.Test.YtmgnndnofbemeaaGreatMEfg
import Derived.Test.YtmgnndnofbemeaaGreatME8
import Derived.Test.YtmgnndnofbemeaaGreatMDh
import Derived.Test.YtmgnndnofbemeaaGreatME16
import Derived.Test.YtmgnndnofbemeaaGreatMDw
namespace Go.Proofs.YtmgnndnofbemeaaGreat
open Go.RowKit Go.Proofs.YtmgnndnofbemeaaGreatW.PrintWords
set_option linter.unusedVariables false
set_option linter.unusedSimpArgs false
def bytes32 (big : Bool) (c : Int) : List Int := if big then [c / 16777216, c / 65536, c / 256 % 256, c % 256] else [c % 256, c / 256 % 256, c / 65536, c / 16777216]
def E32 (big : Bool) : EMach := ⟨Unit, (), fun _ c => ((), bytes32 big c), fun _ => [], fun _ => []⟩
abbrev T32 : TypeId := 141
def Cs32 (big : Bool) (d : ESt (E32 big)) : Array Value := #[.int .i64 d.pos, .int .i64 d.err, .int .i64 d.fat, .bool d.en, .string (strOf d.kept), .bool big]
def Rep32 (big : Bool) (w : World) (g : Nat) (F : Nat → Prop) (d : ESt (E32 big)) : Prop := Blk w g T32 (Cs32 big d) ∧ ∀ k, F k ↔ k = g
theorem bytes32_len (big : Bool) (st : (E32 big).St) (c : Int) : ((E32 big).put st c).2.length ≤ 4 := by
 show (bytes32 big c).length ≤ 4
 cases big <;> exact Nat.le_refl 4
set_option maxRecDepth 100000 in
theorem bytes32_c (big : Bool) {w : World} {g : Nat} {d : ESt (E32 big)} (hb : Blk w g T32 (Cs32 big d)) (c : Int) (h0 : 0 ≤ c) (h1 : isScal c = true) :
  Calls Tryz.prog 146 #[.pointer (some ⟨g, 0, none⟩), .int .u32 c] w fun e w' => e = .returned (.string (strOf ((E32 big).put d.st c).2)) ∧ Blk w' g T32 (Cs32 big { d with st := ((E32 big).put d.st c).1 }) ∧ Eff w w' (fun k => k = g) := by
 have hc1 : c ≤ 1114111 := by unfold isScal at h1; simp at h1; omega
 have HB := Lib.hid hb
 have c5 : w.cell? ⟨g, 5, none⟩ = some (.bool big) := hb.cell rfl
 clear hb
 cases big
 ·have hc := conv8 w [c % 256, c / 256 % 256, c / 65536, c / 16777216] 4 (by simp)
  simp only [nums, List.map_cons, List.map_nil, List.length_cons, List.length_nil] at hc
  go_enter Tryz.func146, Tryz.ntmps146
  go_wp2
  go_ret
  exact ⟨rfl, HB.out.alloc _, Eff.alloc _ _ _⟩
 ·have hc := conv8 w [c / 16777216, c / 65536, c / 256 % 256, c % 256] 4 (by simp)
  simp only [nums, List.map_cons, List.map_nil, List.length_cons, List.length_nil] at hc
  go_enter Tryz.func146, Tryz.ntmps146
  go_wp2
  go_ret
  exact ⟨rfl, HB.out.alloc _, Eff.alloc _ _ _⟩
theorem inv32F : Inv2 90 "Feed" 145 := by intro n g x y w; kernel_rfl
theorem inv32E : Inv0 90 "End" 130 := by intro n g w; kernel_rfl
theorem inv32D : Inv0 90 "Done" 129 := by intro n g w; kernel_rfl
theorem inv32W : Inv0 90 "Fail" 131 := by intro n g w; kernel_rfl
theorem fin32 (big : Bool) {w : World} {g : Nat} {F : Nat → Prop} {d : ESt (E32 big)} (h : Rep32 big w g F d) :
  Calls Tryz.prog 130 #[.pointer (some ⟨g, 0, none⟩)] w fun e w' => ∃ F', e = .returned (.tuple #[]) ∧ Rep32 big w' g F' (endE (E32 big) d) ∧ Eff w w' F ∧ (∀ k, F' k → F k ∨ w.heap.size ≤ k) := by
 obtain ⟨hb, hF⟩ := h
 unfold endE
 by_cases hg : d.err = 0 ∧ d.en = false
 ·rw [if_pos hg]
  refine (end_c hb (by show some (Value.int .i64 d.err) = _; rw [hg.1]) (by show some (Value.bool d.en) = _; rw [hg.2])).mono ?_
  rintro e w' ⟨rfl, rfl⟩
  refine ⟨F, rfl, ⟨?_, hF⟩, (Eff.set _ _ _ _).mono (fun k _ h => (hF k).2 h), fun k h => .inl h⟩
  have h2 := hb.set 3 (.bool true)
  show Blk _ g T32 #[.int .i64 d.pos, .int .i64 d.err, .int .i64 d.fat, .bool true, .string (strOf (d.kept ++ [])), .bool big]
  rw [List.append_nil]
  exact h2
 ·rw [if_neg hg]
  refine (end_not (err := d.err) (en := d.en) hb rfl rfl (by
   rcases Bool.eq_false_or_eq_true (d.err == 0 && !d.en) with h | h
   ·simp at h; exact absurd h hg
   ·exact h)).mono ?_
  rintro e w' ⟨rfl, rfl⟩
  exact ⟨F, rfl, ⟨hb, hF⟩, Eff.refl _ _, fun k h => .inl h⟩
theorem k32 (big : Bool) : EncK 90 145 130 (E32 big) (Rep32 big) where
 invF := inv32F
 invE := inv32E
 invD := inv32D
 invW := inv32W
 lt h k hk := by rw [(h.2 k).1 hk]; exact h.1.lt
 eff h he hs := ⟨h.1.eff he (hs _ ((h.2 _).2 rfl)), h.2⟩
 feed A c l room h hr hs hsc hp hk hroom := feedEG (Cs := Cs32 big) ⟨fun _ => rfl, fun _ => rfl, fun _ => rfl, fun _ => rfl, fun _ => rfl, fun _ _ => rfl, fun _ _ _ => rfl, fun _ _ => rfl⟩ 4 (by decide) (bytes32_len big) (fun _ => rfl) _ _ (.inr (.inr (.inl ⟨rfl, rfl⟩))) (fun _ hb => bytes32_c big hb) A c l room h hr hs hsc hp hk hroom
 fin h _ _ := fin32 big h
 done h := outdone_c h.1 rfl rfl rfl
 blk h := ⟨T32, _, by decide, by decide, h.1, rfl, rfl⟩
theorem new32 (big : Bool) (w : World) : Calls Tryz.prog 38 #[.bool big] w fun e w' => e = .returned (.pointer (some ⟨w.heap.size, 0, none⟩)) ∧ w' = w.alloc (.cells (Cs32 big (ESt.new (E32 big))) T32 (0, 0)) := by
 go_enter Tryz.func38, Tryz.ntmps38
 go_wp2_with fail
 go_ret
 exact ⟨rfl, rfl⟩
theorem new32_rep (big : Bool) (w : World) : Rep32 big (w.alloc (.cells (Cs32 big (ESt.new (E32 big))) T32 (0, 0))) w.heap.size (fun k => k = w.heap.size) (ESt.new (E32 big)) := ⟨Blk.new w _ _, fun _ => Iff.rfl⟩
set_option maxRecDepth 100000 in
theorem newE4 : NewE 4 90 (E32 true) (Rep32 true) := by
 intro w
 go_enter Tryz.func16, Tryz.ntmps16
 go_wp2_with (go_at_call 38; refine (new32 true _).mono ?_; rintro e w' ⟨rfl, rfl⟩)
 refine bodyPost_ret (v := .tuple #[.iface 90 (.pointer (some ⟨w.heap.size, 0, none⟩)), .int .i64 0]) (by simp [results, Tryz.results16, go_sem]) rfl ?_
 exact ⟨_, _, rfl, below_new (Below.refl _ _) _, new32_rep true w, fun k hk => Nat.le_of_eq hk.symm⟩
set_option maxRecDepth 100000 in
theorem newE5 : NewE 5 90 (E32 false) (Rep32 false) := by
 intro w
 go_enter Tryz.func16, Tryz.ntmps16
 go_wp2_with (go_at_call 38; refine (new32 false _).mono ?_; rintro e w' ⟨rfl, rfl⟩)
 refine bodyPost_ret (v := .tuple #[.iface 90 (.pointer (some ⟨w.heap.size, 0, none⟩)), .int .i64 0]) (by simp [results, Tryz.results16, go_sem]) rfl ?_
 exact ⟨_, _, rfl, below_new (Below.refl _ _) _, new32_rep false w, fun k hk => Nat.le_of_eq hk.symm⟩
end Go.Proofs.YtmgnndnofbemeaaGreat
namespace Go.Proofs.YtmgnndnofbemeaaGreat
set_option linter.unusedVariables false
set_option linter.unusedSimpArgs false
theorem fits_up {u : Int} (h : ¬ (56320 ≤ u ∧ u < 57344)) : fits16 0 u = true := by
 unfold fits16
 have : (decide (56320 ≤ u) && decide (u < 57344)) = false := by simp; omega
 rw [this]; rfl
theorem fits_low {up u : Int} (h0 : up ≠ 0) (h : 56320 ≤ u ∧ u < 57344) : fits16 up u = true := by
 unfold fits16
 have : (decide (56320 ≤ u) && decide (u < 57344)) = true := by simp; omega
 have h2 : (up != 0) = true := by simpa using h0
 rw [this, h2]; rfl
theorem unit_steps (big : Bool) (f up u : Int) (h0 : 0 ≤ u) (h1 : u ≤ 65535) (hf : fits16 up u = true) (hb : fits16 up (u / 256 * 256) = true) {s' : Bool × Int × Int} {k : List Int}
  (hn : nextH big (true, (if big = true then u / 256 else u % 256), up) (if big = true then u % 256 else u / 256) = some (s', k)) (rest : List Int) (p : Nat) (acc : List Int) :
  runD (DH big) (false, f, up) (unit16 big u ++ rest) p acc = runD (DH big) s' rest (p + 1 + 1) (acc ++ k) := by
 have e1 : (DH big).next (false, f, up) (if big = true then u / 256 else u % 256) = some ((true, (if big = true then u / 256 else u % 256), up), []) := by
  show nextH big (false, f, up) _ = some ((true, (if big = true then u / 256 else u % 256), up), [])
  unfold nextH
  rw [if_pos rfl]
  cases big
  ·rfl
  ·simp only [if_true, Bool.true_and]
   rw [hb]
   rfl
 have e0 : unit16 big u ++ rest = (if big = true then u / 256 else u % 256) :: (if big = true then u % 256 else u / 256) :: rest := by
  unfold unit16
  cases big <;> rfl
 rw [e0, runD_some e1, runD_some (show (DH big).next (true, (if big = true then u / 256 else u % 256), up) (if big = true then u % 256 else u / 256) = some (s', k) from hn), List.append_nil]
theorem nextH_two (big : Bool) (f up b : Int) : nextH big (true, f, up) b = if fits16 up (unitOf big f b) = false then none
  else if up ≠ 0 then some ((false, f, 0), [65536 + (up - 55296) * 1024 + (unitOf big f b - 56320)])
  else if 55296 ≤ unitOf big f b ∧ unitOf big f b < 56320 then some ((false, f, unitOf big f b), []) else some ((false, f, 0), [unitOf big f b]) := by
 unfold nextH
 rw [if_neg (show ¬ (true = false) by decide)]
theorem unit_of (big : Bool) (u : Int) (h0 : 0 ≤ u) (h1 : u ≤ 65535) : unitOf big (if big = true then u / 256 else u % 256) (if big = true then u % 256 else u / 256) = u := by
 unfold unitOf
 cases big <;> simp <;> omega
theorem back16 (big : Bool) : BackM (E16 big) (DH big) := by
 refine (sim_plain (fun s : Bool × Int × Int => s.1 = false ∧ s.2.2 = 0) ⟨rfl, rfl⟩ (fun st s c hj h0 h1 => ?_) (fun _ => rfl) (fun s hs => by show (if s.1 = false ∧ s.2.2 = 0 then some [] else none) = _; rw [if_pos hs])).back
 have hc1 : c ≤ 1114111 := by unfold isScal at h1; simp at h1; omega
 have hsur : ¬ (55296 ≤ c ∧ c ≤ 57343) := by unfold isScal at h1; simp at h1; omega
 obtain ⟨s1, f, up⟩ := s
 obtain ⟨rfl, rfl⟩ := hj
 show ∃ s' : Bool × Int × Int, (s'.1 = false ∧ s'.2.2 = 0) ∧ ∀ rest p acc, ∃ q, runD (DH big) (false, f, 0) (bytes16 big c ++ rest) p acc = runD (DH big) s' rest q (acc ++ [c])
 unfold bytes16
 by_cases a : c < 65536
 ·rw [if_pos a]
  refine ⟨(false, (if big = true then c / 256 else c % 256), 0), ⟨rfl, rfl⟩, fun rest p acc => ⟨p + 1 + 1, unit_steps big f 0 c h0 (by omega) (fits_up (by omega)) (fits_up (by omega)) ?_ rest p acc⟩⟩
  rw [nextH_two, unit_of big c h0 (by omega), if_neg (by rw [fits_up (by omega)]; decide), if_neg (show ¬ ((0 : Int) ≠ 0) by decide), if_neg (by omega)]
 ·rw [if_neg a]
  have ha : 65536 ≤ c := by omega
  refine ⟨(false, (if big = true then (56320 + (c - 65536) % 1024) / 256 else (56320 + (c - 65536) % 1024) % 256), 0), ⟨rfl, rfl⟩, fun rest p acc => ⟨p + 1 + 1 + 1 + 1, ?_⟩⟩
  rw [List.append_assoc, unit_steps big f 0 (55296 + (c - 65536) / 1024) (by omega) (by omega) (fits_up (by omega)) (fits_up (by omega)) (s' := (false, (if big = true then (55296 + (c - 65536) / 1024) / 256 else (55296 + (c - 65536) / 1024) % 256), 55296 + (c - 65536) / 1024)) (k := []) ?_ _ p acc,
   unit_steps big _ (55296 + (c - 65536) / 1024) (56320 + (c - 65536) % 1024) (by omega) (by omega) (fits_low (by omega) (by omega)) (fits_low (by omega) (by omega)) (s' := (false, (if big = true then (56320 + (c - 65536) % 1024) / 256 else (56320 + (c - 65536) % 1024) % 256), 0)) (k := [c]) ?_ _ _ _, List.append_nil]
  rotate_left
  ·rw [nextH_two, unit_of big _ (by omega) (by omega), if_neg (by rw [fits_up (by omega)]; decide), if_neg (show ¬ ((0 : Int) ≠ 0) by decide), if_pos (by omega)]
  ·rw [nextH_two, unit_of big _ (by omega) (by omega), if_neg (by rw [fits_low (by show 55296 + (c - 65536) / 1024 ≠ 0; omega) (by omega)]; decide), if_pos (show 55296 + (c - 65536) / 1024 ≠ 0 by omega)]
   show some (_, [65536 + (55296 + (c - 65536) / 1024 - 55296) * 1024 + (56320 + (c - 65536) % 1024 - 56320)]) = _
   rw [show 65536 + (55296 + (c - 65536) / 1024 - 55296) * 1024 + (56320 + (c - 65536) % 1024 - 56320) = c by omega]
theorem scal_mid {c x : Int} (h0 : 0 ≤ c) (h1 : isScal c = true) (hx : x = c / 256 * 256) : isScal x = true := by
 unfold isScal at h1 ⊢
 simp at h1 ⊢
 omega
theorem back32 (big : Bool) : BackM (E32 big) (DW big) := by
 refine (sim_plain (fun s : Int × Int => s = (0, 0)) rfl (fun st s c hj h0 h1 => ?_) (fun _ => rfl) (fun s hs => by show (if s.1 = 0 then some [] else none) = _; rw [hs]; rfl)).back
 have hc1 : c ≤ 1114111 := by unfold isScal at h1; simp at h1; omega
 have hm := scal_mid h0 h1 rfl
 subst hj
 show ∃ s' : Int × Int, s' = (0, 0) ∧ ∀ rest p acc, ∃ q, runD (DW big) (0, 0) (bytes32 big c ++ rest) p acc = runD (DW big) s' rest q (acc ++ [c])
 refine ⟨_, rfl, fun rest p acc => ⟨p + 1 + 1 + 1 + 1, ?_⟩⟩
 have step : ∀ v v' x b y, v ≠ 3 → v + 1 = v' → moreW big v x b = y → fitsW big v y = true → (DW big).next (v, x) b = some ((v', y), []) := fun v v' x b y hv hv' hy hf => by
  show nextW big (v, x) b = some ((v', y), [])
  unfold nextW
  rw [hy, if_neg (by rw [hf]; decide), if_neg hv, hv']
 have last : ∀ x b y, moreW big 3 x b = y → isScal y = true → (DW big).next (3, x) b = some ((0, 0), [y]) := fun x b y hy hf => by
  show nextW big (3, x) b = some ((0, 0), [y])
  unfold nextW
  rw [hy, if_neg (by unfold fitsW; rw [if_pos rfl, hf]; decide), if_pos rfl]
 unfold bytes32
 cases big
 ·show runD (DW false) (0, 0) (c % 256 :: c / 256 % 256 :: c / 65536 :: c / 16777216 :: rest) p acc = _
  rw [runD_some (step 0 1 0 (c % 256) (c % 256) (by decide) rfl (by unfold moreW; simp) rfl),
   runD_some (step 1 2 (c % 256) (c / 256 % 256) (c % 65536) (by decide) rfl (by unfold moreW; simp; omega) rfl),
   runD_some (step 2 3 (c % 65536) (c / 65536) c (by decide) rfl (by unfold moreW; simp; omega) (by unfold fitsW; simp; exact h1)),
   runD_some (last c (c / 16777216) c (by unfold moreW; simp; omega) h1), List.append_nil, List.append_nil, List.append_nil]
 ·show runD (DW true) (0, 0) (c / 16777216 :: c / 65536 :: c / 256 % 256 :: c % 256 :: rest) p acc = _
  rw [runD_some (step 0 1 0 (c / 16777216) 0 (by decide) rfl (by unfold moreW; simp; omega) rfl),
   runD_some (step 1 2 0 (c / 65536) (c / 65536) (by decide) rfl (by unfold moreW; simp) (by unfold fitsW; simp; omega)),
   runD_some (step 2 3 (c / 65536) (c / 256 % 256) (c / 256) (by decide) rfl (by unfold moreW; simp; omega) (by unfold fitsW; simp; exact hm)),
   runD_some (last (c / 256) (c % 256) c (by unfold moreW; simp; omega) h1), List.append_nil, List.append_nil, List.append_nil]
end Go.Proofs.YtmgnndnofbemeaaGreat
