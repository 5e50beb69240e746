/- Joined texts: E8, Ha, Fi. -/
import Derived.Test.YtmgnndnofbemeaaGreatMUstp
import Derived.Test.YtmgnndnofbemeaaGreatMBit
import Derived.StillTailTactics
import Derived.Deep.CutBlock
import Derived.Test.YtmgnndnofbemeaaGreatMBase
import Derived.Test.YtmgnndnofbemeaaGreatMDv
import Derived.Test.YtmgnndnofbemeaaGreatMSame
namespace Go.Proofs.YtmgnndnofbemeaaGreat
open Go.RowKit Go.Proofs.YtmgnndnofbemeaaGreatW.PrintWords
set_option linter.unusedVariables false
set_option linter.unusedSimpArgs false
def bytes8 (c : Int) : List Int :=
 if c < 128 then [c] else if c < 2048 then [192 + c / 64, 128 + c % 64] else if c < 65536 then [224 + c / 4096, 128 + c / 64 % 64, 128 + c % 64]
 else [240 + c / 262144, 128 + c / 4096 % 64, 128 + c / 64 % 64, 128 + c % 64]
def E8 : EMach := ⟨Unit, (), fun _ c => ((), bytes8 c), fun _ => [], fun _ => []⟩
abbrev T8 : TypeId := 137
def Cs8 (d : ESt E8) : Array Value := #[.int .i64 d.pos, .int .i64 d.err, .int .i64 d.fat, .bool d.en, .string (strOf d.kept)]
def Rep8 (w : World) (g : Nat) (F : Nat → Prop) (d : ESt E8) : Prop := Blk w g T8 (Cs8 d) ∧ ∀ k, F k ↔ k = g
theorem bytes8_len (st : E8.St) (c : Int) : (E8.put st c).2.length ≤ 4 := by
 show (bytes8 c).length ≤ 4
 unfold bytes8
 split
 ·exact (by decide : 1 ≤ 4)
 ·split
  ·exact (by decide : 2 ≤ 4)
  ·split
   ·exact (by decide : 3 ≤ 4)
   ·exact (by decide : 4 ≤ 4)
theorem e8_and63 {x : Int} (h0 : 0 ≤ x) (h1 : x < 256) : bits .and .u8 x 63 = x % 64 := bits_mask .u8 8 (by decide) wraps_u8 6 (by decide) x h0 h1
theorem e8_or128 {y : Int} (h0 : 0 ≤ y) (h1 : y < 64) : bits .or .u8 128 y = 128 + y := bits_join .u8 8 (by decide) wraps_u8 6 128 y (by decide) (by decide) (by decide) h0 h1 (by omega)
theorem e8_or192 {y : Int} (h0 : 0 ≤ y) (h1 : y < 32) : bits .or .u8 192 y = 192 + y := bits_join .u8 8 (by decide) wraps_u8 5 192 y (by decide) (by decide) (by decide) h0 h1 (by omega)
theorem e8_or224 {y : Int} (h0 : 0 ≤ y) (h1 : y < 16) : bits .or .u8 224 y = 224 + y := bits_join .u8 8 (by decide) wraps_u8 4 224 y (by decide) (by decide) (by decide) h0 h1 (by omega)
theorem e8_or240 {y : Int} (h0 : 0 ≤ y) (h1 : y < 8) : bits .or .u8 240 y = 240 + y := bits_join .u8 8 (by decide) wraps_u8 3 240 y (by decide) (by decide) (by decide) h0 h1 (by omega)
theorem tail8_0 {w : World} {b : Nat} {c : Int} (hc : w.cell? ⟨b, 0, none⟩ = some (.int .u32 c)) (h0 : 0 ≤ c) (h1 : c ≤ 1114111) :
  Calls Tryz.prog 141 #[.int .i64 0, .pointer (some ⟨b, 0, none⟩)] w fun e w' => e = .returned (.int .u8 (128 + c % 64)) ∧ w' = w := by
 have e1 : bits .and .u8 (c % 256) 63 = c % 64 := by rw [e8_and63 (by omega) (by omega)]; omega
 have e2 : bits .or .u8 128 (c % 64) = 128 + c % 64 := e8_or128 (by omega) (by omega)
 go_enter Tryz.func141, Tryz.ntmps141
 go_wp2
 go_ret
 exact ⟨rfl, rfl⟩
theorem tail8_1 {w : World} {b : Nat} {c : Int} (hc : w.cell? ⟨b, 0, none⟩ = some (.int .u32 c)) (h0 : 0 ≤ c) (h1 : c ≤ 1114111) :
  Calls Tryz.prog 141 #[.int .i64 1, .pointer (some ⟨b, 0, none⟩)] w fun e w' => e = .returned (.int .u8 (128 + c / 64 % 64)) ∧ w' = w := by
 have e1 : bits .and .u8 (c / 64 % 256) 63 = c / 64 % 64 := by rw [e8_and63 (by omega) (by omega)]; omega
 have e2 : bits .or .u8 128 (c / 64 % 64) = 128 + c / 64 % 64 := e8_or128 (by omega) (by omega)
 go_enter Tryz.func141, Tryz.ntmps141
 go_wp2
 go_ret
 exact ⟨rfl, rfl⟩
theorem tail8_2 {w : World} {b : Nat} {c : Int} (hc : w.cell? ⟨b, 0, none⟩ = some (.int .u32 c)) (h0 : 0 ≤ c) (h1 : c ≤ 1114111) :
  Calls Tryz.prog 141 #[.int .i64 2, .pointer (some ⟨b, 0, none⟩)] w fun e w' => e = .returned (.int .u8 (128 + c / 4096 % 64)) ∧ w' = w := by
 have e1 : bits .and .u8 (c / 4096 % 256) 63 = c / 4096 % 64 := by rw [e8_and63 (by omega) (by omega)]; omega
 have e2 : bits .or .u8 128 (c / 4096 % 64) = 128 + c / 4096 % 64 := e8_or128 (by omega) (by omega)
 go_enter Tryz.func141, Tryz.ntmps141
 go_wp2
 go_ret
 exact ⟨rfl, rfl⟩
set_option maxRecDepth 100000 in
set_option maxHeartbeats 4000000 in
theorem bytes8_c {w : World} {g : Nat} {d : ESt E8} (hb : Blk w g T8 (Cs8 d)) (c : Int) (h0 : 0 ≤ c) (h1 : isScal c = true) :
  Calls Tryz.prog 139 #[.pointer (some ⟨g, 0, none⟩), .int .u32 c] w fun e w' => e = .returned (.string (strOf (E8.put d.st c).2)) ∧ Blk w' g T8 (Cs8 { d with st := (E8.put d.st c).1 }) ∧ Eff w w' (fun k => k = g) := by
 have hc1 : c ≤ 1114111 := by unfold isScal at h1; simp at h1; omega
 have HB := Lib.hid hb
 show Calls _ _ _ _ fun e w' => e = .returned (.string (strOf (bytes8 c))) ∧ Blk w' g T8 (Cs8 d) ∧ Eff w w' (fun k => k = g)
 clear hb h1
 have hmf : ∀ (fn : Fn) (first cap : Array Value) (w : World), (Instr.makeFunc fn first cap).run Tryz.prog w = .ok (.func fn first cap) w := fun _ _ _ _ => rfl
 have hW0 := (Blk.new w 48 #[.int .u32 c])
 have hc0 : (w.alloc (.cells #[.int .u32 c] 48 (0, 0))).cell? ⟨w.heap.size, 0, none⟩ = some (.int .u32 c) := hW0.cell rfl
 clear hW0
 by_cases ha : c < 128
 ·have d1 : decide (c < 128) = true := decide_eq_true ha
  have hB : bytes8 c = [c] := by unfold bytes8; rw [if_pos ha]
  rw [hB]
  have hc := conv8 (w.alloc (.cells #[.int .u32 c] 48 (0, 0))) [c] 1 (by simp)
  simp only [nums, List.map_cons, List.map_nil, List.length_cons, List.length_nil, Nat.zero_add, World.size_alloc] at hc
  go_enter Tryz.func139, Tryz.ntmps139
  go_wp2_with fail
  go_ret
  exact ⟨rfl, (HB.out.alloc _).alloc _, (Eff.alloc _ _ _).trans (Eff.alloc _ _ _) (fun _ _ h => h)⟩
 ·have d1 : decide (c < 128) = false := decide_eq_false ha
  by_cases hbb : c < 2048
  ·have d2 : decide (c < 2048) = true := decide_eq_true hbb
   have hB : bytes8 c = [192 + c / 64, 128 + c % 64] := by unfold bytes8; rw [if_neg ha, if_pos hbb]
   rw [hB]
   have hT0 := fun W (h : W.cell? ⟨w.heap.size, 0, none⟩ = some (.int .u32 c)) => tail8_0 (w := W) h h0 hc1
   have HT0 := Lib.hid hT0
   clear hT0
   have e2 : bits .or .u8 192 (c / 64) = 192 + c / 64 := e8_or192 (by omega) (by omega)
   have e3 : IntKind.u8.wrap (c / 64) = c / 64 := by rw [IntKind.wrap_u8]; omega
   have hc := conv8d (w.alloc (.cells #[.int .u32 c] 48 (0, 0))) [192 + c / 64, 128 + c % 64] 2 (by simp)
   simp only [nums, List.map_cons, List.map_nil, List.length_cons, List.length_nil, Nat.zero_add, World.size_alloc] at hc
   go_enter Tryz.func139, Tryz.ntmps139
   go_wp2_with fail
   refine wp_region_still_tail 6 (by kernel_rfl) (by kernel_rfl) ?_
   simp only [List.take_succ_cons, List.take_zero, List.drop_succ_cons, List.drop_zero]
   change wpStill _ _ (w.alloc (.cells #[.int .u32 c] 48 (0, 0))).drew _ _ _
   have hc1 : (w.alloc (.cells #[.int .u32 c] 48 (0, 0))).drew.cell? ⟨w.heap.size, 0, none⟩ = some (.int .u32 c) := hc0
   still_step
   still_step
   still_step
   still_step
   still_step
   still_call (HT0.out _ hc1)
   refine wpStill_nil ?_
   change wpList _ _ _ _ _ (w.alloc (.cells #[.int .u32 c] 48 (0, 0))).drew
   go_wp2_with fail
   go_ret
   exact ⟨rfl, (HB.out.alloc _).alloc _, ((Eff.alloc w _ _).trans (Eff.alloc _ _ _) (fun _ _ h => h)).trans (Eff.drewN _ 1 _) (fun _ _ h => h)⟩
  ·have d2 : decide (c < 2048) = false := decide_eq_false hbb
   by_cases hcc : c < 65536
   ·have d3 : decide (c < 65536) = true := decide_eq_true hcc
    have hB : bytes8 c = [224 + c / 4096, 128 + c / 64 % 64, 128 + c % 64] := by unfold bytes8; rw [if_neg ha, if_neg hbb, if_pos hcc]
    rw [hB]
    have HT0 := Lib.hid (fun W (h : W.cell? ⟨w.heap.size, 0, none⟩ = some (.int .u32 c)) => tail8_0 (w := W) h h0 hc1)
    have HT1 := Lib.hid (fun W (h : W.cell? ⟨w.heap.size, 0, none⟩ = some (.int .u32 c)) => tail8_1 (w := W) h h0 hc1)
    have e2 : bits .or .u8 224 (c / 4096) = 224 + c / 4096 := e8_or224 (by omega) (by omega)
    have e3 : IntKind.u8.wrap (c / 4096) = c / 4096 := by rw [IntKind.wrap_u8]; omega
    have hc := conv8d (w.alloc (.cells #[.int .u32 c] 48 (0, 0))) [224 + c / 4096, 128 + c / 64 % 64, 128 + c % 64] 3 (by simp)
    simp only [nums, List.map_cons, List.map_nil, List.length_cons, List.length_nil, Nat.zero_add, World.size_alloc] at hc
    go_enter Tryz.func139, Tryz.ntmps139
    go_wp2_with fail
    refine wp_region_still_tail 8 (by kernel_rfl) (by kernel_rfl) ?_
    simp only [List.take_succ_cons, List.take_zero, List.drop_succ_cons, List.drop_zero]
    change wpStill _ _ (w.alloc (.cells #[.int .u32 c] 48 (0, 0))).drew _ _ _
    have hc1 : (w.alloc (.cells #[.int .u32 c] 48 (0, 0))).drew.cell? ⟨w.heap.size, 0, none⟩ = some (.int .u32 c) := hc0
    still_step
    still_step
    still_step
    still_step
    still_step
    still_call (HT1.out _ hc1)
    still_step
    still_call (HT0.out _ hc1)
    refine wpStill_nil ?_
    change wpList _ _ _ _ _ (w.alloc (.cells #[.int .u32 c] 48 (0, 0))).drew
    go_wp2_with fail
    go_ret
    exact ⟨rfl, (HB.out.alloc _).alloc _, ((Eff.alloc w _ _).trans (Eff.alloc _ _ _) (fun _ _ h => h)).trans (Eff.drewN _ 1 _) (fun _ _ h => h)⟩
   ·have d3 : decide (c < 65536) = false := decide_eq_false hcc
    have hB : bytes8 c = [240 + c / 262144, 128 + c / 4096 % 64, 128 + c / 64 % 64, 128 + c % 64] := by unfold bytes8; rw [if_neg ha, if_neg hbb, if_neg hcc]
    rw [hB]
    have HT0 := Lib.hid (fun W (h : W.cell? ⟨w.heap.size, 0, none⟩ = some (.int .u32 c)) => tail8_0 (w := W) h h0 hc1)
    have HT1 := Lib.hid (fun W (h : W.cell? ⟨w.heap.size, 0, none⟩ = some (.int .u32 c)) => tail8_1 (w := W) h h0 hc1)
    have HT2 := Lib.hid (fun W (h : W.cell? ⟨w.heap.size, 0, none⟩ = some (.int .u32 c)) => tail8_2 (w := W) h h0 hc1)
    have e2 : bits .or .u8 240 (c / 262144) = 240 + c / 262144 := e8_or240 (by omega) (by omega)
    have e3 : IntKind.u8.wrap (c / 262144) = c / 262144 := by rw [IntKind.wrap_u8]; omega
    have hc := conv8d (w.alloc (.cells #[.int .u32 c] 48 (0, 0))) [240 + c / 262144, 128 + c / 4096 % 64, 128 + c / 64 % 64, 128 + c % 64] 4 (by simp)
    simp only [nums, List.map_cons, List.map_nil, List.length_cons, List.length_nil, Nat.zero_add, World.size_alloc] at hc
    go_enter Tryz.func139, Tryz.ntmps139
    go_wp2_with fail
    refine wp_region_still_tail 10 (by kernel_rfl) (by kernel_rfl) ?_
    simp only [List.take_succ_cons, List.take_zero, List.drop_succ_cons, List.drop_zero]
    change wpStill _ _ (w.alloc (.cells #[.int .u32 c] 48 (0, 0))).drew _ _ _
    have hc1 : (w.alloc (.cells #[.int .u32 c] 48 (0, 0))).drew.cell? ⟨w.heap.size, 0, none⟩ = some (.int .u32 c) := hc0
    still_step
    still_step
    still_step
    still_step
    still_step
    still_call (HT2.out _ hc1)
    still_step
    still_call (HT1.out _ hc1)
    still_step
    still_call (HT0.out _ hc1)
    refine wpStill_nil ?_
    change wpList _ _ _ _ _ (w.alloc (.cells #[.int .u32 c] 48 (0, 0))).drew
    go_wp2_with fail
    go_ret
    exact ⟨rfl, (HB.out.alloc _).alloc _, ((Eff.alloc w _ _).trans (Eff.alloc _ _ _) (fun _ _ h => h)).trans (Eff.drewN _ 1 _) (fun _ _ h => h)⟩
end Go.Proofs.YtmgnndnofbemeaaGreat
namespace Go.Proofs.YtmgnndnofbemeaaGreat
set_option linter.unusedVariables false
set_option linter.unusedSimpArgs false
def bytesE (E : EMach) : E.St → List Int → List Int
 | st, [] => E.fin st
 | st, c :: r => (E.put st c).2 ++ bytesE E (E.put st c).1 r
def AllS (l : List Int) : Prop := ∀ x ∈ l, 0 ≤ x ∧ isScal x = true
theorem runE_ok (E : EMach) : ∀ (l : List Int) (st : E.St) (p : Nat) (acc : List Int), AllS l → runE E st l p acc = (acc ++ bytesE E st l, 0, 0)
 | [], st, p, acc, h => rfl
 | c :: r, st, p, acc, h => by
  rw [runE, if_pos (h c (List.mem_cons_self ..)).2, runE_ok E r _ _ _ (fun x hx => h x (List.mem_cons_of_mem _ hx)), bytesE, List.append_assoc]
def BackM (E : EMach) (D : DMach) : Prop := ∀ l, AllS l → runD D D.ini (bytesE E E.ini l) 0 [] = (l, 0, 0)
structure SimM (E : EMach) (D : DMach) (I : E.St → D.St → List Int → Prop) : Prop where
 ini : I E.ini D.ini []
 put : ∀ st s pd c, I st s pd → 0 ≤ c → isScal c = true → ∃ s' pd' told, pd ++ [c] = told ++ pd' ∧ I (E.put st c).1 s' pd' ∧ ∀ rest p acc, ∃ q, runD D s ((E.put st c).2 ++ rest) p acc = runD D s' rest q (acc ++ told)
 fin : ∀ st s pd, I st s pd → ∀ p acc, runD D s (E.fin st) p acc = (acc ++ pd, 0, 0)
theorem SimM.back {E : EMach} {D : DMach} {I : E.St → D.St → List Int → Prop} (h : SimM E D I) : BackM E D := by
 have key : ∀ (l : List Int) (st : E.St) (s : D.St) (pd : List Int), I st s pd → AllS l → ∀ p acc, runD D s (bytesE E st l) p acc = (acc ++ (pd ++ l), 0, 0) := by
  intro l
  induction l with
  | nil => intro st s pd hi _ p acc; rw [bytesE, h.fin st s pd hi, List.append_nil]
  | cons c r ih =>
   intro st s pd hi hl p acc
   have hc := hl c (List.mem_cons_self ..)
   obtain ⟨s', pd', told, e, hi', hr⟩ := h.put st s pd c hi hc.1 hc.2
   obtain ⟨q, hq⟩ := hr (bytesE E (E.put st c).1 r) p acc
   rw [bytesE, hq, ih _ _ _ hi' (fun x hx => hl x (List.mem_cons_of_mem _ hx)), show pd ++ c :: r = (pd ++ [c]) ++ r by simp, e]
   simp
 intro l hl
 have := key l E.ini D.ini [] h.ini hl 0 []
 simpa using this
theorem runD_some {D : DMach} {s s' : D.St} {b : Int} {k : List Int} (h : D.next s b = some (s', k)) (r : List Int) (p : Nat) (acc : List Int) : runD D s (b :: r) p acc = runD D s' r (p + 1) (acc ++ k) := by
 rw [runD, h]
theorem sim_plain {E : EMach} {D : DMach} (J : D.St → Prop) (h0 : J D.ini) (hp : ∀ st s c, J s → 0 ≤ c → isScal c = true → ∃ s', J s' ∧ ∀ rest p acc, ∃ q, runD D s ((E.put st c).2 ++ rest) p acc = runD D s' rest q (acc ++ [c])) (hf : ∀ st, E.fin st = []) (hd : ∀ s, J s → D.fin s = some []) :
  SimM E D (fun _ s pd => J s ∧ pd = []) where
 ini := ⟨h0, rfl⟩
 put st s pd c hi h0 h1 := by
  obtain ⟨hj, rfl⟩ := hi
  obtain ⟨s', hs', hr⟩ := hp st s c hj h0 h1
  exact ⟨s', [], [c], rfl, ⟨hs', rfl⟩, hr⟩
 fin st s pd hi p acc := by
  obtain ⟨hj, rfl⟩ := hi
  rw [hf, runD, hd s hj]
theorem back8 : BackM E8 DV := by
 refine (sim_plain (fun s : V8 => s.need = 0) rfl (fun st s c hj h0 h1 => ?_) (fun _ => rfl) (fun s hs => by show (if s.need = 0 then some [] else none) = _; rw [if_pos hs])).back
 have hc1 : c ≤ 1114111 := by unfold isScal at h1; simp at h1; omega
 have hsur : ¬ (55296 ≤ c ∧ c ≤ 57343) := by unfold isScal at h1; simp at h1; omega
 show ∃ s' : V8, s'.need = 0 ∧ ∀ rest p acc, ∃ q, runD DV s (bytes8 c ++ rest) p acc = runD DV s' rest q (acc ++ [c])
 have n1 : ∀ (lo hi cc b : Int), lo ≤ b → b ≤ hi → DV.next (⟨1, lo, hi, cc⟩ : V8) b = some ((⟨0, 128, 191, cc * 64 + b % 64⟩ : V8), [cc * 64 + b % 64]) := fun lo hi cc b g1 g2 => by
  show nextV ⟨1, lo, hi, cc⟩ b = some (⟨0, 128, 191, cc * 64 + b % 64⟩, [cc * 64 + b % 64])
  unfold nextV
  rw [if_neg (show ¬ ((1 : Int) = 0) by decide), if_neg (by show ¬ (b < lo ∨ hi < b); omega), if_pos rfl]
 have nn : ∀ (n lo hi cc b : Int), 2 ≤ n → lo ≤ b → b ≤ hi → DV.next (⟨n, lo, hi, cc⟩ : V8) b = some ((⟨n - 1, 128, 191, cc * 64 + b % 64⟩ : V8), []) := fun n lo hi cc b g0 g1 g2 => by
  show nextV ⟨n, lo, hi, cc⟩ b = some (⟨n - 1, 128, 191, cc * 64 + b % 64⟩, [])
  unfold nextV
  rw [if_neg (by show ¬ n = 0; omega), if_neg (by show ¬ (b < lo ∨ hi < b); omega), if_neg (by show ¬ n = 1; omega)]
 unfold bytes8
 by_cases a1 : c < 128
 ·rw [if_pos a1]
  refine ⟨s, hj, fun rest p acc => ⟨p + 1, runD_some (D := DV) (s' := s) ?_ rest p acc⟩⟩
  show nextV s c = some (s, [c])
  unfold nextV
  rw [if_pos hj, if_pos a1]
  rfl
 ·rw [if_neg a1]
  have lead : ∀ b, 194 ≤ b → b ≤ 244 → DV.next s b = some ((⟨if b < 224 then 1 else if b < 240 then 2 else 3, if b = 224 then 160 else if b = 240 then 144 else 128, if b = 237 then 159 else if b = 244 then 143 else 191, if b < 224 then b % 32 else if b < 240 then b % 16 else b % 8⟩ : V8), []) := fun b g1 g2 => by
   show nextV s b = some (⟨if b < 224 then 1 else if b < 240 then 2 else 3, if b = 224 then 160 else if b = 240 then 144 else 128, if b = 237 then 159 else if b = 244 then 143 else 191, if b < 224 then b % 32 else if b < 240 then b % 16 else b % 8⟩, [])
   unfold nextV leadV
   rw [if_pos hj, if_neg (by omega), if_neg (by omega)]
  by_cases a2 : c < 2048
  ·rw [if_pos a2]
   refine ⟨(⟨0, 128, 191, c⟩ : V8), rfl, fun rest p acc => ⟨p + 1 + 1, ?_⟩⟩
   ·rw [List.cons_append, List.cons_append, List.nil_append, runD_some (lead _ (by omega) (by omega)), if_pos (by omega), if_neg (by omega), if_neg (by omega), if_neg (by omega), if_neg (by omega), if_pos (by omega), runD_some (n1 _ _ _ _ (by omega) (by omega)), List.append_nil, show (192 + c / 64) % 32 * 64 + (128 + c % 64) % 64 = c by omega]
  ·rw [if_neg a2]
   by_cases a3 : c < 65536
   ·rw [if_pos a3]
    refine ⟨(⟨0, 128, 191, c⟩ : V8), rfl, fun rest p acc => ⟨p + 1 + 1 + 1, ?_⟩⟩
    ·rw [List.cons_append, List.cons_append, List.cons_append, List.nil_append, runD_some (lead _ (by omega) (by omega)), if_neg (by omega), if_pos (by omega), if_neg (show ¬ 224 + c / 4096 < 224 by omega), if_pos (show 224 + c / 4096 < 240 by omega), if_neg (show ¬ 224 + c / 4096 = 240 by omega), if_neg (show ¬ 224 + c / 4096 = 244 by omega)]
     rw [runD_some (nn _ _ _ _ _ (by omega) (by split <;> omega) (by split <;> omega)), show (2 : Int) - 1 = 1 from rfl, runD_some (n1 _ _ _ _ (by omega) (by omega)), List.append_nil, List.append_nil, show ((224 + c / 4096) % 16 * 64 + (128 + c / 64 % 64) % 64) * 64 + (128 + c % 64) % 64 = c by omega]
   ·rw [if_neg a3]
    refine ⟨(⟨0, 128, 191, c⟩ : V8), rfl, fun rest p acc => ⟨p + 1 + 1 + 1 + 1, ?_⟩⟩
    ·rw [List.cons_append, List.cons_append, List.cons_append, List.cons_append, List.nil_append, runD_some (lead _ (by omega) (by omega)), if_neg (show ¬ 240 + c / 262144 < 224 by omega), if_neg (show ¬ 240 + c / 262144 < 240 by omega), if_neg (show ¬ 240 + c / 262144 < 224 by omega), if_neg (show ¬ 240 + c / 262144 < 240 by omega), if_neg (show ¬ 240 + c / 262144 = 224 by omega), if_neg (show ¬ 240 + c / 262144 = 237 by omega)]
     rw [runD_some (nn _ _ _ _ _ (by omega) (by split <;> omega) (by split <;> omega)), show (3 : Int) - 1 = 2 from rfl, runD_some (nn _ _ _ _ _ (by omega) (by omega) (by omega)), show (2 : Int) - 1 = 1 from rfl, runD_some (n1 _ _ _ _ (by omega) (by omega)), List.append_nil, List.append_nil, List.append_nil, show (((240 + c / 262144) % 8 * 64 + (128 + c / 4096 % 64) % 64) * 64 + (128 + c / 64 % 64) % 64) * 64 + (128 + c % 64) % 64 = c by omega]
end Go.Proofs.YtmgnndnofbemeaaGreat
namespace Go.Proofs.YtmgnndnofbemeaaGreat
open Go.RowKit Go.Proofs.YtmgnndnofbemeaaGreatW.PrintWords Go.Proofs.YtmgnndnofbemeaaGreatW.PrintLast Go.Proofs.YtmgnndnofbemeaaGreatW.PrintMore Go.Proofs.YtmgnndnofbemeaaGreat.PPu
set_option linter.unusedVariables false
set_option linter.unusedSimpArgs false
def firF (l : List Int) : Int := match l.findIdx? (fun c => !isScal c) with | some i => (i : Int) | none => -1
theorem is_f (c : Int) (h0 : 0 ≤ c) : pilcrowref01_Is.f c = some (isScal c) := by
 unfold pilcrowref01_Is.f isScal
 by_cases a : 55296 ≤ c
 ·rw [if_pos a]
  by_cases b : c ≤ 57343
  ·rw [if_pos b, decide_eq_true a, decide_eq_true b]; simp
  ·rw [if_neg b, decide_eq_true a, decide_eq_false b]; simp
 ·rw [if_neg a, decide_eq_false a]; simp
theorem fir_l0 (l : List Int) (hl : l.length ≤ 1000000) (h0 : ∀ y ∈ l, 0 ≤ y) : ∀ (m i k : Nat), i + m = l.length → m + 1 ≤ k → pilcrowref01_First.l0 k l i = some (match (l.drop i).findIdx? (fun c => !isScal c) with | some j => ((i + j : Nat) : Int) | none => -1)
 | 0, i, k, hi, hk => by
  obtain ⟨k, rfl⟩ : ∃ j, k = j + 1 := ⟨k - 1, by omega⟩
  rw [pilcrowref01_First.l0, if_neg (by omega), List.drop_eq_nil_of_le (by omega)]
  rfl
 | m + 1, i, k, hi, hk => by
  obtain ⟨k, rfl⟩ : ∃ j, k = j + 1 := ⟨k - 1, by omega⟩
  have hm : l.getD i 0 ∈ l := by rw [List.getD_eq_getElem?_getD, List.getElem?_eq_getElem (by omega)]; exact List.getElem_mem _
  have hd : l.drop i = l.getD i 0 :: l.drop (i + 1) := drop_cons l i (by omega)
  have hr : rd l (i : Int) = l.getD i 0 := by simp [rd]
  rw [pilcrowref01_First.l0, if_pos (by omega), if_pos (by omega), hr, is_f _ (h0 _ hm), Option.bind_some, hd, List.findIdx?_cons]
  cases hs : isScal (l.getD i 0) with
  | true =>
   rw [if_pos rfl, wrap64_in (by omega) (by omega), show ((i : Int) + 1) = ((i + 1 : Nat) : Int) by omega, fir_l0 l hl h0 m (i + 1) k (by omega) (by omega)]
   simp only [Bool.not_true, Bool.false_eq_true, if_false]
   cases (l.drop (i + 1)).findIdx? (fun c => !isScal c) with
   | none => rfl
   | some j => simp only [Option.map_some]; rw [show i + 1 + j = i + (j + 1) by omega]
  | false =>
   rw [if_neg (by decide)]
   simp
theorem fir_c (A : Option Addr) (c : Nat) (l : List Int) (w : World) (h : ReadsInt w .u32 A l.length l) (hc : l.length ≤ c) (hl : l.length ≤ 1000000) (h0 : ∀ y ∈ l, 0 ≤ y) :
  Calls Tryz.prog 12 #[.slice A l.length c] w fun e w' => e = .returned (.int .i64 (firF l)) ∧ Below w.heap.size w w' := by
 have h1 := fir_l0 l hl h0 l.length 0 (l.length + 1) (by omega) (Nat.le_refl _)
 rw [List.drop_zero] at h1
 have h2 : pilcrowref01_First.f (l.length + 1) l = some (firF l) := by
  unfold pilcrowref01_First.f firF
  rw [show (0 : Int) = ((0 : Nat) : Int) from rfl, h1]
  cases l.findIdx? (fun c => !isScal c) with
  | none => rfl
  | some j => simp
 refine (pilcrowref01_First.calls (l.length + 1) A c l (firF l) w (Kd.C_of_reads (d := (0 : Int)) h) hc h2).mono ?_
 rintro e w' ⟨rfl, ⟨nd, rfl⟩⟩
 exact ⟨rfl, below_drewN' (Below.refl _ _) nd⟩
theorem fir_no {l : List Int} (h : firF l < 0) (h0 : ∀ y ∈ l, 0 ≤ y) : AllS l ∧ firF l = -1 := by
 unfold firF at h ⊢
 cases hf : l.findIdx? (fun c => !isScal c) with
 | some j => rw [hf] at h; dsimp only at h; omega
 | none =>
  refine ⟨fun x hx => ⟨h0 x hx, ?_⟩, rfl⟩
  have := List.findIdx?_eq_none_iff.1 hf x hx
  simpa using this
end Go.Proofs.YtmgnndnofbemeaaGreat
