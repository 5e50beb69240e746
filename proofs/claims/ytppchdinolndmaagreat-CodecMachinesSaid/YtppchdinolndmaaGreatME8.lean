/- Joined texts: E8, Ha. -/
import Derived.Test.YtppchdinolndmaaGreatMUstp
import Derived.Test.YtppchdinolndmaaGreatMBit
import Derived.StillTailTactics
import Derived.Deep.CutBlock
import Derived.Test.YtppchdinolndmaaGreatMBase
import Derived.Test.YtppchdinolndmaaGreatMDv
namespace Go.Proofs.YtppchdinolndmaaGreat
open Go.RowKit Go.Proofs.YtppchdinolndmaaGreatW.PrintWords
set_option linter.unusedVariables false
set_option linter.unusedSimpArgs false
def bytes8 (c : Int) : List Int :=
 if c < 128 then [c] else if c < 2048 then [192 + c / 64, 128 + c % 64] else if c < 65536 then [224 + c / 4096, 128 + c / 64 % 64, 128 + c % 64]
 else [240 + c / 262144, 128 + c / 4096 % 64, 128 + c / 64 % 64, 128 + c % 64]
def E8 : EMach := ⟨Unit, (), fun _ c => ((), bytes8 c), fun _ => [], fun _ => []⟩
abbrev T8 : TypeId := 100
def Cs8 (d : ESt E8) : Array Value := #[.int .i64 d.pos, .int .i64 d.err, .int .i64 d.fat, .bool d.en, .string (strOf d.kept)]
def Rep8 (w : World) (g : Nat) (F : Nat → Prop) (d : ESt E8) : Prop := Blk w g T8 (Cs8 d) ∧ ∀ k, F k ↔ k = g
theorem bytes8_len (st : E8.St) (c : Int) : (E8.put st c).2.length ≤ 4 := by
 show (bytes8 c).length ≤ 4
 unfold bytes8
 split
 ·exact (by decide : 1 ≤ 4)
 ·split
  ·exact (by decide : 2 ≤ 4)
  ·split
   ·exact (by decide : 3 ≤ 4)
   ·exact (by decide : 4 ≤ 4)
theorem e8_and63 {x : Int} (h0 : 0 ≤ x) (h1 : x < 256) : bits .and .u8 x 63 = x % 64 := bits_mask .u8 8 (by decide) wraps_u8 6 (by decide) x h0 h1
theorem e8_or128 {y : Int} (h0 : 0 ≤ y) (h1 : y < 64) : bits .or .u8 128 y = 128 + y := bits_join .u8 8 (by decide) wraps_u8 6 128 y (by decide) (by decide) (by decide) h0 h1 (by omega)
theorem e8_or192 {y : Int} (h0 : 0 ≤ y) (h1 : y < 32) : bits .or .u8 192 y = 192 + y := bits_join .u8 8 (by decide) wraps_u8 5 192 y (by decide) (by decide) (by decide) h0 h1 (by omega)
theorem e8_or224 {y : Int} (h0 : 0 ≤ y) (h1 : y < 16) : bits .or .u8 224 y = 224 + y := bits_join .u8 8 (by decide) wraps_u8 4 224 y (by decide) (by decide) (by decide) h0 h1 (by omega)
theorem e8_or240 {y : Int} (h0 : 0 ≤ y) (h1 : y < 8) : bits .or .u8 240 y = 240 + y := bits_join .u8 8 (by decide) wraps_u8 3 240 y (by decide) (by decide) (by decide) h0 h1 (by omega)
theorem tail8_0 {w : World} {b : Nat} {c : Int} (hc : w.cell? ⟨b, 0, none⟩ = some (.int .u32 c)) (h0 : 0 ≤ c) (h1 : c ≤ 1114111) :
  Calls Tryz.prog 110 #[.int .i64 0, .pointer (some ⟨b, 0, none⟩)] w fun e w' => e = .returned (.int .u8 (128 + c % 64)) ∧ w' = w := by
 have e1 : bits .and .u8 (c % 256) 63 = c % 64 := by rw [e8_and63 (by omega) (by omega)]; omega
 have e2 : bits .or .u8 128 (c % 64) = 128 + c % 64 := e8_or128 (by omega) (by omega)
 go_enter Tryz.func110, Tryz.ntmps110
 go_wp2
 go_ret
 exact ⟨rfl, rfl⟩
theorem tail8_1 {w : World} {b : Nat} {c : Int} (hc : w.cell? ⟨b, 0, none⟩ = some (.int .u32 c)) (h0 : 0 ≤ c) (h1 : c ≤ 1114111) :
  Calls Tryz.prog 110 #[.int .i64 1, .pointer (some ⟨b, 0, none⟩)] w fun e w' => e = .returned (.int .u8 (128 + c / 64 % 64)) ∧ w' = w := by
 have e1 : bits .and .u8 (c / 64 % 256) 63 = c / 64 % 64 := by rw [e8_and63 (by omega) (by omega)]; omega
 have e2 : bits .or .u8 128 (c / 64 % 64) = 128 + c / 64 % 64 := e8_or128 (by omega) (by omega)
 go_enter Tryz.func110, Tryz.ntmps110
 go_wp2
 go_ret
 exact ⟨rfl, rfl⟩
theorem tail8_2 {w : World} {b : Nat} {c : Int} (hc : w.cell? ⟨b, 0, none⟩ = some (.int .u32 c)) (h0 : 0 ≤ c) (h1 : c ≤ 1114111) :
  Calls Tryz.prog 110 #[.int .i64 2, .pointer (some ⟨b, 0, none⟩)] w fun e w' => e = .returned (.int .u8 (128 + c / 4096 % 64)) ∧ w' = w := by
 have e1 : bits .and .u8 (c / 4096 % 256) 63 = c / 4096 % 64 := by rw [e8_and63 (by omega) (by omega)]; omega
 have e2 : bits .or .u8 128 (c / 4096 % 64) = 128 + c / 4096 % 64 := e8_or128 (by omega) (by omega)
 go_enter Tryz.func110, Tryz.ntmps110
 go_wp2
 go_ret
 exact ⟨rfl, rfl⟩
set_option maxRecDepth 100000 in
set_option maxHeartbeats 4000000 in
theorem bytes8_c {w : World} {g : Nat} {d : ESt E8} (hb : Blk w g T8 (Cs8 d)) (c : Int) (h0 : 0 ≤ c) (h1 : isScal c = true) :
  Calls Tryz.prog 108 #[.pointer (some ⟨g, 0, none⟩), .int .u32 c] w fun e w' => e = .returned (.string (strOf (E8.put d.st c).2)) ∧ Blk w' g T8 (Cs8 { d with st := (E8.put d.st c).1 }) ∧ Eff w w' (fun k => k = g) := by
 have hc1 : c ≤ 1114111 := by unfold isScal at h1; simp at h1; omega
 have HB := Lib.hid hb
 show Calls _ _ _ _ fun e w' => e = .returned (.string (strOf (bytes8 c))) ∧ Blk w' g T8 (Cs8 d) ∧ Eff w w' (fun k => k = g)
 clear hb h1
 have hmf : ∀ (fn : Fn) (first cap : Array Value) (w : World), (Instr.makeFunc fn first cap).run Tryz.prog w = .ok (.func fn first cap) w := fun _ _ _ _ => rfl
 have hW0 := (Blk.new w 47 #[.int .u32 c])
 have hc0 : (w.alloc (.cells #[.int .u32 c] 47 (0, 0))).cell? ⟨w.heap.size, 0, none⟩ = some (.int .u32 c) := hW0.cell rfl
 clear hW0
 by_cases ha : c < 128
 ·have d1 : decide (c < 128) = true := decide_eq_true ha
  have hB : bytes8 c = [c] := by unfold bytes8; rw [if_pos ha]
  rw [hB]
  have hc := conv8 (w.alloc (.cells #[.int .u32 c] 47 (0, 0))) [c] 1 (by simp)
  simp only [nums, List.map_cons, List.map_nil, List.length_cons, List.length_nil, Nat.zero_add, World.size_alloc] at hc
  go_enter Tryz.func108, Tryz.ntmps108
  go_wp2_with fail
  go_ret
  exact ⟨rfl, (HB.out.alloc _).alloc _, (Eff.alloc _ _ _).trans (Eff.alloc _ _ _) (fun _ _ h => h)⟩
 ·have d1 : decide (c < 128) = false := decide_eq_false ha
  by_cases hbb : c < 2048
  ·have d2 : decide (c < 2048) = true := decide_eq_true hbb
   have hB : bytes8 c = [192 + c / 64, 128 + c % 64] := by unfold bytes8; rw [if_neg ha, if_pos hbb]
   rw [hB]
   have hT0 := fun W (h : W.cell? ⟨w.heap.size, 0, none⟩ = some (.int .u32 c)) => tail8_0 (w := W) h h0 hc1
   have HT0 := Lib.hid hT0
   clear hT0
   have e2 : bits .or .u8 192 (c / 64) = 192 + c / 64 := e8_or192 (by omega) (by omega)
   have e3 : IntKind.u8.wrap (c / 64) = c / 64 := by rw [IntKind.wrap_u8]; omega
   have hc := conv8d (w.alloc (.cells #[.int .u32 c] 47 (0, 0))) [192 + c / 64, 128 + c % 64] 2 (by simp)
   simp only [nums, List.map_cons, List.map_nil, List.length_cons, List.length_nil, Nat.zero_add, World.size_alloc] at hc
   go_enter Tryz.func108, Tryz.ntmps108
   go_wp2_with fail
   refine wp_region_still_tail 6 (by kernel_rfl) (by kernel_rfl) ?_
   simp only [List.take_succ_cons, List.take_zero, List.drop_succ_cons, List.drop_zero]
   change wpStill _ _ (w.alloc (.cells #[.int .u32 c] 47 (0, 0))).drew _ _ _
   have hc1 : (w.alloc (.cells #[.int .u32 c] 47 (0, 0))).drew.cell? ⟨w.heap.size, 0, none⟩ = some (.int .u32 c) := hc0
   still_step
   still_step
   still_step
   still_step
   still_step
   still_call (HT0.out _ hc1)
   refine wpStill_nil ?_
   change wpList _ _ _ _ _ (w.alloc (.cells #[.int .u32 c] 47 (0, 0))).drew
   go_wp2_with fail
   go_ret
   exact ⟨rfl, (HB.out.alloc _).alloc _, ((Eff.alloc w _ _).trans (Eff.alloc _ _ _) (fun _ _ h => h)).trans (Eff.drewN _ 1 _) (fun _ _ h => h)⟩
  ·have d2 : decide (c < 2048) = false := decide_eq_false hbb
   by_cases hcc : c < 65536
   ·have d3 : decide (c < 65536) = true := decide_eq_true hcc
    have hB : bytes8 c = [224 + c / 4096, 128 + c / 64 % 64, 128 + c % 64] := by unfold bytes8; rw [if_neg ha, if_neg hbb, if_pos hcc]
    rw [hB]
    have HT0 := Lib.hid (fun W (h : W.cell? ⟨w.heap.size, 0, none⟩ = some (.int .u32 c)) => tail8_0 (w := W) h h0 hc1)
    have HT1 := Lib.hid (fun W (h : W.cell? ⟨w.heap.size, 0, none⟩ = some (.int .u32 c)) => tail8_1 (w := W) h h0 hc1)
    have e2 : bits .or .u8 224 (c / 4096) = 224 + c / 4096 := e8_or224 (by omega) (by omega)
    have e3 : IntKind.u8.wrap (c / 4096) = c / 4096 := by rw [IntKind.wrap_u8]; omega
    have hc := conv8d (w.alloc (.cells #[.int .u32 c] 47 (0, 0))) [224 + c / 4096, 128 + c / 64 % 64, 128 + c % 64] 3 (by simp)
    simp only [nums, List.map_cons, List.map_nil, List.length_cons, List.length_nil, Nat.zero_add, World.size_alloc] at hc
    go_enter Tryz.func108, Tryz.ntmps108
    go_wp2_with fail
    refine wp_region_still_tail 8 (by kernel_rfl) (by kernel_rfl) ?_
    simp only [List.take_succ_cons, List.take_zero, List.drop_succ_cons, List.drop_zero]
    change wpStill _ _ (w.alloc (.cells #[.int .u32 c] 47 (0, 0))).drew _ _ _
    have hc1 : (w.alloc (.cells #[.int .u32 c] 47 (0, 0))).drew.cell? ⟨w.heap.size, 0, none⟩ = some (.int .u32 c) := hc0
    still_step
    still_step
    still_step
    still_step
    still_step
    still_call (HT1.out _ hc1)
    still_step
    still_call (HT0.out _ hc1)
    refine wpStill_nil ?_
    change wpList _ _ _ _ _ (w.alloc (.cells #[.int .u32 c] 47 (0, 0))).drew
    go_wp2_with fail
    go_ret
    exact ⟨rfl, (HB.out.alloc _).alloc _, ((Eff.alloc w _ _).trans (Eff.alloc _ _ _) (fun _ _ h => h)).trans (Eff.drewN _ 1 _) (fun _ _ h => h)⟩
   ·have d3 : decide (c < 65536) = false := decide_eq_false hcc
    have hB : bytes8 c = [240 + c / 262144, 128 + c / 4096 % 64, 128 + c / 64 % 64, 128 + c % 64] := by unfold bytes8; rw [if_neg ha, if_neg hbb, if_neg hcc]
    rw [hB]
    have HT0 := Lib.hid (fun W (h : W.cell? ⟨w.heap.size, 0, none⟩ = some (.int .u32 c)) => tail8_0 (w := W) h h0 hc1)
    have HT1 := Lib.hid (fun W (h : W.cell? ⟨w.heap.size, 0, none⟩ = some (.int .u32 c)) => tail8_1 (w := W) h h0 hc1)
    have HT2 := Lib.hid (fun W (h : W.cell? ⟨w.heap.size, 0, none⟩ = some (.int .u32 c)) => tail8_2 (w := W) h h0 hc1)
    have e2 : bits .or .u8 240 (c / 262144) = 240 + c / 262144 := e8_or240 (by omega) (by omega)
    have e3 : IntKind.u8.wrap (c / 262144) = c / 262144 := by rw [IntKind.wrap_u8]; omega
    have hc := conv8d (w.alloc (.cells #[.int .u32 c] 47 (0, 0))) [240 + c / 262144, 128 + c / 4096 % 64, 128 + c / 64 % 64, 128 + c % 64] 4 (by simp)
    simp only [nums, List.map_cons, List.map_nil, List.length_cons, List.length_nil, Nat.zero_add, World.size_alloc] at hc
    go_enter Tryz.func108, Tryz.ntmps108
    go_wp2_with fail
    refine wp_region_still_tail 10 (by kernel_rfl) (by kernel_rfl) ?_
    simp only [List.take_succ_cons, List.take_zero, List.drop_succ_cons, List.drop_zero]
    change wpStill _ _ (w.alloc (.cells #[.int .u32 c] 47 (0, 0))).drew _ _ _
    have hc1 : (w.alloc (.cells #[.int .u32 c] 47 (0, 0))).drew.cell? ⟨w.heap.size, 0, none⟩ = some (.int .u32 c) := hc0
    still_step
    still_step
    still_step
    still_step
    still_step
    still_call (HT2.out _ hc1)
    still_step
    still_call (HT1.out _ hc1)
    still_step
    still_call (HT0.out _ hc1)
    refine wpStill_nil ?_
    change wpList _ _ _ _ _ (w.alloc (.cells #[.int .u32 c] 47 (0, 0))).drew
    go_wp2_with fail
    go_ret
    exact ⟨rfl, (HB.out.alloc _).alloc _, ((Eff.alloc w _ _).trans (Eff.alloc _ _ _) (fun _ _ h => h)).trans (Eff.drewN _ 1 _) (fun _ _ h => h)⟩
end Go.Proofs.YtppchdinolndmaaGreat
namespace Go.Proofs.YtppchdinolndmaaGreat
set_option linter.unusedVariables false
set_option linter.unusedSimpArgs false
structure SimM (E : EMach) (D : DMach) (I : E.St → D.St → List Int → Prop) : Prop where
 ini : I E.ini D.ini []
 put : ∀ st s pd c, I st s pd → 0 ≤ c → isScal c = true → ∃ s' pd' told, pd ++ [c] = told ++ pd' ∧ I (E.put st c).1 s' pd' ∧ ∀ rest p acc, ∃ q, runD D s ((E.put st c).2 ++ rest) p acc = runD D s' rest q (acc ++ told)
 fin : ∀ st s pd, I st s pd → ∀ p acc, runD D s (E.fin st) p acc = (acc ++ pd, 0, 0)
end Go.Proofs.YtppchdinolndmaaGreat
