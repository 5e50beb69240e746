/- Joined texts: Dm, Dmn, Dmk. -/
import Derived.Test.YtppchdinolndmaaGreatMUstp
import Derived.Test.YtppchdinolndmaaGreatMBit
import Derived.Test.YtppchdinolndmaaGreatMTb
import Derived.Deep.CutBlock
namespace Go.Proofs.YtppchdinolndmaaGreat
open Go.RowKit Go.Proofs.YtppchdinolndmaaGreatW.PrintWords
set_option linter.unusedVariables false
set_option linter.unusedSimpArgs false
def TabAt (w : World) (t : Nat) : Prop := Blk w t TTb permCells
structure M8 where
 need : Int
 b : Int
 c : Int
 gone : Bool
def leadM (st : M8) (b : Int) : Option (M8 × List Int) :=
 if 197 ≤ b ∧ b ≤ 223 then some (⟨1, b, b % 32, false⟩, [])
 else if 225 ≤ b ∧ b ≤ 239 then some (⟨2, b, b % 16, false⟩, [])
 else if 240 ≤ b ∧ b ≤ 247 then some (⟨3, b, b % 8, false⟩, [])
 else if b = 248 ∨ b = 249 then some (⟨4, b, b % 4, false⟩, [])
 else none
def secM (f b : Int) : Bool :=
 if f = 240 then decide (176 ≤ b) else if f = 241 then (b != 182 && b != 183) else if f = 248 then decide (168 ≤ b) else if f = 249 then decide (b ≤ 161) else true
def nextM (st : M8) (b : Int) : Option (M8 × List Int) :=
 if st.need = 0 then if b < 160 then some (st, [b]) else leadM st b
 else if b < 160 ∨ 191 < b ∨ (st.gone = false ∧ secM st.b b = false) then none
 else if st.need = 1 then some (⟨0, st.b, st.c * 32 + b % 32, true⟩, [st.c * 32 + b % 32])
 else some (⟨st.need - 1, st.b, st.c * 32 + b % 32, true⟩, [])
def DM : DMach := ⟨M8, ⟨0, 0, 0, false⟩, nextM, fun st => if st.need = 0 then some [] else none⟩
theorem DM_one (st : DM.St) (b : Int) (st' : DM.St) (l : List Int) (h : DM.next st b = some (st', l)) : l.length ≤ 1 := by
 have h' : nextM st b = some (st', l) := h
 unfold nextM leadM at h'
 (repeat' split at h') <;> first | (cases h'; done) | (injection h' with h'; injection h' with _ h'; rw [← h']; decide) | (injection h' with h'; injection h' with _ h'; rw [← h']; simp)
def okM (st : M8) : Prop := 0 ≤ st.c ∧ ((st.need = 0 ∧ st.c < 4194304) ∨ (st.need = 1 ∧ st.c < 131072) ∨ (st.need = 2 ∧ st.c < 4096) ∨ (st.need = 3 ∧ st.c < 128) ∨ (st.need = 4 ∧ st.c < 4))
def EMx (w : World) (xs : List Value) (st : DM.St) (G : Nat → Prop) : Prop := ∃ t, xs = [.int .i64 st.need, .int .u8 st.b, .int .u32 st.c, .bool st.gone, .pointer (some ⟨t, 0, none⟩)] ∧ TabAt w t ∧ ∀ k, G k ↔ k = t
def EM (w : World) (xs : List Value) (st : DM.St) (G : Nat → Prop) : Prop := EMx w xs st G ∧ okM st
theorem EMx_ok : EOk DM EMx := by
 refine ⟨fun h k hk => ?_, fun h he hs => ?_⟩
 ·obtain ⟨t, rfl, ht, hG⟩ := h
  rw [(hG k).1 hk]; exact Blk.lt ht
 ·obtain ⟨t, rfl, ht, hG⟩ := h
  exact ⟨t, rfl, Blk.eff ht he (hs t ((hG t).2 rfl)), hG⟩
theorem EM_ok : EOk DM EM := ⟨fun h k hk => EMx_ok.lt h.1 k hk, fun h he hs => ⟨EMx_ok.eff h.1 he hs, h.2⟩⟩
abbrev TDM : TypeId := 131
abbrev GMx (w : World) (g : Nat) (F : Nat → Prop) (d : DSt DM) (st : M8) : Prop := GRep TDM DM EMx w g F { d with st := st }
theorem GMx.of {w : World} {g : Nat} {F : Nat → Prop} {d : DSt DM} (h : GRep TDM DM EM w g F d) : GMx w g F d d.st := by
 obtain ⟨lv, st, xs, G, hb, hq, hF, hs, ⟨h1, h2⟩, hgg, hll⟩ := h
 exact ⟨lv, st, xs, G, hb, hq, hF, hs, h1, hgg, hll⟩
theorem GMx.to {w : World} {g : Nat} {F : Nat → Prop} {d : DSt DM} {st : M8} (h : GMx w g F d st) (he : d.err = 0) (hok : okM st) : GRep TDM DM EM w g F { d with st := st } := by
 obtain ⟨lv, st', xs, G, hb, hq, hF, hs, h1, hgg, hll⟩ := h
 obtain rfl := hs he
 exact ⟨lv, _, xs, G, hb, hq, hF, fun _ => rfl, ⟨h1, hok⟩, hgg, hll⟩
theorem GMx.cells {w : World} {g : Nat} {F : Nat → Prop} {d : DSt DM} {st : M8} (h : GMx w g F d st) (he : d.err = 0) :
  w.cell? ⟨g, 5, none⟩ = some (.int .i64 st.need) ∧ w.cell? ⟨g, 6, none⟩ = some (.int .u8 st.b) ∧ w.cell? ⟨g, 7, none⟩ = some (.int .u32 st.c) ∧ w.cell? ⟨g, 8, none⟩ = some (.bool st.gone) ∧ ∀ i, w.frozen? ⟨g, i, none⟩ = false := by
 obtain ⟨lv, st', xs, G, hb, hq, hF, hs, ⟨t, rfl, ht, h3⟩, hgg, hll⟩ := h
 obtain rfl := hs he
 exact ⟨hb.cell rfl, hb.cell rfl, hb.cell rfl, hb.cell rfl, hb.frozen⟩
theorem GMx.set {w : World} {g : Nat} {F : Nat → Prop} {d : DSt DM} {st st1 : M8} (h : GMx w g F d st) (he : d.err = 0) (i : Nat) (v : Value)
  (hv : ∀ p, ([.int .i64 st.need, .int .u8 st.b, .int .u32 st.c, .bool st.gone, p] : List Value).set i v = [.int .i64 st1.need, .int .u8 st1.b, .int .u32 st1.c, .bool st1.gone, p]) :
  GMx (w.setCell ⟨g, i + 5, none⟩ v) g F d st1 ∧ Eff w (w.setCell ⟨g, i + 5, none⟩ v) F := by
 obtain ⟨lv, st', xs, G, hb, hq, hF, hs, ⟨t, rfl, ht, h3⟩, hgg, hll⟩ := h
 obtain rfl := hs he
 obtain ⟨k1, k2⟩ := GRep.xset (by decide) w i v hb hq
 have hgt : g ≠ t := fun e => hgg ((h3 g).2 e)
 have ht2 : TabAt (w.setCell ⟨g, i + 5, none⟩ v) t := Blk.eff ht (Eff.set _ _ _ _) (fun e => hgt e.symm)
 exact ⟨⟨lv, st1, _, G, k1, k2, hF, fun _ => rfl, ⟨t, hv _, ht2, h3⟩, hgg, hll⟩, (Eff.set _ _ _ _).mono fun k _ e => (hF k).2 (.inl e)⟩
theorem GMx.need {w : World} {g : Nat} {F : Nat → Prop} {d : DSt DM} {st : M8} (h : GMx w g F d st) (he : d.err = 0) (x : Int) : GMx (w.setCell ⟨g, 5, none⟩ (.int .i64 x)) g F d { st with need := x } ∧ Eff w (w.setCell ⟨g, 5, none⟩ (.int .i64 x)) F := h.set he 0 _ (fun _ => rfl)
theorem GMx.b {w : World} {g : Nat} {F : Nat → Prop} {d : DSt DM} {st : M8} (h : GMx w g F d st) (he : d.err = 0) (x : Int) : GMx (w.setCell ⟨g, 6, none⟩ (.int .u8 x)) g F d { st with b := x } ∧ Eff w (w.setCell ⟨g, 6, none⟩ (.int .u8 x)) F := h.set he 1 _ (fun _ => rfl)
theorem GMx.c {w : World} {g : Nat} {F : Nat → Prop} {d : DSt DM} {st : M8} (h : GMx w g F d st) (he : d.err = 0) (x : Int) : GMx (w.setCell ⟨g, 7, none⟩ (.int .u32 x)) g F d { st with c := x } ∧ Eff w (w.setCell ⟨g, 7, none⟩ (.int .u32 x)) F := h.set he 2 _ (fun _ => rfl)
theorem GMx.gone {w : World} {g : Nat} {F : Nat → Prop} {d : DSt DM} {st : M8} (h : GMx w g F d st) (he : d.err = 0) (x : Bool) : GMx (w.setCell ⟨g, 8, none⟩ (.bool x)) g F d { st with gone := x } ∧ Eff w (w.setCell ⟨g, 8, none⟩ (.bool x)) F := h.set he 3 _ (fun _ => rfl)
theorem leadM_ok {st : M8} {b : Int} {st1 : M8} {l : List Int} (h0 : 0 ≤ b) (h1 : b ≤ 255) (h : leadM st b = some (st1, l)) : okM st1 ∧ l = [] := by
 unfold leadM at h
 (repeat' split at h) <;> first | (cases h; done) | (injection h with h; injection h with h2 h3; rw [← h2, ← h3]; refine ⟨?_, rfl⟩; unfold okM; dsimp only; omega)
def LeadMP (w : World) (g : Nat) (F : Nat → Prop) (d : DSt DM) (st : M8) (r : Option (M8 × List Int)) (e : Ending) (w' : World) : Prop := Eff w w' F ∧ (match r with
   | none => e = .returned (.bool false) ∧ GMx w' g F d st
   | some (st1, _) => e = .returned (.bool true) ∧ GMx w' g F d st1)
set_option maxRecDepth 100000 in
set_option maxHeartbeats 4000000 in
theorem leadM_c {w : World} {g : Nat} {F : Nat → Prop} {d : DSt DM} {st : M8} (b : Int) (h : GMx w g F d st) (he : d.err = 0) (h0 : 0 ≤ b) (h1 : b ≤ 255) :
  Calls Tryz.prog 210 #[.pointer (some ⟨g, 0, none⟩), .int .u8 b] w (LeadMP w g F d st (leadM st b)) := by
 have HH := Lib.hid h
 have HR := Lib.hid he
 obtain ⟨c5, c6, c7, c8, hf⟩ := h.cells he
 clear h he
 have m31 : bits .and .u8 b 31 = b % 32 := u8_and31 _ h0 (by omega)
 have m15 : bits .and .u8 b 15 = b % 16 := u8_and15 _ h0 (by omega)
 have m7 : bits .and .u8 b 7 = b % 8 := u8_and7 _ h0 (by omega)
 have m3 : bits .and .u8 b 3 = b % 4 := bits_mask .u8 8 (by decide) wraps_u8 2 (by decide) b h0 (by omega)
 by_cases q0 : b < 197
 ·have hn : Hid (leadM st b = none) := Lib.hid (by unfold leadM; rw [if_neg (by omega), if_neg (by omega), if_neg (by omega), if_neg (by omega)])
  have x0 : decide (197 ≤ b) = false := by simp; omega
  have x1 : decide (b ≤ 223) = true := by simp; omega
  have x2 : decide (225 ≤ b) = false := by simp; omega
  have x3 : decide (b ≤ 239) = true := by simp; omega
  have x4 : decide (240 ≤ b) = false := by simp; omega
  have x5 : decide (b ≤ 247) = true := by simp; omega
  have y0 : (b == 248) = false := by simp; omega
  have y1 : (b == 249) = false := by simp; omega
  clear q0
  go_enter Tryz.func210, Tryz.ntmps210
  go_wp2_with fail
  go_ret
  rw [hn.out]
  exact ⟨Eff.refl _ _, rfl, HH.out⟩
 by_cases q1 : b ≤ 223
 ·have hn : Hid (leadM st b = some (⟨1, b, b % 32, false⟩, [])) := Lib.hid (by unfold leadM; rw [if_pos ⟨by omega, by omega⟩])
  have x0 : decide (197 ≤ b) = true := by simp; omega
  have x1 : decide (b ≤ 223) = true := by simp; omega
  have x2 : decide (225 ≤ b) = false := by simp; omega
  have x3 : decide (b ≤ 239) = true := by simp; omega
  have x4 : decide (240 ≤ b) = false := by simp; omega
  have x5 : decide (b ≤ 247) = true := by simp; omega
  have y0 : (b == 248) = false := by simp; omega
  have y1 : (b == 249) = false := by simp; omega
  clear q0 q1
  go_enter Tryz.func210, Tryz.ntmps210
  go_wp2_with fail
  go_ret
  rw [hn.out]
  obtain ⟨k1, e1⟩ := HH.out.need HR.out 1
  obtain ⟨k2, e2⟩ := k1.c HR.out (b % 32)
  obtain ⟨k3, e3⟩ := k2.b HR.out b
  obtain ⟨k4, e4⟩ := k3.gone HR.out false
  exact ⟨((e1.trans e2 (fun _ _ h => h)).trans e3 (fun _ _ h => h)).trans e4 (fun _ _ h => h), rfl, k4⟩
 by_cases q2 : b < 225
 ·have hn : Hid (leadM st b = none) := Lib.hid (by unfold leadM; rw [if_neg (by omega), if_neg (by omega), if_neg (by omega), if_neg (by omega)])
  have x0 : decide (197 ≤ b) = true := by simp; omega
  have x1 : decide (b ≤ 223) = false := by simp; omega
  have x2 : decide (225 ≤ b) = false := by simp; omega
  have x3 : decide (b ≤ 239) = true := by simp; omega
  have x4 : decide (240 ≤ b) = false := by simp; omega
  have x5 : decide (b ≤ 247) = true := by simp; omega
  have y0 : (b == 248) = false := by simp; omega
  have y1 : (b == 249) = false := by simp; omega
  clear q0 q1 q2
  go_enter Tryz.func210, Tryz.ntmps210
  go_wp2_with fail
  go_ret
  rw [hn.out]
  exact ⟨Eff.refl _ _, rfl, HH.out⟩
 by_cases q3 : b ≤ 239
 ·have hn : Hid (leadM st b = some (⟨2, b, b % 16, false⟩, [])) := Lib.hid (by unfold leadM; rw [if_neg (by omega)]; rw [if_pos ⟨by omega, by omega⟩])
  have x0 : decide (197 ≤ b) = true := by simp; omega
  have x1 : decide (b ≤ 223) = false := by simp; omega
  have x2 : decide (225 ≤ b) = true := by simp; omega
  have x3 : decide (b ≤ 239) = true := by simp; omega
  have x4 : decide (240 ≤ b) = false := by simp; omega
  have x5 : decide (b ≤ 247) = true := by simp; omega
  have y0 : (b == 248) = false := by simp; omega
  have y1 : (b == 249) = false := by simp; omega
  clear q0 q1 q2 q3
  go_enter Tryz.func210, Tryz.ntmps210
  go_wp2_with fail
  go_ret
  rw [hn.out]
  obtain ⟨k1, e1⟩ := HH.out.need HR.out 2
  obtain ⟨k2, e2⟩ := k1.c HR.out (b % 16)
  obtain ⟨k3, e3⟩ := k2.b HR.out b
  obtain ⟨k4, e4⟩ := k3.gone HR.out false
  exact ⟨((e1.trans e2 (fun _ _ h => h)).trans e3 (fun _ _ h => h)).trans e4 (fun _ _ h => h), rfl, k4⟩
 by_cases q4 : b ≤ 247
 ·have hn : Hid (leadM st b = some (⟨3, b, b % 8, false⟩, [])) := Lib.hid (by unfold leadM; rw [if_neg (by omega)]; rw [if_neg (by omega)]; rw [if_pos ⟨by omega, by omega⟩])
  have x0 : decide (197 ≤ b) = true := by simp; omega
  have x1 : decide (b ≤ 223) = false := by simp; omega
  have x2 : decide (225 ≤ b) = true := by simp; omega
  have x3 : decide (b ≤ 239) = false := by simp; omega
  have x4 : decide (240 ≤ b) = true := by simp; omega
  have x5 : decide (b ≤ 247) = true := by simp; omega
  have y0 : (b == 248) = false := by simp; omega
  have y1 : (b == 249) = false := by simp; omega
  clear q0 q1 q2 q3 q4
  go_enter Tryz.func210, Tryz.ntmps210
  go_wp2_with fail
  go_ret
  rw [hn.out]
  obtain ⟨k1, e1⟩ := HH.out.need HR.out 3
  obtain ⟨k2, e2⟩ := k1.c HR.out (b % 8)
  obtain ⟨k3, e3⟩ := k2.b HR.out b
  obtain ⟨k4, e4⟩ := k3.gone HR.out false
  exact ⟨((e1.trans e2 (fun _ _ h => h)).trans e3 (fun _ _ h => h)).trans e4 (fun _ _ h => h), rfl, k4⟩
 by_cases q5 : b = 248
 ·have hn : Hid (leadM st b = some (⟨4, b, b % 4, false⟩, [])) := Lib.hid (by unfold leadM; rw [if_neg (by omega)]; rw [if_neg (by omega)]; rw [if_neg (by omega)]; rw [if_pos (by omega)])
  have x0 : decide (197 ≤ b) = true := by simp; omega
  have x1 : decide (b ≤ 223) = false := by simp; omega
  have x2 : decide (225 ≤ b) = true := by simp; omega
  have x3 : decide (b ≤ 239) = false := by simp; omega
  have x4 : decide (240 ≤ b) = true := by simp; omega
  have x5 : decide (b ≤ 247) = false := by simp; omega
  have y0 : (b == 248) = true := by simp; omega
  have y1 : (b == 249) = false := by simp; omega
  clear q0 q1 q2 q3 q4 q5
  go_enter Tryz.func210, Tryz.ntmps210
  go_wp2_with fail
  go_ret
  rw [hn.out]
  obtain ⟨k1, e1⟩ := HH.out.need HR.out 4
  obtain ⟨k2, e2⟩ := k1.c HR.out (b % 4)
  obtain ⟨k3, e3⟩ := k2.b HR.out b
  obtain ⟨k4, e4⟩ := k3.gone HR.out false
  exact ⟨((e1.trans e2 (fun _ _ h => h)).trans e3 (fun _ _ h => h)).trans e4 (fun _ _ h => h), rfl, k4⟩
 by_cases q6 : b = 249
 ·have hn : Hid (leadM st b = some (⟨4, b, b % 4, false⟩, [])) := Lib.hid (by unfold leadM; rw [if_neg (by omega)]; rw [if_neg (by omega)]; rw [if_neg (by omega)]; rw [if_pos (by omega)])
  have x0 : decide (197 ≤ b) = true := by simp; omega
  have x1 : decide (b ≤ 223) = false := by simp; omega
  have x2 : decide (225 ≤ b) = true := by simp; omega
  have x3 : decide (b ≤ 239) = false := by simp; omega
  have x4 : decide (240 ≤ b) = true := by simp; omega
  have x5 : decide (b ≤ 247) = false := by simp; omega
  have y0 : (b == 248) = false := by simp; omega
  have y1 : (b == 249) = true := by simp; omega
  clear q0 q1 q2 q3 q4 q5 q6
  go_enter Tryz.func210, Tryz.ntmps210
  go_wp2_with fail
  go_ret
  rw [hn.out]
  obtain ⟨k1, e1⟩ := HH.out.need HR.out 4
  obtain ⟨k2, e2⟩ := k1.c HR.out (b % 4)
  obtain ⟨k3, e3⟩ := k2.b HR.out b
  obtain ⟨k4, e4⟩ := k3.gone HR.out false
  exact ⟨((e1.trans e2 (fun _ _ h => h)).trans e3 (fun _ _ h => h)).trans e4 (fun _ _ h => h), rfl, k4⟩
 ·have hn : Hid (leadM st b = none) := Lib.hid (by unfold leadM; rw [if_neg (by omega), if_neg (by omega), if_neg (by omega), if_neg (by omega)])
  have x0 : decide (197 ≤ b) = true := by simp; omega
  have x1 : decide (b ≤ 223) = false := by simp; omega
  have x2 : decide (225 ≤ b) = true := by simp; omega
  have x3 : decide (b ≤ 239) = false := by simp; omega
  have x4 : decide (240 ≤ b) = true := by simp; omega
  have x5 : decide (b ≤ 247) = false := by simp; omega
  have y0 : (b == 248) = false := by simp; omega
  have y1 : (b == 249) = false := by simp; omega
  clear q0 q1 q2 q3 q4 q5 q6
  go_enter Tryz.func210, Tryz.ntmps210
  go_wp2_with fail
  go_ret
  rw [hn.out]
  exact ⟨Eff.refl _ _, rfl, HH.out⟩
set_option maxRecDepth 100000 in
theorem sec_c {w : World} {g : Nat} {f : Int} (b : Int) (h6 : w.cell? ⟨g, 6, none⟩ = some (.int .u8 f)) :
  Calls Tryz.prog 211 #[.pointer (some ⟨g, 0, none⟩), .int .u8 b] w fun e w' => e = .returned (.bool (secM f b)) ∧ w = w' := by
 unfold secM
 by_cases a1 : f = 240
 ·subst a1
  go_enter Tryz.func211, Tryz.ntmps211
  go_wp2_with fail
  go_ret
  exact ⟨by simp, rfl⟩
 by_cases a2 : f = 241
 ·subst a2
  by_cases c1 : b = 182
  ·subst c1
   go_enter Tryz.func211, Tryz.ntmps211
   go_wp2_with fail
   go_ret
   exact ⟨by simp, rfl⟩
  ·have c2 : (b != 182) = true := by simpa using c1
   have c3 : (b == 182) = false := by simpa using c1
   go_enter Tryz.func211, Tryz.ntmps211
   go_wp2_with fail
   go_ret
   exact ⟨by simp [c2], rfl⟩
 by_cases a3 : f = 248
 ·subst a3
  go_enter Tryz.func211, Tryz.ntmps211
  go_wp2_with fail
  go_ret
  exact ⟨by simp, rfl⟩
 by_cases a4 : f = 249
 ·subst a4
  go_enter Tryz.func211, Tryz.ntmps211
  go_wp2_with fail
  go_ret
  exact ⟨by simp, rfl⟩
 have b1 : (f == 240) = false := by simpa using a1
 have b2 : (f == 241) = false := by simpa using a2
 have b3 : (f == 248) = false := by simpa using a3
 have b4 : (f == 249) = false := by simpa using a4
 go_enter Tryz.func211, Tryz.ntmps211
 go_wp2_with fail
 go_ret
 exact ⟨rfl, rfl⟩
theorem orM {x y : Int} (hx0 : 0 ≤ x) (hx : x < 131072) (hy0 : 0 ≤ y) (hy : y < 32) : bits .or .u32 (x * 32) y = x * 32 + y := bits_join .u32 32 (by decide) wraps_u32 5 (x * 32) y (by omega) (by omega) (by omega) hy0 (by omega) (by omega)
set_option maxRecDepth 100000 in
set_option maxHeartbeats 4000000 in
theorem nextM_c {w : World} {g : Nat} {F : Nat → Prop} {d : DSt DM} (b : Int) (h : GRep TDM DM EM w g F d) (h0 : 0 ≤ b) (h1 : b ≤ 255) (hg : d.err = 0 ∧ d.en = false) (hl : d.held.length ≤ 9000000) :
  Calls Tryz.prog 209 #[.pointer (some ⟨g, 0, none⟩), .int .u8 b] w (NextP TDM EM w g F d (DM.next d.st b)) := by
 have HH := Lib.hid h
 have HX := Lib.hid (GMx.of h)
 have HOK : Hid (okM d.st) := by
  obtain ⟨lv, st, xs, G, hb, hq, hF, hs, ⟨h1, h2⟩, hgg, hll⟩ := h
  obtain rfl := hs hg.1
  exact Lib.hid h2
 obtain ⟨st, hst⟩ : ∃ st, d.st = st := ⟨_, rfl⟩
 have HST := Lib.hid hst
 rw [hst] at HX HOK ⊢
 obtain ⟨c5, c6, c7, c8, hf⟩ := HX.out.cells hg.1
 have hdn : DM.next st b = nextM st b := rfl
 rw [hdn]
 clear h hst hdn
 obtain ⟨need, sb, c, gone⟩ := st
 simp only at c5 c6 c7 c8
 by_cases hn0 : need = 0
 ·subst hn0
  by_cases hb128 : b < 160
  ·have hn : Hid (nextM ⟨0, sb, c, gone⟩ b = some (⟨0, sb, c, gone⟩, [b])) := Lib.hid (by unfold nextM; rw [if_pos rfl, if_pos hb128])
   have HA := Lib.hid (HH.out.eff EM_ok (Eff.alloc w (.cells #[.int .u32 b] 47 (0, 0)) (fun _ => False)) (fun _ _ h => h))
   have HHO := Lib.hid (GRep.hold EM_ok (by decide) HA.out (c := 1) (reads_u32 w b) (by show d.held.length + 1 ≤ _; omega))
   have hd : decide (b < 160) = true := decide_eq_true hb128
   clear hb128
   go_enter Tryz.func209, Tryz.ntmps209
   go_wp2_with (go_at_call 195; refine HHO.out.mono ?_; rintro e w2 ⟨rfl, F2, hr2, he2, hf2⟩)
   go_ret
   rw [hn.out]
   refine ⟨F2, ⟨rfl, ?_⟩, (Eff.alloc w _ F).trans he2 (fun _ _ h => h), fun k h => (hf2 k h).elim .inl fun h => .inr (Nat.le_trans (by simp) h)⟩
   have e : { d with st := (⟨0, sb, c, gone⟩ : M8), held := d.held ++ [b] } = { d with held := d.held ++ [b] } := by rw [← HST.out]
   exact e ▸ hr2
  ·have hn : Hid (nextM ⟨0, sb, c, gone⟩ b = leadM ⟨0, sb, c, gone⟩ b) := Lib.hid (by unfold nextM; rw [if_pos rfl, if_neg hb128])
   have hd : decide (b < 160) = false := decide_eq_false hb128
   have HL := Lib.hid (leadM_c b HX.out hg.1 h0 h1)
   clear hb128
   go_enter Tryz.func209, Tryz.ntmps209
   have HRES : Hid (∀ e w2, LeadMP w g F d ⟨0, sb, c, gone⟩ (leadM ⟨0, sb, c, gone⟩ b) e w2 → ∃ r, e = .returned (.bool r) ∧ NextP TDM EM w g F d (leadM ⟨0, sb, c, gone⟩ b) (.returned (.bool r)) w2) := Lib.hid fun e w2 hp => by
    obtain ⟨he, hm⟩ := hp
    cases hr : leadM ⟨0, sb, c, gone⟩ b with
    | none =>
     rw [hr] at hm
     obtain ⟨rfl, hm⟩ := hm
     exact ⟨false, rfl, F, ⟨rfl, _, hm.to hg.1 HOK.out⟩, he, fun k h => .inl h⟩
    | some p =>
     obtain ⟨st1, l⟩ := p
     obtain ⟨o1, rfl⟩ := leadM_ok h0 h1 hr
     rw [hr] at hm
     obtain ⟨rfl, hm⟩ := hm
     exact ⟨true, rfl, F, ⟨rfl, by simpa using hm.to hg.1 o1⟩, he, fun k h => .inl h⟩
   go_wp2_with (go_at_call 210; refine HL.out.mono ?_; intro e w2 hp; obtain ⟨r, rfl, hq⟩ := HRES.out e w2 hp; clear hp)
   go_ret
   rw [hn.out]
   exact hq
 ·have hnd : (need == 0) = false := by simpa using hn0
  have hnx : nextM ⟨need, sb, c, gone⟩ b = if b < 160 ∨ 191 < b ∨ (gone = false ∧ secM sb b = false) then none else if need = 1 then some (⟨0, sb, c * 32 + b % 32, true⟩, [c * 32 + b % 32]) else some (⟨need - 1, sb, c * 32 + b % 32, true⟩, []) := by
   unfold nextM; rw [if_neg hn0]
  have HNX := Lib.hid hnx
  clear hnx
  by_cases hb1 : b < 160
  ·have hn : Hid (nextM ⟨need, sb, c, gone⟩ b = none) := Lib.hid (by rw [HNX.out, if_pos (.inl hb1)])
   have hd : decide (b < 160) = true := decide_eq_true hb1
   clear hb1 hn0
   go_enter Tryz.func209, Tryz.ntmps209
   go_wp2_with fail
   go_ret
   rw [hn.out]
   exact ⟨F, ⟨rfl, d.st, HH.out⟩, Eff.refl _ _, fun k h => .inl h⟩
  have hd : decide (b < 160) = false := decide_eq_false hb1
  by_cases hb2 : 191 < b
  ·have hn : Hid (nextM ⟨need, sb, c, gone⟩ b = none) := Lib.hid (by rw [HNX.out, if_pos (.inr (.inl hb2))])
   have hd2 : decide (191 < b) = true := decide_eq_true hb2
   clear hb1 hb2 hn0
   go_enter Tryz.func209, Tryz.ntmps209
   go_wp2_with fail
   go_ret
   rw [hn.out]
   exact ⟨F, ⟨rfl, d.st, HH.out⟩, Eff.refl _ _, fun k h => .inl h⟩
  have hd2 : decide (191 < b) = false := decide_eq_false hb2
  have HSC := Lib.hid (sec_c b c6)
  by_cases hs0 : gone = false ∧ secM sb b = false
  ·have hn : Hid (nextM ⟨need, sb, c, gone⟩ b = none) := Lib.hid (by rw [HNX.out, if_pos (.inr (.inr hs0))])
   obtain ⟨rfl, hs1⟩ := hs0
   rw [hs1] at HSC
   clear hb1 hb2 hn0
   go_enter Tryz.func209, Tryz.ntmps209
   go_wp2_with (go_at_call 211; refine HSC.out.mono ?_; rintro e w1 ⟨rfl, rfl⟩)
   go_ret
   rw [hn.out]
   exact ⟨F, ⟨rfl, d.st, HH.out⟩, Eff.refl _ _, fun k h => .inl h⟩
  have HNB : Hid (¬ (b < 160 ∨ 191 < b ∨ (gone = false ∧ secM sb b = false))) := Lib.hid (fun h => h.elim hb1 (fun h => h.elim hb2 hs0))
  have hsp : gone = true ∨ (gone = false ∧ secM sb b = true) := by
   cases gone
   ·right
    refine ⟨rfl, ?_⟩
    rcases Bool.eq_false_or_eq_true (secM sb b) with h | h
    ·exact h
    ·exact absurd ⟨rfl, h⟩ hs0
   ·exact .inl rfl
  have hc0 : 0 ≤ c := HOK.out.1
  have hcc : (need = 1 ∧ c < 131072) ∨ (need = 2 ∧ c < 4096) ∨ (need = 3 ∧ c < 128) ∨ (need = 4 ∧ c < 4) := by
   have := HOK.out.2; simp only at this; omega
  have hc1 : c < 131072 := by omega
  have hne : 1 ≤ need ∧ need ≤ 4 := by omega
  have hne1 := hne.1
  have hne2 := hne.2
  have m31 : bits .and .u8 b 31 = b % 32 := u8_and31 _ h0 (by omega)
  have o1 : bits .or .u32 (c * 32) (b % 32) = c * 32 + b % 32 := orM hc0 (by omega) (by omega) (by omega)
  obtain ⟨x, hx⟩ : ∃ x, c * 32 + b % 32 = x := ⟨_, rfl⟩
  rw [hx] at HNX o1
  have HXX := Lib.hid hx
  have HK : Hid (∃ w4, (((w.setCell ⟨g, 8, none⟩ (.bool true)).setCell ⟨g, 7, none⟩ (.int .u32 x)).setCell ⟨g, 5, none⟩ (.int .i64 (need - 1))) = w4 ∧ GMx w4 g F d ⟨need - 1, sb, x, true⟩ ∧ Eff w w4 F) := by
   obtain ⟨k1, e1⟩ := HX.out.gone hg.1 true
   obtain ⟨k3, e3⟩ := k1.c hg.1 x
   obtain ⟨k4, e4⟩ := k3.need hg.1 (need - 1)
   exact Lib.hid ⟨_, rfl, k4, (e1.trans e3 (fun _ _ h => h)).trans e4 (fun _ _ h => h)⟩
  have HOX : Hid (need ≠ 1 → okM ⟨need - 1, sb, x, true⟩) := Lib.hid fun h => by unfold okM; dsimp only; omega
  have HOX1 : Hid (okM ⟨0, sb, x, true⟩) := Lib.hid (by unfold okM; dsimp only; omega)
  clear hb1 hb2 hcc hne hx hn0 hs0
  obtain ⟨w4, hw4, k4, e4⟩ := HK.out
  have HK4 := Lib.hid k4
  have HE4 := Lib.hid e4
  obtain ⟨c45, _, c47, _, hf4⟩ := k4.cells hg.1
  simp only at c45 c47
  clear k4 e4 HK
  rcases hsp with hsp | ⟨hsp, hs1⟩
  ·subst hsp
   go_enter Tryz.func209, Tryz.ntmps209
   go_upto_region 11 with fail
   by_cases hnn : need = 1
   ·subst hnn
    have hn : Hid (nextM ⟨1, sb, c, true⟩ b = some (⟨0, sb, x, true⟩, [x])) := Lib.hid (by rw [HNX.out, if_neg HNB.out, if_pos rfl])
    have HG4 : Hid (GRep TDM DM EM w4 g F { d with st := (⟨0, sb, x, true⟩ : M8) }) := Lib.hid (HK4.out.to hg.1 HOX1.out)
    have HHD := Lib.hid (GRep.hold EM_ok (by decide) (d := { d with st := (⟨0, sb, x, true⟩ : M8) }) (HG4.out.eff EM_ok (show Eff w4 (w4.alloc (.cells #[.int .u32 x] 47 (0, 0))).drew (fun _ => False) from (Eff.alloc w4 _ _).trans (Eff.drewN _ 1 _) (fun _ _ h => h)) (fun _ _ h => h)) (c := 1) (show ReadsInt (w4.alloc (.cells #[.int .u32 x] 47 (0, 0))).drew .u32 (some ⟨w4.heap.size, 0, none⟩) [x].length [x] from reads_u32 w4 x) (by show d.held.length + 1 ≤ _; omega))
    have HZA : Hid (w4.heap.size ≤ (w4.alloc (.cells #[.int .u32 x] 47 (0, 0))).drew.heap.size) := Lib.hid (show Eff w4 (w4.alloc (.cells #[.int .u32 x] 47 (0, 0))).drew (fun _ => False) from (Eff.alloc w4 _ _).trans (Eff.drewN _ 1 _) (fun _ _ h => h)).size
    clear HNX
    go_upto_region 12 with fail
    go_cut [] (fun wx => ∃ F6, Hid (GRep TDM DM EM wx g F6 { d with st := (⟨0, sb, x, true⟩ : M8), held := d.held ++ [x] } ∧ Eff w4 wx F ∧ ∀ k, F6 k → F k ∨ w4.heap.size ≤ k))
    case first =>
     go_region_with (go_at_call 195; refine HHD.out.mono ?_; rintro e w6 ⟨rfl, F6, hr6, he6, hf6⟩; have HR6 := Lib.hid (And.intro hr6 (And.intro he6 hf6)); clear hr6 he6 hf6)
     all_goals (go_wp2_with fail; go_meet)
     all_goals
      refine ⟨F6, Lib.hid ⟨HR6.out.1, ((Eff.alloc w4 _ F).trans (Eff.drewN _ 1 _) (fun _ _ h => h)).trans HR6.out.2.1 (fun _ _ h => h), fun k h => (HR6.out.2.2 k h).elim .inl (fun h => .inr (Nat.le_trans HZA.out h))⟩⟩
    case rest =>
     obtain ⟨F6, H6⟩ := hcut
     go_wp2_with fail
     go_ret
     rw [hn.out]
     exact ⟨F6, ⟨rfl, H6.out.1⟩, HE4.out.trans H6.out.2.1 (fun _ _ h => h), fun k h => (H6.out.2.2 k h).elim .inl (fun h2 => .inr (Nat.le_trans HE4.out.size h2))⟩
   ·have hn : Hid (nextM ⟨need, sb, c, true⟩ b = some (⟨need - 1, sb, x, true⟩, [])) := Lib.hid (by rw [HNX.out, if_neg HNB.out, if_neg hnn])
    have hz : (need - 1 == 0) = false := by simp; omega
    have HG4 : Hid (GRep TDM DM EM w4 g F { d with st := (⟨need - 1, sb, x, true⟩ : M8) }) := Lib.hid (HK4.out.to hg.1 (HOX.out hnn))
    clear HNX hnn
    go_wp2_with fail
    go_ret
    rw [hn.out]
    exact ⟨F, ⟨rfl, by simpa using HG4.out⟩, HE4.out, fun k h => .inl h⟩
  ·subst hsp
   rw [hs1] at HSC
   go_enter Tryz.func209, Tryz.ntmps209
   go_upto_region 11 with (go_at_call 211; refine HSC.out.mono ?_; rintro e w1 ⟨rfl, rfl⟩)
   by_cases hnn : need = 1
   ·subst hnn
    have hn : Hid (nextM ⟨1, sb, c, false⟩ b = some (⟨0, sb, x, true⟩, [x])) := Lib.hid (by rw [HNX.out, if_neg HNB.out, if_pos rfl])
    have HG4 : Hid (GRep TDM DM EM w4 g F { d with st := (⟨0, sb, x, true⟩ : M8) }) := Lib.hid (HK4.out.to hg.1 HOX1.out)
    have HHD := Lib.hid (GRep.hold EM_ok (by decide) (d := { d with st := (⟨0, sb, x, true⟩ : M8) }) (HG4.out.eff EM_ok (show Eff w4 (w4.alloc (.cells #[.int .u32 x] 47 (0, 0))).drew (fun _ => False) from (Eff.alloc w4 _ _).trans (Eff.drewN _ 1 _) (fun _ _ h => h)) (fun _ _ h => h)) (c := 1) (show ReadsInt (w4.alloc (.cells #[.int .u32 x] 47 (0, 0))).drew .u32 (some ⟨w4.heap.size, 0, none⟩) [x].length [x] from reads_u32 w4 x) (by show d.held.length + 1 ≤ _; omega))
    have HZA : Hid (w4.heap.size ≤ (w4.alloc (.cells #[.int .u32 x] 47 (0, 0))).drew.heap.size) := Lib.hid (show Eff w4 (w4.alloc (.cells #[.int .u32 x] 47 (0, 0))).drew (fun _ => False) from (Eff.alloc w4 _ _).trans (Eff.drewN _ 1 _) (fun _ _ h => h)).size
    clear HNX
    go_upto_region 12 with fail
    go_cut [] (fun wx => ∃ F6, Hid (GRep TDM DM EM wx g F6 { d with st := (⟨0, sb, x, true⟩ : M8), held := d.held ++ [x] } ∧ Eff w4 wx F ∧ ∀ k, F6 k → F k ∨ w4.heap.size ≤ k))
    case first =>
     go_region_with (go_at_call 195; refine HHD.out.mono ?_; rintro e w6 ⟨rfl, F6, hr6, he6, hf6⟩; have HR6 := Lib.hid (And.intro hr6 (And.intro he6 hf6)); clear hr6 he6 hf6)
     all_goals (go_wp2_with fail; go_meet)
     all_goals
      refine ⟨F6, Lib.hid ⟨HR6.out.1, ((Eff.alloc w4 _ F).trans (Eff.drewN _ 1 _) (fun _ _ h => h)).trans HR6.out.2.1 (fun _ _ h => h), fun k h => (HR6.out.2.2 k h).elim .inl (fun h => .inr (Nat.le_trans HZA.out h))⟩⟩
    case rest =>
     obtain ⟨F6, H6⟩ := hcut
     go_wp2_with fail
     go_ret
     rw [hn.out]
     exact ⟨F6, ⟨rfl, H6.out.1⟩, HE4.out.trans H6.out.2.1 (fun _ _ h => h), fun k h => (H6.out.2.2 k h).elim .inl (fun h2 => .inr (Nat.le_trans HE4.out.size h2))⟩
   ·have hn : Hid (nextM ⟨need, sb, c, false⟩ b = some (⟨need - 1, sb, x, true⟩, [])) := Lib.hid (by rw [HNX.out, if_neg HNB.out, if_neg hnn])
    have hz : (need - 1 == 0) = false := by simp; omega
    have HG4 : Hid (GRep TDM DM EM w4 g F { d with st := (⟨need - 1, sb, x, true⟩ : M8) }) := Lib.hid (HK4.out.to hg.1 (HOX.out hnn))
    clear HNX hnn
    go_wp2_with fail
    go_ret
    rw [hn.out]
    exact ⟨F, ⟨rfl, by simpa using HG4.out⟩, HE4.out, fun k h => .inl h⟩
theorem EM_open {w : World} {xs : List Value} {st : DM.St} {G : Nat → Prop} (h : EM w xs st G) : ∃ t, xs = [.int .i64 (M8.need st), .int .u8 (M8.b st), .int .u32 (M8.c st), .bool (M8.gone st), .pointer (some ⟨t, 0, none⟩)] ∧ 0 ≤ M8.need st := by
 obtain ⟨⟨t, h1, _⟩, h2⟩ := h
 exact ⟨t, h1, by obtain ⟨_, h⟩ := h2; omega⟩
set_option maxRecDepth 100000 in
set_option maxHeartbeats 4000000 in
theorem finM {w : World} {g : Nat} {F : Nat → Prop} {d : DSt DM} (h : GRep TDM DM EM w g F d) :
  Calls Tryz.prog 205 #[.pointer (some ⟨g, 0, none⟩)] w fun e w' => ∃ F', e = .returned (.tuple #[]) ∧ GRep TDM DM EM w' g F' (endD DM d) ∧ Eff w w' F ∧ (∀ k, F' k → F k ∨ w.heap.size ≤ k) := by
 have HH := Lib.hid h
 obtain ⟨lv, st, xs, G, hb, hq, hF, hs, hE, hgg, hll⟩ := h
 obtain ⟨tt, hxs, hn0⟩ := EM_open hE
 rw [hxs] at hb
 have c6 : w.cell? ⟨g, 5, none⟩ = some (.int .i64 (M8.need st)) := hb.cell rfl
 have HOP : Hid (d.err = 0 → (DM).fin d.st = if M8.need st = 0 then some [] else none) := Lib.hid fun he => by rw [← hs he]; rfl
 obtain ⟨n, hn⟩ : ∃ n, M8.need st = n := ⟨_, rfl⟩
 rw [hn] at c6 hn0 HOP
 clear hb hq hF hgg hll hs hE hn hxs
 have hopen : n ≠ 0 → d.err = 0 ∧ d.en = false → endD DM d = { d with err := 4, fat := d.pos } := fun hc hg => by
  unfold endD; rw [if_pos hg, HOP.out hg.1, if_neg hc]
 have hshut : n = 0 → d.err = 0 ∧ d.en = false → endD DM d = { d with en := true } := fun hc hg => by
  unfold endD; rw [if_pos hg, HOP.out hg.1, if_pos hc]; simp
 have hnot : ¬ (d.err = 0 ∧ d.en = false) → endD DM d = d := fun hg => by unfold endD; rw [if_neg hg]
 have HOPEN := Lib.hid hopen
 have HSHUT := Lib.hid hshut
 have HNOT := Lib.hid hnot
 clear hopen hshut hnot HOP
 by_cases hc : n = 0
 ·have HC := Lib.hid hc
  have hd : decide (n > 0) = false := decide_eq_false (by omega)
  have hd2 : ¬ 0 < n := by omega
  clear hc
  by_cases hg : d.err = 0 ∧ d.en = false
  ·have HE := Lib.hid (HH.out.ending EM_ok (by decide) hg)
   have HG := Lib.hid hg
   clear hg
   go_enter Tryz.func205, Tryz.ntmps205
   go_wp2_with (go_at_call 99; refine HE.out.mono ?_; rintro e w1 ⟨rfl, hr1, he1⟩)
   refine bodyPost_end (v := .tuple #[]) (by simp [results, Tryz.results205, go_sem]) rfl ⟨F, rfl, ?_, he1, fun k h => .inl h⟩
   rw [HSHUT.out HC.out HG.out]
   exact hr1
  ·have HE := Lib.hid (HH.out.ended hg)
   have HG := Lib.hid hg
   clear hg
   go_enter Tryz.func205, Tryz.ntmps205
   go_wp2_with (go_at_call 99; refine HE.out.mono ?_; rintro e w1 ⟨rfl, rfl⟩)
   refine bodyPost_end (v := .tuple #[]) (by simp [results, Tryz.results205, go_sem]) rfl ⟨F, rfl, ?_, Eff.refl _ _, fun k h => .inl h⟩
   rw [HNOT.out HG.out]
   exact HH.out
 ·have HC := Lib.hid hc
  have hd : decide (n > 0) = true := decide_eq_true (by omega)
  have hd2 : 0 < n := by omega
  clear hc
  by_cases hg : d.err = 0 ∧ d.en = false
  ·have HST := Lib.hid (HH.out.stop EM_ok (by decide) hg 4 (by decide) d.st)
   have HG := Lib.hid hg
   clear hg
   have FIN : Hid (∀ w1, GRep TDM DM EM w1 g F { d with err := 4, fat := d.pos, st := d.st } → Calls Tryz.prog 99 #[.pointer (some ⟨g, 0, none⟩)] w1 fun e w' => e = .returned (.tuple #[]) ∧ w1 = w') := Lib.hid fun w1 hr => hr.ended (fun h => by have h1 : (4 : Int) = 0 := h.1; omega)
   go_enter Tryz.func205, Tryz.ntmps205
   go_upto_region 2 with (go_at_call 106; refine HST.out.mono ?_; rintro e w1 ⟨rfl, hr1, he1⟩)
   have HR1 := Lib.hid (And.intro hr1 he1)
   have HE := Lib.hid (FIN.out w1 hr1)
   clear hr1 he1
   go_wp2_with (go_at_call 99; refine HE.out.mono ?_; rintro e w2 ⟨rfl, rfl⟩)
   refine bodyPost_end (v := .tuple #[]) (by simp [results, Tryz.results205, go_sem]) rfl ⟨F, rfl, ?_, HR1.out.2, fun k h => .inl h⟩
   rw [HOPEN.out HC.out HG.out]
   exact HR1.out.1
  ·have HE := Lib.hid (HH.out.ended hg)
   have HST := Lib.hid (HH.out.stopped hg 4)
   have HG := Lib.hid hg
   clear hg
   go_enter Tryz.func205, Tryz.ntmps205
   go_wp2_with (first
    | (go_at_call 106; refine HST.out.mono ?_; rintro e w1 ⟨rfl, rfl⟩)
    | (go_at_call 99; refine HE.out.mono ?_; rintro e w2 ⟨rfl, rfl⟩))
   refine bodyPost_end (v := .tuple #[]) (by simp [results, Tryz.results205, go_sem]) rfl ⟨F, rfl, ?_, Eff.refl _ _, fun k h => .inl h⟩
   rw [HNOT.out HG.out]
   exact HH.out
theorem own_lower2 {w : World} {base base' : Nat} {e : TypeId} {size n : Nat} {v : Value} {xs : List Value} (h : w.ownsRow base e size v n xs) (hb : base' ≤ base) : w.ownsRow base' e size v n xs := by
 refine ⟨h.1, ?_⟩
 rcases h.2 with h | ⟨g, cap, cur, h1, h2, h3⟩
 ·exact .inl h
 ·exact .inr ⟨g, cap, cur, h1, Nat.le_trans hb h2, h3⟩
def DEc : DMach := ⟨M8, DM.ini, fun st b => nextM st (permQ b), fun st => if st.need = 0 then some [] else none⟩
theorem DEc_one (st : DEc.St) (b : Int) (st' : DEc.St) (l : List Int) (h : DEc.next st b = some (st', l)) : l.length ≤ 1 := DM_one st (permQ b) st' l h
def toM (d : DSt DEc) : DSt DM := ⟨d.pos, d.err, d.fat, d.en, d.held, d.st⟩
theorem feedD_perm (room : Int) : ∀ (l : List Int) (d : DSt DEc), feedD DM room (l.map permQ) (toM d) = ((feedD DEc room l d).1, toM (feedD DEc room l d).2)
 | [], d => rfl
 | b :: r, d => by
  simp only [List.map_cons, feedD]
  by_cases h : (d.held.length : Int) < room ∧ d.err = 0 ∧ d.en = false
  ·rw [if_pos h, if_pos (show ((toM d).held.length : Int) < room ∧ (toM d).err = 0 ∧ (toM d).en = false from h)]
   have e : DM.next (toM d).st (permQ b) = DEc.next d.st b := rfl
   rw [e]
   cases hn : DEc.next d.st b with
   | none => rfl
   | some x =>
    obtain ⟨s, l⟩ := x
    have ih := feedD_perm room r { d with pos := d.pos + 1, held := d.held ++ l, st := s }
    show ((feedD DM room (r.map permQ) (toM { d with pos := d.pos + 1, held := d.held ++ l, st := s })).1 + 1, (feedD DM room (r.map permQ) (toM { d with pos := d.pos + 1, held := d.held ++ l, st := s })).2) = _
    rw [ih]
  ·rw [if_neg h, if_neg (show ¬ (((toM d).held.length : Int) < room ∧ (toM d).err = 0 ∧ (toM d).en = false) from h)]
theorem endD_perm (d : DSt DEc) : endD DM (toM d) = toM (endD DEc d) := by
 unfold endD
 by_cases h : d.err = 0 ∧ d.en = false
 ·rw [if_pos h, if_pos (show (toM d).err = 0 ∧ (toM d).en = false from h)]
  have e : DM.fin (toM d).st = DEc.fin d.st := rfl
  rw [e]
  cases DEc.fin d.st <;> rfl
 ·rw [if_neg h, if_neg (show ¬ ((toM d).err = 0 ∧ (toM d).en = false) from h)]
abbrev RepEc (w : World) (g : Nat) (F : Nat → Prop) (d : DSt DEc) : Prop := GRep TDM DM EM w g F (toM d)
set_option maxRecDepth 100000 in
set_option maxHeartbeats 4000000 in
theorem feedEc {w : World} {g : Nat} {F : Nat → Prop} {d : DSt DEc} (s : ByteArray) (room : Int) (h : RepEc w g F d) (hp : d.pos + s.size ≤ 1000000) (hh : d.held.length + s.size ≤ 1000000) :
  Calls Tryz.prog 206 #[.pointer (some ⟨g, 0, none⟩), .string s, .int .i64 room] w fun e w' => ∃ v F', e = .returned (.tuple #[.int .i64 (feedD DEc room (bytesOf s) d).1, v]) ∧
   w'.ownsRow w.heap.size 47 1 v ((feedD DEc room (bytesOf s) d).2.held.take (giveN room (feedD DEc room (bytesOf s) d).2.held.length)).length (nums .u32 ((feedD DEc room (bytesOf s) d).2.held.take (giveN room (feedD DEc room (bytesOf s) d).2.held.length))) ∧
   RepEc w' g F' ((feedD DEc room (bytesOf s) d).2.drop (giveN room (feedD DEc room (bytesOf s) d).2.held.length)) ∧ Eff w w' F ∧ (∀ k, F' k → F k ∨ w.heap.size ≤ k) := by
 have hm := feedD_perm room (bytesOf s) d
 have hsz : (strOf ((bytesOf s).map permQ)).size = s.size := by rw [strOf_size, List.length_map, bytesOf_length]
 have hby : bytesOf (strOf ((bytesOf s).map permQ)) = (bytesOf s).map permQ := bytesOf_strOf (fun x hx => by
  obtain ⟨y, _, rfl⟩ := List.mem_map.1 hx
  exact permQ_range y)
 have hfeed := fun (W : World) (hW : GRep TDM DM EM W g F (toM d)) => feedG EM_ok (by decide) DM_one _ _ (.inr (.inr (.inr (.inl ⟨rfl, rfl⟩)))) nextM_c (strOf ((bytesOf s).map permQ)) room hW (by rw [hsz]; exact hp) (by rw [hsz]; exact hh)
 rw [hby] at hfeed
 rw [hm] at hfeed
 obtain ⟨⟨n, D⟩, hR⟩ : ∃ R, feedD DEc room (bytesOf s) d = R := ⟨_, rfl⟩
 rw [hR] at hfeed ⊢
 obtain ⟨T, hT⟩ : ∃ T, strOf ((bytesOf s).map permQ) = T := ⟨_, rfl⟩
 rw [hT] at hfeed
 have HFEED := Lib.hid hfeed
 have HH := Lib.hid h
 obtain ⟨lv, st, xs, G, hb, hq, hF, hs, ⟨⟨t, hxs, ht, hG⟩, hok⟩, hgg, hll⟩ := h
 rw [hxs] at hb
 have c9 : w.cell? ⟨g, 9, none⟩ = some (.pointer (some ⟨t, 0, none⟩)) := hb.cell rfl
 have hback := fun (W : World) (hW : Blk W t TTb permCells) => permback_c hW s (by omega)
 rw [hT] at hback
 have HBACK := Lib.hid hback
 have HT := Lib.hid (show Blk w t TTb permCells from ht)
 clear hfeed hback hb hq hF hs ht hG hok hgg hll hm hsz hby hR hT hp hh hxs
 go_enter Tryz.func206, Tryz.ntmps206
 go_upto_region 1 with fail
 go_region_with (first
  | (go_at_call 208; refine (HBACK.out _ (by first | exact HT.out | exact HT.out.drewN 1)).mono ?_; rintro e w1 ⟨rfl, hb1⟩; have HR1 := Lib.hid (HH.out.eff EM_ok (Eff.of_below (show Below w.heap.size w w1 from by first | exact hb1 | exact below_then (below_drewN' (Below.refl _ _) 1) hb1 (Nat.le_refl _)) (fun _ => False)) (fun _ _ h => h)); have HB1 := Lib.hid (show Below w.heap.size w w1 from by first | exact hb1 | exact below_then (below_drewN' (Below.refl _ _) 1) hb1 (Nat.le_refl _)); clear hb1)
  | (go_at_call 207; refine (HFEED.out _ (by first | exact HR1.out | exact HR1.out.drewN 1)).mono ?_; rintro e w2 ⟨v, F', rfl, ho, hr, he, hf⟩; have HR2 := Lib.hid (And.intro ho (And.intro hr (And.intro he hf))); clear ho hr he hf))
 all_goals go_wp2_with fail
 all_goals refine bodyPost_ret (results_list (rs := [.tmp 6, .tmp 7]) rfl (by simp) (.tmp (.tmp .nil))) rfl ?_
 all_goals exact ⟨v, F', rfl, own_lower2 HR2.out.1 HB1.out.size, HR2.out.2.1, (Eff.of_below HB1.out F).trans HR2.out.2.2.1 (fun _ _ h => h), fun k hk => (HR2.out.2.2.2 k hk).elim .inl (fun h => .inr (Nat.le_trans HB1.out.size h))⟩
theorem kEc : DecK 71 206 205 DEc RepEc where
 invF := by intro n g x y w; kernel_rfl
 invE := by intro n g w; kernel_rfl
 invD := by intro n g w; kernel_rfl
 invW := by intro n g w; kernel_rfl
 lt h k hk := h.lt EM_ok k hk
 eff h he hs := h.eff EM_ok he hs
 feed s room h hp hh := feedEc s room h hp hh
 fin h _ _ := by
  refine (finM h).mono ?_
  rintro e w' ⟨F', rfl, hr, he, hf⟩
  rw [endD_perm] at hr
  exact ⟨F', rfl, hr, he, hf⟩
 done h := h.done
 fail h := h.fail
set_option maxRecDepth 100000 in
theorem newEc_c (w : World) : Calls Tryz.prog 25 #[] w fun e w' => ∃ g F, e = .returned (.pointer (some ⟨g, 0, none⟩)) ∧ Below w.heap.size w w' ∧ RepEc w' g F (DSt.new DEc) ∧ (∀ k, F k → w.heap.size ≤ k) := by
 go_enter Tryz.func25, Tryz.ntmps25
 go_wp2_with fail
 refine (permute_c w).mono ?_
 rintro e w1 ⟨g, rfl, hg, ht, hb1⟩
 have HT := Lib.hid (And.intro hg (And.intro ht hb1))
 clear hg ht hb1
 go_wp2_with fail
 go_ret
 refine ⟨w1.heap.size, fun k => k = w1.heap.size ∨ some k = (Value.slice none 0 0).ownBlock ∨ k = g, rfl, below_new HT.out.2.2 _, ⟨.slice none 0 0, DM.ini, _, fun k => k = g, Blk.new _ _ _, ⟨rfl, .inl ⟨rfl, none, rfl, fun a h => by cases h⟩⟩, fun k => Iff.rfl, fun _ => rfl, ⟨⟨g, rfl, HT.out.2.1.alloc _, fun k => Iff.rfl⟩, Int.le_refl 0, .inl ⟨rfl, show (0 : Int) < 4194304 by decide⟩⟩, Nat.ne_of_gt HT.out.2.1.lt, fun k hk => by cases hk⟩, fun k hk => ?_⟩
 rcases hk with rfl | hk | rfl
 ·exact HT.out.2.2.size
 ·cases hk
 ·exact HT.out.1
set_option maxRecDepth 100000 in
theorem newD6 : NewD 6 71 DEc RepEc := by
 intro w
 have HN := Lib.hid (newEc_c w)
 go_enter Tryz.func7, Tryz.ntmps7
 go_wp2_with (go_at_call 25; refine HN.out.mono ?_; rintro e w' ⟨g, F, rfl, hb, hr, hF⟩)
 refine bodyPost_ret (v := .tuple #[.iface 71 (.pointer (some ⟨g, 0, none⟩)), .int .i64 0]) (by simp [results, Tryz.results7, go_sem]) rfl ?_
 exact ⟨g, F, rfl, hb, hr, hF⟩
end Go.Proofs.YtppchdinolndmaaGreat
