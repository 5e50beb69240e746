/- Joined texts: Dv, Dvn, Dvk. -/
import Derived.Test.YtppchdinolndmaaGreatMUstp
import Derived.Test.YtppchdinolndmaaGreatMBit
import Derived.Deep.CutBlock
namespace Go.Proofs.YtppchdinolndmaaGreat
open Go.RowKit Go.Proofs.YtppchdinolndmaaGreatW.PrintWords
set_option linter.unusedVariables false
set_option linter.unusedSimpArgs false
structure V8 where
 need : Int
 lo : Int
 hi : Int
 c : Int
def leadV (st : V8) (b : Int) : Option (V8 × List Int) :=
 if b < 194 ∨ 244 < b then none
 else some (⟨if b < 224 then 1 else if b < 240 then 2 else 3, if b = 224 then 160 else if b = 240 then 144 else 128, if b = 237 then 159 else if b = 244 then 143 else 191, if b < 224 then b % 32 else if b < 240 then b % 16 else b % 8⟩, [])
def nextV (st : V8) (b : Int) : Option (V8 × List Int) :=
 if st.need = 0 then if b < 128 then some (st, [b]) else leadV st b
 else if b < st.lo ∨ st.hi < b then none
 else if st.need = 1 then some (⟨0, 128, 191, st.c * 64 + b % 64⟩, [st.c * 64 + b % 64])
 else some (⟨st.need - 1, 128, 191, st.c * 64 + b % 64⟩, [])
def DV : DMach := ⟨V8, ⟨0, 0, 0, 0⟩, nextV, fun st => if st.need = 0 then some [] else none⟩
theorem DV_one (st : DV.St) (b : Int) (st' : DV.St) (l : List Int) (h : DV.next st b = some (st', l)) : l.length ≤ 1 := by
 have h' : nextV st b = some (st', l) := h
 unfold nextV leadV at h'
 (repeat' split at h') <;> first | (cases h'; done) | (injection h' with h'; injection h' with _ h'; rw [← h']; decide) | (injection h' with h'; injection h' with _ h'; rw [← h']; simp)
def okV (st : V8) : Prop := 0 ≤ st.c ∧ ((st.need = 0 ∧ st.c < 2097152) ∨ (st.need = 1 ∧ st.c < 32768) ∨ (st.need = 2 ∧ st.c < 512) ∨ (st.need = 3 ∧ st.c < 8))
def EVx (w : World) (xs : List Value) (st : DV.St) (G : Nat → Prop) : Prop := xs = [.int .i64 st.need, .int .u8 st.lo, .int .u8 st.hi, .int .u32 st.c] ∧ ∀ k, ¬ G k
def EV (w : World) (xs : List Value) (st : DV.St) (G : Nat → Prop) : Prop := xs = [.int .i64 st.need, .int .u8 st.lo, .int .u8 st.hi, .int .u32 st.c] ∧ okV st ∧ ∀ k, ¬ G k
theorem EV_ok : EOk DV EV := ⟨fun h k hk => absurd hk (h.2.2 k), fun h _ _ => h⟩
abbrev TDV : TypeId := 123
abbrev GVx (w : World) (g : Nat) (F : Nat → Prop) (d : DSt DV) (st : V8) : Prop := GRep TDV DV EVx w g F { d with st := st }
theorem GVx.of {w : World} {g : Nat} {F : Nat → Prop} {d : DSt DV} (h : GRep TDV DV EV w g F d) : GVx w g F d d.st := by
 obtain ⟨lv, st, xs, G, hb, hq, hF, hs, ⟨h1, h2, h3⟩, hgg, hll⟩ := h
 exact ⟨lv, st, xs, G, hb, hq, hF, hs, ⟨h1, h3⟩, hgg, hll⟩
theorem GVx.to {w : World} {g : Nat} {F : Nat → Prop} {d : DSt DV} {st : V8} (h : GVx w g F d st) (he : d.err = 0) (hok : okV st) : GRep TDV DV EV w g F { d with st := st } := by
 obtain ⟨lv, st', xs, G, hb, hq, hF, hs, ⟨h1, h3⟩, hgg, hll⟩ := h
 obtain rfl := hs he
 exact ⟨lv, _, xs, G, hb, hq, hF, fun _ => rfl, ⟨h1, hok, h3⟩, hgg, hll⟩
theorem GVx.cells {w : World} {g : Nat} {F : Nat → Prop} {d : DSt DV} {st : V8} (h : GVx w g F d st) (he : d.err = 0) :
  w.cell? ⟨g, 5, none⟩ = some (.int .i64 st.need) ∧ w.cell? ⟨g, 6, none⟩ = some (.int .u8 st.lo) ∧ w.cell? ⟨g, 7, none⟩ = some (.int .u8 st.hi) ∧ w.cell? ⟨g, 8, none⟩ = some (.int .u32 st.c) ∧ ∀ i, w.frozen? ⟨g, i, none⟩ = false := by
 obtain ⟨lv, st', xs, G, hb, hq, hF, hs, ⟨rfl, h3⟩, hgg, hll⟩ := h
 obtain rfl := hs he
 exact ⟨hb.cell rfl, hb.cell rfl, hb.cell rfl, hb.cell rfl, hb.frozen⟩
theorem GVx.set {w : World} {g : Nat} {F : Nat → Prop} {d : DSt DV} {st st1 : V8} (h : GVx w g F d st) (he : d.err = 0) (i : Nat) (v : Value)
  (hv : ([.int .i64 st.need, .int .u8 st.lo, .int .u8 st.hi, .int .u32 st.c] : List Value).set i v = [.int .i64 st1.need, .int .u8 st1.lo, .int .u8 st1.hi, .int .u32 st1.c]) :
  GVx (w.setCell ⟨g, i + 5, none⟩ v) g F d st1 ∧ Eff w (w.setCell ⟨g, i + 5, none⟩ v) F := by
 obtain ⟨lv, st', xs, G, hb, hq, hF, hs, ⟨rfl, h3⟩, hgg, hll⟩ := h
 obtain rfl := hs he
 obtain ⟨k1, k2⟩ := GRep.xset (by decide) w i v hb hq
 exact ⟨⟨lv, st1, _, G, k1, k2, hF, fun _ => rfl, ⟨hv, h3⟩, hgg, hll⟩, (Eff.set _ _ _ _).mono fun k _ e => (hF k).2 (.inl e)⟩
theorem GVx.need {w : World} {g : Nat} {F : Nat → Prop} {d : DSt DV} {st : V8} (h : GVx w g F d st) (he : d.err = 0) (x : Int) : GVx (w.setCell ⟨g, 5, none⟩ (.int .i64 x)) g F d { st with need := x } ∧ Eff w (w.setCell ⟨g, 5, none⟩ (.int .i64 x)) F := h.set he 0 _ rfl
theorem GVx.lo {w : World} {g : Nat} {F : Nat → Prop} {d : DSt DV} {st : V8} (h : GVx w g F d st) (he : d.err = 0) (x : Int) : GVx (w.setCell ⟨g, 6, none⟩ (.int .u8 x)) g F d { st with lo := x } ∧ Eff w (w.setCell ⟨g, 6, none⟩ (.int .u8 x)) F := h.set he 1 _ rfl
theorem GVx.hi {w : World} {g : Nat} {F : Nat → Prop} {d : DSt DV} {st : V8} (h : GVx w g F d st) (he : d.err = 0) (x : Int) : GVx (w.setCell ⟨g, 7, none⟩ (.int .u8 x)) g F d { st with hi := x } ∧ Eff w (w.setCell ⟨g, 7, none⟩ (.int .u8 x)) F := h.set he 2 _ rfl
theorem GVx.c {w : World} {g : Nat} {F : Nat → Prop} {d : DSt DV} {st : V8} (h : GVx w g F d st) (he : d.err = 0) (x : Int) : GVx (w.setCell ⟨g, 8, none⟩ (.int .u32 x)) g F d { st with c := x } ∧ Eff w (w.setCell ⟨g, 8, none⟩ (.int .u32 x)) F := h.set he 3 _ rfl
theorem leadV_ok {st : V8} {b : Int} {st1 : V8} {l : List Int} (h0 : 0 ≤ b) (h1 : b ≤ 255) (h : leadV st b = some (st1, l)) : okV st1 ∧ l = [] := by
 unfold leadV at h
 split at h
 ·cases h
 ·injection h with h
  injection h with h2 h3
  rw [← h2, ← h3]
  refine ⟨?_, rfl⟩
  unfold okV
  simp only
  split
  ·omega
  ·split <;> omega
def LeadP (w : World) (g : Nat) (F : Nat → Prop) (d : DSt DV) (st : V8) (r : Option (V8 × List Int)) (e : Ending) (w' : World) : Prop := Eff w w' F ∧ (match r with
   | none => e = .returned (.bool false) ∧ GVx w' g F d { st with lo := 128, hi := 191 }
   | some (st1, _) => e = .returned (.bool true) ∧ GVx w' g F d st1)
set_option maxRecDepth 100000 in
set_option maxHeartbeats 4000000 in
theorem lead_c {w : World} {g : Nat} {F : Nat → Prop} {d : DSt DV} {st : V8} (b : Int) (h : GVx w g F d st) (he : d.err = 0) (h0 : 0 ≤ b) (h1 : b ≤ 255) :
  Calls Tryz.prog 196 #[.pointer (some ⟨g, 0, none⟩), .int .u8 b] w (LeadP w g F d st (leadV st b)) := by
 have HH := Lib.hid h
 have HR := Lib.hid he
 obtain ⟨c5, c6, c7, c8, hf⟩ := h.cells he
 clear h he
 by_cases a1 : b < 194
 ·have hn : Hid (leadV st b = none) := Lib.hid (by unfold leadV; rw [if_pos (.inl a1)])
  have d1 : decide (b < 194) = true := decide_eq_true a1
  clear a1
  go_enter Tryz.func196, Tryz.ntmps196
  go_wp2_with fail
  go_ret
  rw [hn.out]
  obtain ⟨k1, e1⟩ := HH.out.lo HR.out 128
  obtain ⟨k2, e2⟩ := k1.hi HR.out 191
  exact ⟨e1.trans e2 (fun _ _ h => h), rfl, k2⟩
 have d1 : decide (b < 194) = false := decide_eq_false a1
 by_cases a2 : 244 < b
 ·have hn : Hid (leadV st b = none) := Lib.hid (by unfold leadV; rw [if_pos (.inr a2)])
  have d2 : decide (244 < b) = true := decide_eq_true a2
  clear a1 a2
  go_enter Tryz.func196, Tryz.ntmps196
  go_wp2_with fail
  go_ret
  rw [hn.out]
  obtain ⟨k1, e1⟩ := HH.out.lo HR.out 128
  obtain ⟨k2, e2⟩ := k1.hi HR.out 191
  exact ⟨e1.trans e2 (fun _ _ h => h), rfl, k2⟩
 have d2 : decide (244 < b) = false := decide_eq_false a2
 have m31 : bits .and .u8 b 31 = b % 32 := u8_and31 _ h0 (by omega)
 have m15 : bits .and .u8 b 15 = b % 16 := u8_and15 _ h0 (by omega)
 have m7 : bits .and .u8 b 7 = b % 8 := u8_and7 _ h0 (by omega)
 by_cases q0 : b < 224
 ·have hn : Hid (leadV st b = some (⟨1, 128, 191, b % 32⟩, [])) := Lib.hid (by unfold leadV; rw [if_neg (by omega)]; simp only [show (b < 224) = True from by simp; omega, show (b < 240) = True from by simp; omega, show (b = 224) = False from by simp; omega, show (b = 237) = False from by simp; omega, show (b = 240) = False from by simp; omega, show (b = 244) = False from by simp; omega, if_true, if_false])
  have x1 : decide (b < 224) = true := by simp; omega
  have x2 : decide (b < 240) = true := by simp; omega
  have x3 : (b == 224) = false := by simp; omega
  have x4 : (b == 237) = false := by simp; omega
  have x5 : (b == 240) = false := by simp; omega
  have x6 : (b == 244) = false := by simp; omega
  have HB := Lib.hid q0
  clear q0 a1 a2
  go_enter Tryz.func196, Tryz.ntmps196
  go_wp2_with fail
  go_ret
  rw [hn.out]
  obtain ⟨k1, e1⟩ := HH.out.lo HR.out 128
  obtain ⟨k2, e2⟩ := k1.hi HR.out 191
  obtain ⟨k3, e3⟩ := k2.need HR.out 1
  obtain ⟨k4, e4⟩ := k3.c HR.out (b % 32)
  exact ⟨((e1.trans e2 (fun _ _ h => h)).trans e3 (fun _ _ h => h)).trans e4 (fun _ _ h => h), rfl, k4⟩
 by_cases q1 : b = 224
 ·have hn : Hid (leadV st b = some (⟨2, 160, 191, b % 16⟩, [])) := Lib.hid (by unfold leadV; rw [if_neg (by omega)]; simp only [show (b < 224) = False from by simp; omega, show (b < 240) = True from by simp; omega, show (b = 224) = True from by simp; omega, show (b = 237) = False from by simp; omega, show (b = 240) = False from by simp; omega, show (b = 244) = False from by simp; omega, if_true, if_false])
  have x1 : decide (b < 224) = false := by simp; omega
  have x2 : decide (b < 240) = true := by simp; omega
  have x3 : (b == 224) = true := by simp; omega
  have x4 : (b == 237) = false := by simp; omega
  have x5 : (b == 240) = false := by simp; omega
  have x6 : (b == 244) = false := by simp; omega
  have HB := Lib.hid q1
  clear q1 a1 a2
  go_enter Tryz.func196, Tryz.ntmps196
  go_wp2_with fail
  go_ret
  rw [hn.out]
  obtain ⟨k1, e1⟩ := HH.out.lo HR.out 128
  obtain ⟨k2, e2⟩ := k1.hi HR.out 191
  obtain ⟨k3, e3⟩ := k2.need HR.out 2
  obtain ⟨k4, e4⟩ := k3.c HR.out (b % 16)
  obtain ⟨k5, e5⟩ := k4.lo HR.out 160
  exact ⟨(((e1.trans e2 (fun _ _ h => h)).trans e3 (fun _ _ h => h)).trans e4 (fun _ _ h => h)).trans e5 (fun _ _ h => h), rfl, k5⟩
 by_cases q2 : b = 237
 ·have hn : Hid (leadV st b = some (⟨2, 128, 159, b % 16⟩, [])) := Lib.hid (by unfold leadV; rw [if_neg (by omega)]; simp only [show (b < 224) = False from by simp; omega, show (b < 240) = True from by simp; omega, show (b = 224) = False from by simp; omega, show (b = 237) = True from by simp; omega, show (b = 240) = False from by simp; omega, show (b = 244) = False from by simp; omega, if_true, if_false])
  have x1 : decide (b < 224) = false := by simp; omega
  have x2 : decide (b < 240) = true := by simp; omega
  have x3 : (b == 224) = false := by simp; omega
  have x4 : (b == 237) = true := by simp; omega
  have x5 : (b == 240) = false := by simp; omega
  have x6 : (b == 244) = false := by simp; omega
  have HB := Lib.hid q2
  clear q2 a1 a2
  go_enter Tryz.func196, Tryz.ntmps196
  go_wp2_with fail
  go_ret
  rw [hn.out]
  obtain ⟨k1, e1⟩ := HH.out.lo HR.out 128
  obtain ⟨k2, e2⟩ := k1.hi HR.out 191
  obtain ⟨k3, e3⟩ := k2.need HR.out 2
  obtain ⟨k4, e4⟩ := k3.c HR.out (b % 16)
  obtain ⟨k5, e5⟩ := k4.hi HR.out 159
  exact ⟨(((e1.trans e2 (fun _ _ h => h)).trans e3 (fun _ _ h => h)).trans e4 (fun _ _ h => h)).trans e5 (fun _ _ h => h), rfl, k5⟩
 by_cases q3 : b < 240
 ·have hn : Hid (leadV st b = some (⟨2, 128, 191, b % 16⟩, [])) := Lib.hid (by unfold leadV; rw [if_neg (by omega)]; simp only [show (b < 224) = False from by simp; omega, show (b < 240) = True from by simp; omega, show (b = 224) = False from by simp; omega, show (b = 237) = False from by simp; omega, show (b = 240) = False from by simp; omega, show (b = 244) = False from by simp; omega, if_true, if_false])
  have x1 : decide (b < 224) = false := by simp; omega
  have x2 : decide (b < 240) = true := by simp; omega
  have x3 : (b == 224) = false := by simp; omega
  have x4 : (b == 237) = false := by simp; omega
  have x5 : (b == 240) = false := by simp; omega
  have x6 : (b == 244) = false := by simp; omega
  have HB := Lib.hid q3
  clear q3 a1 a2
  go_enter Tryz.func196, Tryz.ntmps196
  go_wp2_with fail
  go_ret
  rw [hn.out]
  obtain ⟨k1, e1⟩ := HH.out.lo HR.out 128
  obtain ⟨k2, e2⟩ := k1.hi HR.out 191
  obtain ⟨k3, e3⟩ := k2.need HR.out 2
  obtain ⟨k4, e4⟩ := k3.c HR.out (b % 16)
  exact ⟨((e1.trans e2 (fun _ _ h => h)).trans e3 (fun _ _ h => h)).trans e4 (fun _ _ h => h), rfl, k4⟩
 by_cases q4 : b = 240
 ·have hn : Hid (leadV st b = some (⟨3, 144, 191, b % 8⟩, [])) := Lib.hid (by unfold leadV; rw [if_neg (by omega)]; simp only [show (b < 224) = False from by simp; omega, show (b < 240) = False from by simp; omega, show (b = 224) = False from by simp; omega, show (b = 237) = False from by simp; omega, show (b = 240) = True from by simp; omega, show (b = 244) = False from by simp; omega, if_true, if_false])
  have x1 : decide (b < 224) = false := by simp; omega
  have x2 : decide (b < 240) = false := by simp; omega
  have x3 : (b == 224) = false := by simp; omega
  have x4 : (b == 237) = false := by simp; omega
  have x5 : (b == 240) = true := by simp; omega
  have x6 : (b == 244) = false := by simp; omega
  have HB := Lib.hid q4
  clear q4 a1 a2
  go_enter Tryz.func196, Tryz.ntmps196
  go_wp2_with fail
  go_ret
  rw [hn.out]
  obtain ⟨k1, e1⟩ := HH.out.lo HR.out 128
  obtain ⟨k2, e2⟩ := k1.hi HR.out 191
  obtain ⟨k3, e3⟩ := k2.need HR.out 3
  obtain ⟨k4, e4⟩ := k3.c HR.out (b % 8)
  obtain ⟨k5, e5⟩ := k4.lo HR.out 144
  exact ⟨(((e1.trans e2 (fun _ _ h => h)).trans e3 (fun _ _ h => h)).trans e4 (fun _ _ h => h)).trans e5 (fun _ _ h => h), rfl, k5⟩
 by_cases q5 : b = 244
 ·have hn : Hid (leadV st b = some (⟨3, 128, 143, b % 8⟩, [])) := Lib.hid (by unfold leadV; rw [if_neg (by omega)]; simp only [show (b < 224) = False from by simp; omega, show (b < 240) = False from by simp; omega, show (b = 224) = False from by simp; omega, show (b = 237) = False from by simp; omega, show (b = 240) = False from by simp; omega, show (b = 244) = True from by simp; omega, if_true, if_false])
  have x1 : decide (b < 224) = false := by simp; omega
  have x2 : decide (b < 240) = false := by simp; omega
  have x3 : (b == 224) = false := by simp; omega
  have x4 : (b == 237) = false := by simp; omega
  have x5 : (b == 240) = false := by simp; omega
  have x6 : (b == 244) = true := by simp; omega
  have HB := Lib.hid q5
  clear q5 a1 a2
  go_enter Tryz.func196, Tryz.ntmps196
  go_wp2_with fail
  go_ret
  rw [hn.out]
  obtain ⟨k1, e1⟩ := HH.out.lo HR.out 128
  obtain ⟨k2, e2⟩ := k1.hi HR.out 191
  obtain ⟨k3, e3⟩ := k2.need HR.out 3
  obtain ⟨k4, e4⟩ := k3.c HR.out (b % 8)
  obtain ⟨k5, e5⟩ := k4.hi HR.out 143
  exact ⟨(((e1.trans e2 (fun _ _ h => h)).trans e3 (fun _ _ h => h)).trans e4 (fun _ _ h => h)).trans e5 (fun _ _ h => h), rfl, k5⟩
 ·have q9 := a1
  have hn : Hid (leadV st b = some (⟨3, 128, 191, b % 8⟩, [])) := Lib.hid (by unfold leadV; rw [if_neg (by omega)]; simp only [show (b < 224) = False from by simp; omega, show (b < 240) = False from by simp; omega, show (b = 224) = False from by simp; omega, show (b = 237) = False from by simp; omega, show (b = 240) = False from by simp; omega, show (b = 244) = False from by simp; omega, if_true, if_false])
  have x1 : decide (b < 224) = false := by simp; omega
  have x2 : decide (b < 240) = false := by simp; omega
  have x3 : (b == 224) = false := by simp; omega
  have x4 : (b == 237) = false := by simp; omega
  have x5 : (b == 240) = false := by simp; omega
  have x6 : (b == 244) = false := by simp; omega
  have HB := Lib.hid q9
  clear q9 a1 a2
  go_enter Tryz.func196, Tryz.ntmps196
  go_wp2_with fail
  go_ret
  rw [hn.out]
  obtain ⟨k1, e1⟩ := HH.out.lo HR.out 128
  obtain ⟨k2, e2⟩ := k1.hi HR.out 191
  obtain ⟨k3, e3⟩ := k2.need HR.out 3
  obtain ⟨k4, e4⟩ := k3.c HR.out (b % 8)
  exact ⟨((e1.trans e2 (fun _ _ h => h)).trans e3 (fun _ _ h => h)).trans e4 (fun _ _ h => h), rfl, k4⟩
theorem orV {x y : Int} (hx0 : 0 ≤ x) (hx : x < 67108864) (hy0 : 0 ≤ y) (hy : y < 64) : bits .or .u32 (x * 64) y = x * 64 + y := bits_join .u32 32 (by decide) wraps_u32 6 (x * 64) y (by omega) (by omega) (by omega) hy0 (by omega) (by omega)
set_option maxRecDepth 100000 in
set_option maxHeartbeats 4000000 in
theorem nextV_c {w : World} {g : Nat} {F : Nat → Prop} {d : DSt DV} (b : Int) (h : GRep TDV DV EV w g F d) (h0 : 0 ≤ b) (h1 : b ≤ 255) (hg : d.err = 0 ∧ d.en = false) (hl : d.held.length ≤ 9000000) :
  Calls Tryz.prog 193 #[.pointer (some ⟨g, 0, none⟩), .int .u8 b] w (NextP TDV EV w g F d (DV.next d.st b)) := by
 have HH := Lib.hid h
 have HX := Lib.hid (GVx.of h)
 have HOK : Hid (okV d.st) := by
  obtain ⟨lv, st, xs, G, hb, hq, hF, hs, ⟨h1, h2, h3⟩, hgg, hll⟩ := h
  obtain rfl := hs hg.1
  exact Lib.hid h2
 obtain ⟨st, hst⟩ : ∃ st, d.st = st := ⟨_, rfl⟩
 have HST := Lib.hid hst
 rw [hst] at HX HOK ⊢
 obtain ⟨c5, c6, c7, c8, hf⟩ := HX.out.cells hg.1
 have hdn : DV.next st b = nextV st b := rfl
 rw [hdn]
 clear h hst hdn
 obtain ⟨need, lo, hi, c⟩ := st
 simp only at c5 c6 c7 c8
 by_cases hn0 : need = 0
 ·subst hn0
  by_cases hb128 : b < 128
  ·have hn : Hid (nextV ⟨0, lo, hi, c⟩ b = some (⟨0, lo, hi, c⟩, [b])) := Lib.hid (by unfold nextV; rw [if_pos rfl, if_pos hb128])
   have HA := Lib.hid (HH.out.eff EV_ok (Eff.alloc w (.cells #[.int .u32 b] 47 (0, 0)) (fun _ => False)) (fun _ _ h => h))
   have HHO := Lib.hid (GRep.hold EV_ok (by decide) HA.out (c := 1) (reads_u32 w b) (by show d.held.length + 1 ≤ _; omega))
   have hd : decide (b < 128) = true := decide_eq_true hb128
   clear hb128
   go_enter Tryz.func193, Tryz.ntmps193
   go_wp2_with (go_at_call 195; refine HHO.out.mono ?_; rintro e w2 ⟨rfl, F2, hr2, he2, hf2⟩)
   go_ret
   rw [hn.out]
   refine ⟨F2, ⟨rfl, ?_⟩, (Eff.alloc w _ F).trans he2 (fun _ _ h => h), fun k h => (hf2 k h).elim .inl fun h => .inr (Nat.le_trans (by simp) h)⟩
   have e : { d with st := (⟨0, lo, hi, c⟩ : V8), held := d.held ++ [b] } = { d with held := d.held ++ [b] } := by rw [← HST.out]
   exact e ▸ hr2
  ·have hn : Hid (nextV ⟨0, lo, hi, c⟩ b = leadV ⟨0, lo, hi, c⟩ b) := Lib.hid (by unfold nextV; rw [if_pos rfl, if_neg hb128])
   have hd : decide (b < 128) = false := decide_eq_false hb128
   have HL := Lib.hid (lead_c b HX.out hg.1 h0 h1)
   clear hb128
   go_enter Tryz.func193, Tryz.ntmps193
   have HRES : Hid (∀ e w2, LeadP w g F d ⟨0, lo, hi, c⟩ (leadV ⟨0, lo, hi, c⟩ b) e w2 → ∃ r, e = .returned (.bool r) ∧ NextP TDV EV w g F d (leadV ⟨0, lo, hi, c⟩ b) (.returned (.bool r)) w2) := Lib.hid fun e w2 hp => by
    obtain ⟨he, hm⟩ := hp
    cases hr : leadV ⟨0, lo, hi, c⟩ b with
    | none =>
     rw [hr] at hm
     obtain ⟨rfl, hm⟩ := hm
     refine ⟨false, rfl, F, ⟨rfl, _, hm.to hg.1 ?_⟩, he, fun k h => .inl h⟩
     exact ⟨HOK.out.1, .inl ⟨rfl, by have := HOK.out.2; dsimp only at this ⊢; omega⟩⟩
    | some p =>
     obtain ⟨st1, l⟩ := p
     obtain ⟨o1, rfl⟩ := leadV_ok h0 h1 hr
     rw [hr] at hm
     obtain ⟨rfl, hm⟩ := hm
     exact ⟨true, rfl, F, ⟨rfl, by simpa using hm.to hg.1 o1⟩, he, fun k h => .inl h⟩
   go_wp2_with (go_at_call 196; refine HL.out.mono ?_; intro e w2 hp; obtain ⟨r, rfl, hq⟩ := HRES.out e w2 hp; clear hp)
   go_ret
   rw [hn.out]
   exact hq
 ·have hnd : (need == 0) = false := by simpa using hn0
  have hnx : nextV ⟨need, lo, hi, c⟩ b = if b < lo ∨ hi < b then none else if need = 1 then some (⟨0, 128, 191, c * 64 + b % 64⟩, [c * 64 + b % 64]) else some (⟨need - 1, 128, 191, c * 64 + b % 64⟩, []) := by
   unfold nextV; rw [if_neg hn0]
  have HNX := Lib.hid hnx
  clear hnx
  by_cases hb1 : b < lo
  ·have hn : Hid (nextV ⟨need, lo, hi, c⟩ b = none) := Lib.hid (by rw [HNX.out, if_pos (.inl hb1)])
   have hd : decide (b < lo) = true := decide_eq_true hb1
   clear hb1 hn0
   go_enter Tryz.func193, Tryz.ntmps193
   go_wp2_with fail
   go_ret
   rw [hn.out]
   exact ⟨F, ⟨rfl, d.st, HH.out⟩, Eff.refl _ _, fun k h => .inl h⟩
  have hd : decide (b < lo) = false := decide_eq_false hb1
  by_cases hb2 : hi < b
  ·have hn : Hid (nextV ⟨need, lo, hi, c⟩ b = none) := Lib.hid (by rw [HNX.out, if_pos (.inr hb2)])
   have hd2 : decide (hi < b) = true := decide_eq_true hb2
   clear hb1 hb2 hn0
   go_enter Tryz.func193, Tryz.ntmps193
   go_wp2_with fail
   go_ret
   rw [hn.out]
   exact ⟨F, ⟨rfl, d.st, HH.out⟩, Eff.refl _ _, fun k h => .inl h⟩
  have hd2 : decide (hi < b) = false := decide_eq_false hb2
  have HNB : Hid (¬ (b < lo ∨ hi < b)) := Lib.hid (fun h => h.elim hb1 hb2)
  have hc0 : 0 ≤ c := HOK.out.1
  have hcc : (need = 1 ∧ c < 32768) ∨ (need = 2 ∧ c < 512) ∨ (need = 3 ∧ c < 8) := by
   have := HOK.out.2; simp only at this; omega
  have hc1 : c < 32768 := by omega
  have hne : 1 ≤ need ∧ need ≤ 3 := by omega
  have hne1 := hne.1
  have hne2 := hne.2
  have m63 : bits .and .u8 b 63 = b % 64 := u8_and63 _ h0 (by omega)
  have o1 : bits .or .u32 (c * 64) (b % 64) = c * 64 + b % 64 := orV hc0 (by omega) (by omega) (by omega)
  obtain ⟨x, hx⟩ : ∃ x, c * 64 + b % 64 = x := ⟨_, rfl⟩
  rw [hx] at HNX o1
  have HXX := Lib.hid hx
  have HK : Hid (∃ w4, ((((w.setCell ⟨g, 6, none⟩ (.int .u8 128)).setCell ⟨g, 7, none⟩ (.int .u8 191)).setCell ⟨g, 8, none⟩ (.int .u32 x)).setCell ⟨g, 5, none⟩ (.int .i64 (need - 1))) = w4 ∧ GVx w4 g F d ⟨need - 1, 128, 191, x⟩ ∧ Eff w w4 F) := by
   obtain ⟨k1, e1⟩ := HX.out.lo hg.1 128
   obtain ⟨k2, e2⟩ := k1.hi hg.1 191
   obtain ⟨k3, e3⟩ := k2.c hg.1 x
   obtain ⟨k4, e4⟩ := k3.need hg.1 (need - 1)
   exact Lib.hid ⟨_, rfl, k4, ((e1.trans e2 (fun _ _ h => h)).trans e3 (fun _ _ h => h)).trans e4 (fun _ _ h => h)⟩
  have HOX : Hid (need ≠ 1 → okV ⟨need - 1, 128, 191, x⟩) := Lib.hid fun h => by unfold okV; dsimp only; omega
  have HOX1 : Hid (okV ⟨0, 128, 191, x⟩) := Lib.hid (by unfold okV; dsimp only; omega)
  clear hb1 hb2 hcc hne hx hn0
  obtain ⟨w4, hw4, k4, e4⟩ := HK.out
  have HK4 := Lib.hid k4
  have HE4 := Lib.hid e4
  obtain ⟨c45, _, _, c48, hf4⟩ := k4.cells hg.1
  simp only at c45 c48
  clear k4 e4 HK
  go_enter Tryz.func193, Tryz.ntmps193
  go_upto_region 11 with fail
  by_cases hnn : need = 1
  ·subst hnn
   have hn : Hid (nextV ⟨1, lo, hi, c⟩ b = some (⟨0, 128, 191, x⟩, [x])) := Lib.hid (by rw [HNX.out, if_neg HNB.out, if_pos rfl])
   have HG4 : Hid (GRep TDV DV EV w4 g F { d with st := (⟨0, 128, 191, x⟩ : V8) }) := Lib.hid (HK4.out.to hg.1 HOX1.out)
   have HHD := Lib.hid (GRep.hold EV_ok (by decide) (d := { d with st := (⟨0, 128, 191, x⟩ : V8) }) (HG4.out.eff EV_ok (show Eff w4 (w4.alloc (.cells #[.int .u32 x] 47 (0, 0))).drew (fun _ => False) from (Eff.alloc w4 _ _).trans (Eff.drewN _ 1 _) (fun _ _ h => h)) (fun _ _ h => h)) (c := 1) (show ReadsInt (w4.alloc (.cells #[.int .u32 x] 47 (0, 0))).drew .u32 (some ⟨w4.heap.size, 0, none⟩) [x].length [x] from reads_u32 w4 x) (by show d.held.length + 1 ≤ _; omega))
   have HZA : Hid (w4.heap.size ≤ (w4.alloc (.cells #[.int .u32 x] 47 (0, 0))).drew.heap.size) := Lib.hid (show Eff w4 (w4.alloc (.cells #[.int .u32 x] 47 (0, 0))).drew (fun _ => False) from (Eff.alloc w4 _ _).trans (Eff.drewN _ 1 _) (fun _ _ h => h)).size
   clear HNX
   go_upto_region 12 with fail
   go_cut [] (fun wx => ∃ F6, Hid (GRep TDV DV EV wx g F6 { d with st := (⟨0, 128, 191, x⟩ : V8), held := d.held ++ [x] } ∧ Eff w4 wx F ∧ ∀ k, F6 k → F k ∨ w4.heap.size ≤ k))
   case first =>
    go_region_with (go_at_call 195; refine HHD.out.mono ?_; rintro e w6 ⟨rfl, F6, hr6, he6, hf6⟩; have HR6 := Lib.hid (And.intro hr6 (And.intro he6 hf6)); clear hr6 he6 hf6)
    all_goals (go_wp2_with fail; go_meet)
    all_goals
     refine ⟨F6, Lib.hid ⟨HR6.out.1, ((Eff.alloc w4 _ F).trans (Eff.drewN _ 1 _) (fun _ _ h => h)).trans HR6.out.2.1 (fun _ _ h => h), fun k h => (HR6.out.2.2 k h).elim .inl (fun h => .inr (Nat.le_trans HZA.out h))⟩⟩
   case rest =>
    obtain ⟨F6, H6⟩ := hcut
    go_wp2_with fail
    go_ret
    rw [hn.out]
    exact ⟨F6, ⟨rfl, H6.out.1⟩, HE4.out.trans H6.out.2.1 (fun _ _ h => h), fun k h => (H6.out.2.2 k h).elim .inl (fun h2 => .inr (Nat.le_trans HE4.out.size h2))⟩
  ·have hn : Hid (nextV ⟨need, lo, hi, c⟩ b = some (⟨need - 1, 128, 191, x⟩, [])) := Lib.hid (by rw [HNX.out, if_neg HNB.out, if_neg hnn])
   have hz : (need - 1 == 0) = false := by simp; omega
   have HG4 : Hid (GRep TDV DV EV w4 g F { d with st := (⟨need - 1, 128, 191, x⟩ : V8) }) := Lib.hid (HK4.out.to hg.1 (HOX.out hnn))
   clear HNX hnn
   go_wp2_with fail
   go_ret
   rw [hn.out]
   exact ⟨F, ⟨rfl, by simpa using HG4.out⟩, HE4.out, fun k h => .inl h⟩
theorem EV_open {w : World} {xs : List Value} {st : DV.St} {G : Nat → Prop} (h : EV w xs st G) : xs = [.int .i64 (V8.need st), .int .u8 (V8.lo st), .int .u8 (V8.hi st), .int .u32 (V8.c st)] ∧ 0 ≤ V8.need st :=
 ⟨h.1, by obtain ⟨_, h⟩ := h.2.1; omega⟩
set_option maxRecDepth 100000 in
set_option maxHeartbeats 4000000 in
theorem finV {w : World} {g : Nat} {F : Nat → Prop} {d : DSt DV} (h : GRep TDV DV EV w g F d) :
  Calls Tryz.prog 190 #[.pointer (some ⟨g, 0, none⟩)] w fun e w' => ∃ F', e = .returned (.tuple #[]) ∧ GRep TDV DV EV w' g F' (endD DV d) ∧ Eff w w' F ∧ (∀ k, F' k → F k ∨ w.heap.size ≤ k) := by
 have HH := Lib.hid h
 obtain ⟨lv, st, xs, G, hb, hq, hF, hs, hE, hgg, hll⟩ := h
 obtain ⟨hxs, hn0⟩ := EV_open hE
 rw [hxs] at hb
 have c6 : w.cell? ⟨g, 5, none⟩ = some (.int .i64 (V8.need st)) := hb.cell rfl
 have HOP : Hid (d.err = 0 → (DV).fin d.st = if V8.need st = 0 then some [] else none) := Lib.hid fun he => by rw [← hs he]; rfl
 obtain ⟨n, hn⟩ : ∃ n, V8.need st = n := ⟨_, rfl⟩
 rw [hn] at c6 hn0 HOP
 clear hb hq hF hgg hll hs hE hn hxs
 have hopen : n ≠ 0 → d.err = 0 ∧ d.en = false → endD DV d = { d with err := 4, fat := d.pos } := fun hc hg => by
  unfold endD; rw [if_pos hg, HOP.out hg.1, if_neg hc]
 have hshut : n = 0 → d.err = 0 ∧ d.en = false → endD DV d = { d with en := true } := fun hc hg => by
  unfold endD; rw [if_pos hg, HOP.out hg.1, if_pos hc]; simp
 have hnot : ¬ (d.err = 0 ∧ d.en = false) → endD DV d = d := fun hg => by unfold endD; rw [if_neg hg]
 have HOPEN := Lib.hid hopen
 have HSHUT := Lib.hid hshut
 have HNOT := Lib.hid hnot
 clear hopen hshut hnot HOP
 by_cases hc : n = 0
 ·have HC := Lib.hid hc
  have hd : decide (n > 0) = false := decide_eq_false (by omega)
  have hd2 : ¬ 0 < n := by omega
  clear hc
  by_cases hg : d.err = 0 ∧ d.en = false
  ·have HE := Lib.hid (HH.out.ending EV_ok (by decide) hg)
   have HG := Lib.hid hg
   clear hg
   go_enter Tryz.func190, Tryz.ntmps190
   go_wp2_with (go_at_call 99; refine HE.out.mono ?_; rintro e w1 ⟨rfl, hr1, he1⟩)
   refine bodyPost_end (v := .tuple #[]) (by simp [results, Tryz.results190, go_sem]) rfl ⟨F, rfl, ?_, he1, fun k h => .inl h⟩
   rw [HSHUT.out HC.out HG.out]
   exact hr1
  ·have HE := Lib.hid (HH.out.ended hg)
   have HG := Lib.hid hg
   clear hg
   go_enter Tryz.func190, Tryz.ntmps190
   go_wp2_with (go_at_call 99; refine HE.out.mono ?_; rintro e w1 ⟨rfl, rfl⟩)
   refine bodyPost_end (v := .tuple #[]) (by simp [results, Tryz.results190, go_sem]) rfl ⟨F, rfl, ?_, Eff.refl _ _, fun k h => .inl h⟩
   rw [HNOT.out HG.out]
   exact HH.out
 ·have HC := Lib.hid hc
  have hd : decide (n > 0) = true := decide_eq_true (by omega)
  have hd2 : 0 < n := by omega
  clear hc
  by_cases hg : d.err = 0 ∧ d.en = false
  ·have HST := Lib.hid (HH.out.stop EV_ok (by decide) hg 4 (by decide) d.st)
   have HG := Lib.hid hg
   clear hg
   have FIN : Hid (∀ w1, GRep TDV DV EV w1 g F { d with err := 4, fat := d.pos, st := d.st } → Calls Tryz.prog 99 #[.pointer (some ⟨g, 0, none⟩)] w1 fun e w' => e = .returned (.tuple #[]) ∧ w1 = w') := Lib.hid fun w1 hr => hr.ended (fun h => by have h1 : (4 : Int) = 0 := h.1; omega)
   go_enter Tryz.func190, Tryz.ntmps190
   go_upto_region 2 with (go_at_call 106; refine HST.out.mono ?_; rintro e w1 ⟨rfl, hr1, he1⟩)
   have HR1 := Lib.hid (And.intro hr1 he1)
   have HE := Lib.hid (FIN.out w1 hr1)
   clear hr1 he1
   go_wp2_with (go_at_call 99; refine HE.out.mono ?_; rintro e w2 ⟨rfl, rfl⟩)
   refine bodyPost_end (v := .tuple #[]) (by simp [results, Tryz.results190, go_sem]) rfl ⟨F, rfl, ?_, HR1.out.2, fun k h => .inl h⟩
   rw [HOPEN.out HC.out HG.out]
   exact HR1.out.1
  ·have HE := Lib.hid (HH.out.ended hg)
   have HST := Lib.hid (HH.out.stopped hg 4)
   have HG := Lib.hid hg
   clear hg
   go_enter Tryz.func190, Tryz.ntmps190
   go_wp2_with (first
    | (go_at_call 106; refine HST.out.mono ?_; rintro e w1 ⟨rfl, rfl⟩)
    | (go_at_call 99; refine HE.out.mono ?_; rintro e w2 ⟨rfl, rfl⟩))
   refine bodyPost_end (v := .tuple #[]) (by simp [results, Tryz.results190, go_sem]) rfl ⟨F, rfl, ?_, Eff.refl _ _, fun k h => .inl h⟩
   rw [HNOT.out HG.out]
   exact HH.out
theorem kV : DecK 65 191 190 DV (GRep TDV DV EV) where
 invF := by intro n g x y w; kernel_rfl
 invE := by intro n g w; kernel_rfl
 invD := by intro n g w; kernel_rfl
 invW := by intro n g w; kernel_rfl
 lt h k hk := h.lt EV_ok k hk
 eff h he hs := h.eff EV_ok he hs
 feed s room h hp hh := feedG EV_ok (by decide) DV_one _ _ (.inl ⟨rfl, rfl⟩) nextV_c s room h hp hh
 fin h _ _ := finV h
 done h := h.done
 fail h := h.fail
theorem newV_c (w : World) : Calls Tryz.prog 22 #[] w fun e w' => e = .returned (.pointer (some ⟨w.heap.size, 0, none⟩)) ∧ w' = w.alloc (.cells (gcs (DSt.new DV) (.slice none 0 0) [.int .i64 0, .int .u8 0, .int .u8 0, .int .u32 0]) TDV (0, 0)) := by
 go_enter Tryz.func22, Tryz.ntmps22
 go_wp2_with fail
 go_ret
 exact ⟨rfl, rfl⟩
theorem newV_rep (w : World) : GRep TDV DV EV (w.alloc (.cells (gcs (DSt.new DV) (.slice none 0 0) [.int .i64 0, .int .u8 0, .int .u8 0, .int .u32 0]) TDV (0, 0))) w.heap.size (fun k => k = w.heap.size) (DSt.new DV) :=
 ⟨.slice none 0 0, (DV).ini, _, fun _ => False, Blk.new w _ _, ⟨rfl, .inl ⟨rfl, none, rfl, fun a h => by cases h⟩⟩, fun k => ⟨.inl, fun h => h.elim id (fun h => h.elim (fun h => by cases h) False.elim)⟩, fun _ => rfl, ⟨rfl, ⟨Int.le_refl 0, .inl ⟨rfl, show (0 : Int) < 2097152 by decide⟩⟩, fun _ h => h⟩, fun h => h, fun _ _ h => h⟩
set_option maxRecDepth 100000 in
theorem newD1 : NewD 1 65 DV (GRep TDV DV EV) := by
 intro w
 go_enter Tryz.func7, Tryz.ntmps7
 go_wp2_with (go_at_call 22; refine (newV_c  _).mono ?_; rintro e w' ⟨rfl, rfl⟩)
 refine bodyPost_ret (v := .tuple #[.iface 65 (.pointer (some ⟨w.heap.size, 0, none⟩)), .int .i64 0]) (by simp [results, Tryz.results7, go_sem]) rfl ?_
 exact ⟨_, _, rfl, below_new (Below.refl _ _) _, newV_rep  w, fun k hk => Nat.le_of_eq hk.symm⟩
end Go.Proofs.YtppchdinolndmaaGreat
