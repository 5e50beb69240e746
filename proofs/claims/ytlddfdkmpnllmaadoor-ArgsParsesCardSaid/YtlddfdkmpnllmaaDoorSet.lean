/- args.set answers what setF answers, and writes the plan alone. -/
import Derived.Test.YtlddfdkmpnllmaaDoorNm
import Derived.Test.YtlddfdkmpnllmaaDoorMap
import Derived.Test.YtlddfdkmpnllmaaDoorPProgx
import Derived.Outline
import Derived.RegionTactic
import Derived.BigRegion
import Derived.ChangeAlike
import Derived.Deep.DeepCutAuto
namespace Go.Proofs.YtlddfdkmpnllmaaDoor
open Go.RowKit
set_option linter.unusedVariables false

/-- A plan. -/
structure Pl where
  c0 : Int
  c1 : Int
  c2 : Int
  c3 : Int
  c4 : Int
  f : Bool
  s : Bool
  t : Bool
def Pl.cells (p : Pl) : Array Value := #[.int .i64 p.c0, .int .i64 p.c1, .int .i64 p.c2, .int .i64 p.c3, .int .i64 p.c4, .bool p.f, .bool p.s, .bool p.t]
def Pl.zero : Pl := ⟨0, 0, 0, 0, 0, false, false, false⟩
/-- The plan p lies in block b. -/
def PlanAt (w : World) (b : Nat) (p : Pl) : Prop := w.heap[b]? = some (.cells p.cells 26 (0, 0))
theorem PlanAt.lt {w : World} {b : Nat} {p : Pl} (h : PlanAt w b p) : b < w.heap.size := (Array.getElem?_eq_some_iff.1 h).1
theorem PlanAt.alloc {w : World} {b : Nat} {p : Pl} (h : PlanAt w b p) (o : Obj) : PlanAt (w.alloc o) b p := (Below.heap_alloc w o b h.lt).trans h
theorem PlanAt.drew {w : World} {b : Nat} {p : Pl} (h : PlanAt w b p) : PlanAt w.drew b p := h
theorem PlanAt.below {w w1 : World} {b : Nat} {p : Pl} (h : PlanAt w b p) (hb : Below w.heap.size w w1) : PlanAt w1 b p := (hb.block b h.lt).trans h
theorem PlanAt.set {w : World} {b : Nat} {p q : Pl} (h : PlanAt w b p) (i : Nat) (v : Value) (hq : p.cells.setIfInBounds i v = q.cells) : PlanAt (w.setCell ⟨b, i, none⟩ v) b q := by
  unfold PlanAt World.setCell
  simp only [Array.getElem?_modify]
  have h' : w.heap[b]? = _ := h
  rw [h', ← hq]
  simp
theorem PlanAt.cell {w : World} {b : Nat} {p : Pl} (h : PlanAt w b p) (i : Nat) : w.cell? ⟨b, i, none⟩ = p.cells[i]? := by
  have h' : w.heap[b]? = _ := h
  simp [World.cell?, h']
theorem PlanAt.frozen {w : World} {b : Nat} {p : Pl} (h : PlanAt w b p) (i : Nat) : w.frozen? ⟨b, i, none⟩ = false := by
  have h' : w.heap[b]? = _ := h
  simp [World.frozen?, h']
theorem grown_set (w : World) (b i : Nat) (v : Value) : w.grownBy (w.setCell ⟨b, i, none⟩ v) (some b) :=
  ⟨rfl, rfl, rfl, by simp [World.setCell], fun k _ hk => Below.heap_setCell w ⟨b, i, none⟩ v k (fun e => hk (by rw [e]))⟩
theorem grown_below {w w1 : World} (h : Below w.heap.size w w1) (row : Option Nat) : w.grownBy w1 row := ⟨h.os, h.tape, h.output, h.size, fun i hi _ => h.block i hi⟩
theorem grown_drew {w w1 : World} {row : Option Nat} (h : w.grownBy w1 row) : w.grownBy w1.drew row := ⟨h.os, h.tape, h.output, h.size, h.block⟩
theorem grown_drewN {w w1 : World} {row : Option Nat} (h : w.grownBy w1 row) (n : Nat) : w.grownBy (w1.drewN n) row := ⟨h.os, h.tape, h.output, h.size, h.block⟩
theorem PlanAt.drewN {w : World} {b : Nat} {p : Pl} (h : PlanAt w b p) (n : Nat) : PlanAt (w.drewN n) b p := h
theorem grown_alloc {w w1 : World} {row : Option Nat} (h : w.grownBy w1 row) (o : Obj) : w.grownBy (w1.alloc o) row := World.grownBy.trans h (World.grownBy_alloc _ _ _)
theorem bcell {W w1 : World} (hb : Below W.heap.size W w1) : (∀ b o, b < W.heap.size → w1.cell? ⟨b, o, none⟩ = W.cell? ⟨b, o, none⟩) ∧ (∀ b o, b < W.heap.size → w1.frozen? ⟨b, o, none⟩ = W.frozen? ⟨b, o, none⟩) :=
  ⟨fun b o h => hb.cell (p := ⟨b, o, none⟩) h, fun b o h => hb.frozen (p := ⟨b, o, none⟩) h⟩

def kFramed : ByteArray := ⟨#[45, 45, 102, 114, 97, 109, 101, 100]⟩
def kSign : ByteArray := ⟨#[45, 45, 115, 105, 103, 110]⟩
def kStrip : ByteArray := ⟨#[45, 45, 115, 116, 114, 105, 112]⟩
def kFrom : ByteArray := ⟨#[45, 45, 102, 114, 111, 109]⟩
def kTo : ByteArray := ⟨#[45, 45, 116, 111]⟩
def kForm : ByteArray := ⟨#[45, 45, 102, 111, 114, 109]⟩
def kSize : ByteArray := ⟨#[45, 45, 115, 105, 122, 101]⟩
theorem eFramedFramed : ((⟨#[45, 45, 102, 114, 97, 109, 101, 100]⟩ : ByteArray) == ⟨#[45, 45, 102, 114, 97, 109, 101, 100]⟩) = true := by decide
theorem eFramedSign : ((⟨#[45, 45, 102, 114, 97, 109, 101, 100]⟩ : ByteArray) == ⟨#[45, 45, 115, 105, 103, 110]⟩) = false := by decide
theorem eFramedStrip : ((⟨#[45, 45, 102, 114, 97, 109, 101, 100]⟩ : ByteArray) == ⟨#[45, 45, 115, 116, 114, 105, 112]⟩) = false := by decide
theorem eFramedFrom : ((⟨#[45, 45, 102, 114, 97, 109, 101, 100]⟩ : ByteArray) == ⟨#[45, 45, 102, 114, 111, 109]⟩) = false := by decide
theorem eFramedTo : ((⟨#[45, 45, 102, 114, 97, 109, 101, 100]⟩ : ByteArray) == ⟨#[45, 45, 116, 111]⟩) = false := by decide
theorem eFramedForm : ((⟨#[45, 45, 102, 114, 97, 109, 101, 100]⟩ : ByteArray) == ⟨#[45, 45, 102, 111, 114, 109]⟩) = false := by decide
theorem eSignFramed : ((⟨#[45, 45, 115, 105, 103, 110]⟩ : ByteArray) == ⟨#[45, 45, 102, 114, 97, 109, 101, 100]⟩) = false := by decide
theorem eSignSign : ((⟨#[45, 45, 115, 105, 103, 110]⟩ : ByteArray) == ⟨#[45, 45, 115, 105, 103, 110]⟩) = true := by decide
theorem eSignStrip : ((⟨#[45, 45, 115, 105, 103, 110]⟩ : ByteArray) == ⟨#[45, 45, 115, 116, 114, 105, 112]⟩) = false := by decide
theorem eSignFrom : ((⟨#[45, 45, 115, 105, 103, 110]⟩ : ByteArray) == ⟨#[45, 45, 102, 114, 111, 109]⟩) = false := by decide
theorem eSignTo : ((⟨#[45, 45, 115, 105, 103, 110]⟩ : ByteArray) == ⟨#[45, 45, 116, 111]⟩) = false := by decide
theorem eSignForm : ((⟨#[45, 45, 115, 105, 103, 110]⟩ : ByteArray) == ⟨#[45, 45, 102, 111, 114, 109]⟩) = false := by decide
theorem eStripFramed : ((⟨#[45, 45, 115, 116, 114, 105, 112]⟩ : ByteArray) == ⟨#[45, 45, 102, 114, 97, 109, 101, 100]⟩) = false := by decide
theorem eStripSign : ((⟨#[45, 45, 115, 116, 114, 105, 112]⟩ : ByteArray) == ⟨#[45, 45, 115, 105, 103, 110]⟩) = false := by decide
theorem eStripStrip : ((⟨#[45, 45, 115, 116, 114, 105, 112]⟩ : ByteArray) == ⟨#[45, 45, 115, 116, 114, 105, 112]⟩) = true := by decide
theorem eStripFrom : ((⟨#[45, 45, 115, 116, 114, 105, 112]⟩ : ByteArray) == ⟨#[45, 45, 102, 114, 111, 109]⟩) = false := by decide
theorem eStripTo : ((⟨#[45, 45, 115, 116, 114, 105, 112]⟩ : ByteArray) == ⟨#[45, 45, 116, 111]⟩) = false := by decide
theorem eStripForm : ((⟨#[45, 45, 115, 116, 114, 105, 112]⟩ : ByteArray) == ⟨#[45, 45, 102, 111, 114, 109]⟩) = false := by decide
theorem eFromFramed : ((⟨#[45, 45, 102, 114, 111, 109]⟩ : ByteArray) == ⟨#[45, 45, 102, 114, 97, 109, 101, 100]⟩) = false := by decide
theorem eFromSign : ((⟨#[45, 45, 102, 114, 111, 109]⟩ : ByteArray) == ⟨#[45, 45, 115, 105, 103, 110]⟩) = false := by decide
theorem eFromStrip : ((⟨#[45, 45, 102, 114, 111, 109]⟩ : ByteArray) == ⟨#[45, 45, 115, 116, 114, 105, 112]⟩) = false := by decide
theorem eFromFrom : ((⟨#[45, 45, 102, 114, 111, 109]⟩ : ByteArray) == ⟨#[45, 45, 102, 114, 111, 109]⟩) = true := by decide
theorem eFromTo : ((⟨#[45, 45, 102, 114, 111, 109]⟩ : ByteArray) == ⟨#[45, 45, 116, 111]⟩) = false := by decide
theorem eFromForm : ((⟨#[45, 45, 102, 114, 111, 109]⟩ : ByteArray) == ⟨#[45, 45, 102, 111, 114, 109]⟩) = false := by decide
theorem eToFramed : ((⟨#[45, 45, 116, 111]⟩ : ByteArray) == ⟨#[45, 45, 102, 114, 97, 109, 101, 100]⟩) = false := by decide
theorem eToSign : ((⟨#[45, 45, 116, 111]⟩ : ByteArray) == ⟨#[45, 45, 115, 105, 103, 110]⟩) = false := by decide
theorem eToStrip : ((⟨#[45, 45, 116, 111]⟩ : ByteArray) == ⟨#[45, 45, 115, 116, 114, 105, 112]⟩) = false := by decide
theorem eToFrom : ((⟨#[45, 45, 116, 111]⟩ : ByteArray) == ⟨#[45, 45, 102, 114, 111, 109]⟩) = false := by decide
theorem eToTo : ((⟨#[45, 45, 116, 111]⟩ : ByteArray) == ⟨#[45, 45, 116, 111]⟩) = true := by decide
theorem eToForm : ((⟨#[45, 45, 116, 111]⟩ : ByteArray) == ⟨#[45, 45, 102, 111, 114, 109]⟩) = false := by decide
theorem eFormFramed : ((⟨#[45, 45, 102, 111, 114, 109]⟩ : ByteArray) == ⟨#[45, 45, 102, 114, 97, 109, 101, 100]⟩) = false := by decide
theorem eFormSign : ((⟨#[45, 45, 102, 111, 114, 109]⟩ : ByteArray) == ⟨#[45, 45, 115, 105, 103, 110]⟩) = false := by decide
theorem eFormStrip : ((⟨#[45, 45, 102, 111, 114, 109]⟩ : ByteArray) == ⟨#[45, 45, 115, 116, 114, 105, 112]⟩) = false := by decide
theorem eFormFrom : ((⟨#[45, 45, 102, 111, 114, 109]⟩ : ByteArray) == ⟨#[45, 45, 102, 114, 111, 109]⟩) = false := by decide
theorem eFormTo : ((⟨#[45, 45, 102, 111, 114, 109]⟩ : ByteArray) == ⟨#[45, 45, 116, 111]⟩) = false := by decide
theorem eFormForm : ((⟨#[45, 45, 102, 111, 114, 109]⟩ : ByteArray) == ⟨#[45, 45, 102, 111, 114, 109]⟩) = true := by decide
theorem eSizeFramed : ((⟨#[45, 45, 115, 105, 122, 101]⟩ : ByteArray) == ⟨#[45, 45, 102, 114, 97, 109, 101, 100]⟩) = false := by decide
theorem eSizeSign : ((⟨#[45, 45, 115, 105, 122, 101]⟩ : ByteArray) == ⟨#[45, 45, 115, 105, 103, 110]⟩) = false := by decide
theorem eSizeStrip : ((⟨#[45, 45, 115, 105, 122, 101]⟩ : ByteArray) == ⟨#[45, 45, 115, 116, 114, 105, 112]⟩) = false := by decide
theorem eSizeFrom : ((⟨#[45, 45, 115, 105, 122, 101]⟩ : ByteArray) == ⟨#[45, 45, 102, 114, 111, 109]⟩) = false := by decide
theorem eSizeTo : ((⟨#[45, 45, 115, 105, 122, 101]⟩ : ByteArray) == ⟨#[45, 45, 116, 111]⟩) = false := by decide
theorem eSizeForm : ((⟨#[45, 45, 115, 105, 122, 101]⟩ : ByteArray) == ⟨#[45, 45, 102, 111, 114, 109]⟩) = false := by decide
attribute [local go_sem] findNow_nil findNow_here findNow_past lookV_yes lookV_no lookV_yes1 eFramedFramed eFramedSign eFramedStrip eFramedFrom eFramedTo eFramedForm eSignFramed eSignSign eSignStrip eSignFrom eSignTo eSignForm eStripFramed eStripSign eStripStrip eStripFrom eStripTo eStripForm eFromFramed eFromSign eFromStrip eFromFrom eFromTo eFromForm eToFramed eToSign eToStrip eToFrom eToTo eToForm eFormFramed eFormSign eFormStrip eFormFrom eFormTo eFormForm eSizeFramed eSizeSign eSizeStrip eSizeFrom eSizeTo eSizeForm

set_option maxHeartbeats 4000000 in
theorem setFramed_calls (b : Nat) (p : Pl) (value : ByteArray) (has : Bool) (w : World) (hb : PlanAt w b p) :
    Calls Tryd.prog 21 #[.pointer (some ⟨b, 0, none⟩), .string kFramed, .string value, .bool has] w fun e w' => e = .returned (.bool (!has)) ∧ PlanAt w' b { p with f := true } ∧ w.grownBy w' (some b) := by
  have hm := @run_makeMap Tryd.prog
  have hi := @run_insert_drew Tryd.prog 54 9 53 Tryd.underlying54 Tryd.underlying9
  have hz : ∀ w, (zeroValue 53).run Tryd.prog w = .ok (.pointer none) w := fun w => by kernel_rfl
  have hl := @run_lookup_drew Tryd.prog 54 9 53 _ Tryd.underlying54 Tryd.underlying9 hz
  clear hz
  have hlt : b < w.heap.size := PlanAt.lt hb
  have hc : w.cell? ⟨b, 5, none⟩ = some (.bool p.f) := PlanAt.cell hb 5
  have hfr : w.frozen? ⟨b, 5, none⟩ = false := PlanAt.frozen hb 5
  have HB := Lib.hid hb
  clear hb
  unfold kFramed
  go_enter Tryd.func21, Tryd.ntmps21
  go_wp2
  go_region
  all_goals go_wp2
  all_goals go_ret
  all_goals exact ⟨rfl, PlanAt.drew (PlanAt.alloc (PlanAt.set HB.out 5 (.bool true) rfl) _), grown_drew (grown_alloc (grown_set _ _ _ _) _)⟩

set_option maxHeartbeats 4000000 in
theorem setSign_calls (b : Nat) (p : Pl) (value : ByteArray) (has : Bool) (w : World) (hb : PlanAt w b p) :
    Calls Tryd.prog 21 #[.pointer (some ⟨b, 0, none⟩), .string kSign, .string value, .bool has] w fun e w' => e = .returned (.bool (!has)) ∧ PlanAt w' b { p with s := true } ∧ w.grownBy w' (some b) := by
  have hm := @run_makeMap Tryd.prog
  have hi := @run_insert_drew Tryd.prog 54 9 53 Tryd.underlying54 Tryd.underlying9
  have hz : ∀ w, (zeroValue 53).run Tryd.prog w = .ok (.pointer none) w := fun w => by kernel_rfl
  have hl := @run_lookup_drew Tryd.prog 54 9 53 _ Tryd.underlying54 Tryd.underlying9 hz
  clear hz
  have hlt : b < w.heap.size := PlanAt.lt hb
  have hc : w.cell? ⟨b, 6, none⟩ = some (.bool p.s) := PlanAt.cell hb 6
  have hfr : w.frozen? ⟨b, 6, none⟩ = false := PlanAt.frozen hb 6
  have HB := Lib.hid hb
  clear hb
  unfold kSign
  go_enter Tryd.func21, Tryd.ntmps21
  go_wp2
  go_region
  all_goals go_wp2
  all_goals go_ret
  all_goals exact ⟨rfl, PlanAt.drew (PlanAt.alloc (PlanAt.set HB.out 6 (.bool true) rfl) _), grown_drew (grown_alloc (grown_set _ _ _ _) _)⟩

set_option maxHeartbeats 4000000 in
theorem setStrip_calls (b : Nat) (p : Pl) (value : ByteArray) (has : Bool) (w : World) (hb : PlanAt w b p) :
    Calls Tryd.prog 21 #[.pointer (some ⟨b, 0, none⟩), .string kStrip, .string value, .bool has] w fun e w' => e = .returned (.bool (!has)) ∧ PlanAt w' b { p with t := true } ∧ w.grownBy w' (some b) := by
  have hm := @run_makeMap Tryd.prog
  have hi := @run_insert_drew Tryd.prog 54 9 53 Tryd.underlying54 Tryd.underlying9
  have hz : ∀ w, (zeroValue 53).run Tryd.prog w = .ok (.pointer none) w := fun w => by kernel_rfl
  have hl := @run_lookup_drew Tryd.prog 54 9 53 _ Tryd.underlying54 Tryd.underlying9 hz
  clear hz
  have hlt : b < w.heap.size := PlanAt.lt hb
  have hc : w.cell? ⟨b, 7, none⟩ = some (.bool p.t) := PlanAt.cell hb 7
  have hfr : w.frozen? ⟨b, 7, none⟩ = false := PlanAt.frozen hb 7
  have HB := Lib.hid hb
  clear hb
  unfold kStrip
  go_enter Tryd.func21, Tryd.ntmps21
  go_wp2
  go_region
  all_goals go_wp2
  all_goals go_ret
  all_goals exact ⟨rfl, PlanAt.drew (PlanAt.alloc (PlanAt.set HB.out 7 (.bool true) rfl) _), grown_drew (grown_alloc (grown_set _ _ _ _) _)⟩

set_option maxHeartbeats 4000000 in
theorem setSize_calls (b : Nat) (p : Pl) (value : ByteArray) (has : Bool) (w : World) (hb : PlanAt w b p) (k : Nat) (n : Int) (ok : Bool) (hnum : PProg.args_number.f k value = some (n, ok)) :
    Calls Tryd.prog 21 #[.pointer (some ⟨b, 0, none⟩), .string kSize, .string value, .bool has] w fun e w' => e = .returned (.bool (ok && has)) ∧ PlanAt w' b { p with c4 := n } ∧ w.grownBy w' (some b) := by
  have hm := @run_makeMap Tryd.prog
  have hi := @run_insert_drew Tryd.prog 54 9 53 Tryd.underlying54 Tryd.underlying9
  have hz : ∀ w, (zeroValue 53).run Tryd.prog w = .ok (.pointer none) w := fun w => by kernel_rfl
  have hl := @run_lookup_drew Tryd.prog 54 9 53 _ Tryd.underlying54 Tryd.underlying9 hz
  clear hz
  have hlt : b < w.heap.size := PlanAt.lt hb
  have hc : w.cell? ⟨b, 4, none⟩ = some (.int .i64 p.c4) := PlanAt.cell hb 4
  have hfr : w.frozen? ⟨b, 4, none⟩ = false := PlanAt.frozen hb 4
  have HB := Lib.hid hb
  clear hb
  have HN := Lib.hid hnum
  clear hnum
  unfold kSize
  cases ok
  all_goals go_enter Tryd.func21, Tryd.ntmps21
  all_goals go_wp2
  all_goals go_region
  all_goals go_wp2_with (go_at_call 35; refine (PProg.args_number.calls k value n _ _ HN.out).mono ?_; rintro e w1 ⟨rfl, ⟨nd, rfl⟩⟩)
  all_goals go_ret
  all_goals exact ⟨rfl, PlanAt.set (PlanAt.drewN (PlanAt.alloc HB.out _) _) 4 (.int .i64 n) rfl, World.grownBy.trans (grown_drewN (World.grownBy_alloc _ _ _) _) (grown_set _ _ _ _)⟩


/-- What behind a call that makes memory, and a store into the plan, holds. -/
theorem setEnd {b i : Nat} {p q : Pl} {w w0 w1 : World} {v : Value} {e : Ending} {r : Bool} (hb : PlanAt w0 b p) (h1 : Below w0.heap.size w0 w1) (h0 : Below w.heap.size w w0)
    (hq : p.cells.setIfInBounds i v = q.cells) (he : e = .returned (.bool r)) : e = .returned (.bool r) ∧ PlanAt (w1.setCell ⟨b, i, none⟩ v) b q ∧ w.grownBy (w1.setCell ⟨b, i, none⟩ v) (some b) :=
  ⟨he, (hb.below h1).set i v hq, World.grownBy.trans (grown_below (below_next h0 h1) _) (grown_set _ _ _ _)⟩

set_option maxHeartbeats 8000000 in
theorem setFrom_calls (b : Nat) (p : Pl) (value : ByteArray) (has : Bool) (w : World) (hb : PlanAt w b p) :
    Calls Tryd.prog 21 #[.pointer (some ⟨b, 0, none⟩), .string kFrom, .string value, .bool has] w fun e w' => e = .returned (.bool (codecF value != 0 && has)) ∧ PlanAt w' b { p with c1 := codecF value } ∧ w.grownBy w' (some b) := by
  have hm := @run_makeMap Tryd.prog
  have hi := @run_insert_drew Tryd.prog 54 9 53 Tryd.underlying54 Tryd.underlying9
  have hz : ∀ w, (zeroValue 53).run Tryd.prog w = .ok (.pointer none) w := fun w => by kernel_rfl
  have hl := @run_lookup_drewN Tryd.prog 54 9 53 _ Tryd.underlying54 Tryd.underlying9 hz
  clear hz
  have hi2 := @run_insert_drew Tryd.prog 59 9 58 Tryd.underlying59 Tryd.underlying9
  have hz2 : ∀ w, (zeroValue 58).run Tryd.prog w = .ok (.pointer none) w := fun w => by kernel_rfl
  have hl2 := @run_lookup_drew Tryd.prog 59 9 58 _ Tryd.underlying59 Tryd.underlying9 hz2
  clear hz2
  have hlt : b < w.heap.size := PlanAt.lt hb
  have HB := Lib.hid hb
  obtain ⟨c, hcv⟩ : ∃ c, codecF value = c := ⟨_, rfl⟩
  have HC : ∀ w, Calls Tryd.prog 36 #[.string value] w fun e w' => e = .returned (.int .i64 c) ∧ Below w.heap.size w w' := fun w => by rw [← hcv]; exact codec_calls value w
  rw [hcv]
  clear hcv
  have HC' := Lib.hid HC
  clear HC
  clear hb
  unfold kFrom
  go_enter Tryd.func21, Tryd.ntmps21
  go_upto_region 1 with fail
  go_cut [9] (fun s9 wx => s9 = .map (some w.heap.size) ∧ ∃ es m, wx = (w.alloc (.map es.toArray 3)).drewN m ∧ Instr.findNow .string (.string kFrom) es 0 = some none)
  case first =>
    go_region
    all_goals (go_wp2_with fail; go_meet; exact ⟨rfl, _, 1, rfl, by unfold kFrom; simp only [Instr.findNow, Instr.sameNow, eFromFramed, eFromSign, eFromStrip]⟩)
  case rest =>
    obtain ⟨rfl, es, m, rfl, hes⟩ := hcut
    unfold kFrom at hes
    go_upto_region 10 with fail
    obtain ⟨wc, hwc⟩ : ∃ wc, wc = (w.alloc (.map es.toArray 3)).drewN m := ⟨_, rfl⟩
    have HP : Hid (PlanAt wc b p) := by rw [hwc]; exact PlanAt.drewN (PlanAt.alloc HB.out _) _
    have HW : Hid (Below w.heap.size w wc) := by rw [hwc]; exact below_drewN' (below_new (Below.refl _ _) _) _
    rw [← hwc]
    clear hwc hes hl hi
    go_cut [14] (fun s14 wx => s14 = .pointer (some ⟨b, 1, none⟩) ∧ Hid (PlanAt wx b p) ∧ Hid (Below w.heap.size w wx))
    case first =>
      go_region
      all_goals (go_wp2_with fail; go_meet; exact ⟨rfl, PlanAt.drew (PlanAt.alloc HP.out _), (below_new HW.out _).drew⟩)
    case rest =>
      obtain ⟨rfl, HP2, HW2⟩ := hcut
      by_cases h0 : c = 0
      · subst h0
        go_wp2_with (go_at_call 36; refine (HC'.out _).mono ?_; rintro e w1 ⟨rfl, hb1⟩; have h1 := PlanAt.cell (HP2.out.below hb1) 1; have h2 := PlanAt.frozen (HP2.out.below hb1) 1; simp only [Pl.cells] at h1)
        go_ret
        exact setEnd HP2.out hb1 HW2.out rfl rfl
      · go_wp2_with (go_at_call 36; refine (HC'.out _).mono ?_; rintro e w1 ⟨rfl, hb1⟩; have h1 := PlanAt.cell (HP2.out.below hb1) 1; have h2 := PlanAt.frozen (HP2.out.below hb1) 1; simp only [Pl.cells] at h1)
        go_ret
        exact setEnd HP2.out hb1 HW2.out rfl rfl

set_option maxHeartbeats 8000000 in
theorem setTo_calls (b : Nat) (p : Pl) (value : ByteArray) (has : Bool) (w : World) (hb : PlanAt w b p) :
    Calls Tryd.prog 21 #[.pointer (some ⟨b, 0, none⟩), .string kTo, .string value, .bool has] w fun e w' => e = .returned (.bool (codecF value != 0 && has)) ∧ PlanAt w' b { p with c2 := codecF value } ∧ w.grownBy w' (some b) := by
  have hm := @run_makeMap Tryd.prog
  have hi := @run_insert_drew Tryd.prog 54 9 53 Tryd.underlying54 Tryd.underlying9
  have hz : ∀ w, (zeroValue 53).run Tryd.prog w = .ok (.pointer none) w := fun w => by kernel_rfl
  have hl := @run_lookup_drewN Tryd.prog 54 9 53 _ Tryd.underlying54 Tryd.underlying9 hz
  clear hz
  have hi2 := @run_insert_drew Tryd.prog 59 9 58 Tryd.underlying59 Tryd.underlying9
  have hz2 : ∀ w, (zeroValue 58).run Tryd.prog w = .ok (.pointer none) w := fun w => by kernel_rfl
  have hl2 := @run_lookup_drew Tryd.prog 59 9 58 _ Tryd.underlying59 Tryd.underlying9 hz2
  clear hz2
  have hlt : b < w.heap.size := PlanAt.lt hb
  have HB := Lib.hid hb
  obtain ⟨c, hcv⟩ : ∃ c, codecF value = c := ⟨_, rfl⟩
  have HC : ∀ w, Calls Tryd.prog 36 #[.string value] w fun e w' => e = .returned (.int .i64 c) ∧ Below w.heap.size w w' := fun w => by rw [← hcv]; exact codec_calls value w
  rw [hcv]
  clear hcv
  have HC' := Lib.hid HC
  clear HC
  clear hb
  unfold kTo
  go_enter Tryd.func21, Tryd.ntmps21
  go_upto_region 1 with fail
  go_cut [9] (fun s9 wx => s9 = .map (some w.heap.size) ∧ ∃ es m, wx = (w.alloc (.map es.toArray 3)).drewN m ∧ Instr.findNow .string (.string kTo) es 0 = some none)
  case first =>
    go_region
    all_goals (go_wp2_with fail; go_meet; exact ⟨rfl, _, 1, rfl, by unfold kTo; simp only [Instr.findNow, Instr.sameNow, eToFramed, eToSign, eToStrip]⟩)
  case rest =>
    obtain ⟨rfl, es, m, rfl, hes⟩ := hcut
    unfold kTo at hes
    go_upto_region 10 with fail
    obtain ⟨wc, hwc⟩ : ∃ wc, wc = (w.alloc (.map es.toArray 3)).drewN m := ⟨_, rfl⟩
    have HP : Hid (PlanAt wc b p) := by rw [hwc]; exact PlanAt.drewN (PlanAt.alloc HB.out _) _
    have HW : Hid (Below w.heap.size w wc) := by rw [hwc]; exact below_drewN' (below_new (Below.refl _ _) _) _
    rw [← hwc]
    clear hwc hes hl hi
    go_cut [14] (fun s14 wx => s14 = .pointer (some ⟨b, 2, none⟩) ∧ Hid (PlanAt wx b p) ∧ Hid (Below w.heap.size w wx))
    case first =>
      go_region
      all_goals (go_wp2_with fail; go_meet; exact ⟨rfl, PlanAt.drew (PlanAt.alloc HP.out _), (below_new HW.out _).drew⟩)
    case rest =>
      obtain ⟨rfl, HP2, HW2⟩ := hcut
      by_cases h0 : c = 0
      · subst h0
        go_wp2_with (go_at_call 36; refine (HC'.out _).mono ?_; rintro e w1 ⟨rfl, hb1⟩; have h1 := PlanAt.cell (HP2.out.below hb1) 2; have h2 := PlanAt.frozen (HP2.out.below hb1) 2; simp only [Pl.cells] at h1)
        go_ret
        exact setEnd HP2.out hb1 HW2.out rfl rfl
      · go_wp2_with (go_at_call 36; refine (HC'.out _).mono ?_; rintro e w1 ⟨rfl, hb1⟩; have h1 := PlanAt.cell (HP2.out.below hb1) 2; have h2 := PlanAt.frozen (HP2.out.below hb1) 2; simp only [Pl.cells] at h1)
        go_ret
        exact setEnd HP2.out hb1 HW2.out rfl rfl

set_option maxHeartbeats 8000000 in
theorem setForm_calls (b : Nat) (p : Pl) (value : ByteArray) (has : Bool) (w : World) (hb : PlanAt w b p) :
    Calls Tryd.prog 21 #[.pointer (some ⟨b, 0, none⟩), .string kForm, .string value, .bool has] w fun e w' => e = .returned (.bool (codecF value != 0 && has)) ∧ PlanAt w' b { p with c3 := codecF value } ∧ w.grownBy w' (some b) := by
  have hm := @run_makeMap Tryd.prog
  have hi := @run_insert_drew Tryd.prog 54 9 53 Tryd.underlying54 Tryd.underlying9
  have hz : ∀ w, (zeroValue 53).run Tryd.prog w = .ok (.pointer none) w := fun w => by kernel_rfl
  have hl := @run_lookup_drewN Tryd.prog 54 9 53 _ Tryd.underlying54 Tryd.underlying9 hz
  clear hz
  have hi2 := @run_insert_drew Tryd.prog 59 9 58 Tryd.underlying59 Tryd.underlying9
  have hz2 : ∀ w, (zeroValue 58).run Tryd.prog w = .ok (.pointer none) w := fun w => by kernel_rfl
  have hl2 := @run_lookup_drew Tryd.prog 59 9 58 _ Tryd.underlying59 Tryd.underlying9 hz2
  clear hz2
  have hlt : b < w.heap.size := PlanAt.lt hb
  have HB := Lib.hid hb
  obtain ⟨c, hcv⟩ : ∃ c, codecF value = c := ⟨_, rfl⟩
  have HC : ∀ w, Calls Tryd.prog 36 #[.string value] w fun e w' => e = .returned (.int .i64 c) ∧ Below w.heap.size w w' := fun w => by rw [← hcv]; exact codec_calls value w
  rw [hcv]
  clear hcv
  have HC' := Lib.hid HC
  clear HC
  clear hb
  unfold kForm
  go_enter Tryd.func21, Tryd.ntmps21
  go_upto_region 1 with fail
  go_cut [9] (fun s9 wx => s9 = .map (some w.heap.size) ∧ ∃ es m, wx = (w.alloc (.map es.toArray 3)).drewN m ∧ Instr.findNow .string (.string kForm) es 0 = some none)
  case first =>
    go_region
    all_goals (go_wp2_with fail; go_meet; exact ⟨rfl, _, 1, rfl, by unfold kForm; simp only [Instr.findNow, Instr.sameNow, eFormFramed, eFormSign, eFormStrip]⟩)
  case rest =>
    obtain ⟨rfl, es, m, rfl, hes⟩ := hcut
    unfold kForm at hes
    go_upto_region 10 with fail
    obtain ⟨wc, hwc⟩ : ∃ wc, wc = (w.alloc (.map es.toArray 3)).drewN m := ⟨_, rfl⟩
    have HP : Hid (PlanAt wc b p) := by rw [hwc]; exact PlanAt.drewN (PlanAt.alloc HB.out _) _
    have HW : Hid (Below w.heap.size w wc) := by rw [hwc]; exact below_drewN' (below_new (Below.refl _ _) _) _
    rw [← hwc]
    clear hwc hes hl hi
    go_cut [14] (fun s14 wx => s14 = .pointer (some ⟨b, 3, none⟩) ∧ Hid (PlanAt wx b p) ∧ Hid (Below w.heap.size w wx))
    case first =>
      go_region
      all_goals (go_wp2_with fail; go_meet; exact ⟨rfl, PlanAt.drew (PlanAt.alloc HP.out _), (below_new HW.out _).drew⟩)
    case rest =>
      obtain ⟨rfl, HP2, HW2⟩ := hcut
      by_cases h0 : c = 0
      · subst h0
        go_wp2_with (go_at_call 36; refine (HC'.out _).mono ?_; rintro e w1 ⟨rfl, hb1⟩; have h1 := PlanAt.cell (HP2.out.below hb1) 3; have h2 := PlanAt.frozen (HP2.out.below hb1) 3; simp only [Pl.cells] at h1)
        go_ret
        exact setEnd HP2.out hb1 HW2.out rfl rfl
      · go_wp2_with (go_at_call 36; refine (HC'.out _).mono ?_; rintro e w1 ⟨rfl, hb1⟩; have h1 := PlanAt.cell (HP2.out.below hb1) 3; have h2 := PlanAt.frozen (HP2.out.below hb1) 3; simp only [Pl.cells] at h1)
        go_ret
        exact setEnd HP2.out hb1 HW2.out rfl rfl

end Go.Proofs.YtlddfdkmpnllmaaDoor
