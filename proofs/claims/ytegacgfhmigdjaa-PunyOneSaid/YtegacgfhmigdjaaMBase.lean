/- Joined texts: Base. -/
import Derived.Test.YtegacgfhmigdjaaProg
import Derived.WalkKit
import Derived.WalkLawsBesides
import Derived.KernelRfl
import Derived.Deep.LoopGhost
import Derived.Deep.QuietTactic
import Derived.BigQuiet
import Derived.Lib.Hide
/- Small lemmas that all texts of this seat use. -/
namespace Go.Proofs.Ytegacgfhmigdjaa
open Go.RowKit
set_option linter.unusedVariables false
set_option linter.unusedSimpArgs false

theorem below_then {B : Nat} {w w1 w2 : World} (h : Below B w w1) (k : Below w1.heap.size w1 w2) (hB : B ≤ w1.heap.size) : Below B w w2 :=
  h.trans (k.mono hB)
/-- One step behind another, both of whole worlds. -/
theorem below_next {w w1 w2 : World} (h : Below w.heap.size w w1) (k : Below w1.heap.size w1 w2) : Below w.heap.size w w2 :=
  below_then h k h.size
theorem below_new {w w1 : World} (h : Below w.heap.size w w1) (o : Obj) : Below w.heap.size w (w1.alloc o) := h.alloc h.size o
theorem below_drewN' {B : Nat} {w w1 : World} (h : Below B w w1) (n : Nat) : Below B w (w1.drewN n) := ⟨h.os, h.tape, h.output, h.size, h.block⟩
theorem str_eq_iff (a b : ByteArray) : ((a.toList == b.toList) = true) ↔ a = b := by
  rw [beq_iff_eq, ByteArray.toList_eq, ByteArray.toList_eq]
  constructor
  · intro h
    have : a.data = b.data := Array.toList_inj.mp h
    cases a; cases b; simpa using this
  · rintro rfl; rfl
theorem str_eq (a b : ByteArray) : (a.toList == b.toList) = decide (a = b) := by
  rw [Bool.eq_iff_iff, str_eq_iff]; simp
theorem str_ne_iff (a b : ByteArray) : ((a.toList == b.toList) = false) ↔ ¬ a = b := by
  rw [str_eq]; simp
end Go.Proofs.Ytegacgfhmigdjaa
