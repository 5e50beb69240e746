/- A plan in memory: loaded whole, stored whole, handed back. -/
import Derived.Test.YtlddfdkmpnllmaaDoorLst
namespace Go.Proofs.YtlddfdkmpnllmaaDoor
open Go.RowKit
set_option linter.unusedVariables false
set_option linter.unusedSimpArgs false

theorem PlanAt.cells8 {w : World} {b : Nat} {p : Pl} (h : PlanAt w b p) : w.cell? ⟨b, 0, none⟩ = some (.int .i64 p.c0) ∧ w.cell? ⟨b, 1, none⟩ = some (.int .i64 p.c1) ∧ w.cell? ⟨b, 2, none⟩ = some (.int .i64 p.c2) ∧ w.cell? ⟨b, 3, none⟩ = some (.int .i64 p.c3) ∧ w.cell? ⟨b, 4, none⟩ = some (.int .i64 p.c4) ∧ w.cell? ⟨b, 5, none⟩ = some (.bool p.f) ∧ w.cell? ⟨b, 6, none⟩ = some (.bool p.s) ∧ w.cell? ⟨b, 7, none⟩ = some (.bool p.t) :=
  ⟨h.cell 0, h.cell 1, h.cell 2, h.cell 3, h.cell 4, h.cell 5, h.cell 6, h.cell 7⟩
theorem run_loadVar_plan {w : World} {b : Nat} {p : Pl} (h : PlanAt w b p) : (loadVar 26 ⟨b, 0, none⟩).run Tryd.prog w = .ok (.agg p.cells) w := by
  obtain ⟨h0, h1, h2, h3, h4, h5, h6, h7⟩ := h.cells8
  simp [go_sem, h0, h1, h2, h3, h4, h5, h6, h7, Pl.cells]
theorem PlanAt.new (w : World) (p : Pl) : PlanAt (w.alloc (.cells p.cells 26)) w.heap.size p := by
  show (w.heap.push _)[w.heap.size]? = _
  simp
theorem PlanAt.far {w : World} {b x i : Nat} {p : Pl} {v : Value} (h : PlanAt w b p) (hb : b ≠ x) : PlanAt (w.setCell ⟨x, i, none⟩ v) b p := (Below.heap_setCell w ⟨x, i, none⟩ v b hb).trans h
/-- Eight stores. -/
def setPlan (w : World) (b : Nat) (p : Pl) : World :=
  (((((((w.setCell ⟨b, 0, none⟩ (.int .i64 p.c0)).setCell ⟨b, 1, none⟩ (.int .i64 p.c1)).setCell ⟨b, 2, none⟩ (.int .i64 p.c2)).setCell ⟨b, 3, none⟩ (.int .i64 p.c3)).setCell ⟨b, 4, none⟩ (.int .i64 p.c4)).setCell ⟨b, 5, none⟩ (.bool p.f)).setCell ⟨b, 6, none⟩ (.bool p.s)).setCell ⟨b, 7, none⟩ (.bool p.t)
theorem setPlan_at {w : World} {b : Nat} {p q : Pl} (h : PlanAt w b q) : PlanAt (setPlan w b p) b p :=
  PlanAt.set (p := ⟨p.c0, p.c1, p.c2, p.c3, p.c4, p.f, p.s, q.t⟩) (PlanAt.set (p := ⟨p.c0, p.c1, p.c2, p.c3, p.c4, p.f, q.s, q.t⟩) (PlanAt.set (p := ⟨p.c0, p.c1, p.c2, p.c3, p.c4, q.f, q.s, q.t⟩) (PlanAt.set (p := ⟨p.c0, p.c1, p.c2, p.c3, q.c4, q.f, q.s, q.t⟩) (PlanAt.set (p := ⟨p.c0, p.c1, p.c2, q.c3, q.c4, q.f, q.s, q.t⟩) (PlanAt.set (p := ⟨p.c0, p.c1, q.c2, q.c3, q.c4, q.f, q.s, q.t⟩) (PlanAt.set (p := ⟨p.c0, q.c1, q.c2, q.c3, q.c4, q.f, q.s, q.t⟩) (PlanAt.set h 0 _ rfl) 1 _ rfl) 2 _ rfl) 3 _ rfl) 4 _ rfl) 5 _ rfl) 6 _ rfl) 7 _ rfl
theorem setPlan_grown (w : World) (b : Nat) (p : Pl) : w.grownBy (setPlan w b p) (some b) :=
  World.grownBy.trans (World.grownBy.trans (World.grownBy.trans (World.grownBy.trans (World.grownBy.trans (World.grownBy.trans (World.grownBy.trans (grown_set _ _ _ _) (grown_set _ _ _ _)) (grown_set _ _ _ _)) (grown_set _ _ _ _)) (grown_set _ _ _ _)) (grown_set _ _ _ _)) (grown_set _ _ _ _)) (grown_set _ _ _ _)
theorem setPlan_below {w w1 : World} {B b : Nat} (p : Pl) (h : Below B w w1) (hb : B ≤ b) : Below B w (setPlan w1 b p) :=
  (((((((h.setCell hb _).setCell hb _).setCell hb _).setCell hb _).setCell hb _).setCell hb _).setCell hb _).setCell hb _
/-- A function whose results are a plan in memory, an int and a bool hands these back. -/
theorem results_plan {fn : Func} {i j k : Tmp} (h : fn.results = #[.cell i 26, .tmp j, .tmp k]) {tmps : Array Value} {w : World} {b : Nat} {p : Pl} {n : Int} {ok : Bool}
    (h2 : tmps.getD i undef = .pointer (some ⟨b, 0, none⟩)) (h3 : tmps.getD j undef = .int .i64 n) (h4 : tmps.getD k undef = .bool ok) (hp : PlanAt w b p) :
    (results fn tmps).run Tryd.prog w = .ok (.tuple #[.agg p.cells, .int .i64 n, .bool ok]) w := by
  have hl := run_loadVar_plan hp
  rw [Array.getD_eq_getD_getElem?] at h2 h3 h4
  unfold results
  simp only [h]
  simp [Sem.run_bind, Result.andThen, h2, h3, h4, asAddr, hl]
end Go.Proofs.YtlddfdkmpnllmaaDoor
