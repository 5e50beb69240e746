/- Two plans compared; and the closure of args.Words, which puts a word behind others. -/
import Derived.Test.YtlddfdkmpnllmaaDoorPlan
import Derived.Laws.StructEq
namespace Go.Proofs.YtlddfdkmpnllmaaDoor
open Go.RowKit Go.Proofs.YtlddfdkmpnllmaaDoorW.PrintWords Go.Proofs.YtlddfdkmpnllmaaDoorW.PrintLast Go.Proofs.YtlddfdkmpnllmaaDoorW.PrintMore
set_option linter.unusedVariables false
set_option linter.unusedSimpArgs false

def Pl.same (p q : Pl) : Bool := p.c0 == q.c0 && (p.c1 == q.c1 && (p.c2 == q.c2 && (p.c3 == q.c3 && (p.c4 == q.c4 && (p.f == q.f && (p.s == q.s && p.t == q.t))))))
theorem Pl.same_iff (p q : Pl) : p.same q = true ↔ p = q := by
  obtain ⟨a0, a1, a2, a3, a4, a5, a6, a7⟩ := p
  obtain ⟨b0, b1, b2, b3, b4, b5, b6, b7⟩ := q
  simp [Pl.same]
theorem fieldsOf_plan : Tryd.prog.underlying 26 = some (.struct (Tryd.prog.fieldsOf 26)) := by kernel_rfl
theorem run_equal_plan (p q : Pl) (w : World) : (Op.equalIn 10000 26 (.agg p.cells) (.agg q.cells)).run Tryd.prog w = .ok (p.same q) w := by
  rw [run_equalIn_struct w 9999 26 p.cells q.cells fieldsOf_plan (by kernel_rfl)]
  simp only [Program.fieldsOf, Tryd.underlying26]
  have ei : ∀ (a b : Int) (w : World), (Op.equalIn 9999 3 (.int .i64 a) (.int .i64 b)).run Tryd.prog w = .ok (a == b) w := fun a b w => by
    unfold Op.equalIn
    simp only [Sem.run_bind, run_underlying Tryd.underlying3, Result.andThen_ok, if_true, Sem.run_pure]
  have eb : ∀ (a b : Bool) (w : World), (Op.equalIn 9999 4 (.bool a) (.bool b)).run Tryd.prog w = .ok (a == b) w := fun a b w => by
    unfold Op.equalIn
    simp only [Sem.run_bind, run_underlying Tryd.underlying4, Result.andThen_ok, Sem.run_pure]
  obtain ⟨a0, a1, a2, a3, a4, a5, a6, a7⟩ := p
  obtain ⟨b0, b1, b2, b3, b4, b5, b6, b7⟩ := q
  simp [Op.eqFields, Pl.cells, go_sem, ei, eb, Pl.same]
  repeat' split
  all_goals simp_all

theorem run_eql_plan (p q : Pl) (w : World) : (binOp .eql 26 (.agg p.cells) (.agg q.cells)).run Tryd.prog w = .ok (.bool (p.same q)) w := by
  simp only [binOp]
  simp [Op.equal, Op.maxDepth, run_equal_plan]
theorem run_neq_plan (p q : Pl) (w : World) : (binOp .neq 26 (.agg p.cells) (.agg q.cells)).run Tryd.prog w = .ok (.bool (!p.same q)) w := by
  simp only [binOp]
  simp [Op.equal, Op.maxDepth, run_equal_plan]
theorem info_str : (Tryd.prog.info? 9).map (fun i => (i.zero, i.size, i.bytes)) = some (some (.string ⟨#[]⟩), 1, 16) := by kernel_rfl

/-- The words that are put so far lie in the variable at block ob. -/
def OutAt (w : World) (ob base : Nat) (xs : List ByteArray) : Prop := ∃ v, w.heap[ob]? = some (.cells #[v] 22 (0, 0)) ∧ Kd.R Kd.string 9 w base (fun _ => True) v xs
/-- What putting a word does to the world. -/
structure PutW (w0 w w' : World) (ob b : Nat) (p : Pl) (xs : List ByteArray) : Prop where
  out : OutAt w' ob w0.heap.size xs
  plan : PlanAt w' b p
  below : Below w0.heap.size w0 w'
theorem OutAt.lt {w : World} {ob base : Nat} {xs : List ByteArray} (h : OutAt w ob base xs) : ob < w.heap.size := by
  obtain ⟨v, h, _⟩ := h
  exact (Array.getElem?_eq_some_iff.1 h).1
theorem OutAt.below {w w1 : World} {ob base : Nat} {xs : List ByteArray} (h : OutAt w ob base xs) (hb : Below w.heap.size w w1) : OutAt w1 ob base xs := by
  have hlt := h.lt
  obtain ⟨v, h1, h2⟩ := h
  exact ⟨v, (hb.block ob hlt).trans h1, Kd.R_below h2 hb⟩
theorem PutW.next {w0 w w1 w2 : World} {ob b : Nat} {p : Pl} {xs : List ByteArray} (h : PutW w0 w w1 ob b p xs) (hb : Below w1.heap.size w1 w2) : PutW w0 w w2 ob b p xs :=
  ⟨h.out.below hb, h.plan.below hb, below_then h.below hb h.below.size⟩

theorem cell_of_blk {w : World} {ob : Nat} {v : Value} {t : TypeId} (h : w.heap[ob]? = some (.cells #[v] t (0, 0))) : w.cell? ⟨ob, 0, none⟩ = some v := by simp [World.cell?, h]
theorem frozen_of_blk {w : World} {ob : Nat} {v : Value} {t : TypeId} (h : w.heap[ob]? = some (.cells #[v] t (0, 0))) : w.frozen? ⟨ob, 0, none⟩ = false := by simp [World.frozen?, h]

set_option maxHeartbeats 1000000 in
theorem put_no (word : ByteArray) (a : Addr) (w : World) : Calls Tryd.prog 28 #[.bool false, .string word, .pointer (some a)] w fun e w' => e = .returned (.tuple #[]) ∧ w = w' := by
  go_enter Tryd.func28, Tryd.ntmps28
  go_wp2
  go_end0
  exact ⟨rfl, rfl⟩

set_option maxHeartbeats 1000000 in
theorem put_yes (word : ByteArray) (ob b : Nat) (p : Pl) (xs : List ByteArray) (hxs : xs.length ≤ 100) (w0 wi w : World) (hb0 : w0.heap.size ≤ ob) (h : PutW w0 wi w ob b p xs) :
    Calls Tryd.prog 28 #[.bool true, .string word, .pointer (some ⟨ob, 0, none⟩)] w fun e w' => e = .returned (.tuple #[]) ∧ PutW w0 wi w' ob b p (xs ++ [word]) := by
  obtain ⟨⟨v, hv, hR⟩, hp, hB⟩ := h
  have hc : w.cell? ⟨ob, 0, none⟩ = some v := by simp [World.cell?, hv]
  have hf : w.frozen? ⟨ob, 0, none⟩ = false := by simp [World.frozen?, hv]
  have HV := Lib.hid hv
  have HR := Lib.hid hR
  have HP := Lib.hid hp
  have HB := Lib.hid hB
  have HX := Lib.hid hxs
  clear hv hR hp hB hxs
  go_enter Tryd.func28, Tryd.ntmps28
  go_wp2_with (at_builtin; refine Kd.R_append Kd.string (w0 := w0) w0.heap.size rfl (.tmp 6) (.tmp 8) 22 9 (.string ⟨#[]⟩) 16 rfl Tryd.underlying22 info_str rfl (by decide) (by decide) v xs word [.string word] (fun _ => True) (fun _ => False) rfl rfl rfl (fun _ hk => hk.elim) (fun _ _ => trivial) HR.out HB.out HB.out.size (by have := HX.out; omega) ?_; intro v6 w6 ho6 hb6 hg6 hat6; have HV6 : Hid (w6.heap[ob]? = some (.cells #[v] 22 (0, 0))) := ((hg6.block ob (Array.getElem?_eq_some_iff.1 HV.out).1 (Kd.R_ne HR.out HV.out (by decide))).trans HV.out); have HP6 : Hid (PlanAt w6 b p) := ((hg6.block b (PlanAt.lt HP.out) (Kd.R_ne HR.out HP.out (by decide))).trans HP.out); have HS6 := Lib.hid ho6; have HB6 := Lib.hid hb6; have hc6 : w6.cell? ⟨ob, 0, none⟩ = some v := cell_of_blk HV6.out; have hf6 : w6.frozen? ⟨ob, 0, none⟩ = false := frozen_of_blk HV6.out; obtain ⟨A6, c6, rfl⟩ := Kd.R_slice ho6; clear ho6 hb6 hg6 hat6)
  go_end0
  have hne : b ≠ ob := fun e => by
    have h1 : w6.heap[b]? = _ := HP6.out
    have h2 : w6.heap[ob]? = _ := HV6.out
    rw [e, h2] at h1
    injection h1 with h1
    injection h1 with _ h1
    exact absurd h1 (by decide)
  refine ⟨rfl, ⟨_, ?_, Kd.R_set HS6.out HV6.out (by decide) 0 _⟩, PlanAt.far HP6.out hne, Below.setCell HB6.out hb0 _⟩
  unfold World.setCell
  simp only [Array.getElem?_modify]
  have h2 : w6.heap[ob]? = _ := HV6.out
  rw [h2]
  simp
end Go.Proofs.YtlddfdkmpnllmaaDoor
