/- append of texts inside a region of open order; small words for the walks of ArgsTwice and ArgsOrder. -/
import Derived.Test.YtlddfdkmpnllmaaDoorBt
import Derived.Deep.AppendLies
namespace Go.Proofs.YtlddfdkmpnllmaaDoor
open Go.RowKit Go.Proofs.YtlddfdkmpnllmaaDoorW.PrintWords Go.Proofs.YtlddfdkmpnllmaaDoorW.PrintLast Go.Proofs.YtlddfdkmpnllmaaDoorW.PrintMore
set_option linter.unusedVariables false
set_option linter.unusedSimpArgs false

theorem run_app_str {W : World} (base : Nat) (t ty : TypeId) (ht : Tryd.prog.underlying t = some (.slice 9)) (v : Value) (xs ys : List ByteArray) (A : Option Addr) (m c : Nat)
    (HO : W.ownsRow base 9 1 v xs.length (encs Value.string xs)) (HR : ReadsOf Value.string ByteArray.empty W A m ys) (hbase : base ≤ W.heap.size) (hl : (xs.length + m) * 16 ≤ 140737488355328) :
    ∃ v1 w1, (Builtin.append_ #[t, t] ty #[v, .slice A m c]).run Tryd.prog W = .ok v1 w1 ∧ w1.ownsRow base 9 1 v1 (xs ++ ys).length (encs Value.string (xs ++ ys)) ∧ W.grownBy w1 v.ownBlock := by
  obtain ⟨i0, hi, hzz⟩ := Option.map_eq_some_iff.1 info_str
  simp only [Prod.mk.injEq] at hzz
  obtain ⟨hz0, hz1, hz2⟩ := hzz
  have hm : ys.length = m := HR.1
  rcases Nat.eq_zero_or_pos m with h0 | h0
  · subst h0
    obtain rfl : ys = [] := List.eq_nil_of_length_eq_zero hm
    refine ⟨v, W, ?_, by simpa using HO, World.grownBy.refl W _⟩
    rcases HO.2 with ⟨rfl, hn⟩ | ⟨g, cap, cur, rfl, _, _, hnc, _⟩
    · cases A <;> simp [Builtin.append_, run_underlying ht, sizeOf, typeInfo, hi, Builtin.lenOf, Builtin.firstCells, storeCells, loadCells, loadCellsFrom]
    · cases A <;> simp [Builtin.append_, run_underlying ht, sizeOf, typeInfo, hi, Builtin.lenOf, Builtin.firstCells, hnc, storeCells, loadCells, loadCellsFrom]
  · obtain ⟨ad, rfl, hc⟩ := HR.2.2 h0
    have hcells : ∀ j u, (encs Value.string ys)[j]? = some u → W.cell? (ad.add j) = some u := by
      intro j u hu
      have hj : j < ys.length := by
        rcases Nat.lt_or_ge j ys.length with h | h
        · exact h
        · simp [encs, List.getElem?_eq_none h] at hu
      rw [encs_get (d := ByteArray.empty) ys j hj] at hu
      rw [← hu]
      exact hc j (by omega)
    obtain ⟨v1, w1, hr, h2, h3, _, h5⟩ := run_append_own_at (P := Tryd.prog) W base t ty 9 i0 (.string ⟨#[]⟩) 1 16 ht hi hz0 hz1 hz2 rfl (by omega) v xs.length (encs Value.string xs) HO ad m c (encs Value.string ys) (by simp [encs, hm]) hcells
      (by intro u hu; simp only [encs, List.mem_map] at hu; obtain ⟨q, _, rfl⟩ := hu; rfl) (by simp only [maxLen]; omega) hl hbase
    exact ⟨v1, w1, hr, by simpa [encs, hm] using h2, h3⟩
theorem str_step {ops : Array Oper} {o : Oper} {a : Act} {K : Act → World → Prop} {Q : Exit → Act → World → Prop} {E : Prop} {w W : World} (base : Nat) (hgd : o.guard = none) (s x : Operand)
    (ho : o.op = .call { callee := .builtin .append, args := #[s, x], argTypes := #[22, 22] }) (v : Value) (xs ys : List ByteArray) (A : Option Addr) (m c : Nat) (hs : a.eval s = v) (hx : a.eval x = .slice A m c)
    (HO : W.ownsRow base 9 1 v xs.length (encs Value.string xs)) (HR : ReadsOf Value.string ByteArray.empty W A m ys) (HB : Below base w W) (hbase : base ≤ W.heap.size) (hl : (xs.length + m) * 16 ≤ 140737488355328)
    (h : ∀ v1 w1, w1.ownsRow base 9 1 v1 (xs ++ ys).length (encs Value.string (xs ++ ys)) → Below base w w1 → (∀ b p, PlanAt W b p → PlanAt w1 b p) → W.grownBy w1 v.ownBlock → K (a.put o.dst v1) w1) :
    if Region.wanted o (yielded ops a.tmps) = true then Oper.wp Tryd.prog o a W K Q else E := by
  obtain ⟨v1, w1, hr, hown, hg⟩ := run_app_str base 22 o.type Tryd.underlying22 v xs ys A m c HO HR hbase hl
  rw [if_pos (by simp [Region.wanted, hgd])]
  unfold Oper.wp execOp
  simp only [ho, resolve, invoke, builtin, Sem.run_bind, Sem.run_pure, Result.andThen_ok, List.map_toArray, List.map_cons, List.map_nil, hs, hx, hr]
  exact h v1 w1 hown (HB.grown hg hbase (own_base HO)) (fun b p hp => (hg.block b hp.lt fun e => by
    obtain ⟨cells, hc⟩ := own_typed HO b e.symm
    have hp' : W.heap[b]? = _ := hp
    rw [hp'] at hc
    injection hc with hc
    injection hc with _ hc
    exact absurd hc (by decide)).trans hp) hg

theorem twice_index (which : Int) (n : Nat) (h0 : 2 ≤ n) (h1 : n ≤ 60) : ∃ k : Nat, wrap64 (1 + wrap64 ((IntKind.u64.wrap which).tmod ((n : Int) - 1))) = (k : Int) ∧ 1 ≤ k ∧ k < n := by
  have e : 0 ≤ IntKind.u64.wrap which := by unfold IntKind.wrap; simp [IntKind.bits, IntKind.signed]; omega
  rw [Int.tmod_eq_emod_of_nonneg e]
  have h2 := Int.emod_nonneg (IntKind.u64.wrap which) (b := (n : Int) - 1) (by omega)
  have h3 := Int.emod_lt_of_pos (IntKind.u64.wrap which) (b := (n : Int) - 1) (by omega)
  generalize (IntKind.u64.wrap which) % ((n : Int) - 1) = r at *
  refine ⟨(1 + r).toNat, ?_, by omega, by omega⟩
  unfold wrap64
  omega
theorem SL.at_ {w : World} {A : Option Addr} {n c k : Nat} {l : List ByteArray} (h : SL w (.slice A n c) l) (hk : k < l.length) : ∃ g o, A = some ⟨g, o, none⟩ ∧ g < w.heap.size ∧ w.cell? ⟨g, o + k, none⟩ = some (.string l[k]) := by
  obtain ⟨A', c', e, hc, hr⟩ := h
  injection e with e1 e2 e3
  subst e1
  obtain ⟨ad, eA, hcell⟩ := (Kd.reads_of_C (d := ByteArray.empty) hr).2.2 (by omega)
  have h1 : w.cell? (ad.add k) = some (.string l[k]) := by
    rw [hcell k hk]
    simp [List.getD_eq_getElem?_getD, List.getElem?_eq_getElem hk]
  obtain ⟨g, o, sp⟩ := ad
  cases sp with
  | none =>
    have h2 : w.cell? ⟨g, o + k, none⟩ = some (.string l[k]) := by rw [← add_at]; exact h1
    exact ⟨g, o, eA, World.block_lt_of_cell? w _ h2, h2⟩
  | some x =>
    exfalso
    have h0 : w.cell? ⟨g, o, some x⟩ = some (.string (l.getD 0 ByteArray.empty)) := hcell 0 (by omega)
    unfold World.cell? at h0
    split at h0
    · simp at h0
    · cases h0
theorem h_alloc (w : World) (o : Obj) : (w.alloc o).heap = w.heap.push o := rfl
theorem h_drew (w : World) : w.drew.heap = w.heap := rfl
theorem one_reads {W : World} {Y : Nat} {s : ByteArray} (h : W.heap[Y]? = some (.cells #[.string s] 9 (0, 0))) : ReadsOf Value.string ByteArray.empty W (some ⟨Y, 0, none⟩) 1 [s] :=
  ⟨rfl, by decide, fun _ => ⟨_, rfl, fun j hj => by
    have h0 : j = 0 := by omega
    subst h0
    simp [World.cell?, Addr.add, h]⟩⟩
theorem size_alloc_le (w : World) (o : Obj) : w.heap.size ≤ (w.alloc o).heap.size := by simp
theorem PlanAt.newX {w : World} {X : Nat} (h : w.heap.size = X) : PlanAt (w.alloc (.cells #[.int .i64 0, .int .i64 0, .int .i64 0, .int .i64 0, .int .i64 0, .bool false, .bool false, .bool false] 26 (0, 0))) X Pl.zero := by
  subst h
  exact PlanAt.new w Pl.zero
theorem PlanAt.grown_row {W w1 : World} {b base n : Nat} {p : Pl} {v : Value} {xs : List Value} (h : PlanAt W b p) (ho : W.ownsRow base 9 1 v n xs) (hg : W.grownBy w1 v.ownBlock) : PlanAt w1 b p :=
  (hg.block b h.lt fun e => by
    obtain ⟨cells, hc⟩ := own_typed ho b e.symm
    have hp' : W.heap[b]? = _ := h
    rw [hp'] at hc
    injection hc with hc
    injection hc with _ hc
    exact absurd hc (by decide)).trans h
theorem tw_fin {w w6 wx : World} {b : Nat} {p : Pl} (h : Below w.heap.size w w6) (hp : PlanAt w6 b p) (hx : Below w6.heap.size w6 wx) : Hid (Below w.heap.size w wx) ∧ Hid (PlanAt wx b p) := ⟨below_next h hx, PlanAt.below hp hx⟩
theorem keepx {A G : Prop} (h : A) (k : A → G) : G := k h
theorem own_emptyAt {W : World} {base X : Nat} (h : W.heap[X]? = some (.cells #[] 9 (0, 0))) (hb : base ≤ X) : W.ownsRow base 9 1 (.slice (some ⟨X, 0, none⟩) 0 0) ([] : List ByteArray).length (encs Value.string []) :=
  ⟨by simp [encs], .inr ⟨X, 0, _, rfl, hb, h, Nat.le_refl _, by decide, by simp, by simp [encs]⟩⟩
theorem SL.reads {w : World} {A : Option Addr} {n c : Nat} {l : List ByteArray} (h : SL w (.slice A n c) l) : ReadsOf Value.string ByteArray.empty w A n l := by
  obtain ⟨A', c', e, hc, hr⟩ := h
  injection e with e1 e2 e3
  subst e1 e2
  exact Kd.reads_of_C hr
end Go.Proofs.YtlddfdkmpnllmaaDoor
