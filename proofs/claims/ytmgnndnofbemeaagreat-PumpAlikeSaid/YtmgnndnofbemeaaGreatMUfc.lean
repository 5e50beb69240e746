/- Joined texts: Ufc. -/
import Derived.Test.YtmgnndnofbemeaaGreatMUfk
import Derived.Lib.SmallJoins
/- Words for a row's frame: a list's size; lists within a struct. -/
namespace Go.Proofs.YtmgnndnofbemeaaGreat
open Go.ChangeShapes Go.WideShapes Go.ChangeAt Go.RowKit Go.Joins Go.Proofs.YtmgnndnofbemeaaGreatW.PrintWords
set_option linter.unusedVariables false
theorem row_cells {P : Program} {H : Type} {enc : TypeId × Value → H} {k : IntKind} {W : World} {t e : TypeId} {v : Value} {fuel : Nat} {x : DataW H × List MemPlace}
  (ut : P.underlying t = some (.slice e)) (ue : P.underlying e = some (.int k)) (hc : P.cellsOf e = 1) (hf : DataW.trod enc P W 0 (fun _ => true) true fuel t [v] = some x) :
  ∃ A c l, v = .slice A l.length c ∧ ReadsInt W k A l.length l ∧ l.length ≤ c ∧ (∀ n ∈ l, (Lit.int k n).wf = true) ∧ (l = [] ∨ ∃ sp, x.1 = .slice (lits k l) sp) := by
 rcases open_ints ut ue hc hf with ⟨hcs, hx⟩ | ⟨y, n, c, zs, hcs, _, hl, hm, hz, hx, hcell, hwz⟩
 ·injection hcs with hcs
  exact ⟨none, 0, [], hcs, ⟨rfl, by decide, fun h => absurd h (Nat.lt_irrefl 0)⟩, Nat.le_refl _, (fun n hn => by cases hn), .inl rfl⟩
 ·injection hcs with hcs
  subst hcs
  have hz : zs.length = c := by simpa using hz
  have hlen : (zs.take n).length = n := by rw [List.length_take]; omega
  have hmx : n ≤ 9223372036854775807 := Nat.le_trans hl (Nat.le_trans hm (by decide))
  refine ⟨some y, c, zs.take n, by rw [hlen], ⟨rfl, by rw [hlen]; exact hmx, fun _ => ⟨y, rfl, fun j hj => ?_⟩⟩, by rw [hlen]; exact hl, fun q hq => hwz q (List.mem_of_mem_take hq), .inr ⟨_, by rw [hx]⟩⟩
  rw [hlen] at hj
  rw [hcell j (by omega)]
  congr 2
  rw [List.getD_eq_getElem?_getD, List.getD_eq_getElem?_getD, List.getElem?_take_of_lt hj]
theorem row_in2 {P : Program} {H : Type} {enc : TypeId × Value → H} {k : IntKind} {W : World} {base : Nat} {t e : TypeId} {v : Value} {d : DataW H} {p : List MemPlace}
  (ut : P.underlying t = some (.slice e)) (ue : P.underlying e = some (.int k)) (hc : P.cellsOf e = 1)
  (hv : Value.okWide P W .any base t v) (h : DataW.Trod enc P W 0 (fun _ => true) true t v d p) :
  ∃ A c l, v = .slice A l.length c ∧ ReadsInt W k A l.length l ∧ l.length ≤ c ∧ (∀ n ∈ l, (Lit.int k n).wf = true) ∧ (l = [] ∨ ∃ sp, d = .slice (lits k l) sp) := by
 obtain ⟨A, n, c, rfl⟩ := okWide_slice ut hv
 obtain ⟨fuel, hf⟩ := h
 exact row_cells (x := (d, p)) ut ue hc (by simpa [Value.cells] using hf)
theorem row_size {P : Program} {H : Type} {ts : List TypeId} {ds : List (DataW H)} (h : (DataW.weightsEach P ts ds).all (· ≤ reachBytes) = true) (j : Nat) {t e : TypeId} {k : IntKind} {d : DataW H} {l : List Int} (ht : ts[j]? = some t) (hd : ds[j]? = some d) (hu : P.underlying t = some (.slice e)) (hb : 0 < P.bytesOf e) (hl : l = [] ∨ ∃ sp, d = .slice (lits k l) sp) :
  l.length ≤ 140737488351232 := by
 rcases hl with rfl | ⟨sp, rfl⟩
 ·exact Nat.zero_le _
 ·have h1 := sized_slice h ht hd hu
  have hr : reachBytes = 140737488351232 := rfl
  rw [hr] at h1
  have hn : (lits (H := H) k l).length = l.length := by simp [lits]
  have := Nat.le_mul_of_pos_right ((lits (H := H) k l).length + sp.length) hb
  omega
theorem open_rows22 {P : Program} {H : Type} {enc : TypeId × Value → H} {W : World} {base : Nat} {t ts : TypeId} {f0 f1 : Field} {v : Value} {d : DataW H} {p : List MemPlace} (ta : P.underlying t = some (.array 2 ts)) (us : P.underlying ts = some (.struct #[f0, f1])) (hone : Go.Deep.oneCellFields P #[f0, f1] = true) (hcs : P.cellsOf ts = 2) (hc : P.cellsOf t = 4)
  (hv : Value.okWide P W .any base t v) (h : DataW.Trod enc P W 0 (fun _ => true) true t v d p) :
  ∃ (v0 v1 v2 v3 : Value) (n m : Nat) (y0 y1 y2 y3 : DataW H × List MemPlace), v = .agg #[v0, v1, v2, v3] ∧ DataW.trod enc P W 0 (fun _ => true) true n f0.type [v0] = some y0 ∧ DataW.trod enc P W 0 (fun _ => true) true n f1.type [v1] = some y1 ∧
   DataW.trod enc P W 0 (fun _ => true) true m f0.type [v2] = some y2 ∧ DataW.trod enc P W 0 (fun _ => true) true m f1.type [v3] = some y3 := by
 obtain ⟨cs, rfl, hsz, _⟩ : ∃ cs, v = .agg cs ∧ cs.size = P.cellsOf t ∧ Row.okWide P W .any base t cs := by simpa [Value.okWide, ta] using hv
 obtain ⟨c0, c1, c2, c3, rfl⟩ := Go.Joins.array4 (hsz.trans hc)
 obtain ⟨fuel, hf⟩ := h
 obtain ⟨xs, m, _, _, _, hn, hall⟩ := DataW.trod_array ta hf
 have h0 := hall 0 (by decide)
 have h1 := hall 1 (by decide)
 rw [hcs] at h0 h1
 match xs, hn with
 | [x0, x1], _ =>
  have e0 : DataW.trod enc P W 0 (fun _ => true) true m ts [c0, c1] = some x0 := by simpa [Value.cells] using h0
  have e1 : DataW.trod enc P W 0 (fun _ => true) true m ts [c2, c3] = some x1 := by simpa [Value.cells] using h1
  obtain ⟨y0, y1, n, _, _, a0, a1⟩ := trod_struct2 us e0
  obtain ⟨y2, y3, n', _, _, b0, b1⟩ := trod_struct2 us e1
  obtain ⟨o0, k0⟩ := Go.Deep.hone_of hone 0 f0 rfl
  obtain ⟨o1, k1⟩ := Go.Deep.hone_of hone 1 f1 rfl
  rw [o0, k0] at a0 b0
  rw [o1, k1] at a1 b1
  exact ⟨c0, c1, c2, c3, n, n', y0, y1, y2, y3, rfl, a0, a1, b0, b1⟩
end Go.Proofs.YtmgnndnofbemeaaGreat
