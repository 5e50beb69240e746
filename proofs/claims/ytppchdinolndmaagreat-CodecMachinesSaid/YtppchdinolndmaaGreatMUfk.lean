/- Joined texts: Ufk. -/
import Derived.Test.YtppchdinolndmaaGreatRows
import Derived.Test.YtppchdinolndmaaGreatMBase
import Derived.Test.YtppchdinolndmaaGreatMVWWords
import Derived.SizedLaws
import Derived.ChangeSlices
import Derived.WalkKit
import Derived.ProofKit
import Derived.OpenShut
import Derived.ShutString
import Derived.ChangeOld
import Derived.Below
/- Words for a row's frame: lists of numbers that were handed in. -/
namespace Go.Proofs.YtppchdinolndmaaGreat
open Go.ChangeShapes Go.WideShapes Go.ChangeAt Go.RowKit Go.Proofs.YtppchdinolndmaaGreatW.PrintWords
set_option linter.unusedVariables false
theorem row_in {P : Program} {H : Type} {enc : TypeId × Value → H} {k : IntKind} {W : World} {base : Nat} {t e : TypeId} {v : Value} {d : DataW H} {p : List MemPlace}
  (ut : P.underlying t = some (.slice e)) (ue : P.underlying e = some (.int k)) (hc : P.cellsOf e = 1)
  (hv : Value.okWide P W .any base t v) (h : DataW.Trod enc P W 0 (fun _ => true) true t v d p) :
  ∃ A c l, v = .slice A l.length c ∧ ReadsInt W k A l.length l ∧ l.length ≤ c ∧ ∀ n ∈ l, (Lit.int k n).wf = true := by
 obtain ⟨A, n, c, rfl⟩ := okWide_slice ut hv
 obtain ⟨fuel, hf⟩ := h
 rcases open_ints ut ue hc hf with ⟨hcs, _⟩ | ⟨x, l, cc, zs, hcs, _, hl, hm, hz, _, hcell, hwz⟩
 ·simp [Value.cells] at hcs
  obtain ⟨rfl, rfl, rfl⟩ := hcs
  exact ⟨none, 0, [], rfl, ⟨rfl, by decide, fun h => absurd h (Nat.lt_irrefl 0)⟩, Nat.le_refl _, fun n hn => by cases hn⟩
 ·simp [Value.cells] at hcs
  obtain ⟨rfl, rfl, rfl⟩ := hcs
  have hz : zs.length = c := by simpa using hz
  have hlen : (zs.take n).length = n := by rw [List.length_take]; omega
  have hmx : n ≤ 9223372036854775807 := Nat.le_trans hl (Nat.le_trans hm (by decide))
  refine ⟨some x, c, zs.take n, by rw [hlen], ⟨rfl, by rw [hlen]; exact hmx, fun _ => ⟨x, rfl, fun j hj => ?_⟩⟩, by rw [hlen]; exact hl, fun q hq => hwz q (List.mem_of_mem_take hq)⟩
  rw [hlen] at hj
  rw [hcell j (by omega)]
  congr 2
  rw [List.getD_eq_getElem?_getD, List.getD_eq_getElem?_getD, List.getElem?_take_of_lt hj]
theorem own_godebug : ownKnob Tryz.prog.godebug = none := by kernel_rfl
theorem laid_out : laidOutB Tryz.prog = true := by kernel_rfl
end Go.Proofs.YtppchdinolndmaaGreat
