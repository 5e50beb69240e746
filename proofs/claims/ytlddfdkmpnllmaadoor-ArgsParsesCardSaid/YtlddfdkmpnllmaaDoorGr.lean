/- pilcrowlaw24.great answers greatF. -/
import Derived.Test.YtlddfdkmpnllmaaDoorAw
namespace Go.Proofs.YtlddfdkmpnllmaaDoor
open Go.RowKit Go.Proofs.YtlddfdkmpnllmaaDoorW.PrintWords Go.Proofs.YtlddfdkmpnllmaaDoorW.PrintLast Go.Proofs.YtlddfdkmpnllmaaDoorW.PrintMore
set_option linter.unusedVariables false
set_option linter.unusedSimpArgs false

/-- Is one of the texts longer than 100? -/
def bigF (l : List ByteArray) : Bool := l.any fun s => decide (100 < s.size)
def greatF (l : List ByteArray) : Bool := decide (100 < l.length) || bigF l
theorem great_l0 (l : List ByteArray) (hl : l.length ≤ 9223372036854775807) (d : Nat) : ∀ (k : Nat) (i : Int), 0 ≤ i → i ≤ l.length → (l.length : Int) - i = d → d < k →
    PProg.pilcrowlaw24_great.l0 k l (l.length : Int) i = some (bigF (l.drop i.toNat)) := by
  induction d with
  | zero =>
    intro k i h0 h1 hd hk
    obtain ⟨k, rfl⟩ : ∃ m, k = m + 1 := ⟨k - 1, by omega⟩
    rw [List.drop_eq_nil_of_le (by omega)]
    simp only [PProg.pilcrowlaw24_great.l0]; rw [if_neg (by omega)]; rfl
  | succ d ih =>
    intro k i h0 h1 hd hk
    obtain ⟨k, rfl⟩ : ∃ m, k = m + 1 := ⟨k - 1, by omega⟩
    have hlt : i.toNat < l.length := by omega
    rw [List.drop_eq_getElem_cons hlt]
    have hr : rdOf ByteArray.empty l i = l[i.toNat] := by simp [rdOf, List.getD_eq_getElem?_getD, List.getElem?_eq_getElem hlt]
    have hw : wrap64 (i + 1) = i + 1 := by unfold wrap64; omega
    simp only [PProg.pilcrowlaw24_great.l0]
    rw [if_pos (by omega), if_pos h0, if_pos (by omega), hr]
    by_cases h : 100 < (l[i.toNat]).size
    · rw [if_pos (by omega)]; show some true = some (decide _ || bigF _); rw [decide_eq_true h]; rfl
    · rw [if_neg (by omega), hw, ih k (i + 1) (by omega) (by omega) (by omega) (by omega), show (i + 1).toNat = i.toNat + 1 by omega]
      show _ = some (decide _ || bigF _)
      rw [decide_eq_false h]; rfl
theorem great_f (l : List ByteArray) (hl : l.length ≤ 9223372036854775807) : PProg.pilcrowlaw24_great.f (l.length + 1) l = some (greatF l) := by
  unfold PProg.pilcrowlaw24_great.f greatF
  by_cases h : 100 < l.length
  · rw [if_pos (by omega)]; simp [h]
  · rw [if_neg (by omega), great_l0 l hl l.length _ 0 (by omega) (by omega) (by omega) (by omega)]; simp [h]
theorem great_c (v : Value) (l : List ByteArray) (w : World) (h : SL w v l) :
    Calls Tryd.prog 9 #[v] w fun e w' => e = .returned (.bool (greatF l)) ∧ Below w.heap.size w w' := by
  have hm := h.max
  obtain ⟨A, c, rfl, hc, hr⟩ := h
  exact (PProg.pilcrowlaw24_great.calls _ A c l _ w hr hc (great_f l hm)).mono fun e w' h => ⟨h.1, by obtain ⟨n, hn⟩ := h.2.out; rw [hn]; exact below_drewN' (Below.refl _ _) n⟩
theorem great_len {l : List ByteArray} (h : greatF l = false) : l.length ≤ 100 := by
  unfold greatF at h; simp at h; omega
theorem great_size {l : List ByteArray} (h : greatF l = false) : ∀ s ∈ l, s.size ≤ 100 := by
  unfold greatF bigF at h; simp at h; intro s hs; exact h.2 s hs
end Go.Proofs.YtlddfdkmpnllmaaDoor
