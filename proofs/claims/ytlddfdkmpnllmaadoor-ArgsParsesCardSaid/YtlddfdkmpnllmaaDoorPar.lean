/- args.Parse answers what parseF answers. -/
import Derived.Test.YtlddfdkmpnllmaaDoorLst
import Derived.Test.YtlddfdkmpnllmaaDoorCut
import Derived.Deep.RegionHeld3
namespace Go.Proofs.YtlddfdkmpnllmaaDoor
open Go.RowKit Go.Proofs.YtlddfdkmpnllmaaDoorW.PrintWords Go.Proofs.YtlddfdkmpnllmaaDoorW.PrintLast Go.Proofs.YtlddfdkmpnllmaaDoorW.PrintMore
set_option linter.unusedVariables false
set_option linter.unusedSimpArgs false

def numLoop : List UInt8 → Int → Int × Bool
  | [], n => (n, decide (n ≤ 65536))
  | c :: r, n => if (c.toNat : Int) < 48 then (0, false) else if (c.toNat : Int) > 57 then (0, false) else numLoop r (10 * n + ((c.toNat : Int) - 48))
def numF (s : ByteArray) : Int × Bool := if s.size = 0 then (0, false) else if bt s 0 = 48 then (0, false) else if 5 < s.size then (0, false) else numLoop s.data.toList 0
theorem num_l0 (s : ByteArray) (hs : s.size ≤ 5) (d : Nat) : ∀ (k : Nat) (n i : Int), 0 ≤ i → i ≤ s.size → (s.size : Int) - i = d → d < k → 0 ≤ n → n < 10 ^ i.toNat →
    PProg.args_number.l0 k s n i = some (numLoop (s.data.toList.drop i.toNat) n) := by
  have hlen : s.data.toList.length = s.size := rfl
  induction d with
  | zero =>
    intro k n i h0 h1 hd hk hn hb
    obtain ⟨k, rfl⟩ : ∃ m, k = m + 1 := ⟨k - 1, by omega⟩
    rw [List.drop_eq_nil_of_le (by omega)]
    simp only [PProg.args_number.l0]; rw [if_neg (by omega)]; rfl
  | succ d ih =>
    intro k n i h0 h1 hd hk hn hb
    obtain ⟨k, rfl⟩ : ∃ m, k = m + 1 := ⟨k - 1, by omega⟩
    have hlt : i.toNat < s.data.toList.length := by omega
    have hp : (10 : Int) ^ i.toNat ≤ 10 ^ 4 := by
      have : (10 : Nat) ^ i.toNat ≤ 10 ^ 4 := Nat.pow_le_pow_right (by decide) (by omega)
      exact_mod_cast this
    have hp1 : (10 : Int) ^ (i.toNat + 1) = 10 * 10 ^ i.toNat := by rw [Int.pow_succ]; omega
    rw [List.drop_eq_getElem_cons hlt]
    have hr : bt s i = ((s.data.toList[i.toNat]).toNat : Int) := by
      unfold bt; rw [dif_pos (by omega)]; rfl
    have hr2 := bt_range s i
    simp only [PProg.args_number.l0, numLoop]
    rw [if_pos (by omega), if_pos h0, ← hr]
    by_cases c1 : bt s i < 48
    · rw [if_pos c1, if_pos c1]
    · rw [if_neg c1, if_neg c1]
      by_cases c2 : bt s i > 57
      · rw [if_pos c2, if_pos c2]
      · rw [if_neg c2, if_neg c2]
        have e1 : wrap64 (wrap64 (10 * n) + ((bt s i - 48) % 256)) = 10 * n + (bt s i - 48) := by unfold wrap64; omega
        have e2 : wrap64 (i + 1) = i + 1 := by unfold wrap64; omega
        rw [e1, e2, ih k _ (i + 1) (by omega) (by omega) (by omega) (by omega) (by omega) (by rw [show (i + 1).toNat = i.toNat + 1 by omega, hp1]; omega)]
        rw [show (i + 1).toNat = i.toNat + 1 by omega]
theorem number_f (s : ByteArray) : PProg.args_number.f 8 s = some (numF s) := by
  have hlen : s.data.toList.length = s.size := rfl
  have he : s.toList = [] ↔ s.size = 0 := by rw [ByteArray.toList_eq, ← List.length_eq_zero_iff]; omega
  unfold PProg.args_number.f numF
  by_cases h0 : s.size = 0
  · rw [if_pos (he.2 h0), if_pos h0]; simp only [PProg.args_number.j0]; rfl
  · rw [if_neg (fun h => h0 (he.1 h)), if_neg h0, if_pos (by omega)]
    by_cases h1 : bt s 0 = 48
    · rw [if_pos h1, if_pos h1]; simp only [PProg.args_number.j0]; rfl
    · rw [if_neg h1, if_neg h1]
      by_cases h2 : 5 < s.size
      · rw [if_pos h2, show decide ((s.size : Int) > 5) = true by simp; omega]; simp only [PProg.args_number.j0]; rfl
      · rw [if_neg h2, show decide ((s.size : Int) > 5) = false by simp; omega]
        simp only [PProg.args_number.j0]
        rw [if_neg (by decide), num_l0 s (by omega) s.size 7 0 0 (by omega) (by omega) (by omega) (by omega) (by omega) (by decide)]
        rfl

/-- An option, and its value: the plan behind it, and whether it may be so. -/
def setF (p : Pl) (name value : ByteArray) (has : Bool) : Pl × Bool :=
  if name = kFramed then ({ p with f := true }, !has) else if name = kSign then ({ p with s := true }, !has) else if name = kStrip then ({ p with t := true }, !has)
  else if name = kSize then ({ p with c4 := (numF value).1 }, (numF value).2 && has)
  else if name = kFrom then ({ p with c1 := codecF value }, codecF value != 0 && has) else if name = kTo then ({ p with c2 := codecF value }, codecF value != 0 && has)
  else ({ p with c3 := codecF value }, codecF value != 0 && has)
theorem mayF_mem {c : Int} {s : ByteArray} (h : s ∈ mayF c) : s = kFramed ∨ s = kSign ∨ s = kStrip ∨ s = kSize ∨ s = kFrom ∨ s = kTo ∨ s = kForm := by
  unfold mayF at h
  split at h
  · simp only [List.mem_cons, List.not_mem_nil, or_false] at h
    rcases h with h | h | h | h | h <;> simp [h]
  split at h
  · simp only [List.mem_cons, List.not_mem_nil, or_false] at h
    rcases h with h | h | h | h <;> simp [h]
  split at h
  · simp only [List.mem_cons, List.not_mem_nil, or_false] at h
    rcases h with h | h | h | h <;> simp [h]
  split at h
  · simp only [List.mem_cons, List.not_mem_nil, or_false] at h
    rcases h with h | h <;> simp [h]
  · simp at h
theorem set_c (b : Nat) (p : Pl) (name value : ByteArray) (has : Bool) (w : World) (hb : PlanAt w b p) (hn : name = kFramed ∨ name = kSign ∨ name = kStrip ∨ name = kSize ∨ name = kFrom ∨ name = kTo ∨ name = kForm) :
    Calls Tryd.prog 21 #[.pointer (some ⟨b, 0, none⟩), .string name, .string value, .bool has] w fun e w' => e = .returned (.bool (setF p name value has).2) ∧ PlanAt w' b (setF p name value has).1 ∧ w.grownBy w' (some b) := by
  rcases hn with rfl | rfl | rfl | rfl | rfl | rfl | rfl
  · have e : setF p kFramed value has = ({ p with f := true }, !has) := by unfold setF; rw [if_pos rfl]
    rw [e]; exact setFramed_calls b p value has w hb
  · have e : setF p kSign value has = ({ p with s := true }, !has) := by unfold setF; rw [if_neg (by decide), if_pos rfl]
    rw [e]; exact setSign_calls b p value has w hb
  · have e : setF p kStrip value has = ({ p with t := true }, !has) := by unfold setF; rw [if_neg (by decide), if_neg (by decide), if_pos rfl]
    rw [e]; exact setStrip_calls b p value has w hb
  · have e : setF p kSize value has = ({ p with c4 := (numF value).1 }, (numF value).2 && has) := by unfold setF; rw [if_neg (by decide), if_neg (by decide), if_neg (by decide), if_pos rfl]
    rw [e]; exact setSize_calls b p value has w hb 8 _ _ (number_f value)
  · have e : setF p kFrom value has = ({ p with c1 := codecF value }, codecF value != 0 && has) := by unfold setF; rw [if_neg (by decide), if_neg (by decide), if_neg (by decide), if_neg (by decide), if_pos rfl]
    rw [e]; exact setFrom_calls b p value has w hb
  · have e : setF p kTo value has = ({ p with c2 := codecF value }, codecF value != 0 && has) := by unfold setF; rw [if_neg (by decide), if_neg (by decide), if_neg (by decide), if_neg (by decide), if_neg (by decide), if_pos rfl]
    rw [e]; exact setTo_calls b p value has w hb
  · have e : setF p kForm value has = ({ p with c3 := codecF value }, codecF value != 0 && has) := by unfold setF; rw [if_neg (by decide), if_neg (by decide), if_neg (by decide), if_neg (by decide), if_neg (by decide), if_neg (by decide)]
    rw [e]; exact setForm_calls b p value has w hb
end Go.Proofs.YtlddfdkmpnllmaaDoor
