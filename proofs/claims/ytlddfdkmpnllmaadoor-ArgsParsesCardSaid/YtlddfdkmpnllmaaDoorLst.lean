/- Lists of texts, read: slices.Contains, slices.Index, the commands, the options; and a plan, looked through: each answers a plain function. -/
import Derived.Test.YtlddfdkmpnllmaaDoorSet
import Derived.Test.YtlddfdkmpnllmaaDoorPProgx
namespace Go.Proofs.YtlddfdkmpnllmaaDoor
open Go.RowKit Go.Proofs.YtlddfdkmpnllmaaDoorW.PrintWords Go.Proofs.YtlddfdkmpnllmaaDoorW.PrintLast Go.Proofs.YtlddfdkmpnllmaaDoorW.PrintMore
set_option linter.unusedVariables false
set_option linter.unusedSimpArgs false

/-- v is a slice that holds the texts l. -/
def SL (w : World) (v : Value) (l : List ByteArray) : Prop := ∃ A c, v = .slice A l.length c ∧ l.length ≤ c ∧ Kd.C Kd.string w A l.length l
theorem SL.below {w w1 : World} {v : Value} {l : List ByteArray} (h : SL w v l) (hb : Below w.heap.size w w1) : SL w1 v l := by
  obtain ⟨A, c, e, hc, hr⟩ := h
  exact ⟨A, c, e, hc, Kd.C_below hr hb⟩
theorem SL.drewN {w : World} {v : Value} {l : List ByteArray} (h : SL w v l) (n : Nat) : SL (w.drewN n) v l := h.below (below_drewN' (Below.refl _ _) n)
theorem SL.alloc {w : World} {v : Value} {l : List ByteArray} (h : SL w v l) (o : Obj) : SL (w.alloc o) v l := h.below (below_new (Below.refl _ _) o)
theorem SL.of_R {w : World} {base : Nat} {ok : Nat → Prop} {v : Value} {l : List ByteArray} (h : Kd.R Kd.string 9 w base ok v l) : SL w v l := Kd.R_reads h
theorem SL.max {w : World} {v : Value} {l : List ByteArray} (h : SL w v l) : l.length ≤ 9223372036854775807 := by
  obtain ⟨A, c, e, hc, hr⟩ := h
  exact Kd.C_max hr

/-- The place of the first s in a list that begins at place i; -1: none. -/
def idxF (s : ByteArray) : List ByteArray → Int → Int
  | [], _ => -1
  | a :: r, i => if s = a then i else idxF s r (i + 1)
theorem idxF_range (s : ByteArray) : ∀ (l : List ByteArray) (i : Int), idxF s l i = -1 ∨ (i ≤ idxF s l i ∧ idxF s l i < i + l.length)
  | [], _ => .inl rfl
  | a :: r, i => by
    unfold idxF
    by_cases h : s = a
    · rw [if_pos h]; exact .inr ⟨Int.le_refl _, by simp; omega⟩
    · rw [if_neg h]
      rcases idxF_range s r (i + 1) with h1 | h1
      · exact .inl h1
      · exact .inr ⟨by omega, by simp; omega⟩
theorem idxF_mem (s : ByteArray) : ∀ (l : List ByteArray) (i : Int), 0 ≤ i → (0 ≤ idxF s l i ↔ s ∈ l)
  | [], _, _ => by simp [idxF]
  | a :: r, i, h0 => by
    unfold idxF
    by_cases h : s = a
    · rw [if_pos h]; simp [h, h0]
    · rw [if_neg h, idxF_mem s r (i + 1) (by omega)]; simp [h]
def inF (s : ByteArray) (l : List ByteArray) : Bool := decide (0 ≤ idxF s l 0)
theorem inF_iff (s : ByteArray) (l : List ByteArray) : inF s l = true ↔ s ∈ l := by unfold inF; rw [decide_eq_true_iff, idxF_mem s l 0 (Int.le_refl _)]
theorem idx_l0 (l : List ByteArray) (s : ByteArray) (hl : l.length ≤ 9223372036854775807) (d : Nat) : ∀ (k : Nat) (i : Int), 0 ≤ i → i ≤ l.length → (l.length : Int) - i = d → d < k →
    PProg.slices_Index_string_string.l0 k l s (l.length : Int) i = some (idxF s (l.drop i.toNat) i) := by
  induction d with
  | zero =>
    intro k i h0 h1 hd hk
    obtain ⟨k, rfl⟩ : ∃ m, k = m + 1 := ⟨k - 1, by omega⟩
    rw [List.drop_eq_nil_of_le (by omega)]
    simp only [PProg.slices_Index_string_string.l0]; rw [if_neg (by omega)]; rfl
  | succ d ih =>
    intro k i h0 h1 hd hk
    obtain ⟨k, rfl⟩ : ∃ m, k = m + 1 := ⟨k - 1, by omega⟩
    have hlt : i.toNat < l.length := by omega
    rw [List.drop_eq_getElem_cons hlt]
    have hr : rdOf ByteArray.empty l i = l[i.toNat] := by simp [rdOf, List.getD_eq_getElem?_getD, List.getElem?_eq_getElem hlt]
    have hw : wrap64 (i + 1) = i + 1 := by unfold wrap64; omega
    simp only [PProg.slices_Index_string_string.l0]
    rw [if_pos (by omega), if_pos h0, if_pos (by omega), hr]
    unfold idxF
    by_cases h : s = l[i.toNat]
    · rw [if_pos (by rw [h]), if_pos h]
    · rw [if_neg (fun e => h ((str_eq_iff _ _).1 (by rw [e]; exact beq_self_eq_true _))), if_neg h, hw, ih k (i + 1) (by omega) (by omega) (by omega) (by omega)]
      rw [show (i + 1).toNat = i.toNat + 1 by omega]
theorem idx_f (l : List ByteArray) (s : ByteArray) (hl : l.length ≤ 9223372036854775807) : PProg.slices_Index_string_string.f (l.length + 1) l s = some (idxF s l 0) := by
  unfold PProg.slices_Index_string_string.f
  rw [idx_l0 l s hl l.length _ 0 (by omega) (by omega) (by omega) (by omega)]
  rfl
theorem contains_f (l : List ByteArray) (s : ByteArray) (hl : l.length ≤ 9223372036854775807) : PProg.slices_Contains_string_string.f (l.length + 1) l s = some (inF s l) := by
  unfold PProg.slices_Contains_string_string.f
  rw [idx_f l s hl]
  rfl

theorem contains_c (v : Value) (l : List ByteArray) (s : ByteArray) (w : World) (h : SL w v l) :
    Calls Tryd.prog 16 #[v, .string s] w fun e w' => e = .returned (.bool (inF s l)) ∧ ∃ n, w' = w.drewN n := by
  have hm := h.max
  obtain ⟨A, c, rfl, hc, hr⟩ := h
  exact (PProg.slices_Contains_string_string.calls _ A c l s _ w hr hc (contains_f l s hm)).mono fun e w' h => ⟨h.1, h.2.out⟩
theorem index_c (v : Value) (l : List ByteArray) (s : ByteArray) (w : World) (h : SL w v l) :
    Calls Tryd.prog 18 #[v, .string s] w fun e w' => e = .returned (.int .i64 (idxF s l 0)) ∧ ∃ n, w' = w.drewN n := by
  have hm := h.max
  obtain ⟨A, c, rfl, hc, hr⟩ := h
  exact (PProg.slices_Index_string_string.calls _ A c l s _ w hr hc (idx_f l s hm)).mono fun e w' h => ⟨h.1, h.2.out⟩

theorem contains_b (v : Value) (l : List ByteArray) (s : ByteArray) (w : World) (h : SL w v l) :
    Calls Tryd.prog 16 #[v, .string s] w fun e w' => e = .returned (.bool (inF s l)) ∧ Below w.heap.size w w' :=
  (contains_c v l s w h).mono fun e w' ⟨h1, n, h2⟩ => ⟨h1, by rw [h2]; exact below_drewN' (Below.refl _ _) n⟩
theorem index_b (v : Value) (l : List ByteArray) (s : ByteArray) (w : World) (h : SL w v l) :
    Calls Tryd.prog 18 #[v, .string s] w fun e w' => e = .returned (.int .i64 (idxF s l 0)) ∧ Below w.heap.size w w' :=
  (index_c v l s w h).mono fun e w' ⟨h1, n, h2⟩ => ⟨h1, by rw [h2]; exact below_drewN' (Below.refl _ _) n⟩

def cmds : List ByteArray := [⟨#[]⟩, ⟨#[101, 110, 99, 111, 100, 101]⟩, ⟨#[100, 101, 99, 111, 100, 101]⟩, ⟨#[116, 114, 97, 110, 115, 99, 111, 100, 101]⟩, ⟨#[100, 101, 116, 101, 99, 116]⟩, ⟨#[118, 101, 114, 105, 102, 121]⟩, ⟨#[115, 116, 97, 116]⟩]
def mayF (c : Int) : List ByteArray := if c = 1 then [kTo, kForm, kSign, kFramed, kSize] else if c = 2 then [kFrom, kFramed, kForm, kStrip] else if c = 3 then [kFrom, kTo, kStrip, kSign] else if c = 6 then [kFrom, kStrip] else []
theorem commands_c (w : World) : Calls Tryd.prog 17 #[] w fun e w' => ∃ v, e = .returned v ∧ SL w' v cmds ∧ Below w.heap.size w w' :=
  (PProg.args_commands.calls cmds w rfl).mono fun e w' ⟨v, he, hr, hb⟩ => ⟨v, he, SL.of_R hr, hb⟩
theorem may_f (c : Int) : PProg.args_may.f c = some (mayF c) := by
  unfold PProg.args_may.f mayF
  split
  · rfl
  split
  · rfl
  split
  · rfl
  split <;> rfl
theorem may_c (c : Int) (w : World) : Calls Tryd.prog 20 #[.int .i64 c] w fun e w' => ∃ v, e = .returned v ∧ SL w' v (mayF c) ∧ Below w.heap.size w w' :=
  (PProg.args_may.calls c (mayF c) w (may_f c)).mono fun e w' ⟨v, he, hr, hb⟩ => ⟨v, he, SL.of_R hr, hb⟩

/-- Has a plan what it must have, and nothing that it mustn't? -/
def wholeF (p : Pl) : Bool := if p.c0 = 1 then (p.c2 != 0 && (p.f || p.c4 == 0)) else if p.c0 = 2 then ((p.c1 != 0) != p.f) else if p.c0 = 3 then (p.c1 != 0 && p.c2 != 0) else if p.c0 = 6 then p.c1 != 0 else true
theorem whole_f (p : Pl) : PProg.args_whole.f p.c0 p.c1 p.c2 p.c3 p.c4 p.f p.s p.t = some (wholeF p) := by
  unfold PProg.args_whole.f wholeF
  split
  · by_cases h2 : p.c2 = 0
    · simp [h2]
    · cases hf : p.f <;> simp [h2]
  split
  · rfl
  split
  · by_cases h1 : p.c1 = 0 <;> simp [h1]
  split <;> rfl
theorem whole_c (p : Pl) (w : World) : Calls Tryd.prog 22 #[.agg p.cells] w fun e w' => e = .returned (.bool (wholeF p)) ∧ Below w.heap.size w w' :=
  PProg.args_whole.calls _ _ _ _ _ _ _ _ _ w (whole_f p)
end Go.Proofs.YtlddfdkmpnllmaaDoor
