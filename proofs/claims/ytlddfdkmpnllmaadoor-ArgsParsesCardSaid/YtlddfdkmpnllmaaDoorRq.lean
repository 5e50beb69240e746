/- The reference's table of what was got, beside the plan so far: plain laws of ArgsParses. -/
import Derived.Test.YtlddfdkmpnllmaaDoorRp
namespace Go.Proofs.YtlddfdkmpnllmaaDoor
open Go.RowKit Go.Proofs.YtlddfdkmpnllmaaDoorW.PrintWords Go.Proofs.YtlddfdkmpnllmaaDoorW.PrintLast Go.Proofs.YtlddfdkmpnllmaaDoorW.PrintMore Go.Proofs.YtlddfdkmpnllmaaDoor.PRpp
set_option linter.unusedVariables false
set_option linter.unusedSimpArgs false

def bi (b : Bool) : Int := if b = true then 1 else 0
def gotL (p : Pl) : List Int := [p.c1, p.c2, p.c3, p.c4, bi p.f, bi p.s, bi p.t]
theorem codec_nonneg (s : ByteArray) : 0 ≤ codecF s := (codec_range s).1
theorem sizeF_nonneg (s : ByteArray) : 0 ≤ sizeF s := by
  unfold sizeF
  split
  · rename_i h; have := num_pos h; omega
  · omega
theorem value_nonneg (o : Int) (s : ByteArray) (has : Bool) : 0 ≤ valueF o s has := by
  unfold valueF
  have h1 := codec_nonneg s
  have h2 := sizeF_nonneg s
  repeat' split
  all_goals omega
theorem opt_step (p : Pl) (o : Nat) (ho : o < 7) (v : ByteArray) (has : Bool) :
    ((setF p (optsP.getD o ByteArray.empty) v has).2 = true ↔ valueF o v has ≠ 0) ∧ (valueF o v has ≠ 0 → gotL (setF p (optsP.getD o ByteArray.empty) v has).1 = (gotL p).set o (valueF o v has)) := by
  have h : o = 0 ∨ o = 1 ∨ o = 2 ∨ o = 3 ∨ o = 4 ∨ o = 5 ∨ o = 6 := by omega
  rcases h with rfl | rfl | rfl | rfl | rfl | rfl | rfl
  · show ((setF p kFrom v has).2 = true ↔ _) ∧ (_ → gotL (setF p kFrom v has).1 = _)
    rw [set_from]; cases has <;> simp [valueF, gotL]
  · show ((setF p kTo v has).2 = true ↔ _) ∧ (_ → gotL (setF p kTo v has).1 = _)
    rw [set_to]; cases has <;> simp [valueF, gotL]
  · show ((setF p kForm v has).2 = true ↔ _) ∧ (_ → gotL (setF p kForm v has).1 = _)
    rw [set_form]; cases has <;> simp [valueF, gotL]
  · show ((setF p kSize v has).2 = true ↔ _) ∧ (_ → gotL (setF p kSize v has).1 = _)
    rw [set_size]
    cases has with
    | false => simp [valueF]
    | true =>
      cases hq : (numF v).2 with
      | false => simp [valueF, sizeF, hq]
      | true => have := num_pos hq; simp [valueF, sizeF, hq, gotL]; omega
  · show ((setF p kFramed v has).2 = true ↔ _) ∧ (_ → gotL (setF p kFramed v has).1 = _)
    rw [set_framed]; cases has <;> simp [valueF, gotL, bi]
  · show ((setF p kSign v has).2 = true ↔ _) ∧ (_ → gotL (setF p kSign v has).1 = _)
    rw [set_sign]; cases has <;> simp [valueF, gotL, bi]
  · show ((setF p kStrip v has).2 = true ↔ _) ∧ (_ → gotL (setF p kStrip v has).1 = _)
    rw [set_strip]; cases has <;> simp [valueF, gotL, bi]
/-- What was got is what was seen. -/
def GI (p : Pl) (seen : List ByteArray) : Prop := ∀ o, o < 7 → 0 ≤ (gotL p).getD o 0 ∧ (0 < (gotL p).getD o 0 ↔ optsP.getD o ByteArray.empty ∈ seen)
theorem gi_zero (c : Int) : GI { Pl.zero with c0 := c } [] := by
  intro o ho
  have h : o = 0 ∨ o = 1 ∨ o = 2 ∨ o = 3 ∨ o = 4 ∨ o = 5 ∨ o = 6 := by omega
  rcases h with rfl | rfl | rfl | rfl | rfl | rfl | rfl <;> simp [gotL, Pl.zero, bi]
theorem opts_ne : ∀ (a b : Fin 7), a ≠ b → optsP.getD a.val ByteArray.empty ≠ optsP.getD b.val ByteArray.empty := by decide +kernel
theorem gi_step {p : Pl} {seen : List ByteArray} (h : GI p seen) {o : Nat} (ho : o < 7) {v : ByteArray} {has : Bool} (hv : valueF o v has ≠ 0) :
    GI (setF p (optsP.getD o ByteArray.empty) v has).1 (seen ++ [optsP.getD o ByteArray.empty]) := by
  intro q hq
  rw [(opt_step p o ho v has).2 hv]
  have hn := value_nonneg o v has
  by_cases e : q = o
  · subst e
    have hl : q < (gotL p).length := ho
    rw [List.getD_eq_getElem?_getD, List.getElem?_set_self hl]
    simp only [Option.getD_some, List.mem_append, List.mem_singleton, or_true, iff_true]
    omega
  · rw [List.getD_eq_getElem?_getD, List.getElem?_set_ne (Ne.symm e), ← List.getD_eq_getElem?_getD]
    obtain ⟨h1, h2⟩ := h q hq
    refine ⟨h1, h2.trans ?_⟩
    rw [List.mem_append, List.mem_singleton]
    have hne := opts_ne ⟨q, hq⟩ ⟨o, ho⟩ (fun h => e (Fin.mk.inj_iff.1 h))
    constructor
    · exact .inl
    · rintro (h | h)
      · exact h
      · exact absurd h hne
theorem idx_get (s : ByteArray) : ∀ (l : List ByteArray) (i : Int), 0 ≤ i → i ≤ idxF s l i → l.getD (idxF s l i - i).toNat ByteArray.empty = s ∧ (idxF s l i - i).toNat < l.length := by
  intro l
  induction l with
  | nil => intro i h0 h; simp [idxF] at h; omega
  | cons a r ih =>
    intro i h0 h
    unfold idxF at h ⊢
    by_cases e : s = a
    · rw [if_pos e]
      simp [e]
    · rw [if_neg e] at h ⊢
      have hr := idx_range s r (i + 1)
      obtain ⟨h1, h2⟩ := ih (i + 1) (by omega) (by omega)
      have e2 : (idxF s r (i + 1) - i).toNat = (idxF s r (i + 1) - (i + 1)).toNat + 1 := by omega
      rw [e2]
      exact ⟨by simpa using h1, by simpa using h2⟩
theorem opt_get {s : ByteArray} (h : 0 ≤ idxF s optsP 0) : optsP.getD (idxF s optsP 0).toNat ByteArray.empty = s ∧ (idxF s optsP 0).toNat < 7 := by
  have := idx_get s optsP 0 (Int.le_refl _) h
  rw [Int.sub_zero] at this
  exact this
theorem opt_no {s : ByteArray} (h : idxF s optsP 0 < 0) (c : Int) : inF s (mayF c) = false := by
  rcases hb : inF s (mayF c) with _ | _
  · rfl
  · exfalso
    have hm : s ∈ optsP := by
      rcases mayF_mem ((inF_iff _ _).1 hb) with e | e | e | e | e | e | e <;> rw [e] <;> simp [optsP]
    have := (idxF_mem s optsP 0 (Int.le_refl _)).2 hm
    omega
/-- Is what was got wrong together? As the reference tells it. -/
def wrongF (p : Pl) : Bool :=
  if p.c0 = 1 then (p.c2 == 0 || (decide (p.c4 > 0) && bi p.f == 0)) else if p.c0 = 2 then (decide (p.c1 > 0) == decide (bi p.f > 0)) else if p.c0 = 3 then (p.c1 == 0 || p.c2 == 0) else if p.c0 = 6 then p.c1 == 0 else false
theorem wrong_whole (p : Pl) (h1 : 0 ≤ p.c1) (h4 : 0 ≤ p.c4) : wholeF p = !wrongF p := by
  obtain ⟨c0, c1, c2, c3, c4, f, s, t⟩ := p
  simp only at h1 h4
  unfold wholeF wrongF
  simp only
  by_cases e1 : c0 = 1
  · rw [if_pos e1, if_pos e1]
    rcases Int.lt_or_eq_of_le h4 with h | h
    · have : (c4 == 0) = false := by simp; omega
      cases f <;> simp [bi, bne, this, h]
    · subst h; cases f <;> simp [bi, bne]
  rw [if_neg e1, if_neg e1]
  by_cases e2 : c0 = 2
  · rw [if_pos e2, if_pos e2]
    rcases Int.lt_or_eq_of_le h1 with h | h
    · have : (c1 != 0) = true := by simp; omega
      cases f <;> simp [bi, this, h]
    · subst h; cases f <;> simp [bi]
  rw [if_neg e2, if_neg e2]
  by_cases e3 : c0 = 3
  · rw [if_pos e3, if_pos e3]
    simp [bne]
  rw [if_neg e3, if_neg e3]
  by_cases e6 : c0 = 6
  · rw [if_pos e6, if_pos e6]; simp [bne]
  · rw [if_neg e6, if_neg e6]; rfl
theorem form_may {c : Int} (h0 : 1 ≤ c) (h1 : c ≤ 6) : inF kForm (mayF c) = decide (c ≤ 2) := by
  have h : c = 1 ∨ c = 2 ∨ c = 3 ∨ c = 4 ∨ c = 5 ∨ c = 6 := by omega
  rcases h with rfl | rfl | rfl | rfl | rfl | rfl <;> decide +kernel
end Go.Proofs.YtlddfdkmpnllmaaDoor
