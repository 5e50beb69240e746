/- What arguments ask for has words that ask for the same: plain law. -/
import Derived.Test.YtlddfdkmpnllmaaDoorWd
import Derived.Lib.ItoaMem
namespace Go.Proofs.YtlddfdkmpnllmaaDoor
open Go.RowKit
set_option linter.unusedVariables false
set_option linter.unusedSimpArgs false

/-- Codecs: 1 to 10. -/
theorem codec_range (s : ByteArray) : 0 ≤ codecF s ∧ codecF s ≤ 10 := by
  unfold codecF
  have h : ∀ n : Nat, n ≤ 10 → 0 ≤ codecFrom s n ∧ codecFrom s n ≤ 10 := by
    intro n
    induction n with
    | zero => intro _; simp [codecFrom]
    | succ n ih =>
      intro hn
      simp only [codecFrom]
      split
      · omega
      · exact ih (by omega)
  exact h 10 (Nat.le_refl _)
theorem ten_cases {c : Int} (h0 : 1 ≤ c) (h1 : c ≤ 10) : c = 1 ∨ c = 2 ∨ c = 3 ∨ c = 4 ∨ c = 5 ∨ c = 6 ∨ c = 7 ∨ c = 8 ∨ c = 9 ∨ c = 10 := by omega
theorem codec_name {c : Int} (h0 : 1 ≤ c) (h1 : c ≤ 10) : codecF (nameF c) = c := by
  rcases ten_cases h0 h1 with rfl | rfl | rfl | rfl | rfl | rfl | rfl | rfl | rfl | rfl <;> kernel_rfl
theorem cut_from {c : Int} (h0 : 1 ≤ c) (h1 : c ≤ 10) : cutF (eFrom ++ nameF c) = (kFrom, nameF c, true) := by
  rcases ten_cases h0 h1 with rfl | rfl | rfl | rfl | rfl | rfl | rfl | rfl | rfl | rfl <;> kernel_rfl
theorem cut_to {c : Int} (h0 : 1 ≤ c) (h1 : c ≤ 10) : cutF (eTo ++ nameF c) = (kTo, nameF c, true) := by
  rcases ten_cases h0 h1 with rfl | rfl | rfl | rfl | rfl | rfl | rfl | rfl | rfl | rfl <;> kernel_rfl
theorem cut_form {c : Int} (h0 : 1 ≤ c) (h1 : c ≤ 10) : cutF (eForm ++ nameF c) = (kForm, nameF c, true) := by
  rcases ten_cases h0 h1 with rfl | rfl | rfl | rfl | rfl | rfl | rfl | rfl | rfl | rfl <;> kernel_rfl
theorem cut_framed : cutF kFramed = (kFramed, ⟨#[]⟩, false) := by kernel_rfl
theorem cut_sign : cutF kSign = (kSign, ⟨#[]⟩, false) := by kernel_rfl
theorem cut_strip : cutF kStrip = (kStrip, ⟨#[]⟩, false) := by kernel_rfl
theorem num_loop_range : ∀ (l : List UInt8) (n : Int), 0 ≤ n → (numLoop l n).2 = true → 0 ≤ (numLoop l n).1 ∧ (numLoop l n).1 ≤ 65536
  | [], n, h0, h => by simp only [numLoop, decide_eq_true_iff] at *; omega
  | c :: r, n, h0, h => by
    unfold numLoop at *
    split at h
    · cases h
    split at h
    · cases h
    next h1 h2 =>
      rw [if_neg h1, if_neg h2]
      exact num_loop_range r _ (by omega) h
theorem num_range {s : ByteArray} (h : (numF s).2 = true) : 0 ≤ (numF s).1 ∧ (numF s).1 ≤ 65536 := by
  unfold numF at *
  split at h
  · cases h
  split at h
  · cases h
  split at h
  · cases h
  next h1 h2 h3 =>
    rw [if_neg h1, if_neg h2, if_neg h3]
    exact num_loop_range _ _ (Int.le_refl _) h

def b1 (b : Bool) : Nat := if b = true then 1 else 0
def cnt (p : Pl) : Nat := b1 (p.c1 != 0) + b1 (p.c2 != 0) + b1 (p.c3 != 0) + b1 (p.c4 != 0) + b1 p.f + b1 p.s + b1 p.t
structure Inv (p : Pl) (m : Nat) : Prop where
  r1 : 0 ≤ p.c1 ∧ p.c1 ≤ 10
  r2 : 0 ≤ p.c2 ∧ p.c2 ≤ 10
  r3 : 0 ≤ p.c3 ∧ p.c3 ≤ 10
  r4 : 0 ≤ p.c4 ∧ p.c4 ≤ 65536
  m1 : p.c1 ≠ 0 → kFrom ∈ mayF p.c0
  m2 : p.c2 ≠ 0 → kTo ∈ mayF p.c0
  m3 : p.c3 ≠ 0 → kForm ∈ mayF p.c0
  m4 : p.c4 ≠ 0 → kSize ∈ mayF p.c0
  mf : p.f = true → kFramed ∈ mayF p.c0
  ms : p.s = true → kSign ∈ mayF p.c0
  mt : p.t = true → kStrip ∈ mayF p.c0
  c : cnt p ≤ m
theorem b1_le (b : Bool) : b1 b ≤ 1 := by cases b <;> decide
theorem ne_keys : kSign ≠ kFramed ∧ kStrip ≠ kFramed ∧ kSize ≠ kFramed ∧ kFrom ≠ kFramed ∧ kTo ≠ kFramed ∧ kForm ≠ kFramed ∧ kStrip ≠ kSign ∧ kSize ≠ kSign ∧ kFrom ≠ kSign ∧ kTo ≠ kSign ∧ kForm ≠ kSign ∧ kSize ≠ kStrip ∧ kFrom ≠ kStrip ∧ kTo ≠ kStrip ∧ kForm ≠ kStrip ∧ kFrom ≠ kSize ∧ kTo ≠ kSize ∧ kForm ≠ kSize ∧ kTo ≠ kFrom ∧ kForm ≠ kFrom ∧ kForm ≠ kTo := by decide
theorem set_framed (p : Pl) (v : ByteArray) (h : Bool) : setF p kFramed v h = ({ p with f := true }, !h) := by unfold setF; rw [if_pos rfl]
theorem set_sign (p : Pl) (v : ByteArray) (h : Bool) : setF p kSign v h = ({ p with s := true }, !h) := by unfold setF; rw [if_neg (by decide), if_pos rfl]
theorem set_strip (p : Pl) (v : ByteArray) (h : Bool) : setF p kStrip v h = ({ p with t := true }, !h) := by unfold setF; rw [if_neg (by decide), if_neg (by decide), if_pos rfl]
theorem set_size (p : Pl) (v : ByteArray) (h : Bool) : setF p kSize v h = ({ p with c4 := (numF v).1 }, (numF v).2 && h) := by unfold setF; rw [if_neg (by decide), if_neg (by decide), if_neg (by decide), if_pos rfl]
theorem set_from (p : Pl) (v : ByteArray) (h : Bool) : setF p kFrom v h = ({ p with c1 := codecF v }, codecF v != 0 && h) := by unfold setF; rw [if_neg (by decide), if_neg (by decide), if_neg (by decide), if_neg (by decide), if_pos rfl]
theorem set_to (p : Pl) (v : ByteArray) (h : Bool) : setF p kTo v h = ({ p with c2 := codecF v }, codecF v != 0 && h) := by unfold setF; rw [if_neg (by decide), if_neg (by decide), if_neg (by decide), if_neg (by decide), if_neg (by decide), if_pos rfl]
theorem set_form (p : Pl) (v : ByteArray) (h : Bool) : setF p kForm v h = ({ p with c3 := codecF v }, codecF v != 0 && h) := by unfold setF; rw [if_neg (by decide), if_neg (by decide), if_neg (by decide), if_neg (by decide), if_neg (by decide), if_neg (by decide)]

theorem inv_set {p : Pl} {m : Nat} (hi : Inv p m) {k v : ByteArray} {h : Bool} (hk : k ∈ mayF p.c0) (ho : (setF p k v h).2 = true) : Inv (setF p k v h).1 (m + 1) ∧ (setF p k v h).1.c0 = p.c0 := by
  have hc := hi.c
  unfold cnt at hc
  rcases mayF_mem hk with rfl | rfl | rfl | rfl | rfl | rfl | rfl
  · rw [set_framed] at ho ⊢
    exact ⟨{ hi with mf := fun _ => hk, c := by have := b1_le true; unfold cnt; simp only []; omega }, rfl⟩
  · rw [set_sign] at ho ⊢
    exact ⟨{ hi with ms := fun _ => hk, c := by have := b1_le true; unfold cnt; simp only []; omega }, rfl⟩
  · rw [set_strip] at ho ⊢
    exact ⟨{ hi with mt := fun _ => hk, c := by have := b1_le true; unfold cnt; simp only []; omega }, rfl⟩
  · rw [set_size] at ho ⊢
    simp only [Bool.and_eq_true] at ho
    exact ⟨{ hi with m4 := fun _ => hk, r4 := num_range ho.1, c := by have := b1_le ((numF v).1 != 0); unfold cnt; simp only []; omega }, rfl⟩
  · rw [set_from] at ho ⊢
    exact ⟨{ hi with m1 := fun _ => hk, r1 := codec_range v, c := by have := b1_le (codecF v != 0); unfold cnt; simp only []; omega }, rfl⟩
  · rw [set_to] at ho ⊢
    exact ⟨{ hi with m2 := fun _ => hk, r2 := codec_range v, c := by have := b1_le (codecF v != 0); unfold cnt; simp only []; omega }, rfl⟩
  · rw [set_form] at ho ⊢
    exact ⟨{ hi with m3 := fun _ => hk, r3 := codec_range v, c := by have := b1_le (codecF v != 0); unfold cnt; simp only []; omega }, rfl⟩
theorem inv_zero (c : Int) : Inv { Pl.zero with c0 := c } 0 := by
  constructor <;> simp [Pl.zero, cnt, b1]

theorem go_inv {n : Int} : ∀ (r : List ByteArray) (i : Int) (p : Pl) (seen : List ByteArray) (m : Nat) (q : Pl) (z : Int), Inv p m → parseGo n r i p seen = (q, z, true) →
    ∃ p', q = p'.withForm.withSize ∧ z = 0 ∧ wholeF p' = true ∧ Inv p' (m + r.length) ∧ p'.c0 = p.c0
  | [], i, p, seen, m, q, z, hi, h => by
    simp only [parseGo] at h
    unfold finishF at h
    split at h
    · cases h
    next hw =>
      injection h with h1 h2
      injection h2 with h3 h4
      exact ⟨p, h1.symm, h3.symm, by simpa using hw, hi, rfl⟩
  | a :: r, i, p, seen, m, q, z, hi, h => by
    simp only [parseGo] at h
    split at h
    · cases h
    split at h
    · cases h
    split at h
    · cases h
    split at h
    · cases h
    next h1 h2 h3 h4 =>
      have hk : (cutF a).1 ∈ mayF p.c0 := (inF_iff _ _).1 (by simpa using h2)
      obtain ⟨hi2, hc2⟩ := inv_set hi hk (by simpa using h4)
      obtain ⟨p', e1, e2, e3, e4, e5⟩ := go_inv r _ _ _ (m + 1) q z hi2 h
      exact ⟨p', e1, e2, e3, by rw [List.length_cons, show m + (r.length + 1) = m + 1 + r.length by omega]; exact e4, e5.trans hc2⟩
end Go.Proofs.YtlddfdkmpnllmaaDoor
