/- Joined texts: Hd. -/
import Derived.Test.YtppchdinolndmaaGreatME8
import Derived.Test.YtppchdinolndmaaGreatMVw
/- There and back, in plain Lean: SCSU, both profiles. -/
namespace Go.Proofs.YtppchdinolndmaaGreat
set_option linter.unusedVariables false
set_option linter.unusedSimpArgs false
theorem OKC.ini : OKC ⟨offsE, usedE, false, 0, false, NOC⟩ := ⟨rfl, by decide, rfl, fun n h0 h1 => by
 have : n = 0 ∨ n = 1 ∨ n = 2 ∨ n = 3 ∨ n = 4 ∨ n = 5 ∨ n = 6 ∨ n = 7 := by omega
 rcases this with rfl | rfl | rfl | rfl | rfl | rfl | rfl | rfl <;> decide, by decide, by decide⟩
def RunX (s : SX) (bs : List Int) (s' : SX) (told : List Int) : Prop := ∀ rest p acc, ∃ q, runD DX s (bs ++ rest) p acc = runD DX s' rest q (acc ++ told)
theorem RunX.nil (s : SX) : RunX s [] s [] := fun rest p acc => ⟨p, by rw [List.append_nil]; rfl⟩
theorem RunX.append {s s1 s' : SX} {a b k t : List Int} (h : RunX s a s1 k) (h2 : RunX s1 b s' t) : RunX s (a ++ b) s' (k ++ t) := fun rest p acc => by
 obtain ⟨q, hq⟩ := h (b ++ rest) p acc
 obtain ⟨q2, hq2⟩ := h2 rest q (acc ++ k)
 exact ⟨q2, by rw [List.append_assoc, hq, hq2, List.append_assoc]⟩
structure MX (st : SC) (s : SX) : Prop where
 offs : s.offs = st.offs
 uni : s.uni = st.uni
 act : s.active = st.active
 beg : s.begun = 0
 up : s.upper = 0
theorem stat_lt (c : Int) : ∀ k n, k ≤ 7 → statN c k = some n → 1 ≤ n ∧ n < 8 ∧ holdsF (statics.getD n 0) c = true
 | 0, _, _, h => by cases h
 | k + 1, n, hk, h => by
  unfold statN at h
  split at h
  ·injection h with h; rename_i hh; rw [← h]; exact ⟨by omega, by omega, hh⟩
  ·exact stat_lt c k n (by omega) h
theorem spec_lt (c : Int) : ∀ k n, specN c k = some n → n < 7 ∧ holdsF (specials.getD n 0) c = true
 | 0, _, h => by cases h
 | k + 1, n, h => by
  unfold specN at h
  split at h
  ·injection h with h; rename_i hh; rw [← h]; exact ⟨by omega, hh⟩
  ·exact spec_lt c k n h
theorem own_win {c x : Int} (h0 : 0 ≤ c) (h : ownF c = some x) : x ≤ c ∧ c - x < 128 ∧ (65536 ≤ c → x = c - c % 128) ∧ (c < 65536 → ∃ ix, indexF c = some ix ∧ offsetF ix = some x ∧ 0 ≤ ix ∧ ix ≤ 255) := by
 unfold ownF at h
 by_cases a : 65536 ≤ c
 ·rw [if_pos a] at h
  injection h with h
  exact ⟨by omega, by omega, fun _ => h.symm, fun h => by omega⟩
 ·rw [if_neg a] at h
  cases hi : indexF c with
  | none => rw [hi] at h; cases h
  | some ix =>
   rw [hi] at h
   have ho : offsetF ix = some x := h
   have hi' := hi
   unfold indexF at hi
   cases hs : specN c 7 with
   | some i =>
    rw [hs] at hi
    obtain ⟨i7, hh⟩ := spec_lt c 7 i hs
    injection hi with hi
    have hle := holdsF_le hh
    have hx : x = specials.getD i 0 := by
     unfold offsetF at ho
     rw [if_neg (by omega), if_neg (by omega), if_neg (by omega)] at ho
     injection ho with ho
     rw [← ho, show (ix - 249).toNat = i by omega]
    refine ⟨by omega, by omega, fun h => by omega, fun _ => ⟨ix, rfl, h, by omega, by omega⟩⟩
   | none =>
    rw [hs] at hi
    dsimp only at hi
    by_cases b1 : 128 ≤ c ∧ c < 13312
    ·rw [if_pos b1] at hi
     injection hi with hi
     unfold offsetF at ho
     rw [if_neg (by omega), if_pos (by omega)] at ho
     injection ho with ho
     exact ⟨by omega, by omega, fun h => by omega, fun _ => ⟨ix, rfl, h, by omega, by omega⟩⟩
    ·rw [if_neg b1] at hi
     by_cases b2 : 57344 ≤ c ∧ c < 65536
     ·rw [if_pos b2] at hi
      injection hi with hi
      unfold offsetF at ho
      rw [if_neg (by omega), if_neg (by omega), if_pos (by omega)] at ho
      injection ho with ho
      exact ⟨by omega, by omega, fun h => by omega, fun _ => ⟨ix, rfl, h, by omega, by omega⟩⟩
     ·rw [if_neg b2] at hi; cases hi
end Go.Proofs.YtppchdinolndmaaGreat
