/- What arguments ask for has words that ask for the same. -/
import Derived.Test.YtlddfdkmpnllmaaDoorBq
namespace Go.Proofs.YtlddfdkmpnllmaaDoor
open Go.RowKit Go.Proofs.YtlddfdkmpnllmaaDoorW.PrintWords Go.Proofs.YtlddfdkmpnllmaaDoorW.PrintLast Go.Proofs.YtlddfdkmpnllmaaDoorW.PrintMore
set_option linter.unusedVariables false
set_option linter.unusedSimpArgs false

def cntw (q : Pl) : Nat := b1 (q.c1 != 0) + b1 (q.c2 != 0) + b1 (decide (1 < q.c3) || decide (q.c3 < 0)) + b1 (q.c4 != 0 && q.c4 != 4096) + b1 q.f + b1 q.s + b1 q.t
/-- A plan that some arguments ask for. -/
structure Good (q : Pl) : Prop where
  k0 : 1 ≤ q.c0 ∧ q.c0 ≤ 6
  r1 : 0 ≤ q.c1 ∧ q.c1 ≤ 10
  r2 : 0 ≤ q.c2 ∧ q.c2 ≤ 10
  r3 : 0 ≤ q.c3 ∧ q.c3 ≤ 10
  r4 : 0 ≤ q.c4 ∧ q.c4 ≤ 65536
  m1 : q.c1 ≠ 0 → kFrom ∈ mayF q.c0
  m2 : q.c2 ≠ 0 → kTo ∈ mayF q.c0
  m3 : q.c3 ≠ 0 ↔ kForm ∈ mayF q.c0
  m4 : q.c4 ≠ 0 ↔ q.c0 = 1 ∧ q.f = true
  mf : q.f = true → kFramed ∈ mayF q.c0
  ms : q.s = true → kSign ∈ mayF q.c0
  mt : q.t = true → kStrip ∈ mayF q.c0
  wh : wholeF q = true

theorem size_may {c : Int} (h : kSize ∈ mayF c) : c = 1 := by
  by_cases h1 : c = 1
  · exact h1
  · by_cases h2 : c = 2
    · subst h2; exact absurd ((inF_iff _ _).2 h) (by decide)
    · by_cases h3 : c = 3
      · subst h3; exact absurd ((inF_iff _ _).2 h) (by decide)
      · by_cases h6 : c = 6
        · subst h6; exact absurd ((inF_iff _ _).2 h) (by decide)
        · unfold mayF at h
          rw [if_neg h1, if_neg h2, if_neg h3, if_neg h6] at h
          exact absurd h (by simp)
theorem size_may1 : kSize ∈ mayF 1 := (inF_iff _ _).1 (by decide)

def strip3 (q : Pl) : Int := if (decide (1 < q.c3) || decide (q.c3 < 0)) = true then q.c3 else 0
def strip4 (q : Pl) : Int := if (q.c4 != 0 && q.c4 != 4096) = true then q.c4 else 0

theorem finish_good {q : Pl} (g : Good q) (n : Int) : finishF ⟨q.c0, q.c1, q.c2, strip3 q, strip4 q, q.f, q.s, q.t⟩ n = (q, 0, true) := by
  have hw : wholeF ⟨q.c0, q.c1, q.c2, strip3 q, strip4 q, q.f, q.s, q.t⟩ = true := by
    have h := g.wh
    unfold wholeF at h ⊢
    simp only [] at h ⊢
    split
    next h0 =>
      rw [if_pos h0] at h
      simp only [Bool.and_eq_true, Bool.or_eq_true] at h ⊢
      refine ⟨h.1, ?_⟩
      rcases h.2 with h2 | h2
      · exact .inl h2
      · right
        have : q.c4 = 0 := by simpa using h2
        unfold strip4
        simp [this]
    next h0 => rw [if_neg h0] at h; exact h
  have hform : Pl.withForm ⟨q.c0, q.c1, q.c2, strip3 q, strip4 q, q.f, q.s, q.t⟩ = ⟨q.c0, q.c1, q.c2, q.c3, strip4 q, q.f, q.s, q.t⟩ := by
    have hr := g.r3
    by_cases h : 1 < q.c3
    · have e : strip3 q = q.c3 := by unfold strip3; rw [if_pos (by simp [h])]
      rw [e, form_no1 (by show ¬ q.c3 = 0; omega)]
    · have e : strip3 q = 0 := by unfold strip3; rw [if_neg (by simp; omega)]
      rw [e]
      by_cases h0 : q.c3 = 0
      · have hk : ¬ kForm ∈ mayF q.c0 := fun hk => g.m3.2 hk h0
        rw [form_no2 (p := ⟨q.c0, q.c1, q.c2, 0, strip4 q, q.f, q.s, q.t⟩) (by show inF kForm (mayF q.c0) = false; rcases hx : inF kForm (mayF q.c0) with _ | _; rfl; exact absurd ((inF_iff _ _).1 hx) hk), h0]
      · rw [form_yes (p := ⟨q.c0, q.c1, q.c2, 0, strip4 q, q.f, q.s, q.t⟩) rfl ((inF_iff _ _).2 (g.m3.1 h0))]
        have : q.c3 = 1 := by omega
        rw [this]
  have hsize : Pl.withSize ⟨q.c0, q.c1, q.c2, q.c3, strip4 q, q.f, q.s, q.t⟩ = q := by
    by_cases h : (q.c4 != 0 && q.c4 != 4096) = true
    · have e : strip4 q = q.c4 := by unfold strip4; rw [if_pos h]
      rw [e, size_no1 (by show ¬ q.c4 = 0; simp at h; exact h.1)]
    · have e : strip4 q = 0 := by unfold strip4; rw [if_neg h]
      rw [e]
      by_cases h0 : q.c4 = 0
      · have hk : ¬ (q.c0 = 1 ∧ q.f = true) := fun hk => g.m4.2 hk h0
        have e2 : Pl.withSize ⟨q.c0, q.c1, q.c2, q.c3, 0, q.f, q.s, q.t⟩ = ⟨q.c0, q.c1, q.c2, q.c3, 0, q.f, q.s, q.t⟩ := by
          unfold Pl.withSize; rw [if_neg (fun e => hk e.2)]
        rw [e2]; show _ = (⟨q.c0, q.c1, q.c2, q.c3, q.c4, q.f, q.s, q.t⟩ : Pl); rw [h0]
      · have h4 := g.m4.1 h0
        have : q.c4 = 4096 := by simp at h; exact h h0
        rw [size_yes (p := ⟨q.c0, q.c1, q.c2, q.c3, 0, q.f, q.s, q.t⟩) rfl h4.1 h4.2]; show _ = (⟨q.c0, q.c1, q.c2, q.c3, q.c4, q.f, q.s, q.t⟩ : Pl); rw [this]
  exact finish_ok hw hform hsize
theorem cmd_word {c : Int} (h0 : 1 ≤ c) (h1 : c ≤ 6) : (cmds.getD c.toNat ByteArray.empty).size ≠ 0 ∧ inF (cmds.getD c.toNat ByteArray.empty) cmds = true ∧ idxF (cmds.getD c.toNat ByteArray.empty) cmds 0 = c := by
  have h : c = 1 ∨ c = 2 ∨ c = 3 ∨ c = 4 ∨ c = 5 ∨ c = 6 := by omega
  rcases h with rfl | rfl | rfl | rfl | rfl | rfl <;> decide
theorem words_len (q : Pl) : (wordsL q).length = 1 + cntw q := by
  rw [words_ow]
  simp only [List.length_cons, List.length_append, ow_len, List.length_nil, cntw]
  omega
theorem cntw_le (q : Pl) : cntw q ≤ 7 := by
  unfold cntw
  have := b1_le (q.c1 != 0); have := b1_le (q.c2 != 0); have := b1_le (decide (1 < q.c3) || decide (q.c3 < 0)); have := b1_le (q.c4 != 0 && q.c4 != 4096); have := b1_le q.f; have := b1_le q.s; have := b1_le q.t
  omega

theorem read_good {q : Pl} (g : Good q) : parseF (wordsL q) = (q, 0, true) := by
  obtain ⟨k1, k2, k3⟩ := cmd_word g.k0.1 g.k0.2
  rw [words_ow]
  generalize hX : (ow (q.c1 != 0) (eFrom ++ nameF q.c1) ++ (ow (q.c2 != 0) (eTo ++ nameF q.c2) ++ (ow (decide (1 < q.c3) || decide (q.c3 < 0)) (eForm ++ nameF q.c3) ++
    (ow (q.c4 != 0 && q.c4 != 4096) (eSize ++ itoaF q.c4) ++ (ow q.f kFramed ++ (ow q.s kSign ++ (ow q.t kStrip ++ []))))))) = X
  show (if (cmds.getD q.c0.toNat ByteArray.empty).size = 0 then (Pl.zero, 0, false) else if inF (cmds.getD q.c0.toNat ByteArray.empty) cmds = false then (Pl.zero, 0, false) else parseGo (X.length + 1) X 1 { Pl.zero with c0 := idxF (cmds.getD q.c0.toNat ByteArray.empty) cmds 0 } []) = (q, 0, true)
  rw [if_neg k1, if_neg (by rw [k2]; decide), k3]
  generalize ((X.length : Int) + 1) = n
  subst hX
  have r1 := g.r1; have r2 := g.r2; have r3 := g.r3; have r4 := g.r4
  obtain ⟨i1, s1, hi1, hs1, e1⟩ := go_opt (n := n) (b := q.c1 != 0) (w := eFrom ++ nameF q.c1) (k := kFrom) (v := nameF q.c1) (hs := true) (i := 1) (p := { Pl.zero with c0 := q.c0 }) (p' := ⟨q.c0, q.c1, 0, 0, 0, false, false, false⟩) (seen := [])
    (rest := (ow (q.c2 != 0) (eTo ++ nameF q.c2) ++ (ow (decide (1 < q.c3) || decide (q.c3 < 0)) (eForm ++ nameF q.c3) ++ (ow (q.c4 != 0 && q.c4 != 4096) (eSize ++ itoaF q.c4) ++ (ow q.f kFramed ++ (ow q.s kSign ++ (ow q.t kStrip ++ [])))))))
    (fun h => cut_from (by simp at h; omega) (by omega)) (fun h => g.m1 (by simpa using h)) (by simp)
    (fun h => by
      have hc : codecF (nameF q.c1) = q.c1 := codec_name (by simp at h; omega) (by omega)
      rw [set_from, hc, h]
      rfl) (fun h => by
      have h9 : q.c1 = 0 := by simpa using h
      rw [h9]
      rfl) (by omega)
  rw [e1]
  obtain ⟨i2, s2, hi2, hs2, e2⟩ := go_opt (n := n) (b := q.c2 != 0) (w := eTo ++ nameF q.c2) (k := kTo) (v := nameF q.c2) (hs := true) (i := i1) (p := ⟨q.c0, q.c1, 0, 0, 0, false, false, false⟩) (p' := ⟨q.c0, q.c1, q.c2, 0, 0, false, false, false⟩) (seen := s1)
    (rest := (ow (decide (1 < q.c3) || decide (q.c3 < 0)) (eForm ++ nameF q.c3) ++ (ow (q.c4 != 0 && q.c4 != 4096) (eSize ++ itoaF q.c4) ++ (ow q.f kFramed ++ (ow q.s kSign ++ (ow q.t kStrip ++ []))))))
    (fun h => cut_to (by simp at h; omega) (by omega)) (fun h => g.m2 (by simpa using h)) (fun hx => by rcases hs1 _ hx with h | h; simp at h; exact absurd h (by decide))
    (fun h => by
      have hc : codecF (nameF q.c2) = q.c2 := codec_name (by simp at h; omega) (by omega)
      rw [set_to, hc, h]
      rfl) (fun h => by
      have h9 : q.c2 = 0 := by simpa using h
      rw [h9]) (by omega)
  rw [e2]
  obtain ⟨i3, s3, hi3, hs3, e3⟩ := go_opt (n := n) (b := decide (1 < q.c3) || decide (q.c3 < 0)) (w := eForm ++ nameF q.c3) (k := kForm) (v := nameF q.c3) (hs := true) (i := i2) (p := ⟨q.c0, q.c1, q.c2, 0, 0, false, false, false⟩) (p' := ⟨q.c0, q.c1, q.c2, strip3 q, 0, false, false, false⟩) (seen := s2)
    (rest := (ow (q.c4 != 0 && q.c4 != 4096) (eSize ++ itoaF q.c4) ++ (ow q.f kFramed ++ (ow q.s kSign ++ (ow q.t kStrip ++ [])))))
    (fun h => cut_form (by simp at h; omega) (by omega)) (fun h => g.m3.1 (by simp at h; omega)) (fun hx => by rcases hs2 _ hx with h | h; rcases hs1 _ h with h | h; simp at h; exact absurd h (by decide); exact absurd h (by decide))
    (fun h => by
      have hc : codecF (nameF q.c3) = q.c3 := codec_name (by simp at h; omega) (by omega)
      have hz : (q.c3 != 0) = true := by simp at h ⊢; omega
      rw [set_form, hc, hz]; unfold strip3; rw [if_pos h]; rfl) (fun h => by unfold strip3; rw [h]; rfl) (by omega)
  rw [e3]
  obtain ⟨i4, s4, hi4, hs4, e4⟩ := go_opt (n := n) (b := q.c4 != 0 && q.c4 != 4096) (w := eSize ++ itoaF q.c4) (k := kSize) (v := itoaF q.c4) (hs := true) (i := i3) (p := ⟨q.c0, q.c1, q.c2, strip3 q, 0, false, false, false⟩) (p' := ⟨q.c0, q.c1, q.c2, strip3 q, strip4 q, false, false, false⟩) (seen := s3)
    (rest := (ow q.f kFramed ++ (ow q.s kSign ++ (ow q.t kStrip ++ []))))
    (fun h => cut_size _) (fun h => by have h4 := (g.m4.1 (by simp at h; exact h.1)).1; show kSize ∈ mayF q.c0; rw [h4]; exact size_may1) (fun hx => by rcases hs3 _ hx with h | h; rcases hs2 _ h with h | h; rcases hs1 _ h with h | h; simp at h; exact absurd h (by decide); exact absurd h (by decide); exact absurd h (by decide))
    (fun h => by
      have hc : numF (itoaF q.c4) = (q.c4, true) := num_itoa (by simp at h; omega) (by omega)
      rw [set_size, hc]; unfold strip4; rw [if_pos h]; rfl) (fun h => by unfold strip4; rw [h]; rfl) (by omega)
  rw [e4]
  obtain ⟨i5, s5, hi5, hs5, e5⟩ := go_opt (n := n) (b := q.f) (w := kFramed) (k := kFramed) (v := ⟨#[]⟩) (hs := false) (i := i4) (p := ⟨q.c0, q.c1, q.c2, strip3 q, strip4 q, false, false, false⟩) (p' := ⟨q.c0, q.c1, q.c2, strip3 q, strip4 q, q.f, false, false⟩) (seen := s4)
    (rest := (ow q.s kSign ++ (ow q.t kStrip ++ [])))
    (fun h => cut_framed) (fun h => g.mf h) (fun hx => by rcases hs4 _ hx with h | h; rcases hs3 _ h with h | h; rcases hs2 _ h with h | h; rcases hs1 _ h with h | h; simp at h; exact absurd h (by decide); exact absurd h (by decide); exact absurd h (by decide); exact absurd h (by decide))
    (fun h => by rw [set_framed, h]; rfl) (fun h => by rw [h]) (by omega)
  rw [e5]
  obtain ⟨i6, s6, hi6, hs6, e6⟩ := go_opt (n := n) (b := q.s) (w := kSign) (k := kSign) (v := ⟨#[]⟩) (hs := false) (i := i5) (p := ⟨q.c0, q.c1, q.c2, strip3 q, strip4 q, q.f, false, false⟩) (p' := ⟨q.c0, q.c1, q.c2, strip3 q, strip4 q, q.f, q.s, false⟩) (seen := s5)
    (rest := (ow q.t kStrip ++ []))
    (fun h => cut_sign) (fun h => g.ms h) (fun hx => by rcases hs5 _ hx with h | h; rcases hs4 _ h with h | h; rcases hs3 _ h with h | h; rcases hs2 _ h with h | h; rcases hs1 _ h with h | h; simp at h; exact absurd h (by decide); exact absurd h (by decide); exact absurd h (by decide); exact absurd h (by decide); exact absurd h (by decide))
    (fun h => by rw [set_sign, h]; rfl) (fun h => by rw [h]) (by omega)
  rw [e6]
  obtain ⟨i7, s7, hi7, hs7, e7⟩ := go_opt (n := n) (b := q.t) (w := kStrip) (k := kStrip) (v := ⟨#[]⟩) (hs := false) (i := i6) (p := ⟨q.c0, q.c1, q.c2, strip3 q, strip4 q, q.f, q.s, false⟩) (p' := ⟨q.c0, q.c1, q.c2, strip3 q, strip4 q, q.f, q.s, q.t⟩) (seen := s6)
    (rest := [])
    (fun h => cut_strip) (fun h => g.mt h) (fun hx => by rcases hs6 _ hx with h | h; rcases hs5 _ h with h | h; rcases hs4 _ h with h | h; rcases hs3 _ h with h | h; rcases hs2 _ h with h | h; rcases hs1 _ h with h | h; simp at h; exact absurd h (by decide); exact absurd h (by decide); exact absurd h (by decide); exact absurd h (by decide); exact absurd h (by decide); exact absurd h (by decide))
    (fun h => by rw [set_strip, h]; rfl) (fun h => by rw [h]) (by omega)
  rw [e7]
  simp only [parseGo]
  exact finish_good g n
end Go.Proofs.YtlddfdkmpnllmaaDoor
