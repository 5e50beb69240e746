/- ArgsBack: the plain law. -/
import Derived.Test.YtlddfdkmpnllmaaDoorBs
import Derived.Test.YtlddfdkmpnllmaaDoorBk
namespace Go.Proofs.YtlddfdkmpnllmaaDoor
open Go.RowKit Go.Proofs.YtlddfdkmpnllmaaDoorW.PrintWords Go.Proofs.YtlddfdkmpnllmaaDoorW.PrintLast Go.Proofs.YtlddfdkmpnllmaaDoorW.PrintMore
set_option linter.unusedVariables false
set_option linter.unusedSimpArgs false

theorem idx_range (s : ByteArray) : ∀ (l : List ByteArray) (i : Int), idxF s l i = -1 ∨ (i ≤ idxF s l i ∧ idxF s l i < i + l.length)
  | [], i => .inl rfl
  | x :: r, i => by
    simp only [idxF]
    split
    · right; simp only [List.length_cons]; omega
    · rcases idx_range s r (i + 1) with h | h
      · exact .inl h
      · right; simp only [List.length_cons]; omega
theorem idx_cmd {a : ByteArray} (h0 : a.size ≠ 0) (h : inF a cmds = true) : 1 ≤ idxF a cmds 0 ∧ idxF a cmds 0 ≤ 6 := by
  unfold inF at h
  have h := of_decide_eq_true h
  have hr := idx_range a cmds 0
  have hl : cmds.length = 7 := rfl
  rw [hl] at hr
  refine ⟨?_, by omega⟩
  unfold cmds at h ⊢
  simp only [idxF] at h ⊢
  rw [if_neg (fun e => h0 (by rw [e]; rfl))] at h ⊢
  generalize hL : ([⟨#[101, 110, 99, 111, 100, 101]⟩] : List ByteArray) = L
  have h1 := idx_range a (cmds.drop 1) 1
  unfold cmds at h1
  simp only [List.drop_succ_cons, List.drop_zero, idxF] at h1
  simp only [Int.reduceAdd] at h h1 ⊢
  omega
theorem finish_zero {p q : Pl} {n z : Int} (h : finishF p n = (q, z, false)) : q = Pl.zero := by
  unfold finishF at h
  split at h
  · injection h with h1 h2; exact h1.symm
  · injection h with h1 h2; injection h2 with h3 h4; cases h4
theorem go_zero {n : Int} : ∀ (r : List ByteArray) (i : Int) (p : Pl) (seen : List ByteArray) (q : Pl) (z : Int), parseGo n r i p seen = (q, z, false) → q = Pl.zero
  | [], i, p, seen, q, z, h => finish_zero h
  | a :: r, i, p, seen, q, z, h => by
    simp only [parseGo] at h
    split at h
    · injection h with h1 h2; exact h1.symm
    split at h
    · injection h with h1 h2; exact h1.symm
    split at h
    · injection h with h1 h2; exact h1.symm
    split at h
    · injection h with h1 h2; exact h1.symm
    exact go_zero r _ _ _ q z h
theorem parse_zero {l : List ByteArray} {q : Pl} {z : Int} (h : parseF l = (q, z, false)) : q = Pl.zero := by
  match l, h with
  | [], h => injection h with h1 h2; exact h1.symm
  | a :: r, h =>
    simp only [parseF] at h
    split at h
    · injection h with h1 h2; exact h1.symm
    split at h
    · injection h with h1 h2; exact h1.symm
    exact go_zero r _ _ _ q z h
/-- What a plan is when arguments ask for it. -/
theorem parse_good {l : List ByteArray} {q : Pl} {z : Int} (h : parseF l = (q, z, true)) : z = 0 ∧ Good q ∧ cntw q + 1 ≤ l.length := by
  match l, h with
  | [], h => injection h with h1 h2; injection h2 with h3 h4; cases h4
  | a :: r, h =>
    simp only [parseF] at h
    split at h
    · injection h with h1 h2; injection h2 with h3 h4; cases h4
    split at h
    · injection h with h1 h2; injection h2 with h3 h4; cases h4
    next ha hb =>
      obtain ⟨k1, k6⟩ := idx_cmd ha (by simpa using hb)
      obtain ⟨p, e1, e2, hw, hi, hc⟩ := go_inv r _ _ _ 0 q z (inv_zero _) h
      have hc0 : p.c0 = idxF a cmds 0 := hc
      refine ⟨e2, ?_⟩
      rw [← hc0] at k1 k6
      obtain ⟨c0, c1, c2, c3, c4, f, s, t⟩ := p
      obtain ⟨r1, r2, r3, r4, m1, m2, m3, m4, mf, ms, mt, cc⟩ := hi
      simp only [] at k1 k6 r1 r2 r3 r4 m1 m2 m3 m4 mf ms mt
      have hq3 : Pl.withForm ⟨c0, c1, c2, c3, c4, f, s, t⟩ = ⟨c0, c1, c2, if c3 = 0 ∧ inF kForm (mayF c0) = true then 1 else c3, c4, f, s, t⟩ := by
        unfold Pl.withForm
        simp only []
        split <;> rfl
      have hq4 : ∀ d3, Pl.withSize ⟨c0, c1, c2, d3, c4, f, s, t⟩ = ⟨c0, c1, c2, d3, if c4 = 0 ∧ c0 = 1 ∧ f = true then 4096 else c4, f, s, t⟩ := by
        intro d3
        unfold Pl.withSize
        simp only []
        split <;> rfl
      rw [hq3, hq4] at e1
      subst e1
      have hwh := hw
      unfold wholeF at hwh
      simp only [] at hwh
      have h1f : c4 ≠ 0 → c0 = 1 ∧ f = true := fun hne => by
        have h1 := size_may (m4 hne)
        refine ⟨h1, ?_⟩
        rw [if_pos h1] at hwh
        simp only [Bool.and_eq_true, Bool.or_eq_true] at hwh
        rcases hwh.2 with h2 | h2
        · exact h2
        · exact absurd (by simpa using h2) hne
      constructor
      · refine ⟨⟨k1, k6⟩, r1, r2, ?_, ?_, m1, m2, ?_, ?_, mf, ms, mt, ?_⟩
        · simp only []; split <;> omega
        · simp only []; split <;> omega
        · simp only []
          split
          next hh => exact ⟨fun _ => (inF_iff _ _).1 hh.2, fun _ => by decide⟩
          next hh => exact ⟨m3, fun hk h0 => hh ⟨h0, (inF_iff _ _).2 hk⟩⟩
        · simp only []
          split
          next hh => exact ⟨fun _ => hh.2, fun _ => by decide⟩
          next hh => exact ⟨h1f, fun hk h0 => hh ⟨h0, hk⟩⟩
        · unfold wholeF
          simp only []
          by_cases h1 : c0 = 1
          · rw [if_pos h1] at hwh ⊢
            simp only [Bool.and_eq_true, Bool.or_eq_true] at hwh ⊢
            refine ⟨hwh.1, ?_⟩
            by_cases hf : f = true
            · exact .inl hf
            · right
              rw [if_neg (fun e => hf e.2.2)]
              rcases hwh.2 with h2 | h2
              · exact absurd h2 hf
              · exact h2
          · rw [if_neg h1] at hwh ⊢
            exact hwh
      · unfold cnt at cc
        unfold cntw
        simp only [List.length_cons] at cc ⊢
        have x3 : b1 (decide (1 < (if c3 = 0 ∧ inF kForm (mayF c0) = true then 1 else c3)) || decide ((if c3 = 0 ∧ inF kForm (mayF c0) = true then 1 else c3) < 0)) ≤ b1 (c3 != 0) := by
          split
          · exact Nat.zero_le _
          · by_cases h3 : c3 = 0
            · subst h3; decide
            · have : (c3 != 0) = true := by simpa using h3
              rw [this]; exact b1_le _
        have x4 : b1 ((if c4 = 0 ∧ c0 = 1 ∧ f = true then (4096 : Int) else c4) != 0 && (if c4 = 0 ∧ c0 = 1 ∧ f = true then (4096 : Int) else c4) != 4096) ≤ b1 (c4 != 0) := by
          split
          · exact Nat.zero_le _
          · cases (c4 != 0)
            · exact Nat.le_refl _
            · exact b1_le _
        omega

theorem words_good_F {q : Pl} (g : Good q) : wordsF q = (wordsL q, true) := by
  have k := g.k0
  unfold wordsF
  rw [if_neg (by omega), if_neg (by omega), read_good g]
  simp only [same_self]
  rfl
theorem name_size {c : Int} (h0 : 0 ≤ c) (h1 : c ≤ 10) : (nameF c).size ≤ 100 := by
  have h : c = 0 ∨ c = 1 ∨ c = 2 ∨ c = 3 ∨ c = 4 ∨ c = 5 ∨ c = 6 ∨ c = 7 ∨ c = 8 ∨ c = 9 ∨ c = 10 := by omega
  rcases h with rfl | rfl | rfl | rfl | rfl | rfl | rfl | rfl | rfl | rfl | rfl <;> decide
theorem itoa_size {n : Int} (h0 : 0 ≤ n) (h1 : n ≤ 65536) : (itoaF n).size ≤ 100 := by
  have h := Lib.itoa_length_le n (by omega) (by omega)
  show (Lib.itoa n).length ≤ 100
  omega
theorem words_size {q : Pl} (g : Good q) : ∀ s ∈ wordsL q, s.size ≤ 140737488351232 := by
  have hz : ∀ (b : Bool) (w : ByteArray), w.size ≤ 140737488351232 → ∀ s ∈ ow b w, s.size ≤ 140737488351232 := by
    intro b w hw s hs
    unfold ow at hs
    split at hs
    · simp only [List.mem_cons, List.not_mem_nil, or_false] at hs; rw [hs]; exact hw
    · simp at hs
  have n1 := name_size g.r1.1 g.r1.2
  have n2 := name_size g.r2.1 g.r2.2
  have n3 := name_size g.r3.1 g.r3.2
  have n4 := itoa_size g.r4.1 g.r4.2
  intro s hs
  rw [words_ow] at hs
  rcases List.mem_cons.1 hs with h | h
  · rw [h]
    have k := g.k0
    have hc : q.c0 = 1 ∨ q.c0 = 2 ∨ q.c0 = 3 ∨ q.c0 = 4 ∨ q.c0 = 5 ∨ q.c0 = 6 := by omega
    rcases hc with e | e | e | e | e | e <;> rw [e] <;> decide
  rcases List.mem_append.1 h with h | h
  · exact hz _ _ (by rw [ByteArray.size_append]; have : eFrom.size = 7 := rfl; omega) s h
  rcases List.mem_append.1 h with h | h
  · exact hz _ _ (by rw [ByteArray.size_append]; have : eTo.size = 5 := rfl; omega) s h
  rcases List.mem_append.1 h with h | h
  · exact hz _ _ (by rw [ByteArray.size_append]; have : eForm.size = 7 := rfl; omega) s h
  rcases List.mem_append.1 h with h | h
  · exact hz _ _ (by rw [ByteArray.size_append]; have : eSize.size = 7 := rfl; omega) s h
  rcases List.mem_append.1 h with h | h
  · exact hz _ _ (by decide) s h
  rcases List.mem_append.1 h with h | h
  · exact hz _ _ (by decide) s h
  rcases List.mem_append.1 h with h | h
  · exact hz _ _ (by decide) s h
  · simp at h
theorem back_pure (l : List ByteArray) : greatF l = true ∨ BackNo l ∨ ∃ p n ws, BackYes l p n ws := by
  right
  rcases h : parseF l with ⟨q, z, ok⟩
  cases ok with
  | false => left; exact ⟨z, by rw [h, parse_zero h]⟩
  | true =>
    right
    obtain ⟨e, g, hl⟩ := parse_good h
    have r4 := g.r4
    exact ⟨q, z, wordsL q, h, words_good_F g, read_good g, by rw [words_len]; omega, by omega, by omega, words_size g⟩
theorem back_c (l : List ByteArray) (v : Value) (w : World) (hT : Tab w) (hs : SL w v l) :
    Calls Tryd.prog 5 #[v] w fun e w' => e = .returned (.bool true) ∧ Below w.heap.size w w' :=
  back_walk l (back_pure l) v w hT hs
end Go.Proofs.YtlddfdkmpnllmaaDoor
