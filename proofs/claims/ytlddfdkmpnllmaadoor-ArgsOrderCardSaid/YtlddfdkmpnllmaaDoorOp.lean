/- The order of options plays no part: plain law of ArgsOrder. -/
import Derived.Test.YtlddfdkmpnllmaaDoorTp
namespace Go.Proofs.YtlddfdkmpnllmaaDoor
open Go.RowKit Go.Proofs.YtlddfdkmpnllmaaDoorW.PrintWords Go.Proofs.YtlddfdkmpnllmaaDoorW.PrintLast Go.Proofs.YtlddfdkmpnllmaaDoorW.PrintMore
set_option linter.unusedVariables false
set_option linter.unusedSimpArgs false

def upd (p : Pl) (s : ByteArray) : Pl := (setF p (cutF s).1 (cutF s).2.1 (cutF s).2.2).1
def valid (s : ByteArray) : Bool := (setF Pl.zero (cutF s).1 (cutF s).2.1 (cutF s).2.2).2
theorem set_ok (p q : Pl) (k v : ByteArray) (h : Bool) : (setF p k v h).2 = (setF q k v h).2 := by
  unfold setF
  split; rfl
  split; rfl
  split; rfl
  split; rfl
  split; rfl
  split <;> rfl
theorem upd_c0 (p : Pl) (s : ByteArray) : (upd p s).c0 = p.c0 := by
  unfold upd setF
  split; rfl
  split; rfl
  split; rfl
  split; rfl
  split; rfl
  split <;> rfl
/-- Is every option right, and none there twice? -/
def allOk (c : Int) : List ByteArray → List ByteArray → Bool
  | [], seen => true
  | s :: r, seen => inF (keyF s) (mayF c) && !inF (keyF s) seen && valid s && allOk c r (seen ++ [keyF s])
theorem go_all {n : Int} : ∀ (r : List ByteArray) (i : Int) (p : Pl) (seen : List ByteArray), i + r.length ≤ 64 → allOk p.c0 r seen = true → parseGo n r i p seen = finishF (r.foldl upd p) n
  | [], i, p, seen, hi, h => rfl
  | a :: r, i, p, seen, hi, h => by
    simp only [allOk, Bool.and_eq_true, Bool.not_eq_true'] at h
    obtain ⟨⟨⟨h1, h2⟩, h3⟩, h4⟩ := h
    simp only [List.length_cons] at hi
    rw [go_on (nm := keyF a) rfl rfl rfl (by omega) h1 h2 (by rw [set_ok p Pl.zero]; exact h3)]
    exact go_all r _ _ _ (by omega) (by show allOk (upd p a).c0 r _ = true; rw [upd_c0]; exact h4)
theorem go_bad_any {n : Int} : ∀ (r : List ByteArray) (i : Int) (p : Pl) (seen : List ByteArray), i + r.length ≤ 64 → allOk p.c0 r seen = false → ∃ j, i ≤ j ∧ j < i + r.length ∧ parseGo n r i p seen = (Pl.zero, j, false)
  | [], i, p, seen, hi, h => by cases h
  | a :: r, i, p, seen, hi, h => by
    simp only [List.length_cons] at hi
    simp only [allOk] at h
    rcases h1 : inF (keyF a) (mayF p.c0) with _ | _
    · exact ⟨i, Int.le_refl _, by rw [List.length_cons]; omega, go_no (nm := keyF a) rfl (by omega) h1⟩
    · rcases h2 : inF (keyF a) seen with _ | _
      · rcases h3 : valid a with _ | _
        · exact ⟨i, Int.le_refl _, by rw [List.length_cons]; omega, go_bad (nm := keyF a) rfl rfl rfl (by omega) h1 h2 (by rw [set_ok p Pl.zero]; exact h3)⟩
        · rw [h1, h2, h3] at h
          simp only [Bool.not_false, Bool.and_true, Bool.true_and] at h
          obtain ⟨j, e1, e2, e3⟩ := go_bad_any r (i + 1) (upd p a) (seen ++ [keyF a]) (by omega) (by rw [upd_c0]; exact h)
          refine ⟨j, by omega, by rw [List.length_cons]; omega, ?_⟩
          rw [go_on (nm := keyF a) rfl rfl rfl (by omega) h1 h2 (by rw [set_ok p Pl.zero]; exact h3)]
          exact e3
      · exact ⟨i, Int.le_refl _, by rw [List.length_cons]; omega, go_twice (nm := keyF a) rfl (by omega) h1 h2⟩

theorem allOk_iff (c : Int) : ∀ (r seen : List ByteArray), allOk c r seen = true ↔ (∀ s ∈ r, keyF s ∈ mayF c ∧ valid s = true) ∧ (r.map keyF).Nodup ∧ ∀ s ∈ r, keyF s ∉ seen
  | [], seen => by simp [allOk]
  | a :: r, seen => by
    simp only [allOk, Bool.and_eq_true, Bool.not_eq_true', allOk_iff c r, List.map_cons, List.nodup_cons, List.mem_cons, inF_iff, List.mem_append, List.not_mem_nil, or_false]
    have hn : inF (keyF a) seen = false ↔ keyF a ∉ seen := by
      rw [← inF_iff]; cases inF (keyF a) seen <;> simp
    rw [hn]
    constructor
    · rintro ⟨⟨⟨h1, h2⟩, h3⟩, h4, h5, h6⟩
      refine ⟨fun s hs => ?_, ⟨fun hm => ?_, h5⟩, fun s hs => ?_⟩
      · rcases hs with rfl | hs
        · exact ⟨h1, h3⟩
        · exact h4 s hs
      · obtain ⟨s, hs, e⟩ := List.mem_map.1 hm
        exact h6 s hs (.inr e)
      · rcases hs with rfl | hs
        · exact h2
        · exact fun e => h6 s hs (.inl e)
    · rintro ⟨h1, ⟨h2, h3⟩, h4⟩
      refine ⟨⟨⟨(h1 a (.inl rfl)).1, h4 a (.inl rfl)⟩, (h1 a (.inl rfl)).2⟩, fun s hs => h1 s (.inr hs), h3, fun s hs e => ?_⟩
      rcases e with e | e
      · exact h4 s (.inr hs) e
      · exact h2 (e ▸ List.mem_map_of_mem hs)
theorem allOk_turn (c : Int) (A B : List ByteArray) : allOk c (A ++ B) [] = allOk c (B ++ A) [] := by
  rw [Bool.eq_iff_iff, allOk_iff, allOk_iff]
  simp only [List.map_append, List.mem_append, List.not_mem_nil, not_false_eq_true, implies_true, and_true]
  constructor
  · rintro ⟨h1, h2⟩
    exact ⟨fun s hs => h1 s hs.symm, (List.perm_append_comm.nodup_iff).1 h2⟩
  · rintro ⟨h1, h2⟩
    exact ⟨fun s hs => h1 s hs.symm, (List.perm_append_comm.nodup_iff).1 h2⟩
theorem upd_swap {c : Int} {a b : ByteArray} (ha : keyF a ∈ mayF c) (hb : keyF b ∈ mayF c) (hne : keyF a ≠ keyF b) (p : Pl) : upd (upd p a) b = upd (upd p b) a := by
  unfold upd
  unfold keyF at ha hb hne
  rcases mayF_mem ha with e | e | e | e | e | e | e <;> rcases mayF_mem hb with e2 | e2 | e2 | e2 | e2 | e2 | e2 <;> rw [e, e2] at hne ⊢ <;>
    first | exact absurd rfl hne | simp only [set_framed, set_sign, set_strip, set_size, set_from, set_to, set_form]
theorem fold_swap {c : Int} {a : ByteArray} (ha : keyF a ∈ mayF c) : ∀ (B : List ByteArray) (p : Pl), (∀ s ∈ B, keyF s ∈ mayF c ∧ keyF a ≠ keyF s) → B.foldl upd (upd p a) = upd (B.foldl upd p) a
  | [], p, h => rfl
  | b :: B, p, h => by
    simp only [List.foldl_cons]
    rw [upd_swap ha (h b (List.mem_cons_self ..)).1 (h b (List.mem_cons_self ..)).2, fold_swap ha B _ fun s hs => h s (List.mem_cons_of_mem _ hs)]
theorem fold_turn {c : Int} : ∀ (A B : List ByteArray) (p : Pl), (∀ s ∈ A ++ B, keyF s ∈ mayF c) → ((A ++ B).map keyF).Nodup → (A ++ B).foldl upd p = (B ++ A).foldl upd p
  | [], B, p, h, hn => by simp
  | a :: A, B, p, h, hn => by
    have hn2 := hn
    simp only [List.cons_append, List.map_cons, List.nodup_cons] at hn2
    have ih := fold_turn A B (upd p a) (fun s hs => h s (List.mem_cons_of_mem _ hs)) hn2.2
    show (A ++ B).foldl upd (upd p a) = _
    rw [ih, List.foldl_append, List.foldl_append, List.foldl_cons]
    rw [fold_swap (h a (List.mem_cons_self ..)) B p fun s hs => ⟨h s (List.mem_cons_of_mem _ (List.mem_append_right _ hs)), fun e => hn2.1 (by rw [e]; exact List.mem_map_of_mem (List.mem_append_right _ hs))⟩]

/-- Turned options: the same plan or none, and the same kind of place. -/
theorem order_pure (a : ByteArray) (A B : List ByteArray) (hl : (a :: (A ++ B)).length ≤ 60) :
    (parseF (a :: (A ++ B)) = parseF (a :: (B ++ A))) ∨ ∃ n m, parseF (a :: (A ++ B)) = (Pl.zero, n, false) ∧ parseF (a :: (B ++ A)) = (Pl.zero, m, false) ∧ 1 ≤ n ∧ n < (a :: (A ++ B)).length ∧ 1 ≤ m ∧ m < (a :: (A ++ B)).length := by
  have hlen : (B ++ A).length = (A ++ B).length := by rw [List.length_append, List.length_append]; omega
  simp only [List.length_cons] at hl
  simp only [parseF]
  by_cases h1 : a.size = 0
  · left; rw [if_pos h1, if_pos h1]
  rw [if_neg h1, if_neg h1]
  by_cases h2 : inF a cmds = false
  · left; rw [if_pos h2, if_pos h2]
  rw [if_neg h2, if_neg h2, hlen]
  have ht := allOk_turn (idxF a cmds 0) A B
  rcases h3 : allOk (idxF a cmds 0) (A ++ B) [] with _ | _
  · right
    rw [h3] at ht
    obtain ⟨j, e1, e2, e3⟩ := go_bad_any (n := (A ++ B).length + 1) (A ++ B) 1 { Pl.zero with c0 := idxF a cmds 0 } [] (by omega) h3
    obtain ⟨k, f1, f2, f3⟩ := go_bad_any (n := (A ++ B).length + 1) (B ++ A) 1 { Pl.zero with c0 := idxF a cmds 0 } [] (by omega) ht.symm
    rw [hlen] at f2
    exact ⟨j, k, e3, f3, e1, by rw [List.length_cons]; omega, f1, by rw [List.length_cons]; omega⟩
  · left
    rw [h3] at ht
    have hh := (allOk_iff _ _ _).1 h3
    rw [go_all (A ++ B) 1 { Pl.zero with c0 := idxF a cmds 0 } [] (by omega) h3, go_all (B ++ A) 1 { Pl.zero with c0 := idxF a cmds 0 } [] (by omega) ht.symm,
      fold_turn A B _ (fun s hs => (hh.1 s hs).1) hh.2.1]
end Go.Proofs.YtlddfdkmpnllmaaDoor
