/- One argument more, behind arguments that ask for a plan: plain law of ArgsTwice. -/
import Derived.Test.YtlddfdkmpnllmaaDoorBt
namespace Go.Proofs.YtlddfdkmpnllmaaDoor
open Go.RowKit Go.Proofs.YtlddfdkmpnllmaaDoorW.PrintWords Go.Proofs.YtlddfdkmpnllmaaDoorW.PrintLast Go.Proofs.YtlddfdkmpnllmaaDoorW.PrintMore
set_option linter.unusedVariables false
set_option linter.unusedSimpArgs false

def keyF (s : ByteArray) : ByteArray := (cutF s).1
/-- Where the options r pass, one more, x, is looked at behind them. -/
theorem go_snoc {n : Int} : ∀ (r : List ByteArray) (i : Int) (p : Pl) (seen : List ByteArray) (m : Nat) (q : Pl) (z : Int), Inv p m → parseGo n r i p seen = (q, z, true) →
    ∃ p', p'.c0 = p.c0 ∧ (∀ s ∈ r, keyF s ∈ mayF p.c0) ∧ ∀ (n' : Int) (x : ByteArray), parseGo n' (r ++ [x]) i p seen = parseGo n' [x] (i + r.length) p' (seen ++ r.map keyF)
  | [], i, p, seen, m, q, z, hi, h => ⟨p, rfl, by simp, fun n' x => by simp⟩
  | a :: r, i, p, seen, m, q, z, hi, h => by
    simp only [parseGo] at h
    split at h
    · cases h
    split at h
    · cases h
    split at h
    · cases h
    split at h
    · cases h
    next h1 h2 h3 h4 =>
      have h2' : inF (cutF a).1 (mayF p.c0) = true := by simpa using h2
      have h3' : inF (cutF a).1 seen = false := by simpa using h3
      have h4' : (setF p (cutF a).1 (cutF a).2.1 (cutF a).2.2).2 = true := by simpa using h4
      have hk : (cutF a).1 ∈ mayF p.c0 := (inF_iff _ _).1 h2'
      obtain ⟨hi2, hc2⟩ := inv_set hi hk h4'
      obtain ⟨p', e1, e2, e3⟩ := go_snoc r _ _ _ (m + 1) q z hi2 h
      refine ⟨p', e1.trans hc2, fun s hs => ?_, fun n' x => ?_⟩
      · rcases List.mem_cons.1 hs with rfl | hs
        · exact hk
        · rw [← hc2]; exact e2 s hs
      · rw [List.cons_append, go_on (n := n') (x := a) rfl rfl rfl h1 h2' h3' h4', e3 n' x]
        have el : i + 1 + (r.length : Int) = i + ((a :: r).length : Int) := by rw [List.length_cons]; omega
        rw [el, List.map_cons, List.append_assoc]
        rfl
/-- The second of two like options is wrong. -/
theorem twice_pure {l : List ByteArray} {q : Pl} {z : Int} (h : parseF l = (q, z, true)) (hl : l.length ≤ 60) (k : Nat) (hk1 : 1 ≤ k) (hk : k < l.length) : parseF (l ++ [l[k]]) = (Pl.zero, (l.length : Int), false) := by
  match l, h with
  | [], h => injection h with h1 h2; injection h2 with h3 h4; cases h4
  | a :: r, h =>
    obtain ⟨j, rfl⟩ : ∃ j, k = j + 1 := ⟨k - 1, by omega⟩
    simp only [List.getElem_cons_succ]
    have hj : j < r.length := by simp only [List.length_cons] at hk; omega
    simp only [parseF, List.cons_append] at h ⊢
    split at h
    · injection h with h1 h2; injection h2 with h3 h4; cases h4
    split at h
    · injection h with h1 h2; injection h2 with h3 h4; cases h4
    next ha hb =>
      rw [if_neg ha, if_neg hb]
      obtain ⟨p', e1, e2, e3⟩ := go_snoc r _ _ _ 0 q z (inv_zero _) h
      rw [e3]
      simp only [List.length_cons] at hl ⊢
      have hm : keyF r[j] ∈ mayF p'.c0 := by rw [e1]; exact e2 _ (List.getElem_mem hj)
      have hs : keyF r[j] ∈ ([] : List ByteArray) ++ r.map keyF := by rw [List.nil_append]; exact List.mem_map_of_mem (List.getElem_mem hj)
      rw [go_twice (nm := keyF r[j]) rfl (by omega) ((inF_iff _ _).2 hm) ((inF_iff _ _).2 hs)]
      congr 2
      omega
theorem key_x (s : ByteArray) : ∃ t, (keyF (⟨#[120]⟩ ++ s)).data.toList = 120 :: t := by
  have hd : ((⟨#[120]⟩ : ByteArray) ++ s).data.toList = 120 :: s.data.toList := by simp [ByteArray.data_append]
  unfold keyF cutF
  split
  next h =>
    have h1 : 1 ≤ eqAt ((⟨#[120]⟩ : ByteArray) ++ s) := by
      unfold eqAt at h ⊢
      rw [hd] at h ⊢
      unfold Lib.indexByte at h ⊢
      rw [if_neg (by decide)] at h ⊢
      have hg := Lib.indexByte_ge s.data.toList 61
      split at h
      · omega
      · rw [if_neg (by assumption)]; simp at *; omega
    refine ⟨(s.data.toList).take ((eqAt ((⟨#[120]⟩ : ByteArray) ++ s)).toNat - 1), ?_⟩
    simp only []
    rw [ByteArray.data_extract, Array.toList_extract, hd]
    obtain ⟨m, hm⟩ : ∃ m, (eqAt ((⟨#[120]⟩ : ByteArray) ++ s)).toNat = m + 1 := ⟨(eqAt ((⟨#[120]⟩ : ByteArray) ++ s)).toNat - 1, by omega⟩
    rw [hm]
    simp
  next h => exact ⟨s.data.toList, hd⟩
theorem x_not_may (s : ByteArray) (c : Int) : ¬ keyF (⟨#[120]⟩ ++ s) ∈ mayF c := by
  intro h
  obtain ⟨t, ht⟩ := key_x s
  rcases mayF_mem h with e | e | e | e | e | e | e <;> rw [e] at ht <;> simp [kFramed, kSign, kStrip, kSize, kFrom, kTo, kForm] at ht
/-- An argument that is no option is wrong. -/
theorem more_pure {l : List ByteArray} {q : Pl} {z : Int} (h : parseF l = (q, z, true)) (hl : l.length ≤ 60) (s : ByteArray) : parseF (l ++ [⟨#[120]⟩ ++ s]) = (Pl.zero, (l.length : Int), false) := by
  have hnm := x_not_may s
  generalize (⟨#[120]⟩ ++ s : ByteArray) = x at hnm ⊢
  match l, h with
  | [], h => injection h with h1 h2; injection h2 with h3 h4; cases h4
  | a :: r, h =>
    simp only [parseF, List.cons_append] at h ⊢
    split at h
    · injection h with h1 h2; injection h2 with h3 h4; cases h4
    split at h
    · injection h with h1 h2; injection h2 with h3 h4; cases h4
    next ha hb =>
      rw [if_neg ha, if_neg hb]
      obtain ⟨p', e1, e2, e3⟩ := go_snoc r _ _ _ 0 q z (inv_zero _) h
      rw [e3]
      simp only [List.length_cons] at hl ⊢
      have hx : inF (keyF x) (mayF p'.c0) = false := by
        rcases hb : inF (keyF x) (mayF p'.c0) with _ | _
        · rfl
        · exact absurd ((inF_iff _ _).1 hb) (hnm _)
      rw [go_no (nm := keyF x) rfl (by omega) hx]
      congr 2
      omega
end Go.Proofs.YtlddfdkmpnllmaaDoor
