/- Joined texts: Zr. -/
import Derived.Test.YtcofkjiaiiiooaaGreatMSz
import Derived.Test.YtcofkjiaiiiooaaGreatMUstp
import Derived.Lib.EndianBits
/- A block read at a place, by the program and by the document: the same; a block's bytes. Plain laws over the prints. -/
namespace Go.Proofs.YtcofkjiaiiiooaaGreat
open Go.RowKit Go.Proofs.YtcofkjiaiiiooaaGreatW.PrintWords Go.Proofs.YtcofkjiaiiiooaaGreatW.PrintLast Go.Proofs.YtcofkjiaiiiooaaGreatW.PrintMore Go.Proofs.YtcofkjiaiiiooaaGreat.PBz
set_option linter.unusedVariables false
set_option linter.unusedSimpArgs false

abbrev R6 : Type := Int × Int × ByteArray × Int × Int × Int
def num4 (s : ByteArray) (i : Int) : Int := bt s i + 256 * bt s (i + 1) + 65536 * bt s (i + 2) + 16777216 * bt s (i + 3)
def fail6 (e p : Int) : R6 := (0, 0, ⟨#[]⟩, 0, e, p)
def readF (s : ByteArray) (a : Int) : R6 :=
  if a < 0 ∨ (s.size : Int) < a then fail6 1 0
  else if a < s.size ∧ bt s a ≠ 66 then fail6 7 a
  else if (s.size : Int) - a < 13 then fail6 4 s.size
  else if num4 s (a + 1) < 1 ∨ 65536 < num4 s (a + 1) then fail6 8 (a + 1)
  else if num4 s (a + 5) < 1 ∨ 1048576 < num4 s (a + 5) then fail6 5 (a + 5)
  else if (s.size : Int) - a - 13 < num4 s (a + 5) then fail6 4 s.size
  else (num4 s (a + 1), num4 s (a + 9), s.extract (a + 13).toNat (a + 13 + num4 s (a + 5)).toNat, a + 13 + num4 s (a + 5), 0, 0)
theorem num4_range (s : ByteArray) (i : Int) : 0 ≤ num4 s i ∧ num4 s i ≤ 4294967295 := by
  have h0 := bt_range s i
  have h1 := bt_range s (i + 1)
  have h2 := bt_range s (i + 2)
  have h3 := bt_range s (i + 3)
  unfold num4
  omega
theorem bt_cut (s : ByteArray) (a m : Nat) (j : Nat) (hm : m ≤ s.size) (hj : a + j < m) : bt (s.extract a m) (j : Int) = bt s ((a + j : Nat) : Int) := by
  have h1 : j < (s.extract a m).size := by rw [ByteArray.size_extract]; omega
  rw [← bt_at (s.extract a m) (j : Int) (by rw [Int.toNat_natCast]; exact h1), ← bt_at s ((a + j : Nat) : Int) (by rw [Int.toNat_natCast]; omega)]
  simp only [Int.toNat_natCast]
  congr 2
  exact ByteArray.getElem_extract h1
theorem ref_number (s : ByteArray) (i : Int) (h0 : 0 ≤ i) (h1 : i + 3 < s.size) (hs : s.size ≤ 10000000) : pilcrowref20_Number.f s i = some (num4 s i) := by
  have r0 := bt_range s i
  have r1 := bt_range s (i + 1)
  have r2 := bt_range s (i + 2)
  have r3 := bt_range s (i + 3)
  unfold pilcrowref20_Number.f
  rw [wrap64_in (x := i + 1) (by omega) (by omega), wrap64_in (x := i + 2) (by omega) (by omega), wrap64_in (x := i + 3) (by omega) (by omega)]
  rw [if_pos h0, if_pos (by omega), if_pos (by omega), if_pos (by omega), if_pos (by omega), if_pos (by omega), if_pos (by omega), if_pos h1]
  unfold num4
  congr 1
  generalize bt s i = b0 at *
  generalize bt s (i + 1) = b1 at *
  generalize bt s (i + 2) = b2 at *
  generalize bt s (i + 3) = b3 at *
  omega
theorem crc_number (t : ByteArray) (h : 4 ≤ t.size) : crc_Number.f t = some (num4 t 0) := by
  have r0 := bt_range t 0
  have r1 := bt_range t 1
  have r2 := bt_range t 2
  have r3 := bt_range t 3
  unfold crc_Number.f
  rw [if_neg (by omega), if_pos (by omega), if_pos (by omega), if_pos (by omega), if_pos (by omega)]
  unfold num4
  rw [show (0 : Int) + 1 = 1 from rfl, show (0 : Int) + 2 = 2 from rfl, show (0 : Int) + 3 = 3 from rfl]
  congr 1
  generalize bt t 0 = b0 at *
  generalize bt t 1 = b1 at *
  generalize bt t 2 = b2 at *
  generalize bt t 3 = b3 at *
  rw [show b0 % 4294967296 = b0 by omega, show b1 % 4294967296 * 256 % 4294967296 = b1 * 256 by omega, show b2 % 4294967296 * 65536 % 4294967296 = b2 * 65536 by omega, show b3 % 4294967296 * 16777216 % 4294967296 = b3 * 16777216 by omega]
  have e1 : bits .or .u32 b0 (b1 * 256) = b0 + b1 * 256 := u32_or8 _ _ (by omega) (by omega) (by omega) (by omega) (by omega)
  have e2 : bits .or .u32 (b0 + b1 * 256) (b2 * 65536) = b0 + b1 * 256 + b2 * 65536 := u32_or16 _ _ (by omega) (by omega) (by omega) (by omega) (by omega)
  have e3 : bits .or .u32 (b0 + b1 * 256 + b2 * 65536) (b3 * 16777216) = b0 + b1 * 256 + b2 * 65536 + b3 * 16777216 := u32_or24 _ _ (by omega) (by omega) (by omega) (by omega) (by omega)
  rw [e1, e2, e3]
  omega
theorem num4_cut (s : ByteArray) (a m j : Nat) (hm : m ≤ s.size) (hj : a + j + 3 < m) : num4 (s.extract a m) (j : Int) = num4 s ((a : Int) + j) := by
  unfold num4
  have e0 := bt_cut s a m j hm (by omega)
  have e1 := bt_cut s a m (j + 1) hm (by omega)
  have e2 := bt_cut s a m (j + 2) hm (by omega)
  have e3 := bt_cut s a m (j + 3) hm (by omega)
  rw [show (j : Int) + 1 = ((j + 1 : Nat) : Int) by omega, show (j : Int) + 2 = ((j + 2 : Nat) : Int) by omega, show (j : Int) + 3 = ((j + 3 : Nat) : Int) by omega, e0, e1, e2, e3]
  rw [show ((a + j : Nat) : Int) = (a : Int) + j by omega, show ((a + (j + 1) : Nat) : Int) = (a : Int) + j + 1 by omega, show ((a + (j + 2) : Nat) : Int) = (a : Int) + j + 2 by omega, show ((a + (j + 3) : Nat) : Int) = (a : Int) + j + 3 by omega]
theorem extract_two (s : ByteArray) (a n m : Nat) (hn : a + n ≤ s.size) (hm : a + m ≤ s.size) : (s.extract a s.size).extract n m = s.extract (a + n) (a + m) := by
  rw [ByteArray.extract_extract, Nat.min_eq_left hm]
theorem read_ref (s : ByteArray) (a : Int) (hs : s.size ≤ 10000000) (k : Nat) : pilcrowref20_Read.f (k + 4) s a = some (readF s a) := by
  unfold pilcrowref20_Read.f readF
  by_cases h0 : a < 0
  · rw [if_pos h0, if_pos (.inl h0), pilcrowref20_Read.j0, if_pos rfl]; rfl
  rw [if_neg h0]
  by_cases h1 : (s.size : Int) < a
  · rw [if_pos (.inr h1), decide_eq_true (show a > (s.size : Int) from h1), pilcrowref20_Read.j0, if_pos rfl]; rfl
  rw [decide_eq_false (show ¬ a > (s.size : Int) from h1), if_neg (by omega), pilcrowref20_Read.j0, if_neg (by decide)]
  by_cases h2 : a < s.size
  · rw [if_pos h2, if_pos (by omega)]
    by_cases h3 : bt s a = 66
    · rw [h3, if_neg (by omega), pilcrowref20_Read.j1, if_neg (by decide), wrap64_in (x := (s.size : Int) - a) (by omega) (by omega)]
      by_cases h4 : (s.size : Int) - a < 13
      · rw [if_pos h4, if_pos h4]; rfl
      rw [if_neg h4, if_neg h4]
      rw [wrap64_in (x := a + 1) (by omega) (by omega), wrap64_in (x := a + 5) (by omega) (by omega), ref_number s (a + 1) (by omega) (by omega) hs, ref_number s (a + 5) (by omega) (by omega) hs]
      simp only [Option.bind_some]
      have n1 := num4_range s (a + 1)
      have n5 := num4_range s (a + 5)
      by_cases h5 : num4 s (a + 1) < 1 ∨ 65536 < num4 s (a + 1)
      · rw [if_pos h5]
        by_cases h6 : num4 s (a + 1) = 0
        · rw [if_pos h6, pilcrowref20_Read.j2, if_pos rfl, wrap64_in (x := a + 1) (by omega) (by omega)]; rfl
        · rw [if_neg h6, decide_eq_true (show num4 s (a + 1) > 65536 by omega), pilcrowref20_Read.j2, if_pos rfl, wrap64_in (x := a + 1) (by omega) (by omega)]; rfl
      rw [if_neg h5, if_neg (show ¬ num4 s (a + 1) = 0 by omega), decide_eq_false (show ¬ num4 s (a + 1) > 65536 by omega), pilcrowref20_Read.j2, if_neg (by decide)]
      by_cases h6 : num4 s (a + 5) < 1 ∨ 1048576 < num4 s (a + 5)
      · rw [if_pos h6]
        by_cases h7 : num4 s (a + 5) = 0
        · rw [if_pos h7, pilcrowref20_Read.j3, if_pos rfl, wrap64_in (x := a + 5) (by omega) (by omega)]; rfl
        · rw [if_neg h7, decide_eq_true (show num4 s (a + 5) > 1048576 by omega), pilcrowref20_Read.j3, if_pos rfl, wrap64_in (x := a + 5) (by omega) (by omega)]; rfl
      rw [if_neg h6, if_neg (show ¬ num4 s (a + 5) = 0 by omega), decide_eq_false (show ¬ num4 s (a + 5) > 1048576 by omega), pilcrowref20_Read.j3, if_neg (by decide)]
      rw [wrap64_in (x := (s.size : Int) - a) (by omega) (by omega), wrap64_in (x := (s.size : Int) - a - 13) (by omega) (by omega), Int.emod_eq_of_lt (a := (s.size : Int) - a - 13) (by omega) (by omega)]
      by_cases h7 : (s.size : Int) - a - 13 < num4 s (a + 5)
      · rw [if_pos h7, if_pos h7]; rfl
      rw [if_neg h7, if_neg h7, wrap64_in (x := a + 9) (by omega) (by omega), ref_number s (a + 9) (by omega) (by omega) hs]
      simp only [Option.bind_some]
      rw [wrap64_in (x := a + 13) (by omega) (by omega), wrap64_in (x := num4 s (a + 5)) (by omega) (by omega), wrap64_in (x := num4 s (a + 1)) (by omega) (by omega), wrap64_in (x := a + 13 + num4 s (a + 5)) (by omega) (by omega)]
      rw [if_pos (by omega), if_pos (by omega), if_pos (by omega)]
    · rw [if_pos ⟨h2, h3⟩, pilcrowref20_Read.j1, if_pos (by simpa using h3)]; rfl
  · rw [if_neg h2, if_neg (fun h => h2 h.1), pilcrowref20_Read.j1, if_neg (by decide), wrap64_in (x := (s.size : Int) - a) (by omega) (by omega), if_pos (by omega), if_pos (by omega)]; rfl
theorem read_prog (s : ByteArray) (a : Int) (hs : s.size ≤ 10000000) (k : Nat) : block_Read.f (k + 4) s a = some (readF s a) := by
  unfold block_Read.f readF
  by_cases h0 : a < 0
  · rw [if_pos h0, if_pos (.inl h0), block_Read.j0, if_pos rfl]; rfl
  rw [if_neg h0]
  by_cases h1 : (s.size : Int) < a
  · rw [if_pos (.inr h1), decide_eq_true (show a > (s.size : Int) from h1), block_Read.j0, if_pos rfl]; rfl
  rw [decide_eq_false (show ¬ a > (s.size : Int) from h1), if_neg (by omega), block_Read.j0, if_neg (by decide), if_pos (by omega), if_pos (by omega)]
  obtain ⟨A, rfl⟩ : ∃ A : Nat, a = A := ⟨a.toNat, by omega⟩
  rw [Int.toNat_natCast]
  obtain ⟨t, ht⟩ : ∃ t, s.extract A s.size = t := ⟨_, rfl⟩
  have hz : t.size = s.size - A := by rw [← ht, ByteArray.size_extract]; omega
  rw [ht]
  by_cases h2 : (A : Int) < s.size
  · have hne : ¬ t.toList = [] := by
      intro h
      have : t.toList.length = 0 := by rw [h]; rfl
      rw [ByteArray.toList_eq] at this
      have h3 : t.size = t.data.toList.length := rfl
      omega
    rw [if_neg hne, if_pos (by omega)]
    have e0 : bt t 0 = bt s (A : Int) := by
      rw [← ht]
      have := bt_cut s A s.size 0 (Nat.le_refl _) (by omega)
      simpa using this
    rw [e0]
    by_cases h3 : bt s (A : Int) = 66
    · rw [h3, if_neg (by omega), block_Read.j1, if_neg (by decide)]
      by_cases h4 : (s.size : Int) - A < 13
      · rw [if_pos (by omega), if_pos h4]; rfl
      have x1 : t.extract 1 t.size = s.extract (A + 1) s.size := by rw [hz, ← ht, extract_two s A 1 (s.size - A) (by omega) (by omega)]; congr 1; omega
      have x5 : t.extract 5 t.size = s.extract (A + 5) s.size := by rw [hz, ← ht, extract_two s A 5 (s.size - A) (by omega) (by omega)]; congr 1; omega
      have x9 : t.extract 9 t.size = s.extract (A + 9) s.size := by rw [hz, ← ht, extract_two s A 9 (s.size - A) (by omega) (by omega)]; congr 1; omega
      have y1 : num4 (s.extract (A + 1) s.size) 0 = num4 s ((A : Int) + 1) := by
        have := num4_cut s (A + 1) s.size 0 (Nat.le_refl _) (by omega)
        simpa using this
      have y5 : num4 (s.extract (A + 5) s.size) 0 = num4 s ((A : Int) + 5) := by
        have := num4_cut s (A + 5) s.size 0 (Nat.le_refl _) (by omega)
        simpa using this
      have y9 : num4 (s.extract (A + 9) s.size) 0 = num4 s ((A : Int) + 9) := by
        have := num4_cut s (A + 9) s.size 0 (Nat.le_refl _) (by omega)
        simpa using this
      rw [if_neg (by omega), if_neg h4, if_pos (by omega), x1, x5, crc_number _ (by rw [ByteArray.size_extract]; omega), crc_number _ (by rw [ByteArray.size_extract]; omega), y1, y5]
      simp only [Option.bind_some]
      rw [if_pos (by omega)]
      have n1 := num4_range s ((A : Int) + 1)
      have n5 := num4_range s ((A : Int) + 5)
      by_cases h5 : num4 s ((A : Int) + 1) < 1 ∨ 65536 < num4 s ((A : Int) + 1)
      · rw [if_pos h5]
        by_cases h6 : num4 s ((A : Int) + 1) < 1
        · rw [if_pos h6, block_Read.j2, if_pos rfl, wrap64_in (x := (A : Int) + 1) (by omega) (by omega)]; rfl
        · rw [if_neg h6, decide_eq_true (show num4 s ((A : Int) + 1) > 65536 by omega), block_Read.j2, if_pos rfl, wrap64_in (x := (A : Int) + 1) (by omega) (by omega)]; rfl
      rw [if_neg h5, if_neg (show ¬ num4 s ((A : Int) + 1) < 1 by omega), decide_eq_false (show ¬ num4 s ((A : Int) + 1) > 65536 by omega), block_Read.j2, if_neg (by decide)]
      by_cases h6 : num4 s ((A : Int) + 5) < 1 ∨ 1048576 < num4 s ((A : Int) + 5)
      · rw [if_pos h6]
        by_cases h7 : num4 s ((A : Int) + 5) < 1
        · rw [if_pos h7, block_Read.j3, if_pos rfl, wrap64_in (x := (A : Int) + 5) (by omega) (by omega)]; rfl
        · rw [if_neg h7, decide_eq_true (show num4 s ((A : Int) + 5) > 1048576 by omega), block_Read.j3, if_pos rfl, wrap64_in (x := (A : Int) + 5) (by omega) (by omega)]; rfl
      rw [if_neg h6, if_neg (show ¬ num4 s ((A : Int) + 5) < 1 by omega), decide_eq_false (show ¬ num4 s ((A : Int) + 5) > 1048576 by omega), block_Read.j3, if_neg (by decide)]
      rw [wrap64_in (x := num4 s ((A : Int) + 5)) (by omega) (by omega), wrap64_in (x := num4 s ((A : Int) + 1)) (by omega) (by omega), wrap64_in (x := 13 + num4 s ((A : Int) + 5)) (by omega) (by omega), wrap64_in (x := (t.size : Int) - 13) (by omega) (by omega)]
      by_cases h7 : (s.size : Int) - A - 13 < num4 s ((A : Int) + 5)
      · rw [if_pos (by omega), if_pos h7]; rfl
      rw [if_neg (by omega), if_neg h7, if_pos (by omega), x9, crc_number _ (by rw [ByteArray.size_extract]; omega), y9]
      simp only [Option.bind_some]
      obtain ⟨m, hm⟩ : ∃ m : Nat, num4 s ((A : Int) + 5) = m := ⟨(num4 s ((A : Int) + 5)).toNat, by omega⟩
      rw [hm] at h7 ⊢
      rw [if_pos (by omega), if_pos (by omega), wrap64_in (x := (A : Int) + (13 + (m : Int))) (by omega) (by omega)]
      have x13 : t.extract 13 ((13 + (m : Int))).toNat = s.extract ((A : Int) + 13).toNat ((A : Int) + 13 + (m : Int)).toNat := by
        rw [← ht, extract_two s A 13 _ (by omega) (by omega)]
        congr 1
        omega
      rw [x13, ← Int.add_assoc]
    · rw [if_pos ⟨h2, h3⟩, block_Read.j1, if_pos (by simpa using h3)]; rfl
  · have he : t.toList = [] := by
      rw [ByteArray.toList_eq]
      exact List.eq_nil_of_length_eq_zero (by show t.size = 0; omega)
    rw [if_pos he, if_neg (fun h => h2 h.1), block_Read.j1, if_neg (by decide), if_pos (by omega), if_pos (by omega)]; rfl
end Go.Proofs.YtcofkjiaiiiooaaGreat
