/- Joined texts: Zr, Zb. -/
import Derived.Test.YtcofkjiaiiiooaaGreatMSz
import Derived.Test.YtcofkjiaiiiooaaGreatMUstp
import Derived.Lib.EndianBits
/- A block read at a place, by the program and by the document: the same; a block's bytes. Plain laws over the prints. -/
namespace Go.Proofs.YtcofkjiaiiiooaaGreat
open Go.RowKit Go.Proofs.YtcofkjiaiiiooaaGreatW.PrintWords Go.Proofs.YtcofkjiaiiiooaaGreatW.PrintLast Go.Proofs.YtcofkjiaiiiooaaGreatW.PrintMore Go.Proofs.YtcofkjiaiiiooaaGreat.PBz
set_option linter.unusedVariables false
set_option linter.unusedSimpArgs false

abbrev R6 : Type := Int × Int × ByteArray × Int × Int × Int
def num4 (s : ByteArray) (i : Int) : Int := bt s i + 256 * bt s (i + 1) + 65536 * bt s (i + 2) + 16777216 * bt s (i + 3)
def fail6 (e p : Int) : R6 := (0, 0, ⟨#[]⟩, 0, e, p)
def readF (s : ByteArray) (a : Int) : R6 :=
  if a < 0 ∨ (s.size : Int) < a then fail6 1 0
  else if a < s.size ∧ bt s a ≠ 66 then fail6 7 a
  else if (s.size : Int) - a < 13 then fail6 4 s.size
  else if num4 s (a + 1) < 1 ∨ 65536 < num4 s (a + 1) then fail6 8 (a + 1)
  else if num4 s (a + 5) < 1 ∨ 1048576 < num4 s (a + 5) then fail6 5 (a + 5)
  else if (s.size : Int) - a - 13 < num4 s (a + 5) then fail6 4 s.size
  else (num4 s (a + 1), num4 s (a + 9), s.extract (a + 13).toNat (a + 13 + num4 s (a + 5)).toNat, a + 13 + num4 s (a + 5), 0, 0)
theorem num4_range (s : ByteArray) (i : Int) : 0 ≤ num4 s i ∧ num4 s i ≤ 4294967295 := by
  have h0 := bt_range s i
  have h1 := bt_range s (i + 1)
  have h2 := bt_range s (i + 2)
  have h3 := bt_range s (i + 3)
  unfold num4
  omega
theorem bt_cut (s : ByteArray) (a m : Nat) (j : Nat) (hm : m ≤ s.size) (hj : a + j < m) : bt (s.extract a m) (j : Int) = bt s ((a + j : Nat) : Int) := by
  have h1 : j < (s.extract a m).size := by rw [ByteArray.size_extract]; omega
  rw [← bt_at (s.extract a m) (j : Int) (by rw [Int.toNat_natCast]; exact h1), ← bt_at s ((a + j : Nat) : Int) (by rw [Int.toNat_natCast]; omega)]
  simp only [Int.toNat_natCast]
  congr 2
  exact ByteArray.getElem_extract h1
theorem ref_number (s : ByteArray) (i : Int) (h0 : 0 ≤ i) (h1 : i + 3 < s.size) (hs : s.size ≤ 10000000) : pilcrowref20_Number.f s i = some (num4 s i) := by
  have r0 := bt_range s i
  have r1 := bt_range s (i + 1)
  have r2 := bt_range s (i + 2)
  have r3 := bt_range s (i + 3)
  unfold pilcrowref20_Number.f
  rw [wrap64_in (x := i + 1) (by omega) (by omega), wrap64_in (x := i + 2) (by omega) (by omega), wrap64_in (x := i + 3) (by omega) (by omega)]
  rw [if_pos h0, if_pos (by omega), if_pos (by omega), if_pos (by omega), if_pos (by omega), if_pos (by omega), if_pos (by omega), if_pos h1]
  unfold num4
  congr 1
  generalize bt s i = b0 at *
  generalize bt s (i + 1) = b1 at *
  generalize bt s (i + 2) = b2 at *
  generalize bt s (i + 3) = b3 at *
  omega
theorem crc_number (t : ByteArray) (h : 4 ≤ t.size) : crc_Number.f t = some (num4 t 0) := by
  have r0 := bt_range t 0
  have r1 := bt_range t 1
  have r2 := bt_range t 2
  have r3 := bt_range t 3
  unfold crc_Number.f
  rw [if_neg (by omega), if_pos (by omega), if_pos (by omega), if_pos (by omega), if_pos (by omega)]
  unfold num4
  rw [show (0 : Int) + 1 = 1 from rfl, show (0 : Int) + 2 = 2 from rfl, show (0 : Int) + 3 = 3 from rfl]
  congr 1
  generalize bt t 0 = b0 at *
  generalize bt t 1 = b1 at *
  generalize bt t 2 = b2 at *
  generalize bt t 3 = b3 at *
  rw [show b0 % 4294967296 = b0 by omega, show b1 % 4294967296 * 256 % 4294967296 = b1 * 256 by omega, show b2 % 4294967296 * 65536 % 4294967296 = b2 * 65536 by omega, show b3 % 4294967296 * 16777216 % 4294967296 = b3 * 16777216 by omega]
  have e1 : bits .or .u32 b0 (b1 * 256) = b0 + b1 * 256 := u32_or8 _ _ (by omega) (by omega) (by omega) (by omega) (by omega)
  have e2 : bits .or .u32 (b0 + b1 * 256) (b2 * 65536) = b0 + b1 * 256 + b2 * 65536 := u32_or16 _ _ (by omega) (by omega) (by omega) (by omega) (by omega)
  have e3 : bits .or .u32 (b0 + b1 * 256 + b2 * 65536) (b3 * 16777216) = b0 + b1 * 256 + b2 * 65536 + b3 * 16777216 := u32_or24 _ _ (by omega) (by omega) (by omega) (by omega) (by omega)
  rw [e1, e2, e3]
  omega
theorem num4_cut (s : ByteArray) (a m j : Nat) (hm : m ≤ s.size) (hj : a + j + 3 < m) : num4 (s.extract a m) (j : Int) = num4 s ((a : Int) + j) := by
  unfold num4
  have e0 := bt_cut s a m j hm (by omega)
  have e1 := bt_cut s a m (j + 1) hm (by omega)
  have e2 := bt_cut s a m (j + 2) hm (by omega)
  have e3 := bt_cut s a m (j + 3) hm (by omega)
  rw [show (j : Int) + 1 = ((j + 1 : Nat) : Int) by omega, show (j : Int) + 2 = ((j + 2 : Nat) : Int) by omega, show (j : Int) + 3 = ((j + 3 : Nat) : Int) by omega, e0, e1, e2, e3]
  rw [show ((a + j : Nat) : Int) = (a : Int) + j by omega, show ((a + (j + 1) : Nat) : Int) = (a : Int) + j + 1 by omega, show ((a + (j + 2) : Nat) : Int) = (a : Int) + j + 2 by omega, show ((a + (j + 3) : Nat) : Int) = (a : Int) + j + 3 by omega]
theorem extract_two (s : ByteArray) (a n m : Nat) (hn : a + n ≤ s.size) (hm : a + m ≤ s.size) : (s.extract a s.size).extract n m = s.extract (a + n) (a + m) := by
  rw [ByteArray.extract_extract, Nat.min_eq_left hm]
theorem read_ref (s : ByteArray) (a : Int) (hs : s.size ≤ 10000000) (k : Nat) : pilcrowref20_Read.f (k + 4) s a = some (readF s a) := by
  unfold pilcrowref20_Read.f readF
  by_cases h0 : a < 0
  · rw [if_pos h0, if_pos (.inl h0), pilcrowref20_Read.j0, if_pos rfl]; rfl
  rw [if_neg h0]
  by_cases h1 : (s.size : Int) < a
  · rw [if_pos (.inr h1), decide_eq_true (show a > (s.size : Int) from h1), pilcrowref20_Read.j0, if_pos rfl]; rfl
  rw [decide_eq_false (show ¬ a > (s.size : Int) from h1), if_neg (by omega), pilcrowref20_Read.j0, if_neg (by decide)]
  by_cases h2 : a < s.size
  · rw [if_pos h2, if_pos (by omega)]
    by_cases h3 : bt s a = 66
    · rw [h3, if_neg (by omega), pilcrowref20_Read.j1, if_neg (by decide), wrap64_in (x := (s.size : Int) - a) (by omega) (by omega)]
      by_cases h4 : (s.size : Int) - a < 13
      · rw [if_pos h4, if_pos h4]; rfl
      rw [if_neg h4, if_neg h4]
      rw [wrap64_in (x := a + 1) (by omega) (by omega), wrap64_in (x := a + 5) (by omega) (by omega), ref_number s (a + 1) (by omega) (by omega) hs, ref_number s (a + 5) (by omega) (by omega) hs]
      simp only [Option.bind_some]
      have n1 := num4_range s (a + 1)
      have n5 := num4_range s (a + 5)
      by_cases h5 : num4 s (a + 1) < 1 ∨ 65536 < num4 s (a + 1)
      · rw [if_pos h5]
        by_cases h6 : num4 s (a + 1) = 0
        · rw [if_pos h6, pilcrowref20_Read.j2, if_pos rfl, wrap64_in (x := a + 1) (by omega) (by omega)]; rfl
        · rw [if_neg h6, decide_eq_true (show num4 s (a + 1) > 65536 by omega), pilcrowref20_Read.j2, if_pos rfl, wrap64_in (x := a + 1) (by omega) (by omega)]; rfl
      rw [if_neg h5, if_neg (show ¬ num4 s (a + 1) = 0 by omega), decide_eq_false (show ¬ num4 s (a + 1) > 65536 by omega), pilcrowref20_Read.j2, if_neg (by decide)]
      by_cases h6 : num4 s (a + 5) < 1 ∨ 1048576 < num4 s (a + 5)
      · rw [if_pos h6]
        by_cases h7 : num4 s (a + 5) = 0
        · rw [if_pos h7, pilcrowref20_Read.j3, if_pos rfl, wrap64_in (x := a + 5) (by omega) (by omega)]; rfl
        · rw [if_neg h7, decide_eq_true (show num4 s (a + 5) > 1048576 by omega), pilcrowref20_Read.j3, if_pos rfl, wrap64_in (x := a + 5) (by omega) (by omega)]; rfl
      rw [if_neg h6, if_neg (show ¬ num4 s (a + 5) = 0 by omega), decide_eq_false (show ¬ num4 s (a + 5) > 1048576 by omega), pilcrowref20_Read.j3, if_neg (by decide)]
      rw [wrap64_in (x := (s.size : Int) - a) (by omega) (by omega), wrap64_in (x := (s.size : Int) - a - 13) (by omega) (by omega), Int.emod_eq_of_lt (a := (s.size : Int) - a - 13) (by omega) (by omega)]
      by_cases h7 : (s.size : Int) - a - 13 < num4 s (a + 5)
      · rw [if_pos h7, if_pos h7]; rfl
      rw [if_neg h7, if_neg h7, wrap64_in (x := a + 9) (by omega) (by omega), ref_number s (a + 9) (by omega) (by omega) hs]
      simp only [Option.bind_some]
      rw [wrap64_in (x := a + 13) (by omega) (by omega), wrap64_in (x := num4 s (a + 5)) (by omega) (by omega), wrap64_in (x := num4 s (a + 1)) (by omega) (by omega), wrap64_in (x := a + 13 + num4 s (a + 5)) (by omega) (by omega)]
      rw [if_pos (by omega), if_pos (by omega), if_pos (by omega)]
    · rw [if_pos ⟨h2, h3⟩, pilcrowref20_Read.j1, if_pos (by simpa using h3)]; rfl
  · rw [if_neg h2, if_neg (fun h => h2 h.1), pilcrowref20_Read.j1, if_neg (by decide), wrap64_in (x := (s.size : Int) - a) (by omega) (by omega), if_pos (by omega), if_pos (by omega)]; rfl
theorem read_prog (s : ByteArray) (a : Int) (hs : s.size ≤ 10000000) (k : Nat) : block_Read.f (k + 4) s a = some (readF s a) := by
  unfold block_Read.f readF
  by_cases h0 : a < 0
  · rw [if_pos h0, if_pos (.inl h0), block_Read.j0, if_pos rfl]; rfl
  rw [if_neg h0]
  by_cases h1 : (s.size : Int) < a
  · rw [if_pos (.inr h1), decide_eq_true (show a > (s.size : Int) from h1), block_Read.j0, if_pos rfl]; rfl
  rw [decide_eq_false (show ¬ a > (s.size : Int) from h1), if_neg (by omega), block_Read.j0, if_neg (by decide), if_pos (by omega), if_pos (by omega)]
  obtain ⟨A, rfl⟩ : ∃ A : Nat, a = A := ⟨a.toNat, by omega⟩
  rw [Int.toNat_natCast]
  obtain ⟨t, ht⟩ : ∃ t, s.extract A s.size = t := ⟨_, rfl⟩
  have hz : t.size = s.size - A := by rw [← ht, ByteArray.size_extract]; omega
  rw [ht]
  by_cases h2 : (A : Int) < s.size
  · have hne : ¬ t.toList = [] := by
      intro h
      have : t.toList.length = 0 := by rw [h]; rfl
      rw [ByteArray.toList_eq] at this
      have h3 : t.size = t.data.toList.length := rfl
      omega
    rw [if_neg hne, if_pos (by omega)]
    have e0 : bt t 0 = bt s (A : Int) := by
      rw [← ht]
      have := bt_cut s A s.size 0 (Nat.le_refl _) (by omega)
      simpa using this
    rw [e0]
    by_cases h3 : bt s (A : Int) = 66
    · rw [h3, if_neg (by omega), block_Read.j1, if_neg (by decide)]
      by_cases h4 : (s.size : Int) - A < 13
      · rw [if_pos (by omega), if_pos h4]; rfl
      have x1 : t.extract 1 t.size = s.extract (A + 1) s.size := by rw [hz, ← ht, extract_two s A 1 (s.size - A) (by omega) (by omega)]; congr 1; omega
      have x5 : t.extract 5 t.size = s.extract (A + 5) s.size := by rw [hz, ← ht, extract_two s A 5 (s.size - A) (by omega) (by omega)]; congr 1; omega
      have x9 : t.extract 9 t.size = s.extract (A + 9) s.size := by rw [hz, ← ht, extract_two s A 9 (s.size - A) (by omega) (by omega)]; congr 1; omega
      have y1 : num4 (s.extract (A + 1) s.size) 0 = num4 s ((A : Int) + 1) := by
        have := num4_cut s (A + 1) s.size 0 (Nat.le_refl _) (by omega)
        simpa using this
      have y5 : num4 (s.extract (A + 5) s.size) 0 = num4 s ((A : Int) + 5) := by
        have := num4_cut s (A + 5) s.size 0 (Nat.le_refl _) (by omega)
        simpa using this
      have y9 : num4 (s.extract (A + 9) s.size) 0 = num4 s ((A : Int) + 9) := by
        have := num4_cut s (A + 9) s.size 0 (Nat.le_refl _) (by omega)
        simpa using this
      rw [if_neg (by omega), if_neg h4, if_pos (by omega), x1, x5, crc_number _ (by rw [ByteArray.size_extract]; omega), crc_number _ (by rw [ByteArray.size_extract]; omega), y1, y5]
      simp only [Option.bind_some]
      rw [if_pos (by omega)]
      have n1 := num4_range s ((A : Int) + 1)
      have n5 := num4_range s ((A : Int) + 5)
      by_cases h5 : num4 s ((A : Int) + 1) < 1 ∨ 65536 < num4 s ((A : Int) + 1)
      · rw [if_pos h5]
        by_cases h6 : num4 s ((A : Int) + 1) < 1
        · rw [if_pos h6, block_Read.j2, if_pos rfl, wrap64_in (x := (A : Int) + 1) (by omega) (by omega)]; rfl
        · rw [if_neg h6, decide_eq_true (show num4 s ((A : Int) + 1) > 65536 by omega), block_Read.j2, if_pos rfl, wrap64_in (x := (A : Int) + 1) (by omega) (by omega)]; rfl
      rw [if_neg h5, if_neg (show ¬ num4 s ((A : Int) + 1) < 1 by omega), decide_eq_false (show ¬ num4 s ((A : Int) + 1) > 65536 by omega), block_Read.j2, if_neg (by decide)]
      by_cases h6 : num4 s ((A : Int) + 5) < 1 ∨ 1048576 < num4 s ((A : Int) + 5)
      · rw [if_pos h6]
        by_cases h7 : num4 s ((A : Int) + 5) < 1
        · rw [if_pos h7, block_Read.j3, if_pos rfl, wrap64_in (x := (A : Int) + 5) (by omega) (by omega)]; rfl
        · rw [if_neg h7, decide_eq_true (show num4 s ((A : Int) + 5) > 1048576 by omega), block_Read.j3, if_pos rfl, wrap64_in (x := (A : Int) + 5) (by omega) (by omega)]; rfl
      rw [if_neg h6, if_neg (show ¬ num4 s ((A : Int) + 5) < 1 by omega), decide_eq_false (show ¬ num4 s ((A : Int) + 5) > 1048576 by omega), block_Read.j3, if_neg (by decide)]
      rw [wrap64_in (x := num4 s ((A : Int) + 5)) (by omega) (by omega), wrap64_in (x := num4 s ((A : Int) + 1)) (by omega) (by omega), wrap64_in (x := 13 + num4 s ((A : Int) + 5)) (by omega) (by omega), wrap64_in (x := (t.size : Int) - 13) (by omega) (by omega)]
      by_cases h7 : (s.size : Int) - A - 13 < num4 s ((A : Int) + 5)
      · rw [if_pos (by omega), if_pos h7]; rfl
      rw [if_neg (by omega), if_neg h7, if_pos (by omega), x9, crc_number _ (by rw [ByteArray.size_extract]; omega), y9]
      simp only [Option.bind_some]
      obtain ⟨m, hm⟩ : ∃ m : Nat, num4 s ((A : Int) + 5) = m := ⟨(num4 s ((A : Int) + 5)).toNat, by omega⟩
      rw [hm] at h7 ⊢
      rw [if_pos (by omega), if_pos (by omega), wrap64_in (x := (A : Int) + (13 + (m : Int))) (by omega) (by omega)]
      have x13 : t.extract 13 ((13 + (m : Int))).toNat = s.extract ((A : Int) + 13).toNat ((A : Int) + 13 + (m : Int)).toNat := by
        rw [← ht, extract_two s A 13 _ (by omega) (by omega)]
        congr 1
        omega
      rw [x13, ← Int.add_assoc]
    · rw [if_pos ⟨h2, h3⟩, block_Read.j1, if_pos (by simpa using h3)]; rfl
  · have he : t.toList = [] := by
      rw [ByteArray.toList_eq]
      exact List.eq_nil_of_length_eq_zero (by show t.size = 0; omega)
    rw [if_pos he, if_neg (fun h => h2 h.1), block_Read.j1, if_neg (by decide), if_pos (by omega), if_pos (by omega)]; rfl
end Go.Proofs.YtcofkjiaiiiooaaGreat
/- A block's bytes, by the program and by the document; bytes that are read as a block are its bytes. Plain laws over the prints. -/
namespace Go.Proofs.YtcofkjiaiiiooaaGreat
open Go.RowKit Go.Proofs.YtcofkjiaiiiooaaGreatW.PrintWords Go.Proofs.YtcofkjiaiiiooaaGreatW.PrintLast Go.Proofs.YtcofkjiaiiiooaaGreatW.PrintMore Go.Proofs.YtcofkjiaiiiooaaGreat.PBz
set_option linter.unusedVariables false
set_option linter.unusedSimpArgs false

def four (x : Int) : ByteArray := strOfNums ([x % 256, (x / 256) % 256, (x / 65536) % 256, (x / 16777216) % 256] : List Int)
def bytesB (c u : Int) (p : ByteArray) : ByteArray := ((((⟨#[66]⟩ ++ four (c % 4294967296)) ++ four ((p.size : Int) % 4294967296)) ++ four u) ++ p)
def rightF (c : Int) (p : ByteArray) : Int := if c < 1 ∨ 65536 < c then 8 else if (p.size : Int) < 1 ∨ 1048576 < (p.size : Int) then 5 else 0
theorem four_size (x : Int) : (four x).size = 4 := rfl
theorem prog_four (x : Int) : crc_Four.f x = some (four x) := rfl
theorem ref_four (x : Int) (h0 : 0 ≤ x) (h1 : x ≤ 4294967295) : pilcrowref16_Four.f x = some (four x) := by
  unfold pilcrowref16_Four.f four
  rw [Int.tmod_eq_emod_of_nonneg h0, Int.tdiv_eq_ediv_of_nonneg h0, Int.tdiv_eq_ediv_of_nonneg h0, Int.tdiv_eq_ediv_of_nonneg h0]
  rw [show x % 256 % 256 = x % 256 by omega, show x / 256 % 4294967296 % 256 = x / 256 % 256 by omega, show x / 65536 % 4294967296 % 256 = x / 65536 % 256 by omega, show x / 16777216 % 4294967296 % 256 = x / 16777216 % 256 by omega]
theorem right_prog (c u : Int) (p : ByteArray) (k : Nat) : block_right.f (k + 1) c u p = some (rightF c p) := by
  unfold block_right.f rightF
  by_cases h0 : c < 1
  · rw [if_pos h0, if_pos (.inl h0), block_right.j0, if_pos rfl]
  rw [if_neg h0]
  by_cases h1 : 65536 < c
  · rw [if_pos (.inr h1), decide_eq_true (show c > 65536 from h1), block_right.j0, if_pos rfl]
  rw [if_neg (by omega), decide_eq_false (show ¬ c > 65536 from h1), block_right.j0, if_neg (by decide)]
  by_cases h2 : (p.size : Int) < 1
  · rw [if_pos h2, if_pos (.inl h2)]
  rw [if_neg h2]
  by_cases h3 : 1048576 < (p.size : Int)
  · rw [if_pos (show (p.size : Int) > 1048576 from h3), if_pos (.inr h3)]
  · rw [if_neg (show ¬ (p.size : Int) > 1048576 from h3), if_neg (by omega)]
theorem right_ref (c u : Int) (p : ByteArray) (k : Nat) : pilcrowref20_Right.f (k + 1) c u p = some (rightF c p) := by
  unfold pilcrowref20_Right.f rightF
  by_cases h0 : c < 1
  · rw [if_pos h0, if_pos (.inl h0), pilcrowref20_Right.j0, if_pos rfl]
  rw [if_neg h0]
  by_cases h1 : 65536 < c
  · rw [if_pos (.inr h1), decide_eq_true (show c > 65536 from h1), pilcrowref20_Right.j0, if_pos rfl]
  rw [if_neg (by omega), decide_eq_false (show ¬ c > 65536 from h1), pilcrowref20_Right.j0, if_neg (by decide)]
  by_cases h2 : (p.size : Int) < 1
  · rw [if_pos h2, if_pos (.inl h2)]
  rw [if_neg h2]
  by_cases h3 : 1048576 < (p.size : Int)
  · rw [if_pos (show (p.size : Int) > 1048576 from h3), if_pos (.inr h3)]
  · rw [if_neg (show ¬ (p.size : Int) > 1048576 from h3), if_neg (by omega)]
theorem str66 : strOfNums ([66] : List Int) = ⟨#[66]⟩ := by rfl
theorem size66 : (⟨#[66]⟩ : ByteArray).size = 1 := rfl
theorem bytes_prog (c u : Int) (p : ByteArray) (hp : p.size ≤ 10000000) (k : Nat) : block_Bytes.f (k + 1) c u p = some (if rightF c p = 0 then (bytesB c u p, 0) else (⟨#[]⟩, rightF c p)) := by
  unfold block_Bytes.f
  rw [right_prog, Option.bind_some]
  by_cases h : rightF c p = 0
  · rw [if_pos h, if_pos h]
    simp only [Option.bind_some, prog_four, str66]
    rw [if_pos (by simp only [ByteArray.size_append, four_size, size66]; omega), if_pos (by simp only [ByteArray.size_append, four_size, size66]; omega), if_pos (by simp only [ByteArray.size_append, four_size, size66]; omega), if_pos (by simp only [ByteArray.size_append, four_size, size66]; omega)]
    rfl
  · rw [if_neg h, if_neg h]
theorem bytes_ref (c u : Int) (p : ByteArray) (h0 : 0 ≤ u) (h1 : u ≤ 4294967295) (hp : p.size ≤ 10000000) : pilcrowref20_Bytes.f c u p = some (bytesB c u p) := by
  unfold pilcrowref20_Bytes.f
  rw [ref_four _ (by omega) (by omega), ref_four _ (by omega) (by omega), ref_four _ h0 h1]
  simp only [Option.bind_some]
  rw [if_pos (by simp only [ByteArray.size_append, four_size, size66]; omega), if_pos (by simp only [ByteArray.size_append, four_size, size66]; omega), if_pos (by simp only [ByteArray.size_append, four_size, size66]; omega), if_pos (by simp only [ByteArray.size_append, four_size, size66]; omega)]
  rfl
theorem strOf_getElem (l : List Int) (j : Nat) (h : j < (strOfNums l).data.size) (h2 : j < l.length) : (strOfNums l).data[j] = UInt8.ofNat (l[j]).toNat := by
  simp [strOfNums]
theorem cut_getElem (s : ByteArray) (a m j : Nat) (h : j < (s.extract a m).data.size) (hm : m ≤ s.size) (hj : a + j < m) : (s.extract a m).data[j] = UInt8.ofNat (bt s ((a + j : Nat) : Int)).toNat := by
  have h1 : j < (s.extract a m).size := h
  have e : (s.extract a m)[j] = s[a + j]'(by omega) := ByteArray.getElem_extract h1
  have e2 : (s.extract a m).data[j] = (s.extract a m)[j] := rfl
  have e3 := bt_at s ((a + j : Nat) : Int) (by rw [Int.toNat_natCast]; omega)
  rw [e2, e, ← e3]
  simp only [Int.toNat_natCast]
  rw [UInt8.ofNat_toNat]
theorem four_cut (s : ByteArray) (i : Nat) (h : i + 4 ≤ s.size) : four (num4 s (i : Int)) = s.extract i (i + 4) := by
  have r0 := bt_range s (i : Int)
  have r1 := bt_range s ((i : Int) + 1)
  have r2 := bt_range s ((i : Int) + 2)
  have r3 := bt_range s ((i : Int) + 3)
  have e : four (num4 s (i : Int)) = strOfNums [bt s (i : Int), bt s ((i : Int) + 1), bt s ((i : Int) + 2), bt s ((i : Int) + 3)] := by
    unfold four num4
    generalize bt s (i : Int) = b0 at *
    generalize bt s ((i : Int) + 1) = b1 at *
    generalize bt s ((i : Int) + 2) = b2 at *
    generalize bt s ((i : Int) + 3) = b3 at *
    rw [show (b0 + 256 * b1 + 65536 * b2 + 16777216 * b3) % 256 = b0 by omega, show (b0 + 256 * b1 + 65536 * b2 + 16777216 * b3) / 256 % 256 = b1 by omega, show (b0 + 256 * b1 + 65536 * b2 + 16777216 * b3) / 65536 % 256 = b2 by omega, show (b0 + 256 * b1 + 65536 * b2 + 16777216 * b3) / 16777216 % 256 = b3 by omega]
  rw [e]
  apply ByteArray.ext
  apply Array.ext
  · show 4 = (s.extract i (i + 4)).size
    rw [ByteArray.size_extract]; omega
  · intro j h1 h2
    have h3 : j < 4 := h1
    rw [cut_getElem s i (i + 4) j h2 h (by omega), strOf_getElem _ j h1 h3]
    rcases (by omega : j = 0 ∨ j = 1 ∨ j = 2 ∨ j = 3) with rfl | rfl | rfl | rfl <;> rfl
theorem one_cut (s : ByteArray) (i : Nat) (h : i + 1 ≤ s.size) (hb : bt s (i : Int) = 66) : (⟨#[66]⟩ : ByteArray) = s.extract i (i + 1) := by
  rw [← str66]
  apply ByteArray.ext
  apply Array.ext
  · show 1 = (s.extract i (i + 1)).size
    rw [ByteArray.size_extract]; omega
  · intro j h1 h2
    have h3 : j < 1 := h1
    rw [cut_getElem s i (i + 1) j h2 h (by omega), strOf_getElem _ j h1 h3]
    obtain rfl : j = 0 := by omega
    rw [Nat.add_zero, hb]; rfl
theorem cut_join (s : ByteArray) (i j k : Nat) (h : i ≤ j) (h2 : j ≤ k) : s.extract i j ++ s.extract j k = s.extract i k := by
  rw [ByteArray.extract_append_extract, Nat.min_eq_left h, Nat.max_eq_right h2]
/-- What is read is its bytes. -/
theorem read_one (s : ByteArray) (a : Int) {r1 r2 : Int} {r3 : ByteArray} {r4 r5 r6 : Int} (hr : readF s a = (r1, r2, r3, r4, r5, r6)) :
    (¬ r5 = 0 ∧ r1 = 0 ∧ r2 = 0 ∧ r3 = ⟨#[]⟩ ∧ r4 = 0) ∨ (r5 = 0 ∧ 0 ≤ a ∧ a ≤ r4 ∧ r4 ≤ s.size ∧ rightF r1 r3 = 0 ∧ 0 ≤ r2 ∧ r2 ≤ 4294967295 ∧ bytesB r1 r2 r3 = s.extract a.toNat r4.toNat) := by
  have bad : ∀ e p : Int, ¬ e = 0 → fail6 e p = (r1, r2, r3, r4, r5, r6) → (¬ r5 = 0 ∧ r1 = 0 ∧ r2 = 0 ∧ r3 = ⟨#[]⟩ ∧ r4 = 0) := by
    intro e p he h
    simp only [fail6, Prod.mk.injEq] at h
    obtain ⟨rfl, rfl, rfl, rfl, rfl, rfl⟩ := h
    exact ⟨he, rfl, rfl, rfl, rfl⟩
  unfold readF at hr
  split at hr
  · exact .inl (bad _ _ (by decide) hr)
  rename_i h0
  split at hr
  · exact .inl (bad _ _ (by decide) hr)
  rename_i h1
  split at hr
  · exact .inl (bad _ _ (by decide) hr)
  rename_i h2
  split at hr
  · exact .inl (bad _ _ (by decide) hr)
  rename_i h3
  split at hr
  · exact .inl (bad _ _ (by decide) hr)
  rename_i h4
  split at hr
  · exact .inl (bad _ _ (by decide) hr)
  rename_i h5
  right
  obtain ⟨A, rfl⟩ : ∃ A : Nat, a = A := ⟨a.toNat, by omega⟩
  have hb : bt s (A : Int) = 66 := by
    by_cases hb : bt s (A : Int) = 66
    · exact hb
    · exact absurd ⟨by omega, hb⟩ h1
  have n1 := num4_range s ((A : Int) + 1)
  have n9 := num4_range s ((A : Int) + 9)
  obtain ⟨m, hm⟩ : ∃ m : Nat, num4 s ((A : Int) + 5) = m := ⟨(num4 s ((A : Int) + 5)).toNat, by omega⟩
  rw [hm] at hr h4 h5
  have et : ((A : Int) + 13).toNat = A + 13 := by omega
  have eu : ((A : Int) + 13 + (m : Int)).toNat = A + 13 + m := by omega
  rw [et, eu] at hr
  simp only [Prod.mk.injEq] at hr
  obtain ⟨rfl, rfl, rfl, rfl, rfl, rfl⟩ := hr
  have hz : (s.extract (A + 13) (A + 13 + m)).size = m := by rw [ByteArray.size_extract]; omega
  refine ⟨rfl, by omega, by omega, by omega, ?_, n9.1, n9.2, ?_⟩
  · unfold rightF
    rw [hz, if_neg h3, if_neg h4]
  · unfold bytesB
    rw [hz, Int.emod_eq_of_lt n1.1 (by omega), Int.emod_eq_of_lt (a := (m : Int)) (by omega) (by omega), ← hm]
    have f1 := four_cut s (A + 1) (by omega)
    have f5 := four_cut s (A + 5) (by omega)
    have f9 := four_cut s (A + 9) (by omega)
    rw [show ((A + 1 : Nat) : Int) = (A : Int) + 1 by omega] at f1
    rw [show ((A + 5 : Nat) : Int) = (A : Int) + 5 by omega] at f5
    rw [show ((A + 9 : Nat) : Int) = (A : Int) + 9 by omega] at f9
    rw [f1, f5, f9, one_cut s A (by omega) hb, cut_join s A (A + 1) _ (by omega) (by omega), cut_join s A (A + 5) _ (by omega) (by omega), cut_join s A (A + 9) _ (by omega) (by omega), cut_join s A (A + 13) _ (by omega) (by omega), Int.toNat_natCast, hm, eu]
end Go.Proofs.YtcofkjiaiiiooaaGreat
