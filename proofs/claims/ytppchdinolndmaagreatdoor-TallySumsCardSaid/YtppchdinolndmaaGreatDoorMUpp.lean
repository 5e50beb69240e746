/- Joined texts: Upp, Upt. -/
import Derived.Test.YtppchdinolndmaaGreatDoorMVPPux0
import Derived.Test.YtppchdinolndmaaGreatDoorMBase
namespace Go.Proofs.YtppchdinolndmaaGreatDoor
open Go.RowKit Go.Proofs.YtppchdinolndmaaGreatDoorW.PrintWords Go.Proofs.YtppchdinolndmaaGreatDoorW.PrintLast Go.Proofs.YtppchdinolndmaaGreatDoorW.PrintMore Go.Proofs.YtppchdinolndmaaGreatDoor.PPu
set_option linter.unusedVariables false
set_option linter.unusedSimpArgs false
theorem w64 {x : Int} (h0 : -9223372036854775808 ≤ x) (h1 : x ≤ 9223372036854775807) : wrap64 x = x := by
 unfold wrap64; omega
theorem u64 {x : Int} (h0 : 0 ≤ x) (h1 : x ≤ 18446744073709551615) : IntKind.u64.wrap x = x := by
 have e : IntKind.u64.wrap x = x % 18446744073709551616 := by simp [IntKind.wrap, IntKind.bits, IntKind.signed]
 rw [e]; omega
def thrP (place b : Int) : Int := mn (mx (36 * (mn (mx place 0) 1000 + 1) - mn (mx b 0) 1000) 1) 26
theorem thr_range (p b : Int) : 1 ≤ thrP p b ∧ thrP p b ≤ 26 := by unfold thrP mn mx; split <;> split <;> omega
theorem thr_f (p b : Int) : bias_Threshold.f p b = some (thrP p b) := by
 have h1 : 0 ≤ mn (mx p 0) 1000 ∧ mn (mx p 0) 1000 ≤ 1000 := by unfold mn mx; split <;> split <;> omega
 have h2 : 0 ≤ mn (mx b 0) 1000 ∧ mn (mx b 0) 1000 ≤ 1000 := by unfold mn mx; split <;> split <;> omega
 unfold bias_Threshold.f bias_small.f thrP
 simp only [Option.bind_some]
 rw [w64 (x := mn (mx p 0) 1000 + 1) (by omega) (by omega), w64 (x := 36 * (mn (mx p 0) 1000 + 1)) (by omega) (by omega), w64 (by omega) (by omega)]
def topP : Int := 4611686018427387904
def adK : Nat → Int → Int → Int
 | 0, _, b => b
 | k + 1, x, b => if x > 455 then adK k (x / 35) (b + 36) else b + 36 * x / (x + 38)
def adaptP (delta points : Int) (first : Bool) : Int := adK 100 ((if first then delta / 700 else delta / 2) + (if first then delta / 700 else delta / 2) / points) 0
theorem ad_l0 : ∀ (m : Nat) (x b : Int) (k : Nat), 0 ≤ x → x < 456 * 35 ^ m → x ≤ 9223372036854775807 → 0 ≤ b → b + 36 * m ≤ 100000 → m + 1 ≤ k → ∀ j, m + 1 ≤ j → bias_Adapt.l0 k x b = some (adK j x b)
 | m, x, b, k, h0, hx, hx2, hb, hb2, hk, j, hj => by
  obtain ⟨k, rfl⟩ : ∃ i, k = i + 1 := ⟨k - 1, by omega⟩
  obtain ⟨j, rfl⟩ : ∃ i, j = i + 1 := ⟨j - 1, by omega⟩
  rw [bias_Adapt.l0, adK]
  by_cases h : x > 455
  ·rw [if_pos h, if_pos h, Int.tdiv_eq_ediv_of_nonneg h0, u64 (x := x / 35) (by omega) (by omega), w64 (by omega) (by omega)]
   cases m with
   | zero => simp at hx; omega
   | succ m =>
    refine ad_l0 m (x / 35) (b + 36) k (by omega) ?_ (by omega) (by omega) (by omega) (by omega) j (by omega)
    rw [Int.pow_succ] at hx
    exact Int.ediv_lt_of_lt_mul (by decide) (by rw [Int.mul_assoc]; exact hx)
  ·have e1 : 36 * x / (x + 38) ≤ 36 * x := Int.ediv_le_self _ (by omega)
   have e2 : 0 ≤ 36 * x / (x + 38) := Int.ediv_nonneg (by omega) (by omega)
   rw [if_neg h, if_neg h, u64 (x := x + 38) (by omega) (by omega), if_neg (by omega), u64 (x := 36 * x) (by omega) (by omega), Int.tdiv_eq_ediv_of_nonneg (by omega), u64 e2 (by omega), w64 (x := 36 * x / (x + 38)) (by omega) (by omega), w64 (by omega) (by omega)]
theorem adapt_f (delta points : Int) (first : Bool) (h0 : 0 ≤ delta) (h1 : delta ≤ topP) (hp : 1 ≤ points) (k : Nat) (hk : 30 ≤ k) : bias_Adapt.f k delta points first = some (adaptP delta points first) := by
 have hT : topP = 4611686018427387904 := rfl
 obtain ⟨k, rfl⟩ : ∃ i, k = i + 1 := ⟨k - 1, by omega⟩
 have hmx : mx points 1 = points := by unfold mx; split <;> omega
 have key : ∀ y : Int, 0 ≤ y → y ≤ 2305843009213693952 → (if mx points 1 = 0 then (none : Option Int) else bias_Adapt.l0 k (IntKind.u64.wrap (y + IntKind.u64.wrap (Int.tdiv y (mx points 1)))) 0) = some (adK 100 (y + y / points) 0) := by
  intro y y0 y1
  rw [hmx, if_neg (by omega), Int.tdiv_eq_ediv_of_nonneg y0]
  have e1 : y / points ≤ y := Int.ediv_le_self _ y0
  have e2 : 0 ≤ y / points := Int.ediv_nonneg y0 (by omega)
  rw [u64 e2 (by omega), u64 (by omega) (by omega)]
  exact ad_l0 12 _ 0 k (by omega) (by omega) (by omega) (by omega) (by omega) (by omega) 100 (by omega)
 unfold bias_Adapt.f adaptP
 cases first with
 | true =>
  rw [if_pos rfl, Int.tdiv_eq_ediv_of_nonneg h0, u64 (x := delta / 700) (by omega) (by omega), bias_Adapt.j0]
  simp only [if_true]
  exact key _ (by omega) (by omega)
 | false =>
  rw [if_neg (by decide), Int.tdiv_eq_ediv_of_nonneg h0, u64 (x := delta / 2) (by omega) (by omega), bias_Adapt.j0]
  simp only [Bool.false_eq_true, if_false]
  exact key _ (by omega) (by omega)
def letP (d : Int) : Int := if d < 26 then 97 + d else 22 + d
theorem let_f (k : Nat) (hk : 1 ≤ k) (d : Int) (h0 : 0 ≤ d) (h1 : d < 36) : bias_Letter.f k d = some (letP d, true) := by
 obtain ⟨k, rfl⟩ : ∃ j, k = j + 1 := ⟨k - 1, by omega⟩
 unfold bias_Letter.f letP
 rw [if_neg (by omega), decide_eq_false (by omega), bias_Letter.j0, if_neg (by decide)]
 by_cases h : d < 26
 ·rw [if_pos h, if_pos h]
  congr 2
  omega
 ·rw [if_neg h, if_neg h, w64 (by omega) (by omega)]
  congr 2
  omega
def putI : Nat → Int → Int → Int → List Int
 | 0, _, _, _ => []
 | k + 1, n, b, place => if n < thrP place b then [letP n] else letP (thrP place b + (n - thrP place b) % (36 - thrP place b)) :: putI k ((n - thrP place b) / (36 - thrP place b)) b (place + 1)
theorem let_range {d : Int} (h0 : 0 ≤ d) (h1 : d < 36) : 48 ≤ letP d ∧ letP d ≤ 122 := by unfold letP; split <;> omega
theorem quo_facts {n t : Int} (h0 : t ≤ n) (t0 : 1 ≤ t) (t1 : t ≤ 26) : 0 ≤ (n - t) / (36 - t) ∧ (n - t) / (36 - t) ≤ n / 10 ∧ 0 ≤ (n - t) % (36 - t) ∧ (n - t) % (36 - t) < 36 - t := by
 refine ⟨Int.ediv_nonneg (by omega) (by omega), ?_, Int.emod_nonneg _ (by omega), Int.emod_lt_of_pos _ (by omega)⟩
 have h1 : 0 ≤ (n - t) / (36 - t) := Int.ediv_nonneg (by omega) (by omega)
 have h2 : (n - t) / (36 - t) * (36 - t) ≤ n - t := Int.ediv_mul_le _ (by omega)
 have h3 : (n - t) / (36 - t) * 10 ≤ (n - t) / (36 - t) * (36 - t) := Int.mul_le_mul_of_nonneg_left (by omega) h1
 omega
theorem put_l0 (b : Int) : ∀ (m : Nat) (n place : Int) (acc : List Int) (k : Nat), 0 ≤ n → n < 10 ^ m → n ≤ topP → 0 ≤ place → place + m ≤ 1000 → acc.length + m ≤ 1000 → m + 2 ≤ k →
  bias_Put.l0 k n b acc place = some (strOfNums (acc ++ putI (m + 1) n b place))
 | m, n, place, acc, k, h0, h1, hT, hp0, hp1, ha, hk => by
  obtain ⟨k, rfl⟩ : ∃ j, k = j + 1 := ⟨k - 1, by omega⟩
  have hTT : topP = 4611686018427387904 := rfl
  obtain ⟨t0, t1⟩ := thr_range place b
  rw [bias_Put.l0, thr_f, Option.bind_some, putI]
  generalize thrP place b = t at *
  rw [u64 (x := t) (by omega) (by omega)]
  by_cases hlt : n < t
  ·rw [if_pos hlt, if_pos hlt, w64 (by omega) (by omega), let_f k (by omega) n h0 (by omega), Option.bind_some, if_pos (by omega)]
  ·obtain ⟨q0, q1, r0, r1⟩ := quo_facts (by omega) t0 t1 (n := n)
   have hq : (n - t) / (36 - t) ≤ n - t := Int.ediv_le_self _ (by omega)
   rw [if_neg hlt, if_neg hlt, u64 (x := 36 - t) (by omega) (by omega), if_neg (by omega), u64 (x := n - t) (by omega) (by omega), Int.tmod_eq_emod_of_nonneg (by omega), Int.tdiv_eq_ediv_of_nonneg (by omega)]
   generalize (n - t) / (36 - t) = q at *
   generalize (n - t) % (36 - t) = r at *
   rw [u64 (x := t + r) (by omega) (by omega), w64 (by omega) (by omega), let_f k (by omega) (t + r) (by omega) (by omega), Option.bind_some, if_pos (by omega), u64 (x := q) (by omega) (by omega), w64 (x := place + 1) (by omega) (by omega)]
   cases m with
   | zero => simp at h1; omega
   | succ m =>
    rw [Int.pow_succ] at h1
    rw [put_l0 b m q (place + 1) (acc ++ [letP (t + r)]) k q0 (by omega) (by omega) (by omega) (by omega) (by rw [List.length_append, List.length_singleton]; omega) (by omega)]
    simp
def putL (n b : Int) : List Int := putI 20 n b 0
theorem put_f (n b : Int) (h0 : 0 ≤ n) (h1 : n ≤ topP) : bias_Put.f 30 n b = some (strOfNums (putL n b)) := by
 have hTT : topP = 4611686018427387904 := rfl
 unfold bias_Put.f putL
 rw [put_l0 b 19 n 0 [] 30 h0 (by rw [hTT] at h1; omega) h1 (by omega) (by omega) (by simp) (by omega)]
 simp
theorem putI_len (b : Int) : ∀ (k : Nat) (n place : Int), (putI k n b place).length ≤ k
 | 0, _, _ => Nat.le_refl _
 | k + 1, n, place => by
  rw [putI]
  split
  ·simp
  ·have := putI_len b k ((n - thrP place b) / (36 - thrP place b)) (place + 1)
   simp only [List.length_cons]
   omega
theorem putL_len (n b : Int) : 1 ≤ (putL n b).length ∧ (putL n b).length ≤ 20 := by
 refine ⟨?_, putI_len b 20 n 0⟩
 unfold putL
 rw [putI]
 split <;> simp
theorem putI_range (b : Int) : ∀ (k : Nat) (n place : Int), 0 ≤ n → ∀ x ∈ putI k n b place, 48 ≤ x ∧ x ≤ 122
 | 0, _, _, _, x, h => by cases h
 | k + 1, n, place, h0, x, h => by
  obtain ⟨t0, t1⟩ := thr_range place b
  rw [putI] at h
  split at h
  ·rw [List.mem_singleton.1 h]
   exact let_range h0 (by omega)
  ·obtain ⟨q0, q1, r0, r1⟩ := quo_facts (by omega) t0 t1 (n := n)
   rcases List.mem_cons.1 h with rfl | h
   ·exact let_range (by omega) (by omega)
   ·exact putI_range b k _ _ q0 x h
theorem bytes_str (l : List Int) (h : ∀ x ∈ l, 0 ≤ x ∧ x ≤ 255) : bytesOf (strOfNums l) = l := by
 unfold bytesOf strOfNums
 rw [List.map_map]
 conv => rhs; rw [← List.map_id l]
 refine List.map_congr_left fun x hx => ?_
 have := h x hx
 simp [Function.comp]
 omega
theorem put_c (n b : Int) (h0 : 0 ≤ n) (h1 : n ≤ topP) (w : World) : Calls Tryz.prog 154 #[.int .u64 n, .int .i64 b] w fun e w' => ∃ s : ByteArray, e = .returned (.string s) ∧ (bytesOf s = putL n b ∧ s.size = (putL n b).length) ∧ Below w.heap.size w w' := by
 refine (bias_Put.calls 30 n b _ w (put_f n b h0 h1)).mono ?_
 rintro e w' ⟨rfl, hb⟩
 have hr := bytes_str (putL n b) (fun x hx => by have := putI_range b 20 n 0 h0 x hx; omega)
 exact ⟨_, rfl, ⟨hr, by rw [← bytesOf_length, hr]⟩, hb⟩
end Go.Proofs.YtppchdinolndmaaGreatDoor
