/- Joined texts: Upp, Upt. -/
import Derived.Test.YtppchdinolndmaaGreatMVPPux0
import Derived.Test.YtppchdinolndmaaGreatMBase
namespace Go.Proofs.YtppchdinolndmaaGreat
open Go.RowKit Go.Proofs.YtppchdinolndmaaGreatW.PrintWords Go.Proofs.YtppchdinolndmaaGreatW.PrintLast Go.Proofs.YtppchdinolndmaaGreatW.PrintMore Go.Proofs.YtppchdinolndmaaGreat.PPu
set_option linter.unusedVariables false
set_option linter.unusedSimpArgs false
theorem w64 {x : Int} (h0 : -9223372036854775808 ≤ x) (h1 : x ≤ 9223372036854775807) : wrap64 x = x := by
 unfold wrap64; omega
theorem u64 {x : Int} (h0 : 0 ≤ x) (h1 : x ≤ 18446744073709551615) : IntKind.u64.wrap x = x := by
 have e : IntKind.u64.wrap x = x % 18446744073709551616 := by simp [IntKind.wrap, IntKind.bits, IntKind.signed]
 rw [e]; omega
def digP (c : Int) : Option Int := if 97 ≤ c ∧ c ≤ 122 then some (c - 97) else if 65 ≤ c ∧ c ≤ 90 then some (c - 65) else if 48 ≤ c ∧ c ≤ 57 then some (c - 22) else none
def thrP (place b : Int) : Int := mn (mx (36 * (mn (mx place 0) 1000 + 1) - mn (mx b 0) 1000) 1) 26
theorem thr_range (p b : Int) : 1 ≤ thrP p b ∧ thrP p b ≤ 26 := by unfold thrP mn mx; split <;> split <;> omega
theorem dig_range {c d : Int} (h : digP c = some d) : 0 ≤ d ∧ d ≤ 35 := by
 unfold digP at h
 split at h
 ·injection h with h; omega
 split at h
 ·injection h with h; omega
 split at h
 ·injection h with h; omega
 ·cases h
theorem thr_f (p b : Int) : bias_Threshold.f p b = some (thrP p b) := by
 have h1 : 0 ≤ mn (mx p 0) 1000 ∧ mn (mx p 0) 1000 ≤ 1000 := by unfold mn mx; split <;> split <;> omega
 have h2 : 0 ≤ mn (mx b 0) 1000 ∧ mn (mx b 0) 1000 ≤ 1000 := by unfold mn mx; split <;> split <;> omega
 unfold bias_Threshold.f bias_small.f thrP
 simp only [Option.bind_some]
 rw [w64 (x := mn (mx p 0) 1000 + 1) (by omega) (by omega), w64 (x := 36 * (mn (mx p 0) 1000 + 1)) (by omega) (by omega), w64 (by omega) (by omega)]
theorem dig_f (k : Nat) (hk : 3 ≤ k) (c : Int) (h0 : 0 ≤ c) (h1 : c ≤ 255) : bias_Digit.f k c = some ((digP c).getD 0, (digP c).isSome) := by
 obtain ⟨k, rfl⟩ : ∃ j, k = j + 3 := ⟨k - 3, by omega⟩
 unfold bias_Digit.f digP
 by_cases a : 97 ≤ c
 ·rw [if_pos a]
  by_cases b : c ≤ 122
  ·rw [decide_eq_true b, if_pos ⟨a, b⟩]
   simp [bias_Digit.j0]; omega
  ·rw [decide_eq_false b, if_neg (fun h => b h.2), if_neg (by omega), if_neg (by omega)]
   simp only [bias_Digit.j0, Bool.false_eq_true, if_false]
   rw [if_pos (by omega), decide_eq_false (by omega)]
   simp only [bias_Digit.j1, Bool.false_eq_true, if_false]
   rw [if_pos (by omega), if_neg (by omega)]; rfl
 ·rw [if_neg a, if_neg (fun h => a h.1)]
  simp only [bias_Digit.j0, Bool.false_eq_true, if_false]
  by_cases b : 65 ≤ c
  ·rw [if_pos b]
   by_cases d : c ≤ 90
   ·rw [decide_eq_true d, if_pos ⟨b, d⟩]
    simp [bias_Digit.j1]; omega
   ·rw [decide_eq_false d, if_neg (fun h => d h.2), if_neg (by omega)]
    simp only [bias_Digit.j1, Bool.false_eq_true, if_false]
    rw [if_pos (by omega), if_neg (by omega)]; rfl
  ·rw [if_neg b, if_neg (fun h => b h.1)]
   simp only [bias_Digit.j1, Bool.false_eq_true, if_false]
   by_cases d : 48 ≤ c
   ·rw [if_pos d]
    by_cases e : c ≤ 57
    ·rw [if_pos e, if_pos ⟨d, e⟩]
     simp only [Option.getD_some, Option.isSome_some]
     congr 2
     omega
    ·rw [if_neg e, if_neg (fun h => e h.2)]; rfl
   ·rw [if_neg d, if_neg (fun h => d h.1)]; rfl
def topP : Int := 4611686018427387904
def getI (s : ByteArray) (b : Int) : Nat → Int → Int → Int → Int → Option (Int × Int)
 | 0, _, _, _, _ => none
 | k + 1, at_, n, w, place =>
  if at_ = (s.size : Int) then none else
  match digP (bt s at_) with
  | none => none
  | some d =>
   if topP < n + d * w then none
   else if d < thrP place b then some (n + d * w, at_ + 1)
   else getI s b k (at_ + 1) (n + d * w) (if topP < w * (36 - thrP place b) then topP + 1 else w * (36 - thrP place b)) (place + 1)
def GetIs (o : Option (Int × Int)) (r : Option (Int × Int × Int)) : Prop :=
 match o with
 | some (v, e) => r = some (v, e, 0)
 | none => ∃ er, er ≠ 0 ∧ r = some (0, 0, er)
theorem div_lt {w x d : Int} (hd : 0 < d) (hx : 0 ≤ x) : x / d < w ↔ x < w * d := by
 rw [Int.ediv_lt_iff_lt_mul hd]
theorem get_l0 (s : ByteArray) (b : Int) (hs : s.size ≤ 1000000000) : ∀ (m : Nat) (at_ n w place : Int) (k : Nat), 0 ≤ at_ → at_ + m = s.size → 0 ≤ n → n ≤ topP → 1 ≤ w → w ≤ topP + 1 → 0 ≤ place → place + m ≤ 1000000000 → 2 * m + 6 ≤ k →
  GetIs (getI s b (m + 1) at_ n w place) (bias_Get.l0 k s at_ b n w place)
 | m, at_, n, w, place, k, ha, hm, hn0, hn1, hw0, hw1, hp0, hp1, hk => by
  obtain ⟨k, rfl⟩ : ∃ j, k = j + 2 := ⟨k - 2, by omega⟩
  have hT : topP = 4611686018427387904 := rfl
  rw [bias_Get.l0, getI]
  by_cases he : at_ = (s.size : Int)
  ·rw [if_pos he, if_pos he]
   exact ⟨4, by decide, rfl⟩
  ·rw [if_neg he, if_neg he, if_pos ha, if_pos (show at_ < (s.size : Int) by omega)]
   have hb := bt_range s at_
   rw [dig_f (k + 1) (by omega) _ hb.1 hb.2, Option.bind_some]
   cases hd : digP (bt s at_) with
   | none => exact ⟨3, by decide, rfl⟩
   | some d =>
    obtain ⟨d0, d1⟩ := dig_range hd
    simp only [Option.isSome_some, Option.getD_some, if_true]
    have hdw : 0 ≤ d * w := Int.mul_nonneg d0 (by omega)
    have hj : (if d > 0 then (if IntKind.u64.wrap d = 0 then none else bias_Get.j2 (k + 1) s at_ b n w place d (decide (w > IntKind.u64.wrap (Int.tdiv (IntKind.u64.wrap (4611686018427387904 - n)) (IntKind.u64.wrap d))))) else bias_Get.j2 (k + 1) s at_ b n w place d false) = bias_Get.j2 (k + 1) s at_ b n w place d (decide (topP < n + d * w)) := by
     by_cases hz : d > 0
     ·rw [if_pos hz, u64 (x := d) (by omega) (by omega), if_neg (by omega), u64 (x := 4611686018427387904 - n) (by omega) (by omega), Int.tdiv_eq_ediv_of_nonneg (by omega)]
      have h1 : 0 ≤ (4611686018427387904 - n) / d := Int.ediv_nonneg (by omega) (by omega)
      have h2 : (4611686018427387904 - n) / d ≤ 4611686018427387904 - n := Int.ediv_le_self _ (by omega)
      rw [u64 h1 (by omega)]
      congr 1
      rw [decide_eq_decide]
      show (4611686018427387904 - n) / d < w ↔ _
      rw [div_lt hz (by omega), Int.mul_comm w d]
      omega
     ·have hd0 : d = 0 := by omega
      subst hd0
      rw [if_neg hz, decide_eq_false (by omega)]
    rw [hj, bias_Get.j2]
    by_cases ht : topP < n + d * w
    ·rw [decide_eq_true ht, if_pos rfl, if_pos ht]
     exact ⟨5, by decide, rfl⟩
    ·rw [decide_eq_false ht, if_neg ht, if_neg (show ¬ (false = true) by decide), thr_f, Option.bind_some]
     obtain ⟨t0, t1⟩ := thr_range place b
     have hdw1 : d * w ≤ topP := by omega
     rw [u64 (x := d) (by omega) (by omega), u64 (x := d * w) hdw (by omega), u64 (x := n + d * w) (by omega) (by omega), w64 (x := at_ + 1) (by omega) (by omega)]
     generalize hth : thrP place b = t at *
     by_cases hlt : d < t
     ·rw [if_pos hlt, if_pos hlt]; rfl
     ·rw [if_neg hlt, if_neg hlt, w64 (x := 36 - t) (by omega) (by omega), u64 (x := 36 - t) (by omega) (by omega), if_neg (show ¬ (36 - t = 0) by omega), w64 (x := place + 1) (by omega) (by omega)]
      have h1 : 0 ≤ (4611686018427387904 : Int) / (36 - t) := Int.ediv_nonneg (by omega) (by omega)
      have h2 : (4611686018427387904 : Int) / (36 - t) ≤ 4611686018427387904 := Int.ediv_le_self _ (by omega)
      rw [u64 h1 (by omega)]
      obtain ⟨m, rfl⟩ : ∃ j, m = j + 1 := ⟨m - 1, by omega⟩
      have hiff : (4611686018427387904 : Int) / (36 - t) < w ↔ topP < w * (36 - t) := by rw [div_lt (by omega) (by omega)]; exact Iff.rfl
      have hwp : 1 ≤ w * (36 - t) := by
       have := Int.mul_le_mul (a := 1) (b := 1) (c := w) (d := 36 - t) hw0 (by omega) (by omega) (by omega)
       omega
      by_cases hg : topP < w * (36 - t)
      ·rw [if_pos (hiff.2 hg), if_pos hg]
       exact get_l0 s b hs m (at_ + 1) (n + d * w) (topP + 1) (place + 1) k (by omega) (by omega) (by omega) (by omega) (by omega) (by omega) (by omega) (by omega) (by omega)
      ·rw [if_neg (fun h => hg (hiff.1 h)), if_neg hg, u64 (x := w * (36 - t)) (by omega) (by omega)]
       exact get_l0 s b hs m (at_ + 1) (n + d * w) (w * (36 - t)) (place + 1) k (by omega) (by omega) (by omega) (by omega) (by omega) (by omega) (by omega) (by omega) (by omega)
def getP (s : ByteArray) (at_ b : Int) : Option (Int × Int) := getI s b ((s.size : Int) - at_).toNat.succ at_ 0 1 0
theorem get_f (s : ByteArray) (b at_ : Int) (hs : s.size ≤ 1000000000) (h0 : 0 ≤ at_) (h1 : at_ ≤ s.size) (k : Nat) (hk : 2 * s.size + 10 ≤ k) : GetIs (getP s at_ b) (bias_Get.f k s at_ b) := by
 obtain ⟨k, rfl⟩ : ∃ j, k = j + 1 := ⟨k - 1, by omega⟩
 unfold bias_Get.f getP
 rw [if_neg (by omega), decide_eq_false (by omega), bias_Get.j0, if_neg (by decide)]
 exact get_l0 s b hs ((s.size : Int) - at_).toNat at_ 0 1 0 k h0 (by omega) (by omega) (by decide) (by omega) (by decide) (by omega) (by omega) (by omega)
theorem getI_range (s : ByteArray) (b : Int) : ∀ (k : Nat) (at_ n w place v e : Int), 0 ≤ n → 1 ≤ w → getI s b k at_ n w place = some (v, e) → 0 ≤ v ∧ v ≤ topP ∧ at_ < e ∧ (at_ ≤ s.size → e ≤ s.size)
 | 0, _, _, _, _, _, _, _, _, h => by cases h
 | k + 1, at_, n, w, place, v, e, hn, hw, h => by
  rw [getI] at h
  split at h
  ·cases h
  rename_i hne
  cases hd : digP (bt s at_) with
  | none => rw [hd] at h; cases h
  | some d =>
   rw [hd] at h
   obtain ⟨d0, d1⟩ := dig_range hd
   have hdw : 0 ≤ d * w := Int.mul_nonneg d0 (by omega)
   obtain ⟨t0, t1⟩ := thr_range place b
   simp only at h
   split at h
   ·cases h
   split at h
   ·injection h with h
    injection h with h1 h2
    refine ⟨by omega, by omega, by omega, fun _ => by omega⟩
   ·have hwp : 1 ≤ w * (36 - thrP place b) := by
     have := Int.mul_le_mul (a := 1) (b := 1) (c := w) (d := 36 - thrP place b) hw (by omega) (by omega) (by omega)
     omega
    have := getI_range s b k (at_ + 1) (n + d * w) _ (place + 1) v e (by omega) (by split <;> (first | exact hwp | decide)) h
    refine ⟨this.1, this.2.1, by omega, fun _ => this.2.2.2 (by omega)⟩
theorem getP_range {s : ByteArray} {b at_ v e : Int} (h : getP s at_ b = some (v, e)) : 0 ≤ v ∧ v ≤ topP ∧ at_ < e ∧ (at_ ≤ s.size → e ≤ s.size) := getI_range s b _ at_ 0 1 0 v e (by omega) (by omega) h
def adK : Nat → Int → Int → Int
 | 0, _, b => b
 | k + 1, x, b => if x > 455 then adK k (x / 35) (b + 36) else b + 36 * x / (x + 38)
def adaptP (delta points : Int) (first : Bool) : Int := adK 100 ((if first then delta / 700 else delta / 2) + (if first then delta / 700 else delta / 2) / points) 0
theorem ad_l0 : ∀ (m : Nat) (x b : Int) (k : Nat), 0 ≤ x → x < 456 * 35 ^ m → x ≤ 9223372036854775807 → 0 ≤ b → b + 36 * m ≤ 100000 → m + 1 ≤ k → ∀ j, m + 1 ≤ j → bias_Adapt.l0 k x b = some (adK j x b)
 | m, x, b, k, h0, hx, hx2, hb, hb2, hk, j, hj => by
  obtain ⟨k, rfl⟩ : ∃ i, k = i + 1 := ⟨k - 1, by omega⟩
  obtain ⟨j, rfl⟩ : ∃ i, j = i + 1 := ⟨j - 1, by omega⟩
  rw [bias_Adapt.l0, adK]
  by_cases h : x > 455
  ·rw [if_pos h, if_pos h, Int.tdiv_eq_ediv_of_nonneg h0, u64 (x := x / 35) (by omega) (by omega), w64 (by omega) (by omega)]
   cases m with
   | zero => simp at hx; omega
   | succ m =>
    refine ad_l0 m (x / 35) (b + 36) k (by omega) ?_ (by omega) (by omega) (by omega) (by omega) j (by omega)
    rw [Int.pow_succ] at hx
    exact Int.ediv_lt_of_lt_mul (by decide) (by rw [Int.mul_assoc]; exact hx)
  ·have e1 : 36 * x / (x + 38) ≤ 36 * x := Int.ediv_le_self _ (by omega)
   have e2 : 0 ≤ 36 * x / (x + 38) := Int.ediv_nonneg (by omega) (by omega)
   rw [if_neg h, if_neg h, u64 (x := x + 38) (by omega) (by omega), if_neg (by omega), u64 (x := 36 * x) (by omega) (by omega), Int.tdiv_eq_ediv_of_nonneg (by omega), u64 e2 (by omega), w64 (x := 36 * x / (x + 38)) (by omega) (by omega), w64 (by omega) (by omega)]
theorem adapt_f (delta points : Int) (first : Bool) (h0 : 0 ≤ delta) (h1 : delta ≤ topP) (hp : 1 ≤ points) (k : Nat) (hk : 30 ≤ k) : bias_Adapt.f k delta points first = some (adaptP delta points first) := by
 have hT : topP = 4611686018427387904 := rfl
 obtain ⟨k, rfl⟩ : ∃ i, k = i + 1 := ⟨k - 1, by omega⟩
 have hmx : mx points 1 = points := by unfold mx; split <;> omega
 have key : ∀ y : Int, 0 ≤ y → y ≤ 2305843009213693952 → (if mx points 1 = 0 then (none : Option Int) else bias_Adapt.l0 k (IntKind.u64.wrap (y + IntKind.u64.wrap (Int.tdiv y (mx points 1)))) 0) = some (adK 100 (y + y / points) 0) := by
  intro y y0 y1
  rw [hmx, if_neg (by omega), Int.tdiv_eq_ediv_of_nonneg y0]
  have e1 : y / points ≤ y := Int.ediv_le_self _ y0
  have e2 : 0 ≤ y / points := Int.ediv_nonneg y0 (by omega)
  rw [u64 e2 (by omega), u64 (by omega) (by omega)]
  exact ad_l0 12 _ 0 k (by omega) (by omega) (by omega) (by omega) (by omega) (by omega) 100 (by omega)
 unfold bias_Adapt.f adaptP
 cases first with
 | true =>
  rw [if_pos rfl, Int.tdiv_eq_ediv_of_nonneg h0, u64 (x := delta / 700) (by omega) (by omega), bias_Adapt.j0]
  simp only [if_true]
  exact key _ (by omega) (by omega)
 | false =>
  rw [if_neg (by decide), Int.tdiv_eq_ediv_of_nonneg h0, u64 (x := delta / 2) (by omega) (by omega), bias_Adapt.j0]
  simp only [Bool.false_eq_true, if_false]
  exact key _ (by omega) (by omega)
def lastP (s : ByteArray) (c : Int) : Nat → Int
 | 0 => -1
 | k + 1 => if bt s k = c then (k : Int) else lastP s c k
theorem last_l0 (s : ByteArray) (c : Int) (hs : s.size ≤ 1000000000) : ∀ (m k : Nat), m ≤ s.size → m + 1 ≤ k → bytealg_LastIndexByteString.l0 k s c ((m : Int) - 1) = some (lastP s c m)
 | 0, k, _, hk => by
  obtain ⟨k, rfl⟩ : ∃ i, k = i + 1 := ⟨k - 1, by omega⟩
  rw [bytealg_LastIndexByteString.l0, if_neg (by omega)]; rfl
 | m + 1, k, hm, hk => by
  obtain ⟨k, rfl⟩ : ∃ i, k = i + 1 := ⟨k - 1, by omega⟩
  have e : ((m + 1 : Nat) : Int) - 1 = m := by omega
  rw [bytealg_LastIndexByteString.l0, e, if_pos (by omega), if_pos (by omega), if_pos (by omega), lastP]
  by_cases h : bt s m = c
  ·rw [if_pos h, if_pos h]
  ·rw [if_neg h, if_neg h, w64 (by omega) (by omega)]
   exact last_l0 s c hs m k (by omega) (by omega)
theorem last_f (s : ByteArray) (c : Int) (hs : s.size ≤ 1000000000) (k : Nat) (hk : s.size + 1 ≤ k) : strings_LastIndexByte.f k s c = some (lastP s c s.size) := by
 unfold strings_LastIndexByte.f bytealg_LastIndexByteString.f
 rw [w64 (by omega) (by omega), last_l0 s c hs s.size k (Nat.le_refl _) hk]; rfl
def letP (d : Int) : Int := if d < 26 then 97 + d else 22 + d
theorem let_f (k : Nat) (hk : 1 ≤ k) (d : Int) (h0 : 0 ≤ d) (h1 : d < 36) : bias_Letter.f k d = some (letP d, true) := by
 obtain ⟨k, rfl⟩ : ∃ j, k = j + 1 := ⟨k - 1, by omega⟩
 unfold bias_Letter.f letP
 rw [if_neg (by omega), decide_eq_false (by omega), bias_Letter.j0, if_neg (by decide)]
 by_cases h : d < 26
 ·rw [if_pos h, if_pos h]
  congr 2
  omega
 ·rw [if_neg h, if_neg h, w64 (by omega) (by omega)]
  congr 2
  omega
def putI : Nat → Int → Int → Int → List Int
 | 0, _, _, _ => []
 | k + 1, n, b, place => if n < thrP place b then [letP n] else letP (thrP place b + (n - thrP place b) % (36 - thrP place b)) :: putI k ((n - thrP place b) / (36 - thrP place b)) b (place + 1)
theorem let_range {d : Int} (h0 : 0 ≤ d) (h1 : d < 36) : 48 ≤ letP d ∧ letP d ≤ 122 := by unfold letP; split <;> omega
theorem quo_facts {n t : Int} (h0 : t ≤ n) (t0 : 1 ≤ t) (t1 : t ≤ 26) : 0 ≤ (n - t) / (36 - t) ∧ (n - t) / (36 - t) ≤ n / 10 ∧ 0 ≤ (n - t) % (36 - t) ∧ (n - t) % (36 - t) < 36 - t := by
 refine ⟨Int.ediv_nonneg (by omega) (by omega), ?_, Int.emod_nonneg _ (by omega), Int.emod_lt_of_pos _ (by omega)⟩
 have h1 : 0 ≤ (n - t) / (36 - t) := Int.ediv_nonneg (by omega) (by omega)
 have h2 : (n - t) / (36 - t) * (36 - t) ≤ n - t := Int.ediv_mul_le _ (by omega)
 have h3 : (n - t) / (36 - t) * 10 ≤ (n - t) / (36 - t) * (36 - t) := Int.mul_le_mul_of_nonneg_left (by omega) h1
 omega
theorem put_l0 (b : Int) : ∀ (m : Nat) (n place : Int) (acc : List Int) (k : Nat), 0 ≤ n → n < 10 ^ m → n ≤ topP → 0 ≤ place → place + m ≤ 1000 → acc.length + m ≤ 1000 → m + 2 ≤ k →
  bias_Put.l0 k n b acc place = some (strOfNums (acc ++ putI (m + 1) n b place))
 | m, n, place, acc, k, h0, h1, hT, hp0, hp1, ha, hk => by
  obtain ⟨k, rfl⟩ : ∃ j, k = j + 1 := ⟨k - 1, by omega⟩
  have hTT : topP = 4611686018427387904 := rfl
  obtain ⟨t0, t1⟩ := thr_range place b
  rw [bias_Put.l0, thr_f, Option.bind_some, putI]
  generalize thrP place b = t at *
  rw [u64 (x := t) (by omega) (by omega)]
  by_cases hlt : n < t
  ·rw [if_pos hlt, if_pos hlt, w64 (by omega) (by omega), let_f k (by omega) n h0 (by omega), Option.bind_some, if_pos (by omega)]
  ·obtain ⟨q0, q1, r0, r1⟩ := quo_facts (by omega) t0 t1 (n := n)
   have hq : (n - t) / (36 - t) ≤ n - t := Int.ediv_le_self _ (by omega)
   rw [if_neg hlt, if_neg hlt, u64 (x := 36 - t) (by omega) (by omega), if_neg (by omega), u64 (x := n - t) (by omega) (by omega), Int.tmod_eq_emod_of_nonneg (by omega), Int.tdiv_eq_ediv_of_nonneg (by omega)]
   generalize (n - t) / (36 - t) = q at *
   generalize (n - t) % (36 - t) = r at *
   rw [u64 (x := t + r) (by omega) (by omega), w64 (by omega) (by omega), let_f k (by omega) (t + r) (by omega) (by omega), Option.bind_some, if_pos (by omega), u64 (x := q) (by omega) (by omega), w64 (x := place + 1) (by omega) (by omega)]
   cases m with
   | zero => simp at h1; omega
   | succ m =>
    rw [Int.pow_succ] at h1
    rw [put_l0 b m q (place + 1) (acc ++ [letP (t + r)]) k q0 (by omega) (by omega) (by omega) (by omega) (by rw [List.length_append, List.length_singleton]; omega) (by omega)]
    simp
def putL (n b : Int) : List Int := putI 20 n b 0
theorem put_f (n b : Int) (h0 : 0 ≤ n) (h1 : n ≤ topP) : bias_Put.f 30 n b = some (strOfNums (putL n b)) := by
 have hTT : topP = 4611686018427387904 := rfl
 unfold bias_Put.f putL
 rw [put_l0 b 19 n 0 [] 30 h0 (by rw [hTT] at h1; omega) h1 (by omega) (by omega) (by simp) (by omega)]
 simp
theorem putI_len (b : Int) : ∀ (k : Nat) (n place : Int), (putI k n b place).length ≤ k
 | 0, _, _ => Nat.le_refl _
 | k + 1, n, place => by
  rw [putI]
  split
  ·simp
  ·have := putI_len b k ((n - thrP place b) / (36 - thrP place b)) (place + 1)
   simp only [List.length_cons]
   omega
theorem putL_len (n b : Int) : 1 ≤ (putL n b).length ∧ (putL n b).length ≤ 20 := by
 refine ⟨?_, putI_len b 20 n 0⟩
 unfold putL
 rw [putI]
 split <;> simp
theorem putI_range (b : Int) : ∀ (k : Nat) (n place : Int), 0 ≤ n → ∀ x ∈ putI k n b place, 48 ≤ x ∧ x ≤ 122
 | 0, _, _, _, x, h => by cases h
 | k + 1, n, place, h0, x, h => by
  obtain ⟨t0, t1⟩ := thr_range place b
  rw [putI] at h
  split at h
  ·rw [List.mem_singleton.1 h]
   exact let_range h0 (by omega)
  ·obtain ⟨q0, q1, r0, r1⟩ := quo_facts (by omega) t0 t1 (n := n)
   rcases List.mem_cons.1 h with rfl | h
   ·exact let_range (by omega) (by omega)
   ·exact putI_range b k _ _ q0 x h
theorem bytes_str (l : List Int) (h : ∀ x ∈ l, 0 ≤ x ∧ x ≤ 255) : bytesOf (strOfNums l) = l := by
 unfold bytesOf strOfNums
 rw [List.map_map]
 conv => rhs; rw [← List.map_id l]
 refine List.map_congr_left fun x hx => ?_
 have := h x hx
 simp [Function.comp]
 omega
theorem put_c (n b : Int) (h0 : 0 ≤ n) (h1 : n ≤ topP) (w : World) : Calls Tryz.prog 127 #[.int .u64 n, .int .i64 b] w fun e w' => ∃ s : ByteArray, e = .returned (.string s) ∧ (bytesOf s = putL n b ∧ s.size = (putL n b).length) ∧ Below w.heap.size w w' := by
 refine (bias_Put.calls 30 n b _ w (put_f n b h0 h1)).mono ?_
 rintro e w' ⟨rfl, hb⟩
 have hr := bytes_str (putL n b) (fun x hx => by have := putI_range b 20 n 0 h0 x hx; omega)
 exact ⟨_, rfl, ⟨hr, by rw [← bytesOf_length, hr]⟩, hb⟩
end Go.Proofs.YtppchdinolndmaaGreat
