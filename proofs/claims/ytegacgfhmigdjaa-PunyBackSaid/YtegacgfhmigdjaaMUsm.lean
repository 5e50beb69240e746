/- Joined texts: Usm, Ub1. -/
import Derived.Test.YtegacgfhmigdjaaMUsj
import Derived.Test.YtegacgfhmigdjaaMUins
import Derived.Test.YtegacgfhmigdjaaPPux7
import Derived.Test.YtegacgfhmigdjaaMUps
/- pilcrowref10.Small, walked; a text and that with small letters denote the same. -/
namespace Go.Proofs.Ytegacgfhmigdjaa
open Go.RowKit Go.Proofs.YtegacgfhmigdjaaW.PrintWords Go.Proofs.YtegacgfhmigdjaaW.PrintLast Go.Proofs.YtegacgfhmigdjaaW.PrintMore Go.Proofs.Ytegacgfhmigdjaa.PPu
set_option linter.unusedVariables false
set_option linter.unusedSimpArgs false

theorem bt_bytes (s : ByteArray) (i : Nat) : bt s (i : Int) = (bytesOf s).getD i 0 := by
  unfold bytesOf
  by_cases h : i < s.size
  · rw [← bt_at s (i : Int) (by rw [Int.toNat_natCast]; exact h)]
    have h2 : i < s.data.toList.length := h
    rw [List.getD_eq_getElem?_getD, List.getElem?_map, List.getElem?_eq_getElem h2]
    simp
    rfl
  · have h2 : ¬ i < s.data.toList.length := h
    rw [List.getD_eq_getElem?_getD, List.getElem?_map, List.getElem?_eq_none (by omega)]
    unfold bt
    rw [dif_neg (by rw [Int.toNat_natCast]; exact h)]
    rfl
theorem bt_str (l : List Int) (h : ∀ x ∈ l, 0 ≤ x ∧ x ≤ 255) (i : Nat) : bt (strOfNums l) (i : Int) = l.getD i 0 := by rw [bt_bytes, bytes_str l h]
theorem str_size (l : List Int) : (strOfNums l).size = l.length := by
  unfold strOfNums
  show (List.toArray _).size = _
  simp
theorem str_app (a b : List Int) : strOfNums a ++ strOfNums b = strOfNums (a ++ b) := by
  unfold strOfNums
  apply ByteArray.ext
  simp
theorem pre_range (s : ByteArray) (n : Nat) : ∀ x ∈ preL s n, 0 ≤ x ∧ x ≤ 255 := by
  intro x hx
  unfold preL at hx
  obtain ⟨j, _, rfl⟩ := List.mem_map.1 hx
  exact bt_range s _
theorem pre_ext (s : ByteArray) (m n : Nat) (h : m + n ≤ s.size) : preL (s.extract m (m + n)) n = (List.range n).map fun (j : Nat) => bt s ((m + j : Nat) : Int) := by
  unfold preL
  refine List.map_congr_left fun j hj => ?_
  rw [List.mem_range] at hj
  exact bt_extract s m (m + n) j h (by omega)
theorem ext_str (s : ByteArray) (m n : Nat) (h : m + n ≤ s.size) : s.extract m (m + n) = strOfNums ((List.range n).map fun (j : Nat) => bt s ((m + j : Nat) : Int)) := by
  rw [← pre_ext s m n h]
  have e : (s.extract m (m + n)).size = n := by rw [ByteArray.size_extract]; omega
  conv => lhs; rw [← strOf_bytes (s.extract m (m + n)), e]
def lowB (c : Int) : Int := if 65 ≤ c ∧ c ≤ 90 then c + 32 else c
theorem lowB_range {c : Int} (h : 0 ≤ c ∧ c ≤ 255) : 0 ≤ lowB c ∧ lowB c ≤ 255 := by unfold lowB; split <;> omega
theorem low_dig (c : Int) : digP (lowB c) = digP c := by
  unfold lowB
  split
  · rename_i h
    unfold digP
    rw [if_pos (by omega), if_neg (by omega), if_pos h]
    congr 1
    omega
  · rfl
theorem small_l0 (s : ByteArray) (hs : s.size ≤ 1000000) : ∀ (m i : Nat) (acc : List Int) (k : Nat), i + m = s.size → acc.length ≤ i → m + 1 ≤ k →
    pilcrowref09_Small.l0 k s acc i = some (strOfNums (acc ++ (List.range m).map fun (j : Nat) => lowB (bt s ((i + j : Nat) : Int))))
  | 0, i, acc, k, hi, ha, hk => by
    obtain ⟨k, rfl⟩ : ∃ j, k = j + 1 := ⟨k - 1, by omega⟩
    rw [pilcrowref09_Small.l0, if_neg (by omega)]
    simp
  | m + 1, i, acc, k, hi, ha, hk => by
    obtain ⟨k, rfl⟩ : ∃ j, k = j + 1 := ⟨k - 1, by omega⟩
    have hrec := fun x => small_l0 s hs m (i + 1) (acc ++ [x]) k (by omega) (by rw [List.length_append, List.length_singleton]; omega) (by omega)
    have hr : (List.range (m + 1)).map (fun (j : Nat) => lowB (bt s ((i + j : Nat) : Int))) = lowB (bt s (i : Int)) :: (List.range m).map (fun (j : Nat) => lowB (bt s ((i + 1 + j : Nat) : Int))) := by
      rw [List.range_succ_eq_map, List.map_cons, List.map_map, Nat.add_zero]
      congr 1
      refine List.map_congr_left fun j _ => ?_
      simp only [Function.comp]
      rw [show i + j.succ = i + 1 + j by omega]
    have hb := bt_range s (i : Int)
    rw [pilcrowref09_Small.l0, if_pos (by omega), if_pos (by omega), w64 (by omega) (by omega), hr]
    have hgo : ∀ x, pilcrowref09_Small.l0 k s (acc ++ [x]) ((i : Int) + 1) = some (strOfNums (acc ++ x :: (List.range m).map fun (j : Nat) => lowB (bt s ((i + 1 + j : Nat) : Int)))) := by
      intro x
      have := hrec x
      rw [List.append_assoc] at this
      exact this
    by_cases h1 : bt s (i : Int) ≥ 65
    · rw [if_pos h1]
      by_cases h2 : bt s (i : Int) ≤ 90
      · rw [if_pos h2, if_pos (by omega), hgo]
        have : (bt s (i : Int) + 32) % 256 = lowB (bt s (i : Int)) := by unfold lowB; rw [if_pos ⟨h1, h2⟩]; omega
        rw [this]
      · rw [if_neg h2, if_pos (by omega), hgo]
        have : bt s (i : Int) = lowB (bt s (i : Int)) := by unfold lowB; rw [if_neg (fun h => h2 h.2)]
        rw [← this]
    · rw [if_neg h1, if_pos (by omega), hgo]
      have : bt s (i : Int) = lowB (bt s (i : Int)) := by unfold lowB; rw [if_neg (fun h => h1 h.1)]
      rw [← this]
theorem small09_c (s : ByteArray) (hs : s.size ≤ 1000000) (w : World) : Calls Try.prog 30 #[.string s] w fun e w' => e = .returned (.string (strOfNums ((List.range s.size).map fun (j : Nat) => lowB (bt s (j : Int))))) ∧ Below w.heap.size w w' := by
  refine pilcrowref09_Small.calls (s.size + 1) s _ w ?_
  unfold pilcrowref09_Small.f
  have h := small_l0 s hs s.size 0 [] (s.size + 1) (by omega) (by simp) (Nat.le_refl _)
  simp only [Nat.zero_add, List.nil_append] at h
  exact h
/-- Where the digits begin. -/
def hypN (s : ByteArray) : Nat := (hyp (lastP s 45 s.size)).toNat
theorem hypN_le (s : ByteArray) : hypN s ≤ s.size := by
  unfold hypN hyp
  have := last_range s 45 s.size
  split <;> omega
/-- A text with small letters among its digits. -/
def smallL (s : ByteArray) : List Int := (List.range s.size).map fun (j : Nat) => if j < hypN s then bt s (j : Int) else lowB (bt s (j : Int))
def smallB (s : ByteArray) : ByteArray := strOfNums (smallL s)
theorem small_len (s : ByteArray) : (smallL s).length = s.size := by simp [smallL]
theorem small_range (s : ByteArray) : ∀ x ∈ smallL s, 0 ≤ x ∧ x ≤ 255 := by
  intro x hx
  unfold smallL at hx
  obtain ⟨j, _, rfl⟩ := List.mem_map.1 hx
  split
  · exact bt_range s _
  · exact lowB_range (bt_range s _)
theorem small_size (s : ByteArray) : (smallB s).size = s.size := by unfold smallB; rw [str_size, small_len]
theorem small_bt (s : ByteArray) (i : Nat) : bt (smallB s) (i : Int) = if i < hypN s then bt s (i : Int) else lowB (bt s (i : Int)) := by
  unfold smallB
  rw [bt_str _ (small_range s)]
  unfold smallL
  rw [List.getD_eq_getElem?_getD, List.getElem?_map]
  by_cases h : i < s.size
  · rw [List.getElem?_range h]
    rfl
  · rw [List.getElem?_eq_none (by simpa using h)]
    have hh := hypN_le s
    rw [if_neg (by omega)]
    unfold bt
    rw [dif_neg (by rw [Int.toNat_natCast]; exact h)]
    rfl
theorem small_parts (s : ByteArray) : s.extract 0 (hypN s) ++ strOfNums ((List.range (s.extract (hypN s) s.size).size).map fun (j : Nat) => lowB (bt (s.extract (hypN s) s.size) (j : Int))) = smallB s := by
  have hh := hypN_le s
  obtain ⟨n, hn⟩ : ∃ n, s.size = hypN s + n := ⟨s.size - hypN s, by omega⟩
  have e1 := ext_str s 0 (hypN s) (by omega)
  rw [Nat.zero_add] at e1
  have hz : (s.extract (hypN s) s.size).size = n := by rw [ByteArray.size_extract]; omega
  rw [e1, hz, str_app]
  unfold smallB smallL
  congr 1
  apply List.ext_getElem
  · simp; omega
  · intro j h1 h2
    simp only [List.length_append, List.length_map, List.length_range] at h1
    by_cases hj : j < hypN s
    · rw [List.getElem_append_left (by simpa using hj)]
      simp [hj]
    · rw [List.getElem_append_right (by simpa using hj)]
      simp only [List.getElem_map, List.getElem_range, List.length_map, List.length_range]
      rw [if_neg hj]
      have hb := bt_extract s (hypN s) (hypN s + n) (j - hypN s) (by omega) (by omega)
      rw [← hn] at hb
      rw [hb, show hypN s + (j - hypN s) = j by omega]
/-! ### Two texts of the same digits denote the same -/
theorem getI_congr (s s' : ByteArray) (hz : s'.size = s.size) (h : ∀ i : Nat, digP (bt s' (i : Int)) = digP (bt s (i : Int))) (b : Int) : ∀ (k : Nat) (a n w place : Int), 0 ≤ a → getI s' b k a n w place = getI s b k a n w place
  | 0, _, _, _, _, _ => rfl
  | k + 1, a, n, w, place, ha => by
    have hd := h a.toNat
    rw [Int.toNat_of_nonneg ha] at hd
    rw [getI, getI, hz, hd]
    split
    · rfl
    · cases digP (bt s a) with
      | none => rfl
      | some d =>
        simp only
        split
        · rfl
        · split
          · rfl
          · exact getI_congr s s' hz h b k _ _ _ _ (by omega)
theorem denGo_congr (s s' : ByteArray) (hz : s'.size = s.size) (h : ∀ i : Nat, digP (bt s' (i : Int)) = digP (bt s (i : Int))) : ∀ (k : Nat) (a : Int) (l : List Int) (n i b : Int) (once : Bool), 0 ≤ a → denGo s' k a l n i b once = denGo s k a l n i b once
  | 0, _, _, _, _, _, _, _ => rfl
  | k + 1, a, l, n, i, b, once, ha => by
    have hg : getP s' a b = getP s a b := by
      unfold getP
      rw [hz]
      exact getI_congr s s' hz h b _ _ _ _ _ ha
    rw [denGo, denGo, hz, hg]
    split
    · cases hgp : getP s a b with
      | none => rfl
      | some x =>
        obtain ⟨v, e⟩ := x
        have he := (getP_range hgp).2.2.1
        simp only
        split
        · exact denGo_congr s s' hz h k e _ _ _ _ _ (by omega)
        · rfl
    · rfl
theorem small_45 (s : ByteArray) (i : Nat) : bt (smallB s) (i : Int) = 45 ↔ bt s (i : Int) = 45 := by
  rw [small_bt]
  split
  · exact Iff.rfl
  · unfold lowB
    split <;> omega
theorem small_last (s : ByteArray) : ∀ m, lastP (smallB s) 45 m = lastP s 45 m
  | 0 => rfl
  | m + 1 => by
    rw [lastP, lastP, small_last s m]
    by_cases h : bt s (m : Int) = 45
    · rw [if_pos h, if_pos ((small_45 s m).2 h)]
    · rw [if_neg h, if_neg (fun e => h ((small_45 s m).1 e))]
theorem small_dig (s : ByteArray) (i : Nat) : digP (bt (smallB s) (i : Int)) = digP (bt s (i : Int)) := by
  rw [small_bt]
  split
  · rfl
  · exact low_dig _
theorem ext_dig (s s' : ByteArray) (hz : s'.size = s.size) (h : ∀ i : Nat, digP (bt s' (i : Int)) = digP (bt s (i : Int))) (m : Nat) (hm : m ≤ s.size) (i : Nat) : digP (bt (s'.extract m s'.size) (i : Int)) = digP (bt (s.extract m s.size) (i : Int)) := by
  by_cases hi : m + i < s.size
  · rw [bt_extract s' m s'.size i (Nat.le_refl _) (by omega), bt_extract s m s.size i (Nat.le_refl _) hi]
    exact h (m + i)
  · have e : ∀ t : ByteArray, t.size = s.size → bt (t.extract m t.size) (i : Int) = 0 := fun t ht => by
      unfold bt
      rw [dif_neg (by rw [Int.toNat_natCast, ByteArray.size_extract]; omega)]
    rw [e s' hz, e s rfl]
theorem small_den (s : ByteArray) : denR (smallB s) = denR s := by
  have hz := small_size s
  have hl : lastP (smallB s) 45 s.size = lastP s 45 s.size := small_last s s.size
  have hr := last_range s 45 s.size
  unfold denR
  have e : denP (smallB s) = denP s := by
    unfold denP
    rw [hz, hl]
    by_cases hp : 0 < lastP s 45 s.size
    · simp only [hp, if_true]
      have h1 : preL (smallB s) (lastP s 45 s.size).toNat = preL s (lastP s 45 s.size).toNat := by
        unfold preL
        refine List.map_congr_left fun j hj => ?_
        rw [List.mem_range] at hj
        rw [small_bt, if_pos]
        unfold hypN hyp
        rw [if_pos hp]
        exact hj
      rw [h1]
      have hz2 : ((smallB s).extract ((lastP s 45 s.size).toNat + 1) s.size).size = (s.extract ((lastP s 45 s.size).toNat + 1) s.size).size := by rw [ByteArray.size_extract, ByteArray.size_extract, hz]
      rw [hz2]
      have hd := ext_dig s (smallB s) hz (small_dig s) ((lastP s 45 s.size).toNat + 1) (by omega)
      rw [hz] at hd
      exact denGo_congr _ _ hz2 hd _ _ _ _ _ _ _ (Int.le_refl 0)
    · simp only [hp, if_false]
      rw [hz]
      exact denGo_congr _ _ hz (small_dig s) _ _ _ _ _ _ _ (Int.le_refl 0)
  rw [e]
theorem small_lowN (s : ByteArray) : ∀ k i, lowN (smallB s) k i = lowN s k i
  | 0, _ => rfl
  | k + 1, i => by
    have h : bt (smallB s) (i : Int) ≥ 128 ↔ bt s (i : Int) ≥ 128 := by
      rw [small_bt]
      split
      · exact Iff.rfl
      · unfold lowB
        split <;> omega
    rw [lowN, lowN, small_size, small_lowN s k (i + 1)]
    split
    · by_cases hc : bt s (i : Int) ≥ 128
      · rw [if_pos hc, if_pos (h.2 hc)]
      · rw [if_neg hc, if_neg (fun e => hc (h.1 e))]
    · rfl
theorem small_feed (s : ByteArray) : feedN (smallB s) = feedN s := by unfold feedN; rw [small_size, small_lowN]
theorem small_read {s : ByteArray} {L : List Int} {en : Bool} {E F : Int} (h : ReadF s L en E F) : ReadF (smallB s) L en E F := by
  unfold ReadF at h ⊢
  rw [small_feed, small_size, small_den]
  exact h
set_option maxRecDepth 100000 in
set_option maxHeartbeats 1000000 in
theorem small_c (s : ByteArray) (w : World) (hs : s.size ≤ 1000000) : Calls Try.prog 14 #[.string s] w fun e w' => e = .returned (.string (smallB s)) ∧ Below w.heap.size w w' := by
  have HS := Lib.hid hs
  clear hs
  go_enter Try.func14, Try.ntmps14
  go_upto_block 0 with fail
  go_cut [3] (fun s3 wx => s3 = .int .i64 (hypN s) ∧ wx = w)
  case first =>
    go_wp2_with fail
    go_loopg [3, 4] s.size (fun kq s3 s4 wx => ∃ i : Nat, s4 = .int .i64 i ∧ s3 = .int .i64 (hyp (lastP s 45 i)) ∧ Hid (kq = s.size - i ∧ i ≤ s.size) ∧ wx = w)
    case atStart => exact ⟨0, rfl, rfl, Lib.hid ⟨rfl, Nat.zero_le _⟩, rfl⟩
    case round =>
      obtain ⟨i, rfl, rfl, HK, rfl⟩ := hrel
      by_cases hi : i < s.size
      · have hi0 : (0 : Int) ≤ (i : Int) := by omega
        have hi3 : (i : Int) < (s.size : Int) := by omega
        have hbt : (s[i].toNat : Int) = bt s (i : Int) := by
          have h := bt_at s (i : Int) (by rw [Int.toNat_natCast]; exact hi)
          simpa using h
        have HY := Lib.hid (hyp_succ s i)
        have hss : s.size ≤ 1000000 := HS.out
        by_cases hc : bt s (i : Int) = 45
        · have hc1 : (bt s (i : Int) == 45) = true := by rw [hc]; rfl
          have HC := Lib.hid hc
          clear hc
          go_wp2_with fail
          go_roundg (gk - 1)
          case measure => have := HK.out; omega
          case rel => exact ⟨i + 1, by go_num, by rw [HY.out, if_pos HC.out], Lib.hid ⟨by have := HK.out; omega, by omega⟩, rfl⟩
        · have hc1 : (bt s (i : Int) == 45) = false := by rw [beq_eq_false_iff_ne]; exact hc
          have HC := Lib.hid hc
          clear hc
          go_wp2_with fail
          go_roundg (gk - 1)
          case measure => have := HK.out; omega
          case rel => exact ⟨i + 1, by go_num, by rw [HY.out, if_neg HC.out], Lib.hid ⟨by have := HK.out; omega, by omega⟩, rfl⟩
      · have HIQ : Hid (i = s.size) := Lib.hid (by have := HK.out; omega)
        have hi3 : ¬ (i : Int) < (s.size : Int) := by omega
        go_wp2_with fail
        go_meet
        refine ⟨?_, rfl⟩
        rw [HIQ.out]
        unfold hypN
        rw [Int.toNat_of_nonneg (by unfold hyp; split <;> omega)]
  case rest =>
    obtain ⟨rfl, hwe⟩ := hcut
    obtain rfl := hwe.symm
    have hh := hypN_le s
    have hh1 : (hypN s : Int) ≤ (s.size : Int) := by omega
    have hh0 : (0 : Int) ≤ (hypN s : Int) := by omega
    have hss : s.size ≤ 1000000 := HS.out
    have HC := Lib.hid (fun W => small09_c (s.extract (hypN s) s.size) (by rw [ByteArray.size_extract]; omega) W)
    have HP := Lib.hid (small_parts s)
    obtain ⟨X, hX⟩ : ∃ X, strOfNums ((List.range (s.extract (hypN s) s.size).size).map fun (j : Nat) => lowB (bt (s.extract (hypN s) s.size) (j : Int))) = X := ⟨_, rfl⟩
    have hXz : X.size = s.size - hypN s := by rw [← hX, str_size]; simp
    have hsz : (s.extract 0 (hypN s)).size + X.size ≤ 140737488351232 := by rw [ByteArray.size_extract]; omega
    rw [hX] at HP
    have HC2 : Hid (∀ W : World, Calls Try.prog 30 #[.string (s.extract (hypN s) s.size)] W fun e w' => e = .returned (.string X) ∧ Below W.heap.size W w') := Lib.hid fun W => by rw [← hX]; exact HC.out W
    clear hX HC hXz
    go_wp2_with fail
    go_region_with (go_at_call 30; refine (HC2.out _).mono ?_; rintro e w1 ⟨rfl, hb1⟩; have HB1 := Lib.hid hb1; clear hb1)
    all_goals go_wp2_with fail
    all_goals go_ret
    all_goals refine ⟨by rw [← HP.out]; rfl, ?_⟩
    all_goals first | exact HB1.out | exact below_next (below_drew1 (Below.refl _ _)) HB1.out | exact below_drew1 HB1.out
end Go.Proofs.Ytegacgfhmigdjaa
/- What is put is got: the digits of a number. -/
namespace Go.Proofs.Ytegacgfhmigdjaa
open Go.RowKit Go.Proofs.YtegacgfhmigdjaaW.PrintWords Go.Proofs.YtegacgfhmigdjaaW.PrintLast Go.Proofs.YtegacgfhmigdjaaW.PrintMore Go.Proofs.Ytegacgfhmigdjaa.PPu
set_option linter.unusedVariables false
set_option linter.unusedSimpArgs false

theorem putI_pos (k : Nat) (n b place : Int) : 1 ≤ (putI (k + 1) n b place).length := by
  rw [putI]
  split <;> simp
theorem putI_let (b : Int) : ∀ (k : Nat) (n place : Int), 0 ≤ n → ∀ x ∈ putI k n b place, 48 ≤ x ∧ x ≤ 122
  | 0, _, _, _, x, hx => by cases hx
  | k + 1, n, place, h0, x, hx => by
    obtain ⟨t0, t1⟩ := thr_range place b
    rw [putI] at hx
    split at hx
    · rename_i hlt
      rw [List.mem_singleton] at hx
      subst hx
      exact let_range h0 (by omega)
    · rename_i hlt
      obtain ⟨q0, q1, r0, r1⟩ := quo_facts (n := n) (by omega) t0 t1
      rcases List.mem_cons.1 hx with rfl | hx
      · exact let_range (by omega) (by omega)
      · exact putI_let b k _ _ q0 x hx
theorem val_split {v t q r w : Int} (hq : (v - t) / (36 - t) = q) (hr : (v - t) % (36 - t) = r) : v * w = (t + r) * w + q * (w * (36 - t)) := by
  have h := Int.mul_ediv_add_emod (v - t) (36 - t)
  rw [hq, hr] at h
  have e : v = (t + r) + q * (36 - t) := by rw [Int.mul_comm q]; omega
  rw [show v * w = ((t + r) + q * (36 - t)) * w by rw [← e], Int.add_mul, Int.mul_assoc, Int.mul_comm (36 - t) w]
theorem get_put (s : ByteArray) (b : Int) : ∀ (j k at_ : Nat) (n w v place : Int), 0 ≤ v → v < 10 ^ j → 1 ≤ w → 0 ≤ n → n + v * w ≤ topP → (putI (j + 1) v b place).length ≤ k →
    (∀ i, i < (putI (j + 1) v b place).length → bt s ((at_ + i : Nat) : Int) = (putI (j + 1) v b place).getD i 0) → at_ + (putI (j + 1) v b place).length ≤ s.size →
    getI s b k at_ n w place = some (n + v * w, ((at_ + (putI (j + 1) v b place).length : Nat) : Int))
  | j, k, at_, n, w, v, place, h0, h1, hw, hn, hT, hk, hb, hs => by
    have hp := putI_pos j v b place
    obtain ⟨k, rfl⟩ : ∃ i, k = i + 1 := ⟨k - 1, by omega⟩
    obtain ⟨t0, t1⟩ := thr_range place b
    have hb0 := hb 0 (by omega)
    rw [Nat.add_zero] at hb0
    rw [getI, if_neg (by omega), hb0]
    by_cases hlt : v < thrP place b
    · have e : putI (j + 1) v b place = [letP v] := by rw [putI, if_pos hlt]
      rw [e] at hb0 ⊢
      show (match digP (letP v) with | none => none | some d => _) = _
      rw [dig_let h0 (by omega)]
      show (if topP < n + v * w then none else if v < thrP place b then _ else _) = _
      rw [if_neg (by omega), if_pos hlt]
      rfl
    · obtain ⟨q0, q1, r0, r1⟩ := quo_facts (n := v) (by omega) t0 t1
      have hvs := val_split (v := v) (t := thrP place b) (w := w) rfl rfl
      have hqs : (v - thrP place b) / (36 - thrP place b) ≤ v - thrP place b := Int.ediv_le_self _ (by omega)
      cases j with
      | zero => simp at h1; omega
      | succ j =>
        have e : putI (j + 1 + 1) v b place = letP (thrP place b + (v - thrP place b) % (36 - thrP place b)) :: putI (j + 1) ((v - thrP place b) / (36 - thrP place b)) b (place + 1) := by rw [putI, if_neg hlt]
        rw [e] at hb hs hk ⊢
        rw [List.length_cons] at hs hk
        rw [Int.pow_succ] at h1
        obtain ⟨q, hq⟩ : ∃ q, (v - thrP place b) / (36 - thrP place b) = q := ⟨_, rfl⟩
        obtain ⟨r, hr⟩ : ∃ r, (v - thrP place b) % (36 - thrP place b) = r := ⟨_, rfl⟩
        obtain ⟨t, ht⟩ : ∃ t, thrP place b = t := ⟨_, rfl⟩
        rw [hq, hr] at hvs
        rw [hq] at q0 q1 hqs hb hs hk ⊢
        rw [hr] at r0 r1 hb ⊢
        rw [ht] at t0 t1 hvs hqs r1 hlt hb ⊢
        have hA : 0 ≤ (t + r) * w := Int.mul_nonneg (by omega) (by omega)
        have hB : 0 ≤ w * (36 - t) := Int.mul_nonneg (by omega) (by omega)
        have hB1 : 1 ≤ w * (36 - t) := by
          have := Int.mul_le_mul (a := 1) (b := 1) (c := w) (d := 36 - t) hw (by omega) (by omega) (by omega)
          omega
        have hC : 0 ≤ q * (w * (36 - t)) := Int.mul_nonneg q0 hB
        show (match digP (letP (t + r)) with | none => none | some d => _) = _
        rw [dig_let (by omega) (by omega)]
        show (if topP < n + (t + r) * w then none else if t + r < t then _ else _) = _
        rw [if_neg (by omega), if_neg (by omega)]
        have hq10 : q < 10 ^ j := by omega
        have hnext : ∀ w', (n + (t + r) * w) + q * w' = n + v * w → 1 ≤ w' → getI s b k ((at_ : Int) + 1) (n + (t + r) * w) w' (place + 1) = some (n + v * w, ((at_ + (putI (j + 1) q b (place + 1)).length + 1 : Nat) : Int)) := by
          intro w' he hw'
          have h := get_put s b j k (at_ + 1) (n + (t + r) * w) w' q (place + 1) q0 hq10 hw' (by omega) (by omega) (by omega) (fun i hi => by
            have h := hb (i + 1) (by rw [List.length_cons]; omega)
            rw [show at_ + (i + 1) = at_ + 1 + i by omega] at h
            rw [h]
            simp) (by omega)
          rw [he, show ((at_ + 1 : Nat) : Int) = (at_ : Int) + 1 from rfl] at h
          rw [h, show at_ + 1 + (putI (j + 1) q b (place + 1)).length = at_ + (putI (j + 1) q b (place + 1)).length + 1 by omega]
        rw [List.length_cons]
        by_cases hcl : topP < w * (36 - t)
        · rw [if_pos hcl]
          have hq0 : q = 0 := by
            rcases Int.lt_or_le 0 q with h | h
            · have := Int.mul_le_mul_of_nonneg_right (a := 1) (b := q) (by omega) hB
              omega
            · omega
          subst hq0
          rw [Int.zero_mul] at hvs
          exact hnext _ (by rw [Int.zero_mul]; omega) (by have : topP = 4611686018427387904 := rfl; omega)
        · rw [if_neg hcl]
          exact hnext _ (by omega) hB1
theorem putL_pos (n b : Int) : 1 ≤ (putL n b).length := putI_pos 19 n b 0
theorem putL_let {n : Int} (b : Int) (h : 0 ≤ n) : ∀ x ∈ putL n b, 48 ≤ x ∧ x ≤ 122 := putI_let b 20 n 0 h
theorem getP_put (s : ByteArray) (b v : Int) (at_ : Nat) (h0 : 0 ≤ v) (h1 : v ≤ topP) (hb : ∀ i, i < (putL v b).length → bt s ((at_ + i : Nat) : Int) = (putL v b).getD i 0) (hs : at_ + (putL v b).length ≤ s.size) :
    getP s at_ b = some (v, ((at_ + (putL v b).length : Nat) : Int)) := by
  have hTT : topP = 4611686018427387904 := rfl
  unfold getP
  have h := get_put s b 19 (((s.size : Int) - at_).toNat.succ) at_ 0 1 v 0 h0 (by omega) (by omega) (by omega) (by omega) (by show (putL v b).length ≤ _; omega) hb hs
  rw [h]
  show some (0 + v * 1, _) = _
  rw [Int.mul_one, Int.zero_add]
  rfl
end Go.Proofs.Ytegacgfhmigdjaa
