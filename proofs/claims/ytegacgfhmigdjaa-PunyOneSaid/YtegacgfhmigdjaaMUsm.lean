/- Joined texts: Usm, Ub1, Ub2, Ub3. -/
import Derived.Test.YtegacgfhmigdjaaMUsj
import Derived.Test.YtegacgfhmigdjaaMUins
import Derived.Test.YtegacgfhmigdjaaPPux7
import Derived.Test.YtegacgfhmigdjaaMUps
/- pilcrowref10.Small, walked; a text and that with small letters denote the same. -/
namespace Go.Proofs.Ytegacgfhmigdjaa
open Go.RowKit Go.Proofs.YtegacgfhmigdjaaW.PrintWords Go.Proofs.YtegacgfhmigdjaaW.PrintLast Go.Proofs.YtegacgfhmigdjaaW.PrintMore Go.Proofs.Ytegacgfhmigdjaa.PPu
set_option linter.unusedVariables false
set_option linter.unusedSimpArgs false

theorem bt_bytes (s : ByteArray) (i : Nat) : bt s (i : Int) = (bytesOf s).getD i 0 := by
  unfold bytesOf
  by_cases h : i < s.size
  · rw [← bt_at s (i : Int) (by rw [Int.toNat_natCast]; exact h)]
    have h2 : i < s.data.toList.length := h
    rw [List.getD_eq_getElem?_getD, List.getElem?_map, List.getElem?_eq_getElem h2]
    simp
    rfl
  · have h2 : ¬ i < s.data.toList.length := h
    rw [List.getD_eq_getElem?_getD, List.getElem?_map, List.getElem?_eq_none (by omega)]
    unfold bt
    rw [dif_neg (by rw [Int.toNat_natCast]; exact h)]
    rfl
theorem bt_str (l : List Int) (h : ∀ x ∈ l, 0 ≤ x ∧ x ≤ 255) (i : Nat) : bt (strOfNums l) (i : Int) = l.getD i 0 := by rw [bt_bytes, bytes_str l h]
theorem str_size (l : List Int) : (strOfNums l).size = l.length := by
  unfold strOfNums
  show (List.toArray _).size = _
  simp
theorem str_app (a b : List Int) : strOfNums a ++ strOfNums b = strOfNums (a ++ b) := by
  unfold strOfNums
  apply ByteArray.ext
  simp
theorem pre_range (s : ByteArray) (n : Nat) : ∀ x ∈ preL s n, 0 ≤ x ∧ x ≤ 255 := by
  intro x hx
  unfold preL at hx
  obtain ⟨j, _, rfl⟩ := List.mem_map.1 hx
  exact bt_range s _
theorem pre_ext (s : ByteArray) (m n : Nat) (h : m + n ≤ s.size) : preL (s.extract m (m + n)) n = (List.range n).map fun (j : Nat) => bt s ((m + j : Nat) : Int) := by
  unfold preL
  refine List.map_congr_left fun j hj => ?_
  rw [List.mem_range] at hj
  exact bt_extract s m (m + n) j h (by omega)
theorem ext_str (s : ByteArray) (m n : Nat) (h : m + n ≤ s.size) : s.extract m (m + n) = strOfNums ((List.range n).map fun (j : Nat) => bt s ((m + j : Nat) : Int)) := by
  rw [← pre_ext s m n h]
  have e : (s.extract m (m + n)).size = n := by rw [ByteArray.size_extract]; omega
  conv => lhs; rw [← strOf_bytes (s.extract m (m + n)), e]
def lowB (c : Int) : Int := if 65 ≤ c ∧ c ≤ 90 then c + 32 else c
theorem lowB_range {c : Int} (h : 0 ≤ c ∧ c ≤ 255) : 0 ≤ lowB c ∧ lowB c ≤ 255 := by unfold lowB; split <;> omega
theorem low_dig (c : Int) : digP (lowB c) = digP c := by
  unfold lowB
  split
  · rename_i h
    unfold digP
    rw [if_pos (by omega), if_neg (by omega), if_pos h]
    congr 1
    omega
  · rfl
theorem small_l0 (s : ByteArray) (hs : s.size ≤ 1000000) : ∀ (m i : Nat) (acc : List Int) (k : Nat), i + m = s.size → acc.length ≤ i → m + 1 ≤ k →
    pilcrowref09_Small.l0 k s acc i = some (strOfNums (acc ++ (List.range m).map fun (j : Nat) => lowB (bt s ((i + j : Nat) : Int))))
  | 0, i, acc, k, hi, ha, hk => by
    obtain ⟨k, rfl⟩ : ∃ j, k = j + 1 := ⟨k - 1, by omega⟩
    rw [pilcrowref09_Small.l0, if_neg (by omega)]
    simp
  | m + 1, i, acc, k, hi, ha, hk => by
    obtain ⟨k, rfl⟩ : ∃ j, k = j + 1 := ⟨k - 1, by omega⟩
    have hrec := fun x => small_l0 s hs m (i + 1) (acc ++ [x]) k (by omega) (by rw [List.length_append, List.length_singleton]; omega) (by omega)
    have hr : (List.range (m + 1)).map (fun (j : Nat) => lowB (bt s ((i + j : Nat) : Int))) = lowB (bt s (i : Int)) :: (List.range m).map (fun (j : Nat) => lowB (bt s ((i + 1 + j : Nat) : Int))) := by
      rw [List.range_succ_eq_map, List.map_cons, List.map_map, Nat.add_zero]
      congr 1
      refine List.map_congr_left fun j _ => ?_
      simp only [Function.comp]
      rw [show i + j.succ = i + 1 + j by omega]
    have hb := bt_range s (i : Int)
    rw [pilcrowref09_Small.l0, if_pos (by omega), if_pos (by omega), w64 (by omega) (by omega), hr]
    have hgo : ∀ x, pilcrowref09_Small.l0 k s (acc ++ [x]) ((i : Int) + 1) = some (strOfNums (acc ++ x :: (List.range m).map fun (j : Nat) => lowB (bt s ((i + 1 + j : Nat) : Int)))) := by
      intro x
      have := hrec x
      rw [List.append_assoc] at this
      exact this
    by_cases h1 : bt s (i : Int) ≥ 65
    · rw [if_pos h1]
      by_cases h2 : bt s (i : Int) ≤ 90
      · rw [if_pos h2, if_pos (by omega), hgo]
        have : (bt s (i : Int) + 32) % 256 = lowB (bt s (i : Int)) := by unfold lowB; rw [if_pos ⟨h1, h2⟩]; omega
        rw [this]
      · rw [if_neg h2, if_pos (by omega), hgo]
        have : bt s (i : Int) = lowB (bt s (i : Int)) := by unfold lowB; rw [if_neg (fun h => h2 h.2)]
        rw [← this]
    · rw [if_neg h1, if_pos (by omega), hgo]
      have : bt s (i : Int) = lowB (bt s (i : Int)) := by unfold lowB; rw [if_neg (fun h => h1 h.1)]
      rw [← this]
theorem small09_c (s : ByteArray) (hs : s.size ≤ 1000000) (w : World) : Calls Try.prog 30 #[.string s] w fun e w' => e = .returned (.string (strOfNums ((List.range s.size).map fun (j : Nat) => lowB (bt s (j : Int))))) ∧ Below w.heap.size w w' := by
  refine pilcrowref09_Small.calls (s.size + 1) s _ w ?_
  unfold pilcrowref09_Small.f
  have h := small_l0 s hs s.size 0 [] (s.size + 1) (by omega) (by simp) (Nat.le_refl _)
  simp only [Nat.zero_add, List.nil_append] at h
  exact h
/-- Where the digits begin. -/
def hypN (s : ByteArray) : Nat := (hyp (lastP s 45 s.size)).toNat
theorem hypN_le (s : ByteArray) : hypN s ≤ s.size := by
  unfold hypN hyp
  have := last_range s 45 s.size
  split <;> omega
/-- A text with small letters among its digits. -/
def smallL (s : ByteArray) : List Int := (List.range s.size).map fun (j : Nat) => if j < hypN s then bt s (j : Int) else lowB (bt s (j : Int))
def smallB (s : ByteArray) : ByteArray := strOfNums (smallL s)
theorem small_len (s : ByteArray) : (smallL s).length = s.size := by simp [smallL]
theorem small_range (s : ByteArray) : ∀ x ∈ smallL s, 0 ≤ x ∧ x ≤ 255 := by
  intro x hx
  unfold smallL at hx
  obtain ⟨j, _, rfl⟩ := List.mem_map.1 hx
  split
  · exact bt_range s _
  · exact lowB_range (bt_range s _)
theorem small_size (s : ByteArray) : (smallB s).size = s.size := by unfold smallB; rw [str_size, small_len]
theorem small_bt (s : ByteArray) (i : Nat) : bt (smallB s) (i : Int) = if i < hypN s then bt s (i : Int) else lowB (bt s (i : Int)) := by
  unfold smallB
  rw [bt_str _ (small_range s)]
  unfold smallL
  rw [List.getD_eq_getElem?_getD, List.getElem?_map]
  by_cases h : i < s.size
  · rw [List.getElem?_range h]
    rfl
  · rw [List.getElem?_eq_none (by simpa using h)]
    have hh := hypN_le s
    rw [if_neg (by omega)]
    unfold bt
    rw [dif_neg (by rw [Int.toNat_natCast]; exact h)]
    rfl
theorem small_parts (s : ByteArray) : s.extract 0 (hypN s) ++ strOfNums ((List.range (s.extract (hypN s) s.size).size).map fun (j : Nat) => lowB (bt (s.extract (hypN s) s.size) (j : Int))) = smallB s := by
  have hh := hypN_le s
  obtain ⟨n, hn⟩ : ∃ n, s.size = hypN s + n := ⟨s.size - hypN s, by omega⟩
  have e1 := ext_str s 0 (hypN s) (by omega)
  rw [Nat.zero_add] at e1
  have hz : (s.extract (hypN s) s.size).size = n := by rw [ByteArray.size_extract]; omega
  rw [e1, hz, str_app]
  unfold smallB smallL
  congr 1
  apply List.ext_getElem
  · simp; omega
  · intro j h1 h2
    simp only [List.length_append, List.length_map, List.length_range] at h1
    by_cases hj : j < hypN s
    · rw [List.getElem_append_left (by simpa using hj)]
      simp [hj]
    · rw [List.getElem_append_right (by simpa using hj)]
      simp only [List.getElem_map, List.getElem_range, List.length_map, List.length_range]
      rw [if_neg hj]
      have hb := bt_extract s (hypN s) (hypN s + n) (j - hypN s) (by omega) (by omega)
      rw [← hn] at hb
      rw [hb, show hypN s + (j - hypN s) = j by omega]
/-! ### Two texts of the same digits denote the same -/
theorem getI_congr (s s' : ByteArray) (hz : s'.size = s.size) (h : ∀ i : Nat, digP (bt s' (i : Int)) = digP (bt s (i : Int))) (b : Int) : ∀ (k : Nat) (a n w place : Int), 0 ≤ a → getI s' b k a n w place = getI s b k a n w place
  | 0, _, _, _, _, _ => rfl
  | k + 1, a, n, w, place, ha => by
    have hd := h a.toNat
    rw [Int.toNat_of_nonneg ha] at hd
    rw [getI, getI, hz, hd]
    split
    · rfl
    · cases digP (bt s a) with
      | none => rfl
      | some d =>
        simp only
        split
        · rfl
        · split
          · rfl
          · exact getI_congr s s' hz h b k _ _ _ _ (by omega)
theorem denGo_congr (s s' : ByteArray) (hz : s'.size = s.size) (h : ∀ i : Nat, digP (bt s' (i : Int)) = digP (bt s (i : Int))) : ∀ (k : Nat) (a : Int) (l : List Int) (n i b : Int) (once : Bool), 0 ≤ a → denGo s' k a l n i b once = denGo s k a l n i b once
  | 0, _, _, _, _, _, _, _ => rfl
  | k + 1, a, l, n, i, b, once, ha => by
    have hg : getP s' a b = getP s a b := by
      unfold getP
      rw [hz]
      exact getI_congr s s' hz h b _ _ _ _ _ ha
    rw [denGo, denGo, hz, hg]
    split
    · cases hgp : getP s a b with
      | none => rfl
      | some x =>
        obtain ⟨v, e⟩ := x
        have he := (getP_range hgp).2.2.1
        simp only
        split
        · exact denGo_congr s s' hz h k e _ _ _ _ _ (by omega)
        · rfl
    · rfl
theorem small_45 (s : ByteArray) (i : Nat) : bt (smallB s) (i : Int) = 45 ↔ bt s (i : Int) = 45 := by
  rw [small_bt]
  split
  · exact Iff.rfl
  · unfold lowB
    split <;> omega
theorem small_last (s : ByteArray) : ∀ m, lastP (smallB s) 45 m = lastP s 45 m
  | 0 => rfl
  | m + 1 => by
    rw [lastP, lastP, small_last s m]
    by_cases h : bt s (m : Int) = 45
    · rw [if_pos h, if_pos ((small_45 s m).2 h)]
    · rw [if_neg h, if_neg (fun e => h ((small_45 s m).1 e))]
theorem small_dig (s : ByteArray) (i : Nat) : digP (bt (smallB s) (i : Int)) = digP (bt s (i : Int)) := by
  rw [small_bt]
  split
  · rfl
  · exact low_dig _
theorem ext_dig (s s' : ByteArray) (hz : s'.size = s.size) (h : ∀ i : Nat, digP (bt s' (i : Int)) = digP (bt s (i : Int))) (m : Nat) (hm : m ≤ s.size) (i : Nat) : digP (bt (s'.extract m s'.size) (i : Int)) = digP (bt (s.extract m s.size) (i : Int)) := by
  by_cases hi : m + i < s.size
  · rw [bt_extract s' m s'.size i (Nat.le_refl _) (by omega), bt_extract s m s.size i (Nat.le_refl _) hi]
    exact h (m + i)
  · have e : ∀ t : ByteArray, t.size = s.size → bt (t.extract m t.size) (i : Int) = 0 := fun t ht => by
      unfold bt
      rw [dif_neg (by rw [Int.toNat_natCast, ByteArray.size_extract]; omega)]
    rw [e s' hz, e s rfl]
theorem small_den (s : ByteArray) : denR (smallB s) = denR s := by
  have hz := small_size s
  have hl : lastP (smallB s) 45 s.size = lastP s 45 s.size := small_last s s.size
  have hr := last_range s 45 s.size
  unfold denR
  have e : denP (smallB s) = denP s := by
    unfold denP
    rw [hz, hl]
    by_cases hp : 0 < lastP s 45 s.size
    · simp only [hp, if_true]
      have h1 : preL (smallB s) (lastP s 45 s.size).toNat = preL s (lastP s 45 s.size).toNat := by
        unfold preL
        refine List.map_congr_left fun j hj => ?_
        rw [List.mem_range] at hj
        rw [small_bt, if_pos]
        unfold hypN hyp
        rw [if_pos hp]
        exact hj
      rw [h1]
      have hz2 : ((smallB s).extract ((lastP s 45 s.size).toNat + 1) s.size).size = (s.extract ((lastP s 45 s.size).toNat + 1) s.size).size := by rw [ByteArray.size_extract, ByteArray.size_extract, hz]
      rw [hz2]
      have hd := ext_dig s (smallB s) hz (small_dig s) ((lastP s 45 s.size).toNat + 1) (by omega)
      rw [hz] at hd
      exact denGo_congr _ _ hz2 hd _ _ _ _ _ _ _ (Int.le_refl 0)
    · simp only [hp, if_false]
      rw [hz]
      exact denGo_congr _ _ hz (small_dig s) _ _ _ _ _ _ _ (Int.le_refl 0)
  rw [e]
theorem small_lowN (s : ByteArray) : ∀ k i, lowN (smallB s) k i = lowN s k i
  | 0, _ => rfl
  | k + 1, i => by
    have h : bt (smallB s) (i : Int) ≥ 128 ↔ bt s (i : Int) ≥ 128 := by
      rw [small_bt]
      split
      · exact Iff.rfl
      · unfold lowB
        split <;> omega
    rw [lowN, lowN, small_size, small_lowN s k (i + 1)]
    split
    · by_cases hc : bt s (i : Int) ≥ 128
      · rw [if_pos hc, if_pos (h.2 hc)]
      · rw [if_neg hc, if_neg (fun e => hc (h.1 e))]
    · rfl
theorem small_feed (s : ByteArray) : feedN (smallB s) = feedN s := by unfold feedN; rw [small_size, small_lowN]
theorem small_read {s : ByteArray} {L : List Int} {en : Bool} {E F : Int} (h : ReadF s L en E F) : ReadF (smallB s) L en E F := by
  unfold ReadF at h ⊢
  rw [small_feed, small_size, small_den]
  exact h
set_option maxRecDepth 100000 in
set_option maxHeartbeats 1000000 in
theorem small_c (s : ByteArray) (w : World) (hs : s.size ≤ 1000000) : Calls Try.prog 14 #[.string s] w fun e w' => e = .returned (.string (smallB s)) ∧ Below w.heap.size w w' := by
  have HS := Lib.hid hs
  clear hs
  go_enter Try.func14, Try.ntmps14
  go_upto_block 0 with fail
  go_cut [3] (fun s3 wx => s3 = .int .i64 (hypN s) ∧ wx = w)
  case first =>
    go_wp2_with fail
    go_loopg [3, 4] s.size (fun kq s3 s4 wx => ∃ i : Nat, s4 = .int .i64 i ∧ s3 = .int .i64 (hyp (lastP s 45 i)) ∧ Hid (kq = s.size - i ∧ i ≤ s.size) ∧ wx = w)
    case atStart => exact ⟨0, rfl, rfl, Lib.hid ⟨rfl, Nat.zero_le _⟩, rfl⟩
    case round =>
      obtain ⟨i, rfl, rfl, HK, rfl⟩ := hrel
      by_cases hi : i < s.size
      · have hi0 : (0 : Int) ≤ (i : Int) := by omega
        have hi3 : (i : Int) < (s.size : Int) := by omega
        have hbt : (s[i].toNat : Int) = bt s (i : Int) := by
          have h := bt_at s (i : Int) (by rw [Int.toNat_natCast]; exact hi)
          simpa using h
        have HY := Lib.hid (hyp_succ s i)
        have hss : s.size ≤ 1000000 := HS.out
        by_cases hc : bt s (i : Int) = 45
        · have hc1 : (bt s (i : Int) == 45) = true := by rw [hc]; rfl
          have HC := Lib.hid hc
          clear hc
          go_wp2_with fail
          go_roundg (gk - 1)
          case measure => have := HK.out; omega
          case rel => exact ⟨i + 1, by go_num, by rw [HY.out, if_pos HC.out], Lib.hid ⟨by have := HK.out; omega, by omega⟩, rfl⟩
        · have hc1 : (bt s (i : Int) == 45) = false := by rw [beq_eq_false_iff_ne]; exact hc
          have HC := Lib.hid hc
          clear hc
          go_wp2_with fail
          go_roundg (gk - 1)
          case measure => have := HK.out; omega
          case rel => exact ⟨i + 1, by go_num, by rw [HY.out, if_neg HC.out], Lib.hid ⟨by have := HK.out; omega, by omega⟩, rfl⟩
      · have HIQ : Hid (i = s.size) := Lib.hid (by have := HK.out; omega)
        have hi3 : ¬ (i : Int) < (s.size : Int) := by omega
        go_wp2_with fail
        go_meet
        refine ⟨?_, rfl⟩
        rw [HIQ.out]
        unfold hypN
        rw [Int.toNat_of_nonneg (by unfold hyp; split <;> omega)]
  case rest =>
    obtain ⟨rfl, hwe⟩ := hcut
    obtain rfl := hwe.symm
    have hh := hypN_le s
    have hh1 : (hypN s : Int) ≤ (s.size : Int) := by omega
    have hh0 : (0 : Int) ≤ (hypN s : Int) := by omega
    have hss : s.size ≤ 1000000 := HS.out
    have HC := Lib.hid (fun W => small09_c (s.extract (hypN s) s.size) (by rw [ByteArray.size_extract]; omega) W)
    have HP := Lib.hid (small_parts s)
    obtain ⟨X, hX⟩ : ∃ X, strOfNums ((List.range (s.extract (hypN s) s.size).size).map fun (j : Nat) => lowB (bt (s.extract (hypN s) s.size) (j : Int))) = X := ⟨_, rfl⟩
    have hXz : X.size = s.size - hypN s := by rw [← hX, str_size]; simp
    have hsz : (s.extract 0 (hypN s)).size + X.size ≤ 140737488351232 := by rw [ByteArray.size_extract]; omega
    rw [hX] at HP
    have HC2 : Hid (∀ W : World, Calls Try.prog 30 #[.string (s.extract (hypN s) s.size)] W fun e w' => e = .returned (.string X) ∧ Below W.heap.size W w') := Lib.hid fun W => by rw [← hX]; exact HC.out W
    clear hX HC hXz
    go_wp2_with fail
    go_region_with (go_at_call 30; refine (HC2.out _).mono ?_; rintro e w1 ⟨rfl, hb1⟩; have HB1 := Lib.hid hb1; clear hb1)
    all_goals go_wp2_with fail
    all_goals go_ret
    all_goals refine ⟨by rw [← HP.out]; rfl, ?_⟩
    all_goals first | exact HB1.out | exact below_next (below_drew1 (Below.refl _ _)) HB1.out | exact below_drew1 HB1.out
end Go.Proofs.Ytegacgfhmigdjaa
/- What is put is got: the digits of a number. -/
namespace Go.Proofs.Ytegacgfhmigdjaa
open Go.RowKit Go.Proofs.YtegacgfhmigdjaaW.PrintWords Go.Proofs.YtegacgfhmigdjaaW.PrintLast Go.Proofs.YtegacgfhmigdjaaW.PrintMore Go.Proofs.Ytegacgfhmigdjaa.PPu
set_option linter.unusedVariables false
set_option linter.unusedSimpArgs false

theorem putI_pos (k : Nat) (n b place : Int) : 1 ≤ (putI (k + 1) n b place).length := by
  rw [putI]
  split <;> simp
theorem putI_let (b : Int) : ∀ (k : Nat) (n place : Int), 0 ≤ n → ∀ x ∈ putI k n b place, 48 ≤ x ∧ x ≤ 122
  | 0, _, _, _, x, hx => by cases hx
  | k + 1, n, place, h0, x, hx => by
    obtain ⟨t0, t1⟩ := thr_range place b
    rw [putI] at hx
    split at hx
    · rename_i hlt
      rw [List.mem_singleton] at hx
      subst hx
      exact let_range h0 (by omega)
    · rename_i hlt
      obtain ⟨q0, q1, r0, r1⟩ := quo_facts (n := n) (by omega) t0 t1
      rcases List.mem_cons.1 hx with rfl | hx
      · exact let_range (by omega) (by omega)
      · exact putI_let b k _ _ q0 x hx
theorem val_split {v t q r w : Int} (hq : (v - t) / (36 - t) = q) (hr : (v - t) % (36 - t) = r) : v * w = (t + r) * w + q * (w * (36 - t)) := by
  have h := Int.mul_ediv_add_emod (v - t) (36 - t)
  rw [hq, hr] at h
  have e : v = (t + r) + q * (36 - t) := by rw [Int.mul_comm q]; omega
  rw [show v * w = ((t + r) + q * (36 - t)) * w by rw [← e], Int.add_mul, Int.mul_assoc, Int.mul_comm (36 - t) w]
theorem get_put (s : ByteArray) (b : Int) : ∀ (j k at_ : Nat) (n w v place : Int), 0 ≤ v → v < 10 ^ j → 1 ≤ w → 0 ≤ n → n + v * w ≤ topP → (putI (j + 1) v b place).length ≤ k →
    (∀ i, i < (putI (j + 1) v b place).length → bt s ((at_ + i : Nat) : Int) = (putI (j + 1) v b place).getD i 0) → at_ + (putI (j + 1) v b place).length ≤ s.size →
    getI s b k at_ n w place = some (n + v * w, ((at_ + (putI (j + 1) v b place).length : Nat) : Int))
  | j, k, at_, n, w, v, place, h0, h1, hw, hn, hT, hk, hb, hs => by
    have hp := putI_pos j v b place
    obtain ⟨k, rfl⟩ : ∃ i, k = i + 1 := ⟨k - 1, by omega⟩
    obtain ⟨t0, t1⟩ := thr_range place b
    have hb0 := hb 0 (by omega)
    rw [Nat.add_zero] at hb0
    rw [getI, if_neg (by omega), hb0]
    by_cases hlt : v < thrP place b
    · have e : putI (j + 1) v b place = [letP v] := by rw [putI, if_pos hlt]
      rw [e] at hb0 ⊢
      show (match digP (letP v) with | none => none | some d => _) = _
      rw [dig_let h0 (by omega)]
      show (if topP < n + v * w then none else if v < thrP place b then _ else _) = _
      rw [if_neg (by omega), if_pos hlt]
      rfl
    · obtain ⟨q0, q1, r0, r1⟩ := quo_facts (n := v) (by omega) t0 t1
      have hvs := val_split (v := v) (t := thrP place b) (w := w) rfl rfl
      have hqs : (v - thrP place b) / (36 - thrP place b) ≤ v - thrP place b := Int.ediv_le_self _ (by omega)
      cases j with
      | zero => simp at h1; omega
      | succ j =>
        have e : putI (j + 1 + 1) v b place = letP (thrP place b + (v - thrP place b) % (36 - thrP place b)) :: putI (j + 1) ((v - thrP place b) / (36 - thrP place b)) b (place + 1) := by rw [putI, if_neg hlt]
        rw [e] at hb hs hk ⊢
        rw [List.length_cons] at hs hk
        rw [Int.pow_succ] at h1
        obtain ⟨q, hq⟩ : ∃ q, (v - thrP place b) / (36 - thrP place b) = q := ⟨_, rfl⟩
        obtain ⟨r, hr⟩ : ∃ r, (v - thrP place b) % (36 - thrP place b) = r := ⟨_, rfl⟩
        obtain ⟨t, ht⟩ : ∃ t, thrP place b = t := ⟨_, rfl⟩
        rw [hq, hr] at hvs
        rw [hq] at q0 q1 hqs hb hs hk ⊢
        rw [hr] at r0 r1 hb ⊢
        rw [ht] at t0 t1 hvs hqs r1 hlt hb ⊢
        have hA : 0 ≤ (t + r) * w := Int.mul_nonneg (by omega) (by omega)
        have hB : 0 ≤ w * (36 - t) := Int.mul_nonneg (by omega) (by omega)
        have hB1 : 1 ≤ w * (36 - t) := by
          have := Int.mul_le_mul (a := 1) (b := 1) (c := w) (d := 36 - t) hw (by omega) (by omega) (by omega)
          omega
        have hC : 0 ≤ q * (w * (36 - t)) := Int.mul_nonneg q0 hB
        show (match digP (letP (t + r)) with | none => none | some d => _) = _
        rw [dig_let (by omega) (by omega)]
        show (if topP < n + (t + r) * w then none else if t + r < t then _ else _) = _
        rw [if_neg (by omega), if_neg (by omega)]
        have hq10 : q < 10 ^ j := by omega
        have hnext : ∀ w', (n + (t + r) * w) + q * w' = n + v * w → 1 ≤ w' → getI s b k ((at_ : Int) + 1) (n + (t + r) * w) w' (place + 1) = some (n + v * w, ((at_ + (putI (j + 1) q b (place + 1)).length + 1 : Nat) : Int)) := by
          intro w' he hw'
          have h := get_put s b j k (at_ + 1) (n + (t + r) * w) w' q (place + 1) q0 hq10 hw' (by omega) (by omega) (by omega) (fun i hi => by
            have h := hb (i + 1) (by rw [List.length_cons]; omega)
            rw [show at_ + (i + 1) = at_ + 1 + i by omega] at h
            rw [h]
            simp) (by omega)
          rw [he, show ((at_ + 1 : Nat) : Int) = (at_ : Int) + 1 from rfl] at h
          rw [h, show at_ + 1 + (putI (j + 1) q b (place + 1)).length = at_ + (putI (j + 1) q b (place + 1)).length + 1 by omega]
        rw [List.length_cons]
        by_cases hcl : topP < w * (36 - t)
        · rw [if_pos hcl]
          have hq0 : q = 0 := by
            rcases Int.lt_or_le 0 q with h | h
            · have := Int.mul_le_mul_of_nonneg_right (a := 1) (b := q) (by omega) hB
              omega
            · omega
          subst hq0
          rw [Int.zero_mul] at hvs
          exact hnext _ (by rw [Int.zero_mul]; omega) (by have : topP = 4611686018427387904 := rfl; omega)
        · rw [if_neg hcl]
          exact hnext _ (by omega) hB1
theorem putL_pos (n b : Int) : 1 ≤ (putL n b).length := putI_pos 19 n b 0
theorem putL_let {n : Int} (b : Int) (h : 0 ≤ n) : ∀ x ∈ putL n b, 48 ≤ x ∧ x ≤ 122 := putI_let b 20 n 0 h
theorem getP_put (s : ByteArray) (b v : Int) (at_ : Nat) (h0 : 0 ≤ v) (h1 : v ≤ topP) (hb : ∀ i, i < (putL v b).length → bt s ((at_ + i : Nat) : Int) = (putL v b).getD i 0) (hs : at_ + (putL v b).length ≤ s.size) :
    getP s at_ b = some (v, ((at_ + (putL v b).length : Nat) : Int)) := by
  have hTT : topP = 4611686018427387904 := rfl
  unfold getP
  have h := get_put s b 19 (((s.size : Int) - at_).toNat.succ) at_ 0 1 v 0 h0 (by omega) (by omega) (by omega) (by omega) (by show (putL v b).length ≤ _; omega) hb hs
  rw [h]
  show some (0 + v * 1, _) = _
  rw [Int.mul_one, Int.zero_add]
  rfl
theorem cnt_snoc (ys : List Int) (m : Int) (i : Nat) (h : i < ys.length) : cntB (ys.take (i + 1)) m = cntB (ys.take i) m + if ys.getD i 0 < m then 1 else 0 := by
  rw [take_succ_getD ys i h]
  unfold cntB
  rw [List.filter_append, List.length_append]
  generalize ys.getD i 0 = y
  by_cases c : y < m
  · simp [c]
  · simp [c]
theorem cnt_bound (ys : List Int) (m : Int) : cntB ys m ≤ ys.length := List.length_filter_le _ _
theorem mul3b (a b c : Int) : (a + b) * c = a * c + b * c := Int.add_mul a b c
end Go.Proofs.Ytegacgfhmigdjaa
/- A list's text denotes the list. -/
namespace Go.Proofs.Ytegacgfhmigdjaa
open Go.RowKit Go.Proofs.YtegacgfhmigdjaaW.PrintWords Go.Proofs.YtegacgfhmigdjaaW.PrintLast Go.Proofs.YtegacgfhmigdjaaW.PrintMore Go.Proofs.Ytegacgfhmigdjaa.PPu
set_option linter.unusedVariables false
set_option linter.unusedSimpArgs false

/-- The numbers that the decoder has: those below m, and those at m ahead of place i. -/
def dlF (ys : List Int) (m : Int) (i : Nat) : List Int := (ys.take i).filter (fun c => decide (c < m + 1)) ++ (ys.drop i).filter (fun c => decide (c < m))
theorem drop_getD (ys : List Int) (i : Nat) (h : i < ys.length) : ys.drop i = ys.getD i 0 :: ys.drop (i + 1) := by
  rw [List.drop_eq_getElem_cons h, List.getD_eq_getElem?_getD, List.getElem?_eq_getElem h]
  rfl
theorem dl_low (ys : List Int) (m : Int) (i : Nat) (h : i < ys.length) (hc : ys.getD i 0 ≠ m) : dlF ys m (i + 1) = dlF ys m i := by
  unfold dlF
  rw [take_succ_getD ys i h, drop_getD ys i h, List.filter_append, List.filter_cons, List.filter_cons, List.filter_nil, List.append_assoc]
  congr 1
  by_cases h1 : ys.getD i 0 < m
  · rw [decide_eq_true h1, decide_eq_true (by omega)]; rfl
  · rw [decide_eq_false h1, decide_eq_false (by omega)]; rfl
theorem dl_hit (ys : List Int) (m : Int) (i : Nat) (h : i < ys.length) (hc : ys.getD i 0 = m) : dlF ys m (i + 1) = insL (dlF ys m i) (cntB (ys.take i) (m + 1)) m := by
  unfold dlF insL cntB
  rw [List.take_left, List.drop_left, take_succ_getD ys i h, drop_getD ys i h, List.filter_append, List.filter_cons, List.filter_cons, List.filter_nil, List.append_assoc, hc]
  rw [decide_eq_true (by omega : m < m + 1), decide_eq_false (by omega : ¬ m < m)]
  rfl
theorem dl_len {ys : List Int} {m : Int} {i : Nat} {s : TS} (h : II ys m i s) : (dlF ys m i).length = s.done := by
  rw [h.done]
  unfold dlF
  rw [List.length_append]
  have h1 : ((ys.take i).filter (fun c => decide (c < m + 1))).length = cntB (ys.take i) m + cntE (ys.take i) m := by rw [← cntB_next]; rfl
  have h2 : cntB (ys.take i) m + ((ys.drop i).filter (fun c => decide (c < m))).length = cntB ys m := by
    unfold cntB
    rw [← List.length_append, ← List.filter_append, List.take_append_drop]
  omega
/-- The decoder, from a state on, comes to the list. -/
def DecTo (ys T : List Int) (hd start : Nat) (s : TS) (l : List Int) (n1 : Int) (w1 : Nat) : Prop :=
  (∃ r, T = s.out ++ r) ∧ hd ≤ s.out.length ∧ ∀ k, T.length - s.out.length + 1 ≤ k → denGo (strOfNums (T.drop hd)) k ((s.out.length - hd : Nat) : Int) l n1 w1 s.b (s.done == start) = some ys
theorem dec_hit (ys T : List Int) (hd : Nat) (hl : ys.length ≤ 120) (hs : ∀ y ∈ ys, isP y = true) (hT : ∀ x ∈ T, 0 ≤ x ∧ x ≤ 255) (m n1 : Int) (w1 i : Nat) (s : TS) (hI : II ys m i s) (hi : i < ys.length) (he : ys.getD i 0 = m)
    (hh : hd ≤ s.out.length) (hde : s.delta = (m - n1) * ((s.done : Int) + 1) + cntB (ys.take i) (m + 1) - w1) (h : DecTo ys T hd (cntB ys 128) (stepT (cntB ys 128) m s (ys.getD i 0)) (dlF ys m (i + 1)) m (cntB (ys.take i) (m + 1) + 1)) : DecTo ys T hd (cntB ys 128) s (dlF ys m i) n1 w1 := by
  have hst : stepT (cntB ys 128) m s (ys.getD i 0) = ⟨0, adaptP s.delta (s.done + 1) (s.done == cntB ys 128), s.done + 1, s.out ++ putL s.delta s.b⟩ := by
    unfold stepT
    rw [if_neg (by omega), if_pos he]
  rw [hst] at h
  obtain ⟨⟨r, hr⟩, -, hK⟩ := h
  simp only at hr hK
  have hroom := hI.room hi he (by omega)
  have hd0 := hI.d0
  have hm0 := hI.m0
  have hlen := dl_len hI
  have hpl := putL_pos s.delta s.b
  have hbd : cntB ys 128 ≤ s.done := by
    rw [hI.done]
    have : cntB ys 128 ≤ cntB ys m := by
      unfold cntB
      rw [← List.countP_eq_length_filter, ← List.countP_eq_length_filter]
      exact List.countP_mono_left fun x _ hx => decide_eq_true (by have := of_decide_eq_true hx; omega)
    omega
  have hpos : cntB (ys.take i) (m + 1) ≤ s.done := by
    rw [← hlen]
    unfold dlF
    rw [List.length_append]
    exact Nat.le_add_right _ _
  refine ⟨⟨putL s.delta s.b ++ r, by rw [hr, List.append_assoc]⟩, hh, fun k hk => ?_⟩
  have hTl : T.length = s.out.length + (putL s.delta s.b).length + r.length := by rw [hr, List.length_append, List.length_append]
  have hTd : T.drop hd = s.out.drop hd ++ (putL s.delta s.b ++ r) := by rw [hr, List.append_assoc, List.drop_append_of_le_length hh]
  obtain ⟨k, rfl⟩ : ∃ j, k = j + 1 := ⟨k - 1, by omega⟩
  have hsz : (strOfNums (T.drop hd)).size = T.length - hd := by rw [str_size, List.length_drop]
  have hrange : ∀ x ∈ T.drop hd, 0 ≤ x ∧ x ≤ 255 := fun x hx => hT x (List.mem_of_mem_drop hx)
  have hget := getP_put (strOfNums (T.drop hd)) s.b s.delta (s.out.length - hd) hd0 hroom.2.1 (fun j hj => by
    rw [bt_str _ hrange, hTd, List.getD_eq_getElem?_getD, List.getElem?_append_right (by rw [List.length_drop]; omega), List.length_drop, Nat.add_sub_cancel_left, List.getElem?_append_left hj, List.getD_eq_getElem?_getD]) (by rw [hsz]; omega)
  have hsum : (w1 : Int) + s.delta = (m - n1) * ((s.done : Int) + 1) + cntB (ys.take i) (m + 1) := by omega
  have hdiv : ((w1 : Int) + s.delta) / ((s.done : Int) + 1) = m - n1 := by
    rw [hsum, Int.add_comm, Int.add_mul_ediv_right _ _ (by omega), Int.ediv_eq_zero_of_lt (by omega) (by omega), Int.zero_add]
  have hmod : ((w1 : Int) + s.delta) % ((s.done : Int) + 1) = cntB (ys.take i) (m + 1) := by
    rw [hsum, Int.add_comm, Int.add_mul_emod_self_right, Int.emod_eq_of_lt (by omega) (by omega)]
  have hmem : m ∈ ys := by
    rw [← he, List.getD_eq_getElem?_getD, List.getElem?_eq_getElem hi]
    exact List.getElem_mem hi
  have hnm : n1 + (m - n1) = m := by omega
  rw [denGo, if_pos (by rw [hsz]; omega), hget]
  simp only
  rw [hlen, hdiv, hmod, hnm, if_pos (hs m hmem), Int.toNat_natCast, ← dl_hit ys m i hi he]
  have hk2 := hK k (by rw [List.length_append]; omega)
  rw [List.length_append, show s.out.length + (putL s.delta s.b).length - hd = s.out.length - hd + (putL s.delta s.b).length by omega] at hk2
  rw [show (s.done + 1 == cntB ys 128) = false from by simp; omega] at hk2
  exact hk2
end Go.Proofs.Ytegacgfhmigdjaa
/- A list's text denotes the list: all of it. -/
namespace Go.Proofs.Ytegacgfhmigdjaa
open Go.RowKit Go.Proofs.YtegacgfhmigdjaaW.PrintWords Go.Proofs.YtegacgfhmigdjaaW.PrintLast Go.Proofs.YtegacgfhmigdjaaW.PrintMore Go.Proofs.Ytegacgfhmigdjaa.PPu
set_option linter.unusedVariables false
set_option linter.unusedSimpArgs false

theorem step_grow (start : Nat) (m : Int) (s : TS) (c : Int) : s.out.length ≤ (stepT start m s c).out.length := by
  unfold stepT
  split
  · exact Nat.le_refl _
  split
  · simp
  · exact Nat.le_refl _
theorem dec_inner (ys T : List Int) (hd : Nat) (hl : ys.length ≤ 120) (hs : ∀ y ∈ ys, isP y = true) (hT : ∀ x ∈ T, 0 ≤ x ∧ x ≤ 255) (m n0 : Int) (w0 : Nat) (s0 : TS) (h0 : II ys m 0 s0) (hh : hd ≤ s0.out.length) (hd0 : s0.delta = (m - n0) * ((s0.done : Int) + 1) - w0) :
    ∀ i, i ≤ ys.length → ∃ (n1 : Int) (w1 : Nat), n1 ≤ max n0 m ∧ hd ≤ (innerT (cntB ys 128) m (ys.take i) s0).out.length ∧ II ys m i (innerT (cntB ys 128) m (ys.take i) s0) ∧
      (innerT (cntB ys 128) m (ys.take i) s0).delta = (m - n1) * (((innerT (cntB ys 128) m (ys.take i) s0).done : Int) + 1) + cntB (ys.take i) (m + 1) - w1 ∧
      (DecTo ys T hd (cntB ys 128) (innerT (cntB ys 128) m (ys.take i) s0) (dlF ys m i) n1 w1 → DecTo ys T hd (cntB ys 128) s0 (dlF ys m 0) n0 w0)
  | 0, _ => ⟨n0, w0, by omega, hh, h0, by rw [List.take_zero]; show s0.delta = _; rw [hd0]; show _ = (m - n0) * ((s0.done : Int) + 1) + ((cntB [] (m + 1) : Nat) : Int) - w0; simp [cntB], fun h => h⟩
  | i + 1, hi => by
    obtain ⟨n1, w1, hn1, hh1, hI, hde, himp⟩ := dec_inner ys T hd hl hs hT m n0 w0 s0 h0 hh hd0 i (by omega)
    rw [inner_succ (cntB ys 128) m ys s0 i (by omega)]
    obtain ⟨s, hs1⟩ : ∃ s, innerT (cntB ys 128) m (ys.take i) s0 = s := ⟨_, rfl⟩
    rw [hs1] at hI hde himp hh1 ⊢
    have hstep := hI.step (by omega) (cntB ys 128)
    have hcs := cnt_snoc ys (m + 1) i (by omega)
    have hg := step_grow (cntB ys 128) m s (ys.getD i 0)
    by_cases c1 : ys.getD i 0 < m
    · have hst : stepT (cntB ys 128) m s (ys.getD i 0) = { s with delta := s.delta + 1 } := by unfold stepT; rw [if_pos c1]
      rw [hst] at hstep ⊢
      rw [if_pos (by omega)] at hcs
      refine ⟨n1, w1, hn1, hh1, hstep, by show s.delta + 1 = (m - n1) * ((s.done : Int) + 1) + _ - w1; rw [hde, hcs]; omega, fun h => himp ?_⟩
      rw [← dl_low ys m i (by omega) (by omega)]
      exact h
    · by_cases c2 : ys.getD i 0 = m
      · rw [if_pos (by omega)] at hcs
        refine ⟨m, cntB (ys.take i) (m + 1) + 1, by omega, by omega, hstep, ?_, fun h => himp (dec_hit ys T hd hl hs hT m n1 w1 i s hI (by omega) c2 hh1 hde h)⟩
        have hst : stepT (cntB ys 128) m s (ys.getD i 0) = ⟨0, adaptP s.delta (s.done + 1) (s.done == cntB ys 128), s.done + 1, s.out ++ putL s.delta s.b⟩ := by
          unfold stepT
          rw [if_neg c1, if_pos c2]
        rw [hst, hcs]
        show (0 : Int) = (m - m) * _ + _ - _
        rw [Int.sub_self, Int.zero_mul]
        omega
      · have hst : stepT (cntB ys 128) m s (ys.getD i 0) = s := by unfold stepT; rw [if_neg c1, if_neg c2]
        rw [hst] at hstep ⊢
        rw [if_neg (by omega)] at hcs
        refine ⟨n1, w1, hn1, hh1, hstep, by rw [hde, hcs, Nat.add_zero], fun h => himp ?_⟩
        rw [← dl_low ys m i (by omega) c2]
        exact h
theorem dl_start (ys : List Int) (m : Int) : dlF ys m 0 = ys.filter fun c => decide (c < m) := by
  unfold dlF
  rw [List.take_zero, List.drop_zero]
  rfl
theorem dl_end (ys : List Int) (m : Int) : dlF ys m ys.length = ys.filter fun c => decide (c < m + 1) := by
  unfold dlF
  rw [List.take_length, List.drop_length]
  simp
theorem dec_outer (ys : List Int) (hd : Nat) (hl : ys.length ≤ 120) (hs : ∀ y ∈ ys, isP y = true) (T : List Int) (hT : ∀ x ∈ T, 0 ≤ x ∧ x ≤ 255) : ∀ (zs : List Int) (n n0 : Int) (w0 : Nat) (s : TS), OI ys zs n s → hd ≤ s.out.length → s.delta = (n - n0) * ((s.done : Int) + 1) - w0 →
    T = (outerT ys (cntB ys 128) zs (n, s)).2.out → DecTo ys T hd (cntB ys 128) s (ys.filter fun c => decide (c < n)) n0 w0
  | [], n, n0, w0, s, h, hh, hde, hTe => by
    have he : T = s.out := hTe
    refine ⟨⟨[], by rw [he, List.append_nil]⟩, hh, fun k hk => ?_⟩
    obtain ⟨k, rfl⟩ : ∃ j, k = j + 1 := ⟨k - 1, by omega⟩
    rw [denGo, if_neg (by rw [str_size, List.length_drop, he]; omega)]
    congr 1
    rw [List.filter_eq_self]
    exact fun c hc => decide_eq_true ((h.cov c hc).elim id fun e => (by cases e))
  | m :: zs, n, n0, w0, s, h, hh, hde, hTe => by
    obtain ⟨D, hD, -, -, hnm, -, -, -, -, h0⟩ := h.enter (by omega)
    obtain ⟨n1, w1, -, hh1, hI, hde1, himp⟩ := dec_inner ys T hd hl hs hT m n0 w0 { s with delta := s.delta + D } h0 hh (by
      show s.delta + D = (m - n0) * ((s.done : Int) + 1) - w0
      rw [hde, ← hD, show m - n0 = (n - n0) + (m - n) by omega, mul3b]
      omega) ys.length (Nat.le_refl _)
    rw [List.take_length] at hI hde1 himp hh1
    rw [dl_start, dl_end] at himp
    obtain ⟨s1, hs1⟩ : ∃ s1, innerT (cntB ys 128) m ys { s with delta := s.delta + D } = s1 := ⟨_, rfl⟩
    rw [hs1] at hI hde1 himp hh1
    have hO := hI.leave h
    have hout : outerT ys (cntB ys 128) (m :: zs) (n, s) = outerT ys (cntB ys 128) zs (m + 1, { s1 with delta := s1.delta + 1 }) := by
      show outerT ys (cntB ys 128) zs (outT ys (cntB ys 128) (n, s) m) = _
      unfold outT
      rw [show s.delta + (m - n) * ((s.done : Int) + 1) = s.delta + D by rw [hD], hs1]
    rw [hout] at hTe
    have hdone : (s1.done : Int) = cntB ys (m + 1) := by
      have := hI.done
      rw [List.take_length] at this
      rw [this, cntB_next]
    have hr := dec_outer ys hd hl hs T hT zs (m + 1) n1 w1 { s1 with delta := s1.delta + 1 } hO hh1 (by
      show s1.delta + 1 = (m + 1 - n1) * ((s1.done : Int) + 1) - w1
      rw [hde1, show m + 1 - n1 = (m - n1) + 1 by omega, mul3b, hdone]
      omega) hTe
    have h2 := himp hr
    have hsame : (ys.filter fun c => decide (c < m)) = ys.filter fun c => decide (c < n) := by
      refine List.filter_congr fun c hc => ?_
      rcases h.cov c hc with e | e
      · rw [decide_eq_true e, decide_eq_true (by omega)]
      · have : m ≤ c := by
          rcases List.mem_cons.1 e with rfl | e
          · exact Int.le_refl _
          · exact Int.le_of_lt (List.rel_of_pairwise_cons h.inc e)
        rw [decide_eq_false (by omega), decide_eq_false (by omega)]
    rw [hsame] at h2
    exact h2
end Go.Proofs.Ytegacgfhmigdjaa
