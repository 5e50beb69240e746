/- What a reader has eaten: plain laws, and one contract for Feed at whatever room. -/
import Derived.Test.YtegacgfhmigdjaaUfe
namespace Go.Proofs.Ytegacgfhmigdjaa
open Go.RowKit Go.Proofs.YtegacgfhmigdjaaW.PrintWords Go.Proofs.YtegacgfhmigdjaaW.PrintLast Go.Proofs.YtegacgfhmigdjaaW.PrintMore Go.Proofs.Ytegacgfhmigdjaa.PPu
set_option linter.unusedVariables false
set_option linter.unusedSimpArgs false

theorem bt_extract (s : ByteArray) (m e j : Nat) (he : e ≤ s.size) (hj : m + j < e) : bt (s.extract m e) (j : Int) = bt s ((m + j : Nat) : Int) := by
  have h1 : j < (s.extract m e).size := by rw [ByteArray.size_extract]; omega
  rw [← bt_at (s.extract m e) (j : Int) (by rw [Int.toNat_natCast]; exact h1), ← bt_at s ((m + j : Nat) : Int) (by rw [Int.toNat_natCast]; omega)]
  simp only [Int.toNat_natCast]
  congr 2
  exact ByteArray.getElem_extract h1
theorem low_le (s : ByteArray) : ∀ k i, i ≤ lowN s k i
  | 0, i => Nat.le_refl _
  | k + 1, i => by
    rw [lowN]
    split
    · split
      · exact Nat.le_refl _
      · exact Nat.le_trans (Nat.le_succ _) (low_le s k (i + 1))
    · exact Nat.le_refl _
theorem low_size (s : ByteArray) : ∀ k i, i ≤ s.size → lowN s k i ≤ s.size
  | 0, i, h => h
  | k + 1, i, h => by
    rw [lowN]
    split
    · split
      · exact h
      · exact low_size s k (i + 1) (by omega)
    · exact h
theorem feedN_le (s : ByteArray) : feedN s ≤ s.size := low_size s _ 0 (Nat.zero_le _)
theorem low_shift (s : ByteArray) (m n : Nat) (h : m + n ≤ s.size) : ∀ (k i : Nat), i + k = n →
    lowN s (s.size - (m + i)) (m + i) = if lowN (s.extract m (m + n)) k i < n then m + lowN (s.extract m (m + n)) k i else lowN s (s.size - (m + n)) (m + n)
  | 0, i, hk => by
    have : i = n := by omega
    subst this
    rw [lowN, if_neg (Nat.lt_irrefl _)]
  | k + 1, i, hk => by
    have hz : (s.extract m (m + n)).size = n := by rw [ByteArray.size_extract]; omega
    have hb := bt_extract s m (m + n) i h (by omega)
    obtain ⟨q, hq⟩ : ∃ q, s.size - (m + i) = q + 1 := ⟨s.size - (m + i) - 1, by omega⟩
    rw [hq, lowN, if_pos (show m + i < s.size by omega), lowN, if_pos (show i < (s.extract m (m + n)).size by rw [hz]; omega), hb]
    by_cases hc : bt s ((m + i : Nat) : Int) ≥ 128
    · rw [if_pos hc, if_pos hc, if_pos (show i < n by omega)]
    · rw [if_neg hc, if_neg hc]
      have := low_shift s m n h k (i + 1) (by omega)
      rw [show q = s.size - (m + (i + 1)) by omega]
      exact this
theorem preL_add (s : ByteArray) (m n : Nat) (h : m + n ≤ s.size) : ∀ e, e ≤ n → preL s m ++ preL (s.extract m (m + n)) e = preL s (m + e)
  | 0, _ => by simp [preL]
  | e + 1, he => by
    rw [preL_succ, ← List.append_assoc, preL_add s m n h e (by omega), bt_extract s m (m + n) e h (by omega), show m + (e + 1) = m + e + 1 by omega, preL_succ]
theorem rest_extract (s : ByteArray) (m e : Nat) (h : m + e ≤ s.size) : (s.extract m s.size).extract e (s.extract m s.size).size = s.extract (m + e) s.size := by
  rw [ByteArray.extract_extract, ByteArray.size_extract]
  congr 1
  omega
theorem part_extract (s : ByteArray) (m n : Nat) (h : m + n ≤ s.size) : (s.extract m s.size).extract 0 n = s.extract m (m + n) := by
  rw [ByteArray.extract_extract]
  congr 1
  omega
/-- How many are eaten with so much room. -/
def eatN (room : Nat) (t : ByteArray) : Nat := if room = 0 then 0 else feedN t
def badN (room : Nat) (t : ByteArray) : Prop := 0 < room ∧ feedN t < t.size
instance (room : Nat) (t : ByteArray) : Decidable (badN room t) := by unfold badN; infer_instance
theorem eatN_le (room : Nat) (t : ByteArray) : eatN room t ≤ t.size := by
  unfold eatN; split
  · exact Nat.zero_le _
  · exact feedN_le t
theorem feed_any (g B : Nat) (n : Int) (tx : List Int) (lv tv : Value) (s : ByteArray) (room : Nat) (w : World) (hd : DG w g B n tx lv tv) (hB : B ≤ w.heap.size) (h0 : 0 ≤ n) (hn : n + s.size ≤ 1000000) (hl : tx.length + s.size ≤ 1000000) :
    Calls Try.prog 25 #[.pointer (some ⟨g, 0, none⟩), .string s, .int .i64 room] w fun e w' => ∃ v lv' tv', e = .returned (.tuple #[.int .i64 (eatN room s), v]) ∧ w'.ownsRow w.heap.size 51 1 v 0 [] ∧
      DX w' g B (if badN room s then 3 else 0) (if badN room s then n + eatN room s else 0) false (n + eatN room s) (tx ++ preL s (eatN room s)) lv' tv' ∧ Eff w w' (fun k => k = g ∨ B ≤ k) := by
  by_cases hr : room = 0
  · subst hr
    refine (feed_zero g B n tx lv tv s 0 w hd (by decide)).mono ?_
    rintro e w' ⟨v, lv', rfl, ho, hx, he⟩
    have e1 : eatN 0 s = 0 := rfl
    have e2 : ¬ badN 0 s := fun h => absurd h.1 (Nat.lt_irrefl 0)
    rw [e1, if_neg e2, if_neg e2]
    refine ⟨v, lv', tv, rfl, ho, ?_, he.mono fun _ _ h => .inl h⟩
    have : tx ++ preL s 0 = tx := by simp [preL]
    rw [this]
    simpa using hx
  · refine (feed_go g B n tx lv tv s room w hd (by omega) hB h0 hn hl).mono ?_
    rintro e w' ⟨v, lv', rfl, ho, ⟨⟨tv', hx⟩, he⟩⟩
    have e1 : eatN room s = feedN s := by unfold eatN; rw [if_neg hr]
    have e2 : badN room s ↔ feedN s < s.size := ⟨fun h => h.2, fun h => ⟨by omega, h⟩⟩
    rw [e1]
    refine ⟨v, lv', tv', rfl, ho, ?_, he⟩
    by_cases hb : feedN s < s.size
    · rw [if_pos (e2.2 hb), if_pos (e2.2 hb)]
      rw [if_pos hb, if_pos hb] at hx
      exact hx
    · rw [if_neg (fun h => hb (e2.1 h)), if_neg (fun h => hb (e2.1 h))]
      rw [if_neg hb, if_neg hb] at hx
      exact hx
end Go.Proofs.Ytegacgfhmigdjaa
