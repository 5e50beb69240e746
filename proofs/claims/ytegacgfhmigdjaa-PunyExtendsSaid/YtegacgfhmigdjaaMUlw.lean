/- Joined texts: Ulw, Ue1. -/
import Derived.Test.YtegacgfhmigdjaaMUsj
import Derived.Test.YtegacgfhmigdjaaMUbl
import Derived.Test.YtegacgfhmigdjaaPPbx1
import Derived.OpenShut
import Derived.Test.YtegacgfhmigdjaaMUsm
/- Words for the laws that write: the first that is no scalar, lists that were handed in. -/
namespace Go.Proofs.Ytegacgfhmigdjaa
open Go.RowKit Go.Proofs.YtegacgfhmigdjaaW.PrintWords Go.Proofs.YtegacgfhmigdjaaW.PrintLast Go.Proofs.YtegacgfhmigdjaaW.PrintMore Go.Proofs.Ytegacgfhmigdjaa.PPu
set_option linter.unusedVariables false
set_option linter.unusedSimpArgs false

theorem src32_of {w : World} {g B : Nat} {A : Option Addr} {l : List Int} (h : ReadsInt w .u32 A l.length l) (hg : w.heap.size ≤ g) (hB : w.heap.size ≤ B) : Src32 w g B A l := by
  cases l with
  | nil => exact .inl rfl
  | cons a r =>
    obtain ⟨pb, po, rfl, hs⟩ := src_u h (by simp)
    have hlt := hs.lt (by simp)
    exact .inr ⟨pb, po, rfl, by omega, by omega, hs.cells⟩
theorem bis_f (n : Int) : PPb.pilcrowref01_Is.f n = some (isP n) := by
  unfold PPb.pilcrowref01_Is.f isP
  repeat' split
  all_goals first | rfl | (simp; omega) | (exfalso; omega)
theorem first_l0 (l : List Int) (hl : l.length ≤ 1000000) : ∀ (m i k : Nat), i + m = l.length → m + 1 ≤ k → PPb.pilcrowref01_First.l0 k l i = some (if scalN l m i < l.length then (scalN l m i : Int) else -1)
  | 0, i, k, hi, hk => by
    obtain ⟨k, rfl⟩ : ∃ j, k = j + 1 := ⟨k - 1, by omega⟩
    rw [PPb.pilcrowref01_First.l0, if_neg (by omega), scalN, if_neg (by omega)]
  | m + 1, i, k, hi, hk => by
    obtain ⟨k, rfl⟩ : ∃ j, k = j + 1 := ⟨k - 1, by omega⟩
    have hrd : rd l (i : Int) = l.getD i 0 := by unfold rd; rw [Int.toNat_natCast]
    have hs : scalN l (m + 1) i = if isP (l.getD i 0) = true then scalN l m (i + 1) else i := by rw [scalN, if_pos (by omega)]
    rw [PPb.pilcrowref01_First.l0, if_pos (by omega), if_pos (by omega), hrd, bis_f, Option.bind_some, hs]
    by_cases hp : isP (l.getD i 0) = true
    · simp only [if_pos hp]
      rw [w64 (by omega) (by omega)]
      exact first_l0 l hl m (i + 1) k (by omega) (by omega)
    · simp only [if_neg hp]
      rw [if_pos (by omega)]
def firstR (l : List Int) : Int := if encN l < l.length then (encN l : Int) else -1
theorem first_c (A : Option Addr) (c : Nat) (l : List Int) (w : World) (h : ReadsInt w .u32 A l.length l) (hc : l.length ≤ c) (hl : l.length ≤ 1000000) :
    Calls Try.prog 22 #[.slice A l.length c] w fun e w' => e = .returned (.int .i64 (firstR l)) ∧ Below w.heap.size w w' := by
  refine (PPb.pilcrowref01_First.calls (l.length + 1) A c l (firstR l) w (Kd.C_of_reads (d := (0 : Int)) h) hc (first_l0 l hl l.length 0 (l.length + 1) (by omega) (Nat.le_refl _))).mono ?_
  rintro e w' ⟨rfl, ⟨nd, rfl⟩⟩
  exact ⟨rfl, below_drewN' (Below.refl _ _) nd⟩
theorem writeF_some (l : List Int) : ∃ t en E F, WriteF l t en E F := by
  by_cases h : encN l < l.length
  · exact ⟨_, _, _, _, .inl ⟨h, rfl, rfl, rfl, rfl⟩⟩
  · exact ⟨_, _, _, _, .inr ⟨by have := encN_le l; omega, rfl, rfl, rfl, rfl⟩⟩
theorem reads_nil (w : World) (k : IntKind) : ReadsInt w k none ([] : List Int).length [] := ⟨rfl, by decide, fun h => absurd h (Nat.lt_irrefl 0)⟩
/-- great, where no parts are told. -/
theorem great_n (n : Nat) (w : World) : Calls Try.prog 11 #[.int .i64 n, .slice none 0 0, .slice none 0 0] w fun e w' => e = .returned (.bool (decide (n > 120))) ∧ Below w.heap.size w w' := by
  have h := great_c n none none 0 0 [] [] w (reads_nil w _) (reads_nil w _) (Nat.le_refl _) (Nat.le_refl _)
  refine h.mono ?_
  rintro e w' ⟨rfl, hb⟩
  refine ⟨?_, hb⟩
  unfold greatR
  simp
/-- A fresh encoder writes a list of scalars. -/
theorem write_fresh (l : List Int) (A AP AR : Option Addr) (c cp cr : Nat) (lp lr : List Int) (w w3 : World) (hw : w3 = w.alloc (.cells #[.int .i64 0, .int .i64 0, .int .i64 0, .bool false, .string ⟨#[]⟩, .slice none 0 0] 65 (0, 0)))
    (h1 : ReadsInt w .u32 A l.length l) (hc : l.length ≤ c) (hl : l.length ≤ 10000) (h0 : ∀ y ∈ l, 0 ≤ y) (hp : ReadsInt w .i64 AP lp.length lp) (hr : ReadsInt w .i64 AR lr.length lr) (hlp : lp.length ≤ 1000000) (hlr : lr.length ≤ 1000000) (t : ByteArray) (en : Bool) (E F : Int) (hres : WriteF l t en E F) :
    Calls Try.prog 20 #[.pointer (some ⟨w.heap.size, 0, none⟩), .slice A l.length c, .slice AP lp.length cp, .slice AR lr.length cr] w3 fun e w' => e = .returned (.tuple #[.string t, .bool true]) ∧ (∃ lv, EX w' w.heap.size (w.heap.size + 1) E F en (encN l : Int) (l.take (encN l)) ⟨#[]⟩ lv) ∧ Below w.heap.size w w' := by
  have hb : Below w.heap.size w w3 := by rw [hw]; exact below_new (Below.refl _ _) _
  have hz : w3.heap.size = w.heap.size + 1 := by rw [hw, World.size_alloc]
  refine (write_c w.heap.size (w.heap.size + 1) A AP AR c cp cr l lp lr w3 (by rw [hw]; exact EX.new w _) (by omega) (by omega) hl hlp hlr h0 ((src32_of h1 (Nat.le_refl _) (Nat.le_succ _)).eff (Eff.of_below hb _)) hc ((hand_of hp (Nat.le_refl _) (Nat.le_succ _)).below hb) ((hand_of hr (Nat.le_refl _) (Nat.le_succ _)).below hb) t en E F hres).mono ?_
  rintro e w' ⟨rfl, hx, he⟩
  exact ⟨rfl, hx, Eff.under hb he (by omega) (fun k hk => by omega)⟩
end Go.Proofs.Ytegacgfhmigdjaa
/- PunyExtends, in plain Lean: what is eaten ahead of an error is the beginning of a text that denotes something. -/
namespace Go.Proofs.Ytegacgfhmigdjaa
open Go.RowKit Go.Proofs.YtegacgfhmigdjaaW.PrintWords Go.Proofs.YtegacgfhmigdjaaW.PrintLast Go.Proofs.YtegacgfhmigdjaaW.PrintMore Go.Proofs.Ytegacgfhmigdjaa.PPu
set_option linter.unusedVariables false
set_option linter.unusedSimpArgs false

theorem lowN_spec (s : ByteArray) : ∀ k i, i + k = s.size → (∀ j, i ≤ j → j < lowN s k i → bt s (j : Int) < 128) ∧ (lowN s k i < s.size → bt s (lowN s k i : Int) ≥ 128) ∧ i ≤ lowN s k i ∧ lowN s k i ≤ s.size
  | 0, i, h => by
    rw [lowN]
    exact ⟨fun j h1 h2 => by omega, fun h2 => by omega, by omega, by omega⟩
  | k + 1, i, h => by
    rw [lowN, if_pos (by omega)]
    split
    · rename_i hb
      exact ⟨fun j h1 h2 => by omega, fun _ => hb, Nat.le_refl _, by omega⟩
    · rename_i hb
      obtain ⟨h1, h2, h3, h4⟩ := lowN_spec s k (i + 1) (by omega)
      refine ⟨fun j hj1 hj2 => ?_, h2, by omega, h4⟩
      by_cases e : j = i
      · subst e; omega
      · exact h1 j (by omega) hj2
theorem feed_spec (s : ByteArray) : (∀ j, j < feedN s → bt s (j : Int) < 128) ∧ (feedN s < s.size → bt s (feedN s : Int) ≥ 128) ∧ feedN s ≤ s.size := by
  obtain ⟨h1, h2, h3, h4⟩ := lowN_spec s s.size 0 (by omega)
  exact ⟨fun j hj => h1 j (Nat.zero_le _) hj, h2, h4⟩
theorem feed_is (s : ByteArray) (n : Nat) (hn : n ≤ s.size) (h : ∀ j, j < n → bt s (j : Int) < 128) (he : n < s.size → bt s (n : Int) ≥ 128) : feedN s = n := by
  obtain ⟨h1, h2, h3⟩ := feed_spec s
  rcases Nat.lt_trichotomy (feedN s) n with hlt | heq | hgt
  · have := h2 (by omega)
    have := h _ hlt
    omega
  · exact heq
  · have := he (by omega)
    have := h1 _ hgt
    omega
theorem bytes_pre (s t : ByteArray) (n : Nat) : bytesOf (s.extract 0 n ++ t) = (bytesOf s).take n ++ bytesOf t := by
  unfold bytesOf
  simp [ByteArray.data_append, ByteArray.data_extract]
theorem bytes_size (s : ByteArray) : (bytesOf s).length = s.size := by
  unfold bytesOf
  simp
theorem bt_pre (s t : ByteArray) (n j : Nat) (hn : n ≤ s.size) (hj : j < n) : bt (s.extract 0 n ++ t) (j : Int) = bt s (j : Int) := by
  rw [bt_bytes, bt_bytes, bytes_pre, List.getD_eq_getElem?_getD, List.getD_eq_getElem?_getD, List.getElem?_append_left (by rw [List.length_take, bytes_size]; omega), List.getElem?_take, if_pos hj]
theorem bt_post (s t : ByteArray) (n j : Nat) (hn : n ≤ s.size) : bt (s.extract 0 n ++ t) ((n + j : Nat) : Int) = bt t (j : Int) := by
  have hz : ((bytesOf s).take n).length = n := by rw [List.length_take, bytes_size]; omega
  rw [bt_bytes, bt_bytes, bytes_pre, List.getD_eq_getElem?_getD, List.getD_eq_getElem?_getD, List.getElem?_append_right (by rw [hz]; omega), hz, Nat.add_sub_cancel_left]
theorem size_pre (s t : ByteArray) (n : Nat) (hn : n ≤ s.size) : (s.extract 0 n ++ t).size = n + t.size := by
  rw [ByteArray.size_append, ByteArray.size_extract]; omega
/-- With a hyphen behind it: all eaten. -/
theorem hyph_feed (s : ByteArray) (h : ByteArray) (hh : h = ⟨#[45]⟩) : feedN (s.extract 0 (feedN s) ++ h) = feedN s + 1 ∧ (s.extract 0 (feedN s) ++ h).size = feedN s + 1 := by
  obtain ⟨h1, h2, h3⟩ := feed_spec s
  have hz : (s.extract 0 (feedN s) ++ h).size = feedN s + 1 := by rw [size_pre s _ _ h3, hh]; rfl
  refine ⟨feed_is _ _ (by omega) (fun j hj => ?_) (fun h => by omega), hz⟩
  by_cases e : j < feedN s
  · rw [bt_pre s _ _ j h3 e]; exact h1 j e
  · obtain rfl : j = feedN s + 0 := by omega
    rw [bt_post s _ _ 0 h3, hh]
    decide
/-- .. and it denotes its own bytes. -/
theorem hyph_den (s : ByteArray) (h : ByteArray) (hh : h = ⟨#[45]⟩) (h0 : 0 < feedN s) : denR (s.extract 0 (feedN s) ++ h) = (preL s (feedN s), true) := by
  obtain ⟨h1, h2, h3⟩ := feed_spec s
  have hz := (hyph_feed s h hh).2
  obtain ⟨n, hn⟩ : ∃ n, feedN s = n := ⟨_, rfl⟩
  rw [hn] at hz h3 h0 h1 ⊢
  obtain ⟨t, ht⟩ : ∃ t, s.extract 0 n ++ h = t := ⟨_, rfl⟩
  have hlast : lastP t 45 t.size = (n : Int) := by
    rw [← ht, hz, lastP, if_pos ?_]
    have e := bt_post s h n 0 h3
    rw [Nat.add_zero] at e
    rw [e, hh]
    decide
  have hpre : preL t n = preL s n := by
    unfold preL
    refine List.map_congr_left fun j hj => ?_
    rw [List.mem_range] at hj
    rw [← ht, bt_pre s h n j h3 hj]
  rw [ht] at hz ⊢
  have hp : denP t = some (preL s n) := by
    unfold denP
    simp only [hlast]
    have hq : (0 : Int) < (n : Int) := by omega
    rw [if_pos hq, if_pos hq, Int.toNat_natCast, hpre, denGo, if_neg]
    rw [ByteArray.size_extract]
    omega
  unfold denR
  rw [hp]
theorem hyph_read (s : ByteArray) (h : ByteArray) (hh : h = ⟨#[45]⟩) : ∃ L en E F, ReadF (s.extract 0 (feedN s) ++ h) L en E F ∧ (0 < feedN s → L = preL s (feedN s) ∧ E = 0 ∧ F = 0) := by
  obtain ⟨hf, hz⟩ := hyph_feed s h hh
  by_cases h0 : 0 < feedN s
  · exact ⟨_, _, _, _, .inr ⟨by rw [hf, hz], hyph_den s h hh h0, .inl rfl⟩, fun _ => ⟨rfl, rfl, rfl⟩⟩
  · obtain ⟨L, en, E, F, hr, _⟩ := readF_some (s.extract 0 (feedN s) ++ h)
    exact ⟨L, en, E, F, hr, fun h => absurd h h0⟩
/-- With the byte that is wrong, whatever comes then. -/
theorem bad_feed (s m : ByteArray) (h : feedN s < s.size) : feedN (s.extract 0 (feedN s + 1) ++ m) = feedN s ∧ (s.extract 0 (feedN s + 1) ++ m).size = feedN s + 1 + m.size := by
  obtain ⟨h1, h2, h3⟩ := feed_spec s
  have hz := size_pre s m (feedN s + 1) (by omega)
  refine ⟨feed_is _ _ (by omega) (fun j hj => ?_) (fun _ => ?_), hz⟩
  · rw [bt_pre s m _ j (by omega) (by omega)]; exact h1 j hj
  · rw [bt_pre s m _ _ (by omega) (by omega)]; exact h2 h
theorem bad_read (s m : ByteArray) (h : feedN s < s.size) : ReadF (s.extract 0 (feedN s + 1) ++ m) [] false 3 (feedN s : Int) := by
  obtain ⟨hf, hz⟩ := bad_feed s m h
  exact .inl ⟨by omega, rfl, rfl, rfl, by rw [hf]⟩
end Go.Proofs.Ytegacgfhmigdjaa
