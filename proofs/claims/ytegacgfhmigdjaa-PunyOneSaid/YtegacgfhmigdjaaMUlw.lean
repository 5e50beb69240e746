/- Joined texts: Ulw, Ue1, Ub4, Uo1, Uo2, Uo3, Uo4. -/
import Derived.Test.YtegacgfhmigdjaaMUsj
import Derived.Test.YtegacgfhmigdjaaMUbl
import Derived.Test.YtegacgfhmigdjaaPPbx1
import Derived.OpenShut
import Derived.Test.YtegacgfhmigdjaaMUsm
/- Words for the laws that write: the first that is no scalar, lists that were handed in. -/
namespace Go.Proofs.Ytegacgfhmigdjaa
open Go.RowKit Go.Proofs.YtegacgfhmigdjaaW.PrintWords Go.Proofs.YtegacgfhmigdjaaW.PrintLast Go.Proofs.YtegacgfhmigdjaaW.PrintMore Go.Proofs.Ytegacgfhmigdjaa.PPu
set_option linter.unusedVariables false
set_option linter.unusedSimpArgs false

theorem src32_of {w : World} {g B : Nat} {A : Option Addr} {l : List Int} (h : ReadsInt w .u32 A l.length l) (hg : w.heap.size ≤ g) (hB : w.heap.size ≤ B) : Src32 w g B A l := by
  cases l with
  | nil => exact .inl rfl
  | cons a r =>
    obtain ⟨pb, po, rfl, hs⟩ := src_u h (by simp)
    have hlt := hs.lt (by simp)
    exact .inr ⟨pb, po, rfl, by omega, by omega, hs.cells⟩
theorem bis_f (n : Int) : PPb.pilcrowref01_Is.f n = some (isP n) := by
  unfold PPb.pilcrowref01_Is.f isP
  repeat' split
  all_goals first | rfl | (simp; omega) | (exfalso; omega)
theorem first_l0 (l : List Int) (hl : l.length ≤ 1000000) : ∀ (m i k : Nat), i + m = l.length → m + 1 ≤ k → PPb.pilcrowref01_First.l0 k l i = some (if scalN l m i < l.length then (scalN l m i : Int) else -1)
  | 0, i, k, hi, hk => by
    obtain ⟨k, rfl⟩ : ∃ j, k = j + 1 := ⟨k - 1, by omega⟩
    rw [PPb.pilcrowref01_First.l0, if_neg (by omega), scalN, if_neg (by omega)]
  | m + 1, i, k, hi, hk => by
    obtain ⟨k, rfl⟩ : ∃ j, k = j + 1 := ⟨k - 1, by omega⟩
    have hrd : rd l (i : Int) = l.getD i 0 := by unfold rd; rw [Int.toNat_natCast]
    have hs : scalN l (m + 1) i = if isP (l.getD i 0) = true then scalN l m (i + 1) else i := by rw [scalN, if_pos (by omega)]
    rw [PPb.pilcrowref01_First.l0, if_pos (by omega), if_pos (by omega), hrd, bis_f, Option.bind_some, hs]
    by_cases hp : isP (l.getD i 0) = true
    · simp only [if_pos hp]
      rw [w64 (by omega) (by omega)]
      exact first_l0 l hl m (i + 1) k (by omega) (by omega)
    · simp only [if_neg hp]
      rw [if_pos (by omega)]
def firstR (l : List Int) : Int := if encN l < l.length then (encN l : Int) else -1
theorem first_c (A : Option Addr) (c : Nat) (l : List Int) (w : World) (h : ReadsInt w .u32 A l.length l) (hc : l.length ≤ c) (hl : l.length ≤ 1000000) :
    Calls Try.prog 22 #[.slice A l.length c] w fun e w' => e = .returned (.int .i64 (firstR l)) ∧ Below w.heap.size w w' := by
  refine (PPb.pilcrowref01_First.calls (l.length + 1) A c l (firstR l) w (Kd.C_of_reads (d := (0 : Int)) h) hc (first_l0 l hl l.length 0 (l.length + 1) (by omega) (Nat.le_refl _))).mono ?_
  rintro e w' ⟨rfl, ⟨nd, rfl⟩⟩
  exact ⟨rfl, below_drewN' (Below.refl _ _) nd⟩
theorem writeF_some (l : List Int) : ∃ t en E F, WriteF l t en E F := by
  by_cases h : encN l < l.length
  · exact ⟨_, _, _, _, .inl ⟨h, rfl, rfl, rfl, rfl⟩⟩
  · exact ⟨_, _, _, _, .inr ⟨by have := encN_le l; omega, rfl, rfl, rfl, rfl⟩⟩
theorem reads_nil (w : World) (k : IntKind) : ReadsInt w k none ([] : List Int).length [] := ⟨rfl, by decide, fun h => absurd h (Nat.lt_irrefl 0)⟩
/-- great, where no parts are told. -/
theorem great_n (n : Nat) (w : World) : Calls Try.prog 11 #[.int .i64 n, .slice none 0 0, .slice none 0 0] w fun e w' => e = .returned (.bool (decide (n > 120))) ∧ Below w.heap.size w w' := by
  have h := great_c n none none 0 0 [] [] w (reads_nil w _) (reads_nil w _) (Nat.le_refl _) (Nat.le_refl _)
  refine h.mono ?_
  rintro e w' ⟨rfl, hb⟩
  refine ⟨?_, hb⟩
  unfold greatR
  simp
/-- A fresh encoder writes a list of scalars. -/
theorem write_fresh (l : List Int) (A AP AR : Option Addr) (c cp cr : Nat) (lp lr : List Int) (w w3 : World) (hw : w3 = w.alloc (.cells #[.int .i64 0, .int .i64 0, .int .i64 0, .bool false, .string ⟨#[]⟩, .slice none 0 0] 65 (0, 0)))
    (h1 : ReadsInt w .u32 A l.length l) (hc : l.length ≤ c) (hl : l.length ≤ 10000) (h0 : ∀ y ∈ l, 0 ≤ y) (hp : ReadsInt w .i64 AP lp.length lp) (hr : ReadsInt w .i64 AR lr.length lr) (hlp : lp.length ≤ 1000000) (hlr : lr.length ≤ 1000000) (t : ByteArray) (en : Bool) (E F : Int) (hres : WriteF l t en E F) :
    Calls Try.prog 20 #[.pointer (some ⟨w.heap.size, 0, none⟩), .slice A l.length c, .slice AP lp.length cp, .slice AR lr.length cr] w3 fun e w' => e = .returned (.tuple #[.string t, .bool true]) ∧ (∃ lv, EX w' w.heap.size (w.heap.size + 1) E F en (encN l : Int) (l.take (encN l)) ⟨#[]⟩ lv) ∧ Below w.heap.size w w' := by
  have hb : Below w.heap.size w w3 := by rw [hw]; exact below_new (Below.refl _ _) _
  have hz : w3.heap.size = w.heap.size + 1 := by rw [hw, World.size_alloc]
  refine (write_c w.heap.size (w.heap.size + 1) A AP AR c cp cr l lp lr w3 (by rw [hw]; exact EX.new w _) (by omega) (by omega) hl hlp hlr h0 ((src32_of h1 (Nat.le_refl _) (Nat.le_succ _)).eff (Eff.of_below hb _)) hc ((hand_of hp (Nat.le_refl _) (Nat.le_succ _)).below hb) ((hand_of hr (Nat.le_refl _) (Nat.le_succ _)).below hb) t en E F hres).mono ?_
  rintro e w' ⟨rfl, hx, he⟩
  exact ⟨rfl, hx, Eff.under hb he (by omega) (fun k hk => by omega)⟩
end Go.Proofs.Ytegacgfhmigdjaa
/- PunyExtends, in plain Lean: what is eaten ahead of an error is the beginning of a text that denotes something. -/
namespace Go.Proofs.Ytegacgfhmigdjaa
open Go.RowKit Go.Proofs.YtegacgfhmigdjaaW.PrintWords Go.Proofs.YtegacgfhmigdjaaW.PrintLast Go.Proofs.YtegacgfhmigdjaaW.PrintMore Go.Proofs.Ytegacgfhmigdjaa.PPu
set_option linter.unusedVariables false
set_option linter.unusedSimpArgs false

theorem lowN_spec (s : ByteArray) : ∀ k i, i + k = s.size → (∀ j, i ≤ j → j < lowN s k i → bt s (j : Int) < 128) ∧ (lowN s k i < s.size → bt s (lowN s k i : Int) ≥ 128) ∧ i ≤ lowN s k i ∧ lowN s k i ≤ s.size
  | 0, i, h => by
    rw [lowN]
    exact ⟨fun j h1 h2 => by omega, fun h2 => by omega, by omega, by omega⟩
  | k + 1, i, h => by
    rw [lowN, if_pos (by omega)]
    split
    · rename_i hb
      exact ⟨fun j h1 h2 => by omega, fun _ => hb, Nat.le_refl _, by omega⟩
    · rename_i hb
      obtain ⟨h1, h2, h3, h4⟩ := lowN_spec s k (i + 1) (by omega)
      refine ⟨fun j hj1 hj2 => ?_, h2, by omega, h4⟩
      by_cases e : j = i
      · subst e; omega
      · exact h1 j (by omega) hj2
theorem feed_spec (s : ByteArray) : (∀ j, j < feedN s → bt s (j : Int) < 128) ∧ (feedN s < s.size → bt s (feedN s : Int) ≥ 128) ∧ feedN s ≤ s.size := by
  obtain ⟨h1, h2, h3, h4⟩ := lowN_spec s s.size 0 (by omega)
  exact ⟨fun j hj => h1 j (Nat.zero_le _) hj, h2, h4⟩
theorem feed_is (s : ByteArray) (n : Nat) (hn : n ≤ s.size) (h : ∀ j, j < n → bt s (j : Int) < 128) (he : n < s.size → bt s (n : Int) ≥ 128) : feedN s = n := by
  obtain ⟨h1, h2, h3⟩ := feed_spec s
  rcases Nat.lt_trichotomy (feedN s) n with hlt | heq | hgt
  · have := h2 (by omega)
    have := h _ hlt
    omega
  · exact heq
  · have := he (by omega)
    have := h1 _ hgt
    omega
theorem bytes_pre (s t : ByteArray) (n : Nat) : bytesOf (s.extract 0 n ++ t) = (bytesOf s).take n ++ bytesOf t := by
  unfold bytesOf
  simp [ByteArray.data_append, ByteArray.data_extract]
theorem bytes_size (s : ByteArray) : (bytesOf s).length = s.size := by
  unfold bytesOf
  simp
theorem bt_pre (s t : ByteArray) (n j : Nat) (hn : n ≤ s.size) (hj : j < n) : bt (s.extract 0 n ++ t) (j : Int) = bt s (j : Int) := by
  rw [bt_bytes, bt_bytes, bytes_pre, List.getD_eq_getElem?_getD, List.getD_eq_getElem?_getD, List.getElem?_append_left (by rw [List.length_take, bytes_size]; omega), List.getElem?_take, if_pos hj]
theorem bt_post (s t : ByteArray) (n j : Nat) (hn : n ≤ s.size) : bt (s.extract 0 n ++ t) ((n + j : Nat) : Int) = bt t (j : Int) := by
  have hz : ((bytesOf s).take n).length = n := by rw [List.length_take, bytes_size]; omega
  rw [bt_bytes, bt_bytes, bytes_pre, List.getD_eq_getElem?_getD, List.getD_eq_getElem?_getD, List.getElem?_append_right (by rw [hz]; omega), hz, Nat.add_sub_cancel_left]
theorem size_pre (s t : ByteArray) (n : Nat) (hn : n ≤ s.size) : (s.extract 0 n ++ t).size = n + t.size := by
  rw [ByteArray.size_append, ByteArray.size_extract]; omega
/-- With a hyphen behind it: all eaten. -/
theorem hyph_feed (s : ByteArray) (h : ByteArray) (hh : h = ⟨#[45]⟩) : feedN (s.extract 0 (feedN s) ++ h) = feedN s + 1 ∧ (s.extract 0 (feedN s) ++ h).size = feedN s + 1 := by
  obtain ⟨h1, h2, h3⟩ := feed_spec s
  have hz : (s.extract 0 (feedN s) ++ h).size = feedN s + 1 := by rw [size_pre s _ _ h3, hh]; rfl
  refine ⟨feed_is _ _ (by omega) (fun j hj => ?_) (fun h => by omega), hz⟩
  by_cases e : j < feedN s
  · rw [bt_pre s _ _ j h3 e]; exact h1 j e
  · obtain rfl : j = feedN s + 0 := by omega
    rw [bt_post s _ _ 0 h3, hh]
    decide
/-- .. and it denotes its own bytes. -/
theorem hyph_den (s : ByteArray) (h : ByteArray) (hh : h = ⟨#[45]⟩) (h0 : 0 < feedN s) : denR (s.extract 0 (feedN s) ++ h) = (preL s (feedN s), true) := by
  obtain ⟨h1, h2, h3⟩ := feed_spec s
  have hz := (hyph_feed s h hh).2
  obtain ⟨n, hn⟩ : ∃ n, feedN s = n := ⟨_, rfl⟩
  rw [hn] at hz h3 h0 h1 ⊢
  obtain ⟨t, ht⟩ : ∃ t, s.extract 0 n ++ h = t := ⟨_, rfl⟩
  have hlast : lastP t 45 t.size = (n : Int) := by
    rw [← ht, hz, lastP, if_pos ?_]
    have e := bt_post s h n 0 h3
    rw [Nat.add_zero] at e
    rw [e, hh]
    decide
  have hpre : preL t n = preL s n := by
    unfold preL
    refine List.map_congr_left fun j hj => ?_
    rw [List.mem_range] at hj
    rw [← ht, bt_pre s h n j h3 hj]
  rw [ht] at hz ⊢
  have hp : denP t = some (preL s n) := by
    unfold denP
    simp only [hlast]
    have hq : (0 : Int) < (n : Int) := by omega
    rw [if_pos hq, if_pos hq, Int.toNat_natCast, hpre, denGo, if_neg]
    rw [ByteArray.size_extract]
    omega
  unfold denR
  rw [hp]
theorem hyph_read (s : ByteArray) (h : ByteArray) (hh : h = ⟨#[45]⟩) : ∃ L en E F, ReadF (s.extract 0 (feedN s) ++ h) L en E F ∧ (0 < feedN s → L = preL s (feedN s) ∧ E = 0 ∧ F = 0) := by
  obtain ⟨hf, hz⟩ := hyph_feed s h hh
  by_cases h0 : 0 < feedN s
  · exact ⟨_, _, _, _, .inr ⟨by rw [hf, hz], hyph_den s h hh h0, .inl rfl⟩, fun _ => ⟨rfl, rfl, rfl⟩⟩
  · obtain ⟨L, en, E, F, hr, _⟩ := readF_some (s.extract 0 (feedN s) ++ h)
    exact ⟨L, en, E, F, hr, fun h => absurd h h0⟩
/-- With the byte that is wrong, whatever comes then. -/
theorem bad_feed (s m : ByteArray) (h : feedN s < s.size) : feedN (s.extract 0 (feedN s + 1) ++ m) = feedN s ∧ (s.extract 0 (feedN s + 1) ++ m).size = feedN s + 1 + m.size := by
  obtain ⟨h1, h2, h3⟩ := feed_spec s
  have hz := size_pre s m (feedN s + 1) (by omega)
  refine ⟨feed_is _ _ (by omega) (fun j hj => ?_) (fun _ => ?_), hz⟩
  · rw [bt_pre s m _ j (by omega) (by omega)]; exact h1 j hj
  · rw [bt_pre s m _ _ (by omega) (by omega)]; exact h2 h
theorem bad_read (s m : ByteArray) (h : feedN s < s.size) : ReadF (s.extract 0 (feedN s + 1) ++ m) [] false 3 (feedN s : Int) := by
  obtain ⟨hf, hz⟩ := bad_feed s m h
  exact .inl ⟨by omega, rfl, rfl, rfl, by rw [hf]⟩
end Go.Proofs.Ytegacgfhmigdjaa
/- A list's text: its bytes, and what it denotes. -/
namespace Go.Proofs.Ytegacgfhmigdjaa
open Go.RowKit Go.Proofs.YtegacgfhmigdjaaW.PrintWords Go.Proofs.YtegacgfhmigdjaaW.PrintLast Go.Proofs.YtegacgfhmigdjaaW.PrintMore Go.Proofs.Ytegacgfhmigdjaa.PPu
set_option linter.unusedVariables false
set_option linter.unusedSimpArgs false

theorem text_shape (ys : List Int) (hl : ys.length ≤ 120) (hr : ∀ y ∈ ys, 0 ≤ y ∧ y ≤ 1114111) : ∃ G, textL ys = (lowL ys ++ sepL ys) ++ G ∧ ∀ x ∈ G, 48 ≤ x ∧ x ≤ 122 := by
  have h := outer_ind ys (lowL ys).length (by omega) (fun s => ∃ G, s.out = (lowL ys ++ sepL ys) ++ G ∧ ∀ x ∈ G, 48 ≤ x ∧ x ≤ 122) (fun m i s hI hi hp => by
    obtain ⟨G, hG, hx⟩ := hp
    unfold stepT
    split
    · exact ⟨G, hG, hx⟩
    split
    · refine ⟨G ++ putL s.delta s.b, by show s.out ++ putL s.delta s.b = _; rw [hG, List.append_assoc], fun x h => ?_⟩
      rcases List.mem_append.1 h with h | h
      · exact hx x h
      · exact putL_let s.b hI.d0 x h
    · exact ⟨G, hG, hx⟩) (fun s d hp => hp) (zsL ys) 128 (startT ys) (OI.start (upz_zs ys) hr) ⟨[], by rw [List.append_nil]; rfl, fun x hx => by cases hx⟩
  exact h.1
theorem low_range (ys : List Int) (hr : ∀ y ∈ ys, 0 ≤ y ∧ y ≤ 1114111) : ∀ x ∈ lowL ys, 0 ≤ x ∧ x < 128 := fun x hx => by
  obtain ⟨h1, h2⟩ := mem_low.1 hx
  exact ⟨(hr x h1).1, h2⟩
theorem text_ascii (ys : List Int) (hl : ys.length ≤ 120) (hr : ∀ y ∈ ys, 0 ≤ y ∧ y ≤ 1114111) : ∀ x ∈ textL ys, 0 ≤ x ∧ x < 128 := by
  obtain ⟨G, hG, hx⟩ := text_shape ys hl hr
  intro x h
  rw [hG] at h
  rcases List.mem_append.1 h with h | h
  · rcases List.mem_append.1 h with h | h
    · exact low_range ys hr x h
    · unfold sepL at h
      split at h
      · cases h
      · rw [List.mem_singleton] at h; omega
  · have := hx x h
    omega
theorem text_feed (ys : List Int) (hl : ys.length ≤ 120) (hr : ∀ y ∈ ys, 0 ≤ y ∧ y ≤ 1114111) : feedN (textP ys) = (textP ys).size := by
  have ha := text_ascii ys hl hr
  refine feed_is _ _ (Nat.le_refl _) (fun j hj => ?_) (fun h => by omega)
  rw [bt_bytes, bytes_p ys hr]
  have hj2 : j < (textL ys).length := by
    have e : (textP ys).size = (textL ys).length := str_size _
    omega
  rw [List.getD_eq_getElem?_getD, List.getElem?_eq_getElem hj2]
  exact (ha _ (List.getElem_mem hj2)).2
theorem last_skip (s : ByteArray) (h : Nat) : ∀ j, (∀ i, i < j → bt s ((h + i : Nat) : Int) ≠ 45) → lastP s 45 (h + j) = lastP s 45 h
  | 0, _ => rfl
  | j + 1, hb => by
    rw [show h + (j + 1) = (h + j) + 1 by omega, lastP, if_neg (hb j (by omega))]
    exact last_skip s h j fun i hi => hb i (by omega)
theorem den_text (ys : List Int) (hl : ys.length ≤ 120) (h0 : ∀ y ∈ ys, 0 ≤ y) (hn : encN ys = ys.length) : denR (textP ys) = (ys, true) := by
  have hr := enc_range hn h0
  have hs : ∀ y ∈ ys, isP y = true := fun y hy => by
    obtain ⟨j, hj, rfl⟩ := List.getElem_of_mem hy
    have := scal_all ys ys.length 0 (by omega) hn j (Nat.zero_le _) hj
    rw [List.getD_eq_getElem?_getD, List.getElem?_eq_getElem hj] at this
    exact this
  obtain ⟨G, hG, hx⟩ := text_shape ys hl hr
  have hrange : ∀ x ∈ textL ys, 0 ≤ x ∧ x ≤ 255 := fun x h => by have := text_ascii ys hl hr x h; omega
  obtain ⟨H, hH⟩ : ∃ H, lowL ys ++ sepL ys = H := ⟨_, rfl⟩
  have hdec := (dec_outer ys H.length hl hs (textL ys) hrange (zsL ys) 128 128 0 (startT ys) (OI.start (upz_zs ys) hr) (by rw [← hH]; exact Nat.le_refl _) (by show (0 : Int) = (128 - 128) * _ - ((0 : Nat) : Int); rw [Int.sub_self, Int.zero_mul]; rfl) rfl).2.2
  have hstart : (startT ys).out = H := by rw [← hH]; rfl
  rw [hstart, Nat.sub_self] at hdec
  have hsz : (textP ys).size = H.length + G.length := by
    show (strOfNums (textL ys)).size = _
    rw [str_size, hG, hH, List.length_append]
  have hb : ∀ i : Nat, bt (textP ys) (i : Int) = (H ++ G).getD i 0 := fun i => by rw [bt_bytes, bytes_p ys hr, hG, hH]
  have hlast1 : lastP (textP ys) 45 (textP ys).size = lastP (textP ys) 45 H.length := by
    rw [hsz]
    refine last_skip _ _ _ fun i hi => ?_
    rw [hb, List.getD_eq_getElem?_getD, List.getElem?_append_right (by omega), Nat.add_sub_cancel_left, List.getElem?_eq_getElem hi]
    have := hx _ (List.getElem_mem hi)
    show G[i] ≠ 45
    omega
  have hfl : (ys.filter fun c => decide (c < 128)) = lowL ys := rfl
  have htl : (textL ys).length = H.length + G.length := by rw [hG, hH, List.length_append]
  have hdp : denP (textP ys) = some ys := by
    unfold denP
    simp only [hlast1]
    by_cases hz : (lowL ys).length = 0
    · have hH0 : H = [] := by
        rw [← hH, List.eq_nil_of_length_eq_zero hz]
        unfold sepL
        rw [if_pos hz]
        rfl
      have hl0 : lastP (textP ys) 45 H.length = -1 := by rw [hH0]; rfl
      have hn0 : ¬ (0 : Int) < -1 := by omega
      rw [hl0, if_neg hn0, if_neg hn0]
      have h := hdec ((textP ys).size + 1) (by rw [hsz, htl]; omega)
      rw [hfl, List.eq_nil_of_length_eq_zero hz, hH0] at h
      have hbb : ((startT ys).done == cntB ys 128) = true := by show ((lowL ys).length == cntB ys 128) = true; rw [low_cnt]; simp
      rw [hbb] at h
      exact h
    · have hHe : H = lowL ys ++ [45] := by rw [← hH]; unfold sepL; rw [if_neg hz]
      have hHl : H.length = (lowL ys).length + 1 := by rw [hHe]; simp
      have hl0 : lastP (textP ys) 45 H.length = ((lowL ys).length : Int) := by
        rw [hHl, lastP, if_pos]
        rw [hb, hHe, List.getD_eq_getElem?_getD, List.append_assoc, List.getElem?_append_right (Nat.le_refl _), Nat.sub_self]
        rfl
      have hp0 : (0 : Int) < ((lowL ys).length : Int) := by omega
      rw [hl0, if_pos hp0, if_pos hp0, Int.toNat_natCast]
      have hpre : preL (textP ys) (lowL ys).length = lowL ys := by
        show ((List.range (lowL ys).length).map fun (j : Nat) => bt (textP ys) (j : Int)) = lowL ys
        refine List.ext_getElem (by simp) fun i h1 h2 => ?_
        rw [List.getElem_map, List.getElem_range, hb, hHe, List.getD_eq_getElem?_getD, List.append_assoc, List.getElem?_append_left h2, List.getElem?_eq_getElem h2]
        rfl
      have hext : (textP ys).extract ((lowL ys).length + 1) (textP ys).size = strOfNums ((textL ys).drop H.length) := by
        rw [← hHl]
        apply ByteArray.ext
        show ((strOfNums (textL ys)).extract H.length (strOfNums (textL ys)).size).data = _
        unfold strOfNums
        rw [ByteArray.data_extract]
        apply Array.ext'
        simp only [List.map_drop, List.extract_toArray, List.extract_eq_drop_take']
        refine congrArg (List.drop H.length) (List.take_of_length_le ?_)
        show _ ≤ ((textL ys).map fun n => UInt8.ofNat n.toNat).toArray.size
        simp
      rw [hpre, hext]
      have h := hdec ((strOfNums ((textL ys).drop H.length)).size + 1) (by rw [str_size, List.length_drop]; omega)
      rw [hfl] at h
      have hbb : ((startT ys).done == cntB ys 128) = true := by show ((lowL ys).length == cntB ys 128) = true; rw [low_cnt]; simp
      rw [hbb] at h
      exact h
  unfold denR
  rw [hdp]
/-- What is written is read. -/
theorem text_read (ys : List Int) (hl : ys.length ≤ 120) (h0 : ∀ y ∈ ys, 0 ≤ y) (hn : encN ys = ys.length) : ReadF (textP ys) ys true 0 0 :=
  .inr ⟨text_feed ys hl (enc_range hn h0), den_text ys hl h0 hn, .inl rfl⟩
end Go.Proofs.Ytegacgfhmigdjaa
/- What is got was put, but for great letters. -/
namespace Go.Proofs.Ytegacgfhmigdjaa
open Go.RowKit Go.Proofs.YtegacgfhmigdjaaW.PrintWords Go.Proofs.YtegacgfhmigdjaaW.PrintLast Go.Proofs.YtegacgfhmigdjaaW.PrintMore Go.Proofs.Ytegacgfhmigdjaa.PPu
set_option linter.unusedVariables false
set_option linter.unusedSimpArgs false

theorem dig_low {c d : Int} (h : digP c = some d) : lowB c = letP d := by
  unfold digP at h
  unfold lowB letP
  split at h
  · injection h with h
    rw [if_neg (by omega), if_pos (by omega)]; omega
  split at h
  · injection h with h
    rw [if_pos (by omega), if_pos (by omega)]; omega
  split at h
  · injection h with h
    rw [if_neg (by omega), if_neg (by omega)]; omega
  · cases h
theorem val_join (d v' t w : Int) : (d + v' * (36 - t)) * w = d * w + v' * (w * (36 - t)) := by
  rw [Int.add_mul, Int.mul_assoc, Int.mul_comm (36 - t) w]
theorem get_can (s : ByteArray) (b : Int) : ∀ (k at_ : Nat) (n w place N e : Int), 1 ≤ w → 0 ≤ n → at_ ≤ s.size → getI s b k at_ n w place = some (N, e) →
    ∃ (v : Int) (m : Nat), 0 ≤ v ∧ N = n + v * w ∧ N ≤ topP ∧ e = ((at_ + m : Nat) : Int) ∧ 1 ≤ m ∧ at_ + m ≤ s.size ∧ ∀ j : Nat, v < 10 ^ j → (putI (j + 1) v b place).length = m ∧ ∀ i, i < m → lowB (bt s ((at_ + i : Nat) : Int)) = (putI (j + 1) v b place).getD i 0
  | 0, _, _, _, _, _, _, _, _, _, h => by cases h
  | k + 1, at_, n, w, place, N, e, hw, hn, hat, h => by
    obtain ⟨t0, t1⟩ := thr_range place b
    rw [getI] at h
    split at h
    · cases h
    rename_i hne
    cases hd : digP (bt s at_) with
    | none => rw [hd] at h; cases h
    | some d =>
      rw [hd] at h
      obtain ⟨d0, d1⟩ := dig_range hd
      have hlow := dig_low hd
      have hdw : 0 ≤ d * w := Int.mul_nonneg d0 (by omega)
      simp only at h
      split at h
      · cases h
      rename_i hov
      split at h
      · rename_i hlt
        injection h with h
        injection h with h1 h2
        subst h1
        refine ⟨d, 1, d0, rfl, by omega, by rw [← h2]; rfl, Nat.le_refl _, by omega, fun j hj => ?_⟩
        rw [putI, if_pos hlt]
        refine ⟨rfl, fun i hi => ?_⟩
        obtain rfl : i = 0 := by omega
        exact hlow
      · rename_i hge
        obtain ⟨t, ht⟩ : ∃ t, thrP place b = t := ⟨_, rfl⟩
        rw [ht] at t0 t1 hge h
        have hB : 0 ≤ w * (36 - t) := Int.mul_nonneg (by omega) (by omega)
        have hB1 : 1 ≤ w * (36 - t) := by
          have := Int.mul_le_mul (a := 1) (b := 1) (c := w) (d := 36 - t) hw (by omega) (by omega) (by omega)
          omega
        have hTT : topP = 4611686018427387904 := rfl
        have hrec := get_can s b k (at_ + 1) (n + d * w) (if topP < w * (36 - t) then topP + 1 else w * (36 - t)) (place + 1) N e (by split <;> omega) (by omega) (by omega) h
        obtain ⟨v', m', v0, hN, hNT, he, hm1, hms, hput⟩ := hrec
        have hNv : N = n + (d + v' * (36 - t)) * w := by
          rw [val_join]
          split at hN
          · have hv0 : v' = 0 := by
              rcases Int.lt_or_le 0 v' with h | h
              · have := Int.mul_le_mul_of_nonneg_right (a := 1) (b := v') (c := topP + 1) (by omega) (by omega)
                omega
              · omega
            subst hv0
            rw [Int.zero_mul] at hN ⊢
            omega
          · omega
        have hvt : 0 ≤ v' * (36 - t) := Int.mul_nonneg v0 (by omega)
        refine ⟨d + v' * (36 - t), m' + 1, by omega, hNv, hNT, by rw [he]; congr 1; omega, by omega, by omega, fun j hj => ?_⟩
        have hv10 : v' * 10 ≤ v' * (36 - t) := Int.mul_le_mul_of_nonneg_left (by omega) v0
        cases j with
        | zero => simp at hj; omega
        | succ j =>
          rw [Int.pow_succ] at hj
          obtain ⟨hl, hby⟩ := hput j (by omega)
          have hq : (d + v' * (36 - t) - t) / (36 - t) = v' := by
            rw [show d + v' * (36 - t) - t = (d - t) + v' * (36 - t) by omega, Int.add_mul_ediv_right _ _ (by omega), Int.ediv_eq_zero_of_lt (by omega) (by omega), Int.zero_add]
          have hr : (d + v' * (36 - t) - t) % (36 - t) = d - t := by
            rw [show d + v' * (36 - t) - t = (d - t) + v' * (36 - t) by omega, Int.add_mul_emod_self_right, Int.emod_eq_of_lt (by omega) (by omega)]
          rw [putI, ht, if_neg (by omega), hq, hr, show t + (d - t) = d by omega]
          refine ⟨by rw [List.length_cons, hl], fun i hi => ?_⟩
          cases i with
          | zero => exact hlow
          | succ i =>
            have := hby i (by omega)
            rw [show at_ + (i + 1) = at_ + 1 + i by omega, this]
            rfl
theorem getP_can (s : ByteArray) (b : Int) (at_ : Nat) (v e : Int) (hat : at_ ≤ s.size) (h : getP s at_ b = some (v, e)) :
    0 ≤ v ∧ v ≤ topP ∧ e = ((at_ + (putL v b).length : Nat) : Int) ∧ at_ + (putL v b).length ≤ s.size ∧ ∀ i, i < (putL v b).length → lowB (bt s ((at_ + i : Nat) : Int)) = (putL v b).getD i 0 := by
  obtain ⟨v', m, h0, hN, hT, he, hm, hms, hput⟩ := get_can s b _ at_ 0 1 0 v e (by omega) (by omega) hat h
  rw [Int.mul_one, Int.zero_add] at hN
  subst hN
  have hTT : topP = 4611686018427387904 := rfl
  obtain ⟨hl, hb⟩ := hput 19 (by omega)
  have hl2 : (putL v b).length = m := hl
  rw [hl2]
  exact ⟨h0, hT, he, hms, hb⟩
end Go.Proofs.Ytegacgfhmigdjaa
/- The decoder's steps are told by what comes of them. -/
namespace Go.Proofs.Ytegacgfhmigdjaa
open Go.RowKit Go.Proofs.YtegacgfhmigdjaaW.PrintWords Go.Proofs.YtegacgfhmigdjaaW.PrintLast Go.Proofs.YtegacgfhmigdjaaW.PrintMore Go.Proofs.Ytegacgfhmigdjaa.PPu
set_option linter.unusedVariables false
set_option linter.unusedSimpArgs false

/-- Below m. -/
def ltP (m : Int) : Int → Bool := fun c => decide (c < m)
theorem filter_lt (A : List Int) (m k : Int) (h : m ≤ k) : (A.filter (ltP k)).filter (ltP m) = A.filter (ltP m) := by
  rw [List.filter_filter]
  refine List.filter_congr fun c _ => ?_
  unfold ltP
  by_cases h1 : c < m
  · rw [decide_eq_true h1, decide_eq_true (by omega)]; rfl
  · rw [decide_eq_false h1]; rfl
theorem filter_all {A : List Int} {m : Int} (h : ∀ x ∈ A, x < m) : A.filter (ltP m) = A := by
  rw [List.filter_eq_self]
  exact fun c hc => decide_eq_true (h c hc)
theorem cut_at (p : Int → Bool) : ∀ (A : List Int) (q : Nat), q ≤ (A.filter p).length → ∃ c, c ≤ A.length ∧ (A.take c).filter p = (A.filter p).take q ∧ (A.drop c).filter p = (A.filter p).drop q
  | [], q, h => ⟨0, Nat.le_refl _, by simp, by simp⟩
  | a :: A, 0, h => ⟨0, Nat.zero_le _, by simp, by simp⟩
  | a :: A, q + 1, h => by
    by_cases ha : p a = true
    · rw [List.filter_cons, if_pos ha, List.length_cons] at h
      obtain ⟨c, h1, h2, h3⟩ := cut_at p A q (by omega)
      refine ⟨c + 1, by rw [List.length_cons]; omega, ?_, ?_⟩
      · rw [List.take_succ_cons, List.filter_cons, if_pos ha, List.filter_cons, if_pos ha, List.take_succ_cons, h2]
      · rw [List.drop_succ_cons, List.filter_cons, if_pos ha, List.drop_succ_cons, h3]
    · rw [List.filter_cons, if_neg ha] at h
      obtain ⟨c, h1, h2, h3⟩ := cut_at p A (q + 1) h
      refine ⟨c + 1, by rw [List.length_cons]; omega, ?_, ?_⟩
      · rw [List.take_succ_cons, List.filter_cons, if_neg ha, List.filter_cons, if_neg ha, h2]
      · rw [List.drop_succ_cons, List.filter_cons, if_neg ha, h3]
/-- What stands ahead of place i of l and behind it, in what comes of it. -/
def CutR (R l : List Int) (n : Int) (i : Nat) : Prop := ∃ c, c ≤ R.length ∧ (R.take c).filter (ltP (n + 1)) = l.take i ∧ (R.drop c).filter (ltP n) = l.drop i
/-- The decoder's own order. -/
structure DOk (l : List Int) (n : Int) (i : Nat) : Prop where
  le : i ≤ l.length
  all : ∀ x ∈ l, x ≤ n
  rest : ∀ x ∈ l.drop i, x < n
/-- The first number that comes behind. -/
structure Hit (R l : List Int) (n : Int) (i : Nat) (n' : Int) (pos : Nat) (c : Nat) : Prop where
  ge : n ≤ n'
  at_ : n' = n → i ≤ pos
  le : pos ≤ l.length
  cle : c ≤ R.length
  lo : (R.take c).filter (ltP (n' + 1)) = l.take pos ++ [n']
  hi : (R.drop c).filter (ltP n') = l.drop pos
theorem DOk.ins {l : List Int} {n : Int} {i : Nat} (h : DOk l n i) {n' : Int} {pos : Nat} (h1 : n ≤ n') (h2 : n' = n → i ≤ pos) (h3 : pos ≤ l.length) : DOk (insL l pos n') n' (pos + 1) := by
  refine ⟨by rw [insL_len h3]; omega, fun x hx => ?_, fun x hx => ?_⟩
  · unfold insL at hx
    rcases List.mem_append.1 hx with e | e
    · have := h.all x (List.mem_of_mem_take e); omega
    · rcases List.mem_cons.1 e with rfl | e
      · exact Int.le_refl _
      · have := h.all x (List.mem_of_mem_drop e); omega
  · have e : (insL l pos n').drop (pos + 1) = l.drop pos := by
      unfold insL
      have hl : (l.take pos).length = pos := by rw [List.length_take]; omega
      rw [List.drop_append, hl, show pos + 1 - pos = 1 by omega, List.drop_eq_nil_of_le (by omega)]
      rfl
    rw [e] at hx
    by_cases hn : n' = n
    · have hi := h2 hn
      have : x ∈ l.drop i := by
        rw [show pos = i + (pos - i) by omega, ← List.drop_drop] at hx
        exact List.mem_of_mem_drop hx
      have := h.rest x this
      omega
    · have := h.all x (List.mem_of_mem_drop hx)
      omega
theorem hit_of {R l : List Int} {n' : Int} {pos : Nat} (h3 : pos ≤ l.length) (h : CutR R (insL l pos n') n' (pos + 1)) : ∃ c, c ≤ R.length ∧ (R.take c).filter (ltP (n' + 1)) = l.take pos ++ [n'] ∧ (R.drop c).filter (ltP n') = l.drop pos := by
  obtain ⟨c, h0, h1, h2⟩ := h
  have hl : (l.take pos).length = pos := by rw [List.length_take]; omega
  refine ⟨c, h0, ?_, ?_⟩
  · rw [h1]
    unfold insL
    rw [List.take_append, hl, show pos + 1 - pos = 1 by omega, List.take_of_length_le (by omega)]
    rfl
  · rw [h2]
    unfold insL
    rw [List.drop_append, hl, show pos + 1 - pos = 1 by omega, List.drop_eq_nil_of_le (by omega)]
    rfl
theorem Hit.cut {R l : List Int} {n : Int} {i : Nat} {n' : Int} {pos c' : Nat} (hd : DOk l n i) (h : Hit R l n i n' pos c') : CutR R l n i := by
  have hle := hd.le
  have hle2 := h.le
  by_cases hn : n' = n
  · have hip := h.at_ hn
    have h1 := h.lo
    have h2 := h.hi
    rw [hn] at h1 h2
    obtain ⟨c, hc1, hc2, hc3⟩ := cut_at (ltP (n + 1)) (R.take c') i (by rw [h1, List.length_append, List.length_take]; omega)
    rw [h1] at hc2 hc3
    have hcl : c ≤ c' := by rw [List.length_take] at hc1; omega
    have hcR : c' ≤ R.length := h.cle
    refine ⟨c, by omega, ?_, ?_⟩
    · rw [List.take_take, Nat.min_eq_left hcl] at hc2
      rw [hc2, List.take_append_of_le_length (by rw [List.length_take]; omega), List.take_take, Nat.min_eq_left hip]
    · have e : R.drop c = (R.take c').drop c ++ R.drop c' := by
        conv => lhs; rw [← List.take_append_drop c' R]
        rw [List.drop_append_of_le_length (by rw [List.length_take]; omega)]
      rw [e, List.filter_append, h2, ← filter_lt ((R.take c').drop c) n (n + 1) (by omega), hc3, List.drop_append_of_le_length (by rw [List.length_take]; omega), List.filter_append]
      have e2 : [n].filter (ltP n) = [] := by
        rw [List.filter_cons, if_neg]
        · rfl
        · unfold ltP; simp
      have e3 : ((l.take pos).drop i).filter (ltP n) = (l.take pos).drop i := filter_all fun x hx => by
        refine hd.rest x ?_
        rw [List.drop_take] at hx
        exact List.mem_of_mem_take hx
      rw [e2, e3, List.append_nil]
      conv => rhs; rw [← List.take_append_drop pos l]
      rw [List.drop_append_of_le_length (by rw [List.length_take]; omega)]
  · have hlt : n + 1 ≤ n' := by have := h.ge; omega
    have e1 : (R.take c').filter (ltP (n + 1)) = l.take pos := by
      rw [← filter_lt _ (n + 1) (n' + 1) (by omega), h.lo, List.filter_append, filter_all (fun x hx => by have := hd.all x (List.mem_of_mem_take hx); omega), List.filter_cons, if_neg (by unfold ltP; simp; omega)]
      simp
    have e2 : (R.drop c').filter (ltP (n + 1)) = l.drop pos := by
      rw [← filter_lt _ (n + 1) n' hlt, h.hi, filter_all (fun x hx => by have := hd.all x (List.mem_of_mem_drop hx); omega)]
    have e3 : R.filter (ltP (n + 1)) = l := by
      conv => lhs; rw [← List.take_append_drop c' R]
      rw [List.filter_append, e1, e2, List.take_append_drop]
    obtain ⟨c, hc1, hc2, hc3⟩ := cut_at (ltP (n + 1)) R i (by rw [e3]; exact hle)
    rw [e3] at hc2 hc3
    refine ⟨c, hc1, hc2, ?_⟩
    rw [← filter_lt _ n (n + 1) (by omega), hc3, filter_all hd.rest]
theorem lt_mono (A : List Int) {m k : Int} (h : m ≤ k) : (A.filter (ltP m)).length ≤ (A.filter (ltP k)).length := by
  rw [← List.countP_eq_length_filter, ← List.countP_eq_length_filter]
  refine List.countP_mono_left fun x _ hx => ?_
  unfold ltP at *
  exact decide_eq_true (by have := of_decide_eq_true hx; omega)
theorem Hit.many {R l : List Int} {n : Int} {i : Nat} {n' : Int} {pos c : Nat} (h : Hit R l n i n' pos c) : l.length + 1 ≤ (R.filter (ltP (n' + 1))).length := by
  conv => rhs; rw [← List.take_append_drop c R]
  rw [List.filter_append, List.length_append, h.lo, List.length_append, List.length_take, List.length_singleton]
  have h1 := lt_mono (R.drop c) (m := n') (k := n' + 1) (by omega)
  rw [h.hi, List.length_drop] at h1
  have := h.le
  omega
theorem Hit.few {R l : List Int} {n : Int} {i : Nat} {n' : Int} {pos c : Nat} (h : Hit R l n i n' pos c) : (R.filter (ltP n')).length ≤ l.length := by
  conv => lhs; rw [← List.take_append_drop c R]
  rw [List.filter_append, List.length_append, h.hi, ← filter_lt (R.take c) n' (n' + 1) (by omega), h.lo, List.filter_append, List.length_append, List.length_drop]
  have h1 := List.length_filter_le (ltP n') (l.take pos)
  rw [List.length_take] at h1
  have e2 : [n'].filter (ltP n') = [] := by
    rw [List.filter_cons, if_neg]
    · rfl
    · unfold ltP; simp
  rw [e2]
  have := h.le
  simp only [List.length_nil]
  omega
theorem Hit.pos_le {R l : List Int} {n : Int} {i : Nat} {m : Int} {p1 c1 p2 c2 : Nat} (hd : DOk l n i) (h1 : Hit R l n i m p1 c1) (h2 : Hit R l n i m p2 c2) : ¬ p1 < p2 := by
  intro hlt
  have l1 := h1.le
  have l2 := h2.le
  have e : ∀ (x y : Nat), x ≤ y → ∃ Z, (R.take y).filter (ltP (m + 1)) = (R.take x).filter (ltP (m + 1)) ++ Z := fun x y hxy => by
    refine ⟨((R.drop x).take (y - x)).filter (ltP (m + 1)), ?_⟩
    rw [← List.filter_append]
    congr 1
    rw [← List.take_add]
    congr 1
    omega
  rcases Nat.le_total c1 c2 with hc | hc
  · obtain ⟨Z, hZ⟩ := e c1 c2 hc
    rw [h1.lo, h2.lo] at hZ
    have hg := congrArg (fun L => L[p1]?) hZ
    rw [List.getElem?_append_left (by rw [List.length_take]; omega), List.getElem?_take, if_pos hlt, List.append_assoc, List.getElem?_append_right (by rw [List.length_take]; omega), List.length_take, Nat.min_eq_left l1, Nat.sub_self] at hg
    have hg2 : l[p1]? = some m := hg
    have hp : p1 < l.length := by omega
    rw [List.getElem?_eq_getElem hp] at hg2
    injection hg2 with hg2
    by_cases hn : m = n
    · have hip := h1.at_ hn
      have hmem : l[p1] ∈ l.drop i := by
        rw [List.mem_iff_getElem]
        exact ⟨p1 - i, by rw [List.length_drop]; omega, by rw [List.getElem_drop]; congr 1; omega⟩
      have := hd.rest _ hmem
      omega
    · have := hd.all _ (List.getElem_mem hp)
      have := h1.ge
      omega
  · obtain ⟨Z, hZ⟩ := e c2 c1 hc
    rw [h1.lo, h2.lo] at hZ
    have hg := congrArg List.length hZ
    simp only [List.length_append, List.length_take, List.length_singleton] at hg
    omega
theorem Hit.same {R l : List Int} {n : Int} {i : Nat} {m1 m2 : Int} {p1 c1 p2 c2 : Nat} (hd : DOk l n i) (h1 : Hit R l n i m1 p1 c1) (h2 : Hit R l n i m2 p2 c2) : m1 = m2 ∧ p1 = p2 := by
  have hm : m1 = m2 := by
    rcases Int.lt_trichotomy m1 m2 with h | h | h
    · have a := h1.many
      have b := h2.few
      have := lt_mono R (m := m1 + 1) (k := m2) (by omega)
      omega
    · exact h
    · have a := h2.many
      have b := h1.few
      have := lt_mono R (m := m2 + 1) (k := m1) (by omega)
      omega
  subst hm
  have := h1.pos_le hd h2
  have := h2.pos_le hd h1
  exact ⟨rfl, by omega⟩
end Go.Proofs.Ytegacgfhmigdjaa
/- Two texts that denote the same are the same, but for great letters. -/
namespace Go.Proofs.Ytegacgfhmigdjaa
open Go.RowKit Go.Proofs.YtegacgfhmigdjaaW.PrintWords Go.Proofs.YtegacgfhmigdjaaW.PrintLast Go.Proofs.YtegacgfhmigdjaaW.PrintMore Go.Proofs.Ytegacgfhmigdjaa.PPu
set_option linter.unusedVariables false
set_option linter.unusedSimpArgs false

/-- A round of the decoder. -/
structure DStep (s : ByteArray) (at_ : Nat) (l : List Int) (n : Int) (i : Nat) (b : Int) (delta : Int) (n' : Int) (pos : Nat) : Prop where
  d0 : 0 ≤ delta
  fit : at_ + (putL delta b).length ≤ s.size
  byte : ∀ j, j < (putL delta b).length → lowB (bt s ((at_ + j : Nat) : Int)) = (putL delta b).getD j 0
  sum : (i : Int) + delta = ((l.length : Int) + 1) * (n' - n) + pos
  isp : isP n' = true
  ge : n ≤ n'
  at_ : n' = n → i ≤ pos
  le : pos ≤ l.length
theorem den_step (s : ByteArray) (k at_ : Nat) (l : List Int) (n : Int) (i : Nat) (b : Int) (once : Bool) (R : List Int) (hat : at_ < s.size) (hi : i ≤ l.length) (h : denGo s (k + 1) (at_ : Int) l n (i : Int) b once = some R) :
    ∃ (delta n' : Int) (pos : Nat), DStep s at_ l n i b delta n' pos ∧ denGo s k ((at_ + (putL delta b).length : Nat) : Int) (insL l pos n') n' ((pos + 1 : Nat) : Int) (adaptP delta ((l.length : Int) + 1) once) false = some R := by
  rw [denGo, if_pos (by omega)] at h
  cases hg : getP s at_ b with
  | none => rw [hg] at h; cases h
  | some q =>
    obtain ⟨delta, e⟩ := q
    rw [hg] at h
    simp only at h
    obtain ⟨h0, hT, he, hf, hb⟩ := getP_can s b at_ delta e (by omega) hg
    split at h
    · rename_i hp
      have hL : (0 : Int) < (l.length : Int) + 1 := by omega
      have hm0 : 0 ≤ ((i : Int) + delta) % ((l.length : Int) + 1) := Int.emod_nonneg _ (by omega)
      have hm1 : ((i : Int) + delta) % ((l.length : Int) + 1) < (l.length : Int) + 1 := Int.emod_lt_of_pos _ hL
      have hq0 : 0 ≤ ((i : Int) + delta) / ((l.length : Int) + 1) := Int.ediv_nonneg (by omega) (by omega)
      have hs := Int.mul_ediv_add_emod ((i : Int) + delta) ((l.length : Int) + 1)
      obtain ⟨D, hD⟩ : ∃ D, ((i : Int) + delta) / ((l.length : Int) + 1) = D := ⟨_, rfl⟩
      obtain ⟨pos, hpos⟩ : ∃ pos : Nat, ((i : Int) + delta) % ((l.length : Int) + 1) = (pos : Int) := ⟨(((i : Int) + delta) % ((l.length : Int) + 1)).toNat, by omega⟩
      rw [hD, hpos] at h hs
      rw [hD] at hp hq0
      rw [hpos] at hm1
      rw [Int.toNat_natCast, he] at h
      refine ⟨delta, n + D, pos, ⟨h0, hf, hb, by rw [show n + D - n = D by omega]; exact hs.symm, hp, by omega, fun hn => ?_, by omega⟩, h⟩
      have : D = 0 := by omega
      subst this
      rw [Int.mul_zero] at hs
      omega
    · cases h
theorem den_cut (s : ByteArray) (R : List Int) : ∀ (k at_ : Nat) (l : List Int) (n : Int) (i : Nat) (b : Int) (once : Bool), DOk l n i → at_ ≤ s.size → denGo s k (at_ : Int) l n (i : Int) b once = some R → CutR R l n i
  | 0, _, _, _, _, _, _, _, _, h => by cases h
  | k + 1, at_, l, n, i, b, once, hd, hat, h => by
    by_cases hlt : at_ < s.size
    · obtain ⟨delta, n', pos, hst, h2⟩ := den_step s k at_ l n i b once R hlt hd.le h
      have hc := den_cut s R k _ _ n' (pos + 1) _ false (hd.ins hst.ge hst.at_ hst.le) hst.fit h2
      obtain ⟨c, c1, c2, c3⟩ := hit_of hst.le hc
      exact Hit.cut hd ⟨hst.ge, hst.at_, hst.le, c1, c2, c3⟩
    · rw [denGo, if_neg (by omega)] at h
      injection h with h
      subst h
      exact ⟨i, hd.le, filter_all fun x hx => by have := hd.all x (List.mem_of_mem_take hx); omega, filter_all hd.rest⟩
theorem den_hit (s : ByteArray) (R : List Int) (k at_ : Nat) (l : List Int) (n : Int) (i : Nat) (b b' delta n' : Int) (pos : Nat) (hd : DOk l n i) (hst : DStep s at_ l n i b delta n' pos)
    (h2 : denGo s k ((at_ + (putL delta b).length : Nat) : Int) (insL l pos n') n' ((pos + 1 : Nat) : Int) b' false = some R) : ∃ c, Hit R l n i n' pos c := by
  have hc := den_cut s R k _ _ n' (pos + 1) _ false (hd.ins hst.ge hst.at_ hst.le) hst.fit h2
  obtain ⟨c, c1, c2, c3⟩ := hit_of hst.le hc
  exact ⟨c, hst.ge, hst.at_, hst.le, c1, c2, c3⟩
theorem Hit.grow {R l : List Int} {n : Int} {i : Nat} {n' : Int} {pos c : Nat} (h : Hit R l n i n' pos c) : R ≠ l := fun e => by
  have h1 := h.many
  have h2 := List.length_filter_le (ltP (n' + 1)) R
  rw [e] at h1 h2
  omega
theorem den_inj (s1 s2 : ByteArray) (R : List Int) : ∀ (k1 k2 a1 a2 : Nat) (l : List Int) (n : Int) (i : Nat) (b : Int) (once : Bool), DOk l n i → a1 ≤ s1.size → a2 ≤ s2.size →
    denGo s1 k1 (a1 : Int) l n (i : Int) b once = some R → denGo s2 k2 (a2 : Int) l n (i : Int) b once = some R →
    s1.size - a1 = s2.size - a2 ∧ ∀ j, j < s1.size - a1 → lowB (bt s1 ((a1 + j : Nat) : Int)) = lowB (bt s2 ((a2 + j : Nat) : Int))
  | 0, _, _, _, _, _, _, _, _, _, _, _, h, _ => by cases h
  | k1 + 1, 0, _, _, _, _, _, _, _, _, _, _, _, h => by cases h
  | k1 + 1, k2 + 1, a1, a2, l, n, i, b, once, hd, h1, h2, g1, g2 => by
    by_cases e1 : a1 < s1.size
    · obtain ⟨d1, n1, p1, st1, r1⟩ := den_step s1 k1 a1 l n i b once R e1 hd.le g1
      obtain ⟨c1, H1⟩ := den_hit s1 R k1 a1 l n i b _ d1 n1 p1 hd st1 r1
      by_cases e2 : a2 < s2.size
      · obtain ⟨d2, n2, p2, st2, r2⟩ := den_step s2 k2 a2 l n i b once R e2 hd.le g2
        obtain ⟨c2, H2⟩ := den_hit s2 R k2 a2 l n i b _ d2 n2 p2 hd st2 r2
        obtain ⟨rfl, rfl⟩ := H1.same hd H2
        have hdd : d1 = d2 := by have := st1.sum; have := st2.sum; omega
        subst hdd
        obtain ⟨hz, hb⟩ := den_inj s1 s2 R k1 k2 _ _ _ n1 (p1 + 1) _ false (hd.ins st1.ge st1.at_ st1.le) st1.fit st2.fit r1 r2
        have f1 := st1.fit
        have f2 := st2.fit
        refine ⟨by omega, fun j hj => ?_⟩
        by_cases hjm : j < (putL d1 b).length
        · rw [st1.byte j hjm, st2.byte j hjm]
        · have := hb (j - (putL d1 b).length) (by omega)
          rw [show a1 + (putL d1 b).length + (j - (putL d1 b).length) = a1 + j by omega, show a2 + (putL d1 b).length + (j - (putL d1 b).length) = a2 + j by omega] at this
          exact this
      · rw [denGo, if_neg (by omega)] at g2
        injection g2 with g2
        exact absurd g2.symm H1.grow
    · by_cases e2 : a2 < s2.size
      · obtain ⟨d2, n2, p2, st2, r2⟩ := den_step s2 k2 a2 l n i b once R e2 hd.le g2
        obtain ⟨c2, H2⟩ := den_hit s2 R k2 a2 l n i b _ d2 n2 p2 hd st2 r2
        rw [denGo, if_neg (by omega)] at g1
        injection g1 with g1
        exact absurd g1.symm H2.grow
      · exact ⟨by omega, fun j hj => by omega⟩
theorem den_isP (s : ByteArray) (R : List Int) : ∀ (k at_ : Nat) (l : List Int) (n : Int) (i : Nat) (b : Int) (once : Bool), i ≤ l.length → at_ ≤ s.size → (∀ x ∈ l, isP x = true) → 0 ≤ n → (∀ x ∈ l, 0 ≤ x) → denGo s k (at_ : Int) l n (i : Int) b once = some R → ∀ x ∈ R, isP x = true ∧ 0 ≤ x
  | 0, _, _, _, _, _, _, _, _, _, _, _, h => by cases h
  | k + 1, at_, l, n, i, b, once, hi, hat, hl, hn0, hl0, h => by
    by_cases hlt : at_ < s.size
    · obtain ⟨delta, n', pos, hst, h2⟩ := den_step s k at_ l n i b once R hlt hi h
      have hge := hst.ge
      have hmem : ∀ x ∈ insL l pos n', x = n' ∨ x ∈ l := fun x hx => by
        unfold insL at hx
        rcases List.mem_append.1 hx with e | e
        · exact .inr (List.mem_of_mem_take e)
        · rcases List.mem_cons.1 e with rfl | e
          · exact .inl rfl
          · exact .inr (List.mem_of_mem_drop e)
      exact den_isP s R k _ (insL l pos n') n' (pos + 1) _ false (by rw [insL_len hst.le]; have := hst.le; omega) hst.fit (fun x hx => (hmem x hx).elim (fun e => by rw [e]; exact hst.isp) (hl x)) (by omega) (fun x hx => (hmem x hx).elim (fun e => by omega) (hl0 x)) h2
    · rw [denGo, if_neg (by omega)] at h
      injection h with h
      subst h
      exact fun x hx => ⟨hl x hx, hl0 x hx⟩
end Go.Proofs.Ytegacgfhmigdjaa
/- A text that denotes something is written again as it was, but for great letters. -/
namespace Go.Proofs.Ytegacgfhmigdjaa
open Go.RowKit Go.Proofs.YtegacgfhmigdjaaW.PrintWords Go.Proofs.YtegacgfhmigdjaaW.PrintLast Go.Proofs.YtegacgfhmigdjaaW.PrintMore Go.Proofs.Ytegacgfhmigdjaa.PPu
set_option linter.unusedVariables false
set_option linter.unusedSimpArgs false

theorem let_low {d : Int} (h0 : 0 ≤ d) (h1 : d < 36) : lowB (letP d) = letP d := by
  unfold letP lowB
  split <;> rw [if_neg (by omega)]
theorem putI_low (b : Int) : ∀ (k : Nat) (n place : Int), 0 ≤ n → ∀ x ∈ putI k n b place, lowB x = x
  | 0, _, _, _, x, hx => by cases hx
  | k + 1, n, place, h0, x, hx => by
    obtain ⟨t0, t1⟩ := thr_range place b
    rw [putI] at hx
    split at hx
    · rename_i hlt
      rw [List.mem_singleton] at hx
      subst hx
      exact let_low h0 (by omega)
    · rename_i hlt
      obtain ⟨q0, q1, r0, r1⟩ := quo_facts (n := n) (by omega) t0 t1
      rcases List.mem_cons.1 hx with rfl | hx
      · exact let_low (by omega) (by omega)
      · exact putI_low b k _ _ q0 x hx
theorem text_low (ys : List Int) (hl : ys.length ≤ 120) (hr : ∀ y ∈ ys, 0 ≤ y ∧ y ≤ 1114111) : ∃ G, textL ys = (lowL ys ++ sepL ys) ++ G ∧ ∀ x ∈ G, lowB x = x := by
  have h := outer_ind ys (lowL ys).length (by omega) (fun s => ∃ G, s.out = (lowL ys ++ sepL ys) ++ G ∧ ∀ x ∈ G, lowB x = x) (fun m i s hI hi hp => by
    obtain ⟨G, hG, hx⟩ := hp
    unfold stepT
    split
    · exact ⟨G, hG, hx⟩
    split
    · refine ⟨G ++ putL s.delta s.b, by show s.out ++ putL s.delta s.b = _; rw [hG, List.append_assoc], fun x h => ?_⟩
      rcases List.mem_append.1 h with h | h
      · exact hx x h
      · exact putI_low s.b 20 s.delta 0 hI.d0 x h
    · exact ⟨G, hG, hx⟩) (fun s d hp => hp) (zsL ys) 128 (startT ys) (OI.start (upz_zs ys) hr) ⟨[], by rw [List.append_nil]; rfl, fun x hx => by cases hx⟩
  exact h.1
theorem last_is (s : ByteArray) (c : Int) : ∀ (m p : Nat), lastP s c m = (p : Int) → bt s (p : Int) = c ∧ p < m
  | 0, p, h => by
    have : (-1 : Int) = (p : Int) := h
    omega
  | m + 1, p, h => by
    rw [lastP] at h
    split at h
    · rename_i hb
      obtain rfl : m = p := by omega
      exact ⟨hb, by omega⟩
    · obtain ⟨h1, h2⟩ := last_is s c m p h
      exact ⟨h1, by omega⟩
/-- The parts of a text that denotes something. -/
structure SplitS (s : ByteArray) (L : List Int) (p hd : Nat) : Prop where
  cases : (p = 0 ∧ hd = 0) ∨ (0 < p ∧ hd = p + 1)
  le : hd ≤ s.size
  hyp : hypN s = p
  mid : hd = p + 1 → bt s (p : Int) = 45
  run : ∃ k, denGo (s.extract hd s.size) k ((0 : Nat) : Int) (preL s p) 128 ((0 : Nat) : Int) 72 true = some L
theorem den_split (s : ByteArray) (L : List Int) (h : denP s = some L) : ∃ p hd, SplitS s L p hd := by
  unfold denP at h
  obtain ⟨q, hq⟩ : ∃ q, lastP s 45 s.size = q := ⟨_, rfl⟩
  simp only [hq] at h
  by_cases h0 : 0 < q
  · rw [if_pos h0, if_pos h0] at h
    obtain ⟨p, rfl⟩ : ∃ p : Nat, q = p := ⟨q.toNat, by omega⟩
    obtain ⟨h1, h2⟩ := last_is s 45 s.size p hq
    rw [Int.toNat_natCast] at h
    refine ⟨p, p + 1, .inr ⟨by omega, rfl⟩, by omega, ?_, fun _ => h1, ⟨_, h⟩⟩
    unfold hypN
    rw [hq]
    unfold Go.Proofs.Ytegacgfhmigdjaa.hyp
    rw [if_pos h0, Int.toNat_natCast]
  · rw [if_neg h0, if_neg h0] at h
    have he : s.extract 0 s.size = s := by
      apply ByteArray.ext
      rw [ByteArray.data_extract]
      exact Array.extract_size
    refine ⟨0, 0, .inl ⟨rfl, rfl⟩, Nat.zero_le _, ?_, fun h => by omega, ⟨_, by rw [he]; exact h⟩⟩
    unfold hypN
    rw [hq]
    unfold Go.Proofs.Ytegacgfhmigdjaa.hyp
    rw [if_neg h0]
    rfl
theorem pre_lt (s : ByteArray) (p : Nat) (hf : feedN s = s.size) (hp : p ≤ s.size) : ∀ x ∈ preL s p, 0 ≤ x ∧ x < 128 := by
  intro x hx
  unfold preL at hx
  obtain ⟨j, hj, rfl⟩ := List.mem_map.1 hx
  rw [List.mem_range] at hj
  exact ⟨(bt_range s _).1, (feed_spec s).1 j (by omega)⟩
theorem dok_pre (s : ByteArray) (p : Nat) (hf : feedN s = s.size) (hp : p ≤ s.size) : DOk (preL s p) 128 0 :=
  ⟨Nat.zero_le _, fun x hx => by have := pre_lt s p hf hp x hx; omega, fun x hx => (pre_lt s p hf hp x (List.mem_of_mem_drop hx)).2⟩
theorem SplitS.low {s : ByteArray} {L : List Int} {p hd : Nat} (h : SplitS s L p hd) (hf : feedN s = s.size) : preL s p = lowL L := by
  obtain ⟨k, hk⟩ := h.run
  have hp : p ≤ s.size := by have := h.le; rcases h.cases with e | e <;> omega
  obtain ⟨c, h0, h1, h2⟩ := den_cut _ L k 0 _ 128 0 72 true (dok_pre s p hf hp) (Nat.zero_le _) hk
  rw [List.take_zero] at h1
  rw [List.drop_zero] at h2
  show _ = L.filter (ltP 128)
  conv => rhs; rw [← List.take_append_drop c L]
  rw [List.filter_append, h2, ← filter_lt (L.take c) 128 (128 + 1) (by omega), h1]
  rfl
theorem all_scal (ys : List Int) (h : ∀ y ∈ ys, isP y = true) : ∀ k i, i + k = ys.length → scalN ys k i = ys.length
  | 0, i, hi => by rw [scalN]; omega
  | k + 1, i, hi => by
    have hlt : i < ys.length := by omega
    rw [scalN, if_pos hlt, if_pos]
    · exact all_scal ys h k (i + 1) (by omega)
    · rw [List.getD_eq_getElem?_getD, List.getElem?_eq_getElem hlt]
      exact h _ (List.getElem_mem hlt)
theorem isP_low {x : Int} (h0 : 0 ≤ x) (h : x < 128) : isP x = true := by
  unfold isP
  rw [if_pos (by omega), if_pos (by omega)]
theorem one_scal (s : ByteArray) (L : List Int) (hf : feedN s = s.size) (h : denP s = some L) : encN L = L.length ∧ ∀ y ∈ L, 0 ≤ y := by
  obtain ⟨p, hd, hs⟩ := den_split s L h
  obtain ⟨k, hk⟩ := hs.run
  have hp : p ≤ s.size := by have := hs.le; rcases hs.cases with e | e <;> omega
  have ha := den_isP _ L k 0 _ 128 0 72 true (Nat.zero_le _) (Nat.zero_le _) (fun x hx => by have := pre_lt s p hf hp x hx; exact isP_low this.1 this.2) (by decide) (fun x hx => (pre_lt s p hf hp x hx).1) hk
  exact ⟨all_scal L (fun y hy => (ha y hy).1) L.length 0 (by omega), fun y hy => (ha y hy).2⟩
theorem one_text (s : ByteArray) (L : List Int) (hs : L.length ≤ 120) (hf : feedN s = s.size) (h : denP s = some L) : textP L = smallB s := by
  obtain ⟨hn, h0⟩ := one_scal s L hf h
  have hr := enc_range hn h0
  have hT : denP (textP L) = some L := by
    have e := den_text L hs h0 hn
    unfold denR at e
    cases hd : denP (textP L) with
    | none => rw [hd] at e; simp at e
    | some q => rw [hd] at e; simp only [Prod.mk.injEq, and_true] at e; rw [e]
  have hfT := text_feed L hs hr
  obtain ⟨p1, d1, s1⟩ := den_split s L h
  obtain ⟨p2, d2, s2⟩ := den_split (textP L) L hT
  have hl1 := s1.low hf
  have hl2 := s2.low hfT
  have hpp : p1 = p2 := by
    have := congrArg List.length (hl1.trans hl2.symm)
    rw [preL_len, preL_len] at this
    exact this
  subst hpp
  have hdd : d1 = d2 := by rcases s1.cases with e | e <;> rcases s2.cases with e2 | e2 <;> omega
  subst hdd
  obtain ⟨k1, r1⟩ := s1.run
  obtain ⟨k2, r2⟩ := s2.run
  have le1 := s1.le
  have le2 := s2.le
  have hp1 : p1 ≤ s.size := by rcases s1.cases with e | e <;> omega
  rw [hl2, ← hl1] at r2
  obtain ⟨hz, hb⟩ := den_inj _ _ L k1 k2 0 0 _ 128 0 72 true (dok_pre s p1 hf hp1) (Nat.zero_le _) (Nat.zero_le _) r1 r2
  rw [ByteArray.size_extract, ByteArray.size_extract] at hz
  have hsz : s.size = (textP L).size := by omega
  have hTL : (textP L).size = (textL L).length := str_size _
  have hbt : ∀ j : Nat, bt (textP L) (j : Int) = (textL L).getD j 0 := fun j => by rw [bt_bytes, bytes_p L hr]
  obtain ⟨G, hG, hx⟩ := text_low L hs hr
  have hH : (lowL L ++ sepL L).length ≤ d1 := by
    have hlen : (lowL L).length = p1 := by rw [← hl1, preL_len]
    rw [List.length_append, hlen]
    unfold sepL
    rw [hlen]
    rcases s1.cases with e | e
    · rw [if_pos e.1]; simp; omega
    · rw [if_neg (by omega)]; simp; omega
  have hkey : smallL s = textL L := by
    refine List.ext_getElem (by rw [small_len, hsz, hTL]) fun j j1 j2 => ?_
    have e1 : (smallL s)[j] = bt (smallB s) (j : Int) := by
      unfold smallB
      rw [bt_str _ (small_range s), List.getD_eq_getElem?_getD, List.getElem?_eq_getElem j1]
      rfl
    have e2 : (textL L)[j] = bt (textP L) (j : Int) := by
      rw [hbt, List.getD_eq_getElem?_getD, List.getElem?_eq_getElem j2]
      rfl
    rw [small_len] at j1
    rw [e1, e2, small_bt, s1.hyp]
    by_cases hj : j < p1
    · rw [if_pos hj]
      have hg := congrArg (fun l : List Int => l[j]?) (hl1.trans hl2.symm)
      unfold preL at hg
      simp only [List.getElem?_map, List.getElem?_range hj, Option.map_some, Option.some.injEq] at hg
      exact hg
    · rw [if_neg hj]
      by_cases hj2 : j < d1
      · have hjp : j = p1 := by rcases s1.cases with e | e <;> omega
        have hdp : d1 = p1 + 1 := by rcases s1.cases with e | e <;> omega
        rw [hjp, s1.mid hdp, s2.mid hdp]
        decide
      · have hb2 := hb (j - d1) (by rw [ByteArray.size_extract]; omega)
        rw [Nat.zero_add, bt_extract s d1 s.size (j - d1) (Nat.le_refl _) (by omega), bt_extract (textP L) d1 (textP L).size (j - d1) (Nat.le_refl _) (by omega), show d1 + (j - d1) = j by omega] at hb2
        rw [hb2, ← e2]
        have e3 : (textL L)[j]? = some ((textL L)[j]) := List.getElem?_eq_getElem j2
        obtain ⟨y, hy⟩ : ∃ y, (textL L)[j] = y := ⟨_, rfl⟩
        rw [hy] at e3 ⊢
        rw [hG, List.getElem?_append_right (by omega)] at e3
        exact hx _ (List.mem_of_getElem? e3)
  show strOfNums (textL L) = strOfNums (smallL s)
  rw [hkey]
end Go.Proofs.Ytegacgfhmigdjaa
