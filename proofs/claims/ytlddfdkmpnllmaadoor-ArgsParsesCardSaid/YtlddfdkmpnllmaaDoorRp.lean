/- What the reference's helpers tell: pilcrowref24.find, May, value (as printed) by the words of this seat. -/
import Derived.Test.YtlddfdkmpnllmaaDoorBt
import Derived.Test.YtlddfdkmpnllmaaDoorPRppx
namespace Go.Proofs.YtlddfdkmpnllmaaDoor
open Go.RowKit Go.Proofs.YtlddfdkmpnllmaaDoorW.PrintWords Go.Proofs.YtlddfdkmpnllmaaDoorW.PrintLast Go.Proofs.YtlddfdkmpnllmaaDoorW.PrintMore Go.Proofs.YtlddfdkmpnllmaaDoor.PRpp
set_option linter.unusedVariables false
set_option linter.unusedSimpArgs false

theorem find_l0 (l : List ByteArray) (s : ByteArray) (hl : l.length ≤ 9223372036854775807) (d : Nat) : ∀ (k : Nat) (i : Int), 0 ≤ i → i ≤ l.length → (l.length : Int) - i = d → d < k →
    pilcrowref24_find.l0 k l s i = some (idxF s (l.drop i.toNat) i) := by
  induction d with
  | zero =>
    intro k i h0 h1 hd hk
    obtain ⟨k, rfl⟩ : ∃ m, k = m + 1 := ⟨k - 1, by omega⟩
    rw [List.drop_eq_nil_of_le (by omega)]
    simp only [pilcrowref24_find.l0]; rw [if_neg (by omega)]; rfl
  | succ d ih =>
    intro k i h0 h1 hd hk
    obtain ⟨k, rfl⟩ : ∃ m, k = m + 1 := ⟨k - 1, by omega⟩
    have hlt : i.toNat < l.length := by omega
    rw [List.drop_eq_getElem_cons hlt]
    have hr : rdOf ByteArray.empty l i = l[i.toNat] := by simp [rdOf, List.getD_eq_getElem?_getD, List.getElem?_eq_getElem hlt]
    have hw : wrap64 (i + 1) = i + 1 := by unfold wrap64; omega
    simp only [pilcrowref24_find.l0]
    rw [if_pos (by omega), if_pos h0, hr]
    unfold idxF
    by_cases h : s = l[i.toNat]
    · rw [if_pos (by rw [h]), if_pos h]
    · rw [if_neg (fun e => h ((str_eq_iff _ _).1 (by rw [e]; exact beq_self_eq_true _))), if_neg h, hw, ih k (i + 1) (by omega) (by omega) (by omega) (by omega)]
      rw [show (i + 1).toNat = i.toNat + 1 by omega]
theorem find_f (l : List ByteArray) (s : ByteArray) (hl : l.length ≤ 9223372036854775807) (k : Nat) (hk : l.length < k) : pilcrowref24_find.f k l s = some (idxF s l 0) := by
  unfold pilcrowref24_find.f
  rw [find_l0 l s hl l.length _ 0 (by omega) (by omega) (by omega) hk]
  rfl
theorem find_c (v : Value) (l : List ByteArray) (s : ByteArray) (w : World) (h : SL w v l) :
    Calls Tryd.prog 23 #[v, .string s] w fun e w' => e = .returned (.int .i64 (idxF s l 0)) ∧ Below w.heap.size w w' := by
  have hm := h.max
  obtain ⟨A, c, rfl, hc, hr⟩ := h
  exact (pilcrowref24_find.calls (l.length + 1) A c l s _ w hr hc (find_f l s hm _ (by omega))).mono fun e w' h => ⟨h.1, by obtain ⟨n, hn⟩ := h.2.out; rw [hn]; exact below_drewN' (Below.refl _ _) n⟩
def optsP : List ByteArray := [kFrom, kTo, kForm, kSize, kFramed, kSign, kStrip]
theorem optsP_f : pilcrowref24_Options.f = some optsP := by kernel_rfl
theorem optsP_c (w : World) : Calls Tryd.prog 25 #[] w fun e w' => ∃ v, e = .returned v ∧ SL w' v optsP ∧ Below w.heap.size w w' :=
  (pilcrowref24_Options.calls optsP w optsP_f).mono fun e w' h => by
    obtain ⟨v, he, hr, hb⟩ := h
    exact ⟨v, he, SL.of_R hr, hb⟩
theorem cmdsP_f : pilcrowref24_Commands.f = some cmds := by kernel_rfl
theorem cmdsP_c (w : World) : Calls Tryd.prog 24 #[] w fun e w' => ∃ v, e = .returned v ∧ SL w' v cmds ∧ Below w.heap.size w w' :=
  (pilcrowref24_Commands.calls cmds w cmdsP_f).mono fun e w' h => by
    obtain ⟨v, he, hr, hb⟩ := h
    exact ⟨v, he, SL.of_R hr, hb⟩
theorem mayP_all : ∀ (c : Fin 6) (o : Fin 7), pilcrowref24_May.f ((c.val : Int) + 1) (o.val : Int) = some (inF (optsP.getD o.val ByteArray.empty) (mayF ((c.val : Int) + 1))) := by decide +kernel
theorem mayP_f {c o : Int} (h0 : 1 ≤ c) (h1 : c ≤ 6) (h2 : 0 ≤ o) (h3 : o < 7) : pilcrowref24_May.f c o = some (inF (optsP.getD o.toNat ByteArray.empty) (mayF c)) := by
  have h := mayP_all ⟨(c - 1).toNat, by omega⟩ ⟨o.toNat, by omega⟩
  have e1 : (((c - 1).toNat : Nat) : Int) + 1 = c := by omega
  have e2 : ((o.toNat : Nat) : Int) = o := by omega
  simp only [e1, e2] at h
  exact h
theorem mayP_c {c o : Int} (h0 : 1 ≤ c) (h1 : c ≤ 6) (h2 : 0 ≤ o) (h3 : o < 7) (w : World) :
    Calls Tryd.prog 26 #[.int .i64 c, .int .i64 o] w fun e w' => e = .returned (.bool (inF (optsP.getD o.toNat ByteArray.empty) (mayF c))) ∧ Below w.heap.size w w' :=
  pilcrowref24_May.calls c o _ w (mayP_f h0 h1 h2 h3)
/-! the number of a size -/
def sizeF (s : ByteArray) : Int := if (numF s).2 = true then (numF s).1 else 0
theorem num_loop_ge : ∀ (l : List UInt8) (n : Int), 1 ≤ n → (numLoop l n).2 = true → 1 ≤ (numLoop l n).1
  | [], n, h0, h => by simp only [numLoop] at *; omega
  | c :: r, n, h0, h => by
    unfold numLoop at *
    split at h
    · cases h
    split at h
    · cases h
    next h1 h2 =>
      rw [if_neg h1, if_neg h2]
      exact num_loop_ge r _ (by omega) h
theorem num_pos {s : ByteArray} (h : (numF s).2 = true) : 1 ≤ (numF s).1 := by
  unfold numF at *
  split at h
  · cases h
  split at h
  · cases h
  split at h
  · cases h
  next h1 h2 h3 =>
    rw [if_neg h1, if_neg h2, if_neg h3]
    have hb : bt s 0 = ((s.data.toList.getD 0 0).toNat : Int) := by
      unfold bt; rw [dif_pos (by omega)]
      have h0 : 0 < s.data.toList.length := by show 0 < s.size; omega
      rw [List.getD_eq_getElem?_getD, List.getElem?_eq_getElem h0]; rfl
    rcases hl : s.data.toList with _ | ⟨c, r⟩
    · exfalso; apply h1; show s.data.toList.length = 0; rw [hl]; rfl
    · rw [hl] at h hb
      simp only [List.getD_eq_getElem?_getD, List.getElem?_cons_zero, Option.getD_some] at hb
      unfold numLoop at h ⊢
      split at h
      · cases h
      split at h
      · cases h
      next g1 g2 =>
        rw [if_neg g1, if_neg g2]
        exact num_loop_ge r _ (by omega) h
theorem size_big (s : ByteArray) (hs : 5 < s.size) (d : Nat) : ∀ (k : Nat) (n i : Int), 0 ≤ i → i ≤ 5 → 5 - i = d → d < k → pilcrowref24_size.l0 k s n i = some 0 := by
  induction d with
  | zero =>
    intro k n i h0 h1 hd hk
    obtain ⟨k, rfl⟩ : ∃ m, k = m + 1 := ⟨k - 1, by omega⟩
    obtain rfl : i = 5 := by omega
    simp only [pilcrowref24_size.l0]
    rw [if_pos (by omega), if_pos (by omega)]
    split; rfl
    split; rfl
    rw [if_neg (by omega), if_pos (by omega)]
  | succ d ih =>
    intro k n i h0 h1 hd hk
    obtain ⟨k, rfl⟩ : ∃ m, k = m + 1 := ⟨k - 1, by omega⟩
    have hw : wrap64 (i + 1) = i + 1 := by unfold wrap64; omega
    simp only [pilcrowref24_size.l0, hw]
    rw [if_pos (by omega), if_pos (by omega)]
    split; rfl
    split; rfl
    split
    · split; rfl
      split; rfl
      exact ih k _ (i + 1) (by omega) (by omega) (by omega) (by omega)
    · split; rfl
      exact ih k _ (i + 1) (by omega) (by omega) (by omega) (by omega)
def valF (r : Int × Bool) : Int := if r.2 = true then r.1 else 0
theorem size_l0 (s : ByteArray) (hs : s.size ≤ 5) (h48 : ¬ bt s 0 = 48) (d : Nat) : ∀ (k : Nat) (n i : Int), 0 ≤ i → i ≤ s.size → (s.size : Int) - i = d → d < k → 0 ≤ n → n < 10 ^ i.toNat →
    pilcrowref24_size.l0 k s n i = some (valF (numLoop (s.data.toList.drop i.toNat) n)) := by
  have hlen : s.data.toList.length = s.size := rfl
  induction d with
  | zero =>
    intro k n i h0 h1 hd hk hn hb
    obtain ⟨k, rfl⟩ : ∃ m, k = m + 1 := ⟨k - 1, by omega⟩
    rw [List.drop_eq_nil_of_le (by omega)]
    simp only [pilcrowref24_size.l0]; rw [if_neg (by omega)]
    show _ = some (if decide (n ≤ 65536) = true then n else 0)
    by_cases h : n ≤ 65536
    · rw [if_neg (by omega), decide_eq_true h]; rfl
    · rw [if_pos (by omega), decide_eq_false h]; rfl
  | succ d ih =>
    intro k n i h0 h1 hd hk hn hb
    obtain ⟨k, rfl⟩ : ∃ m, k = m + 1 := ⟨k - 1, by omega⟩
    have hlt : i.toNat < s.data.toList.length := by omega
    have hp : (10 : Int) ^ i.toNat ≤ 10 ^ 4 := by
      have : (10 : Nat) ^ i.toNat ≤ 10 ^ 4 := Nat.pow_le_pow_right (by decide) (by omega)
      exact_mod_cast this
    have hp1 : (10 : Int) ^ (i.toNat + 1) = 10 * 10 ^ i.toNat := by rw [Int.pow_succ]; omega
    rw [List.drop_eq_getElem_cons hlt]
    have hr : bt s i = ((s.data.toList[i.toNat]).toNat : Int) := by
      unfold bt; rw [dif_pos (by omega)]; rfl
    have hr2 := bt_range s i
    simp only [pilcrowref24_size.l0, numLoop]
    rw [if_pos (by omega), if_pos h0, ← hr]
    by_cases c1 : bt s i < 48
    · rw [if_pos c1, if_pos c1]; rfl
    · rw [if_neg c1, if_neg c1]
      by_cases c2 : bt s i > 57
      · rw [if_pos c2, if_pos c2]; rfl
      · rw [if_neg c2, if_neg c2]
        have e1 : wrap64 (wrap64 (wrap64 (10 * n) + wrap64 (bt s i)) - 48) = 10 * n + (bt s i - 48) := by unfold wrap64; omega
        have e2 : wrap64 (i + 1) = i + 1 := by unfold wrap64; omega
        have hrec := ih k (10 * n + (bt s i - 48)) (i + 1) (by omega) (by omega) (by omega) (by omega) (by omega) (by rw [show (i + 1).toNat = i.toNat + 1 by omega, hp1]; omega)
        rw [show (i + 1).toNat = i.toNat + 1 by omega] at hrec
        rw [e1, e2, hrec]
        by_cases c3 : i = 0
        · subst c3
          rw [if_pos rfl, if_neg h48, if_neg (by omega)]
        · rw [if_neg c3, if_neg (by omega)]
theorem size_f (s : ByteArray) (k : Nat) (hk : 6 < k) : pilcrowref24_size.f k s = some (sizeF s) := by
  have hlen : s.data.toList.length = s.size := rfl
  unfold pilcrowref24_size.f sizeF numF
  by_cases h0 : s.size = 0
  · rw [if_pos h0]
    obtain ⟨k, rfl⟩ : ∃ m, k = m + 1 := ⟨k - 1, by omega⟩
    simp only [pilcrowref24_size.l0]
    rw [if_neg (by omega), if_neg (by omega)]
    rfl
  · rw [if_neg h0]
    by_cases h1 : bt s 0 = 48
    · rw [if_pos h1]
      obtain ⟨k, rfl⟩ : ∃ m, k = m + 1 := ⟨k - 1, by omega⟩
      simp only [pilcrowref24_size.l0]
      rw [if_pos (by omega), if_pos (by omega), if_neg (by omega), if_neg (by omega), if_pos trivial, if_pos h1]
      rfl
    · rw [if_neg h1]
      by_cases h2 : 5 < s.size
      · rw [if_pos h2, size_big s h2 5 k 0 0 (by omega) (by omega) (by omega) (by omega)]
        rfl
      · rw [if_neg h2, size_l0 s (by omega) h1 s.size k 0 0 (by omega) (by omega) (by omega) (by omega) (by omega) (by decide)]
        rfl
/-! the number of an option's value -/
def namesP : List ByteArray := [⟨#[]⟩, nameF 1, nameF 2, nameF 3, nameF 4, nameF 5, nameF 6, nameF 7, nameF 8, nameF 9, nameF 10]
theorem namesP_f : pilcrowref18_Names.f = some namesP := by kernel_rfl
theorem codec_idx (s : ByteArray) (hs : s ≠ ⟨#[]⟩) : mx (idxF s namesP 0) 0 = codecF s := by
  have e : ∀ n : ByteArray, (s = n) = (n = s) := fun n => propext eq_comm
  unfold namesP codecF
  simp only [idxF, codecFrom, e]
  rw [if_neg (fun h => hs h.symm)]
  simp only [show (10 - ((9 : Nat) : Int)) = 1 by decide, show (10 - ((8 : Nat) : Int)) = 2 by decide, show (10 - ((7 : Nat) : Int)) = 3 by decide, show (10 - ((6 : Nat) : Int)) = 4 by decide, show (10 - ((5 : Nat) : Int)) = 5 by decide,
    show (10 - ((4 : Nat) : Int)) = 6 by decide, show (10 - ((3 : Nat) : Int)) = 7 by decide, show (10 - ((2 : Nat) : Int)) = 8 by decide, show (10 - ((1 : Nat) : Int)) = 9 by decide, show (10 - ((0 : Nat) : Int)) = 10 by decide]
  repeat' split
  all_goals rfl
theorem codec_empty : codecF ⟨#[]⟩ = 0 := by decide +kernel
def valueF (o : Int) (s : ByteArray) (has : Bool) : Int := if o ≥ 4 then (if has = true then 0 else 1) else if has = true then (if o = 3 then sizeF s else codecF s) else 0
theorem value_f (o : Int) (s : ByteArray) (has : Bool) : pilcrowref24_value.f 20 o s has = some (valueF o s has) := by
  unfold pilcrowref24_value.f valueF
  by_cases h : o ≥ 4
  · rw [if_pos h, if_pos h]; cases has <;> rfl
  · rw [if_neg h, if_neg h]
    cases has with
    | false => rfl
    | true =>
      rw [if_pos rfl, if_pos rfl]
      by_cases h3 : o = 3
      · rw [if_pos h3, if_pos h3, size_f s 20 (by decide)]; rfl
      · rw [if_neg h3, if_neg h3]
        by_cases he : s.toList = []
        · rw [if_pos he]
          have : s = ⟨#[]⟩ := by
            rw [ByteArray.toList_eq] at he
            apply ByteArray.ext
            exact Array.toList_inj.1 he
          rw [this, codec_empty]
        · rw [if_neg he, namesP_f]
          simp only [Option.bind_some]
          rw [find_f namesP s (by decide) 20 (by decide)]
          simp only [Option.bind_some]
          rw [codec_idx s (fun h => he (by rw [h, ByteArray.toList_eq]))]
theorem value_c (o : Int) (s : ByteArray) (has : Bool) (w : World) : Calls Tryd.prog 27 #[.int .i64 o, .string s, .bool has] w fun e w' => e = .returned (.int .i64 (valueF o s has)) ∧ Below w.heap.size w w' :=
  pilcrowref24_value.calls 20 o s has _ w (value_f o s has)
end Go.Proofs.YtlddfdkmpnllmaaDoor
