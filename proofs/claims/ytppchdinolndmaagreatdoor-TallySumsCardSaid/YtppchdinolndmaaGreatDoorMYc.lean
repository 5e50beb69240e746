/- Joined texts: Yc. -/
import Derived.Test.YtppchdinolndmaaGreatDoorMUstp
import Derived.Lib.ItoaLen
/- The text of a tally, plain, and what pilcrowref22.Num and pilcrowref23.Text come to. -/
namespace Go.Proofs.YtppchdinolndmaaGreatDoor
open Go.RowKit Go.Proofs.YtppchdinolndmaaGreatDoorW.PrintWords Go.Proofs.YtppchdinolndmaaGreatDoorW.PrintLast Go.Proofs.YtppchdinolndmaaGreatDoorW.PrintMore Go.Proofs.YtppchdinolndmaaGreatDoor.PPt
set_option linter.unusedVariables false
set_option linter.unusedSimpArgs false
def itoaF (n : Int) : ByteArray := ⟨(Lib.itoa n).toArray⟩
theorem itoaF_size (n : Int) (h0 : -9223372036854775808 ≤ n) (h1 : n ≤ 9223372036854775807) : (itoaF n).size ≤ 21 := by
 have := Lib.itoa_length_le n h0 h1
 simpa [itoaF, ByteArray.size] using this
theorem ydec_len (u : Nat) : ∀ k, u < 10 ^ (k + 1) → (Lib.decDigits u).length ≤ k + 1 := by
 induction u using Nat.strongRecOn with
 | ind u ih =>
  intro k hk
  rw [Lib.decDigits]
  split
  ·simp
  ·match k with
   | 0 => simp at hk; omega
   | k + 1 =>
    have := ih (u / 10) (by omega) k (by rw [Nat.pow_succ] at hk; omega)
    simp only [List.length_append, List.length_cons, List.length_nil]; omega
theorem ydig_one : ∀ u : Fin 10, strOfNums [(wrap64 (48 + ((u.val : Nat) : Int))) % 256] = ⟨[UInt8.ofNat (48 + u.val)].toArray⟩ := by decide +kernel
theorem ba_size (l : List UInt8) : (⟨l.toArray⟩ : ByteArray).size = l.length := by simp [ByteArray.size]
theorem ydec_ten (u : Nat) (h : ¬ u < 10) : (⟨(Lib.decDigits (u / 10)).toArray⟩ : ByteArray) ++ ⟨(Lib.decDigits (u % 10)).toArray⟩ = ⟨(Lib.decDigits u).toArray⟩ := by
 rw [Lib.decDigits.eq_1 u, dif_neg h]
 have h3 : Lib.decDigits (u % 10) = [UInt8.ofNat (48 + u % 10)] := Lib.decDigits_one (by omega)
 rw [h3]
 apply ByteArray.ext
 apply Array.toList_inj.1
 simp [ByteArray.data_append]
theorem ynum_f (u : Nat) : ∀ k j, k ≤ 30 → u ≤ 9223372036854775808 → u < 10 ^ (k + 1) → u ≤ 9223372036854775807 → pilcrowref22_Num.f (2 * k + 2 + j) (u : Int) = some ⟨(Lib.decDigits u).toArray⟩ := by
 induction u using Nat.strongRecOn with
 | _ u ih =>
  intro k j hk30 h6 hk h7
  by_cases h : u < 10
  ·rw [Lib.decDigits, dif_pos h, show 2 * k + 2 + j = (2 * k + j) + 1 + 1 by omega]
   simp only [pilcrowref22_Num.f, pilcrowref22_Num.j0]
   rw [if_pos (by omega), decide_eq_true (by omega : (u : Int) < 10)]
   simp only [if_true]
   exact congrArg some (ydig_one ⟨u, h⟩)
  ·have hu : u / 10 < u := by omega
   have hm : u % 10 < u := by omega
   obtain ⟨k, rfl⟩ : ∃ j, k = j + 1 := by
    cases k with
    | zero => simp at hk; omega
    | succ j => exact ⟨j, rfl⟩
   have hq : u / 10 < 10 ^ (k + 1) := by rw [Nat.pow_succ] at hk; omega
   have hr : u % 10 < 10 ^ (k + 1) := by
    have : 10 ^ 1 ≤ 10 ^ (k + 1) := Nat.pow_le_pow_right (by decide) (by omega)
    omega
   have e1 := ih (u / 10) hu k j (by omega) (by omega) hq (by omega)
   have e2 := ih (u % 10) hm k j (by omega) (by omega) hr (by omega)
   have w1 : wrap64 (Int.tdiv (u : Int) 10) = ((u / 10 : Nat) : Int) := by
    rw [Int.tdiv_eq_ediv_of_nonneg (by omega)]
    have : (u : Int) / 10 = ((u / 10 : Nat) : Int) := by omega
    rw [this]
    unfold wrap64
    omega
   have w2 : Int.tmod (u : Int) 10 = ((u % 10 : Nat) : Int) := by
    rw [Int.tmod_eq_emod_of_nonneg (by omega)]
    omega
   rw [show 2 * (k + 1) + 2 + j = (2 * k + 2 + j) + 1 + 1 by omega]
   generalize 2 * k + 2 + j = K at e1 e2 ⊢
   simp only [pilcrowref22_Num.f, pilcrowref22_Num.j0]
   rw [if_pos (by omega), decide_eq_false (by omega : ¬ (u : Int) < 10)]
   rw [if_neg (by decide), if_neg (by omega), w1, w2, e1, e2]
   simp only [Option.bind_some]
   have l1 := ydec_len (u / 10) k hq
   have l2 := ydec_len (u % 10) k hr
   rw [if_pos (by rw [ba_size, ba_size]; omega), ydec_ten u h]
theorem ynum_neg (u : Nat) : ∀ k j, k ≤ 30 → 1 ≤ u → u ≤ 9223372036854775808 → u < 10 ^ (k + 1) → pilcrowref22_Num.f (2 * k + 4 + j) (-(u : Int)) = some ⟨(45 :: Lib.decDigits u).toArray⟩ := by
 induction u using Nat.strongRecOn with
 | _ u ih =>
  intro k j hk30 h1 h6 hk
  rw [show 2 * k + 4 + j = (2 * k + 2 + j) + 1 + 1 by omega]
  by_cases h : u < 10
  ·have e1 := ynum_f u k j hk30 h6 hk (by omega)
   have w1 : wrap64 (- -(u : Int)) = (u : Int) := by unfold wrap64; omega
   have ll := ydec_len u k hk
   generalize 2 * k + 2 + j = K at e1 ⊢
   simp only [pilcrowref22_Num.f, pilcrowref22_Num.j0]
   rw [if_neg (by omega), if_neg (by decide), if_pos (by omega), if_pos (by omega), w1, e1, Option.bind_some, if_pos (by rw [ba_size]; omega)]
   refine congrArg some ?_
   apply ByteArray.ext
   apply Array.toList_inj.1
   simp [ByteArray.data_append]
  ·obtain ⟨k, rfl⟩ : ∃ j, k = j + 1 := by
    cases k with
    | zero => simp at hk; omega
    | succ j => exact ⟨j, rfl⟩
   have hq : u / 10 < 10 ^ (k + 1) := by rw [Nat.pow_succ] at hk; omega
   have hr : u % 10 < 10 ^ (k + 2) := by
    have : 10 ^ 1 ≤ 10 ^ (k + 2) := Nat.pow_le_pow_right (by decide) (by omega)
    omega
   have e1 := ih (u / 10) (by omega) k j (by omega) (by omega) (by omega) hq
   have e2 := ynum_f (u % 10) (k + 1) j hk30 (by omega) hr (by omega)
   rw [show 2 * k + 4 + j = 2 * (k + 1) + 2 + j by omega] at e1
   have w1 : wrap64 (Int.tdiv (-(u : Int)) 10) = -((u / 10 : Nat) : Int) := by
    rw [Int.neg_tdiv, Int.tdiv_eq_ediv_of_nonneg (by omega)]
    have : (u : Int) / 10 = ((u / 10 : Nat) : Int) := by omega
    rw [this]
    unfold wrap64
    omega
   have w2 : wrap64 (-Int.tmod (-(u : Int)) 10) = ((u % 10 : Nat) : Int) := by
    rw [Int.neg_tmod, Int.neg_neg, Int.tmod_eq_emod_of_nonneg (by omega)]
    have : (u : Int) % 10 = ((u % 10 : Nat) : Int) := by omega
    rw [this]
    unfold wrap64
    omega
   have l1 := ydec_len (u / 10) k hq
   have l2 := ydec_len (u % 10) (k + 1) hr
   generalize 2 * (k + 1) + 2 + j = K at e1 e2 ⊢
   simp only [pilcrowref22_Num.f, pilcrowref22_Num.j0]
   rw [if_neg (by omega), if_neg (by decide), if_pos (by omega), if_neg (by omega), w1, w2, e1, e2]
   simp only [Option.bind_some]
   rw [if_pos (by rw [ba_size, ba_size, List.length_cons]; omega)]
   congr 1
   have := ydec_ten u h
   apply ByteArray.ext
   apply Array.toList_inj.1
   have h4 := congrArg (fun b : ByteArray => b.data.toList) this
   simp [ByteArray.data_append] at h4 ⊢
   exact h4
theorem ynum (n : Int) (h0 : -9223372036854775808 ≤ n) (h1 : n ≤ 9223372036854775807) (j : Nat) : pilcrowref22_Num.f (40 + j) n = some (itoaF n) := by
 unfold itoaF
 by_cases h : 0 ≤ n
 ·obtain ⟨u, rfl⟩ : ∃ u : Nat, n = u := ⟨n.toNat, by omega⟩
  have := ynum_f u 18 (j + 2) (by decide) (by omega) (by omega) (by omega)
  rw [show 2 * 18 + 2 + (j + 2) = 40 + j by omega] at this
  rw [this, Lib.itoa_nonneg]
 ·obtain ⟨u, rfl⟩ : ∃ u : Nat, n = -(u : Int) := ⟨n.natAbs, by omega⟩
  have := ynum_neg u 18 j (by decide) (by omega) (by omega) (by omega)
  rw [this, Lib.itoa_neg u (by omega)]
def lineF (w : ByteArray) (n : Int) : ByteArray := ((w ++ ⟨#[32]⟩) ++ itoaF n) ++ ⟨#[10]⟩
def wordsT : List ByteArray := [⟨#[115, 99, 97, 108, 97, 114, 115]⟩, ⟨#[117, 110, 105, 116, 115]⟩, ⟨#[98, 121, 116, 101, 115]⟩, ⟨#[99, 111, 110, 116, 114, 111, 108, 115]⟩, ⟨#[97, 115, 99, 105, 105]⟩, ⟨#[108, 97, 116, 105, 110]⟩, ⟨#[112, 108, 97, 110, 101]⟩, ⟨#[112, 114, 105, 118, 97, 116, 101]⟩, ⟨#[98, 101, 121, 111, 110, 100]⟩, ⟨#[108, 101, 97, 115, 116]⟩, ⟨#[109, 111, 115, 116]⟩]
def numsT (t : Tl) : List Int := [t.sc, t.un, t.by8, t.ct, t.ai, t.la, t.pl, t.pr, t.be, t.le, t.mo]
def textN (ns : List Int) : Nat → ByteArray
 | 0 => ⟨#[]⟩
 | k + 1 => textN ns k ++ lineF (wordsT.getD k ByteArray.empty) (ns.getD k 0)
def textT (t : Tl) : ByteArray := textN (numsT t) 11
structure FitT (t : Tl) : Prop where
 all : ∀ k, -9223372036854775808 ≤ (numsT t).getD k 0 ∧ (numsT t).getD k 0 ≤ 9223372036854775807
 le : 0 ≤ t.le ∧ t.le ≤ 4294967295
 mo : 0 ≤ t.mo ∧ t.mo ≤ 4294967295
theorem word_size (k : Nat) : (wordsT.getD k ByteArray.empty).size ≤ 8 := by
 match k with
 | 0 | 1 | 2 | 3 | 4 | 5 | 6 | 7 | 8 | 9 | 10 => decide
 | n + 11 => exact Nat.zero_le _
theorem line_size (w : ByteArray) (n : Int) : (lineF w n).size = w.size + 1 + (itoaF n).size + 1 := by
 unfold lineF
 rw [ByteArray.size_append, ByteArray.size_append, ByteArray.size_append]
 rfl
theorem textN_size {ns : List Int} (h : ∀ k, -9223372036854775808 ≤ ns.getD k 0 ∧ ns.getD k 0 ≤ 9223372036854775807) : ∀ k, (textN ns k).size ≤ 40 * k
 | 0 => by show (0 : Nat) ≤ _; omega
 | k + 1 => by
  have := textN_size h k
  have := word_size k
  have := itoaF_size _ (h k).1 (h k).2
  rw [textN, ByteArray.size_append, line_size]
  omega
theorem text_l0 {ns : List Int} (hn : ns.length = 11) (h : ∀ k, -9223372036854775808 ≤ ns.getD k 0 ∧ ns.getD k 0 ≤ 9223372036854775807) : ∀ (m i k : Nat), i + m = 11 → m + 50 ≤ k → pilcrowref23_Text.l0 k wordsT ns (textN ns i) i = some (textN ns 11)
 | 0, i, k, hi, hk => by
  obtain ⟨k, rfl⟩ : ∃ j, k = j + 1 := ⟨k - 1, by omega⟩
  have hw : wordsT.length = 11 := rfl
  rw [pilcrowref23_Text.l0, if_neg (by omega), show i = 11 by omega]
 | m + 1, i, k, hi, hk => by
  obtain ⟨k, rfl⟩ : ∃ j, k = (40 + j) + 1 := ⟨k - 41, by omega⟩
  have hw : wordsT.length = 11 := rfl
  have hwr : wrap64 ((i : Int) + 1) = ((i + 1 : Nat) : Int) := by rw [yw64 (by omega) (by omega)]; omega
  have e1 : rdOf ByteArray.empty wordsT (i : Int) = wordsT.getD i ByteArray.empty := by simp [rdOf]
  have e3 := ynum _ (h i).1 (h i).2 k
  have s1 := word_size i
  have s2 := itoaF_size _ (h i).1 (h i).2
  have s3 := textN_size h i
  have s32 : (⟨#[32]⟩ : ByteArray).size = 1 := rfl
  have s10 : (⟨#[10]⟩ : ByteArray).size = 1 := rfl
  have ih := text_l0 hn h m (i + 1) (40 + k) (by omega) (by omega)
  rw [pilcrowref23_Text.l0, if_pos (by omega), if_pos (by omega), e1, if_pos (by omega), if_pos (by omega), rd_at, e3, Option.bind_some, if_pos (by rw [ByteArray.size_append]; omega), if_pos (by rw [ByteArray.size_append, ByteArray.size_append]; omega),
   if_pos (by rw [ByteArray.size_append, ByteArray.size_append, ByteArray.size_append]; omega), hwr]
  exact ih
theorem wrap_u32 {x : Int} (h : 0 ≤ x ∧ x ≤ 4294967295) : wrap64 x = x := by unfold wrap64; omega
theorem text_f {t : Tl} (h : FitT t) : pilcrowref23_Text.f 61 t.sc t.un t.by8 t.ct t.ai t.la t.pl t.pr t.be t.le t.mo = some (textT t) := by
 have := text_l0 (ns := numsT t) rfl h.all 11 0 61 rfl (by decide)
 unfold pilcrowref23_Text.f
 rw [wrap_u32 h.le, wrap_u32 h.mo]
 exact this
theorem refText_c {t : Tl} (h : FitT t) (w : World) : Calls Tryz.prog 13 #[.agg #[.int .i64 t.sc, .int .i64 t.un, .int .i64 t.by8, .int .i64 t.ct, .int .i64 t.ai, .int .i64 t.la, .int .i64 t.pl, .int .i64 t.pr, .int .i64 t.be, .int .u32 t.le, .int .u32 t.mo]] w
  fun e w' => e = .returned (.string (textT t)) ∧ Below w.heap.size w w' :=
 pilcrowref23_Text.calls 61 _ _ _ _ _ _ _ _ _ _ _ _ w (text_f h)
def cellsT (t : Tl) : Array Value := #[.int .i64 t.sc, .int .i64 t.un, .int .i64 t.by8, .int .i64 t.ct, .int .i64 t.ai, .int .i64 t.la, .int .i64 t.pl, .int .i64 t.pr, .int .i64 t.be, .int .u32 t.le, .int .u32 t.mo]
theorem refOf_c (A : Option Addr) (c : Nat) (l : List Int) (w : World) (h : ReadsInt w .u32 A l.length l) (hc : l.length ≤ c) (hl : l.length ≤ 100000) (h0 : ∀ y ∈ l, 0 ≤ y) :
  Calls Tryz.prog 10 #[.slice A l.length c] w fun e w' => e = .returned (.agg (cellsT (ofT l))) ∧ Below w.heap.size w w' :=
 pilcrowref23_Of.calls (3 * l.length + 11) A c l _ _ _ _ _ _ _ _ _ _ _ w (Kd.C_of_reads (d := (0 : Int)) h) hc (of_f l hl h0)
theorem drawn_below {w w' : World} (h : Drawn0 w w') : Below w.heap.size w w' := by
 obtain ⟨nd, rfl⟩ := h
 exact below_drewN' (Below.refl _ _) nd
theorem refUnits_c (A : Option Addr) (c : Nat) (l : List Int) (w : World) (h : ReadsInt w .u32 A l.length l) (hc : l.length ≤ c) (hl : l.length ≤ 100000) (h0 : ∀ y ∈ l, 0 ≤ y) :
  Calls Tryz.prog 14 #[.slice A l.length c] w fun e w' => e = .returned (.int .i64 (l.foldl gU 0)) ∧ Below w.heap.size w w' :=
 (pilcrowref01_Units.calls _ A c l _ w (Kd.C_of_reads (d := (0 : Int)) h) hc (units_f l hl 0)).mono fun e w' ⟨he, hd⟩ => ⟨he, drawn_below hd⟩
theorem add_c {a b : Tl} (ha : SmT a) (hb : SmT b) (w : World) : Calls Tryz.prog 11 #[.agg (cellsT a), .agg (cellsT b)] w fun e w' => e = .returned (.agg (cellsT (addT a b))) ∧ Below w.heap.size w w' :=
 tally_Add.calls 1 _ _ _ _ _ _ _ _ _ _ _ _ _ _ _ _ _ _ _ _ _ _ _ _ _ _ _ _ _ _ _ _ _ w (add_f ha hb)
theorem class_c (c : Int) (w : World) : Calls Tryz.prog 17 #[.int .u32 c] w fun e w' => e = .returned (.int .i64 (clsF c)) ∧ Below w.heap.size w w' :=
 (scalar_Class.calls 3 c _ w (cls_f c 0)).mono fun e w' ⟨he, hd⟩ => ⟨he, drawn_below hd⟩
theorem sunits_c (c : Int) (hs : isScal c = true) (A : Option Addr) (cp : Nat) (hcp : 1 ≤ cp) (w : World) (h : ReadsInt w .u32 A [c].length [c]) : Calls Tryz.prog 19 #[.slice A 1 cp] w fun e w' => e = .returned (.int .i64 (unF c)) ∧ Below w.heap.size w w' :=
 (scalar_Units.calls 2 A cp [c] _ w (Kd.C_of_reads (d := (0 : Int)) h) hcp (un_f c hs)).mono fun e w' ⟨he, hd⟩ => ⟨he, drawn_below hd⟩
end Go.Proofs.YtppchdinolndmaaGreatDoor
