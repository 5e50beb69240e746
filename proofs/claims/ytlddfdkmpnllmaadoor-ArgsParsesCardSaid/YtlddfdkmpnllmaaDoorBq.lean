/- The words of a plan, read back. -/
import Derived.Test.YtlddfdkmpnllmaaDoorBp
namespace Go.Proofs.YtlddfdkmpnllmaaDoor
open Go.RowKit Go.Proofs.YtlddfdkmpnllmaaDoorW.PrintWords Go.Proofs.YtlddfdkmpnllmaaDoorW.PrintLast Go.Proofs.YtlddfdkmpnllmaaDoorW.PrintMore
set_option linter.unusedVariables false
set_option linter.unusedSimpArgs false

def valL : List UInt8 → Int → Int
  | [], n => n
  | c :: r, n => valL r (10 * n + ((c.toNat : Int) - 48))
def digs (l : List UInt8) : Prop := ∀ c ∈ l, 48 ≤ c.toNat ∧ c.toNat ≤ 57
theorem num_loop_val : ∀ (l : List UInt8) (n : Int), digs l → numLoop l n = (valL l n, decide (valL l n ≤ 65536))
  | [], n, h => rfl
  | c :: r, n, h => by
    have hc := h c (List.mem_cons_self ..)
    simp only [numLoop, valL]
    rw [if_neg (by omega), if_neg (by omega)]
    exact num_loop_val r _ fun x hx => h x (List.mem_cons_of_mem _ hx)
theorem val_snoc : ∀ (l : List UInt8) (c : UInt8) (n : Int), valL (l ++ [c]) n = 10 * valL l n + ((c.toNat : Int) - 48)
  | [], c, n => rfl
  | x :: r, c, n => by simp only [List.cons_append, valL]; exact val_snoc r c _
theorem digit (k : Nat) (h : k < 10) : (UInt8.ofNat (48 + k)).toNat = 48 + k := by
  rw [UInt8.toNat_ofNat']; omega
theorem dec_val (u : Nat) : valL (Lib.decDigits u) 0 = u ∧ digs (Lib.decDigits u) := by
  induction u using Nat.strongRecOn with
  | ind u ih =>
    rw [Lib.decDigits]
    split
    next h =>
      constructor
      · simp only [valL]; rw [digit u h]; omega
      · intro c hc; simp only [List.mem_cons, List.not_mem_nil, or_false] at hc; subst hc; rw [digit u h]; omega
    next h =>
      have hu := ih (u / 10) (by omega)
      constructor
      · rw [val_snoc, hu.1, digit _ (by omega)]; omega
      · intro c hc
        rcases List.mem_append.1 hc with hc | hc
        · exact hu.2 c hc
        · simp only [List.mem_cons, List.not_mem_nil, or_false] at hc; subst hc; rw [digit _ (by omega)]; omega
theorem dec_head (u : Nat) (h : 1 ≤ u) : ∃ c r, Lib.decDigits u = c :: r ∧ c ≠ 48 := by
  induction u using Nat.strongRecOn with
  | ind u ih =>
    rw [Lib.decDigits]
    split
    next h1 =>
      refine ⟨_, _, rfl, fun e => ?_⟩
      have := congrArg UInt8.toNat e
      rw [digit u h1] at this
      have h48 : (48 : UInt8).toNat = 48 := rfl
      omega
    next h1 =>
      obtain ⟨c, r, e, hc⟩ := ih (u / 10) (by omega) (by omega)
      rw [e]
      exact ⟨c, _, rfl, hc⟩
theorem dec_len (u : Nat) : ∀ k, u < 10 ^ (k + 1) → (Lib.decDigits u).length ≤ k + 1 := by
  induction u using Nat.strongRecOn with
  | ind u ih =>
    intro k hk
    rw [Lib.decDigits]
    split
    · simp
    next h1 =>
      match k with
      | 0 => omega
      | k + 1 =>
        have := ih (u / 10) (by omega) k (by rw [Nat.pow_succ] at hk; omega)
        simp only [List.length_append, List.length_cons, List.length_nil]; omega
theorem num_itoa {n : Int} (h0 : 1 ≤ n) (h1 : n ≤ 65536) : numF (itoaF n) = (n, true) := by
  obtain ⟨u, rfl⟩ : ∃ u : Nat, n = u := ⟨n.toNat, by omega⟩
  have hu : 1 ≤ u := by omega
  obtain ⟨c, r, e, hc⟩ := dec_head u hu
  have hl := dec_len u 4 (by omega)
  obtain ⟨hv, hd⟩ := dec_val u
  have ei : itoaF (u : Int) = ⟨(c :: r).toArray⟩ := by unfold itoaF; rw [Lib.itoa_nonneg, e]
  rw [e] at hl hv hd
  rw [ei]
  unfold numF
  have hs : (⟨(c :: r).toArray⟩ : ByteArray).size = r.length + 1 := rfl
  have hb : bt (⟨(c :: r).toArray⟩ : ByteArray) 0 = (c.toNat : Int) := rfl
  have hc2 : ¬ (c.toNat : Int) = 48 := fun e => hc (UInt8.toNat_inj.1 (by have h48 : (48 : UInt8).toNat = 48 := rfl; omega))
  simp only [List.length_cons] at hl
  rw [hs, hb, if_neg (by omega), if_neg hc2, if_neg (by omega)]
  show numLoop (c :: r) 0 = _
  rw [num_loop_val _ _ hd, hv, decide_eq_true h1]
theorem cut_size (v : ByteArray) : cutF (eSize ++ v) = (kSize, v, true) := by
  have hd : (eSize ++ v).data.toList = 45 :: 45 :: 115 :: 105 :: 122 :: 101 :: 61 :: v.data.toList := by simp [eSize, ByteArray.data_append]
  have h : eqAt (eSize ++ v) = 6 := by
    unfold eqAt
    rw [hd]
    simp [Lib.indexByte]
  unfold cutF
  rw [h, if_pos (by decide)]
  have h1 : (eSize ++ v).extract 0 (6 : Int).toNat = kSize := by
    apply ByteArray.ext
    apply Array.toList_inj.1
    rw [ByteArray.data_extract, Array.toList_extract, hd]
    rfl
  have h2 : (eSize ++ v).extract ((6 : Int).toNat + 1) (eSize ++ v).size = v := by
    apply ByteArray.ext
    apply Array.toList_inj.1
    rw [ByteArray.data_extract, Array.toList_extract, hd]
    have hs : (eSize ++ v).size = 7 + v.data.toList.length := by show (eSize ++ v).data.size = _; rw [← Array.length_toList, hd]; simp; omega
    rw [hs]
    simp
    exact List.take_of_length_le (Nat.le_refl _)
  rw [h1, h2]

def ow (b : Bool) (w : ByteArray) : List ByteArray := if b = true then [w] else []
theorem kw_ow (b : Bool) (w : ByteArray) (xs : List ByteArray) : kw b w xs = xs ++ ow b w := by cases b <;> simp [kw, ow]
theorem ow_len (b : Bool) (w : ByteArray) : (ow b w).length = b1 b := by cases b <;> rfl
theorem words_ow (p : Pl) : wordsL p = cmds.getD p.c0.toNat ByteArray.empty :: (ow (p.c1 != 0) (eFrom ++ nameF p.c1) ++ (ow (p.c2 != 0) (eTo ++ nameF p.c2) ++ (ow (decide (1 < p.c3) || decide (p.c3 < 0)) (eForm ++ nameF p.c3) ++
    (ow (p.c4 != 0 && p.c4 != 4096) (eSize ++ itoaF p.c4) ++ (ow p.f kFramed ++ (ow p.s kSign ++ (ow p.t kStrip ++ []))))))) := by
  unfold wordsL
  simp only [kw_ow, List.cons_append, List.nil_append, List.append_assoc, List.append_nil]
/-- One word or none, read. -/
theorem go_opt {n : Int} {b : Bool} {w k v : ByteArray} {hs : Bool} {rest : List ByteArray} {i : Int} {p p' : Pl} {seen : List ByteArray} (hc : b = true → cutF w = (k, v, hs)) (hm : b = true → k ∈ mayF p.c0) (hns : k ∉ seen)
    (ho : b = true → setF p k v hs = (p', true)) (hno : b = false → p' = p) (hi : i < 64) :
    ∃ i' seen', i' ≤ i + 1 ∧ (∀ x, x ∈ seen' → x ∈ seen ∨ x = k) ∧ parseGo n (ow b w ++ rest) i p seen = parseGo n rest i' p' seen' := by
  cases b with
  | false => exact ⟨i, seen, by omega, fun x hx => .inl hx, by rw [hno rfl]; rfl⟩
  | true =>
    have e := hc rfl
    refine ⟨i + 1, seen ++ [k], Int.le_refl _, fun x hx => by simpa using hx, ?_⟩
    show parseGo n (w :: rest) i p seen = _
    have ho := ho rfl
    rw [go_on (nm := k) (vl := v) (hs := hs) (by rw [e]) (by rw [e]) (by rw [e]) (by omega) ((inF_iff _ _).2 (hm rfl)) (by rcases h : inF k seen with _ | _; rfl; exact absurd ((inF_iff _ _).1 h) hns) (by rw [ho]), ho]
end Go.Proofs.YtlddfdkmpnllmaaDoor
