/- Which plans have words, and which: plain laws; pilcrowref24.Words and Right by their contracts; pilcrowlaw24.ArgsWords answers true. -/
import Derived.Test.YtlddfdkmpnllmaaDoorBt
import Derived.Test.YtlddfdkmpnllmaaDoorTh
import Derived.Test.YtlddfdkmpnllmaaDoorPRwwx
namespace Go.Proofs.YtlddfdkmpnllmaaDoor
open Go.RowKit Go.Proofs.YtlddfdkmpnllmaaDoorW.PrintWords Go.Proofs.YtlddfdkmpnllmaaDoorW.PrintLast Go.Proofs.YtlddfdkmpnllmaaDoorW.PrintMore
set_option linter.unusedVariables false
set_option linter.unusedSimpArgs false

theorem mem_may (s : ByteArray) (c : Int) : s ∈ mayF c ↔ inF s (mayF c) = true := (inF_iff _ _).symm
theorem may_cases : (inF kFrom (mayF 1) = false ∧ inF kTo (mayF 1) = true ∧ inF kForm (mayF 1) = true ∧ inF kFramed (mayF 1) = true ∧ inF kSign (mayF 1) = true ∧ inF kStrip (mayF 1) = false) ∧
    (inF kFrom (mayF 2) = true ∧ inF kTo (mayF 2) = false ∧ inF kForm (mayF 2) = true ∧ inF kFramed (mayF 2) = true ∧ inF kSign (mayF 2) = false ∧ inF kStrip (mayF 2) = true) ∧
    (inF kFrom (mayF 3) = true ∧ inF kTo (mayF 3) = true ∧ inF kForm (mayF 3) = false ∧ inF kFramed (mayF 3) = false ∧ inF kSign (mayF 3) = true ∧ inF kStrip (mayF 3) = true) ∧
    (inF kFrom (mayF 4) = false ∧ inF kTo (mayF 4) = false ∧ inF kForm (mayF 4) = false ∧ inF kFramed (mayF 4) = false ∧ inF kSign (mayF 4) = false ∧ inF kStrip (mayF 4) = false) ∧
    (inF kFrom (mayF 5) = false ∧ inF kTo (mayF 5) = false ∧ inF kForm (mayF 5) = false ∧ inF kFramed (mayF 5) = false ∧ inF kSign (mayF 5) = false ∧ inF kStrip (mayF 5) = false) ∧
    (inF kFrom (mayF 6) = true ∧ inF kTo (mayF 6) = false ∧ inF kForm (mayF 6) = false ∧ inF kFramed (mayF 6) = false ∧ inF kSign (mayF 6) = false ∧ inF kStrip (mayF 6) = true) := by
  refine ⟨?_, ?_, ?_, ?_, ?_, ?_⟩ <;> refine ⟨?_, ?_, ?_, ?_, ?_, ?_⟩ <;> decide +kernel
/-- Which plans some arguments ask for. -/
def RightP (p : Pl) : Prop :=
  (0 ≤ p.c1 ∧ p.c1 ≤ 10) ∧ (0 ≤ p.c2 ∧ p.c2 ≤ 10) ∧ (0 ≤ p.c3 ∧ p.c3 ≤ 10) ∧ (0 ≤ p.c4 ∧ p.c4 ≤ 65536) ∧
  ((p.c0 = 1 ∧ p.c1 = 0 ∧ 0 < p.c2 ∧ 0 < p.c3 ∧ p.t = false ∧ (p.f = true ↔ 0 < p.c4)) ∨
   (p.c0 = 2 ∧ p.c2 = 0 ∧ 0 < p.c3 ∧ p.c4 = 0 ∧ p.s = false ∧ (p.f = true ↔ p.c1 = 0)) ∨
   (p.c0 = 3 ∧ 0 < p.c1 ∧ 0 < p.c2 ∧ p.c3 = 0 ∧ p.c4 = 0 ∧ p.f = false) ∨
   ((p.c0 = 4 ∨ p.c0 = 5) ∧ p.c1 = 0 ∧ p.c2 = 0 ∧ p.c3 = 0 ∧ p.c4 = 0 ∧ p.f = false ∧ p.s = false ∧ p.t = false) ∨
   (p.c0 = 6 ∧ 0 < p.c1 ∧ p.c2 = 0 ∧ p.c3 = 0 ∧ p.c4 = 0 ∧ p.f = false ∧ p.s = false))
theorem good_right (p : Pl) : Good p ↔ RightP p := by
  obtain ⟨⟨a1, a2, a3, a4, a5, a6⟩, ⟨b1, b2, b3, b4, b5, b6⟩, ⟨d1, d2, d3, d4, d5, d6⟩, ⟨e1, e2, e3, e4, e5, e6⟩, ⟨g1, g2, g3, g4, g5, g6⟩, ⟨i1, i2, i3, i4, i5, i6⟩⟩ := may_cases
  obtain ⟨c0, c1, c2, c3, c4, f, s, t⟩ := p
  constructor
  · rintro ⟨k0, r1, r2, r3, r4, m1, m2, m3, m4, mf, ms, mt, wh⟩
    simp only [mem_may] at k0 r1 r2 r3 r4 m1 m2 m3 m4 mf ms mt wh
    simp only [RightP]
    refine ⟨r1, r2, r3, r4, ?_⟩
    have h6 : c0 = 1 ∨ c0 = 2 ∨ c0 = 3 ∨ c0 = 4 ∨ c0 = 5 ∨ c0 = 6 := by omega
    rcases h6 with rfl | rfl | rfl | rfl | rfl | rfl
    · simp only [a1, a2, a3, a4, a5, a6] at m1 m2 m3 m4 mf ms mt
      simp [wholeF] at *
      cases f <;> cases s <;> cases t <;> simp at * <;> omega
    · simp only [b1, b2, b3, b4, b5, b6] at m1 m2 m3 m4 mf ms mt
      simp [wholeF] at *
      cases f <;> cases s <;> cases t <;> simp at * <;> omega
    · simp only [d1, d2, d3, d4, d5, d6] at m1 m2 m3 m4 mf ms mt
      simp [wholeF] at *
      cases f <;> cases s <;> cases t <;> simp at * <;> omega
    · simp only [e1, e2, e3, e4, e5, e6] at m1 m2 m3 m4 mf ms mt
      simp [wholeF] at *
      cases f <;> cases s <;> cases t <;> simp at * <;> omega
    · simp only [g1, g2, g3, g4, g5, g6] at m1 m2 m3 m4 mf ms mt
      simp [wholeF] at *
      cases f <;> cases s <;> cases t <;> simp at * <;> omega
    · simp only [i1, i2, i3, i4, i5, i6] at m1 m2 m3 m4 mf ms mt
      simp [wholeF] at *
      cases f <;> cases s <;> cases t <;> simp at * <;> omega
  · intro h
    simp only [RightP] at h
    obtain ⟨r1, r2, r3, r4, h⟩ := h
    refine ⟨?_, r1, r2, r3, r4, ?_, ?_, ?_, ?_, ?_, ?_, ?_, ?_⟩
    · simp only; omega
    all_goals try simp only [mem_may]
    all_goals
      rcases h with ⟨rfl, h⟩ | ⟨rfl, h⟩ | ⟨rfl, h⟩ | ⟨rfl | rfl, h⟩ | ⟨rfl, h⟩ <;>
      cases f <;> cases s <;> cases t <;> simp [a1, a2, a3, a4, a5, a6, b1, b2, b3, b4, b5, b6, d1, d2, d3, d4, d5, d6, e1, e2, e3, e4, e5, e6, g1, g2, g3, g4, g5, g6, i1, i2, i3, i4, i5, i6, wholeF] at * <;> omega
theorem words_right (p : Pl) : (wordsF p).2 = true ↔ Good p := by
  constructor
  · intro h
    unfold wordsF at h
    split at h
    · cases h
    split at h
    · cases h
    split at h
    · cases h
    split at h
    · cases h
    next h1 h2 h3 h4 =>
      rcases hp : parseF (wordsL p) with ⟨q, n, ok⟩
      rw [hp] at h3 h4
      have hok : ok = true := by simpa using h3
      subst hok
      have hs : q.same p = true := by simpa using h4
      obtain ⟨_, g, _⟩ := parse_good hp
      have e : q = p := (Pl.same_iff q p).1 hs
      rw [← e]; exact g
  · intro g
    rw [words_good_F g]
end Go.Proofs.YtlddfdkmpnllmaaDoor
namespace Go.Proofs.YtlddfdkmpnllmaaDoor
open Go.RowKit Go.Proofs.YtlddfdkmpnllmaaDoorW.PrintWords Go.Proofs.YtlddfdkmpnllmaaDoorW.PrintLast Go.Proofs.YtlddfdkmpnllmaaDoorW.PrintMore Go.Proofs.YtlddfdkmpnllmaaDoor.PRww
set_option linter.unusedVariables false
set_option linter.unusedSimpArgs false

theorem dig_one : ∀ u : Fin 10, strOfNums [(wrap64 (48 + ((u.val : Nat) : Int))) % 256] = ⟨[UInt8.ofNat (48 + u.val)].toArray⟩ := by decide +kernel
theorem dec_small (u : Nat) : (Lib.decDigits u).length ≤ u + 1 := by
  induction u using Nat.strongRecOn with
  | _ u ih =>
    rw [Lib.decDigits]
    split
    · simp
    · have := ih (u / 10) (by omega)
      simp only [List.length_append, List.length_cons, List.length_nil]
      omega
theorem num_f (u : Nat) : ∀ k, u ≤ 65536 → u < 10 ^ (k + 1) → pilcrowref22_Num.f (2 * k + 2) (u : Int) = some ⟨(Lib.decDigits u).toArray⟩ := by
  induction u using Nat.strongRecOn with
  | _ u ih =>
    intro k h6 hk
    by_cases h : u < 10
    · rw [Lib.decDigits, dif_pos h]
      simp only [pilcrowref22_Num.f, pilcrowref22_Num.j0]
      rw [if_pos (by omega), decide_eq_true (by omega : (u : Int) < 10)]
      simp only [if_true]
      exact congrArg some (dig_one ⟨u, h⟩)
    · have hu : u / 10 < u := by omega
      have hm : u % 10 < u := by omega
      obtain ⟨k, rfl⟩ : ∃ j, k = j + 1 := by
        cases k with
        | zero => simp at hk; omega
        | succ j => exact ⟨j, rfl⟩
      have hq : u / 10 < 10 ^ (k + 1) := by rw [Nat.pow_succ] at hk; omega
      have hr : u % 10 < 10 ^ (k + 1) := by
        have : 10 ^ 1 ≤ 10 ^ (k + 1) := Nat.pow_le_pow_right (by decide) (by omega)
        omega
      have e1 := ih (u / 10) hu k (by omega) hq
      have e2 := ih (u % 10) hm k (by omega) hr
      have w1 : wrap64 (Int.tdiv (u : Int) 10) = ((u / 10 : Nat) : Int) := by
        rw [Int.tdiv_eq_ediv_of_nonneg (by omega)]
        have : (u : Int) / 10 = ((u / 10 : Nat) : Int) := by omega
        rw [this]
        unfold wrap64
        omega
      have w2 : Int.tmod (u : Int) 10 = ((u % 10 : Nat) : Int) := by
        rw [Int.tmod_eq_emod_of_nonneg (by omega)]
        omega
      show pilcrowref22_Num.f (2 * k + 2 + 1 + 1) (u : Int) = _
      generalize 2 * k + 2 = K at e1 e2 ⊢
      simp only [pilcrowref22_Num.f, pilcrowref22_Num.j0]
      rw [if_pos (by omega), decide_eq_false (by omega : ¬ (u : Int) < 10)]
      rw [if_neg (by decide), if_neg (by omega), w1, w2, e1, e2]
      simp only [Option.bind_some]
      have l1 := dec_len (u / 10) k hq
      have l2 := dec_len (u % 10) k hr
      rw [if_pos (by
        have a1 : (⟨(Lib.decDigits (u / 10)).toArray⟩ : ByteArray).size = (Lib.decDigits (u / 10)).length := by simp [ByteArray.size]
        have a2 : (⟨(Lib.decDigits (u % 10)).toArray⟩ : ByteArray).size = (Lib.decDigits (u % 10)).length := by simp [ByteArray.size]
        rw [a1, a2]
        have b1 := dec_small (u / 10)
        have b2 := dec_small (u % 10)
        omega)]
      congr 1
      rw [Lib.decDigits.eq_1 u, dif_neg h]
      have h3 : Lib.decDigits (u % 10) = [UInt8.ofNat (48 + u % 10)] := Lib.decDigits_one (by omega)
      rw [h3]
      apply ByteArray.ext
      apply Array.toList_inj.1
      simp [ByteArray.data_append]
theorem num_itoaF {n : Int} (h0 : 0 ≤ n) (h1 : n ≤ 65536) : pilcrowref22_Num.f 12 n = some (itoaF n) := by
  obtain ⟨u, rfl⟩ : ∃ u : Nat, n = u := ⟨n.toNat, by omega⟩
  have h := num_f u 5 (by omega) (by omega)
  rw [h]
  unfold itoaF
  rw [Lib.itoa_nonneg]
theorem refnum_c {n : Int} (h0 : 0 ≤ n) (h1 : n ≤ 65536) (w : World) : Calls Tryd.prog 33 #[.int .i64 n] w fun e w' => e = .returned (.string (itoaF n)) ∧ Below w.heap.size w w' :=
  pilcrowref22_Num.calls 12 n (itoaF n) w (num_itoaF h0 h1)
theorem SL.form {w : World} {v : Value} {l : List ByteArray} (h : SL w v l) (hl : 0 < l.length) : ∃ g o c, v = .slice (some ⟨g, o, none⟩) l.length c ∧ l.length ≤ c ∧ g < w.heap.size ∧ ∀ (k : Nat) (s : ByteArray), l[k]? = some s → w.cell? ⟨g, o + k, none⟩ = some (.string s) := by
  obtain ⟨A, c, e, hc, hr⟩ := h
  subst e
  obtain ⟨g, o, hA, hg, _⟩ := SL.at_ (k := 0) ⟨A, c, rfl, hc, hr⟩ hl
  subst hA
  refine ⟨g, o, c, rfl, hc, hg, fun k s hk => ?_⟩
  obtain ⟨hk1, hk2⟩ := List.getElem?_eq_some_iff.1 hk
  obtain ⟨g', o', hA', _, hc'⟩ := SL.at_ (k := k) (w := w) (n := l.length) (c := c) ⟨_, c, rfl, hc, hr⟩ hk1
  injection hA' with hA'
  injection hA' with h1 h2 h3
  subst h1 h2
  rw [hc', hk2]
theorem own_one2 {W : World} {base X : Nat} {s : ByteArray} (h : W.heap[X]? = some (.cells #[.string s] 9 (0, 0))) (hb : base ≤ X) : W.ownsRow base 9 1 (.slice (some ⟨X, 0, none⟩) 1 1) [s].length (encs Value.string [s]) :=
  ⟨by simp [encs], .inr ⟨X, 1, _, rfl, hb, h, Nat.le_refl _, by decide, by simp, by simp [encs]⟩⟩
def refNames : List ByteArray := [⟨#[]⟩] ++ (List.range 10).map fun i : Nat => nameF (Int.ofNat i + 1)
theorem names_f : pilcrowref18_Names.f = some refNames := by kernel_rfl
theorem names_at {c : Int} (h0 : 1 ≤ c) (h1 : c ≤ 10) : refNames[c.toNat]? = some (nameF c) := by
  rcases ten_cases h0 h1 with rfl | rfl | rfl | rfl | rfl | rfl | rfl | rfl | rfl | rfl <;> kernel_rfl
theorem refnames_c (w : World) : Calls Tryd.prog 32 #[] w fun e w' => ∃ g o c, e = .returned (.slice (some ⟨g, o, none⟩) 11 c) ∧ 11 ≤ c ∧ w.heap.size ≤ g ∧ g < w'.heap.size ∧ (∀ (k : Nat) (s : ByteArray), refNames[k]? = some s → w'.cell? ⟨g, o + k, none⟩ = some (.string s)) ∧ Below w.heap.size w w' :=
  (pilcrowref18_Names.calls refNames w names_f).mono fun e w' h => by
    obtain ⟨v, he, hr, hb⟩ := h
    obtain ⟨g, o, c, hv, hc, hg, hcells⟩ := SL.form (SL.of_R hr) (by decide)
    have e11 : refNames.length = 11 := by decide
    rw [e11] at hv hc
    refine ⟨g, o, c, by rw [he, hv], hc, ?_, hg, hcells, hb⟩
    obtain ⟨inner, ho⟩ := Kd.R_own hr
    exact own_base ho g (by rw [hv]; rfl)
theorem cmds_f : pilcrowref24_Commands.f = some cmds := by kernel_rfl
theorem refcmds_c (w : World) : Calls Tryd.prog 24 #[] w fun e w' => ∃ v, e = .returned v ∧ SL w' v cmds ∧ Below w.heap.size w w' :=
  (pilcrowref24_Commands.calls cmds w cmds_f).mono fun e w' h => by
    obtain ⟨v, he, hr, hb⟩ := h
    exact ⟨v, he, SL.of_R hr, hb⟩
def opts : List ByteArray := [kFrom, kTo, kForm, kSize, kFramed, kSign, kStrip]
theorem opts_f : pilcrowref24_Options.f = some opts := by kernel_rfl
theorem refopts_c (w : World) : Calls Tryd.prog 25 #[] w fun e w' => ∃ v, e = .returned v ∧ SL w' v opts ∧ Below w.heap.size w w' :=
  (pilcrowref24_Options.calls opts w opts_f).mono fun e w' h => by
    obtain ⟨v, he, hr, hb⟩ := h
    exact ⟨v, he, SL.of_R hr, hb⟩
/-- How far Words has come: out holds xs, names the names. -/
structure RW (w0 w : World) (p : Pl) (vo : Value) (xs : List ByteArray) : Prop where
  own : w.ownsRow w0.heap.size 9 1 vo xs.length (encs Value.string xs)
  plan : PlanAt w w0.heap.size p
  below : Below w0.heap.size w0 w
theorem RW.next {w0 w w1 : World} {p : Pl} {vo : Value} {xs : List ByteArray} (h : RW w0 w p vo xs) (hb : Below w.heap.size w w1) : RW w0 w1 p vo xs :=
  ⟨own_move h.own fun k hk => by
    obtain ⟨cells, hc⟩ := own_typed h.own k hk
    exact hb.block k (Array.getElem?_eq_some_iff.1 hc).1, PlanAt.below h.plan hb, below_next h.below hb⟩
/-- .. and the names lie there. -/
structure RN (w0 w : World) (p : Pl) (gn on : Nat) (vo : Value) (xs : List ByteArray) : Prop where
  rw : RW w0 w p vo xs
  lt : gn < w.heap.size
  ne : some gn ≠ vo.ownBlock
  names : ∀ (k : Nat) (s : ByteArray), refNames[k]? = some s → w.cell? ⟨gn, on + k, none⟩ = some (.string s)
theorem RN.next {w0 w w1 : World} {p : Pl} {gn on : Nat} {vo : Value} {xs : List ByteArray} (h : RN w0 w p gn on vo xs) (hb : Below w.heap.size w w1) : RN w0 w1 p gn on vo xs :=
  ⟨h.rw.next hb, Nat.lt_of_lt_of_le h.lt hb.size, h.ne, fun k s hk => (hb.cell (p := ⟨gn, on + k, none⟩) h.lt).trans (h.names k s hk)⟩
theorem RN.grown {w0 w w1 : World} {p : Pl} {gn on : Nat} {vo v1 : Value} {xs ys : List ByteArray} (h : RN w0 w p gn on vo xs) (o : Obj) (ho : w1.ownsRow w0.heap.size 9 1 v1 ys.length (encs Value.string ys)) (hb : Below w0.heap.size w0 w1)
    (hg : (w.alloc o).grownBy w1 vo.ownBlock) (hat : v1.ownBlock = vo.ownBlock ∨ ∃ b, v1.ownBlock = some b ∧ (w.alloc o).heap.size ≤ b) : RN w0 w1 p gn on v1 ys := by
  have h2 := h.next (below_new (Below.refl _ _) o)
  refine ⟨⟨ho, PlanAt.grown_row h2.rw.plan h2.rw.own hg, hb⟩, Nat.lt_of_lt_of_le h2.lt hg.size, ?_, fun k s hk => ?_⟩
  · rcases hat with e | ⟨b, e, hle⟩
    · rw [e]; exact h.ne
    · rw [e]; intro e2; injection e2 with e2; have := h2.lt; omega
  · exact (World.cell?_of_block (a := ⟨gn, on + k, none⟩) (hg.block gn h2.lt h.ne)).trans (h2.names k s hk)
/-- The words so far, i of the three flags looked at. -/
def flagsX (f s t : Bool) (xs : List ByteArray) : Nat → List ByteArray
  | 0 => xs
  | 1 => kw f kFramed xs
  | 2 => kw s kSign (kw f kFramed xs)
  | _ => kw t kStrip (kw s kSign (kw f kFramed xs))
def flagAt (f s t : Bool) : Nat → Bool
  | 0 => f
  | 1 => s
  | _ => t
def flagK : Nat → ByteArray
  | 0 => kFramed
  | 1 => kSign
  | _ => kStrip
theorem flagsX_succ (f s t : Bool) (xs : List ByteArray) {i : Nat} (hi : i < 3) : flagsX f s t xs (i + 1) = kw (flagAt f s t i) (flagK i) (flagsX f s t xs i) := by
  have h : i = 0 ∨ i = 1 ∨ i = 2 := by omega
  rcases h with rfl | rfl | rfl <;> rfl
theorem flagsX_len (f s t : Bool) (xs : List ByteArray) (i : Nat) : (flagsX f s t xs i).length ≤ xs.length + 3 := by
  have h1 : (kw f kFramed xs).length ≤ xs.length + 1 := kw_len (Nat.le_refl _)
  have h2 : (kw s kSign (kw f kFramed xs)).length ≤ xs.length + 1 + 1 := kw_len h1
  have h3 : (kw t kStrip (kw s kSign (kw f kFramed xs))).length ≤ xs.length + 1 + 1 + 1 := kw_len h2
  match i with
  | 0 => show xs.length ≤ _; omega
  | 1 => exact Nat.le_trans h1 (by omega)
  | 2 => exact Nat.le_trans h2 (by omega)
  | i + 3 => exact h3
theorem flag_cell {w : World} {B : Nat} {f s t : Bool} {i : Nat} (h : w.heap[B]? = some (.cells #[.bool f, .bool s, .bool t] 4 (0, 0))) (hi : i < 3) : w.cell? ⟨B, i, none⟩ = some (.bool (flagAt f s t i)) := by
  have h3 : i = 0 ∨ i = 1 ∨ i = 2 := by omega
  rcases h3 with rfl | rfl | rfl <;> simp [World.cell?, h, flagAt]
theorem flag_opt {i : Nat} (hi : i < 3) : opts[4 + i]? = some (flagK i) := by
  have h3 : i = 0 ∨ i = 1 ∨ i = 2 := by omega
  rcases h3 with rfl | rfl | rfl <;> rfl
theorem flag_keep {W w1 : World} {B base n : Nat} {cs : Array Value} {v : Value} {xs : List Value} (hB : W.heap[B]? = some (.cells cs 4 (0, 0))) (ho : W.ownsRow base 9 1 v n xs) (hg : W.grownBy w1 v.ownBlock) : w1.heap[B]? = some (.cells cs 4 (0, 0)) :=
  (hg.block B (Array.getElem?_eq_some_iff.1 hB).1 fun e => by
    obtain ⟨cells, hc⟩ := own_typed ho B e.symm
    rw [hB] at hc
    injection hc with hc
    injection hc with _ hc
    exact absurd hc (by decide)).trans hB
set_option maxRecDepth 100000 in
set_option maxHeartbeats 2000000 in
theorem refwords_c (c0 c1 c2 c3 c4 : Int) (f s t : Bool) (hR : RightP ⟨c0, c1, c2, c3, c4, f, s, t⟩) (w : World) :
    Calls Tryd.prog 15 #[.agg #[.int .i64 c0, .int .i64 c1, .int .i64 c2, .int .i64 c3, .int .i64 c4, .bool f, .bool s, .bool t]] w fun e w' => ∃ v, e = .returned v ∧ SL w' v (wordsL ⟨c0, c1, c2, c3, c4, f, s, t⟩) ∧ Below w.heap.size w w' := by
  have HR := Lib.hid hR
  have hk0 : 1 ≤ c0 ∧ c0 ≤ 6 := by have h := hR.2.2.2.2; simp only at h; omega
  obtain ⟨hk0, hk6⟩ := hk0
  have hc1 := hR.1
  have hc2 := hR.2.1
  have hc3 := hR.2.2.1
  have hc4 := hR.2.2.2.1
  simp only at hc1 hc2 hc3 hc4
  clear hR
  obtain ⟨cmd, hcmd⟩ : ∃ cmd, cmds[c0.toNat]? = some cmd := by
    have : c0.toNat < cmds.length := by show c0.toNat < 7; omega
    exact ⟨_, List.getElem?_eq_getElem this⟩
  have HCM := Lib.hid hcmd
  clear hcmd
  go_enter Tryd.func15, Tryd.ntmps15
  go_upto_region 1 with fail
  have HP0 : Hid (PlanAt (w.alloc (.cells (Pl.cells ⟨c0, c1, c2, c3, c4, f, s, t⟩) 26 (0, 0))) w.heap.size ⟨c0, c1, c2, c3, c4, f, s, t⟩) := PlanAt.new w _
  go_cut [3] (fun s3 wx => Hid (RW w wx ⟨c0, c1, c2, c3, c4, f, s, t⟩ s3 [cmd]))
  case first =>
    have hB0 : Below w.heap.size w (w.alloc (.cells (Pl.cells ⟨c0, c1, c2, c3, c4, f, s, t⟩) 26 (0, 0))) := below_new (Below.refl _ _) _
    have hci : (0 : Int) ≤ c0 := by omega
    have hcj : c0 < ((7 : Nat) : Int) := by omega
    have hcj2 : c0 < (7 : Int) := by omega
    have hcj3 : c0 < (cmds.length : Int) := by show c0 < ((7 : Nat) : Int); omega
    have hS0 : (w.alloc (.cells (Pl.cells ⟨c0, c1, c2, c3, c4, f, s, t⟩) 26 (0, 0))).drew.cell? ⟨w.heap.size, 0, none⟩ = some (.int .i64 c0) := HP0.out.cell 0
    go_region_with (go_at_call 24; refine (refcmds_c _).mono ?_; rintro e w1 ⟨v1, rfl, hv1, hb1⟩; obtain ⟨g1, o1, k1, rfl, hk1, hg1, hcells⟩ := SL.form hv1 (by decide); have hcm := hcells _ _ HCM.out; have hS1 : w1.cell? ⟨w.heap.size, 0, none⟩ = some (.int .i64 c0) := PlanAt.cell (PlanAt.below (PlanAt.drew HP0.out) hb1) 0; have HP1 := Lib.hid (PlanAt.below (PlanAt.drew HP0.out) hb1); have HB1 := Lib.hid (below_next (below_drew1 hB0) hb1); clear hcells hv1 hb1)
    all_goals (go_wp2_with fail; go_meet)
    all_goals exact ⟨own_one2 (heap_new _ _) HB1.out.size, PlanAt.alloc HP1.out _, below_new HB1.out _⟩
  case rest =>
    have HW1 := hcut
    clear hcut
    go_wp2_with fail
    refine (refnames_c _).mono ?_
    rintro e w2 ⟨gn, on, kn, rfl, hkn, hgb, hgn, hcells, hb2⟩
    have HW2 : Hid (RN w w2 ⟨c0, c1, c2, c3, c4, f, s, t⟩ gn on u3 [cmd]) := ⟨RW.next HW1.out hb2, hgn, fun e => by
      obtain ⟨cells, hc⟩ := own_typed HW1.out.own gn e.symm
      have := (Array.getElem?_eq_some_iff.1 hc).1
      omega, hcells⟩
    clear hcells hb2 hgb hgn
    obtain ⟨xs1, hx1⟩ : ∃ x, kw (c1 != 0) (eFrom ++ nameF c1) [cmd] = x := ⟨_, rfl⟩
    have HX1 := Lib.hid hx1
    clear hx1
    have HL1 : Hid (xs1.length ≤ 2) := by rw [← HX1.out]; exact kw_len (Nat.le_refl 1)
    obtain ⟨y0, y1, y2, y3, y4, y5, y6, y7⟩ := PlanAt.cells8 HW2.out.rw.plan
    go_upto_if 16 with (fail)
    go_cut [3] (fun s3 wx => Hid (RN w wx ⟨c0, c1, c2, c3, c4, f, s, t⟩ gn on s3 xs1))
    case first =>
      by_cases hz : 0 < c1
      · have hn1 : w2.cell? ⟨gn, on + c1.toNat, none⟩ = some (.string (nameF c1)) := HW2.out.names _ _ (names_at (by omega) hc1.2)
        have hcat : ¬ 9223372036854775807 < 7 + (nameF c1).size := by have := nameF_size c1; omega
        have h0 : 0 ≤ c1 := by omega
        have h11 : c1 < 11 := by omega
        have hlen : Hid (([cmd].length + 1) * 16 ≤ 140737488355328) := by show (1 + 1) * 16 ≤ 140737488355328; decide
        go_wp2_with (at_builtin; refine print_append_row_of Value.string ByteArray.empty (w0 := w) w.heap.size rfl (.tmp 17) (.tmp 24) 22 9 (.string ⟨#[]⟩) 16 rfl Tryd.underlying22 info_str rfl (by decide) (fun _ => rfl) u3 [cmd] [eFrom ++ nameF c1] (some ⟨w2.heap.size, 0, none⟩) 1 1 rfl rfl (own_alloc HW2.out.rw.own _) (one_reads (heap_new _ _)) (below_new HW2.out.rw.below _) (below_new HW2.out.rw.below _).size hlen.out ?_; intro v5 w5 ho5 hb5 hg5 hat5; have HF : Hid (RN w w5 ⟨c0, c1, c2, c3, c4, f, s, t⟩ gn on v5 ([cmd] ++ [eFrom ++ nameF c1])) := RN.grown HW2.out _ ho5 hb5 hg5 hat5; clear ho5 hb5 hg5 hat5)
        go_meet
        rw [← HX1.out, kw, if_pos (by simp; omega)]
        exact HF.out
      · have hz' : ¬ 0 < c1 := hz
        go_wp2_with fail
        go_meet
        rw [← HX1.out, kw, if_neg (by simp; omega)]
        exact HW2.out
    case rest =>
      have HV1 := hcut
      clear hcut y0 y1 y2 y3 y4 y5 y6 y7
      obtain ⟨xs2, hx2⟩ : ∃ x, kw (c2 != 0) (eTo ++ nameF c2) xs1 = x := ⟨_, rfl⟩
      have HX2 := Lib.hid hx2
      clear hx2
      have HL2 : Hid (xs2.length ≤ 3) := by rw [← HX2.out]; exact kw_len HL1.out
      obtain ⟨y0, y1, y2, y3, y4, y5, y6, y7⟩ := PlanAt.cells8 HV1.out.rw.plan
      go_upto_if 28 with (fail)
      go_cut [3] (fun s3 wx => Hid (RN w wx ⟨c0, c1, c2, c3, c4, f, s, t⟩ gn on s3 xs2))
      case first =>
        by_cases hz : 0 < c2
        · have hn1 : wc.cell? ⟨gn, on + c2.toNat, none⟩ = some (.string (nameF c2)) := HV1.out.names _ _ (names_at (by omega) hc2.2)
          have hcat : ¬ 9223372036854775807 < 5 + (nameF c2).size := by have := nameF_size c2; omega
          have h0 : 0 ≤ c2 := by omega
          have h11 : c2 < 11 := by omega
          have hlen : Hid ((xs1.length + 1) * 16 ≤ 140737488355328) := by have := HL1.out; show _ ≤ _; omega
          go_wp2_with (at_builtin; refine print_append_row_of Value.string ByteArray.empty (w0 := w) w.heap.size rfl (.tmp 29) (.tmp 36) 22 9 (.string ⟨#[]⟩) 16 rfl Tryd.underlying22 info_str rfl (by decide) (fun _ => rfl) u3 xs1 [eTo ++ nameF c2] (some ⟨wc.heap.size, 0, none⟩) 1 1 rfl rfl (own_alloc HV1.out.rw.own _) (one_reads (heap_new _ _)) (below_new HV1.out.rw.below _) (below_new HV1.out.rw.below _).size hlen.out ?_; intro v5 w5 ho5 hb5 hg5 hat5; have HF : Hid (RN w w5 ⟨c0, c1, c2, c3, c4, f, s, t⟩ gn on v5 (xs1 ++ [eTo ++ nameF c2])) := RN.grown HV1.out _ ho5 hb5 hg5 hat5; clear ho5 hb5 hg5 hat5)
          go_meet
          rw [← HX2.out, kw, if_pos (by simp; omega)]
          exact HF.out
        · have hz' : ¬ 0 < c2 := hz
          go_wp2_with fail
          go_meet
          rw [← HX2.out, kw, if_neg (by simp; omega)]
          exact HV1.out
      case rest =>
        have HV2 := hcut
        clear hcut y0 y1 y2 y3 y4 y5 y6 y7
        obtain ⟨xs3, hx3⟩ : ∃ x, kw (decide (1 < c3) || decide (c3 < 0)) (eForm ++ nameF c3) xs2 = x := ⟨_, rfl⟩
        have HX3 := Lib.hid hx3
        clear hx3
        have HL3 : Hid (xs3.length ≤ 4) := by rw [← HX3.out]; exact kw_len HL2.out
        obtain ⟨y0, y1, y2, y3, y4, y5, y6, y7⟩ := PlanAt.cells8 HV2.out.rw.plan
        go_upto_if 40 with (fail)
        go_cut [3] (fun s3 wx => Hid (RN w wx ⟨c0, c1, c2, c3, c4, f, s, t⟩ gn on s3 xs3))
        case first =>
          by_cases hz : 1 < c3
          · have hn1 : wc.cell? ⟨gn, on + c3.toNat, none⟩ = some (.string (nameF c3)) := HV2.out.names _ _ (names_at (by omega) hc3.2)
            have hcat : ¬ 9223372036854775807 < 7 + (nameF c3).size := by have := nameF_size c3; omega
            have h0 : 0 ≤ c3 := by omega
            have h11 : c3 < 11 := by omega
            have hlen : Hid ((xs2.length + 1) * 16 ≤ 140737488355328) := by have := HL2.out; show _ ≤ _; omega
            go_wp2_with (at_builtin; refine print_append_row_of Value.string ByteArray.empty (w0 := w) w.heap.size rfl (.tmp 41) (.tmp 48) 22 9 (.string ⟨#[]⟩) 16 rfl Tryd.underlying22 info_str rfl (by decide) (fun _ => rfl) u3 xs2 [eForm ++ nameF c3] (some ⟨wc.heap.size, 0, none⟩) 1 1 rfl rfl (own_alloc HV2.out.rw.own _) (one_reads (heap_new _ _)) (below_new HV2.out.rw.below _) (below_new HV2.out.rw.below _).size hlen.out ?_; intro v5 w5 ho5 hb5 hg5 hat5; have HF : Hid (RN w w5 ⟨c0, c1, c2, c3, c4, f, s, t⟩ gn on v5 (xs2 ++ [eForm ++ nameF c3])) := RN.grown HV2.out _ ho5 hb5 hg5 hat5; clear ho5 hb5 hg5 hat5)
            go_meet
            rw [← HX3.out, kw, if_pos (by simp; omega)]
            exact HF.out
          · have hz' : ¬ 1 < c3 := hz
            go_wp2_with fail
            go_meet
            rw [← HX3.out, kw, if_neg (by simp; omega)]
            exact HV2.out
        case rest =>
          have HV3 := hcut
          clear hcut y0 y1 y2 y3 y4 y5 y6 y7
          obtain ⟨xs4, hx4⟩ : ∃ x, kw (c4 != 0 && c4 != 4096) (eSize ++ itoaF c4) xs3 = x := ⟨_, rfl⟩
          have HX4 := Lib.hid hx4
          clear hx4
          have HL4 : Hid (xs4.length ≤ 5) := by rw [← HX4.out]; exact kw_len HL3.out
          obtain ⟨y0, y1, y2, y3, y4, y5, y6, y7⟩ := PlanAt.cells8 HV3.out.rw.plan
          go_upto_region 9 with fail
          go_cut [57] (fun s57 wx => s57 = .bool (c4 != 0 && c4 != 4096) ∧ Hid (RN w wx ⟨c0, c1, c2, c3, c4, f, s, t⟩ gn on u3 xs3))
          case first =>
            by_cases hz : c4 = 0
            · have hz' : ¬ 0 < c4 := by omega
              have HZ := Lib.hid hz
              clear hz
              go_wp2_with fail
              go_meet
              exact ⟨by rw [HZ.out]; rfl, HV3.out⟩
            · have hz' : 0 < c4 := by omega
              have HZ := Lib.hid hz
              clear hz
              go_wp2_with fail
              go_meet
              exact ⟨by rw [show (c4 != 0) = true by simpa using HZ.out]; rfl, HV3.out⟩
          case rest =>
            obtain ⟨rfl, HV3⟩ := hcut
            clear y0 y1 y2 y3 y4 y5 y6 y7
            obtain ⟨y0, y1, y2, y3, y4, y5, y6, y7⟩ := PlanAt.cells8 HV3.out.rw.plan
            go_upto_if 57 with (fail)
            go_cut [3] (fun s3 wx => Hid (RN w wx ⟨c0, c1, c2, c3, c4, f, s, t⟩ gn on s3 xs4))
            case first =>
              cases hq : (c4 != 0 && c4 != 4096) with
              | false =>
                have HZ := Lib.hid hq
                clear hq
                go_wp2_with fail
                go_meet
                rw [← HX4.out, kw, if_neg (by rw [HZ.out]; decide)]
                exact HV3.out
              | true =>
                have HZ := Lib.hid hq
                clear hq
                have hcat : ¬ 9223372036854775807 < 7 + (itoaF c4).size := by have := itoaF_size c4 (by omega) (by omega); omega
                have hlen : Hid ((xs3.length + 1) * 16 ≤ 140737488355328) := by have := HL3.out; show _ ≤ _; omega
                go_wp2_with fail
                refine (refnum_c hc4.1 hc4.2 _).mono ?_
                rintro e w6 ⟨rfl, hb6⟩
                have HV6 := Lib.hid (RN.next HV3.out hb6)
                clear hb6
                go_wp2_with (at_builtin; refine print_append_row_of Value.string ByteArray.empty (w0 := w) w.heap.size rfl (.tmp 58) (.tmp 63) 22 9 (.string ⟨#[]⟩) 16 rfl Tryd.underlying22 info_str rfl (by decide) (fun _ => rfl) u3 xs3 [eSize ++ itoaF c4] (some ⟨w6.heap.size, 0, none⟩) 1 1 rfl rfl (own_alloc HV6.out.rw.own _) (one_reads (heap_new _ _)) (below_new HV6.out.rw.below _) (below_new HV6.out.rw.below _).size hlen.out ?_; intro v5 w5 ho5 hb5 hg5 hat5; have HF : Hid (RN w w5 ⟨c0, c1, c2, c3, c4, f, s, t⟩ gn on v5 (xs3 ++ [eSize ++ itoaF c4])) := RN.grown HV6.out _ ho5 hb5 hg5 hat5; clear ho5 hb5 hg5 hat5)
                go_meet
                rw [← HX4.out, kw, if_pos HZ.out]
                exact HF.out
            case rest =>
              have HV4 := hcut
              clear hcut y0 y1 y2 y3 y4 y5 y6 y7
              have HE : Hid (flagsX f s t xs4 3 = wordsL ⟨c0, c1, c2, c3, c4, f, s, t⟩) := by
                show kw t kStrip (kw s kSign (kw f kFramed xs4)) = _
                rw [← HX4.out, ← HX3.out, ← HX2.out, ← HX1.out]
                unfold wordsL
                simp only [List.getD_eq_getElem?_getD, HCM.out, Option.getD_some]
              obtain ⟨y0, y1, y2, y3, y4, y5, y6, y7⟩ := PlanAt.cells8 HV4.out.rw.plan
              have hb0 : (wc.alloc (.cells #[.bool f, .bool s, .bool t] 4 (0, 0))).heap[wc.heap.size]? = some (.cells #[.bool f, .bool s, .bool t] 4 (0, 0)) := heap_new _ _
              have HB0 := Lib.hid hb0
              clear hb0
              go_wp2_with fail
              go_loopg [3, 6] 3 (fun kq s3 s6 w' => ∃ i : Nat, s6 = .int .i64 i ∧ Hid (kq = 3 - i ∧ i ≤ 3) ∧ Hid (RN w w' ⟨c0, c1, c2, c3, c4, f, s, t⟩ gn on s3 (flagsX f s t xs4 i)) ∧ Hid (w'.heap[wc.heap.size]? = some (.cells #[.bool f, .bool s, .bool t] 4 (0, 0))))
              case atStart => exact ⟨0, rfl, Lib.hid ⟨rfl, by omega⟩, Lib.hid (RN.next HV4.out (below_new (Below.refl _ _) _)), HB0⟩
              case round =>
                clear y0 y1 y2 y3 y4 y5 y6 y7
                obtain ⟨i, rfl, HK, HR1, HB1⟩ := hrel
                by_cases hi : i < 3
                · have hcb : wr.cell? ⟨wc.heap.size, i, none⟩ = some (.bool (flagAt f s t i)) := flag_cell HB1.out hi
                  cases hfl : flagAt f s t i with
                  | false =>
                    rw [hfl] at hcb
                    have HFL := Lib.hid hfl
                    clear hfl
                    go_wp2_with fail
                    go_roundg (gk - 1)
                    case measure => have := HK.out; omega
                    case rel => exact ⟨i + 1, by go_num, Lib.hid (by have := HK.out; omega), Lib.hid (by rw [flagsX_succ _ _ _ _ hi, HFL.out]; exact HR1.out), HB1⟩
                  | true =>
                    rw [hfl] at hcb
                    have HFL := Lib.hid hfl
                    clear hfl
                    go_wp2_with fail
                    refine (refopts_c _).mono ?_
                    rintro e w6 ⟨vo6, rfl, hv6, hb6⟩
                    obtain ⟨g6, o6, k6, rfl, hk6, hg6, hcells⟩ := SL.form hv6 (by decide)
                    have e7 : opts.length = 7 := by decide
                    rw [e7] at hk6 ⊢
                    clear e7
                    have ho6 : w6.cell? ⟨g6, o6 + (4 + i), none⟩ = some (.string (flagK i)) := hcells _ _ (flag_opt hi)
                    have HR6 := Lib.hid (RN.next HR1.out hb6)
                    have HB6 : Hid (w6.heap[wc.heap.size]? = some (.cells #[.bool f, .bool s, .bool t] 4 (0, 0))) := (hb6.block _ (Array.getElem?_eq_some_iff.1 HB1.out).1).trans HB1.out
                    clear hcells hv6 hb6
                    have hlen : Hid (((flagsX f s t xs4 i).length + 1) * 16 ≤ 140737488355328) := by have := flagsX_len f s t xs4 i; have := HL4.out; show _ ≤ _; omega
                    have ht4 : (4 + (i : Int)).toNat = 4 + i := by omega
                    have h04 : (0 : Int) ≤ 4 + (i : Int) := by omega
                    have h47 : 4 + (i : Int) < 7 := by omega
                    go_wp2_with (at_builtin; refine print_append_row_of Value.string ByteArray.empty (w0 := w) w.heap.size rfl (.tmp 80) (.tmp 86) 22 9 (.string ⟨#[]⟩) 16 rfl Tryd.underlying22 info_str rfl (by decide) (fun _ => rfl) _ (flagsX f s t xs4 i) [flagK i] (some ⟨w6.heap.size, 0, none⟩) 1 1 rfl rfl (own_alloc HR6.out.rw.own _) (one_reads (heap_new _ _)) (below_new HR6.out.rw.below _) (below_new HR6.out.rw.below _).size hlen.out ?_; intro v5 w5 ho5 hb5 hg5 hat5; have HF : Hid (RN w w5 ⟨c0, c1, c2, c3, c4, f, s, t⟩ gn on v5 (flagsX f s t xs4 i ++ [flagK i])) := RN.grown HR6.out _ ho5 hb5 hg5 hat5; have HB5 : Hid (w5.heap[wc.heap.size]? = some (.cells #[.bool f, .bool s, .bool t] 4 (0, 0))) := flag_keep ((heap_old _ _ _ (Array.getElem?_eq_some_iff.1 HB6.out).1).trans HB6.out) (own_alloc HR6.out.rw.own _) hg5; clear ho5 hb5 hg5 hat5)
                    go_roundg (gk - 1)
                    case measure => have := HK.out; omega
                    case rel => exact ⟨i + 1, by go_num, Lib.hid (by have := HK.out; omega), Lib.hid (by rw [flagsX_succ _ _ _ _ hi, HFL.out]; exact HF.out), HB5⟩
                · have hi3 : i = 3 := by have := HK.out; omega
                  have HI := Lib.hid hi3
                  go_wp2_with fail
                  go_ret
                  have h := HR1.out
                  rw [HI.out, HE.out] at h
                  exact ⟨_, rfl, SL.of_R (base := w.heap.size) (ok := fun _ => True) (Kd.R_of_own h.rw.own (fun _ _ => trivial)), h.rw.below⟩
end Go.Proofs.YtlddfdkmpnllmaaDoor
namespace Go.Proofs.YtlddfdkmpnllmaaDoor
open Go.RowKit Go.Proofs.YtlddfdkmpnllmaaDoorW.PrintWords Go.Proofs.YtlddfdkmpnllmaaDoorW.PrintLast Go.Proofs.YtlddfdkmpnllmaaDoorW.PrintMore Go.Proofs.YtlddfdkmpnllmaaDoor.PRww
set_option linter.unusedVariables false
set_option linter.unusedSimpArgs false

theorem number_some (c : Int) : pilcrowref24_number.f c = some (decide (0 ≤ c ∧ c ≤ 10)) := by
  unfold pilcrowref24_number.f
  by_cases h : c ≥ 0
  · rw [if_pos h]; congr 1; rw [decide_eq_decide]; omega
  · rw [if_neg h]; congr 1; rw [eq_comm, decide_eq_false_iff_not]; omega
set_option maxHeartbeats 1000000 in
theorem right_f (p : Pl) (r : Bool) (h : r = true ↔ RightP p) : pilcrowref24_Right.f 4 p.c0 p.c1 p.c2 p.c3 p.c4 p.f p.s p.t = some r := by
  obtain ⟨c0, c1, c2, c3, c4, f, s, t⟩ := p
  have key : ∀ b : Bool, (b = true ↔ RightP ⟨c0, c1, c2, c3, c4, f, s, t⟩) → some b = some r := fun b hb => by
    congr 1; rw [Bool.eq_iff_iff, hb, h]
  simp only [RightP] at key
  clear h
  simp only [pilcrowref24_Right.f, number_some, Option.bind_some, decide_eq_true_eq, pilcrowref24_Right.j0, pilcrowref24_Right.j1, pilcrowref24_Right.j2]
  by_cases hr : (0 ≤ c1 ∧ c1 ≤ 10) ∧ (0 ≤ c2 ∧ c2 ≤ 10) ∧ (0 ≤ c3 ∧ c3 ≤ 10) ∧ ¬ c4 < 0 ∧ ¬ c4 > 65536
  · obtain ⟨h1, h2, h3, h4, h5⟩ := hr
    rw [if_pos h1, if_pos h2, if_pos h3, if_neg h4, if_neg h5]
    by_cases e1 : c0 = 1
    · rw [if_pos e1]
      cases f <;> cases s <;> cases t <;> (split <;> (try split) <;> (try split) <;> (try split)) <;> first | contradiction | (refine key _ ?_; simp; done) | (refine key _ ?_; simp; omega)
    rw [if_neg e1]
    by_cases e2 : c0 = 2
    · rw [if_pos e2]
      cases f <;> cases s <;> cases t <;> (split <;> (try split) <;> (try split) <;> (try split)) <;> first | contradiction | (refine key _ ?_; simp; done) | (refine key _ ?_; simp; omega)
    rw [if_neg e2]
    by_cases e3 : c0 = 3
    · rw [if_pos e3]
      cases f <;> cases s <;> cases t <;> (split <;> (try split) <;> (try split) <;> (try split)) <;> first | contradiction | (refine key _ ?_; simp; done) | (refine key _ ?_; simp; omega)
    rw [if_neg e3]
    cases f <;> cases s <;> cases t <;> (split <;> (try split) <;> (try split) <;> (try split) <;> (try split) <;> (try split) <;> (try split) <;> (try split)) <;> first | contradiction | (refine key _ ?_; simp; done) | (refine key _ ?_; simp; omega) | (refine key _ ?_; simp at *; done) | (refine key _ ?_; simp at *; omega)
  · have hn : some false = some r := key false (by simp; omega)
    rw [← hn]
    by_cases h1 : 0 ≤ c1 ∧ c1 ≤ 10
    · rw [if_pos h1]
      by_cases h2 : 0 ≤ c2 ∧ c2 ≤ 10
      · rw [if_pos h2]
        by_cases h3 : 0 ≤ c3 ∧ c3 ≤ 10
        · rw [if_pos h3]
          by_cases h4 : c4 < 0
          · rw [if_pos h4]; try simp
          · rw [if_neg h4]
            by_cases h5 : c4 > 65536
            · rw [if_pos h5]
            · exact absurd ⟨h1, h2, h3, h4, h5⟩ hr
        · rw [if_neg h3]; try simp
      · rw [if_neg h2]; try simp
    · rw [if_neg h1]; try simp
theorem right_c (p : Pl) (w : World) : Calls Tryd.prog 13 #[.agg p.cells] w fun e w' => e = .returned (.bool (wordsF p).2) ∧ Below w.heap.size w w' :=
  pilcrowref24_Right.calls 4 p.c0 p.c1 p.c2 p.c3 p.c4 p.f p.s p.t (wordsF p).2 w (right_f p _ ((words_right p).trans (good_right p)))
theorem same_l0 (l : List ByteArray) (hl : l.length ≤ 100) (d : Nat) : ∀ (k : Nat) (i : Int), 0 ≤ i → i ≤ l.length → (l.length : Int) - i = d → d < k → PProg.pilcrowref24_Same.l0 k l l i = some true := by
  induction d with
  | zero =>
    intro k i h0 h1 hd hk
    obtain ⟨k, rfl⟩ : ∃ m, k = m + 1 := ⟨k - 1, by omega⟩
    simp only [PProg.pilcrowref24_Same.l0]; rw [if_neg (by omega)]
  | succ d ih =>
    intro k i h0 h1 hd hk
    obtain ⟨k, rfl⟩ : ∃ m, k = m + 1 := ⟨k - 1, by omega⟩
    have hw : wrap64 (i + 1) = i + 1 := by unfold wrap64; omega
    have h := ih k (i + 1) (by omega) (by omega) (by omega) (by omega)
    simp only [PProg.pilcrowref24_Same.l0]
    rw [if_pos (by omega), if_pos h0, if_pos (by omega)]
    simp [hw, h]
theorem same_f (l : List ByteArray) (hl : l.length ≤ 100) : PProg.pilcrowref24_Same.f (l.length + 1) l l = some true := by
  unfold PProg.pilcrowref24_Same.f
  simp [same_l0 l hl l.length (l.length + 1) 0 (by omega) (by omega) (by omega) (by omega)]
theorem same_any (v : Value) (w : World) (l : List ByteArray) (hl : l.length ≤ 100) (h : SL w v l) (u : Value) (h2 : SL w u l) : Calls Tryd.prog 14 #[v, u] w fun e w' => e = .returned (.bool true) ∧ ∃ n, w' = w.drewN n := by
  obtain ⟨A, c, rfl, hc, hr⟩ := h
  obtain ⟨A2, c2, rfl, hc2, hr2⟩ := h2
  exact (PProg.pilcrowref24_Same.calls (l.length + 1) A c l A2 c2 l true w hr hc hr2 hc2 (same_f l hl)).mono fun e w' h => ⟨h.1, h.2.out⟩
set_option maxRecDepth 100000 in
set_option maxHeartbeats 1000000 in
/-- The law. -/
theorem wordslaw_c (c0 c1 c2 c3 c4 : Int) (f s t : Bool) (h0 : -9223372036854775808 ≤ c4) (h1 : c4 ≤ 9223372036854775807) (w : World) (hT : Tab w) :
    Calls Tryd.prog 4 #[.agg #[.int .i64 c0, .int .i64 c1, .int .i64 c2, .int .i64 c3, .int .i64 c4, .bool f, .bool s, .bool t]] w fun e w' => e = .returned (.bool true) ∧ Below w.heap.size w w' := by
  have HT := Lib.hid hT
  clear hT
  have hR : ∀ w : World, Calls Tryd.prog 13 #[.agg #[.int .i64 c0, .int .i64 c1, .int .i64 c2, .int .i64 c3, .int .i64 c4, .bool f, .bool s, .bool t]] w fun e w' => e = .returned (.bool (wordsF ⟨c0, c1, c2, c3, c4, f, s, t⟩).2) ∧ Below w.heap.size w w' := fun w => right_c ⟨c0, c1, c2, c3, c4, f, s, t⟩ w
  rcases hw : wordsF ⟨c0, c1, c2, c3, c4, f, s, t⟩ with ⟨ws, ok⟩
  rw [hw] at hR
  have HW := Lib.hid hw
  clear hw
  have HR := Lib.hid hR
  clear hR
  have HP0 : Hid (PlanAt (w.alloc (.cells (Pl.cells ⟨c0, c1, c2, c3, c4, f, s, t⟩) 26 (0, 0))) w.heap.size ⟨c0, c1, c2, c3, c4, f, s, t⟩) := PlanAt.new w _
  go_enter Tryd.func4, Tryd.ntmps4
  go_wp2_with fail
  refine (words_to (Tab.below HT.out (below_new (Below.refl _ _) _)) h0 h1 HW.out).mono ?_
  rintro e w1 ⟨v1, rfl, hs1, hb1⟩
  have HS1 := Lib.hid hs1
  have HB1 := Lib.hid (below_next (below_new (Below.refl _ _) _) hb1)
  have HP1 := Lib.hid (PlanAt.below HP0.out hb1)
  clear hs1 hb1
  go_wp2_with fail
  refine (awake_c _ (Tab.below HT.out HB1.out)).mono ?_
  rintro e w2 ⟨rfl, hb2⟩
  have HS2 := Lib.hid (SL.below HS1.out hb2)
  have HB2 := Lib.hid (below_next HB1.out hb2)
  have HP2 := Lib.hid (PlanAt.below HP1.out hb2)
  clear hb2
  obtain ⟨y0, y1, y2, y3, y4, y5, y6, y7⟩ := PlanAt.cells8 HP2.out
  go_wp2_with fail
  clear y0 y1 y2 y3 y4 y5 y6 y7
  refine (HR.out _).mono ?_
  rintro e w3 ⟨rfl, hb3⟩
  have HS3 := Lib.hid (SL.below HS2.out hb3)
  have HB3 := Lib.hid (below_next HB2.out hb3)
  have HP3 := Lib.hid (PlanAt.below HP2.out hb3)
  clear hb3
  obtain ⟨y0, y1, y2, y3, y4, y5, y6, y7⟩ := PlanAt.cells8 HP3.out
  cases ok with
  | false =>
    have hnil : ws = [] := by
      have h := HW.out
      unfold wordsF at h
      split at h
      · injection h with h _; exact h.symm
      split at h
      · injection h with h _; exact h.symm
      split at h
      · injection h with h _; exact h.symm
      split at h
      · injection h with h _; exact h.symm
      · injection h with _ h; cases h
    subst hnil
    obtain ⟨A, c, rfl, hc, hr⟩ := HS3.out
    go_wp2_with fail
    go_ret
    exact ⟨rfl, HB3.out⟩
  | true =>
    have hg : Good ⟨c0, c1, c2, c3, c4, f, s, t⟩ := (words_right _).1 (by rw [HW.out])
    have hws : ws = wordsL ⟨c0, c1, c2, c3, c4, f, s, t⟩ := by
      have h := words_good_F hg
      rw [HW.out] at h
      injection h
    have HWS := Lib.hid hws
    have HRP := Lib.hid ((good_right _).1 hg)
    clear hws hg
    go_wp2_with fail
    refine (refwords_c c0 c1 c2 c3 c4 f s t HRP.out _).mono ?_
    rintro e w4 ⟨v4, rfl, hs4, hb4⟩
    rw [← HWS.out] at hs4
    have HS4 := Lib.hid hs4
    have HT4 := Lib.hid (SL.below HS3.out hb4)
    have HB4 := Lib.hid (below_next HB3.out hb4)
    have hlen : Hid (ws.length ≤ 100) := by
      rw [HWS.out, words_len]
      have := cntw_le ⟨c0, c1, c2, c3, c4, f, s, t⟩
      show _ ≤ _
      omega
    clear hs4 hb4
    go_wp2_with fail
    refine (same_any _ _ ws hlen.out HT4.out _ HS4.out).mono ?_
    rintro e w5 ⟨rfl, n, rfl⟩
    go_wp2_with fail
    go_ret
    exact ⟨rfl, below_drewN' HB4.out _⟩
end Go.Proofs.YtlddfdkmpnllmaaDoor
