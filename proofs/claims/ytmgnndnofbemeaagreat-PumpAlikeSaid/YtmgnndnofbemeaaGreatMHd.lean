/- Joined texts: Hd. -/
import Derived.Test.YtmgnndnofbemeaaGreatME8
import Derived.Test.YtmgnndnofbemeaaGreatMVw
/- There and back, in plain Lean: SCSU, both profiles. -/
namespace Go.Proofs.YtmgnndnofbemeaaGreat
set_option linter.unusedVariables false
set_option linter.unusedSimpArgs false
theorem OKC.ini : OKC ⟨offsE, usedE, false, 0, false, NOC⟩ := ⟨rfl, by decide, rfl, fun n h0 h1 => by
 have : n = 0 ∨ n = 1 ∨ n = 2 ∨ n = 3 ∨ n = 4 ∨ n = 5 ∨ n = 6 ∨ n = 7 := by omega
 rcases this with rfl | rfl | rfl | rfl | rfl | rfl | rfl | rfl <;> decide, by decide, by decide⟩
def RunX (s : SX) (bs : List Int) (s' : SX) (told : List Int) : Prop := ∀ rest p acc, ∃ q, runD DX s (bs ++ rest) p acc = runD DX s' rest q (acc ++ told)
theorem RunX.nil (s : SX) : RunX s [] s [] := fun rest p acc => ⟨p, by rw [List.append_nil]; rfl⟩
theorem RunX.cons {s s1 s' : SX} {b : Int} {bs k t : List Int} (h : nextX s b = some (s1, k)) (h2 : RunX s1 bs s' t) : RunX s (b :: bs) s' (k ++ t) := fun rest p acc => by
 obtain ⟨q, hq⟩ := h2 rest (p + 1) (acc ++ k)
 exact ⟨q, by rw [List.cons_append, runD_some (D := DX) h, hq, List.append_assoc]⟩
theorem RunX.append {s s1 s' : SX} {a b k t : List Int} (h : RunX s a s1 k) (h2 : RunX s1 b s' t) : RunX s (a ++ b) s' (k ++ t) := fun rest p acc => by
 obtain ⟨q, hq⟩ := h (b ++ rest) p acc
 obtain ⟨q2, hq2⟩ := h2 rest q (acc ++ k)
 exact ⟨q2, by rw [List.append_assoc, hq, hq2, List.append_assoc]⟩
structure MX (st : SC) (s : SX) : Prop where
 offs : s.offs = st.offs
 uni : s.uni = st.uni
 act : s.active = st.active
 beg : s.begun = 0
 up : s.upper = 0
theorem scal_not {c : Int} (h : isScal c = true) : c ≤ 1114111 ∧ ¬ (55296 ≤ c ∧ c ≤ 57343) := by
 unfold isScal at h; simp at h; omega
theorem nextX_uni {s : SX} (h0 : s.begun = 0) (h1 : s.uni = true) (b : Int) : nextX s b = doubleX s b := by
 unfold nextX; rw [if_neg (by rw [h0]; decide), if_pos h1]
theorem nextX_one {s : SX} (h0 : s.begun = 0) (h1 : s.uni = false) (b : Int) : nextX s b = singleX s b := by
 unfold nextX; rw [if_neg (by rw [h0]; decide), if_neg (by rw [h1]; decide)]
theorem nextX_more {s : SX} (h0 : s.begun ≠ 0) (b : Int) : nextX s b = moreX s b := by
 unfold nextX; rw [if_pos h0]
theorem fits_no {s : SX} {b : Int} (h : s.upper = 0) (hb : ¬ (220 ≤ b ∧ b ≤ 223)) : fitsX s b = true := by
 unfold fitsX; rw [decide_eq_false hb, h]; rfl
theorem fits_yes {s : SX} {b : Int} (h : s.upper ≠ 0) (hb : 220 ≤ b ∧ b ≤ 223) : fitsX s b = true := by
 unfold fitsX; rw [decide_eq_true hb]; simpa using h
theorem rest_step {s : SX} (h : s.begun = 6) (b : Int) : nextX s b = wholeX s (s.first * 256 + b) := by
 rw [nextX_more (by rw [h]; decide), moreX, if_neg (by rw [h]; decide), if_neg (by rw [h]; decide), if_neg (by rw [h]; decide), if_neg (by rw [h]; decide), if_neg (by rw [h]; decide)]
theorem unit_step {s : SX} (h : s.begun = 5) (b : Int) (hf : fitsX s b = true) : nextX s b = some ({ s with first := b, begun := 6, n := 0 }, []) := by
 rw [nextX_more (by rw [h]; decide), moreX, if_neg (by rw [h]; decide), if_neg (by rw [h]; decide), if_neg (by rw [h]; decide), if_neg (by rw [h]; decide), if_pos h, if_pos hf]; rfl
theorem whole_step {s : SX} (h : s.upper = 0) {u : Int} (hu : ¬ (55296 ≤ u ∧ u < 56320)) : wholeX s u = some ({ s with begun := 0 }, [u]) := by
 unfold wholeX; rw [if_neg (fun h' => h' h), if_neg hu]
theorem units_run {st : SC} {s : SX} (h : MX st s) (hu : st.uni = true) {c : Int} (h0 : 0 ≤ c) (h1 : isScal c = true) : ∃ s', MX st s' ∧ RunX s (unitsF c) s' [c] := by
 obtain ⟨c1, c2⟩ := scal_not h1
 obtain ⟨e1, e2, e3, e4, e5⟩ := h
 have hun : s.uni = true := by rw [e2, hu]
 have hfst : ∀ (z : SX) b, z.begun = 0 → z.uni = true → (b < 224 ∨ 242 < b) → fitsX z b = true → nextX z b = some ({ z with first := b, begun := 6, n := 0 }, []) := fun z b z0 z1 hb hf => by
  rw [nextX_uni z0 z1, doubleX, if_pos hb, if_pos (show fitsX z b = true from hf)]; rfl
 unfold unitsF
 by_cases a : 65536 ≤ c
 ·rw [if_pos a]
  refine ⟨{ s with first := (56320 + (c - 65536) % 1024) / 256, begun := 0, n := 0, upper := 0 }, ⟨e1, e2, e3, rfl, rfl⟩, ?_⟩
  refine RunX.cons (k := []) (t := [c]) (hfst s _ e4 hun (by omega) (fits_no e5 (by omega))) ?_
  refine RunX.cons (k := []) (t := [c]) (s1 := { s with first := (55296 + (c - 65536) / 1024) / 256, begun := 0, n := 0, upper := 55296 + (c - 65536) / 1024 }) ?_ ?_
  ·rw [rest_step rfl]
   show wholeX _ ((55296 + (c - 65536) / 1024) / 256 * 256 + (55296 + (c - 65536) / 1024) % 256) = _
   rw [show (55296 + (c - 65536) / 1024) / 256 * 256 + (55296 + (c - 65536) / 1024) % 256 = 55296 + (c - 65536) / 1024 by omega]
   unfold wholeX
   rw [if_neg (fun h' => h' e5), if_pos (by omega)]
  refine RunX.cons (k := []) (t := [c]) (hfst _ _ rfl hun (by omega) (fits_yes (show 55296 + (c - 65536) / 1024 ≠ 0 by omega) (by omega))) ?_
  refine RunX.cons (k := [c]) (t := []) ?_ (RunX.nil _)
  rw [rest_step rfl]
  show wholeX _ ((56320 + (c - 65536) % 1024) / 256 * 256 + (56320 + (c - 65536) % 1024) % 256) = _
  rw [show (56320 + (c - 65536) % 1024) / 256 * 256 + (56320 + (c - 65536) % 1024) % 256 = 56320 + (c - 65536) % 1024 by omega]
  unfold wholeX
  rw [if_pos (show 55296 + (c - 65536) / 1024 ≠ 0 by omega)]
  show some (_, [65536 + (55296 + (c - 65536) / 1024) % 1024 * 1024 + (56320 + (c - 65536) % 1024) % 1024]) = _
  rw [show 65536 + (55296 + (c - 65536) / 1024) % 1024 * 1024 + (56320 + (c - 65536) % 1024) % 1024 = c by omega]
 ·rw [if_neg a]
  have fin : ∀ z : SX, z.begun = 6 → z.first = c / 256 → z.upper = 0 → nextX z (c % 256) = some ({ z with begun := 0 }, [c]) := fun z z1 z2 z3 => by
   rw [rest_step z1, show z.first * 256 + c % 256 = c by rw [z2]; omega, whole_step z3 (by omega)]
  by_cases t : taggedF c = true
  ·rw [if_pos t]
   have t' : 57344 ≤ c ∧ c ≤ 62207 := of_decide_eq_true t
   refine ⟨{ s with first := c / 256, begun := 0, n := 0 }, ⟨e1, e2, e3, rfl, e5⟩, ?_⟩
   refine RunX.cons (k := []) (t := [c]) (s1 := { s with begun := 5, n := 0 }) ?_ ?_
   ·rw [nextX_uni e4 hun, doubleX, if_neg (by decide), if_pos rfl]; rfl
   refine RunX.cons (k := []) (t := [c]) (unit_step rfl _ (fits_no e5 (by omega))) ?_
   exact RunX.cons (k := [c]) (t := []) (fin _ rfl rfl e5) (RunX.nil _)
  ·rw [if_neg t]
   have t' : ¬ (57344 ≤ c ∧ c ≤ 62207) := of_decide_eq_false (by simpa [taggedF] using t)
   refine ⟨{ s with first := c / 256, begun := 0, n := 0 }, ⟨e1, e2, e3, rfl, e5⟩, ?_⟩
   refine RunX.cons (k := []) (t := [c]) (hfst s _ e4 hun (by omega) (fits_no e5 (by omega))) ?_
   exact RunX.cons (k := [c]) (t := []) (fin _ rfl rfl e5) (RunX.nil _)
theorem single_high {s : SX} (h : s.upper = 0) {b : Int} (hb : 128 ≤ b) : singleX s b = some (s, [s.offs.getD s.active.toNat 0 + b - 128]) := by
 unfold singleX; rw [if_neg (by rw [h]; omega), if_pos hb]
theorem single_pass {s : SX} (h : s.upper = 0) {b : Int} (hb : passesF b = true) : singleX s b = some (s, [b]) := by
 have hb' : (32 ≤ b ∧ b < 128) ∨ b = 0 ∨ b = 9 ∨ b = 10 ∨ b = 13 := by unfold passesF at hb; simp at hb; omega
 unfold singleX; rw [if_neg (by rw [h]; omega), if_neg (by omega), if_pos (by omega)]
theorem single_quote {s : SX} (h : s.upper = 0) {b : Int} (h1 : 1 ≤ b) (h2 : b ≤ 8) : singleX s b = some ({ s with begun := 1, n := b - 1 }, []) := by
 unfold singleX; rw [if_neg (by rw [h]; omega), if_neg (by omega), if_neg (by omega), if_neg (by omega), if_neg (by omega), if_neg (by omega), if_neg (by omega), if_neg (by omega)]; rfl
theorem quote_step {s : SX} (h : s.begun = 1) (b : Int) : nextX s b = some ({ s with begun := 0 }, [(if 128 ≤ b then s.offs.getD s.n.toNat 0 - 128 else statics.getD s.n.toNat 0) + b]) := by
 rw [nextX_more (by rw [h]; decide), moreX, if_pos h]
theorem simple_run {st : SC} {s : SX} (h : MX st s) (hu : st.uni = false) {c : Int} (h0 : 0 ≤ c) {b : List Int} (hb : simpleF st c = some b) : ∃ s', MX st s' ∧ RunX s b s' [c] := by
 obtain ⟨e1, e2, e3, e4, e5⟩ := h
 have hun : s.uni = false := by rw [e2, hu]
 unfold simpleF at hb
 by_cases a1 : passesF c = true
 ·rw [if_pos a1] at hb
  injection hb with hb; subst hb
  exact ⟨s, ⟨e1, e2, e3, e4, e5⟩, RunX.cons (k := [c]) (t := []) (by rw [nextX_one e4 hun, single_pass e5 a1]) (RunX.nil _)⟩
 ·rw [if_neg a1] at hb
  by_cases a2 : c < 32
  ·rw [if_pos a2] at hb
   injection hb with hb; subst hb
   refine ⟨{ s with begun := 0, n := 0 }, ⟨e1, e2, e3, rfl, e5⟩, RunX.cons (k := []) (t := [c]) (by rw [nextX_one e4 hun, single_quote e5 (by decide) (by decide)]) (RunX.cons (k := [c]) (t := []) ?_ (RunX.nil _))⟩
   rw [quote_step rfl]
   show some (_, [(if 128 ≤ c then _ else statics.getD (((1 : Int) - 1).toNat) 0) + c]) = _
   rw [if_neg (by omega), show statics.getD (((1 : Int) - 1).toNat) 0 = 0 from rfl, Int.zero_add]
   rfl
  ·rw [if_neg a2] at hb
   by_cases a3 : holdsF (st.offs.getD st.active.toNat 0) c = true
   ·rw [if_pos a3] at hb
    injection hb with hb; subst hb
    have hh := holdsF_le a3
    refine ⟨s, ⟨e1, e2, e3, e4, e5⟩, RunX.cons (k := [c]) (t := []) ?_ (RunX.nil _)⟩
    rw [nextX_one e4 hun, single_high e5 (by omega), e1, e3, show st.offs.getD st.active.toNat 0 + (128 + (c - st.offs.getD st.active.toNat 0)) - 128 = c by omega]
   ·rw [if_neg a3] at hb; cases hb
theorem stat_lt (c : Int) : ∀ k n, k ≤ 7 → statN c k = some n → 1 ≤ n ∧ n < 8 ∧ holdsF (statics.getD n 0) c = true
 | 0, _, _, h => by cases h
 | k + 1, n, hk, h => by
  unfold statN at h
  split at h
  ·injection h with h; rename_i hh; rw [← h]; exact ⟨by omega, by omega, hh⟩
  ·exact stat_lt c k n (by omega) h
theorem spec_lt (c : Int) : ∀ k n, specN c k = some n → n < 7 ∧ holdsF (specials.getD n 0) c = true
 | 0, _, h => by cases h
 | k + 1, n, h => by
  unfold specN at h
  split at h
  ·injection h with h; rename_i hh; rw [← h]; exact ⟨by omega, hh⟩
  ·exact spec_lt c k n h
theorem own_win {c x : Int} (h0 : 0 ≤ c) (h : ownF c = some x) : x ≤ c ∧ c - x < 128 ∧ (65536 ≤ c → x = c - c % 128) ∧ (c < 65536 → ∃ ix, indexF c = some ix ∧ offsetF ix = some x ∧ 0 ≤ ix ∧ ix ≤ 255) := by
 unfold ownF at h
 by_cases a : 65536 ≤ c
 ·rw [if_pos a] at h
  injection h with h
  exact ⟨by omega, by omega, fun _ => h.symm, fun h => by omega⟩
 ·rw [if_neg a] at h
  cases hi : indexF c with
  | none => rw [hi] at h; cases h
  | some ix =>
   rw [hi] at h
   have ho : offsetF ix = some x := h
   have hi' := hi
   unfold indexF at hi
   cases hs : specN c 7 with
   | some i =>
    rw [hs] at hi
    obtain ⟨i7, hh⟩ := spec_lt c 7 i hs
    injection hi with hi
    have hle := holdsF_le hh
    have hx : x = specials.getD i 0 := by
     unfold offsetF at ho
     rw [if_neg (by omega), if_neg (by omega), if_neg (by omega)] at ho
     injection ho with ho
     rw [← ho, show (ix - 249).toNat = i by omega]
    refine ⟨by omega, by omega, fun h => by omega, fun _ => ⟨ix, rfl, h, by omega, by omega⟩⟩
   | none =>
    rw [hs] at hi
    dsimp only at hi
    by_cases b1 : 128 ≤ c ∧ c < 13312
    ·rw [if_pos b1] at hi
     injection hi with hi
     unfold offsetF at ho
     rw [if_neg (by omega), if_pos (by omega)] at ho
     injection ho with ho
     exact ⟨by omega, by omega, fun h => by omega, fun _ => ⟨ix, rfl, h, by omega, by omega⟩⟩
    ·rw [if_neg b1] at hi
     by_cases b2 : 57344 ≤ c ∧ c < 65536
     ·rw [if_pos b2] at hi
      injection hi with hi
      unfold offsetF at ho
      rw [if_neg (by omega), if_neg (by omega), if_pos (by omega)] at ho
      injection ho with ho
      exact ⟨by omega, by omega, fun h => by omega, fun _ => ⟨ix, rfl, h, by omega, by omega⟩⟩
     ·rw [if_neg b2] at hi; cases hi
theorem define_step {s : SX} (h : s.begun = 2) {b x : Int} (hx : offsetF b = some x) : nextX s b = some ({ s with offs := s.offs.set s.n.toNat x, active := s.n, uni := false, begun := 0 }, []) := by
 rw [nextX_more (by rw [h]; decide), moreX, if_neg (by rw [h]; decide), if_pos h, hx]; rfl
theorem pair_step {s : SX} (h : s.begun = 3) (b : Int) : nextX s b = some ({ s with first := b, begun := 4 }, []) := by
 rw [nextX_more (by rw [h]; decide), moreX, if_neg (by rw [h]; decide), if_neg (by rw [h]; decide), if_pos h]
theorem last_step {s : SX} (h : s.begun = 4) (b : Int) : nextX s b = some ({ s with offs := s.offs.set (s.first / 32).toNat (65536 + 128 * (s.first % 32 * 256 + b)), active := s.first / 32, uni := false, begun := 0 }, []) := by
 rw [nextX_more (by rw [h]; decide), moreX, if_neg (by rw [h]; decide), if_neg (by rw [h]; decide), if_neg (by rw [h]; decide), if_pos h]; rfl
theorem lay_run {st : SC} {s : SX} (h : MX st s) (hok : OKC st) {c x : Int} (h0 : 0 ≤ c) (h1 : c ≤ 1114111) (ho : ownF c = some x) {ib pb : Int}
  (hib : ∀ w, 0 ≤ w → w < 8 → nextX s (ib + w) = some ({ s with begun := 2, n := w }, [])) (hpb : nextX s pb = some ({ s with begun := 3, n := 0 }, [])) :
  ∃ s', MX (layS st x) s' ∧ RunX s (layB st c ib pb x) s' [c] := by
 obtain ⟨e1, e2, e3, e4, e5⟩ := h
 obtain ⟨x1, x2, x3, x4⟩ := own_win h0 ho
 obtain ⟨w0, w1⟩ := hok.first
 have hlen := hok.len
 have hget : ∀ v : Int, 0 ≤ v → v < 8 → (st.offs.set v.toNat x).getD v.toNat 0 = x := fun v v0 v1 => by
  rw [List.getD_eq_getElem?_getD, List.getElem?_set_self (by omega)]; rfl
 unfold layB layS useF
 obtain ⟨w, hw⟩ : ∃ w, st.used.getD 0 0 = w := ⟨_, rfl⟩
 rw [hw] at w0 w1 ⊢
 have tail : ∀ z : SX, z.offs = st.offs.set w.toNat x → z.active = w → z.uni = false → z.begun = 0 → z.upper = 0 → RunX z [128 + (c - x)] z [c] := fun z z1 z2 z3 z4 z5 => by
  refine RunX.cons (k := [c]) (t := []) ?_ (RunX.nil _)
  rw [nextX_one z4 z3, single_high z5 (by omega), z1, z2, hget w w0 w1, show x + (128 + (c - x)) - 128 = c by omega]
 by_cases a : 65536 ≤ c
 ·rw [if_pos a]
  have hx := x3 a
  have m1 : (w * 32 + (c - 65536) / 128 / 256) / 32 = w := by omega
  have m2 : 65536 + 128 * ((w * 32 + (c - 65536) / 128 / 256) % 32 * 256 + (c - 65536) / 128 % 256) = x := by omega
  refine ⟨{ s with offs := st.offs.set w.toNat x, active := w, uni := false, begun := 0, n := 0, first := w * 32 + (c - 65536) / 128 / 256 }, ⟨rfl, rfl, rfl, rfl, e5⟩, ?_⟩
  refine RunX.append (k := []) (t := [c]) (s1 := { s with offs := st.offs.set w.toNat x, active := w, uni := false, begun := 0, n := 0, first := w * 32 + (c - 65536) / 128 / 256 }) ?_ (tail _ rfl rfl rfl rfl e5)
  refine RunX.cons (k := []) (t := []) hpb (RunX.cons (k := []) (t := []) (pair_step rfl _) (RunX.cons (k := []) (t := []) ?_ (RunX.nil _)))
  rw [last_step rfl]
  dsimp only
  rw [m1, m2, e1]
 ·rw [if_neg a]
  obtain ⟨ix, i1, i2, i3, i4⟩ := x4 (by omega)
  rw [i1, Option.getD_some]
  refine ⟨{ s with offs := st.offs.set w.toNat x, active := w, uni := false, begun := 0, n := w }, ⟨rfl, rfl, rfl, rfl, e5⟩, ?_⟩
  refine RunX.append (k := []) (t := [c]) (s1 := { s with offs := st.offs.set w.toNat x, active := w, uni := false, begun := 0, n := w }) ?_ (tail _ rfl rfl rfl rfl e5)
  refine RunX.cons (k := []) (t := []) (hib w w0 w1) (RunX.cons (k := []) (t := []) ?_ (RunX.nil _))
  rw [define_step rfl i2]
  dsimp only
  rw [e1]
theorem double_run {st : SC} {s : SX} (h : MX st s) (hu : st.uni = false) {c : Int} (h0 : 0 ≤ c) (h1 : isScal c = true) : ∃ s', MX (doubleF st c).1 s' ∧ RunX s (doubleF st c).2 s' [c] := by
 obtain ⟨e1, e2, e3, e4, e5⟩ := h
 have hun : s.uni = false := by rw [e2, hu]
 obtain ⟨s', m, r⟩ := units_run (st := { st with uni := true }) (s := { s with uni := true }) ⟨e1, rfl, e3, e4, e5⟩ rfl h0 h1
 refine ⟨s', m, RunX.cons (k := []) (t := [c]) ?_ r⟩
 rw [nextX_one e4 hun]
 unfold singleX
 rw [if_neg (by rw [e5]; decide), if_neg (by decide), if_neg (by decide), if_neg (by decide), if_neg (by decide), if_pos rfl]
theorem quoted_run {st : SC} {s : SX} (h : MX st s) (hu : st.uni = false) {c : Int} (h0 : 0 ≤ c) (h1 : isScal c = true) (h2 : c < 65536) : ∃ s', MX st s' ∧ RunX s [14, c / 256, c % 256] s' [c] := by
 obtain ⟨e1, e2, e3, e4, e5⟩ := h
 obtain ⟨c1, c2⟩ := scal_not h1
 have hun : s.uni = false := by rw [e2, hu]
 refine ⟨{ s with first := c / 256, begun := 0, n := 0 }, ⟨e1, e2, e3, rfl, e5⟩, ?_⟩
 refine RunX.cons (k := []) (t := [c]) (s1 := { s with begun := 5, n := 0 }) ?_ ?_
 ·rw [nextX_one e4 hun]
  unfold singleX
  rw [if_neg (by rw [e5]; decide), if_neg (by decide), if_neg (by decide), if_neg (by decide), if_neg (by decide), if_neg (by decide), if_pos rfl]; rfl
 refine RunX.cons (k := []) (t := [c]) (unit_step rfl _ (fits_no e5 (by omega))) ?_
 refine RunX.cons (k := [c]) (t := []) ?_ (RunX.nil _)
 rw [rest_step rfl]
 show wholeX _ (c / 256 * 256 + c % 256) = _
 rw [show c / 256 * 256 + c % 256 = c by omega]
 exact whole_step (by exact e5) (by omega)
theorem single_run {st : SC} {s : SX} (h : MX st s) (hok : OKC st) (hu : st.uni = false) {c : Int} (d : Int) (h0 : 0 ≤ c) (h1 : isScal c = true) : ∃ s', MX (singleF st c d).1 s' ∧ RunX s (singleF st c d).2 s' [c] := by
 obtain ⟨c1, c2⟩ := scal_not h1
 unfold singleF
 cases hs : simpleF st c with
 | some b => exact simple_run h hu h0 hs
 | none =>
  have H := h
  obtain ⟨e1, e2, e3, e4, e5⟩ := h
  have hun : s.uni = false := by rw [e2, hu]
  cases hf : findF st.offs c with
  | some n =>
   obtain ⟨n8, hh⟩ := findN_lt st.offs c 8 n hf
   have hl := holdsF_le hh
   dsimp only
   by_cases hd : d ≠ NOC ∧ holdsF (st.offs.getD n 0) d = true
   ·rw [if_pos hd]
    refine ⟨{ s with active := n, uni := false, begun := 0 }, ⟨e1, hu.symm, rfl, rfl, e5⟩, ?_⟩
    refine RunX.cons (k := []) (t := [c]) (s1 := { s with active := n, uni := false, begun := 0 }) ?_ (RunX.cons (k := [c]) (t := []) ?_ (RunX.nil _))
    ·rw [nextX_one e4 hun]
     unfold singleX
     rw [if_neg (by rw [e5]; omega), if_neg (by omega), if_neg (by omega), if_neg (by omega), if_pos (by omega), actX, show (16 : Int) + n - 16 = n by omega]
    ·rw [nextX_one rfl rfl, single_high (s := { s with active := n, uni := false, begun := 0 }) e5 (by omega)]
     dsimp only
     rw [e1, Int.toNat_natCast, show st.offs.getD n 0 + (128 + (c - st.offs.getD n 0)) - 128 = c by omega]
   ·rw [if_neg hd]
    refine ⟨{ s with begun := 0, n := n }, ⟨e1, e2, e3, rfl, e5⟩, ?_⟩
    refine RunX.cons (k := []) (t := [c]) (s1 := { s with begun := 1, n := n }) ?_ (RunX.cons (k := [c]) (t := []) ?_ (RunX.nil _))
    ·rw [nextX_one e4 hun, single_quote e5 (by omega) (by omega), show (1 : Int) + n - 1 = n by omega]
    ·rw [quote_step rfl]
     dsimp only
     rw [if_pos (by omega), e1, Int.toNat_natCast, show st.offs.getD n 0 - 128 + (128 + (c - st.offs.getD n 0)) = c by omega]
  | none =>
   dsimp only
   by_cases b1 : twinsF c d = false ∧ (statF c).isSome = true
   ·rw [if_pos b1]
    obtain ⟨n, hn⟩ := Option.isSome_iff_exists.1 b1.2
    obtain ⟨n1, n8, hh⟩ := stat_lt c 7 n (Nat.le_refl _) hn
    have hl := holdsF_le hh
    have hv : statV c = statics.getD n 0 := by unfold statV; rw [hn]
    refine ⟨{ s with begun := 0, n := n }, ⟨e1, e2, e3, rfl, e5⟩, ?_⟩
    rw [hn, Option.getD_some, hv]
    refine RunX.cons (k := []) (t := [c]) (s1 := { s with begun := 1, n := n }) ?_ (RunX.cons (k := [c]) (t := []) ?_ (RunX.nil _))
    ·rw [nextX_one e4 hun, single_quote e5 (by omega) (by omega), show (1 : Int) + n - 1 = n by omega]
    ·rw [quote_step rfl]
     dsimp only
     rw [if_neg (by omega), Int.toNat_natCast, show statics.getD n 0 + (c - statics.getD n 0) = c by omega]
   ·rw [if_neg b1]
    by_cases b2 : twinsF c d = true ∨ (65536 ≤ c ∧ softF st d = true)
    ·rw [if_pos b2]
     obtain ⟨x, hx⟩ : ∃ x, ownF c = some x := by
      rcases b2 with b2 | b2
      ·exact twins_own b2
      ·exact ⟨_, by unfold ownF; rw [if_pos b2.1]⟩
     rw [hx, Option.getD_some]
     refine lay_run H hok h0 c1 hx (fun w w0 w1 => ?_) ?_
     ·rw [nextX_one e4 hun]
      unfold singleX
      rw [if_neg (by rw [e5]; omega), if_neg (by omega), if_neg (by omega), if_pos (by omega), beginX, show (24 : Int) + w - 24 = w by omega]
     ·rw [nextX_one e4 hun]
      unfold singleX
      rw [if_neg (by rw [e5]; decide), if_neg (by decide), if_neg (by decide), if_neg (by decide), if_neg (by decide), if_neg (by decide), if_neg (by decide), if_pos rfl]; rfl
    ·rw [if_neg b2]
     by_cases b3 : c < 65536 ∧ (softF st d = true ∨ taggedF c = true)
     ·rw [if_pos b3]; exact quoted_run H hu h0 h1 b3.1
     ·rw [if_neg b3]; exact double_run H hu h0 h1
theorem work_run {plain : Bool} {st : SC} {s : SX} (h : MX st s) (hok : OKC st) (hb : st.behind = false → st.uni = false) {c : Int} (d : Int) (h0 : 0 ≤ c) (h1 : isScal c = true) :
  ∃ s', MX (workF plain st c d).1 s' ∧ RunX s (workF plain st c d).2 s' [c] := by
 have h' : MX { st with behind := true } s := ⟨h.offs, h.uni, h.act, h.beg, h.up⟩
 have hok' : OKC { st with behind := true } := ⟨hok.len, hok.rng, hok.len2, hok.all, hok.bnd, hok.act⟩
 obtain ⟨c1, c2⟩ := scal_not h1
 unfold workF
 dsimp only
 by_cases a1 : st.behind = false ∧ c = 65279
 ·rw [if_pos a1]
  obtain ⟨a1, rfl⟩ := a1
  exact quoted_run h' (hb a1) (by decide) h1 (by decide)
 ·rw [if_neg a1]
  by_cases a2 : plain = true
  ·rw [if_pos a2]
   by_cases a3 : st.uni = true
   ·rw [if_pos a3]; exact units_run h' a3 h0 h1
   ·rw [if_neg a3]
    have a4 : st.uni = false := by simpa using a3
    cases hs : simpleF { st with behind := true } c with
    | some b => exact simple_run h' a4 h0 hs
    | none => exact double_run h' a4 h0 h1
  ·rw [if_neg a2]
   by_cases a3 : st.uni = false
   ·rw [if_pos a3]; exact single_run h' hok' a3 d h0 h1
   ·rw [if_neg a3]
    have a4 : st.uni = true := by simpa using a3
    obtain ⟨e1, e2, e3, e4, e5⟩ := h
    have hun : s.uni = true := by rw [e2, a4]
    by_cases a5 : easyF { st with behind := true } c = true ∧ softF { st with behind := true } d = true
    ·rw [if_pos a5]
     have key : ∀ n : Int, 0 ≤ n → n < 8 → (passesF c = false → 32 ≤ c → holdsF (st.offs.getD n.toNat 0) c = true) → ∃ s', MX { useF { st with behind := true } n with uni := false } s' ∧ RunX s ([224 + n] ++ (simpleF { useF { st with behind := true } n with uni := false } c).getD []) s' [c] := fun n n0 n1 hh => by
      have hsm : ∃ b, simpleF { useF { st with behind := true } n with uni := false } c = some b := by
       by_cases p : passesF c = true
       ·exact ⟨_, by unfold simpleF; rw [if_pos p]⟩
       ·by_cases p2 : c < 32
        ·exact ⟨_, by unfold simpleF; rw [if_neg p, if_pos p2]⟩
        ·exact ⟨_, by unfold simpleF; rw [if_neg p, if_neg p2]; exact if_pos (hh (by simpa using p) (by omega))⟩
      obtain ⟨b, hb2⟩ := hsm
      obtain ⟨s', m, r⟩ := simple_run (st := { useF { st with behind := true } n with uni := false }) (s := { s with active := n, uni := false, begun := 0 }) ⟨e1, rfl, rfl, rfl, e5⟩ rfl h0 hb2
      refine ⟨s', m, ?_⟩
      rw [hb2]
      refine RunX.cons (k := []) (t := [c]) ?_ r
      rw [nextX_uni e4 hun, doubleX, if_neg (by omega), if_neg (by omega), if_neg (by rw [e5]; omega), if_neg (by omega), if_neg (by omega), actX, show (224 : Int) + n - 224 = n by omega]
     cases hf : findF st.offs c with
     | some k =>
      have hk := findN_lt st.offs c 8 k hf
      exact key k (by omega) (by omega) (fun _ _ => by rw [Int.toNat_natCast]; exact hk.2)
     | none =>
      refine key st.active hok.act.1 hok.act.2 (fun p p2 => ?_)
      have hea := a5.1
      unfold easyF at hea
      have hf' : findF ({ st with behind := true } : SC).offs c = none := hf
      rw [hf'] at hea
      have hc : c < 128 := by simpa using hea
      unfold passesF at p
      simp at p
      omega
    ·rw [if_neg a5]
     by_cases a6 : twinsF c d = true
     ·rw [if_pos a6]
      obtain ⟨x, hx⟩ := twins_own a6
      rw [hx, Option.getD_some]
      refine lay_run h' hok' h0 c1 hx (fun w w0 w1 => ?_) ?_
      ·rw [nextX_uni e4 hun, doubleX, if_neg (by omega), if_neg (by omega), if_neg (by rw [e5]; omega), if_neg (by omega), if_pos (by omega), beginX, show (232 : Int) + w - 232 = w by omega]
      ·rw [nextX_uni e4 hun, doubleX, if_neg (by decide), if_neg (by decide), if_neg (by rw [e5]; decide), if_pos rfl]; rfl
     ·rw [if_neg a6]; exact units_run h' a4 h0 h1
theorem work_behind (plain : Bool) (st : SC) (c d : Int) : (workF plain st c d).1.behind = true := by
 unfold workF
 dsimp only
 (repeat' split) <;> first | rfl | (unfold singleF doubleF layS useF; (repeat' split) <;> rfl)
theorem backC (plain : Bool) : BackM (CM plain) DX := by
 refine SimM.back (I := fun st s pd => MX st s ∧ OKC st ∧ (st.behind = false → st.uni = false) ∧ ((st.waits = NOC ∧ pd = []) ∨ (pd = [st.waits] ∧ 0 ≤ st.waits ∧ isScal st.waits = true ∧ st.waits ≠ NOC))) ⟨?_, ?_, ?_⟩
 ·exact ⟨⟨rfl, rfl, rfl, rfl, rfl⟩, OKC.ini, fun _ => rfl, .inl ⟨rfl, rfl⟩⟩
 ·intro st s pd c hi h0 h1
  obtain ⟨m, ok, bh, hw⟩ := hi
  have hcn : c ≠ NOC := fun h => by have := (scal_not h1).1; rw [h] at this; exact absurd this (by decide)
  rcases hw with ⟨hw, rfl⟩ | ⟨rfl, w0, w1, w2⟩
  ·have hp : (CM plain).put st c = ({ st with waits := c }, []) := by show putC plain st c = _; unfold putC; rw [if_pos hw]; rfl
   rw [hp]
   refine ⟨s, [c], [], rfl, ?_, fun rest p acc => ⟨p, ?_⟩⟩
   ·exact ⟨⟨m.offs, m.uni, m.act, m.beg, m.up⟩, ⟨ok.len, ok.rng, ok.len2, ok.all, ok.bnd, ok.act⟩, bh, .inr ⟨rfl, h0, h1, hcn⟩⟩
   ·rw [List.append_nil]; rfl
  ·obtain ⟨s', m', r⟩ := work_run (plain := plain) m ok bh c w0 w1
   have ok' := OKC.work ok (plain := plain) (d := c) w0 (scal_not w1).1
   have hp : (CM plain).put st c = ({ (workF plain st st.waits c).1 with waits := c }, (workF plain st st.waits c).2) := by show putC plain st c = _; unfold putC; rw [if_neg w2]; rfl
   rw [hp]
   refine ⟨s', [c], [st.waits], rfl, ?_, fun rest p acc => ?_⟩
   ·exact ⟨⟨m'.offs, m'.uni, m'.act, m'.beg, m'.up⟩, ⟨ok'.len, ok'.rng, ok'.len2, ok'.all, ok'.bnd, ok'.act⟩, fun h => absurd ((work_behind plain st st.waits c).symm.trans h) (by decide), .inr ⟨rfl, h0, h1, hcn⟩⟩
   ·obtain ⟨q, hq⟩ := r rest p acc
    exact ⟨q, hq⟩
 ·intro st s pd hi p acc
  obtain ⟨m, ok, bh, hw⟩ := hi
  show runD DX s (badC plain st) p acc = _
  have hfin : ∀ z : SX, z.begun = 0 → z.upper = 0 → ∀ p acc, runD DX z [] p acc = (acc, 0, 0) := fun z z1 z2 p acc => by
   show (match (if z.begun = 0 ∧ z.upper = 0 then some [] else none : Option (List Int)) with | none => (acc, (4 : Int), (p : Int)) | some l => (acc ++ l, 0, 0)) = _
   rw [if_pos ⟨z1, z2⟩]
   simp
  unfold badC
  rcases hw with ⟨hw, rfl⟩ | ⟨rfl, w0, w1, w2⟩
  ·rw [if_pos hw, hfin s m.beg m.up, List.append_nil]
  ·rw [if_neg w2]
   obtain ⟨s', m', r⟩ := work_run (plain := plain) m ok bh NOC w0 w1
   obtain ⟨q, hq⟩ := r [] p acc
   rw [List.append_nil] at hq
   rw [hq, hfin s' m'.beg m'.up]
end Go.Proofs.YtmgnndnofbemeaaGreat
