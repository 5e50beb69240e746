/- Joined texts: He. -/
import Derived.Test.YtmgnndnofbemeaaGreatME8
import Derived.Test.YtmgnndnofbemeaaGreatMUstp
import Derived.Test.YtmgnndnofbemeaaGreatMEb
import Derived.Test.YtmgnndnofbemeaaGreatMVw
import Derived.Test.YtmgnndnofbemeaaGreatMUins
/- There and back, in plain Lean: BOCU-1. -/
namespace Go.Proofs.YtmgnndnofbemeaaGreat
open Go.RowKit Go.Proofs.YtmgnndnofbemeaaGreatW.PrintWords Go.Proofs.YtmgnndnofbemeaaGreatW.PrintLast Go.Proofs.YtmgnndnofbemeaaGreatW.PrintMore Go.Proofs.YtmgnndnofbemeaaGreat.PPd
set_option linter.unusedVariables false
set_option linter.unusedSimpArgs false
theorem bw64 {x : Int} (h0 : -9223372036854775808 ≤ x) (h1 : x ≤ 9223372036854775807) : wrap64 x = x := by
 unfold wrap64; omega
def byZ (v : Int) : Int := if 20 ≤ v then v + 13 else if 16 ≤ v then v + 12 else if 6 ≤ v then v + 10 else v + 1
theorem byZ_rng {v : Int} (h0 : 0 ≤ v) (h1 : v < 243) : 1 ≤ byZ v ∧ byZ v ≤ 255 := by
 unfold byZ; (repeat' split) <;> omega
theorem byte_z {v : Int} (h0 : 0 ≤ v) (h1 : v < 243) (k : Nat) : diff_Byte.f (k + 1) v = some (byZ v, true) := by
 unfold diff_Byte.f byZ
 rw [if_neg (by omega), decide_eq_false (by omega), diff_Byte.j0, if_neg (by decide)]
 by_cases a : 20 ≤ v
 ·rw [if_pos a, if_pos a, bw64 (x := v - 20) (by omega) (by omega), bw64 (by omega) (by omega), show (v - 20 + 33) % 256 = v + 13 by omega]
 ·rw [if_neg a, if_neg a]
  by_cases b : 16 ≤ v
  ·rw [if_pos b, if_pos b, bw64 (x := v - 16) (by omega) (by omega), bw64 (by omega) (by omega), show (v - 16 + 28) % 256 = v + 12 by omega]
  ·rw [if_neg b, if_neg b]
   by_cases c : 6 ≤ v
   ·rw [if_pos c, if_pos c, bw64 (x := v - 6) (by omega) (by omega), bw64 (by omega) (by omega), show (v - 6 + 16) % 256 = v + 10 by omega]
   ·rw [if_neg c, if_neg c, bw64 (by omega) (by omega), show (v + 1) % 256 = v + 1 by omega]
theorem trail_z {v : Int} (h0 : 0 ≤ v) (h1 : v < 243) (k : Nat) : diff_Trail.f (k + 2) (byZ v) = some (v, true) := by
 unfold diff_Trail.f byZ
 by_cases a : 20 ≤ v
 ·rw [if_pos a, if_pos (by omega), bw64 (x := v + 13) (by omega) (by omega), bw64 (x := v + 13 - 33) (by omega) (by omega), bw64 (by omega) (by omega), show v + 13 - 33 + 20 = v by omega]
 ·rw [if_neg a]
  by_cases b : 16 ≤ v
  ·rw [if_pos b, if_neg (by omega), if_pos (by omega), decide_eq_true (by omega), diff_Trail.j0, if_pos rfl, bw64 (x := v + 12) (by omega) (by omega), bw64 (x := v + 12 - 28) (by omega) (by omega), bw64 (by omega) (by omega), show v + 12 - 28 + 16 = v by omega]
  ·rw [if_neg b]
   by_cases c : 6 ≤ v
   ·rw [if_pos c, if_neg (by omega), if_neg (by omega), diff_Trail.j0, if_neg (by decide), if_pos (by omega), decide_eq_true (by omega), diff_Trail.j1, if_pos rfl, bw64 (x := v + 10) (by omega) (by omega), bw64 (x := v + 10 - 16) (by omega) (by omega), bw64 (by omega) (by omega), show v + 10 - 16 + 6 = v by omega]
   ·rw [if_neg c, if_neg (by omega), if_neg (by omega), diff_Trail.j0, if_neg (by decide), if_neg (by omega), diff_Trail.j1, if_neg (by decide), if_pos (by omega), if_pos (by omega), bw64 (x := v + 1) (by omega) (by omega), bw64 (by omega) (by omega), show v + 1 - 1 = v by omega]
def goZ : Nat → List Int → Int → Int → Int × Int
 | 0, _, v, sp => (v, sp)
 | n + 1, [], v, sp => goZ n [] (v * 243) (sp * 243)
 | n + 1, d :: vs, v, sp => goZ n vs (v * 243 + d) sp
def bndZ : Nat → Int
 | 0 => 14348907
 | 1 => 59049
 | 2 => 243
 | _ => 1
theorem bnd_step {n : Nat} (hn : n + 1 ≤ 3) : bndZ (n + 1) * 243 = bndZ n := by
 match n, hn with
 | 0, _ => rfl
 | 1, _ => rfl
 | 2, _ => rfl
theorem bnd_le (n : Nat) : 1 ≤ bndZ n ∧ bndZ n ≤ 14348907 := by
 match n with
 | 0 => decide
 | 1 => decide
 | 2 => decide
 | n + 3 => exact ⟨by show (1 : Int) ≤ 1; decide, by show (1 : Int) ≤ 14348907; decide⟩
theorem range_go (s : ByteArray) (f : Int) (t : Nat) (ht : t ≤ 3) (hf : -15000000 ≤ f ∧ f ≤ 15000000) : ∀ (n i : Nat) (vs : List Int) (v sp : Int) (k : Nat), i + n = t + 1 → 1 ≤ i → (∀ j, j < vs.length → bt s ((i + j : Nat) : Int) = byZ (vs.getD j 0)) → (∀ x ∈ vs, 0 ≤ x ∧ x < 243) → s.size = i + vs.length ∨ (vs = [] ∧ s.size ≤ i) → 0 ≤ v → v < bndZ n → 1 ≤ sp → sp ≤ bndZ n → n + 8 ≤ k →
  diff_Range.l0 k s f t v sp i = some (f + (goZ n vs v sp).1, f + (goZ n vs v sp).1 + (goZ n vs v sp).2 - 1, (t : Int) + 1, true)
 | 0, i, vs, v, sp, k, hi, h1, hb, hv, hs, v0, v1, s0, s1, hk => by
  obtain ⟨k, rfl⟩ : ∃ j, k = j + 1 := ⟨k - 1, by omega⟩
  have hb0 : bndZ 0 = 14348907 := rfl
  rw [hb0] at v1 s1
  rw [diff_Range.l0, if_neg (by omega), goZ]
  rw [bw64 (x := f + v) (by omega) (by omega), bw64 (x := f + v + sp) (by omega) (by omega), bw64 (x := f + v + sp - 1) (by omega) (by omega), bw64 (by omega) (by omega)]
 | n + 1, i, vs, v, sp, k, hi, h1, hb, hv, hs, v0, v1, s0, s1, hk => by
  obtain ⟨k, rfl⟩ : ∃ j, k = j + 1 := ⟨k - 1, by omega⟩
  have hn : n + 1 ≤ 3 := by omega
  have e := bnd_step hn
  obtain ⟨b1, b2⟩ := bnd_le (n + 1)
  obtain ⟨b3, b4⟩ := bnd_le n
  have hw : wrap64 ((i : Int) + 1) = ((i + 1 : Nat) : Int) := by rw [bw64 (by omega) (by omega)]; omega
  rw [diff_Range.l0, if_pos (by omega)]
  cases vs with
  | nil =>
   have hsz : s.size ≤ i := by rcases hs with h | h; · simp at h; omega
                               ·exact h.2
   rw [if_pos (by omega), bw64 (x := v * 243) (by omega) (by omega), bw64 (x := sp * 243) (by omega) (by omega), hw, goZ]
   exact range_go s f t ht hf n (i + 1) [] (v * 243) (sp * 243) k (by omega) (by omega) (fun j hj => by simp at hj) (fun x hx => by cases hx) (.inr ⟨rfl, by omega⟩) (by omega) (by omega) (by omega) (by omega) (by omega)
  | cons d vs =>
   have hsz : s.size = i + (vs.length + 1) := by rcases hs with h | h; · simpa using h
                                                 ·exact absurd h.1 (by simp)
   have hd := hv d (List.mem_cons_self ..)
   have hb0 := hb 0 (by simp)
   rw [Nat.add_zero] at hb0
   have hb0' : bt s (i : Int) = byZ d := hb0
   rw [if_neg (by omega), if_pos (by omega), if_pos (by omega), hb0']
   obtain ⟨k, rfl⟩ : ∃ j, k = j + 2 := ⟨k - 2, by omega⟩
   rw [trail_z hd.1 hd.2 k, Option.bind_some, if_pos rfl, bw64 (x := v * 243) (by omega) (by omega), bw64 (x := v * 243 + d) (by omega) (by omega), hw, goZ]
   exact range_go s f t ht hf n (i + 1) vs (v * 243 + d) sp (k + 2) (by omega) (by omega) (fun j hj => by
    have := hb (j + 1) (by simp; omega)
    rw [show i + 1 + j = i + (j + 1) by omega, this]
    rfl) (fun x hx => hv x (List.mem_cons_of_mem _ hx)) (.inl (by omega)) (by omega) (by omega) s0 (by omega) (by omega)
theorem strOf_bt {l : List Int} (h : ∀ x ∈ l, 0 ≤ x ∧ x ≤ 255) (i : Nat) : bt (strOf l) (i : Int) = l.getD i 0 := bt_str l h i
theorem rng_z {b0 f : Int} {t : Nat} {vs : List Int} (h0 : 33 ≤ b0) (h1 : b0 ≤ 254) (hf : diff_first.f b0 = some (f, (t : Int))) (ht : t ≤ 3) (hfb : -15000000 ≤ f ∧ f ≤ 15000000) (hl : vs.length ≤ t) (hv : ∀ x ∈ vs, 0 ≤ x ∧ x < 243) :
  rngB (b0 :: vs.map byZ) = (f + (goZ t vs 0 1).1, f + (goZ t vs 0 1).1 + (goZ t vs 0 1).2 - 1, (t : Int) + 1, true) := by
 have hr : ∀ x ∈ b0 :: vs.map byZ, 0 ≤ x ∧ x ≤ 255 := fun x hx => by
  rcases List.mem_cons.1 hx with e | e
  ·omega
  ·obtain ⟨y, hy, rfl⟩ := List.mem_map.1 e
   have := byZ_rng (hv y hy).1 (hv y hy).2
   omega
 have hsz : (strOf (b0 :: vs.map byZ)).size = vs.length + 1 := by rw [strOf_size]; simp
 have hb0 : bt (strOf (b0 :: vs.map byZ)) 0 = b0 := strOf_bt hr 0
 have hne : ¬ (strOf (b0 :: vs.map byZ)).toList = [] := fun e => by
  have : (strOf (b0 :: vs.map byZ)).toList.length = vs.length + 1 := by rw [ByteArray.toList_eq]; simp [hsz]
  rw [e] at this; simp at this
 unfold rngB diff_Range.f
 rw [if_neg hne, if_pos (by rw [hsz]; omega), hb0, if_neg (by omega), decide_eq_false (by omega), diff_Range.j0, if_neg (by decide), if_pos (by rw [hsz]; omega), hb0, hf, Option.bind_some, if_neg (by
  rw [hsz, bw64 (by show _ ≤ (t : Int) + 1; omega) (by show (t : Int) + 1 ≤ _; omega)]
  show ¬ ((vs.length + 1 : Nat) : Int) > (t : Int) + 1
  omega)]
 have := range_go (strOf (b0 :: vs.map byZ)) f t ht hfb t 1 vs 0 1 29 (by omega) (Nat.le_refl _) (fun j hj => by
  rw [strOf_bt hr (1 + j), Nat.add_comm 1 j]
  show (vs.map byZ).getD j 0 = _
  rw [List.getD_eq_getElem?_getD, List.getD_eq_getElem?_getD, List.getElem?_map, List.getElem?_eq_getElem hj]
  rfl) hv (.inl (by rw [hsz]; omega)) (Int.le_refl _) (by have := bnd_le t; omega) (Int.le_refl _) (bnd_le t).1 (by omega)
 rw [show ((1 : Nat) : Int) = 1 from rfl] at this
 rw [this]
 rfl
theorem some_z {lo hi c : Int} (h0 : lo ≤ c) (h1 : c ≤ hi) (c0 : 33 ≤ c) (c1 : c ≤ 1114111) (c2 : ¬ (55296 ≤ c ∧ c ≤ 57343)) : someB lo hi = true := by
 unfold someB bocu_some.f mx mn
 (repeat' split) <;> simp_all <;> omega
theorem next_part {p b lo hi n : Int} {P : List Int} (hP : P = [] → 33 ≤ b ∧ b ≤ 254) (hr : rngB (P ++ [b]) = (lo, hi, n, true)) (hs : someB (wrap64 (p + lo)) (wrap64 (p + hi)) = true) (hn : ¬ ((P ++ [b]).length : Int) = n) : nextB (p, P) b = some ((p, P ++ [b]), []) := by
 unfold nextB
 dsimp only
 rw [if_neg (fun h => by have := hP h.1; omega), if_neg (fun h => by have := hP h.1; omega), hr]
 dsimp only
 rw [if_neg (fun h => h.elim (fun h => by cases h) (fun h => by rw [hs] at h; cases h)), if_neg hn]
theorem next_last {p b lo hi n c : Int} {P : List Int} (hP : P = [] → 33 ≤ b ∧ b ≤ 254) (hr : rngB (P ++ [b]) = (lo, hi, n, true)) (hs : someB (wrap64 (p + lo)) (wrap64 (p + hi)) = true) (hn : ((P ++ [b]).length : Int) = n) (hc : wrap64 (p + lo) % 4294967296 = c) : nextB (p, P) b = some ((prevB c, []), [c]) := by
 unfold nextB
 dsimp only
 rw [if_neg (fun h => by have := hP h.1; omega), if_neg (fun h => by have := hP h.1; omega), hr]
 dsimp only
 rw [if_neg (fun h => h.elim (fun h => by cases h) (fun h => by rw [hs] at h; cases h)), if_pos hn, hc]
def RunM (D : DMach) (s : D.St) (bs : List Int) (s' : D.St) (told : List Int) : Prop := ∀ rest p acc, ∃ q, runD D s (bs ++ rest) p acc = runD D s' rest q (acc ++ told)
theorem RunM.cons {D : DMach} {s s1 s' : D.St} {b : Int} {bs k t : List Int} (h : D.next s b = some (s1, k)) (h2 : RunM D s1 bs s' t) : RunM D s (b :: bs) s' (k ++ t) := fun rest p acc => by
 obtain ⟨q, hq⟩ := h2 rest (p + 1) (acc ++ k)
 exact ⟨q, by rw [List.cons_append, runD_some h, hq, List.append_assoc]⟩
theorem RunM.nil {D : DMach} (s : D.St) : RunM D s [] s [] := fun rest p acc => ⟨p, by rw [List.append_nil]; rfl⟩
theorem diff_run {p c b0 f : Int} {t : Nat} {vs : List Int} (h0 : 33 ≤ b0) (h1 : b0 ≤ 254) (hf : diff_first.f b0 = some (f, (t : Int))) (ht : t ≤ 3) (hfb : -15000000 ≤ f ∧ f ≤ 15000000) (hl : vs.length = t) (hv : ∀ x ∈ vs, 0 ≤ x ∧ x < 243)
  (hp : 0 ≤ p ∧ p ≤ 1114111) (c0 : 33 ≤ c) (c1 : c ≤ 1114111) (c2 : ¬ (55296 ≤ c ∧ c ≤ 57343)) (hd : ∀ k, k ≤ t → f + (goZ t (vs.take k) 0 1).1 ≤ c - p ∧ c - p ≤ f + (goZ t (vs.take k) 0 1).1 + (goZ t (vs.take k) 0 1).2 - 1 ∧ f + (goZ t (vs.take k) 0 1).1 + (goZ t (vs.take k) 0 1).2 ≤ 100000000 ∧ -100000000 ≤ f + (goZ t (vs.take k) 0 1).1)
  (he : f + (goZ t vs 0 1).1 = c - p) : RunM DB (p, []) (b0 :: vs.map byZ) (prevB c, []) [c] := by
 have hR : ∀ k, k ≤ t → rngB (b0 :: (vs.take k).map byZ) = (f + (goZ t (vs.take k) 0 1).1, f + (goZ t (vs.take k) 0 1).1 + (goZ t (vs.take k) 0 1).2 - 1, (t : Int) + 1, true) := fun k hk =>
  rng_z h0 h1 hf ht hfb (by rw [List.length_take]; omega) (fun x hx => hv x (List.mem_of_mem_take hx))
 have hS : ∀ k, k ≤ t → someB (wrap64 (p + (f + (goZ t (vs.take k) 0 1).1))) (wrap64 (p + (f + (goZ t (vs.take k) 0 1).1 + (goZ t (vs.take k) 0 1).2 - 1))) = true := fun k hk => by
  obtain ⟨d1, d2, d3, d4⟩ := hd k hk
  rw [bw64 (by omega) (by omega), bw64 (by omega) (by omega)]
  exact some_z (c := c) (by omega) (by omega) c0 c1 c2
 have key : ∀ m k, k + m = t → k < t → RunM DB (p, b0 :: (vs.take k).map byZ) ((vs.drop k).map byZ) (prevB c, []) [c] := by
  intro m
  induction m with
  | zero => intro k hk hkt; omega
  | succ m ih =>
   intro k hk hkt
   have hdk : vs.drop k = vs.getD k 0 :: vs.drop (k + 1) := drop_cons vs k (by omega)
   have htk : vs.take (k + 1) = vs.take k ++ [vs.getD k 0] := by rw [List.take_add_one, List.getD_eq_getElem?_getD, List.getElem?_eq_getElem (by omega)]; rfl
   have eP : (b0 :: (vs.take k).map byZ) ++ [byZ (vs.getD k 0)] = b0 :: (vs.take (k + 1)).map byZ := by rw [htk]; simp
   have hlen : ((b0 :: (vs.take k).map byZ) ++ [byZ (vs.getD k 0)]).length = k + 2 := by simp; omega
   rw [hdk, List.map_cons]
   have hr := hR (k + 1) (by omega)
   have hs := hS (k + 1) (by omega)
   by_cases hlast : k + 1 = t
   ·have hvs : vs.take (k + 1) = vs := List.take_of_length_le (by omega)
    have hdn : vs.drop (k + 1) = [] := List.drop_eq_nil_of_le (by omega)
    rw [hdn]
    have hn : nextB (p, b0 :: (vs.take k).map byZ) (byZ (vs.getD k 0)) = some ((prevB c, []), [c]) := by
     refine next_last (fun h => by cases h) (by rw [eP]; exact hr) hs (by rw [hlen]; omega) ?_
     rw [hvs, he, bw64 (by omega) (by omega)]
     omega
    exact RunM.cons (D := DB) (k := [c]) (t := []) hn (RunM.nil _)
   ·have hn : nextB (p, b0 :: (vs.take k).map byZ) (byZ (vs.getD k 0)) = some ((p, b0 :: (vs.take (k + 1)).map byZ), []) := by
     rw [← eP]
     exact next_part (fun h => by cases h) (by rw [eP]; exact hr) hs (by rw [hlen]; omega)
    exact RunM.cons (D := DB) (k := []) (t := [c]) hn (ih (k + 1) (by omega) (by omega))
 have hr := hR 0 (Nat.zero_le _)
 have hs := hS 0 (Nat.zero_le _)
 rw [List.take_zero] at hr hs
 by_cases h : t = 0
 ·have hv0 : vs = [] := List.eq_nil_of_length_eq_zero (by omega)
  have hn : nextB (p, []) b0 = some ((prevB c, []), [c]) := by
   refine next_last (P := []) (fun _ => ⟨h0, h1⟩) hr hs (by rw [h]; rfl) ?_
   rw [hv0] at he
   rw [he, bw64 (by omega) (by omega)]
   omega
  rw [hv0]
  exact RunM.cons (D := DB) (k := [c]) (t := []) hn (RunM.nil _)
 ·have hn : nextB (p, []) b0 = some ((p, [b0]), []) := next_part (P := []) (fun _ => ⟨h0, h1⟩) hr hs (by show ¬ ((1 : Nat) : Int) = (t : Int) + 1; omega)
  exact RunM.cons (D := DB) (k := []) (t := [c]) hn (key t 0 (by omega) (by omega))
theorem pack_step {x l : Int} {out : List Int} {n k : Nat} (hx : -20000000 ≤ x ∧ x ≤ 20000000) (ho : n + 1 < out.length) (hn : n ≤ 10) : diff_Pack.l0 (k + 2) x l out ((n + 1 : Nat) : Int) = diff_Pack.l0 (k + 1) (x / 243) l (out.set (n + 1) (byZ (x % 243))) (n : Int) := by
 have hw : wrap64 (((n + 1 : Nat) : Int) - 1) = (n : Int) := by rw [bw64 (by omega) (by omega)]; omega
 have hN : (((n + 1 : Nat) : Int)).toNat = n + 1 := Int.toNat_natCast _
 have h0 : 0 ≤ x % 243 := Int.emod_nonneg _ (by decide)
 have h1 : x % 243 < 243 := Int.emod_lt_of_pos _ (by decide)
 rw [diff_Pack.l0, if_pos (by omega)]
 by_cases hp : 0 ≤ x
 ·have e1 : Int.tmod x 243 = x % 243 := Int.tmod_eq_emod_of_nonneg hp
  have e2 : Int.tdiv x 243 = x / 243 := Int.tdiv_eq_ediv_of_nonneg hp
  rw [e1, e2, if_neg (by omega), byte_z h0 h1, Option.bind_some, if_pos (by omega), if_pos (by omega), bw64 (x := x / 243) (by omega) (by omega), hw, hN]
 ·obtain ⟨y, rfl⟩ : ∃ y : Int, x = -y := ⟨-x, by omega⟩
  have hy : 0 ≤ y := by omega
  have e1 : Int.tmod (-y) 243 = -(y % 243) := by rw [Int.neg_tmod, Int.tmod_eq_emod_of_nonneg hy]
  have e2 : Int.tdiv (-y) 243 = -(y / 243) := by rw [Int.neg_tdiv, Int.tdiv_eq_ediv_of_nonneg hy]
  rw [e1, e2]
  by_cases hz : y % 243 = 0
  ·rw [if_neg (by omega), show -(y % 243) = -y % 243 by omega, byte_z h0 h1, Option.bind_some, if_pos (by omega), if_pos (by omega), bw64 (x := -(y / 243)) (by omega) (by omega), show -(y / 243) = -y / 243 by omega, hw, hN]
  ·rw [if_pos (by omega), bw64 (x := -(y % 243) + 243) (by omega) (by omega), show -(y % 243) + 243 = -y % 243 by omega, byte_z h0 h1, Option.bind_some, if_pos (by omega), if_pos (by omega), bw64 (x := -(y / 243)) (by omega) (by omega), bw64 (x := -(y / 243) - 1) (by omega) (by omega), show -(y / 243) - 1 = -y / 243 by omega, hw, hN]
theorem pack_end {x l : Int} {out : List Int} {k : Nat} (ho : 0 < out.length) (hx : -20000000 ≤ x ∧ x ≤ 20000000) (hl : 0 ≤ l ∧ l ≤ 255) : diff_Pack.l0 (k + 1) x l out ((0 : Nat) : Int) = some (strOfNums (out.set 0 ((l + x) % 256)), true) := by
 rw [diff_Pack.l0, if_neg (by decide), if_pos (by omega), bw64 (by omega) (by omega)]
 rfl
theorem pack_open {d x l : Int} {t : Nat} (h0 : -1114111 ≤ d) (h1 : d ≤ 1114111) (ht : t ≤ 3) (hp : diff_place.f 19 d = some (x, l, (t : Int))) : diff_Pack.f 20 d = diff_Pack.l0 19 x l (List.replicate (t + 1) 0) (t : Int) := by
 unfold diff_Pack.f
 have hw : wrap64 ((t : Int) + 1) = ((t + 1 : Nat) : Int) := by rw [bw64 (by omega) (by omega)]; omega
 rw [if_neg (by omega), decide_eq_false (by omega), diff_Pack.j0, if_neg (by decide), hp, Option.bind_some]
 dsimp only
 rw [hw, if_pos (by omega), Int.toNat_natCast, if_pos (by omega)]
theorem bytes_st {l : List Int} (h : ∀ x ∈ l, 0 ≤ x ∧ x ≤ 255) {d : Int} (hp : diff_Pack.f 20 d = some (strOfNums l, true)) : packB d = l := by
 unfold packB
 rw [hp]
 exact bytes_str l h
theorem vs_rng {x : Int} : 0 ≤ x % 243 ∧ x % 243 < 243 := ⟨Int.emod_nonneg _ (by decide), Int.emod_lt_of_pos _ (by decide)⟩
theorem pack0 {d x l : Int} (h0 : -1114111 ≤ d) (h1 : d ≤ 1114111) (hp : diff_place.f 19 d = some (x, l, 0)) (hx : -20000000 ≤ x ∧ x ≤ 20000000) (hl : 0 ≤ l ∧ l ≤ 255) (hb : 0 ≤ l + x ∧ l + x ≤ 255) : packB d = (l + x) :: ([] : List Int).map byZ := by
 refine bytes_st (fun y hy => by rw [List.map_nil, List.mem_singleton] at hy; omega) ?_
 rw [pack_open (t := 0) h0 h1 (by decide) hp, pack_end (by decide) hx hl, show (l + x) % 256 = l + x by omega]
 rfl
theorem pack1 {d x l : Int} (h0 : -1114111 ≤ d) (h1 : d ≤ 1114111) (hp : diff_place.f 19 d = some (x, l, 1)) (hx : -20000000 ≤ x ∧ x ≤ 20000000) (hl : 0 ≤ l ∧ l ≤ 255) (hb : 0 ≤ l + x / 243 ∧ l + x / 243 ≤ 255) : packB d = (l + x / 243) :: [x % 243].map byZ := by
 have r1 := byZ_rng (vs_rng (x := x)).1 (vs_rng (x := x)).2
 refine bytes_st (fun y hy => by simp only [List.map_cons, List.map_nil, List.mem_cons, List.not_mem_nil, or_false] at hy; omega) ?_
 rw [pack_open (t := 1) h0 h1 (by decide) hp, pack_step hx (by decide) (by decide), pack_end (by simp) (by omega) hl, show (l + x / 243) % 256 = l + x / 243 by omega]
 rfl
theorem pack2 {d x l : Int} (h0 : -1114111 ≤ d) (h1 : d ≤ 1114111) (hp : diff_place.f 19 d = some (x, l, 2)) (hx : -20000000 ≤ x ∧ x ≤ 20000000) (hl : 0 ≤ l ∧ l ≤ 255) (hb : 0 ≤ l + x / 243 / 243 ∧ l + x / 243 / 243 ≤ 255) : packB d = (l + x / 243 / 243) :: [x / 243 % 243, x % 243].map byZ := by
 have r1 := byZ_rng (vs_rng (x := x)).1 (vs_rng (x := x)).2
 have r2 := byZ_rng (vs_rng (x := x / 243)).1 (vs_rng (x := x / 243)).2
 refine bytes_st (fun y hy => by simp only [List.map_cons, List.map_nil, List.mem_cons, List.not_mem_nil, or_false] at hy; omega) ?_
 rw [pack_open (t := 2) h0 h1 (by decide) hp, pack_step hx (by decide) (by decide), pack_step (by omega) (by simp) (by decide), pack_end (by simp) (by omega) hl, show (l + x / 243 / 243) % 256 = l + x / 243 / 243 by omega]
 rfl
theorem pack3 {d x l : Int} (h0 : -1114111 ≤ d) (h1 : d ≤ 1114111) (hp : diff_place.f 19 d = some (x, l, 3)) (hx : -20000000 ≤ x ∧ x ≤ 20000000) (hl : 0 ≤ l ∧ l ≤ 255) (hb : 0 ≤ l + x / 243 / 243 / 243 ∧ l + x / 243 / 243 / 243 ≤ 255) : packB d = (l + x / 243 / 243 / 243) :: [x / 243 / 243 % 243, x / 243 % 243, x % 243].map byZ := by
 have r1 := byZ_rng (vs_rng (x := x)).1 (vs_rng (x := x)).2
 have r2 := byZ_rng (vs_rng (x := x / 243)).1 (vs_rng (x := x / 243)).2
 have r3 := byZ_rng (vs_rng (x := x / 243 / 243)).1 (vs_rng (x := x / 243 / 243)).2
 refine bytes_st (fun y hy => by simp only [List.map_cons, List.map_nil, List.mem_cons, List.not_mem_nil, or_false] at hy; omega) ?_
 rw [pack_open (t := 3) h0 h1 (by decide) hp, pack_step hx (by decide) (by decide), pack_step (by omega) (by simp) (by decide), pack_step (by omega) (by simp) (by decide), pack_end (by simp) (by omega) hl, show (l + x / 243 / 243 / 243) % 256 = l + x / 243 / 243 / 243 by omega]
 rfl
theorem first_z (b f t : Int) (hb : 0 ≤ b ∧ b ≤ 254) (h : (b = 254 ∧ f = 187660 ∧ t = 3) ∨ (251 ≤ b ∧ b < 254 ∧ f = 10513 + (b - 251) * 243 * 243 ∧ t = 2) ∨ (208 ≤ b ∧ b < 251 ∧ f = 64 + (b - 208) * 243 ∧ t = 1) ∨ (80 ≤ b ∧ b < 208 ∧ f = b - 144 ∧ t = 0) ∨ (37 ≤ b ∧ b < 80 ∧ f = -64 + (b - 80) * 243 ∧ t = 1) ∨ (34 ≤ b ∧ b < 37 ∧ f = -10513 + (b - 37) * 243 * 243 ∧ t = 2) ∨ (b < 34 ∧ f = -14536567 ∧ t = 3)) : diff_first.f b = some (f, t) := by
 unfold diff_first.f
 rw [bw64 (x := b) (by omega) (by omega), bw64 (x := b - 251) (by omega) (by omega), bw64 (x := (b - 251) * 243) (by omega) (by omega), bw64 (x := (b - 251) * 243 * 243) (by omega) (by omega), bw64 (x := 10513 + (b - 251) * 243 * 243) (by omega) (by omega), bw64 (x := b - 208) (by omega) (by omega), bw64 (x := (b - 208) * 243) (by omega) (by omega), bw64 (x := 64 + (b - 208) * 243) (by omega) (by omega), bw64 (x := b - 144) (by omega) (by omega), bw64 (x := b - 80) (by omega) (by omega), bw64 (x := (b - 80) * 243) (by omega) (by omega), bw64 (x := -64 + (b - 80) * 243) (by omega) (by omega), bw64 (x := b - 37) (by omega) (by omega), bw64 (x := (b - 37) * 243) (by omega) (by omega), bw64 (x := (b - 37) * 243 * 243) (by omega) (by omega), bw64 (x := -10513 + (b - 37) * 243 * 243) (by omega) (by omega)]
 rcases h with ⟨h1, rfl, rfl⟩ | ⟨h1, h2, rfl, rfl⟩ | ⟨h1, h2, rfl, rfl⟩ | ⟨h1, h2, rfl, rfl⟩ | ⟨h1, h2, rfl, rfl⟩ | ⟨h1, h2, rfl, rfl⟩ | ⟨h1, rfl, rfl⟩
 ·rw [if_pos (by omega)]
 ·rw [if_neg (by omega), if_pos (by omega)]
 ·rw [if_neg (by omega), if_neg (by omega), if_pos (by omega)]
 ·rw [if_neg (by omega), if_neg (by omega), if_neg (by omega), if_pos (by omega)]
 ·rw [if_neg (by omega), if_neg (by omega), if_neg (by omega), if_neg (by omega), if_pos (by omega)]
 ·rw [if_neg (by omega), if_neg (by omega), if_neg (by omega), if_neg (by omega), if_neg (by omega), if_pos (by omega)]
 ·rw [if_neg (by omega), if_neg (by omega), if_neg (by omega), if_neg (by omega), if_neg (by omega), if_neg (by omega)]
theorem place_z (d x l t : Int) (hd : -1114111 ≤ d ∧ d ≤ 1114111) (h : (-64 ≤ d ∧ d ≤ 63 ∧ x = 0 ∧ l = 144 + d ∧ t = 0) ∨ (187659 < d ∧ x = d - 187660 ∧ l = 254 ∧ t = 3) ∨ (10512 < d ∧ d ≤ 187659 ∧ x = d - 10513 ∧ l = 251 ∧ t = 2) ∨ (63 < d ∧ d ≤ 10512 ∧ x = d - 64 ∧ l = 208 ∧ t = 1) ∨ (d < -187660 ∧ x = d + 187660 ∧ l = 34 ∧ t = 3) ∨ (-187660 ≤ d ∧ d < -10513 ∧ x = d + 10513 ∧ l = 37 ∧ t = 2) ∨ (-10513 ≤ d ∧ d < -64 ∧ x = d + 64 ∧ l = 80 ∧ t = 1)) : diff_place.f 19 d = some (x, l, t) := by
 have hj : ∀ b, b = decide (-64 ≤ d ∧ d ≤ 63) → diff_place.j0 19 d b = some (x, l, t) := by
  intro b hb
  rw [diff_place.j0, bw64 (x := 144 + d) (by omega) (by omega), bw64 (x := d - 187659) (by omega) (by omega), bw64 (x := d - 187659 - 1) (by omega) (by omega), bw64 (x := d - 10512) (by omega) (by omega), bw64 (x := d - 10512 - 1) (by omega) (by omega), bw64 (x := d - 63) (by omega) (by omega), bw64 (x := d - 63 - 1) (by omega) (by omega), bw64 (x := d - -187660) (by omega) (by omega), bw64 (x := d - -10513) (by omega) (by omega), bw64 (x := d - -64) (by omega) (by omega)]
  rcases h with ⟨h1, h2, rfl, rfl, rfl⟩ | ⟨h1, rfl, rfl, rfl⟩ | ⟨h1, h2, rfl, rfl, rfl⟩ | ⟨h1, h2, rfl, rfl, rfl⟩ | ⟨h1, rfl, rfl, rfl⟩ | ⟨h1, h2, rfl, rfl, rfl⟩ | ⟨h1, h2, rfl, rfl, rfl⟩
  ·rw [hb, decide_eq_true ⟨h1, h2⟩, if_pos rfl]
  ·rw [hb, decide_eq_false (by omega), if_neg (by decide), if_pos (by omega), show d - 187659 - 1 = d - 187660 by omega]
  ·rw [hb, decide_eq_false (by omega), if_neg (by decide), if_neg (by omega), if_pos (by omega), show d - 10512 - 1 = d - 10513 by omega]
  ·rw [hb, decide_eq_false (by omega), if_neg (by decide), if_neg (by omega), if_neg (by omega), if_pos (by omega), show d - 63 - 1 = d - 64 by omega]
  ·rw [hb, decide_eq_false (by omega), if_neg (by decide), if_neg (by omega), if_neg (by omega), if_neg (by omega), if_pos (by omega), show d - -187660 = d + 187660 by omega]
  ·rw [hb, decide_eq_false (by omega), if_neg (by decide), if_neg (by omega), if_neg (by omega), if_neg (by omega), if_neg (by omega), if_pos (by omega), show d - -10513 = d + 10513 by omega]
  ·rw [hb, decide_eq_false (by omega), if_neg (by decide), if_neg (by omega), if_neg (by omega), if_neg (by omega), if_neg (by omega), if_neg (by omega), show d - -64 = d + 64 by omega]
 unfold diff_place.f
 by_cases a : d ≥ -64
 ·rw [if_pos a]
  exact hj _ (by rw [decide_eq_decide]; omega)
 ·rw [if_neg a]
  exact hj _ (by rw [decide_eq_false (by omega)])
theorem go0 (k : Nat) : goZ 0 (([] : List Int).take k) 0 1 = (0, 1) := rfl
set_option maxHeartbeats 4000000 in
theorem pack_run {p c : Int} (hp : 0 ≤ p ∧ p ≤ 1114111) (c0 : 33 ≤ c) (c1 : c ≤ 1114111) (c2 : ¬ (55296 ≤ c ∧ c ≤ 57343)) : RunM DB (p, []) (packB (c - p)) (prevB c, []) [c] := by
 obtain ⟨d, hd⟩ : ∃ d, c - p = d := ⟨_, rfl⟩
 have hdb : -1114111 ≤ d ∧ d ≤ 1114111 := by omega
 rw [hd]
 have T0 : ∀ (x l : Int), diff_place.f 19 d = some (x, l, 0) → -20000000 ≤ x ∧ x ≤ 20000000 → 0 ≤ l ∧ l ≤ 255 → 33 ≤ l + x ∧ l + x ≤ 254 → diff_first.f (l + x) = some (d, 0) → RunM DB (p, []) (packB d) (prevB c, []) [c] := fun x l h1 h2 h3 h4 h5 => by
  rw [pack0 hdb.1 hdb.2 h1 h2 h3 (by omega)]
  refine diff_run (f := d) (t := 0) h4.1 h4.2 h5 (by decide) (by omega) rfl (fun y hy => by cases hy) hp c0 c1 c2 (fun k hk => ?_) ?_
  ·rw [go0]; dsimp only; omega
  ·show d + 0 = c - p; omega
 have T1 : ∀ (x l f : Int), diff_place.f 19 d = some (x, l, 1) → -20000000 ≤ x ∧ x ≤ 20000000 → 0 ≤ l ∧ l ≤ 255 → 33 ≤ l + x / 243 ∧ l + x / 243 ≤ 254 → diff_first.f (l + x / 243) = some (f, 1) → f + x % 243 = d → RunM DB (p, []) (packB d) (prevB c, []) [c] := fun x l f h1 h2 h3 h4 h5 h6 => by
  have r := vs_rng (x := x)
  rw [pack1 hdb.1 hdb.2 h1 h2 h3 (by omega)]
  refine diff_run (f := f) (t := 1) h4.1 h4.2 h5 (by decide) (by omega) rfl (fun y hy => by rw [List.mem_singleton] at hy; rw [hy]; exact r) hp c0 c1 c2 (fun k hk => ?_) ?_
  ·have : k = 0 ∨ k = 1 := by omega
   rcases this with rfl | rfl
   ·show f + 0 * 243 ≤ _ ∧ _ ≤ f + 0 * 243 + 1 * 243 - 1 ∧ f + 0 * 243 + 1 * 243 ≤ _ ∧ _ ≤ f + 0 * 243; omega
   ·show f + (0 * 243 + x % 243) ≤ _ ∧ _ ≤ f + (0 * 243 + x % 243) + 1 - 1 ∧ f + (0 * 243 + x % 243) + 1 ≤ _ ∧ _ ≤ f + (0 * 243 + x % 243); omega
  ·show f + (0 * 243 + x % 243) = c - p; omega
 have T2 : ∀ (x l f : Int), diff_place.f 19 d = some (x, l, 2) → -20000000 ≤ x ∧ x ≤ 20000000 → 0 ≤ l ∧ l ≤ 255 → 33 ≤ l + x / 243 / 243 ∧ l + x / 243 / 243 ≤ 254 → diff_first.f (l + x / 243 / 243) = some (f, 2) → f + (x / 243 % 243 * 243 + x % 243) = d → RunM DB (p, []) (packB d) (prevB c, []) [c] := fun x l f h1 h2 h3 h4 h5 h6 => by
  have r := vs_rng (x := x)
  have r2 := vs_rng (x := x / 243)
  rw [pack2 hdb.1 hdb.2 h1 h2 h3 (by omega)]
  obtain ⟨a, ha⟩ : ∃ a, x / 243 % 243 = a := ⟨_, rfl⟩
  obtain ⟨b, hb⟩ : ∃ b, x % 243 = b := ⟨_, rfl⟩
  rw [ha] at r2 h6 ⊢
  rw [hb] at r h6 ⊢
  refine diff_run (f := f) (t := 2) h4.1 h4.2 h5 (by decide) (by omega) rfl (fun y hy => by simp only [List.mem_cons, List.not_mem_nil, or_false] at hy; omega) hp c0 c1 c2 (fun k hk => ?_) ?_
  ·have : k = 0 ∨ k = 1 ∨ k = 2 := by omega
   rcases this with rfl | rfl | rfl
   ·show f + 0 * 243 * 243 ≤ _ ∧ _ ≤ f + 0 * 243 * 243 + 1 * 243 * 243 - 1 ∧ f + 0 * 243 * 243 + 1 * 243 * 243 ≤ _ ∧ _ ≤ f + 0 * 243 * 243; omega
   ·show f + (0 * 243 + a) * 243 ≤ _ ∧ _ ≤ f + (0 * 243 + a) * 243 + 1 * 243 - 1 ∧ f + (0 * 243 + a) * 243 + 1 * 243 ≤ _ ∧ _ ≤ f + (0 * 243 + a) * 243; omega
   ·show f + ((0 * 243 + a) * 243 + b) ≤ _ ∧ _ ≤ f + ((0 * 243 + a) * 243 + b) + 1 - 1 ∧ f + ((0 * 243 + a) * 243 + b) + 1 ≤ _ ∧ _ ≤ f + ((0 * 243 + a) * 243 + b); omega
  ·show f + ((0 * 243 + a) * 243 + b) = c - p; omega
 have T3 : ∀ (x l f : Int), diff_place.f 19 d = some (x, l, 3) → -20000000 ≤ x ∧ x ≤ 20000000 → 0 ≤ l ∧ l ≤ 255 → 33 ≤ l + x / 243 / 243 / 243 ∧ l + x / 243 / 243 / 243 ≤ 254 → diff_first.f (l + x / 243 / 243 / 243) = some (f, 3) → f + ((x / 243 / 243 % 243 * 243 + x / 243 % 243) * 243 + x % 243) = d → -15000000 ≤ f ∧ f ≤ 15000000 → RunM DB (p, []) (packB d) (prevB c, []) [c] := fun x l f h1 h2 h3 h4 h5 h6 h7 => by
  have r := vs_rng (x := x)
  have r2 := vs_rng (x := x / 243)
  have r3 := vs_rng (x := x / 243 / 243)
  rw [pack3 hdb.1 hdb.2 h1 h2 h3 (by omega)]
  obtain ⟨g, hg⟩ : ∃ a, x / 243 / 243 % 243 = a := ⟨_, rfl⟩
  obtain ⟨a, ha⟩ : ∃ a, x / 243 % 243 = a := ⟨_, rfl⟩
  obtain ⟨b, hb⟩ : ∃ b, x % 243 = b := ⟨_, rfl⟩
  rw [hg] at r3 h6 ⊢
  rw [ha] at r2 h6 ⊢
  rw [hb] at r h6 ⊢
  refine diff_run (f := f) (t := 3) h4.1 h4.2 h5 (by decide) h7 rfl (fun y hy => by simp only [List.mem_cons, List.not_mem_nil, or_false] at hy; omega) hp c0 c1 c2 (fun k hk => ?_) ?_
  ·have : k = 0 ∨ k = 1 ∨ k = 2 ∨ k = 3 := by omega
   rcases this with rfl | rfl | rfl | rfl
   ·show f + 0 * 243 * 243 * 243 ≤ _ ∧ _ ≤ f + 0 * 243 * 243 * 243 + 1 * 243 * 243 * 243 - 1 ∧ f + 0 * 243 * 243 * 243 + 1 * 243 * 243 * 243 ≤ _ ∧ _ ≤ f + 0 * 243 * 243 * 243; omega
   ·show f + (0 * 243 + g) * 243 * 243 ≤ _ ∧ _ ≤ f + (0 * 243 + g) * 243 * 243 + 1 * 243 * 243 - 1 ∧ f + (0 * 243 + g) * 243 * 243 + 1 * 243 * 243 ≤ _ ∧ _ ≤ f + (0 * 243 + g) * 243 * 243; omega
   ·show f + ((0 * 243 + g) * 243 + a) * 243 ≤ _ ∧ _ ≤ f + ((0 * 243 + g) * 243 + a) * 243 + 1 * 243 - 1 ∧ f + ((0 * 243 + g) * 243 + a) * 243 + 1 * 243 ≤ _ ∧ _ ≤ f + ((0 * 243 + g) * 243 + a) * 243; omega
   ·show f + (((0 * 243 + g) * 243 + a) * 243 + b) ≤ _ ∧ _ ≤ f + (((0 * 243 + g) * 243 + a) * 243 + b) + 1 - 1 ∧ f + (((0 * 243 + g) * 243 + a) * 243 + b) + 1 ≤ _ ∧ _ ≤ f + (((0 * 243 + g) * 243 + a) * 243 + b); omega
  ·show f + (((0 * 243 + g) * 243 + a) * 243 + b) = c - p; omega
 by_cases a1 : -64 ≤ d ∧ d ≤ 63
 ·exact T0 0 (144 + d) (place_z d _ _ _ hdb (.inl ⟨a1.1, a1.2, rfl, rfl, rfl⟩)) (by omega) (by omega) (by omega) (first_z _ _ _ (by omega) (by omega))
 by_cases a2 : 187659 < d
 ·exact T3 (d - 187660) 254 187660 (place_z d _ _ _ hdb (by omega)) (by omega) (by omega) (by omega) (first_z _ _ _ (by omega) (by omega)) (by omega) (by omega)
 by_cases a3 : 10512 < d
 ·exact T2 (d - 10513) 251 (10513 + ((d - 10513) / 243 / 243) * 243 * 243) (place_z d _ _ _ hdb (by omega)) (by omega) (by omega) (by omega) (first_z _ _ _ (by omega) (by omega)) (by omega)
 by_cases a4 : 63 < d
 ·exact T1 (d - 64) 208 (64 + (d - 64) / 243 * 243) (place_z d _ _ _ hdb (by omega)) (by omega) (by omega) (by omega) (first_z _ _ _ (by omega) (by omega)) (by omega)
 by_cases a5 : d < -187660
 ·exact T3 (d + 187660) 34 (-14536567) (place_z d _ _ _ hdb (by omega)) (by omega) (by omega) (by omega) (first_z _ _ _ (by omega) (by omega)) (by omega) (by omega)
 by_cases a6 : d < -10513
 ·exact T2 (d + 10513) 37 (-10513 + ((d + 10513) / 243 / 243) * 243 * 243) (place_z d _ _ _ hdb (by omega)) (by omega) (by omega) (by omega) (first_z _ _ _ (by omega) (by omega)) (by omega)
 ·exact T1 (d + 64) 80 (-64 + (d + 64) / 243 * 243) (place_z d _ _ _ hdb (by omega)) (by omega) (by omega) (by omega) (first_z _ _ _ (by omega) (by omega)) (by omega)
theorem prev_top {c : Int} (h0 : 0 ≤ c) (h1 : c ≤ 1114111) : 0 ≤ prevB c ∧ prevB c ≤ 1114111 := by
 have hb : (Go.bits .andNot .u32 c 127 + 64) % 4294967296 = c - c % 128 + 64 := by rw [u32_not127 c h0 (by omega)]; omega
 have key : prevB c = 12400 ∨ prevB c = 30481 ∨ prevB c = 49617 ∨ prevB c = c - c % 128 + 64 := by
  unfold prevB diff_Prev.f
  rw [diff_Prev.j0, diff_Prev.j0]
  rw [diff_Prev.j1, diff_Prev.j1, hb]
  (repeat' split) <;> simp
 omega
theorem backBo : BackM EBo DB := by
 refine SimM.back (I := fun st s pd => s = (Subtype.val (p := fun p : Int => 0 ≤ p ∧ p ≤ 4294967295) st, []) ∧ Subtype.val (p := fun p : Int => 0 ≤ p ∧ p ≤ 4294967295) st ≤ 1114111 ∧ pd = []) ⟨⟨rfl, by decide, rfl⟩, ?_, ?_⟩
 ·intro st s pd c hi h0 h1
  obtain ⟨rfl, hst, rfl⟩ := hi
  obtain ⟨p, p0, p1⟩ := st
  have hst' : p ≤ 1114111 := hst
  have hc1 : c ≤ 1114111 := by unfold isScal at h1; simp at h1; omega
  have hsur : ¬ (55296 ≤ c ∧ c ≤ 57343) := by unfold isScal at h1; simp at h1; omega
  by_cases a : c ≤ 32
  ·by_cases b : c < 32
   ·have hp : EBo.put ⟨p, p0, p1⟩ c = (⟨64, by decide⟩, [c]) := by show putBo _ c = _; unfold putBo; rw [if_pos a, if_pos b]; rfl
    rw [hp]
    have hn : nextB (p, []) c = some ((64, []), [c]) := by unfold nextB; rw [if_neg (by omega), if_pos ⟨rfl, a⟩, if_pos b]
    exact ⟨(64, []), [], [c], rfl, ⟨rfl, by show (64 : Int) ≤ 1114111; decide, rfl⟩, RunM.cons (D := DB) (k := [c]) (t := []) hn (RunM.nil _)⟩
   ·have hp : EBo.put ⟨p, p0, p1⟩ c = (⟨p, p0, p1⟩, [c]) := by show putBo _ c = _; unfold putBo; rw [if_pos a, if_neg b]; rfl
    rw [hp]
    have hn : nextB (p, []) c = some ((p, []), [c]) := by unfold nextB; rw [if_neg (by omega), if_pos ⟨rfl, a⟩, if_neg b]
    exact ⟨(p, []), [], [c], rfl, ⟨rfl, hst', rfl⟩, RunM.cons (D := DB) (k := [c]) (t := []) hn (RunM.nil _)⟩
  ·have hp : EBo.put ⟨p, p0, p1⟩ c = (⟨prevB c, prevB_range c⟩, packB (c - p)) := by show putBo _ c = _; unfold putBo; rw [if_neg a]; rfl
   rw [hp]
   exact ⟨(prevB c, []), [], [c], rfl, ⟨rfl, (prev_top h0 hc1).2, rfl⟩, pack_run ⟨p0, hst'⟩ (by omega) hc1 hsur⟩
 ·intro st s pd hi p acc
  obtain ⟨rfl, hst, rfl⟩ := hi
  show (match (if ([] : List Int) = [] then some [] else none : Option (List Int)) with | none => (acc, (4 : Int), (p : Int)) | some l => (acc ++ l, 0, 0)) = _
  rfl
end Go.Proofs.YtmgnndnofbemeaaGreat
