/- Joined texts: Usj, Utv, Utw, Uet, Kp, Kq, Ups. -/
import Derived.Test.YtppchdinolndmaaGreatMUsi
import Derived.Test.YtppchdinolndmaaGreatMUbl
import Derived.Test.YtppchdinolndmaaGreatMUpp
import Derived.Test.YtppchdinolndmaaGreatMUins
import Derived.Test.YtppchdinolndmaaGreatMUstp
import Derived.Test.YtppchdinolndmaaGreatMSb
import Derived.Deep.CutBlock
namespace Go.Proofs.YtppchdinolndmaaGreat
open Go.RowKit Go.Sort Go.Proofs.YtppchdinolndmaaGreatW.PrintWords
set_option linter.unusedVariables false
set_option linter.unusedSimpArgs false
theorem holds_of {w : World} {g cap : Nat} {cur : Array Value} {xs : List Int} (hh : w.heap[g]? = some (.cells cur 47 (0, 0))) (ht : cur.toList.take xs.length = nums .u32 xs) : Holds encU w g 0 xs.toArray := by
 intro j hj
 have hj : j < xs.length := by simpa using hj
 have hc : cur[j]? = some (.int .u32 xs[j]) := by
  have h1 : (cur.toList.take xs.length)[j]? = (nums .u32 xs)[j]? := by rw [ht]
  rw [List.getElem?_take_of_lt hj] at h1
  simp [nums, hj] at h1
  simpa using h1
 refine ⟨?_, ?_⟩
 ·simp only [World.cell?, hh, Nat.zero_add]
  rw [hc]
  simp [getElem!_pos, hj]
 ·simp [World.frozen?, hh]
theorem gw_heap {w : World} {n g : Nat} {d : Array Int} {os : Array Obj} {cur : Array Value} (hh : w.heap[g]? = some (.cells cur 47 (0, 0))) : (GW w n g 0 d os).heap[g]? = some (.cells (putCells encU 0 d cur) 47 (0, 0)) := by
 have hlt : g < w.heap.size := (Array.getElem?_eq_some_iff.1 hh).1
 unfold GW
 rw [heap_grow_old _ _ (by simpa using hlt)]
 unfold putRow mapBlock
 simp only [Array.getElem?_modify, heap_ahead, hh, if_true, Option.map_some, onCells]
theorem gw_eff (w : World) (n g : Nat) (d : Array Int) (os : Array Obj) : Eff w (GW w n g 0 d os) (fun k => k = g) := by
 refine ⟨rfl, rfl, rfl, by unfold GW; simp, fun k hk hne => ?_⟩
 unfold GW
 rw [heap_grow_old _ _ (by simpa using hk)]
 unfold putRow mapBlock
 simp only [Array.getElem?_modify, heap_ahead]
 rw [if_neg (Ne.symm hne)]
theorem put_take {cur : Array Value} {d : Array Int} (h : d.size ≤ cur.size) : ∀ k, k ≤ d.size → (putCells encU 0 d cur).toList.take k = nums .u32 (d.toList.take k) := by
 intro k hk
 apply List.ext_getElem?
 intro j
 by_cases hj : j < k
 ·rw [List.getElem?_take_of_lt hj]
  have hc : j < cur.size := by omega
  simp only [putCells, nums, Array.getElem?_toList, Array.getElem?_mapIdx, Array.getElem?_eq_getElem hc, Option.map_some, List.getElem?_map, List.getElem?_take_of_lt hj]
  rw [if_pos ⟨Nat.zero_le _, by omega⟩, Nat.sub_zero, getElem!_pos d j (by omega), Array.getElem?_eq_getElem (by omega : j < d.size)]
  rfl
 ·rw [List.getElem?_eq_none (by rw [List.length_take]; omega), List.getElem?_eq_none (by simp [nums]; omega)]
theorem gw_own {w : World} {n g cap base k : Nat} {d : Array Int} {os : Array Obj} {cur : Array Value} (hh : w.heap[g]? = some (.cells cur 47 (0, 0))) (hb : base ≤ g) (hcap : d.size ≤ cap) (hmx : cap ≤ maxLen) (hcs : cur.size = cap * 1) (hk : k ≤ d.size) :
  (GW w n g 0 d os).ownsRow base 47 1 (.slice (some ⟨g, 0, none⟩) k cap) k (nums .u32 (d.toList.take k)) :=
 ⟨by simp [nums]; omega, .inr ⟨g, cap, _, rfl, hb, gw_heap hh, by omega, hmx, by simp [putCells, hcs], by rw [Nat.mul_one]; exact put_take (by omega) k hk⟩⟩
theorem sorted_of {d : Array Int} (h : SortedIn ltInt 0 d.size d) : d.toList.Pairwise (fun a b => a ≤ b) := by
 rw [List.pairwise_iff_getElem]
 intro i j hi hj hij
 have hi' : i < d.size := by simpa using hi
 have hj' : j < d.size := by simpa using hj
 have := h i j (Nat.zero_le _) hij hj'
 rw [getElem!_pos d j hj', getElem!_pos d i hi'] at this
 simp only [ltInt, decide_eq_false_iff_not] at this
 simpa using this
theorem perm_of {d d' : Array Int} (h : PermIn 0 d.size d d') : d'.toList.Perm d.toList := by
 have h1 := h.2.2
 have hs := h.1
 have e1 : d.extract 0 d.size = d := by simp
 have e2 : d'.extract 0 d.size = d' := by rw [← hs]; simp
 rw [e1, e2] at h1
 exact h1
theorem sort_own {base : Nat} {v : Value} {xs : List Int} {w : World} (ho : w.ownsRow base 47 1 v xs.length (nums .u32 xs)) (hx : xs.length ≤ 1000000) :
  Calls Tryz.prog 125 #[v] w fun e w' => e = .returned (.tuple #[]) ∧ ∃ ys : List Int, (ys.Perm xs ∧ ys.Pairwise (fun a b => a ≤ b)) ∧ w'.ownsRow base 47 1 v ys.length (nums .u32 ys) ∧ Eff w w' (fun k => some k = v.ownBlock) := by
 rcases ho.2 with ⟨rfl, h0⟩ | ⟨g, cap, cur, rfl, hb, hh, hcap, hmx, hcs, ht⟩
 ·refine (sort_one none 0 0 (by decide) w).mono ?_
  rintro e w' ⟨rfl, rfl⟩
  have hx0 : xs = [] := List.eq_nil_of_length_eq_zero h0
  subst hx0
  exact ⟨rfl, [], ⟨List.Perm.refl _, List.Pairwise.nil⟩, ho, Eff.refl _ _⟩
 ·have hlt : g < w.heap.size := (Array.getElem?_eq_some_iff.1 hh).1
  rw [Nat.mul_one] at ht
  have hz : xs.toArray.size = xs.length := by simp
  have hc := sort_u w g 0 cap xs.toArray (holds_of (cap := cap) hh ht) hlt (by rw [hz]; omega)
  rw [hz] at hc
  refine hc.mono ?_
  rintro e w' ⟨rfl, d', ⟨hp, hs⟩, hsz, n, os, rfl⟩
  have hsz' : d'.size = xs.length := by rw [hsz, hz]
  rw [← hz] at hp
  have hp2 := perm_of hp
  refine ⟨rfl, d'.toList, ⟨hp2, sorted_of (by rw [hsz']; exact hs)⟩, ?_, (gw_eff w n g d' os).mono fun k _ e => by rw [e]; rfl⟩
  have h := gw_own (n := n) (os := os) hh hb (d := d') (cap := cap) (k := d'.size) (by omega) hmx hcs (Nat.le_refl _)
  rw [List.take_of_length_le (by simp)] at h
  rw [← hsz', show d'.toList.length = d'.size from by simp]
  exact h
theorem compact_own {base : Nat} {v : Value} {xs : List Int} {w : World} (ho : w.ownsRow base 47 1 v xs.length (nums .u32 xs)) (hx : xs.length ≤ 1000000) :
  Calls Tryz.prog 126 #[v] w fun e w' => ∃ v' zs, e = .returned v' ∧ zs = Lib.compact xs ∧ w'.ownsRow base 47 1 v' zs.length (nums .u32 zs) ∧ Eff w w' (fun k => some k = v.ownBlock) := by
 rcases ho.2 with ⟨rfl, h0⟩ | ⟨g, cap, cur, rfl, hb, hh, hcap, hmx, hcs, ht⟩
 ·refine (compact_one none 0 0 (by decide) w).mono ?_
  rintro e w' ⟨rfl, rfl⟩
  have hx0 : xs = [] := List.eq_nil_of_length_eq_zero h0
  subst hx0
  exact ⟨_, [], rfl, rfl, ho, Eff.refl _ _⟩
 ·have hlt : g < w.heap.size := (Array.getElem?_eq_some_iff.1 hh).1
  rw [Nat.mul_one] at ht
  have hz : xs.toArray.size = xs.length := by simp
  have hc := compact_u w g 0 cap xs.toArray (holds_of (cap := cap) hh ht) (by rw [hz]; omega) (by rw [hz]; omega)
  rw [hz] at hc
  refine hc.mono ?_
  rintro e w' ⟨k, d', rfl, hk, hl, hsz, q, rfl⟩
  rw [hz] at hk hl hsz
  have hkl : k ≤ d'.size := by
   rw [hk, hsz]
   unfold Lib.compactUpTo
   rw [List.length_map]
   exact Nat.le_trans (List.length_filter_le _ _) (by simp)
  have e : putRow encU (Sort.ahead w q) g 0 d' = GW w q g 0 d' #[] := by unfold GW; rw [grow_empty]
  rw [e]
  have htk : d'.toList.take k = Lib.compact xs := by
   unfold Lib.compact
   apply List.ext_getElem?
   intro j
   by_cases hj : j < k
   ·rw [List.getElem?_take_of_lt hj, hl j hj, getElem!_pos d' j (by omega)]
    simp [show j < d'.size by omega]
   ·rw [List.getElem?_eq_none (by rw [List.length_take]; omega), List.getElem?_eq_none (by rw [← hk]; omega)]
  have hkc : k = (Lib.compact xs).length := by unfold Lib.compact; exact hk
  refine ⟨_, Lib.compact xs, rfl, rfl, ?_, (gw_eff w q g d' #[]).mono fun k _ e => by rw [e]; rfl⟩
  have h := gw_own (n := q) (os := #[]) hh hb (d := d') (cap := cap) (k := k) (by omega) hmx hcs hkl
  rw [htk] at h
  rw [← hkc]
  exact h
end Go.Proofs.YtppchdinolndmaaGreat
namespace Go.Proofs.YtppchdinolndmaaGreat
open Go.RowKit Go.Proofs.YtppchdinolndmaaGreatW.PrintWords Go.Proofs.YtppchdinolndmaaGreatW.PrintLast Go.Proofs.YtppchdinolndmaaGreatW.PrintMore Go.Proofs.YtppchdinolndmaaGreat.PPu
set_option linter.unusedVariables false
set_option linter.unusedSimpArgs false
structure TS where
 delta : Int
 b : Int
 done : Nat
 out : List Int
def stepT (start : Nat) (m : Int) (s : TS) (c : Int) : TS :=
 if c < m then { s with delta := s.delta + 1 }
 else if c = m then ⟨0, adaptP s.delta (s.done + 1) (s.done == start), s.done + 1, s.out ++ putL s.delta s.b⟩
 else s
def innerT (start : Nat) (m : Int) (ys : List Int) (s : TS) : TS := ys.foldl (stepT start m) s
theorem inner_succ (start : Nat) (m : Int) (ys : List Int) (s : TS) (i : Nat) (h : i < ys.length) : innerT start m (ys.take (i + 1)) s = stepT start m (innerT start m (ys.take i) s) (ys.getD i 0) := by
 unfold innerT
 rw [take_succ_getD ys i h, List.foldl_append]
 rfl
def outT (ys : List Int) (start : Nat) (q : Int × TS) (m : Int) : Int × TS :=
 (m + 1, { innerT start m ys { q.2 with delta := q.2.delta + (m - q.1) * (q.2.done + 1) } with delta := (innerT start m ys { q.2 with delta := q.2.delta + (m - q.1) * (q.2.done + 1) }).delta + 1 })
def outerT (ys : List Int) (start : Nat) (zs : List Int) (q : Int × TS) : Int × TS := zs.foldl (outT ys start) q
theorem outer_succ (ys : List Int) (start : Nat) (zs : List Int) (q : Int × TS) (i : Nat) (h : i < zs.length) : outerT ys start (zs.take (i + 1)) q = outT ys start (outerT ys start (zs.take i) q) (zs.getD i 0) := by
 unfold outerT
 rw [take_succ_getD zs i h, List.foldl_append]
 rfl
def sepL (ys : List Int) : List Int := if (lowL ys).length = 0 then [] else [45]
def startT (ys : List Int) : TS := ⟨0, 72, (lowL ys).length, lowL ys ++ sepL ys⟩
def textZ (ys zs : List Int) : List Int := (outerT ys (lowL ys).length zs (128, startT ys)).2.out
def cntB (ys : List Int) (m : Int) : Nat := (ys.filter fun y => decide (y < m)).length
def cntE (ys : List Int) (m : Int) : Nat := (ys.filter fun y => decide (y = m)).length
theorem cnt_le : ∀ (ys : List Int) (m : Int), cntB ys m + cntE ys m ≤ ys.length
 | [], _ => by simp [cntB, cntE]
 | y :: ys, m => by
  have := cnt_le ys m
  unfold cntB cntE at *
  by_cases h1 : y < m
  ·have h2 : ¬ y = m := by omega
   simp only [List.filter_cons, h1, h2, decide_true, decide_false, if_true, Bool.false_eq_true, if_false, List.length_cons]
   omega
  ·by_cases h2 : y = m
   ·rw [List.filter_cons, List.filter_cons, if_neg (by simpa using h1), if_pos (by simpa using h2), List.length_cons, List.length_cons]
    omega
   ·simp only [List.filter_cons, h1, h2, decide_false, Bool.false_eq_true, if_false, List.length_cons]
    omega
theorem cntE_take (ys : List Int) (m : Int) (i : Nat) : cntE (ys.take i) m ≤ cntE ys m := by
 unfold cntE
 exact (List.Sublist.filter _ (List.take_sublist i ys)).length_le
theorem cntE_succ (ys : List Int) (m : Int) (i : Nat) (h : i < ys.length) : cntE (ys.take (i + 1)) m = cntE (ys.take i) m + if ys.getD i 0 = m then 1 else 0 := by
 rw [take_succ_getD ys i h]
 unfold cntE
 rw [List.filter_append, List.length_append]
 generalize ys.getD i 0 = y
 by_cases c : y = m
 ·simp [c]
 ·simp [c]
theorem cntB_next : ∀ (ys : List Int) (m : Int), cntB ys (m + 1) = cntB ys m + cntE ys m
 | [], _ => rfl
 | y :: ys, m => by
  have ih := cntB_next ys m
  unfold cntB cntE at *
  by_cases h1 : y < m
  ·have h2 : ¬ y = m := by omega
   have h3 : y < m + 1 := by omega
   simp only [List.filter_cons, h1, h2, h3, decide_true, decide_false, if_true, Bool.false_eq_true, if_false, List.length_cons]
   omega
  ·by_cases h2 : y = m
   ·have h3 : y < m + 1 := by omega
    rw [List.filter_cons, List.filter_cons, List.filter_cons, if_pos (by simpa using h3), if_neg (by simpa using h1), if_pos (by simpa using h2), List.length_cons, List.length_cons, ih]
    omega
   ·have h3 : ¬ y < m + 1 := by omega
    simp only [List.filter_cons, h1, h2, h3, decide_false, Bool.false_eq_true, if_false]
    exact ih
theorem cntB_gap : ∀ (ys : List Int) (n m : Int), n ≤ m → (∀ c ∈ ys, c < n ∨ m ≤ c) → cntB ys m = cntB ys n
 | [], _, _, _, _ => rfl
 | y :: ys, n, m, hnm, h => by
  have ih := cntB_gap ys n m hnm (fun c hc => h c (List.mem_cons_of_mem _ hc))
  have hy := h y List.mem_cons_self
  unfold cntB at *
  by_cases h1 : y < n
  ·have h3 : y < m := by omega
   simp only [List.filter_cons, h1, h3, decide_true, if_true, List.length_cons, ih]
  ·have h3 : ¬ y < m := by omega
   simp only [List.filter_cons, h1, h3, decide_false, Bool.false_eq_true, if_false, ih]
structure OI (ys r : List Int) (n : Int) (s : TS) : Prop where
 n0 : 128 ≤ n
 n1 : n ≤ 1114112
 inc : r.Pairwise (fun a b => a < b)
 lo : ∀ c ∈ r, n ≤ c ∧ c ≤ 1114111
 cov : ∀ c ∈ ys, c < n ∨ c ∈ r
 done : s.done = cntB ys n
 d0 : 0 ≤ s.delta
 d1 : s.delta ≤ (n - 128) * ((ys.length : Int) + 1)
 out : s.out.length ≤ ys.length + 1 + 20 * s.done
structure II (ys : List Int) (m : Int) (i : Nat) (s : TS) : Prop where
 m0 : 128 ≤ m
 m1 : m ≤ 1114111
 done : s.done = cntB ys m + cntE (ys.take i) m
 d0 : 0 ≤ s.delta
 d1 : s.delta ≤ (m - 128) * ((ys.length : Int) + 1) + i
 out : s.out.length ≤ ys.length + 1 + 20 * s.done
theorem OI.done_le {ys r : List Int} {n : Int} {s : TS} (h : OI ys r n s) : s.done ≤ ys.length := by have := cnt_le ys n; have := h.done; omega
theorem II.done_le {ys : List Int} {m : Int} {i : Nat} {s : TS} (h : II ys m i s) : s.done ≤ ys.length := by have := cnt_le ys m; have := cntE_take ys m i; have := h.done; omega
theorem mul_le {a b c d : Int} (h0 : 0 ≤ a) (h1 : a ≤ b) (h2 : 0 ≤ c) (h3 : c ≤ d) : a * c ≤ b * d := Int.mul_le_mul h1 h3 h2 (by omega)
theorem OI.enter {ys r : List Int} {n m : Int} {s : TS} (h : OI ys (m :: r) n s) (hl : ys.length ≤ 10000) :
  ∃ D : Int, (m - n) * ((s.done : Int) + 1) = D ∧ 0 ≤ D ∧ D ≤ 1000000000000 ∧ n ≤ m ∧ 128 ≤ m ∧ m ≤ 1114111 ∧ 0 ≤ s.delta + D ∧ s.delta + D ≤ 1000000000000 ∧ II ys m 0 { s with delta := s.delta + D } := by
 obtain ⟨l0, l1⟩ := h.lo m List.mem_cons_self
 have hdl := h.done_le
 have hn0 := h.n0
 have e1 : 0 ≤ (m - n) * ((s.done : Int) + 1) := Int.mul_nonneg (by omega) (by omega)
 have e2 : (m - n) * ((s.done : Int) + 1) ≤ (m - n) * ((ys.length : Int) + 1) := Int.mul_le_mul_of_nonneg_left (by omega) (by omega)
 have e3 : (m - n) * ((ys.length : Int) + 1) + (n - 128) * ((ys.length : Int) + 1) = (m - 128) * ((ys.length : Int) + 1) := by rw [← Int.add_mul]; congr 1; omega
 have e4 : (m - 128) * ((ys.length : Int) + 1) ≤ 1114000 * 10001 := mul_le (by omega) (by omega) (by omega) (by omega)
 have e5 : (n - 128) * ((ys.length : Int) + 1) ≤ (m - 128) * ((ys.length : Int) + 1) := Int.mul_le_mul_of_nonneg_right (by omega) (by omega)
 have d0 := h.d0
 have d1 := h.d1
 refine ⟨_, rfl, e1, by omega, l0, by omega, l1, by omega, by omega, by omega, l1, ?_, by show 0 ≤ s.delta + _; omega, by show s.delta + _ ≤ _; omega, h.out⟩
 show s.done = _
 rw [h.done, cntB_gap ys n m l0 (fun c hc => by
  rcases h.cov c hc with e | e
  ·exact .inl e
  ·rcases List.mem_cons.1 e with rfl | e
   ·exact .inr (Int.le_refl _)
   ·exact .inr (Int.le_of_lt (List.rel_of_pairwise_cons h.inc e)))]
 simp [cntE]
theorem II.leave {ys r : List Int} {n m : Int} {s0 s : TS} (h : II ys m ys.length s) (h0 : OI ys (m :: r) n s0) : OI ys r (m + 1) { s with delta := s.delta + 1 } := by
 have d0 := h.d0
 have d1 := h.d1
 have m0 := h.m0
 have m1 := h.m1
 refine ⟨by omega, by omega, (List.pairwise_cons.1 h0.inc).2, fun c hc => ⟨?_, (h0.lo c (List.mem_cons_of_mem _ hc)).2⟩, fun c hc => ?_, ?_, by show 0 ≤ s.delta + 1; omega, ?_, h.out⟩
 ·have := List.rel_of_pairwise_cons h0.inc hc
  omega
 ·rcases h0.cov c hc with e | e
  ·have := (h0.lo m List.mem_cons_self).1
   exact .inl (by omega)
  ·rcases List.mem_cons.1 e with rfl | e
   ·exact .inl (by omega)
   ·exact .inr e
 ·show s.done = _
  rw [h.done, List.take_length, cntB_next]
 ·show s.delta + 1 ≤ _
  rw [show m + 1 - 128 = (m - 128) + 1 by omega, Int.add_mul]
  omega
theorem II.step {ys : List Int} {m : Int} {i : Nat} {s : TS} (h : II ys m i s) (hi : i < ys.length) (start : Nat) : II ys m (i + 1) (stepT start m s (ys.getD i 0)) := by
 have hc := cntE_succ ys m i hi
 have d0 := h.d0
 have d1 := h.d1
 have m0 := h.m0
 have hmul : 0 ≤ (m - 128) * ((ys.length : Int) + 1) := Int.mul_nonneg (by omega) (by omega)
 unfold stepT
 by_cases c1 : ys.getD i 0 < m
 ·rw [if_pos c1]
  rw [if_neg (by omega)] at hc
  exact ⟨h.m0, h.m1, by show s.done = _; rw [h.done]; omega, by show 0 ≤ s.delta + 1; omega, by show s.delta + 1 ≤ _; omega, h.out⟩
 ·rw [if_neg c1]
  by_cases c2 : ys.getD i 0 = m
  ·rw [if_pos c2]
   rw [if_pos c2] at hc
   refine ⟨h.m0, h.m1, by show s.done + 1 = _; rw [h.done]; omega, Int.le_refl 0, by show (0 : Int) ≤ _; omega, ?_⟩
   show (s.out ++ putL s.delta s.b).length ≤ _
   rw [List.length_append]
   have := h.out
   have := (putL_len s.delta s.b).2
   show _ ≤ ys.length + 1 + 20 * (s.done + 1)
   omega
  ·rw [if_neg c2]
   rw [if_neg c2] at hc
   exact ⟨h.m0, h.m1, by rw [h.done]; omega, d0, by omega, h.out⟩
theorem II.room {ys : List Int} {m : Int} {i : Nat} {s : TS} (h : II ys m i s) (hi : i < ys.length) (he : ys.getD i 0 = m) (hl : ys.length ≤ 10000) : s.out.length + 20 ≤ 1000000 ∧ s.delta ≤ topP ∧ s.done + 1 ≤ 1000000 := by
 have h1 := (h.step hi 0).done_le
 unfold stepT at h1
 rw [if_neg (by omega), if_pos he] at h1
 have h2 : s.done + 1 ≤ ys.length := h1
 have hT : topP = 4611686018427387904 := rfl
 have m0 := h.m0
 have m1 := h.m1
 have e4 : (m - 128) * ((ys.length : Int) + 1) ≤ 1114000 * 10001 := mul_le (by omega) (by omega) (by omega) (by omega)
 have d1 := h.d1
 have := h.out
 exact ⟨by omega, by omega, by omega⟩
theorem II.delta_le {ys : List Int} {m : Int} {i : Nat} {s : TS} (h : II ys m i s) (hi : i ≤ ys.length) (hl : ys.length ≤ 10000) : s.delta ≤ 1000000000000 := by
 have m0 := h.m0
 have m1 := h.m1
 have e4 : (m - 128) * ((ys.length : Int) + 1) ≤ 1114000 * 10001 := mul_le (by omega) (by omega) (by omega) (by omega)
 have d1 := h.d1
 omega
structure EnterF (n m delta D : Int) (done : Nat) : Prop where
 u1 : (m - n) % 4294967296 = m - n
 q1 : IntKind.u64.wrap (m - n) = m - n
 q2 : wrap64 ((done : Int) + 1) = (done : Int) + 1
 q3 : IntKind.u64.wrap ((done : Int) + 1) = (done : Int) + 1
 q4 : IntKind.u64.wrap ((m - n) * ((done : Int) + 1)) = D
 q5 : IntKind.u64.wrap (delta + D) = delta + D
theorem OI.enter2 {ys r : List Int} {n m delta b : Int} {done : Nat} {out : List Int} (h : OI ys (m :: r) n ⟨delta, b, done, out⟩) (hl : ys.length ≤ 10000) :
  ∃ D : Int, (m - n) * ((done : Int) + 1) = D ∧ EnterF n m delta D done ∧ (128 ≤ m ∧ m ≤ 1114111) ∧ II ys m 0 ⟨delta + D, b, done, out⟩ := by
 obtain ⟨D, hD, d1, d2, d3, d4, d5, d6, d7, hII⟩ := h.enter hl
 have hdl := h.done_le
 have hn0 := h.n0
 simp only at hD d6 d7 hdl
 exact ⟨D, hD, ⟨by omega, Go.Proofs.YtppchdinolndmaaGreat.u64 (by omega) (by omega), w64 (by omega) (by omega), Go.Proofs.YtppchdinolndmaaGreat.u64 (by omega) (by omega), by rw [hD]; exact Go.Proofs.YtppchdinolndmaaGreat.u64 d1 (by omega), Go.Proofs.YtppchdinolndmaaGreat.u64 (by omega) (by omega)⟩, ⟨d4, d5⟩, hII⟩
structure HitF (ys out : List Int) (delta : Int) (done : Nat) : Prop where
 l1 : wrap64 ((done : Int) + 1) = (done : Int) + 1
 l2 : IntKind.u64.wrap ((done : Int) + 1) = (done : Int) + 1
 d0 : 0 ≤ delta
 d1 : delta ≤ topP
 out : out.length + 20 ≤ 1000000
theorem II.hit {ys : List Int} {m delta b : Int} {i done : Nat} {out : List Int} (h : II ys m i ⟨delta, b, done, out⟩) (hi : i < ys.length) (he : ys.getD i 0 = m) (hl : ys.length ≤ 10000) : HitF ys out delta done := by
 obtain ⟨h1, h2, h3⟩ := h.room hi he hl
 simp only at h1 h2 h3
 exact ⟨w64 (by omega) (by omega), Go.Proofs.YtppchdinolndmaaGreat.u64 (by omega) (by omega), h.d0, h2, h1⟩
theorem II.plus {ys : List Int} {m delta b : Int} {i done : Nat} {out : List Int} (h : II ys m i ⟨delta, b, done, out⟩) (hi : i ≤ ys.length) (hl : ys.length ≤ 10000) : IntKind.u64.wrap (delta + 1) = delta + 1 := by
 have h1 := h.delta_le hi hl
 have h0 := h.d0
 simp only at h1 h0
 exact Go.Proofs.YtppchdinolndmaaGreat.u64 (by omega) (by omega)
def UpZ (ys zs : List Int) : Prop := zs.Pairwise (fun a b => a < b) ∧ ∀ x, x ∈ zs ↔ x ∈ highL ys
theorem mem_low {ys : List Int} {x : Int} : x ∈ lowL ys ↔ x ∈ ys ∧ x < 128 := by unfold lowL; simp
theorem mem_high {ys : List Int} {x : Int} : x ∈ highL ys ↔ x ∈ ys ∧ 128 ≤ x := by unfold highL; simp
theorem low_cnt (ys : List Int) : (lowL ys).length = cntB ys 128 := rfl
theorem OI.start {ys zs : List Int} (hz : UpZ ys zs) (hr : ∀ y ∈ ys, 0 ≤ y ∧ y ≤ 1114111) : OI ys zs 128 (startT ys) := by
 refine ⟨Int.le_refl _, by omega, hz.1, fun c hc => ?_, fun c hc => ?_, low_cnt ys, Int.le_refl 0, by simp [startT], ?_⟩
 ·obtain ⟨h1, h2⟩ := mem_high.1 ((hz.2 c).1 hc)
  exact ⟨h2, (hr c h1).2⟩
 ·by_cases h : c < 128
  ·exact .inl h
  ·exact .inr ((hz.2 c).2 (mem_high.2 ⟨hc, by omega⟩))
 ·show (lowL ys ++ sepL ys).length ≤ ys.length + 1 + 20 * (lowL ys).length
  rw [List.length_append]
  have h1 : (lowL ys).length ≤ ys.length := List.length_filter_le _ _
  have h2 : (sepL ys).length ≤ 1 := by unfold sepL; split <;> simp
  omega
theorem upz_unique : ∀ (a b : List Int), a.Pairwise (fun a b => a < b) → b.Pairwise (fun a b => a < b) → (∀ x, x ∈ a ↔ x ∈ b) → a = b
 | [], [], _, _, _ => rfl
 | [], y :: b, _, _, h => absurd ((h y).2 List.mem_cons_self) (by simp)
 | x :: a, [], _, _, h => absurd ((h x).1 List.mem_cons_self) (by simp)
 | x :: a, y :: b, ha, hb, h => by
  have hxy : x = y := by
   rcases List.mem_cons.1 ((h x).1 List.mem_cons_self) with e | e
   ·exact e
   ·rcases List.mem_cons.1 ((h y).2 List.mem_cons_self) with e2 | e2
    ·exact e2.symm
    ·have h1 := List.rel_of_pairwise_cons hb e
     have h2 := List.rel_of_pairwise_cons ha e2
     omega
  subst hxy
  congr 1
  refine upz_unique a b (List.pairwise_cons.1 ha).2 (List.pairwise_cons.1 hb).2 fun z => ⟨fun hz => ?_, fun hz => ?_⟩
  ·rcases List.mem_cons.1 ((h z).1 (List.mem_cons_of_mem _ hz)) with e | e
   ·subst e
    exact absurd (List.rel_of_pairwise_cons ha hz) (Int.lt_irrefl _)
   ·exact e
  ·rcases List.mem_cons.1 ((h z).2 (List.mem_cons_of_mem _ hz)) with e | e
   ·subst e
    exact absurd (List.rel_of_pairwise_cons hb hz) (Int.lt_irrefl _)
   ·exact e
theorem comp_facts (d : Array Int) (hs : ∀ i j, i < j → j < d.size → d[i]! ≤ d[j]!) : ∀ m, m ≤ d.size → (Lib.compactUpTo d m).Pairwise (fun a b => a < b) ∧ (∀ x ∈ Lib.compactUpTo d m, ∃ j, j < m ∧ x = d[j]!) ∧ (∀ j, j < m → d[j]! ∈ Lib.compactUpTo d m)
 | 0, _ => ⟨List.Pairwise.nil, fun x hx => (by cases hx), fun j hj => absurd hj (Nat.not_lt_zero _)⟩
 | m + 1, hm => by
  obtain ⟨h1, h2, h3⟩ := comp_facts d hs m (by omega)
  rw [Lib.compactUpTo_succ]
  by_cases hk : Lib.keeps d m = true
  ·rw [if_pos hk]
   refine ⟨?_, fun x hx => ?_, fun j hj => ?_⟩
   ·rw [List.pairwise_append]
    refine ⟨h1, List.pairwise_singleton _ _, fun x hx y hy => ?_⟩
    rw [List.mem_singleton.1 hy]
    obtain ⟨j, hj, rfl⟩ := h2 x hx
    have hne : d[m]! ≠ d[m - 1]! := by
     unfold Lib.keeps at hk
     rcases of_decide_eq_true hk with e | e
     ·omega
     ·exact e
    have hle := hs (m - 1) m (by omega) (by omega)
    rcases Nat.lt_or_ge j (m - 1) with hj2 | hj2
    ·have := hs j (m - 1) hj2 (by omega)
     omega
    ·obtain rfl : j = m - 1 := by omega
     omega
   ·rcases List.mem_append.1 hx with h | h
    ·obtain ⟨j, hj, e⟩ := h2 x h
     exact ⟨j, by omega, e⟩
    ·exact ⟨m, by omega, List.mem_singleton.1 h⟩
   ·rcases Nat.lt_or_ge j m with h | h
    ·exact List.mem_append_left _ (h3 j h)
    ·obtain rfl : j = m := by omega
     exact List.mem_append_right _ (List.mem_singleton.2 rfl)
  ·rw [if_neg hk, List.append_nil]
   refine ⟨h1, fun x hx => ?_, fun j hj => ?_⟩
   ·obtain ⟨j, hj, e⟩ := h2 x hx
    exact ⟨j, by omega, e⟩
   ·rcases Nat.lt_or_ge j m with h | h
    ·exact h3 j h
    ·obtain rfl : j = m := by omega
     have he : j ≠ 0 ∧ d[j]! = d[j - 1]! := by
      unfold Lib.keeps at hk
      have := fun h => hk (decide_eq_true h)
      exact ⟨fun e => this (.inl e), Classical.byContradiction fun e => this (.inr e)⟩
     rw [he.2]
     exact h3 (j - 1) (by omega)
theorem upz_of {ys ss : List Int} (hp : ss.Perm (highL ys)) (hs : ss.Pairwise (fun a b => a ≤ b)) : UpZ ys (Lib.compact ss) := by
 have hz : ss.toArray.size = ss.length := by simp
 obtain ⟨h1, h2, h3⟩ := comp_facts ss.toArray (fun i j hij hj => by
  have hj' : j < ss.length := by simpa using hj
  rw [getElem!_pos _ j hj, getElem!_pos _ i (by omega)]
  simp only [List.getElem_toArray]
  exact List.pairwise_iff_getElem.1 hs i j (by omega) hj' hij) ss.length (by rw [hz]; exact Nat.le_refl _)
 refine ⟨h1, fun x => ⟨fun hx => ?_, fun hx => ?_⟩⟩
 ·obtain ⟨j, hj, rfl⟩ := h2 x hx
  rw [← hp.mem_iff, getElem!_pos _ j (by omega)]
  simp
 ·rw [← hp.mem_iff] at hx
  obtain ⟨j, hj, rfl⟩ := List.getElem_of_mem hx
  have := h3 j hj
  rw [getElem!_pos _ j (by omega)] at this
  simp only [List.getElem_toArray] at this
  exact this
theorem src_u {w : World} {A : Option Addr} {ys : List Int} (h : ReadsInt w .u32 A ys.length ys) (hne : 0 < ys.length) : ∃ pb po, A = some ⟨pb, po, none⟩ ∧ SrcT w pb po ys := by
 obtain ⟨ad, rfl, hc⟩ := h.2.2 hne
 have h0 := hc 0 hne
 have h1 : w.cell? ad = some (.int .u32 (ys.getD 0 0)) := by simpa [Addr.add] using h0
 obtain ⟨pb, po, sp⟩ := ad
 cases sp with
 | none =>
  have hlt := World.block_lt_of_cell? w _ h1
  refine ⟨pb, po, rfl, fun _ => hlt, fun j hj => ?_⟩
  have := hc j hj
  rwa [Addr.add_lit] at this
 | some x => exfalso; unfold World.cell? at h1; simp at h1; split at h1 <;> simp at h1
theorem eff_under {B : Nat} {w0 w w1 : World} {base : Nat} {v : Value} {n size : Nat} {e : TypeId} {xs : List Value} (h : Below B w0 w) (ho : w.ownsRow base e size v n xs) (he : Eff w w1 (fun k => some k = v.ownBlock)) (hB : B ≤ w.heap.size) (hb : B ≤ base) : Below B w0 w1 :=
 Eff.under h he hB fun k hk => Nat.le_trans hb (q_own_ge (q_of_own ho) k hk.symm)
theorem bx_eff {w w1 : World} {g B b2 : Nat} {xs ys : List Int} {no : Bool} {lv v : Value} (h : w.ownsRow b2 47 1 v ys.length (nums .u32 ys)) (hb : BX w g B xs no lv) (he : Eff w w1 (fun k => some k = v.ownBlock)) : BX w1 g B xs no lv := by
 refine ⟨(he.block g hb.blk.lt (own_types (q_of_own h) hb.blk (by decide))).trans hb.blk, own_move hb.row fun k hk => ?_⟩
 obtain ⟨cells2, hc2⟩ := own_typed hb.row k hk
 refine he.block k (Array.getElem?_eq_some_iff.1 hc2).1 fun e => ?_
 obtain ⟨cells, hc⟩ := own_typed h k e.symm
 rw [hc] at hc2
 injection hc2 with h2
 injection h2 with _ h2
 exact absurd h2 (by decide)
theorem own_cell {w : World} {base c : Nat} {A : Option Addr} {zs : List Int} (h : w.ownsRow base 47 1 (.slice A zs.length c) zs.length (nums .u32 zs)) {i : Nat} (hi : i < zs.length) : ∃ g, A = some ⟨g, 0, none⟩ ∧ w.cell? ⟨g, i, none⟩ = some (.int .u32 (zs.getD i 0)) := by
 obtain ⟨ad, rfl, hc⟩ := (own_reads' h).2.2 (by omega)
 have h0 := hc i hi
 rcases h.2 with ⟨h1, _⟩ | ⟨g, cap, cur, h1, _⟩
 ·cases h1
 ·injection h1 with h1
  injection h1 with h1
  subst h1
  rw [Addr.add_lit, Nat.zero_add] at h0
  exact ⟨g, rfl, h0⟩
theorem str_of_bytes (l : List Int) (h : ∀ x ∈ l, 0 ≤ x ∧ x ≤ 255) : ∃ RES : List UInt8, (RES.map fun b => (b.toNat : Int)) = l ∧ (⟨RES.toArray⟩ : ByteArray) = strOfNums l :=
 ⟨(strOfNums l).data.toList, bytes_str l h, by apply ByteArray.ext; simp⟩
theorem step_range (start : Nat) (m : Int) (s : TS) (c : Int) (hd : 0 ≤ s.delta) (h : ∀ x ∈ s.out, 0 ≤ x ∧ x ≤ 255) : (0 ≤ (stepT start m s c).delta) ∧ ∀ x ∈ (stepT start m s c).out, 0 ≤ x ∧ x ≤ 255 := by
 unfold stepT
 split
 ·exact ⟨by show 0 ≤ s.delta + 1; omega, h⟩
 ·split
  ·refine ⟨Int.le_refl _, fun x hx => ?_⟩
   rcases List.mem_append.1 hx with e | e
   ·exact h x e
   ·have := putI_range s.b 20 s.delta 0 hd x e
    omega
  ·exact ⟨hd, h⟩
theorem inner_range (start : Nat) (m : Int) : ∀ (ys : List Int) (s : TS), 0 ≤ s.delta → (∀ x ∈ s.out, 0 ≤ x ∧ x ≤ 255) → (0 ≤ (innerT start m ys s).delta) ∧ ∀ x ∈ (innerT start m ys s).out, 0 ≤ x ∧ x ≤ 255
 | [], s, hd, h => ⟨hd, h⟩
 | c :: r, s, hd, h => by
  have := step_range start m s c hd h
  exact inner_range start m r _ this.1 this.2
theorem outer_range (ys : List Int) (start : Nat) : ∀ (zs : List Int) (n : Int) (s : TS), zs.Pairwise (fun a b => a < b) → (∀ z ∈ zs, n ≤ z) → 0 ≤ s.delta → (∀ x ∈ s.out, 0 ≤ x ∧ x ≤ 255) → ∀ x ∈ (outerT ys start zs (n, s)).2.out, 0 ≤ x ∧ x ≤ 255
 | [], n, s, _, _, hd, h => h
 | z :: zs, n, s, hi, hn, hd, h => by
  have h1 := inner_range start z ys { s with delta := s.delta + (z - n) * (s.done + 1) } (by
   have := hn z List.mem_cons_self
   have := Int.mul_nonneg (a := z - n) (b := (s.done : Int) + 1) (by omega) (by omega)
   show 0 ≤ s.delta + _
   omega) h
  exact outer_range ys start zs (z + 1) _ (List.pairwise_cons.1 hi).2 (fun y hy => by have := List.rel_of_pairwise_cons hi hy; omega) (by have := h1.1; show 0 ≤ (innerT start z ys { s with delta := s.delta + (z - n) * (s.done + 1) }).delta + 1; omega) h1.2
theorem text_range {ys zs : List Int} (hz : UpZ ys zs) (hr : ∀ y ∈ ys, 0 ≤ y ∧ y ≤ 1114111) : ∀ x ∈ textZ ys zs, 0 ≤ x ∧ x ≤ 255 := by
 refine outer_range ys _ zs 128 (startT ys) hz.1 (fun z h => (mem_high.1 ((hz.2 z).1 h)).2) (Int.le_refl 0) fun x hx => ?_
 rcases List.mem_append.1 hx with e | e
 ·have := mem_low.1 e
  have := hr x this.1
  omega
 ·unfold sepL at e
  split at e
  ·cases e
  ·rw [List.mem_singleton.1 e]; omega
theorem beq_cast (a b : Nat) : ((a : Int) == (b : Int)) = (a == b) := by
 by_cases e : a = b
 ·rw [e]; simp
 ·rw [(beq_eq_false_iff_ne (a := a) (b := b)).2 e, beq_eq_false_iff_ne]; omega
set_option maxRecDepth 100000 in
set_option maxHeartbeats 8000000 in
theorem text_c (A : Option Addr) (c : Nat) (ys : List Int) (w : World) (hs : ReadsInt w .u32 A ys.length ys) (hl : ys.length ≤ 10000) (hr : ∀ y ∈ ys, 0 ≤ y ∧ y ≤ 1114111) :
  Calls Tryz.prog 122 #[.slice A ys.length c] w fun e w' => ∃ zs, UpZ ys zs ∧ e = .returned (.string (strOfNums (textZ ys zs))) ∧ Below w.heap.size w w' := by
 have HS := Lib.hid hs
 have HL := Lib.hid hl
 have HR := Lib.hid hr
 clear hs hl hr
 go_enter Tryz.func122, Tryz.ntmps122
 go_upto_block 0 with fail
 go_cut [4] (fun s4 wx => Hid (wx.ownsRow w.heap.size 47 1 s4 (highL ys).length (nums .u32 (highL ys))) ∧ ∃ no lv, Hid (BX wx w.heap.size w.heap.size (lowL ys) no lv) ∧ Hid (Below w.heap.size w wx))
 case first =>
  have HB0 : Hid (BX (w.alloc (.cells #[.pointer none, .slice none 0 0] 82 (0, 0))) w.heap.size w.heap.size [] true (.slice none 0 0)) := Lib.hid (BX.new w w.heap.size)
  go_wp2_with fail
  go_loopg [4, 18] (ys.length) (fun kq s4 s18 wx => ∃ (i : Nat) (no : Bool) (lv : Value), s18 = .int .i64 i ∧ Hid (kq = ys.length - i ∧ i ≤ ys.length ∧ w.heap.size < wx.heap.size) ∧ Hid (wx.ownsRow w.heap.size 47 1 s4 (highL (ys.take i)).length (nums .u32 (highL (ys.take i)))) ∧ Hid (BX wx w.heap.size w.heap.size (lowL (ys.take i)) no lv) ∧ Hid (Below w.heap.size w wx))
  case atStart => exact ⟨0, true, .slice none 0 0, rfl, Lib.hid ⟨rfl, Nat.zero_le _, by rw [World.size_alloc]; exact Nat.lt_succ_self _⟩, Lib.hid ⟨rfl, .inl ⟨rfl, rfl⟩⟩, HB0, Lib.hid (below_new (Below.refl _ _) _)⟩
  case round =>
   obtain ⟨i, no, lv, rfl, HK, HO, HX, HB⟩ := hrel
   by_cases hi : i < ys.length
   ·have hi0 : (0 : Int) ≤ (i : Int) := by omega
    have hi3 : (i : Int) < (ys.length : Int) := by omega
    have hss : ys.length ≤ 10000 := HL.out
    obtain ⟨pb, po, rfl, hsrc⟩ := src_u HS.out (by omega)
    have hcc := hsrc.at_ HB.out i hi
    clear hsrc
    have hlo := low_snoc ys i hi
    have hhi := high_snoc ys i hi
    have hy := HR.out (ys.getD i 0) (by rw [List.getD_eq_getElem?_getD, List.getElem?_eq_getElem hi]; exact List.getElem_mem hi)
    obtain ⟨y, hye⟩ : ∃ y, ys.getD i 0 = y := ⟨_, rfl⟩
    rw [hye] at hcc hlo hhi hy
    clear hye
    by_cases hc : y < 128
    ·rw [if_pos hc] at hlo hhi
     have hc1 : decide (y < 128) = true := decide_eq_true hc
     have hm : y % 256 = y := by omega
     have HLO := Lib.hid hlo
     have HHI := Lib.hid hhi
     have HLN : Hid ((lowL (ys.take i)).length + 1 ≤ 1000000) := Lib.hid (by have := low_len ys i; omega)
     clear hlo hhi hy
     go_wp2_with fail
     refine (writeByte_c w.heap.size w.heap.size _ no lv y _ HX.out HB.out.size HLN.out).mono ?_
     rintro e w1 ⟨rfl, lv', hx1, he1⟩
     have HX1 := Lib.hid hx1
     have HO1 := Lib.hid (u32_keep HO.out HX.out he1)
     have HB1 := Lib.hid (below_bx HB.out HX.out he1 HB.out.size (Nat.le_refl _))
     have HZ1 : Hid (w.heap.size < w1.heap.size) := Lib.hid (Nat.lt_of_lt_of_le HK.out.2.2 he1.size)
     clear hx1 he1
     go_wp2_with fail
     go_roundg (gk - 1)
     case measure => have := HK.out; omega
     case rel => exact ⟨i + 1, false, lv', by go_num, Lib.hid ⟨by have := HK.out; omega, by omega, HZ1.out⟩, Lib.hid (by rw [HHI.out]; exact HO1.out), Lib.hid (by rw [HLO.out]; exact HX1.out), HB1⟩
    ·rw [if_neg hc] at hlo hhi
     have hc1 : decide (y < 128) = false := decide_eq_false hc
     have HLO := Lib.hid hlo
     have HHI := Lib.hid hhi
     have HLN : Hid (((highL (ys.take i)).length + 1) * 4 ≤ 140737488355328) := Lib.hid (by have := high_len ys i; omega)
     clear hlo hhi hy
     obtain ⟨HQ, hHQ⟩ : ∃ HQ, highL (ys.take i) = HQ := ⟨_, rfl⟩
     rw [hHQ] at HO HLN HHI
     clear hHQ
     go_wp2_with (at_builtin; refine print_append_row (w0 := w) w.heap.size rfl (.tmp 27) (.tmp 29) 22 47 .u32 4 rfl Tryz.underlying22 info_u32 (by decide) u4 HQ [y] (some ⟨wr.heap.size, 0, none⟩) 1 1 rfl rfl (Go.Proofs.YtppchdinolndmaaGreat.own_alloc HO.out _) (reads_one wr _ _ rfl) (below_new HB.out _) (below_new HB.out _).size HLN.out ?_; intro v1 w1 ho1 hb1 hg1 hat1; have HO1 := Lib.hid ho1; have HB2 := Lib.hid hb1; have HX1 := Lib.hid (bx_keep (Go.Proofs.YtppchdinolndmaaGreat.own_alloc HO.out _) (HX.out.alloc _) hg1); have HZ1 : Hid (w.heap.size < w1.heap.size) := Lib.hid (Nat.lt_of_lt_of_le HK.out.2.2 (Nat.le_trans (by simp) hg1.size)); clear ho1 hb1 hg1 hat1)
     go_roundg (gk - 1)
     case measure => have := HK.out; omega
     case rel => exact ⟨i + 1, no, lv, by go_num, Lib.hid ⟨by have := HK.out; omega, by omega, HZ1.out⟩, Lib.hid (by rw [HHI.out]; exact HO1.out), Lib.hid (by rw [HLO.out]; exact HX1.out), HB2⟩
   ·have HIQ : Hid (ys.take i = ys) := Lib.hid (List.take_of_length_le (by omega))
    have hi3 : ¬ (i : Int) < (ys.length : Int) := by omega
    go_wp2_with fail
    go_meet
    exact ⟨Lib.hid (by rw [← HIQ.out]; exact HO.out), no, lv, Lib.hid (by rw [← HIQ.out]; exact HX.out), HB⟩
 case rest =>
  obtain ⟨HO, no, lv, HX, HB⟩ := hcut
  obtain ⟨LW, hLW⟩ : ∃ LW, lowL ys = LW := ⟨_, rfl⟩
  have hlw : LW.length ≤ ys.length := by rw [← hLW]; exact List.length_filter_le _ _
  have HSEP : Hid (sepL ys = if LW.length = 0 then [] else [45]) := Lib.hid (by rw [← hLW]; rfl)
  have HLW := Lib.hid hLW
  rw [hLW] at HX
  clear hLW
  go_upto_if 34 with (go_at_call 124; refine (builderLen_c w.heap.size w.heap.size LW no lv _ HX.out).mono ?_; rintro e w1 ⟨rfl, rfl⟩)
  go_cut [] (fun wx => ∃ no lv, Hid (wx.ownsRow w.heap.size 47 1 u4 (highL ys).length (nums .u32 (highL ys))) ∧ Hid (BX wx w.heap.size w.heap.size (LW ++ sepL ys) no lv) ∧ Hid (Below w.heap.size w wx))
  case first =>
   by_cases h0 : LW.length = 0
   ·have h1 : decide ((0 : Int) < (LW.length : Int)) = false := decide_eq_false (by omega)
    have h2 : ¬ 0 < LW.length := by omega
    go_wp2_with fail
    go_meet
    exact ⟨no, lv, HO, Lib.hid (by rw [HSEP.out, if_pos h0, List.append_nil]; exact HX.out), HB⟩
   ·have h1 : decide ((0 : Int) < (LW.length : Int)) = true := decide_eq_true (by omega)
    have h2 : 0 < LW.length := by omega
    have HLL : Hid (LW.length + 1 ≤ 1000000) := Lib.hid (by have := HL.out; omega)
    go_wp2_with fail
    refine (writeByte_c w.heap.size w.heap.size LW no lv 45 _ HX.out HB.out.size HLL.out).mono ?_
    rintro e w1 ⟨rfl, lv1, hx1, he1⟩
    have HX1 := Lib.hid hx1
    have HO1 := Lib.hid (u32_keep HO.out HX.out he1)
    have HB1 := Lib.hid (below_bx HB.out HX.out he1 HB.out.size (Nat.le_refl _))
    clear hx1 he1
    go_wp2_with fail
    go_meet
    exact ⟨false, lv1, HO1, Lib.hid (by rw [HSEP.out, if_neg h0]; exact HX1.out), HB1⟩
  case rest =>
   obtain ⟨no2, lv2, HO2, HX2, HB2⟩ := hcut
   have HHL : Hid ((highL ys).length ≤ 1000000) := Lib.hid (by have : (highL ys).length ≤ ys.length := List.length_filter_le _ _; have := HL.out; omega)
   go_wp2_with fail
   refine (sort_own HO2.out HHL.out).mono ?_
   rintro e w2 ⟨rfl, ss, ⟨hp, hsorted⟩, ho3, he3⟩
   have HX3 := Lib.hid (bx_eff HO2.out HX2.out he3)
   have HB3 := Lib.hid (eff_under HB2.out HO2.out he3 HB2.out.size (Nat.le_refl _))
   have HO3 := Lib.hid ho3
   have HZZ := Lib.hid (upz_of hp hsorted)
   have HSL : Hid (ss.length ≤ 1000000) := Lib.hid (by rw [hp.length_eq]; exact HHL.out)
   clear hp hsorted ho3 he3
   go_wp2_with fail
   refine (compact_own HO3.out HSL.out).mono ?_
   rintro e w3 ⟨v', zs, rfl, hzs, ho4, he4⟩
   have HX4 := Lib.hid (bx_eff HO3.out HX3.out he4)
   have HB4 := Lib.hid (eff_under HB3.out HO3.out he4 HB3.out.size (Nat.le_refl _))
   have HO4 := Lib.hid ho4
   have HUP : Hid (UpZ ys zs) := Lib.hid (by rw [hzs]; exact HZZ.out)
   obtain ⟨A5, c5, rfl, hc5⟩ := Go.Proofs.YtppchdinolndmaaGreat.own_slice ho4
   have HZL : Hid (zs.length ≤ 1000000) := Lib.hid (by
    rw [hzs]
    refine Nat.le_trans ?_ HSL.out
    unfold Lib.compact Lib.compactUpTo
    rw [List.length_map]
    exact Nat.le_trans (List.length_filter_le _ _) (by simp))
   have hc5' : zs.length ≤ 1000000 := HZL.out
   clear ho4 he4 hzs
   have HST : Hid ((128, startT ys) = (((128 : Int), (⟨0, 72, LW.length, LW ++ sepL ys⟩ : TS)))) := Lib.hid (by unfold startT; rw [HLW.out])
   go_wp2_with fail
   obtain ⟨L, hL⟩ : ∃ L, LW.length = L := ⟨_, rfl⟩
   rw [hL]
   have HLL : Hid (LW.length = L ∧ (lowL ys).length = L) := Lib.hid ⟨hL, by rw [HLW.out]; exact hL⟩
   clear hL hlw
   go_loopg [7, 8, 9, 10, 42] zs.length (fun kq s7 s8 s9 s10 s42 wx => ∃ (i : Nat) (n delta b : Int) (done : Nat) (out : List Int) (no : Bool) (lv : Value), s42 = .int .i64 i ∧ s7 = .int .i64 done ∧ s8 = .int .u64 delta ∧ s9 = .int .u32 n ∧ s10 = .int .i64 b ∧
    Hid (kq = zs.length - i ∧ i ≤ zs.length ∧ outerT ys L (zs.take i) (128, startT ys) = (n, ⟨delta, b, done, out⟩) ∧ OI ys (zs.drop i) n ⟨delta, b, done, out⟩) ∧ Hid (BX wx w.heap.size w.heap.size out no lv) ∧ Hid (wx.ownsRow w.heap.size 47 1 (.slice A5 zs.length c5) zs.length (nums .u32 zs)) ∧ Hid (Below w.heap.size w wx))
   case atStart => exact ⟨0, 128, 0, 72, L, LW ++ sepL ys, no2, lv2, rfl, rfl, rfl, rfl, rfl, Lib.hid ⟨rfl, Nat.zero_le _, by rw [HST.out, HLL.out.1]; rfl, by have h := OI.start HUP.out HR.out; unfold startT at h; rw [HLW.out, HLL.out.1] at h; exact h⟩, HX4, HO4, HB4⟩
   case round =>
    obtain ⟨i, n, delta, b0, done, out, no3, lv3, rfl, rfl, rfl, rfl, rfl, HK, HX, HO, HB⟩ := hrel
    by_cases hi : i < zs.length
    ·have hi0 : (0 : Int) ≤ (i : Int) := by omega
     have hi3 : (i : Int) < (zs.length : Int) := by omega
     obtain ⟨g5, rfl, hcc⟩ := own_cell HO.out hi
     obtain ⟨m, hm⟩ : ∃ m, zs.getD i 0 = m := ⟨_, rfl⟩
     rw [hm] at hcc
     have hdrop : zs.drop i = m :: zs.drop (i + 1) := by
      rw [List.drop_eq_getElem_cons hi, ← hm, List.getD_eq_getElem?_getD, List.getElem?_eq_getElem hi]; rfl
     have HOI : Hid (OI ys (m :: zs.drop (i + 1)) n ⟨delta, b0, done, out⟩) := Lib.hid (by rw [← hdrop]; exact HK.out.2.2.2)
     have HSU : Hid (outerT ys L (zs.take (i + 1)) (128, startT ys) = outT ys L (n, ⟨delta, b0, done, out⟩) m) := Lib.hid (by rw [outer_succ ys L zs _ i hi, HK.out.2.2.1, hm])
     obtain ⟨D, hD, hEF, ⟨hm0, hm1⟩, hII⟩ := HOI.out.enter2 HL.out
     have HD := Lib.hid hD
     have HII := Lib.hid hII
     clear hm hdrop hD hII
     obtain ⟨hu1, hq1, hq2, hq3, hq4, hq5⟩ := hEF
     go_upto_block 4 with fail
     clear hu1 hq1 hq2 hq3 hq4 hq5 hcc
     obtain ⟨dl0, hdl0⟩ : ∃ x, delta + D = x := ⟨_, rfl⟩
     have HIS : Hid (outT ys L (n, ⟨delta, b0, done, out⟩) m = (m + 1, { innerT L m ys ⟨dl0, b0, done, out⟩ with delta := (innerT L m ys ⟨dl0, b0, done, out⟩).delta + 1 })) := Lib.hid (by rw [← hdl0, ← HD.out]; rfl)
     rw [hdl0] at HII ⊢
     clear hdl0
     go_cut [7, 8, 10] (fun s7 s8 s10 wx => ∃ (delta b : Int) (done' : Nat) (out' : List Int) (no : Bool) (lv : Value), s7 = .int .i64 done' ∧ s8 = .int .u64 delta ∧ s10 = .int .i64 b ∧
      Hid (innerT L m ys ⟨dl0, b0, done, out⟩ = ⟨delta, b, done', out'⟩ ∧ II ys m ys.length ⟨delta, b, done', out'⟩) ∧ Hid (BX wx w.heap.size w.heap.size out' no lv) ∧ Hid (wx.ownsRow w.heap.size 47 1 (.slice (some ⟨g5, 0, none⟩) zs.length c5) zs.length (nums .u32 zs)) ∧ Hid (Below w.heap.size w wx))
     case first =>
      go_wp2_with fail
      go_loopg [7, 8, 10, 59] ys.length (fun kq s7 s8 s10 s59 wx => ∃ (j : Nat) (delta b : Int) (done' : Nat) (out' : List Int) (no : Bool) (lv : Value), s59 = .int .i64 j ∧ s7 = .int .i64 done' ∧ s8 = .int .u64 delta ∧ s10 = .int .i64 b ∧
       Hid (kq = ys.length - j ∧ j ≤ ys.length ∧ innerT L m (ys.take j) ⟨dl0, b0, done, out⟩ = ⟨delta, b, done', out'⟩ ∧ II ys m j ⟨delta, b, done', out'⟩) ∧ Hid (BX wx w.heap.size w.heap.size out' no lv) ∧ Hid (wx.ownsRow w.heap.size 47 1 (.slice (some ⟨g5, 0, none⟩) zs.length c5) zs.length (nums .u32 zs)) ∧ Hid (Below w.heap.size w wx))
      case atStart => exact ⟨0, dl0, b0, done, out, no3, lv3, rfl, rfl, rfl, rfl, Lib.hid ⟨rfl, Nat.zero_le _, rfl, HII.out⟩, HX, HO, HB⟩
      case round =>
       obtain ⟨j, delta, b, dn, ou, no4, lv4, rfl, rfl, rfl, rfl, HJ, HX, HO, HB⟩ := hrel
       by_cases hj : j < ys.length
       ·have hj0 : (0 : Int) ≤ (j : Int) := by omega
        have hj3 : (j : Int) < (ys.length : Int) := by omega
        have hss : ys.length ≤ 10000 := HL.out
        obtain ⟨pb, po, rfl, hsrc⟩ := src_u HS.out (by omega)
        have hcc := hsrc.at_ HB.out j hj
        clear hsrc
        obtain ⟨y, hye⟩ : ∃ y, ys.getD j 0 = y := ⟨_, rfl⟩
        rw [hye] at hcc
        have HST2 : Hid (innerT L m (ys.take (j + 1)) ⟨dl0, b0, done, out⟩ = stepT L m ⟨delta, b, dn, ou⟩ y ∧ II ys m (j + 1) (stepT L m ⟨delta, b, dn, ou⟩ y)) := Lib.hid ⟨by rw [inner_succ L m ys _ j hj, HJ.out.2.2.1, hye], by rw [← hye]; exact HJ.out.2.2.2.step hj L⟩
        have HYE := Lib.hid hye
        have hpl := HJ.out.2.2.2.plus HJ.out.2.1 HL.out
        have HPL := Lib.hid hpl
        clear hye hpl
        by_cases hc : y < m
        ·have hc1 : decide (y < m) = true := decide_eq_true hc
         have HS3 : Hid (stepT L m ⟨delta, b, dn, ou⟩ y = ⟨delta + 1, b, dn, ou⟩) := Lib.hid (by unfold stepT; rw [if_pos hc])
         have hpl := HPL.out
         clear hc
         go_wp2_with fail
         clear hpl
         go_roundg (gk - 1)
         case measure => have := HJ.out; omega
         case rel => exact ⟨j + 1, delta + 1, b, dn, ou, no4, lv4, by go_num, rfl, rfl, rfl, Lib.hid ⟨by have := HJ.out.1; omega, hj, by rw [HST2.out.1, HS3.out], by rw [← HS3.out]; exact HST2.out.2⟩, HX, HO, HB⟩
        ·have hc1 : decide (y < m) = false := decide_eq_false hc
         by_cases he : y = m
         ·have he1 : (y == m) = true := by rw [he]; exact beq_self_eq_true m
          have HF := Lib.hid (HJ.out.2.2.2.hit hj (HYE.out.trans he) HL.out)
          obtain ⟨fb, hfb⟩ : ∃ fb : Bool, ((dn : Int) == (L : Int)) = fb := ⟨_, rfl⟩
          have HFB : Hid (fb = (dn == L)) := Lib.hid (by rw [← hfb]; exact beq_cast dn L)
          have HS3 : Hid (stepT L m ⟨delta, b, dn, ou⟩ y = ⟨0, adaptP delta (dn + 1) fb, dn + 1, ou ++ putL delta b⟩) := Lib.hid (by unfold stepT; rw [if_neg hc, if_pos he, HFB.out])
          have hl1 := HF.out.l1
          have hl2 := HF.out.l2
          clear hc he
          go_wp2_with fail
          refine (put_c delta b HF.out.d0 HF.out.d1 _).mono ?_
          rintro e w2 ⟨PT, rfl, ⟨hpt, hpz⟩, hb2⟩
          have HPT := Lib.hid (And.intro hpt hpz)
          have HXa := Lib.hid (HX.out.below hb2)
          have HOa := Lib.hid (Go.Proofs.YtppchdinolndmaaGreat.own_below HO.out hb2)
          have HBa := Lib.hid (below_next HB.out hb2)
          clear hb2 hpt hpz
          go_wp2_with fail
          refine (writeString_c w.heap.size w.heap.size ou no4 lv4 PT _ HXa.out HBa.out.size (by have := HF.out.out; have := HPT.out.2; have := (putL_len delta b).2; omega)).mono ?_
          rintro e w3 ⟨rfl, lv5, hx3, he3⟩
          have HX3 : Hid (BX w3 w.heap.size w.heap.size (ou ++ putL delta b) false lv5) := Lib.hid (by rw [← HPT.out.1]; exact hx3)
          have HO3 := Lib.hid (u32_keep HOa.out HXa.out he3)
          have HB3 := Lib.hid (below_bx HBa.out HXa.out he3 HBa.out.size (Nat.le_refl _))
          clear hx3 he3
          go_wp2_with fail
          refine (adapt_c delta ((dn : Int) + 1) fb _ HF.out.d0 HF.out.d1 (by omega)).mono ?_
          rintro e w4 ⟨rfl, hb4⟩
          have HX4 := Lib.hid (HX3.out.below hb4)
          have HO4 := Lib.hid (Go.Proofs.YtppchdinolndmaaGreat.own_below HO3.out hb4)
          have HB4 := Lib.hid (below_next HB3.out hb4)
          clear hb4
          go_wp2_with fail
          clear hl1 hl2 hfb
          go_roundg (gk - 1)
          case measure => have := HJ.out.1; omega
          case rel => exact ⟨j + 1, 0, _, dn + 1, _, false, lv5, by go_num, (by first | go_num | (rw [HF.out.l1]; go_num)), rfl, rfl, Lib.hid ⟨by rw [HJ.out.1, Nat.sub_sub], hj, by rw [HST2.out.1, HS3.out], by rw [← HS3.out]; exact HST2.out.2⟩, HX4, HO4, HB4⟩
         ·have he1 : (y == m) = false := by rw [beq_eq_false_iff_ne]; exact he
          have HS3 : Hid (stepT L m ⟨delta, b, dn, ou⟩ y = ⟨delta, b, dn, ou⟩) := Lib.hid (by unfold stepT; rw [if_neg hc, if_neg he])
          clear hc he
          go_wp2_with fail
          go_roundg (gk - 1)
          case measure => have := HJ.out; omega
          case rel => exact ⟨j + 1, delta, b, dn, ou, no4, lv4, by go_num, rfl, rfl, rfl, Lib.hid ⟨by have := HJ.out.1; omega, hj, by rw [HST2.out.1, HS3.out], by rw [← HS3.out]; exact HST2.out.2⟩, HX, HO, HB⟩
       ·have hj3 : ¬ (j : Int) < (ys.length : Int) := by omega
        have HJE : Hid (j = ys.length) := Lib.hid (Nat.le_antisymm HJ.out.2.1 (Nat.le_of_not_lt hj))
        go_wp2_with fail
        go_meet
        exact ⟨delta, b, dn, ou, no4, lv4, rfl, rfl, rfl, Lib.hid ⟨by have h := HJ.out.2.2.1; rw [HJE.out, List.take_length] at h; exact h, by rw [← HJE.out]; exact HJ.out.2.2.2⟩, HX, HO, HB⟩
     case rest =>
      obtain ⟨delta2, b2, dn, ou, no4, lv4, rfl, rfl, rfl, HI, HX, HO, HB⟩ := hcut
      have HPL := Lib.hid (HI.out.2.plus (Nat.le_refl _) HL.out)
      have HLV : Hid (OI ys (zs.drop (i + 1)) (m + 1) ⟨delta2 + 1, b2, dn, ou⟩) := Lib.hid (HI.out.2.leave HOI.out)
      have hpl := HPL.out
      have hm1' : (m + 1) % 4294967296 = m + 1 := by omega
      go_wp2_with fail
      clear hpl hm1'
      go_roundg (gk - 1)
      case measure => have := HK.out; omega
      case rel => exact ⟨i + 1, m + 1, delta2 + 1, b2, dn, ou, no4, lv4, by go_num, rfl, rfl, rfl, rfl, Lib.hid ⟨by have := HK.out.1; omega, hi, by rw [HSU.out, HIS.out, HI.out.1], HLV.out⟩, HX, HO, HB⟩
    ·have hi3 : ¬ (i : Int) < (zs.length : Int) := by omega
     have HIE : Hid (zs.take i = zs) := Lib.hid (List.take_of_length_le (by omega))
     have HOUT : Hid (textZ ys zs = out) := Lib.hid (by
      have h := HK.out.2.2.1
      rw [HIE.out] at h
      unfold textZ
      rw [HLL.out.2, h])
     obtain ⟨RES, hres, hstr⟩ := str_of_bytes out (by rw [← HOUT.out]; exact text_range HUP.out HR.out)
     have HRES := Lib.hid hres
     have HSTR := Lib.hid hstr
     clear hres hstr
     rw [← HRES.out] at HX
     go_wp2_with fail
     refine (builderString_c w.heap.size w.heap.size RES no3 lv3 _ HX.out (Nat.le_refl _) HB.out.size).mono ?_
     rintro e w5 ⟨rfl, hb5⟩
     have HB5 := Lib.hid hb5
     clear hb5
     go_wp2_with fail
     go_ret
     exact ⟨zs, HUP.out, by rw [HSTR.out, HOUT.out]; rfl, below_join HB.out HB5.out⟩
def zsL (ys : List Int) : List Int := Lib.compact ((highL ys).mergeSort fun a b => decide (a ≤ b))
theorem upz_zs (ys : List Int) : UpZ ys (zsL ys) := by
 refine upz_of (List.mergeSort_perm _ _) ?_
 have h := List.pairwise_mergeSort (le := fun a b : Int => decide (a ≤ b)) (fun a b c h1 h2 => by simp at *; omega) (fun a b => by simp; omega) (highL ys)
 exact h.imp fun h => by simpa using h
def textL (ys : List Int) : List Int := textZ ys (zsL ys)
def textP (ys : List Int) : ByteArray := strOfNums (textL ys)
theorem text_p (A : Option Addr) (c : Nat) (ys : List Int) (w : World) (hs : ReadsInt w .u32 A ys.length ys) (hl : ys.length ≤ 10000) (hr : ∀ y ∈ ys, 0 ≤ y ∧ y ≤ 1114111) :
  Calls Tryz.prog 122 #[.slice A ys.length c] w fun e w' => e = .returned (.string (textP ys)) ∧ Below w.heap.size w w' := by
 refine (text_c A c ys w hs hl hr).mono ?_
 rintro e w' ⟨zs, hz, rfl, hb⟩
 have e : zs = zsL ys := upz_unique zs (zsL ys) hz.1 (upz_zs ys).1 fun x => (hz.2 x).trans ((upz_zs ys).2 x).symm
 rw [e]
 exact ⟨rfl, hb⟩
theorem bytes_p (ys : List Int) (hr : ∀ y ∈ ys, 0 ≤ y ∧ y ≤ 1114111) : bytesOf (textP ys) = textL ys := bytes_str _ (text_range (upz_zs ys) hr)
theorem outer_len (ys : List Int) (start : Nat) : ∀ (zs : List Int) (n : Int) (s : TS), OI ys zs n s → ys.length ≤ 10000 → (outerT ys start zs (n, s)).2.out.length ≤ ys.length + 1 + 20 * ys.length
 | [], n, s, h, hl => by have := h.out; have := h.done_le; show s.out.length ≤ _; omega
 | m :: zs, n, s, h, hl => by
  obtain ⟨D, hD, -, -, -, -, -, -, -, h0⟩ := h.enter hl
  have hin : ∀ i, i ≤ ys.length → II ys m i (innerT start m (ys.take i) { s with delta := s.delta + D }) := by
   intro i
   induction i with
   | zero => intro _; exact h0
   | succ i ih =>
    intro hi
    rw [inner_succ start m ys _ i (by omega)]
    exact (ih (by omega)).step (by omega) start
  have h1 := hin ys.length (Nat.le_refl _)
  rw [List.take_length] at h1
  have h2 := h1.leave h
  rw [← hD] at h2
  exact outer_len ys start zs (m + 1) _ h2 hl
theorem textP_size (ys : List Int) (hl : ys.length ≤ 10000) (hr : ∀ y ∈ ys, 0 ≤ y ∧ y ≤ 1114111) : (textP ys).size ≤ 300000 := by
 rw [← bytesOf_length, bytes_p ys hr]
 have := outer_len ys (lowL ys).length (zsL ys) 128 (startT ys) (OI.start (upz_zs ys) hr) hl
 unfold textL textZ
 omega
def EPn : EMach := ⟨List Int, [], fun st c => (st ++ [c], []), fun _ => [], textL⟩
structure RepPE (w : World) (g : Nat) (F : Nat → Prop) (d : ESt EPn) : Prop where
 ex : ∃ lv xs, EPX w g 0 d.err d.fat d.en d.pos xs (strOf d.kept) lv ∧ (d.err = 0 ∧ d.en = false → xs = d.st ∧ d.kept = [] ∧ xs.length = d.pos ∧ (∀ y ∈ xs, 0 ≤ y ∧ y ≤ 1114111) ∧ d.fat = 0) ∧ ∀ k, F k ↔ (k = g ∨ some k = lv.ownBlock)
theorem EPX.stepE {w0 w W w1 : World} {g : Nat} {err fat : Int} {en : Bool} {n : Int} {xs xs1 : List Int} {pend : ByteArray} {lv lv1 lv2 : Value} (h : EPX w g 0 err fat en n xs pend lv1) (hb : Below w.heap.size w W) (hg : W.grownBy w1 lv1.ownBlock) (hq : QRow w1 0 47 1 lv2 xs1.length (nums .u32 xs1)) (hE : Eff w0 w (fun k => k = g ∨ some k = lv.ownBlock)) (ho : lv1.ownBlock = lv.ownBlock ∨ ∃ b, lv1.ownBlock = some b ∧ w0.heap.size ≤ b) :
  EPX (w1.setCell ⟨g, 5, none⟩ lv2) g 0 err fat en n xs1 pend lv2 ∧ Eff w0 (w1.setCell ⟨g, 5, none⟩ lv2) (fun k => k = g ∨ some k = lv.ownBlock) := by
 have h2 := h.below hb
 have hb1 : Blk w1 g _ _ := (hg.block g h2.blk.lt (own_types h2.list h2.blk (by decide))).trans h2.blk
 have hne1 := own_types hq hb1 (by decide)
 refine ⟨⟨hb1.set 5 lv2, q_move hq fun k hk => Below.heap_setCell w1 _ _ k fun e => hne1 (by rw [hk, e])⟩, ?_⟩
 refine ((hE.trans (Eff.of_below hb _) (fun _ _ h => h)).trans (Eff.of_grown hg) (fun k hk0 hk => ?_)).trans (Eff.set w1 g 5 lv2) (fun k _ hk => .inl hk)
 rcases ho with ho | ⟨b, ho, hbb⟩
 ·exact .inr (hk.trans ho)
 ·rw [ho] at hk; injection hk with hk; omega
theorem EPX.stopF {w : World} {g B : Nat} {n fat : Int} {xs : List Int} {pend : ByteArray} {lv : Value} (h : EPX w g B 0 fat false n xs pend lv) (e : Int) : EPX ((w.setCell ⟨g, 1, none⟩ (.int .i64 e)).setCell ⟨g, 2, none⟩ (.int .i64 n)) g B e n false n xs pend lv := by
 have hne := own_types h.list h.blk (by decide)
 refine ⟨(h.blk.set 1 _).set 2 _, q_move h.list fun k hk => ?_⟩
 have hk2 : k ≠ g := fun e => hne (by rw [hk, e])
 rw [Below.heap_setCell _ _ _ k hk2, Below.heap_setCell _ _ _ k hk2]
theorem scal_le1 {x : Int} (h : isScal x = true) : x ≤ 1114111 := by unfold isScal at h; simp at h; omega
theorem isP_scal (n : Int) (h0 : 0 ≤ n) : isP n = isScal n := by
 unfold isP isScal
 by_cases h1 : n ≤ 1114111
 ·by_cases h2 : n < 55296
  ·rw [if_pos h1, if_pos h2, decide_eq_true h1, decide_eq_false (by omega)]; rfl
  ·by_cases h3 : n > 57343
   ·rw [if_pos h1, if_neg h2, decide_eq_true h1, decide_eq_true h3, decide_eq_false (show ¬ n ≤ 57343 by omega)]; simp
   ·rw [if_pos h1, if_neg h2, decide_eq_true h1, decide_eq_false h3, decide_eq_true (show n ≤ 57343 by omega), decide_eq_true (show 55296 ≤ n by omega)]; rfl
 ·rw [if_neg h1, decide_eq_false h1]; rfl
theorem put0 : ∀ st c, (EPn.put st c).2.length ≤ 0 := fun _ _ => Nat.le_refl _
set_option maxRecDepth 100000 in
set_option maxHeartbeats 8000000 in
theorem feedPE {w : World} {g : Nat} {F : Nat → Prop} {d : ESt EPn} (A : Option Addr) (c : Nat) (l : List Int) (room : Int) (h : RepPE w g F d) (hr : ReadsInt w .u32 A l.length l) (hs : l ≠ [] → ∀ ad, A = some ad → ¬ F ad.block)
  (hsc : ∀ x ∈ l, 0 ≤ x) (hp : d.pos + l.length ≤ 1000000) :
  Calls Tryz.prog 121 #[.pointer (some ⟨g, 0, none⟩), .slice A l.length c, .int .i64 room] w fun e w' => ∃ F', e = .returned (.tuple #[.int .i64 (feedE EPn room l (d.drop (giveZ room d.kept.length)) (d.kept.take (giveZ room d.kept.length))).1,
    .string (strOf (feedE EPn room l (d.drop (giveZ room d.kept.length)) (d.kept.take (giveZ room d.kept.length))).2.1)]) ∧
   RepPE w' g F' (feedE EPn room l (d.drop (giveZ room d.kept.length)) (d.kept.take (giveZ room d.kept.length))).2.2 ∧ Eff w w' F ∧ (∀ k, F' k → F k ∨ w.heap.size ≤ k) := by
 obtain ⟨lv, xs, hx, hgo, hF⟩ := h.ex
 by_cases hg : d.err = 0 ∧ d.en = false
 ·obtain ⟨rfl, hk0, hlen, hrg, hft⟩ := hgo hg
  have hd0 : d.drop (giveZ room d.kept.length) = d := by unfold ESt.drop; rw [hk0]; simp; cases d; simp at hk0; simp [hk0]
  have ho0 : d.kept.take (giveZ room d.kept.length) = [] := by rw [hk0]; exact List.take_nil
  rw [hd0, ho0]
  have HX0 : Hid (EPX w g 0 0 0 false d.pos d.st (strOf []) lv ∨ True) := Lib.hid (.inr trivial)
  have HX := Lib.hid hx
  have HR0 := Lib.hid hr
  have HSC := Lib.hid hsc
  have HF := Lib.hid hF
  have HG := Lib.hid (And.intro hg (And.intro hk0 (And.intro hlen (And.intro hrg (And.intro hft hp)))))
  have HSG : Hid (l ≠ [] → ∀ ad, A = some ad → ¬ (ad.block = g ∨ some ad.block = lv.ownBlock)) := Lib.hid fun hne ad had e => hs hne ad had ((hF _).2 e)
  clear hx hr hsc hF hg hk0 hlen hrg hft hp hs h hgo hd0 ho0 HX0
  go_enter Tryz.func121, Tryz.ntmps121
  go_upto_block 0 with fail
  go_cut [8] (fun s8 wx => ∃ (k : Nat) (D : ESt EPn) (lv1 : Value) (xs1 : List Int), s8 = .int .i64 k ∧ Hid (feedE EPn room l d [] = (k, [], D)) ∧ Hid (EPX wx g 0 D.err D.fat D.en D.pos xs1 (strOf D.kept) lv1) ∧ Hid (D.kept = [] ∧ (D.err = 0 ∧ D.en = false → xs1 = D.st ∧ D.kept = [] ∧ xs1.length = D.pos ∧ (∀ y ∈ xs1, 0 ≤ y ∧ y ≤ 1114111) ∧ D.fat = 0)) ∧ Hid (lv1.ownBlock = lv.ownBlock ∨ ∃ b, lv1.ownBlock = some b ∧ w.heap.size ≤ b) ∧ Hid (Eff w wx (fun k => k = g ∨ some k = lv.ownBlock)))
  case first =>
   go_wp2_with fail
   go_loopg [8] (l.length) (fun kq s8 wx => ∃ (k : Nat) (D : ESt EPn) (lv1 : Value), s8 = .int .i64 k ∧ Hid (kq = l.length - k) ∧ Hid (FE EPn 0 room l d [] k D []) ∧ Hid (EPX wx g 0 0 D.fat false D.pos D.st (strOf []) lv1) ∧ Hid ((D.err = 0 ∧ D.en = false) ∧ D.kept = [] ∧ (List.length (α := Int) D.st) = D.pos ∧ (∀ y : Int, y ∈ (show List Int from D.st) → 0 ≤ y ∧ y ≤ 1114111) ∧ D.fat = 0) ∧ Hid (lv1.ownBlock = lv.ownBlock ∨ ∃ b, lv1.ownBlock = some b ∧ w.heap.size ≤ b) ∧ Hid (Eff w wx (fun k => k = g ∨ some k = lv.ownBlock)))
   case atStart =>
    refine ⟨0, d, lv, rfl, Lib.hid rfl, Lib.hid (FE.start _ _ _ _ _ _), Lib.hid ?_, Lib.hid ⟨HG.out.1, HG.out.2.1, HG.out.2.2.1, HG.out.2.2.2.1, HG.out.2.2.2.2.1⟩, Lib.hid (.inl rfl), Lib.hid (Eff.refl _ _)⟩
    have := HX.out
    rw [HG.out.1.1, HG.out.1.2, HG.out.2.1] at this
    exact this
   case round =>
    obtain ⟨k, D, lv1, rfl, HK, HFE, HX1, HD, HO, HE⟩ := hrel
    have hk0 : (0 : Int) ≤ (k : Int) := by omega
    by_cases hk : k < l.length
    ·have hk1 : (k : Int) < (l.length : Int) := by omega
     obtain ⟨ad, rfl, hcell⟩ := ReadsInt.at_ (reads_eff HR0.out HE.out (fun hne ad had e => HSG.out hne ad had e)) (k : Int) hk0 hk1
     rw [Int.toNat_natCast, show rd l (k : Int) = l.getD k 0 by simp [rd]] at hcell
     obtain ⟨y, hy⟩ : ∃ y, l.getD k 0 = y := ⟨_, rfl⟩
     rw [hy] at hcell
     have hyk : 0 ≤ y := HSC.out y (by rw [← hy, List.getD_eq_getElem?_getD, List.getElem?_eq_getElem hk]; exact List.getElem_mem hk)
     have HY := Lib.hid hy
     clear hy
     have HPB : Hid (D.pos = d.pos + k ∧ d.pos + l.length ≤ 1000000) := Lib.hid ⟨HFE.out.pos, HG.out.2.2.2.2.2⟩
     cases hb : isP y with
     | false =>
      have hsx0 : isScal (l.getD k 0) = false := by rw [HY.out, ← isP_scal y hyk]; exact hb
      have HN := Lib.hid (HFE.out.bad0 rfl hk ⟨HD.out.2.1, HD.out.1.1, HD.out.1.2⟩ hsx0)
      have hic := fun W => is_c y W
      rw [hb] at hic
      have HIC := Lib.hid hic
      clear hb hsx0 hic
      go_wp2_with (first
       | (go_at_call 103; refine (going_yes HX1.out.blk rfl rfl).mono ?_; rintro e w1 ⟨rfl, rfl⟩)
       | (go_at_call 105; refine (HIC.out _).mono ?_; rintro e w2 ⟨rfl, hb2⟩; have HB2 := Lib.hid hb2; have HX2 := Lib.hid (HX1.out.below hb2); clear hb2)
       | (go_at_call 106; refine (stop_c (err := 2) (by decide) HX2.out.blk rfl rfl rfl rfl).mono ?_; rintro e w3 ⟨rfl, rfl⟩))
      go_meet
      refine ⟨k, _, lv1, D.st, rfl, HN, Lib.hid ?_, Lib.hid ⟨HD.out.2.1, fun h => absurd h.1 (show ¬ ((2 : Int) = 0) by decide)⟩, HO, Lib.hid ?_⟩
      ·show EPX _ g 0 2 D.pos D.en D.pos D.st (strOf D.kept) lv1
       rw [HD.out.1.2, HD.out.2.1]
       exact HX2.out.stopF 2
      ·exact ((HE.out.trans (Eff.of_below HB2.out _) (fun _ _ h => h)).trans (Eff.set _ g 1 _) (fun _ _ h => .inl h)).trans (Eff.set _ g 2 _) (fun _ _ h => .inl h)
     | true =>
      have hsx : isScal (l.getD k 0) = true := by rw [HY.out, ← isP_scal y hyk]; exact hb
      have hy1 := scal_le1 hsx
      rw [HY.out] at hy1
      have HFE1 := Lib.hid (HFE.out.eat put0 hk ⟨HD.out.2.1, HD.out.1.1, HD.out.1.2⟩ hsx)
      have hic := fun W => is_c y W
      rw [hb] at hic
      have HIC := Lib.hid hic
      clear hb hsx hic
      go_upto_region 5 with (first
       | (go_at_call 103; refine (going_yes HX1.out.blk rfl rfl).mono ?_; rintro e w1 ⟨rfl, rfl⟩)
       | (go_at_call 105; refine (HIC.out _).mono ?_; rintro e w2 ⟨rfl, hb2⟩; have HB2 := Lib.hid hb2; have HX2 := Lib.hid (HX1.out.below hb2); clear hb2))
      obtain ⟨X, hX⟩ : ∃ X : List Int, D.st = X := ⟨_, rfl⟩
      have HXL : Hid (X.length ≤ 1000000) := Lib.hid (by rw [← hX]; have := HD.out.2.2.1; have := HPB.out; omega)
      have HX3 : Hid (EPX w2 g 0 0 D.fat false D.pos X (strOf []) lv1) := by rw [← hX]; exact HX2
      have HE2 := Lib.hid (HE.out.trans (Eff.of_below HB2.out _) (fun _ _ h => h))
      have HXS := Lib.hid hX
      have hcc1 : w2.cell? (ad.add k) = some (.int .u32 y) := (HB2.out.cell (World.block_lt_of_cell? wr _ hcell)).trans hcell
      have hcc2 : (w2.alloc (.cells #[.int .u32 y] 47 (0, 0))).cell? (ad.add k) = some (.int .u32 y) := ((below_alloc (Below.refl _ _) (.cells #[.int .u32 y] 47 (0, 0))).cell (World.block_lt_of_cell? w2 _ hcc1)).trans hcc1
      clear HX1 HX2 HE hX hcell HIC
      obtain ⟨A1, c1, rfl, hc1⟩ := q_slice HX3.out.list
      have mixed : Tryz.prog.follows Departure.mixedOrders = true := by kernel_rfl
      obtain ⟨hS0, hS1⟩ := HX3.out.at5 (Below.refl _ _)
      obtain ⟨hS2, hS3⟩ := HX3.out.at5 (below_alloc (Below.refl _ _) (.cells #[.int .u32 y] 47 (0, 0)))
      have HLB : Hid ((X.length + 1) * 4 ≤ 140737488355328) := Lib.hid (by have := HXL.out; omega)
      go_cut [8] (fun s8 wx => s8 = .int .i64 k ∧ ∃ lv2, Hid (EPX wx g 0 0 D.fat false D.pos (X ++ [y]) (strOf []) lv2) ∧ Hid (lv2.ownBlock = lv.ownBlock ∨ ∃ b, lv2.ownBlock = some b ∧ w.heap.size ≤ b) ∧ Hid (Eff w wx (fun k => k = g ∨ some k = lv.ownBlock)))
      case first =>
       go_region_law_o (refine q_step 0 rfl (.tmp 35) (.tmp 40) 22 47 .u32 4 rfl Tryz.underlying22 info_u32 (by decide) (.slice A1 X.length c1) X [y] (some ⟨w2.heap.size, 0, none⟩) 1 1 (by rfl) (by rfl) (HX3.out.below (below_drew1 (below_alloc (Below.refl _ _) _))).list (reads_oned w2 _) (Nat.zero_le _) HLB.out ?_; intro v7 w7 hq7 hg7 hat7; obtain ⟨A7, k7, rfl, hk7⟩ := q_slice hq7; have HQ7 := Lib.hid hq7; have HG7 := Lib.hid hg7; have HA7 := Lib.hid hat7; obtain ⟨hS7, hS8⟩ := HX3.out.at5g (below_drew1 (below_alloc (Below.refl _ _) _)) hg7; clear hq7 hg7 hat7)
       all_goals (go_wp2_with fail; go_meet)
       all_goals
        rw [show X.length + 1 = (X ++ [y]).length by simp]
        obtain ⟨a1, a2⟩ := HX3.out.stepE (below_drew1 (below_alloc (Below.refl _ _) _)) HG7.out HQ7.out HE2.out HO.out
        refine ⟨rfl, _, Lib.hid a1, Lib.hid ?_, Lib.hid a2⟩
        have hsz : w.heap.size ≤ (w2.alloc (.cells #[.int .u32 y] 47 (0, 0))).drew.heap.size := Nat.le_trans HE2.out.size (below_drew1 (below_alloc (Below.refl w2.heap.size w2) (.cells #[.int .u32 y] 47 (0, 0)))).size
        rcases HA7.out with e | ⟨b, e, hb⟩
        ·rcases HO.out with e2 | ⟨b2, e2, hb2⟩
         ·exact .inl (e.trans e2)
         ·exact .inr ⟨b2, e.trans e2, hb2⟩
        ·exact .inr ⟨b, e, Nat.le_trans hsz hb⟩
      case rest =>
       obtain ⟨rfl, lv2, HX4, HO4, HE4⟩ := hcut
       have hkb : (k : Int) ≤ 1000000 := by have := HPB.out; omega
       go_wp2_with (go_at_call 109; refine (eat_c HX4.out.blk rfl rfl rfl (by omega) (by have := HPB.out; omega)).mono ?_; rintro e w3 ⟨rfl, rfl⟩)
       go_roundg (l.length - (k + 1))
       case measure => have := HK.out; omega
       case rel =>
        refine ⟨k + 1, { D with pos := D.pos + 1, kept := [], st := X ++ [y] }, lv2, by go_num, Lib.hid rfl, Lib.hid ?_, Lib.hid ?_, Lib.hid ⟨HD.out.1, rfl, ?_, ?_, HD.out.2.2.2.2⟩, HO4, Lib.hid (HE4.out.trans (Eff.set _ g 0 _) (fun _ _ h => .inl h))⟩
        ·have h := HFE1.out
         rw [HY.out] at h
         have e1 : EPn.put D.st y = (X ++ [y], []) := by rw [← HXS.out]; rfl
         rw [e1] at h
         simp only [List.length_nil, List.take_nil, List.drop_nil, List.append_nil] at h
         exact h
        ·exact HX4.out.eat _
        ·show (X ++ [y]).length = D.pos + 1
         rw [List.length_append, ← HXS.out]
         have := HD.out.2.2.1
         simp only [List.length_cons, List.length_nil]
         omega
        ·intro z hz
         rcases List.mem_append.1 (show z ∈ X ++ [y] from hz) with h | h
         ·exact HD.out.2.2.2.1 z (by rw [HXS.out]; exact h)
         ·rw [List.mem_singleton.1 h]; exact ⟨hyk, hy1⟩
    ·have hk1 : ¬ (k : Int) < (l.length : Int) := by omega
     have HN := Lib.hid (HFE.out.all hk)
     clear hk
     go_wp2_with fail
     go_meet
     refine ⟨k, D, lv1, D.st, rfl, HN, Lib.hid ?_, Lib.hid ⟨HD.out.2.1, fun _ => ⟨rfl, HD.out.2.1, HD.out.2.2.1, HD.out.2.2.2.1, HD.out.2.2.2.2⟩⟩, HO, HE⟩
     have := HX1.out
     rw [HD.out.1.1, HD.out.1.2, HD.out.2.1]
     exact this
  case rest =>
   obtain ⟨k, D, lv1, xs1, rfl, HFE, HX1, HD, HO, HE⟩ := hcut
   have HGV := Lib.hid (give_l (room := room) (xs := D.kept) (o := 4) HX1.out.blk rfl)
   have hz : giveZ room D.kept.length = 0 := by rw [HD.out.1]; unfold giveZ; simp
   rw [hz, HD.out.1] at HGV
   clear hz
   go_wp2_with (go_at_call 104; refine HGV.out.mono ?_; rintro e w1 ⟨rfl, rfl⟩)
   refine bodyPost_ret (v := .tuple #[.int .i64 k, .string (strOf [])]) (by simp [results, Tryz.results121, go_sem]) rfl ?_
   rw [HFE.out]
   refine ⟨fun k => k = g ∨ some k = lv1.ownBlock, rfl, ⟨lv1, xs1, ?_, HD.out.2, fun _ => Iff.rfl⟩, (HE.out.trans (Eff.set _ g 4 _) (fun _ _ h => .inl h)).mono (fun k _ h => (HF.out k).2 h), fun k hk => ?_⟩
   ·have h := HX1.out.pend (strOf [])
    rw [HD.out.1]
    exact h
   ·rcases hk with hk | hk
    ·exact .inl ((HF.out k).2 (.inl hk))
    ·rcases HO.out with e | ⟨b, e, hb⟩
     ·exact .inl ((HF.out k).2 (.inr (hk.trans e)))
     ·rw [e] at hk; injection hk with hk; exact .inr (hk ▸ hb)
 ·have hE : feedE EPn room l (d.drop (giveZ room d.kept.length)) (d.kept.take (giveZ room d.kept.length)) = (0, d.kept.take (giveZ room d.kept.length), d.drop (giveZ room d.kept.length)) := by
   cases l with
   | nil => rfl
   | cons a r => rw [feedE, if_neg (fun h => hg ⟨h.2.1, h.2.2⟩)]
  rw [hE]
  have hgf : (d.err == 0 && !d.en) = false := by
   rcases Bool.eq_false_or_eq_true (d.err == 0 && !d.en) with h | h
   ·simp at h; exact absurd h hg
   ·exact h
  have hgc := going_c hx.blk rfl rfl
  rw [hgf] at hgc
  have HGC := Lib.hid hgc
  have HX := Lib.hid hx
  have HF := Lib.hid hF
  have HNG := Lib.hid hg
  have HGV := Lib.hid (give_l (room := room) (xs := d.kept) (o := 4) hx.blk rfl)
  clear hx hr hs hsc hp hgo hF hg hE hgf hgc h
  go_enter Tryz.func121, Tryz.ntmps121
  go_upto_block 0 with fail
  go_cut [8] (fun s8 wx => s8 = .int .i64 0 ∧ ∃ W0, wx = W0 ∧ Hid (W0 = w))
  case first =>
   go_wp2_with fail
   go_loopg [8] 0 (fun kq s8 wx => s8 = .int .i64 0 ∧ ∃ W0, wx = W0 ∧ Hid (W0 = w))
   case atStart => exact ⟨rfl, _, rfl, Lib.hid rfl⟩
   case round =>
    obtain ⟨rfl, W0, hw0, HW0⟩ := hrel
    obtain rfl := hw0.symm
    obtain rfl := HW0.out.symm
    clear hw0 HW0
    by_cases hk : 0 < l.length
    ·have hk1 : (0 : Int) < (l.length : Int) := by omega
     clear hk
     go_wp2_with (go_at_call 103; refine HGC.out.mono ?_; rintro e w1 ⟨rfl, rfl⟩)
     go_meet
     exact ⟨rfl, _, rfl, Lib.hid rfl⟩
    ·have hk1 : ¬ (0 : Int) < (l.length : Int) := by omega
     clear hk
     go_wp2_with fail
     go_meet
     exact ⟨rfl, _, rfl, Lib.hid rfl⟩
  case rest =>
   obtain ⟨rfl, W0, hw0, HW0⟩ := hcut
   obtain rfl := hw0.symm
   obtain rfl := HW0.out.symm
   clear hw0 HW0
   go_wp2_with (go_at_call 104; refine HGV.out.mono ?_; rintro e w1 ⟨rfl, rfl⟩)
   refine bodyPost_ret (v := .tuple #[.int .i64 0, .string (strOf (d.kept.take (giveZ room d.kept.length)))]) (by simp [results, Tryz.results121, go_sem]) rfl ?_
   exact ⟨F, rfl, ⟨lv, xs, HX.out.pend _, fun h => absurd h HNG.out, HF.out⟩, (Eff.set _ g 4 _).mono (fun k _ h => (HF.out k).2 (.inl h)), fun k h => .inl h⟩
set_option maxRecDepth 100000 in
theorem finPE {w : World} {g : Nat} {F : Nat → Prop} {d : ESt EPn} (h : RepPE w g F d) (hp : d.pos ≤ 10000) :
  Calls Tryz.prog 120 #[.pointer (some ⟨g, 0, none⟩)] w fun e w' => ∃ F', e = .returned (.tuple #[]) ∧ RepPE w' g F' (endE EPn d) ∧ Eff w w' F ∧ (∀ k, F' k → F k ∨ w.heap.size ≤ k) := by
 obtain ⟨lv, xs, hx, hgo, hF⟩ := h.ex
 by_cases hg : d.err = 0 ∧ d.en = false
 ·obtain ⟨hst, hk0, hlen, hrg, hft⟩ := hgo hg
  have hx0 := hx
  rw [hg.1, hg.2, hk0, hft] at hx0
  have hxl : xs.length ≤ 10000 := by rw [hlen]; exact hp
  have hE : endE EPn d = { d with kept := textL xs, en := true } := by
   unfold endE
   rw [if_pos hg, hk0, hst]
   rfl
  have ht : ∀ W, Below w.heap.size w W → Calls Tryz.prog 122 #[lv] W fun e w' => e = .returned (.string (textP xs)) ∧ Below W.heap.size W w' := fun W hW => by
   obtain ⟨A1, c1, rfl, hc1⟩ := q_slice hx0.list
   exact text_p A1 c1 xs W (q_reads (k := .u32) (hx0.below hW).list) hxl hrg
  refine (encEnd_c g 0 d.pos xs lv (textP xs) w hx0 (Nat.le_trans (textP_size xs hxl hrg) (by decide)) ht).mono ?_
  rintro e w' ⟨rfl, w2, HB, rfl⟩
  rw [hE]
  refine ⟨F, rfl, ⟨lv, xs, ?_, fun h => absurd h.2 (show ¬ (true = false) by decide), hF⟩, ?_, fun k h => .inl h⟩
  ·have h := ((hx0.below HB.out).pend (textP xs)).fin
   show EPX _ g 0 d.err d.fat true d.pos xs (strOf (textL xs)) lv
   rw [hg.1, hft]
   exact h
  ·exact ((Eff.of_below HB.out F).trans (Eff.set _ g 4 _) (fun k _ h => (hF k).2 (.inl h))).trans (Eff.set _ g 3 _) (fun k _ h => (hF k).2 (.inl h))
 ·have hE : endE EPn d = d := by unfold endE; rw [if_neg hg]
  have hgf : (d.err == 0 && !d.en) = false := by
   rcases Bool.eq_false_or_eq_true (d.err == 0 && !d.en) with h | h
   ·simp at h; exact absurd h hg
   ·exact h
  have hgc := going_c hx.blk rfl rfl
  rw [hgf] at hgc
  have HGC := Lib.hid hgc
  have HH := Lib.hid h
  rw [hE]
  clear hx hgo hF hg hE hgf hgc h hp
  go_enter Tryz.func120, Tryz.ntmps120
  go_wp2_with (go_at_call 103; refine HGC.out.mono ?_; rintro e w1 ⟨rfl, rfl⟩)
  exact bodyPost_end (v := .tuple #[]) (by simp [results, Tryz.results120, go_sem]) rfl ⟨F, rfl, HH.out, Eff.refl _ _, fun k h => .inl h⟩
theorem kPE : EncK 59 121 120 EPn RepPE where
 invF := by intro n g x y w; kernel_rfl
 invE := by intro n g w; kernel_rfl
 invD := by intro n g w; kernel_rfl
 invW := by intro n g w; kernel_rfl
 lt h k hk := by
  obtain ⟨lv, xs, hx, _, hF⟩ := h.ex
  rcases (hF k).1 hk with rfl | hk
  ·exact hx.blk.lt
  ·exact q_lt hx.list k hk.symm
 eff h he hs := by
  obtain ⟨lv, xs, hx, hgo, hF⟩ := h.ex
  exact ⟨lv, xs, ⟨hx.blk.eff he (hs _ ((hF _).2 (.inl rfl))), q_move hx.list fun k hk => he.block k (q_lt hx.list k hk) (hs k ((hF k).2 (.inr hk.symm)))⟩, hgo, hF⟩
 feed A c l room h hr hs hsc hp hk hroom := feedPE A c l room h hr hs hsc hp
 fin h hp _ := finPE h hp
 done h := by
  obtain ⟨lv, xs, hx, _, hF⟩ := h.ex
  exact outdone_c (err := _) (en := _) (xs := _) hx.blk rfl rfl rfl
 blk h := by
  obtain ⟨lv, xs, hx, _, hF⟩ := h.ex
  exact ⟨111, _, by decide, by decide, hx.blk, rfl, rfl⟩
theorem newPE_rep (w : World) : RepPE (w.alloc (.cells #[.int .i64 0, .int .i64 0, .int .i64 0, .bool false, .string ⟨#[]⟩, .slice none 0 0] 111 (0, 0))) w.heap.size (fun k => k = w.heap.size) (ESt.new EPn) :=
 ⟨.slice none 0 0, [], EPX.new w 0 |> fun h => h, fun _ => ⟨rfl, rfl, rfl, (fun y hy => absurd hy List.not_mem_nil), rfl⟩, fun k => ⟨.inl, fun h => h.elim id (fun h => by cases h)⟩⟩
set_option maxRecDepth 100000 in
theorem newE7 : NewE 7 59 EPn RepPE := by
 intro w
 go_enter Tryz.func6, Tryz.ntmps6
 go_wp2_with (go_at_call 19; refine (newenc_c _).mono ?_; rintro e w' ⟨rfl, rfl⟩)
 refine bodyPost_ret (v := .tuple #[.iface 59 (.pointer (some ⟨w.heap.size, 0, none⟩)), .int .i64 0]) (by simp [results, Tryz.results6, go_sem]) rfl ?_
 exact ⟨_, _, rfl, below_new (Below.refl _ _) _, newPE_rep w, fun k hk => Nat.le_of_eq hk.symm⟩
theorem outer_ind (ys : List Int) (start : Nat) (hl : ys.length ≤ 10000) (P : TS → Prop) (hstep : ∀ m i s, II ys m i s → i < ys.length → P s → P (stepT start m s (ys.getD i 0))) (hd : ∀ s d, P s → P { s with delta := d }) :
  ∀ (zs : List Int) (n : Int) (s : TS), OI ys zs n s → P s → P (outerT ys start zs (n, s)).2 ∧ ∃ n', OI ys [] n' (outerT ys start zs (n, s)).2
 | [], n, s, h, hp => ⟨hp, n, h⟩
 | m :: zs, n, s, h, hp => by
  obtain ⟨D, hD, -, -, -, -, -, -, -, h0⟩ := h.enter hl
  have hin : ∀ i, i ≤ ys.length → II ys m i (innerT start m (ys.take i) { s with delta := s.delta + D }) ∧ P (innerT start m (ys.take i) { s with delta := s.delta + D }) := by
   intro i
   induction i with
   | zero => intro _; exact ⟨h0, hd _ _ hp⟩
   | succ i ih =>
    intro hi
    rw [inner_succ start m ys _ i (by omega)]
    obtain ⟨h1, h2⟩ := ih (by omega)
    exact ⟨h1.step (by omega) start, hstep m i _ h1 (by omega) h2⟩
  obtain ⟨h1, hp1⟩ := hin ys.length (Nat.le_refl _)
  rw [List.take_length] at h1 hp1
  have h2 := h1.leave h
  rw [← hD] at h2 hp1
  exact outer_ind ys start hl P hstep hd zs (m + 1) _ h2 (hd _ _ hp1)
theorem cntB_all : ∀ (ys : List Int) (n : Int), (∀ c ∈ ys, c < n) → cntB ys n = ys.length
 | [], _, _ => rfl
 | y :: ys, n, h => by
  have ih := cntB_all ys n (fun c hc => h c (List.mem_cons_of_mem _ hc))
  unfold cntB at *
  rw [List.filter_cons, if_pos (by simpa using h y List.mem_cons_self), List.length_cons, List.length_cons, ih]
theorem OI.all_done {ys : List Int} {n : Int} {s : TS} (h : OI ys [] n s) : s.done = ys.length := by
 rw [h.done]
 exact cntB_all ys n fun c hc => (h.cov c hc).elim id fun e => (by cases e)
theorem adK_le : ∀ (m k : Nat) (x b : Int), 0 ≤ x → x < 456 * 35 ^ m → m + 1 ≤ k → b ≤ adK k x b ∧ adK k x b ≤ b + 36 * m + 36
 | m, k, x, b, h0, hx, hk => by
  obtain ⟨k, rfl⟩ : ∃ j, k = j + 1 := ⟨k - 1, by omega⟩
  rw [adK]
  by_cases h : x > 455
  ·rw [if_pos h]
   cases m with
   | zero => simp at hx; omega
   | succ m =>
    rw [Int.pow_succ] at hx
    have := adK_le m k (x / 35) (b + 36) (by omega) (Int.ediv_lt_of_lt_mul (by decide) (by rw [Int.mul_assoc]; exact hx)) (by omega)
    omega
  ·rw [if_neg h]
   have e2 : 0 ≤ 36 * x / (x + 38) := Int.ediv_nonneg (by omega) (by omega)
   have e3 : 36 * x / (x + 38) ≤ 36 := by
    have := Int.ediv_le_ediv (a := 36 * x) (b := 36 * (x + 38)) (c := x + 38) (by omega) (by omega)
    rw [Int.mul_ediv_cancel _ (by omega)] at this
    exact this
   omega
theorem adaptP_le {delta points : Int} {fb : Bool} (h0 : 0 ≤ delta) (h1 : delta ≤ 600000000) (hp : 1 ≤ points) : 0 ≤ adaptP delta points fb ∧ adaptP delta points fb ≤ 298 := by
 unfold adaptP
 have key : ∀ y : Int, 0 ≤ y → y ≤ 300000000 → 0 ≤ adK 100 (y + y / points) 0 ∧ adK 100 (y + y / points) 0 ≤ 298 := by
  intro y y0 y1
  have e1 : y / points ≤ y := Int.ediv_le_self _ y0
  have e2 : 0 ≤ y / points := Int.ediv_nonneg y0 (by omega)
  have := adK_le 4 100 (y + y / points) 0 (by omega) (by omega) (by omega)
  omega
 cases fb with
 | true => simp only [if_true]; exact key _ (by omega) (by omega)
 | false => simp only [Bool.false_eq_true, if_false]; exact key _ (by omega) (by omega)
theorem putI_short (b : Int) (hb0 : 0 ≤ b) (hb : b ≤ 298) : ∀ (m k : Nat) (n : Int) (place : Nat), 0 ≤ n → n < 26 * 10 ^ m → place + m = 8 → (putI k n b place).length ≤ m + 1
 | m, 0, _, _, _, _, _ => by rw [putI]; simp
 | m, k + 1, n, place, h0, hn, hp => by
  obtain ⟨t0, t1⟩ := thr_range (place : Int) b
  rw [putI]
  by_cases hlt : n < thrP place b
  ·rw [if_pos hlt]; simp
  ·rw [if_neg hlt]
   obtain ⟨q0, q1, r0, r1⟩ := quo_facts (by omega) t0 t1 (n := n)
   cases m with
   | zero =>
    exfalso
    have e : thrP (place : Int) b = 26 := by
     have : place = 8 := by omega
     subst this
     unfold thrP mn mx
     have a1 : (if ((8 : Nat) : Int) ≤ 0 then (0 : Int) else ((8 : Nat) : Int)) = 8 := by decide
     repeat' split
     all_goals omega
    simp at hn
    omega
   | succ m =>
    rw [Int.pow_succ] at hn
    have := putI_short b hb0 hb m k ((n - thrP place b) / (36 - thrP place b)) (place + 1) q0 (by omega) (by omega)
    simp only [List.length_cons]
    rw [show ((place + 1 : Nat) : Int) = (place : Int) + 1 from rfl] at this
    omega
theorem putL_short {n b : Int} (h0 : 0 ≤ n) (hn : n ≤ 600000000) (hb0 : 0 ≤ b) (hb : b ≤ 298) : (putL n b).length ≤ 9 := by
 have h := putI_short b hb0 hb 8 20 n 0 h0 (by omega) rfl
 exact h
theorem II.delta_short {ys : List Int} {m : Int} {i : Nat} {s : TS} (h : II ys m i s) (hi : i ≤ ys.length) (hl : ys.length ≤ 500) : s.delta ≤ 600000000 := by
 have m0 := h.m0
 have m1 := h.m1
 have e4 : (m - 128) * ((ys.length : Int) + 1) ≤ 1114000 * 501 := mul_le (by omega) (by omega) (by omega) (by omega)
 have d1 := h.d1
 omega
theorem low_high_len : ∀ ys : List Int, (lowL ys).length + (highL ys).length = ys.length
 | [] => rfl
 | y :: ys => by
  have := low_high_len ys
  unfold lowL highL at *
  by_cases c : y < 128
  ·simp only [List.filter_cons, c, decide_true, if_true, Bool.not_true, Bool.false_eq_true, if_false, List.length_cons]; omega
  ·simp only [List.filter_cons, c, decide_false, Bool.not_false, if_true, Bool.false_eq_true, if_false, List.length_cons]; omega
theorem text_short (ys : List Int) (hl : ys.length ≤ 500) (hr : ∀ y ∈ ys, 0 ≤ y ∧ y ≤ 1114111) :
  (lowL ys).length + min (lowL ys).length 1 + (highL ys).length ≤ (textP ys).size ∧ (textP ys).size ≤ (lowL ys).length + min (lowL ys).length 1 + (highL ys).length + 8 * (highL ys).length := by
 have hsep : (sepL ys).length = min (lowL ys).length 1 := by unfold sepL; split <;> simp <;> omega
 have h := outer_ind ys (lowL ys).length (by omega) (fun s => (0 ≤ s.b ∧ s.b ≤ 298) ∧ (lowL ys).length ≤ s.done ∧ (lowL ys).length + (sepL ys).length + (s.done - (lowL ys).length) ≤ s.out.length ∧ s.out.length ≤ (lowL ys).length + (sepL ys).length + 9 * (s.done - (lowL ys).length))
  (fun m i s hI hi ⟨⟨b0, b1⟩, hd, h1, h2⟩ => by
   have hd0 := hI.d0
   have hd1 := hI.delta_short (by omega) hl
   unfold stepT
   by_cases c1 : ys.getD i 0 < m
   ·rw [if_pos c1]; exact ⟨⟨b0, b1⟩, hd, h1, h2⟩
   ·rw [if_neg c1]
    by_cases c2 : ys.getD i 0 = m
    ·rw [if_pos c2]
     have hp1 := (putL_len s.delta s.b).1
     have hp2 := putL_short hd0 hd1 b0 b1
     refine ⟨adaptP_le hd0 hd1 (by omega), by show _ ≤ s.done + 1; omega, ?_, ?_⟩
     ·show _ ≤ (s.out ++ putL s.delta s.b).length
      rw [List.length_append]
      show _ + (s.done + 1 - _) ≤ _
      omega
     ·show (s.out ++ putL s.delta s.b).length ≤ _ + 9 * (s.done + 1 - _)
      rw [List.length_append]
      omega
    ·rw [if_neg c2]; exact ⟨⟨b0, b1⟩, hd, h1, h2⟩)
  (fun s d h => h) (zsL ys) 128 (startT ys) (OI.start (upz_zs ys) hr) ⟨⟨by show (0 : Int) ≤ 72; decide, by show (72 : Int) ≤ 298; decide⟩, Nat.le_refl _, by show _ ≤ (lowL ys ++ sepL ys).length; rw [List.length_append]; show _ + ((lowL ys).length - (lowL ys).length) ≤ _; omega, by show (lowL ys ++ sepL ys).length ≤ _; rw [List.length_append]; omega⟩
 obtain ⟨⟨_, hd, h1, h2⟩, n', hO⟩ := h
 have hdone := hO.all_done
 have hlh := low_high_len ys
 rw [hdone] at h1 h2 hd
 rw [← bytesOf_length, bytes_p ys hr]
 unfold textL textZ
 rw [← hsep]
 omega
end Go.Proofs.YtppchdinolndmaaGreat
