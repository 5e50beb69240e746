/- Joined texts: Usj, Utv, Utw, Uew, Uwr, Uwc. -/
import Derived.Test.YtegacgfhmigdjaaMUsi
import Derived.Test.YtegacgfhmigdjaaMUbl
import Derived.Test.YtegacgfhmigdjaaMUpp
import Derived.Test.YtegacgfhmigdjaaMUins
/- slices.Sort and slices.Compact over a row that the caller owns. -/
namespace Go.Proofs.Ytegacgfhmigdjaa
open Go.RowKit Go.Sort Go.Proofs.YtegacgfhmigdjaaW.PrintWords
set_option linter.unusedVariables false
set_option linter.unusedSimpArgs false

theorem holds_of {w : World} {g cap : Nat} {cur : Array Value} {xs : List Int} (hh : w.heap[g]? = some (.cells cur 51 (0, 0))) (ht : cur.toList.take xs.length = nums .u32 xs) : Holds encU w g 0 xs.toArray := by
  intro j hj
  have hj : j < xs.length := by simpa using hj
  have hc : cur[j]? = some (.int .u32 xs[j]) := by
    have h1 : (cur.toList.take xs.length)[j]? = (nums .u32 xs)[j]? := by rw [ht]
    rw [List.getElem?_take_of_lt hj] at h1
    simp [nums, hj] at h1
    simpa using h1
  refine ⟨?_, ?_⟩
  · simp only [World.cell?, hh, Nat.zero_add]
    rw [hc]
    simp [getElem!_pos, hj]
  · simp [World.frozen?, hh]
theorem gw_heap {w : World} {n g : Nat} {d : Array Int} {os : Array Obj} {cur : Array Value} (hh : w.heap[g]? = some (.cells cur 51 (0, 0))) : (GW w n g 0 d os).heap[g]? = some (.cells (putCells encU 0 d cur) 51 (0, 0)) := by
  have hlt : g < w.heap.size := (Array.getElem?_eq_some_iff.1 hh).1
  unfold GW
  rw [heap_grow_old _ _ (by simpa using hlt)]
  unfold putRow mapBlock
  simp only [Array.getElem?_modify, heap_ahead, hh, if_true, Option.map_some, onCells]
theorem gw_eff (w : World) (n g : Nat) (d : Array Int) (os : Array Obj) : Eff w (GW w n g 0 d os) (fun k => k = g) := by
  refine ⟨rfl, rfl, rfl, by unfold GW; simp, fun k hk hne => ?_⟩
  unfold GW
  rw [heap_grow_old _ _ (by simpa using hk)]
  unfold putRow mapBlock
  simp only [Array.getElem?_modify, heap_ahead]
  rw [if_neg (Ne.symm hne)]
theorem put_take {cur : Array Value} {d : Array Int} (h : d.size ≤ cur.size) : ∀ k, k ≤ d.size → (putCells encU 0 d cur).toList.take k = nums .u32 (d.toList.take k) := by
  intro k hk
  apply List.ext_getElem?
  intro j
  by_cases hj : j < k
  · rw [List.getElem?_take_of_lt hj]
    have hc : j < cur.size := by omega
    simp only [putCells, nums, Array.getElem?_toList, Array.getElem?_mapIdx, Array.getElem?_eq_getElem hc, Option.map_some, List.getElem?_map, List.getElem?_take_of_lt hj]
    rw [if_pos ⟨Nat.zero_le _, by omega⟩, Nat.sub_zero, getElem!_pos d j (by omega), Array.getElem?_eq_getElem (by omega : j < d.size)]
    rfl
  · rw [List.getElem?_eq_none (by rw [List.length_take]; omega), List.getElem?_eq_none (by simp [nums]; omega)]
theorem gw_own {w : World} {n g cap base k : Nat} {d : Array Int} {os : Array Obj} {cur : Array Value} (hh : w.heap[g]? = some (.cells cur 51 (0, 0))) (hb : base ≤ g) (hcap : d.size ≤ cap) (hmx : cap ≤ maxLen) (hcs : cur.size = cap * 1) (hk : k ≤ d.size) :
    (GW w n g 0 d os).ownsRow base 51 1 (.slice (some ⟨g, 0, none⟩) k cap) k (nums .u32 (d.toList.take k)) :=
  ⟨by simp [nums]; omega, .inr ⟨g, cap, _, rfl, hb, gw_heap hh, by omega, hmx, by simp [putCells, hcs], by rw [Nat.mul_one]; exact put_take (by omega) k hk⟩⟩
theorem sorted_of {d : Array Int} (h : SortedIn ltInt 0 d.size d) : d.toList.Pairwise (fun a b => a ≤ b) := by
  rw [List.pairwise_iff_getElem]
  intro i j hi hj hij
  have hi' : i < d.size := by simpa using hi
  have hj' : j < d.size := by simpa using hj
  have := h i j (Nat.zero_le _) hij hj'
  rw [getElem!_pos d j hj', getElem!_pos d i hi'] at this
  simp only [ltInt, decide_eq_false_iff_not] at this
  simpa using this
theorem perm_of {d d' : Array Int} (h : PermIn 0 d.size d d') : d'.toList.Perm d.toList := by
  have h1 := h.2.2
  have hs := h.1
  have e1 : d.extract 0 d.size = d := by simp
  have e2 : d'.extract 0 d.size = d' := by rw [← hs]; simp
  rw [e1, e2] at h1
  exact h1
/-- slices.Sort, the caller's own row. -/
theorem sort_own {base : Nat} {v : Value} {xs : List Int} {w : World} (ho : w.ownsRow base 51 1 v xs.length (nums .u32 xs)) (hx : xs.length ≤ 1000000) :
    Calls Try.prog 59 #[v] w fun e w' => e = .returned (.tuple #[]) ∧ ∃ ys : List Int, (ys.Perm xs ∧ ys.Pairwise (fun a b => a ≤ b)) ∧ w'.ownsRow base 51 1 v ys.length (nums .u32 ys) ∧ Eff w w' (fun k => some k = v.ownBlock) := by
  rcases ho.2 with ⟨rfl, h0⟩ | ⟨g, cap, cur, rfl, hb, hh, hcap, hmx, hcs, ht⟩
  · refine (sort_one none 0 0 (by decide) w).mono ?_
    rintro e w' ⟨rfl, rfl⟩
    have hx0 : xs = [] := List.eq_nil_of_length_eq_zero h0
    subst hx0
    exact ⟨rfl, [], ⟨List.Perm.refl _, List.Pairwise.nil⟩, ho, Eff.refl _ _⟩
  · have hlt : g < w.heap.size := (Array.getElem?_eq_some_iff.1 hh).1
    rw [Nat.mul_one] at ht
    have hz : xs.toArray.size = xs.length := by simp
    have hc := sort_u w g 0 cap xs.toArray (holds_of (cap := cap) hh ht) hlt (by rw [hz]; omega)
    rw [hz] at hc
    refine hc.mono ?_
    rintro e w' ⟨rfl, d', ⟨hp, hs⟩, hsz, n, os, rfl⟩
    have hsz' : d'.size = xs.length := by rw [hsz, hz]
    rw [← hz] at hp
    have hp2 := perm_of hp
    refine ⟨rfl, d'.toList, ⟨hp2, sorted_of (by rw [hsz']; exact hs)⟩, ?_, (gw_eff w n g d' os).mono fun k _ e => by rw [e]; rfl⟩
    have h := gw_own (n := n) (os := os) hh hb (d := d') (cap := cap) (k := d'.size) (by omega) hmx hcs (Nat.le_refl _)
    rw [List.take_of_length_le (by simp)] at h
    rw [← hsz', show d'.toList.length = d'.size from by simp]
    exact h
/-- slices.Compact, the caller's own row. -/
theorem compact_own {base : Nat} {v : Value} {xs : List Int} {w : World} (ho : w.ownsRow base 51 1 v xs.length (nums .u32 xs)) (hx : xs.length ≤ 1000000) :
    Calls Try.prog 60 #[v] w fun e w' => ∃ v' zs, e = .returned v' ∧ zs = Lib.compact xs ∧ w'.ownsRow base 51 1 v' zs.length (nums .u32 zs) ∧ Eff w w' (fun k => some k = v.ownBlock) := by
  rcases ho.2 with ⟨rfl, h0⟩ | ⟨g, cap, cur, rfl, hb, hh, hcap, hmx, hcs, ht⟩
  · refine (compact_one none 0 0 (by decide) w).mono ?_
    rintro e w' ⟨rfl, rfl⟩
    have hx0 : xs = [] := List.eq_nil_of_length_eq_zero h0
    subst hx0
    exact ⟨_, [], rfl, rfl, ho, Eff.refl _ _⟩
  · have hlt : g < w.heap.size := (Array.getElem?_eq_some_iff.1 hh).1
    rw [Nat.mul_one] at ht
    have hz : xs.toArray.size = xs.length := by simp
    have hc := compact_u w g 0 cap xs.toArray (holds_of (cap := cap) hh ht) (by rw [hz]; omega) (by rw [hz]; omega)
    rw [hz] at hc
    refine hc.mono ?_
    rintro e w' ⟨k, d', rfl, hk, hl, hsz, q, rfl⟩
    rw [hz] at hk hl hsz
    have hkl : k ≤ d'.size := by
      rw [hk, hsz]
      unfold Lib.compactUpTo
      rw [List.length_map]
      exact Nat.le_trans (List.length_filter_le _ _) (by simp)
    have e : putRow encU (Sort.ahead w q) g 0 d' = GW w q g 0 d' #[] := by unfold GW; rw [grow_empty]
    rw [e]
    have htk : d'.toList.take k = Lib.compact xs := by
      unfold Lib.compact
      apply List.ext_getElem?
      intro j
      by_cases hj : j < k
      · rw [List.getElem?_take_of_lt hj, hl j hj, getElem!_pos d' j (by omega)]
        simp [show j < d'.size by omega]
      · rw [List.getElem?_eq_none (by rw [List.length_take]; omega), List.getElem?_eq_none (by rw [← hk]; omega)]
    have hkc : k = (Lib.compact xs).length := by unfold Lib.compact; exact hk
    refine ⟨_, Lib.compact xs, rfl, rfl, ?_, (gw_eff w q g d' #[]).mono fun k _ e => by rw [e]; rfl⟩
    have h := gw_own (n := q) (os := #[]) hh hb (d := d') (cap := cap) (k := k) (by omega) hmx hcs hkl
    rw [htk] at h
    rw [← hkc]
    exact h
end Go.Proofs.Ytegacgfhmigdjaa
/- What puny.text computes, in plain Lean: the numbers above one by one, each with all the list. -/
namespace Go.Proofs.Ytegacgfhmigdjaa
open Go.RowKit Go.Proofs.YtegacgfhmigdjaaW.PrintWords Go.Proofs.YtegacgfhmigdjaaW.PrintLast Go.Proofs.YtegacgfhmigdjaaW.PrintMore Go.Proofs.Ytegacgfhmigdjaa.PPu
set_option linter.unusedVariables false
set_option linter.unusedSimpArgs false

structure TS where
  delta : Int
  b : Int
  done : Nat
  out : List Int
def stepT (start : Nat) (m : Int) (s : TS) (c : Int) : TS :=
  if c < m then { s with delta := s.delta + 1 }
  else if c = m then ⟨0, adaptP s.delta (s.done + 1) (s.done == start), s.done + 1, s.out ++ putL s.delta s.b⟩
  else s
def innerT (start : Nat) (m : Int) (ys : List Int) (s : TS) : TS := ys.foldl (stepT start m) s
theorem inner_succ (start : Nat) (m : Int) (ys : List Int) (s : TS) (i : Nat) (h : i < ys.length) : innerT start m (ys.take (i + 1)) s = stepT start m (innerT start m (ys.take i) s) (ys.getD i 0) := by
  unfold innerT
  rw [take_succ_getD ys i h, List.foldl_append]
  rfl
/-- One number above: all the list is looked at. -/
def outT (ys : List Int) (start : Nat) (q : Int × TS) (m : Int) : Int × TS :=
  (m + 1, { innerT start m ys { q.2 with delta := q.2.delta + (m - q.1) * (q.2.done + 1) } with delta := (innerT start m ys { q.2 with delta := q.2.delta + (m - q.1) * (q.2.done + 1) }).delta + 1 })
def outerT (ys : List Int) (start : Nat) (zs : List Int) (q : Int × TS) : Int × TS := zs.foldl (outT ys start) q
theorem outer_succ (ys : List Int) (start : Nat) (zs : List Int) (q : Int × TS) (i : Nat) (h : i < zs.length) : outerT ys start (zs.take (i + 1)) q = outT ys start (outerT ys start (zs.take i) q) (zs.getD i 0) := by
  unfold outerT
  rw [take_succ_getD zs i h, List.foldl_append]
  rfl
def sepL (ys : List Int) : List Int := if (lowL ys).length = 0 then [] else [45]
def startT (ys : List Int) : TS := ⟨0, 72, (lowL ys).length, lowL ys ++ sepL ys⟩
def textZ (ys zs : List Int) : List Int := (outerT ys (lowL ys).length zs (128, startT ys)).2.out
/-- How many are below, how many are this one. -/
def cntB (ys : List Int) (m : Int) : Nat := (ys.filter fun y => decide (y < m)).length
def cntE (ys : List Int) (m : Int) : Nat := (ys.filter fun y => decide (y = m)).length
theorem cnt_le : ∀ (ys : List Int) (m : Int), cntB ys m + cntE ys m ≤ ys.length
  | [], _ => by simp [cntB, cntE]
  | y :: ys, m => by
    have := cnt_le ys m
    unfold cntB cntE at *
    by_cases h1 : y < m
    · have h2 : ¬ y = m := by omega
      simp only [List.filter_cons, h1, h2, decide_true, decide_false, if_true, Bool.false_eq_true, if_false, List.length_cons]
      omega
    · by_cases h2 : y = m
      · rw [List.filter_cons, List.filter_cons, if_neg (by simpa using h1), if_pos (by simpa using h2), List.length_cons, List.length_cons]
        omega
      · simp only [List.filter_cons, h1, h2, decide_false, Bool.false_eq_true, if_false, List.length_cons]
        omega
theorem cntE_take (ys : List Int) (m : Int) (i : Nat) : cntE (ys.take i) m ≤ cntE ys m := by
  unfold cntE
  exact (List.Sublist.filter _ (List.take_sublist i ys)).length_le
theorem cntE_succ (ys : List Int) (m : Int) (i : Nat) (h : i < ys.length) : cntE (ys.take (i + 1)) m = cntE (ys.take i) m + if ys.getD i 0 = m then 1 else 0 := by
  rw [take_succ_getD ys i h]
  unfold cntE
  rw [List.filter_append, List.length_append]
  generalize ys.getD i 0 = y
  by_cases c : y = m
  · simp [c]
  · simp [c]
theorem cntB_next : ∀ (ys : List Int) (m : Int), cntB ys (m + 1) = cntB ys m + cntE ys m
  | [], _ => rfl
  | y :: ys, m => by
    have ih := cntB_next ys m
    unfold cntB cntE at *
    by_cases h1 : y < m
    · have h2 : ¬ y = m := by omega
      have h3 : y < m + 1 := by omega
      simp only [List.filter_cons, h1, h2, h3, decide_true, decide_false, if_true, Bool.false_eq_true, if_false, List.length_cons]
      omega
    · by_cases h2 : y = m
      · have h3 : y < m + 1 := by omega
        rw [List.filter_cons, List.filter_cons, List.filter_cons, if_pos (by simpa using h3), if_neg (by simpa using h1), if_pos (by simpa using h2), List.length_cons, List.length_cons, ih]
        omega
      · have h3 : ¬ y < m + 1 := by omega
        simp only [List.filter_cons, h1, h2, h3, decide_false, Bool.false_eq_true, if_false]
        exact ih
theorem cntB_gap : ∀ (ys : List Int) (n m : Int), n ≤ m → (∀ c ∈ ys, c < n ∨ m ≤ c) → cntB ys m = cntB ys n
  | [], _, _, _, _ => rfl
  | y :: ys, n, m, hnm, h => by
    have ih := cntB_gap ys n m hnm (fun c hc => h c (List.mem_cons_of_mem _ hc))
    have hy := h y List.mem_cons_self
    unfold cntB at *
    by_cases h1 : y < n
    · have h3 : y < m := by omega
      simp only [List.filter_cons, h1, h3, decide_true, if_true, List.length_cons, ih]
    · have h3 : ¬ y < m := by omega
      simp only [List.filter_cons, h1, h3, decide_false, Bool.false_eq_true, if_false, ih]
/-- What holds ahead of a number above. -/
structure OI (ys r : List Int) (n : Int) (s : TS) : Prop where
  n0 : 128 ≤ n
  n1 : n ≤ 1114112
  inc : r.Pairwise (fun a b => a < b)
  lo : ∀ c ∈ r, n ≤ c ∧ c ≤ 1114111
  cov : ∀ c ∈ ys, c < n ∨ c ∈ r
  done : s.done = cntB ys n
  d0 : 0 ≤ s.delta
  d1 : s.delta ≤ (n - 128) * ((ys.length : Int) + 1)
  out : s.out.length ≤ ys.length + 1 + 20 * s.done
/-- .. and ahead of a number of the list. -/
structure II (ys : List Int) (m : Int) (i : Nat) (s : TS) : Prop where
  m0 : 128 ≤ m
  m1 : m ≤ 1114111
  done : s.done = cntB ys m + cntE (ys.take i) m
  d0 : 0 ≤ s.delta
  d1 : s.delta ≤ (m - 128) * ((ys.length : Int) + 1) + i
  out : s.out.length ≤ ys.length + 1 + 20 * s.done
theorem OI.done_le {ys r : List Int} {n : Int} {s : TS} (h : OI ys r n s) : s.done ≤ ys.length := by have := cnt_le ys n; have := h.done; omega
theorem II.done_le {ys : List Int} {m : Int} {i : Nat} {s : TS} (h : II ys m i s) : s.done ≤ ys.length := by have := cnt_le ys m; have := cntE_take ys m i; have := h.done; omega
theorem mul_le {a b c d : Int} (h0 : 0 ≤ a) (h1 : a ≤ b) (h2 : 0 ≤ c) (h3 : c ≤ d) : a * c ≤ b * d := Int.mul_le_mul h1 h3 h2 (by omega)
/-- What a number above brings. -/
theorem OI.enter {ys r : List Int} {n m : Int} {s : TS} (h : OI ys (m :: r) n s) (hl : ys.length ≤ 10000) :
    ∃ D : Int, (m - n) * ((s.done : Int) + 1) = D ∧ 0 ≤ D ∧ D ≤ 1000000000000 ∧ n ≤ m ∧ 128 ≤ m ∧ m ≤ 1114111 ∧ 0 ≤ s.delta + D ∧ s.delta + D ≤ 1000000000000 ∧ II ys m 0 { s with delta := s.delta + D } := by
  obtain ⟨l0, l1⟩ := h.lo m List.mem_cons_self
  have hdl := h.done_le
  have hn0 := h.n0
  have e1 : 0 ≤ (m - n) * ((s.done : Int) + 1) := Int.mul_nonneg (by omega) (by omega)
  have e2 : (m - n) * ((s.done : Int) + 1) ≤ (m - n) * ((ys.length : Int) + 1) := Int.mul_le_mul_of_nonneg_left (by omega) (by omega)
  have e3 : (m - n) * ((ys.length : Int) + 1) + (n - 128) * ((ys.length : Int) + 1) = (m - 128) * ((ys.length : Int) + 1) := by rw [← Int.add_mul]; congr 1; omega
  have e4 : (m - 128) * ((ys.length : Int) + 1) ≤ 1114000 * 10001 := mul_le (by omega) (by omega) (by omega) (by omega)
  have e5 : (n - 128) * ((ys.length : Int) + 1) ≤ (m - 128) * ((ys.length : Int) + 1) := Int.mul_le_mul_of_nonneg_right (by omega) (by omega)
  have d0 := h.d0
  have d1 := h.d1
  refine ⟨_, rfl, e1, by omega, l0, by omega, l1, by omega, by omega, by omega, l1, ?_, by show 0 ≤ s.delta + _; omega, by show s.delta + _ ≤ _; omega, h.out⟩
  show s.done = _
  rw [h.done, cntB_gap ys n m l0 (fun c hc => by
    rcases h.cov c hc with e | e
    · exact .inl e
    · rcases List.mem_cons.1 e with rfl | e
      · exact .inr (Int.le_refl _)
      · exact .inr (Int.le_of_lt (List.rel_of_pairwise_cons h.inc e)))]
  simp [cntE]
theorem II.leave {ys r : List Int} {n m : Int} {s0 s : TS} (h : II ys m ys.length s) (h0 : OI ys (m :: r) n s0) : OI ys r (m + 1) { s with delta := s.delta + 1 } := by
  have d0 := h.d0
  have d1 := h.d1
  have m0 := h.m0
  have m1 := h.m1
  refine ⟨by omega, by omega, (List.pairwise_cons.1 h0.inc).2, fun c hc => ⟨?_, (h0.lo c (List.mem_cons_of_mem _ hc)).2⟩, fun c hc => ?_, ?_, by show 0 ≤ s.delta + 1; omega, ?_, h.out⟩
  · have := List.rel_of_pairwise_cons h0.inc hc
    omega
  · rcases h0.cov c hc with e | e
    · have := (h0.lo m List.mem_cons_self).1
      exact .inl (by omega)
    · rcases List.mem_cons.1 e with rfl | e
      · exact .inl (by omega)
      · exact .inr e
  · show s.done = _
    rw [h.done, List.take_length, cntB_next]
  · show s.delta + 1 ≤ _
    rw [show m + 1 - 128 = (m - 128) + 1 by omega, Int.add_mul]
    omega
theorem II.step {ys : List Int} {m : Int} {i : Nat} {s : TS} (h : II ys m i s) (hi : i < ys.length) (start : Nat) : II ys m (i + 1) (stepT start m s (ys.getD i 0)) := by
  have hc := cntE_succ ys m i hi
  have d0 := h.d0
  have d1 := h.d1
  have m0 := h.m0
  have hmul : 0 ≤ (m - 128) * ((ys.length : Int) + 1) := Int.mul_nonneg (by omega) (by omega)
  unfold stepT
  by_cases c1 : ys.getD i 0 < m
  · rw [if_pos c1]
    rw [if_neg (by omega)] at hc
    exact ⟨h.m0, h.m1, by show s.done = _; rw [h.done]; omega, by show 0 ≤ s.delta + 1; omega, by show s.delta + 1 ≤ _; omega, h.out⟩
  · rw [if_neg c1]
    by_cases c2 : ys.getD i 0 = m
    · rw [if_pos c2]
      rw [if_pos c2] at hc
      refine ⟨h.m0, h.m1, by show s.done + 1 = _; rw [h.done]; omega, Int.le_refl 0, by show (0 : Int) ≤ _; omega, ?_⟩
      show (s.out ++ putL s.delta s.b).length ≤ _
      rw [List.length_append]
      have := h.out
      have := (putL_len s.delta s.b).2
      show _ ≤ ys.length + 1 + 20 * (s.done + 1)
      omega
    · rw [if_neg c2]
      rw [if_neg c2] at hc
      exact ⟨h.m0, h.m1, by rw [h.done]; omega, d0, by omega, h.out⟩
theorem II.room {ys : List Int} {m : Int} {i : Nat} {s : TS} (h : II ys m i s) (hi : i < ys.length) (he : ys.getD i 0 = m) (hl : ys.length ≤ 10000) : s.out.length + 20 ≤ 1000000 ∧ s.delta ≤ topP ∧ s.done + 1 ≤ 1000000 := by
  have h1 := (h.step hi 0).done_le
  unfold stepT at h1
  rw [if_neg (by omega), if_pos he] at h1
  have h2 : s.done + 1 ≤ ys.length := h1
  have hT : topP = 4611686018427387904 := rfl
  have m0 := h.m0
  have m1 := h.m1
  have e4 : (m - 128) * ((ys.length : Int) + 1) ≤ 1114000 * 10001 := mul_le (by omega) (by omega) (by omega) (by omega)
  have d1 := h.d1
  have := h.out
  exact ⟨by omega, by omega, by omega⟩
theorem II.delta_le {ys : List Int} {m : Int} {i : Nat} {s : TS} (h : II ys m i s) (hi : i ≤ ys.length) (hl : ys.length ≤ 10000) : s.delta ≤ 1000000000000 := by
  have m0 := h.m0
  have m1 := h.m1
  have e4 : (m - 128) * ((ys.length : Int) + 1) ≤ 1114000 * 10001 := mul_le (by omega) (by omega) (by omega) (by omega)
  have d1 := h.d1
  omega
/-- The same, as the walk wants it. -/
structure EnterF (n m delta D : Int) (done : Nat) : Prop where
  u1 : (m - n) % 4294967296 = m - n
  q1 : IntKind.u64.wrap (m - n) = m - n
  q2 : wrap64 ((done : Int) + 1) = (done : Int) + 1
  q3 : IntKind.u64.wrap ((done : Int) + 1) = (done : Int) + 1
  q4 : IntKind.u64.wrap ((m - n) * ((done : Int) + 1)) = D
  q5 : IntKind.u64.wrap (delta + D) = delta + D
theorem OI.enter2 {ys r : List Int} {n m delta b : Int} {done : Nat} {out : List Int} (h : OI ys (m :: r) n ⟨delta, b, done, out⟩) (hl : ys.length ≤ 10000) :
    ∃ D : Int, (m - n) * ((done : Int) + 1) = D ∧ EnterF n m delta D done ∧ (128 ≤ m ∧ m ≤ 1114111) ∧ II ys m 0 ⟨delta + D, b, done, out⟩ := by
  obtain ⟨D, hD, d1, d2, d3, d4, d5, d6, d7, hII⟩ := h.enter hl
  have hdl := h.done_le
  have hn0 := h.n0
  simp only at hD d6 d7 hdl
  exact ⟨D, hD, ⟨by omega, Go.Proofs.Ytegacgfhmigdjaa.u64 (by omega) (by omega), w64 (by omega) (by omega), Go.Proofs.Ytegacgfhmigdjaa.u64 (by omega) (by omega), by rw [hD]; exact Go.Proofs.Ytegacgfhmigdjaa.u64 d1 (by omega), Go.Proofs.Ytegacgfhmigdjaa.u64 (by omega) (by omega)⟩, ⟨d4, d5⟩, hII⟩
/-- What a number of the list that is the one brings. -/
structure HitF (ys out : List Int) (delta : Int) (done : Nat) : Prop where
  l1 : wrap64 ((done : Int) + 1) = (done : Int) + 1
  l2 : IntKind.u64.wrap ((done : Int) + 1) = (done : Int) + 1
  d0 : 0 ≤ delta
  d1 : delta ≤ topP
  out : out.length + 20 ≤ 1000000
theorem II.hit {ys : List Int} {m delta b : Int} {i done : Nat} {out : List Int} (h : II ys m i ⟨delta, b, done, out⟩) (hi : i < ys.length) (he : ys.getD i 0 = m) (hl : ys.length ≤ 10000) : HitF ys out delta done := by
  obtain ⟨h1, h2, h3⟩ := h.room hi he hl
  simp only at h1 h2 h3
  exact ⟨w64 (by omega) (by omega), Go.Proofs.Ytegacgfhmigdjaa.u64 (by omega) (by omega), h.d0, h2, h1⟩
theorem II.plus {ys : List Int} {m delta b : Int} {i done : Nat} {out : List Int} (h : II ys m i ⟨delta, b, done, out⟩) (hi : i ≤ ys.length) (hl : ys.length ≤ 10000) : IntKind.u64.wrap (delta + 1) = delta + 1 := by
  have h1 := h.delta_le hi hl
  have h0 := h.d0
  simp only at h1 h0
  exact Go.Proofs.Ytegacgfhmigdjaa.u64 (by omega) (by omega)
/-- The numbers above, each once, ascending. -/
def UpZ (ys zs : List Int) : Prop := zs.Pairwise (fun a b => a < b) ∧ ∀ x, x ∈ zs ↔ x ∈ highL ys
theorem mem_low {ys : List Int} {x : Int} : x ∈ lowL ys ↔ x ∈ ys ∧ x < 128 := by unfold lowL; simp
theorem mem_high {ys : List Int} {x : Int} : x ∈ highL ys ↔ x ∈ ys ∧ 128 ≤ x := by unfold highL; simp
theorem low_cnt (ys : List Int) : (lowL ys).length = cntB ys 128 := rfl
theorem OI.start {ys zs : List Int} (hz : UpZ ys zs) (hr : ∀ y ∈ ys, 0 ≤ y ∧ y ≤ 1114111) : OI ys zs 128 (startT ys) := by
  refine ⟨Int.le_refl _, by omega, hz.1, fun c hc => ?_, fun c hc => ?_, low_cnt ys, Int.le_refl 0, by simp [startT], ?_⟩
  · obtain ⟨h1, h2⟩ := mem_high.1 ((hz.2 c).1 hc)
    exact ⟨h2, (hr c h1).2⟩
  · by_cases h : c < 128
    · exact .inl h
    · exact .inr ((hz.2 c).2 (mem_high.2 ⟨hc, by omega⟩))
  · show (lowL ys ++ sepL ys).length ≤ ys.length + 1 + 20 * (lowL ys).length
    rw [List.length_append]
    have h1 : (lowL ys).length ≤ ys.length := List.length_filter_le _ _
    have h2 : (sepL ys).length ≤ 1 := by unfold sepL; split <;> simp
    omega
theorem upz_unique : ∀ (a b : List Int), a.Pairwise (fun a b => a < b) → b.Pairwise (fun a b => a < b) → (∀ x, x ∈ a ↔ x ∈ b) → a = b
  | [], [], _, _, _ => rfl
  | [], y :: b, _, _, h => absurd ((h y).2 List.mem_cons_self) (by simp)
  | x :: a, [], _, _, h => absurd ((h x).1 List.mem_cons_self) (by simp)
  | x :: a, y :: b, ha, hb, h => by
    have hxy : x = y := by
      rcases List.mem_cons.1 ((h x).1 List.mem_cons_self) with e | e
      · exact e
      · rcases List.mem_cons.1 ((h y).2 List.mem_cons_self) with e2 | e2
        · exact e2.symm
        · have h1 := List.rel_of_pairwise_cons hb e
          have h2 := List.rel_of_pairwise_cons ha e2
          omega
    subst hxy
    congr 1
    refine upz_unique a b (List.pairwise_cons.1 ha).2 (List.pairwise_cons.1 hb).2 fun z => ⟨fun hz => ?_, fun hz => ?_⟩
    · rcases List.mem_cons.1 ((h z).1 (List.mem_cons_of_mem _ hz)) with e | e
      · subst e
        exact absurd (List.rel_of_pairwise_cons ha hz) (Int.lt_irrefl _)
      · exact e
    · rcases List.mem_cons.1 ((h z).2 (List.mem_cons_of_mem _ hz)) with e | e
      · subst e
        exact absurd (List.rel_of_pairwise_cons hb hz) (Int.lt_irrefl _)
      · exact e
/-- Compact of what is sorted: ascending, the same members. -/
theorem comp_facts (d : Array Int) (hs : ∀ i j, i < j → j < d.size → d[i]! ≤ d[j]!) : ∀ m, m ≤ d.size → (Lib.compactUpTo d m).Pairwise (fun a b => a < b) ∧ (∀ x ∈ Lib.compactUpTo d m, ∃ j, j < m ∧ x = d[j]!) ∧ (∀ j, j < m → d[j]! ∈ Lib.compactUpTo d m)
  | 0, _ => ⟨List.Pairwise.nil, fun x hx => (by cases hx), fun j hj => absurd hj (Nat.not_lt_zero _)⟩
  | m + 1, hm => by
    obtain ⟨h1, h2, h3⟩ := comp_facts d hs m (by omega)
    rw [Lib.compactUpTo_succ]
    by_cases hk : Lib.keeps d m = true
    · rw [if_pos hk]
      refine ⟨?_, fun x hx => ?_, fun j hj => ?_⟩
      · rw [List.pairwise_append]
        refine ⟨h1, List.pairwise_singleton _ _, fun x hx y hy => ?_⟩
        rw [List.mem_singleton.1 hy]
        obtain ⟨j, hj, rfl⟩ := h2 x hx
        have hne : d[m]! ≠ d[m - 1]! := by
          unfold Lib.keeps at hk
          rcases of_decide_eq_true hk with e | e
          · omega
          · exact e
        have hle := hs (m - 1) m (by omega) (by omega)
        rcases Nat.lt_or_ge j (m - 1) with hj2 | hj2
        · have := hs j (m - 1) hj2 (by omega)
          omega
        · obtain rfl : j = m - 1 := by omega
          omega
      · rcases List.mem_append.1 hx with h | h
        · obtain ⟨j, hj, e⟩ := h2 x h
          exact ⟨j, by omega, e⟩
        · exact ⟨m, by omega, List.mem_singleton.1 h⟩
      · rcases Nat.lt_or_ge j m with h | h
        · exact List.mem_append_left _ (h3 j h)
        · obtain rfl : j = m := by omega
          exact List.mem_append_right _ (List.mem_singleton.2 rfl)
    · rw [if_neg hk, List.append_nil]
      refine ⟨h1, fun x hx => ?_, fun j hj => ?_⟩
      · obtain ⟨j, hj, e⟩ := h2 x hx
        exact ⟨j, by omega, e⟩
      · rcases Nat.lt_or_ge j m with h | h
        · exact h3 j h
        · obtain rfl : j = m := by omega
          have he : j ≠ 0 ∧ d[j]! = d[j - 1]! := by
            unfold Lib.keeps at hk
            have := fun h => hk (decide_eq_true h)
            exact ⟨fun e => this (.inl e), Classical.byContradiction fun e => this (.inr e)⟩
          rw [he.2]
          exact h3 (j - 1) (by omega)
theorem upz_of {ys ss : List Int} (hp : ss.Perm (highL ys)) (hs : ss.Pairwise (fun a b => a ≤ b)) : UpZ ys (Lib.compact ss) := by
  have hz : ss.toArray.size = ss.length := by simp
  obtain ⟨h1, h2, h3⟩ := comp_facts ss.toArray (fun i j hij hj => by
    have hj' : j < ss.length := by simpa using hj
    rw [getElem!_pos _ j hj, getElem!_pos _ i (by omega)]
    simp only [List.getElem_toArray]
    exact List.pairwise_iff_getElem.1 hs i j (by omega) hj' hij) ss.length (by rw [hz]; exact Nat.le_refl _)
  refine ⟨h1, fun x => ⟨fun hx => ?_, fun hx => ?_⟩⟩
  · obtain ⟨j, hj, rfl⟩ := h2 x hx
    rw [← hp.mem_iff, getElem!_pos _ j (by omega)]
    simp
  · rw [← hp.mem_iff] at hx
    obtain ⟨j, hj, rfl⟩ := List.getElem_of_mem hx
    have := h3 j hj
    rw [getElem!_pos _ j (by omega)] at this
    simp only [List.getElem_toArray] at this
    exact this
end Go.Proofs.Ytegacgfhmigdjaa
/- puny.text, walked at every list. -/
namespace Go.Proofs.Ytegacgfhmigdjaa
open Go.RowKit Go.Proofs.YtegacgfhmigdjaaW.PrintWords Go.Proofs.YtegacgfhmigdjaaW.PrintLast Go.Proofs.YtegacgfhmigdjaaW.PrintMore Go.Proofs.Ytegacgfhmigdjaa.PPu
set_option linter.unusedVariables false
set_option linter.unusedSimpArgs false

theorem src_u {w : World} {A : Option Addr} {ys : List Int} (h : ReadsInt w .u32 A ys.length ys) (hne : 0 < ys.length) : ∃ pb po, A = some ⟨pb, po, none⟩ ∧ SrcT w pb po ys := by
  obtain ⟨ad, rfl, hc⟩ := h.2.2 hne
  have h0 := hc 0 hne
  have h1 : w.cell? ad = some (.int .u32 (ys.getD 0 0)) := by simpa [Addr.add] using h0
  obtain ⟨pb, po, sp⟩ := ad
  cases sp with
  | none =>
    have hlt := World.block_lt_of_cell? w _ h1
    refine ⟨pb, po, rfl, fun _ => hlt, fun j hj => ?_⟩
    have := hc j hj
    rwa [Addr.add_lit] at this
  | some x => exfalso; unfold World.cell? at h1; simp at h1; split at h1 <;> simp at h1
theorem eff_under {B : Nat} {w0 w w1 : World} {base : Nat} {v : Value} {n size : Nat} {e : TypeId} {xs : List Value} (h : Below B w0 w) (ho : w.ownsRow base e size v n xs) (he : Eff w w1 (fun k => some k = v.ownBlock)) (hB : B ≤ w.heap.size) (hb : B ≤ base) : Below B w0 w1 :=
  Eff.under h he hB fun k hk => Nat.le_trans hb (q_own_ge (q_of_own ho) k hk.symm)
theorem bx_eff {w w1 : World} {g B b2 : Nat} {xs ys : List Int} {no : Bool} {lv v : Value} (h : w.ownsRow b2 51 1 v ys.length (nums .u32 ys)) (hb : BX w g B xs no lv) (he : Eff w w1 (fun k => some k = v.ownBlock)) : BX w1 g B xs no lv := by
  refine ⟨(he.block g hb.blk.lt (own_types (q_of_own h) hb.blk (by decide))).trans hb.blk, own_move hb.row fun k hk => ?_⟩
  obtain ⟨cells2, hc2⟩ := own_typed hb.row k hk
  refine he.block k (Array.getElem?_eq_some_iff.1 hc2).1 fun e => ?_
  obtain ⟨cells, hc⟩ := own_typed h k e.symm
  rw [hc] at hc2
  injection hc2 with h2
  injection h2 with _ h2
  exact absurd h2 (by decide)
theorem own_cell {w : World} {base c : Nat} {A : Option Addr} {zs : List Int} (h : w.ownsRow base 51 1 (.slice A zs.length c) zs.length (nums .u32 zs)) {i : Nat} (hi : i < zs.length) : ∃ g, A = some ⟨g, 0, none⟩ ∧ w.cell? ⟨g, i, none⟩ = some (.int .u32 (zs.getD i 0)) := by
  obtain ⟨ad, rfl, hc⟩ := (own_reads' h).2.2 (by omega)
  have h0 := hc i hi
  rcases h.2 with ⟨h1, _⟩ | ⟨g, cap, cur, h1, _⟩
  · cases h1
  · injection h1 with h1
    injection h1 with h1
    subst h1
    rw [Addr.add_lit, Nat.zero_add] at h0
    exact ⟨g, rfl, h0⟩
theorem str_of_bytes (l : List Int) (h : ∀ x ∈ l, 0 ≤ x ∧ x ≤ 255) : ∃ RES : List UInt8, (RES.map fun b => (b.toNat : Int)) = l ∧ (⟨RES.toArray⟩ : ByteArray) = strOfNums l :=
  ⟨(strOfNums l).data.toList, bytes_str l h, by apply ByteArray.ext; simp⟩
theorem step_range (start : Nat) (m : Int) (s : TS) (c : Int) (hd : 0 ≤ s.delta) (h : ∀ x ∈ s.out, 0 ≤ x ∧ x ≤ 255) : (0 ≤ (stepT start m s c).delta) ∧ ∀ x ∈ (stepT start m s c).out, 0 ≤ x ∧ x ≤ 255 := by
  unfold stepT
  split
  · exact ⟨by show 0 ≤ s.delta + 1; omega, h⟩
  · split
    · refine ⟨Int.le_refl _, fun x hx => ?_⟩
      rcases List.mem_append.1 hx with e | e
      · exact h x e
      · have := putI_range s.b 20 s.delta 0 hd x e
        omega
    · exact ⟨hd, h⟩
theorem inner_range (start : Nat) (m : Int) : ∀ (ys : List Int) (s : TS), 0 ≤ s.delta → (∀ x ∈ s.out, 0 ≤ x ∧ x ≤ 255) → (0 ≤ (innerT start m ys s).delta) ∧ ∀ x ∈ (innerT start m ys s).out, 0 ≤ x ∧ x ≤ 255
  | [], s, hd, h => ⟨hd, h⟩
  | c :: r, s, hd, h => by
    have := step_range start m s c hd h
    exact inner_range start m r _ this.1 this.2
theorem outer_range (ys : List Int) (start : Nat) : ∀ (zs : List Int) (n : Int) (s : TS), zs.Pairwise (fun a b => a < b) → (∀ z ∈ zs, n ≤ z) → 0 ≤ s.delta → (∀ x ∈ s.out, 0 ≤ x ∧ x ≤ 255) → ∀ x ∈ (outerT ys start zs (n, s)).2.out, 0 ≤ x ∧ x ≤ 255
  | [], n, s, _, _, hd, h => h
  | z :: zs, n, s, hi, hn, hd, h => by
    have h1 := inner_range start z ys { s with delta := s.delta + (z - n) * (s.done + 1) } (by
      have := hn z List.mem_cons_self
      have := Int.mul_nonneg (a := z - n) (b := (s.done : Int) + 1) (by omega) (by omega)
      show 0 ≤ s.delta + _
      omega) h
    exact outer_range ys start zs (z + 1) _ (List.pairwise_cons.1 hi).2 (fun y hy => by have := List.rel_of_pairwise_cons hi hy; omega) (by have := h1.1; show 0 ≤ (innerT start z ys { s with delta := s.delta + (z - n) * (s.done + 1) }).delta + 1; omega) h1.2
theorem text_range {ys zs : List Int} (hz : UpZ ys zs) (hr : ∀ y ∈ ys, 0 ≤ y ∧ y ≤ 1114111) : ∀ x ∈ textZ ys zs, 0 ≤ x ∧ x ≤ 255 := by
  refine outer_range ys _ zs 128 (startT ys) hz.1 (fun z h => (mem_high.1 ((hz.2 z).1 h)).2) (Int.le_refl 0) fun x hx => ?_
  rcases List.mem_append.1 hx with e | e
  · have := mem_low.1 e
    have := hr x this.1
    omega
  · unfold sepL at e
    split at e
    · cases e
    · rw [List.mem_singleton.1 e]; omega
theorem beq_cast (a b : Nat) : ((a : Int) == (b : Int)) = (a == b) := by
  by_cases e : a = b
  · rw [e]; simp
  · rw [(beq_eq_false_iff_ne (a := a) (b := b)).2 e, beq_eq_false_iff_ne]; omega
set_option maxRecDepth 100000 in
set_option maxHeartbeats 8000000 in
theorem text_c (A : Option Addr) (c : Nat) (ys : List Int) (w : World) (hs : ReadsInt w .u32 A ys.length ys) (hl : ys.length ≤ 10000) (hr : ∀ y ∈ ys, 0 ≤ y ∧ y ≤ 1114111) :
    Calls Try.prog 48 #[.slice A ys.length c] w fun e w' => ∃ zs, UpZ ys zs ∧ e = .returned (.string (strOfNums (textZ ys zs))) ∧ Below w.heap.size w w' := by
  have HS := Lib.hid hs
  have HL := Lib.hid hl
  have HR := Lib.hid hr
  clear hs hl hr
  go_enter Try.func48, Try.ntmps48
  go_upto_block 0 with fail
  go_cut [4] (fun s4 wx => Hid (wx.ownsRow w.heap.size 51 1 s4 (highL ys).length (nums .u32 (highL ys))) ∧ ∃ no lv, Hid (BX wx w.heap.size w.heap.size (lowL ys) no lv) ∧ Hid (Below w.heap.size w wx))
  case first =>
    have HB0 : Hid (BX (w.alloc (.cells #[.pointer none, .slice none 0 0] 99 (0, 0))) w.heap.size w.heap.size [] true (.slice none 0 0)) := Lib.hid (BX.new w w.heap.size)
    go_wp2_with fail
    go_loopg [4, 18] (ys.length) (fun kq s4 s18 wx => ∃ (i : Nat) (no : Bool) (lv : Value), s18 = .int .i64 i ∧ Hid (kq = ys.length - i ∧ i ≤ ys.length ∧ w.heap.size < wx.heap.size) ∧ Hid (wx.ownsRow w.heap.size 51 1 s4 (highL (ys.take i)).length (nums .u32 (highL (ys.take i)))) ∧ Hid (BX wx w.heap.size w.heap.size (lowL (ys.take i)) no lv) ∧ Hid (Below w.heap.size w wx))
    case atStart => exact ⟨0, true, .slice none 0 0, rfl, Lib.hid ⟨rfl, Nat.zero_le _, by rw [World.size_alloc]; exact Nat.lt_succ_self _⟩, Lib.hid ⟨rfl, .inl ⟨rfl, rfl⟩⟩, HB0, Lib.hid (below_new (Below.refl _ _) _)⟩
    case round =>
      obtain ⟨i, no, lv, rfl, HK, HO, HX, HB⟩ := hrel
      by_cases hi : i < ys.length
      · have hi0 : (0 : Int) ≤ (i : Int) := by omega
        have hi3 : (i : Int) < (ys.length : Int) := by omega
        have hss : ys.length ≤ 10000 := HL.out
        obtain ⟨pb, po, rfl, hsrc⟩ := src_u HS.out (by omega)
        have hcc := hsrc.at_ HB.out i hi
        clear hsrc
        have hlo := low_snoc ys i hi
        have hhi := high_snoc ys i hi
        have hy := HR.out (ys.getD i 0) (by rw [List.getD_eq_getElem?_getD, List.getElem?_eq_getElem hi]; exact List.getElem_mem hi)
        obtain ⟨y, hye⟩ : ∃ y, ys.getD i 0 = y := ⟨_, rfl⟩
        rw [hye] at hcc hlo hhi hy
        clear hye
        by_cases hc : y < 128
        · rw [if_pos hc] at hlo hhi
          have hc1 : decide (y < 128) = true := decide_eq_true hc
          have hm : y % 256 = y := by omega
          have HLO := Lib.hid hlo
          have HHI := Lib.hid hhi
          have HLN : Hid ((lowL (ys.take i)).length + 1 ≤ 1000000) := Lib.hid (by have := low_len ys i; omega)
          clear hlo hhi hy
          go_wp2_with fail
          refine (writeByte_c w.heap.size w.heap.size _ no lv y _ HX.out HB.out.size HLN.out).mono ?_
          rintro e w1 ⟨rfl, lv', hx1, he1⟩
          have HX1 := Lib.hid hx1
          have HO1 := Lib.hid (u32_keep HO.out HX.out he1)
          have HB1 := Lib.hid (below_bx HB.out HX.out he1 HB.out.size (Nat.le_refl _))
          have HZ1 : Hid (w.heap.size < w1.heap.size) := Lib.hid (Nat.lt_of_lt_of_le HK.out.2.2 he1.size)
          clear hx1 he1
          go_wp2_with fail
          go_roundg (gk - 1)
          case measure => have := HK.out; omega
          case rel => exact ⟨i + 1, false, lv', by go_num, Lib.hid ⟨by have := HK.out; omega, by omega, HZ1.out⟩, Lib.hid (by rw [HHI.out]; exact HO1.out), Lib.hid (by rw [HLO.out]; exact HX1.out), HB1⟩
        · rw [if_neg hc] at hlo hhi
          have hc1 : decide (y < 128) = false := decide_eq_false hc
          have HLO := Lib.hid hlo
          have HHI := Lib.hid hhi
          have HLN : Hid (((highL (ys.take i)).length + 1) * 4 ≤ 140737488355328) := Lib.hid (by have := high_len ys i; omega)
          clear hlo hhi hy
          obtain ⟨HQ, hHQ⟩ : ∃ HQ, highL (ys.take i) = HQ := ⟨_, rfl⟩
          rw [hHQ] at HO HLN HHI
          clear hHQ
          go_wp2_with (at_builtin; refine print_append_row (w0 := w) w.heap.size rfl (.tmp 27) (.tmp 29) 26 51 .u32 4 rfl Try.underlying26 info_u32 (by decide) u4 HQ [y] (some ⟨wr.heap.size, 0, none⟩) 1 1 rfl rfl (Go.Proofs.Ytegacgfhmigdjaa.own_alloc HO.out _) (reads_one wr _ _ rfl) (below_new HB.out _) (below_new HB.out _).size HLN.out ?_; intro v1 w1 ho1 hb1 hg1 hat1; have HO1 := Lib.hid ho1; have HB2 := Lib.hid hb1; have HX1 := Lib.hid (bx_keep (Go.Proofs.Ytegacgfhmigdjaa.own_alloc HO.out _) (HX.out.alloc _) hg1); have HZ1 : Hid (w.heap.size < w1.heap.size) := Lib.hid (Nat.lt_of_lt_of_le HK.out.2.2 (Nat.le_trans (by simp) hg1.size)); clear ho1 hb1 hg1 hat1)
          go_roundg (gk - 1)
          case measure => have := HK.out; omega
          case rel => exact ⟨i + 1, no, lv, by go_num, Lib.hid ⟨by have := HK.out; omega, by omega, HZ1.out⟩, Lib.hid (by rw [HHI.out]; exact HO1.out), Lib.hid (by rw [HLO.out]; exact HX1.out), HB2⟩
      · have HIQ : Hid (ys.take i = ys) := Lib.hid (List.take_of_length_le (by omega))
        have hi3 : ¬ (i : Int) < (ys.length : Int) := by omega
        go_wp2_with fail
        go_meet
        exact ⟨Lib.hid (by rw [← HIQ.out]; exact HO.out), no, lv, Lib.hid (by rw [← HIQ.out]; exact HX.out), HB⟩
  case rest =>
    obtain ⟨HO, no, lv, HX, HB⟩ := hcut
    obtain ⟨LW, hLW⟩ : ∃ LW, lowL ys = LW := ⟨_, rfl⟩
    have hlw : LW.length ≤ ys.length := by rw [← hLW]; exact List.length_filter_le _ _
    have HSEP : Hid (sepL ys = if LW.length = 0 then [] else [45]) := Lib.hid (by rw [← hLW]; rfl)
    have HLW := Lib.hid hLW
    rw [hLW] at HX
    clear hLW
    go_upto_if 34 with (go_at_call 58; refine (builderLen_c w.heap.size w.heap.size LW no lv _ HX.out).mono ?_; rintro e w1 ⟨rfl, rfl⟩)
    go_cut [] (fun wx => ∃ no lv, Hid (wx.ownsRow w.heap.size 51 1 u4 (highL ys).length (nums .u32 (highL ys))) ∧ Hid (BX wx w.heap.size w.heap.size (LW ++ sepL ys) no lv) ∧ Hid (Below w.heap.size w wx))
    case first =>
      by_cases h0 : LW.length = 0
      · have h1 : decide ((0 : Int) < (LW.length : Int)) = false := decide_eq_false (by omega)
        have h2 : ¬ 0 < LW.length := by omega
        go_wp2_with fail
        go_meet
        exact ⟨no, lv, HO, Lib.hid (by rw [HSEP.out, if_pos h0, List.append_nil]; exact HX.out), HB⟩
      · have h1 : decide ((0 : Int) < (LW.length : Int)) = true := decide_eq_true (by omega)
        have h2 : 0 < LW.length := by omega
        have HLL : Hid (LW.length + 1 ≤ 1000000) := Lib.hid (by have := HL.out; omega)
        go_wp2_with fail
        refine (writeByte_c w.heap.size w.heap.size LW no lv 45 _ HX.out HB.out.size HLL.out).mono ?_
        rintro e w1 ⟨rfl, lv1, hx1, he1⟩
        have HX1 := Lib.hid hx1
        have HO1 := Lib.hid (u32_keep HO.out HX.out he1)
        have HB1 := Lib.hid (below_bx HB.out HX.out he1 HB.out.size (Nat.le_refl _))
        clear hx1 he1
        go_wp2_with fail
        go_meet
        exact ⟨false, lv1, HO1, Lib.hid (by rw [HSEP.out, if_neg h0]; exact HX1.out), HB1⟩
    case rest =>
      obtain ⟨no2, lv2, HO2, HX2, HB2⟩ := hcut
      have HHL : Hid ((highL ys).length ≤ 1000000) := Lib.hid (by have : (highL ys).length ≤ ys.length := List.length_filter_le _ _; have := HL.out; omega)
      go_wp2_with fail
      refine (sort_own HO2.out HHL.out).mono ?_
      rintro e w2 ⟨rfl, ss, ⟨hp, hsorted⟩, ho3, he3⟩
      have HX3 := Lib.hid (bx_eff HO2.out HX2.out he3)
      have HB3 := Lib.hid (eff_under HB2.out HO2.out he3 HB2.out.size (Nat.le_refl _))
      have HO3 := Lib.hid ho3
      have HZZ := Lib.hid (upz_of hp hsorted)
      have HSL : Hid (ss.length ≤ 1000000) := Lib.hid (by rw [hp.length_eq]; exact HHL.out)
      clear hp hsorted ho3 he3
      go_wp2_with fail
      refine (compact_own HO3.out HSL.out).mono ?_
      rintro e w3 ⟨v', zs, rfl, hzs, ho4, he4⟩
      have HX4 := Lib.hid (bx_eff HO3.out HX3.out he4)
      have HB4 := Lib.hid (eff_under HB3.out HO3.out he4 HB3.out.size (Nat.le_refl _))
      have HO4 := Lib.hid ho4
      have HUP : Hid (UpZ ys zs) := Lib.hid (by rw [hzs]; exact HZZ.out)
      obtain ⟨A5, c5, rfl, hc5⟩ := Go.Proofs.Ytegacgfhmigdjaa.own_slice ho4
      have HZL : Hid (zs.length ≤ 1000000) := Lib.hid (by
        rw [hzs]
        refine Nat.le_trans ?_ HSL.out
        unfold Lib.compact Lib.compactUpTo
        rw [List.length_map]
        exact Nat.le_trans (List.length_filter_le _ _) (by simp))
      have hc5' : zs.length ≤ 1000000 := HZL.out
      clear ho4 he4 hzs
      have HST : Hid ((128, startT ys) = (((128 : Int), (⟨0, 72, LW.length, LW ++ sepL ys⟩ : TS)))) := Lib.hid (by unfold startT; rw [HLW.out])
      go_wp2_with fail
      obtain ⟨L, hL⟩ : ∃ L, LW.length = L := ⟨_, rfl⟩
      rw [hL]
      have HLL : Hid (LW.length = L ∧ (lowL ys).length = L) := Lib.hid ⟨hL, by rw [HLW.out]; exact hL⟩
      clear hL hlw
      go_loopg [7, 8, 9, 10, 42] zs.length (fun kq s7 s8 s9 s10 s42 wx => ∃ (i : Nat) (n delta b : Int) (done : Nat) (out : List Int) (no : Bool) (lv : Value), s42 = .int .i64 i ∧ s7 = .int .i64 done ∧ s8 = .int .u64 delta ∧ s9 = .int .u32 n ∧ s10 = .int .i64 b ∧
        Hid (kq = zs.length - i ∧ i ≤ zs.length ∧ outerT ys L (zs.take i) (128, startT ys) = (n, ⟨delta, b, done, out⟩) ∧ OI ys (zs.drop i) n ⟨delta, b, done, out⟩) ∧ Hid (BX wx w.heap.size w.heap.size out no lv) ∧ Hid (wx.ownsRow w.heap.size 51 1 (.slice A5 zs.length c5) zs.length (nums .u32 zs)) ∧ Hid (Below w.heap.size w wx))
      case atStart => exact ⟨0, 128, 0, 72, L, LW ++ sepL ys, no2, lv2, rfl, rfl, rfl, rfl, rfl, Lib.hid ⟨rfl, Nat.zero_le _, by rw [HST.out, HLL.out.1]; rfl, by have h := OI.start HUP.out HR.out; unfold startT at h; rw [HLW.out, HLL.out.1] at h; exact h⟩, HX4, HO4, HB4⟩
      case round =>
        obtain ⟨i, n, delta, b0, done, out, no3, lv3, rfl, rfl, rfl, rfl, rfl, HK, HX, HO, HB⟩ := hrel
        by_cases hi : i < zs.length
        · have hi0 : (0 : Int) ≤ (i : Int) := by omega
          have hi3 : (i : Int) < (zs.length : Int) := by omega
          obtain ⟨g5, rfl, hcc⟩ := own_cell HO.out hi
          obtain ⟨m, hm⟩ : ∃ m, zs.getD i 0 = m := ⟨_, rfl⟩
          rw [hm] at hcc
          have hdrop : zs.drop i = m :: zs.drop (i + 1) := by
            rw [List.drop_eq_getElem_cons hi, ← hm, List.getD_eq_getElem?_getD, List.getElem?_eq_getElem hi]; rfl
          have HOI : Hid (OI ys (m :: zs.drop (i + 1)) n ⟨delta, b0, done, out⟩) := Lib.hid (by rw [← hdrop]; exact HK.out.2.2.2)
          have HSU : Hid (outerT ys L (zs.take (i + 1)) (128, startT ys) = outT ys L (n, ⟨delta, b0, done, out⟩) m) := Lib.hid (by rw [outer_succ ys L zs _ i hi, HK.out.2.2.1, hm])
          obtain ⟨D, hD, hEF, ⟨hm0, hm1⟩, hII⟩ := HOI.out.enter2 HL.out
          have HD := Lib.hid hD
          have HII := Lib.hid hII
          clear hm hdrop hD hII
          obtain ⟨hu1, hq1, hq2, hq3, hq4, hq5⟩ := hEF
          go_upto_block 4 with fail
          clear hu1 hq1 hq2 hq3 hq4 hq5 hcc
          obtain ⟨dl0, hdl0⟩ : ∃ x, delta + D = x := ⟨_, rfl⟩
          have HIS : Hid (outT ys L (n, ⟨delta, b0, done, out⟩) m = (m + 1, { innerT L m ys ⟨dl0, b0, done, out⟩ with delta := (innerT L m ys ⟨dl0, b0, done, out⟩).delta + 1 })) := Lib.hid (by rw [← hdl0, ← HD.out]; rfl)
          rw [hdl0] at HII ⊢
          clear hdl0
          go_cut [7, 8, 10] (fun s7 s8 s10 wx => ∃ (delta b : Int) (done' : Nat) (out' : List Int) (no : Bool) (lv : Value), s7 = .int .i64 done' ∧ s8 = .int .u64 delta ∧ s10 = .int .i64 b ∧
            Hid (innerT L m ys ⟨dl0, b0, done, out⟩ = ⟨delta, b, done', out'⟩ ∧ II ys m ys.length ⟨delta, b, done', out'⟩) ∧ Hid (BX wx w.heap.size w.heap.size out' no lv) ∧ Hid (wx.ownsRow w.heap.size 51 1 (.slice (some ⟨g5, 0, none⟩) zs.length c5) zs.length (nums .u32 zs)) ∧ Hid (Below w.heap.size w wx))
          case first =>
            go_wp2_with fail
            go_loopg [7, 8, 10, 59] ys.length (fun kq s7 s8 s10 s59 wx => ∃ (j : Nat) (delta b : Int) (done' : Nat) (out' : List Int) (no : Bool) (lv : Value), s59 = .int .i64 j ∧ s7 = .int .i64 done' ∧ s8 = .int .u64 delta ∧ s10 = .int .i64 b ∧
              Hid (kq = ys.length - j ∧ j ≤ ys.length ∧ innerT L m (ys.take j) ⟨dl0, b0, done, out⟩ = ⟨delta, b, done', out'⟩ ∧ II ys m j ⟨delta, b, done', out'⟩) ∧ Hid (BX wx w.heap.size w.heap.size out' no lv) ∧ Hid (wx.ownsRow w.heap.size 51 1 (.slice (some ⟨g5, 0, none⟩) zs.length c5) zs.length (nums .u32 zs)) ∧ Hid (Below w.heap.size w wx))
            case atStart => exact ⟨0, dl0, b0, done, out, no3, lv3, rfl, rfl, rfl, rfl, Lib.hid ⟨rfl, Nat.zero_le _, rfl, HII.out⟩, HX, HO, HB⟩
            case round =>
              obtain ⟨j, delta, b, dn, ou, no4, lv4, rfl, rfl, rfl, rfl, HJ, HX, HO, HB⟩ := hrel
              by_cases hj : j < ys.length
              · have hj0 : (0 : Int) ≤ (j : Int) := by omega
                have hj3 : (j : Int) < (ys.length : Int) := by omega
                have hss : ys.length ≤ 10000 := HL.out
                obtain ⟨pb, po, rfl, hsrc⟩ := src_u HS.out (by omega)
                have hcc := hsrc.at_ HB.out j hj
                clear hsrc
                obtain ⟨y, hye⟩ : ∃ y, ys.getD j 0 = y := ⟨_, rfl⟩
                rw [hye] at hcc
                have HST2 : Hid (innerT L m (ys.take (j + 1)) ⟨dl0, b0, done, out⟩ = stepT L m ⟨delta, b, dn, ou⟩ y ∧ II ys m (j + 1) (stepT L m ⟨delta, b, dn, ou⟩ y)) := Lib.hid ⟨by rw [inner_succ L m ys _ j hj, HJ.out.2.2.1, hye], by rw [← hye]; exact HJ.out.2.2.2.step hj L⟩
                have HYE := Lib.hid hye
                have hpl := HJ.out.2.2.2.plus HJ.out.2.1 HL.out
                have HPL := Lib.hid hpl
                clear hye hpl
                by_cases hc : y < m
                · have hc1 : decide (y < m) = true := decide_eq_true hc
                  have HS3 : Hid (stepT L m ⟨delta, b, dn, ou⟩ y = ⟨delta + 1, b, dn, ou⟩) := Lib.hid (by unfold stepT; rw [if_pos hc])
                  have hpl := HPL.out
                  clear hc
                  go_wp2_with fail
                  clear hpl
                  go_roundg (gk - 1)
                  case measure => have := HJ.out; omega
                  case rel => exact ⟨j + 1, delta + 1, b, dn, ou, no4, lv4, by go_num, rfl, rfl, rfl, Lib.hid ⟨by have := HJ.out.1; omega, hj, by rw [HST2.out.1, HS3.out], by rw [← HS3.out]; exact HST2.out.2⟩, HX, HO, HB⟩
                · have hc1 : decide (y < m) = false := decide_eq_false hc
                  by_cases he : y = m
                  · have he1 : (y == m) = true := by rw [he]; exact beq_self_eq_true m
                    have HF := Lib.hid (HJ.out.2.2.2.hit hj (HYE.out.trans he) HL.out)
                    obtain ⟨fb, hfb⟩ : ∃ fb : Bool, ((dn : Int) == (L : Int)) = fb := ⟨_, rfl⟩
                    have HFB : Hid (fb = (dn == L)) := Lib.hid (by rw [← hfb]; exact beq_cast dn L)
                    have HS3 : Hid (stepT L m ⟨delta, b, dn, ou⟩ y = ⟨0, adaptP delta (dn + 1) fb, dn + 1, ou ++ putL delta b⟩) := Lib.hid (by unfold stepT; rw [if_neg hc, if_pos he, HFB.out])
                    have hl1 := HF.out.l1
                    have hl2 := HF.out.l2
                    clear hc he
                    go_wp2_with fail
                    refine (put_c delta b HF.out.d0 HF.out.d1 _).mono ?_
                    rintro e w2 ⟨PT, rfl, ⟨hpt, hpz⟩, hb2⟩
                    have HPT := Lib.hid (And.intro hpt hpz)
                    have HXa := Lib.hid (HX.out.below hb2)
                    have HOa := Lib.hid (Go.Proofs.Ytegacgfhmigdjaa.own_below HO.out hb2)
                    have HBa := Lib.hid (below_next HB.out hb2)
                    clear hb2 hpt hpz
                    go_wp2_with fail
                    refine (writeString_c w.heap.size w.heap.size ou no4 lv4 PT _ HXa.out HBa.out.size (by have := HF.out.out; have := HPT.out.2; have := (putL_len delta b).2; omega)).mono ?_
                    rintro e w3 ⟨rfl, lv5, hx3, he3⟩
                    have HX3 : Hid (BX w3 w.heap.size w.heap.size (ou ++ putL delta b) false lv5) := Lib.hid (by rw [← HPT.out.1]; exact hx3)
                    have HO3 := Lib.hid (u32_keep HOa.out HXa.out he3)
                    have HB3 := Lib.hid (below_bx HBa.out HXa.out he3 HBa.out.size (Nat.le_refl _))
                    clear hx3 he3
                    go_wp2_with fail
                    refine (adapt_c delta ((dn : Int) + 1) fb _ HF.out.d0 HF.out.d1 (by omega)).mono ?_
                    rintro e w4 ⟨rfl, hb4⟩
                    have HX4 := Lib.hid (HX3.out.below hb4)
                    have HO4 := Lib.hid (Go.Proofs.Ytegacgfhmigdjaa.own_below HO3.out hb4)
                    have HB4 := Lib.hid (below_next HB3.out hb4)
                    clear hb4
                    go_wp2_with fail
                    clear hl1 hl2 hfb
                    go_roundg (gk - 1)
                    case measure => have := HJ.out.1; omega
                    case rel => exact ⟨j + 1, 0, _, dn + 1, _, false, lv5, by go_num, (by first | go_num | (rw [HF.out.l1]; go_num)), rfl, rfl, Lib.hid ⟨by rw [HJ.out.1, Nat.sub_sub], hj, by rw [HST2.out.1, HS3.out], by rw [← HS3.out]; exact HST2.out.2⟩, HX4, HO4, HB4⟩
                  · have he1 : (y == m) = false := by rw [beq_eq_false_iff_ne]; exact he
                    have HS3 : Hid (stepT L m ⟨delta, b, dn, ou⟩ y = ⟨delta, b, dn, ou⟩) := Lib.hid (by unfold stepT; rw [if_neg hc, if_neg he])
                    clear hc he
                    go_wp2_with fail
                    go_roundg (gk - 1)
                    case measure => have := HJ.out; omega
                    case rel => exact ⟨j + 1, delta, b, dn, ou, no4, lv4, by go_num, rfl, rfl, rfl, Lib.hid ⟨by have := HJ.out.1; omega, hj, by rw [HST2.out.1, HS3.out], by rw [← HS3.out]; exact HST2.out.2⟩, HX, HO, HB⟩
              · have hj3 : ¬ (j : Int) < (ys.length : Int) := by omega
                have HJE : Hid (j = ys.length) := Lib.hid (Nat.le_antisymm HJ.out.2.1 (Nat.le_of_not_lt hj))
                go_wp2_with fail
                go_meet
                exact ⟨delta, b, dn, ou, no4, lv4, rfl, rfl, rfl, Lib.hid ⟨by have h := HJ.out.2.2.1; rw [HJE.out, List.take_length] at h; exact h, by rw [← HJE.out]; exact HJ.out.2.2.2⟩, HX, HO, HB⟩
          case rest =>
            obtain ⟨delta2, b2, dn, ou, no4, lv4, rfl, rfl, rfl, HI, HX, HO, HB⟩ := hcut
            have HPL := Lib.hid (HI.out.2.plus (Nat.le_refl _) HL.out)
            have HLV : Hid (OI ys (zs.drop (i + 1)) (m + 1) ⟨delta2 + 1, b2, dn, ou⟩) := Lib.hid (HI.out.2.leave HOI.out)
            have hpl := HPL.out
            have hm1' : (m + 1) % 4294967296 = m + 1 := by omega
            go_wp2_with fail
            clear hpl hm1'
            go_roundg (gk - 1)
            case measure => have := HK.out; omega
            case rel => exact ⟨i + 1, m + 1, delta2 + 1, b2, dn, ou, no4, lv4, by go_num, rfl, rfl, rfl, rfl, Lib.hid ⟨by have := HK.out.1; omega, hi, by rw [HSU.out, HIS.out, HI.out.1], HLV.out⟩, HX, HO, HB⟩
        · have hi3 : ¬ (i : Int) < (zs.length : Int) := by omega
          have HIE : Hid (zs.take i = zs) := Lib.hid (List.take_of_length_le (by omega))
          have HOUT : Hid (textZ ys zs = out) := Lib.hid (by
            have h := HK.out.2.2.1
            rw [HIE.out] at h
            unfold textZ
            rw [HLL.out.2, h])
          obtain ⟨RES, hres, hstr⟩ := str_of_bytes out (by rw [← HOUT.out]; exact text_range HUP.out HR.out)
          have HRES := Lib.hid hres
          have HSTR := Lib.hid hstr
          clear hres hstr
          rw [← HRES.out] at HX
          go_wp2_with fail
          refine (builderString_c w.heap.size w.heap.size RES no3 lv3 _ HX.out (Nat.le_refl _) HB.out.size).mono ?_
          rintro e w5 ⟨rfl, hb5⟩
          have HB5 := Lib.hid hb5
          clear hb5
          go_wp2_with fail
          go_ret
          exact ⟨zs, HUP.out, by rw [HSTR.out, HOUT.out]; rfl, below_join HB.out HB5.out⟩
end Go.Proofs.Ytegacgfhmigdjaa
/- puny.Encoder: its steps as law10.write wants them. -/
namespace Go.Proofs.Ytegacgfhmigdjaa
open Go.RowKit Go.Proofs.YtegacgfhmigdjaaW.PrintWords Go.Proofs.YtegacgfhmigdjaaW.PrintLast Go.Proofs.YtegacgfhmigdjaaW.PrintMore Go.Proofs.Ytegacgfhmigdjaa.PPu
set_option linter.unusedVariables false
set_option linter.unusedSimpArgs false

/-- Scalars that were handed in: they lie where the encoder doesn't. -/
def Src32 (w : World) (g B : Nat) (A : Option Addr) (l : List Int) : Prop := l = [] ∨ ∃ pb po, A = some ⟨pb, po, none⟩ ∧ pb ≠ g ∧ pb < B ∧ ∀ j, j < l.length → w.cell? ⟨pb, po + j, none⟩ = some (.int .u32 (l.getD j 0))
theorem Src32.eff {w w1 : World} {g B : Nat} {A : Option Addr} {l : List Int} (h : Src32 w g B A l) (he : Eff w w1 (fun k => k = g ∨ B ≤ k)) : Src32 w1 g B A l := by
  rcases h with h | ⟨pb, po, h1, h2, h3, h4⟩
  · exact .inl h
  · refine .inr ⟨pb, po, h1, h2, h3, fun j hj => ?_⟩
    have hc := h4 j hj
    have hlt := World.block_lt_of_cell? w _ hc
    have hb := he.block pb hlt (fun e => e.elim h2 (fun e => by omega))
    unfold World.cell? at hc ⊢
    simp only at hc ⊢
    rw [hb]
    exact hc
theorem Src32.drop {w : World} {g B : Nat} {A : Option Addr} {l : List Int} (h : Src32 w g B A l) (m c : Nat) (hm : m ≤ l.length) (hc : l.length ≤ c) : Src32 w g B (if c = m then A else A.map (·.add m)) (l.drop m) := by
  by_cases he : m = l.length
  · exact .inl (by rw [he, List.drop_length])
  · rcases h with h | ⟨pb, po, rfl, h2, h3, h4⟩
    · rw [h] at he hm
      simp at he hm
      omega
    · refine .inr ⟨pb, po + m, by rw [if_neg (by omega), Option.map_some, Addr.add_lit], h2, h3, fun j hj => ?_⟩
      rw [List.length_drop] at hj
      have := h4 (m + j) (by omega)
      rw [← Nat.add_assoc] at this
      rw [this]
      congr 2
      simp [List.getD_eq_getElem?_getD, List.getElem?_drop]
theorem Src32.reads {w : World} {g B : Nat} {A : Option Addr} {l : List Int} (h : Src32 w g B A l) (n : Nat) (hn : n ≤ l.length) (hl : l.length ≤ 1000000) : ReadsInt w .u32 A n (l.take n) := by
  refine ⟨by rw [List.length_take]; omega, by omega, fun h0 => ?_⟩
  rcases h with h | ⟨pb, po, rfl, h2, h3, h4⟩
  · rw [h] at hn; simp at hn; omega
  · refine ⟨_, rfl, fun j hj => ?_⟩
    rw [Addr.add_lit, h4 j (by omega)]
    congr 2
    rw [List.getD_eq_getElem?_getD, List.getD_eq_getElem?_getD, List.getElem?_take_of_lt hj]
set_option maxRecDepth 100000 in
theorem enc_nil (g B : Nat) (err fat : Int) (en : Bool) (n : Int) (xs : List Int) (t : ByteArray) (lv : Value) (A : Option Addr) (c : Nat) (room : Int) (w : World) (hd : EX w g B err fat en n xs t lv) :
    Calls Try.prog 27 #[.pointer (some ⟨g, 0, none⟩), .slice A 0 c, .int .i64 room] w fun e w' => e = .returned (.tuple #[.int .i64 0, .string (t.extract 0 (giveN room t.size))]) ∧ EX w' g B err fat en n xs (t.extract (giveN room t.size) t.size) lv ∧ Eff w w' (fun k => k = g) := by
  have HD := Lib.hid hd
  clear hd
  go_enter Try.func27, Try.ntmps27
  go_upto_block 0 with fail
  go_cut [8] (fun s8 wx => s8 = .int .i64 0 ∧ wx = w)
  case first =>
    go_wp2_with fail
    go_loopg [8] 0 (fun kq s8 wx => s8 = .int .i64 0 ∧ wx = w)
    case atStart => exact ⟨rfl, rfl⟩
    case round =>
      obtain ⟨rfl, rfl⟩ := hrel
      go_wp2_with fail
      go_meet
      exact ⟨rfl, rfl⟩
  case rest =>
    obtain ⟨rfl, rfl⟩ := hcut
    go_wp2_with (go_at_call 46; refine (give_c (o := 4) HD.out.blk rfl).mono ?_; rintro e w1 ⟨rfl, rfl⟩)
    refine bodyPost_ret (v := .tuple #[.int .i64 0, .string (t.extract 0 (giveN room t.size))]) (by simp [results, Try.results27, go_sem]) rfl ?_
    exact ⟨rfl, HD.out.pend _, Eff.set _ g 4 _ |>.mono fun _ _ h => h⟩
/-- Feed, while it goes on, of whatever part. -/
theorem enc_any (g B : Nat) (n : Int) (xs ys : List Int) (lv v : Value) (base : Nat) (room : Int) (w : World) (hd : EX w g B 0 0 false n xs ⟨#[]⟩ lv) (ho : w.ownsRow base 51 1 v ys.length (nums .u32 ys)) (hg : ∀ k, base ≤ k → k ≠ g) (hlv : ∀ k, lv.ownBlock = some k → k < base) (hB : B ≤ w.heap.size) (h0 : 0 ≤ n) (hn : n + ys.length ≤ 1000000) (hl : xs.length + ys.length ≤ 1000000) :
    Calls Try.prog 27 #[.pointer (some ⟨g, 0, none⟩), v, .int .i64 room] w fun e w' => e = .returned (.tuple #[.int .i64 (encN ys), .string ⟨#[]⟩]) ∧ EncF w w' g B n xs ys := by
  rcases ho.2 with ⟨rfl, hz⟩ | ⟨pb, cap, cur, rfl, hb, hh, _⟩
  · obtain rfl : ys = [] := List.eq_nil_of_length_eq_zero hz
    refine (enc_nil g B 0 0 false n xs ⟨#[]⟩ lv none 0 room w hd).mono ?_
    rintro e w' ⟨rfl, hx, he⟩
    rw [empty_extract] at hx ⊢
    refine ⟨rfl, ⟨lv, ?_⟩, he.mono fun _ _ h => .inl h⟩
    have e0 : encN [] = 0 := rfl
    rw [e0]
    simpa using hx
  · have hlt : pb < w.heap.size := (Array.getElem?_eq_some_iff.1 hh).1
    refine enc_go g B pb 0 cap n xs ys lv room w hd ⟨hg pb hb, fun e => by have := hlv pb e; omega, fun _ => hlt, fun j hj => ?_⟩ hB h0 hn hl
    obtain ⟨ad, e, hc⟩ := (own_reads' ho).2.2 (by omega)
    injection e with e
    subst e
    have := hc j hj
    rwa [Addr.add_lit] at this
set_option maxRecDepth 100000 in
theorem encEnd_err (g B : Nat) (err fat n : Int) (xs : List Int) (t : ByteArray) (lv : Value) (w : World) (hd : EX w g B err fat false n xs t lv) (he : err ≠ 0) :
    Calls Try.prog 28 #[.pointer (some ⟨g, 0, none⟩)] w fun e w' => e = .returned (.tuple #[]) ∧ w = w' := by
  have hg := going_err he hd.blk rfl rfl
  clear hd
  go_enter Try.func28, Try.ntmps28
  go_wp2_with (go_at_call 38; refine hg.mono ?_; rintro e w1 ⟨rfl, rfl⟩)
  exact bodyPost_end (v := .tuple #[]) (by simp [results, Try.results28, go_sem]) rfl ⟨rfl, rfl⟩
set_option maxRecDepth 100000 in
theorem outDone_c (g B : Nat) (err fat n : Int) (en : Bool) (xs : List Int) (t : ByteArray) (lv : Value) (w : World) (hd : EX w g B err fat en n xs t lv) (ho : (err == 0 && !en) = false) :
    Calls Try.prog 33 #[.pointer (some ⟨g, 0, none⟩)] w fun e w' => e = .returned (.bool (t.size == 0)) ∧ w = w' := by
  have hg := going_c hd.blk rfl rfl
  rw [ho] at hg
  have hh := kept_c (o := 4) hd.blk rfl
  clear hd
  cases hz : (t.size == 0)
  all_goals
    go_enter Try.func33, Try.ntmps33
    go_wp2_with (first
      | (go_at_call 38; refine hg.mono ?_; rintro e w1 ⟨rfl, rfl⟩)
      | (go_at_call 24; refine hh.mono ?_; rintro e w1 ⟨rfl, rfl⟩))
    go_ret
    first
      | exact ⟨rfl, rfl⟩
      | (refine ⟨?_, rfl⟩; simp at hz; simp [hz])
/-- The one list of the numbers above. -/
def zsL (ys : List Int) : List Int := Lib.compact ((highL ys).mergeSort fun a b => decide (a ≤ b))
theorem upz_zs (ys : List Int) : UpZ ys (zsL ys) := by
  refine upz_of (List.mergeSort_perm _ _) ?_
  have h := List.pairwise_mergeSort (le := fun a b : Int => decide (a ≤ b)) (fun a b c h1 h2 => by simp at *; omega) (fun a b => by simp; omega) (highL ys)
  exact h.imp fun h => by simpa using h
/-- What a list is written as. -/
def textL (ys : List Int) : List Int := textZ ys (zsL ys)
def textP (ys : List Int) : ByteArray := strOfNums (textL ys)
theorem text_p (A : Option Addr) (c : Nat) (ys : List Int) (w : World) (hs : ReadsInt w .u32 A ys.length ys) (hl : ys.length ≤ 10000) (hr : ∀ y ∈ ys, 0 ≤ y ∧ y ≤ 1114111) :
    Calls Try.prog 48 #[.slice A ys.length c] w fun e w' => e = .returned (.string (textP ys)) ∧ Below w.heap.size w w' := by
  refine (text_c A c ys w hs hl hr).mono ?_
  rintro e w' ⟨zs, hz, rfl, hb⟩
  have e : zs = zsL ys := upz_unique zs (zsL ys) hz.1 (upz_zs ys).1 fun x => (hz.2 x).trans ((upz_zs ys).2 x).symm
  rw [e]
  exact ⟨rfl, hb⟩
theorem bytes_p (ys : List Int) (hr : ∀ y ∈ ys, 0 ≤ y ∧ y ≤ 1114111) : bytesOf (textP ys) = textL ys := bytes_str _ (text_range (upz_zs ys) hr)
theorem outer_len (ys : List Int) (start : Nat) : ∀ (zs : List Int) (n : Int) (s : TS), OI ys zs n s → ys.length ≤ 10000 → (outerT ys start zs (n, s)).2.out.length ≤ ys.length + 1 + 20 * ys.length
  | [], n, s, h, hl => by have := h.out; have := h.done_le; show s.out.length ≤ _; omega
  | m :: zs, n, s, h, hl => by
    obtain ⟨D, hD, -, -, -, -, -, -, -, h0⟩ := h.enter hl
    have hin : ∀ i, i ≤ ys.length → II ys m i (innerT start m (ys.take i) { s with delta := s.delta + D }) := by
      intro i
      induction i with
      | zero => intro _; exact h0
      | succ i ih =>
        intro hi
        rw [inner_succ start m ys _ i (by omega)]
        exact (ih (by omega)).step (by omega) start
    have h1 := hin ys.length (Nat.le_refl _)
    rw [List.take_length] at h1
    have h2 := h1.leave h
    rw [← hD] at h2
    exact outer_len ys start zs (m + 1) _ h2 hl
theorem textP_size (ys : List Int) (hl : ys.length ≤ 10000) (hr : ∀ y ∈ ys, 0 ≤ y ∧ y ≤ 1114111) : (textP ys).size ≤ 300000 := by
  rw [← bytesOf_length, bytes_p ys hr]
  have := outer_len ys (lowL ys).length (zsL ys) 128 (startT ys) (OI.start (upz_zs ys) hr) hl
  unfold textL textZ
  omega
theorem extract_none (t : ByteArray) : t.extract 0 0 = ⟨#[]⟩ := by
  apply ByteArray.ext
  simp
theorem extract_self (t : ByteArray) : t.extract t.size t.size = ⟨#[]⟩ := by
  have h : (t.extract t.size t.size).size = 0 := by rw [ByteArray.size_extract]; omega
  exact ByteArray.ext (Array.eq_empty_of_size_eq_zero h)
theorem isP_range {y : Int} (h0 : 0 ≤ y) (h : isP y = true) : 0 ≤ y ∧ y ≤ 1114111 := by
  unfold isP at h
  split at h
  · exact ⟨h0, by assumption⟩
  · cases h
theorem scal_all (ys : List Int) : ∀ k i, i + k = ys.length → scalN ys k i = ys.length → ∀ j, i ≤ j → j < ys.length → isP (ys.getD j 0) = true
  | 0, i, hi, h, j, h1, h2 => by omega
  | k + 1, i, hi, h, j, h1, h2 => by
    rw [scalN, if_pos (by omega)] at h
    by_cases hp : isP (ys.getD i 0) = true
    · rw [if_pos hp] at h
      by_cases e : j = i
      · rw [e]; exact hp
      · exact scal_all ys k (i + 1) (by omega) h j (by omega) h2
    · rw [if_neg hp] at h; omega
theorem enc_range {ys : List Int} (h : encN ys = ys.length) (h0 : ∀ y ∈ ys, 0 ≤ y) : ∀ y ∈ ys, 0 ≤ y ∧ y ≤ 1114111 := by
  intro y hy
  obtain ⟨j, hj, rfl⟩ := List.getElem_of_mem hy
  have := scal_all ys ys.length 0 (by omega) h j (Nat.zero_le _) hj
  rw [List.getD_eq_getElem?_getD, List.getElem?_eq_getElem hj] at this
  exact isP_range (h0 _ hy) this
end Go.Proofs.Ytegacgfhmigdjaa
/- pilcrowlaw10.write, walked. -/
namespace Go.Proofs.Ytegacgfhmigdjaa
open Go.RowKit Go.Proofs.YtegacgfhmigdjaaW.PrintWords Go.Proofs.YtegacgfhmigdjaaW.PrintLast Go.Proofs.YtegacgfhmigdjaaW.PrintMore Go.Proofs.Ytegacgfhmigdjaa.PPu
set_option linter.unusedVariables false
set_option linter.unusedSimpArgs false

theorem drop_take_getD (l : List Int) (m n i : Nat) (hi : i < n) : ((l.drop m).take n).getD i 0 = l.getD (m + i) 0 := by
  rw [List.getD_eq_getElem?_getD, List.getD_eq_getElem?_getD, List.getElem?_take_of_lt hi, List.getElem?_drop]
theorem scal_shift (l : List Int) (m n : Nat) (h : m + n ≤ l.length) : ∀ (k i : Nat), i + k = n →
    scalN l (l.length - (m + i)) (m + i) = if scalN ((l.drop m).take n) k i < n then m + scalN ((l.drop m).take n) k i else scalN l (l.length - (m + n)) (m + n)
  | 0, i, hk => by
    have : i = n := by omega
    subst this
    rw [scalN, if_neg (Nat.lt_irrefl _)]
  | k + 1, i, hk => by
    have hz : ((l.drop m).take n).length = n := by rw [List.length_take, List.length_drop]; omega
    obtain ⟨q, hq⟩ : ∃ q, l.length - (m + i) = q + 1 := ⟨l.length - (m + i) - 1, by omega⟩
    rw [hq, scalN, if_pos (show m + i < l.length by omega), scalN, if_pos (show i < ((l.drop m).take n).length by rw [hz]; omega), drop_take_getD l m n i (by omega)]
    by_cases hc : isP (l.getD (m + i) 0) = true
    · rw [if_pos hc, if_pos hc]
      have := scal_shift l m n h k (i + 1) (by omega)
      rw [show q = l.length - (m + (i + 1)) by omega]
      exact this
    · rw [if_neg hc, if_neg hc, if_pos (show i < n by omega)]
theorem scal_le (ys : List Int) : ∀ k i, i ≤ ys.length → scalN ys k i ≤ ys.length
  | 0, i, h => h
  | k + 1, i, h => by
    rw [scalN]
    split
    · split
      · exact scal_le ys k (i + 1) (by omega)
      · exact h
    · exact h
theorem encN_le (ys : List Int) : encN ys ≤ ys.length := scal_le ys _ 0 (Nat.zero_le _)
/-- What a part brings. -/
structure PartW (l T : List Int) (m nn E : Nat) : Prop where
  le : m + E ≤ l.length
  en : E ≤ nn
  pre : l.take m ++ T.take E = l.take (m + E)
  bad : E < nn → encN l = m + E ∧ m + E < l.length
  good : E = nn → scalN l (l.length - (m + E)) (m + E) = encN l
theorem part_w (l : List Int) (m nn : Nat) (h : m + nn ≤ l.length) (hlow : scalN l (l.length - m) m = encN l) : PartW l ((l.drop m).take nn) m nn (encN ((l.drop m).take nn)) := by
  have hz : ((l.drop m).take nn).length = nn := by rw [List.length_take, List.length_drop]; omega
  have hE := encN_le ((l.drop m).take nn)
  rw [hz] at hE
  have hsh := scal_shift l m nn h nn 0 (by omega)
  have hf : encN ((l.drop m).take nn) = scalN ((l.drop m).take nn) nn 0 := by unfold encN; rw [hz]
  rw [Nat.add_zero, hlow, ← hf] at hsh
  refine ⟨by omega, hE, ?_, fun hb => ?_, fun hb => ?_⟩
  · rw [List.take_take, Nat.min_eq_left hE, ← List.take_add]
  · rw [if_pos hb] at hsh
    exact ⟨hsh, by omega⟩
  · rw [if_neg (by omega)] at hsh
    rw [hb]
    exact hsh.symm
/-- What a list is written as: the text, whether it ends well, what went wrong and where. -/
def WriteF (l : List Int) (t : ByteArray) (en : Bool) (E F : Int) : Prop :=
  (encN l < l.length ∧ t = ⟨#[]⟩ ∧ en = false ∧ E = 2 ∧ F = (encN l : Int)) ∨ (encN l = l.length ∧ t = textP l ∧ en = true ∧ E = 0 ∧ F = 0)
/-- What is known at the head of the loop. -/
structure WI (w wx : World) (g B : Nat) (l : List Int) (m : Nat) (A : Option Addr) (c : Nat) (lv : Value) : Prop where
  le : m ≤ l.length
  low : scalN l (l.length - m) m = encN l
  enc : EX wx g B 0 0 false (m : Int) (l.take m) ⟨#[]⟩ lv
  src : Src32 wx g B A (l.drop m)
  cap : (l.drop m).length ≤ c
  eff : Eff w wx (fun k => k = g ∨ B ≤ k)
/-- .. and behind it. -/
def WO (w wx : World) (g B : Nat) (l : List Int) : Prop :=
  (∃ lv, EX wx g B (if encN l < l.length then 2 else 0) (if encN l < l.length then (encN l : Int) else 0) false (encN l : Int) (l.take (encN l)) ⟨#[]⟩ lv) ∧ Eff w wx (fun k => k = g ∨ B ≤ k)
theorem ext_app (t : ByteArray) (p q : Nat) (hp : p ≤ t.size) (hq : q ≤ t.size - p) : t.extract 0 p ++ (t.extract p t.size).extract 0 q = t.extract 0 (p + q) := by
  rw [ByteArray.extract_extract]
  have e : min (p + q) t.size = p + q := by omega
  apply ByteArray.ext
  simp only [ByteArray.data_append, ByteArray.data_extract]
  rw [show p + 0 = p from rfl]
  apply Array.ext_getElem?
  intro i
  simp only [Array.getElem?_append, Array.size_extract, Array.getElem?_extract]
  have hz : t.data.size = t.size := rfl
  by_cases h1 : i < min p t.data.size - 0
  · rw [if_pos h1, if_pos (by omega), if_pos (by omega)]
  · rw [if_neg h1]
    by_cases h2 : i < p + q
    · rw [if_pos (by omega), if_pos (by omega)]
      congr 1
      omega
    · rw [if_neg (by omega), if_neg (by omega)]
theorem ext_rest (t : ByteArray) (p q : Nat) (hp : p ≤ t.size) : (t.extract p t.size).extract q (t.extract p t.size).size = t.extract (p + q) t.size := by
  rw [ByteArray.extract_extract, ByteArray.size_extract]
  congr 1
  omega
end Go.Proofs.Ytegacgfhmigdjaa
/- pilcrowlaw10.write, walked: what a list is written as. -/
namespace Go.Proofs.Ytegacgfhmigdjaa
open Go.RowKit Go.Proofs.YtegacgfhmigdjaaW.PrintWords Go.Proofs.YtegacgfhmigdjaaW.PrintLast Go.Proofs.YtegacgfhmigdjaaW.PrintMore Go.Proofs.Ytegacgfhmigdjaa.PPu
set_option linter.unusedVariables false
set_option linter.unusedSimpArgs false

theorem slice_hii (A : Option Addr) (n c mi : Nat) (hm : mi ≤ n) : ∀ W : World, (Instr.slice 26 (.slice A n c) (some (.int .i64 (mi : Int))) none none).run Try.prog W = .ok (.slice (if c = mi then A else A.map (·.add mi)) (n - mi) (c - mi)) W := by
  obtain ⟨i0, hi0, hzz⟩ := Option.map_eq_some_iff.1 info_u32
  simp only [Prod.mk.injEq] at hzz
  have h := cut_from (P := Try.prog) 26 51 .i64 Try.underlying26 hi0 1 hzz.2.1 A n c (mi : Int) (by omega) (by omega)
  simp only [Int.toNat_natCast, Nat.mul_one] at h
  exact h
theorem slice_loi (A : Option Addr) (n c mi : Nat) (hm : mi ≤ n) (hc : n ≤ c) : ∀ W : World, (Instr.slice 26 (.slice A n c) none (some (.int .i64 (mi : Int))) none).run Try.prog W = .ok (.slice A mi c) W := by
  obtain ⟨i0, hi0, hzz⟩ := Option.map_eq_some_iff.1 info_u32
  have h := cut_to (P := Try.prog) 26 51 .i64 Try.underlying26 hi0 A n c (mi : Int) (by omega) (by omega) hc
  simp only [Int.toNat_natCast] at h
  exact h
/-- A part, fed: what becomes of the state. -/
structure Fed2 (w wx : World) (g B : Nat) (l : List Int) (m E : Nat) (lv : Value) : Prop where
  enc : EX wx g B (if encN l = m + E ∧ m + E < l.length then 2 else 0) (if encN l = m + E ∧ m + E < l.length then ((m + E : Nat) : Int) else 0) false ((m + E : Nat) : Int) (l.take (m + E)) ⟨#[]⟩ lv
  eff : Eff w wx (fun k => k = g ∨ B ≤ k)
set_option maxRecDepth 100000 in
set_option maxHeartbeats 8000000 in
theorem write_c (g B : Nat) (A AP AR : Option Addr) (c cp cr : Nat) (l lp lr : List Int) (w : World) (hd : EX w g B 0 0 false 0 [] ⟨#[]⟩ (.slice none 0 0)) (hg : g < w.heap.size) (hB : B ≤ w.heap.size) (hl : l.length ≤ 10000) (hlp : lp.length ≤ 1000000) (hlr : lr.length ≤ 1000000) (h0 : ∀ y ∈ l, 0 ≤ y)
    (hs : Src32 w g B A l) (hc : l.length ≤ c) (hp : HandI w g B AP lp) (hr : HandI w g B AR lr) (t : ByteArray) (en : Bool) (E F : Int) (hres : WriteF l t en E F) :
    Calls Try.prog 20 #[.pointer (some ⟨g, 0, none⟩), .slice A l.length c, .slice AP lp.length cp, .slice AR lr.length cr] w fun e w' => e = .returned (.tuple #[.string t, .bool true]) ∧ (∃ lv, EX w' g B E F en (encN l : Int) (l.take (encN l)) ⟨#[]⟩ lv) ∧ Eff w w' (fun k => k = g ∨ B ≤ k) := by
  have HD := Lib.hid hd
  have HG0 := Lib.hid hg
  have HB := Lib.hid hB
  have HL := Lib.hid hl
  have HLP := Lib.hid hlp
  have HLR := Lib.hid hlr
  have HSR := Lib.hid hs
  have HCC := Lib.hid hc
  have HPP := Lib.hid hp
  have HRR := Lib.hid hr
  have HDN := Lib.hid hres
  have HZ0 := Lib.hid h0
  have hmost : (lp.length : Int) + lr.length + 10 * l.length + 8 ≤ 9223372036854775807 := by omega
  clear hd hg hB hp hr hs hres hlp hlr hl hc h0
  go_enter Try.func20, Try.ntmps20
  obtain ⟨MO, hMO⟩ : ∃ MO : Int, (lp.length : Int) + lr.length + 10 * l.length + 8 = MO := ⟨_, rfl⟩
  have HMO := Lib.hid hMO
  go_upto_region 2 with fail
  go_cut [11] (fun s11 wx => s11 = .int .i64 MO ∧ wx = w)
  case first =>
    go_wp2_with fail
    go_meet
    exact ⟨by rw [← HMO.out], rfl⟩
  obtain ⟨rfl, hwe⟩ := hcut
  obtain rfl := hwe.symm
  clear hMO hmost
  go_upto_block 0 with fail
  go_cut [10] (fun s10 wx => s10 = .string ⟨#[]⟩ ∧ Hid (WO w wx g B l))
  case first =>
    go_wp2_with fail
    go_loopg [1, 10, 12] (lp.length + 1) (fun kq s1 s10 s12 wx => ∃ (m k : Nat) (A : Option Addr) (c : Nat) (lv : Value), s1 = .slice A (l.drop m).length c ∧ s10 = .string ⟨#[]⟩ ∧ s12 = .int .i64 k ∧ Hid (k ≤ lp.length ∧ kq = lp.length + 1 - k) ∧ Hid (WI w wx g B l m A c lv))
    case atStart => exact ⟨0, 0, A, c, .slice none 0 0, by rw [List.drop_zero], rfl, rfl, Lib.hid ⟨Nat.zero_le _, rfl⟩, Lib.hid ⟨Nat.zero_le _, rfl, HD.out, by rw [List.drop_zero]; exact HSR.out, by rw [List.drop_zero]; exact HCC.out, Eff.refl _ _⟩⟩
    case round =>
      obtain ⟨m, k, A1, c1, lv, rfl, rfl, rfl, HK, HI⟩ := hrel
      have hk1 : (k : Int) < MO := by have := HK.out; have := HMO.out; omega
      have hk0 : (0 : Int) ≤ (k : Int) := by omega
      have hkb : k ≤ 1000000 := by have := HK.out; have := HLP.out; omega
      obtain ⟨RS, hRS⟩ : ∃ RS, l.drop m = RS := ⟨_, rfl⟩
      have HRS := Lib.hid hRS
      have hrs : RS.length = l.length - m := by rw [← hRS, List.length_drop]
      have HRZ := Lib.hid hrs
      have hrc : RS.length ≤ c1 := by rw [← hRS]; exact HI.out.cap
      have hr4 : RS.length ≤ 10000 := by have := HL.out; omega
      have HSRC : Hid (Src32 wr g B A1 RS) := Lib.hid (by rw [← hRS]; exact HI.out.src)
      rw [hRS]
      clear hRS hrs
      go_upto_if 40 with fail
      go_cut [13, 40] (fun s13 s40 wx => wx = wr ∧ ∃ nn : Nat, s13 = .int .i64 nn ∧ Hid (nn ≤ RS.length ∧ (lp.length ≤ k → nn = RS.length)))
      case first =>
        by_cases hc : k < lp.length
        · have hc1 : (k : Int) < (lp.length : Int) := by omega
          rcases (HPP.out.eff HI.out.eff) with h | ⟨pb, po, rfl, _, _, hcell⟩
          · rw [h] at hc; exact absurd hc (Nat.not_lt_zero _)
          · have hcc := hcell k hc
            obtain ⟨p, hp⟩ : ∃ p, lp.getD k 0 = p := ⟨_, rfl⟩
            rw [hp] at hcc
            have HC := Lib.hid hc
            clear hcell hp
            go_wp2_with fail
            all_goals go_meet
            all_goals exact ⟨rfl, giveN p RS.length, by rw [giveN_mm], Lib.hid ⟨giveN_le _ _, fun h => by have := HC.out; omega⟩⟩
        · have hc1 : ¬ (k : Int) < (lp.length : Int) := by omega
          clear hc
          go_wp2_with fail
          go_meet
          exact ⟨rfl, RS.length, rfl, Lib.hid ⟨Nat.le_refl _, fun _ => rfl⟩⟩
      case rest =>
        obtain ⟨rfl, nn, rfl, HNN⟩ := hcut
        go_upto_if 51 with fail
        go_cut [14, 51] (fun s14 s51 wx => wx = wc ∧ ∃ rm : Nat, s14 = .int .i64 rm ∧ Hid (rm ≤ 100))
        case first =>
          by_cases hc : k < lr.length
          · have hc1 : (k : Int) < (lr.length : Int) := by omega
            rcases (HRR.out.eff HI.out.eff) with h | ⟨pb, po, rfl, _, _, hcell⟩
            · rw [h] at hc; exact absurd hc (Nat.not_lt_zero _)
            · have hcc := hcell k hc
              obtain ⟨p, hp⟩ : ∃ p, lr.getD k 0 = p := ⟨_, rfl⟩
              rw [hp] at hcc
              clear hcell hp hc
              go_wp2_with fail
              all_goals go_meet
              all_goals exact ⟨rfl, giveN p 100, by rw [giveN_m100], Lib.hid (giveN_le _ _)⟩
          · have hc1 : ¬ (k : Int) < (lr.length : Int) := by omega
            clear hc
            go_wp2_with fail
            go_meet
            exact ⟨rfl, 8, rfl, Lib.hid (by decide)⟩
        case rest =>
          obtain ⟨rfl, rm, rfl, HRM⟩ := hcut
          have hnn1 : nn ≤ RS.length := HNN.out.1
          have hlo := slice_loi A1 RS.length c1 nn hnn1 hrc
          have HPF : Hid (PartW l (RS.take nn) m nn (encN (RS.take nn))) := Lib.hid (by
            have h := part_w l m nn (by have := HRZ.out; have := HI.out.le; omega) HI.out.low
            rw [HRS.out] at h
            exact h)
          have hTl : (RS.take nn).length = nn := by rw [List.length_take]; omega
          have HRD : Hid (ReadsInt (wc.alloc (.cells #[] 51 (0, 0))) .u32 A1 nn (RS.take nn)) := Lib.hid ((HSRC.out.eff (Eff.alloc wc _ _)).reads nn hnn1 (by omega))
          obtain ⟨T, hT⟩ : ∃ T, RS.take nn = T := ⟨_, rfl⟩
          rw [hT] at HPF HRD hTl
          have HTL := Lib.hid hTl
          have HGB : Hid (g < wc.heap.size ∧ B ≤ wc.heap.size ∧ m ≤ l.length ∧ nn ≤ 10000) := Lib.hid ⟨HI.out.enc.blk.lt, Nat.le_trans HB.out HI.out.eff.size, HI.out.le, by omega⟩
          clear hT hTl
          go_wp2_with (at_builtin; refine print_append_row (w0 := wc) wc.heap.size rfl (.tmp 60) (.tmp 63) 26 51 .u32 4 rfl Try.underlying26 info_u32 (by decide) (.slice (some ⟨wc.heap.size, 0, none⟩) 0 0) [] T A1 nn c1 rfl rfl (own_nil32 wc (Nat.le_refl _)) HRD.out (below_new (Below.refl _ _) _) (below_new (Below.refl _ _) _).size (by have := HGB.out; simp only [List.length_nil]; omega) ?_; intro v1 w1 ho1 hb1 hg1 hat1; have HO1 : Hid (w1.ownsRow wc.heap.size 51 1 v1 T.length (nums .u32 T)) := Lib.hid (by have h := ho1; rw [List.nil_append] at h; exact h); have HB1 := Lib.hid hb1; clear ho1 hb1 hg1 hat1)
          have HFD := Lib.hid (enc_any g B (m : Int) (l.take m) T lv v1 wc.heap.size rm w1 (HI.out.enc.below HB1.out) HO1.out (fun k hk e => by have := HGB.out; omega) (fun k hk => q_lt HI.out.enc.list k hk) (Nat.le_trans HGB.out.2.1 HB1.out.size) (by omega) (by rw [HTL.out]; have := HGB.out; have := HL.out; omega) (by rw [HTL.out, List.length_take]; have := HGB.out; have := HL.out; omega))
          refine HFD.out.mono ?_
          rintro e w2 ⟨rfl, hf⟩
          obtain ⟨⟨lv2, hx⟩, he⟩ := hf
          have HX := Lib.hid hx
          have HE2 := Lib.hid he
          have HE : Hid (Eff w w2 (fun k => k = g ∨ B ≤ k)) := Lib.hid ((HI.out.eff.trans (Eff.of_below HB1.out _) (fun _ _ h => h)).trans he (fun _ _ h => h))
          clear hx he HFD
          obtain ⟨EE, hEE⟩ : ∃ EE, encN T = EE := ⟨_, rfl⟩
          rw [hEE] at HPF HX
          rw [hEE]
          clear hEE hlo
          have hE0 : (0 : Int) ≤ (EE : Int) := by omega
          have hEn : EE ≤ nn := HPF.out.en
          have d1 : decide ((EE : Int) < 0) = false := decide_eq_false (by omega)
          have d2 : decide ((nn : Int) < (EE : Int)) = false := decide_eq_false (by omega)
          have d3 : decide ((rm : Int) < 0) = false := decide_eq_false (by omega)
          have d4 : decide (nn < EE) = false := decide_eq_false (by omega)
          have he0 : (⟨#[]⟩ : ByteArray) ++ ⟨#[]⟩ = ⟨#[]⟩ := empty_app _
          have hhi := slice_hii A1 RS.length c1 EE (by omega)
          obtain ⟨A2, hA2⟩ : ∃ A2, (if c1 = EE then A1 else A1.map (·.add EE)) = A2 := ⟨_, rfl⟩
          rw [hA2] at hhi
          have HA2 : Hid (Src32 w2 g B A2 (RS.drop EE)) := Lib.hid (by
            rw [← hA2]
            exact (HSRC.out.drop EE c1 (by omega) hrc).eff ((Eff.of_below HB1.out _).trans (by have h := HE2.out; exact h) (fun _ _ h => h)))
          have HA3 : Hid ((RS.drop EE).length = RS.length - EE ∧ RS.drop EE = l.drop (m + EE)) := Lib.hid ⟨List.length_drop, by rw [← HRS.out, List.drop_drop]⟩
          clear hA2
          have hfe := fun (a b : Value) (w : World) => field_err a b w
          have HX2 : Hid (EX w2 g B (if EE < nn then 2 else 0) (if EE < nn then (m : Int) + EE else 0) false ((m + EE : Nat) : Int) (l.take (m + EE)) ⟨#[]⟩ lv2) := Lib.hid (by
            have h := HX.out
            rw [HTL.out, HPF.out.pre] at h
            rw [Int.natCast_add]
            exact h)
          clear HX
          by_cases hbad : EE < nn
          · have hx := HX2.out
            rw [if_pos hbad, if_pos hbad] at hx
            have HX3 := Lib.hid hx
            have HBAD := Lib.hid hbad
            clear hx hbad
            go_wp2_with (go_at_call 16; refine (fail_c HX3.out.blk rfl rfl).mono ?_; rintro e w3 ⟨rfl, hb3⟩; have HB3 := Lib.hid hb3; clear hb3)
            go_meet
            obtain ⟨h1, h2⟩ := HPF.out.bad HBAD.out
            refine ⟨rfl, Lib.hid ⟨⟨lv2, ?_⟩, HE.out.trans (Eff.of_below HB3.out _) (fun _ _ h => h)⟩⟩
            rw [if_pos (by omega), if_pos (by omega), h1]
            have h := HX3.out.below HB3.out
            rw [← Int.natCast_add] at h
            exact h
          · have hx := HX2.out
            rw [if_neg hbad, if_neg hbad] at hx
            have HX3 := Lib.hid hx
            have HEN : Hid (EE = nn) := Lib.hid (by omega)
            clear hx hbad d1 d2 d3 d4
            by_cases hkp : (lp.length : Int) ≤ (k : Int)
            · have hz : RS.length - EE = 0 := by have := HNN.out.2 (by omega); have := HEN.out; omega
              have hz1 : (((RS.length - EE : Nat) : Int) == 0) = true := by rw [beq_iff_eq]; omega
              have hzz : (RS.length - EE == 0) = true := by rw [beq_iff_eq]; exact hz
              have HZ := Lib.hid hz
              clear hz
              go_wp2_with (go_at_call 16; refine (fail_c HX3.out.blk rfl rfl).mono ?_; rintro e w3 ⟨rfl, hb3⟩; have HB3 := Lib.hid hb3; clear hb3)
              go_meet
              refine ⟨rfl, Lib.hid ⟨⟨lv2, ?_⟩, HE.out.trans (Eff.of_below HB3.out _) (fun _ _ h => h)⟩⟩
              have hml : m + EE = l.length := by have := HZ.out; have := HRZ.out; have := HPF.out.le; omega
              have hg := HPF.out.good HEN.out
              rw [scal_end hml] at hg
              rw [if_neg (by omega), if_neg (by omega), ← hg, ← hml]
              exact HX3.out.below HB3.out
            · have hkp1 : ¬ lp.length ≤ k := by omega
              by_cases hz : RS.length - EE = 0
              · have hz1 : (((RS.length - EE : Nat) : Int) == 0) = true := by rw [beq_iff_eq]; omega
                have hzz : (RS.length - EE == 0) = true := by rw [beq_iff_eq]; exact hz
                clear hz
                go_wp2_with (go_at_call 16; refine (fail_c HX3.out.blk rfl rfl).mono ?_; rintro e w3 ⟨rfl, hb3⟩; have HB3 := Lib.hid hb3; clear hb3)
                go_roundg (gk - 1)
                case measure => have := HK.out; omega
                case rel => exact ⟨m + EE, k + 1, A2, c1 - EE, lv2, by rw [← HA3.out.2, HA3.out.1], rfl, by go_num, Lib.hid ⟨by have := HK.out; omega, by have := HK.out; omega⟩, Lib.hid ⟨HPF.out.le, HPF.out.good HEN.out, HX3.out.below HB3.out, by rw [← HA3.out.2]; exact HA2.out.eff (Eff.of_below HB3.out _), by rw [← HA3.out.2, HA3.out.1]; omega, HE.out.trans (Eff.of_below HB3.out _) (fun _ _ h => h)⟩⟩
              · have hz1 : (((RS.length - EE : Nat) : Int) == 0) = false := by rw [beq_eq_false_iff_ne]; omega
                have hzz : (RS.length - EE == 0) = false := by rw [beq_eq_false_iff_ne]; exact hz
                clear hz
                go_wp2_with (go_at_call 16; refine (fail_c HX3.out.blk rfl rfl).mono ?_; rintro e w3 ⟨rfl, hb3⟩; have HB3 := Lib.hid hb3; clear hb3)
                go_roundg (gk - 1)
                case measure => have := HK.out; omega
                case rel => exact ⟨m + EE, k + 1, A2, c1 - EE, lv2, by rw [← HA3.out.2, HA3.out.1], rfl, by go_num, Lib.hid ⟨by have := HK.out; omega, by have := HK.out; omega⟩, Lib.hid ⟨HPF.out.le, HPF.out.good HEN.out, HX3.out.below HB3.out, by rw [← HA3.out.2]; exact HA2.out.eff (Eff.of_below HB3.out _), by rw [← HA3.out.2, HA3.out.1]; omega, HE.out.trans (Eff.of_below HB3.out _) (fun _ _ h => h)⟩⟩
  case rest =>
    obtain ⟨rfl, HWO⟩ := hcut
    obtain ⟨⟨lv, hx⟩, he⟩ := HWO.out
    have HX := Lib.hid hx
    have HE := Lib.hid he
    clear hx he HWO
    go_upto_region 19 with fail
    go_cut [10] (fun s10 wx => s10 = .string ⟨#[]⟩ ∧ ∃ lv, Hid (EX wx g B E F en (encN l : Int) (l.take (encN l)) t lv) ∧ Hid (Eff w wx (fun k => k = g ∨ B ≤ k)) ∧ Hid ((E == 0 && !en) = false ∧ t.size ≤ 300000))
    case first =>
      rcases HDN.out with ⟨h1, rfl, rfl, rfl, rfl⟩ | ⟨h1, rfl, rfl, rfl, rfl⟩
      · have hx := HX.out
        rw [if_pos h1, if_pos h1] at hx
        have HX2 := Lib.hid hx
        clear hx h1 HX
        go_wp2_with fail
        refine (encEnd_err g B 2 _ _ _ ⟨#[]⟩ lv _ HX2.out (by decide)).mono ?_
        rintro e w1 ⟨rfl, rfl⟩
        go_wp2_with fail
        go_meet
        exact ⟨rfl, lv, HX2, HE, Lib.hid ⟨rfl, by decide⟩⟩
      · have hx := HX.out
        rw [if_neg (by omega), if_neg (by omega)] at hx
        have htk : l.take (encN l) = l := by rw [h1, List.take_length]
        rw [htk] at hx
        have HX2 := Lib.hid hx
        have HTK := Lib.hid htk
        have HRG := Lib.hid (enc_range h1 HZ0.out)
        obtain ⟨A5, c5, rfl, hc5⟩ := q_slice HX2.out.list
        have HTX : Hid (∀ W, Below wc.heap.size wc W → Calls Try.prog 48 #[.slice A5 l.length c5] W fun e w' => e = .returned (.string (textP l)) ∧ Below W.heap.size W w') := Lib.hid fun W hb => text_p A5 c5 l W ((HX2.out.below hb).list |> q_reads) HL.out HRG.out
        have HSZ := Lib.hid (textP_size l HL.out HRG.out)
        clear hx h1 HX htk hc5
        go_wp2_with fail
        refine (encEnd_c g B (encN l : Int) l _ (textP l) _ HX2.out (Nat.le_trans HSZ.out (by decide)) HTX.out).mono ?_
        rintro e w1 ⟨rfl, w2, hb2, hw1⟩
        have HX3 : Hid (EX w1 g B 0 0 true (encN l : Int) l (textP l) (.slice A5 l.length c5)) := Lib.hid (by rw [hw1]; exact ((HX2.out.below hb2.out).pend _).fin)
        have HE3 : Hid (Eff w w1 (fun k => k = g ∨ B ≤ k)) := Lib.hid (by rw [hw1]; exact ((HE.out.trans (Eff.of_below hb2.out _) (fun _ _ h => h)).trans (Eff.set _ g 4 _) (fun _ _ h => .inl h)).trans (Eff.set _ g 3 _) (fun _ _ h => .inl h))
        clear hw1 hb2
        go_wp2_with fail
        go_meet
        exact ⟨rfl, _, Lib.hid (by rw [HTK.out]; exact HX3.out), HE3, Lib.hid ⟨rfl, HSZ.out⟩⟩
    case rest =>
      obtain ⟨rfl, lv0, HX0, HE0, HOF⟩ := hcut
      clear HX HE HDN
      go_wp2_with fail
      go_loopg [10, 17] t.size (fun kq s10 s17 wx => ∃ (p j : Nat), s10 = .string (t.extract 0 p) ∧ s17 = .int .i64 j ∧ Hid (p ≤ t.size ∧ kq = t.size - p ∧ p = min (8 * j) t.size) ∧ Hid (EX wx g B E F en (encN l : Int) (l.take (encN l)) (t.extract p t.size) lv0) ∧ Hid (Eff w wx (fun k => k = g ∨ B ≤ k)))
      case atStart => exact ⟨0, 0, by rw [extract_none], rfl, Lib.hid ⟨Nat.zero_le _, rfl, (Nat.zero_min _).symm⟩, Lib.hid (by rw [ByteArray.extract_zero_size]; exact HX0.out), HE0⟩
      case round =>
        obtain ⟨p, j, rfl, rfl, HK, HX, HE⟩ := hrel
        have hdone := outDone_c g B E F (encN l : Int) en _ _ lv0 wr HX.out HOF.out.1
        have hps : (t.extract p t.size).size = t.size - p := by rw [ByteArray.size_extract]; omega
        rw [hps] at hdone
        by_cases hz : t.size - p = 0
        · have hzb : (t.size - p == 0) = true := by rw [beq_iff_eq]; exact hz
          rw [hzb] at hdone
          have HP : Hid (p = t.size) := Lib.hid (by have := HK.out; omega)
          clear hz hzb hps
          go_wp2_with (go_at_call 33; refine hdone.mono ?_; rintro e w1 ⟨rfl, rfl⟩)
          refine bodyPost_ret (v := .tuple #[.string (t.extract 0 p), .bool true]) (by simp [results, Try.results20, go_sem]) rfl ?_
          have hx := HX.out
          rw [HP.out] at hx ⊢
          rw [ByteArray.extract_zero_size]
          refine ⟨rfl, ⟨lv0, ?_⟩, HE.out⟩
          rw [extract_self] at hx
          exact hx
        · have hzb : (t.size - p == 0) = false := by rw [beq_eq_false_iff_ne]; exact hz
          rw [hzb] at hdone
          have HZ := Lib.hid hz
          have HPS := Lib.hid hps
          clear hz hzb hps
          go_wp2_with (go_at_call 33; refine hdone.mono ?_; rintro e w1 ⟨rfl, rfl⟩)
          refine (enc_nil g B E F en (encN l : Int) _ _ lv0 none 0 8 _ HX.out).mono ?_
          rintro e w2 ⟨rfl, hx2, he2⟩
          have HX2 := Lib.hid hx2
          have HE2 : Hid (Eff w w2 (fun k => k = g ∨ B ≤ k)) := Lib.hid (HE.out.trans he2 (fun _ _ h => .inl h))
          obtain ⟨q, hq⟩ : ∃ q, giveN 8 (t.extract p t.size).size = q := ⟨_, rfl⟩
          have hq1 : 1 ≤ q ∧ q ≤ 8 ∧ q ≤ t.size - p := by rw [← hq, HPS.out]; unfold giveN; have := HZ.out; omega
          have HPQ : Hid (p + q = min (8 * (j + 1)) t.size) := Lib.hid (by rw [← hq, HPS.out]; unfold giveN; have := HK.out; omega)
          rw [hq] at HX2
          rw [hq]
          have HXA := Lib.hid (ext_app t p q (by have := HK.out; omega) hq1.2.2)
          obtain ⟨X, hX⟩ : ∃ X, (t.extract p t.size).extract 0 q = X := ⟨_, rfl⟩
          rw [hX] at HXA
          have hXz : X.size = q := by rw [← hX, ByteArray.size_extract, HPS.out]; omega
          rw [hX]
          have HQ := Lib.hid hq1
          have hXb : ¬ X.toList = [] := fun e => by have h := bytes_len X; rw [e] at h; simp at h; omega
          have hXc : decide (X.toList = []) = false := decide_eq_false hXb
          have hXd : X ≠ ⟨#[]⟩ := fun e => by rw [e] at hXz; have h0 : (⟨#[]⟩ : ByteArray).size = 0 := rfl; omega
          have hXe : X.toList.isEmpty = false := by rw [List.isEmpty_eq_false_iff]; exact hXb
          have hz8 : X.size ≤ 8 := by omega
          have hz8b : decide (8 < X.size) = false := decide_eq_false (by omega)
          have hz8c : decide (8 < (X.size : Int)) = false := decide_eq_false (by omega)
          have hj3 : j ≤ 100000 := by have := HK.out; have := HOF.out.2; have := HZ.out; omega
          have hj1 : decide (100000 < (j : Int)) = false := decide_eq_false (by omega)
          have hj2 : decide (100000 < j) = false := decide_eq_false (by omega)
          have hsz : (t.extract 0 p).size + X.size ≤ 140737488351232 := by rw [ByteArray.size_extract]; have := HOF.out.2; omega
          clear hx2 he2 hq hX hdone hq1 hXz
          go_wp2_with fail
          go_roundg (t.size - (p + q))
          case measure => have := HK.out; have := HQ.out; omega
          case rel => exact ⟨p + q, j + 1, by rw [HXA.out], by go_num, Lib.hid ⟨by have := HK.out; have := HQ.out; omega, rfl, HPQ.out⟩, Lib.hid (by rw [ext_rest t p q (by have := HK.out; omega)] at HX2; exact HX2.out), HE2⟩
end Go.Proofs.Ytegacgfhmigdjaa
