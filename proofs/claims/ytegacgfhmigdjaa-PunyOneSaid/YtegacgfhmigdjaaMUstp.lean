/- Joined texts: Ustp, Urow. -/
import Derived.Test.YtegacgfhmigdjaaMBase
import Derived.Test.YtegacgfhmigdjaaWWords
/- The functions of package step, over the cells of whatever block they point into. -/
namespace Go.Proofs.Ytegacgfhmigdjaa
open Go.RowKit Go.Proofs.YtegacgfhmigdjaaW.PrintWords
set_option linter.unusedVariables false
set_option linter.unusedSimpArgs false

/-- Block g holds the cells cs of a value of type T. -/
def Blk (w : World) (g : Nat) (T : TypeId) (cs : Array Value) : Prop := w.heap[g]? = some (.cells cs T (0, 0))
theorem Blk.lt {w : World} {g : Nat} {T : TypeId} {cs : Array Value} (h : Blk w g T cs) : g < w.heap.size := (Array.getElem?_eq_some_iff.1 h).1
theorem Blk.cell {w : World} {g : Nat} {T : TypeId} {cs : Array Value} (h : Blk w g T cs) {i : Nat} {v : Value} (hi : cs[i]? = some v) : w.cell? ⟨g, i, none⟩ = some v := by
  have h' : w.heap[g]? = _ := h
  simp [World.cell?, h', hi]
theorem Blk.frozen {w : World} {g : Nat} {T : TypeId} {cs : Array Value} (h : Blk w g T cs) (i : Nat) : w.frozen? ⟨g, i, none⟩ = false := by
  have h' : w.heap[g]? = _ := h
  simp [World.frozen?, h']
theorem Blk.set {w : World} {g : Nat} {T : TypeId} {cs : Array Value} (h : Blk w g T cs) (i : Nat) (v : Value) : Blk (w.setCell ⟨g, i, none⟩ v) g T (cs.setIfInBounds i v) := by
  unfold Blk World.setCell
  simp only [Array.getElem?_modify]
  have h' : w.heap[g]? = _ := h
  rw [h']
  simp
theorem Blk.below {w w1 : World} {g : Nat} {T : TypeId} {cs : Array Value} (h : Blk w g T cs) (hb : Below w.heap.size w w1) : Blk w1 g T cs := (hb.block g h.lt).trans h
theorem Blk.drewN {w : World} {g : Nat} {T : TypeId} {cs : Array Value} (h : Blk w g T cs) (n : Nat) : Blk (w.drewN n) g T cs := h
theorem Blk.new (w : World) (T : TypeId) (cs : Array Value) : Blk (w.alloc (.cells cs T (0, 0))) w.heap.size T cs := heap_alloc_new _ _
theorem Blk.alloc {w : World} {g : Nat} {T : TypeId} {cs : Array Value} (h : Blk w g T cs) (o : Obj) : Blk (w.alloc o) g T cs := (Below.heap_alloc w o g h.lt).trans h
theorem Blk.far {w : World} {g : Nat} {T : TypeId} {cs : Array Value} (h : Blk w g T cs) {p : Addr} (hp : g ≠ p.block) (v : Value) : Blk (w.setCell p v) g T cs := (Below.heap_setCell w p v g hp).trans h

theorem going_c {g : Nat} {T : TypeId} {cs : Array Value} {err : Int} {en : Bool} {w : World} (hb : Blk w g T cs) (e1 : cs[1]? = some (.int .i64 err)) (e3 : cs[3]? = some (.bool en)) :
    Calls Try.prog 38 #[.pointer (some ⟨g, 0, none⟩)] w fun e w' => e = .returned (.bool (err == 0 && !en)) ∧ w = w' := by
  have h1 := hb.cell e1
  have h3 := hb.cell e3
  clear hb e1 e3
  cases h : (err == 0)
  · go_enter Try.func38, Try.ntmps38
    go_wp2
    go_ret
    exact ⟨rfl, rfl⟩
  · go_enter Try.func38, Try.ntmps38
    go_wp2
    go_ret
    exact ⟨rfl, rfl⟩
theorem going_yes {g : Nat} {T : TypeId} {cs : Array Value} {w : World} (hb : Blk w g T cs) (e1 : cs[1]? = some (.int .i64 0)) (e3 : cs[3]? = some (.bool false)) :
    Calls Try.prog 38 #[.pointer (some ⟨g, 0, none⟩)] w fun e w' => e = .returned (.bool true) ∧ w = w' := going_c hb e1 e3
theorem going_end {g : Nat} {T : TypeId} {cs : Array Value} {err : Int} {w : World} (hb : Blk w g T cs) (e1 : cs[1]? = some (.int .i64 err)) (e3 : cs[3]? = some (.bool true)) :
    Calls Try.prog 38 #[.pointer (some ⟨g, 0, none⟩)] w fun e w' => e = .returned (.bool false) ∧ w = w' :=
  (going_c hb e1 e3).mono fun _ _ h => ⟨by rw [h.1]; simp, h.2⟩
theorem going_err {g : Nat} {T : TypeId} {cs : Array Value} {err : Int} {en : Bool} {w : World} (he : err ≠ 0) (hb : Blk w g T cs) (e1 : cs[1]? = some (.int .i64 err)) (e3 : cs[3]? = some (.bool en)) :
    Calls Try.prog 38 #[.pointer (some ⟨g, 0, none⟩)] w fun e w' => e = .returned (.bool false) ∧ w = w' :=
  (going_c hb e1 e3).mono fun _ _ h => ⟨by rw [h.1]; simp [he], h.2⟩
theorem fail_c {g : Nat} {T : TypeId} {cs : Array Value} {err fat : Int} {w : World} (hb : Blk w g T cs) (e1 : cs[1]? = some (.int .i64 err)) (e2 : cs[2]? = some (.int .i64 fat)) :
    Calls Try.prog 16 #[.pointer (some ⟨g, 0, none⟩)] w fun e w' => e = .returned (.agg #[.int .i64 err, .int .i64 fat]) ∧ Below w.heap.size w w' := by
  have h1 := hb.cell e1
  have h2 := hb.cell e2
  have hlt := hb.lt
  have hf := hb.frozen
  clear hb e1 e2
  go_enter Try.func16, Try.ntmps16
  go_wp2
  refine bodyPost_ret (v := .agg #[.int .i64 err, .int .i64 fat]) (by simp [results, Try.results16, go_sem]) rfl ⟨rfl, ?_⟩
  exact below_new (Below.refl _ _) _
theorem at_c {g : Nat} {T : TypeId} {cs : Array Value} {n : Int} {w : World} (hb : Blk w g T cs) (e0 : cs[0]? = some (.int .i64 n)) :
    Calls Try.prog 19 #[.pointer (some ⟨g, 0, none⟩)] w fun e w' => e = .returned (.int .i64 n) ∧ w = w' := by
  have h0 := hb.cell e0
  clear hb e0
  go_enter Try.func19, Try.ntmps19
  go_wp2
  go_ret
  exact ⟨rfl, rfl⟩
/-- Eat(1), going. -/
theorem eat_c {g : Nat} {T : TypeId} {cs : Array Value} {n : Int} {w : World} (hb : Blk w g T cs) (e0 : cs[0]? = some (.int .i64 n)) (e1 : cs[1]? = some (.int .i64 0)) (e3 : cs[3]? = some (.bool false)) (h0 : 0 ≤ n) (hn : n ≤ 4611686018427387904) :
    Calls Try.prog 40 #[.pointer (some ⟨g, 0, none⟩), .int .i64 1] w fun e w' => e = .returned (.tuple #[]) ∧ w' = w.setCell ⟨g, 0, none⟩ (.int .i64 (n + 1)) := by
  have hg := going_yes hb e1 e3
  have c0 := hb.cell e0
  have hf := hb.frozen
  clear e0 e1 e3 hb
  go_enter Try.func40, Try.ntmps40
  go_wp2_with (go_at_call 38; refine hg.mono ?_; rintro e w' ⟨rfl, rfl⟩)
  exact bodyPost_end (v := .tuple #[]) (by simp [results, Try.results40, go_sem]) rfl ⟨rfl, rfl⟩
theorem stop_c {g : Nat} {T : TypeId} {cs : Array Value} {n err z : Int} {w : World} (he : err ≠ 0) (hb : Blk w g T cs) (e0 : cs[0]? = some (.int .i64 n)) (e1 : cs[1]? = some (.int .i64 0)) (e2 : cs[2]? = some (.int .i64 z)) (e3 : cs[3]? = some (.bool false)) :
    Calls Try.prog 39 #[.pointer (some ⟨g, 0, none⟩), .int .i64 err] w fun e w' => e = .returned (.tuple #[]) ∧ w' = (w.setCell ⟨g, 1, none⟩ (.int .i64 err)).setCell ⟨g, 2, none⟩ (.int .i64 n) := by
  have hg := going_yes hb e1 e3
  have c0 := hb.cell e0
  have c1 := hb.cell e1
  have c2 := hb.cell e2
  have hf := hb.frozen
  have h1 : (err == 0) = false := by simpa using he
  have h2 : (err != 0) = true := by simpa using he
  clear e0 e1 e2 e3 hb
  go_enter Try.func39, Try.ntmps39
  go_wp2_with (go_at_call 38; refine hg.mono ?_; rintro e w' ⟨rfl, rfl⟩)
  exact bodyPost_end (v := .tuple #[]) (by simp [results, Try.results39, go_sem]) rfl ⟨rfl, rfl⟩
theorem end_c {g : Nat} {T : TypeId} {cs : Array Value} {w : World} (hb : Blk w g T cs) (e1 : cs[1]? = some (.int .i64 0)) (e3 : cs[3]? = some (.bool false)) :
    Calls Try.prog 44 #[.pointer (some ⟨g, 0, none⟩)] w fun e w' => e = .returned (.tuple #[]) ∧ w' = w.setCell ⟨g, 3, none⟩ (.bool true) := by
  have hg := going_yes hb e1 e3
  have c3 := hb.cell e3
  have hf := hb.frozen
  clear e1 e3 hb
  go_enter Try.func44, Try.ntmps44
  go_wp2_with (go_at_call 38; refine hg.mono ?_; rintro e w' ⟨rfl, rfl⟩)
  exact bodyPost_end (v := .tuple #[]) (by simp [results, Try.results44, go_sem]) rfl ⟨rfl, rfl⟩
/-- End of what doesn't go on: nothing. -/
theorem end_not {g : Nat} {T : TypeId} {cs : Array Value} {err : Int} {en : Bool} {w : World} (hb : Blk w g T cs) (e1 : cs[1]? = some (.int .i64 err)) (e3 : cs[3]? = some (.bool en)) (hn : (err == 0 && !en) = false) :
    Calls Try.prog 44 #[.pointer (some ⟨g, 0, none⟩)] w fun e w' => e = .returned (.tuple #[]) ∧ w = w' := by
  have hg := going_c hb e1 e3
  rw [hn] at hg
  clear e1 e3 hb hn
  go_enter Try.func44, Try.ntmps44
  go_wp2_with (go_at_call 38; refine hg.mono ?_; rintro e w' ⟨rfl, rfl⟩)
  exact bodyPost_end (v := .tuple #[]) (by simp [results, Try.results44, go_sem]) rfl ⟨rfl, rfl⟩
theorem kept_c {g o : Nat} {T : TypeId} {cs : Array Value} {s : ByteArray} {w : World} (hb : Blk w g T cs) (e : cs[o]? = some (.string s)) :
    Calls Try.prog 24 #[.pointer (some ⟨g, o, none⟩)] w fun e w' => e = .returned (.int .i64 s.size) ∧ w = w' := by
  have c0 := hb.cell e
  clear hb e
  go_enter Try.func24, Try.ntmps24
  go_wp2
  go_ret
  exact ⟨rfl, rfl⟩
theorem keep_c {g o : Nat} {T : TypeId} {cs : Array Value} {s t : ByteArray} {w : World} (hb : Blk w g T cs) (e : cs[o]? = some (.string s)) (hs : s.size + t.size ≤ 140737488351232) :
    Calls Try.prog 47 #[.pointer (some ⟨g, o, none⟩), .string t] w fun e w' => e = .returned (.tuple #[]) ∧ w' = w.setCell ⟨g, o, none⟩ (.string (s ++ t)) := by
  have c0 := hb.cell e
  have hf := hb.frozen o
  clear hb e
  go_enter Try.func47, Try.ntmps47
  go_wp2
  exact bodyPost_end (v := .tuple #[]) (by simp [results, Try.results47, go_sem]) rfl ⟨rfl, rfl⟩
/-- So much of what waits is given. -/
def giveN (room : Int) (n : Nat) : Nat := min room.toNat n
theorem giveN_le (room : Int) (n : Nat) : giveN room n ≤ n := Nat.min_le_right _ _
theorem giveN_if (room : Int) (n : Nat) : (if (n : Int) < if room < 0 then 0 else room then (n : Int) else if room < 0 then 0 else room) = (giveN room n : Int) := by
  unfold giveN
  split <;> split at * <;> omega
theorem give_c {g o : Nat} {T : TypeId} {cs : Array Value} {s : ByteArray} {room : Int} {w : World} (hb : Blk w g T cs) (e : cs[o]? = some (.string s)) :
    Calls Try.prog 46 #[.pointer (some ⟨g, o, none⟩), .int .i64 room] w fun e w' => e = .returned (.string (s.extract 0 (giveN room s.size))) ∧ w' = w.setCell ⟨g, o, none⟩ (.string (s.extract (giveN room s.size) s.size)) := by
  have c0 := hb.cell e
  have hf := hb.frozen o
  have hle := giveN_le room s.size
  have hif := giveN_if room s.size
  generalize giveN room s.size = m at *
  clear hb e
  go_enter Try.func46, Try.ntmps46
  go_wp2
  all_goals go_ret
  all_goals exact ⟨rfl, rfl⟩
theorem held_c {g o : Nat} {T : TypeId} {cs : Array Value} {A : Option Addr} {n c : Nat} {w : World} (hb : Blk w g T cs) (e : cs[o]? = some (.slice A n c)) :
    Calls Try.prog 49 #[.pointer (some ⟨g, o, none⟩)] w fun e w' => e = .returned (.int .i64 n) ∧ w = w' := by
  have c0 := hb.cell e
  clear hb e
  go_enter Try.func49, Try.ntmps49
  go_wp2
  go_ret
  exact ⟨rfl, rfl⟩
end Go.Proofs.Ytegacgfhmigdjaa
/- step.Row: Hold and Tell; what a step on a machine leaves as it was. -/
namespace Go.Proofs.Ytegacgfhmigdjaa
open Go.RowKit Go.Proofs.YtegacgfhmigdjaaW.PrintWords
set_option linter.unusedVariables false
set_option linter.unusedSimpArgs false

/-- Nothing but the blocks S (and new ones) has changed. -/
structure Eff (w w' : World) (S : Nat → Prop) : Prop where
  os : w'.os = w.os
  tape : w'.tape = w.tape
  output : w'.output = w.output
  size : w.heap.size ≤ w'.heap.size
  block : ∀ k, k < w.heap.size → ¬ S k → w'.heap[k]? = w.heap[k]?
theorem Eff.refl (w : World) (S : Nat → Prop) : Eff w w S := ⟨rfl, rfl, rfl, Nat.le_refl _, fun _ _ _ => rfl⟩
theorem Eff.mono {w w' : World} {S S' : Nat → Prop} (h : Eff w w' S) (hs : ∀ k, k < w.heap.size → S k → S' k) : Eff w w' S' := ⟨h.os, h.tape, h.output, h.size, fun k hk hn => h.block k hk fun e => hn (hs k hk e)⟩
theorem Eff.trans {w w1 w2 : World} {S S1 : Nat → Prop} (h : Eff w w1 S) (k : Eff w1 w2 S1) (hs : ∀ i, i < w.heap.size → S1 i → S i) : Eff w w2 S :=
  ⟨k.os.trans h.os, k.tape.trans h.tape, k.output.trans h.output, Nat.le_trans h.size k.size, fun i hi hn => (k.block i (Nat.lt_of_lt_of_le hi h.size) fun e => hn (hs i hi e)).trans (h.block i hi hn)⟩
theorem Eff.of_below {w w' : World} (h : Below w.heap.size w w') (S : Nat → Prop) : Eff w w' S := ⟨h.os, h.tape, h.output, h.size, fun i hi _ => h.block i hi⟩
theorem Eff.of_grown {w w' : World} {row : Option Nat} (h : w.grownBy w' row) : Eff w w' (fun k => some k = row) := ⟨h.os, h.tape, h.output, h.size, fun i hi hn => h.block i hi hn⟩
theorem Eff.set (w : World) (g i : Nat) (v : Value) : Eff w (w.setCell ⟨g, i, none⟩ v) (fun k => k = g) :=
  ⟨rfl, rfl, rfl, by simp [World.setCell], fun k _ hk => Below.heap_setCell w ⟨g, i, none⟩ v k hk⟩
theorem Eff.alloc (w : World) (o : Obj) (S : Nat → Prop) : Eff w (w.alloc o) S := Eff.of_below (below_new (Below.refl _ _) o) S
theorem Eff.drewN (w : World) (n : Nat) (S : Nat → Prop) : Eff w (w.drewN n) S := ⟨rfl, rfl, rfl, Nat.le_refl _, fun _ _ _ => rfl⟩
theorem Eff.below {w w' : World} {S : Nat → Prop} (h : Eff w w' S) (hs : ∀ k, k < w.heap.size → ¬ S k) : Below w.heap.size w w' := ⟨h.os, h.tape, h.output, h.size, fun k hk => h.block k hk (hs k hk)⟩
theorem Eff.under {B : Nat} {w0 w w' : World} {S : Nat → Prop} (hb : Below B w0 w) (h : Eff w w' S) (hB : B ≤ w.heap.size) (hs : ∀ k, S k → B ≤ k) : Below B w0 w' :=
  ⟨h.os.trans hb.os, h.tape.trans hb.tape, h.output.trans hb.output, Nat.le_trans hb.size h.size, fun k hk => (h.block k (Nat.lt_of_lt_of_le hk hB) fun e => by have := hs k e; omega).trans (hb.block k hk)⟩
theorem Blk.eff {w w1 : World} {g : Nat} {T : TypeId} {cs : Array Value} {S : Nat → Prop} (h : Blk w g T cs) (he : Eff w w1 S) (hg : ¬ S g) : Blk w1 g T cs := (he.block g h.lt hg).trans h
theorem own_types {w : World} {base n size : Nat} {e T g : Nat} {v : Value} {xs : List Value} {cs : Array Value} (h : QRow w base e size v n xs) (hb : Blk w g T cs) (hne : e ≠ T) : some g ≠ v.ownBlock := by
  intro he
  obtain ⟨_, cells, hc⟩ := q_typed h g he.symm
  have hb' : w.heap[g]? = _ := hb
  rw [hb'] at hc
  injection hc with hc
  injection hc with _ hc
  exact hne hc.symm
theorem q_reads {w : World} {base e n c : Nat} {k : IntKind} {A : Option Addr} {xs : List Int} (h : QRow w base e 1 (.slice A n c) n (nums k xs)) : ReadsInt w k A n xs := by
  have hl : xs.length = n := by have := h.1; simpa [nums] using this
  refine ⟨hl, q_max h, fun hp => ?_⟩
  obtain ⟨ad, ha, hc⟩ := q_cells h hp
  refine ⟨ad, ha, fun j hj => hc j _ ?_⟩
  simp [nums, List.getElem?_eq_getElem (by omega : j < xs.length), List.getD_eq_getElem?_getD]
/-- append(v, ys...) of numbers, v a row that may begin inside its block. -/
theorem q_run_row {P : Program} {W : World} (base : Nat) (t ty e : TypeId) (k : IntKind) (bytes : Nat) (ht : P.underlying t = some (.slice e)) (hinfo : (P.info? e).map (fun i => (i.zero, i.size, i.bytes)) = some (some (.int k 0), 1, bytes)) (hb0 : 0 < bytes)
    (v : Value) (xs ys : List Int) (A : Option Addr) (m c : Nat) (HO : QRow W base e 1 v xs.length (nums k xs)) (HR : ReadsInt W k A m ys) (hbase : base ≤ W.heap.size) (hl : (xs.length + m) * bytes ≤ 140737488355328) :
    ∃ v1 w1, (Builtin.append_ #[t, t] ty #[v, .slice A m c]).run P W = .ok v1 w1 ∧ QRow w1 base e 1 v1 (xs ++ ys).length (nums k (xs ++ ys)) ∧ W.grownBy w1 v.ownBlock ∧ (v1.ownBlock = v.ownBlock ∨ ∃ b, v1.ownBlock = some b ∧ W.heap.size ≤ b) := by
  obtain ⟨i0, hi, hzz⟩ := Option.map_eq_some_iff.1 hinfo
  simp only [Prod.mk.injEq] at hzz
  obtain ⟨hz0, hz1, hz2⟩ := hzz
  have hm : ys.length = m := HR.1
  have hlen : xs.length + m ≤ 140737488355328 := Nat.le_trans (Nat.le_mul_of_pos_right _ hb0) hl
  rcases Nat.eq_zero_or_pos m with h0 | h0
  · subst h0
    obtain rfl : ys = [] := List.eq_nil_of_length_eq_zero hm
    refine ⟨v, W, ?_, by simpa using HO, World.grownBy.refl W _, .inl rfl⟩
    rcases HO.2 with ⟨hx, B, rfl, _⟩ | ⟨g, off, cap, cur, rfl, _, _, hnc, _⟩
    · cases A <;> cases B <;> simp [Builtin.append_, run_underlying ht, sizeOf, typeInfo, hi, Builtin.lenOf, Builtin.firstCells, storeCells, loadCells, loadCellsFrom, hx]
    · cases A <;> simp [Builtin.append_, run_underlying ht, sizeOf, typeInfo, hi, Builtin.lenOf, Builtin.firstCells, hnc, storeCells, loadCells, loadCellsFrom]
  · obtain ⟨ad, rfl, hc⟩ := HR.2.2 h0
    have hcells : ∀ j u, (nums k ys)[j]? = some u → W.cell? (ad.add j) = some u := by
      intro j u hu
      have hj : j < ys.length := by
        rcases Nat.lt_or_ge j ys.length with h | h
        · exact h
        · simp [nums, List.getElem?_eq_none h] at hu
      have := hc j (by omega)
      simp [nums, List.getElem?_eq_getElem hj] at hu
      subst hu
      rw [this]
      simp [List.getD_eq_getElem?_getD, List.getElem?_eq_getElem hj]
    obtain ⟨v1, w1, hr, h2, h3, h5⟩ := q_append (P := P) W base t ty e i0 (.int k 0) 1 bytes ht hi hz0 hz1 hz2 rfl (by omega) v xs.length (nums k xs) HO ad m c (nums k ys) (by simp [nums, hm]) hcells
      (by intro u hu; simp only [nums, List.mem_map] at hu; obtain ⟨q, _, rfl⟩ := hu; rfl) h0 (by simp only [maxLen]; omega) hl hbase
    exact ⟨v1, w1, hr, by simpa [nums, hm] using h2, h3, h5⟩
section
variable {P : Program} {ops : Array Oper} {rest : List Oper} {o : Oper} {a : Act} {Q : Exit → Act → World → Prop}
theorem q_append_row {W : World} (base : Nat) (hgd : o.guard = none) (s x : Operand) (t e : TypeId) (k : IntKind) (bytes : Nat)
    (ho : o.op = .call { callee := .builtin .append, args := #[s, x], argTypes := #[t, t] })
    (ht : P.underlying t = some (.slice e)) (hinfo : (P.info? e).map (fun i => (i.zero, i.size, i.bytes)) = some (some (.int k 0), 1, bytes)) (hb0 : 0 < bytes)
    (v : Value) (xs ys : List Int) (A : Option Addr) (m c : Nat) (hs : a.eval s = v) (hx : a.eval x = .slice A m c)
    (HO : QRow W base e 1 v xs.length (nums k xs)) (HR : ReadsInt W k A m ys) (hbase : base ≤ W.heap.size) (hl : (xs.length + m) * bytes ≤ 140737488355328)
    (h : ∀ v1 w1, QRow w1 base e 1 v1 (xs ++ ys).length (nums k (xs ++ ys)) → W.grownBy w1 v.ownBlock → (v1.ownBlock = v.ownBlock ∨ ∃ b, v1.ownBlock = some b ∧ W.heap.size ≤ b) → wpList P ops Q rest (a.put o.dst v1) w1) :
    wpList P ops Q (o :: rest) a W := by
  obtain ⟨v1, w1, hr, hq, hg, hat⟩ := q_run_row (P := P) base t o.type e k bytes ht hinfo hb0 v xs ys A m c HO HR hbase hl
  refine wpList_plain hgd fun K hK => ?_
  unfold Oper.wp execOp
  simp only [ho, resolve, invoke, builtin, Sem.run_bind, Sem.run_pure, Result.andThen_ok, List.map_toArray, List.map_cons, List.map_nil, hs, hx, hr]
  exact hK _ _ (h v1 w1 hq hg hat)
end
theorem info_u32 : (Try.prog.info? 51).map (fun i => (i.zero, i.size, i.bytes)) = some (some (.int .u32 0), 1, 4) := by kernel_rfl
theorem info_u8 : (Try.prog.info? 5).map (fun i => (i.zero, i.size, i.bytes)) = some (some (.int .u8 0), 1, 1) := by kernel_rfl

/-- Hold(l...): behind what is held. -/
theorem hold_c {g o B : Nat} {T : TypeId} {cs : Array Value} {lv : Value} {xs ys : List Int} {A : Option Addr} {m c : Nat} {w : World} (hT : T ≠ 51) (hb : Blk w g T cs) (e : cs[o]? = some lv) (hq : QRow w B 51 1 lv xs.length (nums .u32 xs))
    (hB : B ≤ w.heap.size) (hr : ReadsInt w .u32 A m ys) (hl : (xs.length + m) * 4 ≤ 140737488355328) :
    Calls Try.prog 43 #[.pointer (some ⟨g, o, none⟩), .slice A m c] w fun e w' => e = .returned (.tuple #[]) ∧ ∃ v1, Blk w' g T (cs.setIfInBounds o v1) ∧ QRow w' B 51 1 v1 (xs ++ ys).length (nums .u32 (xs ++ ys)) ∧
      (v1.ownBlock = lv.ownBlock ∨ ∃ b, v1.ownBlock = some b ∧ w.heap.size ≤ b) ∧ Eff w w' (fun k => k = g ∨ some k = lv.ownBlock) := by
  have c0 := hb.cell e
  have hne := own_types hq hb (Ne.symm hT)
  have HQ := Lib.hid hq
  have HR := Lib.hid hr
  have HB := Lib.hid hb
  have ec := Lib.hid e
  clear e hq hr hb
  go_enter Try.func43, Try.ntmps43
  go_wp2_with (at_builtin; refine q_append_row B rfl (.tmp 8) (.tmp 9) 26 51 .u32 4 rfl Try.underlying26 info_u32 (by decide) lv xs ys A m c rfl rfl HQ.out HR.out hB hl ?_; intro v1 w1 hq1 hg1 hat1; obtain ⟨A1, k1, rfl, hk1⟩ := q_slice hq1; have HB1 : Blk w1 g T cs := (hg1.block g HB.out.lt hne).trans HB.out; have c1 : w1.cell? ⟨g, o, none⟩ = some lv := HB1.cell ec.out; have f1 := HB1.frozen o; clear c0; have HQ1 := Lib.hid hq1; have HG1 := Lib.hid hg1; have HA1 := Lib.hid hat1; clear hq1 hg1 hat1)
  rw [show xs.length + ys.length = (xs ++ ys).length from List.length_append.symm]
  refine bodyPost_end (v := .tuple #[]) (by simp [results, Try.results43, go_sem]) rfl ⟨rfl, .slice A1 (xs ++ ys).length k1, HB1.set o _, q_move HQ1.out fun k hk => Below.heap_setCell w1 _ _ k fun e => ?_, HA1.out, ?_⟩
  · exact own_types HQ1.out HB1 (Ne.symm hT) (by rw [hk]; exact (congrArg some e).symm)
  · exact ((Eff.of_grown HG1.out).mono (fun k _ h => .inr h)).trans (Eff.set w1 g o _) (fun k _ h => .inl h)
/-- What Tell tells, and what it leaves. -/
def Told (w : World) (g o B : Nat) (T : TypeId) (cs : Array Value) (lv : Value) (xs : List Int) (n : Nat) (e : Ending) (w' : World) : Prop :=
  ∃ v lv', e = .returned v ∧ w'.ownsRow w.heap.size 51 1 v (xs.take n).length (nums .u32 (xs.take n)) ∧ Blk w' g T (cs.setIfInBounds o lv') ∧ QRow w' B 51 1 lv' (xs.drop n).length (nums .u32 (xs.drop n)) ∧
    (lv'.ownBlock = lv.ownBlock ∨ lv'.ownBlock = none) ∧ Eff w w' (fun k => k = g)
theorem told_end {w w1 : World} {g o B m : Nat} {T : TypeId} {cs : Array Value} {lv v l1 l2 : Value} {xs : List Int} (hT : T ≠ 51) (ho : w1.ownsRow w.heap.size 51 1 v (xs.take m).length (nums .u32 (xs.take m))) (hb : Below w.heap.size w w1) (hB : Blk w g T cs)
    (hq : QRow w B 51 1 l2 (xs.drop m).length (nums .u32 (xs.drop m))) (hl : l2.ownBlock = lv.ownBlock ∨ l2.ownBlock = none) :
    Told w g o B T cs lv xs m (.returned v) ((w1.setCell ⟨g, o, none⟩ l1).setCell ⟨g, o, none⟩ l2) := by
  have hB1 := hB.below hb
  refine ⟨v, l2, rfl, own_move ho fun k hk => ?_, ?_, ?_, hl, ?_⟩
  · have hne : k ≠ g := fun e => by
      obtain ⟨cells, hc⟩ := own_typed ho k hk
      have h2 : w1.heap[g]? = _ := hB1
      rw [e, h2] at hc
      injection hc with hc
      injection hc with _ hc
      exact hT hc
    rw [Below.heap_setCell _ _ _ k hne, Below.heap_setCell _ _ _ k hne]
  · have h := (hB1.set o l1).set o l2
    rw [Array.setIfInBounds_setIfInBounds] at h
    exact h
  · refine q_move hq fun k hk => ?_
    have hlt := q_lt hq k hk
    have hne : k ≠ g := fun e => own_types hq hB (Ne.symm hT) (by rw [hk, e])
    rw [Below.heap_setCell _ _ _ k hne, Below.heap_setCell _ _ _ k hne, hb.block k hlt]
  · exact ((Eff.of_below hb _).trans (Eff.set w1 g o l1) (fun _ _ h => h)).trans (Eff.set _ g o l2) (fun _ _ h => h)
theorem setCell_twice (w : World) (g o : Nat) (v v' : Value) : (w.setCell ⟨g, o, none⟩ v).setCell ⟨g, o, none⟩ v' = w.setCell ⟨g, o, none⟩ v' := by
  unfold World.setCell
  simp only
  congr 1
  apply Array.ext_getElem?
  intro i
  simp only [Array.getElem?_modify]
  split
  · cases w.heap[i]? with
    | none => rfl
    | some o => cases o <;> simp
  · rfl
theorem told_end1 {w w1 : World} {g o B m : Nat} {T : TypeId} {cs : Array Value} {lv v l2 : Value} {xs : List Int} (hT : T ≠ 51) (ho : w1.ownsRow w.heap.size 51 1 v (xs.take m).length (nums .u32 (xs.take m))) (hb : Below w.heap.size w w1) (hB : Blk w g T cs)
    (hq : QRow w B 51 1 l2 (xs.drop m).length (nums .u32 (xs.drop m))) (hl : l2.ownBlock = lv.ownBlock ∨ l2.ownBlock = none) :
    Told w g o B T cs lv xs m (.returned v) (w1.setCell ⟨g, o, none⟩ l2) := by
  have h := told_end (o := o) (l1 := l2) hT ho hb hB hq hl
  rwa [setCell_twice] at h
theorem q_end (w : World) (B : Nat) (e : TypeId) (xs : List Int) : QRow w B e 1 (.slice none 0 0) (xs.drop xs.length).length (nums .u32 (xs.drop xs.length)) := by
  rw [List.drop_length]
  exact ⟨rfl, .inl ⟨rfl, none, rfl, fun a h => by cases h⟩⟩
theorem own_add (ad : Addr) (m a b c d : Nat) : (Value.slice (some (ad.add m)) a b).ownBlock = (Value.slice (some ad) c d).ownBlock := by
  simp [Value.ownBlock]; unfold Addr.add; split <;> rfl
theorem tell_nil {g o B : Nat} {T : TypeId} {cs : Array Value} {room : Int} {w : World} (hT : T ≠ 51) (hb : Blk w g T cs) (e : cs[o]? = some (.slice none 0 0)) :
    Calls Try.prog 41 #[.pointer (some ⟨g, o, none⟩), .int .i64 room] w (Told w g o B T cs (.slice none 0 0) [] 0) := by
  have c0 := hb.cell e
  have hf := hb.frozen o
  have HB := Lib.hid hb
  have ec := Lib.hid e
  clear e hb
  have hr : room < 0 ∨ room = 0 ∨ 0 < room := by omega
  rcases hr with hr | rfl | hr
  all_goals
    go_enter Try.func41, Try.ntmps41
    go_wp2
    go_ret
    exact told_end (w1 := w) (xs := []) (m := 0) hT ⟨rfl, .inl ⟨rfl, rfl⟩⟩ (Below.refl _ _) HB.out ⟨rfl, .inl ⟨rfl, none, rfl, fun a h => by cases h⟩⟩ (.inl rfl)
theorem tell_some {g o B : Nat} {T : TypeId} {cs : Array Value} {ad : Addr} {c m : Nat} {xs : List Int} {room : Int} {w : World} (hm : giveN room xs.length = m) (hT : T ≠ 51) (hb : Blk w g T cs) (e : cs[o]? = some (.slice (some ad) xs.length c)) (hq : QRow w B 51 1 (.slice (some ad) xs.length c) xs.length (nums .u32 xs))
    (hl : xs.length * 4 ≤ 140737488355328) :
    Calls Try.prog 41 #[.pointer (some ⟨g, o, none⟩), .int .i64 room] w (Told w g o B T cs (.slice (some ad) xs.length c) xs m) := by
  have hc : xs.length ≤ c := by obtain ⟨_, _, h, hc⟩ := q_slice hq; injection h with _ _ h; omega
  have c0 := hb.cell e
  have hle := giveN_le room xs.length
  have hif := giveN_if room xs.length
  rw [hm] at hle hif
  have hmc : m ≤ c := Nat.le_trans hle hc
  have hf := hb.frozen o
  have HR : Hid (ReadsInt w .u32 (some ad) m (xs.take m)) := q_reads (base := B) (e := 51) (c := c) (by have := q_take hq hle; simpa [nums, List.length_take, Nat.min_eq_left hle, List.map_take] using this)
  have HM := Lib.hid hm
  have HQ := Lib.hid hq
  have HB := Lib.hid hb
  have ec := Lib.hid e
  have HL := Lib.hid hl
  clear e hq hb hm
  go_enter Try.func41, Try.ntmps41
  go_upto_region 2 with fail
  clear hif
  go_upto_region 3 with (at_builtin; refine print_append_row (w0 := w) w.heap.size rfl (.const (.slice none 0 0)) (.tmp 20) 26 51 .u32 4 rfl Try.underlying26 info_u32 (by decide) (.slice none 0 0) [] (xs.take m) (some ad) m c rfl rfl ⟨rfl, .inl ⟨rfl, rfl⟩⟩ HR.out (Below.refl _ _) (Nat.le_refl _) (by simp only [List.length_nil]; omega) ?_; intro v1 w1 ho1 hb1 hg1 hat1; have HO1 := Lib.hid ho1; have HB1 := Lib.hid (HB.out.below hb1); have HW1 := Lib.hid hb1; have c1 := HB1.out.cell ec.out; have f1 := HB1.out.frozen o; clear ho1 hb1 hg1 hat1 c0 hf)
  have HO : Hid (w1.ownsRow w.heap.size 51 1 v1 (xs.take m).length (nums .u32 (xs.take m))) := by have := HO1.out; rw [List.nil_append] at this; exact this
  by_cases h1 : c = m
  · subst h1
    obtain rfl : xs.length = c := by omega
    go_wp2
    all_goals go_ret
    all_goals exact told_end hT HO.out HW1.out HB.out (q_end _ _ _ _) (.inr rfl)
  · by_cases h2 : xs.length = m
    · subst h2
      go_wp2
      all_goals go_ret
      all_goals exact told_end hT HO.out HW1.out HB.out (q_end _ _ _ _) (.inr rfl)
    · have HD : Hid (QRow w B 51 1 (.slice (some (ad.add m)) (xs.length - m) (c - m)) (xs.drop m).length (nums .u32 (xs.drop m))) := by
        have h := q_drop HQ.out hle
        rw [if_neg h1, Nat.mul_one, Option.map_some] at h
        rw [List.length_drop, nums, List.map_drop]
        exact h
      go_wp2
      all_goals go_ret
      all_goals exact told_end1 hT HO.out HW1.out HB.out HD.out (.inl (own_add _ _ _ _ _ _))
theorem tell_c {g o B : Nat} {T : TypeId} {cs : Array Value} {lv : Value} {xs : List Int} {room : Int} {w : World} (hT : T ≠ 51) (hb : Blk w g T cs) (e : cs[o]? = some lv) (hq : QRow w B 51 1 lv xs.length (nums .u32 xs))
    (hl : xs.length * 4 ≤ 140737488355328) :
    Calls Try.prog 41 #[.pointer (some ⟨g, o, none⟩), .int .i64 room] w (Told w g o B T cs lv xs (giveN room xs.length)) := by
  obtain ⟨A, c, rfl, hc⟩ := q_slice hq
  cases A with
  | some ad => exact tell_some rfl hT hb e hq hl
  | none =>
    rcases hq.2 with ⟨h0, A, h, _⟩ | ⟨_, _, _, _, h, _⟩
    · injection h with h1 h2 h3
      subst h3
      have hx : xs = [] := List.eq_nil_of_length_eq_zero h0
      subst hx
      have hz : giveN room ([] : List Int).length = 0 := Nat.le_zero.1 (giveN_le room 0)
      rw [hz]
      exact tell_nil hT hb e
    · cases h
end Go.Proofs.Ytegacgfhmigdjaa
