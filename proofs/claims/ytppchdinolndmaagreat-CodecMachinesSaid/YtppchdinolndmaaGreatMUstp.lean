/- Joined texts: Ustp, Urow, Qa, Ma, Di, De, Ei, Own, No, Sc, Dg, Db, Nx, Dfg, Dbn, Dbk. -/
import Derived.Test.YtppchdinolndmaaGreatMBase
import Derived.Test.YtppchdinolndmaaGreatMVWWords
import Derived.Deep.CutBlock
import Derived.Test.YtppchdinolndmaaGreatMVPPdx0
namespace Go.Proofs.YtppchdinolndmaaGreat
open Go.RowKit Go.Proofs.YtppchdinolndmaaGreatW.PrintWords
set_option linter.unusedVariables false
set_option linter.unusedSimpArgs false
def Blk (w : World) (g : Nat) (T : TypeId) (cs : Array Value) : Prop := w.heap[g]? = some (.cells cs T (0, 0))
theorem Blk.lt {w : World} {g : Nat} {T : TypeId} {cs : Array Value} (h : Blk w g T cs) : g < w.heap.size := (Array.getElem?_eq_some_iff.1 h).1
theorem Blk.cell {w : World} {g : Nat} {T : TypeId} {cs : Array Value} (h : Blk w g T cs) {i : Nat} {v : Value} (hi : cs[i]? = some v) : w.cell? ⟨g, i, none⟩ = some v := by
 have h' : w.heap[g]? = _ := h
 simp [World.cell?, h', hi]
theorem Blk.frozen {w : World} {g : Nat} {T : TypeId} {cs : Array Value} (h : Blk w g T cs) (i : Nat) : w.frozen? ⟨g, i, none⟩ = false := by
 have h' : w.heap[g]? = _ := h
 simp [World.frozen?, h']
theorem Blk.set {w : World} {g : Nat} {T : TypeId} {cs : Array Value} (h : Blk w g T cs) (i : Nat) (v : Value) : Blk (w.setCell ⟨g, i, none⟩ v) g T (cs.setIfInBounds i v) := by
 unfold Blk World.setCell
 simp only [Array.getElem?_modify]
 have h' : w.heap[g]? = _ := h
 rw [h']
 simp
theorem Blk.below {w w1 : World} {g : Nat} {T : TypeId} {cs : Array Value} (h : Blk w g T cs) (hb : Below w.heap.size w w1) : Blk w1 g T cs := (hb.block g h.lt).trans h
theorem Blk.drewN {w : World} {g : Nat} {T : TypeId} {cs : Array Value} (h : Blk w g T cs) (n : Nat) : Blk (w.drewN n) g T cs := h
theorem Blk.new (w : World) (T : TypeId) (cs : Array Value) : Blk (w.alloc (.cells cs T (0, 0))) w.heap.size T cs := heap_alloc_new _ _
theorem Blk.alloc {w : World} {g : Nat} {T : TypeId} {cs : Array Value} (h : Blk w g T cs) (o : Obj) : Blk (w.alloc o) g T cs := (Below.heap_alloc w o g h.lt).trans h
theorem Blk.far {w : World} {g : Nat} {T : TypeId} {cs : Array Value} (h : Blk w g T cs) {p : Addr} (hp : g ≠ p.block) (v : Value) : Blk (w.setCell p v) g T cs := (Below.heap_setCell w p v g hp).trans h
theorem going_c {g : Nat} {T : TypeId} {cs : Array Value} {err : Int} {en : Bool} {w : World} (hb : Blk w g T cs) (e1 : cs[1]? = some (.int .i64 err)) (e3 : cs[3]? = some (.bool en)) :
  Calls Tryz.prog 103 #[.pointer (some ⟨g, 0, none⟩)] w fun e w' => e = .returned (.bool (err == 0 && !en)) ∧ w = w' := by
 have h1 := hb.cell e1
 have h3 := hb.cell e3
 clear hb e1 e3
 cases h : (err == 0)
 ·go_enter Tryz.func103, Tryz.ntmps103
  go_wp2
  go_ret
  exact ⟨rfl, rfl⟩
 ·go_enter Tryz.func103, Tryz.ntmps103
  go_wp2
  go_ret
  exact ⟨rfl, rfl⟩
theorem going_yes {g : Nat} {T : TypeId} {cs : Array Value} {w : World} (hb : Blk w g T cs) (e1 : cs[1]? = some (.int .i64 0)) (e3 : cs[3]? = some (.bool false)) :
  Calls Tryz.prog 103 #[.pointer (some ⟨g, 0, none⟩)] w fun e w' => e = .returned (.bool true) ∧ w = w' := going_c hb e1 e3
theorem fail_c {g : Nat} {T : TypeId} {cs : Array Value} {err fat : Int} {w : World} (hb : Blk w g T cs) (e1 : cs[1]? = some (.int .i64 err)) (e2 : cs[2]? = some (.int .i64 fat)) :
  Calls Tryz.prog 100 #[.pointer (some ⟨g, 0, none⟩)] w fun e w' => e = .returned (.agg #[.int .i64 err, .int .i64 fat]) ∧ Below w.heap.size w w' := by
 have h1 := hb.cell e1
 have h2 := hb.cell e2
 have hlt := hb.lt
 have hf := hb.frozen
 clear hb e1 e2
 go_enter Tryz.func100, Tryz.ntmps100
 go_wp2
 refine bodyPost_ret (v := .agg #[.int .i64 err, .int .i64 fat]) (by simp [results, Tryz.results100, go_sem]) rfl ⟨rfl, ?_⟩
 exact below_new (Below.refl _ _) _
theorem eat_c {g : Nat} {T : TypeId} {cs : Array Value} {n : Int} {w : World} (hb : Blk w g T cs) (e0 : cs[0]? = some (.int .i64 n)) (e1 : cs[1]? = some (.int .i64 0)) (e3 : cs[3]? = some (.bool false)) (h0 : 0 ≤ n) (hn : n ≤ 4611686018427387904) :
  Calls Tryz.prog 109 #[.pointer (some ⟨g, 0, none⟩), .int .i64 1] w fun e w' => e = .returned (.tuple #[]) ∧ w' = w.setCell ⟨g, 0, none⟩ (.int .i64 (n + 1)) := by
 have hg := going_yes hb e1 e3
 have c0 := hb.cell e0
 have hf := hb.frozen
 clear e0 e1 e3 hb
 go_enter Tryz.func109, Tryz.ntmps109
 go_wp2_with (go_at_call 103; refine hg.mono ?_; rintro e w' ⟨rfl, rfl⟩)
 exact bodyPost_end (v := .tuple #[]) (by simp [results, Tryz.results109, go_sem]) rfl ⟨rfl, rfl⟩
theorem stop_c {g : Nat} {T : TypeId} {cs : Array Value} {n err z : Int} {w : World} (he : err ≠ 0) (hb : Blk w g T cs) (e0 : cs[0]? = some (.int .i64 n)) (e1 : cs[1]? = some (.int .i64 0)) (e2 : cs[2]? = some (.int .i64 z)) (e3 : cs[3]? = some (.bool false)) :
  Calls Tryz.prog 106 #[.pointer (some ⟨g, 0, none⟩), .int .i64 err] w fun e w' => e = .returned (.tuple #[]) ∧ w' = (w.setCell ⟨g, 1, none⟩ (.int .i64 err)).setCell ⟨g, 2, none⟩ (.int .i64 n) := by
 have hg := going_yes hb e1 e3
 have c0 := hb.cell e0
 have c1 := hb.cell e1
 have c2 := hb.cell e2
 have hf := hb.frozen
 have h1 : (err == 0) = false := by simpa using he
 have h2 : (err != 0) = true := by simpa using he
 clear e0 e1 e2 e3 hb
 go_enter Tryz.func106, Tryz.ntmps106
 go_wp2_with (go_at_call 103; refine hg.mono ?_; rintro e w' ⟨rfl, rfl⟩)
 exact bodyPost_end (v := .tuple #[]) (by simp [results, Tryz.results106, go_sem]) rfl ⟨rfl, rfl⟩
theorem end_c {g : Nat} {T : TypeId} {cs : Array Value} {w : World} (hb : Blk w g T cs) (e1 : cs[1]? = some (.int .i64 0)) (e3 : cs[3]? = some (.bool false)) :
  Calls Tryz.prog 99 #[.pointer (some ⟨g, 0, none⟩)] w fun e w' => e = .returned (.tuple #[]) ∧ w' = w.setCell ⟨g, 3, none⟩ (.bool true) := by
 have hg := going_yes hb e1 e3
 have c3 := hb.cell e3
 have hf := hb.frozen
 clear e1 e3 hb
 go_enter Tryz.func99, Tryz.ntmps99
 go_wp2_with (go_at_call 103; refine hg.mono ?_; rintro e w' ⟨rfl, rfl⟩)
 exact bodyPost_end (v := .tuple #[]) (by simp [results, Tryz.results99, go_sem]) rfl ⟨rfl, rfl⟩
theorem end_not {g : Nat} {T : TypeId} {cs : Array Value} {err : Int} {en : Bool} {w : World} (hb : Blk w g T cs) (e1 : cs[1]? = some (.int .i64 err)) (e3 : cs[3]? = some (.bool en)) (hn : (err == 0 && !en) = false) :
  Calls Tryz.prog 99 #[.pointer (some ⟨g, 0, none⟩)] w fun e w' => e = .returned (.tuple #[]) ∧ w = w' := by
 have hg := going_c hb e1 e3
 rw [hn] at hg
 clear e1 e3 hb hn
 go_enter Tryz.func99, Tryz.ntmps99
 go_wp2_with (go_at_call 103; refine hg.mono ?_; rintro e w' ⟨rfl, rfl⟩)
 exact bodyPost_end (v := .tuple #[]) (by simp [results, Tryz.results99, go_sem]) rfl ⟨rfl, rfl⟩
theorem kept_c {g o : Nat} {T : TypeId} {cs : Array Value} {s : ByteArray} {w : World} (hb : Blk w g T cs) (e : cs[o]? = some (.string s)) :
  Calls Tryz.prog 102 #[.pointer (some ⟨g, o, none⟩)] w fun e w' => e = .returned (.int .i64 s.size) ∧ w = w' := by
 have c0 := hb.cell e
 clear hb e
 go_enter Tryz.func102, Tryz.ntmps102
 go_wp2
 go_ret
 exact ⟨rfl, rfl⟩
theorem keep_c {g o : Nat} {T : TypeId} {cs : Array Value} {s t : ByteArray} {w : World} (hb : Blk w g T cs) (e : cs[o]? = some (.string s)) (hs : s.size + t.size ≤ 140737488351232) :
  Calls Tryz.prog 107 #[.pointer (some ⟨g, o, none⟩), .string t] w fun e w' => e = .returned (.tuple #[]) ∧ w' = w.setCell ⟨g, o, none⟩ (.string (s ++ t)) := by
 have c0 := hb.cell e
 have hf := hb.frozen o
 clear hb e
 go_enter Tryz.func107, Tryz.ntmps107
 go_wp2
 exact bodyPost_end (v := .tuple #[]) (by simp [results, Tryz.results107, go_sem]) rfl ⟨rfl, rfl⟩
def giveN (room : Int) (n : Nat) : Nat := min room.toNat n
theorem giveN_le (room : Int) (n : Nat) : giveN room n ≤ n := Nat.min_le_right _ _
theorem giveN_if (room : Int) (n : Nat) : (if (n : Int) < if room < 0 then 0 else room then (n : Int) else if room < 0 then 0 else room) = (giveN room n : Int) := by
 unfold giveN
 split <;> split at * <;> omega
theorem give_c {g o : Nat} {T : TypeId} {cs : Array Value} {s : ByteArray} {room : Int} {w : World} (hb : Blk w g T cs) (e : cs[o]? = some (.string s)) :
  Calls Tryz.prog 104 #[.pointer (some ⟨g, o, none⟩), .int .i64 room] w fun e w' => e = .returned (.string (s.extract 0 (giveN room s.size))) ∧ w' = w.setCell ⟨g, o, none⟩ (.string (s.extract (giveN room s.size) s.size)) := by
 have c0 := hb.cell e
 have hf := hb.frozen o
 have hle := giveN_le room s.size
 have hif := giveN_if room s.size
 generalize giveN room s.size = m at *
 clear hb e
 go_enter Tryz.func104, Tryz.ntmps104
 go_wp2
 all_goals go_ret
 all_goals exact ⟨rfl, rfl⟩
theorem held_c {g o : Nat} {T : TypeId} {cs : Array Value} {A : Option Addr} {n c : Nat} {w : World} (hb : Blk w g T cs) (e : cs[o]? = some (.slice A n c)) :
  Calls Tryz.prog 192 #[.pointer (some ⟨g, o, none⟩)] w fun e w' => e = .returned (.int .i64 n) ∧ w = w' := by
 have c0 := hb.cell e
 clear hb e
 go_enter Tryz.func192, Tryz.ntmps192
 go_wp2
 go_ret
 exact ⟨rfl, rfl⟩
structure Eff (w w' : World) (S : Nat → Prop) : Prop where
 os : w'.os = w.os
 tape : w'.tape = w.tape
 output : w'.output = w.output
 size : w.heap.size ≤ w'.heap.size
 block : ∀ k, k < w.heap.size → ¬ S k → w'.heap[k]? = w.heap[k]?
theorem Eff.refl (w : World) (S : Nat → Prop) : Eff w w S := ⟨rfl, rfl, rfl, Nat.le_refl _, fun _ _ _ => rfl⟩
theorem Eff.mono {w w' : World} {S S' : Nat → Prop} (h : Eff w w' S) (hs : ∀ k, k < w.heap.size → S k → S' k) : Eff w w' S' := ⟨h.os, h.tape, h.output, h.size, fun k hk hn => h.block k hk fun e => hn (hs k hk e)⟩
theorem Eff.trans {w w1 w2 : World} {S S1 : Nat → Prop} (h : Eff w w1 S) (k : Eff w1 w2 S1) (hs : ∀ i, i < w.heap.size → S1 i → S i) : Eff w w2 S :=
 ⟨k.os.trans h.os, k.tape.trans h.tape, k.output.trans h.output, Nat.le_trans h.size k.size, fun i hi hn => (k.block i (Nat.lt_of_lt_of_le hi h.size) fun e => hn (hs i hi e)).trans (h.block i hi hn)⟩
theorem Eff.of_below {w w' : World} (h : Below w.heap.size w w') (S : Nat → Prop) : Eff w w' S := ⟨h.os, h.tape, h.output, h.size, fun i hi _ => h.block i hi⟩
theorem Eff.of_grown {w w' : World} {row : Option Nat} (h : w.grownBy w' row) : Eff w w' (fun k => some k = row) := ⟨h.os, h.tape, h.output, h.size, fun i hi hn => h.block i hi hn⟩
theorem Eff.set (w : World) (g i : Nat) (v : Value) : Eff w (w.setCell ⟨g, i, none⟩ v) (fun k => k = g) :=
 ⟨rfl, rfl, rfl, by simp [World.setCell], fun k _ hk => Below.heap_setCell w ⟨g, i, none⟩ v k hk⟩
theorem Eff.alloc (w : World) (o : Obj) (S : Nat → Prop) : Eff w (w.alloc o) S := Eff.of_below (below_new (Below.refl _ _) o) S
theorem Eff.drewN (w : World) (n : Nat) (S : Nat → Prop) : Eff w (w.drewN n) S := ⟨rfl, rfl, rfl, Nat.le_refl _, fun _ _ _ => rfl⟩
theorem Eff.below {w w' : World} {S : Nat → Prop} (h : Eff w w' S) (hs : ∀ k, k < w.heap.size → ¬ S k) : Below w.heap.size w w' := ⟨h.os, h.tape, h.output, h.size, fun k hk => h.block k hk (hs k hk)⟩
theorem Eff.under {B : Nat} {w0 w w' : World} {S : Nat → Prop} (hb : Below B w0 w) (h : Eff w w' S) (hB : B ≤ w.heap.size) (hs : ∀ k, S k → B ≤ k) : Below B w0 w' :=
 ⟨h.os.trans hb.os, h.tape.trans hb.tape, h.output.trans hb.output, Nat.le_trans hb.size h.size, fun k hk => (h.block k (Nat.lt_of_lt_of_le hk hB) fun e => by have := hs k e; omega).trans (hb.block k hk)⟩
theorem Blk.eff {w w1 : World} {g : Nat} {T : TypeId} {cs : Array Value} {S : Nat → Prop} (h : Blk w g T cs) (he : Eff w w1 S) (hg : ¬ S g) : Blk w1 g T cs := (he.block g h.lt hg).trans h
theorem own_types {w : World} {base n size : Nat} {e T g : Nat} {v : Value} {xs : List Value} {cs : Array Value} (h : QRow w base e size v n xs) (hb : Blk w g T cs) (hne : e ≠ T) : some g ≠ v.ownBlock := by
 intro he
 obtain ⟨_, cells, hc⟩ := q_typed h g he.symm
 have hb' : w.heap[g]? = _ := hb
 rw [hb'] at hc
 injection hc with hc
 injection hc with _ hc
 exact hne hc.symm
theorem q_reads {w : World} {base e n c : Nat} {k : IntKind} {A : Option Addr} {xs : List Int} (h : QRow w base e 1 (.slice A n c) n (nums k xs)) : ReadsInt w k A n xs := by
 have hl : xs.length = n := by have := h.1; simpa [nums] using this
 refine ⟨hl, q_max h, fun hp => ?_⟩
 obtain ⟨ad, ha, hc⟩ := q_cells h hp
 refine ⟨ad, ha, fun j hj => hc j _ ?_⟩
 simp [nums, List.getElem?_eq_getElem (by omega : j < xs.length), List.getD_eq_getElem?_getD]
theorem q_run_row {P : Program} {W : World} (base : Nat) (t ty e : TypeId) (k : IntKind) (bytes : Nat) (ht : P.underlying t = some (.slice e)) (hinfo : (P.info? e).map (fun i => (i.zero, i.size, i.bytes)) = some (some (.int k 0), 1, bytes)) (hb0 : 0 < bytes)
  (v : Value) (xs ys : List Int) (A : Option Addr) (m c : Nat) (HO : QRow W base e 1 v xs.length (nums k xs)) (HR : ReadsInt W k A m ys) (hbase : base ≤ W.heap.size) (hl : (xs.length + m) * bytes ≤ 140737488355328) :
  ∃ v1 w1, (Builtin.append_ #[t, t] ty #[v, .slice A m c]).run P W = .ok v1 w1 ∧ QRow w1 base e 1 v1 (xs ++ ys).length (nums k (xs ++ ys)) ∧ W.grownBy w1 v.ownBlock ∧ (v1.ownBlock = v.ownBlock ∨ ∃ b, v1.ownBlock = some b ∧ W.heap.size ≤ b) := by
 obtain ⟨i0, hi, hzz⟩ := Option.map_eq_some_iff.1 hinfo
 simp only [Prod.mk.injEq] at hzz
 obtain ⟨hz0, hz1, hz2⟩ := hzz
 have hm : ys.length = m := HR.1
 have hlen : xs.length + m ≤ 140737488355328 := Nat.le_trans (Nat.le_mul_of_pos_right _ hb0) hl
 rcases Nat.eq_zero_or_pos m with h0 | h0
 ·subst h0
  obtain rfl : ys = [] := List.eq_nil_of_length_eq_zero hm
  refine ⟨v, W, ?_, by simpa using HO, World.grownBy.refl W _, .inl rfl⟩
  rcases HO.2 with ⟨hx, B, rfl, _⟩ | ⟨g, off, cap, cur, rfl, _, _, hnc, _⟩
  ·cases A <;> cases B <;> simp [Builtin.append_, run_underlying ht, sizeOf, typeInfo, hi, Builtin.lenOf, Builtin.firstCells, storeCells, loadCells, loadCellsFrom, hx]
  ·cases A <;> simp [Builtin.append_, run_underlying ht, sizeOf, typeInfo, hi, Builtin.lenOf, Builtin.firstCells, hnc, storeCells, loadCells, loadCellsFrom]
 ·obtain ⟨ad, rfl, hc⟩ := HR.2.2 h0
  have hcells : ∀ j u, (nums k ys)[j]? = some u → W.cell? (ad.add j) = some u := by
   intro j u hu
   have hj : j < ys.length := by
    rcases Nat.lt_or_ge j ys.length with h | h
    ·exact h
    ·simp [nums, List.getElem?_eq_none h] at hu
   have := hc j (by omega)
   simp [nums, List.getElem?_eq_getElem hj] at hu
   subst hu
   rw [this]
   simp [List.getD_eq_getElem?_getD, List.getElem?_eq_getElem hj]
  obtain ⟨v1, w1, hr, h2, h3, h5⟩ := q_append (P := P) W base t ty e i0 (.int k 0) 1 bytes ht hi hz0 hz1 hz2 rfl (by omega) v xs.length (nums k xs) HO ad m c (nums k ys) (by simp [nums, hm]) hcells
   (by intro u hu; simp only [nums, List.mem_map] at hu; obtain ⟨q, _, rfl⟩ := hu; rfl) h0 (by simp only [maxLen]; omega) hl hbase
  exact ⟨v1, w1, hr, by simpa [nums, hm] using h2, h3, h5⟩
section
variable {P : Program} {ops : Array Oper} {rest : List Oper} {o : Oper} {a : Act} {Q : Exit → Act → World → Prop}
theorem q_append_row {W : World} (base : Nat) (hgd : o.guard = none) (s x : Operand) (t e : TypeId) (k : IntKind) (bytes : Nat)
  (ho : o.op = .call { callee := .builtin .append, args := #[s, x], argTypes := #[t, t] })
  (ht : P.underlying t = some (.slice e)) (hinfo : (P.info? e).map (fun i => (i.zero, i.size, i.bytes)) = some (some (.int k 0), 1, bytes)) (hb0 : 0 < bytes)
  (v : Value) (xs ys : List Int) (A : Option Addr) (m c : Nat) (hs : a.eval s = v) (hx : a.eval x = .slice A m c)
  (HO : QRow W base e 1 v xs.length (nums k xs)) (HR : ReadsInt W k A m ys) (hbase : base ≤ W.heap.size) (hl : (xs.length + m) * bytes ≤ 140737488355328)
  (h : ∀ v1 w1, QRow w1 base e 1 v1 (xs ++ ys).length (nums k (xs ++ ys)) → W.grownBy w1 v.ownBlock → (v1.ownBlock = v.ownBlock ∨ ∃ b, v1.ownBlock = some b ∧ W.heap.size ≤ b) → wpList P ops Q rest (a.put o.dst v1) w1) :
  wpList P ops Q (o :: rest) a W := by
 obtain ⟨v1, w1, hr, hq, hg, hat⟩ := q_run_row (P := P) base t o.type e k bytes ht hinfo hb0 v xs ys A m c HO HR hbase hl
 refine wpList_plain hgd fun K hK => ?_
 unfold Oper.wp execOp
 simp only [ho, resolve, invoke, builtin, Sem.run_bind, Sem.run_pure, Result.andThen_ok, List.map_toArray, List.map_cons, List.map_nil, hs, hx, hr]
 exact hK _ _ (h v1 w1 hq hg hat)
end
theorem info_u32 : (Tryz.prog.info? 47).map (fun i => (i.zero, i.size, i.bytes)) = some (some (.int .u32 0), 1, 4) := by kernel_rfl
theorem info_u8 : (Tryz.prog.info? 5).map (fun i => (i.zero, i.size, i.bytes)) = some (some (.int .u8 0), 1, 1) := by kernel_rfl
theorem hold_c {g o B : Nat} {T : TypeId} {cs : Array Value} {lv : Value} {xs ys : List Int} {A : Option Addr} {m c : Nat} {w : World} (hT : T ≠ 47) (hb : Blk w g T cs) (e : cs[o]? = some lv) (hq : QRow w B 47 1 lv xs.length (nums .u32 xs))
  (hB : B ≤ w.heap.size) (hr : ReadsInt w .u32 A m ys) (hl : (xs.length + m) * 4 ≤ 140737488355328) :
  Calls Tryz.prog 195 #[.pointer (some ⟨g, o, none⟩), .slice A m c] w fun e w' => e = .returned (.tuple #[]) ∧ ∃ v1, Blk w' g T (cs.setIfInBounds o v1) ∧ QRow w' B 47 1 v1 (xs ++ ys).length (nums .u32 (xs ++ ys)) ∧
   (v1.ownBlock = lv.ownBlock ∨ ∃ b, v1.ownBlock = some b ∧ w.heap.size ≤ b) ∧ Eff w w' (fun k => k = g ∨ some k = lv.ownBlock) := by
 have c0 := hb.cell e
 have hne := own_types hq hb (Ne.symm hT)
 have HQ := Lib.hid hq
 have HR := Lib.hid hr
 have HB := Lib.hid hb
 have ec := Lib.hid e
 clear e hq hr hb
 go_enter Tryz.func195, Tryz.ntmps195
 go_wp2_with (at_builtin; refine q_append_row B rfl (.tmp 8) (.tmp 9) 22 47 .u32 4 rfl Tryz.underlying22 info_u32 (by decide) lv xs ys A m c rfl rfl HQ.out HR.out hB hl ?_; intro v1 w1 hq1 hg1 hat1; obtain ⟨A1, k1, rfl, hk1⟩ := q_slice hq1; have HB1 : Blk w1 g T cs := (hg1.block g HB.out.lt hne).trans HB.out; have c1 : w1.cell? ⟨g, o, none⟩ = some lv := HB1.cell ec.out; have f1 := HB1.frozen o; clear c0; have HQ1 := Lib.hid hq1; have HG1 := Lib.hid hg1; have HA1 := Lib.hid hat1; clear hq1 hg1 hat1)
 rw [show xs.length + ys.length = (xs ++ ys).length from List.length_append.symm]
 refine bodyPost_end (v := .tuple #[]) (by simp [results, Tryz.results195, go_sem]) rfl ⟨rfl, .slice A1 (xs ++ ys).length k1, HB1.set o _, q_move HQ1.out fun k hk => Below.heap_setCell w1 _ _ k fun e => ?_, HA1.out, ?_⟩
 ·exact own_types HQ1.out HB1 (Ne.symm hT) (by rw [hk]; exact (congrArg some e).symm)
 ·exact ((Eff.of_grown HG1.out).mono (fun k _ h => .inr h)).trans (Eff.set w1 g o _) (fun k _ h => .inl h)
def Told (w : World) (g o B : Nat) (T : TypeId) (cs : Array Value) (lv : Value) (xs : List Int) (n : Nat) (e : Ending) (w' : World) : Prop :=
 ∃ v lv', e = .returned v ∧ w'.ownsRow w.heap.size 47 1 v (xs.take n).length (nums .u32 (xs.take n)) ∧ Blk w' g T (cs.setIfInBounds o lv') ∧ QRow w' B 47 1 lv' (xs.drop n).length (nums .u32 (xs.drop n)) ∧
  (lv'.ownBlock = lv.ownBlock ∨ lv'.ownBlock = none) ∧ Eff w w' (fun k => k = g)
theorem told_end {w w1 : World} {g o B m : Nat} {T : TypeId} {cs : Array Value} {lv v l1 l2 : Value} {xs : List Int} (hT : T ≠ 47) (ho : w1.ownsRow w.heap.size 47 1 v (xs.take m).length (nums .u32 (xs.take m))) (hb : Below w.heap.size w w1) (hB : Blk w g T cs)
  (hq : QRow w B 47 1 l2 (xs.drop m).length (nums .u32 (xs.drop m))) (hl : l2.ownBlock = lv.ownBlock ∨ l2.ownBlock = none) :
  Told w g o B T cs lv xs m (.returned v) ((w1.setCell ⟨g, o, none⟩ l1).setCell ⟨g, o, none⟩ l2) := by
 have hB1 := hB.below hb
 refine ⟨v, l2, rfl, own_move ho fun k hk => ?_, ?_, ?_, hl, ?_⟩
 ·have hne : k ≠ g := fun e => by
   obtain ⟨cells, hc⟩ := own_typed ho k hk
   have h2 : w1.heap[g]? = _ := hB1
   rw [e, h2] at hc
   injection hc with hc
   injection hc with _ hc
   exact hT hc
  rw [Below.heap_setCell _ _ _ k hne, Below.heap_setCell _ _ _ k hne]
 ·have h := (hB1.set o l1).set o l2
  rw [Array.setIfInBounds_setIfInBounds] at h
  exact h
 ·refine q_move hq fun k hk => ?_
  have hlt := q_lt hq k hk
  have hne : k ≠ g := fun e => own_types hq hB (Ne.symm hT) (by rw [hk, e])
  rw [Below.heap_setCell _ _ _ k hne, Below.heap_setCell _ _ _ k hne, hb.block k hlt]
 ·exact ((Eff.of_below hb _).trans (Eff.set w1 g o l1) (fun _ _ h => h)).trans (Eff.set _ g o l2) (fun _ _ h => h)
theorem setCell_twice (w : World) (g o : Nat) (v v' : Value) : (w.setCell ⟨g, o, none⟩ v).setCell ⟨g, o, none⟩ v' = w.setCell ⟨g, o, none⟩ v' := by
 unfold World.setCell
 simp only
 congr 1
 apply Array.ext_getElem?
 intro i
 simp only [Array.getElem?_modify]
 split
 ·cases w.heap[i]? with
  | none => rfl
  | some o => cases o <;> simp
 ·rfl
theorem told_end1 {w w1 : World} {g o B m : Nat} {T : TypeId} {cs : Array Value} {lv v l2 : Value} {xs : List Int} (hT : T ≠ 47) (ho : w1.ownsRow w.heap.size 47 1 v (xs.take m).length (nums .u32 (xs.take m))) (hb : Below w.heap.size w w1) (hB : Blk w g T cs)
  (hq : QRow w B 47 1 l2 (xs.drop m).length (nums .u32 (xs.drop m))) (hl : l2.ownBlock = lv.ownBlock ∨ l2.ownBlock = none) :
  Told w g o B T cs lv xs m (.returned v) (w1.setCell ⟨g, o, none⟩ l2) := by
 have h := told_end (o := o) (l1 := l2) hT ho hb hB hq hl
 rwa [setCell_twice] at h
theorem q_end (w : World) (B : Nat) (e : TypeId) (xs : List Int) : QRow w B e 1 (.slice none 0 0) (xs.drop xs.length).length (nums .u32 (xs.drop xs.length)) := by
 rw [List.drop_length]
 exact ⟨rfl, .inl ⟨rfl, none, rfl, fun a h => by cases h⟩⟩
theorem own_add (ad : Addr) (m a b c d : Nat) : (Value.slice (some (ad.add m)) a b).ownBlock = (Value.slice (some ad) c d).ownBlock := by
 simp [Value.ownBlock]; unfold Addr.add; split <;> rfl
theorem tell_nil {g o B : Nat} {T : TypeId} {cs : Array Value} {room : Int} {w : World} (hT : T ≠ 47) (hb : Blk w g T cs) (e : cs[o]? = some (.slice none 0 0)) :
  Calls Tryz.prog 194 #[.pointer (some ⟨g, o, none⟩), .int .i64 room] w (Told w g o B T cs (.slice none 0 0) [] 0) := by
 have c0 := hb.cell e
 have hf := hb.frozen o
 have HB := Lib.hid hb
 have ec := Lib.hid e
 clear e hb
 have hr : room < 0 ∨ room = 0 ∨ 0 < room := by omega
 rcases hr with hr | rfl | hr
 all_goals
  go_enter Tryz.func194, Tryz.ntmps194
  go_wp2
  go_ret
  exact told_end (w1 := w) (xs := []) (m := 0) hT ⟨rfl, .inl ⟨rfl, rfl⟩⟩ (Below.refl _ _) HB.out ⟨rfl, .inl ⟨rfl, none, rfl, fun a h => by cases h⟩⟩ (.inl rfl)
theorem tell_some {g o B : Nat} {T : TypeId} {cs : Array Value} {ad : Addr} {c m : Nat} {xs : List Int} {room : Int} {w : World} (hm : giveN room xs.length = m) (hT : T ≠ 47) (hb : Blk w g T cs) (e : cs[o]? = some (.slice (some ad) xs.length c)) (hq : QRow w B 47 1 (.slice (some ad) xs.length c) xs.length (nums .u32 xs))
  (hl : xs.length * 4 ≤ 140737488355328) :
  Calls Tryz.prog 194 #[.pointer (some ⟨g, o, none⟩), .int .i64 room] w (Told w g o B T cs (.slice (some ad) xs.length c) xs m) := by
 have hc : xs.length ≤ c := by obtain ⟨_, _, h, hc⟩ := q_slice hq; injection h with _ _ h; omega
 have c0 := hb.cell e
 have hle := giveN_le room xs.length
 have hif := giveN_if room xs.length
 rw [hm] at hle hif
 have hmc : m ≤ c := Nat.le_trans hle hc
 have hf := hb.frozen o
 have HR : Hid (ReadsInt w .u32 (some ad) m (xs.take m)) := q_reads (base := B) (e := 47) (c := c) (by have := q_take hq hle; simpa [nums, List.length_take, Nat.min_eq_left hle, List.map_take] using this)
 have HM := Lib.hid hm
 have HQ := Lib.hid hq
 have HB := Lib.hid hb
 have ec := Lib.hid e
 have HL := Lib.hid hl
 clear e hq hb hm
 go_enter Tryz.func194, Tryz.ntmps194
 go_upto_region 2 with fail
 clear hif
 go_upto_region 3 with (at_builtin; refine print_append_row (w0 := w) w.heap.size rfl (.const (.slice none 0 0)) (.tmp 20) 22 47 .u32 4 rfl Tryz.underlying22 info_u32 (by decide) (.slice none 0 0) [] (xs.take m) (some ad) m c rfl rfl ⟨rfl, .inl ⟨rfl, rfl⟩⟩ HR.out (Below.refl _ _) (Nat.le_refl _) (by simp only [List.length_nil]; omega) ?_; intro v1 w1 ho1 hb1 hg1 hat1; have HO1 := Lib.hid ho1; have HB1 := Lib.hid (HB.out.below hb1); have HW1 := Lib.hid hb1; have c1 := HB1.out.cell ec.out; have f1 := HB1.out.frozen o; clear ho1 hb1 hg1 hat1 c0 hf)
 have HO : Hid (w1.ownsRow w.heap.size 47 1 v1 (xs.take m).length (nums .u32 (xs.take m))) := by have := HO1.out; rw [List.nil_append] at this; exact this
 by_cases h1 : c = m
 ·subst h1
  obtain rfl : xs.length = c := by omega
  go_wp2
  all_goals go_ret
  all_goals exact told_end hT HO.out HW1.out HB.out (q_end _ _ _ _) (.inr rfl)
 ·by_cases h2 : xs.length = m
  ·subst h2
   go_wp2
   all_goals go_ret
   all_goals exact told_end hT HO.out HW1.out HB.out (q_end _ _ _ _) (.inr rfl)
  ·have HD : Hid (QRow w B 47 1 (.slice (some (ad.add m)) (xs.length - m) (c - m)) (xs.drop m).length (nums .u32 (xs.drop m))) := by
    have h := q_drop HQ.out hle
    rw [if_neg h1, Nat.mul_one, Option.map_some] at h
    rw [List.length_drop, nums, List.map_drop]
    exact h
   go_wp2
   all_goals go_ret
   all_goals exact told_end1 hT HO.out HW1.out HB.out HD.out (.inl (own_add _ _ _ _ _ _))
theorem tell_c {g o B : Nat} {T : TypeId} {cs : Array Value} {lv : Value} {xs : List Int} {room : Int} {w : World} (hT : T ≠ 47) (hb : Blk w g T cs) (e : cs[o]? = some lv) (hq : QRow w B 47 1 lv xs.length (nums .u32 xs))
  (hl : xs.length * 4 ≤ 140737488355328) :
  Calls Tryz.prog 194 #[.pointer (some ⟨g, o, none⟩), .int .i64 room] w (Told w g o B T cs lv xs (giveN room xs.length)) := by
 obtain ⟨A, c, rfl, hc⟩ := q_slice hq
 cases A with
 | some ad => exact tell_some rfl hT hb e hq hl
 | none =>
  rcases hq.2 with ⟨h0, A, h, _⟩ | ⟨_, _, _, _, h, _⟩
  ·injection h with h1 h2 h3
   subst h3
   have hx : xs = [] := List.eq_nil_of_length_eq_zero h0
   subst hx
   have hz : giveN room ([] : List Int).length = 0 := Nat.le_zero.1 (giveN_le room 0)
   rw [hz]
   exact tell_nil hT hb e
  ·cases h
end Go.Proofs.YtppchdinolndmaaGreat
namespace Go.Proofs.YtppchdinolndmaaGreat
set_option linter.unusedVariables false
set_option linter.unusedSimpArgs false
structure InvD (M : DMach) (R : List Int × Int × Int) (d : DSt M) (s l : List Int) : Prop where
 go : d.err = 0 ∧ d.en = false → runD M d.st s d.pos (l ++ d.held) = R
 no : ¬ (d.err = 0 ∧ d.en = false) → R = (l ++ d.held, d.err, d.fat)
 fat : d.err = 0 → d.fat = 0
theorem InvD.new (M : DMach) (s : List Int) : InvD M (runD M M.ini s 0 []) (DSt.new M) s [] :=
 ⟨fun _ => rfl, fun h => absurd ⟨rfl, rfl⟩ h, fun _ => rfl⟩
theorem InvD.feed {M : DMach} {R : List Int × Int × Int} (room : Int) {l : List Int} : ∀ (part rest : List Int) {d : DSt M}, InvD M R d (part ++ rest) l →
  InvD M R (feedD M room part d).2 ((part ++ rest).drop (feedD M room part d).1) l
 | [], rest, d, h => by simpa [feedD] using h
 | b :: r, rest, d, h => by
  unfold feedD
  by_cases hc : (d.held.length : Int) < room ∧ d.err = 0 ∧ d.en = false
  ·rw [if_pos hc]
   have hg := h.go hc.2
   rw [List.cons_append, runD] at hg
   cases hx : M.next d.st b with
   | none =>
    rw [hx] at hg
    exact ⟨fun h => absurd h.1 (show ¬ ((3 : Int) = 0) by decide), fun _ => hg.symm, fun h => absurd h (show ¬ ((3 : Int) = 0) by decide)⟩
   | some p =>
    obtain ⟨st', k⟩ := p
    rw [hx] at hg
    have h2 : InvD M R { d with pos := d.pos + 1, held := d.held ++ k, st := st' } (r ++ rest) l :=
     ⟨fun _ => (show runD M st' (r ++ rest) (d.pos + 1) (l ++ (d.held ++ k)) = R from by rw [← List.append_assoc]; exact hg), fun h => absurd hc.2 h, h.fat⟩
    have ih := InvD.feed room r rest h2
    simpa using ih
  ·rw [if_neg hc]
   simpa using h
theorem InvD.tell {M : DMach} {R : List Int × Int × Int} {d : DSt M} {s l : List Int} (h : InvD M R d s l) (m : Nat) : InvD M R (d.drop m) s (l ++ d.held.take m) := by
 have e : (l ++ d.held.take m) ++ d.held.drop m = l ++ d.held := by rw [List.append_assoc, List.take_append_drop]
 exact ⟨fun hg => by show runD M d.st s d.pos ((l ++ d.held.take m) ++ d.held.drop m) = R; rw [e]; exact h.go hg, fun hg => by show R = ((l ++ d.held.take m) ++ d.held.drop m, d.err, d.fat); rw [e]; exact h.no hg, h.fat⟩
theorem InvD.fin {M : DMach} {R : List Int × Int × Int} {d : DSt M} {l : List Int} (h : InvD M R d [] l) : InvD M R (endD M d) [] l := by
 unfold endD
 by_cases hg : d.err = 0 ∧ d.en = false
 ·rw [if_pos hg]
  have h1 := h.go hg
  rw [runD] at h1
  cases hf : M.fin d.st with
  | none =>
   rw [hf] at h1
   exact ⟨fun h => absurd h.1 (show ¬ ((4 : Int) = 0) by decide), fun _ => h1.symm, fun h => absurd h (show ¬ ((4 : Int) = 0) by decide)⟩
  | some k =>
   rw [hf] at h1
   refine ⟨fun h => absurd h.2 (show ¬ (true = false) by decide), fun _ => ?_, h.fat⟩
   show R = (l ++ (d.held ++ k), d.err, d.fat)
   rw [h.fat hg.1, hg.1, ← List.append_assoc]
   exact h1.symm
 ·rw [if_neg hg]; exact h
theorem endD_not (M : DMach) (d : DSt M) : ¬ ((endD M d).err = 0 ∧ (endD M d).en = false) := by
 unfold endD
 by_cases hg : d.err = 0 ∧ d.en = false
 ·rw [if_pos hg]
  cases M.fin d.st with
  | none => exact fun h => absurd h.1 (show ¬ ((4 : Int) = 0) by decide)
  | some k => exact fun h => absurd h.2 (show ¬ (true = false) by decide)
 ·rw [if_neg hg]; exact hg
theorem runD_len (M : DMach) : ∀ (s : List Int) (st : M.St) (p : Nat) (acc : List Int), acc.length ≤ (runD M st s p acc).1.length
 | [], st, p, acc => by
  rw [runD]
  cases M.fin st with
  | none => exact Nat.le_refl _
  | some k => show acc.length ≤ (acc ++ k).length; rw [List.length_append]; omega
 | b :: r, st, p, acc => by
  rw [runD]
  cases M.next st b with
  | none => exact Nat.le_refl _
  | some q =>
   obtain ⟨st', k⟩ := q
   have := runD_len M r st' (p + 1) (acc ++ k)
   rw [List.length_append] at this
   show acc.length ≤ (runD M st' r (p + 1) (acc ++ k)).1.length
   omega
theorem InvD.len {M : DMach} {R : List Int × Int × Int} {d : DSt M} {s l : List Int} (h : InvD M R d s l) : l.length + d.held.length ≤ R.1.length := by
 rw [← List.length_append]
 by_cases hg : d.err = 0 ∧ d.en = false
 ·rw [← h.go hg]; exact runD_len ..
 ·rw [h.no hg]; exact Nat.le_refl _
theorem feedE_en (M : EMach) (room : Int) : ∀ (part : List Int) (e : ESt M) (out : List Int), (feedE M room part e out).2.2.en = e.en
 | [], e, out => rfl
 | c :: r, e, out => by
  unfold feedE
  split
  ·split
   ·exact feedE_en M room r _ _
   ·rfl
  ·rfl
def muO {M : EMach} (R : List Int × Int × Int) (e : ESt M) (s o : List Int) : Nat := s.length + (R.1.length - o.length) + if e.err = 0 ∧ e.en = false then 1 else 0
theorem oneE_step {M : EMach} {R : List Int × Int × Int} {e : ESt M} {b : Int} {r o : List Int} (h : InvE M R e (b :: r) o) (hg : e.err = 0 ∧ e.en = false) :
  InvE M R (stepE M 1 [b] e).2.2 ((b :: r).drop (stepE M 1 [b] e).1) (o ++ (stepE M 1 [b] e).2.1) ∧ (stepE M 1 [b] e).1 ≤ 1 ∧ (stepE M 1 [b] e).2.2.en = false ∧
  muO R (stepE M 1 [b] e).2.2 ((b :: r).drop (stepE M 1 [b] e).1) (o ++ (stepE M 1 [b] e).2.1) + 1 ≤ muO R e (b :: r) o := by
 have h2 := InvE.feed 1 [b] r (e := e.drop (giveZ 1 e.kept.length)) (e.kept.take (giveZ 1 e.kept.length)) (o := o) (R := R) (h.tell _)
 have h2' : InvE M R (stepE M 1 [b] e).2.2 ((b :: r).drop (stepE M 1 [b] e).1) (o ++ (stepE M 1 [b] e).2.1) := h2
 have hle := stepE_le M 1 [b] e
 have hen : (stepE M 1 [b] e).2.2.en = false := by
  have := feedE_en M 1 [b] (e.drop (giveZ 1 e.kept.length)) (e.kept.take (giveZ 1 e.kept.length))
  exact this.trans hg.2
 have hR := h2'.len
 rw [List.length_append] at hR
 have hout : min e.kept.length (giveZ 1 e.kept.length) ≤ (stepE M 1 [b] e).2.1.length := by
  have := feedE_outQ M 1 [b] (e.drop (giveZ 1 e.kept.length)) (e.kept.take (giveZ 1 e.kept.length))
  rw [List.length_take] at this
  exact Nat.le_trans (by omega) this
 have hprog : 1 ≤ (stepE M 1 [b] e).1 ∨ 1 ≤ (stepE M 1 [b] e).2.1.length ∨ ¬ ((stepE M 1 [b] e).2.2.err = 0 ∧ (stepE M 1 [b] e).2.2.en = false) := by
  by_cases hk1 : e.kept = []
  ·unfold stepE
   rw [feedE]
   rw [if_pos ⟨(show (e.kept.drop _) = [] by rw [hk1]; simp), hg⟩]
   by_cases hs : isScal b = true
   ·rw [if_pos hs]; exact .inl (Nat.succ_le_succ (Nat.zero_le _))
   ·rw [if_neg hs]; exact .inr (.inr fun hf => absurd hf.1 (show ¬ ((2 : Int) = 0) by decide))
  ·refine .inr (.inl ?_)
   have : 0 < e.kept.length := List.length_pos_iff.2 hk1
   refine Nat.le_trans ?_ hout
   unfold giveZ
   omega
 have hle1 : (stepE M 1 [b] e).1 ≤ 1 := hle
 refine ⟨h2', hle1, hen, ?_⟩
 unfold muO
 rw [List.length_drop, List.length_append, List.length_cons, if_pos hg]
 rcases hprog with hp | hp | hp
 ·split <;> omega
 ·split <;> omega
 ·rw [if_neg hp]; omega
theorem endE_fin {M : EMach} {R : List Int × Int × Int} {e : ESt M} {s o : List Int} (h : InvE M R e s o) (hs : s = [] ∨ ¬ e.err = 0) :
  ¬ ((endE M e).err = 0 ∧ (endE M e).en = false) ∧ R = (o ++ (endE M e).kept, (endE M e).err, (endE M e).fat) := by
 refine ⟨endE_not M e, ?_⟩
 by_cases he : e.err = 0
 ·have hs : s = [] := hs.resolve_right fun h => h he
  subst hs
  exact h.fin.no (endE_not M e)
 ·have hn : ¬ (e.err = 0 ∧ e.en = false) := fun h => he h.1
  have : endE M e = e := by unfold endE; rw [if_neg hn]
  rw [this]
  exact h.no hn
theorem stepE_nil (M : EMach) (e : ESt M) : stepE M 1 [] e = (0, e.kept.take (giveZ 1 e.kept.length), e.drop (giveZ 1 e.kept.length)) := rfl
theorem drainE {M : EMach} {R : List Int × Int × Int} {e : ESt M} {o : List Int} (hn : ¬ (e.err = 0 ∧ e.en = false)) (hR : R = (o ++ e.kept, e.err, e.fat)) (hk : e.kept ≠ []) :
  ¬ ((stepE M 1 [] e).2.2.err = 0 ∧ (stepE M 1 [] e).2.2.en = false) ∧ R = ((o ++ (stepE M 1 [] e).2.1) ++ (stepE M 1 [] e).2.2.kept, (stepE M 1 [] e).2.2.err, (stepE M 1 [] e).2.2.fat) ∧ (stepE M 1 [] e).2.2.kept.length + 1 ≤ e.kept.length := by
 rw [stepE_nil]
 refine ⟨hn, ?_, ?_⟩
 ·show R = ((o ++ e.kept.take _) ++ e.kept.drop _, e.err, e.fat)
  rw [List.append_assoc, List.take_append_drop]
  exact hR
 ·show (e.kept.drop _).length + 1 ≤ _
  have : 0 < e.kept.length := List.length_pos_iff.2 hk
  rw [List.length_drop]
  unfold giveZ
  omega
def muP {M : DMach} (R : List Int × Int × Int) (d : DSt M) (s l : List Int) : Nat := s.length + (R.1.length - l.length) + if d.err = 0 ∧ d.en = false then 1 else 0
def tellD (M : DMach) (part : List Int) (d : DSt M) : Nat × List Int × DSt M :=
 ((feedD M 1 part d).1, (feedD M 1 part d).2.held.take (giveN 1 (feedD M 1 part d).2.held.length), (feedD M 1 part d).2.drop (giveN 1 (feedD M 1 part d).2.held.length))
theorem oneD_step {M : DMach} {R : List Int × Int × Int} {d : DSt M} {b : Int} {r l : List Int} (h : InvD M R d (b :: r) l) (hg : d.err = 0 ∧ d.en = false) :
  InvD M R (tellD M [b] d).2.2 ((b :: r).drop (tellD M [b] d).1) (l ++ (tellD M [b] d).2.1) ∧ (tellD M [b] d).1 ≤ 1 ∧ (tellD M [b] d).2.2.en = false ∧
  muP R (tellD M [b] d).2.2 ((b :: r).drop (tellD M [b] d).1) (l ++ (tellD M [b] d).2.1) + 1 ≤ muP R d (b :: r) l := by
 have h1 := InvD.feed 1 [b] r (d := d) (l := l) (R := R) h
 have h2 : InvD M R (tellD M [b] d).2.2 ((b :: r).drop (tellD M [b] d).1) (l ++ (tellD M [b] d).2.1) := h1.tell _
 have hle : (feedD M 1 [b] d).1 ≤ 1 := feedD_le M 1 [b] d
 have hen : (tellD M [b] d).2.2.en = false := (feedD_en M 1 [b] d).trans hg.2
 have hR := h2.len
 rw [List.length_append] at hR
 refine ⟨h2, hle, hen, ?_⟩
 have hprog : 1 ≤ (tellD M [b] d).1 ∨ 1 ≤ (tellD M [b] d).2.1.length ∨ ¬ ((tellD M [b] d).2.2.err = 0 ∧ (tellD M [b] d).2.2.en = false) := by
  by_cases hk : d.held = []
  ·have hlt : (d.held.length : Int) < 1 := by rw [hk]; decide
   cases hx : M.next d.st b with
   | none =>
    refine .inr (.inr fun hf => ?_)
    have : (feedD M 1 [b] d).2.err = 3 := by rw [feedD, if_pos ⟨hlt, hg⟩, hx]
    have hf1 : (feedD M 1 [b] d).2.err = 0 := hf.1
    rw [this] at hf1
    exact absurd hf1 (by decide)
   | some q =>
    refine .inl ?_
    show 1 ≤ (feedD M 1 [b] d).1
    rw [feedD, if_pos ⟨hlt, hg⟩, hx]
    exact Nat.succ_le_succ (Nat.zero_le _)
  ·refine .inr (.inl ?_)
   have hp : 0 < d.held.length := List.length_pos_iff.2 hk
   have hf : feedD M 1 [b] d = (0, d) := by rw [feedD, if_neg (fun hc => by omega)]
   show 1 ≤ ((feedD M 1 [b] d).2.held.take (giveN 1 (feedD M 1 [b] d).2.held.length)).length
   rw [hf, List.length_take]
   show 1 ≤ min (giveN 1 d.held.length) d.held.length
   unfold giveN
   omega
 have hle1 : (tellD M [b] d).1 ≤ 1 := hle
 unfold muP
 rw [List.length_drop, List.length_append, List.length_cons, if_pos hg]
 rcases hprog with hp | hp | hp
 ·split <;> omega
 ·split <;> omega
 ·rw [if_neg hp]; omega
theorem endD_fin {M : DMach} {R : List Int × Int × Int} {d : DSt M} {s l : List Int} (h : InvD M R d s l) (hs : s = [] ∨ ¬ d.err = 0) :
  ¬ ((endD M d).err = 0 ∧ (endD M d).en = false) ∧ R = (l ++ (endD M d).held, (endD M d).err, (endD M d).fat) := by
 refine ⟨endD_not M d, ?_⟩
 by_cases he : d.err = 0
 ·have hs : s = [] := hs.resolve_right fun h => h he
  subst hs
  exact h.fin.no (endD_not M d)
 ·have hn : ¬ (d.err = 0 ∧ d.en = false) := fun h => he h.1
  have : endD M d = d := by unfold endD; rw [if_neg hn]
  rw [this]
  exact h.no hn
theorem drainD {M : DMach} {R : List Int × Int × Int} {d : DSt M} {l : List Int} (hn : ¬ (d.err = 0 ∧ d.en = false)) (hR : R = (l ++ d.held, d.err, d.fat)) (hk : d.held ≠ []) :
  ¬ ((tellD M [] d).2.2.err = 0 ∧ (tellD M [] d).2.2.en = false) ∧ R = ((l ++ (tellD M [] d).2.1) ++ (tellD M [] d).2.2.held, (tellD M [] d).2.2.err, (tellD M [] d).2.2.fat) ∧ (tellD M [] d).2.2.held.length + 1 ≤ d.held.length := by
 refine ⟨hn, ?_, ?_⟩
 ·show R = ((l ++ d.held.take _) ++ d.held.drop _, d.err, d.fat)
  rw [List.append_assoc, List.take_append_drop]
  exact hR
 ·show (d.held.drop _).length + 1 ≤ _
  have : 0 < d.held.length := List.length_pos_iff.2 hk
  rw [List.length_drop]
  show d.held.length - giveN 1 d.held.length + 1 ≤ _
  unfold giveN
  omega
end Go.Proofs.YtppchdinolndmaaGreat
namespace Go.Proofs.YtppchdinolndmaaGreat
open Go.RowKit Go.Proofs.YtppchdinolndmaaGreatW.PrintWords
set_option linter.unusedVariables false
set_option linter.unusedSimpArgs false
def Inv2 (tg : TypeId) (name : String) (f : Nat) : Prop := ∀ (n : Nat) (g : Nat) (x y : Value) (w : World),
 ((Sem.run Tryz.prog (method (n + 1) tg (.pointer (some ⟨g, 0, none⟩)) name) w).andThen fun a w' => Sem.run Tryz.prog (callFunc a.fst #[a.snd, x, y]) w') = .ok (.enter f #[.pointer (some ⟨g, 0, none⟩), x, y]) w
def Inv0 (tg : TypeId) (name : String) (f : Nat) : Prop := ∀ (n : Nat) (g : Nat) (w : World),
 ((Sem.run Tryz.prog (method (n + 1) tg (.pointer (some ⟨g, 0, none⟩)) name) w).andThen fun a w' => Sem.run Tryz.prog (callFunc a.fst #[a.snd]) w') = .ok (.enter f #[.pointer (some ⟨g, 0, none⟩)]) w
theorem bytesOf_nil : bytesOf ⟨#[]⟩ = [] := rfl
theorem q_ge {w : World} {base n size : Nat} {e : TypeId} {v : Value} {xs : List Value} (h : QRow w base e size v n xs) (k : Nat) (hk : v.ownBlock = some k) : base ≤ k := by
 rcases h.2 with ⟨_, A, rfl, hA⟩ | ⟨g, off, cap, cur, rfl, hb, _⟩
 ·cases A with
  | none => cases hk
  | some a => injection hk with hk; rw [← hk]; exact (hA a rfl).1
 ·injection hk with hk; rw [← hk]; exact hb
theorem q_low {w : World} {base base' n size : Nat} {e : TypeId} {v : Value} {xs : List Value} (h : QRow w base e size v n xs) (hb : base' ≤ base) : QRow w base' e size v n xs := by
 obtain ⟨h1, h2⟩ := h
 refine ⟨h1, ?_⟩
 rcases h2 with ⟨h2, A, h3, hA⟩ | ⟨g, off, cap, cur, h3, h4, h5⟩
 ·exact .inl ⟨h2, A, h3, fun a ha => ⟨Nat.le_trans hb (hA a ha).1, (hA a ha).2⟩⟩
 ·exact .inr ⟨g, off, cap, cur, h3, Nat.le_trans hb h4, h5⟩
structure DecK (tg : TypeId) (fF fE : Nat) (M : DMach) (Rep : World → Nat → (Nat → Prop) → DSt M → Prop) : Prop where
 invF : Inv2 tg "Feed" fF
 invE : Inv0 tg "End" fE
 invD : Inv0 tg "Done" 189
 invW : Inv0 tg "Fail" 100
 lt : ∀ {w g F d}, Rep w g F d → ∀ k, F k → k < w.heap.size
 eff : ∀ {w w1 : World} {g F d S}, Rep w g F d → Eff w w1 S → (∀ k, F k → ¬ S k) → Rep w1 g F d
 feed : ∀ {w g F d} (s : ByteArray) (room : Int), Rep w g F d → d.pos + s.size ≤ 1000000 → d.held.length + s.size ≤ 1000000 →
  Calls Tryz.prog fF #[.pointer (some ⟨g, 0, none⟩), .string s, .int .i64 room] w fun e w' => ∃ v F', e = .returned (.tuple #[.int .i64 (feedD M room (bytesOf s) d).1, v]) ∧
   w'.ownsRow w.heap.size 47 1 v ((feedD M room (bytesOf s) d).2.held.take (giveN room (feedD M room (bytesOf s) d).2.held.length)).length (nums .u32 ((feedD M room (bytesOf s) d).2.held.take (giveN room (feedD M room (bytesOf s) d).2.held.length))) ∧
   Rep w' g F' ((feedD M room (bytesOf s) d).2.drop (giveN room (feedD M room (bytesOf s) d).2.held.length)) ∧ Eff w w' F ∧ (∀ k, F' k → F k ∨ w.heap.size ≤ k)
 fin : ∀ {w g F d}, Rep w g F d → d.pos ≤ 1000000 → d.held.length ≤ 1000000 →
  Calls Tryz.prog fE #[.pointer (some ⟨g, 0, none⟩)] w fun e w' => ∃ F', e = .returned (.tuple #[]) ∧ Rep w' g F' (endD M d) ∧ Eff w w' F ∧ (∀ k, F' k → F k ∨ w.heap.size ≤ k)
 done : ∀ {w g F d}, Rep w g F d → Calls Tryz.prog 189 #[.pointer (some ⟨g, 0, none⟩)] w fun e w' => e = .returned (.bool (!d.going && d.held.isEmpty)) ∧ w = w'
 fail : ∀ {w g F d}, Rep w g F d → Calls Tryz.prog 100 #[.pointer (some ⟨g, 0, none⟩)] w fun e w' => e = .returned (.agg #[.int .i64 d.err, .int .i64 d.fat]) ∧ Below w.heap.size w w'
def NewD (c : Int) (tg : TypeId) (M : DMach) (Rep : World → Nat → (Nat → Prop) → DSt M → Prop) : Prop := ∀ w : World,
 Calls Tryz.prog 7 #[.int .i64 c] w fun e w' => ∃ g F, e = .returned (.tuple #[.iface tg (.pointer (some ⟨g, 0, none⟩)), .int .i64 0]) ∧ Below w.heap.size w w' ∧ Rep w' g F (DSt.new M) ∧ (∀ k, F k → w.heap.size ≤ k)
theorem indone_c {g : Nat} {T : TypeId} {cs : Array Value} {err : Int} {en : Bool} {lv : Value} {xs : List Int} {w : World} (hb : Blk w g T cs) (e1 : cs[1]? = some (.int .i64 err)) (e3 : cs[3]? = some (.bool en)) (e4 : cs[4]? = some lv) (hq : QRow w 0 47 1 lv xs.length (nums .u32 xs)) :
  Calls Tryz.prog 189 #[.pointer (some ⟨g, 0, none⟩)] w fun e w' => e = .returned (.bool (!(err == 0 && !en) && xs.isEmpty)) ∧ w = w' := by
 obtain ⟨A, c, rfl, hc⟩ := q_slice hq
 have hg := going_c hb e1 e3
 have hh := held_c hb e4
 have hx : ((xs.length : Int) == 0) = xs.isEmpty := by cases xs <;> simp; omega
 clear hq hc
 generalize (err == 0 && !en) = b at *
 cases b
 ·go_enter Tryz.func189, Tryz.ntmps189
  go_wp2_with (first | (go_at_call 103; refine hg.mono ?_; rintro e w' ⟨rfl, rfl⟩) | (go_at_call 192; refine hh.mono ?_; rintro e w' ⟨rfl, rfl⟩))
  all_goals go_ret
  all_goals exact ⟨rfl, rfl⟩
 ·go_enter Tryz.func189, Tryz.ntmps189
  go_wp2_with (go_at_call 103; refine hg.mono ?_; rintro e w' ⟨rfl, rfl⟩)
  all_goals go_ret
  all_goals exact ⟨rfl, rfl⟩
theorem field_agg0 (a b : Value) (w : World) : (Instr.field 34 (.agg #[a, b]) 0).run Tryz.prog w = .ok a w := by kernel_rfl
set_option maxRecDepth 100000 in
set_option maxHeartbeats 4000000 in
theorem decode_c {c : Int} {tg : TypeId} {fF fE : Nat} {M : DMach} {Rep : World → Nat → (Nat → Prop) → DSt M → Prop} (K : DecK tg fF fE M Rep) (HN : NewD c tg M Rep) (h1 : ∀ st b st' l, M.next st b = some (st', l) → l.length ≤ 1)
  (s : ByteArray) (hs : s.size ≤ 4000) (hL : (runD M M.ini (bytesOf s) 0 []).1.length ≤ 1000000) (w : World) :
  Calls Tryz.prog 9 #[.int .i64 c, .string s] w fun e w' => ∃ v, e = .returned (.tuple #[v, .agg #[.int .i64 (runD M M.ini (bytesOf s) 0 []).2.1, .int .i64 (runD M M.ini (bytesOf s) 0 []).2.2]]) ∧
   QRow w' w.heap.size 47 1 v (runD M M.ini (bytesOf s) 0 []).1.length (nums .u32 (runD M M.ini (bytesOf s) 0 []).1) ∧ Below w.heap.size w w' := by
 obtain ⟨p1, p2, p3, p4⟩ := decode_plain M h1 4096 (bytesOf s) (by rw [bytesOf_length]; omega)
 have hfeed := fun (w : World) (g : Nat) (F : Nat → Prop) (h : Rep w g F (DSt.new M)) => K.feed s 4096 h (by show 0 + s.size ≤ 1000000; omega) (by show 0 + s.size ≤ 1000000; omega)
 rw [p4] at hL
 rw [p4]
 rw [bytesOf_length] at p1 p2
 obtain ⟨n, hn⟩ : ∃ n, (feedD M 4096 (bytesOf s) (DSt.new M)).1 = n := ⟨_, rfl⟩
 obtain ⟨d, hd⟩ : ∃ d, (feedD M 4096 (bytesOf s) (DSt.new M)).2 = d := ⟨_, rfl⟩
 have hnle := feedD_le M 4096 (bytesOf s) (DSt.new M)
 have hen := feedD_en M 4096 (bytesOf s) (DSt.new M)
 have hpos := feedD_pos M 4096 (bytesOf s) (DSt.new M)
 rw [bytesOf_length] at hnle
 rw [hd] at p1 p2 p3 hL hen hpos ⊢
 rw [hn] at p2 hnle hpos
 have hpos1 : d.pos ≤ 1000000 := by rw [hpos]; show 0 + n ≤ 1000000; omega
 clear hpos
 simp only [hd, hn] at hfeed
 have hg1 : giveN 4096 d.held.length = d.held.length := by unfold giveN; omega
 rw [hg1] at hfeed
 simp only [List.take_length] at hfeed
 clear hd hn p4
 go_enter Tryz.func9, Tryz.ntmps9
 obtain ⟨W0, hW0⟩ : ∃ W0, w.alloc (.cells #[.int .i64 0, .int .i64 0] 34 (0, 0)) = W0 := ⟨_, rfl⟩
 have hz0 : W0.heap.size = w.heap.size + 1 := by rw [← hW0, World.size_alloc]
 have hblk : Blk W0 w.heap.size 34 #[.int .i64 0, .int .i64 0] := by rw [← hW0]; exact Blk.new w _ _
 have hbw : Below w.heap.size w W0 := by rw [← hW0]; exact below_new (Below.refl _ _) _
 have HBW := Lib.hid hbw
 have HBLK := Lib.hid hblk
 have HL := Lib.hid hL
 have HP3 := Lib.hid p3
 go_upto_region 1 with fail
 clear hW0 hbw hblk hL p3
 go_upto_block 0 with (go_at_call 7; refine (HN _).mono ?_; rintro e w1 ⟨g, F, rfl, hb1, hr1, hF1⟩)
 have HF := Lib.hid hfeed
 have HR1 := Lib.hid hr1
 have HB1 := Lib.hid hb1
 have HF1 := Lib.hid hF1
 clear hfeed hr1 hb1 hF1
 go_cut [8] (fun s8 wx => ∃ F', Hid (Rep wx g F' (d.drop d.held.length) ∧ QRow wx W0.heap.size 47 1 s8 d.held.length (nums .u32 d.held) ∧ Below W0.heap.size W0 wx ∧ (∀ k, F' k → W0.heap.size ≤ k) ∧ ∀ k, F' k → some k ≠ s8.ownBlock))
 case first =>
  go_wp2_with fail
  refine wp_loop_rounds 1 ?_
  rw [rounds_succ]
  go_wp2_with fail
  rw [K.invF]
  refine Calls.mono (HF.out _ _ _ HR1.out) ?_
  rintro e w2 ⟨v, F2, rfl, ho, hr2, he2, hF2⟩
  obtain ⟨A, c1, rfl⟩ := Go.Proofs.YtppchdinolndmaaGreatW.PrintWords.own_slice ho
  have hro := q_reads (q_of_own ho)
  have HE2 := Lib.hid he2
  have hnil : QRow w2 W0.heap.size 47 1 (.slice none 0 0) ([] : List Int).length (nums .u32 []) := ⟨rfl, .inl ⟨rfl, none, rfl, fun a h => by cases h⟩⟩
  have hsz2 : W0.heap.size ≤ w2.heap.size := Nat.le_trans HB1.out.size HE2.out.size
  have hF2' : ∀ k, F2 k → W0.heap.size ≤ k ∧ k < w2.heap.size := fun k hk => ⟨(hF2 k hk).elim (HF1.out k) (fun h => Nat.le_trans HB1.out.size h), K.lt hr2 k hk⟩
  have HR2 := Lib.hid hr2
  have HF2 := Lib.hid hF2'
  clear hr2 he2 hF2 hF2'
  have hlen : (([] : List Int).length + d.held.length) * 4 ≤ 140737488355328 := by simp only [List.length_nil]; omega
  go_upto_region 7 with (at_builtin; refine q_append_row W0.heap.size rfl _ _ 22 47 .u32 4 rfl rfl info_u32 (by decide) _ [] d.held A d.held.length c1 rfl rfl hnil hro hsz2 hlen ?_; intro v1 w3 hq3 hg3 hv3)
  have he3 : Eff w2 w3 (fun _ => False) := (Eff.of_grown hg3).mono fun k _ hk => by cases hk
  have hb3 : Below W0.heap.size W0 w3 := Eff.under (Eff.under HB1.out HE2.out HB1.out.size HF1.out) he3 hsz2 (fun _ h => h.elim)
  have HREL : Hid (∃ F', Rep w3 g F' (d.drop d.held.length) ∧ QRow w3 W0.heap.size 47 1 v1 d.held.length (nums .u32 d.held) ∧ Below W0.heap.size W0 w3 ∧ (∀ k, F' k → W0.heap.size ≤ k) ∧ ∀ k, F' k → some k ≠ v1.ownBlock) := by
   refine Lib.hid ⟨F2, K.eff HR2.out he3 (fun _ _ h => h), hq3, hb3, fun k hk => (HF2.out k hk).1, fun k hk e => ?_⟩
   rcases hv3 with h | ⟨b, h, hb⟩
   ·rw [h] at e; cases e
   ·rw [h] at e; injection e with e; have := (HF2.out k hk).2; omega
  clear hq3 hg3 hv3 he3 hb3
  have hxz : (s.extract n s.size).size = s.size - n := by rw [ByteArray.size_extract]; omega
  obtain ⟨X, hX⟩ : ∃ X, s.extract n s.size = X := ⟨_, rfl⟩
  rw [hX] at hxz
  by_cases hc : n = s.size
  ·have hx : X = ⟨#[]⟩ := ByteArray.ext (Array.eq_empty_of_size_eq_zero (show X.size = 0 by omega))
   subst hx
   clear hxz
   go_wp2_with fail
   go_meet
   obtain ⟨F', h⟩ := HREL.out
   exact ⟨F', Lib.hid h⟩
  ·have hne : d.err ≠ 0 := fun h => hc (p2 h)
   have hne1 : decide (d.err = 0) = false := decide_eq_false hne
   have hne2 : (d.err != 0) = true := by simpa using hne
   have hXb : ¬ X.toList = [] := fun e => by
    have h : X.toList.length = X.size := by rw [ByteArray.toList_eq]; simp
    rw [e] at h; simp at h; omega
   have hXc : decide (X.toList = []) = false := decide_eq_false hXb
   clear hxz
   obtain ⟨F', hrel⟩ := HREL.out
   have HREL' := Lib.hid hrel
   have hfl := K.fail hrel.1
   simp only [DSt.drop] at hfl
   have HFL := Lib.hid hfl
   clear hfl
   have hfe := fun (a b : Value) (w : World) => field_agg0 a b w
   clear hrel
   go_wp2_with (rw [K.invW]; refine Calls.mono HFL.out ?_; rintro e w4 ⟨rfl, hb4⟩; have HB4 := Lib.hid hb4; clear hb4)
   go_meet
   refine ⟨F', Lib.hid ?_⟩
   obtain ⟨r1, r2, r3, r4, r5⟩ := HREL'.out
   have he4 : Eff w3 w4 (fun _ => False) := Eff.of_below HB4.out _
   exact ⟨K.eff r1 he4 (fun _ _ h => h), q_move r2 fun k hk => HB4.out.block k (q_lt r2 k hk), Eff.under r3 he4 r3.size (fun _ h => h.elim), r4, r5⟩
 case rest =>
  obtain ⟨F', hrel⟩ := hcut
  obtain ⟨r1, r2, r3, r4, r5⟩ := hrel.out
  have HFIN := Lib.hid (K.fin r1 hpos1 (by simp [DSt.drop]))
  have HREL := hrel
  clear hrel r1 r2 r3 r4 r5 HF HR1 HB1 HF1
  obtain ⟨q1, q2, q3, q4, q5⟩ := endD_drop M d
  obtain ⟨D5, hD5⟩ : ∃ D5, endD M (d.drop d.held.length) = D5 := ⟨_, rfl⟩
  rw [hD5] at q1 q2 q3 q4 q5 HFIN
  have HQ : Hid (D5.err = (endD M d).err ∧ D5.fat = (endD M d).fat ∧ D5.going = false ∧ D5.pos ≤ 1000000 ∧ d.held ++ D5.held = (endD M d).held) := Lib.hid ⟨q1, q2, by rw [q3]; exact HP3.out, by rw [q4]; exact hpos1, q5.symm⟩
  clear q1 q2 q3 q4 q5 hD5
  obtain ⟨EE, hEE⟩ : ∃ EE, (endD M d).err = EE := ⟨_, rfl⟩
  obtain ⟨AA, hAA⟩ : ∃ AA, (endD M d).fat = AA := ⟨_, rfl⟩
  obtain ⟨LL, hLL⟩ : ∃ LL, (endD M d).held = LL := ⟨_, rfl⟩
  have HEQ : Hid ((endD M d).err = EE ∧ (endD M d).fat = AA ∧ (endD M d).held = LL) := Lib.hid ⟨hEE, hAA, hLL⟩
  rw [hEE, hAA, hLL] at HQ
  rw [hLL] at HL
  clear hEE hAA hLL
  go_wp2_with fail
  rw [K.invE]
  refine Calls.mono HFIN.out ?_
  rintro e w5 ⟨F5, rfl, h5, he5, hF5⟩
  have HREL5 : Hid (Rep w5 g F5 D5 ∧ QRow w5 W0.heap.size 47 1 u8 d.held.length (nums .u32 d.held) ∧ Below W0.heap.size W0 w5 ∧ (∀ k, F5 k → W0.heap.size ≤ k) ∧ ∀ k, F5 k → some k ≠ u8.ownBlock) := by
   obtain ⟨r1, r2, r3, r4, r5⟩ := HREL.out
   refine Lib.hid ⟨h5, q_move r2 fun k hk => he5.block k (q_lt r2 k hk) (fun hF => r5 k hF hk.symm), Eff.under r3 he5 r3.size (fun k hk => r4 k hk), fun k hk => (hF5 k hk).elim (r4 k) (fun h => Nat.le_trans r3.size h), fun k hk e => ?_⟩
   rcases hF5 k hk with h | h
   ·exact r5 k h e
   ·have := q_lt r2 k e.symm; omega
  clear h5 he5 hF5 HREL HFIN
  go_upto_block 2 with fail
  go_cut [8] (fun s8 wx => ∃ F', Hid (∃ D, Rep wx g F' D ∧ D.err = EE ∧ D.fat = AA ∧ QRow wx W0.heap.size 47 1 s8 LL.length (nums .u32 LL) ∧ Below W0.heap.size W0 wx))
  case first =>
   go_wp2_with fail
   go_loopg [8] D5.held.length (fun kq s8 wx => ∃ (F' : Nat → Prop) (D : DSt M) (xs : List Int), Hid (kq = D.held.length) ∧ Hid (Rep wx g F' D ∧ QRow wx W0.heap.size 47 1 s8 xs.length (nums .u32 xs) ∧ Below W0.heap.size W0 wx ∧ (∀ k, F' k → W0.heap.size ≤ k) ∧ ∀ k, F' k → some k ≠ s8.ownBlock) ∧
    Hid (D.err = EE ∧ D.fat = AA ∧ D.going = false ∧ D.pos ≤ 1000000 ∧ xs ++ D.held = LL))
   case atStart => exact ⟨F5, D5, d.held, Lib.hid rfl, HREL5, HQ⟩
   case round =>
    obtain ⟨F', D, xs, hgk, HR, HD⟩ := hrel
    obtain ⟨r1, r2, r3, r4, r5⟩ := HR.out
    obtain ⟨q1, q2, q3, q4, q5⟩ := HD.out
    have hdone := K.done r1
    rw [q3] at hdone
    have HQ2 := Lib.hid r2
    have hlen5 : xs.length + D.held.length ≤ 1000000 := by rw [← List.length_append, q5]; exact HL.out
    cases hh : D.held with
    | nil =>
     rw [hh] at hdone q5
     rw [List.append_nil] at q5
     have HDN := Lib.hid hdone
     have HREL : Hid (∃ D, Rep wr g F' D ∧ D.err = EE ∧ D.fat = AA ∧ QRow wr W0.heap.size 47 1 u8 LL.length (nums .u32 LL) ∧ Below W0.heap.size W0 wr) := Lib.hid ⟨D, r1, q1, q2, by rw [← q5]; exact r2, r3⟩
     clear hdone r1 r2 r3 r4 r5 q1 q2 q3 q4 q5 hlen5
     go_wp2_with (rw [K.invD]; refine Calls.mono HDN.out ?_; rintro e w6 ⟨rfl, rfl⟩)
     go_meet
     exact ⟨F', HREL⟩
    | cons x0 xr =>
     have hfd := K.feed ⟨#[]⟩ 4096 r1 (by show D.pos + 0 ≤ 1000000; omega) (by show D.held.length + 0 ≤ 1000000; omega)
     have hz : feedD M 4096 (bytesOf ⟨#[]⟩) D = (0, D) := by rw [bytesOf_nil]; rfl
     rw [hz] at hfd
     simp only [] at hfd
     obtain ⟨m, hm⟩ : ∃ m, giveN 4096 D.held.length = m := ⟨_, rfl⟩
     have hm1 : 0 < m ∧ m ≤ D.held.length := by rw [← hm, hh]; unfold giveN; simp only [List.length_cons]; omega
     rw [hm] at hfd
     obtain ⟨T, hT⟩ : ∃ T, D.held.take m = T := ⟨_, rfl⟩
     have hTl : T.length = m := by rw [← hT, List.length_take]; omega
     rw [hT] at hfd
     rw [hh] at hdone
     have HDN := Lib.hid hdone
     have HFD := Lib.hid hfd
     have HQ5 : Hid ((D.drop m).err = EE ∧ (D.drop m).fat = AA ∧ (D.drop m).going = false ∧ (D.drop m).pos ≤ 1000000 ∧ (xs ++ T) ++ (D.drop m).held = LL) := Lib.hid ⟨q1, q2, q3, q4, by rw [← hT]; show xs ++ D.held.take m ++ D.held.drop m = LL; rw [List.append_assoc, List.take_append_drop]; exact q5⟩
     have HMS : Hid ((D.drop m).held.length < D.held.length) := Lib.hid (by show (D.held.drop m).length < _; rw [List.length_drop]; omega)
     have hln : (xs.length + T.length) * 4 ≤ 140737488355328 := by omega
     clear hdone hfd r1 r2 r3 r4 r5 q1 q2 q3 q4 q5 hz hm hh hT hm1 hTl hlen5
     go_upto_region 12 with (first
      | (rw [K.invD]; refine Calls.mono HDN.out ?_; rintro e w6 ⟨rfl, rfl⟩)
      | (rw [K.invF]; refine Calls.mono HFD.out ?_; rintro e w6 ⟨v, F6, rfl, ho, h6, he6, hF6⟩))
     obtain ⟨A, c1, rfl⟩ := Go.Proofs.YtppchdinolndmaaGreatW.PrintWords.own_slice ho
     have hro := q_reads (q_of_own ho)
     obtain ⟨r1, r2, r3, r4, r5⟩ := HR.out
     have hq6 : QRow w6 W0.heap.size 47 1 u8 xs.length (nums .u32 xs) := q_move r2 fun k hk => he6.block k (q_lt r2 k hk) (fun hF => r5 k hF hk.symm)
     have HR6 : Hid (Rep w6 g F6 (D.drop m) ∧ Below W0.heap.size W0 w6 ∧ (∀ k, F6 k → W0.heap.size ≤ k) ∧ ∀ k, F6 k → some k ≠ u8.ownBlock) := by
      refine Lib.hid ⟨h6, Eff.under r3 he6 r3.size (fun k hk => r4 k hk), fun k hk => (hF6 k hk).elim (r4 k) (fun h => Nat.le_trans r3.size h), fun k hk e => ?_⟩
      rcases hF6 k hk with h | h
      ·exact r5 k h e
      ·have := q_lt r2 k e.symm; omega
     have hsz6 : W0.heap.size ≤ w6.heap.size := Nat.le_trans r3.size he6.size
     clear r1 r2 r3 r4 r5 h6 he6 hF6 ho
     have HQ6 := Lib.hid hq6
     go_wp2_with (at_builtin; refine q_append_row W0.heap.size rfl _ _ 22 47 .u32 4 rfl rfl info_u32 (by decide) u8 xs T A T.length c1 rfl rfl hq6 hro hsz6 hln ?_; intro v1 w7 hq7 hg7 hv7)
     go_roundg (D.drop m).held.length
     case measure => rw [hgk.out]; exact HMS.out
     case rel =>
      refine ⟨F6, D.drop m, xs ++ T, Lib.hid rfl, ?_, HQ5⟩
      obtain ⟨r1, r3, r4, r5⟩ := HR6.out
      have he7 := Eff.of_grown hg7
      have hF7 : ∀ k, F6 k → ¬ some k = u8.ownBlock := fun k hk e => r5 k hk e
      refine Lib.hid ⟨K.eff r1 he7 (fun k hk h => hF7 k hk h), hq7, Eff.under r3 he7 r3.size (fun k hk => ?_), r4, fun k hk e => ?_⟩
      ·exact q_ge HQ6.out k hk.symm
      ·rcases hv7 with h | ⟨b, h, hb⟩
       ·exact r5 k hk (by rw [e, h])
       ·rw [h] at e; injection e with e; have := K.lt r1 k hk; omega
  case rest =>
   obtain ⟨F', HH⟩ := hcut
   obtain ⟨D, r1, q1, q2, r2, r3⟩ := HH.out
   have hfl := K.fail r1
   rw [q1, q2] at hfl
   have HFL := Lib.hid hfl
   have HR2 := Lib.hid r2
   have HR3 := Lib.hid r3
   clear hfl r1 q1 q2 r2 r3
   go_wp2_with (rw [K.invW]; refine Calls.mono HFL.out ?_; rintro e w8 ⟨rfl, hb8⟩; have HB8 := Lib.hid hb8; have hk8 := (HBLK.out.below HR3.out).below hb8; have hc80 := hk8.cell (i := 0) rfl; have hc81 := hk8.cell (i := 1) rfl; have hf8 := hk8.frozen; clear hk8 hb8)
   have hk8 := (HBLK.out.below HR3.out).below HB8.out
   have hk9 : Blk ((w8.setCell ⟨w.heap.size, 0, none⟩ (.int .i64 EE)).setCell ⟨w.heap.size, 1, none⟩ (.int .i64 AA)) w.heap.size 34 #[.int .i64 EE, .int .i64 AA] := (hk8.set 0 (.int .i64 EE)).set 1 (.int .i64 AA)
   have he9 : Eff w8 ((w8.setCell ⟨w.heap.size, 0, none⟩ (.int .i64 EE)).setCell ⟨w.heap.size, 1, none⟩ (.int .i64 AA)) (fun k => k = w.heap.size) := (Eff.set _ _ _ _).trans (Eff.set _ _ _ _) (fun _ _ h => h)
   obtain ⟨w9, hw9⟩ : ∃ w9, (w8.setCell ⟨w.heap.size, 0, none⟩ (.int .i64 EE)).setCell ⟨w.heap.size, 1, none⟩ (.int .i64 AA) = w9 := ⟨_, rfl⟩
   rw [hw9] at hk9 he9 ⊢
   have c90 := hk9.cell (i := 0) rfl
   have c91 := hk9.cell (i := 1) rfl
   refine bodyPost_ret (v := .tuple #[u8, .agg #[.int .i64 EE, .int .i64 AA]]) (by simp [results, Tryz.results9, go_sem, c90, c91]; try rfl) rfl ?_
   obtain ⟨z1, z2, z3⟩ := HEQ.out
   rw [z1, z2, z3]
   have hb9 : Below w.heap.size w w9 := Eff.under ((HBW.out.trans (HR3.out.mono (by omega))).trans (HB8.out.mono (Nat.le_trans (by omega) HR3.out.size))) he9 (Nat.le_trans (Nat.le_trans (by omega) HR3.out.size) HB8.out.size) (fun k hk => Nat.le_of_eq hk.symm)
   refine ⟨u8, rfl, q_low (q_move (q_move HR2.out fun k hk => HB8.out.block k (q_lt HR2.out k hk)) fun k hk => he9.block k ?_ ?_) (by omega), hb9⟩
   ·exact Nat.lt_of_lt_of_le (q_lt HR2.out k hk) HB8.out.size
   ·intro e
    have := q_ge HR2.out k hk
    omega
def strOf (l : List Int) : ByteArray := ⟨(l.map fun x => UInt8.ofNat x.toNat).toArray⟩
def isBytes (l : List Int) : Prop := ∀ x ∈ l, 0 ≤ x ∧ x ≤ 255
theorem strOf_size (l : List Int) : (strOf l).size = l.length := by simp [strOf, ByteArray.size]
theorem bytesOf_strOf {l : List Int} (h : isBytes l) : bytesOf (strOf l) = l := by
 unfold bytesOf strOf
 simp only [List.map_map]
 conv => rhs; rw [← List.map_id l]
 refine List.map_congr_left fun x hx => ?_
 have := h x hx
 simp
 omega
theorem strOf_bytesOf (s : ByteArray) : strOf (bytesOf s) = s := by
 unfold strOf bytesOf
 rw [List.map_map]
 have e : ((fun x : Int => UInt8.ofNat x.toNat) ∘ fun b : UInt8 => (b.toNat : Int)) = id := by
  funext b
  simp
 rw [e, List.map_id]
theorem strOf_append (a b : List Int) : strOf (a ++ b) = strOf a ++ strOf b := by
 apply ByteArray.ext
 simp [strOf]
theorem strOf_take (a : List Int) (n : Nat) : strOf (a.take n) = (strOf a).extract 0 n := by
 apply ByteArray.ext
 simp [strOf, List.take_eq_take_min]
theorem strOf_drop (a : List Int) (n : Nat) : strOf (a.drop n) = (strOf a).extract n a.length := by
 apply ByteArray.ext
 simp only [strOf, List.map_drop, ByteArray.data_extract, List.extract_toArray]
 congr 1
 show _ = List.take (a.length - n) (List.drop n _)
 rw [List.take_of_length_le]
 simp
theorem add_block (ad : Addr) (j : Nat) : (ad.add j).block = ad.block := by unfold Addr.add; split <;> rfl
structure EncK (tg : TypeId) (fF fE : Nat) (M : EMach) (Rep : World → Nat → (Nat → Prop) → ESt M → Prop) : Prop where
 invF : Inv2 tg "Feed" fF
 invE : Inv0 tg "End" fE
 invD : Inv0 tg "Done" 98
 invW : Inv0 tg "Fail" 100
 lt : ∀ {w g F d}, Rep w g F d → ∀ k, F k → k < w.heap.size
 eff : ∀ {w w1 : World} {g F d S}, Rep w g F d → Eff w w1 S → (∀ k, F k → ¬ S k) → Rep w1 g F d
 feed : ∀ {w g F d} (A : Option Addr) (c : Nat) (l : List Int) (room : Int), Rep w g F d → ReadsInt w .u32 A l.length l → (l ≠ [] → ∀ ad, A = some ad → ¬ F ad.block) → (∀ x ∈ l, 0 ≤ x) → d.pos + l.length ≤ 1000000 → d.kept.length ≤ 10000000 → (-1000000000 ≤ room ∧ room ≤ 9223372036854775807) →
  Calls Tryz.prog fF #[.pointer (some ⟨g, 0, none⟩), .slice A l.length c, .int .i64 room] w fun e w' => ∃ F', e = .returned (.tuple #[.int .i64 (feedE M room l (d.drop (giveZ room d.kept.length)) (d.kept.take (giveZ room d.kept.length))).1,
    .string (strOf (feedE M room l (d.drop (giveZ room d.kept.length)) (d.kept.take (giveZ room d.kept.length))).2.1)]) ∧
   Rep w' g F' (feedE M room l (d.drop (giveZ room d.kept.length)) (d.kept.take (giveZ room d.kept.length))).2.2 ∧ Eff w w' F ∧ (∀ k, F' k → F k ∨ w.heap.size ≤ k)
 fin : ∀ {w g F d}, Rep w g F d → d.pos ≤ 10000 → d.kept.length ≤ 10000000 →
  Calls Tryz.prog fE #[.pointer (some ⟨g, 0, none⟩)] w fun e w' => ∃ F', e = .returned (.tuple #[]) ∧ Rep w' g F' (endE M d) ∧ Eff w w' F ∧ (∀ k, F' k → F k ∨ w.heap.size ≤ k)
 done : ∀ {w g F d}, Rep w g F d → Calls Tryz.prog 98 #[.pointer (some ⟨g, 0, none⟩)] w fun e w' => e = .returned (.bool (!d.going && d.kept.isEmpty)) ∧ w = w'
 blk : ∀ {w g F d}, Rep w g F d → ∃ T cs, T ≠ 5 ∧ T ≠ 82 ∧ Blk w g T cs ∧ cs[1]? = some (.int .i64 d.err) ∧ cs[2]? = some (.int .i64 d.fat)
theorem EncK.fail {tg : TypeId} {fF fE : Nat} {M : EMach} {Rep : World → Nat → (Nat → Prop) → ESt M → Prop} (K : EncK tg fF fE M Rep) {w : World} {g : Nat} {F : Nat → Prop} {d : ESt M} (h : Rep w g F d) :
  Calls Tryz.prog 100 #[.pointer (some ⟨g, 0, none⟩)] w fun e w' => e = .returned (.agg #[.int .i64 d.err, .int .i64 d.fat]) ∧ Below w.heap.size w w' := by
 obtain ⟨T, cs, _, _, hb, e1, e2⟩ := K.blk h
 exact fail_c hb e1 e2
def NewE (c : Int) (tg : TypeId) (M : EMach) (Rep : World → Nat → (Nat → Prop) → ESt M → Prop) : Prop := ∀ w : World,
 Calls Tryz.prog 6 #[.int .i64 c] w fun e w' => ∃ g F, e = .returned (.tuple #[.iface tg (.pointer (some ⟨g, 0, none⟩)), .int .i64 0]) ∧ Below w.heap.size w w' ∧ Rep w' g F (ESt.new M) ∧ (∀ k, F k → w.heap.size ≤ k)
theorem outdone_c {g : Nat} {T : TypeId} {cs : Array Value} {err : Int} {en : Bool} {xs : List Int} {w : World} (hb : Blk w g T cs) (e1 : cs[1]? = some (.int .i64 err)) (e3 : cs[3]? = some (.bool en)) (e4 : cs[4]? = some (.string (strOf xs))) :
  Calls Tryz.prog 98 #[.pointer (some ⟨g, 0, none⟩)] w fun e w' => e = .returned (.bool (!(err == 0 && !en) && xs.isEmpty)) ∧ w = w' := by
 have hg := going_c hb e1 e3
 have hh := kept_c hb e4
 rw [strOf_size] at hh
 have hx : ((xs.length : Int) == 0) = xs.isEmpty := by cases xs <;> simp; omega
 generalize (err == 0 && !en) = b at *
 cases b
 ·go_enter Tryz.func98, Tryz.ntmps98
  go_wp2_with (first | (go_at_call 103; refine hg.mono ?_; rintro e w' ⟨rfl, rfl⟩) | (go_at_call 102; refine hh.mono ?_; rintro e w' ⟨rfl, rfl⟩))
  all_goals go_ret
  all_goals exact ⟨rfl, rfl⟩
 ·go_enter Tryz.func98, Tryz.ntmps98
  go_wp2_with (go_at_call 103; refine hg.mono ?_; rintro e w' ⟨rfl, rfl⟩)
  all_goals go_ret
  all_goals exact ⟨rfl, rfl⟩
theorem own_alloc {w : World} {base n size : Nat} {e : TypeId} {v : Value} {xs : List Value} (h : w.ownsRow base e size v n xs) (o : Obj) : (w.alloc o).ownsRow base e size v n xs :=
 own_move h fun k hk => by obtain ⟨cells, hc⟩ := own_typed h k hk; exact Below.heap_alloc w o k (Array.getElem?_eq_some_iff.1 hc).1
theorem own_slice {w : World} {base n size : Nat} {e : TypeId} {v : Value} {xs : List Value} (h : w.ownsRow base e size v n xs) : ∃ A c, v = .slice A n c ∧ n ≤ c := by
 rcases h.2 with ⟨rfl, h0⟩ | ⟨g, cap, cur, rfl, _, _, hnc, _⟩
 ·exact ⟨none, 0, by rw [h0], by omega⟩
 ·exact ⟨_, _, rfl, hnc⟩
theorem own_ne {w : World} {base n size : Nat} {e : TypeId} {v : Value} {xs : List Value} (h : w.ownsRow base e size v n xs) : v.ownBlock ≠ some w.heap.size := fun e' => by
 obtain ⟨cells, hc⟩ := own_typed h _ e'
 have := (Array.getElem?_eq_some_iff.1 hc).1
 omega
theorem own_below {w w1 : World} {base n size : Nat} {e : TypeId} {v : Value} {xs : List Value} (h : w.ownsRow base e size v n xs) (hb : Below w.heap.size w w1) : w1.ownsRow base e size v n xs :=
 own_move h fun k hk => by obtain ⟨cells, hc⟩ := own_typed h k hk; exact hb.block k (Array.getElem?_eq_some_iff.1 hc).1
set_option maxRecDepth 100000 in
set_option maxHeartbeats 8000000 in
theorem noD (c : Int) (h : c < 1 ∨ 10 < c) (w : World) : Calls Tryz.prog 7 #[.int .i64 c] w fun e w' => e = .returned (.tuple #[.nilIface, .int .i64 11]) ∧ w' = w := by
 have n1 : ¬ c = 1 := by omega
 have n2 : ¬ c = 2 := by omega
 have n3 : ¬ c = 3 := by omega
 have n4 : ¬ c = 4 := by omega
 have n5 : ¬ c = 5 := by omega
 have n6 : ¬ c = 6 := by omega
 have n7 : ¬ c = 7 := by omega
 have n8 : ¬ c = 8 := by omega
 have n9 : ¬ c = 9 := by omega
 have n10 : ¬ c = 10 := by omega
 have m1 : (c == 1) = false := by simpa using n1
 have m2 : (c == 2) = false := by simpa using n2
 have m3 : (c == 3) = false := by simpa using n3
 have m4 : (c == 4) = false := by simpa using n4
 have m5 : (c == 5) = false := by simpa using n5
 have m6 : (c == 6) = false := by simpa using n6
 have m7 : (c == 7) = false := by simpa using n7
 have m8 : (c == 8) = false := by simpa using n8
 have m9 : (c == 9) = false := by simpa using n9
 have m10 : (c == 10) = false := by simpa using n10
 clear h
 go_enter Tryz.func7, Tryz.ntmps7
 go_wp2_with fail
 refine bodyPost_ret (results_list (rs := [.tmp 2, .tmp 3]) rfl (by simp) (.tmp (.tmp .nil))) rfl ?_
 exact ⟨rfl, rfl⟩
set_option maxRecDepth 100000 in
set_option maxHeartbeats 8000000 in
theorem noE (c : Int) (h : c < 1 ∨ 10 < c) (w : World) : Calls Tryz.prog 6 #[.int .i64 c] w fun e w' => e = .returned (.tuple #[.nilIface, .int .i64 11]) ∧ w' = w := by
 have n1 : ¬ c = 1 := by omega
 have n2 : ¬ c = 2 := by omega
 have n3 : ¬ c = 3 := by omega
 have n4 : ¬ c = 4 := by omega
 have n5 : ¬ c = 5 := by omega
 have n6 : ¬ c = 6 := by omega
 have n7 : ¬ c = 7 := by omega
 have n8 : ¬ c = 8 := by omega
 have n9 : ¬ c = 9 := by omega
 have n10 : ¬ c = 10 := by omega
 have m1 : (c == 1) = false := by simpa using n1
 have m2 : (c == 2) = false := by simpa using n2
 have m3 : (c == 3) = false := by simpa using n3
 have m4 : (c == 4) = false := by simpa using n4
 have m5 : (c == 5) = false := by simpa using n5
 have m6 : (c == 6) = false := by simpa using n6
 have m7 : (c == 7) = false := by simpa using n7
 have m8 : (c == 8) = false := by simpa using n8
 have m9 : (c == 9) = false := by simpa using n9
 have m10 : (c == 10) = false := by simpa using n10
 clear h
 go_enter Tryz.func6, Tryz.ntmps6
 go_wp2_with fail
 refine bodyPost_ret (results_list (rs := [.tmp 2, .tmp 3]) rfl (by simp) (.tmp (.tmp .nil))) rfl ?_
 exact ⟨rfl, rfl⟩
theorem scal_c (n : Int) (w : World) : Calls Tryz.prog 105 #[.int .u32 n] w fun e w' => e = .returned (.bool (isScal n)) ∧ Below w.heap.size w w' := by
 unfold isScal
 by_cases h1 : n ≤ 1114111
 ·have d1 : decide (n ≤ 1114111) = true := decide_eq_true h1
  by_cases h2 : n < 55296
  ·have d2 : decide (n < 55296) = true := decide_eq_true h2
   have d3 : decide (55296 ≤ n) = false := decide_eq_false (by omega)
   go_enter Tryz.func105, Tryz.ntmps105
   go_wp2
   go_ret
   exact ⟨by simp [d1, d3], Below.refl _ _⟩
  ·have d2 : decide (n < 55296) = false := decide_eq_false h2
   have d3 : decide (55296 ≤ n) = true := decide_eq_true (by omega)
   by_cases h3 : n ≤ 57343
   ·have d4 : decide (n > 57343) = false := decide_eq_false (by omega)
    have d5 : decide (n ≤ 57343) = true := decide_eq_true h3
    go_enter Tryz.func105, Tryz.ntmps105
    go_wp2
    go_ret
    exact ⟨by simp [d1, d3, d5], Below.refl _ _⟩
   ·have d4 : decide (n > 57343) = true := decide_eq_true (by omega)
    have d5 : decide (n ≤ 57343) = false := decide_eq_false h3
    go_enter Tryz.func105, Tryz.ntmps105
    go_wp2
    go_ret
    exact ⟨by simp [d1, d3, d5], Below.refl _ _⟩
 ·have d1 : decide (n ≤ 1114111) = false := decide_eq_false h1
  go_enter Tryz.func105, Tryz.ntmps105
  go_wp2
  go_ret
  exact ⟨by simp [d1], Below.refl _ _⟩
theorem give_l {g o : Nat} {T : TypeId} {cs : Array Value} {xs : List Int} {room : Int} {w : World} (hb : Blk w g T cs) (e : cs[o]? = some (.string (strOf xs))) :
  Calls Tryz.prog 104 #[.pointer (some ⟨g, o, none⟩), .int .i64 room] w fun e w' => e = .returned (.string (strOf (xs.take (giveZ room xs.length)))) ∧ w' = w.setCell ⟨g, o, none⟩ (.string (strOf (xs.drop (giveZ room xs.length)))) := by
 have h := give_c (room := room) hb e
 rw [strOf_size] at h
 rw [strOf_take, strOf_drop]
 exact h
theorem keep_l {g o : Nat} {T : TypeId} {cs : Array Value} {xs ys : List Int} {w : World} (hb : Blk w g T cs) (e : cs[o]? = some (.string (strOf xs))) (hs : xs.length + ys.length ≤ 140737488351232) :
  Calls Tryz.prog 107 #[.pointer (some ⟨g, o, none⟩), .string (strOf ys)] w fun e w' => e = .returned (.tuple #[]) ∧ w' = w.setCell ⟨g, o, none⟩ (.string (strOf (xs ++ ys))) := by
 have h := keep_c (t := strOf ys) hb e (by rw [strOf_size, strOf_size]; exact hs)
 rw [strOf_append]
 exact h
theorem kept_l {g o : Nat} {T : TypeId} {cs : Array Value} {xs : List Int} {w : World} (hb : Blk w g T cs) (e : cs[o]? = some (.string (strOf xs))) :
  Calls Tryz.prog 102 #[.pointer (some ⟨g, o, none⟩)] w fun e w' => e = .returned (.int .i64 xs.length) ∧ w = w' := by
 have h := kept_c hb e
 rw [strOf_size] at h
 exact h
theorem reads_eff {w w1 : World} {S : Nat → Prop} {A : Option Addr} {l : List Int} (h : ReadsInt w .u32 A l.length l) (he : Eff w w1 S) (hs : l ≠ [] → ∀ ad, A = some ad → ¬ S ad.block) : ReadsInt w1 .u32 A l.length l := by
 refine ⟨h.1, h.2.1, fun h0 => ?_⟩
 obtain ⟨ad, h1, h2⟩ := h.2.2 h0
 refine ⟨ad, h1, fun j hj => ?_⟩
 have hc := h2 j hj
 have hlt := World.block_lt_of_cell? w _ hc
 rw [add_block] at hlt
 have hb := he.block (ad.add j).block (by rw [add_block]; exact hlt) (by rw [add_block]; exact hs (fun e => by rw [e] at h0; exact absurd h0 (by decide)) ad h1)
 unfold World.cell? at hc ⊢
 rw [hb]
 exact hc
theorem reads_cells8 (w : World) (l : List Int) : ReadsInt (w.alloc (.cells (nums .u8 l).toArray 5 (0, 0))) .u8 (some ⟨w.heap.size, 0, none⟩) l.length l ∨ maxLen < l.length := by
 by_cases hl : l.length ≤ maxLen
 ·refine .inl ⟨rfl, by have : maxLen ≤ 9223372036854775807 := by decide
                       omega, fun _ => ⟨_, rfl, fun j hj => ?_⟩⟩
  have h := (Blk.new w 5 (nums .u8 l).toArray).cell (i := j) (v := .int .u8 (l.getD j 0)) (by
   simp [nums, List.getD_eq_getElem?_getD, List.getElem?_eq_getElem hj])
  unfold Addr.add
  split
  ·rename_i h0; subst h0; exact h
  ·simpa using h
 ·exact .inr (by omega)
theorem conv8 (w : World) (l : List Int) (c : Nat) (h : l.length ≤ 100) :
  (convert 80 9 (.slice (some ⟨w.heap.size, 0, none⟩) l.length c)).run Tryz.prog (w.alloc (.cells (nums .u8 l).toArray 5 (0, 0))) = .ok (.string (strOf l)) (w.alloc (.cells (nums .u8 l).toArray 5 (0, 0))) := by
 rcases reads_cells8 w l with hr | hr
 ·exact string_of_reads (P := Tryz.prog) Tryz.underlying80 Tryz.underlying5 Tryz.underlying9 (c := c) hr
 ·have : 100 ≤ maxLen := by decide
  omega
theorem conv8d (w : World) (l : List Int) (c : Nat) (h : l.length ≤ 100) :
  (convert 80 9 (.slice (some ⟨w.heap.size, 0, none⟩) l.length c)).run Tryz.prog (w.alloc (.cells (nums .u8 l).toArray 5 (0, 0))).drew = .ok (.string (strOf l)) (w.alloc (.cells (nums .u8 l).toArray 5 (0, 0))).drew := by
 rcases reads_cells8 w l with hr | hr
 ·exact string_of_reads (P := Tryz.prog) Tryz.underlying80 Tryz.underlying5 Tryz.underlying9 (c := c) (show ReadsInt (w.alloc (.cells (nums .u8 l).toArray 5 (0, 0))).drew .u8 _ l.length l from hr)
 ·have : 100 ≤ maxLen := by decide
  omega
theorem stop_not {g : Nat} {T : TypeId} {cs : Array Value} {err er : Int} {en : Bool} {w : World} (hb : Blk w g T cs) (e1 : cs[1]? = some (.int .i64 err)) (e3 : cs[3]? = some (.bool en)) (hn : (err == 0 && !en) = false) :
  Calls Tryz.prog 106 #[.pointer (some ⟨g, 0, none⟩), .int .i64 er] w fun e w' => e = .returned (.tuple #[]) ∧ w = w' := by
 have hg := going_c hb e1 e3
 rw [hn] at hg
 clear e1 e3 hb hn
 go_enter Tryz.func106, Tryz.ntmps106
 go_wp2_with (go_at_call 103; refine hg.mono ?_; rintro e w' ⟨rfl, rfl⟩)
 exact bodyPost_end (v := .tuple #[]) (by simp [results, Tryz.results106, go_sem]) rfl ⟨rfl, rfl⟩
def gcs {M : DMach} (d : DSt M) (lv : Value) (xs : List Value) : Array Value := List.toArray (.int .i64 d.pos :: .int .i64 d.err :: .int .i64 d.fat :: .bool d.en :: lv :: xs)
structure EOk (M : DMach) (E : World → List Value → M.St → (Nat → Prop) → Prop) : Prop where
 lt : ∀ {w xs st G}, E w xs st G → ∀ k, G k → k < w.heap.size
 eff : ∀ {w w1 : World} {xs st G S}, E w xs st G → Eff w w1 S → (∀ k, G k → ¬ S k) → E w1 xs st G
def GRep (T : TypeId) (M : DMach) (E : World → List Value → M.St → (Nat → Prop) → Prop) (w : World) (g : Nat) (F : Nat → Prop) (d : DSt M) : Prop :=
 ∃ lv st xs G, Blk w g T (gcs d lv xs) ∧ QRow w 0 47 1 lv d.held.length (nums .u32 d.held) ∧ (∀ k, F k ↔ k = g ∨ some k = lv.ownBlock ∨ G k) ∧ (d.err = 0 → st = d.st) ∧ E w xs st G ∧ ¬ G g ∧ (∀ k, lv.ownBlock = some k → ¬ G k)
section
variable {T : TypeId} {M : DMach} {E : World → List Value → M.St → (Nat → Prop) → Prop}
theorem GRep.lt (hE : EOk M E) {w : World} {g : Nat} {F : Nat → Prop} {d : DSt M} (h : GRep T M E w g F d) (k : Nat) (hk : F k) : k < w.heap.size := by
 obtain ⟨lv, st, xs, G, hb, hq, hF, hs, he, hg, hl⟩ := h
 rcases (hF k).1 hk with h | h | h
 ·rw [h]; exact hb.lt
 ·exact q_lt hq k h.symm
 ·exact hE.lt he k h
theorem GRep.eff (hE : EOk M E) {w w1 : World} {g : Nat} {F S : Nat → Prop} {d : DSt M} (h : GRep T M E w g F d) (hf : Eff w w1 S) (hS : ∀ k, F k → ¬ S k) : GRep T M E w1 g F d := by
 obtain ⟨lv, st, xs, G, hb, hq, hF, hs, he, hg, hl⟩ := h
 exact ⟨lv, st, xs, G, hb.eff hf (hS g ((hF g).2 (.inl rfl))), q_move hq fun k hk => hf.block k (q_lt hq k hk) (hS k ((hF k).2 (.inr (.inl hk.symm)))), hF, hs, hE.eff he hf fun k hk => hS k ((hF k).2 (.inr (.inr hk))), hg, hl⟩
theorem GRep.going {w : World} {g : Nat} {F : Nat → Prop} {d : DSt M} (h : GRep T M E w g F d) :
  Calls Tryz.prog 103 #[.pointer (some ⟨g, 0, none⟩)] w fun e w' => e = .returned (.bool d.going) ∧ w = w' := by
 obtain ⟨lv, st, xs, G, hb, _⟩ := h
 exact going_c (err := d.err) (en := d.en) hb rfl rfl
theorem GRep.held {w : World} {g : Nat} {F : Nat → Prop} {d : DSt M} (h : GRep T M E w g F d) :
  Calls Tryz.prog 192 #[.pointer (some ⟨g, 4, none⟩)] w fun e w' => e = .returned (.int .i64 d.held.length) ∧ w = w' := by
 obtain ⟨lv, st, xs, G, hb, hq, _⟩ := h
 obtain ⟨A, c, rfl, hc⟩ := q_slice hq
 exact held_c (o := 4) hb rfl
theorem GRep.done {w : World} {g : Nat} {F : Nat → Prop} {d : DSt M} (h : GRep T M E w g F d) :
  Calls Tryz.prog 189 #[.pointer (some ⟨g, 0, none⟩)] w fun e w' => e = .returned (.bool (!d.going && d.held.isEmpty)) ∧ w = w' := by
 obtain ⟨lv, st, xs, G, hb, hq, _⟩ := h
 exact indone_c (err := d.err) (en := d.en) hb rfl rfl rfl hq
theorem GRep.fail {w : World} {g : Nat} {F : Nat → Prop} {d : DSt M} (h : GRep T M E w g F d) :
  Calls Tryz.prog 100 #[.pointer (some ⟨g, 0, none⟩)] w fun e w' => e = .returned (.agg #[.int .i64 d.err, .int .i64 d.fat]) ∧ Below w.heap.size w w' := by
 obtain ⟨lv, st, xs, G, hb, _⟩ := h
 exact fail_c hb rfl rfl
theorem GRep.set (hE : EOk M E) (hT : T ≠ 47) {w : World} {g : Nat} {lv v : Value} {st : M.St} {xs : List Value} {G F : Nat → Prop} {d d1 : DSt M} (i : Nat) (hb : Blk w g T (gcs d lv xs)) (hq : QRow w 0 47 1 lv d.held.length (nums .u32 d.held)) (hF : ∀ k, F k ↔ k = g ∨ some k = lv.ownBlock ∨ G k)
  (he : E w xs st G) (hg : ¬ G g) (hl : ∀ k, lv.ownBlock = some k → ¬ G k) (hc : (gcs d lv xs).setIfInBounds i v = gcs d1 lv xs) (hh : d1.held = d.held) :
  Blk (w.setCell ⟨g, i, none⟩ v) g T (gcs d1 lv xs) ∧ QRow (w.setCell ⟨g, i, none⟩ v) 0 47 1 lv d1.held.length (nums .u32 d1.held) ∧ E (w.setCell ⟨g, i, none⟩ v) xs st G := by
 have hne := own_types hq hb (Ne.symm hT)
 have hf := Eff.set w g i v
 refine ⟨by rw [← hc]; exact hb.set i v, ?_, hE.eff he hf fun k hk e => hg (by rw [← e]; exact hk)⟩
 rw [hh]
 exact q_move hq fun k hk => hf.block k (q_lt hq k hk) fun e => hne (by rw [hk, e])
theorem GRep.eat (hE : EOk M E) (hT : T ≠ 47) {w : World} {g : Nat} {F : Nat → Prop} {d : DSt M} (h : GRep T M E w g F d) (hg : d.err = 0 ∧ d.en = false) (hp : d.pos ≤ 1000000000) :
  Calls Tryz.prog 109 #[.pointer (some ⟨g, 0, none⟩), .int .i64 1] w fun e w' => e = .returned (.tuple #[]) ∧ GRep T M E w' g F { d with pos := d.pos + 1 } ∧ Eff w w' F := by
 obtain ⟨lv, st, xs, G, hb, hq, hF, hs, he, hgg, hl⟩ := h
 refine (eat_c (n := d.pos) hb rfl (by show some (Value.int .i64 d.err) = _; rw [hg.1]) (by show some (Value.bool d.en) = _; rw [hg.2]) (by omega) (by omega)).mono ?_
 rintro e w' ⟨rfl, rfl⟩
 obtain ⟨h1, h2, h3⟩ := GRep.set (T := T) (v := .int .i64 ((d.pos : Int) + 1)) (d1 := { d with pos := d.pos + 1 }) hE hT 0 hb hq hF he hgg hl (by show List.toArray _ = List.toArray _; rw [Int.natCast_add]; rfl) rfl
 exact ⟨rfl, ⟨lv, st, xs, G, h1, h2, hF, hs, h3, hgg, hl⟩, (Eff.set _ _ _ _).mono fun k _ e => (hF k).2 (.inl e)⟩
theorem GRep.stop (hE : EOk M E) (hT : T ≠ 47) {w : World} {g : Nat} {F : Nat → Prop} {d : DSt M} (h : GRep T M E w g F d) (hg : d.err = 0 ∧ d.en = false) (er : Int) (hr : er ≠ 0) (st1 : M.St) :
  Calls Tryz.prog 106 #[.pointer (some ⟨g, 0, none⟩), .int .i64 er] w fun e w' => e = .returned (.tuple #[]) ∧ GRep T M E w' g F { d with err := er, fat := d.pos, st := st1 } ∧ Eff w w' F := by
 obtain ⟨lv, st, xs, G, hb, hq, hF, hs, he, hgg, hl⟩ := h
 refine (stop_c (n := d.pos) (z := d.fat) hr hb rfl (by show some (Value.int .i64 d.err) = _; rw [hg.1]) rfl (by show some (Value.bool d.en) = _; rw [hg.2])).mono ?_
 rintro e w' ⟨rfl, rfl⟩
 obtain ⟨h1, h2, h3⟩ := GRep.set (T := T) (v := .int .i64 er) (d1 := { d with err := er }) hE hT 1 hb hq hF he hgg hl rfl rfl
 obtain ⟨k1, k2, k3⟩ := GRep.set (T := T) (v := .int .i64 d.pos) (d1 := { d with err := er, fat := d.pos, st := st1 }) hE hT 2 h1 h2 hF h3 hgg hl rfl rfl
 exact ⟨rfl, ⟨lv, st, xs, G, k1, k2, hF, fun h => absurd h hr, k3, hgg, hl⟩, ((Eff.set _ _ _ _).trans (Eff.set _ _ _ _) (fun _ _ h => h)).mono fun k _ e => (hF k).2 (.inl e)⟩
theorem GRep.ending (hE : EOk M E) (hT : T ≠ 47) {w : World} {g : Nat} {F : Nat → Prop} {d : DSt M} (h : GRep T M E w g F d) (hg : d.err = 0 ∧ d.en = false) :
  Calls Tryz.prog 99 #[.pointer (some ⟨g, 0, none⟩)] w fun e w' => e = .returned (.tuple #[]) ∧ GRep T M E w' g F { d with en := true } ∧ Eff w w' F := by
 obtain ⟨lv, st, xs, G, hb, hq, hF, hs, he, hgg, hl⟩ := h
 refine (end_c hb (by show some (Value.int .i64 d.err) = _; rw [hg.1]) (by show some (Value.bool d.en) = _; rw [hg.2])).mono ?_
 rintro e w' ⟨rfl, rfl⟩
 obtain ⟨h1, h2, h3⟩ := GRep.set (T := T) (v := .bool true) (d1 := { d with en := true }) hE hT 3 hb hq hF he hgg hl rfl rfl
 exact ⟨rfl, ⟨lv, st, xs, G, h1, h2, hF, hs, h3, hgg, hl⟩, (Eff.set _ _ _ _).mono fun k _ e => (hF k).2 (.inl e)⟩
theorem GRep.ended {w : World} {g : Nat} {F : Nat → Prop} {d : DSt M} (h : GRep T M E w g F d) (hg : ¬ (d.err = 0 ∧ d.en = false)) :
  Calls Tryz.prog 99 #[.pointer (some ⟨g, 0, none⟩)] w fun e w' => e = .returned (.tuple #[]) ∧ w = w' := by
 obtain ⟨lv, st, xs, G, hb, _⟩ := h
 exact end_not (err := d.err) (en := d.en) hb rfl rfl (by
  rcases Bool.eq_false_or_eq_true (d.err == 0 && !d.en) with h | h
  ·simp at h; exact absurd h hg
  ·exact h)
theorem GRep.stopped {w : World} {g : Nat} {F : Nat → Prop} {d : DSt M} (h : GRep T M E w g F d) (hg : ¬ (d.err = 0 ∧ d.en = false)) (er : Int) :
  Calls Tryz.prog 106 #[.pointer (some ⟨g, 0, none⟩), .int .i64 er] w fun e w' => e = .returned (.tuple #[]) ∧ w = w' := by
 obtain ⟨lv, st, xs, G, hb, _⟩ := h
 exact stop_not (err := d.err) (en := d.en) hb rfl rfl (by
  rcases Bool.eq_false_or_eq_true (d.err == 0 && !d.en) with h | h
  ·simp at h; exact absurd h hg
  ·exact h)
theorem GRep.tell (hE : EOk M E) (hT : T ≠ 47) {w : World} {g : Nat} {F : Nat → Prop} {d : DSt M} (h : GRep T M E w g F d) (room : Int) (hl : d.held.length ≤ 10000000) :
  Calls Tryz.prog 194 #[.pointer (some ⟨g, 4, none⟩), .int .i64 room] w fun e w' => ∃ v F', e = .returned v ∧ w'.ownsRow w.heap.size 47 1 v (d.held.take (giveN room d.held.length)).length (nums .u32 (d.held.take (giveN room d.held.length))) ∧
   GRep T M E w' g F' (d.drop (giveN room d.held.length)) ∧ Eff w w' F ∧ (∀ k, F' k → F k) := by
 obtain ⟨lv, st, xs, G, hb, hq, hF, hs, he, hgg, hll⟩ := h
 refine (tell_c (o := 4) (lv := lv) (room := room) hT hb rfl hq (by omega)).mono ?_
 rintro e w' ⟨v, lv', rfl, ho, hb', hq', hlo, hf⟩
 refine ⟨v, fun k => k = g ∨ some k = lv'.ownBlock ∨ G k, rfl, ho, ⟨lv', st, xs, G, ?_, hq', fun _ => Iff.rfl, hs, hE.eff he hf fun k hk e => hgg (by rw [← e]; exact hk), hgg, fun k hk => ?_⟩, hf.mono fun k _ e => (hF k).2 (.inl e), fun k hk => ?_⟩
 ·exact hb'
 ·rcases hlo with h | h
  ·exact hll k (by rw [← h]; exact hk)
  ·rw [h] at hk; cases hk
 ·rcases hk with h | h | h
  ·exact (hF k).2 (.inl h)
  ·rcases hlo with h1 | h1
   ·exact (hF k).2 (.inr (.inl (by rw [← h1]; exact h)))
   ·rw [h1] at h; cases h
  ·exact (hF k).2 (.inr (.inr h))
theorem GRep.hold (hE : EOk M E) (hT : T ≠ 47) {w : World} {g : Nat} {F : Nat → Prop} {d : DSt M} (h : GRep T M E w g F d) {A : Option Addr} {c : Nat} {ys : List Int} (hr : ReadsInt w .u32 A ys.length ys) (hl : d.held.length + ys.length ≤ 10000000) :
  Calls Tryz.prog 195 #[.pointer (some ⟨g, 4, none⟩), .slice A ys.length c] w fun e w' => e = .returned (.tuple #[]) ∧ ∃ F', GRep T M E w' g F' { d with held := d.held ++ ys } ∧ Eff w w' F ∧ (∀ k, F' k → F k ∨ w.heap.size ≤ k) := by
 obtain ⟨lv, st, xs, G, hb, hq, hF, hs, he, hgg, hll⟩ := h
 refine (hold_c (o := 4) (lv := lv) hT hb rfl hq (Nat.zero_le _) hr (by omega)).mono ?_
 rintro e w' ⟨rfl, v1, hb', hq', hlo, hf⟩
 have hG : ∀ k, G k → ¬ (k = g ∨ some k = lv.ownBlock) := fun k hk h => h.elim (fun e => hgg (by rw [← e]; exact hk)) (fun e => hll k e.symm hk)
 refine ⟨rfl, fun k => k = g ∨ some k = v1.ownBlock ∨ G k, ⟨v1, st, xs, G, hb', hq', fun _ => Iff.rfl, hs, hE.eff he hf hG, hgg, fun k hk hGk => ?_⟩, hf.mono fun k _ e => ?_, fun k hk => ?_⟩
 ·rcases hlo with h | ⟨b, h, hbk⟩
  ·exact hll k (by rw [← h]; exact hk) hGk
  ·rw [h] at hk; injection hk with hk
   have := hE.lt he k hGk
   omega
 ·exact (hF k).2 (e.elim .inl fun e => .inr (.inl e))
 ·rcases hk with h | h | h
  ·exact .inl ((hF k).2 (.inl h))
  ·rcases hlo with h1 | ⟨b, h1, hbk⟩
   ·exact .inl ((hF k).2 (.inr (.inl (by rw [← h1]; exact h))))
   ·rw [h1] at h; injection h with h; exact .inr (by omega)
  ·exact .inl ((hF k).2 (.inr (.inr h)))
end
end Go.Proofs.YtppchdinolndmaaGreat
namespace Go.Proofs.YtppchdinolndmaaGreat
open Go.RowKit Go.Proofs.YtppchdinolndmaaGreatW.PrintWords Go.Proofs.YtppchdinolndmaaGreatW.PrintLast Go.Proofs.YtppchdinolndmaaGreatW.PrintMore Go.Proofs.YtppchdinolndmaaGreat.PPd
set_option linter.unusedVariables false
set_option linter.unusedSimpArgs false
theorem trail_tot (x : Int) : ∃ a b, diff_Trail.f 5 x = some (a, b) := by
 have h1 : ∀ b, ∃ a c, diff_Trail.j1 4 x b = some (a, c) := by
  intro b
  simp only [diff_Trail.j1]
  (repeat' split) <;> exact ⟨_, _, rfl⟩
 have h0 : ∀ b, ∃ a c, diff_Trail.j0 5 x b = some (a, c) := by
  intro b
  simp only [diff_Trail.j0]
  split
  ·exact ⟨_, _, rfl⟩
  ·split <;> exact h1 _
 unfold diff_Trail.f
 split
 ·exact ⟨_, _, rfl⟩
 ·split <;> exact h0 _
theorem first_tot (x : Int) : ∃ a b, diff_first.f x = some (a, b) ∧ 0 ≤ b ∧ b ≤ 3 := by
 unfold diff_first.f
 (repeat' split) <;> exact ⟨_, _, rfl, by decide, by decide⟩
theorem leo_some {α : Type} {a b : Option α} {x : α} (h : LeO a b) (ha : a = some x) : b = some x := by
 exact h _ ha
theorem trail_tot' (k : Nat) (hk : 5 ≤ k) (x : Int) : ∃ a b, diff_Trail.f k x = some (a, b) := by
 obtain ⟨a, b, h⟩ := trail_tot x
 refine ⟨a, b, ?_⟩
 obtain ⟨j, rfl⟩ : ∃ j, k = 5 + j := ⟨k - 5, by omega⟩
 clear hk
 induction j with
 | zero => exact h
 | succ j ih => exact leo_some (diff_Trail.mono x (5 + j)) ih
theorem loop_tot (s : ByteArray) (f t : Int) (ht : t ≤ 3) : ∀ (n : Nat) (k : Nat) (v sp i : Int), i = 4 - n → 1 ≤ i → n + 6 ≤ k → ∃ r, diff_Range.l0 k s f t v sp i = some r
 | 0, k, v, sp, i, hi, h1, hk => by
  obtain ⟨k, rfl⟩ : ∃ j, k = j + 1 := ⟨k - 1, by omega⟩
  simp only [diff_Range.l0]
  rw [if_neg (by omega)]
  exact ⟨_, rfl⟩
 | n + 1, k, v, sp, i, hi, h1, hk => by
  obtain ⟨k, rfl⟩ : ∃ j, k = j + 1 := ⟨k - 1, by omega⟩
  have hw : wrap64 (i + 1) = i + 1 := by unfold wrap64; omega
  simp only [diff_Range.l0]
  split
  ·split
   ·exact loop_tot s f t ht n k _ _ _ (by rw [hw]; omega) (by rw [hw]; omega) (by omega)
   ·rw [if_pos (by omega), if_pos (by omega)]
    obtain ⟨a, b, hab⟩ := trail_tot' k (by omega) (bt s i)
    rw [hab]
    simp only [Option.bind_some]
    split
    ·exact loop_tot s f t ht n k _ _ _ (by rw [hw]; omega) (by rw [hw]; omega) (by omega)
    ·exact ⟨_, rfl⟩
  ·exact ⟨_, rfl⟩
theorem range_tot (s : ByteArray) : ∃ r, diff_Range.f 30 s = some r := by
 have hj : ∀ b, 0 < (s.size : Int) → ∃ r, diff_Range.j0 30 s b = some r := by
  intro b hs
  simp only [diff_Range.j0]
  split
  ·exact ⟨_, rfl⟩
  ·(try rw [if_pos hs])
   obtain ⟨a, b, hab, h0, h1⟩ := first_tot (bt s 0)
   rw [hab]
   simp only [Option.bind_some]
   split
   ·exact ⟨_, rfl⟩
   ·exact loop_tot s a b h1 3 29 0 1 1 (by decide) (by decide) (by decide)
 unfold diff_Range.f
 split
 ·exact ⟨_, by simp only [diff_Range.j0]; rfl⟩
 ·rename_i h
  have hs : 0 < (s.size : Int) := by
   have : s.toList.length = s.size := by rw [ByteArray.toList_eq]; simp
   have h2 : s.toList.length ≠ 0 := fun e => h (List.eq_nil_of_length_eq_zero e)
   omega
  rw [if_pos hs]
  split
  ·exact hj _ hs
  ·exact hj _ hs
theorem range_len (s : ByteArray) (r : Int × Int × Int × Bool) (h : diff_Range.f 30 s = some r) (hr : r.2.2.2 = true) : s.size ≤ 4 := by
 have hj : ∀ b, 0 < (s.size : Int) → diff_Range.j0 30 s b = some r → s.size ≤ 4 := by
  intro b hs h
  simp only [diff_Range.j0] at h
  split at h
  ·injection h with h; rw [← h] at hr; cases hr
  ·(try rw [if_pos hs] at h)
   obtain ⟨a, t, hab, h0, h1⟩ := first_tot (bt s 0)
   rw [hab] at h
   simp only [Option.bind_some] at h
   split at h
   ·injection h with h; rw [← h] at hr; cases hr
   ·rename_i hc
    have hw : wrap64 (t + 1) = t + 1 := by unfold wrap64; omega
    rw [hw] at hc
    omega
 unfold diff_Range.f at h
 split at h
 ·simp only [diff_Range.j0] at h
  injection h with h
  rw [← h] at hr
  cases hr
 ·rename_i h2
  have hs : 0 < (s.size : Int) := by
   have : s.toList.length = s.size := by rw [ByteArray.toList_eq]; simp
   have h3 : s.toList.length ≠ 0 := fun e => h2 (List.eq_nil_of_length_eq_zero e)
   omega
  rw [if_pos hs] at h
  split at h
  ·exact hj _ hs h
  ·exact hj _ hs h
theorem prev_tot (c : Int) : ∃ r, diff_Prev.f 5 c = some r ∧ 0 ≤ r ∧ r ≤ 4294967295 := by
 have hj1 : ∀ b, ∃ r, diff_Prev.j1 4 c b = some r ∧ 0 ≤ r ∧ r ≤ 4294967295 := by
  intro b
  simp only [diff_Prev.j1]
  (repeat' split) <;> exact ⟨_, rfl, by omega, by omega⟩
 have hj0 : ∀ b, ∃ r, diff_Prev.j0 5 c b = some r ∧ 0 ≤ r ∧ r ≤ 4294967295 := by
  intro b
  simp only [diff_Prev.j0]
  split
  ·exact ⟨_, rfl, by omega, by omega⟩
  ·split <;> exact hj1 _
 unfold diff_Prev.f
 split <;> exact hj0 _
def rngB (part : List Int) : Int × Int × Int × Bool := (diff_Range.f 30 (strOf part)).getD (0, 0, 0, false)
def someB (lo hi : Int) : Bool := (bocu_some.f lo hi).getD false
def prevB (c : Int) : Int := (diff_Prev.f 5 c).getD 0
theorem rng_c (part : List Int) (w : World) : Calls Tryz.prog 227 #[.string (strOf part)] w fun e w' => e = .returned (.tuple #[.int .i64 (rngB part).1, .int .i64 (rngB part).2.1, .int .i64 (rngB part).2.2.1, .bool (rngB part).2.2.2]) ∧ Below w.heap.size w w' := by
 obtain ⟨⟨r1, r2, r3, r4⟩, h⟩ := range_tot (strOf part)
 have e : rngB part = (r1, r2, r3, r4) := by unfold rngB; rw [h]; rfl
 rw [e]
 refine (diff_Range.calls 30 _ r1 r2 r3 r4 w h).mono ?_
 rintro e w' ⟨rfl, ⟨nd, rfl⟩⟩
 exact ⟨rfl, below_drewN' (Below.refl _ _) nd⟩
theorem some_s (a0 a1 : Int) (w : World) : Calls Tryz.prog 228 #[.int .i64 a0, .int .i64 a1] w fun e w' => e = .returned (.bool (someB a0 a1)) ∧ w = w' := by
 have hB : someB a0 a1 = (if 55296 ≤ (if a0 < 33 then 33 else a0) ∧ (if a0 < 33 then 33 else a0) < 57344 then decide (57344 ≤ (if 1114111 < a1 then 1114111 else a1)) else decide ((if a0 < 33 then 33 else a0) ≤ (if 1114111 < a1 then 1114111 else a1))) := by
  unfold someB bocu_some.f mx mn
  split <;> split <;> (repeat' split) <;> simp_all <;> omega
 rw [hB]
 clear hB
 obtain ⟨a, ha⟩ : ∃ a, (if a0 < 33 then 33 else a0) = a := ⟨_, rfl⟩
 obtain ⟨b, hb⟩ : ∃ b, (if 1114111 < a1 then 1114111 else a1) = b := ⟨_, rfl⟩
 rw [ha, hb]
 by_cases c5 : 55296 ≤ a
 ·have d5 : decide (55296 ≤ a) = true := decide_eq_true c5
  by_cases c6 : a < 57344
  ·have d6 : decide (a < 57344) = true := decide_eq_true c6
   rw [if_pos ⟨c5, c6⟩]
   clear c5 c6
   go_enter Tryz.func228, Tryz.ntmps228
   go_wp2
   go_ret
   exact ⟨rfl, rfl⟩
  ·have d6 : decide (a < 57344) = false := decide_eq_false c6
   rw [if_neg (fun h => c6 h.2)]
   clear c5 c6
   go_enter Tryz.func228, Tryz.ntmps228
   go_wp2
   go_ret
   exact ⟨rfl, rfl⟩
 ·have d5 : decide (55296 ≤ a) = false := decide_eq_false c5
  rw [if_neg (fun h => c5 h.1)]
  clear c5
  go_enter Tryz.func228, Tryz.ntmps228
  go_wp2
  go_ret
  exact ⟨rfl, rfl⟩
theorem some_q (a0 a1 : Int) (w : World) : Calls Tryz.prog 228 #[.int .i64 a0, .int .i64 a1] w fun e w' => e = .returned (.bool (someB a0 a1)) ∧ w' = w := (some_s a0 a1 w).mono fun _ _ h => ⟨h.1, h.2.symm⟩
theorem prevB_range (c : Int) : 0 ≤ prevB c ∧ prevB c ≤ 4294967295 := by
 obtain ⟨r, h, h0, h1⟩ := prev_tot c
 have e : prevB c = r := by unfold prevB; rw [h]; rfl
 rw [e]; exact ⟨h0, h1⟩
theorem prev_c (c : Int) (w : World) : Calls Tryz.prog 155 #[.int .u32 c] w fun e w' => e = .returned (.int .u32 (prevB c)) ∧ Below w.heap.size w w' := by
 obtain ⟨r, h, h0, h1⟩ := prev_tot c
 have e : prevB c = r := by unfold prevB; rw [h]; rfl
 rw [e]
 exact (diff_Prev.calls 5 c r w h).mono fun e w' h => by
  first
   | exact h
   | (obtain ⟨rfl, ⟨nd, rfl⟩⟩ := h; exact ⟨rfl, below_drewN' (Below.refl _ _) nd⟩)
   | (obtain ⟨rfl, rfl⟩ := h; exact ⟨rfl, Below.refl _ _⟩)
theorem rngB_len (P : List Int) (h : (rngB P).2.2.2 = true) : P.length ≤ 4 := by
 obtain ⟨r, hr⟩ := range_tot (strOf P)
 have e : rngB P = r := by unfold rngB; rw [hr]; rfl
 rw [e] at h
 have := range_len _ r hr h
 rw [strOf_size] at this
 exact this
def nextB (st : Int × List Int) (b : Int) : Option ((Int × List Int) × List Int) :=
 if st.2 = [] ∧ b = 255 then some ((64, []), [])
 else if st.2 = [] ∧ b ≤ 32 then some ((if b < 32 then 64 else st.1, []), [b])
 else if (rngB (st.2 ++ [b])).2.2.2 = false ∨ someB (wrap64 (st.1 + (rngB (st.2 ++ [b])).1)) (wrap64 (st.1 + (rngB (st.2 ++ [b])).2.1)) = false then none
 else if ((st.2 ++ [b]).length : Int) = (rngB (st.2 ++ [b])).2.2.1 then some ((prevB ((wrap64 (st.1 + (rngB (st.2 ++ [b])).1) % 4294967296)), []), [(wrap64 (st.1 + (rngB (st.2 ++ [b])).1) % 4294967296)])
 else some ((st.1, st.2 ++ [b]), [])
def DB : DMach := ⟨Int × List Int, (64, []), nextB, fun st => if st.2 = [] then some [] else none⟩
theorem DB_one (st : DB.St) (b : Int) (st' : DB.St) (l : List Int) (h : DB.next st b = some (st', l)) : l.length ≤ 1 := by
 have h' : nextB st b = some (st', l) := h
 unfold nextB at h'
 (repeat' split at h') <;> first | (cases h'; done) | (injection h' with h'; injection h' with _ h'; rw [← h']; decide) | (injection h' with h'; injection h' with _ h'; rw [← h']; simp)
def EB (w : World) (xs : List Value) (st : DB.St) (G : Nat → Prop) : Prop := xs = [.int .u32 st.1, .string (strOf st.2)] ∧ (0 ≤ st.1 ∧ st.1 ≤ 4294967295) ∧ st.2.length ≤ 1000000 ∧ ∀ k, ¬ G k
theorem EB_ok : EOk DB EB := ⟨fun h k hk => absurd hk (h.2.2.2 k), fun h _ _ => h⟩
end Go.Proofs.YtppchdinolndmaaGreat
namespace Go.Proofs.YtppchdinolndmaaGreat
open Go.RowKit Go.Proofs.YtppchdinolndmaaGreatW.PrintWords
set_option linter.unusedVariables false
set_option linter.unusedSimpArgs false
def NextP {M : DMach} (T : TypeId) (E : World → List Value → M.St → (Nat → Prop) → Prop) (w : World) (g : Nat) (F : Nat → Prop) (d : DSt M) (r : Option (M.St × List Int)) (e : Ending) (w' : World) : Prop :=
 ∃ F', (match r with
  | none => e = .returned (.bool false) ∧ ∃ s, GRep T M E w' g F' { d with st := s }
  | some (s, l) => e = .returned (.bool true) ∧ GRep T M E w' g F' { d with st := s, held := d.held ++ l }) ∧ Eff w w' F ∧ (∀ k, F' k → F k ∨ w.heap.size ≤ k)
theorem reads_u32 (w : World) (x : Int) : ReadsInt (w.alloc (.cells #[.int .u32 x] 47 (0, 0))) .u32 (some ⟨w.heap.size, 0, none⟩) 1 [x] := by
 refine ⟨rfl, by decide, fun _ => ⟨_, rfl, fun k hk => ?_⟩⟩
 obtain rfl : k = 0 := by omega
 rw [Addr.add_lit]
 exact (Blk.new w 47 #[.int .u32 x]).cell rfl
theorem GRep.xset {T : TypeId} {M : DMach} (hT : T ≠ 47) (w : World) {g : Nat} {d : DSt M} {lv : Value} {xs : List Value} (i : Nat) (v : Value) (hb : Blk w g T (gcs d lv xs)) (hq : QRow w 0 47 1 lv d.held.length (nums .u32 d.held)) :
  Blk (w.setCell ⟨g, i + 5, none⟩ v) g T (gcs d lv (xs.set i v)) ∧ QRow (w.setCell ⟨g, i + 5, none⟩ v) 0 47 1 lv d.held.length (nums .u32 d.held) := by
 have hne := own_types hq hb (Ne.symm hT)
 have hf := Eff.set w g (i + 5) v
 refine ⟨?_, q_move hq fun k hk => hf.block k (q_lt hq k hk) fun e => hne (by rw [hk, e])⟩
 have h := hb.set (i + 5) v
 unfold gcs at h ⊢
 rw [List.setIfInBounds_toArray] at h
 exact h
set_option maxRecDepth 100000 in
set_option maxHeartbeats 30000000 in
theorem feedG {T : TypeId} {M : DMach} {E : World → List Value → M.St → (Nat → Prop) → Prop} (eok : EOk M E) (hT : T ≠ 47) (one : ∀ st b st' l, M.next st b = some (st', l) → l.length ≤ 1) (fF fN : Nat)
  (hc : (fF = 191 ∧ fN = 193) ∨ (fF = 198 ∧ fN = 199) ∨ (fF = 202 ∧ fN = 203) ∨ (fF = 207 ∧ fN = 209) ∨ (fF = 225 ∧ fN = 226) ∨ (fF = 232 ∧ fN = 233))
  (nx : ∀ {w : World} {g : Nat} {F : Nat → Prop} {d : DSt M} (b : Int), GRep T M E w g F d → 0 ≤ b → b ≤ 255 → (d.err = 0 ∧ d.en = false) → d.held.length ≤ 9000000 → Calls Tryz.prog fN #[.pointer (some ⟨g, 0, none⟩), .int .u8 b] w (NextP T E w g F d (M.next d.st b)))
  {w : World} {g : Nat} {F : Nat → Prop} {d : DSt M} (s : ByteArray) (room : Int) (h : GRep T M E w g F d) (hp : d.pos + s.size ≤ 1000000) (hh : d.held.length + s.size ≤ 1000000) :
  Calls Tryz.prog fF #[.pointer (some ⟨g, 0, none⟩), .string s, .int .i64 room] w fun e w' => ∃ v F', e = .returned (.tuple #[.int .i64 (feedD M room (bytesOf s) d).1, v]) ∧
   w'.ownsRow w.heap.size 47 1 v ((feedD M room (bytesOf s) d).2.held.take (giveN room (feedD M room (bytesOf s) d).2.held.length)).length (nums .u32 ((feedD M room (bytesOf s) d).2.held.take (giveN room (feedD M room (bytesOf s) d).2.held.length))) ∧
   GRep T M E w' g F' ((feedD M room (bytesOf s) d).2.drop (giveN room (feedD M room (bytesOf s) d).2.held.length)) ∧ Eff w w' F ∧ (∀ k, F' k → F k ∨ w.heap.size ≤ k) := by
 rcases hc with ⟨rfl, rfl⟩ | ⟨rfl, rfl⟩ | ⟨rfl, rfl⟩ | ⟨rfl, rfl⟩ | ⟨rfl, rfl⟩ | ⟨rfl, rfl⟩
 all_goals
  have HH := Lib.hid h
  have HP := Lib.hid (And.intro hp hh)
  have hbl := bytesOf_length s
  have HBL := Lib.hid hbl
  clear h hp hh hbl
  first | go_enter Tryz.func191, Tryz.ntmps191 | go_enter Tryz.func198, Tryz.ntmps198 | go_enter Tryz.func202, Tryz.ntmps202 | go_enter Tryz.func207, Tryz.ntmps207 | go_enter Tryz.func225, Tryz.ntmps225 | go_enter Tryz.func232, Tryz.ntmps232
  go_upto_block 0 with fail
  go_cut [8] (fun s8 wx => ∃ (k : Nat) (D : DSt M) (F1 : Nat → Prop), s8 = .int .i64 k ∧ Hid (feedD M room (bytesOf s) d = (k, D) ∧ D.held.length ≤ 1000000) ∧ Hid (GRep T M E wx g F1 D) ∧ Hid (Eff w wx F ∧ ∀ k, F1 k → F k ∨ w.heap.size ≤ k))
  case first =>
   go_wp2_with fail
   go_loopg [8] s.size (fun kq s8 wx => ∃ (k : Nat) (D : DSt M) (F1 : Nat → Prop), s8 = .int .i64 k ∧ Hid (kq = s.size - k) ∧ Hid (FD M room (bytesOf s) d k D) ∧ Hid (GRep T M E wx g F1 D) ∧ Hid (Eff w wx F ∧ ∀ k, F1 k → F k ∨ w.heap.size ≤ k))
   case atStart => exact ⟨0, d, F, rfl, Lib.hid rfl, Lib.hid (FD.start _ _ _ _), HH, Lib.hid ⟨Eff.refl _ _, fun _ h => .inl h⟩⟩
   case round =>
    obtain ⟨k, D, F1, rfl, HK, HFD, HR, HE⟩ := hrel
    have hk0 : (0 : Int) ≤ (k : Int) := by omega
    have HB := Lib.hid (And.intro HFD.out.pos (And.intro HFD.out.held (And.intro HFD.out.le (And.intro HBL.out HP.out))))
    have HD1 : Hid (D.held.length ≤ 1000000) := Lib.hid (by obtain ⟨a1, a2, a3, a4, a5⟩ := HB.out; omega)
    by_cases hk : k < s.size
    ·have hk1 : (k : Int) < (s.size : Int) := by omega
     have HHD := Lib.hid HR.out.held
     by_cases hr : (D.held.length : Int) < room
     ·have HGC := Lib.hid HR.out.going
      by_cases hg : D.err = 0 ∧ D.en = false
      ·have HG := Lib.hid hg
       have hgt : D.going = true := by unfold DSt.going; rw [hg.1, hg.2]; rfl
       rw [hgt] at HGC
       clear hg hgt
       have hx : (bytesOf s).getD k 0 = bt s (k : Int) := by rw [← rd_bytesOf]; simp [rd]
       obtain ⟨x, hxe⟩ : ∃ x, bt s (k : Int) = x := ⟨_, rfl⟩
       have hxr : 0 ≤ x ∧ x ≤ 255 := by
        rw [← hxe]; unfold bt
        split
        ·rename_i hq
         have := (s[(k : Int).toNat]'hq).toNat_lt
         omega
        ·omega
       rw [hxe] at hx
       have HX := Lib.hid hx
       have HXR := Lib.hid hxr
       have HN := Lib.hid (nx x HR.out HXR.out.1 HXR.out.2 HG.out (by have := HD1.out; omega))
       have hbx : ∀ h : k < s.size, (((s[k]'h).toNat : Nat) : Int) = x := fun h => by
        have := bt_at s (k : Int) (by rw [Int.toNat_natCast]; exact h)
        rw [hxe] at this
        simpa using this
       have hbx1 := hbx hk
       clear hx hxe hxr hbx
       cases hn : M.next D.st x with
       | none =>
        rw [hn] at HN
        have HNN := Lib.hid hn
        clear hn
        go_upto_region 4 with (first
         | (go_at_call 192; refine HHD.out.mono ?_; rintro e w1 ⟨rfl, rfl⟩)
         | (go_at_call 103; refine HGC.out.mono ?_; rintro e w1 ⟨rfl, rfl⟩)
         | ((first | go_at_call 193 | go_at_call 199 | go_at_call 203 | go_at_call 209 | go_at_call 226 | go_at_call 233); (try rw [hbx1]); refine HN.out.mono ?_; rintro e w2 ⟨F2, ⟨rfl, st2, hr2⟩, he2, hf2⟩))
        have HST := Lib.hid (GRep.stop eok hT hr2 (show D.err = 0 ∧ D.en = false from HG.out) 3 (by decide) D.st)
        have HE2 := Lib.hid he2
        have HF2 := Lib.hid hf2
        clear hr2 he2 hf2
        go_wp2_with (go_at_call 106; refine HST.out.mono ?_; rintro e w3 ⟨rfl, hr3, he3⟩)
        go_meet
        refine ⟨k, _, F2, rfl, Lib.hid ⟨HFD.out.bad (by rw [HBL.out]; exact hk) ⟨hr, HG.out⟩ (by rw [HX.out]; exact HNN.out), HD1.out⟩, Lib.hid hr3, Lib.hid ⟨?_, fun j hj => ?_⟩⟩
        ·exact (HE.out.1.trans HE2.out (fun j hj h => (HE.out.2 j h).elim id (fun h2 => by omega))).trans he3 (fun j hj h => (HF2.out j h).elim (fun h => (HE.out.2 j h).elim id (fun h2 => by omega)) (fun h2 => by have := HE.out.1.size; omega))
        ·exact (HF2.out j hj).elim (HE.out.2 j) (fun h2 => .inr (Nat.le_trans HE.out.1.size h2))
       | some p =>
        obtain ⟨sn, ql⟩ := p
        rw [hn] at HN
        have HNN := Lib.hid hn
        clear hn
        go_upto_region 5 with (first
         | (go_at_call 192; refine HHD.out.mono ?_; rintro e w1 ⟨rfl, rfl⟩)
         | (go_at_call 103; refine HGC.out.mono ?_; rintro e w1 ⟨rfl, rfl⟩)
         | ((first | go_at_call 193 | go_at_call 199 | go_at_call 203 | go_at_call 209 | go_at_call 226 | go_at_call 233); (try rw [hbx1]); refine HN.out.mono ?_; rintro e w2 ⟨F2, ⟨rfl, hr2⟩, he2, hf2⟩))
        have HEA := Lib.hid (GRep.eat eok hT hr2 (show D.err = 0 ∧ D.en = false from HG.out) (by obtain ⟨a1, a2, a3, a4, a5⟩ := HB.out; show D.pos ≤ 1000000000; omega))
        have HE2 := Lib.hid he2
        have HF2 := Lib.hid hf2
        have hkb : (k : Int) ≤ 1000000 := by obtain ⟨a1, a2, a3, a4, a5⟩ := HB.out; omega
        clear hr2 he2 hf2
        go_wp2_with (go_at_call 109; refine HEA.out.mono ?_; rintro e w3 ⟨rfl, hr3, he3⟩)
        go_roundg (s.size - (k + 1))
        case measure => have := HK.out; omega
        case rel =>
         refine ⟨k + 1, _, F2, by go_num, Lib.hid rfl, Lib.hid (HFD.out.eat (by rw [HBL.out]; exact hk) ⟨hr, HG.out⟩ (by rw [HX.out]; exact HNN.out) (one _ _ _ _ HNN.out)), Lib.hid hr3, Lib.hid ⟨?_, fun j hj => ?_⟩⟩
         ·exact (HE.out.1.trans HE2.out (fun j hj h => (HE.out.2 j h).elim id (fun h2 => by omega))).trans he3 (fun j hj h => (HF2.out j h).elim (fun h => (HE.out.2 j h).elim id (fun h2 => by omega)) (fun h2 => by have := HE.out.1.size; omega))
         ·exact (HF2.out j hj).elim (HE.out.2 j) (fun h2 => .inr (Nat.le_trans HE.out.1.size h2))
      ·have HG := Lib.hid hg
       have hgf : D.going = false := by
        unfold DSt.going
        rcases Bool.eq_false_or_eq_true (D.err == 0 && !D.en) with h | h
        ·simp at h; exact absurd h hg
        ·exact h
       rw [hgf] at HGC
       clear hg hgf
       go_wp2_with (first
        | (go_at_call 192; refine HHD.out.mono ?_; rintro e w1 ⟨rfl, rfl⟩)
        | (go_at_call 103; refine HGC.out.mono ?_; rintro e w1 ⟨rfl, rfl⟩))
       go_meet
       exact ⟨k, D, F1, rfl, Lib.hid ⟨HFD.out.stop (fun h => HG.out h.2), HD1.out⟩, HR, HE⟩
     ·have hrf : decide ((D.held.length : Int) < room) = false := decide_eq_false hr
      have HRN := Lib.hid hr
      clear hr
      go_wp2_with (go_at_call 192; refine HHD.out.mono ?_; rintro e w1 ⟨rfl, rfl⟩)
      go_meet
      exact ⟨k, D, F1, rfl, Lib.hid ⟨HFD.out.stop (fun h => by have h1 := HRN.out; have h2 := h.1; omega), HD1.out⟩, HR, HE⟩
    ·have hk1 : ¬ (k : Int) < (s.size : Int) := by omega
     have HKK := Lib.hid hk
     clear hk
     go_wp2_with fail
     go_meet
     exact ⟨k, D, F1, rfl, Lib.hid ⟨HFD.out.all (by rw [HBL.out]; exact HKK.out), HD1.out⟩, HR, HE⟩
  case rest =>
   obtain ⟨k, D, F1, rfl, HFD, HR, HE⟩ := hcut
   have HTL := Lib.hid (GRep.tell eok hT HR.out room (by have := HFD.out.2; omega))
   go_wp2_with (go_at_call 194; refine HTL.out.mono ?_; rintro e w1 ⟨v, F2, rfl, ho, hr2, he2, hf2⟩)
   refine bodyPost_ret (v := .tuple #[.int .i64 k, v]) (by simp [results, Tryz.results191, Tryz.results198, Tryz.results202, Tryz.results207, Tryz.results225, Tryz.results232, go_sem]) rfl ?_
   rw [HFD.out.1]
   refine ⟨v, F2, rfl, ?_, hr2, HE.out.1.trans he2 (fun j hj h => (HE.out.2 j h).elim id (fun h2 => by omega)), fun j hj => HE.out.2 j (hf2 j hj)⟩
   obtain ⟨o1, o2⟩ := ho
   refine ⟨o1, ?_⟩
   rcases o2 with h | ⟨g1, cap, cur, h2, h3, h4, h5⟩
   ·exact .inl h
   ·exact .inr ⟨g1, cap, cur, h2, Nat.le_trans HE.out.1.size h3, h4, h5⟩
abbrev TDB : TypeId := 135
theorem putB {w : World} {g : Nat} {F : Nat → Prop} {d : DSt DB} (h : GRep TDB DB EB w g F d) (he : d.err = 0) (p : Int) (part : List Int) (hp : 0 ≤ p ∧ p ≤ 4294967295) (hl : part.length ≤ 1000000) :
  GRep TDB DB EB ((w.setCell ⟨g, 5, none⟩ (.int .u32 p)).setCell ⟨g, 6, none⟩ (.string (strOf part))) g F { d with st := (p, part) } ∧ Eff w ((w.setCell ⟨g, 5, none⟩ (.int .u32 p)).setCell ⟨g, 6, none⟩ (.string (strOf part))) F ∧
  w.cell? ⟨g, 5, none⟩ = some (.int .u32 d.st.1) ∧ w.cell? ⟨g, 6, none⟩ = some (.string (strOf d.st.2)) ∧ ∀ i, w.frozen? ⟨g, i, none⟩ = false := by
 obtain ⟨lv, st, xs, G, hb, hq, hF, hs, ⟨rfl, _, _, hG⟩, hgg, hll⟩ := h
 obtain rfl := hs he
 obtain ⟨k1, k2⟩ := GRep.xset (by decide) w 0 (.int .u32 p) hb hq
 obtain ⟨k3, k4⟩ := GRep.xset (by decide) _ 1 (.string (strOf part)) k1 k2
 exact ⟨⟨lv, (p, part), _, G, k3, k4, hF, fun _ => rfl, ⟨rfl, hp, hl, hG⟩, hgg, hll⟩, ((Eff.set _ _ _ _).trans (Eff.set _ _ _ _) (fun _ _ h => h)).mono fun k _ e => (hF k).2 (.inl e), hb.cell rfl, hb.cell rfl, hb.frozen⟩
set_option maxRecDepth 100000 in
set_option maxHeartbeats 4000000 in
theorem nextB_c {w : World} {g : Nat} {F : Nat → Prop} {d : DSt DB} (b : Int) (h : GRep TDB DB EB w g F d) (h0 : 0 ≤ b) (h1 : b ≤ 255) (hg : d.err = 0 ∧ d.en = false) (hl : d.held.length ≤ 9000000) :
  Calls Tryz.prog 226 #[.pointer (some ⟨g, 0, none⟩), .int .u8 b] w (NextP TDB EB w g F d (DB.next d.st b)) := by
 have HH := Lib.hid h
 obtain ⟨lv, st, xs, G, hb, hq, hF, hs, ⟨rfl, hp, hpl, hG⟩, hgg, hll⟩ := h
 obtain rfl := hs hg.1
 obtain ⟨st, hst⟩ : ∃ st, d.st = st := ⟨_, rfl⟩
 rw [hst] at hb hp hpl ⊢
 obtain ⟨prev, part⟩ := st
 simp only at hb hp hpl
 have c5 : w.cell? ⟨g, 5, none⟩ = some (.int .u32 prev) := hb.cell rfl
 have c6 : w.cell? ⟨g, 6, none⟩ = some (.string (strOf part)) := hb.cell rfl
 have hf := hb.frozen
 have HB := Lib.hid hb
 have HQ := Lib.hid hq
 have HF := Lib.hid hF
 have HG := Lib.hid hG
 have HLL := Lib.hid hll
 have HST := Lib.hid hst
 have hp1 := hp.1
 have hp2 := hp.2
 have HPL := Lib.hid hpl
 have hdn : DB.next (prev, part) b = nextB (prev, part) b := rfl
 rw [hdn]
 clear hb hq hF hG hgg hll hst hs hdn hp
 by_cases hA : part = [] ∧ b = 255
 ·obtain ⟨rfl, rfl⟩ := hA
  have he : strOf [] = ⟨#[]⟩ := rfl
  rw [he] at c6
  have hn : nextB (prev, []) 255 = some ((64, []), []) := rfl
  rw [hn]
  go_enter Tryz.func226, Tryz.ntmps226
  go_wp2_with fail
  go_ret
  obtain ⟨k1, k2⟩ := GRep.xset (by decide) w 0 (.int .u32 64) HB.out HQ.out
  exact ⟨F, ⟨rfl, lv, (64, []), _, G, k1, by simpa using k2, HF.out, fun _ => rfl, ⟨rfl, by decide, by decide, HG.out⟩, HG.out g, fun k _ => HG.out k⟩, (Eff.set _ _ _ _).mono fun k _ e => (HF.out k).2 (.inl e), fun k h => .inl h⟩
 by_cases hC : part = [] ∧ b ≤ 32
 ·obtain ⟨rfl, hb32⟩ := hC
  have hb255 : b ≠ 255 := by omega
  have he : strOf [] = ⟨#[]⟩ := rfl
  rw [he] at c6
  have hn : nextB (prev, []) b = some ((if b < 32 then 64 else prev, []), [b]) := by unfold nextB; rw [if_neg (by simp [hb255]), if_pos ⟨rfl, hb32⟩]
  rw [hn]
  have HA := Lib.hid (HH.out.eff EB_ok (Eff.alloc w (.cells #[.int .u32 b] 47 (0, 0)) (fun _ => False)) (fun _ _ h => h))
  have HHO := Lib.hid (GRep.hold EB_ok (by decide) HA.out (c := 1) (reads_u32 w b) (by simp; omega))
  have hb255' : (b == 255) = false := by simpa using hb255
  by_cases hb31 : b < 32
  ·rw [if_pos hb31]
   go_enter Tryz.func226, Tryz.ntmps226
   go_upto_region 8 with (go_at_call 195; refine HHO.out.mono ?_; rintro e w2 ⟨rfl, F2, hr2, he2, hf2⟩)
   obtain ⟨lv2, st2, xs2, G2, hb2, hq2, hF2, hs2, ⟨rfl, hp2', hpl2, hG2⟩, hgg2, hll2⟩ := hr2
   have hst2 : st2 = (prev, []) := (hs2 hg.1).trans HST.out
   subst hst2
   have c52 : w2.cell? ⟨g, 5, none⟩ = some (.int .u32 prev) := hb2.cell rfl
   have hf2' := hb2.frozen
   obtain ⟨k1, k2⟩ := GRep.xset (by decide) w2 (d := { d with held := d.held ++ [b] }) 0 (.int .u32 64) hb2 hq2
   have HK := Lib.hid (And.intro k1 k2)
   have HX := Lib.hid (And.intro hF2 (And.intro hG2 (And.intro he2 hf2)))
   clear hb2 hq2 hF2 hG2 he2 hf2 k1 k2 hgg2 hll2 hs2
   go_wp2_with fail
   go_ret
   obtain ⟨x1, x2, x3, x4⟩ := HX.out
   obtain ⟨k1, k2⟩ := HK.out
   refine ⟨F2, ⟨rfl, lv2, (64, []), _, G2, k1, k2, x1, fun _ => rfl, ⟨rfl, by decide, by decide, x2⟩, x2 g, fun k _ => x2 k⟩, ((Eff.alloc w _ F).trans x3 (fun _ _ h => h)).trans (Eff.set _ _ _ _) (fun k hk e => ?_), fun k h => (x4 k h).elim .inl fun h => .inr (Nat.le_trans (by simp) h)⟩
   rw [e]; exact (HF.out g).2 (.inl rfl)
  ·rw [if_neg hb31]
   go_enter Tryz.func226, Tryz.ntmps226
   go_wp2_with (go_at_call 195; refine HHO.out.mono ?_; rintro e w2 ⟨rfl, F2, hr2, he2, hf2⟩)
   go_ret
   refine ⟨F2, ⟨rfl, ?_⟩, (Eff.alloc w _ F).trans he2 (fun _ _ h => h), fun k h => (hf2 k h).elim .inl fun h => .inr (Nat.le_trans (by simp) h)⟩
   have e : { d with st := (prev, ([] : List Int)), held := d.held ++ [b] } = { d with held := d.held ++ [b] } := by rw [← HST.out]
   exact e ▸ hr2
 obtain ⟨S, hS⟩ : ∃ S, strOf part = S := ⟨_, rfl⟩
 rw [hS] at c6
 have HS := Lib.hid hS
 clear hS
 go_enter Tryz.func226, Tryz.ntmps226
 go_upto_if 15 with fail
 go_cut [] (fun wx => wx = w)
 case first =>
  by_cases hpt : part = []
  ·subst hpt
   have hSe : S = ⟨#[]⟩ := HS.out.symm
   subst hSe
   have hb255 : (b == 255) = false := by simp; exact fun e => hA ⟨rfl, e⟩
   have hb32 : ¬ b ≤ 32 := fun e => hC ⟨rfl, e⟩
   go_wp2_with fail
   all_goals go_meet
   all_goals rfl
  ·have hpe : ¬ S.toList = [] := fun e => hpt (by
    have h2 : (strOf part).toList.length = (strOf part).size := by rw [ByteArray.toList_eq]; simp
    rw [HS.out, e, ← HS.out, strOf_size] at h2
    exact List.eq_nil_of_length_eq_zero h2.symm)
   have hpd : decide (S.toList = []) = false := decide_eq_false hpe
   have hpi : S.toList.isEmpty = false := by cases h : S.toList with | nil => exact absurd h hpe | cons a r => rfl
   rw [hpi]
   go_wp2_with fail
   all_goals go_meet
   all_goals rfl
 case rest =>
  obtain rfl := hcut.symm
  clear hcut
  have hSz : S.size ≤ 1000000 := by rw [← HS.out, strOf_size]; exact HPL.out
  have hcv := fun W => conv8 W [b] 1 (by simp)
  simp only [nums, List.map_cons, List.map_nil, List.length_cons, List.length_nil, Nat.zero_add] at hcv
  have hcd := conv8d w [b] 1 (by simp)
  simp only [nums, List.map_cons, List.map_nil, List.length_cons, List.length_nil, Nat.zero_add] at hcd
  have c6a : (w.alloc (.cells #[.int .u8 b] 5 (0, 0))).drew.cell? ⟨g, 6, none⟩ = some (.string S) := by
   rw [← HS.out]
   exact (HB.out.alloc (.cells #[.int .u8 b] 5 (0, 0))).cell (i := 6) rfl
  have hz1 : (strOf [b]).size = 1 := strOf_size [b]
  go_upto_region 10 with fail
  go_cut [5] (fun s5 wx => s5 = .string (strOf (part ++ [b])) ∧ Hid (Below w.heap.size w wx))
  case first =>
   go_region_with fail
   all_goals (go_wp2_with fail; go_meet)
   all_goals exact ⟨by rw [strOf_append, HS.out], Lib.hid (by first | exact below_drew1 (below_new (Below.refl _ _) _) | exact below_new (below_drew1 (Below.refl _ _)) _)⟩
  case rest =>
   obtain ⟨rfl, HB1⟩ := hcut
   clear hcv hcd c6a hz1 c5 c6 hSz
   obtain ⟨P, hP⟩ : ∃ P, part ++ [b] = P := ⟨_, rfl⟩
   have hPl : P.length ≤ 1000001 := by rw [← hP, List.length_append]; have := HPL.out; simp; omega
   have hnx : nextB (prev, part) b = if (rngB P).2.2.2 = false ∨ someB (wrap64 (prev + (rngB P).1)) (wrap64 (prev + (rngB P).2.1)) = false then none
     else if (P.length : Int) = (rngB P).2.2.1 then some ((prevB ((wrap64 (prev + (rngB P).1) % 4294967296)), []), [(wrap64 (prev + (rngB P).1) % 4294967296)]) else some ((prev, P), []) := by
    unfold nextB
    simp only [hP]
    rw [if_neg hA, if_neg hC]
   rw [hP]
   have HPP := Lib.hid hP
   clear hP
   have hrc := rng_c P wc
   have hrl := rngB_len P
   obtain ⟨R, hR⟩ : ∃ R, rngB P = R := ⟨_, rfl⟩
   rw [hR] at hrc hnx hrl
   obtain ⟨lo, hi, n, ok⟩ := R
   simp only at hrc hnx hrl
   have HNX := Lib.hid hnx
   have HRC := Lib.hid hrc
   have HRL := Lib.hid hrl
   clear hnx hrc hR hrl
   obtain ⟨X, hX⟩ : ∃ X, strOf P = X := ⟨_, rfl⟩
   have hXs : X.size = P.length := by rw [← hX, strOf_size]
   have HXX := Lib.hid hX
   rw [hX] at HRC ⊢
   clear hX
   have HBK : Hid (Blk wc g TDB (gcs d lv [.int .u32 prev, .string (strOf part)])) := Lib.hid (HB.out.below HB1.out)
   go_upto_region 12 with (go_at_call 227; refine HRC.out.mono ?_; rintro e w2 ⟨rfl, hb2⟩)
   have HB2 : Hid (Below w.heap.size w w2) := Lib.hid (below_next HB1.out hb2)
   have HBK2 := Lib.hid (HBK.out.below hb2)
   clear hb2 HBK HRC
   go_cut [72] (fun s72 wx => s72 = .bool (!(ok && someB (wrap64 (prev + lo)) (wrap64 (prev + hi)))) ∧ Hid (Below w2.heap.size w2 wx))
   case first =>
    cases ok with
    | false =>
     go_quiet (fail)
     go_wp2_with fail
     go_meet
     exact ⟨rfl, Lib.hid (below_drewN' (Below.refl _ _) _)⟩
    | true =>
     have c5 : w2.cell? ⟨g, 5, none⟩ = some (.int .u32 prev) := HBK2.out.cell rfl
     go_quiet (first | (go_at_call 228; refine Calls.quiet_of_same (some_q _ _ _)))
     go_wp2_with fail
     go_meet
     exact ⟨by rw [Bool.true_and], Lib.hid (below_drewN' (Below.refl _ _) _)⟩
   case rest =>
    obtain ⟨rfl, HB3⟩ := hcut
    have HB4 : Hid (Below w.heap.size w wc) := Lib.hid (below_next HB2.out HB3.out)
    have HBK4 := Lib.hid (HBK2.out.below HB3.out)
    have HQ4 : Hid (QRow wc 0 47 1 lv d.held.length (nums .u32 d.held)) := Lib.hid (q_move HQ.out fun k hk => HB4.out.block k (q_lt HQ.out k hk))
    clear HB1 HB2 HB3 HBK2
    cases hY : (ok && someB (wrap64 (prev + lo)) (wrap64 (prev + hi))) with
    | false =>
     have HN : Hid (nextB (prev, part) b = none) := Lib.hid (by rw [HNX.out, if_pos (by cases ok <;> simp_all)])
     clear hY
     go_wp2_with fail
     go_ret
     rw [HN.out]
     exact ⟨F, ⟨rfl, d.st, HH.out.eff EB_ok (Eff.of_below HB4.out (fun _ => False)) (fun _ _ h => h)⟩, Eff.of_below HB4.out _, fun k h => .inl h⟩
    | true =>
     have HN : Hid (nextB (prev, part) b = if (P.length : Int) = n then some ((prevB ((wrap64 (prev + lo) % 4294967296)), []), [(wrap64 (prev + lo) % 4294967296)]) else some ((prev, P), [])) := Lib.hid (by rw [HNX.out, if_neg (by simp at hY; simp [hY.1, hY.2])])
     have HPN : Hid (P.length ≤ 1000000) := Lib.hid (Nat.le_trans (HRL.out (by simp at hY; exact hY.1)) (by decide))
     clear hY
     obtain ⟨k1, k2⟩ := GRep.xset (by decide) wc 1 (.string X) HBK4.out HQ4.out
     have HK5 := Lib.hid (And.intro k1 k2)
     have he5 : Eff w (wc.setCell ⟨g, 6, none⟩ (.string X)) (fun k => k = g) := (Eff.of_below HB4.out _).trans (Eff.set _ _ _ _) (fun _ _ h => h)
     have HE5 := Lib.hid he5
     have c6 : wc.cell? ⟨g, 6, none⟩ = some (.string (strOf part)) := HBK4.out.cell rfl
     have hf4 := HBK4.out.frozen
     clear k1 k2 he5
     by_cases hnl : (P.length : Int) = n
     ·rw [if_pos hnl] at HN
      have hne : decide ((P.length : Int) = n) = true := decide_eq_true hnl
      have hne2 : ((P.length : Int) == n) = true := by simpa using hnl
      have c5 : (wc.setCell ⟨g, 6, none⟩ (.string X)).cell? ⟨g, 5, none⟩ = some (.int .u32 prev) := HK5.out.1.cell rfl
      obtain ⟨C, hC'⟩ : ∃ C, wrap64 (prev + lo) % 4294967296 = C := ⟨_, rfl⟩
      rw [hC'] at HN
      have hCr : 0 ≤ C ∧ C ≤ 4294967295 := by rw [← hC']; omega
      obtain ⟨w5, hw5⟩ : ∃ w5, wc.setCell ⟨g, 6, none⟩ (.string X) = w5 := ⟨_, rfl⟩
      rw [hw5] at HK5 HE5 c5
      have HG5 : Hid (GRep TDB DB EB w5 g F { d with st := (prev, P) }) := by
       obtain ⟨k1, k2⟩ := HK5.out
       exact Lib.hid ⟨lv, (prev, P), _, G, k1, k2, HF.out, fun _ => rfl, ⟨by rw [← HXX.out]; rfl, ⟨hp1, hp2⟩, HPN.out, HG.out⟩, HG.out g, fun k _ => HG.out k⟩
      have HA := Lib.hid (HG5.out.eff EB_ok (Eff.alloc w5 (.cells #[.int .u32 C] 47 (0, 0)) (fun _ => False)) (fun _ _ h => h))
      have HHO := Lib.hid (GRep.hold EB_ok (by decide) HA.out (c := 1) (reads_u32 w5 C) (by show d.held.length + 1 ≤ _; omega))
      clear HG5 HK5 HBK4 HA
      go_upto_region 18 with (go_at_call 195; refine HHO.out.mono ?_; rintro e w6 ⟨rfl, F6, hr6, he6, hf6⟩)
      have HR6 := Lib.hid hr6
      have HE6 := Lib.hid he6
      have HF6 := Lib.hid hf6
      clear hr6 he6 hf6 HHO
      have HPC := Lib.hid (prev_c C w6)
      go_wp2_with (go_at_call 155; refine HPC.out.mono ?_; rintro e w7 ⟨rfl, hb7⟩; have HB7 := Lib.hid hb7; have hpb := putB (HR6.out.eff EB_ok (Eff.of_below hb7 (fun _ => False)) (fun _ _ h => h)) hg.1 (prevB C) [] (prevB_range C) (by decide); have HPB := Lib.hid hpb; have c57 := hpb.2.2.1; have c67 := hpb.2.2.2.1; have hf7 := hpb.2.2.2.2; clear hpb hb7)
      go_ret
      rw [HN.out]
      refine ⟨F6, ⟨rfl, HPB.out.1⟩, ?_, fun k h => ?_⟩
      ·have e1 : Eff w w6 F := (HE5.out.mono (fun k _ e => (HF.out k).2 (.inl e))).trans ((Eff.alloc w5 _ F).trans HE6.out (fun _ _ h => h)) (fun _ _ h => h)
       refine (e1.trans (Eff.of_below HB7.out F) (fun _ _ h => h)).trans HPB.out.2.1 (fun k hk h => (HF6.out k h).elim id (fun h2 => ?_))
       have a1 := HE5.out.size
       have a2 : w5.heap.size ≤ (w5.alloc (.cells #[.int .u32 C] 47 (0, 0))).heap.size := by simp
       omega
      ·rcases HF6.out k h with h | h
       ·exact .inl h
       ·have a1 := HE5.out.size
        have a2 : w5.heap.size ≤ (w5.alloc (.cells #[.int .u32 C] 47 (0, 0))).heap.size := by simp
        exact .inr (by omega)
     ·rw [if_neg hnl] at HN
      have hne : decide ((P.length : Int) = n) = false := decide_eq_false hnl
      have hne2 : ((P.length : Int) == n) = false := by simpa using hnl
      go_wp2_with fail
      go_ret
      rw [HN.out]
      obtain ⟨k1, k2⟩ := HK5.out
      refine ⟨F, ⟨rfl, lv, (prev, P), _, G, k1, by simpa using k2, HF.out, fun _ => rfl, ⟨by rw [← HXX.out]; rfl, ⟨hp1, hp2⟩, HPN.out, HG.out⟩, HG.out g, fun k _ => HG.out k⟩, HE5.out.mono fun k _ e => (HF.out k).2 (.inl e), fun k h => .inl h⟩
set_option maxRecDepth 100000 in
set_option maxHeartbeats 4000000 in
theorem finB {w : World} {g : Nat} {F : Nat → Prop} {d : DSt DB} (h : GRep TDB DB EB w g F d) :
  Calls Tryz.prog 224 #[.pointer (some ⟨g, 0, none⟩)] w fun e w' => ∃ F', e = .returned (.tuple #[]) ∧ GRep TDB DB EB w' g F' (endD DB d) ∧ Eff w w' F ∧ (∀ k, F' k → F k ∨ w.heap.size ≤ k) := by
 have HH := Lib.hid h
 obtain ⟨lv, st, xs, G, hb, hq, hF, hs, ⟨rfl, hp, hpl, hG⟩, hgg, hll⟩ := h
 have c6 : w.cell? ⟨g, 6, none⟩ = some (.string (strOf st.2)) := hb.cell rfl
 have HS := Lib.hid hs
 clear hb hq hF hgg hll hs hG
 obtain ⟨S, hS⟩ : ∃ S, strOf st.2 = S := ⟨_, rfl⟩
 rw [hS] at c6
 have HSS := Lib.hid hS
 clear hS
 by_cases hg : d.err = 0 ∧ d.en = false
 ·obtain rfl := HS.out hg.1
  by_cases hpt : d.st.2 = []
  ·have hSe : S = ⟨#[]⟩ := by rw [← HSS.out, hpt]; rfl
   subst hSe
   have HE := Lib.hid (HH.out.ending EB_ok (by decide) hg)
   go_enter Tryz.func224, Tryz.ntmps224
   go_wp2_with (go_at_call 99; refine HE.out.mono ?_; rintro e w1 ⟨rfl, hr1, he1⟩)
   refine bodyPost_end (v := .tuple #[]) (by simp [results, Tryz.results224, go_sem]) rfl ⟨F, rfl, ?_, he1, fun k h => .inl h⟩
   have e1 : endD DB d = { d with en := true } := by
    unfold endD
    rw [if_pos hg, show DB.fin d.st = some [] by show (if d.st.2 = [] then some [] else none) = _; rw [if_pos hpt]]
    simp
   rw [e1]
   exact hr1
  ·have hpe : ¬ S.toList = [] := fun e => hpt (by
    have h2 : (strOf d.st.2).toList.length = (strOf d.st.2).size := by rw [ByteArray.toList_eq]; simp
    rw [HSS.out, e, ← HSS.out, strOf_size] at h2
    exact List.eq_nil_of_length_eq_zero h2.symm)
   have hpd : decide (S.toList = []) = false := decide_eq_false hpe
   have hpi : S.toList.isEmpty = false := by cases h : S.toList with | nil => exact absurd h hpe | cons a r => rfl
   have HST := Lib.hid (HH.out.stop EB_ok (by decide) hg 4 (by decide) d.st)
   go_enter Tryz.func224, Tryz.ntmps224
   have hpn : (!S.toList.isEmpty) = true := by rw [hpi]; rfl
   go_upto_region 2 with (go_at_call 106; refine HST.out.mono ?_; rintro e w1 ⟨rfl, hr1, he1⟩)
   all_goals try exact absurd (hpn.symm.trans (by assumption : (!S.toList.isEmpty) = false)) (by decide)
   have HR1 := Lib.hid hr1
   have HE1 := Lib.hid he1
   have HEN := Lib.hid (hr1.ended (fun h => by have h1 : (4 : Int) = 0 := h.1; omega))
   clear hr1 he1
   go_wp2_with (go_at_call 99; refine HEN.out.mono ?_; rintro e w2 ⟨rfl, rfl⟩)
   refine bodyPost_end (v := .tuple #[]) (by simp [results, Tryz.results224, go_sem]) rfl ⟨F, rfl, ?_, HE1.out, fun k h => .inl h⟩
   have e1 : endD DB d = { d with err := 4, fat := d.pos } := by
    unfold endD
    rw [if_pos hg, show DB.fin d.st = none by show (if d.st.2 = [] then some [] else none) = _; rw [if_neg hpt]]
   rw [e1]
   exact HR1.out
 ·have e1 : endD DB d = d := by unfold endD; rw [if_neg hg]
  rw [e1]
  have HG := Lib.hid hg
  clear hg e1
  by_cases hpt : S.toList = []
  ·have hpd : decide (S.toList = []) = true := decide_eq_true hpt
   go_enter Tryz.func224, Tryz.ntmps224
   go_wp2_with (first
    | (go_at_call 106; refine (HH.out.stopped HG.out 4).mono ?_; rintro e w1 ⟨rfl, rfl⟩)
    | (go_at_call 99; refine (HH.out.ended HG.out).mono ?_; rintro e w2 ⟨rfl, rfl⟩))
   all_goals exact bodyPost_end (v := .tuple #[]) (by simp [results, Tryz.results224, go_sem]) rfl ⟨F, rfl, HH.out, Eff.refl _ _, fun k h => .inl h⟩
  ·have hpd : decide (S.toList = []) = false := decide_eq_false hpt
   go_enter Tryz.func224, Tryz.ntmps224
   go_wp2_with (first
    | (go_at_call 106; refine (HH.out.stopped HG.out 4).mono ?_; rintro e w1 ⟨rfl, rfl⟩)
    | (go_at_call 99; refine (HH.out.ended HG.out).mono ?_; rintro e w2 ⟨rfl, rfl⟩))
   all_goals exact bodyPost_end (v := .tuple #[]) (by simp [results, Tryz.results224, go_sem]) rfl ⟨F, rfl, HH.out, Eff.refl _ _, fun k h => .inl h⟩
theorem kB : DecK 75 225 224 DB (GRep TDB DB EB) where
 invF := by intro n g x y w; kernel_rfl
 invE := by intro n g w; kernel_rfl
 invD := by intro n g w; kernel_rfl
 invW := by intro n g w; kernel_rfl
 lt h k hk := h.lt EB_ok k hk
 eff h he hs := h.eff EB_ok he hs
 feed s room h hp hh := feedG EB_ok (by decide) DB_one _ _ (.inr (.inr (.inr (.inr (.inl ⟨rfl, rfl⟩))))) nextB_c s room h hp hh
 fin h _ _ := finB h
 done h := h.done
 fail h := h.fail
theorem newB_c (w : World) : Calls Tryz.prog 27 #[] w fun e w' => e = .returned (.pointer (some ⟨w.heap.size, 0, none⟩)) ∧ w' = w.alloc (.cells (gcs (DSt.new DB) (.slice none 0 0) [.int .u32 64, .string ⟨#[]⟩]) TDB (0, 0)) := by
 go_enter Tryz.func27, Tryz.ntmps27
 go_wp2_with fail
 go_ret
 exact ⟨rfl, rfl⟩
theorem newB_rep (w : World) : GRep TDB DB EB (w.alloc (.cells (gcs (DSt.new DB) (.slice none 0 0) [.int .u32 64, .string ⟨#[]⟩]) TDB (0, 0))) w.heap.size (fun k => k = w.heap.size) (DSt.new DB) :=
 ⟨.slice none 0 0, (64, []), _, fun _ => False, Blk.new w _ _, ⟨rfl, .inl ⟨rfl, none, rfl, fun a h => by cases h⟩⟩, fun k => ⟨.inl, fun h => h.elim id (fun h => h.elim (fun h => by cases h) False.elim)⟩, fun _ => rfl, ⟨rfl, by decide, by decide, fun _ h => h⟩, fun h => h, fun _ _ h => h⟩
set_option maxRecDepth 100000 in
theorem newD8 : NewD 8 75 DB (GRep TDB DB EB) := by
 intro w
 go_enter Tryz.func7, Tryz.ntmps7
 go_wp2_with (go_at_call 27; refine (newB_c _).mono ?_; rintro e w' ⟨rfl, rfl⟩)
 refine bodyPost_ret (v := .tuple #[.iface 75 (.pointer (some ⟨w.heap.size, 0, none⟩)), .int .i64 0]) (by simp [results, Tryz.results7, go_sem]) rfl ?_
 exact ⟨_, _, rfl, below_new (Below.refl _ _) _, newB_rep w, fun k hk => Nat.le_of_eq hk.symm⟩
end Go.Proofs.YtppchdinolndmaaGreat
