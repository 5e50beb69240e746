/- Joined texts: Ustp, Urow, Yb, Di, Ei, Sc, De, Own, No, Db. -/
import Derived.Test.YtppchdinolndmaaGreatDoorMBase
import Derived.Test.YtppchdinolndmaaGreatDoorMVWWords
import Derived.Test.YtppchdinolndmaaGreatDoorMVPPtx4
import Derived.Deep.CutBlock
import Derived.Test.YtppchdinolndmaaGreatDoorMVPPdx0
namespace Go.Proofs.YtppchdinolndmaaGreatDoor
open Go.RowKit Go.Proofs.YtppchdinolndmaaGreatDoorW.PrintWords
set_option linter.unusedVariables false
set_option linter.unusedSimpArgs false
def Blk (w : World) (g : Nat) (T : TypeId) (cs : Array Value) : Prop := w.heap[g]? = some (.cells cs T (0, 0))
theorem Blk.lt {w : World} {g : Nat} {T : TypeId} {cs : Array Value} (h : Blk w g T cs) : g < w.heap.size := (Array.getElem?_eq_some_iff.1 h).1
theorem Blk.cell {w : World} {g : Nat} {T : TypeId} {cs : Array Value} (h : Blk w g T cs) {i : Nat} {v : Value} (hi : cs[i]? = some v) : w.cell? ⟨g, i, none⟩ = some v := by
 have h' : w.heap[g]? = _ := h
 simp [World.cell?, h', hi]
theorem Blk.frozen {w : World} {g : Nat} {T : TypeId} {cs : Array Value} (h : Blk w g T cs) (i : Nat) : w.frozen? ⟨g, i, none⟩ = false := by
 have h' : w.heap[g]? = _ := h
 simp [World.frozen?, h']
theorem Blk.set {w : World} {g : Nat} {T : TypeId} {cs : Array Value} (h : Blk w g T cs) (i : Nat) (v : Value) : Blk (w.setCell ⟨g, i, none⟩ v) g T (cs.setIfInBounds i v) := by
 unfold Blk World.setCell
 simp only [Array.getElem?_modify]
 have h' : w.heap[g]? = _ := h
 rw [h']
 simp
theorem Blk.below {w w1 : World} {g : Nat} {T : TypeId} {cs : Array Value} (h : Blk w g T cs) (hb : Below w.heap.size w w1) : Blk w1 g T cs := (hb.block g h.lt).trans h
theorem Blk.drewN {w : World} {g : Nat} {T : TypeId} {cs : Array Value} (h : Blk w g T cs) (n : Nat) : Blk (w.drewN n) g T cs := h
theorem Blk.new (w : World) (T : TypeId) (cs : Array Value) : Blk (w.alloc (.cells cs T (0, 0))) w.heap.size T cs := heap_alloc_new _ _
theorem Blk.alloc {w : World} {g : Nat} {T : TypeId} {cs : Array Value} (h : Blk w g T cs) (o : Obj) : Blk (w.alloc o) g T cs := (Below.heap_alloc w o g h.lt).trans h
theorem Blk.far {w : World} {g : Nat} {T : TypeId} {cs : Array Value} (h : Blk w g T cs) {p : Addr} (hp : g ≠ p.block) (v : Value) : Blk (w.setCell p v) g T cs := (Below.heap_setCell w p v g hp).trans h
theorem going_c {g : Nat} {T : TypeId} {cs : Array Value} {err : Int} {en : Bool} {w : World} (hb : Blk w g T cs) (e1 : cs[1]? = some (.int .i64 err)) (e3 : cs[3]? = some (.bool en)) :
  Calls Tryz.prog 131 #[.pointer (some ⟨g, 0, none⟩)] w fun e w' => e = .returned (.bool (err == 0 && !en)) ∧ w = w' := by
 have h1 := hb.cell e1
 have h3 := hb.cell e3
 clear hb e1 e3
 cases h : (err == 0)
 ·go_enter Tryz.func131, Tryz.ntmps131
  go_wp2
  go_ret
  exact ⟨rfl, rfl⟩
 ·go_enter Tryz.func131, Tryz.ntmps131
  go_wp2
  go_ret
  exact ⟨rfl, rfl⟩
theorem going_yes {g : Nat} {T : TypeId} {cs : Array Value} {w : World} (hb : Blk w g T cs) (e1 : cs[1]? = some (.int .i64 0)) (e3 : cs[3]? = some (.bool false)) :
  Calls Tryz.prog 131 #[.pointer (some ⟨g, 0, none⟩)] w fun e w' => e = .returned (.bool true) ∧ w = w' := going_c hb e1 e3
theorem fail_c {g : Nat} {T : TypeId} {cs : Array Value} {err fat : Int} {w : World} (hb : Blk w g T cs) (e1 : cs[1]? = some (.int .i64 err)) (e2 : cs[2]? = some (.int .i64 fat)) :
  Calls Tryz.prog 128 #[.pointer (some ⟨g, 0, none⟩)] w fun e w' => e = .returned (.agg #[.int .i64 err, .int .i64 fat]) ∧ Below w.heap.size w w' := by
 have h1 := hb.cell e1
 have h2 := hb.cell e2
 have hlt := hb.lt
 have hf := hb.frozen
 clear hb e1 e2
 go_enter Tryz.func128, Tryz.ntmps128
 go_wp2
 refine bodyPost_ret (v := .agg #[.int .i64 err, .int .i64 fat]) (by simp [results, Tryz.results128, go_sem]) rfl ⟨rfl, ?_⟩
 exact below_new (Below.refl _ _) _
theorem eat_c {g : Nat} {T : TypeId} {cs : Array Value} {n : Int} {w : World} (hb : Blk w g T cs) (e0 : cs[0]? = some (.int .i64 n)) (e1 : cs[1]? = some (.int .i64 0)) (e3 : cs[3]? = some (.bool false)) (h0 : 0 ≤ n) (hn : n ≤ 4611686018427387904) :
  Calls Tryz.prog 136 #[.pointer (some ⟨g, 0, none⟩), .int .i64 1] w fun e w' => e = .returned (.tuple #[]) ∧ w' = w.setCell ⟨g, 0, none⟩ (.int .i64 (n + 1)) := by
 have hg := going_yes hb e1 e3
 have c0 := hb.cell e0
 have hf := hb.frozen
 clear e0 e1 e3 hb
 go_enter Tryz.func136, Tryz.ntmps136
 go_wp2_with (go_at_call 131; refine hg.mono ?_; rintro e w' ⟨rfl, rfl⟩)
 exact bodyPost_end (v := .tuple #[]) (by simp [results, Tryz.results136, go_sem]) rfl ⟨rfl, rfl⟩
theorem stop_c {g : Nat} {T : TypeId} {cs : Array Value} {n err z : Int} {w : World} (he : err ≠ 0) (hb : Blk w g T cs) (e0 : cs[0]? = some (.int .i64 n)) (e1 : cs[1]? = some (.int .i64 0)) (e2 : cs[2]? = some (.int .i64 z)) (e3 : cs[3]? = some (.bool false)) :
  Calls Tryz.prog 133 #[.pointer (some ⟨g, 0, none⟩), .int .i64 err] w fun e w' => e = .returned (.tuple #[]) ∧ w' = (w.setCell ⟨g, 1, none⟩ (.int .i64 err)).setCell ⟨g, 2, none⟩ (.int .i64 n) := by
 have hg := going_yes hb e1 e3
 have c0 := hb.cell e0
 have c1 := hb.cell e1
 have c2 := hb.cell e2
 have hf := hb.frozen
 have h1 : (err == 0) = false := by simpa using he
 have h2 : (err != 0) = true := by simpa using he
 clear e0 e1 e2 e3 hb
 go_enter Tryz.func133, Tryz.ntmps133
 go_wp2_with (go_at_call 131; refine hg.mono ?_; rintro e w' ⟨rfl, rfl⟩)
 exact bodyPost_end (v := .tuple #[]) (by simp [results, Tryz.results133, go_sem]) rfl ⟨rfl, rfl⟩
theorem end_c {g : Nat} {T : TypeId} {cs : Array Value} {w : World} (hb : Blk w g T cs) (e1 : cs[1]? = some (.int .i64 0)) (e3 : cs[3]? = some (.bool false)) :
  Calls Tryz.prog 127 #[.pointer (some ⟨g, 0, none⟩)] w fun e w' => e = .returned (.tuple #[]) ∧ w' = w.setCell ⟨g, 3, none⟩ (.bool true) := by
 have hg := going_yes hb e1 e3
 have c3 := hb.cell e3
 have hf := hb.frozen
 clear e1 e3 hb
 go_enter Tryz.func127, Tryz.ntmps127
 go_wp2_with (go_at_call 131; refine hg.mono ?_; rintro e w' ⟨rfl, rfl⟩)
 exact bodyPost_end (v := .tuple #[]) (by simp [results, Tryz.results127, go_sem]) rfl ⟨rfl, rfl⟩
theorem end_not {g : Nat} {T : TypeId} {cs : Array Value} {err : Int} {en : Bool} {w : World} (hb : Blk w g T cs) (e1 : cs[1]? = some (.int .i64 err)) (e3 : cs[3]? = some (.bool en)) (hn : (err == 0 && !en) = false) :
  Calls Tryz.prog 127 #[.pointer (some ⟨g, 0, none⟩)] w fun e w' => e = .returned (.tuple #[]) ∧ w = w' := by
 have hg := going_c hb e1 e3
 rw [hn] at hg
 clear e1 e3 hb hn
 go_enter Tryz.func127, Tryz.ntmps127
 go_wp2_with (go_at_call 131; refine hg.mono ?_; rintro e w' ⟨rfl, rfl⟩)
 exact bodyPost_end (v := .tuple #[]) (by simp [results, Tryz.results127, go_sem]) rfl ⟨rfl, rfl⟩
theorem kept_c {g o : Nat} {T : TypeId} {cs : Array Value} {s : ByteArray} {w : World} (hb : Blk w g T cs) (e : cs[o]? = some (.string s)) :
  Calls Tryz.prog 130 #[.pointer (some ⟨g, o, none⟩)] w fun e w' => e = .returned (.int .i64 s.size) ∧ w = w' := by
 have c0 := hb.cell e
 clear hb e
 go_enter Tryz.func130, Tryz.ntmps130
 go_wp2
 go_ret
 exact ⟨rfl, rfl⟩
theorem keep_c {g o : Nat} {T : TypeId} {cs : Array Value} {s t : ByteArray} {w : World} (hb : Blk w g T cs) (e : cs[o]? = some (.string s)) (hs : s.size + t.size ≤ 140737488351232) :
  Calls Tryz.prog 134 #[.pointer (some ⟨g, o, none⟩), .string t] w fun e w' => e = .returned (.tuple #[]) ∧ w' = w.setCell ⟨g, o, none⟩ (.string (s ++ t)) := by
 have c0 := hb.cell e
 have hf := hb.frozen o
 clear hb e
 go_enter Tryz.func134, Tryz.ntmps134
 go_wp2
 exact bodyPost_end (v := .tuple #[]) (by simp [results, Tryz.results134, go_sem]) rfl ⟨rfl, rfl⟩
def giveN (room : Int) (n : Nat) : Nat := min room.toNat n
theorem giveN_le (room : Int) (n : Nat) : giveN room n ≤ n := Nat.min_le_right _ _
theorem giveN_if (room : Int) (n : Nat) : (if (n : Int) < if room < 0 then 0 else room then (n : Int) else if room < 0 then 0 else room) = (giveN room n : Int) := by
 unfold giveN
 split <;> split at * <;> omega
theorem give_c {g o : Nat} {T : TypeId} {cs : Array Value} {s : ByteArray} {room : Int} {w : World} (hb : Blk w g T cs) (e : cs[o]? = some (.string s)) :
  Calls Tryz.prog 132 #[.pointer (some ⟨g, o, none⟩), .int .i64 room] w fun e w' => e = .returned (.string (s.extract 0 (giveN room s.size))) ∧ w' = w.setCell ⟨g, o, none⟩ (.string (s.extract (giveN room s.size) s.size)) := by
 have c0 := hb.cell e
 have hf := hb.frozen o
 have hle := giveN_le room s.size
 have hif := giveN_if room s.size
 generalize giveN room s.size = m at *
 clear hb e
 go_enter Tryz.func132, Tryz.ntmps132
 go_wp2
 all_goals go_ret
 all_goals exact ⟨rfl, rfl⟩
structure Eff (w w' : World) (S : Nat → Prop) : Prop where
 os : w'.os = w.os
 tape : w'.tape = w.tape
 output : w'.output = w.output
 size : w.heap.size ≤ w'.heap.size
 block : ∀ k, k < w.heap.size → ¬ S k → w'.heap[k]? = w.heap[k]?
theorem Eff.refl (w : World) (S : Nat → Prop) : Eff w w S := ⟨rfl, rfl, rfl, Nat.le_refl _, fun _ _ _ => rfl⟩
theorem Eff.mono {w w' : World} {S S' : Nat → Prop} (h : Eff w w' S) (hs : ∀ k, k < w.heap.size → S k → S' k) : Eff w w' S' := ⟨h.os, h.tape, h.output, h.size, fun k hk hn => h.block k hk fun e => hn (hs k hk e)⟩
theorem Eff.trans {w w1 w2 : World} {S S1 : Nat → Prop} (h : Eff w w1 S) (k : Eff w1 w2 S1) (hs : ∀ i, i < w.heap.size → S1 i → S i) : Eff w w2 S :=
 ⟨k.os.trans h.os, k.tape.trans h.tape, k.output.trans h.output, Nat.le_trans h.size k.size, fun i hi hn => (k.block i (Nat.lt_of_lt_of_le hi h.size) fun e => hn (hs i hi e)).trans (h.block i hi hn)⟩
theorem Eff.of_below {w w' : World} (h : Below w.heap.size w w') (S : Nat → Prop) : Eff w w' S := ⟨h.os, h.tape, h.output, h.size, fun i hi _ => h.block i hi⟩
theorem Eff.of_grown {w w' : World} {row : Option Nat} (h : w.grownBy w' row) : Eff w w' (fun k => some k = row) := ⟨h.os, h.tape, h.output, h.size, fun i hi hn => h.block i hi hn⟩
theorem Eff.set (w : World) (g i : Nat) (v : Value) : Eff w (w.setCell ⟨g, i, none⟩ v) (fun k => k = g) :=
 ⟨rfl, rfl, rfl, by simp [World.setCell], fun k _ hk => Below.heap_setCell w ⟨g, i, none⟩ v k hk⟩
theorem Eff.alloc (w : World) (o : Obj) (S : Nat → Prop) : Eff w (w.alloc o) S := Eff.of_below (below_new (Below.refl _ _) o) S
theorem Eff.drewN (w : World) (n : Nat) (S : Nat → Prop) : Eff w (w.drewN n) S := ⟨rfl, rfl, rfl, Nat.le_refl _, fun _ _ _ => rfl⟩
theorem Eff.under {B : Nat} {w0 w w' : World} {S : Nat → Prop} (hb : Below B w0 w) (h : Eff w w' S) (hB : B ≤ w.heap.size) (hs : ∀ k, S k → B ≤ k) : Below B w0 w' :=
 ⟨h.os.trans hb.os, h.tape.trans hb.tape, h.output.trans hb.output, Nat.le_trans hb.size h.size, fun k hk => (h.block k (Nat.lt_of_lt_of_le hk hB) fun e => by have := hs k e; omega).trans (hb.block k hk)⟩
theorem Blk.eff {w w1 : World} {g : Nat} {T : TypeId} {cs : Array Value} {S : Nat → Prop} (h : Blk w g T cs) (he : Eff w w1 S) (hg : ¬ S g) : Blk w1 g T cs := (he.block g h.lt hg).trans h
theorem own_types {w : World} {base n size : Nat} {e T g : Nat} {v : Value} {xs : List Value} {cs : Array Value} (h : QRow w base e size v n xs) (hb : Blk w g T cs) (hne : e ≠ T) : some g ≠ v.ownBlock := by
 intro he
 obtain ⟨_, cells, hc⟩ := q_typed h g he.symm
 have hb' : w.heap[g]? = _ := hb
 rw [hb'] at hc
 injection hc with hc
 injection hc with _ hc
 exact hne hc.symm
theorem q_reads {w : World} {base e n c : Nat} {k : IntKind} {A : Option Addr} {xs : List Int} (h : QRow w base e 1 (.slice A n c) n (nums k xs)) : ReadsInt w k A n xs := by
 have hl : xs.length = n := by have := h.1; simpa [nums] using this
 refine ⟨hl, q_max h, fun hp => ?_⟩
 obtain ⟨ad, ha, hc⟩ := q_cells h hp
 refine ⟨ad, ha, fun j hj => hc j _ ?_⟩
 simp [nums, List.getElem?_eq_getElem (by omega : j < xs.length), List.getD_eq_getElem?_getD]
theorem q_run_row {P : Program} {W : World} (base : Nat) (t ty e : TypeId) (k : IntKind) (bytes : Nat) (ht : P.underlying t = some (.slice e)) (hinfo : (P.info? e).map (fun i => (i.zero, i.size, i.bytes)) = some (some (.int k 0), 1, bytes)) (hb0 : 0 < bytes)
  (v : Value) (xs ys : List Int) (A : Option Addr) (m c : Nat) (HO : QRow W base e 1 v xs.length (nums k xs)) (HR : ReadsInt W k A m ys) (hbase : base ≤ W.heap.size) (hl : (xs.length + m) * bytes ≤ 140737488355328) :
  ∃ v1 w1, (Builtin.append_ #[t, t] ty #[v, .slice A m c]).run P W = .ok v1 w1 ∧ QRow w1 base e 1 v1 (xs ++ ys).length (nums k (xs ++ ys)) ∧ W.grownBy w1 v.ownBlock ∧ (v1.ownBlock = v.ownBlock ∨ ∃ b, v1.ownBlock = some b ∧ W.heap.size ≤ b) := by
 obtain ⟨i0, hi, hzz⟩ := Option.map_eq_some_iff.1 hinfo
 simp only [Prod.mk.injEq] at hzz
 obtain ⟨hz0, hz1, hz2⟩ := hzz
 have hm : ys.length = m := HR.1
 have hlen : xs.length + m ≤ 140737488355328 := Nat.le_trans (Nat.le_mul_of_pos_right _ hb0) hl
 rcases Nat.eq_zero_or_pos m with h0 | h0
 ·subst h0
  obtain rfl : ys = [] := List.eq_nil_of_length_eq_zero hm
  refine ⟨v, W, ?_, by simpa using HO, World.grownBy.refl W _, .inl rfl⟩
  rcases HO.2 with ⟨hx, B, rfl, _⟩ | ⟨g, off, cap, cur, rfl, _, _, hnc, _⟩
  ·cases A <;> cases B <;> simp [Builtin.append_, run_underlying ht, sizeOf, typeInfo, hi, Builtin.lenOf, Builtin.firstCells, storeCells, loadCells, loadCellsFrom, hx]
  ·cases A <;> simp [Builtin.append_, run_underlying ht, sizeOf, typeInfo, hi, Builtin.lenOf, Builtin.firstCells, hnc, storeCells, loadCells, loadCellsFrom]
 ·obtain ⟨ad, rfl, hc⟩ := HR.2.2 h0
  have hcells : ∀ j u, (nums k ys)[j]? = some u → W.cell? (ad.add j) = some u := by
   intro j u hu
   have hj : j < ys.length := by
    rcases Nat.lt_or_ge j ys.length with h | h
    ·exact h
    ·simp [nums, List.getElem?_eq_none h] at hu
   have := hc j (by omega)
   simp [nums, List.getElem?_eq_getElem hj] at hu
   subst hu
   rw [this]
   simp [List.getD_eq_getElem?_getD, List.getElem?_eq_getElem hj]
  obtain ⟨v1, w1, hr, h2, h3, h5⟩ := q_append (P := P) W base t ty e i0 (.int k 0) 1 bytes ht hi hz0 hz1 hz2 rfl (by omega) v xs.length (nums k xs) HO ad m c (nums k ys) (by simp [nums, hm]) hcells
   (by intro u hu; simp only [nums, List.mem_map] at hu; obtain ⟨q, _, rfl⟩ := hu; rfl) h0 (by simp only [maxLen]; omega) hl hbase
  exact ⟨v1, w1, hr, by simpa [nums, hm] using h2, h3, h5⟩
section
variable {P : Program} {ops : Array Oper} {rest : List Oper} {o : Oper} {a : Act} {Q : Exit → Act → World → Prop}
theorem q_append_row {W : World} (base : Nat) (hgd : o.guard = none) (s x : Operand) (t e : TypeId) (k : IntKind) (bytes : Nat)
  (ho : o.op = .call { callee := .builtin .append, args := #[s, x], argTypes := #[t, t] })
  (ht : P.underlying t = some (.slice e)) (hinfo : (P.info? e).map (fun i => (i.zero, i.size, i.bytes)) = some (some (.int k 0), 1, bytes)) (hb0 : 0 < bytes)
  (v : Value) (xs ys : List Int) (A : Option Addr) (m c : Nat) (hs : a.eval s = v) (hx : a.eval x = .slice A m c)
  (HO : QRow W base e 1 v xs.length (nums k xs)) (HR : ReadsInt W k A m ys) (hbase : base ≤ W.heap.size) (hl : (xs.length + m) * bytes ≤ 140737488355328)
  (h : ∀ v1 w1, QRow w1 base e 1 v1 (xs ++ ys).length (nums k (xs ++ ys)) → W.grownBy w1 v.ownBlock → (v1.ownBlock = v.ownBlock ∨ ∃ b, v1.ownBlock = some b ∧ W.heap.size ≤ b) → wpList P ops Q rest (a.put o.dst v1) w1) :
  wpList P ops Q (o :: rest) a W := by
 obtain ⟨v1, w1, hr, hq, hg, hat⟩ := q_run_row (P := P) base t o.type e k bytes ht hinfo hb0 v xs ys A m c HO HR hbase hl
 refine wpList_plain hgd fun K hK => ?_
 unfold Oper.wp execOp
 simp only [ho, resolve, invoke, builtin, Sem.run_bind, Sem.run_pure, Result.andThen_ok, List.map_toArray, List.map_cons, List.map_nil, hs, hx, hr]
 exact hK _ _ (h v1 w1 hq hg hat)
end
theorem info_u32 : (Tryz.prog.info? 24).map (fun i => (i.zero, i.size, i.bytes)) = some (some (.int .u32 0), 1, 4) := by kernel_rfl
theorem info_u8 : (Tryz.prog.info? 5).map (fun i => (i.zero, i.size, i.bytes)) = some (some (.int .u8 0), 1, 1) := by kernel_rfl
end Go.Proofs.YtppchdinolndmaaGreatDoor
namespace Go.Proofs.YtppchdinolndmaaGreatDoor
open Go.RowKit Go.Proofs.YtppchdinolndmaaGreatDoorW.PrintWords Go.Proofs.YtppchdinolndmaaGreatDoorW.PrintLast Go.Proofs.YtppchdinolndmaaGreatDoorW.PrintMore Go.Proofs.YtppchdinolndmaaGreatDoor.PPt
set_option linter.unusedVariables false
set_option linter.unusedSimpArgs false
theorem yis_f (c : Int) : pilcrowref01_Is.f c = some (isScal c) := by
 unfold pilcrowref01_Is.f isScal
 by_cases a : 55296 ≤ c
 ·rw [if_pos a]
  by_cases b : c ≤ 57343
  ·rw [if_pos b, decide_eq_true a, decide_eq_true b]; simp
  ·rw [if_neg b, decide_eq_true a, decide_eq_false b]; simp
 ·rw [if_neg a, decide_eq_false a]; simp
theorem sis_f (c : Int) : scalar_Is.f c = some (isScal c) := by
 unfold scalar_Is.f isScal
 by_cases a : c ≤ 1114111
 ·rw [if_pos a, decide_eq_true a]
  by_cases b : c < 55296
  ·rw [if_pos b, decide_eq_false (by omega : ¬ 55296 ≤ c)]; simp
  ·rw [if_neg b, decide_eq_true (by omega : 55296 ≤ c)]
   by_cases d : c ≤ 57343
   ·rw [decide_eq_true d, decide_eq_false (by omega : ¬ c > 57343)]; simp
   ·rw [decide_eq_false d, decide_eq_true (by omega : c > 57343)]; simp
 ·rw [if_neg a, decide_eq_false a]; simp
theorem cls_tail (c : Int) (hs : isScal c = true) : clsF c = if c < 32 ∨ (127 ≤ c ∧ c < 160) then 1 else if c < 127 then 2 else if c ≤ 255 then 3 else if 57344 ≤ c ∧ c ≤ 63743 then 5 else if 65536 ≤ c then 6 else 4 := by
 unfold clsF
 rw [hs]
 simp only [Bool.true_eq_false, if_false]
theorem cls_f (c : Int) (j : Nat) : scalar_Class.f (j + 3) c = some (clsF c) := by
 unfold scalar_Class.f
 rw [sis_f, Option.bind_some]
 by_cases hs : isScal c = true
 ·rw [if_pos hs, cls_tail c hs]
  simp only [scalar_Class.j0, scalar_Class.j1, decide_eq_true_eq, Bool.false_eq_true, if_true, if_false]
  (repeat' split) <;> first | rfl | (exfalso; omega)
 ·rw [if_neg hs]
  unfold clsF
  rw [if_pos (by simpa using hs)]
theorem rcls_f (c : Int) (j : Nat) : pilcrowref01_Class.f (j + 3) c = some (clsF c) := by
 unfold pilcrowref01_Class.f
 rw [yis_f, Option.bind_some]
 by_cases hs : isScal c = true
 ·rw [if_pos hs, cls_tail c hs]
  simp only [pilcrowref01_Class.j0, pilcrowref01_Class.j1, decide_eq_true_eq, Bool.false_eq_true, if_true, if_false]
  (repeat' split) <;> first | rfl | (exfalso; omega)
 ·rw [if_neg hs]
  unfold clsF
  rw [if_pos (by simpa using hs)]
theorem yw64 {x : Int} (h0 : 0 ≤ x) (h1 : x ≤ 2000000000) : wrap64 x = x := by unfold wrap64; omega
theorem un_f (c : Int) (hs : isScal c = true) : scalar_Units.f 2 [c] = some (unF c) := by
 have e : rd [c] 0 = c := rfl
 have w1 : wrap64 (0 + 1) = 1 := yw64 (by decide) (by decide)
 have w2 : wrap64 (0 + 2) = 2 := yw64 (by decide) (by decide)
 unfold scalar_Units.f unF
 simp only [scalar_Units.l0, List.length_cons, List.length_nil]
 rw [if_pos (by decide), if_pos (by decide), if_pos (by decide), e, sis_f, Option.bind_some, if_pos hs]
 by_cases a : c < 65536
 ·rw [if_pos a, if_pos a, w1, if_neg (by decide)]
 ·rw [if_neg a, if_neg a, w2, w1, if_neg (by decide)]
structure SmT (t : Tl) : Prop where
 a0 : 0 ≤ t.sc ∧ t.sc ≤ 1000000000
 a1 : 0 ≤ t.un ∧ t.un ≤ 1000000000
 a2 : 0 ≤ t.by8 ∧ t.by8 ≤ 1000000000
 a3 : 0 ≤ t.ct ∧ t.ct ≤ 1000000000
 a4 : 0 ≤ t.ai ∧ t.ai ≤ 1000000000
 a5 : 0 ≤ t.la ∧ t.la ≤ 1000000000
 a6 : 0 ≤ t.pl ∧ t.pl ≤ 1000000000
 a7 : 0 ≤ t.pr ∧ t.pr ≤ 1000000000
 a8 : 0 ≤ t.be ∧ t.be ≤ 1000000000
theorem OkT.small {n : Nat} {t : Tl} (h : OkT n t) (hn : n ≤ 100000000) : SmT t := by
 obtain ⟨a1, a2, a3, a4, a5, a6, a7, a8, a9, a10, a11, a12, a13⟩ := h
 constructor <;> omega
theorem add_f {a b : Tl} (ha : SmT a) (hb : SmT b) : tally_Add.f 1 a.sc a.un a.by8 a.ct a.ai a.la a.pl a.pr a.be a.le a.mo b.sc b.un b.by8 b.ct b.ai b.la b.pl b.pr b.be b.le b.mo =
  some ((addT a b).sc, (addT a b).un, (addT a b).by8, (addT a b).ct, (addT a b).ai, (addT a b).la, (addT a b).pl, (addT a b).pr, (addT a b).be, (addT a b).le, (addT a b).mo) := by
 obtain ⟨a0, a1, a2, a3, a4, a5, a6, a7, a8⟩ := ha
 obtain ⟨b0, b1, b2, b3, b4, b5, b6, b7, b8⟩ := hb
 unfold tally_Add.f addT
 simp only [tally_Add.j0]
 rw [yw64 (by omega) (by omega), yw64 (by omega) (by omega), yw64 (by omega) (by omega), yw64 (by omega) (by omega), yw64 (by omega) (by omega), yw64 (by omega) (by omega), yw64 (by omega) (by omega), yw64 (by omega) (by omega), yw64 (by omega) (by omega)]
 by_cases h : a.sc = 0 <;> by_cases k : b.sc = 0 <;> simp [h, k, mn, mx]
theorem rd_at (l : List Int) (i : Nat) : rd l (i : Int) = l.getD i 0 := by simp [rd]
theorem drop_at (l : List Int) (k : Nat) (h : k < l.length) : l.drop k = l.getD k 0 :: l.drop (k + 1) := by
 rw [List.drop_eq_getElem_cons h, List.getD_eq_getElem?_getD, List.getElem?_eq_getElem h]; rfl
theorem at_mem (l : List Int) (k : Nat) (h : k < l.length) : l.getD k 0 ∈ l := by rw [List.getD_eq_getElem?_getD, List.getElem?_eq_getElem h]; exact List.getElem_mem _
def gU (n c : Int) : Int := if isScal c = true then n + unF c else n
theorem units_l0 (l : List Int) (hl : l.length ≤ 100000) : ∀ (m i k : Nat) (x : Int), i + m = l.length → m + 1 ≤ k → 0 ≤ x → x ≤ 2 * i → pilcrowref01_Units.l0 k l x i = some ((l.drop i).foldl gU x)
 | 0, i, k, x, hi, hk, _, _ => by
  obtain ⟨k, rfl⟩ : ∃ j, k = j + 1 := ⟨k - 1, by omega⟩
  rw [pilcrowref01_Units.l0, if_neg (by omega), List.drop_eq_nil_of_le (by omega)]
  rfl
 | m + 1, i, k, x, hi, hk, h0, h1 => by
  obtain ⟨k, rfl⟩ : ∃ j, k = j + 1 := ⟨k - 1, by omega⟩
  have hw : wrap64 ((i : Int) + 1) = ((i + 1 : Nat) : Int) := by rw [yw64 (by omega) (by omega)]; omega
  rw [pilcrowref01_Units.l0, if_pos (by omega), if_pos (by omega), rd_at, yis_f, Option.bind_some, drop_at l i (by omega), List.foldl_cons, hw]
  unfold gU
  by_cases hs : isScal (l.getD i 0) = true
  ·rw [if_pos hs, if_pos hs]
   unfold unF
   by_cases hc : l.getD i 0 > 65535
   ·rw [if_pos hc, if_neg (show ¬ l.getD i 0 < 65536 by omega), yw64 (x := x + 1) (by omega) (by omega), yw64 (x := x + 1 + 1) (by omega) (by omega), units_l0 l hl m (i + 1) k _ (by omega) (by omega) (by omega) (by omega), show x + 1 + 1 = x + 2 by omega]
    rfl
   ·rw [if_neg hc, if_pos (show l.getD i 0 < 65536 by omega), yw64 (x := x + 1) (by omega) (by omega), units_l0 l hl m (i + 1) k _ (by omega) (by omega) (by omega) (by omega)]
    rfl
  ·rw [if_neg hs, if_neg hs, units_l0 l hl m (i + 1) k _ (by omega) (by omega) h0 (by omega)]
   rfl
theorem units_f (l : List Int) (hl : l.length ≤ 100000) (j : Nat) : pilcrowref01_Units.f (l.length + 1 + j) l = some (l.foldl gU 0) := by
 have := units_l0 l hl l.length 0 (l.length + 1 + j) 0 (by omega) (by omega) (by omega) (by omega)
 rw [List.drop_zero] at this
 exact this
theorem son_size (l : List Int) : (strOfNums l).size = l.length := by simp [strOfNums, ByteArray.size]
theorem one_f (c : Int) (j : Nat) : ∃ s, pilcrowref03_One.f (j + 4) c = some s ∧ (s.size : Int) = len8 c := by
 unfold pilcrowref03_One.f pilcrowref03_Size.f len8
 by_cases a : c < 128
 ·rw [if_pos a, if_pos a]
  exact ⟨_, rfl, by rw [son_size]; rfl⟩
 ·rw [if_neg a, if_neg a]
  have w1 : wrap64 (2 - 1) = 1 := yw64 (by decide) (by decide)
  have w0 : wrap64 (1 - 1) = 0 := yw64 (by decide) (by decide)
  have w2 : wrap64 (3 - 1) = 2 := yw64 (by decide) (by decide)
  have w21 : wrap64 (2 - 1) = 1 := yw64 (by decide) (by decide)
  have w3 : wrap64 (4 - 1) = 3 := yw64 (by decide) (by decide)
  by_cases b : c < 2048
  ·rw [if_pos b, if_pos b, Option.bind_some, if_neg (by decide), if_pos (by decide), if_pos (by decide), w1]
   simp only [pilcrowref03_One.l0, w0]
   simp [son_size]
  ·rw [if_neg b, if_neg b]
   by_cases d : c < 65536
   ·rw [if_pos d, if_pos d, Option.bind_some, if_neg (by decide), if_pos (by decide), if_pos (by decide), w2]
    simp only [pilcrowref03_One.l0, w0, w21]
    simp [son_size]
   ·rw [if_neg d, if_neg d, Option.bind_some, if_neg (by decide), if_pos (by decide), if_pos (by decide), w3]
    simp only [pilcrowref03_One.l0, w0, w21, w2]
    simp [son_size]
def gB (n c : Int) : Int := n + len8 c
theorem bytes_l0 (l : List Int) (hl : l.length ≤ 100000) : ∀ (m i k : Nat) (x : ByteArray), i + m = l.length → m + 5 ≤ k → x.size ≤ 4 * i → ∃ s, pilcrowref03_Bytes.l0 k l x i = some s ∧ (s.size : Int) = (l.drop i).foldl gB x.size
 | 0, i, k, x, hi, hk, _ => by
  obtain ⟨k, rfl⟩ : ∃ j, k = j + 1 := ⟨k - 1, by omega⟩
  rw [pilcrowref03_Bytes.l0, if_neg (by omega), List.drop_eq_nil_of_le (by omega)]
  exact ⟨_, rfl, rfl⟩
 | m + 1, i, k, x, hi, hk, h1 => by
  obtain ⟨k, rfl⟩ : ∃ j, k = j + 5 := ⟨k - 5, by omega⟩
  have hw : wrap64 ((i : Int) + 1) = ((i + 1 : Nat) : Int) := by rw [yw64 (by omega) (by omega)]; omega
  obtain ⟨s, e, hs⟩ := one_f (l.getD i 0) k
  have hr := len8_rng (l.getD i 0)
  rw [pilcrowref03_Bytes.l0, if_pos (by omega), if_pos (by omega), rd_at, e, Option.bind_some, drop_at l i (by omega), List.foldl_cons, hw, if_pos (by omega)]
  obtain ⟨s2, e2, hs2⟩ := bytes_l0 l hl m (i + 1) (k + 4) (x ++ s) (by omega) (by omega) (by rw [ByteArray.size_append]; omega)
  refine ⟨s2, e2, ?_⟩
  rw [hs2, ByteArray.size_append]
  congr 1
  unfold gB
  omega
theorem bytes_f (l : List Int) (hl : l.length ≤ 100000) (j : Nat) : ∃ s, pilcrowref03_Bytes.f (l.length + 5 + j) l = some s ∧ (s.size : Int) = l.foldl gB 0 := by
 have := bytes_l0 l hl l.length 0 (l.length + 5 + j) ⟨#[]⟩ (by omega) (by omega) (by decide)
 rw [List.drop_zero] at this
 exact this
def gC (k n c : Int) : Int := n + one c k
theorem count_l0 (q : Int) (l : List Int) (hl : l.length ≤ 100000) : ∀ (m i k : Nat) (x : Int), i + m = l.length → m + 5 ≤ k → 0 ≤ x → x ≤ i → pilcrowref23_count.l0 k l q x i = some ((l.drop i).foldl (gC q) x)
 | 0, i, k, x, hi, hk, _, _ => by
  obtain ⟨k, rfl⟩ : ∃ j, k = j + 1 := ⟨k - 1, by omega⟩
  rw [pilcrowref23_count.l0, if_neg (by omega), List.drop_eq_nil_of_le (by omega)]
  rfl
 | m + 1, i, k, x, hi, hk, h0, h1 => by
  obtain ⟨k, rfl⟩ : ∃ j, k = j + 4 := ⟨k - 4, by omega⟩
  have hw : wrap64 ((i : Int) + 1) = ((i + 1 : Nat) : Int) := by rw [yw64 (by omega) (by omega)]; omega
  rw [pilcrowref23_count.l0, if_pos (by omega), if_pos (by omega), rd_at, rcls_f, Option.bind_some, drop_at l i (by omega), List.foldl_cons, hw]
  unfold gC one
  by_cases hs : clsF (l.getD i 0) = q
  ·rw [if_pos hs, if_pos hs, yw64 (x := x + 1) (by omega) (by omega), count_l0 q l hl m (i + 1) (k + 3) _ (by omega) (by omega) (by omega) (by omega)]
   rfl
  ·rw [if_neg hs, if_neg hs, count_l0 q l hl m (i + 1) (k + 3) _ (by omega) (by omega) h0 (by omega), Int.add_zero]
   rfl
theorem count_f (q : Int) (l : List Int) (hl : l.length ≤ 100000) (j : Nat) : pilcrowref23_count.f (l.length + 5 + j) l q = some (l.foldl (gC q) 0) := by
 have := count_l0 q l hl l.length 0 (l.length + 5 + j) 0 (by omega) (by omega) (by omega) (by omega)
 rw [List.drop_zero] at this
 exact this
theorem fold_proj (p : Tl → Int) (g : Int → Int → Int) (h : ∀ t c, isScal c = true → p (stepY t c) = g (p t) c) : ∀ (l : List Int), (∀ c ∈ l, isScal c = true) → ∀ t, p (l.foldl stepY t) = l.foldl g (p t)
 | [], _, t => rfl
 | c :: r, hl, t => by
  rw [List.foldl_cons, List.foldl_cons, fold_proj p g h r (fun x hx => hl x (List.mem_cons_of_mem _ hx)), h t c (hl c (List.mem_cons_self ..))]
theorem sc_len : ∀ (l : List Int), (∀ c ∈ l, isScal c = true) → ∀ t, (l.foldl stepY t).sc = t.sc + l.length
 | [], _, t => by simp
 | c :: r, hl, t => by
  rw [List.foldl_cons, sc_len r (fun x hx => hl x (List.mem_cons_of_mem _ hx))]
  have hs := hl c (List.mem_cons_self ..)
  have : (stepY t c).sc = t.sc + 1 := by unfold stepY; rw [if_pos hs]
  rw [this, List.length_cons]
  omega
theorem all_un (l : List Int) (hl : ∀ c ∈ l, isScal c = true) : l.foldl gU 0 = (ofT l).un := by
 refine (fold_proj (·.un) gU (fun t c hs => ?_) l hl zeroT).symm
 unfold stepY gU; rw [if_pos hs, if_pos hs]
theorem of_l1 (l : List Int) (hl : l.length ≤ 100000) (hs : ∀ c ∈ l, isScal c = true) (h0 : ∀ c ∈ l, 0 ≤ c) (a0 a1 a2 a3 a4 a5 a6 a7 a8 : Int) : ∀ (m i k : Nat), i + m = l.length → 2 * m + 1 ≤ k →
  pilcrowref23_Of.l1 k l i a0 a1 a2 a3 a4 a5 a6 a7 a8 ((l.take i).foldl stepY zeroT).le ((l.take i).foldl stepY zeroT).mo = some (a0, a1, a2, a3, a4, a5, a6, a7, a8, (ofT l).le, (ofT l).mo)
 | 0, i, k, hi, hk => by
  obtain ⟨k, rfl⟩ : ∃ j, k = j + 1 := ⟨k - 1, by omega⟩
  rw [pilcrowref23_Of.l1, if_neg (by omega), List.take_of_length_le (by omega)]
  rfl
 | m + 1, i, k, hi, hk => by
  obtain ⟨k, rfl⟩ : ∃ j, k = j + 2 := ⟨k - 2, by omega⟩
  have hw : wrap64 ((i : Int) + 1) = ((i + 1 : Nat) : Int) := by rw [yw64 (by omega) (by omega)]; omega
  have ih := of_l1 l hl hs h0 a0 a1 a2 a3 a4 a5 a6 a7 a8 m (i + 1) k (by omega) (by omega)
  have ht : l.take (i + 1) = l.take i ++ [l.getD i 0] := by
   rw [List.take_add_one, List.getElem?_eq_getElem (by omega), List.getD_eq_getElem?_getD, List.getElem?_eq_getElem (by omega)]
   rfl
  rw [ht, List.foldl_append, List.foldl_cons, List.foldl_nil] at ih
  have hsc := sc_len (l.take i) (fun c hc => hs c (List.mem_of_mem_take hc)) zeroT
  rw [List.length_take, Nat.min_eq_left (by omega)] at hsc
  obtain ⟨t, htt⟩ : ∃ t, (l.take i).foldl stepY zeroT = t := ⟨_, rfl⟩
  rw [htt] at ih hsc ⊢
  have hz : t.sc = (i : Int) := by rw [hsc]; show 0 + (i : Int) = i; omega
  have hc := hs _ (at_mem l i (by omega))
  obtain ⟨c, hcc⟩ : ∃ c, l.getD i 0 = c := ⟨_, rfl⟩
  rw [hcc] at ih hc
  have e : stepY t c = ⟨t.sc + 1, t.un + unF c, t.by8 + len8 c, t.ct + one c 1, t.ai + one c 2, t.la + one c 3, t.pl + one c 4, t.pr + one c 5, t.be + one c 6, if t.sc = 0 then c else if c < t.le then c else t.le, if t.mo < c then c else t.mo⟩ := by unfold stepY; rw [if_pos hc]
  rw [e] at ih
  dsimp only at ih
  rw [pilcrowref23_Of.l1, if_pos (by omega)]
  simp only [pilcrowref23_Of.j2, rd_at, hcc]
  by_cases hi0 : i = 0
  ·rw [if_pos (by omega), if_pos trivial, if_pos (by omega), if_pos (by omega), hw]
   rw [if_pos (by omega)] at ih
   by_cases hm : c > t.mo
   ·rw [if_pos hm]; rw [if_pos hm] at ih; exact ih
   ·rw [if_neg hm]; rw [if_neg (by omega)] at ih; exact ih
  ·rw [if_neg (by omega), if_pos (by omega), hw]
   rw [if_neg (by omega)] at ih
   by_cases hle : c < t.le
   ·rw [decide_eq_true hle, if_pos rfl, if_pos (by omega), if_pos (by omega)]
    rw [if_pos hle] at ih
    by_cases hm : c > t.mo
    ·rw [if_pos hm]; rw [if_pos hm] at ih; exact ih
    ·rw [if_neg hm]; rw [if_neg (by omega)] at ih; exact ih
   ·rw [decide_eq_false hle, if_neg (by decide), if_pos (by omega), if_pos (by omega)]
    rw [if_neg hle] at ih
    by_cases hm : c > t.mo
    ·rw [if_pos hm]; rw [if_pos hm] at ih; exact ih
    ·rw [if_neg hm]; rw [if_neg (by omega)] at ih; exact ih
theorem of_end (l : List Int) (hl : l.length ≤ 100000) (hs : ∀ c ∈ l, isScal c = true) (h0 : ∀ c ∈ l, 0 ≤ c) (x : List Int) (i : Int) (hx : ¬ i < (x.length : Int)) (j : Nat) :
  pilcrowref23_Of.l0 (2 * l.length + 10 + j + 1) x l i = some ((ofT l).sc, (ofT l).un, (ofT l).by8, (ofT l).ct, (ofT l).ai, (ofT l).la, (ofT l).pl, (ofT l).pr, (ofT l).be, (ofT l).le, (ofT l).mo) := by
 have e0 : (l.length : Int) = (ofT l).sc := by have := sc_len l hs zeroT; rw [show (ofT l).sc = 0 + (l.length : Int) from this]; omega
 have e1 := units_f l hl (l.length + 9 + j)
 rw [show l.length + 1 + (l.length + 9 + j) = 2 * l.length + 10 + j by omega, all_un l hs] at e1
 obtain ⟨s, e2, e3⟩ := bytes_f l hl (l.length + 5 + j)
 rw [show l.length + 5 + (l.length + 5 + j) = 2 * l.length + 10 + j by omega] at e2
 have e4 : l.foldl gB 0 = (ofT l).by8 := (fold_proj (·.by8) gB (fun t c hs => by unfold stepY gB; rw [if_pos hs]) l hs zeroT).symm
 have ec := fun q => count_f q l hl (l.length + 5 + j)
 simp only [show l.length + 5 + (l.length + 5 + j) = 2 * l.length + 10 + j by omega] at ec
 have c1 : l.foldl (gC 1) 0 = (ofT l).ct := (fold_proj (·.ct) (gC 1) (fun t c hs => by unfold stepY gC; rw [if_pos hs]) l hs zeroT).symm
 have c2 : l.foldl (gC 2) 0 = (ofT l).ai := (fold_proj (·.ai) (gC 2) (fun t c hs => by unfold stepY gC; rw [if_pos hs]) l hs zeroT).symm
 have c3 : l.foldl (gC 3) 0 = (ofT l).la := (fold_proj (·.la) (gC 3) (fun t c hs => by unfold stepY gC; rw [if_pos hs]) l hs zeroT).symm
 have c4 : l.foldl (gC 4) 0 = (ofT l).pl := (fold_proj (·.pl) (gC 4) (fun t c hs => by unfold stepY gC; rw [if_pos hs]) l hs zeroT).symm
 have c5 : l.foldl (gC 5) 0 = (ofT l).pr := (fold_proj (·.pr) (gC 5) (fun t c hs => by unfold stepY gC; rw [if_pos hs]) l hs zeroT).symm
 have c6 : l.foldl (gC 6) 0 = (ofT l).be := (fold_proj (·.be) (gC 6) (fun t c hs => by unfold stepY gC; rw [if_pos hs]) l hs zeroT).symm
 have hl1 := of_l1 l hl hs h0 (ofT l).sc (ofT l).un (ofT l).by8 (ofT l).ct (ofT l).ai (ofT l).la (ofT l).pl (ofT l).pr (ofT l).be l.length 0 (2 * l.length + 10 + j) (by omega) (by omega)
 rw [List.take_zero] at hl1
 rw [pilcrowref23_Of.l0, if_neg hx, e1, Option.bind_some, e2, Option.bind_some, ec 1, Option.bind_some, ec 2, Option.bind_some, ec 3, Option.bind_some, ec 4, Option.bind_some, ec 5, Option.bind_some, ec 6, Option.bind_some, e3, e4, c1, c2, c3, c4, c5, c6, e0]
 exact hl1
theorem of_l0 (l : List Int) (hl : l.length ≤ 100000) (h0 : ∀ c ∈ l, 0 ≤ c) : ∀ (m i k : Nat), i + m = l.length → 2 * l.length + 11 + m ≤ k →
  pilcrowref23_Of.l0 k l ((l.take i).filter fun c => isScal c) i = some ((ofT l).sc, (ofT l).un, (ofT l).by8, (ofT l).ct, (ofT l).ai, (ofT l).la, (ofT l).pl, (ofT l).pr, (ofT l).be, (ofT l).le, (ofT l).mo)
 | 0, i, k, hi, hk => by
  rw [List.take_of_length_le (by omega)]
  have hf : (l.filter fun c => isScal c).length ≤ l.length := List.length_filter_le ..
  have := of_end (l.filter fun c => isScal c) (by omega) (fun c hc => by simpa using (List.mem_filter.1 hc).2) (fun c hc => h0 c (List.mem_filter.1 hc).1) l i (by omega) (k - (2 * (l.filter fun c => isScal c).length + 11))
  rw [show 2 * (l.filter fun c => isScal c).length + 10 + (k - (2 * (l.filter fun c => isScal c).length + 11)) + 1 = k by omega, ofT_filter] at this
  exact this
 | m + 1, i, k, hi, hk => by
  obtain ⟨k, rfl⟩ : ∃ j, k = j + 1 := ⟨k - 1, by omega⟩
  have hw : wrap64 ((i : Int) + 1) = ((i + 1 : Nat) : Int) := by rw [yw64 (by omega) (by omega)]; omega
  have ih := of_l0 l hl h0 m (i + 1) k (by omega) (by omega)
  have ht : l.take (i + 1) = l.take i ++ [l.getD i 0] := by
   rw [List.take_add_one, List.getElem?_eq_getElem (by omega), List.getD_eq_getElem?_getD, List.getElem?_eq_getElem (by omega)]
   rfl
  have hf : ((l.take i).filter fun c => isScal c).length ≤ i := Nat.le_trans (List.length_filter_le ..) (by rw [List.length_take]; omega)
  rw [ht, List.filter_append] at ih
  rw [pilcrowref23_Of.l0, if_pos (by omega), if_pos (by omega), rd_at, yis_f, Option.bind_some, hw]
  by_cases hs : isScal (l.getD i 0) = true
  ·rw [if_pos hs, if_pos (by omega)]
   rw [List.filter_cons_of_pos (by simpa using hs)] at ih
   exact ih
  ·rw [if_neg hs]
   rw [List.filter_cons_of_neg (by simpa using hs), List.filter_nil, List.append_nil] at ih
   exact ih
theorem of_f (l : List Int) (hl : l.length ≤ 100000) (h0 : ∀ c ∈ l, 0 ≤ c) : pilcrowref23_Of.f (3 * l.length + 11) l = some ((ofT l).sc, (ofT l).un, (ofT l).by8, (ofT l).ct, (ofT l).ai, (ofT l).la, (ofT l).pl, (ofT l).pr, (ofT l).be, (ofT l).le, (ofT l).mo) :=
 of_l0 l hl h0 l.length 0 (3 * l.length + 11) (by omega) (by omega)
end Go.Proofs.YtppchdinolndmaaGreatDoor
namespace Go.Proofs.YtppchdinolndmaaGreatDoor
open Go.RowKit Go.Proofs.YtppchdinolndmaaGreatDoorW.PrintWords
set_option linter.unusedVariables false
set_option linter.unusedSimpArgs false
def Inv2 (tg : TypeId) (name : String) (f : Nat) : Prop := ∀ (n : Nat) (g : Nat) (x y : Value) (w : World),
 ((Sem.run Tryz.prog (method (n + 1) tg (.pointer (some ⟨g, 0, none⟩)) name) w).andThen fun a w' => Sem.run Tryz.prog (callFunc a.fst #[a.snd, x, y]) w') = .ok (.enter f #[.pointer (some ⟨g, 0, none⟩), x, y]) w
def Inv0 (tg : TypeId) (name : String) (f : Nat) : Prop := ∀ (n : Nat) (g : Nat) (w : World),
 ((Sem.run Tryz.prog (method (n + 1) tg (.pointer (some ⟨g, 0, none⟩)) name) w).andThen fun a w' => Sem.run Tryz.prog (callFunc a.fst #[a.snd]) w') = .ok (.enter f #[.pointer (some ⟨g, 0, none⟩)]) w
theorem q_ge {w : World} {base n size : Nat} {e : TypeId} {v : Value} {xs : List Value} (h : QRow w base e size v n xs) (k : Nat) (hk : v.ownBlock = some k) : base ≤ k := by
 rcases h.2 with ⟨_, A, rfl, hA⟩ | ⟨g, off, cap, cur, rfl, hb, _⟩
 ·cases A with
  | none => cases hk
  | some a => injection hk with hk; rw [← hk]; exact (hA a rfl).1
 ·injection hk with hk; rw [← hk]; exact hb
def strOf (l : List Int) : ByteArray := ⟨(l.map fun x => UInt8.ofNat x.toNat).toArray⟩
def isBytes (l : List Int) : Prop := ∀ x ∈ l, 0 ≤ x ∧ x ≤ 255
theorem strOf_size (l : List Int) : (strOf l).size = l.length := by simp [strOf, ByteArray.size]
theorem bytesOf_strOf {l : List Int} (h : isBytes l) : bytesOf (strOf l) = l := by
 unfold bytesOf strOf
 simp only [List.map_map]
 conv => rhs; rw [← List.map_id l]
 refine List.map_congr_left fun x hx => ?_
 have := h x hx
 simp
 omega
theorem strOf_bytesOf (s : ByteArray) : strOf (bytesOf s) = s := by
 unfold strOf bytesOf
 rw [List.map_map]
 have e : ((fun x : Int => UInt8.ofNat x.toNat) ∘ fun b : UInt8 => (b.toNat : Int)) = id := by
  funext b
  simp
 rw [e, List.map_id]
theorem strOf_append (a b : List Int) : strOf (a ++ b) = strOf a ++ strOf b := by
 apply ByteArray.ext
 simp [strOf]
theorem strOf_take (a : List Int) (n : Nat) : strOf (a.take n) = (strOf a).extract 0 n := by
 apply ByteArray.ext
 simp [strOf, List.take_eq_take_min]
theorem strOf_drop (a : List Int) (n : Nat) : strOf (a.drop n) = (strOf a).extract n a.length := by
 apply ByteArray.ext
 simp only [strOf, List.map_drop, ByteArray.data_extract, List.extract_toArray]
 congr 1
 show _ = List.take (a.length - n) (List.drop n _)
 rw [List.take_of_length_le]
 simp
theorem add_block (ad : Addr) (j : Nat) : (ad.add j).block = ad.block := by unfold Addr.add; split <;> rfl
structure EncK (tg : TypeId) (fF fE : Nat) (M : EMach) (Rep : World → Nat → (Nat → Prop) → ESt M → Prop) : Prop where
 invF : Inv2 tg "Feed" fF
 invE : Inv0 tg "End" fE
 invD : Inv0 tg "Done" 126
 invW : Inv0 tg "Fail" 128
 lt : ∀ {w g F d}, Rep w g F d → ∀ k, F k → k < w.heap.size
 eff : ∀ {w w1 : World} {g F d S}, Rep w g F d → Eff w w1 S → (∀ k, F k → ¬ S k) → Rep w1 g F d
 feed : ∀ {w g F d} (A : Option Addr) (c : Nat) (l : List Int) (room : Int), Rep w g F d → ReadsInt w .u32 A l.length l → (l ≠ [] → ∀ ad, A = some ad → ¬ F ad.block) → (∀ x ∈ l, 0 ≤ x) → d.pos + l.length ≤ 1000000 → d.kept.length ≤ 10000000 → (-1000000000 ≤ room ∧ room ≤ 9223372036854775807) →
  Calls Tryz.prog fF #[.pointer (some ⟨g, 0, none⟩), .slice A l.length c, .int .i64 room] w fun e w' => ∃ F', e = .returned (.tuple #[.int .i64 (feedE M room l (d.drop (giveZ room d.kept.length)) (d.kept.take (giveZ room d.kept.length))).1,
    .string (strOf (feedE M room l (d.drop (giveZ room d.kept.length)) (d.kept.take (giveZ room d.kept.length))).2.1)]) ∧
   Rep w' g F' (feedE M room l (d.drop (giveZ room d.kept.length)) (d.kept.take (giveZ room d.kept.length))).2.2 ∧ Eff w w' F ∧ (∀ k, F' k → F k ∨ w.heap.size ≤ k)
 fin : ∀ {w g F d}, Rep w g F d → d.pos ≤ 10000 → d.kept.length ≤ 10000000 →
  Calls Tryz.prog fE #[.pointer (some ⟨g, 0, none⟩)] w fun e w' => ∃ F', e = .returned (.tuple #[]) ∧ Rep w' g F' (endE M d) ∧ Eff w w' F ∧ (∀ k, F' k → F k ∨ w.heap.size ≤ k)
 done : ∀ {w g F d}, Rep w g F d → Calls Tryz.prog 126 #[.pointer (some ⟨g, 0, none⟩)] w fun e w' => e = .returned (.bool (!d.going && d.kept.isEmpty)) ∧ w = w'
 blk : ∀ {w g F d}, Rep w g F d → ∃ T cs, T ≠ 5 ∧ T ≠ 51 ∧ Blk w g T cs ∧ cs[1]? = some (.int .i64 d.err) ∧ cs[2]? = some (.int .i64 d.fat)
theorem EncK.fail {tg : TypeId} {fF fE : Nat} {M : EMach} {Rep : World → Nat → (Nat → Prop) → ESt M → Prop} (K : EncK tg fF fE M Rep) {w : World} {g : Nat} {F : Nat → Prop} {d : ESt M} (h : Rep w g F d) :
  Calls Tryz.prog 128 #[.pointer (some ⟨g, 0, none⟩)] w fun e w' => e = .returned (.agg #[.int .i64 d.err, .int .i64 d.fat]) ∧ Below w.heap.size w w' := by
 obtain ⟨T, cs, _, _, hb, e1, e2⟩ := K.blk h
 exact fail_c hb e1 e2
def NewE (c : Int) (tg : TypeId) (M : EMach) (Rep : World → Nat → (Nat → Prop) → ESt M → Prop) : Prop := ∀ w : World,
 Calls Tryz.prog 30 #[.int .i64 c] w fun e w' => ∃ g F, e = .returned (.tuple #[.iface tg (.pointer (some ⟨g, 0, none⟩)), .int .i64 0]) ∧ Below w.heap.size w w' ∧ Rep w' g F (ESt.new M) ∧ (∀ k, F k → w.heap.size ≤ k)
theorem outdone_c {g : Nat} {T : TypeId} {cs : Array Value} {err : Int} {en : Bool} {xs : List Int} {w : World} (hb : Blk w g T cs) (e1 : cs[1]? = some (.int .i64 err)) (e3 : cs[3]? = some (.bool en)) (e4 : cs[4]? = some (.string (strOf xs))) :
  Calls Tryz.prog 126 #[.pointer (some ⟨g, 0, none⟩)] w fun e w' => e = .returned (.bool (!(err == 0 && !en) && xs.isEmpty)) ∧ w = w' := by
 have hg := going_c hb e1 e3
 have hh := kept_c hb e4
 rw [strOf_size] at hh
 have hx : ((xs.length : Int) == 0) = xs.isEmpty := by cases xs <;> simp; omega
 generalize (err == 0 && !en) = b at *
 cases b
 ·go_enter Tryz.func126, Tryz.ntmps126
  go_wp2_with (first | (go_at_call 131; refine hg.mono ?_; rintro e w' ⟨rfl, rfl⟩) | (go_at_call 130; refine hh.mono ?_; rintro e w' ⟨rfl, rfl⟩))
  all_goals go_ret
  all_goals exact ⟨rfl, rfl⟩
 ·go_enter Tryz.func126, Tryz.ntmps126
  go_wp2_with (go_at_call 131; refine hg.mono ?_; rintro e w' ⟨rfl, rfl⟩)
  all_goals go_ret
  all_goals exact ⟨rfl, rfl⟩
theorem scal_c (n : Int) (w : World) : Calls Tryz.prog 29 #[.int .u32 n] w fun e w' => e = .returned (.bool (isScal n)) ∧ Below w.heap.size w w' := by
 unfold isScal
 by_cases h1 : n ≤ 1114111
 ·have d1 : decide (n ≤ 1114111) = true := decide_eq_true h1
  by_cases h2 : n < 55296
  ·have d2 : decide (n < 55296) = true := decide_eq_true h2
   have d3 : decide (55296 ≤ n) = false := decide_eq_false (by omega)
   go_enter Tryz.func29, Tryz.ntmps29
   go_wp2
   go_ret
   exact ⟨by simp [d1, d3], Below.refl _ _⟩
  ·have d2 : decide (n < 55296) = false := decide_eq_false h2
   have d3 : decide (55296 ≤ n) = true := decide_eq_true (by omega)
   by_cases h3 : n ≤ 57343
   ·have d4 : decide (n > 57343) = false := decide_eq_false (by omega)
    have d5 : decide (n ≤ 57343) = true := decide_eq_true h3
    go_enter Tryz.func29, Tryz.ntmps29
    go_wp2
    go_ret
    exact ⟨by simp [d1, d3, d5], Below.refl _ _⟩
   ·have d4 : decide (n > 57343) = true := decide_eq_true (by omega)
    have d5 : decide (n ≤ 57343) = false := decide_eq_false h3
    go_enter Tryz.func29, Tryz.ntmps29
    go_wp2
    go_ret
    exact ⟨by simp [d1, d3, d5], Below.refl _ _⟩
 ·have d1 : decide (n ≤ 1114111) = false := decide_eq_false h1
  go_enter Tryz.func29, Tryz.ntmps29
  go_wp2
  go_ret
  exact ⟨by simp [d1], Below.refl _ _⟩
theorem give_l {g o : Nat} {T : TypeId} {cs : Array Value} {xs : List Int} {room : Int} {w : World} (hb : Blk w g T cs) (e : cs[o]? = some (.string (strOf xs))) :
  Calls Tryz.prog 132 #[.pointer (some ⟨g, o, none⟩), .int .i64 room] w fun e w' => e = .returned (.string (strOf (xs.take (giveZ room xs.length)))) ∧ w' = w.setCell ⟨g, o, none⟩ (.string (strOf (xs.drop (giveZ room xs.length)))) := by
 have h := give_c (room := room) hb e
 rw [strOf_size] at h
 rw [strOf_take, strOf_drop]
 exact h
theorem keep_l {g o : Nat} {T : TypeId} {cs : Array Value} {xs ys : List Int} {w : World} (hb : Blk w g T cs) (e : cs[o]? = some (.string (strOf xs))) (hs : xs.length + ys.length ≤ 140737488351232) :
  Calls Tryz.prog 134 #[.pointer (some ⟨g, o, none⟩), .string (strOf ys)] w fun e w' => e = .returned (.tuple #[]) ∧ w' = w.setCell ⟨g, o, none⟩ (.string (strOf (xs ++ ys))) := by
 have h := keep_c (t := strOf ys) hb e (by rw [strOf_size, strOf_size]; exact hs)
 rw [strOf_append]
 exact h
theorem kept_l {g o : Nat} {T : TypeId} {cs : Array Value} {xs : List Int} {w : World} (hb : Blk w g T cs) (e : cs[o]? = some (.string (strOf xs))) :
  Calls Tryz.prog 130 #[.pointer (some ⟨g, o, none⟩)] w fun e w' => e = .returned (.int .i64 xs.length) ∧ w = w' := by
 have h := kept_c hb e
 rw [strOf_size] at h
 exact h
theorem reads_eff {w w1 : World} {S : Nat → Prop} {A : Option Addr} {l : List Int} (h : ReadsInt w .u32 A l.length l) (he : Eff w w1 S) (hs : l ≠ [] → ∀ ad, A = some ad → ¬ S ad.block) : ReadsInt w1 .u32 A l.length l := by
 refine ⟨h.1, h.2.1, fun h0 => ?_⟩
 obtain ⟨ad, h1, h2⟩ := h.2.2 h0
 refine ⟨ad, h1, fun j hj => ?_⟩
 have hc := h2 j hj
 have hlt := World.block_lt_of_cell? w _ hc
 rw [add_block] at hlt
 have hb := he.block (ad.add j).block (by rw [add_block]; exact hlt) (by rw [add_block]; exact hs (fun e => by rw [e] at h0; exact absurd h0 (by decide)) ad h1)
 unfold World.cell? at hc ⊢
 rw [hb]
 exact hc
theorem reads_cells8 (w : World) (l : List Int) : ReadsInt (w.alloc (.cells (nums .u8 l).toArray 5 (0, 0))) .u8 (some ⟨w.heap.size, 0, none⟩) l.length l ∨ maxLen < l.length := by
 by_cases hl : l.length ≤ maxLen
 ·refine .inl ⟨rfl, by have : maxLen ≤ 9223372036854775807 := by decide
                       omega, fun _ => ⟨_, rfl, fun j hj => ?_⟩⟩
  have h := (Blk.new w 5 (nums .u8 l).toArray).cell (i := j) (v := .int .u8 (l.getD j 0)) (by
   simp [nums, List.getD_eq_getElem?_getD, List.getElem?_eq_getElem hj])
  unfold Addr.add
  split
  ·rename_i h0; subst h0; exact h
  ·simpa using h
 ·exact .inr (by omega)
theorem conv8 (w : World) (l : List Int) (c : Nat) (h : l.length ≤ 100) :
  (convert 49 9 (.slice (some ⟨w.heap.size, 0, none⟩) l.length c)).run Tryz.prog (w.alloc (.cells (nums .u8 l).toArray 5 (0, 0))) = .ok (.string (strOf l)) (w.alloc (.cells (nums .u8 l).toArray 5 (0, 0))) := by
 rcases reads_cells8 w l with hr | hr
 ·exact string_of_reads (P := Tryz.prog) Tryz.underlying49 Tryz.underlying5 Tryz.underlying9 (c := c) hr
 ·have : 100 ≤ maxLen := by decide
  omega
theorem conv8d (w : World) (l : List Int) (c : Nat) (h : l.length ≤ 100) :
  (convert 49 9 (.slice (some ⟨w.heap.size, 0, none⟩) l.length c)).run Tryz.prog (w.alloc (.cells (nums .u8 l).toArray 5 (0, 0))).drew = .ok (.string (strOf l)) (w.alloc (.cells (nums .u8 l).toArray 5 (0, 0))).drew := by
 rcases reads_cells8 w l with hr | hr
 ·exact string_of_reads (P := Tryz.prog) Tryz.underlying49 Tryz.underlying5 Tryz.underlying9 (c := c) (show ReadsInt (w.alloc (.cells (nums .u8 l).toArray 5 (0, 0))).drew .u8 _ l.length l from hr)
 ·have : 100 ≤ maxLen := by decide
  omega
theorem field_agg0 (a b : Value) (w : World) : (Instr.field 41 (.agg #[a, b]) 0).run Tryz.prog w = .ok a w := by kernel_rfl
theorem own_alloc {w : World} {base n size : Nat} {e : TypeId} {v : Value} {xs : List Value} (h : w.ownsRow base e size v n xs) (o : Obj) : (w.alloc o).ownsRow base e size v n xs :=
 own_move h fun k hk => by obtain ⟨cells, hc⟩ := own_typed h k hk; exact Below.heap_alloc w o k (Array.getElem?_eq_some_iff.1 hc).1
theorem own_slice {w : World} {base n size : Nat} {e : TypeId} {v : Value} {xs : List Value} (h : w.ownsRow base e size v n xs) : ∃ A c, v = .slice A n c ∧ n ≤ c := by
 rcases h.2 with ⟨rfl, h0⟩ | ⟨g, cap, cur, rfl, _, _, hnc, _⟩
 ·exact ⟨none, 0, by rw [h0], by omega⟩
 ·exact ⟨_, _, rfl, hnc⟩
theorem own_below {w w1 : World} {base n size : Nat} {e : TypeId} {v : Value} {xs : List Value} (h : w.ownsRow base e size v n xs) (hb : Below w.heap.size w w1) : w1.ownsRow base e size v n xs :=
 own_move h fun k hk => by obtain ⟨cells, hc⟩ := own_typed h k hk; exact hb.block k (Array.getElem?_eq_some_iff.1 hc).1
set_option maxRecDepth 100000 in
set_option maxHeartbeats 8000000 in
theorem noE (c : Int) (h : c < 1 ∨ 10 < c) (w : World) : Calls Tryz.prog 30 #[.int .i64 c] w fun e w' => e = .returned (.tuple #[.nilIface, .int .i64 11]) ∧ w' = w := by
 have n1 : ¬ c = 1 := by omega
 have n2 : ¬ c = 2 := by omega
 have n3 : ¬ c = 3 := by omega
 have n4 : ¬ c = 4 := by omega
 have n5 : ¬ c = 5 := by omega
 have n6 : ¬ c = 6 := by omega
 have n7 : ¬ c = 7 := by omega
 have n8 : ¬ c = 8 := by omega
 have n9 : ¬ c = 9 := by omega
 have n10 : ¬ c = 10 := by omega
 have m1 : (c == 1) = false := by simpa using n1
 have m2 : (c == 2) = false := by simpa using n2
 have m3 : (c == 3) = false := by simpa using n3
 have m4 : (c == 4) = false := by simpa using n4
 have m5 : (c == 5) = false := by simpa using n5
 have m6 : (c == 6) = false := by simpa using n6
 have m7 : (c == 7) = false := by simpa using n7
 have m8 : (c == 8) = false := by simpa using n8
 have m9 : (c == 9) = false := by simpa using n9
 have m10 : (c == 10) = false := by simpa using n10
 clear h
 go_enter Tryz.func30, Tryz.ntmps30
 go_wp2_with fail
 refine bodyPost_ret (results_list (rs := [.tmp 2, .tmp 3]) rfl (by simp) (.tmp (.tmp .nil))) rfl ?_
 exact ⟨rfl, rfl⟩
end Go.Proofs.YtppchdinolndmaaGreatDoor
namespace Go.Proofs.YtppchdinolndmaaGreatDoor
open Go.RowKit Go.Proofs.YtppchdinolndmaaGreatDoorW.PrintWords Go.Proofs.YtppchdinolndmaaGreatDoorW.PrintLast Go.Proofs.YtppchdinolndmaaGreatDoorW.PrintMore Go.Proofs.YtppchdinolndmaaGreatDoor.PPd
set_option linter.unusedVariables false
set_option linter.unusedSimpArgs false
theorem prev_tot (c : Int) : ∃ r, diff_Prev.f 5 c = some r ∧ 0 ≤ r ∧ r ≤ 4294967295 := by
 have hj1 : ∀ b, ∃ r, diff_Prev.j1 4 c b = some r ∧ 0 ≤ r ∧ r ≤ 4294967295 := by
  intro b
  simp only [diff_Prev.j1]
  (repeat' split) <;> exact ⟨_, rfl, by omega, by omega⟩
 have hj0 : ∀ b, ∃ r, diff_Prev.j0 5 c b = some r ∧ 0 ≤ r ∧ r ≤ 4294967295 := by
  intro b
  simp only [diff_Prev.j0]
  split
  ·exact ⟨_, rfl, by omega, by omega⟩
  ·split <;> exact hj1 _
 unfold diff_Prev.f
 split <;> exact hj0 _
def prevB (c : Int) : Int := (diff_Prev.f 5 c).getD 0
theorem prevB_range (c : Int) : 0 ≤ prevB c ∧ prevB c ≤ 4294967295 := by
 obtain ⟨r, h, h0, h1⟩ := prev_tot c
 have e : prevB c = r := by unfold prevB; rw [h]; rfl
 rw [e]; exact ⟨h0, h1⟩
theorem prev_c (c : Int) (w : World) : Calls Tryz.prog 181 #[.int .u32 c] w fun e w' => e = .returned (.int .u32 (prevB c)) ∧ Below w.heap.size w w' := by
 obtain ⟨r, h, h0, h1⟩ := prev_tot c
 have e : prevB c = r := by unfold prevB; rw [h]; rfl
 rw [e]
 exact (diff_Prev.calls 5 c r w h).mono fun e w' h => by
  first
   | exact h
   | (obtain ⟨rfl, ⟨nd, rfl⟩⟩ := h; exact ⟨rfl, below_drewN' (Below.refl _ _) nd⟩)
   | (obtain ⟨rfl, rfl⟩ := h; exact ⟨rfl, Below.refl _ _⟩)
end Go.Proofs.YtppchdinolndmaaGreatDoor
