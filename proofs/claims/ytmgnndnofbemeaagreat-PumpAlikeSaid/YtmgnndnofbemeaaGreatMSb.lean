/- Joined texts: Sb, En, Sw. -/
import Derived.Test.YtmgnndnofbemeaaGreatMUstp
import Derived.Shelf.Strings.Builder1
import Derived.Test.YtmgnndnofbemeaaGreatMShelf
import Derived.Deep.CutBlock
namespace Go.Proofs.YtmgnndnofbemeaaGreat
open Go.RowKit Go.Proofs.YtmgnndnofbemeaaGreatW.PrintWords
set_option linter.unusedVariables false
set_option linter.unusedSimpArgs false
structure BX (w : World) (g B : Nat) (xs : List Int) (no : Bool) (lv : Value) : Prop where
 blk : Blk w g 79 #[.pointer (if no = true then none else some ⟨g, 0, none⟩), lv]
 row : w.ownsRow B 5 1 lv xs.length (nums .u8 xs)
theorem BX.new (w : World) (B : Nat) : BX (w.alloc (.cells #[.pointer none, .slice none 0 0] 79 (0, 0))) w.heap.size B [] true (.slice none 0 0) :=
 ⟨Blk.new w _ _, ⟨rfl, .inl ⟨rfl, rfl⟩⟩⟩
theorem BX.below {w w1 : World} {g B : Nat} {xs : List Int} {no : Bool} {lv : Value} (h : BX w g B xs no lv) (hb : Below w.heap.size w w1) : BX w1 g B xs no lv :=
 ⟨h.blk.below hb, own_below h.row hb⟩
set_option maxRecDepth 100000 in
set_option maxHeartbeats 1000000 in
theorem copyCheck_c (g B : Nat) (xs : List Int) (no : Bool) (lv : Value) (w : World) (hd : BX w g B xs no lv) :
  Calls Tryz.prog 67 #[.pointer (some ⟨g, 0, none⟩)] w fun e w' => e = .returned (.tuple #[]) ∧ BX w' g B xs false lv ∧ Eff w w' (fun k => k = g) := by
 have HD := Lib.hid hd
 cases no with
 | true =>
  have c0 : w.cell? ⟨g, 0, none⟩ = some (.pointer none) := hd.blk.cell rfl
  have f0 := hd.blk.frozen 0
  clear hd
  go_enter Tryz.func67, Tryz.ntmps67
  have hsh : w.shape? g = some (79, 2) := by
   have h' : w.heap[g]? = _ := HD.out.blk
   simp [World.shape?, h']
  obtain ⟨j, hj, hjs⟩ : ∃ j, Tryz.prog.info? 79 = some j ∧ j.size = 2 := by
   have h : (Tryz.prog.info? 79).map (·.size) = some 2 := by kernel_rfl
   exact Option.map_eq_some_iff.1 h
  go_wp2_with fail
  rw [Lib.run_to_unsafe w ⟨g, 0, none⟩ Tryz.underlying76 Tryz.underlying193 hj (by rw [hjs]; decide) hsh (Nat.zero_lt_succ 1)]
  simp only [Result.andThen]
  rw [Oper.upon_value]
  go_wp2_with fail
  rw [run_callFunc_extern Tryz.func83 (by kernel_rfl) (by kernel_rfl) (by kernel_rfl) (e := Extern.AbiNoEscape.same) (by kernel_rfl)]
  rw [Lib.run_noEscape]
  simp only [Result.andThen]
  rw [Oper.upon_value]
  go_wp2_with fail
  rw [Lib.run_from_unsafe w ⟨g, 0, none⟩ Tryz.underlying193 Tryz.underlying76 hj hsh (by kernel_rfl)]
  simp only [Result.andThen]
  rw [Oper.upon_value]
  go_wp2_with fail
  refine bodyPost_end (v := .tuple #[]) (by simp [results, Tryz.results67, go_sem]) rfl ⟨rfl, ?_, Eff.set w g 0 _⟩
  have hne := own_types (q_of_own HD.out.row) HD.out.blk (by decide)
  exact ⟨HD.out.blk.set 0 _, own_move HD.out.row fun k hk => Below.heap_setCell w _ _ k fun e => hne (by rw [hk, e])⟩
 | false =>
  have c0 : w.cell? ⟨g, 0, none⟩ = some (.pointer (some ⟨g, 0, none⟩)) := hd.blk.cell rfl
  obtain ⟨j, hj, hjs⟩ : ∃ j, Tryz.prog.info? 79 = some j ∧ j.size = 2 := by
   have h : (Tryz.prog.info? 79).map (·.size) = some 2 := by kernel_rfl
   exact Option.map_eq_some_iff.1 h
  clear hd
  go_enter Tryz.func67, Tryz.ntmps67
  go_wp2_with fail
  rw [Lib.run_neq_ptr_same w _ Tryz.underlying76 hj]
  go_wp2_with fail
  exact bodyPost_end (v := .tuple #[]) (by simp [results, Tryz.results67, go_sem]) rfl ⟨rfl, HD.out, Eff.refl _ _⟩
theorem BX.set {w w1 : World} {g B : Nat} {xs xs1 : List Int} {no : Bool} {lv lv1 : Value} (h : BX w g B xs no lv) (hg : w.grownBy w1 lv.ownBlock) (hq : w1.ownsRow B 5 1 lv1 xs1.length (nums .u8 xs1)) : BX (w1.setCell ⟨g, 1, none⟩ lv1) g B xs1 no lv1 := by
 have hne := own_types (q_of_own h.row) h.blk (by decide)
 have hb1 : Blk w1 g _ _ := (hg.block g h.blk.lt hne).trans h.blk
 have hne1 := own_types (q_of_own hq) hb1 (by decide)
 exact ⟨hb1.set 1 lv1, own_move hq fun k hk => Below.heap_setCell w1 _ _ k fun e => hne1 (by rw [hk, e])⟩
theorem BX.at1 {w w1 : World} {g B : Nat} {xs : List Int} {no : Bool} {lv : Value} (h : BX w g B xs no lv) (hg : w.grownBy w1 lv.ownBlock) : w1.cell? ⟨g, 1, none⟩ = some lv ∧ w1.frozen? ⟨g, 1, none⟩ = false := by
 have hb1 : Blk w1 g _ _ := (hg.block g h.blk.lt (own_types (q_of_own h.row) h.blk (by decide))).trans h.blk
 exact ⟨hb1.cell rfl, hb1.frozen 1⟩
set_option maxRecDepth 100000 in
set_option maxHeartbeats 1000000 in
theorem writeString_c (g B : Nat) (xs : List Int) (no : Bool) (lv : Value) (y : ByteArray) (w : World) (hd : BX w g B xs no lv) (hB : B ≤ w.heap.size) (hl : xs.length + y.size ≤ 1000000) :
  Calls Tryz.prog 33 #[.pointer (some ⟨g, 0, none⟩), .string y] w fun e w' => e = .returned (.tuple #[.int .i64 y.size, .nilIface]) ∧ ∃ lv', BX w' g B (xs ++ bytesOf y) false lv' ∧ Eff w w' (fun k => k = g ∨ some k = lv.ownBlock) := by
 have HD := Lib.hid hd
 have HBB := Lib.hid hB
 have HLL : Hid (xs.length + y.size ≤ 140737488355328) := Lib.hid (by omega)
 clear hd hB hl
 go_enter Tryz.func33, Tryz.ntmps33
 go_wp2_with fail
 refine (copyCheck_c g B xs no lv _ HD.out).mono ?_
 rintro e w1 ⟨rfl, hd1, he1⟩
 obtain ⟨A, c, rfl, hc⟩ := Go.Proofs.YtmgnndnofbemeaaGreat.own_slice hd1.row
 have c1 : w1.cell? ⟨g, 1, none⟩ = some (.slice A xs.length c) := hd1.blk.cell rfl
 have HD1 := Lib.hid hd1
 have HE1 := Lib.hid he1
 have HB1 : Hid (B ≤ w1.heap.size) := Lib.hid (Nat.le_trans HBB.out he1.size)
 clear hd1 he1
 go_wp2_with (at_builtin; refine print_append_str (w0 := w1) B rfl (.tmp 12) (.tmp 13) 77 9 5 rfl Tryz.underlying77 Tryz.underlying9 info_u8 (.slice A xs.length c) xs y rfl rfl HD1.out.row (Below.refl _ _) HB1.out HLL.out ?_; intro v2 w2 hq2 hb2 hg2; obtain ⟨A2, k2, rfl, hk2⟩ := Go.Proofs.YtmgnndnofbemeaaGreat.own_slice hq2; have HQ2 := Lib.hid hq2; have HG2 := Lib.hid hg2; obtain ⟨s1, s2⟩ := HD1.out.at1 hg2; clear hq2 hb2 hg2)
 refine bodyPost_ret (v := .tuple #[.int .i64 y.size, .nilIface]) (by simp [results, Tryz.results33, go_sem]) rfl ?_
 rw [show xs.length + (bytesOf y).length = (xs ++ bytesOf y).length by simp]
 exact ⟨rfl, _, HD1.out.set HG2.out HQ2.out, (((HE1.out.mono (fun _ _ h => .inl h)).trans (Eff.of_grown HG2.out) (fun k _ hk => .inr hk)).trans (Eff.set w2 g 1 _) (fun _ _ h => .inl h))⟩
theorem builderString_c (g B : Nat) (l : List UInt8) (no : Bool) (lv : Value) (w : World) (hd : BX w g B (l.map fun b => (b.toNat : Int)) no lv) (hg : B ≤ g) (hB : B ≤ w.heap.size) :
  Calls Tryz.prog 34 #[.pointer (some ⟨g, 0, none⟩)] w fun e w' => e = .returned (.string ⟨l.toArray⟩) ∧ Below B w w' := by
 have hn : nums .u8 (l.map fun b => (b.toNat : Int)) = Lib.byteCells l := by simp [nums, Lib.byteCells]
 have hr := hd.row
 rw [hn] at hr
 have hlen : (l.map fun b => (b.toNat : Int)).length = (Lib.byteCells l).length := by rw [Lib.byteCells_length, List.length_map]
 rw [hlen] at hr
 have hne : lv.ownBlock ≠ some g := fun e => own_types (q_of_own hd.row) hd.blk (by decide) e.symm
 refine Tryz.Builder_String_any B g l w ?_ hB
 cases no with
 | true => exact .inl ⟨hg, lv, hd.blk, hr, hne⟩
 | false => exact .inr ⟨hg, lv, hd.blk, hr, hne⟩
theorem bytesOf_append (a b : ByteArray) : bytesOf (a ++ b) = bytesOf a ++ bytesOf b := by
 simp [bytesOf]
theorem builder_str (g B : Nat) (s : ByteArray) (no : Bool) (lv : Value) (w : World) (hd : BX w g B (bytesOf s) no lv) (hg : B ≤ g) (hB : B ≤ w.heap.size) :
  Calls Tryz.prog 34 #[.pointer (some ⟨g, 0, none⟩)] w fun e w' => e = .returned (.string s) ∧ Below B w w' ∧ Lib.OthersKept 5 (some g) w w' := by
 have hn : nums .u8 (bytesOf s) = Lib.byteCells s.data.toList := by simp [nums, bytesOf, Lib.byteCells]
 have hr := hd.row
 rw [hn] at hr
 have hlen : (bytesOf s).length = (Lib.byteCells s.data.toList).length := by rw [Lib.byteCells_length, bytesOf, List.length_map]
 rw [hlen] at hr
 have hne : lv.ownBlock ≠ some g := fun e => own_types (q_of_own hd.row) hd.blk (by decide) e.symm
 have hk := Tryz.Builder_String_any_k B g s.data.toList w (Lib.IsBuilderF.of (by
  cases no with
  | true => exact .inl ⟨hg, lv, hd.blk, hr, hne⟩
  | false => exact .inr ⟨hg, lv, hd.blk, hr, hne⟩)) hB
 refine hk.mono ?_
 rintro e w1 ⟨rfl, _, h2, h3⟩
 exact ⟨by simp, h2, h3⟩
theorem BX.eff {w w1 : World} {g B : Nat} {xs : List Int} {no : Bool} {lv : Value} {S : Nat → Prop} (h : BX w g B xs no lv) (he : Eff w w1 S) (hg : ¬ S g) (hS : ∀ k, lv.ownBlock = some k → ¬ S k) : BX w1 g B xs no lv :=
 ⟨h.blk.eff he hg, own_move h.row fun k hk => he.block k (by obtain ⟨cells, hc⟩ := own_typed h.row k hk; exact (Array.getElem?_eq_some_iff.1 hc).1) (hS k hk)⟩
theorem BX.ge {w : World} {g B : Nat} {xs : List Int} {no : Bool} {lv : Value} (h : BX w g B xs no lv) (k : Nat) (hk : lv.ownBlock = some k) : B ≤ k := q_ge (q_of_own h.row) k hk
theorem BX.lt {w : World} {g B : Nat} {xs : List Int} {no : Bool} {lv : Value} (h : BX w g B xs no lv) (k : Nat) (hk : lv.ownBlock = some k) : k < w.heap.size := q_lt (q_of_own h.row) k hk
section
variable {P : Program} {ops : Array Oper} {rest : List Oper} {o : Oper} {a : Act} {Q : Exit → Act → World → Prop}
theorem run_append_str_at (W : World) (base : Nat) (t u ty e : TypeId) (i : TypeInfo) (ht : P.underlying t = some (.slice e)) (hu : P.underlying u = some .string) (hi : P.info? e = some i) (hz : i.zero = some (.int .u8 0)) (hsize : i.size = 1) (hby : i.bytes = 1)
  (v : Value) (n : Nat) (xs : List Value) (hown : W.ownsRow base e 1 v n xs) (s : ByteArray) (hl : n + s.size ≤ 140737488355328) (hbase : base ≤ W.heap.size) :
  ∃ v1 w1, (Builtin.append_ #[t, u] ty #[v, .string s]).run P W = .ok v1 w1 ∧ w1.ownsRow base e 1 v1 (n + s.size) (xs ++ Lib.strCells s) ∧ W.grownBy w1 v.ownBlock ∧ (v1.ownBlock = v.ownBlock ∨ ∃ b, v1.ownBlock = some b ∧ W.heap.size ≤ b) := by
 have h63 : n + s.size ≤ maxLen := by simp only [maxLen]; omega
 obtain ⟨v1, w1, hr, h1, h2, h3⟩ := Lib.run_append_own_string (P := P) W base t u ty e i ht hu hi hz hsize hby v n xs hown s h63 hl hbase
 refine ⟨v1, w1, hr, h1, h2, ?_⟩
 rcases hown.2 with ⟨rfl, rfl⟩ | ⟨g, cap, cur, rfl, hbg, hg, hnc, hcm, hcs, htake⟩
 ·by_cases h0 : s.size = 0
  ·rw [h3.2 ⟨rfl, h0⟩]; exact .inl rfl
  ·obtain ⟨v2, w2, hr2, h12, _, _⟩ := Lib.run_append_own_string (P := P) W W.heap.size t u ty e i ht hu hi hz hsize hby (.slice none 0 0) 0 xs ⟨hown.1, .inl ⟨rfl, rfl⟩⟩ s h63 hl (Nat.le_refl _)
   rw [hr] at hr2
   injection hr2 with e1 e2
   subst e1; subst e2
   rcases h12.2 with ⟨_, hn⟩ | ⟨g, cap, cur, hv, hb, _⟩
   ·omega
   ·exact .inr ⟨g, by rw [hv]; rfl, hb⟩
 ·by_cases hroom : n + s.size ≤ cap
  ·have hr2 := Lib.run_append_room_string (P := P) W t u ty e i ht hu hi hsize g n cap cur hg s hroom (by omega)
   rw [hr] at hr2
   injection hr2 with e1 e2
   rw [e1]
   exact .inl rfl
  ·have hxl : xs.length = n := by simpa using hown.1
   have holds : ∀ j u, xs[j]? = some u → W.cell? ((⟨g, 0, none⟩ : Addr).add j) = some u := hown.cells (g := g) rfl
   have hr2 := Lib.run_append_grow_string (P := P) W t u ty e i (.int .u8 0) ht hu hi hz ⟨g, 0, none⟩ n cap xs (by rw [hsize]; simpa using hxl) holds s (by omega) (by omega) (by rw [hby]; exact growslice_fits (by omega) (by omega))
   rw [hr] at hr2
   injection hr2 with e1 e2
   rw [e1]
   exact .inr ⟨_, rfl, Nat.le_refl _⟩
theorem append_str_at {W : World} (base : Nat) (hgd : o.guard = none) (s x : Operand) (t u e : TypeId)
  (ho : o.op = .call { callee := .builtin .append, args := #[s, x], argTypes := #[t, u] })
  (ht : P.underlying t = some (.slice e)) (hu : P.underlying u = some .string) (hinfo : (P.info? e).map (fun i => (i.zero, i.size, i.bytes)) = some (some (.int .u8 0), 1, 1))
  (v : Value) (xs : List Int) (y : ByteArray) (hs : a.eval s = v) (hx : a.eval x = .string y)
  (HO : W.ownsRow base e 1 v xs.length (nums .u8 xs)) (hbase : base ≤ W.heap.size) (hl : xs.length + y.size ≤ 140737488355328)
  (h : ∀ v1 w1, w1.ownsRow base e 1 v1 (xs ++ bytesOf y).length (nums .u8 (xs ++ bytesOf y)) → W.grownBy w1 v.ownBlock → (v1.ownBlock = v.ownBlock ∨ ∃ b, v1.ownBlock = some b ∧ W.heap.size ≤ b) → wpList P ops Q rest (a.put o.dst v1) w1) :
  wpList P ops Q (o :: rest) a W := by
 obtain ⟨i0, hi, hzz⟩ := Option.map_eq_some_iff.1 hinfo
 simp only [Prod.mk.injEq] at hzz
 obtain ⟨hz0, hz1, hz2⟩ := hzz
 obtain ⟨v1, w1, hr, hown, hg, hat⟩ := run_append_str_at W base t u o.type e i0 ht hu hi hz0 hz1 hz2 v xs.length (nums .u8 xs) HO y hl hbase
 have hl2 : (xs ++ bytesOf y).length = xs.length + y.size := by rw [List.length_append, bytesOf_length]
 have hc : nums .u8 (xs ++ bytesOf y) = nums .u8 xs ++ Lib.strCells y := by
  rw [nums_append]
  congr 1
  simp [nums, bytesOf, Lib.strCells]
 refine wpList_plain hgd fun K hK => ?_
 unfold Oper.wp execOp
 simp only [ho, resolve, invoke, builtin, Sem.run_bind, Sem.run_pure, Result.andThen_ok, List.map_toArray, List.map_cons, List.map_nil, hs, hx, hr]
 exact hK _ _ (h v1 w1 (by rw [hl2, hc]; exact hown) hg hat)
end
set_option maxRecDepth 100000 in
set_option maxHeartbeats 1000000 in
theorem writeString_own (g B : Nat) (xs : List Int) (no : Bool) (lv : Value) (y : ByteArray) (w : World) (hd : BX w g B xs no lv) (hB : B ≤ w.heap.size) (hl : xs.length + y.size ≤ 1000000) :
  Calls Tryz.prog 33 #[.pointer (some ⟨g, 0, none⟩), .string y] w fun e w' => e = .returned (.tuple #[.int .i64 y.size, .nilIface]) ∧ ∃ lv', BX w' g B (xs ++ bytesOf y) false lv' ∧ Eff w w' (fun k => k = g ∨ some k = lv.ownBlock) ∧
   (lv'.ownBlock = lv.ownBlock ∨ ∃ b, lv'.ownBlock = some b ∧ w.heap.size ≤ b) := by
 have HD := Lib.hid hd
 have HBB := Lib.hid hB
 have HLL : Hid (xs.length + y.size ≤ 140737488355328) := Lib.hid (by omega)
 clear hd hB hl
 go_enter Tryz.func33, Tryz.ntmps33
 go_wp2_with fail
 refine (copyCheck_c g B xs no lv _ HD.out).mono ?_
 rintro e w1 ⟨rfl, hd1, he1⟩
 obtain ⟨A, c, rfl, hc⟩ := Go.Proofs.YtmgnndnofbemeaaGreat.own_slice hd1.row
 have c1 : w1.cell? ⟨g, 1, none⟩ = some (.slice A xs.length c) := hd1.blk.cell rfl
 have HD1 := Lib.hid hd1
 have HE1 := Lib.hid he1
 have HB1 : Hid (B ≤ w1.heap.size) := Lib.hid (Nat.le_trans HBB.out he1.size)
 clear hd1 he1
 go_wp2_with (at_builtin; refine append_str_at B rfl (.tmp 12) (.tmp 13) 77 9 5 rfl Tryz.underlying77 Tryz.underlying9 info_u8 (.slice A xs.length c) xs y rfl rfl HD1.out.row HB1.out HLL.out ?_; intro v2 w2 hq2 hg2 ha2; have HA2 := Lib.hid ha2; obtain ⟨A2, k2, rfl, hk2⟩ := Go.Proofs.YtmgnndnofbemeaaGreat.own_slice hq2; have HQ2 := Lib.hid hq2; have HG2 := Lib.hid hg2; obtain ⟨s1, s2⟩ := HD1.out.at1 hg2; clear hq2 hg2 ha2)
 refine bodyPost_ret (v := .tuple #[.int .i64 y.size, .nilIface]) (by simp [results, Tryz.results33, go_sem]) rfl ?_
 rw [show xs.length + (bytesOf y).length = (xs ++ bytesOf y).length by simp]
 refine ⟨rfl, _, HD1.out.set HG2.out HQ2.out, (((HE1.out.mono (fun _ _ h => .inl h)).trans (Eff.of_grown HG2.out) (fun k _ hk => .inr hk)).trans (Eff.set w2 g 1 _) (fun _ _ h => .inl h)), HA2.out.imp id fun h => ?_⟩
 obtain ⟨b, h1, h2⟩ := h
 exact ⟨b, h1, Nat.le_trans HE1.out.size h2⟩
end Go.Proofs.YtmgnndnofbemeaaGreat
