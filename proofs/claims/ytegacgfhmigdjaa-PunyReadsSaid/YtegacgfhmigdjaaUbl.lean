/- strings.Builder, written byte by byte. -/
import Derived.Test.YtegacgfhmigdjaaUen
import Derived.Shelf.Strings.Builder1
import Derived.Test.YtegacgfhmigdjaaShelf
namespace Go.Proofs.Ytegacgfhmigdjaa
open Go.RowKit Go.Proofs.YtegacgfhmigdjaaW.PrintWords Go.Proofs.YtegacgfhmigdjaaW.PrintLast Go.Proofs.YtegacgfhmigdjaaW.PrintMore Go.Proofs.Ytegacgfhmigdjaa.PPu
set_option linter.unusedVariables false
set_option linter.unusedSimpArgs false

/-- A builder: empty as yet (no), or written. -/
structure BX (w : World) (g B : Nat) (xs : List Int) (no : Bool) (lv : Value) : Prop where
  blk : Blk w g 99 #[.pointer (if no = true then none else some ⟨g, 0, none⟩), lv]
  row : w.ownsRow B 5 1 lv xs.length (nums .u8 xs)
theorem BX.new (w : World) (B : Nat) : BX (w.alloc (.cells #[.pointer none, .slice none 0 0] 99 (0, 0))) w.heap.size B [] true (.slice none 0 0) :=
  ⟨Blk.new w _ _, ⟨rfl, .inl ⟨rfl, rfl⟩⟩⟩
theorem BX.below {w w1 : World} {g B : Nat} {xs : List Int} {no : Bool} {lv : Value} (h : BX w g B xs no lv) (hb : Below w.heap.size w w1) : BX w1 g B xs no lv :=
  ⟨h.blk.below hb, own_below h.row hb⟩
set_option maxRecDepth 100000 in
set_option maxHeartbeats 1000000 in
theorem copyCheck_c (g B : Nat) (xs : List Int) (no : Bool) (lv : Value) (w : World) (hd : BX w g B xs no lv) :
    Calls Try.prog 71 #[.pointer (some ⟨g, 0, none⟩)] w fun e w' => e = .returned (.tuple #[]) ∧ BX w' g B xs false lv ∧ Eff w w' (fun k => k = g) := by
  have HD := Lib.hid hd
  cases no with
  | true =>
    have c0 : w.cell? ⟨g, 0, none⟩ = some (.pointer none) := hd.blk.cell rfl
    have f0 := hd.blk.frozen 0
    clear hd
    go_enter Try.func71, Try.ntmps71
    have hsh : w.shape? g = some (99, 2) := by
      have h' : w.heap[g]? = _ := HD.out.blk
      simp [World.shape?, h']
    obtain ⟨j, hj, hjs⟩ : ∃ j, Try.prog.info? 99 = some j ∧ j.size = 2 := by
      have h : (Try.prog.info? 99).map (·.size) = some 2 := by kernel_rfl
      exact Option.map_eq_some_iff.1 h
    go_wp2_with fail
    rw [Lib.run_to_unsafe w ⟨g, 0, none⟩ Try.underlying97 Try.underlying118 hj (by rw [hjs]; decide) hsh (Nat.zero_lt_succ 1)]
    simp only [Result.andThen]
    rw [Oper.upon_value]
    go_wp2_with fail
    rw [run_callFunc_extern Try.func77 (by kernel_rfl) (by kernel_rfl) (by kernel_rfl) (e := Extern.AbiNoEscape.same) (by kernel_rfl)]
    rw [Lib.run_noEscape]
    simp only [Result.andThen]
    rw [Oper.upon_value]
    go_wp2_with fail
    rw [Lib.run_from_unsafe w ⟨g, 0, none⟩ Try.underlying118 Try.underlying97 hj hsh (by kernel_rfl)]
    simp only [Result.andThen]
    rw [Oper.upon_value]
    go_wp2_with fail
    refine bodyPost_end (v := .tuple #[]) (by simp [results, Try.results71, go_sem]) rfl ⟨rfl, ?_, Eff.set w g 0 _⟩
    have hne := own_types (q_of_own HD.out.row) HD.out.blk (by decide)
    exact ⟨HD.out.blk.set 0 _, own_move HD.out.row fun k hk => Below.heap_setCell w _ _ k fun e => hne (by rw [hk, e])⟩
  | false =>
    have c0 : w.cell? ⟨g, 0, none⟩ = some (.pointer (some ⟨g, 0, none⟩)) := hd.blk.cell rfl
    obtain ⟨j, hj, hjs⟩ : ∃ j, Try.prog.info? 99 = some j ∧ j.size = 2 := by
      have h : (Try.prog.info? 99).map (·.size) = some 2 := by kernel_rfl
      exact Option.map_eq_some_iff.1 h
    clear hd
    go_enter Try.func71, Try.ntmps71
    go_wp2_with fail
    rw [Lib.run_neq_ptr_same w _ Try.underlying97 hj]
    go_wp2_with fail
    exact bodyPost_end (v := .tuple #[]) (by simp [results, Try.results71, go_sem]) rfl ⟨rfl, HD.out, Eff.refl _ _⟩
theorem BX.set {w w1 : World} {g B : Nat} {xs xs1 : List Int} {no : Bool} {lv lv1 : Value} (h : BX w g B xs no lv) (hg : w.grownBy w1 lv.ownBlock) (hq : w1.ownsRow B 5 1 lv1 xs1.length (nums .u8 xs1)) : BX (w1.setCell ⟨g, 1, none⟩ lv1) g B xs1 no lv1 := by
  have hne := own_types (q_of_own h.row) h.blk (by decide)
  have hb1 : Blk w1 g _ _ := (hg.block g h.blk.lt hne).trans h.blk
  have hne1 := own_types (q_of_own hq) hb1 (by decide)
  exact ⟨hb1.set 1 lv1, own_move hq fun k hk => Below.heap_setCell w1 _ _ k fun e => hne1 (by rw [hk, e])⟩
theorem BX.at1 {w w1 : World} {g B : Nat} {xs : List Int} {no : Bool} {lv : Value} (h : BX w g B xs no lv) (hg : w.grownBy w1 lv.ownBlock) : w1.cell? ⟨g, 1, none⟩ = some lv ∧ w1.frozen? ⟨g, 1, none⟩ = false := by
  have hb1 : Blk w1 g _ _ := (hg.block g h.blk.lt (own_types (q_of_own h.row) h.blk (by decide))).trans h.blk
  exact ⟨hb1.cell rfl, hb1.frozen 1⟩
set_option maxRecDepth 100000 in
set_option maxHeartbeats 1000000 in
theorem writeByte_c (g B : Nat) (xs : List Int) (no : Bool) (lv : Value) (x : Int) (w : World) (hd : BX w g B xs no lv) (hB : B ≤ w.heap.size) (hl : xs.length + 1 ≤ 1000000) :
    Calls Try.prog 57 #[.pointer (some ⟨g, 0, none⟩), .int .u8 x] w fun e w' => e = .returned .nilIface ∧ ∃ lv', BX w' g B (xs ++ [x]) false lv' ∧ Eff w w' (fun k => k = g ∨ some k = lv.ownBlock) := by
  have HD := Lib.hid hd
  have HBB := Lib.hid hB
  have HLL : Hid ((xs.length + 1) * 1 ≤ 140737488355328) := Lib.hid (by omega)
  clear hd hB hl
  go_enter Try.func57, Try.ntmps57
  go_wp2_with fail
  refine (copyCheck_c g B xs no lv _ HD.out).mono ?_
  rintro e w1 ⟨rfl, hd1, he1⟩
  obtain ⟨A, c, rfl, hc⟩ := Go.Proofs.Ytegacgfhmigdjaa.own_slice hd1.row
  have c1 : w1.cell? ⟨g, 1, none⟩ = some (.slice A xs.length c) := hd1.blk.cell rfl
  have HD1 := Lib.hid hd1
  have HE1 := Lib.hid he1
  have HB1 : Hid (B ≤ w1.heap.size) := Lib.hid (Nat.le_trans HBB.out he1.size)
  clear hd1 he1
  go_wp2_with (at_builtin; refine print_append_row (w0 := w1) B rfl (.tmp 11) (.tmp 13) 41 5 .u8 1 rfl Try.underlying41 info_u8 (by decide) (.slice A xs.length c) xs [x] (some ⟨w1.heap.size, 0, none⟩) 1 1 rfl rfl (HD1.out.below (below_alloc (Below.refl _ _) _)).row (reads_u8 w1 x) ((Below.refl _ _).alloc HB1.out _) (Nat.le_trans HB1.out (by simp)) HLL.out ?_; intro v2 w2 hq2 hb2 hg2 hat2; obtain ⟨A2, k2, rfl, hk2⟩ := Go.Proofs.Ytegacgfhmigdjaa.own_slice hq2; have HQ2 := Lib.hid hq2; have HG2 := Lib.hid hg2; obtain ⟨s1, s2⟩ := (HD1.out.below (below_alloc (Below.refl _ _) _)).at1 hg2; clear hq2 hb2 hg2 hat2)
  go_ret
  rw [show xs.length + 1 = (xs ++ [x]).length by simp]
  exact ⟨rfl, _, (HD1.out.below (below_alloc (Below.refl _ _) _)).set HG2.out HQ2.out, ((((HE1.out.mono (fun _ _ h => .inl h)).trans (Eff.alloc w1 _ _) (fun _ _ h => h)).trans (Eff.of_grown HG2.out) (fun k _ hk => .inr hk)).trans (Eff.set w2 g 1 _) (fun _ _ h => .inl h))⟩
set_option maxRecDepth 100000 in
set_option maxHeartbeats 1000000 in
theorem writeString_c (g B : Nat) (xs : List Int) (no : Bool) (lv : Value) (y : ByteArray) (w : World) (hd : BX w g B xs no lv) (hB : B ≤ w.heap.size) (hl : xs.length + y.size ≤ 1000000) :
    Calls Try.prog 61 #[.pointer (some ⟨g, 0, none⟩), .string y] w fun e w' => e = .returned (.tuple #[.int .i64 y.size, .nilIface]) ∧ ∃ lv', BX w' g B (xs ++ bytesOf y) false lv' ∧ Eff w w' (fun k => k = g ∨ some k = lv.ownBlock) := by
  have HD := Lib.hid hd
  have HBB := Lib.hid hB
  have HLL : Hid (xs.length + y.size ≤ 140737488355328) := Lib.hid (by omega)
  clear hd hB hl
  go_enter Try.func61, Try.ntmps61
  go_wp2_with fail
  refine (copyCheck_c g B xs no lv _ HD.out).mono ?_
  rintro e w1 ⟨rfl, hd1, he1⟩
  obtain ⟨A, c, rfl, hc⟩ := Go.Proofs.Ytegacgfhmigdjaa.own_slice hd1.row
  have c1 : w1.cell? ⟨g, 1, none⟩ = some (.slice A xs.length c) := hd1.blk.cell rfl
  have HD1 := Lib.hid hd1
  have HE1 := Lib.hid he1
  have HB1 : Hid (B ≤ w1.heap.size) := Lib.hid (Nat.le_trans HBB.out he1.size)
  clear hd1 he1
  go_wp2_with (at_builtin; refine print_append_str (w0 := w1) B rfl (.tmp 12) (.tmp 13) 41 9 5 rfl Try.underlying41 Try.underlying9 info_u8 (.slice A xs.length c) xs y rfl rfl HD1.out.row (Below.refl _ _) HB1.out HLL.out ?_; intro v2 w2 hq2 hb2 hg2; obtain ⟨A2, k2, rfl, hk2⟩ := Go.Proofs.Ytegacgfhmigdjaa.own_slice hq2; have HQ2 := Lib.hid hq2; have HG2 := Lib.hid hg2; obtain ⟨s1, s2⟩ := HD1.out.at1 hg2; clear hq2 hb2 hg2)
  refine bodyPost_ret (v := .tuple #[.int .i64 y.size, .nilIface]) (by simp [results, Try.results61, go_sem]) rfl ?_
  rw [show xs.length + (bytesOf y).length = (xs ++ bytesOf y).length by simp]
  exact ⟨rfl, _, HD1.out.set HG2.out HQ2.out, (((HE1.out.mono (fun _ _ h => .inl h)).trans (Eff.of_grown HG2.out) (fun k _ hk => .inr hk)).trans (Eff.set w2 g 1 _) (fun _ _ h => .inl h))⟩
set_option maxRecDepth 100000 in
theorem builderLen_c (g B : Nat) (xs : List Int) (no : Bool) (lv : Value) (w : World) (hd : BX w g B xs no lv) :
    Calls Try.prog 58 #[.pointer (some ⟨g, 0, none⟩)] w fun e w' => e = .returned (.int .i64 xs.length) ∧ w = w' := by
  obtain ⟨A, c, rfl, hc⟩ := Go.Proofs.Ytegacgfhmigdjaa.own_slice hd.row
  have c1 : w.cell? ⟨g, 1, none⟩ = some (.slice A xs.length c) := hd.blk.cell rfl
  clear hd
  go_enter Try.func58, Try.ntmps58
  go_wp2_with fail
  go_ret
  exact ⟨rfl, rfl⟩
theorem builderString_c (g B : Nat) (l : List UInt8) (no : Bool) (lv : Value) (w : World) (hd : BX w g B (l.map fun b => (b.toNat : Int)) no lv) (hg : B ≤ g) (hB : B ≤ w.heap.size) :
    Calls Try.prog 63 #[.pointer (some ⟨g, 0, none⟩)] w fun e w' => e = .returned (.string ⟨l.toArray⟩) ∧ Below B w w' := by
  have hn : nums .u8 (l.map fun b => (b.toNat : Int)) = Lib.byteCells l := by simp [nums, Lib.byteCells]
  have hr := hd.row
  rw [hn] at hr
  have hlen : (l.map fun b => (b.toNat : Int)).length = (Lib.byteCells l).length := by rw [Lib.byteCells_length, List.length_map]
  rw [hlen] at hr
  have hne : lv.ownBlock ≠ some g := fun e => own_types (q_of_own hd.row) hd.blk (by decide) e.symm
  refine Try.Builder_String_any B g l w ?_ hB
  cases no with
  | true => exact .inl ⟨hg, lv, hd.blk, hr, hne⟩
  | false => exact .inr ⟨hg, lv, hd.blk, hr, hne⟩
end Go.Proofs.Ytegacgfhmigdjaa
