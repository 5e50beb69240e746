/- Joined texts: Ubl, Uso, Utx, Uee, Uaw, Ulr. -/
import Derived.Test.YtegacgfhmigdjaaMUins
import Derived.Shelf.Strings.Builder1
import Derived.Test.YtegacgfhmigdjaaMShelf
/- strings.Builder, written byte by byte. -/
namespace Go.Proofs.Ytegacgfhmigdjaa
open Go.RowKit Go.Proofs.YtegacgfhmigdjaaW.PrintWords Go.Proofs.YtegacgfhmigdjaaW.PrintLast Go.Proofs.YtegacgfhmigdjaaW.PrintMore Go.Proofs.Ytegacgfhmigdjaa.PPu
set_option linter.unusedVariables false
set_option linter.unusedSimpArgs false

/-- A builder: empty as yet (no), or written. -/
structure BX (w : World) (g B : Nat) (xs : List Int) (no : Bool) (lv : Value) : Prop where
  blk : Blk w g 99 #[.pointer (if no = true then none else some ⟨g, 0, none⟩), lv]
  row : w.ownsRow B 5 1 lv xs.length (nums .u8 xs)
theorem BX.new (w : World) (B : Nat) : BX (w.alloc (.cells #[.pointer none, .slice none 0 0] 99 (0, 0))) w.heap.size B [] true (.slice none 0 0) :=
  ⟨Blk.new w _ _, ⟨rfl, .inl ⟨rfl, rfl⟩⟩⟩
theorem BX.below {w w1 : World} {g B : Nat} {xs : List Int} {no : Bool} {lv : Value} (h : BX w g B xs no lv) (hb : Below w.heap.size w w1) : BX w1 g B xs no lv :=
  ⟨h.blk.below hb, own_below h.row hb⟩
set_option maxRecDepth 100000 in
set_option maxHeartbeats 1000000 in
theorem copyCheck_c (g B : Nat) (xs : List Int) (no : Bool) (lv : Value) (w : World) (hd : BX w g B xs no lv) :
    Calls Try.prog 71 #[.pointer (some ⟨g, 0, none⟩)] w fun e w' => e = .returned (.tuple #[]) ∧ BX w' g B xs false lv ∧ Eff w w' (fun k => k = g) := by
  have HD := Lib.hid hd
  cases no with
  | true =>
    have c0 : w.cell? ⟨g, 0, none⟩ = some (.pointer none) := hd.blk.cell rfl
    have f0 := hd.blk.frozen 0
    clear hd
    go_enter Try.func71, Try.ntmps71
    have hsh : w.shape? g = some (99, 2) := by
      have h' : w.heap[g]? = _ := HD.out.blk
      simp [World.shape?, h']
    obtain ⟨j, hj, hjs⟩ : ∃ j, Try.prog.info? 99 = some j ∧ j.size = 2 := by
      have h : (Try.prog.info? 99).map (·.size) = some 2 := by kernel_rfl
      exact Option.map_eq_some_iff.1 h
    go_wp2_with fail
    rw [Lib.run_to_unsafe w ⟨g, 0, none⟩ Try.underlying97 Try.underlying118 hj (by rw [hjs]; decide) hsh (Nat.zero_lt_succ 1)]
    simp only [Result.andThen]
    rw [Oper.upon_value]
    go_wp2_with fail
    rw [run_callFunc_extern Try.func77 (by kernel_rfl) (by kernel_rfl) (by kernel_rfl) (e := Extern.AbiNoEscape.same) (by kernel_rfl)]
    rw [Lib.run_noEscape]
    simp only [Result.andThen]
    rw [Oper.upon_value]
    go_wp2_with fail
    rw [Lib.run_from_unsafe w ⟨g, 0, none⟩ Try.underlying118 Try.underlying97 hj hsh (by kernel_rfl)]
    simp only [Result.andThen]
    rw [Oper.upon_value]
    go_wp2_with fail
    refine bodyPost_end (v := .tuple #[]) (by simp [results, Try.results71, go_sem]) rfl ⟨rfl, ?_, Eff.set w g 0 _⟩
    have hne := own_types (q_of_own HD.out.row) HD.out.blk (by decide)
    exact ⟨HD.out.blk.set 0 _, own_move HD.out.row fun k hk => Below.heap_setCell w _ _ k fun e => hne (by rw [hk, e])⟩
  | false =>
    have c0 : w.cell? ⟨g, 0, none⟩ = some (.pointer (some ⟨g, 0, none⟩)) := hd.blk.cell rfl
    obtain ⟨j, hj, hjs⟩ : ∃ j, Try.prog.info? 99 = some j ∧ j.size = 2 := by
      have h : (Try.prog.info? 99).map (·.size) = some 2 := by kernel_rfl
      exact Option.map_eq_some_iff.1 h
    clear hd
    go_enter Try.func71, Try.ntmps71
    go_wp2_with fail
    rw [Lib.run_neq_ptr_same w _ Try.underlying97 hj]
    go_wp2_with fail
    exact bodyPost_end (v := .tuple #[]) (by simp [results, Try.results71, go_sem]) rfl ⟨rfl, HD.out, Eff.refl _ _⟩
theorem BX.set {w w1 : World} {g B : Nat} {xs xs1 : List Int} {no : Bool} {lv lv1 : Value} (h : BX w g B xs no lv) (hg : w.grownBy w1 lv.ownBlock) (hq : w1.ownsRow B 5 1 lv1 xs1.length (nums .u8 xs1)) : BX (w1.setCell ⟨g, 1, none⟩ lv1) g B xs1 no lv1 := by
  have hne := own_types (q_of_own h.row) h.blk (by decide)
  have hb1 : Blk w1 g _ _ := (hg.block g h.blk.lt hne).trans h.blk
  have hne1 := own_types (q_of_own hq) hb1 (by decide)
  exact ⟨hb1.set 1 lv1, own_move hq fun k hk => Below.heap_setCell w1 _ _ k fun e => hne1 (by rw [hk, e])⟩
theorem BX.at1 {w w1 : World} {g B : Nat} {xs : List Int} {no : Bool} {lv : Value} (h : BX w g B xs no lv) (hg : w.grownBy w1 lv.ownBlock) : w1.cell? ⟨g, 1, none⟩ = some lv ∧ w1.frozen? ⟨g, 1, none⟩ = false := by
  have hb1 : Blk w1 g _ _ := (hg.block g h.blk.lt (own_types (q_of_own h.row) h.blk (by decide))).trans h.blk
  exact ⟨hb1.cell rfl, hb1.frozen 1⟩
set_option maxRecDepth 100000 in
set_option maxHeartbeats 1000000 in
theorem writeByte_c (g B : Nat) (xs : List Int) (no : Bool) (lv : Value) (x : Int) (w : World) (hd : BX w g B xs no lv) (hB : B ≤ w.heap.size) (hl : xs.length + 1 ≤ 1000000) :
    Calls Try.prog 57 #[.pointer (some ⟨g, 0, none⟩), .int .u8 x] w fun e w' => e = .returned .nilIface ∧ ∃ lv', BX w' g B (xs ++ [x]) false lv' ∧ Eff w w' (fun k => k = g ∨ some k = lv.ownBlock) := by
  have HD := Lib.hid hd
  have HBB := Lib.hid hB
  have HLL : Hid ((xs.length + 1) * 1 ≤ 140737488355328) := Lib.hid (by omega)
  clear hd hB hl
  go_enter Try.func57, Try.ntmps57
  go_wp2_with fail
  refine (copyCheck_c g B xs no lv _ HD.out).mono ?_
  rintro e w1 ⟨rfl, hd1, he1⟩
  obtain ⟨A, c, rfl, hc⟩ := Go.Proofs.Ytegacgfhmigdjaa.own_slice hd1.row
  have c1 : w1.cell? ⟨g, 1, none⟩ = some (.slice A xs.length c) := hd1.blk.cell rfl
  have HD1 := Lib.hid hd1
  have HE1 := Lib.hid he1
  have HB1 : Hid (B ≤ w1.heap.size) := Lib.hid (Nat.le_trans HBB.out he1.size)
  clear hd1 he1
  go_wp2_with (at_builtin; refine print_append_row (w0 := w1) B rfl (.tmp 11) (.tmp 13) 41 5 .u8 1 rfl Try.underlying41 info_u8 (by decide) (.slice A xs.length c) xs [x] (some ⟨w1.heap.size, 0, none⟩) 1 1 rfl rfl (HD1.out.below (below_alloc (Below.refl _ _) _)).row (reads_u8 w1 x) ((Below.refl _ _).alloc HB1.out _) (Nat.le_trans HB1.out (by simp)) HLL.out ?_; intro v2 w2 hq2 hb2 hg2 hat2; obtain ⟨A2, k2, rfl, hk2⟩ := Go.Proofs.Ytegacgfhmigdjaa.own_slice hq2; have HQ2 := Lib.hid hq2; have HG2 := Lib.hid hg2; obtain ⟨s1, s2⟩ := (HD1.out.below (below_alloc (Below.refl _ _) _)).at1 hg2; clear hq2 hb2 hg2 hat2)
  go_ret
  rw [show xs.length + 1 = (xs ++ [x]).length by simp]
  exact ⟨rfl, _, (HD1.out.below (below_alloc (Below.refl _ _) _)).set HG2.out HQ2.out, ((((HE1.out.mono (fun _ _ h => .inl h)).trans (Eff.alloc w1 _ _) (fun _ _ h => h)).trans (Eff.of_grown HG2.out) (fun k _ hk => .inr hk)).trans (Eff.set w2 g 1 _) (fun _ _ h => .inl h))⟩
set_option maxRecDepth 100000 in
set_option maxHeartbeats 1000000 in
theorem writeString_c (g B : Nat) (xs : List Int) (no : Bool) (lv : Value) (y : ByteArray) (w : World) (hd : BX w g B xs no lv) (hB : B ≤ w.heap.size) (hl : xs.length + y.size ≤ 1000000) :
    Calls Try.prog 61 #[.pointer (some ⟨g, 0, none⟩), .string y] w fun e w' => e = .returned (.tuple #[.int .i64 y.size, .nilIface]) ∧ ∃ lv', BX w' g B (xs ++ bytesOf y) false lv' ∧ Eff w w' (fun k => k = g ∨ some k = lv.ownBlock) := by
  have HD := Lib.hid hd
  have HBB := Lib.hid hB
  have HLL : Hid (xs.length + y.size ≤ 140737488355328) := Lib.hid (by omega)
  clear hd hB hl
  go_enter Try.func61, Try.ntmps61
  go_wp2_with fail
  refine (copyCheck_c g B xs no lv _ HD.out).mono ?_
  rintro e w1 ⟨rfl, hd1, he1⟩
  obtain ⟨A, c, rfl, hc⟩ := Go.Proofs.Ytegacgfhmigdjaa.own_slice hd1.row
  have c1 : w1.cell? ⟨g, 1, none⟩ = some (.slice A xs.length c) := hd1.blk.cell rfl
  have HD1 := Lib.hid hd1
  have HE1 := Lib.hid he1
  have HB1 : Hid (B ≤ w1.heap.size) := Lib.hid (Nat.le_trans HBB.out he1.size)
  clear hd1 he1
  go_wp2_with (at_builtin; refine print_append_str (w0 := w1) B rfl (.tmp 12) (.tmp 13) 41 9 5 rfl Try.underlying41 Try.underlying9 info_u8 (.slice A xs.length c) xs y rfl rfl HD1.out.row (Below.refl _ _) HB1.out HLL.out ?_; intro v2 w2 hq2 hb2 hg2; obtain ⟨A2, k2, rfl, hk2⟩ := Go.Proofs.Ytegacgfhmigdjaa.own_slice hq2; have HQ2 := Lib.hid hq2; have HG2 := Lib.hid hg2; obtain ⟨s1, s2⟩ := HD1.out.at1 hg2; clear hq2 hb2 hg2)
  refine bodyPost_ret (v := .tuple #[.int .i64 y.size, .nilIface]) (by simp [results, Try.results61, go_sem]) rfl ?_
  rw [show xs.length + (bytesOf y).length = (xs ++ bytesOf y).length by simp]
  exact ⟨rfl, _, HD1.out.set HG2.out HQ2.out, (((HE1.out.mono (fun _ _ h => .inl h)).trans (Eff.of_grown HG2.out) (fun k _ hk => .inr hk)).trans (Eff.set w2 g 1 _) (fun _ _ h => .inl h))⟩
set_option maxRecDepth 100000 in
theorem builderLen_c (g B : Nat) (xs : List Int) (no : Bool) (lv : Value) (w : World) (hd : BX w g B xs no lv) :
    Calls Try.prog 58 #[.pointer (some ⟨g, 0, none⟩)] w fun e w' => e = .returned (.int .i64 xs.length) ∧ w = w' := by
  obtain ⟨A, c, rfl, hc⟩ := Go.Proofs.Ytegacgfhmigdjaa.own_slice hd.row
  have c1 : w.cell? ⟨g, 1, none⟩ = some (.slice A xs.length c) := hd.blk.cell rfl
  clear hd
  go_enter Try.func58, Try.ntmps58
  go_wp2_with fail
  go_ret
  exact ⟨rfl, rfl⟩
theorem builderString_c (g B : Nat) (l : List UInt8) (no : Bool) (lv : Value) (w : World) (hd : BX w g B (l.map fun b => (b.toNat : Int)) no lv) (hg : B ≤ g) (hB : B ≤ w.heap.size) :
    Calls Try.prog 63 #[.pointer (some ⟨g, 0, none⟩)] w fun e w' => e = .returned (.string ⟨l.toArray⟩) ∧ Below B w w' := by
  have hn : nums .u8 (l.map fun b => (b.toNat : Int)) = Lib.byteCells l := by simp [nums, Lib.byteCells]
  have hr := hd.row
  rw [hn] at hr
  have hlen : (l.map fun b => (b.toNat : Int)).length = (Lib.byteCells l).length := by rw [Lib.byteCells_length, List.length_map]
  rw [hlen] at hr
  have hne : lv.ownBlock ≠ some g := fun e => own_types (q_of_own hd.row) hd.blk (by decide) e.symm
  refine Try.Builder_String_any B g l w ?_ hB
  cases no with
  | true => exact .inl ⟨hg, lv, hd.blk, hr, hne⟩
  | false => exact .inr ⟨hg, lv, hd.blk, hr, hne⟩
end Go.Proofs.Ytegacgfhmigdjaa
/- slices.Sort and slices.Compact at one number (or none). -/
namespace Go.Proofs.Ytegacgfhmigdjaa
open Go.RowKit Go.Proofs.YtegacgfhmigdjaaW.PrintWords Go.Proofs.YtegacgfhmigdjaaW.PrintLast Go.Proofs.YtegacgfhmigdjaaW.PrintMore Go.Proofs.Ytegacgfhmigdjaa.PPu
set_option linter.unusedVariables false
set_option linter.unusedSimpArgs false

set_option maxRecDepth 100000 in
set_option maxHeartbeats 1000000 in
theorem insertionSort_one (A : Option Addr) (n c : Nat) (hn : n ≤ 1) (w : World) : Calls Try.prog 78 #[.slice A n c, .int .i64 0, .int .i64 n] w fun e w' => e = .returned (.tuple #[]) ∧ w = w' := by
  have h1 : decide ((1 : Int) < (n : Int)) = false := decide_eq_false (by omega)
  have h2 : ¬ (1 : Int) < (n : Int) := by omega
  go_enter Try.func78, Try.ntmps78
  go_wp2_with fail
  go_loopg [6] 0 (fun kq s6 wx => s6 = .int .i64 1 ∧ wx = w)
  case atStart => exact ⟨rfl, rfl⟩
  case round =>
    obtain ⟨rfl, rfl⟩ := hrel
    go_wp2_with fail
    exact bodyPost_end (v := .tuple #[]) (by simp [results, Try.results78, go_sem]) rfl ⟨rfl, rfl⟩
set_option maxRecDepth 100000 in
set_option maxHeartbeats 1000000 in
theorem pdqsort_one (A : Option Addr) (n c : Nat) (hn : n ≤ 1) (limit : Int) (w : World) : Calls Try.prog 72 #[.slice A n c, .int .i64 0, .int .i64 n, .int .i64 limit] w fun e w' => e = .returned (.tuple #[]) ∧ w = w' := by
  have h1 : decide ((n : Int) ≤ 12) = true := decide_eq_true (by omega)
  have h2 : (n : Int) ≤ 12 := by omega
  have h3 : n ≤ 12 := by omega
  go_enter Try.func72, Try.ntmps72
  go_upto_block 1 with fail
  go_loopg [1, 2] 0 (fun kq s1 s2 wx => s1 = .int .i64 0 ∧ s2 = .int .i64 n ∧ wx = w)
  case atStart => exact ⟨rfl, rfl, rfl⟩
  case round =>
    obtain ⟨rfl, rfl, rfl⟩ := hrel
    go_wp2_with (go_at_call 78; refine (insertionSort_one A n c hn _).mono ?_; rintro e w1 ⟨rfl, rfl⟩)
    exact bodyPost_ret (v := .tuple #[]) (by simp [results, Try.results72, go_sem]) rfl ⟨rfl, rfl⟩
set_option maxRecDepth 100000 in
theorem sort_one (A : Option Addr) (n c : Nat) (hn : n ≤ 1) (w : World) : Calls Try.prog 59 #[.slice A n c] w fun e w' => e = .returned (.tuple #[]) ∧ w = w' := by
  have hb := Try.bits_Len (n : Int) w (by omega) (by omega)
  have hw : IntKind.u64.wrap (n : Int) = n := Go.Proofs.Ytegacgfhmigdjaa.u64 (by omega) (by omega)
  go_enter Try.func59, Try.ntmps59
  go_wp2_with (first
    | (go_at_call 73; refine hb.mono ?_; rintro e w1 ⟨rfl, rfl⟩)
    | (go_at_call 72; refine (pdqsort_one A n c hn _ _).mono ?_; rintro e w1 ⟨rfl, rfl⟩))
  exact bodyPost_end (v := .tuple #[]) (by simp [results, Try.results59, go_sem]) rfl ⟨rfl, rfl⟩
set_option maxRecDepth 100000 in
theorem compact_one (A : Option Addr) (n c : Nat) (hn : n ≤ 1) (w : World) : Calls Try.prog 60 #[.slice A n c] w fun e w' => e = .returned (.slice A n c) ∧ w = w' := by
  have h1 : decide ((n : Int) < 2) = true := decide_eq_true (by omega)
  have h2 : (n : Int) < 2 := by omega
  have h3 : n < 2 := by omega
  go_enter Try.func60, Try.ntmps60
  go_wp2_with fail
  go_ret
  exact ⟨rfl, rfl⟩
end Go.Proofs.Ytegacgfhmigdjaa
/- puny.text, walked: its first loop (the basic ones into the builder, the others into a row). -/
namespace Go.Proofs.Ytegacgfhmigdjaa
open Go.RowKit Go.Proofs.YtegacgfhmigdjaaW.PrintWords Go.Proofs.YtegacgfhmigdjaaW.PrintLast Go.Proofs.YtegacgfhmigdjaaW.PrintMore Go.Proofs.Ytegacgfhmigdjaa.PPu
set_option linter.unusedVariables false
set_option linter.unusedSimpArgs false

def lowL (ys : List Int) : List Int := ys.filter fun y => decide (y < 128)
def highL (ys : List Int) : List Int := ys.filter fun y => !decide (y < 128)
theorem low_snoc (ys : List Int) (i : Nat) (h : i < ys.length) : lowL (ys.take (i + 1)) = if ys.getD i 0 < 128 then lowL (ys.take i) ++ [ys.getD i 0] else lowL (ys.take i) := by
  rw [take_succ_getD ys i h]
  unfold lowL
  rw [List.filter_append]
  generalize ys.getD i 0 = y
  by_cases c : y < 128
  · rw [if_pos c]; simp [c]
  · rw [if_neg c]; simp [c]
theorem high_snoc (ys : List Int) (i : Nat) (h : i < ys.length) : highL (ys.take (i + 1)) = if ys.getD i 0 < 128 then highL (ys.take i) else highL (ys.take i) ++ [ys.getD i 0] := by
  rw [take_succ_getD ys i h]
  unfold highL
  rw [List.filter_append]
  generalize ys.getD i 0 = y
  by_cases c : y < 128
  · rw [if_pos c]; simp [c]
  · rw [if_neg c]; simp [c]
theorem low_len (ys : List Int) (i : Nat) : (lowL (ys.take i)).length ≤ i := Nat.le_trans (List.length_filter_le _ _) (by rw [List.length_take]; omega)
theorem high_len (ys : List Int) (i : Nat) : (highL (ys.take i)).length ≤ i := Nat.le_trans (List.length_filter_le _ _) (by rw [List.length_take]; omega)
theorem below_bx {w w1 w2 : World} {g B : Nat} {xs : List Int} {no : Bool} {lv : Value} (h : Below B w w1) (hb : BX w1 g B xs no lv) (he : Eff w1 w2 (fun k => k = g ∨ some k = lv.ownBlock)) (hB : B ≤ w1.heap.size) (hg : B ≤ g) : Below B w w2 :=
  Eff.under h he hB fun k hk => by
    rcases hk with e | e
    · rw [e]; exact hg
    · exact q_own_ge (q_of_own hb.row) k e.symm
theorem BX.alloc {w : World} {g B : Nat} {xs : List Int} {no : Bool} {lv : Value} (h : BX w g B xs no lv) (o : Obj) : BX (w.alloc o) g B xs no lv := h.below (below_alloc (Below.refl _ _) o)
/-- Two rows of unlike kinds keep apart. -/
theorem u32_keep {w w1 : World} {g B b2 : Nat} {xs ys : List Int} {no : Bool} {lv v : Value} (h : w.ownsRow b2 51 1 v ys.length (nums .u32 ys)) (hb : BX w g B xs no lv) (he : Eff w w1 (fun k => k = g ∨ some k = lv.ownBlock)) : w1.ownsRow b2 51 1 v ys.length (nums .u32 ys) :=
  own_move h fun k hk => by
    obtain ⟨cells, hc⟩ := own_typed h k hk
    refine he.block k (Array.getElem?_eq_some_iff.1 hc).1 fun e => ?_
    rcases e with e | e
    · subst e
      have h2 : w.heap[k]? = _ := hb.blk
      rw [hc] at h2
      injection h2 with h2
      injection h2 with _ h2
      exact absurd h2 (by decide)
    · obtain ⟨cells2, hc2⟩ := own_typed hb.row k e.symm
      rw [hc] at hc2
      injection hc2 with h2
      injection h2 with _ h2
      exact absurd h2 (by decide)
/-- A builder keeps apart from a row of numbers that grows. -/
theorem bx_keep {w w1 : World} {g B b2 : Nat} {xs ys : List Int} {no : Bool} {lv v : Value} (h : w.ownsRow b2 51 1 v ys.length (nums .u32 ys)) (hb : BX w g B xs no lv) (hg : w.grownBy w1 v.ownBlock) : BX w1 g B xs no lv := by
  refine ⟨(hg.block g hb.blk.lt (own_types (q_of_own h) hb.blk (by decide))).trans hb.blk, own_move hb.row fun k hk => ?_⟩
  obtain ⟨cells2, hc2⟩ := own_typed hb.row k hk
  refine hg.block k (Array.getElem?_eq_some_iff.1 hc2).1 fun e => ?_
  obtain ⟨cells, hc⟩ := own_typed h k e.symm
  rw [hc] at hc2
  injection hc2 with h2
  injection h2 with _ h2
  exact absurd h2 (by decide)
def wrq (w : World) (g o : Nat) (m : Int) : Prop := w.cell? ⟨g, o, none⟩ = some (.int .u32 m)
theorem one_cell {w : World} {base c : Nat} {A : Option Addr} {m : Int} (h : w.ownsRow base 51 1 (.slice A [m].length c) [m].length (nums .u32 [m])) : ∃ g o, A = some ⟨g, o, none⟩ ∧ wrq w g o m := by
  obtain ⟨ad, rfl, hc⟩ := (own_reads' h).2.2 (by simp)
  have h0 := hc 0 (by simp)
  rcases h.2 with ⟨h1, _⟩ | ⟨g, cap, cur, h1, _⟩
  · cases h1
  · injection h1 with h1
    injection h1 with h1
    subst h1
    refine ⟨g, 0, rfl, ?_⟩
    rw [Addr.add_lit] at h0
    exact h0
theorem d0_facts (m : Int) (n : Nat) (h0 : 128 ≤ m) (h1 : m ≤ 1114111) (hn : n ≤ 1000000) : ∃ D0 : Int, (m - 128) * ((n : Int) + 1) = D0 ∧ IntKind.u64.wrap (m - 128) = m - 128 ∧ wrap64 ((n : Int) + 1) = (n : Int) + 1 ∧ IntKind.u64.wrap ((n : Int) + 1) = (n : Int) + 1 ∧ IntKind.u64.wrap ((m - 128) * ((n : Int) + 1)) = D0 ∧ 0 ≤ D0 ∧ D0 ≤ 1113983 * 1000001 := by
  have h2 : 0 ≤ (m - 128) * ((n : Int) + 1) := Int.mul_nonneg (by omega) (by omega)
  have h3 : (m - 128) * ((n : Int) + 1) ≤ 1113983 * 1000001 := Int.mul_le_mul (by omega) (by omega) (by omega) (by omega)
  exact ⟨_, rfl, u64 (by omega) (by omega), w64 (by omega) (by omega), u64 (by omega) (by omega), u64 h2 (by omega), h2, h3⟩
theorem below_join {B : Nat} {w0 w w1 : World} (h : Below B w0 w) (k : Below B w w1) : Below B w0 w1 := ⟨k.os.trans h.os, k.tape.trans h.tape, k.output.trans h.output, Nat.le_trans h.size k.size, fun i hi => (k.block i hi).trans (h.block i hi)⟩
/-- Where the numbers lie, and that they are numbers. -/
structure SrcT (w : World) (pb po : Nat) (ys : List Int) : Prop where
  lt : ys.length ≠ 0 → pb < w.heap.size
  cells : ∀ j, j < ys.length → w.cell? ⟨pb, po + j, none⟩ = some (.int .u32 (ys.getD j 0))
theorem SrcT.at_ {w w1 : World} {pb po : Nat} {ys : List Int} (h : SrcT w pb po ys) (hb : Below w.heap.size w w1) (j : Nat) (hj : j < ys.length) : w1.cell? ⟨pb, po + j, none⟩ = some (.int .u32 (ys.getD j 0)) :=
  (hb.cell (p := ⟨pb, po + j, none⟩) (h.lt (by omega))).trans (h.cells j hj)
set_option maxRecDepth 100000 in
set_option maxHeartbeats 4000000 in
theorem text_one (pb po c : Nat) (ys : List Int) (m : Int) (w : World) (hs : SrcT w pb po ys) (hl : ys.length ≤ 100000) (hr : ∀ y ∈ ys, 0 ≤ y ∧ y ≤ 1114111) (hh : highL ys = [m]) (hlo : lowL ys ≠ []) (p : Nat) (hp : p < ys.length) (hpm : ys.getD p 0 = m) (hpl : ∀ j, j < ys.length → j ≠ p → ys.getD j 0 < 128) (hm : 128 ≤ m ∧ m ≤ 1114111) (PT : ByteArray) (K : Nat) (hput : bias_Put.f K ((m - 128) * ((lowL ys).length + 1) + p) 72 = some PT) (hpt : PT.size ≤ 1000) (RES : List UInt8) (hres : lowL ys ++ [45] ++ bytesOf PT = RES.map fun b => (b.toNat : Int)) :
    Calls Try.prog 48 #[.slice (some ⟨pb, po, none⟩) ys.length c] w fun e w' => e = .returned (.string ⟨RES.toArray⟩) ∧ Below w.heap.size w w' := by
  have HRES := Lib.hid hres
  clear hres
  have HS := Lib.hid hs
  have HL := Lib.hid hl
  have HR := Lib.hid hr
  have HH := Lib.hid hh
  have HP := Lib.hid hp
  have HPM := Lib.hid hpm
  have HPL := Lib.hid hpl
  have HM := Lib.hid hm
  have HPUT := Lib.hid hput
  have HPT := Lib.hid hpt
  clear hp hpm hpl hm hput hpt
  have HLW : Hid (0 < (lowL ys).length) := Lib.hid (List.length_pos_iff.2 hlo)
  clear hs hl hr hh hlo
  go_enter Try.func48, Try.ntmps48
  go_upto_block 0 with fail
  go_cut [4] (fun s4 wx => Hid (wx.ownsRow w.heap.size 51 1 s4 (highL ys).length (nums .u32 (highL ys))) ∧ ∃ no lv, Hid (BX wx w.heap.size w.heap.size (lowL ys) no lv) ∧ Hid (Below w.heap.size w wx))
  case first =>
    have HB0 : Hid (BX (w.alloc (.cells #[.pointer none, .slice none 0 0] 99 (0, 0))) w.heap.size w.heap.size [] true (.slice none 0 0)) := Lib.hid (BX.new w w.heap.size)
    go_wp2_with fail
    go_loopg [4, 18] (ys.length) (fun kq s4 s18 wx => ∃ (i : Nat) (no : Bool) (lv : Value), s18 = .int .i64 i ∧ Hid (kq = ys.length - i ∧ i ≤ ys.length ∧ w.heap.size < wx.heap.size) ∧ Hid (wx.ownsRow w.heap.size 51 1 s4 (highL (ys.take i)).length (nums .u32 (highL (ys.take i)))) ∧ Hid (BX wx w.heap.size w.heap.size (lowL (ys.take i)) no lv) ∧ Hid (Below w.heap.size w wx))
    case atStart => exact ⟨0, true, .slice none 0 0, rfl, Lib.hid ⟨rfl, Nat.zero_le _, by rw [World.size_alloc]; exact Nat.lt_succ_self _⟩, Lib.hid ⟨rfl, .inl ⟨rfl, rfl⟩⟩, HB0, Lib.hid (below_new (Below.refl _ _) _)⟩
    case round =>
      obtain ⟨i, no, lv, rfl, HK, HO, HX, HB⟩ := hrel
      by_cases hi : i < ys.length
      · have hi0 : (0 : Int) ≤ (i : Int) := by omega
        have hi3 : (i : Int) < (ys.length : Int) := by omega
        have hss : ys.length ≤ 100000 := HL.out
        have hcc := HS.out.at_ HB.out i hi
        have hlo := low_snoc ys i hi
        have hhi := high_snoc ys i hi
        have hy := HR.out (ys.getD i 0) (by rw [List.getD_eq_getElem?_getD, List.getElem?_eq_getElem hi]; exact List.getElem_mem hi)
        obtain ⟨y, hye⟩ : ∃ y, ys.getD i 0 = y := ⟨_, rfl⟩
        rw [hye] at hcc hlo hhi hy
        clear hye
        by_cases hc : y < 128
        · rw [if_pos hc] at hlo hhi
          have hc1 : decide (y < 128) = true := decide_eq_true hc
          have hm : y % 256 = y := by omega
          have HLO := Lib.hid hlo
          have HHI := Lib.hid hhi
          have HLN : Hid ((lowL (ys.take i)).length + 1 ≤ 1000000) := Lib.hid (by have := low_len ys i; omega)
          clear hlo hhi hy
          go_wp2_with fail
          refine (writeByte_c w.heap.size w.heap.size _ no lv y _ HX.out HB.out.size HLN.out).mono ?_
          rintro e w1 ⟨rfl, lv', hx1, he1⟩
          have HX1 := Lib.hid hx1
          have HO1 := Lib.hid (u32_keep HO.out HX.out he1)
          have HB1 := Lib.hid (below_bx HB.out HX.out he1 HB.out.size (Nat.le_refl _))
          have HZ1 : Hid (w.heap.size < w1.heap.size) := Lib.hid (Nat.lt_of_lt_of_le HK.out.2.2 he1.size)
          clear hx1 he1
          go_wp2_with fail
          go_roundg (gk - 1)
          case measure => have := HK.out; omega
          case rel => exact ⟨i + 1, false, lv', by go_num, Lib.hid ⟨by have := HK.out; omega, by omega, HZ1.out⟩, Lib.hid (by rw [HHI.out]; exact HO1.out), Lib.hid (by rw [HLO.out]; exact HX1.out), HB1⟩
        · rw [if_neg hc] at hlo hhi
          have hc1 : decide (y < 128) = false := decide_eq_false hc
          have HLO := Lib.hid hlo
          have HHI := Lib.hid hhi
          have HLN : Hid (((highL (ys.take i)).length + 1) * 4 ≤ 140737488355328) := Lib.hid (by have := high_len ys i; omega)
          clear hlo hhi hy
          obtain ⟨HQ, hHQ⟩ : ∃ HQ, highL (ys.take i) = HQ := ⟨_, rfl⟩
          rw [hHQ] at HO HLN HHI
          clear hHQ
          go_wp2_with (at_builtin; refine print_append_row (w0 := w) w.heap.size rfl (.tmp 27) (.tmp 29) 26 51 .u32 4 rfl Try.underlying26 info_u32 (by decide) u4 HQ [y] (some ⟨wr.heap.size, 0, none⟩) 1 1 rfl rfl (Go.Proofs.Ytegacgfhmigdjaa.own_alloc HO.out _) (reads_one wr _ _ rfl) (below_new HB.out _) (below_new HB.out _).size HLN.out ?_; intro v1 w1 ho1 hb1 hg1 hat1; have HO1 := Lib.hid ho1; have HB2 := Lib.hid hb1; have HX1 := Lib.hid (bx_keep (Go.Proofs.Ytegacgfhmigdjaa.own_alloc HO.out _) (HX.out.alloc _) hg1); have HZ1 : Hid (w.heap.size < w1.heap.size) := Lib.hid (Nat.lt_of_lt_of_le HK.out.2.2 (Nat.le_trans (by simp) hg1.size)); clear ho1 hb1 hg1 hat1)
          go_roundg (gk - 1)
          case measure => have := HK.out; omega
          case rel => exact ⟨i + 1, no, lv, by go_num, Lib.hid ⟨by have := HK.out; omega, by omega, HZ1.out⟩, Lib.hid (by rw [HHI.out]; exact HO1.out), Lib.hid (by rw [HLO.out]; exact HX1.out), HB2⟩
      · have HIQ : Hid (ys.take i = ys) := Lib.hid (List.take_of_length_le (by omega))
        have hi3 : ¬ (i : Int) < (ys.length : Int) := by omega
        go_wp2_with fail
        go_meet
        exact ⟨Lib.hid (by rw [← HIQ.out]; exact HO.out), no, lv, Lib.hid (by rw [← HIQ.out]; exact HX.out), HB⟩
  case rest =>
    obtain ⟨HO, no, lv, HX, HB⟩ := hcut
    rw [HH.out] at HO
    obtain ⟨A4, c4, rfl, hc4⟩ := Go.Proofs.Ytegacgfhmigdjaa.own_slice HO.out
    obtain ⟨LW, hLW⟩ : ∃ LW, lowL ys = LW := ⟨_, rfl⟩
    have hlw : LW.length ≤ ys.length := by rw [← hLW]; exact List.length_filter_le _ _
    rw [hLW] at HX HLW HPUT HRES
    have hd0 : decide ((0 : Int) < (LW.length : Int)) = true := decide_eq_true (by have := HLW.out; omega)
    have hd1 : 0 < LW.length := HLW.out
    have HLL : Hid (LW.length + 1 ≤ 1000000) := Lib.hid (by have := HL.out; omega)
    clear hLW
    go_wp2_with fail
    refine (builderLen_c w.heap.size w.heap.size LW no lv _ HX.out).mono ?_
    rintro e w1 ⟨rfl, rfl⟩
    go_wp2_with fail
    refine (writeByte_c w.heap.size w.heap.size LW no lv 45 _ HX.out HB.out.size HLL.out).mono ?_
    rintro e w1 ⟨rfl, lv1, hx1, he1⟩
    have HX1 := Lib.hid hx1
    have HO1 := Lib.hid (u32_keep HO.out HX.out he1)
    have HB1 := Lib.hid (below_bx HB.out HX.out he1 HB.out.size (Nat.le_refl _))
    clear hx1 he1
    go_wp2_with fail
    refine (sort_one A4 [m].length c4 (Nat.le_refl _) _).mono ?_
    rintro e w2 ⟨rfl, rfl⟩
    go_wp2_with fail
    refine (compact_one A4 [m].length c4 (Nat.le_refl _) _).mono ?_
    rintro e w2 ⟨rfl, rfl⟩
    have hm0 : A4 = A4 := rfl
    have HCM : Hid (∃ g4 o4, A4 = some ⟨g4, o4, none⟩ ∧ wrq w1 g4 o4 m) := Lib.hid (one_cell HO1.out)
    obtain ⟨g4, o4, rfl, hcm⟩ := HCM.out
    have HCC := Lib.hid hcm
    clear hcm hm0 HCM
    go_wp2_with fail
    go_loopg [7, 8, 9, 10, 42] 1 (fun kq s7 s8 s9 s10 s42 wx => (kq = 1 ∧ s42 = .int .i64 0 ∧ s7 = .int .i64 LW.length ∧ s8 = .int .u64 0 ∧ s9 = .int .u32 128 ∧ s10 = .int .i64 72 ∧ wx = w1) ∨ (kq = 0 ∧ s42 = .int .i64 1 ∧ ∃ lv2, Hid (BX wx w.heap.size w.heap.size (LW ++ [45] ++ bytesOf PT) false lv2) ∧ Hid (Below w.heap.size w wx)))
    case atStart => exact .inl ⟨rfl, rfl, rfl, rfl, rfl, rfl, rfl⟩
    case round =>
      rcases hrel with ⟨rfl, rfl, rfl, rfl, rfl, rfl, rfl⟩ | ⟨rfl, rfl, lv2, HX2, HB2⟩
      · have hcm : wr.cell? ⟨g4, o4, none⟩ = some (.int .u32 m) := HCC.out
        have hu1 : (m - 128) % 4294967296 = m - 128 := by have := HM.out; omega
        obtain ⟨D0, hD0, hq1, hq2, hq3, hq4, hq5, hq6⟩ := d0_facts m LW.length HM.out.1 HM.out.2 (by have := HLL.out; omega)
        have HD0 := Lib.hid hD0
        clear hD0
        have HDB : Hid (0 ≤ D0 ∧ D0 ≤ 1113983 * 1000001) := Lib.hid ⟨hq5, hq6⟩
        have HPU : Hid (bias_Put.f K (D0 + p) 72 = some PT) := Lib.hid (by rw [← HD0.out]; exact HPUT.out)
        go_upto_block 4 with fail
        simp only [hq2]
        clear hq1 hq2 hq3 hq4 hq5 hq6 hcm hu1
        go_cut [7, 8, 10] (fun s7 s8 s10 wx => ∃ (q b1 : Int) (lv2 : Value), s7 = .int .i64 (LW.length + 1) ∧ s8 = .int .u64 q ∧ s10 = .int .i64 b1 ∧ Hid (0 ≤ q ∧ q ≤ 1000000) ∧ Hid (BX wx w.heap.size w.heap.size (LW ++ [45] ++ bytesOf PT) false lv2) ∧ Hid (Below w.heap.size w wx))
        case first =>
          go_wp2_with fail
          go_loopg [7, 8, 10, 59] (ys.length) (fun kq s7 s8 s10 s59 wx => ∃ i : Nat, s59 = .int .i64 i ∧ Hid (kq = ys.length - i ∧ i ≤ ys.length) ∧ ((Hid (i ≤ p) ∧ s7 = .int .i64 LW.length ∧ s8 = .int .u64 (D0 + i) ∧ s10 = .int .i64 72 ∧ wx = wr) ∨ (Hid (p < i) ∧ ∃ (b1 : Int) (lv2 : Value), s7 = .int .i64 (LW.length + 1) ∧ s8 = .int .u64 ((i : Int) - p - 1) ∧ s10 = .int .i64 b1 ∧ Hid (BX wx w.heap.size w.heap.size (LW ++ [45] ++ bytesOf PT) false lv2) ∧ Hid (Below w.heap.size w wx))))
          case atStart => exact ⟨0, rfl, Lib.hid ⟨rfl, Nat.zero_le _⟩, .inl ⟨Lib.hid (Nat.zero_le _), rfl, by rw [Int.natCast_zero, Int.add_zero], rfl, rfl⟩⟩
          case round =>
            obtain ⟨i, rfl, HK, hcase⟩ := hrel
            rcases hcase with ⟨HI, rfl, rfl, rfl, rfl⟩ | ⟨HI, b1, lv2, rfl, rfl, rfl, HX2, HB2⟩
            · have hiL : i < ys.length := by have := HI.out; have := HP.out; omega
              have hi0 : (0 : Int) ≤ (i : Int) := by omega
              have hi3 : (i : Int) < (ys.length : Int) := by omega
              have hss : ys.length ≤ 100000 := HL.out
              have hcc := HS.out.at_ HB1.out i hiL
              obtain ⟨y, hye⟩ : ∃ y, ys.getD i 0 = y := ⟨_, rfl⟩
              have HYE := Lib.hid hye
              rw [hye] at hcc
              clear hye
              by_cases hip : i = p
              · have hym : y = m := by rw [← HYE.out, hip]; exact HPM.out
                rw [hym] at hcc
                clear HYE hym
                have HIP := Lib.hid hip
                have hc1 : decide (m < m) = false := decide_eq_false (Int.lt_irrefl _)
                have hc2 : (m == m) = true := beq_self_eq_true m
                have hpu : bias_Put.f K (D0 + i) 72 = some PT := by rw [hip]; exact HPU.out
                have hput := fun W => bias_Put.calls K (D0 + i) 72 PT W hpu
                have hl1 : wrap64 ((LW.length : Int) + 1) = (LW.length : Int) + 1 := w64 (by omega) (by have := HLL.out; omega)
                have hl2 : IntKind.u64.wrap ((LW.length : Int) + 1) = (LW.length : Int) + 1 := Go.Proofs.Ytegacgfhmigdjaa.u64 (by omega) (by have := HLL.out; omega)
                have had := fun W => adapt_c (D0 + i) ((LW.length : Int) + 1) true W (by have := HDB.out; omega) (by have := HDB.out; show _ ≤ (4611686018427387904 : Int); omega) (by omega)
                have HWL : Hid ((LW ++ [45]).length + PT.size ≤ 1000000) := Lib.hid (by rw [List.length_append, List.length_singleton]; have := HPT.out; have := HL.out; omega)
                have HPU2 := Lib.hid hput
                have HAD := Lib.hid had
                clear hpu hip hput had
                go_wp2_with fail
                refine (HPU2.out _).mono ?_
                rintro e w2 ⟨rfl, hb2⟩
                have HXa := Lib.hid (HX1.out.below hb2)
                have HBa := Lib.hid (below_next HB1.out hb2)
                clear hb2
                go_wp2_with fail
                refine (writeString_c w.heap.size w.heap.size (LW ++ [45]) false lv1 PT _ HXa.out HBa.out.size HWL.out).mono ?_
                rintro e w3 ⟨rfl, lv3, hx3, he3⟩
                have HX3 := Lib.hid hx3
                have HB3 := Lib.hid (below_bx HBa.out HXa.out he3 HBa.out.size (Nat.le_refl _))
                clear hx3 he3
                go_wp2_with fail
                refine (HAD.out _).mono ?_
                rintro e w4 ⟨rfl, hb4⟩
                have HX4 := Lib.hid (HX3.out.below hb4)
                have HB4 := Lib.hid (below_next HB3.out hb4)
                clear hb4
                go_wp2_with fail
                go_roundg (gk - 1)
                case measure => have := HK.out; omega
                case rel => exact ⟨i + 1, by go_num, Lib.hid ⟨by have := HK.out; omega, by omega⟩, .inr ⟨Lib.hid (by have := HIP.out; omega), _, lv3, rfl, by (congr 1; have := HIP.out; omega), rfl, HX4, HB4⟩⟩
              · have hyl : y < 128 := by rw [← HYE.out]; exact HPL.out i hiL hip
                have hc1 : decide (y < m) = true := decide_eq_true (by have := HM.out; omega)
                have hq7 : IntKind.u64.wrap (D0 + i + 1) = D0 + i + 1 := Go.Proofs.Ytegacgfhmigdjaa.u64 (by have := HDB.out; omega) (by have := HDB.out; omega)
                have HIP : Hid (i + 1 ≤ p) := Lib.hid (by have := HI.out; omega)
                clear hyl hip
                go_wp2_with fail
                go_roundg (gk - 1)
                case measure => have := HK.out; omega
                case rel => exact ⟨i + 1, by go_num, Lib.hid ⟨by have := HK.out; omega, by omega⟩, .inl ⟨HIP, rfl, by (congr 1; omega), rfl, rfl⟩⟩
            · by_cases hiL : i < ys.length
              · have hi0 : (0 : Int) ≤ (i : Int) := by omega
                have hi3 : (i : Int) < (ys.length : Int) := by omega
                have hss : ys.length ≤ 100000 := HL.out
                have hcc := HS.out.at_ HB2.out i hiL
                obtain ⟨y, hye⟩ : ∃ y, ys.getD i 0 = y := ⟨_, rfl⟩
                have HYE := Lib.hid hye
                rw [hye] at hcc
                clear hye
                have hyl : y < 128 := by rw [← HYE.out]; exact HPL.out i hiL (by have := HI.out; omega)
                have hc1 : decide (y < m) = true := decide_eq_true (by have := HM.out; omega)
                obtain ⟨q, hqq⟩ : ∃ q : Int, (i : Int) - p - 1 = q := ⟨_, rfl⟩
                have HQQ : Hid (((i + 1 : Nat) : Int) - p - 1 = q + 1) := Lib.hid (by omega)
                rw [hqq]
                have hq7 : IntKind.u64.wrap (q + 1) = q + 1 := Go.Proofs.Ytegacgfhmigdjaa.u64 (by have := HI.out; omega) (by omega)
                have HIP : Hid (p < i + 1) := Lib.hid (by have := HI.out; omega)
                clear hyl hqq
                go_wp2_with fail
                go_roundg (gk - 1)
                case measure => have := HK.out; omega
                case rel => exact ⟨i + 1, by go_num, Lib.hid ⟨by have := HK.out; omega, by omega⟩, .inr ⟨HIP, b1, lv2, rfl, by rw [HQQ.out], rfl, HX2, HB2⟩⟩
              · have hi3 : ¬ (i : Int) < (ys.length : Int) := by omega
                have HQ : Hid (0 ≤ (i : Int) - p - 1 ∧ (i : Int) - p - 1 ≤ 1000000) := Lib.hid (by have := HI.out; have := HK.out; have := HL.out; omega)
                go_wp2_with fail
                go_meet
                exact ⟨_, b1, lv2, rfl, rfl, rfl, HQ, HX2, HB2⟩
        case rest =>
          obtain ⟨q, b1, lv2, rfl, rfl, rfl, HQ, HX2, HB2⟩ := hcut
          have hq7 : IntKind.u64.wrap (q + 1) = q + 1 := Go.Proofs.Ytegacgfhmigdjaa.u64 (by have := HQ.out; omega) (by have := HQ.out; omega)
          go_wp2_with fail
          go_roundg 0
          case measure => decide
          case rel => exact .inr ⟨rfl, rfl, lv2, HX2, HB2⟩
      · go_wp2_with fail
        rw [HRES.out] at HX2
        refine (builderString_c w.heap.size w.heap.size RES false lv2 _ HX2.out (Nat.le_refl _) HB2.out.size).mono ?_
        rintro e w3 ⟨rfl, hb3⟩
        have HB3 := Lib.hid hb3
        clear hb3
        go_wp2_with fail
        go_ret
        exact ⟨rfl, below_join HB2.out HB3.out⟩
end Go.Proofs.Ytegacgfhmigdjaa
/- puny.Encoder: its end, and what is told behind it. -/
namespace Go.Proofs.Ytegacgfhmigdjaa
open Go.RowKit Go.Proofs.YtegacgfhmigdjaaW.PrintWords Go.Proofs.YtegacgfhmigdjaaW.PrintLast Go.Proofs.YtegacgfhmigdjaaW.PrintMore Go.Proofs.Ytegacgfhmigdjaa.PPu
set_option linter.unusedVariables false
set_option linter.unusedSimpArgs false

theorem EX.fin {w : World} {g B : Nat} {n : Int} {xs : List Int} {p : ByteArray} {lv : Value} (h : EX w g B 0 0 false n xs p lv) : EX (w.setCell ⟨g, 3, none⟩ (.bool true)) g B 0 0 true n xs p lv := by
  have hne := own_types h.list h.blk (by decide)
  exact ⟨h.blk.set 3 _, q_move h.list fun k hk => Below.heap_setCell w _ _ k fun e => hne (by rw [hk, e])⟩
theorem empty_app (t : ByteArray) : (⟨#[]⟩ : ByteArray) ++ t = t := by apply ByteArray.ext; simp
theorem empty_sz (t : ByteArray) (h : t.size ≤ 1000000) : (⟨#[]⟩ : ByteArray).size + t.size ≤ 140737488351232 := by
  have h0 : (⟨#[]⟩ : ByteArray).size = 0 := rfl
  omega
theorem encEnd_c (g B : Nat) (n : Int) (xs : List Int) (lv : Value) (t : ByteArray) (w : World) (hd : EX w g B 0 0 false n xs ⟨#[]⟩ lv) (hsz : t.size ≤ 1000000)
    (ht : ∀ W, Below w.heap.size w W → Calls Try.prog 48 #[lv] W fun e w' => e = .returned (.string t) ∧ Below W.heap.size W w') :
    Calls Try.prog 28 #[.pointer (some ⟨g, 0, none⟩)] w fun e w' => e = .returned (.tuple #[]) ∧ ∃ w2, Hid (Below w.heap.size w w2) ∧ w' = (w2.setCell ⟨g, 4, none⟩ (.string t)).setCell ⟨g, 3, none⟩ (.bool true) := by
  have HD := Lib.hid hd
  have HS := Lib.hid hsz
  have HT := Lib.hid ht
  clear hd hsz ht
  obtain ⟨c5, f5⟩ := HD.out.at5 (Below.refl _ _)
  go_enter Try.func28, Try.ntmps28
  go_upto_region 1 with (go_at_call 38; refine (going_yes HD.out.blk rfl rfl).mono ?_; rintro e w1 ⟨rfl, rfl⟩)
  go_cut [] (fun wx => ∃ w2, Hid (Below w.heap.size w w2) ∧ wx = w2.setCell ⟨g, 4, none⟩ (.string t))
  case first =>
    go_region_with (first
      | (go_at_call 48; refine (HT.out _ (by first | exact Below.refl _ _ | exact below_drew1 (Below.refl _ _))).mono ?_; rintro e w1 ⟨rfl, hb1⟩; have HB1 : Hid (Below w.heap.size w w1) := Lib.hid (by first | exact below_next (Below.refl _ _) hb1 | exact below_next (below_drew1 (Below.refl _ _)) hb1); clear hb1)
      | (go_at_call 47; refine (keep_c (o := 4) (s := ⟨#[]⟩) (HD.out.blk.below HB1.out) rfl (empty_sz t HS.out)).mono ?_; rw [empty_app]; rintro e w2 ⟨rfl, rfl⟩))
    all_goals (go_wp2_with fail; go_meet)
    all_goals exact ⟨w1, HB1, rfl⟩
  case rest =>
    obtain ⟨w2, HB2, rfl⟩ := hcut
    have HE2 := Lib.hid ((HD.out.below HB2.out).pend t)
    go_wp2_with (go_at_call 44; refine (end_c HE2.out.blk rfl rfl).mono ?_; rintro e w3 ⟨rfl, rfl⟩)
    refine bodyPost_end (v := .tuple #[]) (by simp [results, Try.results28, go_sem]) rfl ⟨rfl, w2, HB2, rfl⟩
theorem encGive_c (g B : Nat) (n : Int) (xs : List Int) (t : ByteArray) (lv : Value) (room : Int) (w : World) (hd : EX w g B 0 0 true n xs t lv) :
    Calls Try.prog 27 #[.pointer (some ⟨g, 0, none⟩), .slice none 0 0, .int .i64 room] w fun e w' => e = .returned (.tuple #[.int .i64 0, .string (t.extract 0 (giveN room t.size))]) ∧ EX w' g B 0 0 true n xs (t.extract (giveN room t.size) t.size) lv ∧ Eff w w' (fun k => k = g) := by
  have HD := Lib.hid hd
  clear hd
  go_enter Try.func27, Try.ntmps27
  go_upto_block 0 with fail
  go_cut [8] (fun s8 wx => s8 = .int .i64 0 ∧ wx = w)
  case first =>
    go_wp2_with fail
    go_loopg [8] 0 (fun kq s8 wx => s8 = .int .i64 0 ∧ wx = w)
    case atStart => exact ⟨rfl, rfl⟩
    case round =>
      obtain ⟨rfl, rfl⟩ := hrel
      go_wp2_with fail
      go_meet
      exact ⟨rfl, rfl⟩
  case rest =>
    obtain ⟨rfl, rfl⟩ := hcut
    go_wp2_with (go_at_call 46; refine (give_c (o := 4) HD.out.blk rfl).mono ?_; rintro e w1 ⟨rfl, rfl⟩)
    refine bodyPost_ret (v := .tuple #[.int .i64 0, .string (t.extract 0 (giveN room t.size))]) (by simp [results, Try.results27, go_sem]) rfl ?_
    exact ⟨rfl, HD.out.pend _, Eff.set _ g 4 _ |>.mono fun _ _ h => h⟩
end Go.Proofs.Ytegacgfhmigdjaa
/- pilcrowlaw10.awake answers true. -/
namespace Go.Proofs.Ytegacgfhmigdjaa
open Go.RowKit Go.Proofs.YtegacgfhmigdjaaW.PrintWords Go.Proofs.YtegacgfhmigdjaaW.PrintLast Go.Proofs.YtegacgfhmigdjaaW.PrintMore Go.Proofs.Ytegacgfhmigdjaa.PPu
set_option linter.unusedVariables false
set_option linter.unusedSimpArgs false

theorem own_eff {w w1 : World} {S : Nat → Prop} {base n size : Nat} {e : TypeId} {v : Value} {xs : List Value} (h : w.ownsRow base e size v n xs) (he : Eff w w1 S) (hn : ∀ k, base ≤ k → k < w.heap.size → ¬ S k) : w1.ownsRow base e size v n xs :=
  own_move h fun k hk => by
    obtain ⟨cells, hc⟩ := own_typed h k hk
    have hlt : k < w.heap.size := (Array.getElem?_eq_some_iff.1 hc).1
    exact he.block k hlt (hn k (q_own_ge (q_of_own h) k hk) hlt)
theorem DE.eff {w w1 : World} {S : Nat → Prop} {g B : Nat} {err fat n : Int} {en : Bool} {xs : List Int} {lv : Value} (h : DE w g B err fat n en xs lv) (he : Eff w w1 S) (hg : ¬ S g) (hn : ∀ k, B ≤ k → k < w.heap.size → ¬ S k) : DE w1 g B err fat n en xs lv := by
  obtain ⟨tv, hb⟩ := h.blk
  exact ⟨⟨tv, hb.eff he hg⟩, q_move h.list fun k hk => he.block k (q_lt h.list k hk) (hn k (q_own_ge h.list k hk) (q_lt h.list k hk)), h.off⟩
theorem src_of {w : World} {A : Option Addr} {ys : List Int} (h : ReadsInt w .u32 A ys.length ys) (hne : 0 < ys.length) : ∃ pb po, A = some ⟨pb, po, none⟩ ∧ SrcT w pb po ys := by
  obtain ⟨ad, rfl, hc⟩ := h.2.2 hne
  have h0 := hc 0 hne
  have h1 : w.cell? ad = some (.int .u32 (ys.getD 0 0)) := by simpa [Addr.add] using h0
  obtain ⟨pb, po, sp⟩ := ad
  cases sp with
  | none =>
    have hlt := World.block_lt_of_cell? w _ h1
    refine ⟨pb, po, rfl, fun _ => hlt, fun j hj => ?_⟩
    have := hc j hj
    rwa [Addr.add_lit] at this
  | some x => exfalso; unfold World.cell? at h1; simp at h1; split at h1 <;> simp at h1
theorem SrcT.below {w w1 : World} {pb po : Nat} {ys : List Int} (h : SrcT w pb po ys) (hb : Below w.heap.size w w1) : SrcT w1 pb po ys :=
  ⟨fun hl => Nat.lt_of_lt_of_le (h.lt hl) hb.size, fun j hj => h.at_ hb j hj⟩
def LL : List Int := [98, 252, 99, 104, 101, 114]
def sD : ByteArray := ⟨#[98, 99, 104, 101, 114, 45, 75, 118, 97]⟩
def sF : ByteArray := ⟨#[97, 98, 255]⟩
def sK : ByteArray := ⟨#[107, 118, 97]⟩
theorem den_sD : denR sD = (LL, true) := by kernel_rfl
theorem feed_sD : feedN sD = 9 := by kernel_rfl
theorem feed_sF : feedN sF = 2 := by kernel_rfl
theorem enc_LL : encN LL = 6 := by kernel_rfl
theorem low_LL : lowL LL = [98, 99, 104, 101, 114] := by kernel_rfl
theorem high_LL : highL LL = [252] := by kernel_rfl
theorem put_LL : bias_Put.f 100 ((252 - 128) * ((lowL LL).length + 1) + (1 : Nat)) 72 = some sK := by kernel_rfl
theorem res_LL : lowL LL ++ [45] ++ bytesOf sK = ([98, 99, 104, 101, 114, 45, 107, 118, 97] : List UInt8).map fun b => (b.toNat : Int) := by kernel_rfl
def DECZ : Array Value := #[.int .i64 0, .int .i64 0, .int .i64 0, .bool false, .slice none 0 0, .slice none 0 0]
theorem fed_sD {w0 w : World} {g B : Nat} {lv : Value} (h : Fed w0 w g B 0 [] sD lv) : (∃ tv, DG w g B 9 (preL sD sD.size) lv tv) ∧ Eff w0 w (fun k => k = g ∨ B ≤ k) := by
  obtain ⟨⟨tv, h1⟩, h2⟩ := h
  rw [feed_sD] at h1
  exact ⟨⟨tv, h1⟩, h2⟩
theorem fed_sF {w0 w : World} {g B : Nat} {lv : Value} (h : Fed w0 w g B 0 [] sF lv) : (∃ tv, Blk w g 43 #[.int .i64 2, .int .i64 3, .int .i64 2, .bool false, lv, tv]) ∧ Eff w0 w (fun k => k = g ∨ B ≤ k) := by
  obtain ⟨⟨tv, h1⟩, h2⟩ := h
  rw [feed_sF] at h1
  exact ⟨⟨tv, h1.blk⟩, h2⟩
def LLC : Array Value := #[.int .u32 98, .int .u32 252, .int .u32 99, .int .u32 104, .int .u32 101, .int .u32 114]
theorem lit_cell (w : World) (j : Nat) (hj : j < LL.length) : (w.alloc (.cells LLC 51 (0, 0))).cell? ⟨w.heap.size, 0 + j, none⟩ = some (.int .u32 (LL.getD j 0)) := by
  have h6 : j < 6 := hj
  rw [Nat.zero_add]
  refine (Blk.new w 51 LLC).cell ?_
  rcases j with _ | _ | _ | _ | _ | _ | j
  all_goals first | rfl | omega
theorem lit_src (w : World) (g : Nat) (hg : g < w.heap.size) : SrcU (w.alloc (.cells LLC 51 (0, 0))) g w.heap.size 0 LL (.slice none 0 0) :=
  ⟨by omega, fun h => (by cases h), fun _ => by rw [World.size_alloc]; omega, fun j hj => lit_cell w j hj⟩
theorem lit_reads (w : World) : ReadsInt (w.alloc (.cells LLC 51 (0, 0))) .u32 (some ⟨w.heap.size, 0, none⟩) LL.length LL :=
  ⟨rfl, by decide, fun _ => ⟨⟨w.heap.size, 0, none⟩, rfl, fun j hj => by rw [Addr.add_lit]; exact lit_cell w j hj⟩⟩
theorem enc_LLF {w0 w : World} {g B : Nat} (h : EncF w0 w g B 0 [] LL) : (∃ lv, EX w g B 0 0 false 6 LL ⟨#[]⟩ lv) ∧ Eff w0 w (fun k => k = g ∨ B ≤ k) := by
  obtain ⟨⟨lv, h1⟩, h2⟩ := h
  rw [enc_LL] at h1
  exact ⟨⟨lv, h1⟩, h2⟩
theorem text_LL (w : World) (A : Option Addr) (c : Nat) (h : ReadsInt w .u32 A LL.length LL) (W : World) (hb : Below w.heap.size w W) : Calls Try.prog 48 #[.slice A LL.length c] W fun e w' => e = .returned (.string ⟨#[98, 99, 104, 101, 114, 45, 107, 118, 97]⟩) ∧ Below W.heap.size W w' := by
  obtain ⟨pb, po, rfl, hs⟩ := src_of h (by decide)
  exact text_one pb po c LL 252 W (hs.below hb) (by decide) (by decide) high_LL (by rw [low_LL]; decide) 1 (by decide) (by decide) (by decide) (by decide) sK 100 put_LL (by decide) [98, 99, 104, 101, 114, 45, 107, 118, 97] res_LL
set_option maxRecDepth 100000 in
set_option maxHeartbeats 4000000 in
theorem awake_c (w : World) : Calls Try.prog 10 #[] w fun e w' => e = .returned (.bool true) ∧ Below w.heap.size w w' := by
  go_enter Try.func10, Try.ntmps10
  go_wp2_with fail
  refine (newdec_c _).mono ?_
  rintro e w1 ⟨rfl, hw1⟩
  have HN1 : Hid (Blk w1 w.heap.size 43 DECZ ∧ w1.heap.size = w.heap.size + 1) := Lib.hid ⟨by rw [hw1]; exact Blk.new w _ _, by rw [hw1, World.size_alloc]⟩
  have HB1 : Hid (Below w.heap.size w w1) := Lib.hid (by rw [hw1]; exact below_new (Below.refl _ _) _)
  clear hw1
  go_wp2_with fail
  refine (newdec_c _).mono ?_
  rintro e w2 ⟨rfl, hw2⟩
  have HN2 : Hid (Blk w2 w.heap.size 43 DECZ ∧ Blk w2 (w.heap.size + 1) 43 DECZ ∧ w2.heap.size = w.heap.size + 2) := Lib.hid ⟨by rw [hw2]; exact HN1.out.1.alloc _, by rw [hw2, ← HN1.out.2]; exact Blk.new w1 _ _, by rw [hw2, World.size_alloc, HN1.out.2]⟩
  have HB2 : Hid (Below w.heap.size w w2) := Lib.hid (by rw [hw2]; exact below_new HB1.out _)
  rw [HN1.out.2]
  clear hw2 HN1 HB1
  go_wp2_with fail
  refine (newenc_c _).mono ?_
  rintro e w3 ⟨rfl, hw3⟩
  have HN3 : Hid (Blk w3 w.heap.size 43 DECZ ∧ Blk w3 (w.heap.size + 1) 43 DECZ ∧ EX w3 (w.heap.size + 2) w3.heap.size 0 0 false 0 [] ⟨#[]⟩ (.slice none 0 0) ∧ w3.heap.size = w.heap.size + 3) := Lib.hid ⟨by rw [hw3]; exact HN2.out.1.alloc _, by rw [hw3]; exact HN2.out.2.1.alloc _, by rw [hw3, ← HN2.out.2.2]; exact EX.new w2 _, by rw [hw3, World.size_alloc, HN2.out.2.2]⟩
  have HB3 : Hid (Below w.heap.size w w3) := Lib.hid (by rw [hw3]; exact below_new HB2.out _)
  rw [HN2.out.2.2]
  clear hw3 HN2 HB2
  obtain ⟨g, hg⟩ : ∃ g, w.heap.size = g := ⟨_, rfl⟩
  rw [hg] at HN3 HB3 ⊢
  obtain ⟨g2, hg2⟩ : ∃ g2, g + 1 = g2 := ⟨_, rfl⟩
  obtain ⟨g3, hg3⟩ : ∃ g3, g + 2 = g3 := ⟨_, rfl⟩
  obtain ⟨B, hB⟩ : ∃ B, w3.heap.size = B := ⟨_, rfl⟩
  rw [hg2, hg3, hB] at HN3
  rw [hg2, hg3]
  have HG : Hid (g2 = g + 1 ∧ g3 = g + 2 ∧ B = g + 3 ∧ w3.heap.size = B) := Lib.hid ⟨by omega, by omega, by rw [← HN3.out.2.2.2], hB⟩
  clear hg2 hg3 hB
  have HD3 : Hid (DG w3 g B 0 [] (.slice none 0 0) (.slice none 0 0)) := Lib.hid ⟨HN3.out.1, ⟨rfl, .inl ⟨rfl, none, rfl, fun a h => by cases h⟩⟩, rfl, ⟨rfl, .inl ⟨rfl, none, rfl, fun a h => by cases h⟩⟩⟩
  go_wp2_with fail
  refine (feed_go g B 0 [] _ _ sD 9 w3 HD3.out (by decide) (by rw [HG.out.2.2.2]; exact Nat.le_refl _) (by decide) (by decide) (by decide)).mono ?_
  rintro e w4 ⟨v4, lv4, rfl, ho4, hf4⟩
  clear ho4
  obtain ⟨⟨tv4, hd4⟩, he4⟩ := fed_sD hf4
  have HD4 := Lib.hid hd4
  have HE4 := Lib.hid he4
  have HF4 : Hid (Blk w4 g2 43 DECZ) := Lib.hid (HN3.out.2.1.eff he4 (by have := HG.out; omega))
  have HX4 : Hid (EX w4 g3 w4.heap.size 0 0 false 0 [] ⟨#[]⟩ (.slice none 0 0)) := Lib.hid ⟨HN3.out.2.2.1.blk.eff he4 (by have := HG.out; omega), ⟨rfl, .inl ⟨rfl, none, rfl, fun a h => by cases h⟩⟩⟩
  have HB4 : Hid (Below g w w4) := Lib.hid (Eff.under HB3.out he4 (by have := HG.out; omega) (fun k hk => by have := HG.out; omega))
  have HZ4 : Hid (B ≤ w4.heap.size) := Lib.hid (by have := HG.out; have := he4.size; omega)
  clear hf4 hd4 he4 HN3 HB3 HD3
  go_wp2_with fail
  refine (end_go g B 9 0 0 sD LL true den_sD (.inl rfl) lv4 tv4 w4 HD4.out HZ4.out (by decide)).mono ?_
  rintro e w5 ⟨rfl, he5, lv5, hd5⟩
  have HD5 := Lib.hid hd5
  have HF5 : Hid (Blk w5 g2 43 DECZ) := Lib.hid (HF4.out.eff he5 (by have := HG.out; omega))
  have HX5 : Hid (EX w5 g3 w5.heap.size 0 0 false 0 [] ⟨#[]⟩ (.slice none 0 0)) := Lib.hid ⟨HX4.out.blk.eff he5 (by have := HG.out; omega), ⟨rfl, .inl ⟨rfl, none, rfl, fun a h => by cases h⟩⟩⟩
  have HB5 : Hid (Below g w w5) := Lib.hid (Eff.under HB4.out he5 (by have := HG.out; have := HZ4.out; omega) (fun k hk => by have := HG.out; omega))
  have HZ5 : Hid (B ≤ w5.heap.size) := Lib.hid (by have := HZ4.out; have := he5.size; omega)
  clear hd5 he5 HF4 HX4 HD4 HB4 HZ4 HE4
  go_wp2_with fail
  refine (feed_tell g B 0 0 9 true LL lv5 w5 HD5.out (by decide) 9).mono ?_
  rintro e w6 ⟨v6, lv6, rfl, ho6, hd6, he6, hl6⟩
  have HD6 : Hid (DE w6 g B 0 0 9 true [] lv6) := Lib.hid hd6
  have ho6' : w6.ownsRow w5.heap.size 51 1 v6 LL.length (nums .u32 LL) := ho6
  obtain ⟨A6, c6, rfl, hc6⟩ := Go.Proofs.Ytegacgfhmigdjaa.own_slice ho6'
  have HO6 := Lib.hid ho6'
  have HC6 := Lib.hid hc6
  have HF6 : Hid (Blk w6 g2 43 DECZ) := Lib.hid (HF5.out.eff he6 (by have := HG.out; omega))
  have HX6 : Hid (EX w6 g3 w6.heap.size 0 0 false 0 [] ⟨#[]⟩ (.slice none 0 0)) := Lib.hid ⟨HX5.out.blk.eff he6 (by have := HG.out; omega), ⟨rfl, .inl ⟨rfl, none, rfl, fun a h => by cases h⟩⟩⟩
  have HB6 : Hid (Below g w w6) := Lib.hid (Eff.under HB5.out he6 (by have := HG.out; have := HZ5.out; omega) (fun k hk => by omega))
  have HZ6 : Hid (B ≤ w6.heap.size) := Lib.hid (by have := HZ5.out; have := he6.size; omega)
  clear ho6 ho6' hc6 hd6 he6 hl6 HF5 HX5 HD5 HB5
  have HDF : Hid (DG w6 g2 w6.heap.size 0 [] (.slice none 0 0) (.slice none 0 0)) := Lib.hid ⟨HF6.out, ⟨rfl, .inl ⟨rfl, none, rfl, fun a h => by cases h⟩⟩, rfl, ⟨rfl, .inl ⟨rfl, none, rfl, fun a h => by cases h⟩⟩⟩
  go_wp2_with fail
  refine (feed_go g2 w6.heap.size 0 [] _ _ sF 9 w6 HDF.out (by decide) (Nat.le_refl _) (by decide) (by decide) (by decide)).mono ?_
  rintro e w7 ⟨v7, lv7, rfl, ho7, hf7⟩
  rw [feed_sF]
  clear ho7
  obtain ⟨⟨tv7, hd7⟩, he7⟩ := fed_sF hf7
  have HF7 := Lib.hid hd7
  have HD7 : Hid (DE w7 g B 0 0 9 true [] lv6) := Lib.hid (HD6.out.eff he7 (by have := HG.out; have := HZ6.out; omega) (fun k h1 h2 => by have := HG.out; omega))
  have HO7 := Lib.hid (own_eff HO6.out he7 (fun k h1 h2 => by have := HG.out; have := HZ5.out; omega))
  have HX7 : Hid (EX w7 g3 w7.heap.size 0 0 false 0 [] ⟨#[]⟩ (.slice none 0 0)) := Lib.hid ⟨HX6.out.blk.eff he7 (by have := HG.out; have := HZ6.out; omega), ⟨rfl, .inl ⟨rfl, none, rfl, fun a h => by cases h⟩⟩⟩
  have HB7 : Hid (Below g w w7) := Lib.hid (Eff.under HB6.out he7 (by have := HG.out; have := HZ6.out; omega) (fun k hk => by have := HG.out; have := HZ6.out; omega))
  have HZ7 : Hid (B ≤ w7.heap.size) := Lib.hid (by have := HZ6.out; have := he7.size; omega)
  clear hd7 he7 hf7 HF6 HX6 HD6 HO6 HB6 HDF
  go_wp2_with fail
  have HB8 : Hid (Below g w (w7.alloc (.cells LLC 51 (0, 0)))) := Lib.hid (Eff.under HB7.out (Eff.alloc w7 _ (fun _ => False)) (by have := HG.out; have := HZ7.out; omega) (fun k hk => hk.elim))
  have HX8 : Hid (EX (w7.alloc (.cells LLC 51 (0, 0))) g3 (w7.heap.size + 1) 0 0 false 0 [] ⟨#[]⟩ (.slice none 0 0)) := Lib.hid ⟨HX7.out.blk.alloc _, ⟨rfl, .inl ⟨rfl, none, rfl, fun a h => by cases h⟩⟩⟩
  refine (enc_go g3 (w7.heap.size + 1) w7.heap.size 0 6 0 [] LL (.slice none 0 0) 0 _ HX8.out (lit_src w7 g3 (by have := HG.out; have := HZ7.out; omega)) (by rw [World.size_alloc]; exact Nat.le_refl _) (by decide) (by decide) (by decide)).mono ?_
  rintro e w9 ⟨rfl, hf9⟩
  obtain ⟨⟨lv9, hx9⟩, he9⟩ := enc_LLF hf9
  have HX9 := Lib.hid hx9
  have HF9 := Lib.hid ((HF7.out.alloc _).eff he9 (by have := HG.out; have := HZ7.out; omega))
  have HD9 : Hid (DE w9 g B 0 0 9 true [] lv6) := Lib.hid ((HD7.out.eff (Eff.alloc w7 _ (fun _ => False)) (fun h => h) (fun k h1 h2 h => h)).eff he9 (by have := HG.out; have := HZ7.out; omega) (fun k h1 h2 => by have := HG.out; rw [World.size_alloc] at h2; omega))
  have HO9 := Lib.hid (own_eff (Go.Proofs.Ytegacgfhmigdjaa.own_alloc HO7.out _) he9 (fun k h1 h2 => by have := HG.out; have := HZ5.out; rw [World.size_alloc] at h2; omega))
  have HB9 : Hid (Below g w w9) := Lib.hid (Eff.under HB8.out he9 (by rw [World.size_alloc]; have := HG.out; have := HZ7.out; omega) (fun k hk => by have := HG.out; have := HZ7.out; omega))
  have HZ9 : Hid (B ≤ w9.heap.size) := Lib.hid (by have := HZ7.out; have := he9.size; rw [World.size_alloc] at this; omega)
  obtain ⟨A9, c9, rfl, hc9⟩ := q_slice HX9.out.list
  have HT9 := Lib.hid (text_LL w9 A9 c9 (q_reads HX9.out.list))
  clear hf9 hx9 he9 hc9 HF7 HX7 HD7 HO7 HB7 HX8 HB8
  go_wp2_with fail
  refine (encEnd_c g3 (w7.heap.size + 1) 6 LL _ ⟨#[98, 99, 104, 101, 114, 45, 107, 118, 97]⟩ w9 HX9.out (by decide) HT9.out).mono ?_
  rintro e w10 ⟨rfl, w10', HBB, hw10⟩
  have HX10 : Hid (EX w10 g3 (w7.heap.size + 1) 0 0 true 6 LL ⟨#[98, 99, 104, 101, 114, 45, 107, 118, 97]⟩ (.slice A9 LL.length c9)) := Lib.hid (by rw [hw10]; exact ((HX9.out.below HBB.out).pend _).fin)
  have he10 : Eff w9 w10 (fun k => k = g3) := by rw [hw10]; exact ((Eff.of_below HBB.out _).trans (Eff.set _ g3 4 _) (fun _ _ h => h)).trans (Eff.set _ g3 3 _) (fun _ _ h => h)
  have HF10 := Lib.hid (HF9.out.eff he10 (by have := HG.out; omega))
  have HD10 : Hid (DE w10 g B 0 0 9 true [] lv6) := Lib.hid (HD9.out.eff he10 (by have := HG.out; omega) (fun k h1 h2 => by have := HG.out; omega))
  have HO10 := Lib.hid (own_eff HO9.out he10 (fun k h1 h2 => by have := HG.out; have := HZ5.out; omega))
  have HB10 : Hid (Below g w w10) := Lib.hid (Eff.under HB9.out he10 (by have := HG.out; have := HZ9.out; omega) (fun k hk => by have := HG.out; omega))
  have HZ10 : Hid (B ≤ w10.heap.size) := Lib.hid (by have := HZ9.out; have := he10.size; omega)
  clear hw10 he10 HF9 HD9 HO9 HB9 HX9 HT9 HBB
  go_wp2_with fail
  refine (encGive_c g3 (w7.heap.size + 1) 6 LL ⟨#[98, 99, 104, 101, 114, 45, 107, 118, 97]⟩ _ 9 w10 HX10.out).mono ?_
  rintro e w11 ⟨rfl, hx11, he11⟩
  rw [show (⟨#[98, 99, 104, 101, 114, 45, 107, 118, 97]⟩ : ByteArray).extract 0 (giveN 9 (⟨#[98, 99, 104, 101, 114, 45, 107, 118, 97]⟩ : ByteArray).size) = ⟨#[98, 99, 104, 101, 114, 45, 107, 118, 97]⟩ from by kernel_rfl]
  have HF11 := Lib.hid (HF10.out.eff he11 (by have := HG.out; omega))
  have HD11 : Hid (DE w11 g B 0 0 9 true [] lv6) := Lib.hid (HD10.out.eff he11 (by have := HG.out; omega) (fun k h1 h2 => by have := HG.out; omega))
  have HO11 := Lib.hid (own_eff HO10.out he11 (fun k h1 h2 => by have := HG.out; have := HZ5.out; omega))
  have HB11 : Hid (Below g w w11) := Lib.hid (Eff.under HB10.out he11 (by have := HG.out; have := HZ10.out; omega) (fun k hk => by have := HG.out; omega))
  have HZ11 : Hid (B ≤ w11.heap.size) := Lib.hid (by have := HZ10.out; have := he11.size; omega)
  clear hx11 he11 HX10 HF10 HD10 HO10 HB10
  go_wp2_with fail
  have HB12 : Hid (Below g w (w11.alloc (.cells LLC 51 (0, 0)))) := Lib.hid (Eff.under HB11.out (Eff.alloc w11 _ (fun _ => False)) (by have := HG.out; have := HZ11.out; omega) (fun k hk => hk.elim))
  refine (same_c LL (by decide) A6 (some ⟨w11.heap.size, 0, none⟩) c6 6 (w11.alloc (.cells LLC 51 (0, 0))) (own_reads' (Go.Proofs.Ytegacgfhmigdjaa.own_alloc HO11.out _)) (lit_reads w11) HC6.out (by decide)).mono ?_
  rintro e w13 ⟨rfl, hb13⟩
  have he13 : Eff w11 w13 (fun _ => False) := (Eff.alloc w11 _ _).trans (Eff.of_below hb13 (fun _ => False)) (fun _ _ h => h)
  have HF13 := Lib.hid (HF11.out.eff he13 (fun h => h))
  have HD13 : Hid (DE w13 g B 0 0 9 true [] lv6) := Lib.hid (HD11.out.eff he13 (fun h => h) (fun k h1 h2 h => h))
  have HB13 : Hid (Below g w w13) := Lib.hid (Eff.under HB11.out he13 (by have := HG.out; have := HZ11.out; omega) (fun k hk => hk.elim))
  have HZ13 : Hid (B ≤ w13.heap.size) := Lib.hid (by have := HZ11.out; have := he13.size; omega)
  clear hb13 he13 HF11 HD11 HO11 HB11 HB12
  go_wp2_with fail
  refine (done_c g B 0 0 9 true [] lv6 w13 HD13.out).mono ?_
  rintro e w14 ⟨rfl, rfl⟩
  go_wp2_with fail
  refine (fail_c HF13.out rfl rfl).mono ?_
  rintro e w15 ⟨rfl, hb15⟩
  have HB15 : Hid (Below g w w15) := Lib.hid (Eff.under HB13.out (Eff.of_below hb15 (fun _ => False)) (by have := HG.out; have := HZ13.out; omega) (fun k hk => hk.elim))
  clear hb15
  have hq := eql_fail 3 2
  go_wp2_with fail
  go_ret
  exact ⟨rfl, by rw [hg]; exact HB15.out⟩
end Go.Proofs.Ytegacgfhmigdjaa
/- pilcrowlaw10.PunyReads, walked: what is left is plain Lean. -/
namespace Go.Proofs.Ytegacgfhmigdjaa
open Go.RowKit Go.Proofs.YtegacgfhmigdjaaW.PrintWords Go.Proofs.YtegacgfhmigdjaaW.PrintLast Go.Proofs.YtegacgfhmigdjaaW.PrintMore Go.Proofs.Ytegacgfhmigdjaa.PPu
set_option linter.unusedVariables false
set_option linter.unusedSimpArgs false

/-- A text is read as something. -/
theorem readF_some (s : ByteArray) : ∃ L en E F, ReadF s L en E F ∧ (if E = 0 then 0 else (feedN s : Int)) = F := by
  by_cases h : feedN s < s.size
  · exact ⟨[], false, 3, feedN s, .inl ⟨h, rfl, rfl, rfl, rfl⟩, by rw [if_neg (by decide)]⟩
  · have he : feedN s = s.size := by have := feedN_le s; omega
    rcases hd : denR s with ⟨L, ok⟩
    cases ok with
    | true => exact ⟨L, true, 0, 0, .inr ⟨he, hd, .inl rfl⟩, rfl⟩
    | false => exact ⟨L, false, 4, feedN s, .inr ⟨he, hd, .inr rfl⟩, by rw [if_neg (by decide)]⟩
theorem hand_of {w : World} {g B : Nat} {A : Option Addr} {l : List Int} (h : ReadsInt w .i64 A l.length l) (hg : w.heap.size ≤ g) (hB : w.heap.size ≤ B) : HandI w g B A l := by
  cases l with
  | nil => exact .inl rfl
  | cons a r =>
    obtain ⟨ad, rfl, hc⟩ := h.2.2 (by simp)
    have h0 := hc 0 (by simp)
    have h1 : w.cell? ad = some (.int .i64 a) := by simpa [Addr.add] using h0
    obtain ⟨pb, po, sp⟩ := ad
    cases sp with
    | none =>
      have hlt := World.block_lt_of_cell? w _ h1
      simp only at hlt
      refine .inr ⟨pb, po, rfl, by omega, by omega, fun j hj => ?_⟩
      have := hc j hj
      rwa [Addr.add_lit] at this
    | some x => exfalso; unfold World.cell? at h1; simp at h1; split at h1 <;> simp at h1
theorem HandI.below {w w1 : World} {g B : Nat} {A : Option Addr} {l : List Int} (h : HandI w g B A l) (hb : Below w.heap.size w w1) : HandI w1 g B A l := h.eff (Eff.of_below hb _)
def greatR (n : Nat) (lp lr : List Int) : Bool := decide (n > 120) || (decide (lp.length > 200) || decide (lr.length > 200))
theorem great_c (n : Nat) (A1 A2 : Option Addr) (c1 c2 : Nat) (lp lr : List Int) (w : World) (h1 : ReadsInt w .i64 A1 lp.length lp) (h2 : ReadsInt w .i64 A2 lr.length lr) (hc1 : lp.length ≤ c1) (hc2 : lr.length ≤ c2) :
    Calls Try.prog 11 #[.int .i64 n, .slice A1 lp.length c1, .slice A2 lr.length c2] w fun e w' => e = .returned (.bool (greatR n lp lr)) ∧ Below w.heap.size w w' := by
  refine (pilcrowlaw10_great.calls n A1 c1 lp A2 c2 lr (greatR n lp lr) w (Kd.C_of_reads (d := (0 : Int)) h1) hc1 (Kd.C_of_reads (d := (0 : Int)) h2) hc2 ?_).mono ?_
  · unfold pilcrowlaw10_great.f greatR
    by_cases a : n > 120
    · rw [if_pos (by omega), decide_eq_true a]; rfl
    · rw [if_neg (by omega), decide_eq_false a]
      by_cases b : lp.length > 200
      · rw [if_pos (by omega), decide_eq_true b]; rfl
      · rw [if_neg (by omega), decide_eq_false b]
        simp only [Bool.false_or]
        congr 1
        rw [decide_eq_decide]
        omega
  · rintro e w' ⟨rfl, ⟨nd, rfl⟩⟩
    exact ⟨rfl, below_drewN' (Below.refl _ _) nd⟩
set_option maxRecDepth 100000 in
set_option maxHeartbeats 4000000 in
theorem reads_c (s : ByteArray) (A1 A2 : Option Addr) (c1 c2 : Nat) (lp lr : List Int) (w : World) (h1 : ReadsInt w .i64 A1 lp.length lp) (h2 : ReadsInt w .i64 A2 lr.length lr) (hc1 : lp.length ≤ c1) (hc2 : lr.length ≤ c2) :
    Calls Try.prog 4 #[.string s, .slice A1 lp.length c1, .slice A2 lr.length c2] w fun e w' => e = .returned (.bool true) ∧ Below w.heap.size w w' := by
  have HR1 := Lib.hid h1
  have HR2 := Lib.hid h2
  have HC1 := Lib.hid hc1
  have HC2 := Lib.hid hc2
  clear h1 h2 hc1 hc2
  go_enter Try.func4, Try.ntmps4
  go_wp2_with fail
  refine (awake_c _).mono ?_
  rintro e w1 ⟨rfl, hb1⟩
  have HB1 := Lib.hid hb1
  clear hb1
  go_wp2_with fail
  refine (great_c s.size A1 A2 c1 c2 lp lr _ (HR1.out.below HB1.out) (HR2.out.below HB1.out) HC1.out HC2.out).mono ?_
  rintro e w2 ⟨rfl, hb2⟩
  have HB2 := Lib.hid (below_next HB1.out hb2)
  clear hb2
  cases hg : greatR s.size lp lr with
  | true =>
    clear hg
    go_wp2_with fail
    refine (awake_c _).mono ?_
    rintro e w3 ⟨rfl, hb3⟩
    have HB3 := Lib.hid (below_next HB2.out hb3)
    clear hb3
    go_wp2_with fail
    go_ret
    exact ⟨rfl, HB3.out⟩
  | false =>
    have HSZ : Hid (s.size ≤ 120 ∧ lp.length ≤ 200 ∧ lr.length ≤ 200) := Lib.hid (by
      unfold greatR at hg
      rw [Bool.or_eq_false_iff, Bool.or_eq_false_iff, decide_eq_false_iff_not, decide_eq_false_iff_not, decide_eq_false_iff_not] at hg
      omega)
    clear hg
    obtain ⟨L, en, E, F, hres, hF⟩ := readF_some s
    have HRES := Lib.hid hres
    have HF := Lib.hid hF
    clear hres hF
    go_wp2_with fail
    refine (newdec_c _).mono ?_
    rintro e w3 ⟨rfl, hw3⟩
    have HD3 : Hid (DG w3 w2.heap.size (w2.heap.size + 1) 0 [] (.slice none 0 0) (.slice none 0 0)) := Lib.hid (by rw [hw3]; exact DG.new w2 _)
    have HS3 : Hid (w3.heap.size = w2.heap.size + 1) := Lib.hid (by rw [hw3, World.size_alloc])
    have HB3 : Hid (Below w2.heap.size w2 w3) := Lib.hid (by rw [hw3]; exact below_new (Below.refl _ _) _)
    clear hw3
    go_wp2_with fail
    refine (read_c w2.heap.size (w2.heap.size + 1) s A1 A2 c1 c2 lp lr _ HD3.out (by rw [HS3.out]; exact Nat.le_refl _) (by have := HSZ.out; omega) (by have := HSZ.out; omega) (by have := HSZ.out; omega) ((hand_of (HR1.out.below HB2.out) (Nat.le_refl _) (Nat.le_succ _)).below HB3.out) ((hand_of (HR2.out.below HB2.out) (Nat.le_refl _) (Nat.le_succ _)).below HB3.out) L en E F HRES.out).mono ?_
    rintro e w4 ⟨v4, lv4, rfl, ho4, hd4, he4⟩
    obtain ⟨A4, c4, rfl, hc4⟩ := Go.Proofs.Ytegacgfhmigdjaa.own_slice ho4
    have HO4 := Lib.hid ho4
    have HC4 := Lib.hid hc4
    have HD4 := Lib.hid hd4
    have HB4 : Hid (Below w2.heap.size w2 w4) := Lib.hid (Eff.under HB3.out he4 (by rw [HS3.out]; omega) (fun k hk => by omega))
    clear ho4 hd4 he4 hc4
    go_wp2_with fail
    refine (rread_c s _ (by have := HSZ.out; omega) L en E F HRES.out).mono ?_
    rintro e w5 ⟨v5, rfl, ho5, hb5⟩
    obtain ⟨A5, c5, rfl, hc5⟩ := Go.Proofs.Ytegacgfhmigdjaa.own_slice ho5
    have HO5 := Lib.hid ho5
    have HC5 := Lib.hid hc5
    have HO45 := Lib.hid (own_below HO4.out hb5)
    obtain ⟨tv, hblk⟩ := HD4.out.blk
    have HBK := Lib.hid (hblk.below hb5)
    have HB5 := Lib.hid (below_next HB4.out hb5)
    clear ho5 hc5 hblk hb5
    go_wp2_with fail
    refine (same_c L (by have := HRES.out.len; have := HSZ.out; omega) A4 A5 c4 c5 _ (own_reads' HO45.out) (own_reads' HO5.out) HC4.out HC5.out).mono ?_
    rintro e w6 ⟨rfl, hb6⟩
    have HBK6 := Lib.hid (HBK.out.below hb6)
    have HB6 := Lib.hid (below_next HB5.out hb6)
    clear hb6
    go_wp2_with fail
    refine (fail_c HBK6.out rfl rfl).mono ?_
    rintro e w7 ⟨rfl, hb7⟩
    have HBK7 := Lib.hid (HBK6.out.below hb7)
    have HB7 := Lib.hid (below_next HB6.out hb7)
    clear hb7
    go_wp2_with fail
    refine (failed_c E (feedN s : Int) _).mono ?_
    rintro e w8 ⟨rfl, hb8⟩
    have HBK8 := Lib.hid (HBK7.out.below hb8)
    have HB8 := Lib.hid (below_next HB7.out hb8)
    clear hb8
    rw [HF.out]
    have hq := eql_fail E F
    go_wp2_with fail
    refine (at_c HBK8.out rfl).mono ?_
    rintro e w9 ⟨rfl, rfl⟩
    go_wp2_with fail
    go_ret
    exact ⟨rfl, below_next HB2.out HB8.out⟩
end Go.Proofs.Ytegacgfhmigdjaa
