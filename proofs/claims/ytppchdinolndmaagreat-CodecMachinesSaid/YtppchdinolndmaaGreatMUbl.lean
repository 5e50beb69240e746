/- Joined texts: Ubl, Uso, Utx, Uee. -/
import Derived.Test.YtppchdinolndmaaGreatMUins
import Derived.Test.YtppchdinolndmaaGreatMSb
namespace Go.Proofs.YtppchdinolndmaaGreat
open Go.RowKit Go.Proofs.YtppchdinolndmaaGreatW.PrintWords Go.Proofs.YtppchdinolndmaaGreatW.PrintLast Go.Proofs.YtppchdinolndmaaGreatW.PrintMore Go.Proofs.YtppchdinolndmaaGreat.PPu
set_option linter.unusedVariables false
set_option linter.unusedSimpArgs false
set_option maxRecDepth 100000 in
set_option maxHeartbeats 1000000 in
theorem writeByte_c (g B : Nat) (xs : List Int) (no : Bool) (lv : Value) (x : Int) (w : World) (hd : BX w g B xs no lv) (hB : B ≤ w.heap.size) (hl : xs.length + 1 ≤ 1000000) :
  Calls Tryz.prog 123 #[.pointer (some ⟨g, 0, none⟩), .int .u8 x] w fun e w' => e = .returned .nilIface ∧ ∃ lv', BX w' g B (xs ++ [x]) false lv' ∧ Eff w w' (fun k => k = g ∨ some k = lv.ownBlock) := by
 have HD := Lib.hid hd
 have HBB := Lib.hid hB
 have HLL : Hid ((xs.length + 1) * 1 ≤ 140737488355328) := Lib.hid (by omega)
 clear hd hB hl
 go_enter Tryz.func123, Tryz.ntmps123
 go_wp2_with fail
 refine (copyCheck_c g B xs no lv _ HD.out).mono ?_
 rintro e w1 ⟨rfl, hd1, he1⟩
 obtain ⟨A, c, rfl, hc⟩ := Go.Proofs.YtppchdinolndmaaGreat.own_slice hd1.row
 have c1 : w1.cell? ⟨g, 1, none⟩ = some (.slice A xs.length c) := hd1.blk.cell rfl
 have HD1 := Lib.hid hd1
 have HE1 := Lib.hid he1
 have HB1 : Hid (B ≤ w1.heap.size) := Lib.hid (Nat.le_trans HBB.out he1.size)
 clear hd1 he1
 go_wp2_with (at_builtin; refine print_append_row (w0 := w1) B rfl (.tmp 11) (.tmp 13) 80 5 .u8 1 rfl Tryz.underlying80 info_u8 (by decide) (.slice A xs.length c) xs [x] (some ⟨w1.heap.size, 0, none⟩) 1 1 rfl rfl (HD1.out.below (below_alloc (Below.refl _ _) _)).row (reads_u8 w1 x) ((Below.refl _ _).alloc HB1.out _) (Nat.le_trans HB1.out (by simp)) HLL.out ?_; intro v2 w2 hq2 hb2 hg2 hat2; obtain ⟨A2, k2, rfl, hk2⟩ := Go.Proofs.YtppchdinolndmaaGreat.own_slice hq2; have HQ2 := Lib.hid hq2; have HG2 := Lib.hid hg2; obtain ⟨s1, s2⟩ := (HD1.out.below (below_alloc (Below.refl _ _) _)).at1 hg2; clear hq2 hb2 hg2 hat2)
 go_ret
 rw [show xs.length + 1 = (xs ++ [x]).length by simp]
 exact ⟨rfl, _, (HD1.out.below (below_alloc (Below.refl _ _) _)).set HG2.out HQ2.out, ((((HE1.out.mono (fun _ _ h => .inl h)).trans (Eff.alloc w1 _ _) (fun _ _ h => h)).trans (Eff.of_grown HG2.out) (fun k _ hk => .inr hk)).trans (Eff.set w2 g 1 _) (fun _ _ h => .inl h))⟩
set_option maxRecDepth 100000 in
theorem builderLen_c (g B : Nat) (xs : List Int) (no : Bool) (lv : Value) (w : World) (hd : BX w g B xs no lv) :
  Calls Tryz.prog 124 #[.pointer (some ⟨g, 0, none⟩)] w fun e w' => e = .returned (.int .i64 xs.length) ∧ w = w' := by
 obtain ⟨A, c, rfl, hc⟩ := Go.Proofs.YtppchdinolndmaaGreat.own_slice hd.row
 have c1 : w.cell? ⟨g, 1, none⟩ = some (.slice A xs.length c) := hd.blk.cell rfl
 clear hd
 go_enter Tryz.func124, Tryz.ntmps124
 go_wp2_with fail
 go_ret
 exact ⟨rfl, rfl⟩
set_option maxRecDepth 100000 in
set_option maxHeartbeats 1000000 in
theorem insertionSort_one (A : Option Addr) (n c : Nat) (hn : n ≤ 1) (w : World) : Calls Tryz.prog 133 #[.slice A n c, .int .i64 0, .int .i64 n] w fun e w' => e = .returned (.tuple #[]) ∧ w = w' := by
 have h1 : decide ((1 : Int) < (n : Int)) = false := decide_eq_false (by omega)
 have h2 : ¬ (1 : Int) < (n : Int) := by omega
 go_enter Tryz.func133, Tryz.ntmps133
 go_wp2_with fail
 go_loopg [6] 0 (fun kq s6 wx => s6 = .int .i64 1 ∧ wx = w)
 case atStart => exact ⟨rfl, rfl⟩
 case round =>
  obtain ⟨rfl, rfl⟩ := hrel
  go_wp2_with fail
  exact bodyPost_end (v := .tuple #[]) (by simp [results, Tryz.results133, go_sem]) rfl ⟨rfl, rfl⟩
set_option maxRecDepth 100000 in
set_option maxHeartbeats 1000000 in
theorem pdqsort_one (A : Option Addr) (n c : Nat) (hn : n ≤ 1) (limit : Int) (w : World) : Calls Tryz.prog 129 #[.slice A n c, .int .i64 0, .int .i64 n, .int .i64 limit] w fun e w' => e = .returned (.tuple #[]) ∧ w = w' := by
 have h1 : decide ((n : Int) ≤ 12) = true := decide_eq_true (by omega)
 have h2 : (n : Int) ≤ 12 := by omega
 have h3 : n ≤ 12 := by omega
 go_enter Tryz.func129, Tryz.ntmps129
 go_upto_block 1 with fail
 go_loopg [1, 2] 0 (fun kq s1 s2 wx => s1 = .int .i64 0 ∧ s2 = .int .i64 n ∧ wx = w)
 case atStart => exact ⟨rfl, rfl, rfl⟩
 case round =>
  obtain ⟨rfl, rfl, rfl⟩ := hrel
  go_wp2_with (go_at_call 133; refine (insertionSort_one A n c hn _).mono ?_; rintro e w1 ⟨rfl, rfl⟩)
  exact bodyPost_ret (v := .tuple #[]) (by simp [results, Tryz.results129, go_sem]) rfl ⟨rfl, rfl⟩
set_option maxRecDepth 100000 in
theorem sort_one (A : Option Addr) (n c : Nat) (hn : n ≤ 1) (w : World) : Calls Tryz.prog 125 #[.slice A n c] w fun e w' => e = .returned (.tuple #[]) ∧ w = w' := by
 have hb := Tryz.bits_Len (n : Int) w (by omega) (by omega)
 have hw : IntKind.u64.wrap (n : Int) = n := Go.Proofs.YtppchdinolndmaaGreat.u64 (by omega) (by omega)
 go_enter Tryz.func125, Tryz.ntmps125
 go_wp2_with (first
  | (go_at_call 130; refine hb.mono ?_; rintro e w1 ⟨rfl, rfl⟩)
  | (go_at_call 129; refine (pdqsort_one A n c hn _ _).mono ?_; rintro e w1 ⟨rfl, rfl⟩))
 exact bodyPost_end (v := .tuple #[]) (by simp [results, Tryz.results125, go_sem]) rfl ⟨rfl, rfl⟩
set_option maxRecDepth 100000 in
theorem compact_one (A : Option Addr) (n c : Nat) (hn : n ≤ 1) (w : World) : Calls Tryz.prog 126 #[.slice A n c] w fun e w' => e = .returned (.slice A n c) ∧ w = w' := by
 have h1 : decide ((n : Int) < 2) = true := decide_eq_true (by omega)
 have h2 : (n : Int) < 2 := by omega
 have h3 : n < 2 := by omega
 go_enter Tryz.func126, Tryz.ntmps126
 go_wp2_with fail
 go_ret
 exact ⟨rfl, rfl⟩
def lowL (ys : List Int) : List Int := ys.filter fun y => decide (y < 128)
def highL (ys : List Int) : List Int := ys.filter fun y => !decide (y < 128)
theorem low_snoc (ys : List Int) (i : Nat) (h : i < ys.length) : lowL (ys.take (i + 1)) = if ys.getD i 0 < 128 then lowL (ys.take i) ++ [ys.getD i 0] else lowL (ys.take i) := by
 rw [take_succ_getD ys i h]
 unfold lowL
 rw [List.filter_append]
 generalize ys.getD i 0 = y
 by_cases c : y < 128
 ·rw [if_pos c]; simp [c]
 ·rw [if_neg c]; simp [c]
theorem high_snoc (ys : List Int) (i : Nat) (h : i < ys.length) : highL (ys.take (i + 1)) = if ys.getD i 0 < 128 then highL (ys.take i) else highL (ys.take i) ++ [ys.getD i 0] := by
 rw [take_succ_getD ys i h]
 unfold highL
 rw [List.filter_append]
 generalize ys.getD i 0 = y
 by_cases c : y < 128
 ·rw [if_pos c]; simp [c]
 ·rw [if_neg c]; simp [c]
theorem low_len (ys : List Int) (i : Nat) : (lowL (ys.take i)).length ≤ i := Nat.le_trans (List.length_filter_le _ _) (by rw [List.length_take]; omega)
theorem high_len (ys : List Int) (i : Nat) : (highL (ys.take i)).length ≤ i := Nat.le_trans (List.length_filter_le _ _) (by rw [List.length_take]; omega)
theorem below_bx {w w1 w2 : World} {g B : Nat} {xs : List Int} {no : Bool} {lv : Value} (h : Below B w w1) (hb : BX w1 g B xs no lv) (he : Eff w1 w2 (fun k => k = g ∨ some k = lv.ownBlock)) (hB : B ≤ w1.heap.size) (hg : B ≤ g) : Below B w w2 :=
 Eff.under h he hB fun k hk => by
  rcases hk with e | e
  ·rw [e]; exact hg
  ·exact q_own_ge (q_of_own hb.row) k e.symm
theorem BX.alloc {w : World} {g B : Nat} {xs : List Int} {no : Bool} {lv : Value} (h : BX w g B xs no lv) (o : Obj) : BX (w.alloc o) g B xs no lv := h.below (below_alloc (Below.refl _ _) o)
theorem u32_keep {w w1 : World} {g B b2 : Nat} {xs ys : List Int} {no : Bool} {lv v : Value} (h : w.ownsRow b2 47 1 v ys.length (nums .u32 ys)) (hb : BX w g B xs no lv) (he : Eff w w1 (fun k => k = g ∨ some k = lv.ownBlock)) : w1.ownsRow b2 47 1 v ys.length (nums .u32 ys) :=
 own_move h fun k hk => by
  obtain ⟨cells, hc⟩ := own_typed h k hk
  refine he.block k (Array.getElem?_eq_some_iff.1 hc).1 fun e => ?_
  rcases e with e | e
  ·subst e
   have h2 : w.heap[k]? = _ := hb.blk
   rw [hc] at h2
   injection h2 with h2
   injection h2 with _ h2
   exact absurd h2 (by decide)
  ·obtain ⟨cells2, hc2⟩ := own_typed hb.row k e.symm
   rw [hc] at hc2
   injection hc2 with h2
   injection h2 with _ h2
   exact absurd h2 (by decide)
theorem bx_keep {w w1 : World} {g B b2 : Nat} {xs ys : List Int} {no : Bool} {lv v : Value} (h : w.ownsRow b2 47 1 v ys.length (nums .u32 ys)) (hb : BX w g B xs no lv) (hg : w.grownBy w1 v.ownBlock) : BX w1 g B xs no lv := by
 refine ⟨(hg.block g hb.blk.lt (own_types (q_of_own h) hb.blk (by decide))).trans hb.blk, own_move hb.row fun k hk => ?_⟩
 obtain ⟨cells2, hc2⟩ := own_typed hb.row k hk
 refine hg.block k (Array.getElem?_eq_some_iff.1 hc2).1 fun e => ?_
 obtain ⟨cells, hc⟩ := own_typed h k e.symm
 rw [hc] at hc2
 injection hc2 with h2
 injection h2 with _ h2
 exact absurd h2 (by decide)
theorem below_join {B : Nat} {w0 w w1 : World} (h : Below B w0 w) (k : Below B w w1) : Below B w0 w1 := ⟨k.os.trans h.os, k.tape.trans h.tape, k.output.trans h.output, Nat.le_trans h.size k.size, fun i hi => (k.block i hi).trans (h.block i hi)⟩
structure SrcT (w : World) (pb po : Nat) (ys : List Int) : Prop where
 lt : ys.length ≠ 0 → pb < w.heap.size
 cells : ∀ j, j < ys.length → w.cell? ⟨pb, po + j, none⟩ = some (.int .u32 (ys.getD j 0))
theorem SrcT.at_ {w w1 : World} {pb po : Nat} {ys : List Int} (h : SrcT w pb po ys) (hb : Below w.heap.size w w1) (j : Nat) (hj : j < ys.length) : w1.cell? ⟨pb, po + j, none⟩ = some (.int .u32 (ys.getD j 0)) :=
 (hb.cell (p := ⟨pb, po + j, none⟩) (h.lt (by omega))).trans (h.cells j hj)
theorem EPX.fin {w : World} {g B : Nat} {n : Int} {xs : List Int} {p : ByteArray} {lv : Value} (h : EPX w g B 0 0 false n xs p lv) : EPX (w.setCell ⟨g, 3, none⟩ (.bool true)) g B 0 0 true n xs p lv := by
 have hne := own_types h.list h.blk (by decide)
 exact ⟨h.blk.set 3 _, q_move h.list fun k hk => Below.heap_setCell w _ _ k fun e => hne (by rw [hk, e])⟩
theorem empty_app (t : ByteArray) : (⟨#[]⟩ : ByteArray) ++ t = t := by apply ByteArray.ext; simp
theorem empty_sz (t : ByteArray) (h : t.size ≤ 1000000) : (⟨#[]⟩ : ByteArray).size + t.size ≤ 140737488351232 := by
 have h0 : (⟨#[]⟩ : ByteArray).size = 0 := rfl
 omega
theorem encEnd_c (g B : Nat) (n : Int) (xs : List Int) (lv : Value) (t : ByteArray) (w : World) (hd : EPX w g B 0 0 false n xs ⟨#[]⟩ lv) (hsz : t.size ≤ 1000000)
  (ht : ∀ W, Below w.heap.size w W → Calls Tryz.prog 122 #[lv] W fun e w' => e = .returned (.string t) ∧ Below W.heap.size W w') :
  Calls Tryz.prog 120 #[.pointer (some ⟨g, 0, none⟩)] w fun e w' => e = .returned (.tuple #[]) ∧ ∃ w2, Hid (Below w.heap.size w w2) ∧ w' = (w2.setCell ⟨g, 4, none⟩ (.string t)).setCell ⟨g, 3, none⟩ (.bool true) := by
 have HD := Lib.hid hd
 have HS := Lib.hid hsz
 have HT := Lib.hid ht
 clear hd hsz ht
 obtain ⟨c5, f5⟩ := HD.out.at5 (Below.refl _ _)
 go_enter Tryz.func120, Tryz.ntmps120
 go_upto_region 1 with (go_at_call 103; refine (going_yes HD.out.blk rfl rfl).mono ?_; rintro e w1 ⟨rfl, rfl⟩)
 go_cut [] (fun wx => ∃ w2, Hid (Below w.heap.size w w2) ∧ wx = w2.setCell ⟨g, 4, none⟩ (.string t))
 case first =>
  go_region_with (first
   | (go_at_call 122; refine (HT.out _ (by first | exact Below.refl _ _ | exact below_drew1 (Below.refl _ _))).mono ?_; rintro e w1 ⟨rfl, hb1⟩; have HB1 : Hid (Below w.heap.size w w1) := Lib.hid (by first | exact below_next (Below.refl _ _) hb1 | exact below_next (below_drew1 (Below.refl _ _)) hb1); clear hb1)
   | (go_at_call 107; refine (keep_c (o := 4) (s := ⟨#[]⟩) (HD.out.blk.below HB1.out) rfl (empty_sz t HS.out)).mono ?_; rw [empty_app]; rintro e w2 ⟨rfl, rfl⟩))
  all_goals (go_wp2_with fail; go_meet)
  all_goals exact ⟨w1, HB1, rfl⟩
 case rest =>
  obtain ⟨w2, HB2, rfl⟩ := hcut
  have HE2 := Lib.hid ((HD.out.below HB2.out).pend t)
  go_wp2_with (go_at_call 99; refine (end_c HE2.out.blk rfl rfl).mono ?_; rintro e w3 ⟨rfl, rfl⟩)
  refine bodyPost_end (v := .tuple #[]) (by simp [results, Tryz.results120, go_sem]) rfl ⟨rfl, w2, HB2, rfl⟩
end Go.Proofs.YtppchdinolndmaaGreat
