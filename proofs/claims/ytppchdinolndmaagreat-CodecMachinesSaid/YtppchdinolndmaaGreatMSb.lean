/- Joined texts: Sb, En. -/
import Derived.Test.YtppchdinolndmaaGreatMUstp
import Derived.Shelf.Strings.Builder1
import Derived.Test.YtppchdinolndmaaGreatMShelf
namespace Go.Proofs.YtppchdinolndmaaGreat
open Go.RowKit Go.Proofs.YtppchdinolndmaaGreatW.PrintWords
set_option linter.unusedVariables false
set_option linter.unusedSimpArgs false
structure BX (w : World) (g B : Nat) (xs : List Int) (no : Bool) (lv : Value) : Prop where
 blk : Blk w g 82 #[.pointer (if no = true then none else some ⟨g, 0, none⟩), lv]
 row : w.ownsRow B 5 1 lv xs.length (nums .u8 xs)
theorem BX.new (w : World) (B : Nat) : BX (w.alloc (.cells #[.pointer none, .slice none 0 0] 82 (0, 0))) w.heap.size B [] true (.slice none 0 0) :=
 ⟨Blk.new w _ _, ⟨rfl, .inl ⟨rfl, rfl⟩⟩⟩
theorem BX.below {w w1 : World} {g B : Nat} {xs : List Int} {no : Bool} {lv : Value} (h : BX w g B xs no lv) (hb : Below w.heap.size w w1) : BX w1 g B xs no lv :=
 ⟨h.blk.below hb, own_below h.row hb⟩
set_option maxRecDepth 100000 in
set_option maxHeartbeats 1000000 in
theorem copyCheck_c (g B : Nat) (xs : List Int) (no : Bool) (lv : Value) (w : World) (hd : BX w g B xs no lv) :
  Calls Tryz.prog 41 #[.pointer (some ⟨g, 0, none⟩)] w fun e w' => e = .returned (.tuple #[]) ∧ BX w' g B xs false lv ∧ Eff w w' (fun k => k = g) := by
 have HD := Lib.hid hd
 cases no with
 | true =>
  have c0 : w.cell? ⟨g, 0, none⟩ = some (.pointer none) := hd.blk.cell rfl
  have f0 := hd.blk.frozen 0
  clear hd
  go_enter Tryz.func41, Tryz.ntmps41
  have hsh : w.shape? g = some (82, 2) := by
   have h' : w.heap[g]? = _ := HD.out.blk
   simp [World.shape?, h']
  obtain ⟨j, hj, hjs⟩ : ∃ j, Tryz.prog.info? 82 = some j ∧ j.size = 2 := by
   have h : (Tryz.prog.info? 82).map (·.size) = some 2 := by kernel_rfl
   exact Option.map_eq_some_iff.1 h
  go_wp2_with fail
  rw [Lib.run_to_unsafe w ⟨g, 0, none⟩ Tryz.underlying79 Tryz.underlying160 hj (by rw [hjs]; decide) hsh (Nat.zero_lt_succ 1)]
  simp only [Result.andThen]
  rw [Oper.upon_value]
  go_wp2_with fail
  rw [run_callFunc_extern Tryz.func54 (by kernel_rfl) (by kernel_rfl) (by kernel_rfl) (e := Extern.AbiNoEscape.same) (by kernel_rfl)]
  rw [Lib.run_noEscape]
  simp only [Result.andThen]
  rw [Oper.upon_value]
  go_wp2_with fail
  rw [Lib.run_from_unsafe w ⟨g, 0, none⟩ Tryz.underlying160 Tryz.underlying79 hj hsh (by kernel_rfl)]
  simp only [Result.andThen]
  rw [Oper.upon_value]
  go_wp2_with fail
  refine bodyPost_end (v := .tuple #[]) (by simp [results, Tryz.results41, go_sem]) rfl ⟨rfl, ?_, Eff.set w g 0 _⟩
  have hne := own_types (q_of_own HD.out.row) HD.out.blk (by decide)
  exact ⟨HD.out.blk.set 0 _, own_move HD.out.row fun k hk => Below.heap_setCell w _ _ k fun e => hne (by rw [hk, e])⟩
 | false =>
  have c0 : w.cell? ⟨g, 0, none⟩ = some (.pointer (some ⟨g, 0, none⟩)) := hd.blk.cell rfl
  obtain ⟨j, hj, hjs⟩ : ∃ j, Tryz.prog.info? 82 = some j ∧ j.size = 2 := by
   have h : (Tryz.prog.info? 82).map (·.size) = some 2 := by kernel_rfl
   exact Option.map_eq_some_iff.1 h
  clear hd
  go_enter Tryz.func41, Tryz.ntmps41
  go_wp2_with fail
  rw [Lib.run_neq_ptr_same w _ Tryz.underlying79 hj]
  go_wp2_with fail
  exact bodyPost_end (v := .tuple #[]) (by simp [results, Tryz.results41, go_sem]) rfl ⟨rfl, HD.out, Eff.refl _ _⟩
theorem BX.set {w w1 : World} {g B : Nat} {xs xs1 : List Int} {no : Bool} {lv lv1 : Value} (h : BX w g B xs no lv) (hg : w.grownBy w1 lv.ownBlock) (hq : w1.ownsRow B 5 1 lv1 xs1.length (nums .u8 xs1)) : BX (w1.setCell ⟨g, 1, none⟩ lv1) g B xs1 no lv1 := by
 have hne := own_types (q_of_own h.row) h.blk (by decide)
 have hb1 : Blk w1 g _ _ := (hg.block g h.blk.lt hne).trans h.blk
 have hne1 := own_types (q_of_own hq) hb1 (by decide)
 exact ⟨hb1.set 1 lv1, own_move hq fun k hk => Below.heap_setCell w1 _ _ k fun e => hne1 (by rw [hk, e])⟩
theorem BX.at1 {w w1 : World} {g B : Nat} {xs : List Int} {no : Bool} {lv : Value} (h : BX w g B xs no lv) (hg : w.grownBy w1 lv.ownBlock) : w1.cell? ⟨g, 1, none⟩ = some lv ∧ w1.frozen? ⟨g, 1, none⟩ = false := by
 have hb1 : Blk w1 g _ _ := (hg.block g h.blk.lt (own_types (q_of_own h.row) h.blk (by decide))).trans h.blk
 exact ⟨hb1.cell rfl, hb1.frozen 1⟩
set_option maxRecDepth 100000 in
set_option maxHeartbeats 1000000 in
theorem writeString_c (g B : Nat) (xs : List Int) (no : Bool) (lv : Value) (y : ByteArray) (w : World) (hd : BX w g B xs no lv) (hB : B ≤ w.heap.size) (hl : xs.length + y.size ≤ 1000000) :
  Calls Tryz.prog 29 #[.pointer (some ⟨g, 0, none⟩), .string y] w fun e w' => e = .returned (.tuple #[.int .i64 y.size, .nilIface]) ∧ ∃ lv', BX w' g B (xs ++ bytesOf y) false lv' ∧ Eff w w' (fun k => k = g ∨ some k = lv.ownBlock) := by
 have HD := Lib.hid hd
 have HBB := Lib.hid hB
 have HLL : Hid (xs.length + y.size ≤ 140737488355328) := Lib.hid (by omega)
 clear hd hB hl
 go_enter Tryz.func29, Tryz.ntmps29
 go_wp2_with fail
 refine (copyCheck_c g B xs no lv _ HD.out).mono ?_
 rintro e w1 ⟨rfl, hd1, he1⟩
 obtain ⟨A, c, rfl, hc⟩ := Go.Proofs.YtppchdinolndmaaGreat.own_slice hd1.row
 have c1 : w1.cell? ⟨g, 1, none⟩ = some (.slice A xs.length c) := hd1.blk.cell rfl
 have HD1 := Lib.hid hd1
 have HE1 := Lib.hid he1
 have HB1 : Hid (B ≤ w1.heap.size) := Lib.hid (Nat.le_trans HBB.out he1.size)
 clear hd1 he1
 go_wp2_with (at_builtin; refine print_append_str (w0 := w1) B rfl (.tmp 12) (.tmp 13) 80 9 5 rfl Tryz.underlying80 Tryz.underlying9 info_u8 (.slice A xs.length c) xs y rfl rfl HD1.out.row (Below.refl _ _) HB1.out HLL.out ?_; intro v2 w2 hq2 hb2 hg2; obtain ⟨A2, k2, rfl, hk2⟩ := Go.Proofs.YtppchdinolndmaaGreat.own_slice hq2; have HQ2 := Lib.hid hq2; have HG2 := Lib.hid hg2; obtain ⟨s1, s2⟩ := HD1.out.at1 hg2; clear hq2 hb2 hg2)
 refine bodyPost_ret (v := .tuple #[.int .i64 y.size, .nilIface]) (by simp [results, Tryz.results29, go_sem]) rfl ?_
 rw [show xs.length + (bytesOf y).length = (xs ++ bytesOf y).length by simp]
 exact ⟨rfl, _, HD1.out.set HG2.out HQ2.out, (((HE1.out.mono (fun _ _ h => .inl h)).trans (Eff.of_grown HG2.out) (fun k _ hk => .inr hk)).trans (Eff.set w2 g 1 _) (fun _ _ h => .inl h))⟩
theorem builderString_c (g B : Nat) (l : List UInt8) (no : Bool) (lv : Value) (w : World) (hd : BX w g B (l.map fun b => (b.toNat : Int)) no lv) (hg : B ≤ g) (hB : B ≤ w.heap.size) :
  Calls Tryz.prog 30 #[.pointer (some ⟨g, 0, none⟩)] w fun e w' => e = .returned (.string ⟨l.toArray⟩) ∧ Below B w w' := by
 have hn : nums .u8 (l.map fun b => (b.toNat : Int)) = Lib.byteCells l := by simp [nums, Lib.byteCells]
 have hr := hd.row
 rw [hn] at hr
 have hlen : (l.map fun b => (b.toNat : Int)).length = (Lib.byteCells l).length := by rw [Lib.byteCells_length, List.length_map]
 rw [hlen] at hr
 have hne : lv.ownBlock ≠ some g := fun e => own_types (q_of_own hd.row) hd.blk (by decide) e.symm
 refine Tryz.Builder_String_any B g l w ?_ hB
 cases no with
 | true => exact .inl ⟨hg, lv, hd.blk, hr, hne⟩
 | false => exact .inr ⟨hg, lv, hd.blk, hr, hne⟩
theorem bytesOf_append (a b : ByteArray) : bytesOf (a ++ b) = bytesOf a ++ bytesOf b := by
 simp [bytesOf]
theorem builder_str (g B : Nat) (s : ByteArray) (no : Bool) (lv : Value) (w : World) (hd : BX w g B (bytesOf s) no lv) (hg : B ≤ g) (hB : B ≤ w.heap.size) :
  Calls Tryz.prog 30 #[.pointer (some ⟨g, 0, none⟩)] w fun e w' => e = .returned (.string s) ∧ Below B w w' ∧ Lib.OthersKept 5 (some g) w w' := by
 have hn : nums .u8 (bytesOf s) = Lib.byteCells s.data.toList := by simp [nums, bytesOf, Lib.byteCells]
 have hr := hd.row
 rw [hn] at hr
 have hlen : (bytesOf s).length = (Lib.byteCells s.data.toList).length := by rw [Lib.byteCells_length, bytesOf, List.length_map]
 rw [hlen] at hr
 have hne : lv.ownBlock ≠ some g := fun e => own_types (q_of_own hd.row) hd.blk (by decide) e.symm
 have hk := Tryz.Builder_String_any_k B g s.data.toList w (Lib.IsBuilderF.of (by
  cases no with
  | true => exact .inl ⟨hg, lv, hd.blk, hr, hne⟩
  | false => exact .inr ⟨hg, lv, hd.blk, hr, hne⟩)) hB
 refine hk.mono ?_
 rintro e w1 ⟨rfl, _, h2, h3⟩
 exact ⟨by simp, h2, h3⟩
theorem BX.low {w : World} {g B B' : Nat} {xs : List Int} {no : Bool} {lv : Value} (h : BX w g B xs no lv) (hb : B' ≤ B) : BX w g B' xs no lv := by
 refine ⟨h.blk, h.row.1, ?_⟩
 rcases h.row.2 with h1 | ⟨g1, cap, cur, h2, h3, h4, h5⟩
 ·exact .inl h1
 ·exact .inr ⟨g1, cap, cur, h2, Nat.le_trans hb h3, h4, h5⟩
theorem BX.eff {w w1 : World} {g B : Nat} {xs : List Int} {no : Bool} {lv : Value} {S : Nat → Prop} (h : BX w g B xs no lv) (he : Eff w w1 S) (hg : ¬ S g) (hS : ∀ k, lv.ownBlock = some k → ¬ S k) : BX w1 g B xs no lv :=
 ⟨h.blk.eff he hg, own_move h.row fun k hk => he.block k (by obtain ⟨cells, hc⟩ := own_typed h.row k hk; exact (Array.getElem?_eq_some_iff.1 hc).1) (hS k hk)⟩
theorem BX.ge {w : World} {g B : Nat} {xs : List Int} {no : Bool} {lv : Value} (h : BX w g B xs no lv) (k : Nat) (hk : lv.ownBlock = some k) : B ≤ k := q_ge (q_of_own h.row) k hk
theorem BX.lt {w : World} {g B : Nat} {xs : List Int} {no : Bool} {lv : Value} (h : BX w g B xs no lv) (k : Nat) (hk : lv.ownBlock = some k) : k < w.heap.size := q_lt (q_of_own h.row) k hk
set_option maxRecDepth 100000 in
set_option maxHeartbeats 4000000 in
theorem encode_c {c : Int} {tg : TypeId} {fF fE : Nat} {M : EMach} {Rep : World → Nat → (Nat → Prop) → ESt M → Prop} (K : EncK tg fF fE M Rep) (HN : NewE c tg M Rep) (z : Nat) (h1 : ∀ st c, (M.put st c).2.length ≤ z) (h2 : ∀ st, (M.bad st).length ≤ z)
  (l : List Int) (hsc : ∀ x ∈ l, 0 ≤ x) (hz : z * (l.length + 1) ≤ 4096) (hl : l.length ≤ 4000) (hL : (runE M M.ini l 0 []).1.length ≤ 4096) (A : Option Addr) (cp : Nat) (hcp : l.length ≤ cp) (hA : A = none → cp = 0) (w : World) (hr : ReadsInt w .u32 A l.length l) :
  Calls Tryz.prog 8 #[.int .i64 c, .slice A l.length cp] w fun e w' => e = .returned (.tuple #[.string (strOf (runE M M.ini l 0 []).1), .agg #[.int .i64 (runE M M.ini l 0 []).2.1, .int .i64 (runE M M.ini l 0 []).2.2]]) ∧ Below w.heap.size w w' := by
 obtain ⟨p0, p2, p3, p4⟩ := encode_plain M z h1 h2 4096 l (by exact_mod_cast hz)
 have hle := feedE_le M 4096 l (ESt.new M) []
 have hpos := feedE_pos M 4096 l (ESt.new M) []
 have hfeed := fun (w : World) (g : Nat) (F : Nat → Prop) (h : Rep w g F (ESt.new M)) (hr : ReadsInt w .u32 A l.length l) (hs : l ≠ [] → ∀ ad, A = some ad → ¬ F ad.block) => K.feed A cp l 4096 h hr hs hsc (by show 0 + l.length ≤ 1000000; omega) (by show 0 ≤ 10000000; omega) (by decide)
 have hd0 : (ESt.new M).drop (giveZ 4096 (ESt.new M).kept.length) = ESt.new M := rfl
 have hd1 : (ESt.new M).kept.take (giveZ 4096 (ESt.new M).kept.length) = [] := rfl
 simp only [hd0, hd1] at hfeed
 rw [p4] at hL
 rw [p4]
 obtain ⟨n, hn⟩ : ∃ n, (feedE M 4096 l (ESt.new M) []).1 = n := ⟨_, rfl⟩
 obtain ⟨O1, hO1⟩ : ∃ O1, (feedE M 4096 l (ESt.new M) []).2.1 = O1 := ⟨_, rfl⟩
 obtain ⟨d, hd⟩ : ∃ d, (feedE M 4096 l (ESt.new M) []).2.2 = d := ⟨_, rfl⟩
 rw [hd] at p0 p2 p3 hL hpos ⊢
 rw [hO1] at hL ⊢
 rw [hn] at p2 hle hpos
 simp only [hn, hO1, hd] at hfeed
 have hpos1 : d.pos ≤ 10000 := by rw [hpos]; show 0 + n ≤ 10000; omega
 clear hn hO1 hd hpos hd0 hd1 p4
 have hl1 : O1.length ≤ 4096 ∧ (endE M d).kept.length ≤ 4096 := by
  rw [List.length_append] at hL; omega
 have HP3 := Lib.hid p3
 have HL := Lib.hid hl1
 have HK := Lib.hid p0
 have HF := Lib.hid hfeed
 obtain ⟨EE, hEE⟩ : ∃ EE, (endE M d).err = EE := ⟨_, rfl⟩
 obtain ⟨AA, hAA⟩ : ∃ AA, (endE M d).fat = AA := ⟨_, rfl⟩
 have HEQ : Hid ((endE M d).err = EE ∧ (endE M d).fat = AA) := Lib.hid ⟨hEE, hAA⟩
 rw [hEE, hAA]
 clear hEE hAA hl1 p0 p3 hL hfeed hz
 have hn0 : (0 : Int) ≤ (n : Int) := by omega
 have hn1 : (n : Int) ≤ (cp : Int) := by omega
 have hn2 : (n : Int) ≤ (l.length : Int) := by omega
 go_enter Tryz.func8, Tryz.ntmps8
 obtain ⟨W0, hW0⟩ : ∃ W0, w.alloc (.cells #[.int .i64 0, .int .i64 0] 34 (0, 0)) = W0 := ⟨_, rfl⟩
 have hz0 : W0.heap.size = w.heap.size + 1 := by rw [← hW0, World.size_alloc]
 have hblk : Blk W0 w.heap.size 34 #[.int .i64 0, .int .i64 0] := by rw [← hW0]; exact Blk.new w _ _
 have hbw : Below w.heap.size w W0 := by rw [← hW0]; exact below_new (Below.refl _ _) _
 have HBW := Lib.hid hbw
 have HBLK := Lib.hid hblk
 have HR0 : Hid (ReadsInt W0 .u32 A l.length l) := Lib.hid (hr.below hbw)
 go_upto_region 1 with fail
 clear hW0 hbw hblk hr
 go_upto_region 4 with (go_at_call 6; refine (HN _).mono ?_; rintro e w1 ⟨g, F, rfl, hb1, hr1, hF1⟩)
 obtain ⟨W1, hW1⟩ : ∃ W1, w1.alloc (.cells #[.pointer none, .slice none 0 0] 82 (0, 0)) = W1 := ⟨_, rfl⟩
 have hz1 : W1.heap.size = w1.heap.size + 1 := by rw [← hW1, World.size_alloc]
 have hea : Eff w1 W1 (fun _ => False) := by rw [← hW1]; exact Eff.alloc _ _ _
 have hbx : BX W1 w1.heap.size W1.heap.size [] true (.slice none 0 0) := by rw [← hW1]; exact BX.new w1 _
 have HBX := Lib.hid hbx
 have hrep1 := K.eff hr1 hea (fun _ _ h => h)
 have HR1 := Lib.hid hrep1
 have hb01 : Below W0.heap.size W0 W1 := Eff.under hb1 hea hb1.size (fun _ h => h.elim)
 have HB1 := Lib.hid hb01
 have HRD := Lib.hid (HR0.out.below hb01)
 have HF1 : Hid (∀ k, F k → W0.heap.size ≤ k ∧ k < w1.heap.size) := Lib.hid fun k hk => ⟨hF1 k hk, K.lt hr1 k hk⟩
 have HSF : Hid (l ≠ [] → ∀ ad, A = some ad → ¬ F ad.block) := Lib.hid fun hne ad had hF => by
  obtain ⟨ad', h', hc⟩ := ReadsInt.at_ HR0.out 0 (by omega) (by have := List.length_pos_iff.2 hne; omega)
  rw [had] at h'
  injection h' with h'
  subst h'
  have h1 := World.block_lt_of_cell? W0 _ hc
  have h2 := (HF1.out ad.block hF).1
  rw [add_block] at h1
  omega
 obtain ⟨gb, hgb⟩ : ∃ gb, w1.heap.size = gb := ⟨_, rfl⟩
 have HGB := Lib.hid hgb
 have HGB1 : Hid (W0.heap.size ≤ gb) := Lib.hid (by rw [← hgb]; exact hb1.size)
 rw [hgb] at HBX
 go_upto_block 0 with fail
 clear hgb hW1 hea hbx hrep1 hb01 hb1 hr1 hF1
 go_cut [] (fun wx => ∃ F' lv, Hid (Rep wx g F' d ∧ BX wx gb W0.heap.size (bytesOf (strOf O1)) false lv ∧ Below W0.heap.size W0 wx ∧ (∀ k, F' k → W0.heap.size ≤ k) ∧ ¬ F' gb ∧ (∀ k, lv.ownBlock = some k → ¬ F' k)))
 case first =>
  have hgbz : gb < W1.heap.size := by have := HGB.out; omega
  go_wp2_with fail
  refine wp_loop_rounds 1 ?_
  rw [rounds_succ]
  go_wp2_with fail
  rw [K.invF]
  refine Calls.mono (HF.out _ _ _ HR1.out HRD.out HSF.out) ?_
  rintro e w2 ⟨F2, rfl, hr2, he2, hF2⟩
  have hngb : ¬ F gb := fun h => by have := (HF1.out gb h).2; have := HGB.out; omega
  have hbx2 : BX w2 gb w2.heap.size [] true (.slice none 0 0) := ⟨(HBX.out.blk.eff he2 hngb), ⟨rfl, .inl ⟨rfl, rfl⟩⟩⟩
  have hb2 : Below W0.heap.size W0 w2 := Eff.under HB1.out he2 HB1.out.size (fun k hk => (HF1.out k hk).1)
  have hF2' : ∀ k, F2 k → W0.heap.size ≤ k ∧ k < w2.heap.size := fun k hk => ⟨(hF2 k hk).elim (fun h => (HF1.out k h).1) (fun h => Nat.le_trans HB1.out.size h), K.lt hr2 k hk⟩
  have hngb2 : ¬ F2 gb := fun h => by
   rcases hF2 gb h with h | h
   ·exact hngb h
   ·omega
  have HR2 := Lib.hid hr2
  have HB2 := Lib.hid hb2
  have HF2 := Lib.hid hF2'
  have HN2 := Lib.hid hngb2
  have HW := Lib.hid (writeString_c gb w2.heap.size [] true (.slice none 0 0) (strOf O1) w2 hbx2 (Nat.le_refl _) (by rw [strOf_size]; have := HL.out.1; simp only [List.length_nil]; omega))
  clear hr2 hb2 hF2 hF2' hngb hngb2 hbx2 he2 hgbz
  go_upto_region 7 with (go_at_call 29; refine HW.out.mono ?_; rintro e w3 ⟨rfl, lv3, hx3, he3⟩)
  rw [List.nil_append] at hx3
  have HREL : Hid (Rep w3 g F2 d ∧ BX w3 gb W0.heap.size (bytesOf (strOf O1)) false lv3 ∧ Below W0.heap.size W0 w3 ∧ (∀ k, F2 k → W0.heap.size ≤ k) ∧ ¬ F2 gb ∧ (∀ k, lv3.ownBlock = some k → ¬ F2 k)) := by
   refine Lib.hid ⟨K.eff HR2.out he3 (fun k hk h => ?_), hx3.low HB2.out.size, Eff.under HB2.out he3 HB2.out.size (fun k hk => ?_), fun k hk => (HF2.out k hk).1, HN2.out, fun k hk hF => ?_⟩
   ·rcases h with h | h
    ·rw [h] at hk; exact HN2.out hk
    ·cases h
   ·rcases hk with h | h
    ·rw [h]; exact HGB1.out
    ·cases h
   ·have := hx3.ge k hk
    have := (HF2.out k hF).2
    omega
  clear hx3 he3 HW HR2 HB2 HF2 HN2
  by_cases hc : n = l.length
  ·subst hc
   cases A with
   | none =>
    have hcp0 := hA rfl
    subst hcp0
    have hl0 : l = [] := List.eq_nil_of_length_eq_zero (by omega)
    subst hl0
    go_wp2_with fail
    all_goals go_meet
    all_goals exact ⟨F2, lv3, HREL⟩
   | some ad =>
    clear hA
    go_wp2_with fail
    all_goals go_meet
    all_goals exact ⟨F2, lv3, HREL⟩
  ·have hne : d.err ≠ 0 := fun h => hc (p2 h)
   have hne2 : (d.err != 0) = true := by simpa using hne
   have hm0 : ((l.length : Int) - (n : Int) == 0) = false := by simpa using (by omega : ¬ ((l.length : Int) - n = 0))
   have hm1 : (((l.length - n : Nat) : Int) == 0) = false := by simpa using (by omega : ¬ (((l.length - n : Nat) : Int) = 0))
   obtain ⟨ad, rfl⟩ : ∃ ad, A = some ad := by
    cases A with
    | none => have := hA rfl; omega
    | some ad => exact ⟨ad, rfl⟩
   have hfl := K.fail HREL.out.1
   have HFL := Lib.hid hfl
   have hfe := fun (a b : Value) (w : World) => field_agg0 a b w
   clear hfl hA
   go_wp2_with (rw [K.invW]; refine Calls.mono HFL.out ?_; rintro e w4 ⟨rfl, hb4⟩; have HB4 := Lib.hid hb4; clear hb4)
   all_goals go_meet
   all_goals
    refine ⟨F2, lv3, Lib.hid ?_⟩
    obtain ⟨r1, r2, r3, r4, r5, r6⟩ := HREL.out
    have he4 : Eff w3 w4 (fun _ => False) := Eff.of_below HB4.out _
    exact ⟨K.eff r1 he4 (fun _ _ h => h), r2.eff he4 (fun h => h) (fun _ _ h => h), Eff.under r3 he4 r3.size (fun _ h => h.elim), r4, r5, r6⟩
 case rest =>
  obtain ⟨F', lv, hrel⟩ := hcut
  have HREL := hrel
  have HFIN := Lib.hid (K.fin hrel.out.1 hpos1 (by rw [HK.out]; decide))
  clear hrel HF HR1 HB1 HF1 HRD HBX
  obtain ⟨D5, hD5⟩ : ∃ D5, endE M d = D5 := ⟨_, rfl⟩
  rw [hD5] at HFIN HEQ HP3 HL
  have HD5 := Lib.hid hD5
  have hp5 : D5.pos ≤ 10000 := by rw [← hD5, endE_pos]; exact hpos1
  clear hD5
  go_wp2_with fail
  rw [K.invE]
  refine Calls.mono HFIN.out ?_
  rintro e w5 ⟨F5, rfl, h5, he5, hF5⟩
  have HREL5 : Hid (Rep w5 g F5 D5 ∧ BX w5 gb W0.heap.size (bytesOf (strOf O1)) false lv ∧ Below W0.heap.size W0 w5 ∧ (∀ k, F5 k → W0.heap.size ≤ k) ∧ ¬ F5 gb ∧ (∀ k, lv.ownBlock = some k → ¬ F5 k)) := by
   obtain ⟨r1, r2, r3, r4, r5, r6⟩ := HREL.out
   refine Lib.hid ⟨h5, r2.eff he5 r5 r6, Eff.under r3 he5 r3.size (fun k hk => r4 k hk), fun k hk => (hF5 k hk).elim (r4 k) (fun h => Nat.le_trans r3.size h), fun h => ?_, fun k hk h => ?_⟩
   ·rcases hF5 gb h with h | h
    ·exact r5 h
    ·have := r2.blk.lt; omega
   ·rcases hF5 k h with h | h
    ·exact r6 k hk h
    ·have := r2.lt k hk; omega
  clear h5 he5 hF5 HREL HFIN
  go_upto_block 2 with fail
  go_cut [] (fun wx => ∃ F' lv, Hid (∃ D, Rep wx g F' D ∧ D.err = EE ∧ D.fat = AA ∧ BX wx gb W0.heap.size (bytesOf (strOf (O1 ++ D5.kept))) false lv ∧ Below W0.heap.size W0 wx))
  case first =>
   go_wp2_with fail
   have hdn := K.done HREL5.out.1
   rw [HP3.out] at hdn
   refine wp_loop_rounds 2 ?_
   rw [rounds_succ]
   obtain ⟨KK, hKK⟩ : ∃ KK, D5.kept = KK := ⟨_, rfl⟩
   have HKK := Lib.hid hKK
   rw [hKK] at hdn HL
   cases KK with
   | nil =>
    have HDN := Lib.hid hdn
    clear hdn hKK
    go_wp2_with (rw [K.invD]; refine Calls.mono HDN.out ?_; rintro e w6 ⟨rfl, rfl⟩)
    go_meet
    obtain ⟨r1, r2, r3, r4, r5, r6⟩ := HREL5.out
    obtain ⟨q1, q2⟩ := HEQ.out
    exact ⟨F5, lv, Lib.hid ⟨D5, r1, q1, q2, by rw [HKK.out, List.append_nil]; exact r2, r3⟩⟩
   | cons x0 xr =>
    have hfd := K.feed none 0 [] 4096 HREL5.out.1 ⟨rfl, by decide, fun h => absurd h (by decide)⟩ (fun h => absurd rfl h) (fun _ h => by cases h) (by show D5.pos + 0 ≤ 1000000; omega) (by rw [HKK.out]; have := HL.out.2; omega) (by decide)
    rw [HKK.out] at hfd
    have hg : giveZ 4096 (x0 :: xr).length = (x0 :: xr).length := giveZ_all (by have := HL.out.2; omega)
    rw [hg, List.take_length] at hfd
    obtain ⟨D6, hD6⟩ : ∃ D6, D5.drop (x0 :: xr).length = D6 := ⟨_, rfl⟩
    have h60 : D6.kept = [] ∧ D6.err = EE ∧ D6.fat = AA ∧ D6.going = false := by
     obtain ⟨q1, q2⟩ := HEQ.out
     rw [← hD6]
     refine ⟨by show D5.kept.drop _ = []; rw [HKK.out, List.drop_length], q1, q2, HP3.out⟩
    have hf6 : feedE M 4096 [] D6 (x0 :: xr) = (0, x0 :: xr, D6) := rfl
    rw [hD6, hf6] at hfd
    simp only [] at hfd
    obtain ⟨O2, hO2⟩ : ∃ O2, x0 :: xr = O2 := ⟨_, rfl⟩
    rw [hO2] at hfd HL HKK
    have HDN := Lib.hid hdn
    have HFD := Lib.hid hfd
    have H60 := Lib.hid h60
    clear hdn hfd hf6 hg hD6 hKK h60 hO2
    go_wp2_with (first
     | (rw [K.invD]; refine Calls.mono HDN.out ?_; rintro e w6 ⟨rfl, rfl⟩)
     | (rw [K.invF]; refine Calls.mono HFD.out ?_; rintro e w6 ⟨F6, rfl, h6, he6, hF6⟩))
    have HREL6 : Hid (Rep w6 g F6 D6 ∧ BX w6 gb W0.heap.size (bytesOf (strOf O1)) false lv ∧ Below W0.heap.size W0 w6 ∧ ¬ F6 gb ∧ (∀ k, lv.ownBlock = some k → ¬ F6 k)) := by
     obtain ⟨r1, r2, r3, r4, r5, r6⟩ := HREL5.out
     refine Lib.hid ⟨h6, r2.eff he6 r5 r6, Eff.under r3 he6 r3.size (fun k hk => r4 k hk), fun h => ?_, fun k hk h => ?_⟩
     ·rcases hF6 gb h with h | h
      ·exact r5 h
      ·have := r2.blk.lt; omega
     ·rcases hF6 k h with h | h
      ·exact r6 k hk h
      ·have := r2.lt k hk; omega
    clear h6 he6 hF6
    have HW := Lib.hid (writeString_c gb W0.heap.size _ false lv (strOf O2) w6 HREL6.out.2.1 HREL6.out.2.2.1.size (by rw [bytesOf_length, strOf_size, strOf_size]; have := HL.out; omega))
    refine HW.out.mono ?_
    rintro e w7 ⟨rfl, lv7, hx7, he7⟩
    rw [← bytesOf_append, ← strOf_append] at hx7
    have HR7 : Hid (Rep w7 g F6 D6 ∧ BX w7 gb W0.heap.size (bytesOf (strOf (O1 ++ O2))) false lv7 ∧ Below W0.heap.size W0 w7) := by
     obtain ⟨r1, r2, r3, r4, r5⟩ := HREL6.out
     refine Lib.hid ⟨K.eff r1 he7 (fun k hk h => ?_), hx7, Eff.under r3 he7 r3.size (fun k hk => ?_)⟩
     ·rcases h with h | h
      ·rw [h] at hk; exact r4 hk
      ·exact r5 k h.symm hk
     ·rcases hk with h | h
      ·rw [h]; exact HGB1.out
      ·exact r2.ge k h.symm
    clear hx7 he7 HW
    have hd7 := K.done HR7.out.1
    obtain ⟨q1, q2, q3, q4⟩ := H60.out
    rw [q1, q4] at hd7
    have HDN7 := Lib.hid hd7
    clear hd7 q1 q2 q3 q4
    go_wp2_with fail
    rw [rounds_succ]
    go_wp2_with (rw [K.invD]; refine Calls.mono HDN7.out ?_; rintro e w8 ⟨rfl, rfl⟩)
    go_meet
    obtain ⟨r1, r2, r3⟩ := HR7.out
    obtain ⟨q1, q2, q3, q4⟩ := H60.out
    exact ⟨F6, lv7, Lib.hid ⟨D6, r1, q2, q3, by rw [HKK.out]; exact r2, r3⟩⟩
  case rest =>
   obtain ⟨F', lv9, HH⟩ := hcut
   obtain ⟨D, r1, q1, q2, r2, r3⟩ := HH.out
   have hstr := builder_str gb W0.heap.size _ false lv9 _ r2 HGB1.out r3.size
   obtain ⟨T, cs, t1, t2, hT, e1, e2⟩ := K.blk r1
   rw [q1] at e1
   rw [q2] at e2
   have hgg : g ≠ gb := fun e => by
    have h1 : wc.heap[g]? = _ := hT
    have h2 : wc.heap[gb]? = _ := r2.blk
    rw [e, h2] at h1
    injection h1 with h1; injection h1 with _ h1 _
    exact t2 h1.symm
   have hk0 := HBLK.out.below r3
   have HST := Lib.hid hstr
   have HR3 := Lib.hid r3
   have HT := Lib.hid hT
   have HK0 := Lib.hid hk0
   have HE := Lib.hid (And.intro e1 e2)
   clear hstr r1 q1 q2 r2 r3 hT hk0 e1 e2
   go_wp2_with (go_at_call 30; refine HST.out.mono ?_; rintro e w8 ⟨rfl, hb8, hk8⟩)
   have hT8 : Blk w8 g T cs := hk8 _ _ HT.out (by simpa using hgg) (fun c fz h => t1 (by injection h with _ h _))
   have hk08 : Blk w8 w.heap.size 34 #[.int .i64 0, .int .i64 0] := hk8 _ _ HK0.out (by have := HGB1.out; simp; omega) (fun c fz h => by injection h with _ h _; exact absurd h (by decide))
   have HB8 := Lib.hid hb8
   have HK8 := Lib.hid hk08
   rw [K.invW]
   refine Calls.mono (fail_c hT8 HE.out.1 HE.out.2) ?_
   rintro e w9 ⟨rfl, hb9⟩
   have hk9 := HK8.out.below hb9
   have HB9 := Lib.hid hb9
   have HK9 := Lib.hid hk9
   have hc80 := hk9.cell (i := 0) rfl
   have hc81 := hk9.cell (i := 1) rfl
   have hf8 := hk9.frozen
   clear hk9 hb9 hk08 hT8 hb8 hk8
   go_wp2_with fail
   have hk10 : Blk ((w9.setCell ⟨w.heap.size, 0, none⟩ (.int .i64 EE)).setCell ⟨w.heap.size, 1, none⟩ (.int .i64 AA)) w.heap.size 34 #[.int .i64 EE, .int .i64 AA] := (HK9.out.set 0 (.int .i64 EE)).set 1 (.int .i64 AA)
   have he10 : Eff w9 ((w9.setCell ⟨w.heap.size, 0, none⟩ (.int .i64 EE)).setCell ⟨w.heap.size, 1, none⟩ (.int .i64 AA)) (fun k => k = w.heap.size) := (Eff.set _ _ _ _).trans (Eff.set _ _ _ _) (fun _ _ h => h)
   obtain ⟨w10, hw10⟩ : ∃ w10, (w9.setCell ⟨w.heap.size, 0, none⟩ (.int .i64 EE)).setCell ⟨w.heap.size, 1, none⟩ (.int .i64 AA) = w10 := ⟨_, rfl⟩
   rw [hw10] at hk10 he10 ⊢
   have c90 := hk10.cell (i := 0) rfl
   have c91 := hk10.cell (i := 1) rfl
   refine bodyPost_ret (v := .tuple #[.string (strOf (O1 ++ D5.kept)), .agg #[.int .i64 EE, .int .i64 AA]]) (by simp [results, Tryz.results8, go_sem, c90, c91]; try rfl) rfl ?_
   rw [HD5.out]
   refine ⟨rfl, ?_⟩
   exact Eff.under ((((HBW.out.trans (HR3.out.mono (by omega))).trans (HB8.out.mono (by omega)))).trans (HB9.out.mono (Nat.le_trans (Nat.le_trans (by omega) HR3.out.size) HB8.out.size))) he10 (Nat.le_trans (Nat.le_trans (Nat.le_trans (by omega) HR3.out.size) HB8.out.size) HB9.out.size) (fun k hk => Nat.le_of_eq hk.symm)
end Go.Proofs.YtppchdinolndmaaGreat
