/- Joined texts: Ye, Yg, Yh, Yi. -/
import Derived.Test.YtppchdinolndmaaGreatDoorMYd
import Derived.Test.YtppchdinolndmaaGreatDoorMCo
import Derived.Test.YtppchdinolndmaaGreatDoorMSb
import Derived.Test.YtppchdinolndmaaGreatDoorMShelf
namespace Go.Proofs.YtppchdinolndmaaGreatDoor
open Go.RowKit Go.Proofs.YtppchdinolndmaaGreatDoorW.PrintWords Go.Proofs.YtppchdinolndmaaGreatDoorW.PrintLast Go.Proofs.YtppchdinolndmaaGreatDoorW.PrintMore
set_option linter.unusedVariables false
set_option linter.unusedSimpArgs false
theorem enc1 {x : Int} (hs : isScal x = true) : encR 1 [x] = (bytes8 x, 0, 0) := by
 have e : encR 1 [x] = runE E8 E8.ini [x] 0 [] := by unfold encR; rw [if_pos (by decide)]; rfl
 rw [e, runE, if_pos hs, runE]
 show ([] ++ bytes8 x ++ [], (0 : Int), (0 : Int)) = _
 rw [List.append_nil, List.nil_append]
theorem encode1_c {x : Int} (h0 : 0 ≤ x) (hs : isScal x = true) (w : World) : Calls Tryz.prog 18 #[.int .i64 1, .slice (some ⟨w.heap.size, 0, none⟩) 1 1] (w.alloc (.cells #[.int .u32 x] 24 (0, 0)))
  fun e w' => e = .returned (.tuple #[.string (strOf (bytes8 x)), .agg #[.int .i64 0, .int .i64 0]]) ∧ Below w.heap.size w w' := by
 have h := enc_all 1 [x] (fun y hy => by rw [List.mem_singleton] at hy; rw [hy]; exact h0) (by show 1 ≤ 400; omega) (some ⟨w.heap.size, 0, none⟩) 1 (by show 1 ≤ 1; omega) (fun h => by cases h) _ (yreads_u32 w x)
 rw [enc1 hs] at h
 refine h.mono ?_
 rintro e w' ⟨rfl, hb⟩
 exact ⟨rfl, below_then (below_new (Below.refl _ _) _) hb (by simp)⟩
theorem enc1_all : Enc1 := fun x w h0 hs => encode1_c h0 hs w
theorem of_c (A : Option Addr) (cp : Nat) (l : List Int) (hl : l.length ≤ 1000) (h0 : ∀ y ∈ l, 0 ≤ y ∧ y ≤ 4294967295) (hcp : l.length ≤ cp) (w : World) (hr : ReadsInt w .u32 A l.length l) :
  Calls Tryz.prog 9 #[.slice A l.length cp] w fun e w' => e = .returned (.agg (cellsT (ofT l))) ∧ Below w.heap.size w w' := of_gen enc1_all A cp l hl h0 hcp w hr
def Tab (w : World) : Prop := Lib.TabIs Tryz.prog w "internal/strconv.uint64pow10" .u64 Lib.pow10Tab ∧ 0 < w.heap.size
theorem gTab : Tryz.prog.globalNamed "internal/strconv.uint64pow10" = some 0 := by kernel_rfl
theorem Tab.below {w w1 : World} (h : Tab w) (hb : Below w.heap.size w w1) : Tab w1 := ⟨var?_below hb gTab h.2 h.1, Nat.lt_of_lt_of_le h.2 hb.size⟩
theorem below_grow (w : World) (os : Array Obj) : Below w.heap.size w (Sort.grow w os) :=
 ⟨rfl, rfl, rfl, by simp [Sort.grow], fun k hk => by simp only [Sort.grow]; rw [Array.getElem?_append_left hk]⟩
theorem itoa_c (n : Int) (h0 : -9223372036854775808 ≤ n) (h1 : n ≤ 9223372036854775807) (w : World) (ht : Tab w) : Calls Tryz.prog 25 #[.int .i64 n] w fun e w' => e = .returned (.string (itoaF n)) ∧ Below w.heap.size w w' :=
 (Tryz.strconv_Itoa n h0 h1 w ht.1).mono fun e w' ⟨he, k, os, hw⟩ => ⟨he, by rw [hw]; exact below_next (below_drewN' (Below.refl _ _) k) (below_grow (w.drewN k) os)⟩
set_option maxRecDepth 100000 in
set_option maxHeartbeats 1000000 in
theorem line_c (word : ByteArray) (n : Int) (hw : word.size ≤ 8) (h0 : -9223372036854775808 ≤ n) (h1 : n ≤ 9223372036854775807) (g B : Nat) (xs : List Int) (no : Bool) (lv : Value) (w : World) (ht : Tab w) (hd : BX w g B xs no lv) (hg : B ≤ g) (hB : B ≤ w.heap.size) (hl : xs.length ≤ 10000) :
  Calls Tryz.prog 23 #[.string word, .int .i64 n, .pointer (some ⟨g, 0, none⟩)] w fun e w' => e = .returned (.tuple #[]) ∧ ∃ lv', BX w' g B (xs ++ bytesOf (lineF word n)) false lv' ∧ Below B w w' := by
 have hn := itoaF_size n h0 h1
 have hl1 := line_size word n
 have HL := Lib.hid (show xs.length + (lineF word n).size ≤ 1000000 by omega)
 have HLF : Hid (((word ++ ⟨#[32]⟩) ++ itoaF n) ++ ⟨#[10]⟩ = lineF word n) := Lib.hid rfl
 have HT := Lib.hid ht
 have HD := Lib.hid hd
 have HB := Lib.hid hB
 have HG := Lib.hid hg
 have HI := Lib.hid (itoa_c n h0 h1 w ht)
 have hs32 : (⟨#[32]⟩ : ByteArray).size = 1 := rfl
 have hs10 : (⟨#[10]⟩ : ByteArray).size = 1 := rfl
 have hsa : (word ++ ⟨#[32]⟩ : ByteArray).size ≤ 9 := by rw [ByteArray.size_append]; omega
 have hsb : (word ++ ⟨#[32]⟩ ++ itoaF n : ByteArray).size ≤ 30 := by rw [ByteArray.size_append, ByteArray.size_append]; omega
 have e1 : ∀ W, (Op.stringOp .add word ⟨#[32]⟩).run Tryz.prog W = .ok (.string (word ++ ⟨#[32]⟩)) W := fun W => run_string_add_sum W word ⟨#[32]⟩ (by omega)
 have e2 : ∀ W, (Op.stringOp .add (word ++ ⟨#[32]⟩) (itoaF n)).run Tryz.prog W = .ok (.string (word ++ ⟨#[32]⟩ ++ itoaF n)) W := fun W => run_string_add_sum W _ _ (by omega)
 have e3 : ∀ W, (Op.stringOp .add (word ++ ⟨#[32]⟩ ++ itoaF n) ⟨#[10]⟩).run Tryz.prog W = .ok (.string (word ++ ⟨#[32]⟩ ++ itoaF n ++ ⟨#[10]⟩)) W := fun W => run_string_add_sum W _ _ (by omega)
 clear hn hl1 ht hd hB hg
 go_enter Tryz.func23, Tryz.ntmps23
 obtain ⟨I, hI⟩ : ∃ I, itoaF n = I := ⟨_, rfl⟩
 rw [hI] at HI HLF e2 e3 hsb
 clear hI
 go_wp2_with (first
  | (go_at_call 25; refine HI.out.mono ?_; rintro e w1 ⟨rfl, hb1⟩; have HB1 := Lib.hid hb1; clear hb1)
  | (go_at_call 24; refine (writeString_c g B xs no lv _ _ (HD.out.below HB1.out) (Nat.le_trans HB.out HB1.out.size) (by rw [HLF.out]; exact HL.out)).mono ?_; rintro e w2 ⟨rfl, lv2, hx2, he2⟩; have HX2 := Lib.hid hx2; have HE2 := Lib.hid he2; clear hx2 he2))
 refine bodyPost_end (v := .tuple #[]) (by simp [results, Tryz.results23, go_sem]) rfl ?_
 rw [HLF.out] at HX2
 refine ⟨rfl, lv2, HX2.out, ?_⟩
 refine Eff.under (HB1.out.mono HB.out) HE2.out (Nat.le_trans HB.out HB1.out.size) ?_
 rintro k (rfl | hk)
 ·exact HG.out
 ·exact (HD.out.below HB1.out).ge k hk.symm
theorem text_line (ns : List Int) (k : Nat) (word : ByteArray) (n : Int) (hw : wordsT.getD k ByteArray.empty = word) (hn : ns.getD k 0 = n) : bytesOf (textN ns k) ++ bytesOf (lineF word n) = bytesOf (textN ns (k + 1)) := by
 rw [← bytesOf_append, textN, hw, hn]
theorem textN_len {t : Tl} (h : FitT t) (k : Nat) (hk : k ≤ 11) : (bytesOf (textN (numsT t) k)).length ≤ 10000 := by
 have := textN_size h.all k
 rw [bytesOf_length]
 omega
theorem line_k {t : Tl} (h : FitT t) (k : Nat) (hk : k < 11) (word : ByteArray) (n : Int) (hw : wordsT.getD k ByteArray.empty = word) (hn : (numsT t).getD k 0 = n) (g : Nat) (no : Bool) (lv : Value) (w : World) (ht : Tab w) (hd : BX w g g (bytesOf (textN (numsT t) k)) no lv) :
  Calls Tryz.prog 23 #[.string word, .int .i64 n, .pointer (some ⟨g, 0, none⟩)] w fun e w' => e = .returned (.tuple #[]) ∧ ∃ lv', BX w' g g (bytesOf (textN (numsT t) (k + 1))) false lv' ∧ Below g w w' := by
 have h1 := h.all k
 rw [hn] at h1
 have h2 := word_size k
 rw [hw] at h2
 have := line_c word n h2 h1.1 h1.2 g g _ no lv w ht hd (Nat.le_refl _) (Nat.le_of_lt hd.blk.lt) (textN_len h k (by omega))
 rw [text_line (numsT t) k word n hw hn] at this
 exact this
set_option maxRecDepth 100000 in
set_option maxHeartbeats 4000000 in
theorem ttext_c {t : Tl} (h : FitT t) (w : World) (ht : Tab w) : Calls Tryz.prog 12 #[.agg (cellsT t)] w fun e w' => e = .returned (.string (textT t)) ∧ Below w.heap.size w w' := by
 have HF := Lib.hid h
 have hle := h.le
 have hmo := h.mo
 have ebl : (w.alloc (.cells (cellsT t) TTY (0, 0))).heap.size = w.heap.size + 1 := World.size_alloc _ _
 have hk0 : Blk ((w.alloc (.cells (cellsT t) TTY (0, 0))).alloc (.cells #[.pointer none, .slice none 0 0] 51 (0, 0))) w.heap.size TTY (cellsT t) := (Blk.new w _ _).alloc _
 have hx0 : BX ((w.alloc (.cells (cellsT t) TTY (0, 0))).alloc (.cells #[.pointer none, .slice none 0 0] 51 (0, 0))) (w.heap.size + 1) (w.heap.size + 1) (bytesOf (textN (numsT t) 0)) true (.slice none 0 0) := by
  have := BX.new (w.alloc (.cells (cellsT t) TTY (0, 0))) (w.heap.size + 1)
  rw [ebl] at this
  exact this
 have hb0 : Below w.heap.size w ((w.alloc (.cells (cellsT t) TTY (0, 0))).alloc (.cells #[.pointer none, .slice none 0 0] 51 (0, 0))) := below_then (below_new (Below.refl _ _) _) (below_new (Below.refl _ _) _) (by rw [ebl]; omega)
 go_enter Tryz.func12, Tryz.ntmps12
 go_upto_region 3 with fail
 obtain ⟨W0, hW0⟩ : ∃ W, (w.alloc (.cells (cellsT t) TTY (0, 0))).alloc (.cells #[.pointer none, .slice none 0 0] 51 (0, 0)) = W := ⟨_, rfl⟩
 rw [hW0] at hk0 hx0 hb0
 have hW0' : (w.alloc (.cells #[.int .i64 t.sc, .int .i64 t.un, .int .i64 t.by8, .int .i64 t.ct, .int .i64 t.ai, .int .i64 t.la, .int .i64 t.pl, .int .i64 t.pr, .int .i64 t.be, .int .u32 t.le, .int .u32 t.mo] TTY (0, 0))).alloc (.cells #[.pointer none, .slice none 0 0] 51 (0, 0)) = W0 := hW0
 first | rw [hW0] | rw [hW0']
 clear hW0 hW0' ebl
 have HC : Hid (∀ W, Below (w.heap.size + 1) W0 W → Blk W w.heap.size TTY (cellsT t)) := Lib.hid fun W hW => (hW.block w.heap.size (Nat.lt_succ_self _)).trans hk0
 have HTB : Hid (∀ W, Below (w.heap.size + 1) W0 W → Below w.heap.size w W) := Lib.hid fun W hW => hb0.trans (hW.mono (Nat.le_succ _))
 have HT : Hid (∀ W, Below (w.heap.size + 1) W0 W → Tab W) := Lib.hid fun W hW => ht.below (HTB.out W hW)
 have HX0 := Lib.hid hx0
 have HB0 := Lib.hid (Below.refl (w.heap.size + 1) W0)
 clear hk0 hx0 hb0 ht h
 have c0 : W0.cell? ⟨w.heap.size, 0, none⟩ = some (.int .i64 t.sc) := (HC.out W0 HB0.out).cell rfl
 have HL0 := Lib.hid (line_k HF.out 0 (by decide) ⟨#[115, 99, 97, 108, 97, 114, 115]⟩ t.sc rfl rfl (w.heap.size + 1) true (.slice none 0 0) W0 (HT.out _ HB0.out) HX0.out)
 go_upto_region 4 with (go_at_call 23; refine HL0.out.mono ?_; rintro e W1 ⟨rfl, lv1, hx, hb⟩)
 have HX1 := Lib.hid hx
 have HB1 := Lib.hid (HB0.out.trans hb)
 clear hx hb c0 HL0 HX0 HB0
 have c1 : W1.cell? ⟨w.heap.size, 1, none⟩ = some (.int .i64 t.un) := (HC.out W1 HB1.out).cell rfl
 have HL1 := Lib.hid (line_k HF.out 1 (by decide) ⟨#[117, 110, 105, 116, 115]⟩ t.un rfl rfl (w.heap.size + 1) false lv1 W1 (HT.out _ HB1.out) HX1.out)
 go_upto_region 5 with (go_at_call 23; refine HL1.out.mono ?_; rintro e W2 ⟨rfl, lv2, hx, hb⟩)
 have HX2 := Lib.hid hx
 have HB2 := Lib.hid (HB1.out.trans hb)
 clear hx hb c1 HL1 HX1 HB1
 have c2 : W2.cell? ⟨w.heap.size, 2, none⟩ = some (.int .i64 t.by8) := (HC.out W2 HB2.out).cell rfl
 have HL2 := Lib.hid (line_k HF.out 2 (by decide) ⟨#[98, 121, 116, 101, 115]⟩ t.by8 rfl rfl (w.heap.size + 1) false lv2 W2 (HT.out _ HB2.out) HX2.out)
 go_upto_region 6 with (go_at_call 23; refine HL2.out.mono ?_; rintro e W3 ⟨rfl, lv3, hx, hb⟩)
 have HX3 := Lib.hid hx
 have HB3 := Lib.hid (HB2.out.trans hb)
 clear hx hb c2 HL2 HX2 HB2
 have c3 : W3.cell? ⟨w.heap.size, 3, none⟩ = some (.int .i64 t.ct) := (HC.out W3 HB3.out).cell rfl
 have HL3 := Lib.hid (line_k HF.out 3 (by decide) ⟨#[99, 111, 110, 116, 114, 111, 108, 115]⟩ t.ct rfl rfl (w.heap.size + 1) false lv3 W3 (HT.out _ HB3.out) HX3.out)
 go_upto_region 7 with (go_at_call 23; refine HL3.out.mono ?_; rintro e W4 ⟨rfl, lv4, hx, hb⟩)
 have HX4 := Lib.hid hx
 have HB4 := Lib.hid (HB3.out.trans hb)
 clear hx hb c3 HL3 HX3 HB3
 have c4 : W4.cell? ⟨w.heap.size, 4, none⟩ = some (.int .i64 t.ai) := (HC.out W4 HB4.out).cell rfl
 have HL4 := Lib.hid (line_k HF.out 4 (by decide) ⟨#[97, 115, 99, 105, 105]⟩ t.ai rfl rfl (w.heap.size + 1) false lv4 W4 (HT.out _ HB4.out) HX4.out)
 go_upto_region 8 with (go_at_call 23; refine HL4.out.mono ?_; rintro e W5 ⟨rfl, lv5, hx, hb⟩)
 have HX5 := Lib.hid hx
 have HB5 := Lib.hid (HB4.out.trans hb)
 clear hx hb c4 HL4 HX4 HB4
 have c5 : W5.cell? ⟨w.heap.size, 5, none⟩ = some (.int .i64 t.la) := (HC.out W5 HB5.out).cell rfl
 have HL5 := Lib.hid (line_k HF.out 5 (by decide) ⟨#[108, 97, 116, 105, 110]⟩ t.la rfl rfl (w.heap.size + 1) false lv5 W5 (HT.out _ HB5.out) HX5.out)
 go_upto_region 9 with (go_at_call 23; refine HL5.out.mono ?_; rintro e W6 ⟨rfl, lv6, hx, hb⟩)
 have HX6 := Lib.hid hx
 have HB6 := Lib.hid (HB5.out.trans hb)
 clear hx hb c5 HL5 HX5 HB5
 have c6 : W6.cell? ⟨w.heap.size, 6, none⟩ = some (.int .i64 t.pl) := (HC.out W6 HB6.out).cell rfl
 have HL6 := Lib.hid (line_k HF.out 6 (by decide) ⟨#[112, 108, 97, 110, 101]⟩ t.pl rfl rfl (w.heap.size + 1) false lv6 W6 (HT.out _ HB6.out) HX6.out)
 go_upto_region 10 with (go_at_call 23; refine HL6.out.mono ?_; rintro e W7 ⟨rfl, lv7, hx, hb⟩)
 have HX7 := Lib.hid hx
 have HB7 := Lib.hid (HB6.out.trans hb)
 clear hx hb c6 HL6 HX6 HB6
 have c7 : W7.cell? ⟨w.heap.size, 7, none⟩ = some (.int .i64 t.pr) := (HC.out W7 HB7.out).cell rfl
 have HL7 := Lib.hid (line_k HF.out 7 (by decide) ⟨#[112, 114, 105, 118, 97, 116, 101]⟩ t.pr rfl rfl (w.heap.size + 1) false lv7 W7 (HT.out _ HB7.out) HX7.out)
 go_upto_region 11 with (go_at_call 23; refine HL7.out.mono ?_; rintro e W8 ⟨rfl, lv8, hx, hb⟩)
 have HX8 := Lib.hid hx
 have HB8 := Lib.hid (HB7.out.trans hb)
 clear hx hb c7 HL7 HX7 HB7
 have c8 : W8.cell? ⟨w.heap.size, 8, none⟩ = some (.int .i64 t.be) := (HC.out W8 HB8.out).cell rfl
 have HL8 := Lib.hid (line_k HF.out 8 (by decide) ⟨#[98, 101, 121, 111, 110, 100]⟩ t.be rfl rfl (w.heap.size + 1) false lv8 W8 (HT.out _ HB8.out) HX8.out)
 go_upto_region 12 with (go_at_call 23; refine HL8.out.mono ?_; rintro e W9 ⟨rfl, lv9, hx, hb⟩)
 have HX9 := Lib.hid hx
 have HB9 := Lib.hid (HB8.out.trans hb)
 clear hx hb c8 HL8 HX8 HB8
 have c9 : W9.cell? ⟨w.heap.size, 9, none⟩ = some (.int .u32 t.le) := (HC.out W9 HB9.out).cell rfl
 have HL9 := Lib.hid (line_k HF.out 9 (by decide) ⟨#[108, 101, 97, 115, 116]⟩ t.le rfl rfl (w.heap.size + 1) false lv9 W9 (HT.out _ HB9.out) HX9.out)
 go_upto_region 13 with (go_at_call 23; refine HL9.out.mono ?_; rintro e W10 ⟨rfl, lv10, hx, hb⟩)
 have HX10 := Lib.hid hx
 have HB10 := Lib.hid (HB9.out.trans hb)
 clear hx hb c9 HL9 HX9 HB9
 have c10 : W10.cell? ⟨w.heap.size, 10, none⟩ = some (.int .u32 t.mo) := (HC.out W10 HB10.out).cell rfl
 have HL10 := Lib.hid (line_k HF.out 10 (by decide) ⟨#[109, 111, 115, 116]⟩ t.mo rfl rfl (w.heap.size + 1) false lv10 W10 (HT.out _ HB10.out) HX10.out)
 go_upto_region 14 with (go_at_call 23; refine HL10.out.mono ?_; rintro e W11 ⟨rfl, lv11, hx, hb⟩)
 have HX11 := Lib.hid hx
 have HB11 := Lib.hid (HB10.out.trans hb)
 clear hx hb c10 HL10 HX10 HB10
 have hs := builderString_c (w.heap.size + 1) (w.heap.size + 1) (textT t).data.toList false lv11 W11 HX11.out (Nat.le_refl _) (Nat.le_of_lt HX11.out.blk.lt)
 have hsame : ∀ s : ByteArray, (⟨s.data.toList.toArray⟩ : ByteArray) = s := fun s => by cases s; simp
 rw [hsame] at hs
 have HS := Lib.hid hs
 clear hs hsame
 go_wp2_with (go_at_call 26; refine HS.out.mono ?_; rintro e w3 ⟨rfl, hb⟩; have HB12 := Lib.hid (HB11.out.trans hb); clear hb)
 go_ret
 exact ⟨rfl, HTB.out _ HB12.out⟩
def szL (l : List Int) (i : Nat) : List Int := (List.range 10).map fun j => if j < i then (((encR ((j : Int) + 1) l).1.length : Nat) : Int) else 0
theorem szL_len (l : List Int) (i : Nat) : (szL l i).length = 10 := by simp [szL]
theorem szL_set (l : List Int) (i : Nat) : (nums .i64 (szL l i)).toArray.setIfInBounds i (.int .i64 (((encR ((i : Int) + 1) l).1.length : Nat) : Int)) = (nums .i64 (szL l (i + 1))).toArray := by
 apply Array.ext_getElem?
 intro j
 simp only [nums, szL, Array.getElem?_setIfInBounds, List.getElem?_toArray, List.size_toArray, List.length_map, List.length_range, List.getElem?_map]
 by_cases hj : i = j
 ·subst hj
  rw [if_pos rfl]
  by_cases hi : i < 10
  ·rw [if_pos hi, List.getElem?_range hi]
   simp only [Option.map_some]
   rw [if_pos (by omega)]
  ·rw [if_neg hi, List.getElem?_eq_none (by simp; omega)]
   rfl
 ·rw [if_neg hj]
  by_cases h : j < 10
  ·rw [List.getElem?_range h]
   simp only [Option.map_some]
   by_cases h2 : j < i
   ·rw [if_pos h2, if_pos (by omega)]
   ·rw [if_neg h2, if_neg (by omega)]
  ·rw [List.getElem?_eq_none (by simp; omega)]
   rfl
theorem make10 : ∀ W : World, (Instr.makeSlice 35 (.int .i64 10) (.int .i64 10)).run Tryz.prog W = .ok (.slice (some ⟨W.heap.size, 0, none⟩) 10 10) (W.alloc (.cells #[.int .i64 0, .int .i64 0, .int .i64 0, .int .i64 0, .int .i64 0, .int .i64 0, .int .i64 0, .int .i64 0, .int .i64 0, .int .i64 0] 3 (0, 0))) := by
 intro W
 kernel_rfl
set_option maxRecDepth 100000 in
set_option maxHeartbeats 2000000 in
theorem sizes_c (l : List Int) (hl : l.length ≤ 400) (h0 : ∀ x ∈ l, 0 ≤ x) (A : Option Addr) (cp : Nat) (hcp : l.length ≤ cp) (hA : A = none → cp = 0) (w : World) (hr : ReadsInt w .u32 A l.length l) :
  Calls Tryz.prog 15 #[.slice A l.length cp] w fun e w' => e = .returned (.slice (some ⟨w.heap.size, 0, none⟩) 10 10) ∧ Blk w' w.heap.size 3 (nums .i64 (szL l 10)).toArray ∧ Below w.heap.size w w' := by
 have HR := Lib.hid hr
 have HENC := Lib.hid (fun (c : Int) (W : World) (hW : Below w.heap.size w W) => enc_all c l h0 hl A cp hcp hA W (hr.below hW))
 clear hr h0
 have hmk := make10
 go_enter Tryz.func15, Tryz.ntmps15
 go_wp2_with fail
 clear hmk
 go_loopg [10] 10 (fun kq s10 wx => ∃ i : Nat, s10 = .int .i64 i ∧ Hid (kq = 10 - i ∧ i ≤ 10) ∧ Hid (Blk wx w.heap.size 3 (nums .i64 (szL l i)).toArray) ∧ Hid (Below w.heap.size w wx))
 case atStart => exact ⟨0, rfl, Lib.hid ⟨rfl, Nat.zero_le _⟩, Lib.hid (Blk.new w _ _), Lib.hid (below_new (Below.refl _ _) _)⟩
 case round =>
  obtain ⟨i, rfl, HK, HB, HW⟩ := hrel
  have hi0 : (0 : Int) ≤ (i : Int) := by omega
  by_cases hi : i < 10
  ·have hi1 : (i : Int) < 10 := by omega
   have HI := Lib.hid hi
   have HE := Lib.hid (HENC.out ((i : Int) + 1) wr HW.out)
   go_upto_region 6 with (go_at_call 18; refine HE.out.mono ?_; rintro e w1 ⟨rfl, hb1⟩)
   have hb2 : Below wr.heap.size wr (w1.alloc (.cells #[.int .i64 (encR ((i : Int) + 1) l).2.1, .int .i64 (encR ((i : Int) + 1) l).2.2] 41 (0, 0))) := below_then hb1 (below_new (Below.refl _ _) _) hb1.size
   obtain ⟨W2, hW2⟩ : ∃ W, w1.alloc (.cells #[.int .i64 (encR ((i : Int) + 1) l).2.1, .int .i64 (encR ((i : Int) + 1) l).2.2] 41 (0, 0)) = W := ⟨_, rfl⟩
   rw [hW2] at hb2 ⊢
   have hsz : ((strOf (encR ((i : Int) + 1) l).1).size : Int) = (((encR ((i : Int) + 1) l).1.length : Nat) : Int) := by rw [strOf_size]
   have hset := szL_set l i
   obtain ⟨S, hS⟩ : ∃ S, strOf (encR ((i : Int) + 1) l).1 = S := ⟨_, rfl⟩
   rw [hS] at hsz ⊢
   rw [← hsz] at hset
   have HSET := Lib.hid hset
   have HB2 := Lib.hid (HB.out.below hb2)
   have HW2 := Lib.hid (below_next HW.out hb2)
   have hc : W2.cell? ⟨w.heap.size, i, none⟩ = some (.int .i64 ((szL l i).getD i 0)) := HB2.out.cell (by
    rw [List.getElem?_toArray, nums, List.getElem?_map, List.getD_eq_getElem?_getD, List.getElem?_eq_getElem (by rw [szL_len]; exact hi)]
    rfl)
   have hf := HB2.out.frozen i
   clear hb1 hb2 hW2 hsz hset hS HE
   go_wp2_with fail
   go_roundg (gk - 1)
   case measure => have := HK.out; omega
   case rel =>
    refine ⟨i + 1, by go_num, Lib.hid ⟨by have := HK.out; omega, HI.out⟩, Lib.hid ?_, Lib.hid (below_set1 HW2.out (Nat.le_refl _) _ _)⟩
    rw [← HSET.out]
    exact HB2.out.set i _
  ·have hi1 : ¬ (i : Int) < 10 := by omega
   have hI : i = 10 := by have := HK.out; omega
   subst hI
   go_wp2_with fail
   go_ret
   exact ⟨rfl, HB.out, HW.out⟩
theorem fieldsOf_tally : Tryz.prog.underlying 26 = some (.struct (Tryz.prog.fieldsOf 26)) := by kernel_rfl
theorem eql_tally (t : Tl) (w : World) : (binOp .eql 26 (.agg #[.int .i64 t.sc, .int .i64 t.un, .int .i64 t.by8, .int .i64 t.ct, .int .i64 t.ai, .int .i64 t.la, .int .i64 t.pl, .int .i64 t.pr, .int .i64 t.be, .int .u32 t.le, .int .u32 t.mo]) (.agg #[.int .i64 t.sc, .int .i64 t.un, .int .i64 t.by8, .int .i64 t.ct, .int .i64 t.ai, .int .i64 t.la, .int .i64 t.pl, .int .i64 t.pr, .int .i64 t.be, .int .u32 t.le, .int .u32 t.mo])).run Tryz.prog w = .ok (.bool true) w := by
 have he : (Op.equalIn 10000 26 (.agg #[.int .i64 t.sc, .int .i64 t.un, .int .i64 t.by8, .int .i64 t.ct, .int .i64 t.ai, .int .i64 t.la, .int .i64 t.pl, .int .i64 t.pr, .int .i64 t.be, .int .u32 t.le, .int .u32 t.mo]) (.agg #[.int .i64 t.sc, .int .i64 t.un, .int .i64 t.by8, .int .i64 t.ct, .int .i64 t.ai, .int .i64 t.la, .int .i64 t.pl, .int .i64 t.pr, .int .i64 t.be, .int .u32 t.le, .int .u32 t.mo])).run Tryz.prog w = .ok true w := by
  rw [run_equalIn_struct w 9999 26 _ _ fieldsOf_tally (by kernel_rfl)]
  simp only [Program.fieldsOf, Tryz.underlying26]
  have ei : ∀ (a b : Int) (w : World), (Op.equalIn 9999 3 (.int .i64 a) (.int .i64 b)).run Tryz.prog w = .ok (a == b) w := fun a b w => by
   unfold Op.equalIn
   simp only [Sem.run_bind, run_underlying Tryz.underlying3, Result.andThen_ok, if_true, Sem.run_pure]
  have ej : ∀ (a b : Int) (w : World), (Op.equalIn 9999 24 (.int .u32 a) (.int .u32 b)).run Tryz.prog w = .ok (a == b) w := fun a b w => by
   unfold Op.equalIn
   simp only [Sem.run_bind, run_underlying Tryz.underlying24, Result.andThen_ok, if_true, Sem.run_pure]
  simp [Op.eqFields, go_sem, ei, ej]
 simp only [binOp]
 simp [Op.equal, Op.maxDepth, he]
def awT : Tl := ⟨2, 3, 5, 0, 1, 0, 0, 0, 1, 65, 128512⟩
theorem aw_of : ofT [65, 128512] = awT := by kernel_rfl
theorem aw_add : addT awT zeroT = awT := by kernel_rfl
theorem aw_sm : SmT awT := by constructor <;> decide
theorem zero_sm : SmT zeroT := by constructor <;> decide
theorem aw_fit : FitT awT := by
 refine ⟨fun k => ?_, by decide, by decide⟩
 match k with
 | 0 | 1 | 2 | 3 | 4 | 5 | 6 | 7 | 8 | 9 | 10 => decide
 | n + 11 => exact ⟨by show (-9223372036854775808 : Int) ≤ 0; decide, by show (0 : Int) ≤ 9223372036854775807; decide⟩
def awL : ByteArray := ⟨#[115, 99, 97, 108, 97, 114, 115, 32, 50, 10]⟩
theorem itoa_two : itoaF 2 = ⟨#[50]⟩ := by
 unfold itoaF
 rw [show (2 : Int) = ((2 : Nat) : Int) from rfl, Lib.itoa_nonneg, Lib.decDigits_one (by decide)]
 rfl
theorem aw_first : textN (numsT awT) 1 = awL := by
 have h : textN (numsT awT) 1 = ⟨#[]⟩ ++ lineF ⟨#[115, 99, 97, 108, 97, 114, 115]⟩ 2 := rfl
 rw [h]
 unfold lineF
 rw [itoa_two]
 show _ = awL
 rfl
theorem aw_more (ns : List Int) : ∀ k, ∃ r, textN ns (k + 2) = textN ns 1 ++ r ∧ 0 < r.size
 | 0 => ⟨lineF (wordsT.getD 1 ByteArray.empty) (ns.getD 1 0), rfl, by rw [line_size]; omega⟩
 | k + 1 => by
  obtain ⟨r, e, _⟩ := aw_more ns k
  refine ⟨r ++ lineF (wordsT.getD (k + 2) ByteArray.empty) (ns.getD (k + 2) 0), ?_, by rw [ByteArray.size_append, line_size]; omega⟩
  rw [textN, e, ByteArray.append_assoc]
theorem aw_text : 10 < (textT awT).size ∧ (textT awT).extract 0 10 = awL := by
 obtain ⟨r, e, h⟩ := aw_more (numsT awT) 9
 have e' : textT awT = awL ++ r := by rw [← aw_first]; exact e
 have hs : awL.size = 10 := rfl
 rw [e']
 refine ⟨by rw [ByteArray.size_append]; omega, ?_⟩
 rw [ByteArray.extract_append_eq_left hs.symm]
theorem reads_2 (w : World) : ReadsInt (w.alloc (.cells #[.int .u32 65, .int .u32 128512] 24 (0, 0))) .u32 (some ⟨w.heap.size, 0, none⟩) [(65 : Int), 128512].length [65, 128512] := by
 refine ⟨rfl, by show 2 ≤ 9223372036854775807; decide, fun _ => ⟨_, rfl, fun k hk => ?_⟩⟩
 have hk : k < 2 := hk
 have h : k = 0 ∨ k = 1 := by omega
 rcases h with rfl | rfl
 ·rw [Addr.add_lit]; exact (Blk.new w 24 #[.int .u32 65, .int .u32 128512]).cell rfl
 ·rw [Addr.add_lit]; exact (Blk.new w 24 #[.int .u32 65, .int .u32 128512]).cell rfl
theorem aw_of_c (w : World) : Calls Tryz.prog 9 #[.slice (some ⟨w.heap.size, 0, none⟩) 2 2] (w.alloc (.cells #[.int .u32 65, .int .u32 128512] 24 (0, 0))) fun e w' => e = .returned (.agg #[.int .i64 2, .int .i64 3, .int .i64 5, .int .i64 0, .int .i64 1, .int .i64 0, .int .i64 0, .int .i64 0, .int .i64 1, .int .u32 65, .int .u32 128512]) ∧ Below w.heap.size w w' := by
 have h := of_c (some ⟨w.heap.size, 0, none⟩) 2 [65, 128512] (by decide) (by intro y hy; simp at hy; omega) (by decide) _ (reads_2 w)
 rw [aw_of] at h
 refine h.mono ?_
 rintro e w' ⟨rfl, hb⟩
 exact ⟨rfl, below_then (below_new (Below.refl _ _) _) hb (by simp)⟩
theorem aw_sizes_c (w : World) : Calls Tryz.prog 15 #[.slice (some ⟨w.heap.size, 0, none⟩) 1 1] (w.alloc (.cells #[.int .u32 65] 24 (0, 0))) fun e w' => e = .returned (.slice (some ⟨w.heap.size + 1, 0, none⟩) 10 10) ∧ w'.cell? ⟨w.heap.size + 1, 1, none⟩ = some (.int .i64 2) ∧ Below w.heap.size w w' := by
 have h := sizes_c [65] (by decide) (by intro y hy; simp at hy; omega) (some ⟨w.heap.size, 0, none⟩) 1 (by decide) (fun h => by cases h) _ (yreads_u32 w 65)
 refine h.mono ?_
 rintro e w' ⟨rfl, hk, hb⟩
 refine ⟨by rw [World.size_alloc], ?_, below_then (below_new (Below.refl _ _) _) hb (by simp)⟩
 rw [World.size_alloc] at hk
 refine hk.cell (i := 1) ?_
 rw [List.getElem?_toArray, nums, List.getElem?_map]
 have : (szL [65] 10)[1]? = some 2 := by kernel_rfl
 rw [this]
 rfl
theorem aw_add_c (W : World) : Calls Tryz.prog 11 #[.agg #[.int .i64 2, .int .i64 3, .int .i64 5, .int .i64 0, .int .i64 1, .int .i64 0, .int .i64 0, .int .i64 0, .int .i64 1, .int .u32 65, .int .u32 128512], .agg #[.int .i64 0, .int .i64 0, .int .i64 0, .int .i64 0, .int .i64 0, .int .i64 0, .int .i64 0, .int .i64 0, .int .i64 0, .int .u32 0, .int .u32 0]] W fun e w' => e = .returned (.agg #[.int .i64 2, .int .i64 3, .int .i64 5, .int .i64 0, .int .i64 1, .int .i64 0, .int .i64 0, .int .i64 0, .int .i64 1, .int .u32 65, .int .u32 128512]) ∧ Below W.heap.size W w' := by
 have h := add_c aw_sm zero_sm W
 rw [aw_add] at h
 exact h
theorem aw_text_c (W : World) (hW : Tab W) : Calls Tryz.prog 12 #[.agg #[.int .i64 2, .int .i64 3, .int .i64 5, .int .i64 0, .int .i64 1, .int .i64 0, .int .i64 0, .int .i64 0, .int .i64 1, .int .u32 65, .int .u32 128512]] W fun e w' => e = .returned (.string (textT awT)) ∧ Below W.heap.size W w' := ttext_c aw_fit W hW
set_option maxRecDepth 100000 in
set_option maxHeartbeats 4000000 in
theorem yawake_c (w : World) (ht : Tab w) : Calls Tryz.prog 8 #[] w fun e w' => e = .returned (.bool true) ∧ Below w.heap.size w w' := by
 have HT := Lib.hid (fun W (hW : Below w.heap.size w W) => ht.below hW)
 have HADD := Lib.hid aw_add_c
 have HTX := Lib.hid aw_text_c
 obtain ⟨hx1, hx2⟩ := aw_text
 have heq : ∀ W, (binOp .eql 26 (.agg #[.int .i64 2, .int .i64 3, .int .i64 5, .int .i64 0, .int .i64 1, .int .i64 0, .int .i64 0, .int .i64 0, .int .i64 1, .int .u32 65, .int .u32 128512]) (.agg #[.int .i64 2, .int .i64 3, .int .i64 5, .int .i64 0, .int .i64 1, .int .i64 0, .int .i64 0, .int .i64 0, .int .i64 1, .int .u32 65, .int .u32 128512])).run Tryz.prog W = .ok (.bool true) W := fun W => eql_tally awT W
 obtain ⟨TX, hTX⟩ : ∃ s, textT awT = s := ⟨_, rfl⟩
 rw [hTX] at HTX hx1 hx2
 have hx3 : (10 : Int) < (TX.size : Int) := by omega
 have hx6 : (10 : Int) ≤ (TX.size : Int) := by omega
 have hx4 : decide ((10 : Int) < (TX.size : Int)) = true := decide_eq_true hx3
 have hx5 : (awL.toList == [115, 99, 97, 108, 97, 114, 115, 32, 50, 10]) = true := by decide +kernel
 clear hTX ht
 go_enter Tryz.func8, Tryz.ntmps8
 go_upto_region 2 with (go_at_call 9; refine (aw_of_c _).mono ?_; rintro e w1 ⟨rfl, hb1⟩)
 have hk1 := Blk.new w1 TTY #[.int .i64 2, .int .i64 3, .int .i64 5, .int .i64 0, .int .i64 1, .int .i64 0, .int .i64 0, .int .i64 0, .int .i64 1, .int .u32 65, .int .u32 128512]
 have hd1 : Below w1.heap.size w1 (w1.alloc (.cells #[.int .i64 2, .int .i64 3, .int .i64 5, .int .i64 0, .int .i64 1, .int .i64 0, .int .i64 0, .int .i64 0, .int .i64 1, .int .u32 65, .int .u32 128512] TTY (0, 0))) := below_new (Below.refl _ _) _
 obtain ⟨W1, hW1⟩ : ∃ W, w1.alloc (.cells #[.int .i64 2, .int .i64 3, .int .i64 5, .int .i64 0, .int .i64 1, .int .i64 0, .int .i64 0, .int .i64 0, .int .i64 1, .int .u32 65, .int .u32 128512] TTY (0, 0)) = W := ⟨_, rfl⟩
 rw [hW1] at hk1 hd1 ⊢
 have HW1 := Lib.hid (below_next hb1 hd1)
 obtain ⟨b1, hb1e⟩ : ∃ f, w1.heap.size = f := ⟨_, rfl⟩
 rw [hb1e] at hk1 ⊢
 have HK1 := Lib.hid hk1
 clear hk1 hd1 hb1e hW1 hb1
 go_upto_region 3 with (go_at_call 15; refine (aw_sizes_c _).mono ?_; rintro e w2 ⟨rfl, hc2, hb2⟩)
 have HW2 := Lib.hid (below_next HW1.out hb2)
 have h1 := HK1.out.below hb2
 obtain ⟨b2, hb2e⟩ : ∃ f, W1.heap.size + 1 = f := ⟨_, rfl⟩
 rw [hb2e] at hc2 ⊢
 have HKB : Hid (∀ W, Below w2.heap.size w2 W → W.cell? ⟨b1, 0, none⟩ = some (.int .i64 2) ∧ W.cell? ⟨b1, 1, none⟩ = some (.int .i64 3) ∧ W.cell? ⟨b1, 2, none⟩ = some (.int .i64 5) ∧ W.cell? ⟨b1, 3, none⟩ = some (.int .i64 0) ∧ W.cell? ⟨b1, 4, none⟩ = some (.int .i64 1) ∧ W.cell? ⟨b1, 5, none⟩ = some (.int .i64 0) ∧ W.cell? ⟨b1, 6, none⟩ = some (.int .i64 0) ∧ W.cell? ⟨b1, 7, none⟩ = some (.int .i64 0) ∧ W.cell? ⟨b1, 8, none⟩ = some (.int .i64 1) ∧ W.cell? ⟨b1, 9, none⟩ = some (.int .u32 65) ∧ W.cell? ⟨b1, 10, none⟩ = some (.int .u32 128512) ∧ W.cell? ⟨b2, 1, none⟩ = some (.int .i64 2)) := Lib.hid fun W hW => ⟨(h1.below hW).cell rfl, (h1.below hW).cell rfl, (h1.below hW).cell rfl, (h1.below hW).cell rfl, (h1.below hW).cell rfl, (h1.below hW).cell rfl, (h1.below hW).cell rfl, (h1.below hW).cell rfl, (h1.below hW).cell rfl, (h1.below hW).cell rfl, (h1.below hW).cell rfl, (hW.cell (World.block_lt_of_cell? _ _ hc2)).trans hc2⟩
 clear hc2 h1 hb2e hb2
 go_region_held3 (fun w' => w'.cell? ⟨b1, 0, none⟩ = some (.int .i64 2) ∧ w'.cell? ⟨b1, 1, none⟩ = some (.int .i64 3) ∧ w'.cell? ⟨b1, 2, none⟩ = some (.int .i64 5) ∧ w'.cell? ⟨b1, 3, none⟩ = some (.int .i64 0) ∧ w'.cell? ⟨b1, 4, none⟩ = some (.int .i64 1) ∧ w'.cell? ⟨b1, 5, none⟩ = some (.int .i64 0) ∧ w'.cell? ⟨b1, 6, none⟩ = some (.int .i64 0) ∧ w'.cell? ⟨b1, 7, none⟩ = some (.int .i64 0) ∧ w'.cell? ⟨b1, 8, none⟩ = some (.int .i64 1) ∧ w'.cell? ⟨b1, 9, none⟩ = some (.int .u32 65) ∧ w'.cell? ⟨b1, 10, none⟩ = some (.int .u32 128512) ∧ w'.cell? ⟨b2, 1, none⟩ = some (.int .i64 2)) (first | with_reducible assumption | (refine HKB.out _ ?_; repeat (first | with_reducible exact Below.refl _ _ | with_reducible assumption | with_reducible apply below_alloc | with_reducible apply pw_below_drewN | with_reducible apply below_drew1)))
  (first
   | (go_at_call 11; refine (HADD.out _).mono ?_; rintro e w3 ⟨rfl, hb3⟩; have hB3 : Below w2.heap.size w2 w3 := below_next (by repeat (first | with_reducible exact Below.refl _ _ | with_reducible assumption | with_reducible apply below_alloc | with_reducible apply pw_below_drewN | with_reducible apply below_drew1)) hb3; have hS3 := HKB.out _ hB3; clear hb3)
   | (go_at_call 12; refine (HTX.out _ (HT.out _ (below_next HW2.out (by repeat (first | with_reducible exact Below.refl _ _ | with_reducible assumption | with_reducible apply below_alloc | with_reducible apply pw_below_drewN | with_reducible apply below_drew1))))).mono ?_; rintro e w4 ⟨rfl, hb4⟩; have hB4 : Below w2.heap.size w2 w4 := below_next (by repeat (first | with_reducible exact Below.refl _ _ | with_reducible assumption | with_reducible apply below_alloc | with_reducible apply pw_below_drewN | with_reducible apply below_drew1)) hb4; have hS4 := HKB.out _ hB4; clear hb4)
   | fail)
 all_goals go_wp2_with fail
 all_goals go_ret
 all_goals exact ⟨rfl, below_next HW2.out (by repeat (first | with_reducible exact Below.refl _ _ | with_reducible assumption | with_reducible apply below_alloc | with_reducible apply pw_below_drewN | with_reducible apply below_drew1))⟩
end Go.Proofs.YtppchdinolndmaaGreatDoor
