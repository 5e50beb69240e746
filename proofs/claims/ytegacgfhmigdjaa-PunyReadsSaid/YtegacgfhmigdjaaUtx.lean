/- puny.text, walked: its first loop (the basic ones into the builder, the others into a row). -/
import Derived.Test.YtegacgfhmigdjaaUso
namespace Go.Proofs.Ytegacgfhmigdjaa
open Go.RowKit Go.Proofs.YtegacgfhmigdjaaW.PrintWords Go.Proofs.YtegacgfhmigdjaaW.PrintLast Go.Proofs.YtegacgfhmigdjaaW.PrintMore Go.Proofs.Ytegacgfhmigdjaa.PPu
set_option linter.unusedVariables false
set_option linter.unusedSimpArgs false

def lowL (ys : List Int) : List Int := ys.filter fun y => decide (y < 128)
def highL (ys : List Int) : List Int := ys.filter fun y => !decide (y < 128)
theorem low_snoc (ys : List Int) (i : Nat) (h : i < ys.length) : lowL (ys.take (i + 1)) = if ys.getD i 0 < 128 then lowL (ys.take i) ++ [ys.getD i 0] else lowL (ys.take i) := by
  rw [take_succ_getD ys i h]
  unfold lowL
  rw [List.filter_append]
  generalize ys.getD i 0 = y
  by_cases c : y < 128
  · rw [if_pos c]; simp [c]
  · rw [if_neg c]; simp [c]
theorem high_snoc (ys : List Int) (i : Nat) (h : i < ys.length) : highL (ys.take (i + 1)) = if ys.getD i 0 < 128 then highL (ys.take i) else highL (ys.take i) ++ [ys.getD i 0] := by
  rw [take_succ_getD ys i h]
  unfold highL
  rw [List.filter_append]
  generalize ys.getD i 0 = y
  by_cases c : y < 128
  · rw [if_pos c]; simp [c]
  · rw [if_neg c]; simp [c]
theorem low_len (ys : List Int) (i : Nat) : (lowL (ys.take i)).length ≤ i := Nat.le_trans (List.length_filter_le _ _) (by rw [List.length_take]; omega)
theorem high_len (ys : List Int) (i : Nat) : (highL (ys.take i)).length ≤ i := Nat.le_trans (List.length_filter_le _ _) (by rw [List.length_take]; omega)
theorem below_bx {w w1 w2 : World} {g B : Nat} {xs : List Int} {no : Bool} {lv : Value} (h : Below B w w1) (hb : BX w1 g B xs no lv) (he : Eff w1 w2 (fun k => k = g ∨ some k = lv.ownBlock)) (hB : B ≤ w1.heap.size) (hg : B ≤ g) : Below B w w2 :=
  Eff.under h he hB fun k hk => by
    rcases hk with e | e
    · rw [e]; exact hg
    · exact q_own_ge (q_of_own hb.row) k e.symm
theorem BX.alloc {w : World} {g B : Nat} {xs : List Int} {no : Bool} {lv : Value} (h : BX w g B xs no lv) (o : Obj) : BX (w.alloc o) g B xs no lv := h.below (below_alloc (Below.refl _ _) o)
/-- Two rows of unlike kinds keep apart. -/
theorem u32_keep {w w1 : World} {g B b2 : Nat} {xs ys : List Int} {no : Bool} {lv v : Value} (h : w.ownsRow b2 51 1 v ys.length (nums .u32 ys)) (hb : BX w g B xs no lv) (he : Eff w w1 (fun k => k = g ∨ some k = lv.ownBlock)) : w1.ownsRow b2 51 1 v ys.length (nums .u32 ys) :=
  own_move h fun k hk => by
    obtain ⟨cells, hc⟩ := own_typed h k hk
    refine he.block k (Array.getElem?_eq_some_iff.1 hc).1 fun e => ?_
    rcases e with e | e
    · subst e
      have h2 : w.heap[k]? = _ := hb.blk
      rw [hc] at h2
      injection h2 with h2
      injection h2 with _ h2
      exact absurd h2 (by decide)
    · obtain ⟨cells2, hc2⟩ := own_typed hb.row k e.symm
      rw [hc] at hc2
      injection hc2 with h2
      injection h2 with _ h2
      exact absurd h2 (by decide)
/-- A builder keeps apart from a row of numbers that grows. -/
theorem bx_keep {w w1 : World} {g B b2 : Nat} {xs ys : List Int} {no : Bool} {lv v : Value} (h : w.ownsRow b2 51 1 v ys.length (nums .u32 ys)) (hb : BX w g B xs no lv) (hg : w.grownBy w1 v.ownBlock) : BX w1 g B xs no lv := by
  refine ⟨(hg.block g hb.blk.lt (own_types (q_of_own h) hb.blk (by decide))).trans hb.blk, own_move hb.row fun k hk => ?_⟩
  obtain ⟨cells2, hc2⟩ := own_typed hb.row k hk
  refine hg.block k (Array.getElem?_eq_some_iff.1 hc2).1 fun e => ?_
  obtain ⟨cells, hc⟩ := own_typed h k e.symm
  rw [hc] at hc2
  injection hc2 with h2
  injection h2 with _ h2
  exact absurd h2 (by decide)
def wrq (w : World) (g o : Nat) (m : Int) : Prop := w.cell? ⟨g, o, none⟩ = some (.int .u32 m)
theorem one_cell {w : World} {base c : Nat} {A : Option Addr} {m : Int} (h : w.ownsRow base 51 1 (.slice A [m].length c) [m].length (nums .u32 [m])) : ∃ g o, A = some ⟨g, o, none⟩ ∧ wrq w g o m := by
  obtain ⟨ad, rfl, hc⟩ := (own_reads' h).2.2 (by simp)
  have h0 := hc 0 (by simp)
  rcases h.2 with ⟨h1, _⟩ | ⟨g, cap, cur, h1, _⟩
  · cases h1
  · injection h1 with h1
    injection h1 with h1
    subst h1
    refine ⟨g, 0, rfl, ?_⟩
    rw [Addr.add_lit] at h0
    exact h0
theorem d0_facts (m : Int) (n : Nat) (h0 : 128 ≤ m) (h1 : m ≤ 1114111) (hn : n ≤ 1000000) : ∃ D0 : Int, (m - 128) * ((n : Int) + 1) = D0 ∧ IntKind.u64.wrap (m - 128) = m - 128 ∧ wrap64 ((n : Int) + 1) = (n : Int) + 1 ∧ IntKind.u64.wrap ((n : Int) + 1) = (n : Int) + 1 ∧ IntKind.u64.wrap ((m - 128) * ((n : Int) + 1)) = D0 ∧ 0 ≤ D0 ∧ D0 ≤ 1113983 * 1000001 := by
  have h2 : 0 ≤ (m - 128) * ((n : Int) + 1) := Int.mul_nonneg (by omega) (by omega)
  have h3 : (m - 128) * ((n : Int) + 1) ≤ 1113983 * 1000001 := Int.mul_le_mul (by omega) (by omega) (by omega) (by omega)
  exact ⟨_, rfl, u64 (by omega) (by omega), w64 (by omega) (by omega), u64 (by omega) (by omega), u64 h2 (by omega), h2, h3⟩
theorem below_join {B : Nat} {w0 w w1 : World} (h : Below B w0 w) (k : Below B w w1) : Below B w0 w1 := ⟨k.os.trans h.os, k.tape.trans h.tape, k.output.trans h.output, Nat.le_trans h.size k.size, fun i hi => (k.block i hi).trans (h.block i hi)⟩
/-- Where the numbers lie, and that they are numbers. -/
structure SrcT (w : World) (pb po : Nat) (ys : List Int) : Prop where
  lt : ys.length ≠ 0 → pb < w.heap.size
  cells : ∀ j, j < ys.length → w.cell? ⟨pb, po + j, none⟩ = some (.int .u32 (ys.getD j 0))
theorem SrcT.at_ {w w1 : World} {pb po : Nat} {ys : List Int} (h : SrcT w pb po ys) (hb : Below w.heap.size w w1) (j : Nat) (hj : j < ys.length) : w1.cell? ⟨pb, po + j, none⟩ = some (.int .u32 (ys.getD j 0)) :=
  (hb.cell (p := ⟨pb, po + j, none⟩) (h.lt (by omega))).trans (h.cells j hj)
set_option maxRecDepth 100000 in
set_option maxHeartbeats 4000000 in
theorem text_one (pb po c : Nat) (ys : List Int) (m : Int) (w : World) (hs : SrcT w pb po ys) (hl : ys.length ≤ 100000) (hr : ∀ y ∈ ys, 0 ≤ y ∧ y ≤ 1114111) (hh : highL ys = [m]) (hlo : lowL ys ≠ []) (p : Nat) (hp : p < ys.length) (hpm : ys.getD p 0 = m) (hpl : ∀ j, j < ys.length → j ≠ p → ys.getD j 0 < 128) (hm : 128 ≤ m ∧ m ≤ 1114111) (PT : ByteArray) (K : Nat) (hput : bias_Put.f K ((m - 128) * ((lowL ys).length + 1) + p) 72 = some PT) (hpt : PT.size ≤ 1000) (RES : List UInt8) (hres : lowL ys ++ [45] ++ bytesOf PT = RES.map fun b => (b.toNat : Int)) :
    Calls Try.prog 48 #[.slice (some ⟨pb, po, none⟩) ys.length c] w fun e w' => e = .returned (.string ⟨RES.toArray⟩) ∧ Below w.heap.size w w' := by
  have HRES := Lib.hid hres
  clear hres
  have HS := Lib.hid hs
  have HL := Lib.hid hl
  have HR := Lib.hid hr
  have HH := Lib.hid hh
  have HP := Lib.hid hp
  have HPM := Lib.hid hpm
  have HPL := Lib.hid hpl
  have HM := Lib.hid hm
  have HPUT := Lib.hid hput
  have HPT := Lib.hid hpt
  clear hp hpm hpl hm hput hpt
  have HLW : Hid (0 < (lowL ys).length) := Lib.hid (List.length_pos_iff.2 hlo)
  clear hs hl hr hh hlo
  go_enter Try.func48, Try.ntmps48
  go_upto_block 0 with fail
  go_cut [4] (fun s4 wx => Hid (wx.ownsRow w.heap.size 51 1 s4 (highL ys).length (nums .u32 (highL ys))) ∧ ∃ no lv, Hid (BX wx w.heap.size w.heap.size (lowL ys) no lv) ∧ Hid (Below w.heap.size w wx))
  case first =>
    have HB0 : Hid (BX (w.alloc (.cells #[.pointer none, .slice none 0 0] 99 (0, 0))) w.heap.size w.heap.size [] true (.slice none 0 0)) := Lib.hid (BX.new w w.heap.size)
    go_wp2_with fail
    go_loopg [4, 18] (ys.length) (fun kq s4 s18 wx => ∃ (i : Nat) (no : Bool) (lv : Value), s18 = .int .i64 i ∧ Hid (kq = ys.length - i ∧ i ≤ ys.length ∧ w.heap.size < wx.heap.size) ∧ Hid (wx.ownsRow w.heap.size 51 1 s4 (highL (ys.take i)).length (nums .u32 (highL (ys.take i)))) ∧ Hid (BX wx w.heap.size w.heap.size (lowL (ys.take i)) no lv) ∧ Hid (Below w.heap.size w wx))
    case atStart => exact ⟨0, true, .slice none 0 0, rfl, Lib.hid ⟨rfl, Nat.zero_le _, by rw [World.size_alloc]; exact Nat.lt_succ_self _⟩, Lib.hid ⟨rfl, .inl ⟨rfl, rfl⟩⟩, HB0, Lib.hid (below_new (Below.refl _ _) _)⟩
    case round =>
      obtain ⟨i, no, lv, rfl, HK, HO, HX, HB⟩ := hrel
      by_cases hi : i < ys.length
      · have hi0 : (0 : Int) ≤ (i : Int) := by omega
        have hi3 : (i : Int) < (ys.length : Int) := by omega
        have hss : ys.length ≤ 100000 := HL.out
        have hcc := HS.out.at_ HB.out i hi
        have hlo := low_snoc ys i hi
        have hhi := high_snoc ys i hi
        have hy := HR.out (ys.getD i 0) (by rw [List.getD_eq_getElem?_getD, List.getElem?_eq_getElem hi]; exact List.getElem_mem hi)
        obtain ⟨y, hye⟩ : ∃ y, ys.getD i 0 = y := ⟨_, rfl⟩
        rw [hye] at hcc hlo hhi hy
        clear hye
        by_cases hc : y < 128
        · rw [if_pos hc] at hlo hhi
          have hc1 : decide (y < 128) = true := decide_eq_true hc
          have hm : y % 256 = y := by omega
          have HLO := Lib.hid hlo
          have HHI := Lib.hid hhi
          have HLN : Hid ((lowL (ys.take i)).length + 1 ≤ 1000000) := Lib.hid (by have := low_len ys i; omega)
          clear hlo hhi hy
          go_wp2_with fail
          refine (writeByte_c w.heap.size w.heap.size _ no lv y _ HX.out HB.out.size HLN.out).mono ?_
          rintro e w1 ⟨rfl, lv', hx1, he1⟩
          have HX1 := Lib.hid hx1
          have HO1 := Lib.hid (u32_keep HO.out HX.out he1)
          have HB1 := Lib.hid (below_bx HB.out HX.out he1 HB.out.size (Nat.le_refl _))
          have HZ1 : Hid (w.heap.size < w1.heap.size) := Lib.hid (Nat.lt_of_lt_of_le HK.out.2.2 he1.size)
          clear hx1 he1
          go_wp2_with fail
          go_roundg (gk - 1)
          case measure => have := HK.out; omega
          case rel => exact ⟨i + 1, false, lv', by go_num, Lib.hid ⟨by have := HK.out; omega, by omega, HZ1.out⟩, Lib.hid (by rw [HHI.out]; exact HO1.out), Lib.hid (by rw [HLO.out]; exact HX1.out), HB1⟩
        · rw [if_neg hc] at hlo hhi
          have hc1 : decide (y < 128) = false := decide_eq_false hc
          have HLO := Lib.hid hlo
          have HHI := Lib.hid hhi
          have HLN : Hid (((highL (ys.take i)).length + 1) * 4 ≤ 140737488355328) := Lib.hid (by have := high_len ys i; omega)
          clear hlo hhi hy
          obtain ⟨HQ, hHQ⟩ : ∃ HQ, highL (ys.take i) = HQ := ⟨_, rfl⟩
          rw [hHQ] at HO HLN HHI
          clear hHQ
          go_wp2_with (at_builtin; refine print_append_row (w0 := w) w.heap.size rfl (.tmp 27) (.tmp 29) 26 51 .u32 4 rfl Try.underlying26 info_u32 (by decide) u4 HQ [y] (some ⟨wr.heap.size, 0, none⟩) 1 1 rfl rfl (Go.Proofs.Ytegacgfhmigdjaa.own_alloc HO.out _) (reads_one wr _ _ rfl) (below_new HB.out _) (below_new HB.out _).size HLN.out ?_; intro v1 w1 ho1 hb1 hg1 hat1; have HO1 := Lib.hid ho1; have HB2 := Lib.hid hb1; have HX1 := Lib.hid (bx_keep (Go.Proofs.Ytegacgfhmigdjaa.own_alloc HO.out _) (HX.out.alloc _) hg1); have HZ1 : Hid (w.heap.size < w1.heap.size) := Lib.hid (Nat.lt_of_lt_of_le HK.out.2.2 (Nat.le_trans (by simp) hg1.size)); clear ho1 hb1 hg1 hat1)
          go_roundg (gk - 1)
          case measure => have := HK.out; omega
          case rel => exact ⟨i + 1, no, lv, by go_num, Lib.hid ⟨by have := HK.out; omega, by omega, HZ1.out⟩, Lib.hid (by rw [HHI.out]; exact HO1.out), Lib.hid (by rw [HLO.out]; exact HX1.out), HB2⟩
      · have HIQ : Hid (ys.take i = ys) := Lib.hid (List.take_of_length_le (by omega))
        have hi3 : ¬ (i : Int) < (ys.length : Int) := by omega
        go_wp2_with fail
        go_meet
        exact ⟨Lib.hid (by rw [← HIQ.out]; exact HO.out), no, lv, Lib.hid (by rw [← HIQ.out]; exact HX.out), HB⟩
  case rest =>
    obtain ⟨HO, no, lv, HX, HB⟩ := hcut
    rw [HH.out] at HO
    obtain ⟨A4, c4, rfl, hc4⟩ := Go.Proofs.Ytegacgfhmigdjaa.own_slice HO.out
    obtain ⟨LW, hLW⟩ : ∃ LW, lowL ys = LW := ⟨_, rfl⟩
    have hlw : LW.length ≤ ys.length := by rw [← hLW]; exact List.length_filter_le _ _
    rw [hLW] at HX HLW HPUT HRES
    have hd0 : decide ((0 : Int) < (LW.length : Int)) = true := decide_eq_true (by have := HLW.out; omega)
    have hd1 : 0 < LW.length := HLW.out
    have HLL : Hid (LW.length + 1 ≤ 1000000) := Lib.hid (by have := HL.out; omega)
    clear hLW
    go_wp2_with fail
    refine (builderLen_c w.heap.size w.heap.size LW no lv _ HX.out).mono ?_
    rintro e w1 ⟨rfl, rfl⟩
    go_wp2_with fail
    refine (writeByte_c w.heap.size w.heap.size LW no lv 45 _ HX.out HB.out.size HLL.out).mono ?_
    rintro e w1 ⟨rfl, lv1, hx1, he1⟩
    have HX1 := Lib.hid hx1
    have HO1 := Lib.hid (u32_keep HO.out HX.out he1)
    have HB1 := Lib.hid (below_bx HB.out HX.out he1 HB.out.size (Nat.le_refl _))
    clear hx1 he1
    go_wp2_with fail
    refine (sort_one A4 [m].length c4 (Nat.le_refl _) _).mono ?_
    rintro e w2 ⟨rfl, rfl⟩
    go_wp2_with fail
    refine (compact_one A4 [m].length c4 (Nat.le_refl _) _).mono ?_
    rintro e w2 ⟨rfl, rfl⟩
    have hm0 : A4 = A4 := rfl
    have HCM : Hid (∃ g4 o4, A4 = some ⟨g4, o4, none⟩ ∧ wrq w1 g4 o4 m) := Lib.hid (one_cell HO1.out)
    obtain ⟨g4, o4, rfl, hcm⟩ := HCM.out
    have HCC := Lib.hid hcm
    clear hcm hm0 HCM
    go_wp2_with fail
    go_loopg [7, 8, 9, 10, 42] 1 (fun kq s7 s8 s9 s10 s42 wx => (kq = 1 ∧ s42 = .int .i64 0 ∧ s7 = .int .i64 LW.length ∧ s8 = .int .u64 0 ∧ s9 = .int .u32 128 ∧ s10 = .int .i64 72 ∧ wx = w1) ∨ (kq = 0 ∧ s42 = .int .i64 1 ∧ ∃ lv2, Hid (BX wx w.heap.size w.heap.size (LW ++ [45] ++ bytesOf PT) false lv2) ∧ Hid (Below w.heap.size w wx)))
    case atStart => exact .inl ⟨rfl, rfl, rfl, rfl, rfl, rfl, rfl⟩
    case round =>
      rcases hrel with ⟨rfl, rfl, rfl, rfl, rfl, rfl, rfl⟩ | ⟨rfl, rfl, lv2, HX2, HB2⟩
      · have hcm : wr.cell? ⟨g4, o4, none⟩ = some (.int .u32 m) := HCC.out
        have hu1 : (m - 128) % 4294967296 = m - 128 := by have := HM.out; omega
        obtain ⟨D0, hD0, hq1, hq2, hq3, hq4, hq5, hq6⟩ := d0_facts m LW.length HM.out.1 HM.out.2 (by have := HLL.out; omega)
        have HD0 := Lib.hid hD0
        clear hD0
        have HDB : Hid (0 ≤ D0 ∧ D0 ≤ 1113983 * 1000001) := Lib.hid ⟨hq5, hq6⟩
        have HPU : Hid (bias_Put.f K (D0 + p) 72 = some PT) := Lib.hid (by rw [← HD0.out]; exact HPUT.out)
        go_upto_block 4 with fail
        simp only [hq2]
        clear hq1 hq2 hq3 hq4 hq5 hq6 hcm hu1
        go_cut [7, 8, 10] (fun s7 s8 s10 wx => ∃ (q b1 : Int) (lv2 : Value), s7 = .int .i64 (LW.length + 1) ∧ s8 = .int .u64 q ∧ s10 = .int .i64 b1 ∧ Hid (0 ≤ q ∧ q ≤ 1000000) ∧ Hid (BX wx w.heap.size w.heap.size (LW ++ [45] ++ bytesOf PT) false lv2) ∧ Hid (Below w.heap.size w wx))
        case first =>
          go_wp2_with fail
          go_loopg [7, 8, 10, 59] (ys.length) (fun kq s7 s8 s10 s59 wx => ∃ i : Nat, s59 = .int .i64 i ∧ Hid (kq = ys.length - i ∧ i ≤ ys.length) ∧ ((Hid (i ≤ p) ∧ s7 = .int .i64 LW.length ∧ s8 = .int .u64 (D0 + i) ∧ s10 = .int .i64 72 ∧ wx = wr) ∨ (Hid (p < i) ∧ ∃ (b1 : Int) (lv2 : Value), s7 = .int .i64 (LW.length + 1) ∧ s8 = .int .u64 ((i : Int) - p - 1) ∧ s10 = .int .i64 b1 ∧ Hid (BX wx w.heap.size w.heap.size (LW ++ [45] ++ bytesOf PT) false lv2) ∧ Hid (Below w.heap.size w wx))))
          case atStart => exact ⟨0, rfl, Lib.hid ⟨rfl, Nat.zero_le _⟩, .inl ⟨Lib.hid (Nat.zero_le _), rfl, by rw [Int.natCast_zero, Int.add_zero], rfl, rfl⟩⟩
          case round =>
            obtain ⟨i, rfl, HK, hcase⟩ := hrel
            rcases hcase with ⟨HI, rfl, rfl, rfl, rfl⟩ | ⟨HI, b1, lv2, rfl, rfl, rfl, HX2, HB2⟩
            · have hiL : i < ys.length := by have := HI.out; have := HP.out; omega
              have hi0 : (0 : Int) ≤ (i : Int) := by omega
              have hi3 : (i : Int) < (ys.length : Int) := by omega
              have hss : ys.length ≤ 100000 := HL.out
              have hcc := HS.out.at_ HB1.out i hiL
              obtain ⟨y, hye⟩ : ∃ y, ys.getD i 0 = y := ⟨_, rfl⟩
              have HYE := Lib.hid hye
              rw [hye] at hcc
              clear hye
              by_cases hip : i = p
              · have hym : y = m := by rw [← HYE.out, hip]; exact HPM.out
                rw [hym] at hcc
                clear HYE hym
                have HIP := Lib.hid hip
                have hc1 : decide (m < m) = false := decide_eq_false (Int.lt_irrefl _)
                have hc2 : (m == m) = true := beq_self_eq_true m
                have hpu : bias_Put.f K (D0 + i) 72 = some PT := by rw [hip]; exact HPU.out
                have hput := fun W => bias_Put.calls K (D0 + i) 72 PT W hpu
                have hl1 : wrap64 ((LW.length : Int) + 1) = (LW.length : Int) + 1 := w64 (by omega) (by have := HLL.out; omega)
                have hl2 : IntKind.u64.wrap ((LW.length : Int) + 1) = (LW.length : Int) + 1 := Go.Proofs.Ytegacgfhmigdjaa.u64 (by omega) (by have := HLL.out; omega)
                have had := fun W => adapt_c (D0 + i) ((LW.length : Int) + 1) true W (by have := HDB.out; omega) (by have := HDB.out; show _ ≤ (4611686018427387904 : Int); omega) (by omega)
                have HWL : Hid ((LW ++ [45]).length + PT.size ≤ 1000000) := Lib.hid (by rw [List.length_append, List.length_singleton]; have := HPT.out; have := HL.out; omega)
                have HPU2 := Lib.hid hput
                have HAD := Lib.hid had
                clear hpu hip hput had
                go_wp2_with fail
                refine (HPU2.out _).mono ?_
                rintro e w2 ⟨rfl, hb2⟩
                have HXa := Lib.hid (HX1.out.below hb2)
                have HBa := Lib.hid (below_next HB1.out hb2)
                clear hb2
                go_wp2_with fail
                refine (writeString_c w.heap.size w.heap.size (LW ++ [45]) false lv1 PT _ HXa.out HBa.out.size HWL.out).mono ?_
                rintro e w3 ⟨rfl, lv3, hx3, he3⟩
                have HX3 := Lib.hid hx3
                have HB3 := Lib.hid (below_bx HBa.out HXa.out he3 HBa.out.size (Nat.le_refl _))
                clear hx3 he3
                go_wp2_with fail
                refine (HAD.out _).mono ?_
                rintro e w4 ⟨rfl, hb4⟩
                have HX4 := Lib.hid (HX3.out.below hb4)
                have HB4 := Lib.hid (below_next HB3.out hb4)
                clear hb4
                go_wp2_with fail
                go_roundg (gk - 1)
                case measure => have := HK.out; omega
                case rel => exact ⟨i + 1, by go_num, Lib.hid ⟨by have := HK.out; omega, by omega⟩, .inr ⟨Lib.hid (by have := HIP.out; omega), _, lv3, rfl, by (congr 1; have := HIP.out; omega), rfl, HX4, HB4⟩⟩
              · have hyl : y < 128 := by rw [← HYE.out]; exact HPL.out i hiL hip
                have hc1 : decide (y < m) = true := decide_eq_true (by have := HM.out; omega)
                have hq7 : IntKind.u64.wrap (D0 + i + 1) = D0 + i + 1 := Go.Proofs.Ytegacgfhmigdjaa.u64 (by have := HDB.out; omega) (by have := HDB.out; omega)
                have HIP : Hid (i + 1 ≤ p) := Lib.hid (by have := HI.out; omega)
                clear hyl hip
                go_wp2_with fail
                go_roundg (gk - 1)
                case measure => have := HK.out; omega
                case rel => exact ⟨i + 1, by go_num, Lib.hid ⟨by have := HK.out; omega, by omega⟩, .inl ⟨HIP, rfl, by (congr 1; omega), rfl, rfl⟩⟩
            · by_cases hiL : i < ys.length
              · have hi0 : (0 : Int) ≤ (i : Int) := by omega
                have hi3 : (i : Int) < (ys.length : Int) := by omega
                have hss : ys.length ≤ 100000 := HL.out
                have hcc := HS.out.at_ HB2.out i hiL
                obtain ⟨y, hye⟩ : ∃ y, ys.getD i 0 = y := ⟨_, rfl⟩
                have HYE := Lib.hid hye
                rw [hye] at hcc
                clear hye
                have hyl : y < 128 := by rw [← HYE.out]; exact HPL.out i hiL (by have := HI.out; omega)
                have hc1 : decide (y < m) = true := decide_eq_true (by have := HM.out; omega)
                obtain ⟨q, hqq⟩ : ∃ q : Int, (i : Int) - p - 1 = q := ⟨_, rfl⟩
                have HQQ : Hid (((i + 1 : Nat) : Int) - p - 1 = q + 1) := Lib.hid (by omega)
                rw [hqq]
                have hq7 : IntKind.u64.wrap (q + 1) = q + 1 := Go.Proofs.Ytegacgfhmigdjaa.u64 (by have := HI.out; omega) (by omega)
                have HIP : Hid (p < i + 1) := Lib.hid (by have := HI.out; omega)
                clear hyl hqq
                go_wp2_with fail
                go_roundg (gk - 1)
                case measure => have := HK.out; omega
                case rel => exact ⟨i + 1, by go_num, Lib.hid ⟨by have := HK.out; omega, by omega⟩, .inr ⟨HIP, b1, lv2, rfl, by rw [HQQ.out], rfl, HX2, HB2⟩⟩
              · have hi3 : ¬ (i : Int) < (ys.length : Int) := by omega
                have HQ : Hid (0 ≤ (i : Int) - p - 1 ∧ (i : Int) - p - 1 ≤ 1000000) := Lib.hid (by have := HI.out; have := HK.out; have := HL.out; omega)
                go_wp2_with fail
                go_meet
                exact ⟨_, b1, lv2, rfl, rfl, rfl, HQ, HX2, HB2⟩
        case rest =>
          obtain ⟨q, b1, lv2, rfl, rfl, rfl, HQ, HX2, HB2⟩ := hcut
          have hq7 : IntKind.u64.wrap (q + 1) = q + 1 := Go.Proofs.Ytegacgfhmigdjaa.u64 (by have := HQ.out; omega) (by have := HQ.out; omega)
          go_wp2_with fail
          go_roundg 0
          case measure => decide
          case rel => exact .inr ⟨rfl, rfl, lv2, HX2, HB2⟩
      · go_wp2_with fail
        rw [HRES.out] at HX2
        refine (builderString_c w.heap.size w.heap.size RES false lv2 _ HX2.out (Nat.le_refl _) HB2.out.size).mono ?_
        rintro e w3 ⟨rfl, hb3⟩
        have HB3 := Lib.hid hb3
        clear hb3
        go_wp2_with fail
        go_ret
        exact ⟨rfl, below_join HB2.out HB3.out⟩
end Go.Proofs.Ytegacgfhmigdjaa
