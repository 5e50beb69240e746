/- puny.Encoder: Feed, while it goes on. -/
import Derived.Test.YtegacgfhmigdjaaUfe
namespace Go.Proofs.Ytegacgfhmigdjaa
open Go.RowKit Go.Proofs.YtegacgfhmigdjaaW.PrintWords Go.Proofs.YtegacgfhmigdjaaW.PrintLast Go.Proofs.YtegacgfhmigdjaaW.PrintMore Go.Proofs.Ytegacgfhmigdjaa.PPu
set_option linter.unusedVariables false
set_option linter.unusedSimpArgs false

/-- An encoder: what it has eaten, what went wrong, what waits. -/
structure EX (w : World) (g B : Nat) (err fat : Int) (en : Bool) (n : Int) (xs : List Int) (pend : ByteArray) (lv : Value) : Prop where
  blk : Blk w g 65 #[.int .i64 n, .int .i64 err, .int .i64 fat, .bool en, .string pend, lv]
  list : QRow w B 51 1 lv xs.length (nums .u32 xs)
theorem newenc_c (w : World) : Calls Try.prog 21 #[] w fun e w' => e = .returned (.pointer (some ⟨w.heap.size, 0, none⟩)) ∧ w' = w.alloc (.cells #[.int .i64 0, .int .i64 0, .int .i64 0, .bool false, .string ⟨#[]⟩, .slice none 0 0] 65 (0, 0)) := by
  go_enter Try.func21, Try.ntmps21
  go_wp2_with fail
  go_ret
  exact ⟨rfl, rfl⟩
theorem EX.new (w : World) (B : Nat) : EX (w.alloc (.cells #[.int .i64 0, .int .i64 0, .int .i64 0, .bool false, .string ⟨#[]⟩, .slice none 0 0] 65 (0, 0))) w.heap.size B 0 0 false 0 [] ⟨#[]⟩ (.slice none 0 0) :=
  ⟨Blk.new w _ _, ⟨rfl, .inl ⟨rfl, none, rfl, fun a h => by cases h⟩⟩⟩
theorem EX.below {w w1 : World} {g B : Nat} {err fat : Int} {en : Bool} {n : Int} {xs : List Int} {pend : ByteArray} {lv : Value} (h : EX w g B err fat en n xs pend lv) (hb : Below w.heap.size w w1) : EX w1 g B err fat en n xs pend lv :=
  ⟨h.blk.below hb, q_move h.list fun k hk => hb.block k (q_lt h.list k hk)⟩
theorem EX.at5 {w w1 : World} {g B : Nat} {err fat : Int} {en : Bool} {n : Int} {xs : List Int} {pend : ByteArray} {lv : Value} (h : EX w g B err fat en n xs pend lv) (hb : Below w.heap.size w w1) : w1.cell? ⟨g, 5, none⟩ = some lv ∧ w1.frozen? ⟨g, 5, none⟩ = false :=
  ⟨(h.blk.below hb).cell rfl, (h.blk.below hb).frozen 5⟩
theorem EX.at5g {w W w1 : World} {g B : Nat} {err fat : Int} {en : Bool} {n : Int} {xs : List Int} {pend : ByteArray} {lv : Value} (h : EX w g B err fat en n xs pend lv) (hb : Below w.heap.size w W) (hg : W.grownBy w1 lv.ownBlock) : w1.cell? ⟨g, 5, none⟩ = some lv ∧ w1.frozen? ⟨g, 5, none⟩ = false := by
  have h2 := h.below hb
  have hb1 : Blk w1 g _ _ := (hg.block g h2.blk.lt (own_types h2.list h2.blk (by decide))).trans h2.blk
  exact ⟨hb1.cell rfl, hb1.frozen 5⟩
theorem EX.step {w0 w W w1 : World} {g B : Nat} {err fat : Int} {en : Bool} {n : Int} {xs xs1 : List Int} {pend : ByteArray} {lv lv1 : Value} (h : EX w g B err fat en n xs pend lv) (hb : Below w.heap.size w W) (hg : W.grownBy w1 lv.ownBlock) (hq : QRow w1 B 51 1 lv1 xs1.length (nums .u32 xs1)) (hE : Eff w0 w (fun k => k = g ∨ B ≤ k)) :
    EX (w1.setCell ⟨g, 5, none⟩ lv1) g B err fat en n xs1 pend lv1 ∧ Eff w0 (w1.setCell ⟨g, 5, none⟩ lv1) (fun k => k = g ∨ B ≤ k) := by
  have h2 := h.below hb
  have hb1 : Blk w1 g _ _ := (hg.block g h2.blk.lt (own_types h2.list h2.blk (by decide))).trans h2.blk
  have hne1 := own_types hq hb1 (by decide)
  refine ⟨⟨hb1.set 5 lv1, q_move hq fun k hk => Below.heap_setCell w1 _ _ k fun e => hne1 (by rw [hk, e])⟩, ?_⟩
  exact ((hE.trans (Eff.of_below hb _) (fun _ _ h => h)).trans (Eff.of_grown hg) (fun k _ hk => .inr (q_own_ge h.list k hk.symm))).trans (Eff.set w1 g 5 lv1) (fun k _ hk => .inl hk)
theorem EX.eat {w : World} {g B : Nat} {err fat : Int} {en : Bool} {n : Int} {xs : List Int} {pend : ByteArray} {lv : Value} (h : EX w g B err fat en n xs pend lv) (m : Int) : EX (w.setCell ⟨g, 0, none⟩ (.int .i64 m)) g B err fat en m xs pend lv := by
  have hne := own_types h.list h.blk (by decide)
  exact ⟨h.blk.set 0 _, q_move h.list fun k hk => Below.heap_setCell w _ _ k fun e => hne (by rw [hk, e])⟩
theorem EX.stop {w : World} {g B : Nat} {n : Int} {xs : List Int} {pend : ByteArray} {lv : Value} (h : EX w g B 0 0 false n xs pend lv) (e : Int) : EX ((w.setCell ⟨g, 1, none⟩ (.int .i64 e)).setCell ⟨g, 2, none⟩ (.int .i64 n)) g B e n false n xs pend lv := by
  have hne := own_types h.list h.blk (by decide)
  refine ⟨(h.blk.set 1 _).set 2 _, q_move h.list fun k hk => ?_⟩
  have hk2 : k ≠ g := fun e => hne (by rw [hk, e])
  rw [Below.heap_setCell _ _ _ k hk2, Below.heap_setCell _ _ _ k hk2]
/-- How many are eaten: those ahead of the first that is no scalar. -/
def scalN (ys : List Int) : Nat → Nat → Nat
  | 0, i => i
  | k + 1, i => if i < ys.length then (if isP (ys.getD i 0) = true then scalN ys k (i + 1) else i) else i
theorem scal_stop {ys : List Int} {i : Nat} (hi : i < ys.length) (hb : isP (ys.getD i 0) = false) : scalN ys (ys.length - i) i = i := by
  obtain ⟨k, hk⟩ : ∃ k, ys.length - i = k + 1 := ⟨ys.length - i - 1, by omega⟩
  rw [hk, scalN, if_pos hi, if_neg (by rw [hb]; decide)]
theorem scal_on {ys : List Int} {i : Nat} (hi : i < ys.length) (hb : isP (ys.getD i 0) = true) : scalN ys (ys.length - i) i = scalN ys (ys.length - (i + 1)) (i + 1) := by
  obtain ⟨k, hk⟩ : ∃ k, ys.length - i = k + 1 := ⟨ys.length - i - 1, by omega⟩
  rw [hk, scalN, if_pos hi, if_pos hb, show ys.length - (i + 1) = k by omega]
theorem scal_end {ys : List Int} {i : Nat} (hi : i = ys.length) : scalN ys (ys.length - i) i = ys.length := by
  subst hi; rw [Nat.sub_self]; rfl
def encN (ys : List Int) : Nat := scalN ys ys.length 0
theorem reads_oned (w : World) (x : Int) : ReadsInt (w.alloc (.cells #[.int .u32 x] 51 (0, 0))).drew .u32 (some ⟨w.heap.size, 0, none⟩) 1 [x] := reads_one w x x rfl
theorem take_succ_getD (ys : List Int) (i : Nat) (h : i < ys.length) : ys.take (i + 1) = ys.take i ++ [ys.getD i 0] := by
  rw [List.take_add_one, List.getD_eq_getElem?_getD, List.getElem?_eq_getElem h]
  rfl
/-- The numbers that come, and where they lie: not in the encoder's own row. -/
structure SrcU (w : World) (g pb po : Nat) (ys : List Int) (lv : Value) : Prop where
  ne : pb ≠ g
  own : lv.ownBlock ≠ some pb
  lt : ys.length ≠ 0 → pb < w.heap.size
  cells : ∀ j, j < ys.length → w.cell? ⟨pb, po + j, none⟩ = some (.int .u32 (ys.getD j 0))
theorem SrcU.set {w : World} {g pb po i : Nat} {ys : List Int} {lv v : Value} (h : SrcU w g pb po ys lv) : SrcU (w.setCell ⟨g, i, none⟩ v) g pb po ys lv := by
  refine ⟨h.ne, h.own, fun hl => Nat.lt_of_lt_of_le (h.lt hl) (by simp [World.setCell]), fun j hj => ?_⟩
  have hc := h.cells j hj
  have hb : (w.setCell ⟨g, i, none⟩ v).heap[pb]? = w.heap[pb]? := Below.heap_setCell w ⟨g, i, none⟩ v pb h.ne
  unfold World.cell? at hc ⊢
  simp only at hc ⊢
  rw [hb]
  exact hc
theorem SrcU.grown {w W w1 : World} {g pb po : Nat} {ys : List Int} {lv lv1 : Value} (h : SrcU w g pb po ys lv) (hl : ys.length ≠ 0) (hb : Below w.heap.size w W) (hg : W.grownBy w1 lv.ownBlock) (hat : lv1.ownBlock = lv.ownBlock ∨ ∃ b, lv1.ownBlock = some b ∧ W.heap.size ≤ b) : SrcU w1 g pb po ys lv1 := by
  have hlt := h.lt hl
  have hlW : pb < W.heap.size := Nat.lt_of_lt_of_le hlt hb.size
  refine ⟨h.ne, ?_, fun _ => Nat.lt_of_lt_of_le hlW hg.size, fun j hj => ?_⟩
  · rcases hat with e | ⟨b, e, hb2⟩
    · rw [e]; exact h.own
    · rw [e]; intro e2; injection e2 with e2; omega
  · have hc := h.cells j hj
    have hblk : w1.heap[pb]? = w.heap[pb]? := (hg.block pb hlW fun e => h.own e.symm).trans (hb.block pb hlt)
    unfold World.cell? at hc ⊢
    simp only at hc ⊢
    rw [hblk]
    exact hc
theorem SrcU.below {w w1 : World} {g pb po : Nat} {ys : List Int} {lv : Value} (h : SrcU w g pb po ys lv) (hb : Below w.heap.size w w1) : SrcU w1 g pb po ys lv :=
  ⟨h.ne, h.own, fun hl => Nat.lt_of_lt_of_le (h.lt hl) hb.size, fun j hj => (hb.cell (p := ⟨pb, po + j, none⟩) (h.lt (by omega))).trans (h.cells j hj)⟩
theorem empty_extract (a b : Nat) : (⟨#[]⟩ : ByteArray).extract a b = ⟨#[]⟩ := by
  have h : ((⟨#[]⟩ : ByteArray).extract a b).size = 0 := by rw [ByteArray.size_extract]; show min b 0 - a = 0; omega
  exact ByteArray.ext (Array.eq_empty_of_size_eq_zero h)
theorem EX.pend {w : World} {g B : Nat} {err fat : Int} {en : Bool} {n : Int} {xs : List Int} {p : ByteArray} {lv : Value} (h : EX w g B err fat en n xs p lv) (q : ByteArray) : EX (w.setCell ⟨g, 4, none⟩ (.string q)) g B err fat en n xs q lv := by
  have hne := own_types h.list h.blk (by decide)
  exact ⟨h.blk.set 4 _, q_move h.list fun k hk => Below.heap_setCell w _ _ k fun e => hne (by rw [hk, e])⟩
/-- What Feed leaves behind. -/
def EncF (w0 w : World) (g B : Nat) (n : Int) (xs ys : List Int) : Prop :=
  (∃ lv, EX w g B (if encN ys < ys.length then 2 else 0) (if encN ys < ys.length then n + encN ys else 0) false (n + encN ys) (xs ++ ys.take (encN ys)) ⟨#[]⟩ lv) ∧ Eff w0 w (fun k => k = g ∨ B ≤ k)
set_option maxRecDepth 100000 in
set_option maxHeartbeats 4000000 in
theorem enc_go (g B pb po c : Nat) (n : Int) (xs ys : List Int) (lv : Value) (room : Int) (w : World) (hd : EX w g B 0 0 false n xs ⟨#[]⟩ lv) (hsrc : SrcU w g pb po ys lv) (hB : B ≤ w.heap.size) (h0 : 0 ≤ n) (hn : n + ys.length ≤ 1000000) (hl : xs.length + ys.length ≤ 1000000) :
    Calls Try.prog 27 #[.pointer (some ⟨g, 0, none⟩), .slice (some ⟨pb, po, none⟩) ys.length c, .int .i64 room] w fun e w' => e = .returned (.tuple #[.int .i64 (encN ys), .string ⟨#[]⟩]) ∧ EncF w w' g B n xs ys := by
  have HD := Lib.hid hd
  have HSR := Lib.hid hsrc
  have HH := Lib.hid (And.intro hB (And.intro h0 (And.intro hn hl)))
  clear hd hsrc hB h0 hn hl
  go_enter Try.func27, Try.ntmps27
  go_upto_block 0 with fail
  go_cut [8] (fun s8 wx => s8 = .int .i64 (encN ys) ∧ Hid (EncF w wx g B n xs ys))
  case first =>
    go_wp2_with fail
    go_loopg [8] (ys.length) (fun kq s8 wx => ∃ (i : Nat) (lv1 : Value), s8 = .int .i64 i ∧ Hid (kq = ys.length - i ∧ i ≤ ys.length ∧ scalN ys (ys.length - i) i = encN ys) ∧ Hid (EX wx g B 0 0 false (n + i) (xs ++ ys.take i) ⟨#[]⟩ lv1) ∧ Hid (SrcU wx g pb po ys lv1) ∧ Hid (Eff w wx (fun k => k = g ∨ B ≤ k)))
    case atStart => exact ⟨0, lv, rfl, Lib.hid ⟨rfl, Nat.zero_le _, rfl⟩, Lib.hid (by simpa using HD.out), HSR, Lib.hid (Eff.refl _ _)⟩
    case round =>
      obtain ⟨i, lv1, rfl, HK, HG, HS, HE⟩ := hrel
      by_cases hi : i < ys.length
      · have hi0 : (0 : Int) ≤ (i : Int) := by omega
        have hi3 : (i : Int) < (ys.length : Int) := by omega
        have hss : ys.length ≤ 1000000 := by have := HH.out; omega
        have hcc := HS.out.cells i hi
        obtain ⟨y, hy⟩ : ∃ y, ys.getD i 0 = y := ⟨_, rfl⟩
        rw [hy] at hcc
        have HY := Lib.hid hy
        have HNZ : Hid (ys.length ≠ 0) := Lib.hid (by omega)
        clear hy
        cases hb : isP y with
        | false =>
          have HN : Hid (encN ys = i ∧ i < ys.length) := Lib.hid ⟨HK.out.2.2.symm.trans (scal_stop hi (by rw [HY.out]; exact hb)), hi⟩
          have hic := fun W => is_c y W
          rw [hb] at hic
          clear hb
          go_wp2_with (first
            | (go_at_call 38; refine (going_yes HG.out.blk rfl rfl).mono ?_; rintro e w1 ⟨rfl, rfl⟩)
            | (go_at_call 45; refine (hic _).mono ?_; rintro e w2 ⟨rfl, hb2⟩; have HB2 := Lib.hid hb2; have HG2 := Lib.hid (HG.out.below hb2); clear hb2)
            | (go_at_call 39; refine (stop_c (err := 2) (by decide) HG2.out.blk rfl rfl rfl rfl).mono ?_; rintro e w3 ⟨rfl, rfl⟩))
          go_meet
          refine ⟨by rw [HN.out.1], Lib.hid ⟨⟨lv1, ?_⟩, ?_⟩⟩
          · rw [HN.out.1, if_pos HN.out.2, if_pos HN.out.2]
            exact HG2.out.stop 2
          · exact ((HE.out.trans (Eff.of_below HB2.out _) (fun _ _ h => h)).trans (Eff.set _ g 1 _) (fun _ _ h => .inl h)).trans (Eff.set _ g 2 _) (fun _ _ h => .inl h)
        | true =>
          have HN : Hid (scalN ys (ys.length - (i + 1)) (i + 1) = encN ys) := Lib.hid ((scal_on hi (by rw [HY.out]; exact hb)).symm.trans HK.out.2.2)
          have hic := fun W => is_c y W
          rw [hb] at hic
          clear hb
          go_upto_region 5 with (first
            | (go_at_call 38; refine (going_yes HG.out.blk rfl rfl).mono ?_; rintro e w1 ⟨rfl, rfl⟩)
            | (go_at_call 45; refine (hic _).mono ?_; rintro e w2 ⟨rfl, hb2⟩; have HB2 := Lib.hid hb2; have HG2 := Lib.hid (HG.out.below hb2); clear hb2))
          obtain ⟨X, hX⟩ : ∃ X, xs ++ ys.take i = X := ⟨_, rfl⟩
          have HXX : Hid (xs ++ ys.take (i + 1) = X ++ [y]) := Lib.hid (by rw [take_succ_getD ys i hi, HY.out, ← List.append_assoc, hX])
          have HXL : Hid (X.length = xs.length + i) := Lib.hid (by rw [← hX, List.length_append, List.length_take]; omega)
          have HG3 : Hid (EX w2 g B 0 0 false (n + i) X ⟨#[]⟩ lv1) := by rw [← hX]; exact HG2
          have HS2 := Lib.hid (HS.out.below HB2.out)
          have HE2 := Lib.hid (HE.out.trans (Eff.of_below HB2.out _) (fun _ _ h => h))
          clear HG HG2 HS HE hX hcc hic
          obtain ⟨A1, c1, rfl, hc1⟩ := q_slice HG3.out.list
          have mixed : Try.prog.follows Departure.mixedOrders = true := by kernel_rfl
          have hcc1 := HS2.out.cells i hi
          have hcc2 := (HS2.out.below (below_alloc (Below.refl _ _) (.cells #[.int .u32 y] 51 (0, 0)))).cells i hi
          rw [HY.out] at hcc1 hcc2
          obtain ⟨hS0, hS1⟩ := HG3.out.at5 (Below.refl _ _)
          obtain ⟨hS2, hS3⟩ := HG3.out.at5 (below_alloc (Below.refl _ _) (.cells #[.int .u32 y] 51 (0, 0)))
          have HSZ : Hid (B ≤ w2.heap.size) := Lib.hid (Nat.le_trans HH.out.1 HE2.out.size)
          have HLB : Hid ((X.length + 1) * 4 ≤ 140737488355328) := Lib.hid (by have := HXL.out; have := HH.out; omega)
          go_cut [8] (fun s8 wx => s8 = .int .i64 i ∧ ∃ lv2, Hid (EX wx g B 0 0 false (n + i) (xs ++ ys.take (i + 1)) ⟨#[]⟩ lv2) ∧ Hid (SrcU wx g pb po ys lv2) ∧ Hid (Eff w wx (fun k => k = g ∨ B ≤ k)))
          case first =>
            go_region_law_o (refine q_step B rfl (.tmp 35) (.tmp 40) 26 51 .u32 4 rfl Try.underlying26 info_u32 (by decide) (.slice A1 X.length c1) X [y] (some ⟨w2.heap.size, 0, none⟩) 1 1 (by rfl) (by rfl) (HG3.out.below (below_drew1 (below_alloc (Below.refl _ _) _))).list (reads_oned w2 _) (Nat.le_trans HSZ.out (by simp)) HLB.out ?_; intro v7 w7 hq7 hg7 hat7; have HS7 := Lib.hid (HS2.out.grown HNZ.out (below_drew1 (below_alloc (Below.refl _ _) _)) hg7 hat7); obtain ⟨A7, k7, rfl, hk7⟩ := q_slice hq7; have HQ7 := Lib.hid hq7; have HG7 := Lib.hid hg7; obtain ⟨hS7, hS8⟩ := HG3.out.at5g (below_drew1 (below_alloc (Below.refl _ _) _)) hg7; clear hq7 hg7 hat7)
            all_goals (go_wp2_with fail; go_meet)
            all_goals
              rw [show X.length + 1 = (X ++ [y]).length by simp]
              obtain ⟨a1, a2⟩ := HG3.out.step (below_drew1 (below_alloc (Below.refl _ _) _)) HG7.out HQ7.out HE2.out
              exact ⟨rfl, _, Lib.hid (by rw [HXX.out]; exact a1), Lib.hid HS7.out.set, Lib.hid a2⟩
          case rest =>
            obtain ⟨rfl, lv2, HG4, HS4, HE4⟩ := hcut
            go_wp2_with (go_at_call 40; refine (eat_c HG4.out.blk rfl rfl rfl (by have := HH.out; omega) (by have := HH.out; omega)).mono ?_; rintro e w3 ⟨rfl, rfl⟩)
            go_roundg (gk - 1)
            case measure => have := HK.out; omega
            case rel => exact ⟨i + 1, lv2, by go_num, Lib.hid ⟨by have := HK.out; omega, by omega, HN.out⟩, Lib.hid (by have h := HG4.out.eat (n + i + 1); rw [show n + ((i + 1 : Nat) : Int) = n + i + 1 by omega]; exact h), Lib.hid HS4.out.set, Lib.hid (HE4.out.trans (Eff.set _ g 0 _) (fun _ _ h => .inl h))⟩
      · have HIQ : Hid (i = ys.length) := Lib.hid (by have := HK.out; omega)
        have HN : Hid (encN ys = ys.length) := Lib.hid (HK.out.2.2.symm.trans (scal_end HIQ.out))
        have hi3 : ¬ (i : Int) < (ys.length : Int) := by omega
        go_wp2_with fail
        go_meet
        refine ⟨by rw [HN.out, HIQ.out], Lib.hid ⟨⟨lv1, ?_⟩, HE.out⟩⟩
        rw [HN.out, if_neg (Nat.lt_irrefl _), if_neg (Nat.lt_irrefl _), ← HIQ.out]
        exact HG.out
  case rest =>
    obtain ⟨rfl, HF⟩ := hcut
    obtain ⟨⟨lv2, hx⟩, he⟩ := HF.out
    have HX := Lib.hid hx
    have HE := Lib.hid he
    clear hx he HF
    go_wp2_with (go_at_call 46; refine (give_c (o := 4) HX.out.blk rfl).mono ?_; rintro e w1 ⟨rfl, rfl⟩)
    rw [empty_extract]
    refine bodyPost_ret (v := .tuple #[.int .i64 (encN ys), .string ⟨#[]⟩]) (by simp [results, Try.results27, go_sem]) rfl ?_
    exact ⟨rfl, ⟨lv2, by have h := HX.out.pend ((⟨#[]⟩ : ByteArray).extract (giveN room 0) 0); rw [empty_extract] at h; exact (by first | exact h | (rw [empty_extract]; exact h))⟩, HE.out.trans (Eff.set _ g 4 _) (fun _ _ h => .inl h)⟩
end Go.Proofs.Ytegacgfhmigdjaa
