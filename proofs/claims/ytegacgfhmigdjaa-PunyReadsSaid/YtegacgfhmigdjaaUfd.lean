/- puny.Decoder: Feed and End. -/
import Derived.Test.YtegacgfhmigdjaaUdn
import Derived.Deep.RegionHeld3
import Derived.Deep.AppendLies
namespace Go.Proofs.Ytegacgfhmigdjaa
open Go.RowKit Go.Proofs.YtegacgfhmigdjaaW.PrintWords Go.Proofs.YtegacgfhmigdjaaW.PrintLast Go.Proofs.YtegacgfhmigdjaaW.PrintMore Go.Proofs.Ytegacgfhmigdjaa.PPu
set_option linter.unusedVariables false
set_option linter.unusedSimpArgs false

/-- append to a row as one step of a region of open order. -/
theorem q_step {P : Program} {ops : Array Oper} {o : Oper} {a : Act} {K : Act → World → Prop} {Q : Exit → Act → World → Prop} {E : Prop} {W : World} (base : Nat) (hgd : o.guard = none) (s x : Operand) (t e : TypeId) (k : IntKind) (bytes : Nat)
    (ho : o.op = .call { callee := .builtin .append, args := #[s, x], argTypes := #[t, t] }) (ht : P.underlying t = some (.slice e)) (hinfo : (P.info? e).map (fun i => (i.zero, i.size, i.bytes)) = some (some (.int k 0), 1, bytes)) (hb0 : 0 < bytes)
    (v : Value) (xs ys : List Int) (A : Option Addr) (m c : Nat) (hs : a.eval s = v) (hx : a.eval x = .slice A m c)
    (HO : QRow W base e 1 v xs.length (nums k xs)) (HR : ReadsInt W k A m ys) (hbase : base ≤ W.heap.size) (hl : (xs.length + m) * bytes ≤ 140737488355328)
    (h : ∀ v1 w1, QRow w1 base e 1 v1 (xs ++ ys).length (nums k (xs ++ ys)) → W.grownBy w1 v.ownBlock → (v1.ownBlock = v.ownBlock ∨ ∃ b, v1.ownBlock = some b ∧ W.heap.size ≤ b) → K (a.put o.dst v1) w1) :
    if Region.wanted o (yielded ops a.tmps) = true then Oper.wp P o a W K Q else E := by
  obtain ⟨v1, w1, hr, hq, hg, hat⟩ := q_run_row (P := P) base t o.type e k bytes ht hinfo hb0 v xs ys A m c HO HR hbase hl
  rw [if_pos (by simp [Region.wanted, hgd])]
  unfold Oper.wp execOp
  simp only [ho, resolve, invoke, builtin, Sem.run_bind, Sem.run_pure, Result.andThen_ok, List.map_toArray, List.map_cons, List.map_nil, hs, hx, hr]
  exact h v1 w1 hq hg hat
theorem reads_u8 (w : World) (x : Int) : ReadsInt (w.alloc (.cells #[.int .u8 x] 5 (0, 0))) .u8 (some ⟨w.heap.size, 0, none⟩) 1 [x] := by
  refine ⟨rfl, by decide, fun _ => ⟨_, rfl, fun k hk => ?_⟩⟩
  obtain rfl : k = 0 := by omega
  rw [Addr.add_lit]
  exact (Blk.new w 5 #[.int .u8 x]).cell rfl
theorem reads_u8d (w : World) (x : Int) : ReadsInt (w.alloc (.cells #[.int .u8 x] 5 (0, 0))).drew .u8 (some ⟨w.heap.size, 0, none⟩) 1 [x] := reads_u8 w x
theorem q_eff {w w1 : World} {base n size : Nat} {e : TypeId} {v : Value} {xs : List Value} {S : Nat → Prop} (h : QRow w base e size v n xs) (he : Eff w w1 S) (hS : ∀ k, v.ownBlock = some k → ¬ S k) : QRow w1 base e size v n xs :=
  q_move h fun k hk => he.block k (q_lt h k hk) (hS k hk)
/-- A decoder that holds no scalars: what it has eaten, what went wrong. -/
structure DX (w : World) (g B : Nat) (err fat : Int) (en : Bool) (n : Int) (tx : List Int) (lv tv : Value) : Prop where
  blk : Blk w g 43 #[.int .i64 n, .int .i64 err, .int .i64 fat, .bool en, lv, tv]
  list : QRow w B 51 1 lv ([] : List Int).length (nums .u32 [])
  own : lv.ownBlock = none
  text : QRow w B 5 1 tv tx.length (nums .u8 tx)
theorem DX.set {w w1 : World} {g B : Nat} {err fat : Int} {en : Bool} {n : Int} {tx tx1 : List Int} {lv tv tv1 : Value} (h : DX w g B err fat en n tx lv tv) (hg : w.grownBy w1 tv.ownBlock) (hq : QRow w1 B 5 1 tv1 tx1.length (nums .u8 tx1)) : DX (w1.setCell ⟨g, 5, none⟩ tv1) g B err fat en n tx1 lv tv1 := by
  have hne := own_types h.text h.blk (by decide)
  have hb1 : Blk w1 g _ _ := (hg.block g h.blk.lt hne).trans h.blk
  have hne1 := own_types hq hb1 (by decide)
  refine ⟨hb1.set 5 tv1, q_move h.list fun k hk => ?_, h.own, q_move hq fun k hk => Below.heap_setCell w1 _ _ k fun e => hne1 (by rw [hk, e])⟩
  rw [h.own] at hk; cases hk
theorem DX.eat {w : World} {g B : Nat} {err fat : Int} {en : Bool} {n : Int} {tx : List Int} {lv tv : Value} (h : DX w g B err fat en n tx lv tv) (m : Int) : DX (w.setCell ⟨g, 0, none⟩ (.int .i64 m)) g B err fat en m tx lv tv := by
  have hne := own_types h.text h.blk (by decide)
  refine ⟨h.blk.set 0 _, q_move h.list fun k hk => ?_, h.own, q_move h.text fun k hk => Below.heap_setCell w _ _ k fun e => hne (by rw [hk, e])⟩
  rw [h.own] at hk; cases hk
theorem DX.below {w w1 : World} {g B : Nat} {err fat : Int} {en : Bool} {n : Int} {tx : List Int} {lv tv : Value} (h : DX w g B err fat en n tx lv tv) (hb : Below w.heap.size w w1) : DX w1 g B err fat en n tx lv tv :=
  ⟨h.blk.below hb, q_move h.list fun k hk => hb.block k (q_lt h.list k hk), h.own, q_move h.text fun k hk => hb.block k (q_lt h.text k hk)⟩
theorem DX.at5 {w w1 : World} {g B : Nat} {err fat : Int} {en : Bool} {n : Int} {tx : List Int} {lv tv : Value} (h : DX w g B err fat en n tx lv tv) (hb : Below w.heap.size w w1) : w1.cell? ⟨g, 5, none⟩ = some tv ∧ w1.frozen? ⟨g, 5, none⟩ = false :=
  ⟨(h.blk.below hb).cell rfl, (h.blk.below hb).frozen 5⟩
theorem DX.at5g {w W w1 : World} {g B : Nat} {err fat : Int} {en : Bool} {n : Int} {tx : List Int} {lv tv : Value} (h : DX w g B err fat en n tx lv tv) (hb : Below w.heap.size w W) (hg : W.grownBy w1 tv.ownBlock) : w1.cell? ⟨g, 5, none⟩ = some tv ∧ w1.frozen? ⟨g, 5, none⟩ = false := by
  have h2 := h.below hb
  have hb1 : Blk w1 g _ _ := (hg.block g h2.blk.lt (own_types h2.text h2.blk (by decide))).trans h2.blk
  exact ⟨hb1.cell rfl, hb1.frozen 5⟩
theorem q_own_ge {w : World} {base n size : Nat} {e : TypeId} {v : Value} {xs : List Value} (h : QRow w base e size v n xs) (k : Nat) (hk : v.ownBlock = some k) : base ≤ k := by
  rcases h.2 with ⟨_, A, rfl, hA⟩ | ⟨g, off, cap, cur, rfl, hb, _⟩
  · cases A with
    | none => cases hk
    | some a => injection hk with hk; rw [← hk]; exact (hA a rfl).1
  · injection hk with hk; rw [← hk]; exact hb
theorem DX.step {w0 w W w1 : World} {g B : Nat} {err fat : Int} {en : Bool} {n : Int} {tx tx1 : List Int} {lv tv tv1 : Value} (h : DX w g B err fat en n tx lv tv) (hb : Below w.heap.size w W) (hg : W.grownBy w1 tv.ownBlock) (hq : QRow w1 B 5 1 tv1 tx1.length (nums .u8 tx1)) (hE : Eff w0 w (fun k => k = g ∨ B ≤ k)) :
    DX (w1.setCell ⟨g, 5, none⟩ tv1) g B err fat en n tx1 lv tv1 ∧ Eff w0 (w1.setCell ⟨g, 5, none⟩ tv1) (fun k => k = g ∨ B ≤ k) := by
  refine ⟨(h.below hb).set hg hq, ?_⟩
  refine ((hE.trans (Eff.of_below hb _) (fun _ _ h => h)).trans (Eff.of_grown hg) (fun k _ hk => .inr (q_own_ge h.text k hk.symm))).trans (Eff.set w1 g 5 tv1) (fun k _ hk => .inl hk)
abbrev DG (w : World) (g B : Nat) (n : Int) (tx : List Int) (lv tv : Value) : Prop := DX w g B 0 0 false n tx lv tv
theorem DX.stop {w : World} {g B : Nat} {n : Int} {tx : List Int} {lv tv : Value} (h : DX w g B 0 0 false n tx lv tv) (e : Int) : DX ((w.setCell ⟨g, 1, none⟩ (.int .i64 e)).setCell ⟨g, 2, none⟩ (.int .i64 n)) g B e n false n tx lv tv := by
  have hne := own_types h.text h.blk (by decide)
  refine ⟨(h.blk.set 1 _).set 2 _, q_move h.list fun k hk => ?_, h.own, q_move h.text fun k hk => ?_⟩
  · rw [h.own] at hk; cases hk
  · have hk2 : k ≠ g := fun e => hne (by rw [hk, e])
    rw [Below.heap_setCell _ _ _ k hk2, Below.heap_setCell _ _ _ k hk2]
/-- How many bytes are eaten: those ahead of the first that is above 7F. -/
def lowN (s : ByteArray) : Nat → Nat → Nat
  | 0, i => i
  | k + 1, i => if i < s.size then (if bt s i ≥ 128 then i else lowN s k (i + 1)) else i
theorem own_le {w : World} {base b2 n size : Nat} {e : TypeId} {v : Value} {xs : List Value} (h : w.ownsRow base e size v n xs) (hb : b2 ≤ base) : w.ownsRow b2 e size v n xs := by
  refine ⟨h.1, ?_⟩
  rcases h.2 with h2 | ⟨g, cap, cur, h1, h2, h3⟩
  · exact .inl h2
  · exact .inr ⟨g, cap, cur, h1, Nat.le_trans hb h2, h3⟩
theorem DX.told {w w1 : World} {g B : Nat} {err fat : Int} {en : Bool} {n : Int} {tx : List Int} {lv tv lv' : Value} (h : DX w g B err fat en n tx lv tv) (hb : Blk w1 g 43 #[.int .i64 n, .int .i64 err, .int .i64 fat, .bool en, lv', tv]) (hq : QRow w1 B 51 1 lv' 0 [])
    (hl : lv'.ownBlock = lv.ownBlock ∨ lv'.ownBlock = none) (he : Eff w w1 (fun k => k = g)) : DX w1 g B err fat en n tx lv' tv := by
  have hne := own_types h.text h.blk (by decide)
  refine ⟨hb, hq, ?_, q_eff h.text he fun k hk e => hne (by rw [hk, e])⟩
  rcases hl with h2 | h2
  · rw [h2, h.own]
  · exact h2
theorem low_stop {s : ByteArray} {i : Nat} (hi : i < s.size) (hb : bt s (i : Int) ≥ 128) : lowN s (s.size - i) i = i := by
  obtain ⟨k, hk⟩ : ∃ k, s.size - i = k + 1 := ⟨s.size - i - 1, by omega⟩
  rw [hk, lowN, if_pos hi, if_pos hb]
theorem low_on {s : ByteArray} {i : Nat} (hi : i < s.size) (hb : ¬ bt s (i : Int) ≥ 128) : lowN s (s.size - i) i = lowN s (s.size - (i + 1)) (i + 1) := by
  obtain ⟨k, hk⟩ : ∃ k, s.size - i = k + 1 := ⟨s.size - i - 1, by omega⟩
  rw [hk, lowN, if_pos hi, if_neg hb, show s.size - (i + 1) = k by omega]
theorem low_end {s : ByteArray} {i : Nat} (hi : i = s.size) : lowN s (s.size - i) i = s.size := by
  subst hi; rw [Nat.sub_self]; rfl
def feedN (s : ByteArray) : Nat := lowN s s.size 0
/-- What Feed leaves behind. -/
def Fed (w0 w : World) (g B : Nat) (n : Int) (tx : List Int) (s : ByteArray) (lv : Value) : Prop :=
  (∃ tv, DX w g B (if feedN s < s.size then 3 else 0) (if feedN s < s.size then n + feedN s else 0) false (n + feedN s) (tx ++ preL s (feedN s)) lv tv) ∧ Eff w0 w (fun k => k = g ∨ B ≤ k)
set_option maxRecDepth 100000 in
set_option maxHeartbeats 4000000 in
theorem feed_go (g B : Nat) (n : Int) (tx : List Int) (lv tv : Value) (s : ByteArray) (room : Int) (w : World) (hd : DG w g B n tx lv tv) (hr : 0 < room) (hB : B ≤ w.heap.size) (h0 : 0 ≤ n) (hn : n + s.size ≤ 1000000) (hl : tx.length + s.size ≤ 1000000) :
    Calls Try.prog 25 #[.pointer (some ⟨g, 0, none⟩), .string s, .int .i64 room] w fun e w' => ∃ v lv', e = .returned (.tuple #[.int .i64 (feedN s), v]) ∧ w'.ownsRow w.heap.size 51 1 v 0 [] ∧ Fed w w' g B n tx s lv' := by
  have HD := Lib.hid hd
  have HH := Lib.hid (And.intro hB (And.intro h0 (And.intro hn hl)))
  clear hd hB h0 hn hl
  go_enter Try.func25, Try.ntmps25
  go_upto_block 0 with fail
  go_cut [8] (fun s8 wx => s8 = .int .i64 (feedN s) ∧ Hid (Fed w wx g B n tx s lv))
  case first =>
    go_wp2_with fail
    go_loopg [8] (s.size) (fun kq s8 wx => ∃ (i : Nat) (tv1 : Value), s8 = .int .i64 i ∧ Hid (kq = s.size - i ∧ i ≤ s.size ∧ lowN s (s.size - i) i = feedN s) ∧ Hid (DG wx g B (n + i) (tx ++ preL s i) lv tv1) ∧ Hid (Eff w wx (fun k => k = g ∨ B ≤ k)))
    case atStart => exact ⟨0, tv, rfl, Lib.hid ⟨rfl, Nat.zero_le _, rfl⟩, Lib.hid (by simpa [preL] using HD.out), Lib.hid (Eff.refl _ _)⟩
    case round =>
      obtain ⟨i, tv1, rfl, HK, HG, HE⟩ := hrel
      by_cases hi : i < s.size
      · have hi0 : (0 : Int) ≤ (i : Int) := by omega
        have hi3 : (i : Int) < (s.size : Int) := by omega
        have hss : s.size ≤ 1000000 := by have := HH.out; omega
        have hbt : (s[i].toNat : Int) = bt s (i : Int) := by
          have h := bt_at s (i : Int) (by rw [Int.toNat_natCast]; exact hi)
          simpa using h
        by_cases hb : bt s (i : Int) ≥ 128
        · have hb1 : decide (128 ≤ bt s (i : Int)) = true := decide_eq_true hb
          have HN : Hid (feedN s = i ∧ i < s.size) := Lib.hid ⟨HK.out.2.2.symm.trans (low_stop hi hb), hi⟩
          clear hb
          go_wp2_with (first
            | (go_at_call 38; refine (going_yes HG.out.blk rfl rfl).mono ?_; rintro e w1 ⟨rfl, rfl⟩)
            | (go_at_call 39; refine (stop_c (err := 3) (by decide) HG.out.blk rfl rfl rfl rfl).mono ?_; rintro e w1 ⟨rfl, rfl⟩))
          go_meet
          refine ⟨by rw [HN.out.1], Lib.hid ⟨⟨tv1, ?_⟩, ?_⟩⟩
          · rw [HN.out.1, if_pos HN.out.2, if_pos HN.out.2]
            exact HG.out.stop 3
          · exact (HE.out.trans (Eff.set _ g 1 _) (fun _ _ h => .inl h)).trans (Eff.set _ g 2 _) (fun _ _ h => .inl h)
        · have hb1 : decide (128 ≤ bt s (i : Int)) = false := decide_eq_false hb
          have HN : Hid (lowN s (s.size - (i + 1)) (i + 1) = feedN s) := Lib.hid ((low_on hi hb).symm.trans HK.out.2.2)
          clear hb
          obtain ⟨X, hX⟩ : ∃ X, tx ++ preL s i = X := ⟨_, rfl⟩
          have HX : Hid (tx ++ preL s (i + 1) = X ++ [bt s (i : Int)]) := Lib.hid (by rw [preL_succ, ← List.append_assoc, hX])
          have hXl : X.length = tx.length + i := by rw [← hX, List.length_append, preL_len]
          have HG2 : Hid (DG wr g B (n + i) X lv tv1) := by rw [← hX]; exact HG
          clear HG hX
          obtain ⟨A1, c1, rfl, hc1⟩ := q_slice HG2.out.text
          have mixed : Try.prog.follows Departure.mixedOrders = true := by kernel_rfl
          obtain ⟨hS0, hS1⟩ := HG2.out.at5 (Below.refl _ _)
          obtain ⟨hS2, hS3⟩ := HG2.out.at5 (below_alloc (Below.refl _ _) (.cells #[.int .u8 (bt s (i : Int))] 5 (0, 0)))
          have HSZ : Hid (B ≤ wr.heap.size) := Lib.hid (Nat.le_trans HH.out.1 HE.out.size)
          have HLB : Hid ((X.length + 1) * 1 ≤ 140737488355328) := Lib.hid (by rw [hXl]; have := HH.out; omega)
          clear hXl
          go_upto_region 5 with (go_at_call 38; refine (going_yes HG2.out.blk rfl rfl).mono ?_; rintro e w1 ⟨rfl, rfl⟩)
          go_cut [8] (fun s8 wx => s8 = .int .i64 i ∧ ∃ tv2, Hid (DG wx g B (n + i) (tx ++ preL s (i + 1)) lv tv2) ∧ Hid (Eff w wx (fun k => k = g ∨ B ≤ k)))
          case first =>
            go_region_law_o (refine q_step B rfl (.tmp 37) (.tmp 41) 41 5 .u8 1 rfl Try.underlying41 info_u8 (by decide) (.slice A1 X.length c1) X [bt s (i : Int)] (some ⟨wr.heap.size, 0, none⟩) 1 1 (by rfl) (by rfl) (HG2.out.below (below_drew1 (below_alloc (Below.refl _ _) _))).text (reads_u8d wr _) (Nat.le_trans HSZ.out (by simp)) HLB.out ?_; intro v7 w7 hq7 hg7 hat7; obtain ⟨A7, k7, rfl, hk7⟩ := q_slice hq7; have HQ7 := Lib.hid hq7; have HG7 := Lib.hid hg7; obtain ⟨hS7, hS8⟩ := HG2.out.at5g (below_drew1 (below_alloc (Below.refl _ _) _)) hg7; clear hq7 hg7 hat7)
            all_goals (go_wp2_with fail; go_meet)
            all_goals
              rw [show X.length + 1 = (X ++ [bt s (i : Int)]).length by simp]
              obtain ⟨a1, a2⟩ := HG2.out.step (below_drew1 (below_alloc (Below.refl _ _) _)) HG7.out HQ7.out HE.out
              exact ⟨rfl, _, Lib.hid (by rw [HX.out]; exact a1), Lib.hid a2⟩
          case rest =>
            obtain ⟨rfl, tv2, HG3, HE3⟩ := hcut
            go_wp2_with (go_at_call 40; refine (eat_c HG3.out.blk rfl rfl rfl (by have := HH.out; omega) (by have := HH.out; omega)).mono ?_; rintro e w1 ⟨rfl, rfl⟩)
            go_roundg (gk - 1)
            case measure => have := HK.out; omega
            case rel => exact ⟨i + 1, tv2, by go_num, Lib.hid ⟨by have := HK.out; omega, by omega, HN.out⟩, Lib.hid (by have h := HG3.out.eat (n + i + 1); rw [show n + ((i + 1 : Nat) : Int) = n + i + 1 by omega]; exact h), Lib.hid (HE3.out.trans (Eff.set _ g 0 _) (fun _ _ h => .inl h))⟩
      · have HIQ : Hid (i = s.size) := Lib.hid (by have := HK.out; omega)
        have HN : Hid (feedN s = s.size) := Lib.hid (HK.out.2.2.symm.trans (low_end HIQ.out))
        have hi3 : ¬ (i : Int) < (s.size : Int) := by omega
        go_wp2_with fail
        go_meet
        refine ⟨by rw [HN.out, HIQ.out], Lib.hid ⟨⟨tv1, ?_⟩, HE.out⟩⟩
        rw [HN.out, if_neg (Nat.lt_irrefl _), if_neg (Nat.lt_irrefl _), ← HIQ.out]
        exact HG.out
  case rest =>
    obtain ⟨rfl, HF⟩ := hcut
    obtain ⟨⟨tv2, hx⟩, he⟩ := HF.out
    have HX := Lib.hid hx
    have HE := Lib.hid he
    clear hx he HF
    go_wp2_with (go_at_call 41; refine (tell_c (o := 4) (by decide) HX.out.blk rfl HX.out.list (by decide)).mono ?_; rintro e w1 ⟨v, lv', rfl, ho, hb, hq, hl, heff⟩)
    refine bodyPost_ret (v := .tuple #[.int .i64 (feedN s), v]) (by simp [results, Try.results25, go_sem]) rfl ?_
    exact ⟨v, lv', rfl, own_le (by rw [List.take_nil] at ho; exact ho) HE.out.size, ⟨tv2, HX.out.told hb (by rw [List.drop_nil] at hq; exact hq) hl heff⟩, HE.out.trans heff (fun _ _ h => .inl h)⟩
/-- A decoder at its end: what it holds. -/
structure DE (w : World) (g B : Nat) (err fat n : Int) (en : Bool) (xs : List Int) (lv : Value) : Prop where
  blk : ∃ tv, Blk w g 43 #[.int .i64 n, .int .i64 err, .int .i64 fat, .bool en, lv, tv]
  list : QRow w B 51 1 lv xs.length (nums .u32 xs)
  off : (err == 0 && !en) = false
theorem denGo_len (t : ByteArray) : ∀ (f : Nat) (a : Int) (l : List Int) (n i b : Int) (once : Bool) (L : List Int), 0 ≤ a → a ≤ t.size → denGo t f a l n i b once = some L → (L.length : Int) ≤ l.length + (t.size - a)
  | 0, _, _, _, _, _, _, _, _, _, h => by cases h
  | f + 1, a, l, n, i, b, once, L, h0, h1, h => by
    rw [denGo] at h
    by_cases ha : a < (t.size : Int)
    · rw [if_pos ha] at h
      cases hg : getP t a b with
      | none => rw [hg] at h; cases h
      | some x =>
        obtain ⟨v, e⟩ := x
        rw [hg] at h
        obtain ⟨_, _, h3, h4⟩ := getP_range hg
        have h5 := h4 h1
        simp only at h
        split at h
        · have h6 := denGo_len t f e _ _ _ _ _ L (by omega) h5 h
          have hM0 : 0 ≤ (i + v) % ((l.length : Int) + 1) := Int.emod_nonneg _ (by omega)
          have hM1 : (i + v) % ((l.length : Int) + 1) < (l.length : Int) + 1 := Int.emod_lt_of_pos _ (by omega)
          rw [insL_len (by omega)] at h6
          omega
        · cases h
    · rw [if_neg ha] at h
      injection h with h
      rw [← h]
      omega
theorem denR_len (s : ByteArray) : (denR s).1.length ≤ s.size := by
  unfold denR
  cases h : denP s with
  | none => exact Nat.zero_le _
  | some L =>
    unfold denP at h
    simp only at h
    have hr := last_range s 45 s.size
    have h1 := denGo_len _ _ 0 _ _ _ _ _ L (by omega) (by omega) h
    by_cases hp : 0 < lastP s 45 s.size
    · rw [if_pos hp, if_pos hp, preL_len, ByteArray.size_extract] at h1
      show L.length ≤ s.size
      omega
    · rw [if_neg hp, if_neg hp] at h1
      show L.length ≤ s.size
      simp at h1
      omega
theorem denR_no {s : ByteArray} {L : List Int} (h : denR s = (L, false)) : L = [] := by
  unfold denR at h
  cases hd : denP s with
  | none => rw [hd] at h; injection h with h; exact h.symm
  | some x => rw [hd] at h; injection h with _ h; cases h
theorem hold_le {w : World} {g B : Nat} {err fat n : Int} {en : Bool} {tx : List Int} {lv tv : Value} (h : DX w g B err fat en n tx lv tv) {k : Nat} (hk : k = g ∨ some k = lv.ownBlock) : k = g ∨ B ≤ k := by
  rcases hk with h1 | h1
  · exact .inl h1
  · rw [h.own] at h1; cases h1
theorem q_far {w : World} {g B n : Nat} {v : Value} {xs : List Value} {cs : Array Value} {i : Nat} {x : Value} (h : QRow w B 51 1 v n xs) (hb : Blk w g 43 cs) : QRow (w.setCell ⟨g, i, none⟩ x) B 51 1 v n xs :=
  q_eff h (Eff.set w g i x) fun k hk e => own_types h hb (by decide) (by rw [hk, e])
theorem strOf_bytes (s : ByteArray) : strOfNums (preL s s.size) = s := by
  unfold strOfNums
  apply ByteArray.ext
  apply Array.toList_inj.1
  apply List.ext_getElem
  · simp [preL]
  · intro j h1 h2
    have hj : j < s.size := by simpa using h2
    simp only [preL, List.map_map, List.getElem_toArray, List.getElem_map, List.getElem_range, Function.comp]
    rw [← bt_at s (j : Int) (by rw [Int.toNat_natCast]; exact hj)]
    simp
    rfl
set_option maxRecDepth 100000 in
set_option maxHeartbeats 4000000 in
/-- End of a decoder that goes on. -/
theorem end_go (g B : Nat) (n E F : Int) (s : ByteArray) (L : List Int) (ok : Bool) (hden : denR s = (L, ok)) (hE : (ok, E, F) = (true, 0, 0) ∨ (ok, E, F) = (false, 4, n)) (lv tv : Value) (w : World) (hd : DG w g B n (preL s s.size) lv tv) (hB : B ≤ w.heap.size) (hs : s.size ≤ 1000000) :
    Calls Try.prog 26 #[.pointer (some ⟨g, 0, none⟩)] w fun e w' => e = .returned (.tuple #[]) ∧ Eff w w' (fun k => k = g ∨ B ≤ k) ∧
      ∃ lv', DE w' g B E F n ok L lv' := by
  have HDEN := Lib.hid hden
  have HEE := Lib.hid hE
  clear hden hE
  obtain ⟨X, hX⟩ : ∃ X, preL s s.size = X := ⟨_, rfl⟩
  have hstr : strOfNums X = s := by rw [← hX]; exact strOf_bytes s
  rw [hX] at hd
  obtain ⟨A, c, rfl, hc⟩ := q_slice hd.text
  have hcv : (convert 41 9 (.slice A X.length c)).run Try.prog w = .ok (.string s) w := by
    have h := string_of_reads (P := Try.prog) Try.underlying41 Try.underlying5 Try.underlying9 (c := c) (q_reads (k := .u8) hd.text)
    rw [hstr] at h
    exact h
  obtain ⟨c5, f5⟩ := hd.at5 (Below.refl _ _)
  have HD := Lib.hid hd
  have HBB := Lib.hid hB
  have HS := Lib.hid hs
  clear hd hB hX hstr
  go_enter Try.func26, Try.ntmps26
  go_wp2_with (go_at_call 38; refine (going_yes HD.out.blk rfl rfl).mono ?_; rintro e w1 ⟨rfl, rfl⟩)
  refine (denoted_c s _ HS.out).mono ?_
  rintro e w1 ⟨v1, rfl, ho1, hb1⟩
  obtain ⟨A1, c1, rfl, hc1⟩ := Go.Proofs.Ytegacgfhmigdjaa.own_slice ho1
  have HO1 := Lib.hid ho1
  have HB1 := Lib.hid hb1
  have HD1 := Lib.hid (HD.out.below hb1)
  have HBS : Hid (B ≤ w1.heap.size) := Lib.hid (Nat.le_trans HBB.out hb1.size)
  clear ho1 hb1
  have hden := HDEN.out
  have HL : Hid (L.length * 4 ≤ 140737488355328) := Lib.hid (by have h := denR_len s; rw [hden] at h; have h2 := HS.out; simp only at h; omega)
  rw [hden]
  cases ok with
  | true =>
    have HR : Hid (ReadsInt w1 .u32 A1 L.length L) := by have h := own_reads' HO1.out; rw [hden] at h; exact h
    clear hden
    go_wp2_with fail
    refine (hold_c (o := 4) (xs := []) (ys := L) (by decide) HD1.out.blk rfl HD1.out.list HBS.out HR.out (by rw [List.length_nil, Nat.zero_add]; exact HL.out)).mono ?_
    rintro e w2 ⟨rfl, v2, hb2, hq2, hat2, he2⟩
    have HB2 := Lib.hid hb2
    have HQ2 := Lib.hid hq2
    have HE2 := Lib.hid he2
    clear hb2 hq2 he2 hat2
    go_wp2_with fail
    refine (end_c HB2.out rfl rfl).mono ?_
    rintro e w3 ⟨rfl, rfl⟩
    go_wp2_with fail
    refine bodyPost_end (v := .tuple #[]) (by simp [results, Try.results26, go_sem]) rfl ⟨rfl, ?_, v2, ?_⟩
    · exact ((Eff.of_below HB1.out _).trans HE2.out (fun k hk h => hold_le HD1.out h)).trans (Eff.set w2 g 3 _) (fun _ _ h => .inl h)
    · have hE := HEE.out
      have h1 : E = 0 ∧ F = 0 := by
        rcases hE with h | h
        · injection h with _ h; injection h with h1 h2; exact ⟨h1, h2⟩
        · injection h with h _; cases h
      rw [h1.1, h1.2]
      exact ⟨⟨_, HB2.out.set 3 _⟩, q_far HQ2.out HB2.out, rfl⟩
  | false =>
    have hL : L = [] := denR_no hden
    subst hL
    have HR : Hid (ReadsInt w1 .u32 A1 0 []) := by have h := own_reads' HO1.out; rw [hden] at h; exact h
    clear hden
    go_wp2_with fail
    refine (stop_c (err := 4) (by decide) HD1.out.blk rfl rfl rfl rfl).mono ?_
    rintro e w2 ⟨rfl, hw2⟩
    have HD2 : Hid (DX w2 g B 4 n false n X lv (.slice A X.length c)) := Lib.hid (by rw [hw2]; exact HD1.out.stop 4)
    have HE2 : Hid (Eff w1 w2 (fun k => k = g ∨ B ≤ k)) := Lib.hid (by rw [hw2]; exact (Eff.set _ g 1 _).mono (fun _ _ h => .inl h) |>.trans (Eff.set _ g 2 _) (fun _ _ h => .inl h))
    have HR2 : Hid (ReadsInt w2 .u32 A1 0 []) := Lib.hid ⟨rfl, by decide, fun h => absurd h (Nat.lt_irrefl 0)⟩
    have HB2 : Hid (B ≤ w2.heap.size) := Lib.hid (Nat.le_trans HBS.out HE2.out.size)
    clear hw2
    go_wp2_with fail
    refine (hold_c (o := 4) (xs := []) (ys := []) (by decide) HD2.out.blk rfl HD2.out.list HB2.out HR2.out (by decide)).mono ?_
    rintro e w3 ⟨rfl, v3, hb3, hq3, hat3, he3⟩
    have HB3 := Lib.hid hb3
    have HQ3 := Lib.hid hq3
    have HE3 := Lib.hid he3
    clear hb3 hq3 he3 hat3
    go_wp2_with fail
    refine (end_not (err := 4) (en := false) HB3.out rfl rfl rfl).mono ?_
    rintro e w4 ⟨rfl, rfl⟩
    go_wp2_with fail
    refine bodyPost_end (v := .tuple #[]) (by simp [results, Try.results26, go_sem]) rfl ⟨rfl, ?_, v3, ?_⟩
    · exact ((Eff.of_below HB1.out _).trans HE2.out (fun _ _ h => h)).trans HE3.out (fun k hk h => hold_le HD2.out h)
    · have hE := HEE.out
      have h1 : E = 4 ∧ F = n := by
        rcases hE with h | h
        · injection h with h _; cases h
        · injection h with _ h; injection h with h1 h2; exact ⟨h1, h2⟩
      rw [h1.1, h1.2]
      exact ⟨⟨_, HB3.out⟩, HQ3.out, rfl⟩
end Go.Proofs.Ytegacgfhmigdjaa
