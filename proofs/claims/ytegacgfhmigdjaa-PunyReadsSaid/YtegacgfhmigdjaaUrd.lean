/- pilcrowlaw10.read, walked. -/
import Derived.Test.YtegacgfhmigdjaaUrl
import Derived.Deep.CutBlock
namespace Go.Proofs.Ytegacgfhmigdjaa
open Go.RowKit Go.Proofs.YtegacgfhmigdjaaW.PrintWords Go.Proofs.YtegacgfhmigdjaaW.PrintLast Go.Proofs.YtegacgfhmigdjaaW.PrintMore Go.Proofs.Ytegacgfhmigdjaa.PPu
set_option linter.unusedVariables false
set_option linter.unusedSimpArgs false

/-- Numbers that were handed in: they lie where the decoder doesn't. -/
def HandI (w : World) (g B : Nat) (A : Option Addr) (l : List Int) : Prop := l = [] ∨ ∃ pb po, A = some ⟨pb, po, none⟩ ∧ pb ≠ g ∧ pb < B ∧ ∀ j, j < l.length → w.cell? ⟨pb, po + j, none⟩ = some (.int .i64 (l.getD j 0))
theorem HandI.eff {w w1 : World} {g B : Nat} {A : Option Addr} {l : List Int} (h : HandI w g B A l) (he : Eff w w1 (fun k => k = g ∨ B ≤ k)) : HandI w1 g B A l := by
  rcases h with h | ⟨pb, po, h1, h2, h3, h4⟩
  · exact .inl h
  · refine .inr ⟨pb, po, h1, h2, h3, fun j hj => ?_⟩
    have hc := h4 j hj
    have hlt := World.block_lt_of_cell? w _ hc
    have hb := he.block pb hlt (fun e => e.elim h2 (fun e => by omega))
    unfold World.cell? at hc ⊢
    simp only at hc ⊢
    rw [hb]
    exact hc
theorem giveN_mm (p : Int) (n : Nat) : min (max p 0) (n : Int) = (giveN p n : Int) := by unfold giveN; omega
theorem giveN_m100 (p : Int) : min (max p 0) 100 = (giveN p 100 : Int) := by unfold giveN; omega
theorem append_none (A : Option Addr) (c : Nat) (ty : TypeId) (W : World) : (Builtin.append_ #[26, 26] ty #[.slice none 0 0, .slice A 0 c]).run Try.prog W = .ok (.slice none 0 0) W := by
  obtain ⟨i0, hi, hzz⟩ := Option.map_eq_some_iff.1 info_u32
  cases A <;> simp [Builtin.append_, run_underlying Try.underlying26, sizeOf, typeInfo, hi, Builtin.lenOf, Builtin.firstCells, storeCells, loadCells, loadCellsFrom]
set_option maxRecDepth 100000 in
theorem field_err (a b : Value) (w : World) : (Instr.field 33 (.agg #[a, b]) 0).run Try.prog w = .ok a w := by kernel_rfl
theorem bytes_len (X : ByteArray) : X.toList.length = X.size := by
  rw [ByteArray.toList_eq]; simp
/-- What a part brings. -/
structure PartF (s T : ByteArray) (m nn rm E : Nat) : Prop where
  le : m + E ≤ s.size
  en : E ≤ nn
  pre : preL s m ++ preL T E = preL s (m + E)
  bad : badN rm T → feedN s = m + E ∧ m + E < s.size
  good : ¬ badN rm T → lowN s (s.size - (m + E)) (m + E) = feedN s
  all : ¬ badN rm T → 0 < rm → E = nn
theorem part_facts (s : ByteArray) (m nn rm : Nat) (h : m + nn ≤ s.size) (hlow : lowN s (s.size - m) m = feedN s) : PartF s (s.extract m (m + nn)) m nn rm (eatN rm (s.extract m (m + nn))) := by
  have hz : (s.extract m (m + nn)).size = nn := by rw [ByteArray.size_extract]; omega
  have hE : eatN rm (s.extract m (m + nn)) ≤ nn := by have := eatN_le rm (s.extract m (m + nn)); omega
  have hsh := low_shift s m nn h nn 0 (by omega)
  have hf : feedN (s.extract m (m + nn)) = lowN (s.extract m (m + nn)) nn 0 := by unfold feedN; rw [hz]
  rw [Nat.add_zero, hlow, ← hf] at hsh
  have hfl : feedN (s.extract m (m + nn)) ≤ nn := by have := feedN_le (s.extract m (m + nn)); omega
  refine ⟨by omega, hE, preL_add s m nn h _ hE, fun hb => ?_, fun hb => ?_, fun hb h0 => ?_⟩
  · have e : eatN rm (s.extract m (m + nn)) = feedN (s.extract m (m + nn)) := by unfold eatN; rw [if_neg (by have := hb.1; omega)]
    have h2 := hb.2
    rw [hz] at h2
    rw [e]
    rw [if_pos h2] at hsh
    exact ⟨hsh, by omega⟩
  · by_cases h0 : rm = 0
    · have e : eatN rm (s.extract m (m + nn)) = 0 := by unfold eatN; rw [if_pos h0]
      rw [e]
      exact hlow
    · have e : eatN rm (s.extract m (m + nn)) = feedN (s.extract m (m + nn)) := by unfold eatN; rw [if_neg h0]
      have h2 : ¬ feedN (s.extract m (m + nn)) < nn := fun h2 => hb ⟨by omega, by rw [hz]; exact h2⟩
      rw [if_neg h2] at hsh
      rw [e, show feedN (s.extract m (m + nn)) = nn by omega]
      exact hsh.symm
  · have e : eatN rm (s.extract m (m + nn)) = feedN (s.extract m (m + nn)) := by unfold eatN; rw [if_neg (by omega)]
    have h2 : ¬ feedN (s.extract m (m + nn)) < nn := fun h2 => hb ⟨h0, by rw [hz]; exact h2⟩
    omega
/-- What a text is read as: the scalars, whether it ends well, what went wrong and where. -/
def ReadF (s : ByteArray) (L : List Int) (en : Bool) (E F : Int) : Prop :=
  (feedN s < s.size ∧ L = [] ∧ en = false ∧ E = 3 ∧ F = (feedN s : Int)) ∨ (feedN s = s.size ∧ denR s = (L, en) ∧ ((en, E, F) = (true, 0, 0) ∨ (en, E, F) = (false, 4, (feedN s : Int))))
theorem ReadF.len {s : ByteArray} {L : List Int} {en : Bool} {E F : Int} (h : ReadF s L en E F) : L.length ≤ s.size := by
  rcases h with ⟨_, rfl, _⟩ | ⟨_, h, _⟩
  · exact Nat.zero_le _
  · have := denR_len s; rw [h] at this; exact this
theorem DE.grown {w w1 : World} {g B base : Nat} {err fat n : Int} {en : Bool} {xs ys : List Int} {lv v : Value} (h : DE w g B err fat n en xs lv) (ho : w.ownsRow base 51 1 v ys.length (nums .u32 ys)) (hl : ∀ k, lv.ownBlock = some k → k < base) (hg : w.grownBy w1 v.ownBlock) : DE w1 g B err fat n en xs lv := by
  obtain ⟨tv, hb⟩ := h.blk
  refine ⟨⟨tv, (hg.block g hb.lt (own_types (q_of_own ho) hb (by decide))).trans hb⟩, q_move h.list fun k hk => hg.block k (q_lt h.list k hk) fun e => ?_, h.off⟩
  have h1 := hl k hk
  have h2 := q_own_ge (q_of_own ho) k e.symm
  omega
theorem own_keep {w w1 : World} {g base n : Nat} {v : Value} {xs : List Value} {cs : Array Value} (h : w.ownsRow base 51 1 v n xs) (hb : Blk w g 43 cs) (he : Eff w w1 (fun k => k = g)) : w1.ownsRow base 51 1 v n xs :=
  own_move h fun k hk => he.block k (by obtain ⟨cells, hc⟩ := own_typed h k hk; exact (Array.getElem?_eq_some_iff.1 hc).1) fun e => own_types (q_of_own h) hb (by decide) (by rw [hk, e])
/-- What is known at the head of the loop. -/
structure RI (w wx : World) (g B : Nat) (s : ByteArray) (m : Nat) (lv tv o : Value) : Prop where
  le : m ≤ s.size
  low : lowN s (s.size - m) m = feedN s
  dec : DG wx g B (m : Int) (preL s m) lv tv
  out : o = .slice none 0 0
  eff : Eff w wx (fun k => k = g ∨ B ≤ k)
/-- .. and behind it. -/
def RO (w wx : World) (g B : Nat) (s : ByteArray) (o : Value) : Prop :=
  (∃ lv tv, DX wx g B (if feedN s < s.size then 3 else 0) (if feedN s < s.size then (feedN s : Int) else 0) false (feedN s : Int) (preL s (feedN s)) lv tv) ∧ o = .slice none 0 0 ∧ Eff w wx (fun k => k = g ∨ B ≤ k)
set_option maxRecDepth 100000 in
set_option maxHeartbeats 4000000 in
theorem read_c (g B : Nat) (s : ByteArray) (AP AR : Option Addr) (cp cr : Nat) (lp lr : List Int) (w : World) (hd : DG w g B 0 [] (.slice none 0 0) (.slice none 0 0)) (hB : B ≤ w.heap.size) (hs : s.size ≤ 100000) (hlp : lp.length ≤ 1000000) (hlr : lr.length ≤ 1000000)
    (hp : HandI w g B AP lp) (hr : HandI w g B AR lr) (L : List Int) (en : Bool) (E F : Int) (hres : ReadF s L en E F) :
    Calls Try.prog 13 #[.pointer (some ⟨g, 0, none⟩), .string s, .slice AP lp.length cp, .slice AR lr.length cr] w fun e w' => ∃ v lv', e = .returned (.tuple #[v, .bool true]) ∧ w'.ownsRow w.heap.size 51 1 v L.length (nums .u32 L) ∧ DE w' g B E F (feedN s : Int) en [] lv' ∧ Eff w w' (fun k => k = g ∨ B ≤ k) := by
  have HD := Lib.hid hd
  have HB := Lib.hid hB
  have HS := Lib.hid hs
  have HLP := Lib.hid hlp
  have HLR := Lib.hid hlr
  have HPP := Lib.hid hp
  have HRR := Lib.hid hr
  have HDN := Lib.hid hres
  have hmost : (lp.length : Int) + lr.length + s.size + 8 ≤ 9223372036854775807 := by omega
  clear hd hB hp hr hres hlp hlr hs
  go_enter Try.func13, Try.ntmps13
  obtain ⟨MO, hMO⟩ : ∃ MO : Int, (lp.length : Int) + lr.length + s.size + 8 = MO := ⟨_, rfl⟩
  have HMO := Lib.hid hMO
  go_upto_region 2 with fail
  go_cut [11] (fun s11 wx => s11 = .int .i64 MO ∧ wx = w)
  case first =>
    go_wp2_with fail
    go_meet
    exact ⟨by rw [← HMO.out], rfl⟩
  obtain ⟨rfl, hwe⟩ := hcut
  obtain rfl := hwe.symm
  clear hMO hmost
  go_upto_block 0 with fail
  go_cut [10] (fun s10 wx => Hid (RO w wx g B s s10))
  case first =>
    go_wp2_with fail
    go_loopg [1, 10, 12] (lp.length + lr.length + 1) (fun kq s1 s10 s12 wx => ∃ (m k : Nat) (lv tv : Value), s1 = .string (s.extract m s.size) ∧ s12 = .int .i64 k ∧ Hid (k ≤ max lp.length lr.length ∧ kq = lp.length + lr.length + 1 - k) ∧ Hid (RI w wx g B s m lv tv s10))
    case atStart => exact ⟨0, 0, .slice none 0 0, .slice none 0 0, by rw [ByteArray.extract_zero_size], rfl, Lib.hid ⟨Nat.zero_le _, rfl⟩, Lib.hid ⟨Nat.zero_le _, rfl, HD.out, rfl, Eff.refl _ _⟩⟩
    case round =>
      obtain ⟨m, k, lv, tv, rfl, rfl, HK, HI⟩ := hrel
      have hk1 : (k : Int) < MO := by have := HK.out; have := HMO.out; omega
      have hk0 : (0 : Int) ≤ (k : Int) := by omega
      have hkb : k ≤ 1000000 := by have := HK.out; have := HLP.out; have := HLR.out; omega
      obtain ⟨RS, hRS⟩ : ∃ RS, s.extract m s.size = RS := ⟨_, rfl⟩
      have HRS := Lib.hid hRS
      have hrs : RS.size = s.size - m := by rw [← hRS, ByteArray.size_extract]; omega
      have HRZ := Lib.hid hrs
      rw [hRS]
      clear hRS hrs
      go_upto_if 39 with fail
      go_cut [13, 39] (fun s13 s39 wx => wx = wr ∧ ∃ nn : Nat, s13 = .int .i64 nn ∧ Hid (nn ≤ RS.size ∧ (lp.length ≤ k → nn = RS.size)))
      case first =>
        by_cases hc : k < lp.length
        · have hc1 : (k : Int) < (lp.length : Int) := by omega
          rcases (HPP.out.eff HI.out.eff) with h | ⟨pb, po, rfl, _, _, hcell⟩
          · rw [h] at hc; exact absurd hc (Nat.not_lt_zero _)
          · have hcc := hcell k hc
            obtain ⟨p, hp⟩ : ∃ p, lp.getD k 0 = p := ⟨_, rfl⟩
            rw [hp] at hcc
            have HC := Lib.hid hc
            clear hcell hp
            go_wp2_with fail
            all_goals go_meet
            all_goals exact ⟨rfl, giveN p RS.size, by rw [giveN_mm], Lib.hid ⟨giveN_le _ _, fun h => by have := HC.out; omega⟩⟩
        · have hc1 : ¬ (k : Int) < (lp.length : Int) := by omega
          clear hc
          go_wp2_with fail
          go_meet
          exact ⟨rfl, RS.size, rfl, Lib.hid ⟨Nat.le_refl _, fun _ => rfl⟩⟩
      case rest =>
        obtain ⟨rfl, nn, rfl, HNN⟩ := hcut
        go_upto_if 50 with fail
        go_cut [14, 50] (fun s14 s50 wx => wx = wc ∧ ∃ rm : Nat, s14 = .int .i64 rm ∧ Hid (rm ≤ 100 ∧ (lr.length ≤ k → rm = 8)))
        case first =>
          by_cases hc : k < lr.length
          · have hc1 : (k : Int) < (lr.length : Int) := by omega
            rcases (HRR.out.eff HI.out.eff) with h | ⟨pb, po, rfl, _, _, hcell⟩
            · rw [h] at hc; exact absurd hc (Nat.not_lt_zero _)
            · have hcc := hcell k hc
              obtain ⟨p, hp⟩ : ∃ p, lr.getD k 0 = p := ⟨_, rfl⟩
              rw [hp] at hcc
              have HC := Lib.hid hc
              clear hcell hp
              go_wp2_with fail
              all_goals go_meet
              all_goals exact ⟨rfl, giveN p 100, by rw [giveN_m100], Lib.hid ⟨giveN_le _ _, fun h => by have := HC.out; omega⟩⟩
          · have hc1 : ¬ (k : Int) < (lr.length : Int) := by omega
            clear hc
            go_wp2_with fail
            go_meet
            exact ⟨rfl, 8, rfl, Lib.hid ⟨by decide, fun _ => rfl⟩⟩
        case rest =>
          obtain ⟨rfl, rm, rfl, HRM⟩ := hcut
          have ho10 := HI.out.out
          subst ho10
          have hnn0 : (0 : Int) ≤ (nn : Int) := by omega
          have hnn1 : (nn : Int) ≤ (RS.size : Int) := by have := HNN.out.1; omega
          have hT : RS.extract 0 nn = s.extract m (m + nn) := by rw [← HRS.out]; exact part_extract s m nn (by have := HNN.out.1; have := HRZ.out; have := HI.out.le; omega)
          have HPF : Hid (PartF s (s.extract m (m + nn)) m nn rm (eatN rm (s.extract m (m + nn)))) := Lib.hid (part_facts s m nn rm (by have := HNN.out.1; have := HRZ.out; have := HI.out.le; omega) HI.out.low)
          have hTz : (s.extract m (m + nn)).size = nn := by rw [ByteArray.size_extract]; have := HNN.out.1; have := HRZ.out; have := HI.out.le; omega
          have HTB : Hid ((m : Int) + (s.extract m (m + nn)).size ≤ 1000000 ∧ (preL s m).length + (s.extract m (m + nn)).size ≤ 1000000) := Lib.hid (by rw [preL_len, hTz]; have := HNN.out.1; have := HRZ.out; have := HI.out.le; have := HS.out; omega)
          clear hTz
          obtain ⟨T, hTe⟩ : ∃ T, s.extract m (m + nn) = T := ⟨_, rfl⟩
          rw [hTe] at hT HPF HTB
          clear hTe
          go_wp2_with fail
          refine (feed_any g B m (preL s m) lv tv T rm _ HI.out.dec (Nat.le_trans HB.out HI.out.eff.size) (by omega) HTB.out.1 HTB.out.2).mono ?_
          rintro e w1 ⟨v, lv', tv', rfl, ho, hx, he⟩
          obtain ⟨A1, c1, rfl, hc1⟩ := Go.Proofs.Ytegacgfhmigdjaa.own_slice ho
          have hap := append_none A1 c1
          have HE : Hid (Eff w w1 (fun k => k = g ∨ B ≤ k)) := Lib.hid (HI.out.eff.trans he (fun _ _ h => h))
          have HX : Hid (DX w1 g B (if badN rm T then 3 else 0) (if badN rm T then (m : Int) + eatN rm T else 0) false ((m + eatN rm T : Nat) : Int) (preL s (m + eatN rm T)) lv' tv') := Lib.hid (by rw [← HPF.out.pre, Int.natCast_add]; exact hx)
          clear ho hx he hc1
          obtain ⟨E, hE⟩ : ∃ E, eatN rm T = E := ⟨_, rfl⟩
          rw [hE] at HPF HX
          rw [hE]
          clear hE
          have d1 : decide ((E : Int) < 0) = false := decide_eq_false (by omega)
          have d2 : decide ((nn : Int) < (E : Int)) = false := decide_eq_false (by have := HPF.out.en; omega)
          have d3 : decide ((rm : Int) < 0) = false := decide_eq_false (by omega)
          have hEn : E ≤ nn := HPF.out.en
          have d4 : decide (nn < E) = false := decide_eq_false (by omega)
          have hE0 : (0 : Int) ≤ (E : Int) := by omega
          have hE1 : (E : Int) ≤ (RS.size : Int) := by have := HPF.out.en; omega
          go_upto_region 16 with (at_builtin; refine Lib.wpList_append_run _ rfl _ _ _ _ rfl _ _ rfl rfl _ _ (hap _ _) ?_)
          have hEB := HX.out.blk
          have hfe := fun (a b : Value) (w : World) => field_err a b w
          clear d1 d2 d3 d4 hE1 hap hT
          by_cases hbad : badN rm T
          · rw [if_pos hbad, if_pos hbad] at hEB
            have HBAD := Lib.hid hbad
            have HEB := Lib.hid hEB
            clear hEB hbad
            go_wp2_with (go_at_call 16; refine (fail_c HEB.out rfl rfl).mono ?_; rintro e w2 ⟨rfl, hb2⟩; have HB2 := Lib.hid hb2; clear hb2)
            go_meet
            obtain ⟨h1, h2⟩ := HPF.out.bad HBAD.out
            have hx := HX.out.below HB2.out
            rw [if_pos HBAD.out, if_pos HBAD.out] at hx
            refine Lib.hid ⟨⟨lv', tv', ?_⟩, rfl, HE.out.trans (Eff.of_below HB2.out _) (fun _ _ h => h)⟩
            rw [h1, if_pos h2, if_pos h2]
            rw [← Int.natCast_add] at hx
            exact hx
          · rw [if_neg hbad, if_neg hbad] at hEB
            have HBAD := Lib.hid hbad
            have HEB := Lib.hid hEB
            clear hEB hbad
            have HRE : Hid (RS.extract E RS.size = s.extract (m + E) s.size) := Lib.hid (by rw [← HRS.out]; exact rest_extract s m E HPF.out.le)
            obtain ⟨X, hX⟩ : ∃ X, RS.extract E RS.size = X := ⟨_, rfl⟩
            have HXE : Hid (X = s.extract (m + E) s.size) := Lib.hid (by rw [← hX]; exact HRE.out)
            rw [hX]
            clear hX
            have hXz : X.size = s.size - (m + E) := by rw [HXE.out, ByteArray.size_extract]; omega
            have HXZ := Lib.hid hXz
            clear hXz
            by_cases hemp : X.size = 0
            · have hXn : X = ⟨#[]⟩ := ByteArray.ext (Array.eq_empty_of_size_eq_zero hemp)
              subst hXn
              by_cases hkp : (lp.length : Int) ≤ (k : Int)
              · go_wp2_with (go_at_call 16; refine (fail_c HEB.out rfl rfl).mono ?_; rintro e w2 ⟨rfl, hb2⟩; have HB2 := Lib.hid hb2; clear hb2)
                go_meet
                have HRI : Hid (RI w w2 g B s (m + E) lv' tv' (.slice none 0 0)) := Lib.hid ⟨HPF.out.le, HPF.out.good HBAD.out, by have h := HX.out.below HB2.out; rw [if_neg HBAD.out, if_neg HBAD.out] at h; exact h, rfl, HE.out.trans (Eff.of_below HB2.out _) (fun _ _ h => h)⟩
                have hz : m + E = s.size := by have := HXZ.out; have := HPF.out.le; have h0 : (⟨#[]⟩ : ByteArray).size = 0 := rfl; omega
                have hf : feedN s = s.size := HRI.out.low.symm.trans (low_end hz)
                refine Lib.hid ⟨⟨lv', tv', ?_⟩, rfl, HRI.out.eff⟩
                rw [hf, if_neg (Nat.lt_irrefl _), if_neg (Nat.lt_irrefl _), ← hz]
                exact HRI.out.dec
              · go_wp2_with (go_at_call 16; refine (fail_c HEB.out rfl rfl).mono ?_; rintro e w2 ⟨rfl, hb2⟩; have HB2 := Lib.hid hb2; clear hb2)
                have HRI : Hid (RI w w2 g B s (m + E) lv' tv' (.slice none 0 0)) := Lib.hid ⟨HPF.out.le, HPF.out.good HBAD.out, by have h := HX.out.below HB2.out; rw [if_neg HBAD.out, if_neg HBAD.out] at h; exact h, rfl, HE.out.trans (Eff.of_below HB2.out _) (fun _ _ h => h)⟩
                go_roundg (gk - 1)
                case measure => have := HK.out; omega
                case rel => exact ⟨m + E, k + 1, lv', tv', by rw [HXE.out], by go_num, Lib.hid ⟨by have := HK.out; omega, by have := HK.out; omega⟩, HRI⟩
            · have hXne : X ≠ ⟨#[]⟩ := fun e => hemp (by rw [e]; rfl)
              have hXb : ¬ X.toList = [] := fun e => hemp (by have h := bytes_len X; rw [e] at h; simpa using h.symm)
              have hXc : decide (X.toList = []) = false := decide_eq_false hXb
              by_cases hkp : (lp.length : Int) ≤ (k : Int)
              · by_cases hkr : (lr.length : Int) ≤ (k : Int)
                · exfalso
                  have h1 := HRM.out.2 (by omega)
                  have h2 := HNN.out.2 (by omega)
                  have h3 := HPF.out.all HBAD.out (by omega)
                  have h4 := HXZ.out
                  have h5 := HRZ.out
                  omega
                · go_wp2_with (go_at_call 16; refine (fail_c HEB.out rfl rfl).mono ?_; rintro e w2 ⟨rfl, hb2⟩; have HB2 := Lib.hid hb2; clear hb2)
                  have HRI : Hid (RI w w2 g B s (m + E) lv' tv' (.slice none 0 0)) := Lib.hid ⟨HPF.out.le, HPF.out.good HBAD.out, by have h := HX.out.below HB2.out; rw [if_neg HBAD.out, if_neg HBAD.out] at h; exact h, rfl, HE.out.trans (Eff.of_below HB2.out _) (fun _ _ h => h)⟩
                  go_roundg (gk - 1)
                  case measure => have := HK.out; omega
                  case rel => exact ⟨m + E, k + 1, lv', tv', by rw [HXE.out], by go_num, Lib.hid ⟨by have := HK.out; omega, by have := HK.out; omega⟩, HRI⟩
              · go_wp2_with (go_at_call 16; refine (fail_c HEB.out rfl rfl).mono ?_; rintro e w2 ⟨rfl, hb2⟩; have HB2 := Lib.hid hb2; clear hb2)
                have HRI : Hid (RI w w2 g B s (m + E) lv' tv' (.slice none 0 0)) := Lib.hid ⟨HPF.out.le, HPF.out.good HBAD.out, by have h := HX.out.below HB2.out; rw [if_neg HBAD.out, if_neg HBAD.out] at h; exact h, rfl, HE.out.trans (Eff.of_below HB2.out _) (fun _ _ h => h)⟩
                go_roundg (gk - 1)
                case measure => have := HK.out; omega
                case rel => exact ⟨m + E, k + 1, lv', tv', by rw [HXE.out], by go_num, Lib.hid ⟨by have := HK.out; omega, by have := HK.out; omega⟩, HRI⟩
  case rest =>
    obtain ⟨⟨lv, tv, hx⟩, rfl, he⟩ := hcut.out
    have HX := Lib.hid hx
    have HE := Lib.hid he
    clear hx he hcut
    go_upto_region 19 with fail
    go_cut [10] (fun s10 wx => s10 = .slice none 0 0 ∧ ∃ lv, Hid (DE wx g B E F (feedN s : Int) en L lv) ∧ Hid (Eff w wx (fun k => k = g ∨ B ≤ k)))
    case first =>
      rcases HDN.out with ⟨h1, rfl, rfl, rfl, rfl⟩ | ⟨h1, h2, h3⟩
      · have hx := HX.out
        rw [if_pos h1, if_pos h1] at hx
        have HX2 := Lib.hid hx
        clear hx h1 HX
        go_wp2_with fail
        refine (end_err g B 3 _ _ _ lv tv _ HX2.out (by decide)).mono ?_
        rintro e w1 ⟨rfl, rfl, hd⟩
        have HDE := Lib.hid hd
        clear hd
        go_wp2_with fail
        go_meet
        exact ⟨rfl, lv, HDE, HE⟩
      · have hx := HX.out
        rw [if_neg (by omega), if_neg (by omega)] at hx
        have hpre : preL s (feedN s) = preL s s.size := by rw [h1]
        rw [hpre] at hx
        have HX2 := Lib.hid hx
        have H2 := Lib.hid h2
        have H3 := Lib.hid h3
        clear hx h1 h2 h3 HX hpre
        go_wp2_with fail
        refine (end_go g B _ E F s L en H2.out H3.out lv tv _ HX2.out (Nat.le_trans HB.out HE.out.size) (by have := HS.out; omega)).mono ?_
        rintro e w1 ⟨rfl, he1, lv', hd⟩
        have HDE := Lib.hid hd
        have HE1 := Lib.hid (HE.out.trans he1 (fun _ _ h => h))
        clear hd he1
        go_wp2_with fail
        go_meet
        exact ⟨rfl, lv', HDE, HE1⟩
    case rest =>
      obtain ⟨rfl, lv0, HD0, HE0⟩ := hcut
      have HLL : Hid (L.length ≤ 100000) := Lib.hid (Nat.le_trans HDN.out.len HS.out)
      clear HX HE HD HDN
      obtain ⟨base, hbase⟩ : ∃ base, base = wc.heap.size := ⟨_, rfl⟩
      have HBS : Hid (w.heap.size ≤ base ∧ base ≤ wc.heap.size) := Lib.hid ⟨by rw [hbase]; exact HE0.out.size, Nat.le_of_eq hbase⟩
      have HLB : Hid (∀ k, lv0.ownBlock = some k → k < base) := Lib.hid (fun k hk => by rw [hbase]; exact q_lt HD0.out.list k hk)
      clear hbase
      go_wp2_with fail
      go_loopg [10, 17] (L.length) (fun kq s10 s17 wx => ∃ (o r : List Int) (j : Nat) (lv : Value), s17 = .int .i64 j ∧ Hid (o ++ r = L ∧ kq = r.length ∧ j ≤ o.length ∧ base ≤ wx.heap.size) ∧ Hid (wx.ownsRow base 51 1 s10 o.length (nums .u32 o)) ∧ Hid (DE wx g B E F (feedN s : Int) en r lv ∧ ∀ k, lv.ownBlock = some k → k < base) ∧ Hid (Eff w wx (fun k => k = g ∨ B ≤ k)))
      case atStart => exact ⟨[], L, 0, lv0, rfl, Lib.hid ⟨rfl, rfl, Nat.le_refl _, HBS.out.2⟩, Lib.hid ⟨rfl, .inl ⟨rfl, rfl⟩⟩, Lib.hid ⟨HD0.out, HLB.out⟩, HE0⟩
      case round =>
        obtain ⟨o, r, j, lv, rfl, HK, HO, HDE, HE⟩ := hrel
        have hdone := done_c g B E F (feedN s : Int) en r lv wr HDE.out.1
        by_cases hr : r.length = 0
        · have hr0 : r = [] := List.eq_nil_of_length_eq_zero hr
          subst hr0
          have hoL : o = L := by have := HK.out.1; rw [List.append_nil] at this; exact this
          have HOL := Lib.hid hoL
          clear hr hoL
          go_wp2_with (go_at_call 29; refine hdone.mono ?_; rintro e w1 ⟨rfl, rfl⟩)
          refine bodyPost_ret (v := .tuple #[u10, .bool true]) (by simp [results, Try.results13, go_sem]) rfl ?_
          refine ⟨u10, lv, rfl, ?_, HDE.out.1, HE.out⟩
          rw [← HOL.out]
          exact Go.Proofs.Ytegacgfhmigdjaa.own_le HO.out HBS.out.1
        · have hrb : (r.length == 0) = false := by rw [beq_eq_false_iff_ne]; exact hr
          rw [hrb] at hdone
          have HR := Lib.hid hr
          clear hr hrb
          go_wp2_with (go_at_call 29; refine hdone.mono ?_; rintro e w1 ⟨rfl, rfl⟩)
          refine (feed_tell g B E F (feedN s : Int) en r lv _ HDE.out.1 (by have h := HK.out.1; have h2 := congrArg List.length h; rw [List.length_append] at h2; have := HLL.out; omega) 8).mono ?_
          rintro e w2 ⟨v, lv', rfl, ho, hd, he, hl⟩
          obtain ⟨Y, hY⟩ : ∃ Y, r.take (giveN 8 r.length) = Y := ⟨_, rfl⟩
          have hYl : Y.length = giveN 8 r.length := by rw [← hY, List.length_take]; exact Nat.min_eq_left (giveN_le _ _)
          have HY : Hid (Y ++ r.drop (giveN 8 r.length) = r) := Lib.hid (by rw [← hY]; exact List.take_append_drop _ _)
          rw [hY] at ho
          obtain ⟨A1, c1, rfl, hc1⟩ := Go.Proofs.Ytegacgfhmigdjaa.own_slice ho
          have HRS : Hid (ReadsInt w2 .u32 A1 Y.length Y) := Lib.hid (own_reads' ho)
          have HD2 : Hid (DE w2 g B E F (feedN s : Int) en (r.drop (giveN 8 r.length)) lv' ∧ ∀ k, lv'.ownBlock = some k → k < base) := Lib.hid ⟨hd, fun k hk => by
            rcases hl with h | h
            · exact HDE.out.2 k (by rw [← h]; exact hk)
            · rw [h] at hk; cases hk⟩
          have HO2 : Hid (w2.ownsRow base 51 1 u10 o.length (nums .u32 o)) := Lib.hid (by obtain ⟨tv, hb⟩ := HDE.out.1.blk; exact own_keep HO.out hb he)
          have HE2 : Hid (Eff w w2 (fun k => k = g ∨ B ≤ k)) := Lib.hid (HE.out.trans he (fun _ _ h => .inl h))
          have HB2 : Hid (base ≤ w2.heap.size) := Lib.hid (Nat.le_trans HK.out.2.2.2 he.size)
          have HG : Hid (giveN 8 r.length = Y.length ∧ 0 < Y.length ∧ Y.length ≤ 8) := Lib.hid ⟨hYl.symm, by rw [hYl]; unfold giveN; have := HR.out; omega, by rw [hYl]; unfold giveN; omega⟩
          have HSZ : Hid ((o.length + Y.length) * 4 ≤ 140737488355328 ∧ j ≤ 100000) := Lib.hid (by
            have h2 := congrArg List.length HK.out.1
            rw [List.length_append] at h2
            have := HLL.out
            have := HK.out.2.2.1
            have := HG.out.2.2
            omega)
          have hm0 : ¬ Y.length = 0 := by have := HG.out; omega
          have hm1 : ((Y.length : Int) == 0) = false := by rw [beq_eq_false_iff_ne]; omega
          have hm2 : decide (8 < (Y.length : Int)) = false := decide_eq_false (by have := HG.out; omega)
          have hm3 : decide (8 < Y.length) = false := decide_eq_false (by have := HG.out; omega)
          have hj1 : decide (100000 < (j : Int)) = false := decide_eq_false (by have := HSZ.out; omega)
          have hj2 : decide (100000 < j) = false := decide_eq_false (by have := HSZ.out; omega)
          have hm4 : Y.length ≤ 8 := HG.out.2.2
          have hj3 : j ≤ 100000 := HSZ.out.2
          clear ho hd he hl hY hYl hc1 hdone
          go_wp2_with (at_builtin; refine print_append_row (w0 := w2) base rfl (.tmp 142) (.tmp 143) 26 51 .u32 4 rfl Try.underlying26 info_u32 (by decide) u10 o Y A1 Y.length c1 rfl rfl HO2.out HRS.out (Below.refl _ _) HB2.out HSZ.out.1 ?_; intro v3 w3 ho3 hb3 hg3 hat3; have HO3 := Lib.hid ho3; have HB3 := Lib.hid hb3; have HG3 := Lib.hid hg3; clear ho3 hb3 hg3 hat3)
          go_roundg (r.length - Y.length)
          case measure => have := HG.out; have := HK.out; have := HR.out; omega
          case rel => exact ⟨o ++ Y, r.drop (giveN 8 r.length), j + 1, lv', by go_num, Lib.hid ⟨by rw [List.append_assoc, HY.out]; exact HK.out.1, by rw [List.length_drop, HG.out.1], by rw [List.length_append]; have := HG.out; have := HK.out; omega, Nat.le_trans HB2.out HB3.out.size⟩, HO3, Lib.hid ⟨HD2.out.1.grown HO2.out HD2.out.2 HG3.out, HD2.out.2⟩, Lib.hid (HE2.out.trans (Eff.of_grown HG3.out) (fun k _ hk => .inr (Nat.le_trans (Nat.le_trans HB.out HBS.out.1) (q_own_ge (q_of_own HO2.out) k hk.symm))))⟩
end Go.Proofs.Ytegacgfhmigdjaa
