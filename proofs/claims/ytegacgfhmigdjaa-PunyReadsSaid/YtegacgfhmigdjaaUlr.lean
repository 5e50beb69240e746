/- pilcrowlaw10.PunyReads, walked: what is left is plain Lean. -/
import Derived.Test.YtegacgfhmigdjaaUaw
namespace Go.Proofs.Ytegacgfhmigdjaa
open Go.RowKit Go.Proofs.YtegacgfhmigdjaaW.PrintWords Go.Proofs.YtegacgfhmigdjaaW.PrintLast Go.Proofs.YtegacgfhmigdjaaW.PrintMore Go.Proofs.Ytegacgfhmigdjaa.PPu
set_option linter.unusedVariables false
set_option linter.unusedSimpArgs false

/-- A text is read as something. -/
theorem readF_some (s : ByteArray) : ∃ L en E F, ReadF s L en E F ∧ (if E = 0 then 0 else (feedN s : Int)) = F := by
  by_cases h : feedN s < s.size
  · exact ⟨[], false, 3, feedN s, .inl ⟨h, rfl, rfl, rfl, rfl⟩, by rw [if_neg (by decide)]⟩
  · have he : feedN s = s.size := by have := feedN_le s; omega
    rcases hd : denR s with ⟨L, ok⟩
    cases ok with
    | true => exact ⟨L, true, 0, 0, .inr ⟨he, hd, .inl rfl⟩, rfl⟩
    | false => exact ⟨L, false, 4, feedN s, .inr ⟨he, hd, .inr rfl⟩, by rw [if_neg (by decide)]⟩
theorem hand_of {w : World} {g B : Nat} {A : Option Addr} {l : List Int} (h : ReadsInt w .i64 A l.length l) (hg : w.heap.size ≤ g) (hB : w.heap.size ≤ B) : HandI w g B A l := by
  cases l with
  | nil => exact .inl rfl
  | cons a r =>
    obtain ⟨ad, rfl, hc⟩ := h.2.2 (by simp)
    have h0 := hc 0 (by simp)
    have h1 : w.cell? ad = some (.int .i64 a) := by simpa [Addr.add] using h0
    obtain ⟨pb, po, sp⟩ := ad
    cases sp with
    | none =>
      have hlt := World.block_lt_of_cell? w _ h1
      simp only at hlt
      refine .inr ⟨pb, po, rfl, by omega, by omega, fun j hj => ?_⟩
      have := hc j hj
      rwa [Addr.add_lit] at this
    | some x => exfalso; unfold World.cell? at h1; simp at h1; split at h1 <;> simp at h1
theorem HandI.below {w w1 : World} {g B : Nat} {A : Option Addr} {l : List Int} (h : HandI w g B A l) (hb : Below w.heap.size w w1) : HandI w1 g B A l := h.eff (Eff.of_below hb _)
def greatR (n : Nat) (lp lr : List Int) : Bool := decide (n > 120) || (decide (lp.length > 200) || decide (lr.length > 200))
theorem great_c (n : Nat) (A1 A2 : Option Addr) (c1 c2 : Nat) (lp lr : List Int) (w : World) (h1 : ReadsInt w .i64 A1 lp.length lp) (h2 : ReadsInt w .i64 A2 lr.length lr) (hc1 : lp.length ≤ c1) (hc2 : lr.length ≤ c2) :
    Calls Try.prog 11 #[.int .i64 n, .slice A1 lp.length c1, .slice A2 lr.length c2] w fun e w' => e = .returned (.bool (greatR n lp lr)) ∧ Below w.heap.size w w' := by
  refine (pilcrowlaw10_great.calls n A1 c1 lp A2 c2 lr (greatR n lp lr) w (Kd.C_of_reads (d := (0 : Int)) h1) hc1 (Kd.C_of_reads (d := (0 : Int)) h2) hc2 ?_).mono ?_
  · unfold pilcrowlaw10_great.f greatR
    by_cases a : n > 120
    · rw [if_pos (by omega), decide_eq_true a]; rfl
    · rw [if_neg (by omega), decide_eq_false a]
      by_cases b : lp.length > 200
      · rw [if_pos (by omega), decide_eq_true b]; rfl
      · rw [if_neg (by omega), decide_eq_false b]
        simp only [Bool.false_or]
        congr 1
        rw [decide_eq_decide]
        omega
  · rintro e w' ⟨rfl, ⟨nd, rfl⟩⟩
    exact ⟨rfl, below_drewN' (Below.refl _ _) nd⟩
set_option maxRecDepth 100000 in
set_option maxHeartbeats 4000000 in
theorem reads_c (s : ByteArray) (A1 A2 : Option Addr) (c1 c2 : Nat) (lp lr : List Int) (w : World) (h1 : ReadsInt w .i64 A1 lp.length lp) (h2 : ReadsInt w .i64 A2 lr.length lr) (hc1 : lp.length ≤ c1) (hc2 : lr.length ≤ c2) :
    Calls Try.prog 4 #[.string s, .slice A1 lp.length c1, .slice A2 lr.length c2] w fun e w' => e = .returned (.bool true) ∧ Below w.heap.size w w' := by
  have HR1 := Lib.hid h1
  have HR2 := Lib.hid h2
  have HC1 := Lib.hid hc1
  have HC2 := Lib.hid hc2
  clear h1 h2 hc1 hc2
  go_enter Try.func4, Try.ntmps4
  go_wp2_with fail
  refine (awake_c _).mono ?_
  rintro e w1 ⟨rfl, hb1⟩
  have HB1 := Lib.hid hb1
  clear hb1
  go_wp2_with fail
  refine (great_c s.size A1 A2 c1 c2 lp lr _ (HR1.out.below HB1.out) (HR2.out.below HB1.out) HC1.out HC2.out).mono ?_
  rintro e w2 ⟨rfl, hb2⟩
  have HB2 := Lib.hid (below_next HB1.out hb2)
  clear hb2
  cases hg : greatR s.size lp lr with
  | true =>
    clear hg
    go_wp2_with fail
    refine (awake_c _).mono ?_
    rintro e w3 ⟨rfl, hb3⟩
    have HB3 := Lib.hid (below_next HB2.out hb3)
    clear hb3
    go_wp2_with fail
    go_ret
    exact ⟨rfl, HB3.out⟩
  | false =>
    have HSZ : Hid (s.size ≤ 120 ∧ lp.length ≤ 200 ∧ lr.length ≤ 200) := Lib.hid (by
      unfold greatR at hg
      rw [Bool.or_eq_false_iff, Bool.or_eq_false_iff, decide_eq_false_iff_not, decide_eq_false_iff_not, decide_eq_false_iff_not] at hg
      omega)
    clear hg
    obtain ⟨L, en, E, F, hres, hF⟩ := readF_some s
    have HRES := Lib.hid hres
    have HF := Lib.hid hF
    clear hres hF
    go_wp2_with fail
    refine (newdec_c _).mono ?_
    rintro e w3 ⟨rfl, hw3⟩
    have HD3 : Hid (DG w3 w2.heap.size (w2.heap.size + 1) 0 [] (.slice none 0 0) (.slice none 0 0)) := Lib.hid (by rw [hw3]; exact DG.new w2 _)
    have HS3 : Hid (w3.heap.size = w2.heap.size + 1) := Lib.hid (by rw [hw3, World.size_alloc])
    have HB3 : Hid (Below w2.heap.size w2 w3) := Lib.hid (by rw [hw3]; exact below_new (Below.refl _ _) _)
    clear hw3
    go_wp2_with fail
    refine (read_c w2.heap.size (w2.heap.size + 1) s A1 A2 c1 c2 lp lr _ HD3.out (by rw [HS3.out]; exact Nat.le_refl _) (by have := HSZ.out; omega) (by have := HSZ.out; omega) (by have := HSZ.out; omega) ((hand_of (HR1.out.below HB2.out) (Nat.le_refl _) (Nat.le_succ _)).below HB3.out) ((hand_of (HR2.out.below HB2.out) (Nat.le_refl _) (Nat.le_succ _)).below HB3.out) L en E F HRES.out).mono ?_
    rintro e w4 ⟨v4, lv4, rfl, ho4, hd4, he4⟩
    obtain ⟨A4, c4, rfl, hc4⟩ := Go.Proofs.Ytegacgfhmigdjaa.own_slice ho4
    have HO4 := Lib.hid ho4
    have HC4 := Lib.hid hc4
    have HD4 := Lib.hid hd4
    have HB4 : Hid (Below w2.heap.size w2 w4) := Lib.hid (Eff.under HB3.out he4 (by rw [HS3.out]; omega) (fun k hk => by omega))
    clear ho4 hd4 he4 hc4
    go_wp2_with fail
    refine (rread_c s _ (by have := HSZ.out; omega) L en E F HRES.out).mono ?_
    rintro e w5 ⟨v5, rfl, ho5, hb5⟩
    obtain ⟨A5, c5, rfl, hc5⟩ := Go.Proofs.Ytegacgfhmigdjaa.own_slice ho5
    have HO5 := Lib.hid ho5
    have HC5 := Lib.hid hc5
    have HO45 := Lib.hid (own_below HO4.out hb5)
    obtain ⟨tv, hblk⟩ := HD4.out.blk
    have HBK := Lib.hid (hblk.below hb5)
    have HB5 := Lib.hid (below_next HB4.out hb5)
    clear ho5 hc5 hblk hb5
    go_wp2_with fail
    refine (same_c L (by have := HRES.out.len; have := HSZ.out; omega) A4 A5 c4 c5 _ (own_reads' HO45.out) (own_reads' HO5.out) HC4.out HC5.out).mono ?_
    rintro e w6 ⟨rfl, hb6⟩
    have HBK6 := Lib.hid (HBK.out.below hb6)
    have HB6 := Lib.hid (below_next HB5.out hb6)
    clear hb6
    go_wp2_with fail
    refine (fail_c HBK6.out rfl rfl).mono ?_
    rintro e w7 ⟨rfl, hb7⟩
    have HBK7 := Lib.hid (HBK6.out.below hb7)
    have HB7 := Lib.hid (below_next HB6.out hb7)
    clear hb7
    go_wp2_with fail
    refine (failed_c E (feedN s : Int) _).mono ?_
    rintro e w8 ⟨rfl, hb8⟩
    have HBK8 := Lib.hid (HBK7.out.below hb8)
    have HB8 := Lib.hid (below_next HB7.out hb8)
    clear hb8
    rw [HF.out]
    have hq := eql_fail E F
    go_wp2_with fail
    refine (at_c HBK8.out rfl).mono ?_
    rintro e w9 ⟨rfl, rfl⟩
    go_wp2_with fail
    go_ret
    exact ⟨rfl, below_next HB2.out HB8.out⟩
end Go.Proofs.Ytegacgfhmigdjaa
