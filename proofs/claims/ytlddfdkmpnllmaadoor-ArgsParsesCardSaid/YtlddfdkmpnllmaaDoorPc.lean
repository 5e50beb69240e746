/- args.Parse answers what parseF answers: the way with a command. -/
import Derived.Test.YtlddfdkmpnllmaaDoorPw
import Derived.Test.YtlddfdkmpnllmaaDoorEq
namespace Go.Proofs.YtlddfdkmpnllmaaDoor
open Go.RowKit Go.Proofs.YtlddfdkmpnllmaaDoorW.PrintWords Go.Proofs.YtlddfdkmpnllmaaDoorW.PrintLast Go.Proofs.YtlddfdkmpnllmaaDoorW.PrintMore
set_option linter.unusedVariables false
set_option linter.unusedSimpArgs false

set_option maxRecDepth 100000 in
set_option maxHeartbeats 2000000 in
theorem parse_cmd (g o c m : Nat) (a : ByteArray) (r : List ByteArray) (hr : r.length = m) (hm63 : m + 1 ≤ 9223372036854775807) (hsz : ∀ s ∈ a :: r, s.size ≤ 140737488351232) (ha : a.size ≠ 0) (hin : inF a cmds = true) (w : World) (hg : g < w.heap.size)
    (hcs : ∀ j, j < m + 1 → w.cell? ⟨g, o + j, none⟩ = some (.string ((a :: r).getD j ByteArray.empty))) :
    Calls Tryd.prog 10 #[.slice (some ⟨g, o, none⟩) (m + 1) c] w (Parsed w (parseF (a :: r))) := by
  have hc : w.cell? ⟨g, o, none⟩ = some (.string a) := by have := hcs 0 (by omega); exact this
  have hF : parseF (a :: r) = parseGo (r.length + 1) r 1 { Pl.zero with c0 := idxF a cmds 0 } [] := by simp only [parseF]; rw [if_neg ha, if_neg (by rw [hin]; decide)]
  have HF := Lib.hid hF
  have HCS := Lib.hid hcs
  have HSZ := Lib.hid hsz
  have HR := Lib.hid hr
  clear hF hcs hsz hr
  have hl : a.toList ≠ [] := by rw [ByteArray.toList_eq]; intro h; exact ha (by show a.data.toList.length = 0; rw [h]; rfl)
  have hl1 : (a.toList == []) = false := by rw [beq_eq_false_iff_ne]; exact hl
  have hl2 : a.toList.isEmpty = false := by rw [List.isEmpty_eq_false_iff]; exact hl
  have hm : ((m : Int) + 1 == 0) = false := by rw [beq_eq_false_iff_ne]; omega
  have hin' := Lib.hid hin
  clear hin ha
  go_enter Tryd.func10, Tryd.ntmps10
  go_upto_region 1 with fail
  go_cut [28] (fun s28 wx => s28 = .bool false ∧ wx.cell? ⟨g, o, none⟩ = some (.string a) ∧ Hid (PlanAt wx w.heap.size Pl.zero) ∧ Hid (Below w.heap.size w wx))
  case first =>
    go_region_held3 (fun w' => w'.cell? ⟨g, o, none⟩ = some (.string a) ∧ Hid (PlanAt w' w.heap.size Pl.zero) ∧ Hid (Below w.heap.size w w')) ((change PS w w.heap.size Pl.zero g o a _; first | with_reducible assumption | with_reducible exact PS.start hg hc | exact PS.start hg hc))
      (first
        | (go_at_call 17; refine (commands_c _).mono ?_; rintro e w1 ⟨v, rfl, hv, hb⟩; have hS1 : PS w w.heap.size Pl.zero g o a w1 := PS.next (by assumption) hb)
        | (go_at_call 16; refine (contains_b _ cmds a _ (by assumption)).mono ?_; rintro e w2 ⟨rfl, hb2⟩; have hS2 : PS w w.heap.size Pl.zero g o a w2 := PS.next (by assumption) hb2; rw [hin'.out]))
    all_goals (go_wp2_with fail; go_meet)
    refine ⟨rfl, ?_⟩
    exact (show PS w w.heap.size Pl.zero g o a _ by assumption)
  case rest =>
    obtain ⟨rfl, hc1, HP, HW⟩ := hcut
    have hsw : w.heap.size < wc.heap.size := PlanAt.lt HP.out
    have hS0 : PS w w.heap.size Pl.zero g o a wc := ⟨hc1, HP, HW⟩
    go_upto_region 3 with fail
    obtain ⟨ix, hix⟩ : ∃ ix, idxF a cmds 0 = ix := ⟨_, rfl⟩
    have hix' := Lib.hid hix
    clear hix
    go_cut [5] (fun s5 wx => ∃ b, s5 = .pointer (some ⟨b, 0, none⟩) ∧ Hid (w.heap.size < b ∧ PlanAt wx b { Pl.zero with c0 := ix } ∧ PlanAt wx w.heap.size Pl.zero ∧ Below w.heap.size w wx))
    case first =>
      go_region_held3 (fun w' => w'.cell? ⟨g, o, none⟩ = some (.string a) ∧ Hid (PlanAt w' w.heap.size Pl.zero) ∧ Hid (Below w.heap.size w w')) ((change PS w w.heap.size Pl.zero g o a _; ((repeat (first | (with_reducible apply PS.drew) | (with_reducible apply PS.alloc) | (with_reducible refine PS.far ?_ (by omega) (by omega) (by omega)))); with_reducible assumption)))
        (first
          | (go_at_call 17; refine (commands_c _).mono ?_; rintro e w1 ⟨v, rfl, hv, hb⟩; have hS1 : PS w w.heap.size Pl.zero g o a w1 := PS.next (by assumption) hb; have hs1 := hb.size; (try simp only [size_drew, World.size_alloc, Nat.add_one_le_iff] at hs1); obtain ⟨hcB, hfB⟩ := bcell hb)
          | (go_at_call 18; refine (index_b _ cmds a _ (by first | assumption | exact SL.alloc (by assumption) _)).mono ?_; rintro e w2 ⟨rfl, hb2⟩; have hS2 : PS w w.heap.size Pl.zero g o a w2 := PS.next (by assumption) hb2; have hs2 := hb2.size; (try simp only [size_drew, World.size_alloc, Nat.add_one_le_iff] at hs2); obtain ⟨hcB2, hfB2⟩ := bcell hb2; rw [hix'.out]))
      all_goals (go_wp2_with fail; go_meet)
      · exact ⟨w2.heap.size, rfl, by omega, PlanAt.new w2 { Pl.zero with c0 := ix }, (PS.alloc hS2 _).2.1, (PS.alloc hS2 _).2.2⟩
      · have hX := PS.setPlan (x := w1.heap.size) (q := { Pl.zero with c0 := ix }) hS2 (by omega) (by omega) (by omega)
        exact ⟨w1.heap.size, rfl, by omega, setPlan_at (p := { Pl.zero with c0 := ix }) (PlanAt.below (PlanAt.new w1 Pl.zero) hb2), hX.2.1, hX.2.2⟩
      · have hX := PS.setPlan (x := wc.heap.size) (q := { Pl.zero with c0 := ix }) hS2 (by omega) (by omega) (by omega)
        exact ⟨wc.heap.size, rfl, by omega, setPlan_at (p := { Pl.zero with c0 := ix }) (PlanAt.below (PlanAt.below (PlanAt.new wc Pl.zero).drew hb) hb2), hX.2.1, hX.2.2⟩
    case rest =>
      obtain ⟨b, rfl, HB⟩ := hcut
      go_wp2_with fail
      go_loopg [6, 38] (m + 1) (fun kq s6 s38 w' => ∃ (i : Nat) (p : Pl) (seen : List ByteArray), s38 = .int .i64 i ∧ Hid (kq = m + 1 - i ∧ i ≤ m + 1) ∧ Hid (PlanAt w' b p) ∧ Hid (PlanAt w' w.heap.size Pl.zero) ∧ Hid (Below w.heap.size w w') ∧ Hid (Kd.R Kd.string 9 w' w.heap.size (fun _ => True) s6 seen) ∧ Hid (seen.length ≤ i) ∧ Hid (parseF (a :: r) = parseGo (m + 1 : Nat) ((a :: r).drop (max i 1)) (max i 1 : Nat) p seen))
      case atStart => exact ⟨0, _, [], rfl, Lib.hid ⟨rfl, by omega⟩, HB.2.1, HB.2.2.1, HB.2.2.2, Kd.R_nil _ _ _ _ _, Nat.le_refl _, by rw [HF.out, hix'.out, HR.out]; rfl⟩
      case round =>
        obtain ⟨i, p, seen, rfl, HK, HP1, HP0, HB1, HS, HL, HG⟩ := hrel
        have hbw := HB.1
        have hszr := HB1.out.size
        have hbl := PlanAt.lt HP1.out
        by_cases hi : i < m + 1
        · have hci : wr.cell? ⟨g, o + i, none⟩ = some (.string ((a :: r).getD i ByteArray.empty)) := (HB1.out.cell (p := ⟨g, o + i, none⟩) hg).trans (HCS.out i hi)
          have hx : (a :: r).drop i = (a :: r).getD i ByteArray.empty :: (a :: r).drop (i + 1) := by
            have hl : i < (a :: r).length := by have := HR.out; simp; omega
            rw [List.drop_eq_getElem_cons hl, List.getD_eq_getElem?_getD, List.getElem?_eq_getElem hl]; rfl
          have hxs : ((a :: r).getD i ByteArray.empty).size ≤ 140737488351232 := by
            have hl : i < (a :: r).length := by have := HR.out; simp; omega
            rw [List.getD_eq_getElem?_getD, List.getElem?_eq_getElem hl]; exact HSZ.out _ (List.getElem_mem hl)
          obtain ⟨x, hxx⟩ : ∃ x, (a :: r).getD i ByteArray.empty = x := ⟨_, rfl⟩
          rw [hxx] at hci hx hxs
          have HX := Lib.hid hx
          have HXS := Lib.hid hxs
          clear hx hxs hxx
          by_cases h0 : i = 0
          · have hz : ((i : Int) == 0) = true := by rw [beq_iff_eq]; omega
            have H0 := Lib.hid h0
            clear h0
            go_wp2_with fail
            go_roundg m
            case measure => have := HK.out; have := H0.out; omega
            case rel => exact ⟨i + 1, p, seen, by go_num, by have := HK.out; have := H0.out; exact Lib.hid ⟨by omega, by omega⟩, HP1, HP0, HB1, HS, by have := HL.out; exact Nat.le_succ_of_le this, by have h := HG.out; have h0 := H0.out; subst h0; exact h⟩
          · have hz : ((i : Int) == 0) = false := by rw [beq_eq_false_iff_ne]; omega
            obtain ⟨nm, hnm⟩ : ∃ nm, (cutF x).1 = nm := ⟨_, rfl⟩
            obtain ⟨vl, hvl⟩ : ∃ vl, (cutF x).2.1 = vl := ⟨_, rfl⟩
            obtain ⟨hs, hhs⟩ : ∃ hs, (cutF x).2.2 = hs := ⟨_, rfl⟩
            have HCUT : Hid (∀ w, Calls Tryd.prog 19 #[.string x, .string ⟨#[61]⟩] w fun e w' => e = .returned (.tuple #[.string nm, .string vl, .bool hs]) ∧ ∃ n, w' = w.drewN n) := by
              intro w; have := cut_calls x w HXS.out; rw [hnm, hvl, hhs] at this; exact this
            have HNM := Lib.hid hnm
            have HVL := Lib.hid hvl
            have HHS := Lib.hid hhs
            have H0 := Lib.hid h0
            clear hnm hvl hhs h0
            have HG' : Hid (parseF (a :: r) = parseGo (m + 1 : Nat) (x :: (a :: r).drop (i + 1)) (i : Nat) p seen) := by
              have h := HG.out
              have h0 := H0.out
              rw [show max i 1 = i by omega, HX.out] at h
              exact h
            by_cases h64 : 64 ≤ i
            · have k64 : decide (64 ≤ (i : Int)) = true := by rw [decide_eq_true_eq]; omega
              have HE := Lib.hid (HG'.out.trans (go_late (by omega)))
              clear h64
              obtain ⟨z0, z1, z2, z3, z4, z5, z6, z7⟩ := PlanAt.cells8 HP0.out
              have hfr := PlanAt.frozen HP0.out
              go_wp2_with (go_at_call 19; refine (HCUT.out _).mono ?_; rintro e w1 ⟨rfl, n1, rfl⟩)
              change bodyPost _ _ _ _ _ (setPlan (wr.drewN n1) w.heap.size Pl.zero)
              refine bodyPost_ret (results_plan (b := w.heap.size) (p := Pl.zero) (n := i) (ok := false) Tryd.results10 rfl rfl rfl (setPlan_at HP0.out)) rfl ?_
              exact ⟨by rw [HE.out], setPlan_below _ (below_drewN' HB1.out _) (Nat.le_refl _)⟩
            · have k64 : decide (64 ≤ (i : Int)) = false := by rw [decide_eq_false_iff_not]; omega
              have H64 : Hid (¬ 64 ≤ (i : Int)) := by intro h; omega
              clear h64
              have hc0 := PlanAt.cell HP1.out 0
              simp only [Pl.cells] at hc0
              go_wp2_with (go_at_call 19; refine (HCUT.out _).mono ?_; rintro e w1 ⟨rfl, n1, rfl⟩)
              refine (may_c p.c0 _).mono ?_
              rintro e w2 ⟨v, rfl, hv, hb2⟩
              have HV := Lib.hid hv
              have HP1' := Lib.hid (PlanAt.below (HP1.out.drewN n1) hb2)
              have HP0' := Lib.hid (PlanAt.below (HP0.out.drewN n1) hb2)
              have HB1' := Lib.hid (below_then (below_drewN' HB1.out n1) hb2 (show w.heap.size ≤ (wr.drewN n1).heap.size from HB1.out.size))
              have HS' := Lib.hid (Kd.R_below (Kd.R_drewN HS.out n1) hb2)
              clear hv hb2 hc0 hci
              obtain ⟨z0, z1, z2, z3, z4, z5, z6, z7⟩ := PlanAt.cells8 HP0'.out
              have hfr := PlanAt.frozen HP0'.out
              by_cases h1 : inF nm (mayF p.c0) = true
              · have hc0 := z0
                go_wp2_with fail
                refine (contains_c v (mayF p.c0) nm _ HV.out).mono ?_
                rintro e w3 ⟨rfl, n3, rfl⟩
                rw [h1]
                have H1 := Lib.hid h1
                clear h1 hc0
                by_cases h2 : inF nm seen = true
                · have HE := Lib.hid (HG'.out.trans (go_twice HNM.out (by have := H64.out; omega) H1.out h2))
                  go_wp2_with fail
                  refine (contains_c _ seen nm _ (SL.of_R (Kd.R_drewN HS'.out n3))).mono ?_
                  rintro e w4 ⟨rfl, n4, rfl⟩
                  rw [h2]
                  clear h2
                  go_wp2_with fail
                  change bodyPost _ _ _ _ _ (setPlan (w2.drewN (n3 + n4)) w.heap.size Pl.zero)
                  refine bodyPost_ret (results_plan (b := w.heap.size) (p := Pl.zero) (n := i) (ok := false) Tryd.results10 rfl rfl rfl (setPlan_at HP0'.out)) rfl ?_
                  exact ⟨by rw [HE.out], setPlan_below _ (below_drewN' HB1'.out _) (Nat.le_refl _)⟩
                · have h2' : inF nm seen = false := by simpa using h2
                  have H2 := Lib.hid h2'
                  go_wp2_with fail
                  refine (contains_c _ seen nm _ (SL.of_R (Kd.R_drewN HS'.out n3))).mono ?_
                  rintro e w4 ⟨rfl, n4, rfl⟩
                  rw [h2']
                  clear h2 h2'
                  go_wp2_with fail
                  refine (set_c b p nm vl hs _ (HP1'.out.drewN (n3 + n4)) (mayF_mem ((inF_iff _ _).1 H1.out))).mono ?_
                  rintro e w5 ⟨rfl, hp5, hg5⟩
                  have HP5 := Lib.hid hp5
                  have HP05 : Hid (PlanAt w5 w.heap.size Pl.zero) := (hg5.block _ (PlanAt.lt (HP0'.out.drewN (n3 + n4))) (by intro e; injection e with e; omega)).trans (HP0'.out.drewN (n3 + n4))
                  have HB5 : Hid (Below w.heap.size w w5) := Below.grown (below_drewN' HB1'.out (n3 + n4)) hg5 (show w.heap.size ≤ w2.heap.size from HB1'.out.size) (by intro k e; injection e with e; omega)
                  have HS5 : Hid (Kd.R Kd.string 9 w5 w.heap.size (fun _ => True) u6 seen) :=
                    Kd.R_mono (Kd.R_grown (Kd.R_types (Kd.R_drewN HS'.out (n3 + n4)) (HP1'.out.drewN (n3 + n4)) (by decide)) hg5 (fun k hk e => hk.2 (by injection e))) (fun _ _ => trivial)
                  clear hp5 hg5 z0 z1 z2 z3 z4 z5 z6 z7 hfr
                  obtain ⟨z0, z1, z2, z3, z4, z5, z6, z7⟩ := PlanAt.cells8 HP05.out
                  have hfr := PlanAt.frozen HP05.out
                  by_cases h3 : (setF p nm vl hs).2 = true
                  · rw [h3]
                    have HE := Lib.hid (HG'.out.trans (go_on HNM.out HVL.out HHS.out (by have := H64.out; omega) H1.out H2.out h3))
                    clear h3
                    have hseen : seen.length ≤ 63 := by have := HL.out; have := H64.out; omega
                    have HSEEN := Lib.hid hseen
                    clear hseen
                    go_wp2_with (at_builtin; refine Kd.R_append Kd.string (w0 := w) w.heap.size rfl (.tmp 75) (.tmp 77) 22 9 (.string ⟨#[]⟩) 16 rfl Tryd.underlying22 info_str rfl (by decide) (by decide) u6 seen nm [.string nm] (fun _ => True) (fun _ => False) rfl rfl rfl (fun _ hk => hk.elim) (fun _ _ => trivial) HS5.out HB5.out HB5.out.size (by have := HSEEN.out; omega) ?_; intro v6 w6 ho6 hb6 hg6 hat6; have HP6 : Hid (PlanAt w6 b (setF p nm vl hs).1) := ((hg6.block b (PlanAt.lt HP5.out) (Kd.R_ne HS5.out HP5.out (by decide))).trans HP5.out); have HP06 : Hid (PlanAt w6 w.heap.size Pl.zero) := ((hg6.block _ (PlanAt.lt HP05.out) (Kd.R_ne HS5.out HP05.out (by decide))).trans HP05.out); have HS6 := Lib.hid ho6; have HB6 := Lib.hid hb6; clear ho6 hb6 hg6 hat6)
                    go_roundg (m - i)
                    case measure => have := HK.out; omega
                    case rel => exact ⟨i + 1, _, _, by go_num, by have := HK.out; exact Lib.hid ⟨by omega, by omega⟩, HP6, HP06, HB6, HS6, by have := HL.out; simp only [Hid, List.length_append, List.length_singleton]; omega, by have h := HE.out; rw [show max (i + 1) 1 = i + 1 by omega]; exact h⟩
                  · have h3' : (setF p nm vl hs).2 = false := by simpa using h3
                    rw [h3']
                    have HE := Lib.hid (HG'.out.trans (go_bad HNM.out HVL.out HHS.out (by have := H64.out; omega) H1.out H2.out h3'))
                    clear h3 h3'
                    go_wp2_with fail
                    change bodyPost _ _ _ _ _ (setPlan w5 w.heap.size Pl.zero)
                    refine bodyPost_ret (results_plan (b := w.heap.size) (p := Pl.zero) (n := i) (ok := false) Tryd.results10 rfl rfl rfl (setPlan_at HP05.out)) rfl ?_
                    exact ⟨by rw [HE.out], setPlan_below _ HB5.out (Nat.le_refl _)⟩
              · have h1' : inF nm (mayF p.c0) = false := by simpa using h1
                have HE := Lib.hid (HG'.out.trans (go_no HNM.out (by have := H64.out; omega) h1'))
                go_wp2_with fail
                refine (contains_c v (mayF p.c0) nm _ HV.out).mono ?_
                rintro e w3 ⟨rfl, n3, rfl⟩
                rw [h1']
                clear h1 h1'
                go_wp2_with fail
                change bodyPost _ _ _ _ _ (setPlan (w2.drewN n3) w.heap.size Pl.zero)
                refine bodyPost_ret (results_plan (b := w.heap.size) (p := Pl.zero) (n := i) (ok := false) Tryd.results10 rfl rfl rfl (setPlan_at HP0'.out)) rfl ?_
                exact ⟨by rw [HE.out], setPlan_below _ (below_drewN' HB1'.out _) (Nat.le_refl _)⟩
        · have him : i = m + 1 := by have := HK.out; omega
          have HG' : Hid (parseF (a :: r) = finishF p (m + 1 : Nat)) := by
            have h := HG.out
            rw [show max i 1 = m + 1 by omega, List.drop_eq_nil_of_le (by have := HR.out; simp; omega)] at h
            exact h
          subst him
          obtain ⟨y0, y1, y2, y3, y4, y5, y6, y7⟩ := PlanAt.cells8 HP1.out
          go_wp2_with fail
          refine (whole_c p _).mono ?_
          rintro e w2 ⟨rfl, hb2⟩
          clear y0 y1 y2 y3 y4 y5 y6 y7
          have HP2 := Lib.hid (PlanAt.below HP1.out hb2)
          have HP02 := Lib.hid (PlanAt.below HP0.out hb2)
          have HB2 := Lib.hid (below_then HB1.out hb2 HB1.out.size)
          clear hb2
          obtain ⟨z0, z1, z2, z3, z4, z5, z6, z7⟩ := PlanAt.cells8 HP02.out
          have hfr := PlanAt.frozen HP02.out
          by_cases hw : wholeF p = true
          · rw [hw]
            have HWH := Lib.hid hw
            clear hw
            have y0 := PlanAt.cell HP2.out 0
            have y3 := PlanAt.cell HP2.out 3
            simp only [Pl.cells] at y0 y3
            by_cases h3 : p.c3 = 0
            · have k3 : (p.c3 == 0) = true := by rw [beq_iff_eq]; exact h3
              have H3 := Lib.hid h3
              clear h3
              go_wp2_with fail
              refine (may_c p.c0 _).mono ?_
              rintro e w3 ⟨v, rfl, hv, hb3⟩
              have HV := Lib.hid hv
              have HP3 := Lib.hid (PlanAt.below HP2.out hb3)
              have HP03 := Lib.hid (PlanAt.below HP02.out hb3)
              have HB3 := Lib.hid (below_then HB2.out hb3 HB2.out.size)
              clear hv hb3 y0 y3 z0 z1 z2 z3 z4 z5 z6 z7 hfr
              obtain ⟨z0, z1, z2, z3, z4, z5, z6, z7⟩ := PlanAt.cells8 HP03.out
              have hfr := PlanAt.frozen HP03.out
              go_wp2_with fail
              refine (contains_c v (mayF p.c0) kForm _ HV.out).mono ?_
              rintro e w4 ⟨rfl, n3, rfl⟩
              by_cases h7 : inF kForm (mayF p.c0) = true
              · rw [h7]
                have H7 := Lib.hid h7
                clear h7
                obtain ⟨x0, x1, x2, x3, x4, x5, x6, x7⟩ := PlanAt.cells8 HP3.out
                have hfx := PlanAt.frozen HP3.out
                by_cases h4 : p.c4 = 0
                · have k4 : (p.c4 == 0) = true := by rw [beq_iff_eq]; exact h4
                  have H4 := Lib.hid h4
                  clear h4
                  by_cases h5 : p.c0 = 1
                  · have k5 : (p.c0 == 1) = true := by rw [beq_iff_eq]; exact h5
                    have H5 := Lib.hid h5
                    clear h5
                    by_cases h6 : p.f = true
                    · have H6 := Lib.hid h6
                      clear h6
                      rw [H6.out] at x5
                      go_wp2_with fail
                      have HE := Lib.hid (HG'.out.trans (finish_ok HWH.out (form_yes H3.out H7.out) (size_yes H4.out H5.out H6.out)))
                      have HE2 : parseF (a :: r) = ({ p with c3 := 1, c4 := 4096, f := true }, 0, true) := HE.out.trans (congrArg (fun fv => (({ p with c3 := 1, c4 := 4096, f := fv } : Pl), (0 : Int), true)) H6.out)
                      change bodyPost _ _ _ _ _ (setPlan (((w3.drewN n3).setCell ⟨b, 3, none⟩ (.int .i64 1)).setCell ⟨b, 4, none⟩ (.int .i64 4096)) w.heap.size { p with c3 := 1, c4 := 4096, f := true })
                      refine bodyPost_ret (results_plan (b := w.heap.size) (p := { p with c3 := 1, c4 := 4096, f := true }) (n := 0) (ok := true) Tryd.results10 rfl rfl rfl (setPlan_at (PlanAt.far (PlanAt.far (HP03.out.drewN n3) (by omega)) (by omega)))) rfl ?_
                      exact ⟨by rw [HE2], setPlan_below _ (Below.setCell (Below.setCell (below_drewN' HB3.out n3) (by show w.heap.size ≤ b; omega) _) (by show w.heap.size ≤ b; omega) _) (Nat.le_refl _)⟩
                    · have h6' : p.f = false := by simpa using h6
                      have H6 := Lib.hid h6'
                      clear h6 h6'
                      rw [H6.out] at x5
                      go_wp2_with fail
                      have HE := Lib.hid (HG'.out.trans (finish_ok HWH.out (form_yes H3.out H7.out) (size_no3 H6.out)))
                      have HE2 : parseF (a :: r) = ({ p with c3 := 1, f := false }, 0, true) := HE.out.trans (congrArg (fun fv => (({ p with c3 := 1, f := fv } : Pl), (0 : Int), true)) H6.out)
                      change bodyPost _ _ _ _ _ (setPlan ((w3.drewN n3).setCell ⟨b, 3, none⟩ (.int .i64 1)) w.heap.size { p with c3 := 1, f := false })
                      refine bodyPost_ret (results_plan (b := w.heap.size) (p := { p with c3 := 1, f := false }) (n := 0) (ok := true) Tryd.results10 rfl rfl rfl (setPlan_at (PlanAt.far (HP03.out.drewN n3) (by omega)))) rfl ?_
                      exact ⟨by rw [HE2], setPlan_below _ (Below.setCell (below_drewN' HB3.out n3) (by show w.heap.size ≤ b; omega) _) (Nat.le_refl _)⟩
                  · have k5 : (p.c0 == 1) = false := by rw [beq_eq_false_iff_ne]; exact h5
                    have H5 := Lib.hid h5
                    clear h5
                    go_wp2_with fail
                    have HE := Lib.hid (HG'.out.trans (finish_ok HWH.out (form_yes H3.out H7.out) (size_no2 H5.out)))
                    change bodyPost _ _ _ _ _ (setPlan ((w3.drewN n3).setCell ⟨b, 3, none⟩ (.int .i64 1)) w.heap.size { p with c3 := 1 })
                    refine bodyPost_ret (results_plan (b := w.heap.size) (p := { p with c3 := 1 }) (n := 0) (ok := true) Tryd.results10 rfl rfl rfl (setPlan_at (PlanAt.far (HP03.out.drewN n3) (by omega)))) rfl ?_
                    exact ⟨by rw [HE.out], setPlan_below _ (Below.setCell (below_drewN' HB3.out n3) (by show w.heap.size ≤ b; omega) _) (Nat.le_refl _)⟩
                · have k4 : (p.c4 == 0) = false := by rw [beq_eq_false_iff_ne]; exact h4
                  have H4 := Lib.hid h4
                  clear h4
                  go_wp2_with fail
                  have HE := Lib.hid (HG'.out.trans (finish_ok HWH.out (form_yes H3.out H7.out) (size_no1 H4.out)))
                  change bodyPost _ _ _ _ _ (setPlan ((w3.drewN n3).setCell ⟨b, 3, none⟩ (.int .i64 1)) w.heap.size { p with c3 := 1 })
                  refine bodyPost_ret (results_plan (b := w.heap.size) (p := { p with c3 := 1 }) (n := 0) (ok := true) Tryd.results10 rfl rfl rfl (setPlan_at (PlanAt.far (HP03.out.drewN n3) (by omega)))) rfl ?_
                  exact ⟨by rw [HE.out], setPlan_below _ (Below.setCell (below_drewN' HB3.out n3) (by show w.heap.size ≤ b; omega) _) (Nat.le_refl _)⟩
              · have h7' : inF kForm (mayF p.c0) = false := by simpa using h7
                rw [h7']
                have H7 := Lib.hid h7'
                clear h7 h7'
                obtain ⟨x0, x1, x2, x3, x4, x5, x6, x7⟩ := PlanAt.cells8 HP3.out
                have hfx := PlanAt.frozen HP3.out
                by_cases h4 : p.c4 = 0
                · have k4 : (p.c4 == 0) = true := by rw [beq_iff_eq]; exact h4
                  have H4 := Lib.hid h4
                  clear h4
                  by_cases h5 : p.c0 = 1
                  · have k5 : (p.c0 == 1) = true := by rw [beq_iff_eq]; exact h5
                    have H5 := Lib.hid h5
                    clear h5
                    by_cases h6 : p.f = true
                    · have H6 := Lib.hid h6
                      clear h6
                      rw [H6.out] at x5
                      go_wp2_with fail
                      have HE := Lib.hid (HG'.out.trans (finish_ok HWH.out (form_no2 H7.out) (size_yes H4.out H5.out H6.out)))
                      have HE2 : parseF (a :: r) = ({ p with c4 := 4096, f := true }, 0, true) := HE.out.trans (congrArg (fun fv => (({ p with c4 := 4096, f := fv } : Pl), (0 : Int), true)) H6.out)
                      change bodyPost _ _ _ _ _ (setPlan ((w3.drewN n3).setCell ⟨b, 4, none⟩ (.int .i64 4096)) w.heap.size { p with c4 := 4096, f := true })
                      refine bodyPost_ret (results_plan (b := w.heap.size) (p := { p with c4 := 4096, f := true }) (n := 0) (ok := true) Tryd.results10 rfl rfl rfl (setPlan_at (PlanAt.far (HP03.out.drewN n3) (by omega)))) rfl ?_
                      exact ⟨by rw [HE2], setPlan_below _ (Below.setCell (below_drewN' HB3.out n3) (by show w.heap.size ≤ b; omega) _) (Nat.le_refl _)⟩
                    · have h6' : p.f = false := by simpa using h6
                      have H6 := Lib.hid h6'
                      clear h6 h6'
                      rw [H6.out] at x5
                      go_wp2_with fail
                      have HE := Lib.hid (HG'.out.trans (finish_ok HWH.out (form_no2 H7.out) (size_no3 H6.out)))
                      have HE2 : parseF (a :: r) = ({ p with f := false }, 0, true) := HE.out.trans (congrArg (fun fv => (({ p with f := fv } : Pl), (0 : Int), true)) H6.out)
                      change bodyPost _ _ _ _ _ (setPlan (w3.drewN n3) w.heap.size { p with f := false })
                      refine bodyPost_ret (results_plan (b := w.heap.size) (p := { p with f := false }) (n := 0) (ok := true) Tryd.results10 rfl rfl rfl (setPlan_at (HP03.out.drewN n3))) rfl ?_
                      exact ⟨by rw [HE2], setPlan_below _ (below_drewN' HB3.out n3) (Nat.le_refl _)⟩
                  · have k5 : (p.c0 == 1) = false := by rw [beq_eq_false_iff_ne]; exact h5
                    have H5 := Lib.hid h5
                    clear h5
                    go_wp2_with fail
                    have HE := Lib.hid (HG'.out.trans (finish_ok HWH.out (form_no2 H7.out) (size_no2 H5.out)))
                    change bodyPost _ _ _ _ _ (setPlan (w3.drewN n3) w.heap.size p)
                    refine bodyPost_ret (results_plan (b := w.heap.size) (p := p) (n := 0) (ok := true) Tryd.results10 rfl rfl rfl (setPlan_at (HP03.out.drewN n3))) rfl ?_
                    exact ⟨by rw [HE.out], setPlan_below _ (below_drewN' HB3.out n3) (Nat.le_refl _)⟩
                · have k4 : (p.c4 == 0) = false := by rw [beq_eq_false_iff_ne]; exact h4
                  have H4 := Lib.hid h4
                  clear h4
                  go_wp2_with fail
                  have HE := Lib.hid (HG'.out.trans (finish_ok HWH.out (form_no2 H7.out) (size_no1 H4.out)))
                  change bodyPost _ _ _ _ _ (setPlan (w3.drewN n3) w.heap.size p)
                  refine bodyPost_ret (results_plan (b := w.heap.size) (p := p) (n := 0) (ok := true) Tryd.results10 rfl rfl rfl (setPlan_at (HP03.out.drewN n3))) rfl ?_
                  exact ⟨by rw [HE.out], setPlan_below _ (below_drewN' HB3.out n3) (Nat.le_refl _)⟩
            · have k3 : (p.c3 == 0) = false := by rw [beq_eq_false_iff_ne]; exact h3
              have H3 := Lib.hid h3
              clear h3
              obtain ⟨x0, x1, x2, x3, x4, x5, x6, x7⟩ := PlanAt.cells8 HP2.out
              have hfx := PlanAt.frozen HP2.out
              by_cases h4 : p.c4 = 0
              · have k4 : (p.c4 == 0) = true := by rw [beq_iff_eq]; exact h4
                have H4 := Lib.hid h4
                clear h4
                by_cases h5 : p.c0 = 1
                · have k5 : (p.c0 == 1) = true := by rw [beq_iff_eq]; exact h5
                  have H5 := Lib.hid h5
                  clear h5
                  by_cases h6 : p.f = true
                  · have H6 := Lib.hid h6
                    clear h6
                    rw [H6.out] at x5
                    go_wp2_with fail
                    have HE := Lib.hid (HG'.out.trans (finish_ok HWH.out (form_no1 H3.out) (size_yes H4.out H5.out H6.out)))
                    have HE2 : parseF (a :: r) = ({ p with c4 := 4096, f := true }, 0, true) := HE.out.trans (congrArg (fun fv => (({ p with c4 := 4096, f := fv } : Pl), (0 : Int), true)) H6.out)
                    change bodyPost _ _ _ _ _ (setPlan (w2.setCell ⟨b, 4, none⟩ (.int .i64 4096)) w.heap.size { p with c4 := 4096, f := true })
                    refine bodyPost_ret (results_plan (b := w.heap.size) (p := { p with c4 := 4096, f := true }) (n := 0) (ok := true) Tryd.results10 rfl rfl rfl (setPlan_at (PlanAt.far HP02.out (by omega)))) rfl ?_
                    exact ⟨by rw [HE2], setPlan_below _ (Below.setCell HB2.out (by show w.heap.size ≤ b; omega) _) (Nat.le_refl _)⟩
                  · have h6' : p.f = false := by simpa using h6
                    have H6 := Lib.hid h6'
                    clear h6 h6'
                    rw [H6.out] at x5
                    go_wp2_with fail
                    have HE := Lib.hid (HG'.out.trans (finish_ok HWH.out (form_no1 H3.out) (size_no3 H6.out)))
                    have HE2 : parseF (a :: r) = ({ p with f := false }, 0, true) := HE.out.trans (congrArg (fun fv => (({ p with f := fv } : Pl), (0 : Int), true)) H6.out)
                    change bodyPost _ _ _ _ _ (setPlan w2 w.heap.size { p with f := false })
                    refine bodyPost_ret (results_plan (b := w.heap.size) (p := { p with f := false }) (n := 0) (ok := true) Tryd.results10 rfl rfl rfl (setPlan_at HP02.out)) rfl ?_
                    exact ⟨by rw [HE2], setPlan_below _ HB2.out (Nat.le_refl _)⟩
                · have k5 : (p.c0 == 1) = false := by rw [beq_eq_false_iff_ne]; exact h5
                  have H5 := Lib.hid h5
                  clear h5
                  go_wp2_with fail
                  have HE := Lib.hid (HG'.out.trans (finish_ok HWH.out (form_no1 H3.out) (size_no2 H5.out)))
                  change bodyPost _ _ _ _ _ (setPlan w2 w.heap.size p)
                  refine bodyPost_ret (results_plan (b := w.heap.size) (p := p) (n := 0) (ok := true) Tryd.results10 rfl rfl rfl (setPlan_at HP02.out)) rfl ?_
                  exact ⟨by rw [HE.out], setPlan_below _ HB2.out (Nat.le_refl _)⟩
              · have k4 : (p.c4 == 0) = false := by rw [beq_eq_false_iff_ne]; exact h4
                have H4 := Lib.hid h4
                clear h4
                go_wp2_with fail
                have HE := Lib.hid (HG'.out.trans (finish_ok HWH.out (form_no1 H3.out) (size_no1 H4.out)))
                change bodyPost _ _ _ _ _ (setPlan w2 w.heap.size p)
                refine bodyPost_ret (results_plan (b := w.heap.size) (p := p) (n := 0) (ok := true) Tryd.results10 rfl rfl rfl (setPlan_at HP02.out)) rfl ?_
                exact ⟨by rw [HE.out], setPlan_below _ HB2.out (Nat.le_refl _)⟩
          · have hw' : wholeF p = false := by simpa using hw
            rw [hw']
            have HE := Lib.hid (HG'.out.trans (finish_no hw'))
            clear hw hw'
            go_wp2_with fail
            change bodyPost _ _ _ _ _ (setPlan w2 w.heap.size Pl.zero)
            refine bodyPost_ret (results_plan (b := w.heap.size) (p := Pl.zero) (n := (m + 1 : Nat)) (ok := false) Tryd.results10 rfl rfl rfl (setPlan_at HP02.out)) rfl ?_
            exact ⟨by rw [HE.out], setPlan_below _ HB2.out (Nat.le_refl _)⟩

/-- The cells of a list of texts. -/
theorem SL.cells {w : World} {v : Value} {a : ByteArray} {r : List ByteArray} (h : SL w v (a :: r)) : ∃ g o c, v = .slice (some ⟨g, o, none⟩) (r.length + 1) c ∧ g < w.heap.size ∧ ∀ j, j < r.length + 1 → w.cell? ⟨g, o + j, none⟩ = some (.string ((a :: r).getD j ByteArray.empty)) := by
  obtain ⟨A, c, e, hc, hr⟩ := h
  obtain ⟨ad, eA, hcell⟩ := (Kd.reads_of_C (d := ByteArray.empty) hr).2.2 (by simp)
  have h1 : w.cell? ad = some (.string a) := by simpa [Addr.add] using hcell 0 (by simp)
  obtain ⟨g, o, sp⟩ := ad
  cases sp with
  | none =>
    refine ⟨g, o, c, by rw [e, eA]; rfl, World.block_lt_of_cell? w _ h1, fun j hj => ?_⟩
    have := hcell j (by simpa using hj)
    rw [show (⟨g, o, none⟩ : Addr).add j = ⟨g, o + j, none⟩ by unfold Addr.add; split <;> simp_all] at this
    exact this
  | some x => exfalso; unfold World.cell? at h1; simp at h1; split at h1 <;> simp at h1

/-- args.Parse, whatever the list. -/
theorem parse_c (v : Value) (l : List ByteArray) (w : World) (h : SL w v l) (hsz : ∀ s ∈ l, s.size ≤ 140737488351232) : Calls Tryd.prog 10 #[v] w (Parsed w (parseF l)) := by
  have hm := h.max
  match l, h, hsz, hm with
  | [], h, _, _ =>
    obtain ⟨A, c, rfl, _, _⟩ := h
    exact parse_nil A c w
  | a :: r, h, hsz, hm =>
    obtain ⟨g, o, c, rfl, hg, hcs⟩ := h.cells
    have hc : w.cell? ⟨g, o, none⟩ = some (.string a) := hcs 0 (by omega)
    by_cases h0 : a.size = 0
    · have e : parseF (a :: r) = (Pl.zero, 0, false) := by simp only [parseF]; rw [if_pos h0]
      rw [e]; exact parse_empty g o c r.length a h0 w hg hc
    · by_cases h1 : inF a cmds = true
      · exact parse_cmd g o c r.length a r rfl (by simpa using hm) hsz h0 h1 w hg hcs
      · have h1' : inF a cmds = false := by simpa using h1
        have e : parseF (a :: r) = (Pl.zero, 0, false) := by simp only [parseF]; rw [if_neg h0, if_pos h1']
        rw [e]; exact parse_nocmd g o c r.length a h0 h1' w hg hc
end Go.Proofs.YtlddfdkmpnllmaaDoor
