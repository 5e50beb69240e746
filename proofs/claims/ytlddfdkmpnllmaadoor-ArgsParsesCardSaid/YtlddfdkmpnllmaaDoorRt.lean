/- pilcrowref24.Parse, walked: the loop over the options; pilcrowlaw24.ArgsParses, walked. -/
import Derived.Test.YtlddfdkmpnllmaaDoorRv
namespace Go.Proofs.YtlddfdkmpnllmaaDoor
open Go.RowKit Go.Proofs.YtlddfdkmpnllmaaDoorW.PrintWords Go.Proofs.YtlddfdkmpnllmaaDoorW.PrintLast Go.Proofs.YtlddfdkmpnllmaaDoorW.PrintMore Go.Proofs.YtlddfdkmpnllmaaDoor.PRpp
set_option linter.unusedVariables false
set_option linter.unusedSimpArgs false

/-- How far the search for '=' has come. -/
def Inner (x nm vl : ByteArray) (hs : Bool) (kq : Nat) (s9 s10 s11 s12 : Value) : Prop :=
  (∃ k : Nat, s9 = .string x ∧ s10 = .string ⟨#[]⟩ ∧ s11 = .bool false ∧ s12 = .int .i64 k ∧ Hid (kq = x.size + 1 - k ∧ k ≤ x.size ∧ ∀ j, j < k → x.data.toList[j]? ≠ some 61)) ∨
  (∃ k : Nat, s9 = .string nm ∧ s10 = .string vl ∧ s11 = .bool true ∧ s12 = .int .i64 k ∧ Hid (hs = true ∧ k ≤ x.size ∧ kq = 0))
set_option maxRecDepth 100000 in
set_option maxHeartbeats 4000000 in
theorem refparse_go (g o c m : Nat) (a : ByteArray) (r : List ByteArray) (w : World) (hr : r.length = m) (hg : g < w.heap.size) (hcs : ∀ j, j < m + 1 → w.cell? ⟨g, o + j, none⟩ = some (.string ((a :: r).getD j ByteArray.empty))) (hsz : ∀ s ∈ a :: r, s.size ≤ 140737488351232) (hmx : m + 1 ≤ 9223372036854775807)
    (ix : Int) (hix : idxF a cmds 0 = ix) (h1 : 1 ≤ ix) (h6 : ix ≤ 6) (hF : parseF (a :: r) = parseGo (m + 1 : Nat) r 1 { Pl.zero with c0 := ix } []) :
    Calls Tryd.prog 11 #[.slice (some ⟨g, o, none⟩) (m + 1) c] w (Parsed w (parseF (a :: r))) := by
  have hm : ((m : Int) + 1 == 0) = false := by rw [beq_eq_false_iff_ne]; omega
  have hm0 : 0 < m + 1 := by omega
  have hc : w.cell? ⟨g, o, none⟩ = some (.string a) := hcs 0 (by omega)
  have HCS := Lib.hid hcs
  have HSZ := Lib.hid hsz
  have HR := Lib.hid hr
  have HF := Lib.hid hF
  have HIX := Lib.hid hix
  clear hcs hsz hr hF hix
  go_enter Tryd.func11, Tryd.ntmps11
  go_upto_region 4 with fail
  obtain ⟨wb, hwb⟩ : ∃ wb, wb = (w.alloc (.cells #[.int .i64 0, .int .i64 0, .int .i64 0, .int .i64 0, .int .i64 0, .bool false, .bool false, .bool false] 26)).alloc (.cells #[.int .i64 0, .int .i64 0, .int .i64 0, .int .i64 0, .int .i64 0, .bool false, .bool false, .bool false] 26) := ⟨_, rfl⟩
  have HZ : Hid (ZZ w wb) := by rw [hwb]; exact ZZ.start w
  rw [← hwb]
  clear hwb
  have hS0 : PZ w g o a wb := ⟨(HZ.out.below.cell (p := ⟨g, o, none⟩) hg).trans hc, HZ.out⟩
  go_cut [6] (fun s6 wx => s6 = .int .i64 ix ∧ Hid (ZZ w wx))
  case first =>
    have hS0d := PZ.drew hS0
    go_region_held3 (fun w' => w'.cell? ⟨g, o, none⟩ = some (.string a) ∧ Hid (ZZ w w')) ((change PZ w g o a _; with_reducible assumption))
      (first
        | (go_at_call 24; refine (cmdsP_c _).mono ?_; rintro e w1 ⟨v, rfl, hv, hb⟩; have hS1 : PZ w g o a w1 := PZ.next (by assumption) hb)
        | (go_at_call 23; refine (find_c _ cmds a _ (by assumption)).mono ?_; rintro e w2 ⟨rfl, hb2⟩; have hS2 : PZ w g o a w2 := PZ.next (by assumption) hb2))
    all_goals (go_wp2_with fail; go_meet)
    exact ⟨by rw [HIX.out], (show PZ w g o a _ by assumption).2⟩
  case rest =>
    obtain ⟨rfl, HZ2⟩ := hcut
    clear hc
    have hix0 : ¬ ix ≤ 0 := by omega
    have hmk := make7
    have HG0 : Hid (GotAt (wc.alloc (.cells #[.int .i64 0, .int .i64 0, .int .i64 0, .int .i64 0, .int .i64 0, .int .i64 0, .int .i64 0] 3 (0, 0))) wc.heap.size (gotL { Pl.zero with c0 := ix })) := heap_new _ _
    have hgb : w.heap.size + 1 < wc.heap.size := PlanAt.lt HZ2.out.q
    go_wp2_with fail
    clear hmk
    obtain ⟨gb, hgbe⟩ : ∃ gb, wc.heap.size = gb := ⟨_, rfl⟩
    rw [hgbe] at HG0 hgb ⊢
    clear hgbe
    go_loopg [8] m (fun kq s8 w' => ∃ (i : Nat) (p : Pl) (seen : List ByteArray), s8 = .int .i64 i ∧ Hid (kq = m + 1 - i ∧ 1 ≤ i ∧ i ≤ m + 1) ∧ Hid (ZZ w w') ∧ Hid (GotAt w' gb (gotL p)) ∧ Hid (GI p seen ∧ p.c0 = ix) ∧ Hid (parseF (a :: r) = parseGo (m + 1 : Nat) ((a :: r).drop i) (i : Nat) p seen))
    case atStart => exact ⟨1, _, [], rfl, Lib.hid ⟨by omega, by omega, by omega⟩, Lib.hid (ZZ.next HZ2.out (below_new (Below.refl _ _) _)), HG0, Lib.hid ⟨gi_zero ix, rfl⟩, HF⟩
    case round =>
      obtain ⟨i, p, seen, rfl, HK, HZ3, HG, HI, HP⟩ := hrel
      by_cases hi : i < m + 1
      · have hci : wr.cell? ⟨g, o + i, none⟩ = some (.string ((a :: r).getD i ByteArray.empty)) := (HZ3.out.below.cell (p := ⟨g, o + i, none⟩) hg).trans (HCS.out i hi)
        have hl : i < (a :: r).length := by have := HR.out; simp; omega
        have hx : (a :: r).drop i = (a :: r).getD i ByteArray.empty :: (a :: r).drop (i + 1) := by
          rw [List.drop_eq_getElem_cons hl, List.getD_eq_getElem?_getD, List.getElem?_eq_getElem hl]; rfl
        have hxs : ((a :: r).getD i ByteArray.empty).size ≤ 140737488351232 := by
          rw [List.getD_eq_getElem?_getD, List.getElem?_eq_getElem hl]; exact HSZ.out _ (List.getElem_mem hl)
        obtain ⟨x, hxx⟩ : ∃ x, (a :: r).getD i ByteArray.empty = x := ⟨_, rfl⟩
        rw [hxx] at hci hx hxs
        have HX := Lib.hid hx
        clear hx hxx hl
        obtain ⟨nm, hnm⟩ : ∃ nm, (cutF x).1 = nm := ⟨_, rfl⟩
        obtain ⟨vl, hvl⟩ : ∃ vl, (cutF x).2.1 = vl := ⟨_, rfl⟩
        obtain ⟨hs, hhs⟩ : ∃ hs, (cutF x).2.2 = hs := ⟨_, rfl⟩
        have HCUT : Hid (cutF x = (nm, vl, hs)) := by rw [← hnm, ← hvl, ← hhs]; exact rfl
        have HNM := Lib.hid hnm
        have HVL := Lib.hid hvl
        have HHS := Lib.hid hhs
        clear hnm hvl hhs
        have hi0 : (0 : Int) ≤ (i : Int) := by omega
        have him : (i : Int) < (m : Int) + 1 := by omega
        go_upto_block 2 with fail
        go_cut [9, 10, 11] (fun s9 s10 s11 wx => s9 = .string nm ∧ s10 = .string vl ∧ s11 = .bool hs ∧ wx = wr)
        case first =>
          go_wp2_with fail
          go_loopg [9, 10, 11, 12] (x.size + 1) (fun kq s9 s10 s11 s12 w' => Inner x nm vl hs kq s9 s10 s11 s12 ∧ w' = wr)
          case atStart => exact ⟨.inl ⟨0, rfl, rfl, rfl, rfl, Lib.hid ⟨rfl, Nat.zero_le _, fun j hj => absurd hj (Nat.not_lt_zero _)⟩⟩, rfl⟩
          case round =>
            obtain ⟨hin, rfl⟩ := hrel
            rcases hin with ⟨k, rfl, rfl, rfl, rfl, HJ⟩ | ⟨k, rfl, rfl, rfl, rfl, HJ⟩
            · by_cases hk : k < x.size
              · have hkl : x.data.toList[k]? = some x[k] := by
                  rw [List.getElem?_eq_getElem (show k < x.data.toList.length from hk)]; rfl
                have hk0 : (0 : Int) ≤ (k : Int) := by omega
                by_cases hb : x[k] = 61
                · have hb1 : ((x[k].toNat : Int) == 61) = true := by rw [hb]; rfl
                  have HB := Lib.hid (hkl.trans (congrArg some hb))
                  clear hkl hb
                  have HE := HCUT.out.symm.trans (cut_at HJ.out.2.2 HB.out)
                  have e1 : nm = x.extract 0 k := (Prod.mk.inj HE).1
                  have e2 : vl = x.extract (k + 1) x.size := (Prod.mk.inj (Prod.mk.inj HE).2).1
                  have e3 : hs = true := (Prod.mk.inj (Prod.mk.inj HE).2).2
                  have E1 := Lib.hid e1
                  have E2 := Lib.hid e2
                  have E3 := Lib.hid e3
                  clear e1 e2 e3 HE
                  go_wp2_with fail
                  go_roundg 0
                  case measure => have := HJ.out.1; have := HJ.out.2.1; omega
                  case rel => exact ⟨.inr ⟨k + 1, by rw [E1.out], by rw [E2.out], rfl, by go_num, Lib.hid ⟨E3.out, by omega, rfl⟩⟩, rfl⟩
                · have hb1 : ((x[k].toNat : Int) == 61) = false := by
                    rw [beq_eq_false_iff_ne]; intro e; apply hb; apply UInt8.toNat_inj.1; have h61 : (61 : UInt8).toNat = 61 := rfl; omega
                  have HB : Hid (x.data.toList[k]? ≠ some 61) := by
                    show _ ≠ _
                    rw [hkl]; intro e; injection e with e; exact hb e
                  clear hkl hb
                  go_wp2_with fail
                  go_roundg (gk - 1)
                  case measure => have := HJ.out.1; have := HJ.out.2.1; omega
                  case rel => exact ⟨.inl ⟨k + 1, rfl, rfl, rfl, by go_num, Lib.hid ⟨by have := HJ.out.1; omega, by omega, fun j hj => by
                    rcases Nat.lt_or_ge j k with h | h
                    · exact HJ.out.2.2 j h
                    · have e : j = k := by omega
                      rw [e]; exact HB.out⟩⟩, rfl⟩
              · have HE : Hid (cutF x = (x, ⟨#[]⟩, false)) := cut_none fun j hj => HJ.out.2.2 j (by omega)
                go_wp2_with fail
                go_meet
                have h := HCUT.out.symm.trans HE.out
                injection h with h1 h2
                injection h2 with h2 h3
                subst h1 h2 h3
                exact ⟨rfl, rfl, rfl, rfl⟩
            · have HS := Lib.hid HJ.out.1
              by_cases hk : k < x.size
              · go_wp2_with fail
                go_meet
                exact ⟨rfl, rfl, by rw [HS.out], rfl⟩
              · go_wp2_with fail
                go_meet
                exact ⟨rfl, rfl, by rw [HS.out], rfl⟩
        case rest =>
          obtain ⟨rfl, rfl, rfl, rfl⟩ := hcut
          have HP2 : Hid (parseF (a :: r) = parseGo (m + 1 : Nat) (x :: (a :: r).drop (i + 1)) (i : Nat) p seen) := by rw [← HX.out]; exact HP.out
          go_wp2_with fail
          refine (optsP_c _).mono ?_
          rintro e w1 ⟨v1, rfl, hv1, hb1⟩
          have HV1 := Lib.hid hv1
          have HZ4 := Lib.hid (ZZ.next HZ3.out hb1)
          have HG4 := Lib.hid (GotAt.below HG.out hb1)
          clear hv1 hb1 hci
          go_wp2_with fail
          refine (find_c _ optsP nm _ HV1.out).mono ?_
          rintro e w2 ⟨rfl, hb2⟩
          have HZ5 := Lib.hid (ZZ.next HZ4.out hb2)
          have HG5 := Lib.hid (GotAt.below HG4.out hb2)
          clear hb2
          obtain ⟨oi, hoi⟩ : ∃ oi, idxF nm optsP 0 = oi := ⟨_, rfl⟩
          rw [hoi]
          have HOI := Lib.hid hoi
          clear hoi
          by_cases h64 : 64 ≤ i
          · have k64 : decide (64 ≤ (i : Int)) = true := by rw [decide_eq_true_eq]; omega
            have HE : Hid (parseF (a :: r) = (Pl.zero, (i : Int), false)) := HP2.out.trans (go_late (by omega))
            clear h64
            obtain ⟨z0, z1, z2, z3, z4, z5, z6, z7⟩ := PlanAt.cells8 HZ5.out.q
            obtain ⟨q0, q1, q2, q3, q4, q5, q6, q7⟩ := PlanAt.cells8 HZ5.out.p
            have hfr := PlanAt.frozen HZ5.out.p
            go_wp2_with fail
            change bodyPost _ _ _ _ _ (setPlan w2 w.heap.size Pl.zero)
            refine bodyPost_ret (results_plan (b := w.heap.size) (p := Pl.zero) (n := i) (ok := false) Tryd.results11 rfl rfl rfl (setPlan_at HZ5.out.p)) rfl ?_
            exact ⟨by rw [HE.out], zz_ret HZ5.out⟩
          · have k64 : decide (64 ≤ (i : Int)) = false := by rw [decide_eq_false_iff_not]; omega
            have H64 : Hid (¬ 64 ≤ (i : Int)) := by intro h; omega
            clear h64
            by_cases ho : oi < 0
            · have HE : Hid (parseF (a :: r) = (Pl.zero, (i : Int), false)) := HP2.out.trans (go_no HNM.out (by have := H64.out; omega) (opt_no (by rw [HOI.out]; exact ho) _))
              obtain ⟨z0, z1, z2, z3, z4, z5, z6, z7⟩ := PlanAt.cells8 HZ5.out.q
              obtain ⟨q0, q1, q2, q3, q4, q5, q6, q7⟩ := PlanAt.cells8 HZ5.out.p
              have hfr := PlanAt.frozen HZ5.out.p
              go_wp2_with fail
              change bodyPost _ _ _ _ _ (setPlan w2 w.heap.size Pl.zero)
              refine bodyPost_ret (results_plan (b := w.heap.size) (p := Pl.zero) (n := i) (ok := false) Tryd.results11 rfl rfl rfl (setPlan_at HZ5.out.p)) rfl ?_
              exact ⟨by rw [HE.out], zz_ret HZ5.out⟩
            · have ho0 : 0 ≤ oi := by omega
              have HOP : Hid (optsP.getD oi.toNat ByteArray.empty = nm ∧ oi.toNat < 7) := by
                have h := opt_get (s := nm) (by rw [HOI.out]; exact ho0)
                rw [HOI.out] at h
                exact h
              have ho7 : oi < 7 := by have := HOP.out.2; omega
              go_wp2_with fail
              refine (mayP_c h1 h6 ho0 ho7 _).mono ?_
              rintro e w3 ⟨rfl, hb3⟩
              have HZ6 := Lib.hid (ZZ.next HZ5.out hb3)
              have HG6 := Lib.hid (GotAt.below HG5.out hb3)
              clear hb3
              rw [HOP.out.1]
              cases hmay : inF nm (mayF ix) with
              | false =>
                have HE : Hid (parseF (a :: r) = (Pl.zero, (i : Int), false)) := HP2.out.trans (go_no HNM.out (by have := H64.out; omega) (by rw [HI.out.2]; exact hmay))
                clear hmay
                obtain ⟨z0, z1, z2, z3, z4, z5, z6, z7⟩ := PlanAt.cells8 HZ6.out.q
                obtain ⟨q0, q1, q2, q3, q4, q5, q6, q7⟩ := PlanAt.cells8 HZ6.out.p
                have hfr := PlanAt.frozen HZ6.out.p
                go_wp2_with fail
                change bodyPost _ _ _ _ _ (setPlan w3 w.heap.size Pl.zero)
                refine bodyPost_ret (results_plan (b := w.heap.size) (p := Pl.zero) (n := i) (ok := false) Tryd.results11 rfl rfl rfl (setPlan_at HZ6.out.p)) rfl ?_
                exact ⟨by rw [HE.out], zz_ret HZ6.out⟩
              | true =>
                have HM := Lib.hid hmay
                clear hmay
                have hlen7 : oi.toNat < (gotL p).length := HOP.out.2
                have hgc : w3.cell? ⟨gb, oi.toNat, none⟩ = some (.int .i64 ((gotL p).getD oi.toNat 0)) := HG6.out.cell hlen7
                have hgf := HG6.out.frozen oi.toNat
                obtain ⟨gv, hgv⟩ : ∃ gv, (gotL p).getD oi.toNat 0 = gv := ⟨_, rfl⟩
                rw [hgv] at hgc
                have HGV := Lib.hid hgv
                have HL7 := Lib.hid hlen7
                clear hgv hlen7
                have HGI : Hid (0 ≤ gv ∧ (0 < gv ↔ nm ∈ seen)) := by
                  have h := HI.out.1 oi.toNat HOP.out.2
                  rw [HGV.out, HOP.out.1] at h
                  exact h
                by_cases hgt : 0 < gv
                · have HE : Hid (parseF (a :: r) = (Pl.zero, (i : Int), false)) := HP2.out.trans (go_twice HNM.out (by have := H64.out; omega) (by rw [HI.out.2]; exact HM.out) ((inF_iff _ _).2 (HGI.out.2.1 hgt)))
                  obtain ⟨z0, z1, z2, z3, z4, z5, z6, z7⟩ := PlanAt.cells8 HZ6.out.q
                  obtain ⟨q0, q1, q2, q3, q4, q5, q6, q7⟩ := PlanAt.cells8 HZ6.out.p
                  have hfr := PlanAt.frozen HZ6.out.p
                  go_wp2_with fail
                  change bodyPost _ _ _ _ _ (setPlan w3 w.heap.size Pl.zero)
                  refine bodyPost_ret (results_plan (b := w.heap.size) (p := Pl.zero) (n := i) (ok := false) Tryd.results11 rfl rfl rfl (setPlan_at HZ6.out.p)) rfl ?_
                  exact ⟨by rw [HE.out], zz_ret HZ6.out⟩
                · have HNS : Hid (inF nm seen = false) := by
                    rcases hb : inF nm seen with _ | _
                    · rfl
                    · exact absurd (HGI.out.2.2 ((inF_iff _ _).1 hb)) hgt
                  go_wp2_with fail
                  refine (value_c oi vl hs _).mono ?_
                  rintro e w4 ⟨rfl, hb4⟩
                  have HZ7 := Lib.hid (ZZ.next HZ6.out hb4)
                  have HG7 := Lib.hid (GotAt.below HG6.out hb4)
                  clear hb4 hgc hgf
                  have hgc : w4.cell? ⟨gb, oi.toNat, none⟩ = some (.int .i64 ((gotL p).getD oi.toNat 0)) := HG7.out.cell HL7.out
                  have hgf := HG7.out.frozen oi.toNat
                  obtain ⟨vv, hvv⟩ : ∃ vv, valueF oi vl hs = vv := ⟨_, rfl⟩
                  rw [hvv]
                  have HVV := Lib.hid hvv
                  clear hvv
                  have HST : Hid (((setF p nm vl hs).2 = true ↔ vv ≠ 0) ∧ (vv ≠ 0 → gotL (setF p nm vl hs).1 = (gotL p).set oi.toNat vv)) := by
                    have h := opt_step p oi.toNat HOP.out.2 vl hs
                    rw [HOP.out.1, Int.toNat_of_nonneg ho0, HVV.out] at h
                    exact h
                  have hset : (w4.setCell ⟨gb, oi.toNat, none⟩ (.int .i64 vv)).cell? ⟨gb, oi.toNat, none⟩ = some (.int .i64 vv) := World.cell?_setCell_same w4 _ _ hgc
                  by_cases hv0 : vv = 0
                  · have hvz : (vv == 0) = true := by rw [hv0]; rfl
                    have HV0 := Lib.hid hv0
                    clear hv0
                    have HZ8 : Hid (ZZ w (w4.setCell ⟨gb, oi.toNat, none⟩ (.int .i64 vv))) := ZZ.far HZ7.out (by omega) (by omega) (by omega) _
                    have HE : Hid (parseF (a :: r) = (Pl.zero, (i : Int), false)) := HP2.out.trans (go_bad HNM.out HVL.out HHS.out (by have := H64.out; omega) (by rw [HI.out.2]; exact HM.out) HNS.out (by
                      rcases hb : (setF p nm vl hs).2 with _ | _
                      · rfl
                      · exact absurd HV0.out (HST.out.1.1 hb)))
                    obtain ⟨z0, z1, z2, z3, z4, z5, z6, z7⟩ := PlanAt.cells8 HZ8.out.q
                    obtain ⟨q0, q1, q2, q3, q4, q5, q6, q7⟩ := PlanAt.cells8 HZ8.out.p
                    have hfr := PlanAt.frozen HZ8.out.p
                    go_wp2_with fail
                    change bodyPost _ _ _ _ _ (setPlan (w4.setCell ⟨gb, oi.toNat, none⟩ (.int .i64 vv)) w.heap.size Pl.zero)
                    refine bodyPost_ret (results_plan (b := w.heap.size) (p := Pl.zero) (n := i) (ok := false) Tryd.results11 rfl rfl rfl (setPlan_at HZ8.out.p)) rfl ?_
                    exact ⟨by rw [HE.out], zz_ret HZ8.out⟩
                  · have hvz : (vv == 0) = false := by rw [beq_eq_false_iff_ne]; exact hv0
                    have HV0 := Lib.hid hv0
                    clear hv0
                    have HOK : Hid ((setF p nm vl hs).2 = true) := HST.out.1.2 HV0.out
                    have HG8 : Hid (GotAt (w4.setCell ⟨gb, oi.toNat, none⟩ (.int .i64 vv)) gb (gotL (setF p nm vl hs).1)) := by
                      rw [HST.out.2 HV0.out]; exact GotAt.set HG7.out oi.toNat vv
                    have HI8 : Hid (GI (setF p nm vl hs).1 (seen ++ [nm]) ∧ (setF p nm vl hs).1.c0 = ix) := by
                      refine ⟨?_, by rw [set_c0]; exact HI.out.2⟩
                      have h := gi_step HI.out.1 HOP.out.2 (v := vl) (has := hs) (by rw [Int.toNat_of_nonneg ho0, HVV.out]; exact HV0.out)
                      rw [HOP.out.1] at h
                      exact h
                    have HP8 : Hid (parseF (a :: r) = parseGo (m + 1 : Nat) ((a :: r).drop (i + 1)) ((i + 1 : Nat) : Int) (setF p nm vl hs).1 (seen ++ [nm])) :=
                      HP2.out.trans (go_on HNM.out HVL.out HHS.out (by have := H64.out; omega) (by rw [HI.out.2]; exact HM.out) HNS.out HOK.out)
                    have HZ8 : Hid (ZZ w (w4.setCell ⟨gb, oi.toNat, none⟩ (.int .i64 vv))) := ZZ.far HZ7.out (by omega) (by omega) (by omega) _
                    go_wp2_with fail
                    go_roundg (gk - 1)
                    case measure => have := HK.out; omega
                    case rel => exact ⟨i + 1, _, _, by go_num, Lib.hid (by have := HK.out; omega), HZ8, HG8, HI8, HP8⟩
      · have hi2 : i = m + 1 := by have := HK.out; omega
        have HE : Hid (parseF (a :: r) = finishF p ((m + 1 : Nat) : Int)) := by
          have h := HP.out
          rw [hi2, List.drop_of_length_le (by have := HR.out; simp; omega)] at h
          exact h
        have HI2 := Lib.hid hi2
        clear hi2
        clear HK HCS HSZ HP HIX HF
        go_upto_block 4 with fail
        go_cut [14] (fun s14 wx => s14 = .bool (wrongF p) ∧ ∃ n, wx = wr.drewN n)
        case first =>
          refine switch_c h1 h6 HG (Lib.hid HI.out.2) (Lib.hid ?_)
          intro s14 wx z111 z112 z113 z114 z115 z116 z117 z118 z119 z120 z121 z122 z123 z124 z125 z126 z127 z128 z129 z130 z131 z132 z133 z134 z135 z136 z137 z138 z139 z140 z141 z142 z143 z144 z145 z146 z147 z148 z149 z150 z151 z152 z153 z154 z155 z156 z157 hx
          apply_assumption
          go_meet
          exact hx
        case rest =>
          obtain ⟨rfl, n0, rfl⟩ := hcut
          apply_assumption
          exact tail37 hgb h1 h6 (Lib.hid (ZZ.next HZ3.out (below_drewN' (Below.refl _ _) n0))) (Lib.hid (GotAt.below HG.out (below_drewN' (Below.refl _ _) n0))) (Lib.hid HI.out.2) (HI.out.1 0 (by omega)).1 (HI.out.1 3 (by omega)).1 HE
theorem parseF_cons (a : ByteArray) (r : List ByteArray) : parseF (a :: r) = if a.size = 0 then (Pl.zero, 0, false) else if inF a cmds = false then (Pl.zero, 0, false) else parseGo (r.length + 1) r 1 { Pl.zero with c0 := idxF a cmds 0 } [] := rfl
/-- pilcrowref24.Parse answers what parseF answers. -/
theorem refparse_c (v : Value) (l : List ByteArray) (w : World) (h : SL w v l) (hz : ∀ s ∈ l, s.size ≤ 140737488351232) :
    Calls Tryd.prog 11 #[v] w (Parsed w (parseF l)) := by
  cases l with
  | nil =>
    obtain ⟨A, c, rfl, hc, hr⟩ := h
    exact refparse_nil A c w
  | cons a r =>
    have hmx := SL.max h
    obtain ⟨g, o, c, rfl, hg, hcs⟩ := SL.cells h
    by_cases hneg : idxF a cmds 0 ≤ 0
    · have hc : w.cell? ⟨g, o, none⟩ = some (.string a) := hcs 0 (by omega)
      rw [show parseF (a :: r) = (Pl.zero, 0, false) by
        rw [parseF_cons]
        by_cases h0 : a.size = 0
        · rw [if_pos h0]
        · rw [if_neg h0]
          cases hi : inF a cmds with
          | false => rfl
          | true => exact absurd (idx_cmd h0 hi).1 (by omega)]
      exact refparse_cmd g o c r.length a w hg hc hneg
    · have hin : inF a cmds = true := (inF_iff _ _).2 ((idxF_mem a cmds 0 (Int.le_refl _)).1 (by omega))
      have h0 : a.size ≠ 0 := fun e => by
        have ha : a = ⟨#[]⟩ := ByteArray.ext (Array.eq_empty_of_size_eq_zero e)
        rw [ha] at hneg
        exact hneg (by decide)
      exact refparse_go g o c r.length a r w rfl hg hcs hz hmx _ rfl (by omega) (idx_cmd h0 hin).2 (by
        rw [parseF_cons]
        rw [if_neg h0, if_neg (by rw [hin]; decide)]
        rfl)
set_option maxRecDepth 100000 in
set_option maxHeartbeats 1000000 in
theorem parses_great (l : List ByteArray) (hg : greatF l = true) (v : Value) (w : World) (hT : Tab w) (hs : SL w v l) :
    Calls Tryd.prog 3 #[v] w fun e w' => e = .returned (.bool true) ∧ Below w.heap.size w w' := by
  have HT := Lib.hid hT
  have HS := Lib.hid hs
  clear hT hs
  go_enter Tryd.func3, Tryd.ntmps3
  go_wp2_with fail
  refine (awake_c _ HT.out).mono ?_
  rintro e w1 ⟨rfl, hb1⟩
  have HB1 := Lib.hid hb1
  clear hb1
  go_wp2_with fail
  refine (great_c v l _ (SL.below HS.out HB1.out)).mono ?_
  rintro e w2 ⟨rfl, hb2⟩
  have HB2 := Lib.hid (below_next HB1.out hb2)
  clear hb2
  rw [hg]
  go_wp2_with fail
  refine (awake_c _ (Tab.below HT.out HB2.out)).mono ?_
  rintro e w3 ⟨rfl, hb3⟩
  have HB3 := Lib.hid (below_next HB2.out hb3)
  clear hb3
  go_wp2_with fail
  go_ret
  exact ⟨rfl, HB3.out⟩
theorem refparse_to {v : Value} {l : List ByteArray} {w : World} (h : SL w v l) (hz : ∀ s ∈ l, s.size ≤ 140737488351232) {c0 c1 c2 c3 c4 : Int} {f s t : Bool} {n : Int} {ok : Bool} (hp : parseF l = (⟨c0, c1, c2, c3, c4, f, s, t⟩, n, ok)) :
    Calls Tryd.prog 11 #[v] w fun e w' => e = .returned (.tuple #[.agg #[.int .i64 c0, .int .i64 c1, .int .i64 c2, .int .i64 c3, .int .i64 c4, .bool f, .bool s, .bool t], .int .i64 n, .bool ok]) ∧ Below w.heap.size w w' := by
  have hq := refparse_c v l w h hz
  rw [hp] at hq
  exact hq
set_option maxRecDepth 100000 in
set_option maxHeartbeats 1000000 in
theorem parses_some (l : List ByteArray) (hg : greatF l = false) (c0 c1 c2 c3 c4 : Int) (f s t : Bool) (n : Int) (ok : Bool) (hp : parseF l = (⟨c0, c1, c2, c3, c4, f, s, t⟩, n, ok)) (v : Value) (w : World) (hT : Tab w) (hs : SL w v l) :
    Calls Tryd.prog 3 #[v] w fun e w' => e = .returned (.bool true) ∧ Below w.heap.size w w' := by
  have HP := Lib.hid hp
  clear hp
  have HT := Lib.hid hT
  have HS := Lib.hid hs
  clear hT hs
  go_enter Tryd.func3, Tryd.ntmps3
  go_wp2_with fail
  refine (awake_c _ HT.out).mono ?_
  rintro e w1 ⟨rfl, hb1⟩
  have HB1 := Lib.hid hb1
  clear hb1
  go_wp2_with fail
  refine (great_c v l _ (SL.below HS.out HB1.out)).mono ?_
  rintro e w2 ⟨rfl, hb2⟩
  have HS2 := Lib.hid (SL.below (SL.below HS.out HB1.out) hb2)
  have HB2 := Lib.hid (below_next HB1.out hb2)
  clear hb2
  rw [hg]
  obtain ⟨A, c, rfl, hc, hr⟩ := HS2.out
  have HR : Hid (Kd.C Kd.string (w2.alloc (.cells #[] 9 (0, 0))) A l.length l) := Kd.C_below hr (below_new (Below.refl _ _) _)
  clear hr
  have HO : Hid ((w2.alloc (.cells #[] 9 (0, 0))).ownsRow w.heap.size 9 1 (.slice (some ⟨w2.heap.size, 0, none⟩) 0 0) 0 []) := own_nil w2 HB2.out.size
  have HL := great_len hg
  go_wp2_with (at_builtin; refine print_append_row_of Value.string ByteArray.empty (w0 := w) w.heap.size rfl (.tmp 17) (.tmp 18) 22 9 (.string ⟨#[]⟩) 16 rfl Tryd.underlying22 info_str rfl (by decide) (fun _ => rfl) (.slice (some ⟨w2.heap.size, 0, none⟩) 0 0) [] l A l.length c rfl rfl HO.out (Kd.reads_of_C HR.out) (below_new HB2.out _) (below_new HB2.out _).size (by simp only [List.length_nil]; omega) ?_; intro v3 w3 ho3 hb3 hg3 hat3; have HS3 : Hid (SL w3 v3 l) := SL.of_R (base := w.heap.size) (ok := fun _ => True) (Kd.R_of_own ho3 (fun _ _ => trivial)); have HB3 := Lib.hid hb3; have HSA3 : Hid (SL w3 (.slice A l.length c) l) := SL.below HS.out hb3; clear ho3 hb3 hg3 hat3)
  have hz : ∀ s ∈ l, s.size ≤ 140737488351232 := fun s hs => Nat.le_trans (great_size hg s hs) (by decide)
  refine (parse_to HS3.out hz HP.out).mono ?_
  rintro e w4 ⟨rfl, hb4⟩
  have HSA4 := Lib.hid (SL.below HSA3.out hb4)
  have HB4 := Lib.hid (below_next HB3.out hb4)
  have HP4 : Hid (PlanAt (w4.alloc (.cells (Pl.cells ⟨c0, c1, c2, c3, c4, f, s, t⟩) 26 (0, 0))) w4.heap.size ⟨c0, c1, c2, c3, c4, f, s, t⟩) := PlanAt.new w4 _
  clear hb4
  go_wp2_with fail
  refine (refparse_to (SL.alloc HSA4.out _) hz HP.out).mono ?_
  rintro e w5 ⟨rfl, hb5⟩
  have HB5 := Lib.hid (below_next (below_new HB4.out _) hb5)
  have HP5 : Hid (PlanAt (w5.alloc (.cells (Pl.cells ⟨c0, c1, c2, c3, c4, f, s, t⟩) 26 (0, 0))) w4.heap.size ⟨c0, c1, c2, c3, c4, f, s, t⟩) := PlanAt.alloc (PlanAt.below HP4.out hb5) _
  clear hb5
  obtain ⟨y0, y1, y2, y3, y4, y5, y6, y7⟩ := PlanAt.cells8 HP5.out
  have hlt := PlanAt.lt HP5.out
  have he := eql_self c0 c1 c2 c3 c4 f s t
  simp only [Pl.cells] at y0 y1 y2 y3 y4 y5 y6 y7 hlt
  have hok : (ok == ok) = true := by cases ok <;> rfl
  have hn : (n == n) = true := beq_self_eq_true n
  go_wp2_with fail
  go_ret
  exact ⟨rfl, below_new HB5.out _⟩
/-- The law, walked. -/
theorem parses_c (l : List ByteArray) (v : Value) (w : World) (hT : Tab w) (hs : SL w v l) :
    Calls Tryd.prog 3 #[v] w fun e w' => e = .returned (.bool true) ∧ Below w.heap.size w w' := by
  cases hg : greatF l with
  | true => exact parses_great l hg v w hT hs
  | false =>
    rcases hp : parseF l with ⟨⟨c0, c1, c2, c3, c4, f, s, t⟩, n, ok⟩
    exact parses_some l hg c0 c1 c2 c3 c4 f s t n ok hp v w hT hs
end Go.Proofs.YtlddfdkmpnllmaaDoor
