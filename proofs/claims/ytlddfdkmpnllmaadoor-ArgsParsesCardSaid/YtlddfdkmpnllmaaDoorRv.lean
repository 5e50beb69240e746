/- pilcrowref24.Parse, walked: the way out. -/
import Derived.Test.YtlddfdkmpnllmaaDoorRs
import Derived.Deep.CutBlock
import Derived.StillTailTactics
namespace Go.Proofs.YtlddfdkmpnllmaaDoor
open Go.RowKit Go.Proofs.YtlddfdkmpnllmaaDoorW.PrintWords Go.Proofs.YtlddfdkmpnllmaaDoorW.PrintLast Go.Proofs.YtlddfdkmpnllmaaDoorW.PrintMore Go.Proofs.YtlddfdkmpnllmaaDoor.PRpp
set_option linter.unusedVariables false
set_option linter.unusedSimpArgs false

theorem eq_at {s : ByteArray} {k : Nat} (hn : ∀ j, j < k → s.data.toList[j]? ≠ some 61) (hb : s.data.toList[k]? = some 61) : eqAt s = k := by
  unfold eqAt
  rcases Int.lt_or_le (Lib.indexByte s.data.toList 61) 0 with h | h
  · have h1 : Lib.indexByte s.data.toList 61 = -1 := by have := Lib.indexByte_ge s.data.toList 61; omega
    exact absurd hb (Lib.indexByte_none h1 k)
  · obtain ⟨o, ho⟩ : ∃ o : Nat, Lib.indexByte s.data.toList 61 = o := ⟨(Lib.indexByte s.data.toList 61).toNat, by omega⟩
    obtain ⟨h1, h2⟩ := Lib.indexByte_some ho
    rw [ho]
    rcases Nat.lt_trichotomy o k with h3 | h3 | h3
    · exact absurd h1 (hn o h3)
    · rw [h3]
    · exact absurd hb (h2 k h3)
theorem eq_none {s : ByteArray} (hn : ∀ j, j < s.size → s.data.toList[j]? ≠ some 61) : eqAt s = -1 := by
  unfold eqAt
  rcases Int.lt_or_le (Lib.indexByte s.data.toList 61) 0 with h | h
  · have := Lib.indexByte_ge s.data.toList 61; omega
  · obtain ⟨o, ho⟩ : ∃ o : Nat, Lib.indexByte s.data.toList 61 = o := ⟨(Lib.indexByte s.data.toList 61).toNat, by omega⟩
    obtain ⟨h1, h2⟩ := Lib.indexByte_some ho
    exact absurd h1 (hn o (List.getElem?_eq_some_iff.1 h1).1)
theorem cut_at {s : ByteArray} {k : Nat} (hn : ∀ j, j < k → s.data.toList[j]? ≠ some 61) (hb : s.data.toList[k]? = some 61) : cutF s = (s.extract 0 k, s.extract (k + 1) s.size, true) := by
  unfold cutF
  rw [eq_at hn hb, if_pos (by omega)]
  rfl
theorem cut_none {s : ByteArray} (hn : ∀ j, j < s.size → s.data.toList[j]? ≠ some 61) : cutF s = (s, ⟨#[]⟩, false) := by
  unfold cutF
  rw [eq_none hn, if_neg (by decide)]
/-- The table lies in block b. -/
def GotAt (w : World) (b : Nat) (G : List Int) : Prop := w.heap[b]? = some (.cells (G.map (Value.int .i64)).toArray 3 (0, 0))
theorem GotAt.below {w w1 : World} {b : Nat} {G : List Int} (h : GotAt w b G) (hb : Below w.heap.size w w1) : GotAt w1 b G := (hb.block b (Array.getElem?_eq_some_iff.1 h).1).trans h
theorem GotAt.cell {w : World} {b o : Nat} {G : List Int} (h : GotAt w b G) (ho : o < G.length) : w.cell? ⟨b, o, none⟩ = some (.int .i64 (G.getD o 0)) := by
  have h' : w.heap[b]? = _ := h
  simp [World.cell?, h', List.getD_eq_getElem?_getD, List.getElem?_eq_getElem ho]
theorem GotAt.frozen {w : World} {b : Nat} {G : List Int} (h : GotAt w b G) (o : Nat) : w.frozen? ⟨b, o, none⟩ = false := by
  have h' : w.heap[b]? = _ := h
  simp [World.frozen?, h']
theorem GotAt.set {w : World} {b : Nat} {G : List Int} (h : GotAt w b G) (o : Nat) (n : Int) : GotAt (w.setCell ⟨b, o, none⟩ (.int .i64 n)) b (G.set o n) := by
  unfold GotAt World.setCell
  simp only [Array.getElem?_modify]
  have h' : w.heap[b]? = _ := h
  rw [h']
  simp [List.map_set]
theorem GotAt.ne {w : World} {b c : Nat} {G : List Int} {p : Pl} (h : GotAt w b G) (hp : PlanAt w c p) : c ≠ b := fun e => by
  have h' : w.heap[b]? = _ := h
  have hp' : w.heap[c]? = _ := hp
  rw [e, h'] at hp'
  injection hp' with h1
  injection h1 with _ h1
  exact absurd h1 (by decide)
theorem ZZ.far {w0 w : World} {b o : Nat} (h : ZZ w0 w) (h1 : w0.heap.size ≠ b) (h2 : w0.heap.size + 1 ≠ b) (hb : w0.heap.size ≤ b) (v : Value) : ZZ w0 (w.setCell ⟨b, o, none⟩ v) :=
  ⟨(Below.heap_setCell w ⟨b, o, none⟩ v _ h1).trans h.p, (Below.heap_setCell w ⟨b, o, none⟩ v _ h2).trans h.q, Below.setCell h.below hb v⟩
theorem info_int : (Tryd.prog.info? 3).map (fun i => (i.zero, i.size, i.bytes)) = some (some (.int .i64 0), 1, 8) := by kernel_rfl
theorem made7 : madeCells #[.int .i64 0] 7 = #[.int .i64 0, .int .i64 0, .int .i64 0, .int .i64 0, .int .i64 0, .int .i64 0, .int .i64 0] := by kernel_rfl
theorem make7 : ∀ W : World, (Instr.makeSlice 46 (.int .i64 7) (.int .i64 7)).run Tryd.prog W = .ok (.slice (some ⟨W.heap.size, 0, none⟩) 7 7) (W.alloc (.cells #[.int .i64 0, .int .i64 0, .int .i64 0, .int .i64 0, .int .i64 0, .int .i64 0, .int .i64 0] 3 (0, 0))) := fun W => by
  have h := print_make (P := Tryd.prog) 46 3 .i64 8 Tryd.underlying46 info_int (by decide) 7 (by decide) W
  rw [made7] at h
  exact h
theorem set_c0 (p : Pl) (k v : ByteArray) (h : Bool) : (setF p k v h).1.c0 = p.c0 := by
  unfold setF
  split; rfl
  split; rfl
  split; rfl
  split; rfl
  split; rfl
  split <;> rfl
theorem form_c0 (p : Pl) : p.withForm.c0 = p.c0 := by unfold Pl.withForm; split <;> rfl
theorem size_c0 (p : Pl) : p.withSize.c0 = p.c0 := by unfold Pl.withSize; split <;> rfl
theorem bi_gt (b : Bool) : decide (0 < bi b) = b := by cases b <;> rfl
/-- Does a code begin with region n? -/
def leftmost (n : Nat) : Code → Bool
  | .region k _ _ => k == n
  | .seq a _ => leftmost n a
  | _ => false
/-- The code that begins with region n, as long as it is. -/
def tailAt (n : Nat) : Code → Option Code
  | .seq a b => match leftmost n a with
    | true => some (.seq a b)
    | false => match tailAt n a with
      | some c => some c
      | none => tailAt n b
  | .region k ops d => match k == n with
    | true => some (.region k ops d)
    | false => none
  | .cond _ a b => match tailAt n a with
    | some c => some c
    | none => tailAt n b
  | .block _ c => tailAt n c
  | .loop c => tailAt n c
  | .scope c => tailAt n c
  | _ => none
noncomputable def tail37c : Code := ((Tryd.f11.body).bind (tailAt 37)).getD .skip
noncomputable def tail41c : Code := ((Tryd.f11.body).bind (tailAt 41)).getD .skip
noncomputable def tail43c : Code := ((Tryd.f11.body).bind (tailAt 43)).getD .skip
set_option maxRecDepth 100000 in
set_option maxHeartbeats 4000000 in
theorem tail43 {w wd : World} {g o c m gb : Nat} {p : Pl} {ix : Int} {R : Pl × Int × Bool} {y1 y3 y4 y8 y9 y10 y11 y12 y13 y14 y15 y16 y17 y18 y19 y20 y21 y22 y23 y24 y25 y26 y27 y28 y29 y30 y31 y32 y33 y34 y35 y36 y37 y38 y39 y40 y41 y42 y43 y44 y45 y46 y47 y48 y49 y50 y51 y52 y53 y54 y55 y56 y57 y58 y59 y60 y61 y62 y63 y64 y65 y66 y67 y68 y69 y70 y71 y72 y73 y74 y75 y76 y77 y78 y79 y80 y81 y82 y83 y84 y85 y86 y87 y88 y89 y90 y91 y92 y93 y94 y95 y96 y97 y98 y99 y100 y101 y102 y103 y104 y105 y106 y107 y108 y109 y110 y111 y112 y113 y114 y115 y116 y117 y118 y119 y120 y121 y122 y123 y124 y125 y126 y127 y128 y129 y130 y131 y132 y133 y134 y135 y136 y137 y138 y139 y140 y141 y142 y143 y144 y145 y146 y147 y148 y149 y150 y151 y152 y153 y154 y155 y156 y157 y158 y159 y160 y161 y162 y163 y164 y165 y166 y167 y168 y169 y170 y171 y172 y173 y174 y175 y176 y177 y178 y179 y180 y181 y182 y183 y184 y185 y186 y187 y188 y189 y190 y191 y192 y193 y194 y195 y196 y197 y198 y199 y200 y201 y202 y203 y204 y205 y206 y207 y208 y209 y210 y211 y212 y213 : Value} (HZ10 : Hid (ZZ w wd)) (HG10 : Hid (GotAt wd gb (gotL p))) (HW3 : Hid (p.c0 = ix)) (HE2 : Hid (R = (p, 0, true))) :
    Code.wp Tryd.prog tail43c (bodyPost Tryd.prog Tryd.f11 (Parsed w R)) ⟨List.toArray (.slice (some ⟨g, o, none⟩) (m + 1) c :: y1 :: .pointer (some ⟨w.heap.size, 0, none⟩) :: y3 :: y4 :: .pointer (some ⟨w.heap.size + 1, 0, none⟩) :: .int .i64 ix :: .slice (some ⟨gb, 0, none⟩) 7 7 :: y8 :: y9 :: y10 :: y11 :: y12 :: y13 :: y14 :: y15 :: y16 :: y17 :: y18 :: y19 :: y20 :: y21 :: y22 :: y23 :: y24 :: y25 :: y26 :: y27 :: y28 :: y29 :: y30 :: y31 :: y32 :: y33 :: y34 :: y35 :: y36 :: y37 :: y38 :: y39 :: y40 :: y41 :: y42 :: y43 :: y44 :: y45 :: y46 :: y47 :: y48 :: y49 :: y50 :: y51 :: y52 :: y53 :: y54 :: y55 :: y56 :: y57 :: y58 :: y59 :: y60 :: y61 :: y62 :: y63 :: y64 :: y65 :: y66 :: y67 :: y68 :: y69 :: y70 :: y71 :: y72 :: y73 :: y74 :: y75 :: y76 :: y77 :: y78 :: y79 :: y80 :: y81 :: y82 :: y83 :: y84 :: y85 :: y86 :: y87 :: y88 :: y89 :: y90 :: y91 :: y92 :: y93 :: y94 :: y95 :: y96 :: y97 :: y98 :: y99 :: y100 :: y101 :: y102 :: y103 :: y104 :: y105 :: y106 :: y107 :: y108 :: y109 :: y110 :: y111 :: y112 :: y113 :: y114 :: y115 :: y116 :: y117 :: y118 :: y119 :: y120 :: y121 :: y122 :: y123 :: y124 :: y125 :: y126 :: y127 :: y128 :: y129 :: y130 :: y131 :: y132 :: y133 :: y134 :: y135 :: y136 :: y137 :: y138 :: y139 :: y140 :: y141 :: y142 :: y143 :: y144 :: y145 :: y146 :: y147 :: y148 :: y149 :: y150 :: y151 :: y152 :: y153 :: y154 :: y155 :: y156 :: y157 :: y158 :: y159 :: y160 :: y161 :: y162 :: y163 :: y164 :: y165 :: y166 :: y167 :: y168 :: y169 :: y170 :: y171 :: y172 :: y173 :: y174 :: y175 :: y176 :: y177 :: y178 :: y179 :: y180 :: y181 :: y182 :: y183 :: y184 :: y185 :: y186 :: y187 :: y188 :: y189 :: y190 :: y191 :: y192 :: y193 :: y194 :: y195 :: y196 :: y197 :: y198 :: y199 :: y200 :: y201 :: y202 :: y203 :: y204 :: y205 :: y206 :: y207 :: y208 :: y209 :: y210 :: y211 :: y212 :: y213 :: ([] : List Value)), []⟩ wd := by
  conv => arg 2; whnf
  have g0 : wd.cell? ⟨gb, 0, none⟩ = some (.int .i64 p.c1) := HG10.out.cell (o := 0) (show 0 < 7 by decide)
  have g1 : wd.cell? ⟨gb, 1, none⟩ = some (.int .i64 p.c2) := HG10.out.cell (o := 1) (show 1 < 7 by decide)
  have g2 : wd.cell? ⟨gb, 2, none⟩ = some (.int .i64 p.c3) := HG10.out.cell (o := 2) (show 2 < 7 by decide)
  have g3 : wd.cell? ⟨gb, 3, none⟩ = some (.int .i64 p.c4) := HG10.out.cell (o := 3) (show 3 < 7 by decide)
  have g4 : wd.cell? ⟨gb, 4, none⟩ = some (.int .i64 (bi p.f)) := HG10.out.cell (o := 4) (show 4 < 7 by decide)
  have g5 : wd.cell? ⟨gb, 5, none⟩ = some (.int .i64 (bi p.s)) := HG10.out.cell (o := 5) (show 5 < 7 by decide)
  have g6 : wd.cell? ⟨gb, 6, none⟩ = some (.int .i64 (bi p.t)) := HG10.out.cell (o := 6) (show 6 < 7 by decide)
  go_wp2_with fail
  go_still_tail 26, (by kernel_rfl)
  change wpList _ _ _ _ _ wd.drew
  have HZ11 : Hid (ZZ w wd.drew) := Lib.hid (ZZ.next HZ10.out (below_drew1 (Below.refl _ _)))
  generalize wd.drew = w2 at *
  obtain ⟨q0, q1, q2, q3, q4, q5, q6, q7⟩ := PlanAt.cells8 HZ11.out.p
  have hfr := PlanAt.frozen HZ11.out.p
  go_wp2_with fail
  simp only [bi_gt]
  rw [← HW3.out]
  change bodyPost _ _ _ _ _ (setPlan w2 w.heap.size p)
  refine bodyPost_ret (results_plan (b := w.heap.size) (p := p) (n := 0) (ok := true) Tryd.results11 rfl rfl rfl (setPlan_at HZ11.out.p)) rfl ?_
  exact ⟨by rw [HE2.out], setPlan_below _ HZ11.out.below (Nat.le_refl _)⟩
set_option maxRecDepth 100000 in
set_option maxHeartbeats 4000000 in
theorem tail41 {w wd : World} {g o c m gb : Nat} {p : Pl} {ix : Int} {R : Pl × Int × Bool} {y1 y3 y4 y8 y9 y10 y11 y12 y13 y14 y15 y16 y17 y18 y19 y20 y21 y22 y23 y24 y25 y26 y27 y28 y29 y30 y31 y32 y33 y34 y35 y36 y37 y38 y39 y40 y41 y42 y43 y44 y45 y46 y47 y48 y49 y50 y51 y52 y53 y54 y55 y56 y57 y58 y59 y60 y61 y62 y63 y64 y65 y66 y67 y68 y69 y70 y71 y72 y73 y74 y75 y76 y77 y78 y79 y80 y81 y82 y83 y84 y85 y86 y87 y88 y89 y90 y91 y92 y93 y94 y95 y96 y97 y98 y99 y100 y101 y102 y103 y104 y105 y106 y107 y108 y109 y110 y111 y112 y113 y114 y115 y116 y117 y118 y119 y120 y121 y122 y123 y124 y125 y126 y127 y128 y129 y130 y131 y132 y133 y134 y135 y136 y137 y138 y139 y140 y141 y142 y143 y144 y145 y146 y147 y148 y149 y150 y151 y152 y153 y154 y155 y156 y157 y158 y159 y160 y161 y162 y163 y164 y165 y166 y167 y168 y169 y170 y171 y172 y173 y174 y175 y176 y177 y178 y179 y180 y181 y182 y183 y184 y185 y186 y187 y188 y189 y190 y191 y192 y193 y194 y195 y196 y197 y198 y199 y200 y201 y202 y203 y204 y205 y206 y207 y208 y209 y210 y211 y212 y213 : Value} (hgb : w.heap.size + 1 < gb) (h1 : 1 ≤ ix) (h6 : ix ≤ 6) (HZ9 : Hid (ZZ w wd)) (HG9 : Hid (GotAt wd gb (gotL p))) (HW2 : Hid (p.c0 = ix)) (HE2 : Hid (R = (p.withSize, 0, true))) :
    Code.wp Tryd.prog tail41c (bodyPost Tryd.prog Tryd.f11 (Parsed w R)) ⟨List.toArray (.slice (some ⟨g, o, none⟩) (m + 1) c :: y1 :: .pointer (some ⟨w.heap.size, 0, none⟩) :: y3 :: y4 :: .pointer (some ⟨w.heap.size + 1, 0, none⟩) :: .int .i64 ix :: .slice (some ⟨gb, 0, none⟩) 7 7 :: y8 :: y9 :: y10 :: y11 :: y12 :: y13 :: y14 :: y15 :: y16 :: y17 :: y18 :: y19 :: y20 :: y21 :: y22 :: y23 :: y24 :: y25 :: y26 :: y27 :: y28 :: y29 :: y30 :: y31 :: y32 :: y33 :: y34 :: y35 :: y36 :: y37 :: y38 :: y39 :: y40 :: y41 :: y42 :: y43 :: y44 :: y45 :: y46 :: y47 :: y48 :: y49 :: y50 :: y51 :: y52 :: y53 :: y54 :: y55 :: y56 :: y57 :: y58 :: y59 :: y60 :: y61 :: y62 :: y63 :: y64 :: y65 :: y66 :: y67 :: y68 :: y69 :: y70 :: y71 :: y72 :: y73 :: y74 :: y75 :: y76 :: y77 :: y78 :: y79 :: y80 :: y81 :: y82 :: y83 :: y84 :: y85 :: y86 :: y87 :: y88 :: y89 :: y90 :: y91 :: y92 :: y93 :: y94 :: y95 :: y96 :: y97 :: y98 :: y99 :: y100 :: y101 :: y102 :: y103 :: y104 :: y105 :: y106 :: y107 :: y108 :: y109 :: y110 :: y111 :: y112 :: y113 :: y114 :: y115 :: y116 :: y117 :: y118 :: y119 :: y120 :: y121 :: y122 :: y123 :: y124 :: y125 :: y126 :: y127 :: y128 :: y129 :: y130 :: y131 :: y132 :: y133 :: y134 :: y135 :: y136 :: y137 :: y138 :: y139 :: y140 :: y141 :: y142 :: y143 :: y144 :: y145 :: y146 :: y147 :: y148 :: y149 :: y150 :: y151 :: y152 :: y153 :: y154 :: y155 :: y156 :: y157 :: y158 :: y159 :: y160 :: y161 :: y162 :: y163 :: y164 :: y165 :: y166 :: y167 :: y168 :: y169 :: y170 :: y171 :: y172 :: y173 :: y174 :: y175 :: y176 :: y177 :: y178 :: y179 :: y180 :: y181 :: y182 :: y183 :: y184 :: y185 :: y186 :: y187 :: y188 :: y189 :: y190 :: y191 :: y192 :: y193 :: y194 :: y195 :: y196 :: y197 :: y198 :: y199 :: y200 :: y201 :: y202 :: y203 :: y204 :: y205 :: y206 :: y207 :: y208 :: y209 :: y210 :: y211 :: y212 :: y213 :: ([] : List Value)), []⟩ wd := by
  conv => arg 2; whnf
  go_upto_region 41 with fail
  go_cut [6, 185] (fun s6 s185 wx => s6 = .int .i64 ix ∧ s185 = .bool (ix == 1 && (p.f && p.c4 == 0)) ∧ wx = wd)
  case first =>
    have g3 : wd.cell? ⟨gb, 3, none⟩ = some (.int .i64 p.c4) := HG9.out.cell (o := 3) (show 3 < 7 by decide)
    have g4 : wd.cell? ⟨gb, 4, none⟩ = some (.int .i64 (bi p.f)) := HG9.out.cell (o := 4) (show 4 < 7 by decide)
    by_cases k1 : ix = 1
    · have b1 : (ix == 1) = true := by rw [k1]; rfl
      have B1 := Lib.hid b1
      clear k1
      cases hf : p.f with
      | false =>
        rw [hf] at g4
        have HF := Lib.hid hf
        clear hf
        have g4 : wd.cell? ⟨gb, 4, none⟩ = some (.int .i64 0) := g4
        go_wp2_with fail
        go_meet
        exact ⟨rfl, by rw [B1.out, HF.out]; rfl, rfl⟩
      | true =>
        rw [hf] at g4
        have HF := Lib.hid hf
        clear hf
        have g4 : wd.cell? ⟨gb, 4, none⟩ = some (.int .i64 1) := g4
        cases b3 : (p.c4 == 0) with
        | true =>
          have B3 := Lib.hid b3
          go_wp2_with fail
          go_meet
          exact ⟨rfl, by rw [B1.out, HF.out, B3.out]; rfl, rfl⟩
        | false =>
          have B3 := Lib.hid b3
          go_wp2_with fail
          go_meet
          exact ⟨rfl, by rw [B1.out, HF.out, B3.out]; rfl, rfl⟩
    · have b1 : (ix == 1) = false := by simpa using k1
      have B1 := Lib.hid b1
      clear k1
      go_wp2_with fail
      go_meet
      exact ⟨rfl, by rw [B1.out]; rfl, rfl⟩
  case rest =>
   obtain ⟨rfl, rfl, rfl⟩ := hcut
   go_upto_if 185 with fail
   go_cut [6] (fun s6 wx => s6 = .int .i64 ix ∧ Hid (ZZ w wx) ∧ Hid (GotAt wx gb (gotL p.withSize)))
   case first =>
    have g3 : wc.cell? ⟨gb, 3, none⟩ = some (.int .i64 p.c4) := HG9.out.cell (o := 3) (show 3 < 7 by decide)
    have gf := HG9.out.frozen 3
    cases hb : (ix == 1 && (p.f && p.c4 == 0)) with
    | true =>
      have HB : Hid (ix = 1 ∧ p.f = true ∧ p.c4 = 0) := by
        rw [Bool.and_eq_true, Bool.and_eq_true, beq_iff_eq, beq_iff_eq] at hb
        exact hb
      clear hb
      go_wp2_with fail
      go_meet
      refine ⟨rfl, Lib.hid (ZZ.far HZ9.out (by omega) (by omega) (by omega) _), Lib.hid ?_⟩
      rw [size_yes HB.out.2.2 (by rw [HW2.out]; exact HB.out.1) HB.out.2.1]
      exact GotAt.set HG9.out 3 4096
    | false =>
      have HB := Lib.hid hb
      clear hb
      go_wp2_with fail
      go_meet
      refine ⟨rfl, HZ9, Lib.hid ?_⟩
      have e : p.withSize = p := by
        by_cases k1 : ix = 1
        · cases hf : p.f with
          | false => exact size_no3 hf
          | true =>
            refine size_no1 fun k3 => ?_
            have h := HB.out
            rw [k1, hf, k3] at h
            exact absurd h (by decide)
        · exact size_no2 (by rw [HW2.out]; exact k1)
      rw [e]
      exact HG9.out
   case rest =>
    obtain ⟨rfl, HZ10, HG10⟩ := hcut
    apply_assumption
    exact tail43 HZ10 HG10 (Lib.hid (by rw [size_c0]; exact HW2.out)) HE2
set_option maxRecDepth 100000 in
set_option maxHeartbeats 4000000 in
theorem tail37 {w wd : World} {g o c m gb : Nat} {p : Pl} {ix : Int} {R : Pl × Int × Bool} {y1 y3 y4 y8 y9 y10 y11 y12 y13 y15 y16 y17 y18 y19 y20 y21 y22 y23 y24 y25 y26 y27 y28 y29 y30 y31 y32 y33 y34 y35 y36 y37 y38 y39 y40 y41 y42 y43 y44 y45 y46 y47 y48 y49 y50 y51 y52 y53 y54 y55 y56 y57 y58 y59 y60 y61 y62 y63 y64 y65 y66 y67 y68 y69 y70 y71 y72 y73 y74 y75 y76 y77 y78 y79 y80 y81 y82 y83 y84 y85 y86 y87 y88 y89 y90 y91 y92 y93 y94 y95 y96 y97 y98 y99 y100 y101 y102 y103 y104 y105 y106 y107 y108 y109 y110 y111 y112 y113 y114 y115 y116 y117 y118 y119 y120 y121 y122 y123 y124 y125 y126 y127 y128 y129 y130 y131 y132 y133 y134 y135 y136 y137 y138 y139 y140 y141 y142 y143 y144 y145 y146 y147 y148 y149 y150 y151 y152 y153 y154 y155 y156 y157 y158 y159 y160 y161 y162 y163 y164 y165 y166 y167 y168 y169 y170 y171 y172 y173 y174 y175 y176 y177 y178 y179 y180 y181 y182 y183 y184 y185 y186 y187 y188 y189 y190 y191 y192 y193 y194 y195 y196 y197 y198 y199 y200 y201 y202 y203 y204 y205 y206 y207 y208 y209 y210 y211 y212 y213 : Value} (hgb : w.heap.size + 1 < gb) (h1 : 1 ≤ ix) (h6 : ix ≤ 6) (HZ8 : Hid (ZZ w wd)) (HG8 : Hid (GotAt wd gb (gotL p))) (HW : Hid (p.c0 = ix)) (n1 : 0 ≤ p.c1) (n4 : 0 ≤ p.c4) (HE : Hid (R = finishF p ((m + 1 : Nat) : Int))) :
    Code.wp Tryd.prog tail37c (bodyPost Tryd.prog Tryd.f11 (Parsed w R)) ⟨List.toArray (.slice (some ⟨g, o, none⟩) (m + 1) c :: y1 :: .pointer (some ⟨w.heap.size, 0, none⟩) :: y3 :: y4 :: .pointer (some ⟨w.heap.size + 1, 0, none⟩) :: .int .i64 ix :: .slice (some ⟨gb, 0, none⟩) 7 7 :: y8 :: y9 :: y10 :: y11 :: y12 :: y13 :: .bool (wrongF p) :: y15 :: y16 :: y17 :: y18 :: y19 :: y20 :: y21 :: y22 :: y23 :: y24 :: y25 :: y26 :: y27 :: y28 :: y29 :: y30 :: y31 :: y32 :: y33 :: y34 :: y35 :: y36 :: y37 :: y38 :: y39 :: y40 :: y41 :: y42 :: y43 :: y44 :: y45 :: y46 :: y47 :: y48 :: y49 :: y50 :: y51 :: y52 :: y53 :: y54 :: y55 :: y56 :: y57 :: y58 :: y59 :: y60 :: y61 :: y62 :: y63 :: y64 :: y65 :: y66 :: y67 :: y68 :: y69 :: y70 :: y71 :: y72 :: y73 :: y74 :: y75 :: y76 :: y77 :: y78 :: y79 :: y80 :: y81 :: y82 :: y83 :: y84 :: y85 :: y86 :: y87 :: y88 :: y89 :: y90 :: y91 :: y92 :: y93 :: y94 :: y95 :: y96 :: y97 :: y98 :: y99 :: y100 :: y101 :: y102 :: y103 :: y104 :: y105 :: y106 :: y107 :: y108 :: y109 :: y110 :: y111 :: y112 :: y113 :: y114 :: y115 :: y116 :: y117 :: y118 :: y119 :: y120 :: y121 :: y122 :: y123 :: y124 :: y125 :: y126 :: y127 :: y128 :: y129 :: y130 :: y131 :: y132 :: y133 :: y134 :: y135 :: y136 :: y137 :: y138 :: y139 :: y140 :: y141 :: y142 :: y143 :: y144 :: y145 :: y146 :: y147 :: y148 :: y149 :: y150 :: y151 :: y152 :: y153 :: y154 :: y155 :: y156 :: y157 :: y158 :: y159 :: y160 :: y161 :: y162 :: y163 :: y164 :: y165 :: y166 :: y167 :: y168 :: y169 :: y170 :: y171 :: y172 :: y173 :: y174 :: y175 :: y176 :: y177 :: y178 :: y179 :: y180 :: y181 :: y182 :: y183 :: y184 :: y185 :: y186 :: y187 :: y188 :: y189 :: y190 :: y191 :: y192 :: y193 :: y194 :: y195 :: y196 :: y197 :: y198 :: y199 :: y200 :: y201 :: y202 :: y203 :: y204 :: y205 :: y206 :: y207 :: y208 :: y209 :: y210 :: y211 :: y212 :: y213 :: ([] : List Value)), []⟩ wd := by
  conv => arg 2; whnf
  cases hwr : wrongF p with
  | true =>
    have HE2 : Hid (R = (Pl.zero, ((m + 1 : Nat) : Int), false)) := HE.out.trans (finish_no (by rw [wrong_whole p n1 n4, hwr]; rfl))
    obtain ⟨z0, z1, z2, z3, z4, z5, z6, z7⟩ := PlanAt.cells8 HZ8.out.q
    obtain ⟨q0, q1, q2, q3, q4, q5, q6, q7⟩ := PlanAt.cells8 HZ8.out.p
    have hfr := PlanAt.frozen HZ8.out.p
    go_wp2_with fail
    change bodyPost _ _ _ _ _ (setPlan wd w.heap.size Pl.zero)
    refine bodyPost_ret (results_plan (b := w.heap.size) (p := Pl.zero) (n := ((m + 1 : Nat) : Int)) (ok := false) Tryd.results11 rfl rfl rfl (setPlan_at HZ8.out.p)) rfl ?_
    exact ⟨by rw [HE2.out], zz_ret HZ8.out⟩
  | false =>
    have HE2 : Hid (R = (p.withForm.withSize, 0, true)) := HE.out.trans (finish_ok (by rw [wrong_whole p n1 n4, hwr]; rfl) rfl rfl)
    clear hwr
    go_upto_region 39 with fail
    go_cut [6, 169] (fun s6 s169 wx => s6 = .int .i64 ix ∧ s169 = .bool (decide (ix ≤ 2) && p.c3 == 0) ∧ wx = wd)
    case first =>
      have g2 : wd.cell? ⟨gb, 2, none⟩ = some (.int .i64 p.c3) := HG8.out.cell (o := 2) (show 2 < 7 by decide)
      by_cases k2 : ix ≤ 2
      · by_cases k3 : p.c3 = 0
        · have b3 : (p.c3 == 0) = true := by rw [k3]; rfl
          clear k3
          have B3 := Lib.hid b3
          have K2 := Lib.hid k2
          go_wp2_with fail
          go_meet
          exact ⟨rfl, by rw [decide_eq_true K2.out, B3.out]; rfl, rfl⟩
        · have b3 : (p.c3 == 0) = false := by simpa using k3
          clear k3
          have B3 := Lib.hid b3
          have K2 := Lib.hid k2
          go_wp2_with fail
          go_meet
          exact ⟨rfl, by rw [decide_eq_true K2.out, B3.out]; rfl, rfl⟩
      · have K2 : Hid (decide (ix ≤ 2) = false) := Lib.hid (decide_eq_false k2)
        go_wp2_with fail
        go_meet
        exact ⟨rfl, by rw [K2.out]; rfl, rfl⟩
    case rest =>
     obtain ⟨rfl, rfl, rfl⟩ := hcut
     go_upto_if 169 with fail
     go_cut [6] (fun s6 wx => s6 = .int .i64 ix ∧ Hid (ZZ w wx) ∧ Hid (GotAt wx gb (gotL p.withForm)))
     case first =>
      have g2 : wc.cell? ⟨gb, 2, none⟩ = some (.int .i64 p.c3) := HG8.out.cell (o := 2) (show 2 < 7 by decide)
      have gf := HG8.out.frozen 2
      cases hb : (decide (ix ≤ 2) && p.c3 == 0) with
      | true =>
        have HB : Hid (ix ≤ 2 ∧ p.c3 = 0) := by
          rw [Bool.and_eq_true, decide_eq_true_iff, beq_iff_eq] at hb
          exact hb
        clear hb
        go_wp2_with fail
        go_meet
        refine ⟨rfl, Lib.hid (ZZ.far HZ8.out (by omega) (by omega) (by omega) _), Lib.hid ?_⟩
        rw [form_yes HB.out.2 (by rw [HW.out, form_may h1 h6]; exact decide_eq_true HB.out.1)]
        exact GotAt.set HG8.out 2 1
      | false =>
        have HB := Lib.hid hb
        clear hb
        go_wp2_with fail
        go_meet
        refine ⟨rfl, HZ8, Lib.hid ?_⟩
        have e : p.withForm = p := by
          by_cases k2 : ix ≤ 2
          · refine form_no1 fun k3 => ?_
            have h := HB.out
            rw [decide_eq_true k2, k3] at h
            exact absurd h (by decide)
          · exact form_no2 (by rw [HW.out, form_may h1 h6]; exact decide_eq_false k2)
        rw [e]
        exact HG8.out
     case rest =>
      obtain ⟨rfl, HZ9, HG9⟩ := hcut
      apply_assumption
      exact tail41 hgb h1 h6 HZ9 HG9 (Lib.hid (by rw [form_c0]; exact HW.out)) HE2
/-- The block n of a code. -/
def blockAt (n : Nat) : Code → Option Code
  | .block k c => match k == n with
    | true => some (.block k c)
    | false => blockAt n c
  | .seq a b => match blockAt n a with
    | some c => some c
    | none => blockAt n b
  | .cond _ a b => match blockAt n a with
    | some c => some c
    | none => blockAt n b
  | .loop c => blockAt n c
  | .scope c => blockAt n c
  | _ => none
noncomputable def switchc : Code := ((Tryd.f11.body).bind (blockAt 4)).getD .skip
set_option maxRecDepth 100000 in
set_option maxHeartbeats 4000000 in
theorem switch_c {wr : World} {gb : Nat} {p : Pl} {ix : Int} {K' : Act → World → Prop} {Q' : Exit → Act → World → Prop} {y0 y1 y2 y3 y4 y5 y6 y8 y9 y10 y11 y12 y13 y15 y16 y17 y18 y19 y20 y21 y22 y23 y24 y25 y26 y27 y28 y29 y30 y31 y32 y33 y34 y35 y36 y37 y38 y39 y40 y41 y42 y43 y44 y45 y46 y47 y48 y49 y50 y51 y52 y53 y54 y55 y56 y57 y58 y59 y60 y61 y62 y63 y64 y65 y66 y67 y68 y69 y70 y71 y72 y73 y74 y75 y76 y77 y78 y79 y80 y81 y82 y83 y84 y85 y86 y87 y88 y89 y90 y91 y92 y93 y94 y95 y96 y97 y98 y99 y100 y101 y102 y103 y104 y105 y106 y107 y108 y109 y111 y112 y113 y114 y115 y116 y117 y118 y119 y120 y121 y122 y123 y124 y125 y126 y127 y128 y129 y130 y131 y132 y133 y134 y135 y136 y137 y138 y139 y140 y141 y142 y143 y144 y145 y146 y147 y148 y149 y150 y151 y152 y153 y154 y155 y156 y157 y158 y159 y160 y161 y162 y163 y164 y165 y166 y167 y168 y169 y170 y171 y172 y173 y174 y175 y176 y177 y178 y179 y180 y181 y182 y183 y184 y185 y186 y187 y188 y189 y190 y191 y192 y193 y194 y195 y196 y197 y198 y199 y200 y201 y202 y203 y204 y205 y206 y207 y208 y209 y210 y211 y212 y213 : Value} (h1 : 1 ≤ ix) (h6 : ix ≤ 6) (HG : Hid (GotAt wr gb (gotL p))) (HW : Hid (p.c0 = ix))
    (hK : Hid (∀ (s14 : Value) (wx : World) (z111 z112 z113 z114 z115 z116 z117 z118 z119 z120 z121 z122 z123 z124 z125 z126 z127 z128 z129 z130 z131 z132 z133 z134 z135 z136 z137 z138 z139 z140 z141 z142 z143 z144 z145 z146 z147 z148 z149 z150 z151 z152 z153 z154 z155 z156 z157 : Value), (s14 = .bool (wrongF p) ∧ ∃ n, wx = wr.drewN n) → K' ⟨List.toArray (y0 :: y1 :: y2 :: y3 :: y4 :: y5 :: y6 :: .slice (some ⟨gb, 0, none⟩) 7 7 :: y8 :: y9 :: y10 :: y11 :: y12 :: y13 :: s14 :: y15 :: y16 :: y17 :: y18 :: y19 :: y20 :: y21 :: y22 :: y23 :: y24 :: y25 :: y26 :: y27 :: y28 :: y29 :: y30 :: y31 :: y32 :: y33 :: y34 :: y35 :: y36 :: y37 :: y38 :: y39 :: y40 :: y41 :: y42 :: y43 :: y44 :: y45 :: y46 :: y47 :: y48 :: y49 :: y50 :: y51 :: y52 :: y53 :: y54 :: y55 :: y56 :: y57 :: y58 :: y59 :: y60 :: y61 :: y62 :: y63 :: y64 :: y65 :: y66 :: y67 :: y68 :: y69 :: y70 :: y71 :: y72 :: y73 :: y74 :: y75 :: y76 :: y77 :: y78 :: y79 :: y80 :: y81 :: y82 :: y83 :: y84 :: y85 :: y86 :: y87 :: y88 :: y89 :: y90 :: y91 :: y92 :: y93 :: y94 :: y95 :: y96 :: y97 :: y98 :: y99 :: y100 :: y101 :: y102 :: y103 :: y104 :: y105 :: y106 :: y107 :: y108 :: y109 :: .int .i64 ix :: z111 :: z112 :: z113 :: z114 :: z115 :: z116 :: z117 :: z118 :: z119 :: z120 :: z121 :: z122 :: z123 :: z124 :: z125 :: z126 :: z127 :: z128 :: z129 :: z130 :: z131 :: z132 :: z133 :: z134 :: z135 :: z136 :: z137 :: z138 :: z139 :: z140 :: z141 :: z142 :: z143 :: z144 :: z145 :: z146 :: z147 :: z148 :: z149 :: z150 :: z151 :: z152 :: z153 :: z154 :: z155 :: z156 :: z157 :: y158 :: y159 :: y160 :: y161 :: y162 :: y163 :: y164 :: y165 :: y166 :: y167 :: y168 :: y169 :: y170 :: y171 :: y172 :: y173 :: y174 :: y175 :: y176 :: y177 :: y178 :: y179 :: y180 :: y181 :: y182 :: y183 :: y184 :: y185 :: y186 :: y187 :: y188 :: y189 :: y190 :: y191 :: y192 :: y193 :: y194 :: y195 :: y196 :: y197 :: y198 :: y199 :: y200 :: y201 :: y202 :: y203 :: y204 :: y205 :: y206 :: y207 :: y208 :: y209 :: y210 :: y211 :: y212 :: y213 :: ([] : List Value)), []⟩ wx)) :
    Code.wp Tryd.prog switchc (Exit.then K' Q') ⟨List.toArray (y0 :: y1 :: y2 :: y3 :: y4 :: y5 :: y6 :: .slice (some ⟨gb, 0, none⟩) 7 7 :: y8 :: y9 :: y10 :: y11 :: y12 :: y13 :: .bool false :: y15 :: y16 :: y17 :: y18 :: y19 :: y20 :: y21 :: y22 :: y23 :: y24 :: y25 :: y26 :: y27 :: y28 :: y29 :: y30 :: y31 :: y32 :: y33 :: y34 :: y35 :: y36 :: y37 :: y38 :: y39 :: y40 :: y41 :: y42 :: y43 :: y44 :: y45 :: y46 :: y47 :: y48 :: y49 :: y50 :: y51 :: y52 :: y53 :: y54 :: y55 :: y56 :: y57 :: y58 :: y59 :: y60 :: y61 :: y62 :: y63 :: y64 :: y65 :: y66 :: y67 :: y68 :: y69 :: y70 :: y71 :: y72 :: y73 :: y74 :: y75 :: y76 :: y77 :: y78 :: y79 :: y80 :: y81 :: y82 :: y83 :: y84 :: y85 :: y86 :: y87 :: y88 :: y89 :: y90 :: y91 :: y92 :: y93 :: y94 :: y95 :: y96 :: y97 :: y98 :: y99 :: y100 :: y101 :: y102 :: y103 :: y104 :: y105 :: y106 :: y107 :: y108 :: y109 :: .int .i64 ix :: y111 :: y112 :: y113 :: y114 :: y115 :: y116 :: y117 :: y118 :: y119 :: y120 :: y121 :: y122 :: y123 :: y124 :: y125 :: y126 :: y127 :: y128 :: y129 :: y130 :: y131 :: y132 :: y133 :: y134 :: y135 :: y136 :: y137 :: y138 :: y139 :: y140 :: y141 :: y142 :: y143 :: y144 :: y145 :: y146 :: y147 :: y148 :: y149 :: y150 :: y151 :: y152 :: y153 :: y154 :: y155 :: y156 :: y157 :: y158 :: y159 :: y160 :: y161 :: y162 :: y163 :: y164 :: y165 :: y166 :: y167 :: y168 :: y169 :: y170 :: y171 :: y172 :: y173 :: y174 :: y175 :: y176 :: y177 :: y178 :: y179 :: y180 :: y181 :: y182 :: y183 :: y184 :: y185 :: y186 :: y187 :: y188 :: y189 :: y190 :: y191 :: y192 :: y193 :: y194 :: y195 :: y196 :: y197 :: y198 :: y199 :: y200 :: y201 :: y202 :: y203 :: y204 :: y205 :: y206 :: y207 :: y208 :: y209 :: y210 :: y211 :: y212 :: y213 :: ([] : List Value)), []⟩ wr := by
  conv => arg 2; whnf
  have g0 : wr.cell? ⟨gb, 0, none⟩ = some (.int .i64 p.c1) := HG.out.cell (o := 0) (show 0 < 7 by decide)
  have g1 : wr.cell? ⟨gb, 1, none⟩ = some (.int .i64 p.c2) := HG.out.cell (o := 1) (show 1 < 7 by decide)
  have g3 : wr.cell? ⟨gb, 3, none⟩ = some (.int .i64 p.c4) := HG.out.cell (o := 3) (show 3 < 7 by decide)
  have g4 : wr.cell? ⟨gb, 4, none⟩ = some (.int .i64 (bi p.f)) := HG.out.cell (o := 4) (show 4 < 7 by decide)
  have h16 : ix = 1 ∨ ix = 2 ∨ ix = 3 ∨ ix = 4 ∨ ix = 5 ∨ ix = 6 := by omega
  clear h1 h6
  rcases h16 with rfl | rfl | rfl | rfl | rfl | rfl
  · by_cases k1 : p.c2 = 0
    · have b1 : (p.c2 == 0) = true := by rw [k1]; rfl
      have K1 := Lib.hid k1
      clear k1
      go_wp2_with fail
      apply hK.out
      exact ⟨by unfold wrongF; rw [HW.out, if_pos rfl, K1.out]; rfl, 0, rfl⟩
    · have b1 : (p.c2 == 0) = false := by simpa using k1
      have K1 := Lib.hid b1
      clear k1
      by_cases k4 : 0 < p.c4
      · go_wp2_with fail
        apply hK.out
        exact ⟨by unfold wrongF; rw [HW.out, if_pos rfl, K1.out, decide_eq_true (by omega : p.c4 > 0)]; rfl, 0, rfl⟩
      · go_wp2_with fail
        apply hK.out
        exact ⟨by unfold wrongF; rw [HW.out, if_pos rfl, K1.out, decide_eq_false (by omega : ¬ p.c4 > 0)]; rfl, 0, rfl⟩
  · go_wp2_with fail
    go_quiet (fail)
    go_wp2_with fail
    apply hK.out
    exact ⟨by unfold wrongF; rw [HW.out, if_neg (by decide), if_pos rfl], _, rfl⟩
  · by_cases k1 : p.c1 = 0
    · have b1 : (p.c1 == 0) = true := by rw [k1]; rfl
      have K1 := Lib.hid k1
      clear k1
      go_wp2_with fail
      apply hK.out
      exact ⟨by unfold wrongF; rw [HW.out, if_neg (by decide), if_neg (by decide), if_pos rfl, K1.out]; rfl, 0, rfl⟩
    · have b1 : (p.c1 == 0) = false := by simpa using k1
      have K1 := Lib.hid b1
      clear k1
      go_wp2_with fail
      apply hK.out
      exact ⟨by unfold wrongF; rw [HW.out, if_neg (by decide), if_neg (by decide), if_pos rfl, K1.out]; rfl, 0, rfl⟩
  · go_wp2_with fail
    apply hK.out
    exact ⟨by unfold wrongF; rw [HW.out]; rfl, 0, rfl⟩
  · go_wp2_with fail
    apply hK.out
    exact ⟨by unfold wrongF; rw [HW.out]; rfl, 0, rfl⟩
  · go_wp2_with fail
    apply hK.out
    exact ⟨by unfold wrongF; rw [HW.out]; rfl, 0, rfl⟩
end Go.Proofs.YtlddfdkmpnllmaaDoor
