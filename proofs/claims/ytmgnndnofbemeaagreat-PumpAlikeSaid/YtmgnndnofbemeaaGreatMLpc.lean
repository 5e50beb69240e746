/- Joined texts: Lpc. -/
import Derived.Test.YtmgnndnofbemeaaGreatMLp
/- pilcrowlaw19.PumpAlike, walked (printed by wip/gen/plaw_alike.py). -/
namespace Go.Proofs.YtmgnndnofbemeaaGreat
open Go.RowKit Go.Proofs.YtmgnndnofbemeaaGreatW.PrintWords
set_option linter.unusedVariables false
set_option linter.unusedSimpArgs false
theorem info_i64 : (Tryz.prog.info? 3).map (fun i => (i.zero, i.size, i.bytes)) = some (some (.int .i64 0), 1, 8) := by kernel_rfl
theorem q_emptyAtI {W : World} {base X : Nat} (h : W.heap[X]? = some (.cells #[] 3 (0, 0))) (hb : base ≤ X) : QRow W base 3 1 (.slice (some ⟨X, 0, none⟩) 0 0) ([] : List Int).length (nums .i64 []) :=
 ⟨rfl, .inl ⟨rfl, some ⟨X, 0, none⟩, rfl, fun a ha => by injection ha with ha; subst ha; exact ⟨hb, #[], h⟩⟩⟩
theorem reads_apart {w w1 : World} {X : Nat} {B : Option Addr} {l : List Int} {T : TypeId} {cs : Array Value} (h : ReadsInt w .i64 B l.length l) (hX : w.heap[X]? = some (.cells cs T (0, 0))) (hcs : ∀ v ∈ cs, ∀ n, v ≠ .int .i64 n) (he : Eff w w1 (fun k => k = X)) : ReadsInt w1 .i64 B l.length l :=
 reads_eff64 h he fun hne ad ha hk => by
  obtain ⟨ad', h', hc⟩ := ReadsInt.at_ h 0 (by omega) (by have := List.length_pos_iff.2 hne; omega)
  rw [ha] at h'
  injection h' with h'
  subst h'
  unfold World.cell? at hc
  rw [add_block64, hk, hX] at hc
  dsimp only at hc
  split at hc
  ·cases hc
  ·exact hcs _ (Array.mem_of_getElem? hc) _ rfl
theorem reads_past {W w4 : World} {X2 : Nat} {B1 : Option Addr} {l : List Int} (h : ReadsInt W .i64 B1 l.length l) (hX : W.heap[X2]? = some (.cells #[] 3 (0, 0))) (hg : W.grownBy w4 (Value.slice (some ⟨X2, 0, none⟩) 0 0).ownBlock) : ReadsInt w4 .i64 B1 l.length l :=
 reads_apart h hX (fun v hv => by simp at hv) ((Eff.of_grown hg).mono fun k _ hk => by injection hk with hk)
theorem nn_no : ∀ v ∈ (#[.slice none 0 0, .slice none 0 0] : Array Value), ∀ n, v ≠ .int .i64 n := by
 intro v hv n h
 simp at hv
 rw [hv] at h
 cases h
theorem eff2 (w : World) (g : Nat) (a b : Value) : Eff w ((w.setCell ⟨g, 0, none⟩ a).setCell ⟨g, 1, none⟩ b) (fun k => k = g) := (Eff.set _ _ _ _).trans (Eff.set _ _ _ _) (fun _ _ h => h)
set_option maxRecDepth 100000 in
set_option maxHeartbeats 8000000 in
theorem palike_c (c : Int) (s : ByteArray) (A1 A2 A3 A4 : Option Addr) (c1 c2 c3 c4 : Nat) (p r p2 r2 : List Int) (w : World) (h1 : ReadsInt w .i64 A1 p.length p) (h2 : ReadsInt w .i64 A2 r.length r) (h3 : ReadsInt w .i64 A3 p2.length p2) (h4 : ReadsInt w .i64 A4 r2.length r2) (hc1 : p.length ≤ c1) (hc2 : r.length ≤ c2) (hc3 : p2.length ≤ c3) (hc4 : r2.length ≤ c4)
  (hfp : ∀ n ∈ p, (Lit.int .i64 n).wf = true) (hfr : ∀ n ∈ r, (Lit.int .i64 n).wf = true) (hfp2 : ∀ n ∈ p2, (Lit.int .i64 n).wf = true) (hfr2 : ∀ n ∈ r2, (Lit.int .i64 n).wf = true) :
  Calls Tryz.prog 8 #[.int .i64 c, .string s, .agg #[.slice A1 p.length c1, .slice A2 r.length c2, .slice A3 p2.length c3, .slice A4 r2.length c4]] w fun e w' => e = .returned (.bool true) ∧ Below w.heap.size w w' := by
 have HAW := Lib.hid (fun W => awake19_c W)
 obtain ⟨gb, hgb⟩ : ∃ b, decide ((s.size : Int) > 300 ∨ 200 < p.length ∨ 200 < r.length) = b := ⟨_, rfl⟩
 obtain ⟨gc, hgc⟩ : ∃ b, decide ((0 : Int) > 300 ∨ 200 < p2.length ∨ 200 < r2.length) = b := ⟨_, rfl⟩
 have HGR := Lib.hid (fun W => great_c (s.size : Int) A1 A2 p.length r.length c1 c2 W)
 have HGS := Lib.hid (fun W => great_c 0 A3 A4 p2.length r2.length c3 c4 W)
 rw [hgb] at HGR
 rw [hgc] at HGS
 have hbw := below_new (Below.refl w.heap.size w) (.cells #[.slice A1 p.length c1, .slice A2 r.length c2, .slice A3 p2.length c3, .slice A4 r2.length c4] 59 (0, 0))
 have hk5 := Blk.new w 59 #[.slice A1 p.length c1, .slice A2 r.length c2, .slice A3 p2.length c3, .slice A4 r2.length c4]
 obtain ⟨W0, hW0⟩ : ∃ W0, w.alloc (.cells #[.slice A1 p.length c1, .slice A2 r.length c2, .slice A3 p2.length c3, .slice A4 r2.length c4] 59 (0, 0)) = W0 := ⟨_, rfl⟩
 rw [hW0] at hbw hk5
 have HBW0 := Lib.hid hbw
 have HK5 := Lib.hid hk5
 have HR1 := Lib.hid (h1.below hbw)
 have HR2 := Lib.hid (h2.below hbw)
 have HR3 := Lib.hid (h3.below hbw)
 have HR4 := Lib.hid (h4.below hbw)
 have HCC := Lib.hid (And.intro hc1 (And.intro hc2 (And.intro hc3 hc4)))
 clear h1 h2 h3 h4 hc1 hc2 hc3 hc4 hfp hfr hfp2 hfr2 hbw hk5
 obtain ⟨b5, hb5⟩ : ∃ b, w.heap.size = b := ⟨_, rfl⟩
 go_enter Tryz.func8, Tryz.ntmps8
 go_upto_region 1 with fail
 try rw [hW0]
 clear hW0
 rw [hb5] at HK5
 try rw [hb5]
 clear hb5
 go_wp2_with fail
 refine (HAW.out _).mono ?_
 rintro e w1 ⟨rfl, hb1⟩
 have hk1 := HK5.out.below hb1
 have c50 := hk1.cell (i := 0) rfl
 have c51 := hk1.cell (i := 1) rfl
 have HB1 := Lib.hid hb1
 clear hb1 hk1
 go_wp2_with fail
 refine (HGR.out _).mono ?_
 rintro e w2 ⟨rfl, hb2⟩
 have HB2 := Lib.hid (below_next HB1.out hb2)
 clear hb2 c50 c51 HB1 HGR
 cases gb with
 | true =>
  clear hgb
  go_wp2_with fail
  refine (HAW.out _).mono ?_
  rintro e w9 ⟨rfl, hb9⟩
  have HB9 := Lib.hid (below_next HB2.out hb9)
  clear hb9
  go_wp2_with fail
  go_ret
  exact ⟨rfl, below_next HBW0.out HB9.out⟩
 | false =>
  have hgs := of_decide_eq_false hgb
  have hl : s.size ≤ 300 := by omega
  have hp : p.length ≤ 200 := by omega
  have hr : r.length ≤ 200 := by omega
  clear hgb hgs
  have hk2 := HK5.out.below HB2.out
  have c52 := hk2.cell (i := 2) rfl
  have c53 := hk2.cell (i := 3) rfl
  clear hk2
  go_wp2_with fail
  refine (HGS.out _).mono ?_
  rintro e w3 ⟨rfl, hb3⟩
  have HB3 := Lib.hid (below_next HB2.out hb3)
  clear hb3 c52 c53 HB2 HGS
  cases gc with
  | true =>
   clear hgc
   go_wp2_with fail
   refine (HAW.out _).mono ?_
   rintro e w9 ⟨rfl, hb9⟩
   have HB9 := Lib.hid (below_next HB3.out hb9)
   clear hb9
   go_wp2_with fail
   go_ret
   exact ⟨rfl, below_next HBW0.out HB9.out⟩
  | false =>
   have hgs := of_decide_eq_false hgc
   have hp2 : p2.length ≤ 200 := by omega
   have hr2 : r2.length ≤ 200 := by omega
   clear hgc hgs
   obtain ⟨w2, hw2⟩ : ∃ W, w3 = W := ⟨_, rfl⟩
   rw [hw2] at HB3 ⊢
   clear hw2
   have hB2 : Below W0.heap.size W0 w2 := HB3.out
   have hs2 := hB2.size
   have hlen1 : (([] : List Int).length + p.length) * 8 ≤ 140737488355328 := by simp only [List.length_nil]; omega
   have hlen2 : (([] : List Int).length + r.length) * 8 ≤ 140737488355328 := by simp only [List.length_nil]; omega
   have HKB : Hid (∀ W, Below W0.heap.size W0 W → W.cell? ⟨b5, 0, none⟩ = some (.slice A1 p.length c1) ∧ W.cell? ⟨b5, 1, none⟩ = some (.slice A2 r.length c2)) := Lib.hid fun W hW => ⟨(HK5.out.below hW).cell rfl, (HK5.out.below hW).cell rfl⟩
   go_upto_region 3 with fail
   go_cut [7] (fun s7 wx => ∃ (f7 : Nat) (B1 B2 : Option Addr) (d1 d2 : Nat), s7 = .pointer (some ⟨f7, 0, none⟩) ∧ Hid (Blk wx f7 52 #[.slice B1 p.length d1, .slice B2 r.length d2]) ∧ Hid (ReadsInt wx .i64 B1 p.length p ∧ ReadsInt wx .i64 B2 r.length r ∧ p.length ≤ d1 ∧ r.length ≤ d2) ∧ Hid (Below W0.heap.size W0 wx))
   case first =>
    go_region_held3 (fun w' => w'.cell? ⟨b5, 0, none⟩ = some (.slice A1 p.length c1) ∧ w'.cell? ⟨b5, 1, none⟩ = some (.slice A2 r.length c2)) (first | with_reducible assumption | (refine HKB.out _ ?_; repeat (first | with_reducible exact Below.refl _ _ | with_reducible assumption | with_reducible apply below_alloc | with_reducible apply pw_below_drewN | with_reducible apply below_drew1 | (with_reducible refine Below.setCell ?_ (by dsimp only; omega) _))))
     (first
      | ((refine q_step w2.heap.size rfl (.tmp 33) (.tmp 36) 50 3 .i64 8 rfl Tryz.underlying50 info_i64 (by decide) (.slice (some ⟨w2.heap.size, 0, none⟩) 0 0) [] p A1 p.length c1 (by rfl) (by rfl) (q_emptyAtI (by simp only [h_allocP, h_drewP, Array.getElem?_push, Array.size_push]; (first | (simp; done) | (simp; omega))) (by omega)) (HR1.out.below (by repeat (first | with_reducible exact Below.refl _ _ | with_reducible assumption | with_reducible apply below_alloc | with_reducible apply pw_below_drewN | with_reducible apply below_drew1 | (with_reducible refine Below.setCell ?_ (by dsimp only; omega) _)))) (by first | omega | (simp; done) | (simp; omega)) hlen1 ?_; intro v1 w3 hq3 hg3 hv3; have hB3 : Below W0.heap.size W0 w3 := grown_under (by repeat (first | with_reducible exact Below.refl _ _ | with_reducible assumption | with_reducible apply below_alloc | with_reducible apply pw_below_drewN | with_reducible apply below_drew1 | (with_reducible refine Below.setCell ?_ (by dsimp only; omega) _))) (Nat.le_refl _) hg3 (by omega); have hs3 := hB3.size; have hs23 : w2.heap.size ≤ w3.heap.size := Nat.le_trans (by first | omega | (simp; done) | (simp; omega)) (Eff.of_grown hg3).size; obtain ⟨B1, d1, rfl, hd1⟩ := q_slice hq3; have hr3 : ReadsInt w3 .i64 B1 p.length p := q_reads hq3; (first | (refine keepq (A := Blk w3 (w2.heap.size + 1) 3 #[]) (grown_blkP (by simp only [h_allocP, h_drewP, Array.getElem?_push, Array.size_push]; (first | (simp; done) | (simp; omega))) hg3 (by omega)) fun xL => ?_) | (refine keepq (A := Blk w3 (w2.heap.size + 1 + 1) 3 #[]) (grown_blkP (by simp only [h_allocP, h_drewP, Array.getElem?_push, Array.size_push]; (first | (simp; done) | (simp; omega))) hg3 (by omega)) fun xL => ?_) | skip); (first | (refine keepq (A := Blk w3 (w2.heap.size + 1) 52 #[.slice none 0 0, .slice none 0 0]) (grown_blkP (by simp only [h_allocP, h_drewP, Array.getElem?_push, Array.size_push]; (first | (simp; done) | (simp; omega))) hg3 (by omega)) fun xC => ?_) | (refine keepq (A := Blk w3 (w2.heap.size + 1 + 1) 52 #[.slice none 0 0, .slice none 0 0]) (grown_blkP (by simp only [h_allocP, h_drewP, Array.getElem?_push, Array.size_push]; (first | (simp; done) | (simp; omega))) hg3 (by omega)) fun xC => ?_) | skip); clear hg3 hv3 hq3))
      | ((refine q_step w2.heap.size rfl (.tmp 33) (.tmp 36) 50 3 .i64 8 rfl Tryz.underlying50 info_i64 (by decide) (.slice (some ⟨w2.heap.size + 1, 0, none⟩) 0 0) [] p A1 p.length c1 (by rfl) (by rfl) (q_emptyAtI (by simp only [h_allocP, h_drewP, Array.getElem?_push, Array.size_push]; (first | (simp; done) | (simp; omega))) (by omega)) (HR1.out.below (by repeat (first | with_reducible exact Below.refl _ _ | with_reducible assumption | with_reducible apply below_alloc | with_reducible apply pw_below_drewN | with_reducible apply below_drew1 | (with_reducible refine Below.setCell ?_ (by dsimp only; omega) _)))) (by first | omega | (simp; done) | (simp; omega)) hlen1 ?_; intro v1 w3 hq3 hg3 hv3; have hB3 : Below W0.heap.size W0 w3 := grown_under (by repeat (first | with_reducible exact Below.refl _ _ | with_reducible assumption | with_reducible apply below_alloc | with_reducible apply pw_below_drewN | with_reducible apply below_drew1 | (with_reducible refine Below.setCell ?_ (by dsimp only; omega) _))) (Nat.le_refl _) hg3 (by omega); have hs3 := hB3.size; have hs23 : w2.heap.size ≤ w3.heap.size := Nat.le_trans (by first | omega | (simp; done) | (simp; omega)) (Eff.of_grown hg3).size; obtain ⟨B1, d1, rfl, hd1⟩ := q_slice hq3; have hr3 : ReadsInt w3 .i64 B1 p.length p := q_reads hq3; (first | (refine keepq (A := Blk w3 (w2.heap.size) 3 #[]) (grown_blkP (by simp only [h_allocP, h_drewP, Array.getElem?_push, Array.size_push]; (first | (simp; done) | (simp; omega))) hg3 (by omega)) fun xL => ?_) | (refine keepq (A := Blk w3 (w2.heap.size + 1 + 1) 3 #[]) (grown_blkP (by simp only [h_allocP, h_drewP, Array.getElem?_push, Array.size_push]; (first | (simp; done) | (simp; omega))) hg3 (by omega)) fun xL => ?_) | skip); (first | (refine keepq (A := Blk w3 (w2.heap.size) 52 #[.slice none 0 0, .slice none 0 0]) (grown_blkP (by simp only [h_allocP, h_drewP, Array.getElem?_push, Array.size_push]; (first | (simp; done) | (simp; omega))) hg3 (by omega)) fun xC => ?_) | (refine keepq (A := Blk w3 (w2.heap.size + 1 + 1) 52 #[.slice none 0 0, .slice none 0 0]) (grown_blkP (by simp only [h_allocP, h_drewP, Array.getElem?_push, Array.size_push]; (first | (simp; done) | (simp; omega))) hg3 (by omega)) fun xC => ?_) | skip); clear hg3 hv3 hq3))
      | ((refine q_step w2.heap.size rfl (.tmp 33) (.tmp 36) 50 3 .i64 8 rfl Tryz.underlying50 info_i64 (by decide) (.slice (some ⟨w2.heap.size + 1 + 1, 0, none⟩) 0 0) [] p A1 p.length c1 (by rfl) (by rfl) (q_emptyAtI (by simp only [h_allocP, h_drewP, Array.getElem?_push, Array.size_push]; (first | (simp; done) | (simp; omega))) (by omega)) (HR1.out.below (by repeat (first | with_reducible exact Below.refl _ _ | with_reducible assumption | with_reducible apply below_alloc | with_reducible apply pw_below_drewN | with_reducible apply below_drew1 | (with_reducible refine Below.setCell ?_ (by dsimp only; omega) _)))) (by first | omega | (simp; done) | (simp; omega)) hlen1 ?_; intro v1 w3 hq3 hg3 hv3; have hB3 : Below W0.heap.size W0 w3 := grown_under (by repeat (first | with_reducible exact Below.refl _ _ | with_reducible assumption | with_reducible apply below_alloc | with_reducible apply pw_below_drewN | with_reducible apply below_drew1 | (with_reducible refine Below.setCell ?_ (by dsimp only; omega) _))) (Nat.le_refl _) hg3 (by omega); have hs3 := hB3.size; have hs23 : w2.heap.size ≤ w3.heap.size := Nat.le_trans (by first | omega | (simp; done) | (simp; omega)) (Eff.of_grown hg3).size; obtain ⟨B1, d1, rfl, hd1⟩ := q_slice hq3; have hr3 : ReadsInt w3 .i64 B1 p.length p := q_reads hq3; (first | (refine keepq (A := Blk w3 (w2.heap.size) 3 #[]) (grown_blkP (by simp only [h_allocP, h_drewP, Array.getElem?_push, Array.size_push]; (first | (simp; done) | (simp; omega))) hg3 (by omega)) fun xL => ?_) | (refine keepq (A := Blk w3 (w2.heap.size + 1) 3 #[]) (grown_blkP (by simp only [h_allocP, h_drewP, Array.getElem?_push, Array.size_push]; (first | (simp; done) | (simp; omega))) hg3 (by omega)) fun xL => ?_) | skip); (first | (refine keepq (A := Blk w3 (w2.heap.size) 52 #[.slice none 0 0, .slice none 0 0]) (grown_blkP (by simp only [h_allocP, h_drewP, Array.getElem?_push, Array.size_push]; (first | (simp; done) | (simp; omega))) hg3 (by omega)) fun xC => ?_) | (refine keepq (A := Blk w3 (w2.heap.size + 1) 52 #[.slice none 0 0, .slice none 0 0]) (grown_blkP (by simp only [h_allocP, h_drewP, Array.getElem?_push, Array.size_push]; (first | (simp; done) | (simp; omega))) hg3 (by omega)) fun xC => ?_) | skip); clear hg3 hv3 hq3))
      | ((refine q_step w2.heap.size rfl (.tmp 38) (.tmp 41) 50 3 .i64 8 rfl Tryz.underlying50 info_i64 (by decide) (.slice (some ⟨w2.heap.size, 0, none⟩) 0 0) [] r A2 r.length c2 (by rfl) (by rfl) (q_emptyAtI (blk_at xL (by repeat (first | with_reducible exact Below.refl _ _ | with_reducible assumption | with_reducible apply below_alloc | with_reducible apply pw_below_drewN | with_reducible apply below_drew1 | (with_reducible refine Below.setCell ?_ (by dsimp only; omega) _)))) (by first | omega | (simp; omega))) (HR2.out.below (by repeat (first | with_reducible exact Below.refl _ _ | with_reducible assumption | with_reducible apply below_alloc | with_reducible apply pw_below_drewN | with_reducible apply below_drew1 | (with_reducible refine Below.setCell ?_ (by dsimp only; omega) _)))) (by first | omega | (simp; done) | (simp; omega)) hlen2 ?_; intro v2 w4 hq4 hg4 hv4; have hB4 : Below W0.heap.size W0 w4 := grown_under (by repeat (first | with_reducible exact Below.refl _ _ | with_reducible assumption | with_reducible apply below_alloc | with_reducible apply pw_below_drewN | with_reducible apply below_drew1 | (with_reducible refine Below.setCell ?_ (by dsimp only; omega) _))) (Nat.le_refl _) hg4 (by omega); have hs4 := hB4.size; obtain ⟨B2, d2, rfl, hd2⟩ := q_slice hq4; have hr5 : ReadsInt w4 .i64 B2 r.length r := q_reads hq4; have hr4 : ReadsInt w4 .i64 B1 p.length p := reads_past (hr3.below (by repeat (first | with_reducible exact Below.refl _ _ | with_reducible assumption | with_reducible apply below_alloc | with_reducible apply pw_below_drewN | with_reducible apply below_drew1 | (with_reducible refine Below.setCell ?_ (by dsimp only; omega) _)))) (blk_at xL (by repeat (first | with_reducible exact Below.refl _ _ | with_reducible assumption | with_reducible apply below_alloc | with_reducible apply pw_below_drewN | with_reducible apply below_drew1 | (with_reducible refine Below.setCell ?_ (by dsimp only; omega) _)))) hg4; (first | (refine keepq (grown_blkP (blk_at xC (by repeat (first | with_reducible exact Below.refl _ _ | with_reducible assumption | with_reducible apply below_alloc | with_reducible apply pw_below_drewN | with_reducible apply below_drew1 | (with_reducible refine Below.setCell ?_ (by dsimp only; omega) _)))) hg4 (by first | omega | (have := xC.lt; omega) | (have := xL.lt; omega))) fun x4 => ?_; have y0 := x4.cell (i := 0) rfl; have y1 := x4.cell (i := 1) rfl; have yf := x4.frozen; have HX4 := Lib.hid x4; clear x4) | (refine keepq (A := Blk w4 (w3.heap.size) 52 #[.slice none 0 0, .slice none 0 0]) (grown_blkP (by simp only [h_allocP, h_drewP, Array.getElem?_push, Array.size_push]; (first | (simp; done) | (simp; omega))) hg4 (by first | omega | (have := xC.lt; omega) | (have := xL.lt; omega))) fun x4 => ?_; have y0 := x4.cell (i := 0) rfl; have y1 := x4.cell (i := 1) rfl; have yf := x4.frozen; have HX4 := Lib.hid x4; clear x4) | (refine keepq (A := Blk w4 (w3.heap.size + 1) 52 #[.slice none 0 0, .slice none 0 0]) (grown_blkP (by simp only [h_allocP, h_drewP, Array.getElem?_push, Array.size_push]; (first | (simp; done) | (simp; omega))) hg4 (by first | omega | (have := xC.lt; omega) | (have := xL.lt; omega))) fun x4 => ?_; have y0 := x4.cell (i := 0) rfl; have y1 := x4.cell (i := 1) rfl; have yf := x4.frozen; have HX4 := Lib.hid x4; clear x4) | skip); clear hg4 hv4 hq4))
      | ((refine q_step w2.heap.size rfl (.tmp 38) (.tmp 41) 50 3 .i64 8 rfl Tryz.underlying50 info_i64 (by decide) (.slice (some ⟨w2.heap.size + 1, 0, none⟩) 0 0) [] r A2 r.length c2 (by rfl) (by rfl) (q_emptyAtI (blk_at xL (by repeat (first | with_reducible exact Below.refl _ _ | with_reducible assumption | with_reducible apply below_alloc | with_reducible apply pw_below_drewN | with_reducible apply below_drew1 | (with_reducible refine Below.setCell ?_ (by dsimp only; omega) _)))) (by first | omega | (simp; omega))) (HR2.out.below (by repeat (first | with_reducible exact Below.refl _ _ | with_reducible assumption | with_reducible apply below_alloc | with_reducible apply pw_below_drewN | with_reducible apply below_drew1 | (with_reducible refine Below.setCell ?_ (by dsimp only; omega) _)))) (by first | omega | (simp; done) | (simp; omega)) hlen2 ?_; intro v2 w4 hq4 hg4 hv4; have hB4 : Below W0.heap.size W0 w4 := grown_under (by repeat (first | with_reducible exact Below.refl _ _ | with_reducible assumption | with_reducible apply below_alloc | with_reducible apply pw_below_drewN | with_reducible apply below_drew1 | (with_reducible refine Below.setCell ?_ (by dsimp only; omega) _))) (Nat.le_refl _) hg4 (by omega); have hs4 := hB4.size; obtain ⟨B2, d2, rfl, hd2⟩ := q_slice hq4; have hr5 : ReadsInt w4 .i64 B2 r.length r := q_reads hq4; have hr4 : ReadsInt w4 .i64 B1 p.length p := reads_past (hr3.below (by repeat (first | with_reducible exact Below.refl _ _ | with_reducible assumption | with_reducible apply below_alloc | with_reducible apply pw_below_drewN | with_reducible apply below_drew1 | (with_reducible refine Below.setCell ?_ (by dsimp only; omega) _)))) (blk_at xL (by repeat (first | with_reducible exact Below.refl _ _ | with_reducible assumption | with_reducible apply below_alloc | with_reducible apply pw_below_drewN | with_reducible apply below_drew1 | (with_reducible refine Below.setCell ?_ (by dsimp only; omega) _)))) hg4; (first | (refine keepq (grown_blkP (blk_at xC (by repeat (first | with_reducible exact Below.refl _ _ | with_reducible assumption | with_reducible apply below_alloc | with_reducible apply pw_below_drewN | with_reducible apply below_drew1 | (with_reducible refine Below.setCell ?_ (by dsimp only; omega) _)))) hg4 (by first | omega | (have := xC.lt; omega) | (have := xL.lt; omega))) fun x4 => ?_; have y0 := x4.cell (i := 0) rfl; have y1 := x4.cell (i := 1) rfl; have yf := x4.frozen; have HX4 := Lib.hid x4; clear x4) | (refine keepq (A := Blk w4 (w3.heap.size) 52 #[.slice none 0 0, .slice none 0 0]) (grown_blkP (by simp only [h_allocP, h_drewP, Array.getElem?_push, Array.size_push]; (first | (simp; done) | (simp; omega))) hg4 (by first | omega | (have := xC.lt; omega) | (have := xL.lt; omega))) fun x4 => ?_; have y0 := x4.cell (i := 0) rfl; have y1 := x4.cell (i := 1) rfl; have yf := x4.frozen; have HX4 := Lib.hid x4; clear x4) | (refine keepq (A := Blk w4 (w3.heap.size + 1) 52 #[.slice none 0 0, .slice none 0 0]) (grown_blkP (by simp only [h_allocP, h_drewP, Array.getElem?_push, Array.size_push]; (first | (simp; done) | (simp; omega))) hg4 (by first | omega | (have := xC.lt; omega) | (have := xL.lt; omega))) fun x4 => ?_; have y0 := x4.cell (i := 0) rfl; have y1 := x4.cell (i := 1) rfl; have yf := x4.frozen; have HX4 := Lib.hid x4; clear x4) | skip); clear hg4 hv4 hq4))
      | ((refine q_step w2.heap.size rfl (.tmp 38) (.tmp 41) 50 3 .i64 8 rfl Tryz.underlying50 info_i64 (by decide) (.slice (some ⟨w2.heap.size + 1 + 1, 0, none⟩) 0 0) [] r A2 r.length c2 (by rfl) (by rfl) (q_emptyAtI (blk_at xL (by repeat (first | with_reducible exact Below.refl _ _ | with_reducible assumption | with_reducible apply below_alloc | with_reducible apply pw_below_drewN | with_reducible apply below_drew1 | (with_reducible refine Below.setCell ?_ (by dsimp only; omega) _)))) (by first | omega | (simp; omega))) (HR2.out.below (by repeat (first | with_reducible exact Below.refl _ _ | with_reducible assumption | with_reducible apply below_alloc | with_reducible apply pw_below_drewN | with_reducible apply below_drew1 | (with_reducible refine Below.setCell ?_ (by dsimp only; omega) _)))) (by first | omega | (simp; done) | (simp; omega)) hlen2 ?_; intro v2 w4 hq4 hg4 hv4; have hB4 : Below W0.heap.size W0 w4 := grown_under (by repeat (first | with_reducible exact Below.refl _ _ | with_reducible assumption | with_reducible apply below_alloc | with_reducible apply pw_below_drewN | with_reducible apply below_drew1 | (with_reducible refine Below.setCell ?_ (by dsimp only; omega) _))) (Nat.le_refl _) hg4 (by omega); have hs4 := hB4.size; obtain ⟨B2, d2, rfl, hd2⟩ := q_slice hq4; have hr5 : ReadsInt w4 .i64 B2 r.length r := q_reads hq4; have hr4 : ReadsInt w4 .i64 B1 p.length p := reads_past (hr3.below (by repeat (first | with_reducible exact Below.refl _ _ | with_reducible assumption | with_reducible apply below_alloc | with_reducible apply pw_below_drewN | with_reducible apply below_drew1 | (with_reducible refine Below.setCell ?_ (by dsimp only; omega) _)))) (blk_at xL (by repeat (first | with_reducible exact Below.refl _ _ | with_reducible assumption | with_reducible apply below_alloc | with_reducible apply pw_below_drewN | with_reducible apply below_drew1 | (with_reducible refine Below.setCell ?_ (by dsimp only; omega) _)))) hg4; (first | (refine keepq (grown_blkP (blk_at xC (by repeat (first | with_reducible exact Below.refl _ _ | with_reducible assumption | with_reducible apply below_alloc | with_reducible apply pw_below_drewN | with_reducible apply below_drew1 | (with_reducible refine Below.setCell ?_ (by dsimp only; omega) _)))) hg4 (by first | omega | (have := xC.lt; omega) | (have := xL.lt; omega))) fun x4 => ?_; have y0 := x4.cell (i := 0) rfl; have y1 := x4.cell (i := 1) rfl; have yf := x4.frozen; have HX4 := Lib.hid x4; clear x4) | (refine keepq (A := Blk w4 (w3.heap.size) 52 #[.slice none 0 0, .slice none 0 0]) (grown_blkP (by simp only [h_allocP, h_drewP, Array.getElem?_push, Array.size_push]; (first | (simp; done) | (simp; omega))) hg4 (by first | omega | (have := xC.lt; omega) | (have := xL.lt; omega))) fun x4 => ?_; have y0 := x4.cell (i := 0) rfl; have y1 := x4.cell (i := 1) rfl; have yf := x4.frozen; have HX4 := Lib.hid x4; clear x4) | (refine keepq (A := Blk w4 (w3.heap.size + 1) 52 #[.slice none 0 0, .slice none 0 0]) (grown_blkP (by simp only [h_allocP, h_drewP, Array.getElem?_push, Array.size_push]; (first | (simp; done) | (simp; omega))) hg4 (by first | omega | (have := xC.lt; omega) | (have := xL.lt; omega))) fun x4 => ?_; have y0 := x4.cell (i := 0) rfl; have y1 := x4.cell (i := 1) rfl; have yf := x4.frozen; have HX4 := Lib.hid x4; clear x4) | skip); clear hg4 hv4 hq4))
      | ((refine q_step w2.heap.size rfl (.tmp 38) (.tmp 41) 50 3 .i64 8 rfl Tryz.underlying50 info_i64 (by decide) (.slice (some ⟨w3.heap.size, 0, none⟩) 0 0) [] r A2 r.length c2 (by rfl) (by rfl) (q_emptyAtI (by simp only [h_allocP, h_drewP, Array.getElem?_push, Array.size_push]; (first | (simp; done) | (simp; omega))) (by first | omega | (simp; omega))) (HR2.out.below (by repeat (first | with_reducible exact Below.refl _ _ | with_reducible assumption | with_reducible apply below_alloc | with_reducible apply pw_below_drewN | with_reducible apply below_drew1 | (with_reducible refine Below.setCell ?_ (by dsimp only; omega) _)))) (by first | omega | (simp; done) | (simp; omega)) hlen2 ?_; intro v2 w4 hq4 hg4 hv4; have hB4 : Below W0.heap.size W0 w4 := grown_under (by repeat (first | with_reducible exact Below.refl _ _ | with_reducible assumption | with_reducible apply below_alloc | with_reducible apply pw_below_drewN | with_reducible apply below_drew1 | (with_reducible refine Below.setCell ?_ (by dsimp only; omega) _))) (Nat.le_refl _) hg4 (by omega); have hs4 := hB4.size; obtain ⟨B2, d2, rfl, hd2⟩ := q_slice hq4; have hr5 : ReadsInt w4 .i64 B2 r.length r := q_reads hq4; have hr4 : ReadsInt w4 .i64 B1 p.length p := reads_past (hr3.below (by repeat (first | with_reducible exact Below.refl _ _ | with_reducible assumption | with_reducible apply below_alloc | with_reducible apply pw_below_drewN | with_reducible apply below_drew1 | (with_reducible refine Below.setCell ?_ (by dsimp only; omega) _)))) (by simp only [h_allocP, h_drewP, Array.getElem?_push, Array.size_push]; (first | (simp; done) | (simp; omega))) hg4; (first | (refine keepq (grown_blkP (blk_at xC (by repeat (first | with_reducible exact Below.refl _ _ | with_reducible assumption | with_reducible apply below_alloc | with_reducible apply pw_below_drewN | with_reducible apply below_drew1 | (with_reducible refine Below.setCell ?_ (by dsimp only; omega) _)))) hg4 (by first | omega | (have := xC.lt; omega) | (have := xL.lt; omega))) fun x4 => ?_; have y0 := x4.cell (i := 0) rfl; have y1 := x4.cell (i := 1) rfl; have yf := x4.frozen; have HX4 := Lib.hid x4; clear x4) | (refine keepq (A := Blk w4 (w3.heap.size) 52 #[.slice none 0 0, .slice none 0 0]) (grown_blkP (by simp only [h_allocP, h_drewP, Array.getElem?_push, Array.size_push]; (first | (simp; done) | (simp; omega))) hg4 (by first | omega | (have := xC.lt; omega) | (have := xL.lt; omega))) fun x4 => ?_; have y0 := x4.cell (i := 0) rfl; have y1 := x4.cell (i := 1) rfl; have yf := x4.frozen; have HX4 := Lib.hid x4; clear x4) | (refine keepq (A := Blk w4 (w3.heap.size + 1) 52 #[.slice none 0 0, .slice none 0 0]) (grown_blkP (by simp only [h_allocP, h_drewP, Array.getElem?_push, Array.size_push]; (first | (simp; done) | (simp; omega))) hg4 (by first | omega | (have := xC.lt; omega) | (have := xL.lt; omega))) fun x4 => ?_; have y0 := x4.cell (i := 0) rfl; have y1 := x4.cell (i := 1) rfl; have yf := x4.frozen; have HX4 := Lib.hid x4; clear x4) | skip); clear hg4 hv4 hq4))
      | ((refine q_step w2.heap.size rfl (.tmp 38) (.tmp 41) 50 3 .i64 8 rfl Tryz.underlying50 info_i64 (by decide) (.slice (some ⟨w3.heap.size + 1, 0, none⟩) 0 0) [] r A2 r.length c2 (by rfl) (by rfl) (q_emptyAtI (by simp only [h_allocP, h_drewP, Array.getElem?_push, Array.size_push]; (first | (simp; done) | (simp; omega))) (by first | omega | (simp; omega))) (HR2.out.below (by repeat (first | with_reducible exact Below.refl _ _ | with_reducible assumption | with_reducible apply below_alloc | with_reducible apply pw_below_drewN | with_reducible apply below_drew1 | (with_reducible refine Below.setCell ?_ (by dsimp only; omega) _)))) (by first | omega | (simp; done) | (simp; omega)) hlen2 ?_; intro v2 w4 hq4 hg4 hv4; have hB4 : Below W0.heap.size W0 w4 := grown_under (by repeat (first | with_reducible exact Below.refl _ _ | with_reducible assumption | with_reducible apply below_alloc | with_reducible apply pw_below_drewN | with_reducible apply below_drew1 | (with_reducible refine Below.setCell ?_ (by dsimp only; omega) _))) (Nat.le_refl _) hg4 (by omega); have hs4 := hB4.size; obtain ⟨B2, d2, rfl, hd2⟩ := q_slice hq4; have hr5 : ReadsInt w4 .i64 B2 r.length r := q_reads hq4; have hr4 : ReadsInt w4 .i64 B1 p.length p := reads_past (hr3.below (by repeat (first | with_reducible exact Below.refl _ _ | with_reducible assumption | with_reducible apply below_alloc | with_reducible apply pw_below_drewN | with_reducible apply below_drew1 | (with_reducible refine Below.setCell ?_ (by dsimp only; omega) _)))) (by simp only [h_allocP, h_drewP, Array.getElem?_push, Array.size_push]; (first | (simp; done) | (simp; omega))) hg4; (first | (refine keepq (grown_blkP (blk_at xC (by repeat (first | with_reducible exact Below.refl _ _ | with_reducible assumption | with_reducible apply below_alloc | with_reducible apply pw_below_drewN | with_reducible apply below_drew1 | (with_reducible refine Below.setCell ?_ (by dsimp only; omega) _)))) hg4 (by first | omega | (have := xC.lt; omega) | (have := xL.lt; omega))) fun x4 => ?_; have y0 := x4.cell (i := 0) rfl; have y1 := x4.cell (i := 1) rfl; have yf := x4.frozen; have HX4 := Lib.hid x4; clear x4) | (refine keepq (A := Blk w4 (w3.heap.size) 52 #[.slice none 0 0, .slice none 0 0]) (grown_blkP (by simp only [h_allocP, h_drewP, Array.getElem?_push, Array.size_push]; (first | (simp; done) | (simp; omega))) hg4 (by first | omega | (have := xC.lt; omega) | (have := xL.lt; omega))) fun x4 => ?_; have y0 := x4.cell (i := 0) rfl; have y1 := x4.cell (i := 1) rfl; have yf := x4.frozen; have HX4 := Lib.hid x4; clear x4) | (refine keepq (A := Blk w4 (w3.heap.size + 1) 52 #[.slice none 0 0, .slice none 0 0]) (grown_blkP (by simp only [h_allocP, h_drewP, Array.getElem?_push, Array.size_push]; (first | (simp; done) | (simp; omega))) hg4 (by first | omega | (have := xC.lt; omega) | (have := xL.lt; omega))) fun x4 => ?_; have y0 := x4.cell (i := 0) rfl; have y1 := x4.cell (i := 1) rfl; have yf := x4.frozen; have HX4 := Lib.hid x4; clear x4) | skip); clear hg4 hv4 hq4))
      | fail)
    all_goals (go_wp2_with fail; go_meet)
    all_goals first
     | exact ⟨_, B1, B2, d1, d2, rfl, Lib.hid ((HX4.out.set 0 (.slice B1 p.length d1)).set 1 (.slice B2 r.length d2)), Lib.hid ⟨reads_apart hr4 HX4.out nn_no (eff2 _ _ _ _), reads_apart hr5 HX4.out nn_no (eff2 _ _ _ _), hd1, hd2⟩, Lib.hid (by repeat (first | with_reducible exact Below.refl _ _ | with_reducible assumption | with_reducible apply below_alloc | with_reducible apply pw_below_drewN | with_reducible apply below_drew1 | (with_reducible refine Below.setCell ?_ (by dsimp only; omega) _)))⟩
     | exact ⟨_, B1, B2, d1, d2, rfl, Lib.hid (Blk.new _ _ _), Lib.hid ⟨hr4.below (below_new (Below.refl _ _) _), hr5.below (below_new (Below.refl _ _) _), hd1, hd2⟩, Lib.hid (by repeat (first | with_reducible exact Below.refl _ _ | with_reducible assumption | with_reducible apply below_alloc | with_reducible apply pw_below_drewN | with_reducible apply below_drew1 | (with_reducible refine Below.setCell ?_ (by dsimp only; omega) _)))⟩
     | exact ⟨_, B1, B2, d1, d2, rfl, Lib.hid (((Blk.new _ _ _).set 0 (.slice B1 p.length d1)).set 1 (.slice B2 r.length d2)), Lib.hid ⟨reads_apart (hr4.below (below_new (Below.refl _ _) _)) (Blk.new _ 52 #[.slice none 0 0, .slice none 0 0]) nn_no (eff2 _ _ _ _), reads_apart (hr5.below (below_new (Below.refl _ _) _)) (Blk.new _ 52 #[.slice none 0 0, .slice none 0 0]) nn_no (eff2 _ _ _ _), hd1, hd2⟩, Lib.hid (by repeat (first | with_reducible exact Below.refl _ _ | with_reducible assumption | with_reducible apply below_alloc | with_reducible apply pw_below_drewN | with_reducible apply below_drew1 | (with_reducible refine Below.setCell ?_ (by dsimp only; omega) _)))⟩
   case rest =>
    obtain ⟨f7, B1, B2, d1, d2, rfl, HK7, HRR, HB4⟩ := hcut
    clear hB2 hs2 hlen1 hlen2 HKB HB3
    obtain ⟨ms, hms⟩ : ∃ ms, (decR c (bytesOf s)).1 = ms := ⟨_, rfl⟩
    obtain ⟨E, hE⟩ : ∃ E, (decR c (bytesOf s)).2.1 = E := ⟨_, rfl⟩
    obtain ⟨F, hF⟩ : ∃ F, (decR c (bytesOf s)).2.2 = F := ⟨_, rfl⟩
    have hml : ms.length ≤ 300 := by rw [← hms]; have := decR_len c (bytesOf s); rw [bytesOf_length] at this; omega
    have HRD : Hid (∀ (X Y : Option Addr) (x y : Nat) (a b : List Int) (W : World), ReadsInt W .i64 X a.length a → ReadsInt W .i64 Y b.length b → a.length ≤ 200 → b.length ≤ 200 → Calls Tryz.prog 22 #[.int .i64 c, .string s, .agg #[.slice X a.length x, .slice Y b.length y]] W fun e w' =>
      ∃ (n : Nat) (A : Option Addr) (cc : Nat), e = .returned (.tuple #[.slice A ms.length cc, .agg #[.int .i64 E, .int .i64 F], .int .i64 n]) ∧ ms.length ≤ cc ∧ ReadsInt w' .u32 A ms.length ms ∧ Below W.heap.size W w') := Lib.hid fun X Y x y a b W hr1 hr2 ha hb => by
     have h := pread_all c s (by omega) X Y x y a b W hr1 hr2 (by omega) (by omega)
     rw [hE, hF, hms] at h
     refine h.mono ?_
     rintro e w' ⟨v, rfl, hn, hq, hb⟩
     obtain ⟨A5, c5, rfl, k1, _, k3⟩ := q_slice2 hq
     exact ⟨_, A5, c5, rfl, k1, k3, hb⟩
    clear hms hE hF
    have e50 := HK7.out.cell (i := 0) rfl
    have e51 := HK7.out.cell (i := 1) rfl
    go_upto_region 5 with (go_at_call 22; refine (HRD.out _ _ _ _ _ _ _ HRR.out.1 HRR.out.2.1 hp hr).mono ?_; rintro e w5 ⟨n5, A5, c5, rfl, hc5, hr5, hb5⟩)
    obtain ⟨W5, hW5⟩ : ∃ W, w5.alloc (.cells #[.int .i64 E, .int .i64 F] 27 (0, 0)) = W := ⟨_, rfl⟩
    have k5 : Blk W5 w5.heap.size 27 #[.int .i64 E, .int .i64 F] := by rw [← hW5]; exact Blk.new w5 _ _
    have hd5 : Below wc.heap.size wc W5 := by rw [← hW5]; exact below_new hb5 _
    have HS5 : Hid (ReadsInt W5 .u32 A5 ms.length ms) := Lib.hid (by rw [← hW5]; exact hr5.below (below_new (Below.refl _ _) _))
    have HD5 := Lib.hid (below_next HB4.out hd5)
    have HE5 := Lib.hid hd5
    rw [hW5]
    obtain ⟨f5, hf5⟩ : ∃ g, w5.heap.size = g := ⟨_, rfl⟩
    rw [hf5] at k5 ⊢
    have HK5F := Lib.hid k5
    clear hb5 hW5 hf5 k5 hd5 hr5 e50 e51
    have hk4 := HK5.out.below HD5.out
    have e52 := hk4.cell (i := 2) rfl
    have e53 := hk4.cell (i := 3) rfl
    clear hk4
    go_upto_region 6 with (go_at_call 22; refine (HRD.out _ _ _ _ _ _ _ (HR3.out.below HD5.out) (HR4.out.below HD5.out) hp2 hr2).mono ?_; rintro e w6 ⟨n6, A6, c6, rfl, hc6, hr6, hb6⟩)
    obtain ⟨W6, hW6⟩ : ∃ W, w6.alloc (.cells #[.int .i64 E, .int .i64 F] 27 (0, 0)) = W := ⟨_, rfl⟩
    have k6 : Blk W6 w6.heap.size 27 #[.int .i64 E, .int .i64 F] := by rw [← hW6]; exact Blk.new w6 _ _
    have hd6 : Below W5.heap.size W5 W6 := by rw [← hW6]; exact below_new hb6 _
    have HS6 : Hid (ReadsInt W6 .u32 A6 ms.length ms) := Lib.hid (by rw [← hW6]; exact hr6.below (below_new (Below.refl _ _) _))
    have HD6 := Lib.hid (below_next HD5.out hd6)
    have HE6 := Lib.hid (below_next HE5.out hd6)
    have HK5G := Lib.hid (HK5F.out.below hd6)
    have HT5 := Lib.hid (HS5.out.below hd6)
    rw [hW6]
    obtain ⟨f6, hf6⟩ : ∃ g, w6.heap.size = g := ⟨_, rfl⟩
    rw [hf6] at k6 ⊢
    have HK6F := Lib.hid k6
    clear hb6 hW6 hf6 k6 hd6 hr6 e52 e53 HRD HK5F HS5 HE5 HD5
    have hk6 := HK5.out.below HD6.out
    have a50 := hk6.cell (i := 0) rfl
    have a51 := hk6.cell (i := 1) rfl
    have hk7 := HK7.out.below HE6.out
    have a70 := hk7.cell (i := 0) rfl
    have a71 := hk7.cell (i := 1) rfl
    have HR1' := Lib.hid (HR1.out.below HD6.out)
    have HR2' := Lib.hid (HR2.out.below HD6.out)
    have HQ1' := Lib.hid (HRR.out.1.below HE6.out)
    have HQ2' := Lib.hid (HRR.out.2.1.below HE6.out)
    clear hk6 hk7
    go_upto_block 0 with fail
    go_cut [] (fun wx => Hid (wx = W6))
    case first =>
     go_wp2_with fail
     go_loopg [65] p.length (fun kq sx wx => ∃ i : Nat, sx = .int .i64 i ∧ Hid (kq + i = p.length) ∧ Hid (wx = W6))
     case atStart => exact ⟨0, rfl, Lib.hid (Nat.add_zero _), Lib.hid rfl⟩
     case round =>
      obtain ⟨i, rfl, HI, HW⟩ := hrel
      obtain rfl := HW.out
      by_cases hi : (i : Int) < (p.length : Int)
      ·obtain ⟨ad, hA, hcell⟩ := ReadsInt.at_ HR1'.out (i : Int) (by omega) hi
       obtain ⟨bd, hB, hcell2⟩ := ReadsInt.at_ HQ1'.out (i : Int) (by omega) hi
       rw [Int.toNat_natCast, show rd p (i : Int) = p.getD i 0 by simp [rd]] at hcell hcell2
       obtain ⟨x, hx⟩ : ∃ x, p.getD i 0 = x := ⟨_, rfl⟩
       rw [hx] at hcell hcell2
       have hb1 : (i : Int) + 1 ≤ 1000 := by omega
       subst hA
       subst hB
       clear hx
       go_wp2_with fail
       go_roundg (gk - 1)
       case measure => have := HI.out; omega
       case rel => exact ⟨i + 1, rfl, Lib.hid (by have := HI.out; omega), Lib.hid rfl⟩
      ·go_wp2_with fail
       go_meet
       exact Lib.hid rfl
    case rest =>
     have hw := hcut.out.symm
     subst hw
     go_upto_block 2 with fail
     go_cut [] (fun wx => Hid (wx = W6))
     case first =>
      go_wp2_with fail
      go_loopg [82] r.length (fun kq sx wx => ∃ i : Nat, sx = .int .i64 i ∧ Hid (kq + i = r.length) ∧ Hid (wx = W6))
      case atStart => exact ⟨0, rfl, Lib.hid (Nat.add_zero _), Lib.hid rfl⟩
      case round =>
       obtain ⟨i, rfl, HI, HW⟩ := hrel
       obtain rfl := HW.out
       by_cases hi : (i : Int) < (r.length : Int)
       ·obtain ⟨ad, hA, hcell⟩ := ReadsInt.at_ HR2'.out (i : Int) (by omega) hi
        obtain ⟨bd, hB, hcell2⟩ := ReadsInt.at_ HQ2'.out (i : Int) (by omega) hi
        rw [Int.toNat_natCast, show rd r (i : Int) = r.getD i 0 by simp [rd]] at hcell hcell2
        obtain ⟨x, hx⟩ : ∃ x, r.getD i 0 = x := ⟨_, rfl⟩
        rw [hx] at hcell hcell2
        have hb1 : (i : Int) + 1 ≤ 1000 := by omega
        subst hA
        subst hB
        clear hx
        go_wp2_with fail
        go_roundg (gk - 1)
        case measure => have := HI.out; omega
        case rel => exact ⟨i + 1, rfl, Lib.hid (by have := HI.out; omega), Lib.hid rfl⟩
       ·go_wp2_with fail
        go_meet
        exact Lib.hid rfl
     case rest =>
      have hw := hcut.out
      subst hw
      clear a50 a51 a70 a71
      have b50 := HK5G.out.cell (i := 0) rfl
      have b51 := HK5G.out.cell (i := 1) rfl
      have b60 := HK6F.out.cell (i := 0) rfl
      have b61 := HK6F.out.cell (i := 1) rfl
      have qE := fun W => eql_fail E F W
      have HSA := Lib.hid (same_c ms (by omega) A5 A6 c5 c6 _ HT5.out HS6.out hc5 hc6)
      go_wp2_with (go_at_call 15; refine HSA.out.mono ?_; rintro e w7 ⟨rfl, hb7⟩; have HB7 := Lib.hid (below_next HD6.out hb7); clear hb7)
      go_ret
      exact ⟨rfl, below_next HBW0.out HB7.out⟩
end Go.Proofs.YtmgnndnofbemeaaGreat
