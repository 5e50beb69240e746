/- Joined texts: Lp. -/
import Derived.Test.YtmgnndnofbemeaaGreatMCo
import Derived.Test.YtmgnndnofbemeaaGreatMUfk
import Derived.Test.YtmgnndnofbemeaaGreatMUins
import Derived.Deep.RegionHeld3
import Derived.Deep.CutBlock
import Derived.WalkMore
/- pilcrowlaw19.PumpSteps, walked. -/
namespace Go.Proofs.YtmgnndnofbemeaaGreat
open Go.RowKit Go.Proofs.YtmgnndnofbemeaaGreatW.PrintWords
set_option linter.unusedVariables false
set_option linter.unusedSimpArgs false
theorem h_allocP (w : World) (o : Obj) : (w.alloc o).heap = w.heap.push o := rfl
theorem h_drewP (w : World) : w.drew.heap = w.heap := rfl
theorem keepq {A G : Prop} (h : A) (k : A → G) : G := k h
theorem q_emptyAt {W : World} {base X : Nat} (h : W.heap[X]? = some (.cells #[] 48 (0, 0))) (hb : base ≤ X) : QRow W base 48 1 (.slice (some ⟨X, 0, none⟩) 0 0) ([] : List Int).length (nums .u32 []) :=
 ⟨rfl, .inl ⟨rfl, some ⟨X, 0, none⟩, rfl, fun a ha => by injection ha with ha; subst ha; exact ⟨hb, #[], h⟩⟩⟩
theorem grown_under {B : Nat} {w0 W w3 : World} {g : Nat} (h : Below B w0 W) (hB : B ≤ w0.heap.size) (hg : W.grownBy w3 (Value.slice (some ⟨g, 0, none⟩) 0 0).ownBlock) (h0 : B ≤ g) : Below B w0 w3 :=
 Eff.under h (Eff.of_grown hg) (Nat.le_trans hB h.size) (fun k hk => by injection hk with hk; rw [hk]; exact h0)
theorem grown_blkP {W w3 : World} {g f : Nat} {T : TypeId} {cs : Array Value} (h : W.heap[f]? = some (.cells cs T (0, 0))) (hg : W.grownBy w3 (Value.slice (some ⟨g, 0, none⟩) 0 0).ownBlock) (hne : f ≠ g) : Blk w3 f T cs :=
 (hg.block f (Array.getElem?_eq_some_iff.1 h).1 (fun e => by cases e; exact hne rfl)).trans h
theorem blk_at {w w1 : World} {f : Nat} {T : TypeId} {cs : Array Value} (h : w.heap[f]? = some (.cells cs T (0, 0))) (hb : Below w.heap.size w w1) : Blk w1 f T cs := Blk.below h hb
theorem q_at {w w1 : World} {base : Nat} {v : Value} {n : Nat} {xs : List Value} (h : QRow w base 48 1 v n xs) (hb : Below w.heap.size w w1) : QRow w1 base 48 1 v n xs := q_move h fun k hk => hb.block k (q_lt h k hk)
set_option maxRecDepth 100000 in
set_option maxHeartbeats 8000000 in
theorem psteps_c (c : Int) (A0 A1 A2 : Option Addr) (c0 c1 c2 : Nat) (l p r : List Int) (w : World) (h0 : ReadsInt w .u32 A0 l.length l) (h1 : ReadsInt w .i64 A1 p.length p) (h2 : ReadsInt w .i64 A2 r.length r) (hc0 : l.length ≤ c0) (hc1 : p.length ≤ c1) (hc2 : r.length ≤ c2)
  (hf : ∀ n ∈ l, (Lit.int .u32 n).wf = true) (hfp : ∀ n ∈ p, (Lit.int .i64 n).wf = true) (hfr : ∀ n ∈ r, (Lit.int .i64 n).wf = true) (hsz : l.length ≤ 140737488351232) :
  Calls Tryz.prog 6 #[.int .i64 c, .slice A0 l.length c0, .agg #[.slice A1 p.length c1, .slice A2 r.length c2]] w fun e w' => e = .returned (.bool true) ∧ Below w.heap.size w w' := by
 have HF0 : Hid (∀ y ∈ l, 0 ≤ y) := Lib.hid fun y hy => (Go.bounds_u32 (hf y hy)).1
 have HF2 : Hid (∀ y ∈ r, y ≤ 9223372036854775807) := Lib.hid fun y hy => (Go.bounds_i64 (hfr y hy)).2
 have HAW := Lib.hid (fun W => awake19_c W)
 have HGR := Lib.hid (fun W => great_c (3 * (l.length : Int)) A1 A2 p.length r.length c1 c2 W)
 have hm3 : -9223372036854775808 ≤ 3 * (l.length : Int) ∧ 3 * (l.length : Int) ≤ 9223372036854775807 := by omega
 obtain ⟨m3, m4⟩ := hm3
 have hbw := below_new (Below.refl w.heap.size w) (.cells #[.slice A1 p.length c1, .slice A2 r.length c2] 52 (0, 0))
 have hk5 := Blk.new w 52 #[.slice A1 p.length c1, .slice A2 r.length c2]
 obtain ⟨W0, hW0⟩ : ∃ W0, w.alloc (.cells #[.slice A1 p.length c1, .slice A2 r.length c2] 52 (0, 0)) = W0 := ⟨_, rfl⟩
 rw [hW0] at hbw hk5
 have HBW0 := Lib.hid hbw
 have HK5 := Lib.hid hk5
 have HR0 := Lib.hid (h0.below hbw)
 have HR1 := Lib.hid (h1.below hbw)
 have HR2 := Lib.hid (h2.below hbw)
 have HC0 := Lib.hid hc0
 clear h0 h1 h2 hc0 hc1 hc2 hf hfp hfr hbw hk5
 obtain ⟨b5, hb5⟩ : ∃ b, w.heap.size = b := ⟨_, rfl⟩
 go_enter Tryz.func6, Tryz.ntmps6
 go_upto_region 1 with fail
 try rw [hW0]
 clear hW0
 have HB5 := Lib.hid hb5
 rw [hb5] at HK5
 try rw [hb5]
 clear hb5
 obtain ⟨gb, hgb⟩ : ∃ b, decide (3 * (l.length : Int) > 300 ∨ 200 < p.length ∨ 200 < r.length) = b := ⟨_, rfl⟩
 rw [hgb] at HGR
 go_wp2_with fail
 refine (HAW.out _).mono ?_
 rintro e w1 ⟨rfl, hb1⟩
 have hk1 := HK5.out.below hb1
 have c50 := hk1.cell (i := 0) rfl
 have c51 := hk1.cell (i := 1) rfl
 have HB1 := Lib.hid hb1
 clear hb1 hk1
 go_wp2_with fail
 refine (HGR.out _).mono ?_
 rintro e w2 ⟨rfl, hb2⟩
 have HB2 := Lib.hid (below_next HB1.out hb2)
 clear hb2 c50 c51 HB1 HGR
 cases gb with
 | true =>
  clear hgb
  go_wp2_with fail
  refine (HAW.out _).mono ?_
  rintro e w3 ⟨rfl, hb3⟩
  have HB3 := Lib.hid (below_next HB2.out hb3)
  clear hb3
  go_wp2_with fail
  go_ret
  exact ⟨rfl, below_next HBW0.out HB3.out⟩
 | false =>
  have hgs := of_decide_eq_false hgb
  have hl : l.length ≤ 100 := by omega
  have hp : p.length ≤ 200 := by omega
  have hr : r.length ≤ 200 := by omega
  clear hgb hgs m3 m4
  have hln := encR_len c l HF0.out (by omega)
  obtain ⟨bs, hbs⟩ : ∃ bs, (encR c l).1 = bs := ⟨_, rfl⟩
  rw [hbs] at hln
  obtain ⟨ms, hms⟩ : ∃ ms, (decR c (bytesOf (strOf bs))).1 = ms := ⟨_, rfl⟩
  have hmn : ms.length ≤ bs.length := by rw [← hms]; have := decR_len c (bytesOf (strOf bs)); rwa [bytesOf_length, strOf_size] at this
  have HWR : Hid (∀ (v : Value) (base : Nat) (W : World), QRow W base 48 1 v l.length (nums .u32 l) → ReadsInt W .i64 A1 p.length p → ReadsInt W .i64 A2 r.length r → Calls Tryz.prog 21 #[.int .i64 c, v, .agg #[.slice A1 p.length c1, .slice A2 r.length c2]] W fun e w' =>
    ∃ (n : Nat) (E F : Int), e = .returned (.tuple #[.string (strOf bs), .agg #[.int .i64 E, .int .i64 F], .int .i64 n]) ∧ n ≤ max p.length r.length + l.length + bs.length + 1 ∧ Below W.heap.size W w') := Lib.hid fun v base W hq hr1 hr2 => by
   obtain ⟨A3, c3, rfl, k1, _, k3⟩ := q_slice2 hq
   have h := pwrite_all c l HF0.out (by omega) A3 c3 k1 A1 A2 c1 c2 p r W k3 hr1 hr2 (by omega) (by omega) HF2.out
   rw [hbs] at h
   refine h.mono ?_
   rintro e w' ⟨n, rfl, hn, hb⟩
   exact ⟨n, _, _, rfl, hn, hb⟩
  have HRD : Hid (∀ (W : World), ReadsInt W .i64 A1 p.length p → ReadsInt W .i64 A2 r.length r → Calls Tryz.prog 22 #[.int .i64 c, .string (strOf bs), .agg #[.slice A1 p.length c1, .slice A2 r.length c2]] W fun e w' =>
    ∃ (n : Nat) (E F : Int) (A : Option Addr) (c : Nat), e = .returned (.tuple #[.slice A ms.length c, .agg #[.int .i64 E, .int .i64 F], .int .i64 n]) ∧ n ≤ max p.length r.length + bs.length + ms.length + 1 ∧ Below W.heap.size W w') := Lib.hid fun W hr1 hr2 => by
   have h := pread_all c (strOf bs) (by rw [strOf_size]; omega) A1 A2 c1 c2 p r W hr1 hr2 (by omega) (by omega)
   rw [hms, strOf_size] at h
   refine h.mono ?_
   rintro e w' ⟨v, rfl, hn, hq, hb⟩
   obtain ⟨A3, c3, rfl, k1, _, k3⟩ := q_slice2 hq
   exact ⟨_, _, _, A3, c3, rfl, hn, hb⟩
  have hbn : bs.length ≤ 1000 := by omega
  have hsz : (strOf bs).size = bs.length := strOf_size bs
  have HSZ := Lib.hid hsz
  have HMN := Lib.hid hmn
  clear hbs hms hln hsz hmn
  have hlen : (([] : List Int).length + l.length) * 4 ≤ 140737488355328 := by simp only [List.length_nil]; omega
  have hB2 := HB2.out
  have hs2 := hB2.size
  have HKB : Hid (∀ W, Below W0.heap.size W0 W → W.cell? ⟨b5, 0, none⟩ = some (.slice A1 p.length c1) ∧ W.cell? ⟨b5, 1, none⟩ = some (.slice A2 r.length c2)) := Lib.hid fun W hW => ⟨(HK5.out.below hW).cell rfl, (HK5.out.below hW).cell rfl⟩
  go_upto_region 3 with fail
  go_cut [7, 9] (fun s7 s9 wx => ∃ n4 : Nat, s7 = .string (strOf bs) ∧ s9 = .int .i64 n4 ∧ Hid (n4 ≤ max p.length r.length + l.length + bs.length + 1) ∧ Hid (Below W0.heap.size W0 wx))
  case first =>
   go_region_held3 (fun w' => w'.cell? ⟨b5, 0, none⟩ = some (.slice A1 p.length c1) ∧ w'.cell? ⟨b5, 1, none⟩ = some (.slice A2 r.length c2)) (first | with_reducible assumption | (refine HKB.out _ ?_; repeat (first | with_reducible exact Below.refl _ _ | with_reducible assumption | with_reducible apply below_alloc | with_reducible apply pw_below_drewN | with_reducible apply below_drew1 | (with_reducible refine Below.setCell ?_ (by dsimp only; omega) _))))
    (first
     | ((go_at_call 21; refine (HWR.out _ _ _ (q_at hq3 (by repeat (first | with_reducible exact Below.refl _ _ | with_reducible assumption | with_reducible apply below_alloc | with_reducible apply pw_below_drewN | with_reducible apply below_drew1 | (with_reducible refine Below.setCell ?_ (by dsimp only; omega) _)))) (HR1.out.below (by repeat (first | with_reducible exact Below.refl _ _ | with_reducible assumption | with_reducible apply below_alloc | with_reducible apply pw_below_drewN | with_reducible apply below_drew1 | (with_reducible refine Below.setCell ?_ (by dsimp only; omega) _)))) (HR2.out.below (by repeat (first | with_reducible exact Below.refl _ _ | with_reducible assumption | with_reducible apply below_alloc | with_reducible apply pw_below_drewN | with_reducible apply below_drew1 | (with_reducible refine Below.setCell ?_ (by dsimp only; omega) _))))).mono ?_; rintro e w4 ⟨n4, E4, F4, rfl, hn4, hb4⟩; have hB4 : Below W0.heap.size W0 w4 := below_next (by repeat (first | with_reducible exact Below.refl _ _ | with_reducible assumption | with_reducible apply below_alloc | with_reducible apply pw_below_drewN | with_reducible apply below_drew1 | (with_reducible refine Below.setCell ?_ (by dsimp only; omega) _))) hb4; have hs4 := hB4.size; (first | (refine keepq (blk_at x3 (below_next (by repeat (first | with_reducible exact Below.refl _ _ | with_reducible assumption | with_reducible apply below_alloc | with_reducible apply pw_below_drewN | with_reducible apply below_drew1 | (with_reducible refine Below.setCell ?_ (by dsimp only; omega) _))) hb4)) fun x4 => ?_; have y0 := x4.cell (i := 0) rfl; have y1 := x4.cell (i := 1) rfl; have yf := x4.frozen; clear x3 x4) | (refine keepq (A := Blk w4 w3.heap.size 27 #[.int .i64 0, .int .i64 0]) (blk_at (by simp only [h_allocP, h_drewP, Array.getElem?_push, Array.size_push]; (first | (simp; done) | (simp; omega))) hb4) fun x4 => ?_; have y0 := x4.cell (i := 0) rfl; have y1 := x4.cell (i := 1) rfl; have yf := x4.frozen; clear x4) | skip); clear hb4))
     | ((refine q_step w2.heap.size rfl (.tmp 26) (.tmp 27) 22 48 .u32 4 rfl Tryz.underlying22 info_u32 (by decide) (.slice (some ⟨w2.heap.size, 0, none⟩) 0 0) [] l A0 l.length c0 (by rfl) (by rfl) (q_emptyAt (by simp only [h_allocP, h_drewP, Array.getElem?_push, Array.size_push]; (first | (simp; done) | (simp; omega))) (Nat.le_refl _)) (HR0.out.below (by repeat (first | with_reducible exact Below.refl _ _ | with_reducible assumption | with_reducible apply below_alloc | with_reducible apply pw_below_drewN | with_reducible apply below_drew1 | (with_reducible refine Below.setCell ?_ (by dsimp only; omega) _)))) (by first | (simp; done) | (simp; omega)) hlen ?_; intro v1 w3 hq3 hg3 hv3; have hB3 : Below W0.heap.size W0 w3 := grown_under (by repeat (first | with_reducible exact Below.refl _ _ | with_reducible assumption | with_reducible apply below_alloc | with_reducible apply pw_below_drewN | with_reducible apply below_drew1 | (with_reducible refine Below.setCell ?_ (by dsimp only; omega) _))) (Nat.le_refl _) hg3 hs2; have hs3 := hB3.size; (first | (refine keepq (A := Blk w3 (w2.heap.size + 1) 27 #[.int .i64 0, .int .i64 0]) (grown_blkP (by simp only [h_allocP, h_drewP, Array.getElem?_push, Array.size_push]; (first | (simp; done) | (simp; omega))) hg3 (by omega)) fun x3 => ?_) | skip); clear hg3 hv3))
     | ((refine q_step w2.heap.size rfl (.tmp 26) (.tmp 27) 22 48 .u32 4 rfl Tryz.underlying22 info_u32 (by decide) (.slice (some ⟨w2.heap.size + 1, 0, none⟩) 0 0) [] l A0 l.length c0 (by rfl) (by rfl) (q_emptyAt (by simp only [h_allocP, h_drewP, Array.getElem?_push, Array.size_push]; (first | (simp; done) | (simp; omega))) (Nat.le_succ _)) (HR0.out.below (by repeat (first | with_reducible exact Below.refl _ _ | with_reducible assumption | with_reducible apply below_alloc | with_reducible apply pw_below_drewN | with_reducible apply below_drew1 | (with_reducible refine Below.setCell ?_ (by dsimp only; omega) _)))) (by first | (simp; done) | (simp; omega)) hlen ?_; intro v1 w3 hq3 hg3 hv3; have hB3 : Below W0.heap.size W0 w3 := grown_under (by repeat (first | with_reducible exact Below.refl _ _ | with_reducible assumption | with_reducible apply below_alloc | with_reducible apply pw_below_drewN | with_reducible apply below_drew1 | (with_reducible refine Below.setCell ?_ (by dsimp only; omega) _))) (Nat.le_refl _) hg3 (Nat.le_succ_of_le hs2); have hs3 := hB3.size; (first | (refine keepq (A := Blk w3 (w2.heap.size) 27 #[.int .i64 0, .int .i64 0]) (grown_blkP (by simp only [h_allocP, h_drewP, Array.getElem?_push, Array.size_push]; (first | (simp; done) | (simp; omega))) hg3 (by omega)) fun x3 => ?_) | skip); clear hg3 hv3))
     | fail)
   all_goals (go_wp2_with fail; go_meet)
   all_goals exact ⟨n4, rfl, rfl, Lib.hid hn4, Lib.hid (by repeat (first | with_reducible exact Below.refl _ _ | with_reducible assumption | with_reducible apply below_alloc | with_reducible apply pw_below_drewN | with_reducible apply below_drew1 | (with_reducible refine Below.setCell ?_ (by dsimp only; omega) _)))⟩
  case rest =>
   obtain ⟨n4, rfl, rfl, HN4, HB4⟩ := hcut
   clear hB2 hs2 hlen HWR HKB
   have hk4 := HK5.out.below HB4.out
   have e50 := hk4.cell (i := 0) rfl
   have e51 := hk4.cell (i := 1) rfl
   clear hk4
   go_upto_region 5 with (go_at_call 22; refine (HRD.out _ (HR1.out.below HB4.out) (HR2.out.below HB4.out)).mono ?_; rintro e w6 ⟨n6, E6, F6, A6, c6, rfl, hn6, hb6⟩)
   have HB6 := Lib.hid (below_new (below_next HB4.out hb6) (.cells #[.int .i64 E6, .int .i64 F6] 27 (0, 0)))
   have hk6 := HK5.out.below HB6.out
   have a50 := hk6.cell (i := 0) rfl
   have a51 := hk6.cell (i := 1) rfl
   have hs5 : (strOf bs).size ≤ 1000 := by rw [HSZ.out]; exact hbn
   have g1 : (n4 : Int) ≥ 0 := Int.natCast_nonneg _
   have g2 : (n6 : Int) ≥ 0 := Int.natCast_nonneg _
   have g3 : (n4 : Int) ≤ (p.length : Int) + (r.length : Int) + ((strOf bs).size : Int) + 2 + (l.length : Int) := by have h1 := HN4.out; have h2 := HSZ.out; omega
   have g4 : (n6 : Int) ≤ (p.length : Int) + (r.length : Int) + ((strOf bs).size : Int) + 2 + (ms.length : Int) := by have h1 := hn6; have h2 := HSZ.out; omega
   have hm5 : ms.length ≤ 1000 := Nat.le_trans HMN.out hbn
   clear hb6 hn6 HRD HN4 HSZ HMN
   go_wp2_with fail
   go_ret
   exact ⟨rfl, below_next HBW0.out HB6.out⟩
end Go.Proofs.YtmgnndnofbemeaaGreat
