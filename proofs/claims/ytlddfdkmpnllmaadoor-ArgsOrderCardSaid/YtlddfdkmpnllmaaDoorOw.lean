/- pilcrowlaw24.ArgsOrder, walked. -/
import Derived.Test.YtlddfdkmpnllmaaDoorOp
import Derived.Test.YtlddfdkmpnllmaaDoorTh
namespace Go.Proofs.YtlddfdkmpnllmaaDoor
open Go.RowKit Go.Proofs.YtlddfdkmpnllmaaDoorW.PrintWords Go.Proofs.YtlddfdkmpnllmaaDoorW.PrintLast Go.Proofs.YtlddfdkmpnllmaaDoorW.PrintMore
set_option linter.unusedVariables false
set_option linter.unusedSimpArgs false

set_option maxRecDepth 100000 in
set_option maxHeartbeats 1000000 in
theorem order_out (l : List ByteArray) (by_ : Int) (hcase : greatF l = true ∨ greatF l = false ∧ l.length < 2 ∨ greatF l = false ∧ 60 < l.length) (v : Value) (w : World) (hT : Tab w) (hs : SL w v l) :
    Calls Tryd.prog 6 #[v, .int .i64 by_] w fun e w' => e = .returned (.bool true) ∧ Below w.heap.size w w' := by
  have HT := Lib.hid hT
  have HC := Lib.hid hcase
  have HS := Lib.hid hs
  obtain ⟨A, c, rfl, hc, hr⟩ := hs
  clear hr hcase hT
  go_enter Tryd.func6, Tryd.ntmps6
  go_wp2_with fail
  refine (awake_c _ HT.out).mono ?_
  rintro e w5 ⟨rfl, hb5⟩
  have HB5 := Lib.hid hb5
  clear hb5
  go_wp2_with fail
  refine (great_c _ l _ (SL.below HS.out HB5.out)).mono ?_
  rintro e w6 ⟨rfl, hb6⟩
  have HB6 := Lib.hid (below_next HB5.out hb6)
  clear hb6
  rcases HC.out with h | ⟨h, h2⟩ | ⟨h, h2⟩
  all_goals
    rw [h]
    clear h
    go_wp2_with fail
    refine (awake_c _ (Tab.below HT.out HB6.out)).mono ?_
    rintro e w7 ⟨rfl, hb7⟩
    have HB7 := Lib.hid (below_next HB6.out hb7)
    clear hb7
    go_wp2_with fail
    go_ret
    exact ⟨rfl, HB7.out⟩
theorem SL.reads_from {w : World} {ad : Addr} {n c k m : Nat} {l : List ByteArray} (h : SL w (.slice (some ad) n c) l) (hk : k + m ≤ l.length) : ReadsOf Value.string ByteArray.empty w (some (ad.add k)) m ((l.drop k).take m) := by
  obtain ⟨A', c', e, hc, hr⟩ := h
  injection e with e1 e2 e3
  subst e1
  have hR := Kd.reads_of_C (d := ByteArray.empty) hr
  refine ⟨by rw [List.length_take, List.length_drop]; omega, by have := hR.2.1; omega, fun hp => ⟨_, rfl, fun j hj => ?_⟩⟩
  obtain ⟨ad', eA, hcell⟩ := hR.2.2 (by omega)
  injection eA with eA
  subst eA
  have h1 := hcell (k + j) (by omega)
  have e2 : (ad.add k).add j = ad.add (k + j) := by
    unfold Addr.add
    split <;> split <;> split <;> simp_all <;> omega
  rw [e2, h1]
  congr 2
  rw [List.getD_eq_getElem?_getD, List.getD_eq_getElem?_getD, List.getElem?_take_of_lt hj, List.getElem?_drop]
theorem own_one {W : World} {base X : Nat} {s : ByteArray} (h : W.heap[X]? = some (.cells #[.string s] 9 (0, 0))) (hb : base ≤ X) : W.ownsRow base 9 1 (.slice (some ⟨X, 0, none⟩) 1 1) [s].length (encs Value.string [s]) :=
  ⟨by simp [encs], .inr ⟨X, 1, _, rfl, hb, h, Nat.le_refl _, by decide, by simp, by simp [encs]⟩⟩
theorem own_lt_ne {w : World} {base n : Nat} {e : TypeId} {size : Nat} {v : Value} {xs : List Value} (h : w.ownsRow base e size v n xs) : ¬ v.ownBlock = some w.heap.size := fun e' => by
  obtain ⟨cells, hc⟩ := own_typed h _ e'
  have := (Array.getElem?_eq_some_iff.1 hc).1
  omega
theorem own_grown_apart {W w1 : World} {b1 b2 n1 n2 s1 s2 : Nat} {e1 e2 : TypeId} {v u : Value} {xs ys : List Value} (h : W.ownsRow b1 e1 s1 v n1 xs) (h2 : W.ownsRow b2 e2 s2 u n2 ys) (hg : W.grownBy w1 u.ownBlock) (hne : ¬ v.ownBlock = u.ownBlock) : w1.ownsRow b1 e1 s1 v n1 xs :=
  own_move h fun k hk => hg.block k (by obtain ⟨cells, hc⟩ := own_typed h k hk; exact (Array.getElem?_eq_some_iff.1 hc).1) fun e => hne (hk.trans e)
theorem reads_below {W W1 : World} {A : Option Addr} {n : Nat} {l : List ByteArray} (h : ReadsOf Value.string ByteArray.empty W A n l) (hb : Below W.heap.size W W1) : ReadsOf Value.string ByteArray.empty W1 A n l :=
  ⟨h.1, h.2.1, fun hp => by
    obtain ⟨ad, e, hc⟩ := h.2.2 hp
    exact ⟨ad, e, fun j hj => (hb.cell (World.block_lt_of_cell? W _ (hc j hj))).trans (hc j hj)⟩⟩
theorem reads_alloc {W : World} {A : Option Addr} {n : Nat} {l : List ByteArray} (h : ReadsOf Value.string ByteArray.empty W A n l) (o : Obj) : ReadsOf Value.string ByteArray.empty (W.drew.alloc o) A n l :=
  reads_below h (below_alloc (below_drew1 (Below.refl _ _)) o)
set_option maxRecDepth 100000 in
set_option maxHeartbeats 2000000 in
theorem order_two (l : List ByteArray) (by_ : Int) (a : ByteArray) (r : List ByteArray) (hl : l = a :: r) (hg : greatF l = false) (hl0 : 2 ≤ l.length) (hl1 : l.length ≤ 60) (k : Nat) (hk : wrap64 (1 + wrap64 ((IntKind.u64.wrap by_).tmod ((l.length : Int) - 1))) = (k : Int)) (hk1 : 1 ≤ k) (hk2 : k < l.length)
    (c0 c1 c2 c3 c4 : Int) (f s t ok : Bool) (n : Int) (hp : parseF l = (⟨c0, c1, c2, c3, c4, f, s, t⟩, n, ok)) (m : Int) (hq : parseF ([a] ++ l.drop k ++ (l.drop 1).take (k - 1)) = (⟨c0, c1, c2, c3, c4, f, s, t⟩, m, ok))
    (b1 b2 : Bool) (hn1 : (n == (l.length : Int)) = b1) (hm1 : (m == (l.length : Int)) = b1) (hn0 : (n == 0) = b2) (hm0 : (m == 0) = b2) (v : Value) (w : World) (hT : Tab w) (hs : SL w v l) :
    Calls Tryd.prog 6 #[v, .int .i64 by_] w fun e w' => e = .returned (.bool true) ∧ Below w.heap.size w w' := by
  have HT := Lib.hid hT
  have HP := Lib.hid hp
  have HQ := Lib.hid hq
  have HG := Lib.hid hg
  have HS := Lib.hid hs
  have HK := Lib.hid hk
  have HE := Lib.hid hl
  have hz : ∀ s ∈ l, s.size ≤ 140737488351232 := fun s hs => Nat.le_trans (great_size hg s hs) (by decide)
  have HZ := Lib.hid hz
  have HN := Lib.hid (And.intro hn1 (And.intro hm1 (And.intro hn0 hm0)))
  obtain ⟨A, c, rfl, hc, hr⟩ := hs
  clear hr hg hp hq hT hk hl hz hn1 hm1 hn0 hm0
  obtain ⟨g, o, hA, hgl, hcell⟩ : ∃ g o, A = some ⟨g, o, none⟩ ∧ g < w.heap.size ∧ w.cell? ⟨g, o + 0, none⟩ = some (.string (l[0]'(by omega))) := SL.at_ HS.out (by omega)
  subst hA
  have hcell : Hid (w.cell? ⟨g, o, none⟩ = some (.string a)) := by
    have h := HE.out
    subst h
    exact hcell
  have d0 : decide (60 < l.length) = false := decide_eq_false (by omega)
  have d1 : decide (l.length < 2) = false := decide_eq_false (by omega)
  have d2 : decide ((l.length : Int) < 2) = false := decide_eq_false (by omega)
  go_enter Tryd.func6, Tryd.ntmps6
  go_wp2_with fail
  refine (awake_c _ HT.out).mono ?_
  rintro e w5 ⟨rfl, hb5⟩
  have HB5 := Lib.hid hb5
  clear hb5
  go_wp2_with fail
  refine (great_c _ l _ (SL.below HS.out HB5.out)).mono ?_
  rintro e w6 ⟨rfl, hb6⟩
  have HB6 := Lib.hid (below_next HB5.out hb6)
  clear hb6
  rw [HG.out]
  go_upto_region 4 with fail
  rw [HK.out]
  clear d0 d1 d2
  have hl0' : (0 : Int) < (l.length : Int) := by omega
  have hl0n : 0 < l.length := by omega
  have hka : (0 : Int) ≤ (k : Int) := by omega
  have hkb : (k : Int) ≤ (l.length : Int) := by omega
  have hkd : (l.length : Int) ≤ (c : Int) := by omega
  have hke : (k : Int) ≤ (c : Int) := by omega
  have hkc : k ≤ c := by omega
  have hkc2 : ¬ c = k := by omega
  have hc1 : ¬ c = 1 := by omega
  have hk4 : (k : Int) < (l.length : Int) := by omega
  have hk3 : (1 : Int) ≤ (k : Int) := by omega
  have hcl : w6.cell? ⟨g, o, none⟩ = some (.string a) := (HB6.out.cell (p := ⟨g, o, none⟩) hgl).trans hcell.out
  have HS6 := Lib.hid (SL.below HS.out HB6.out)
  have HR4 : Hid (ReadsOf Value.string ByteArray.empty w6 (some ⟨g, o + k, none⟩) (l.length - k) (l.drop k)) := by
    rw [← add_at]
    have h := SL.reads_from (k := k) (m := l.length - k) HS6.out (by omega)
    rwa [List.take_of_length_le (by rw [List.length_drop]; exact Nat.le_refl _)] at h
  go_cut [6] (fun s6 wx => Hid (wx.ownsRow w.heap.size 9 1 s6 ([a] ++ l.drop k).length (encs Value.string ([a] ++ l.drop k))) ∧ Hid (Below w.heap.size w wx))
  case first =>
    have HB6b := HB6.out
    have hsz := HB6.out.size
    go_region_held3 (fun w' => w'.cell? ⟨g, o, none⟩ = some (.string a)) (first | with_reducible assumption | (refine (Below.cell (w := w) (p := ⟨g, o, none⟩) ?_ hgl).trans hcell.out; repeat (first | with_reducible assumption | with_reducible apply below_alloc | with_reducible apply pw_below_drewN | with_reducible apply below_drew1 | apply below_drew1)))
      (first
        | ((refine str_step (w := w) w.heap.size rfl (.tmp 42) (.tmp 45) rfl (.slice (some ⟨w6.heap.size, 0, none⟩) 1 1) [a] (l.drop k) (some ⟨g, o + k, none⟩) (l.length - k) (c - k) (by rfl) (by rfl) (own_one (heap_new _ _) hsz) (reads_below HR4.out (below_drew1 (below_alloc (Below.refl _ _) _))) (below_drew1 (below_alloc HB6b _)) (by (refine Nat.le_trans hsz ?_); simp; done) (by simp only [List.length_singleton]; omega) ?_; intro v7 w7 ho7 hb7 hp7 hg7))
        | fail)
    all_goals (go_wp2_with fail; go_meet)
    exact ⟨ho7, hb7⟩
  case rest =>
    obtain ⟨HO7, HB7⟩ := hcut
    have HR5 : Hid (ReadsOf Value.string ByteArray.empty wc (some ⟨g, o + 1, none⟩) (k - 1) ((l.drop 1).take (k - 1))) := by
      rw [← add_at]
      exact SL.reads_from (k := 1) (m := k - 1) (SL.below HS.out HB7.out) (by omega)
    have hlen : ([a] ++ l.drop k).length = l.length - k + 1 := by rw [List.length_append, List.length_drop, List.length_singleton]; omega
    go_wp2_with (at_builtin; first | (refine print_append_row_of Value.string ByteArray.empty (w0 := w) w.heap.size rfl (.tmp 47) (.tmp 50) 22 9 (.string ⟨#[]⟩) 16 rfl Tryd.underlying22 info_str rfl (by decide) (fun _ => rfl) _ ([a] ++ l.drop k) ((l.drop 1).take (k - 1)) (some ⟨g, o + 1, none⟩) (k - 1) (c - 1) rfl rfl HO7.out HR5.out HB7.out HB7.out.size (by omega) ?_; intro v8 w8 ho8 hb8 hg8 hat8; have HS8 : Hid (SL w8 v8 ([a] ++ l.drop k ++ (l.drop 1).take (k - 1))) := SL.of_R (base := w.heap.size) (ok := fun _ => True) (Kd.R_of_own ho8 (fun _ _ => trivial)); have HB8 := Lib.hid hb8; have HO8 := Lib.hid ho8; clear ho8 hb8 hg8 hat8) | (refine print_append_row_of Value.string ByteArray.empty (w0 := w) w.heap.size rfl (.tmp 53) (.tmp 54) 22 9 (.string ⟨#[]⟩) 16 rfl Tryd.underlying22 info_str rfl (by decide) (fun _ => rfl) (.slice (some ⟨w8.heap.size, 0, none⟩) 0 0) [] l (some ⟨g, o, none⟩) l.length c rfl rfl (own_emptyAt (heap_new _ _) HB8.out.size) (SL.reads (SL.below HS.out (below_new HB8.out _))) (below_new HB8.out _) (below_new HB8.out _).size (by simp only [List.length_nil]; omega) ?_; intro v9 w9 ho9 hb9 hg9 hat9; have HS9 : Hid (SL w9 v9 l) := SL.of_R (base := w.heap.size) (ok := fun _ => True) (Kd.R_of_own ho9 (fun _ _ => trivial)); have HB9 := Lib.hid hb9; have HT9 : Hid (SL w9 v8 ([a] ++ l.drop k ++ (l.drop 1).take (k - 1))) := SL.of_R (base := w.heap.size) (ok := fun _ => True) (Kd.R_of_own (own_grown_apart (own_alloc HO8.out _) (own_emptyAt (heap_new _ _) HB8.out.size) hg9 (by simp [Value.ownBlock]; exact own_lt_ne HO8.out)) (fun _ _ => trivial)); clear ho9 hb9 hg9 hat9))
    have hz2 : ∀ s ∈ [a] ++ l.drop k ++ (l.drop 1).take (k - 1), s.size ≤ 140737488351232 := fun s hs => by
      have ha : a ∈ l := by rw [HE.out]; exact List.mem_cons_self ..
      rcases List.mem_append.1 hs with h | h
      · rcases List.mem_append.1 h with h | h
        · rw [List.mem_singleton.1 h]; exact HZ.out a ha
        · exact HZ.out s (List.mem_of_mem_drop h)
      · exact HZ.out s (List.mem_of_mem_drop (List.mem_of_mem_take h))
    refine (parse_to HS9.out HZ.out HP.out).mono ?_
    rintro e w10 ⟨rfl, hb10⟩
    have HB10 := Lib.hid (below_next HB9.out hb10)
    have HT10 := Lib.hid (SL.below HT9.out hb10)
    have HP10 : Hid (PlanAt (w10.alloc (.cells (Pl.cells ⟨c0, c1, c2, c3, c4, f, s, t⟩) 26 (0, 0))) w10.heap.size ⟨c0, c1, c2, c3, c4, f, s, t⟩) := PlanAt.new w10 _
    clear hb10
    go_wp2_with fail
    refine (parse_to (SL.alloc HT10.out _) hz2 HQ.out).mono ?_
    rintro e w11 ⟨rfl, hb11⟩
    have HB11 := Lib.hid (below_next (below_new HB10.out _) hb11)
    have HP11 : Hid (PlanAt (w11.alloc (.cells (Pl.cells ⟨c0, c1, c2, c3, c4, f, s, t⟩) 26 (0, 0))) w10.heap.size ⟨c0, c1, c2, c3, c4, f, s, t⟩) := PlanAt.alloc (PlanAt.below HP10.out hb11) _
    clear hb11
    obtain ⟨y0, y1, y2, y3, y4, y5, y6, y7⟩ := PlanAt.cells8 HP11.out
    have hlt := PlanAt.lt HP11.out
    have he := eql_self c0 c1 c2 c3 c4 f s t
    simp only [Pl.cells] at y0 y1 y2 y3 y4 y5 y6 y7 hlt
    obtain ⟨n1, n2, n3, n4⟩ := HN.out
    have hbb : ∀ b : Bool, (b == b) = true := fun b => by cases b <;> rfl
    have hok := hbb ok
    have hb1 := hbb b1
    have hb2 := hbb b2
    go_wp2_with fail
    go_ret
    exact ⟨rfl, below_new HB11.out _⟩
theorem order_c (l : List ByteArray) (by_ : Int) (v : Value) (w : World) (hT : Tab w) (hs : SL w v l) :
    Calls Tryd.prog 6 #[v, .int .i64 by_] w fun e w' => e = .returned (.bool true) ∧ Below w.heap.size w w' := by
  by_cases h1 : greatF l = true
  · exact order_out l by_ (.inl h1) v w hT hs
  have h1 : greatF l = false := by simpa using h1
  by_cases h2 : l.length < 2
  · exact order_out l by_ (.inr (.inl ⟨h1, h2⟩)) v w hT hs
  by_cases h3 : 60 < l.length
  · exact order_out l by_ (.inr (.inr ⟨h1, h3⟩)) v w hT hs
  obtain ⟨k, hk, hk1, hk2⟩ := twice_index by_ l.length (by omega) (by omega)
  rcases hl : l with _ | ⟨a, r⟩
  · subst hl; simp at h2
  · have hd1 : l.drop 1 = r := by rw [hl]; rfl
    have hdk : l.drop k = r.drop (k - 1) := by
      obtain ⟨j, rfl⟩ : ∃ j, k = j + 1 := ⟨k - 1, by omega⟩
      rw [hl]; rfl
    have hAB : r.take (k - 1) ++ r.drop (k - 1) = r := List.take_append_drop _ _
    have ho := order_pure a (r.take (k - 1)) (r.drop (k - 1)) (by rw [hAB, ← hl]; omega)
    rw [hAB, ← hl] at ho
    have hq0 : [a] ++ l.drop k ++ (l.drop 1).take (k - 1) = a :: (r.drop (k - 1) ++ r.take (k - 1)) := by rw [hd1, hdk]; simp
    rcases ho with ho | ⟨n, m, e1, e2, e3, e4, e5, e6⟩
    · rcases hp : parseF l with ⟨⟨c0, c1, c2, c3, c4, f, s, t⟩, n, ok⟩
      exact order_two l by_ a r hl h1 (by omega) (by omega) k hk hk1 hk2 c0 c1 c2 c3 c4 f s t ok n hp n (by rw [hq0, ← ho, hp]) _ _ rfl rfl rfl rfl v w hT hs
    · exact order_two l by_ a r hl h1 (by omega) (by omega) k hk hk1 hk2 0 0 0 0 0 false false false false n e1 m (by rw [hq0]; exact e2) false false (by rw [beq_eq_false_iff_ne]; omega) (by rw [beq_eq_false_iff_ne]; omega) (by rw [beq_eq_false_iff_ne]; omega) (by rw [beq_eq_false_iff_ne]; omega) v w hT hs
end Go.Proofs.YtlddfdkmpnllmaaDoor
