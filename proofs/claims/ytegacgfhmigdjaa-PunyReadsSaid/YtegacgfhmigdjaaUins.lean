/- slices.Insert at []uint32, one number, into a row of one's own. -/
import Derived.Test.YtegacgfhmigdjaaUrow
import Derived.Shelf.Spec.SlicesInsertGrow
namespace Go.Proofs.Ytegacgfhmigdjaa
open Go.RowKit Go.Lib Go.Proofs.YtegacgfhmigdjaaW.PrintWords
set_option linter.unusedVariables false
set_option linter.unusedSimpArgs false

/-- Cells, from o on written over. -/
def ovr (cs : Array Value) (o : Nat) : List Value → Array Value
  | [] => cs
  | v :: r => ovr (cs.setIfInBounds o v) (o + 1) r
theorem ovr_size : ∀ (vs : List Value) (cs : Array Value) (o : Nat), (ovr cs o vs).size = cs.size
  | [], _, _ => rfl
  | v :: r, cs, o => by rw [ovr, ovr_size r]; simp
theorem ovr_list : ∀ (vs : List Value) (cs : Array Value) (o : Nat), o + vs.length ≤ cs.size → (ovr cs o vs).toList = cs.toList.take o ++ vs ++ cs.toList.drop (o + vs.length)
  | [], cs, o, _ => by simp [ovr]
  | v :: r, cs, o, h => by
    simp only [List.length_cons] at h
    rw [ovr, ovr_list r _ _ (by simp; omega)]
    rw [Array.toList_setIfInBounds]
    have ho : o < cs.toList.length := by simp; omega
    rw [List.set_eq_take_append_cons_drop, if_pos ho]
    have hl : (cs.toList.take o).length = o := by rw [List.length_take]; omega
    rw [List.take_append, hl, List.take_of_length_le (by omega : (cs.toList.take o).length ≤ o + 1), List.drop_append, hl, List.drop_eq_nil_of_le (by omega : (cs.toList.take o).length ≤ o + 1 + r.length)]
    have e1 : o + 1 - o = 1 := by omega
    have e2 : o + 1 + r.length - o = r.length + 1 := by omega
    rw [e1, e2]
    simp only [List.take_succ_cons, List.take_zero, List.drop_succ_cons, List.drop_drop, List.nil_append, List.length_cons]
    rw [List.append_assoc (cs.toList.take o), List.singleton_append, show o + 1 + r.length = o + (r.length + 1) by omega]
theorem heap_setCells_same {T : TypeId} {fz : Nat × Nat} (b : Nat) : ∀ (vs : List Value) (o : Nat) (w : World) (cs : Array Value), w.heap[b]? = some (.cells cs T fz) → (w.setCells b o vs).heap[b]? = some (.cells (ovr cs o vs) T fz)
  | [], _, _, _, h => h
  | v :: r, o, w, cs, h => by
    rw [World.setCells, ovr]
    refine heap_setCells_same b r (o + 1) _ _ ?_
    unfold World.setCell
    simp only [Array.getElem?_modify, h, if_pos rfl]
    simp
theorem one_nums {k : IntKind} {xs : List Int} : ∀ v ∈ nums k xs, v.oneCell' = true := by
  intro v hv
  simp only [nums, List.mem_map] at hv
  obtain ⟨q, _, rfl⟩ := hv
  rfl
theorem nums_len (k : IntKind) (xs : List Int) : (nums k xs).length = xs.length := by simp [nums]
set_option maxHeartbeats 4000000 in
set_option maxRecDepth 100000 in
theorem ins_shift (b n c i vb : Nat) (cs : List Value) (x : Value) (cur : Array Value) (w : World) (hi : i < n) (hroom : n + 1 ≤ c) (hc63 : c ≤ 9223372036854775807) (hvb : vb ≠ b) (hcl : cs.length = n) (hcur : w.heap[b]? = some (.cells cur 51 (0, 0))) (hcs : cur.size = c) (htk : cur.toList.take n = cs)
    (hx : w.heap[vb]? = some (.cells #[x] 51 (0, 0))) (h1c : ∀ v ∈ cs, v.oneCell' = true) (h1v : x.oneCell' = true) :
    Calls Try.prog 55 #[.slice (some ⟨b, 0, none⟩) n c, .int .i64 i, .slice (some ⟨vb, 0, none⟩) 1 1] w fun e w' =>
      e = .returned (.slice (some ⟨b, 0, none⟩) (n + 1) c) ∧ w' = (w.drew.setCells b (i + 1) (cs.drop i)).setCells b i [x] := by
  have hcell : ∀ j v, cs[j]? = some v → w.cell? ⟨b, j, none⟩ = some v := fun j v hj => by
    rw [← htk, List.getElem?_take] at hj
    split at hj
    · simp [World.cell?, hcur]
      rw [← Array.getElem?_toList]
      exact hj
    · cases hj
  have hsp : ∀ j, j < n + 1 → (w.cell? ⟨b, j, none⟩).isSome = true := fun j hj => by
    simp [World.cell?, hcur, Array.getElem?_eq_getElem (by omega : j < cur.size)]
  have hfz : ∀ j, w.frozen? ⟨b, j, none⟩ = false := fun j => by simp [World.frozen?, hcur]
  have hvc : w.cell? ⟨vb, 0, none⟩ = some x := by simp [World.cell?, hx]
  have hsa : w.shape? vb = some (51, 1) := by simp [World.shape?, hx]
  have hsb : w.shape? b = some (51, c) := by simp [World.shape?, hcur, hcs]
  have hkB : c ≠ 0 := by omega
  have hfa : w.frozen? ⟨vb, 0, none⟩ = false := by simp [World.frozen?, hx]
  have hfe : w.frozen? ⟨vb, 1, none⟩ = false := by simp [World.frozen?, hx]
  have hsz : (Try.prog.info? 51).map (·.size) = some 1 := by kernel_rfl
  have hzz : ∀ w, (Go.sizeOf 51).run Try.prog w = .ok 1 w := fun w => by
    obtain ⟨i0, hi0, h2⟩ := Option.map_eq_some_iff.1 info_u32
    simp only [Prod.mk.injEq] at h2
    simp [sizeOf, typeInfo, hi0, h2.2.1]
  have hz2 : ¬ ((i : Int) = (n : Int)) := by omega
  have hov : ∀ lb cb, (callFunc 69 #[.slice (some ⟨vb, 0, none⟩) 1 1, .slice (some ⟨b, i + 1, none⟩) lb cb]).run Try.prog w = .ok (.value (.bool false)) w := fun lb cb => by
    rw [run_callFunc_extern Try.func69 (by kernel_rfl) (by kernel_rfl) (by kernel_rfl) (e := Extern.SlicesOverlaps.overlaps #[26, 26] #[4]) (by kernel_rfl),
      Lib.run_overlaps_apart w 26 4 51 Try.underlying26 1 hzz ⟨vb, 0, none⟩ ⟨b, i + 1, none⟩ 1 1 lb cb hvb 51 51 1 c hsa hsb hkB hfa hfe]
    rfl
  have hdl : (cs.drop i).length = n - i := by rw [List.length_drop, hcl]
  have hw1 : IntKind.i64.wrap ((i : Int) + 1) = (i : Int) + 1 := by rw [IntKind.wrap_i64]; omega
  have hb1 : (0 : Int) ≤ (i : Int) + 1 := by omega
  have hin : i ≤ n := by omega
  have htn : ((i : Int) + 1).toNat = i + 1 := by omega
  have hb2 : ¬ (c = i + 1) := by omega
  have hb3 : (i : Int) ≤ (n : Int) + 1 := by omega
  have hb4 : ¬ (c = i) := by omega
  have hcp1 : ∀ ty dc sc, (Builtin.copy_ #[26, 26] ty #[.slice (some ⟨b, i + 1, none⟩) (n - i) dc, .slice (some ⟨b, i, none⟩) (n + 1 - i) sc]).run Try.prog w.drew = .ok (goInt (cs.drop i).length) (w.drew.setCells b (i + 1) (cs.drop i)) := fun ty dc sc =>
    run_copy_cells w.drew _ _ ty 51 b (i + 1) (n - i) dc ⟨b, i, none⟩ (n + 1 - i) sc (cs.drop i) Try.underlying26 hsz (by rw [hdl]; simp only [Nat.min_def]; split <;> omega)
      (fun j v hj => by rw [Addr.add_lit]; exact hcell (i + j) v (by rwa [List.getElem?_drop] at hj))
      (fun j hj => hsp _ (by omega)) (fun j hj => hfz _) (fun v hv => h1c v (List.mem_of_mem_drop hv))
  obtain ⟨W1, hW1⟩ : ∃ W1, W1 = w.drew.setCells b (i + 1) (cs.drop i) := ⟨_, rfl⟩
  have hsp1 : ∀ k, k < n + 1 → (W1.cell? ⟨b, k, none⟩).isSome = true := fun k hk => by
    rw [hW1]
    exact Go.Proofs.isSome_setCells b (cs.drop i) (i + 1) w.drew (fun j hj => hsp (i + 1 + j) (by have h2 : j < n - i := hdl ▸ hj; omega)) _ (hsp k hk)
  have hcp2 : ∀ (W : World), (∀ x, W.cell? x = W1.cell? x) → (∀ x, W.frozen? x = W1.frozen? x) → ∀ ty dc, (Builtin.copy_ #[26, 26] ty #[.slice (some ⟨b, i, none⟩) (n + 1 - i) dc, .slice (some ⟨vb, 0, none⟩) 1 1]).run Try.prog W = .ok (goInt [x].length) (W.setCells b i [x]) := fun W hWc hWf ty dc =>
    run_copy_cells W _ _ ty 51 b i (n + 1 - i) dc ⟨vb, 0, none⟩ 1 1 [x] Try.underlying26 hsz (by simp only [Nat.min_def, List.length_singleton]; split <;> omega)
      (fun j v hj => by
        rw [Addr.add_lit, hWc, hW1, World.cell?_setCells_out b _ _ _ _ (fun h _ => absurd h hvb)]
        cases j with
        | zero => simp at hj; rw [← hj]; exact hvc
        | succ j => simp at hj)
      (fun j hj => by rw [hWc]; exact hsp1 (i + j) (by have h1 : j < 1 := hj; omega)) (fun j hj => by rw [hWf, hW1, World.frozen?_setCells]; exact hfz _) (fun v hv => by simp at hv; rw [hv]; exact h1v)
  rw [← hW1] at hcp1
  clear hcell hsp hfz hcur htk hx hsp1
  have mixed : Try.prog.follows Departure.mixedOrders = true := by kernel_rfl
  go_enter Try.func55, Try.ntmps55
  go_wp2_with (simp only [hov])
  go_region_law_o (refine step_copy_runI rfl _ _ 26 26 rfl _ _ (by simp [Act.eval, Act.put]) (by simp [Act.eval, Act.put]) (hcp1 _ _ _) ?_)
  go_wp2_with (at_builtin; refine wpList_copy_runI _ rfl _ _ 26 26 rfl _ _ rfl rfl (hcp2 _ (fun _ => rfl) (fun _ => rfl) _ _) ?_)
  go_ret
  first | exact ⟨rfl, rfl⟩ | exact ⟨rfl, by rw [hW1]⟩
set_option maxHeartbeats 4000000 in
set_option maxRecDepth 100000 in
theorem ins_grow (b n c i vb : Nat) (cs : List Value) (x : Value) (cur : Array Value) (w : World) (hi : i < n) (hnc : n ≤ c) (hroom : c < n + 1) (hbig : (n + 1) * 4 ≤ 140737488355328) (hvb : vb ≠ b) (hcl : cs.length = n) (hcur : w.heap[b]? = some (.cells cur 51 (0, 0))) (htk : cur.toList.take n = cs)
    (hx : w.heap[vb]? = some (.cells #[x] 51 (0, 0))) (h1c : ∀ v ∈ cs, v.oneCell' = true) (h1v : x.oneCell' = true) :
    Calls Try.prog 55 #[.slice (some ⟨b, 0, none⟩) n c, .int .i64 i, .slice (some ⟨vb, 0, none⟩) 1 1] w fun e w' =>
      ∃ G, n + 1 ≤ G ∧ G ≤ maxLen ∧ e = .returned (.slice (some ⟨w.heap.size, 0, none⟩) (n + 1) G) ∧
      w' = (((w.alloc (.cells ((cs.take i).toArray ++ Builtin.zeroCells (Value.int .u32 0).cells (n + 1 - i) ++ Builtin.zeroCells (Value.int .u32 0).cells (G - (n + 1))) 51)).drew.setCells w.heap.size i [x]).drew).setCells w.heap.size (i + 1) (cs.drop i) := by
  have hcs : ∀ j v, cs[j]? = some v → w.cell? ⟨b, j, none⟩ = some v := fun j v hj => by
    rw [← htk, List.getElem?_take] at hj
    split at hj
    · simp [World.cell?, hcur]
      rw [← Array.getElem?_toList]
      exact hj
    · cases hj
  have hvc : w.cell? ⟨vb, 0, none⟩ = some x := by simp [World.cell?, hx]
  obtain ⟨i0, hi0, hzz⟩ := Option.map_eq_some_iff.1 info_u32
  simp only [Prod.mk.injEq] at hzz
  obtain ⟨hz0, hzs, hzb⟩ := hzz
  have hz2 : ¬ ((i : Int) = (n : Int)) := by omega
  have hz3 : (c : Int) < (n : Int) + 1 := by omega
  have hsz : (Try.prog.info? 51).map (·.size) = some 1 := by kernel_rfl
  have hbw : b < w.heap.size := (Array.getElem?_eq_some_iff.1 hcur).1
  have hvw : vb < w.heap.size := (Array.getElem?_eq_some_iff.1 hx).1
  have hkk : (n : Int) + 1 - (i : Int) = ((n + 1 - i : Nat) : Int) := by omega
  have hik : i + (n + 1 - i) = n + 1 := by omega
  have hold : (Builtin.firstCells i0.size i (.slice (some ⟨b, 0, none⟩) i c)).run Try.prog w.drew = .ok (cs.take i).toArray w.drew := by
    rw [hzs]
    exact run_firstCells_some w.drew 1 i ⟨b, 0, none⟩ i c (cs.take i) (by rw [List.length_take]; omega) (fun j v hj => by
      rw [Addr.add_lit, Nat.zero_add]
      rw [List.getElem?_take] at hj
      split at hj
      · exact hcs j v hj
      · cases hj)
  have hrz : ∀ ty, (Builtin.append_ #[26, 3] ty #[.slice (some ⟨b, 0, none⟩) i c, .int .i64 ((n : Int) + 1 - (i : Int))]).run Try.prog w =
      .ok (.slice (some ⟨w.heap.size, 0, none⟩) (n + 1) (grownCap w (n + 1) c 51)) (w.drew.alloc (.cells ((cs.take i).toArray ++ Builtin.zeroCells (Value.int .u32 0).cells (n + 1 - i) ++ Builtin.zeroCells (Value.int .u32 0).cells (grownCap w (n + 1) c 51 - (n + 1))) 51)) := fun ty => by
    have h := Lib.run_append_grow_zeros w 26 3 ty 51 i0 _ .i64 .i64 Try.underlying26 Try.underlying3 hi0 hz0 (some ⟨b, 0, none⟩) i c (cs.take i) hold (n + 1 - i) (by omega) (by omega) (by omega) (by omega) (by rw [hzb]; omega) (by rw [hzb, hik]; exact growslice_fits hroom hbig)
    rw [hik] at h
    rw [hkk]
    exact h
  obtain ⟨G, hG⟩ : ∃ G, G = grownCap w (n + 1) c 51 := ⟨_, rfl⟩
  rw [← hG] at hrz
  obtain ⟨ROW, hROW⟩ : ∃ ROW : Array Value, ROW = (cs.take i).toArray ++ Builtin.zeroCells (Value.int .u32 0).cells (n + 1 - i) ++ Builtin.zeroCells (Value.int .u32 0).cells (G - (n + 1)) := ⟨_, rfl⟩
  rw [← hROW] at hrz
  have hRl : n + 1 ≤ ROW.size := by
    rw [hROW]
    simp [Builtin.zeroCells, Value.cells]
    omega
  obtain ⟨W1, hW1⟩ : ∃ W1, W1 = w.drew.alloc (.cells ROW 51) := ⟨_, rfl⟩
  rw [← hW1] at hrz
  have hN : ∀ j, j < n + 1 → (W1.cell? ⟨w.heap.size, j, none⟩).isSome = true := fun j hj => by
    rw [hW1, World.cell?_alloc_at (w := w.drew) ROW _ w.heap.size j rfl, Array.getElem?_eq_getElem (by omega)]; rfl
  have hNf : ∀ j, W1.frozen? ⟨w.heap.size, j, none⟩ = false := fun j => by rw [hW1]; exact World.frozen?_alloc_at (w := w.drew) ROW _ w.heap.size j rfl
  have hOb : ∀ j v, w.cell? ⟨b, j, none⟩ = some v → W1.cell? ⟨b, j, none⟩ = some v := fun j v h => by rw [hW1, World.cell?_alloc_past (w := w.drew) _ b j hbw]; exact h
  have hOv : ∀ j v, w.cell? ⟨vb, j, none⟩ = some v → W1.cell? ⟨vb, j, none⟩ = some v := fun j v h => by rw [hW1, World.cell?_alloc_past (w := w.drew) _ vb j hvw]; exact h
  have hcpA : ∀ (W : World), (∀ x, W.cell? x = W1.cell? x) → (∀ x, W.frozen? x = W1.frozen? x) → ∀ ty dc, (Builtin.copy_ #[26, 26] ty #[.slice (some ⟨w.heap.size, i, none⟩) (n + 1 - i) dc, .slice (some ⟨vb, 0, none⟩) 1 1]).run Try.prog W = .ok (goInt [x].length) (W.setCells w.heap.size i [x]) := fun W hWc hWf ty dc =>
    run_copy_cells W _ _ ty 51 w.heap.size i (n + 1 - i) dc ⟨vb, 0, none⟩ 1 1 [x] Try.underlying26 hsz (by simp only [Nat.min_def, List.length_singleton]; split <;> omega)
      (fun j v hj => by
        rw [Addr.add_lit, hWc]
        refine hOv _ v ?_
        cases j with
        | zero => simp at hj; rw [← hj]; exact hvc
        | succ j => simp at hj)
      (fun j hj => by rw [hWc]; exact hN (i + j) (by have h1 : j < 1 := hj; omega)) (fun j hj => by rw [hWf]; exact hNf _) (fun v hv => by simp at hv; rw [hv]; exact h1v)
  have hGn : n + 1 ≤ G := by rw [hG]; exact grownCap_ge w _ _ _
  have hGm : G ≤ maxLen := by
    have := grownCap_le_maxLen w (n + 1) c 51 (by unfold maxLen; omega)
    rwa [← hG] at this
  have hG63 : G ≤ 9223372036854775807 := by
    have := hGm
    unfold maxLen at this
    omega
  have hGi : ¬ (G = i) := by omega
  have hGim : ¬ (G = i + 1) := by omega
  have hci : ¬ (c = i) := by omega
  have hbN : b ≠ w.heap.size := by omega
  have hdl : (cs.drop i).length = n - i := by rw [List.length_drop, hcl]
  have hcpB : ∀ (W : World), (∀ y, W.cell? y = (W1.setCells w.heap.size i [x]).cell? y) → (∀ y, W.frozen? y = (W1.setCells w.heap.size i [x]).frozen? y) → ∀ ty dc sc, (Builtin.copy_ #[26, 26] ty #[.slice (some ⟨w.heap.size, i + 1, none⟩) (n - i) dc, .slice (some ⟨b, i, none⟩) (n - i) sc]).run Try.prog W = .ok (goInt (cs.drop i).length) (W.setCells w.heap.size (i + 1) (cs.drop i)) := fun W hWc hWf ty dc sc =>
    run_copy_cells W _ _ ty 51 w.heap.size (i + 1) (n - i) dc ⟨b, i, none⟩ (n - i) sc (cs.drop i) Try.underlying26 hsz (by rw [hdl]; simp only [Nat.min_def]; split <;> omega)
      (fun j v hj => by
        rw [Addr.add_lit, hWc, World.cell?_setCells_out _ _ _ _ _ (fun h _ => absurd h hbN)]
        exact hOb _ v (hcs (i + j) v (by rwa [List.getElem?_drop] at hj)))
      (fun j hj => by rw [hWc]; exact Go.Proofs.isSome_setCells w.heap.size [x] i W1 (fun t ht => hN (i + t) (by have h1 : t < 1 := ht; omega)) _ (hN (i + 1 + j) (by have h2 : j < n - i := hdl ▸ hj; omega)))
      (fun j hj => by rw [hWf, World.frozen?_setCells]; exact hNf _) (fun v hv => h1c v (List.mem_of_mem_drop hv))
  subst hW1
  have hE1 : ∀ x, ((w.alloc (.cells ROW 51)).drew).cell? x = (w.drew.alloc (.cells ROW 51)).cell? x := fun x => rfl
  have hE2 : ∀ x, ((w.alloc (.cells ROW 51)).drew).frozen? x = (w.drew.alloc (.cells ROW 51)).frozen? x := fun x => rfl
  have hF1 : ∀ y, (((w.alloc (.cells ROW 51)).drew.setCells w.heap.size i [x]).drew).cell? y = ((w.drew.alloc (.cells ROW 51)).setCells w.heap.size i [x]).cell? y := fun y => rfl
  have hF2 : ∀ y, (((w.alloc (.cells ROW 51)).drew.setCells w.heap.size i [x]).drew).frozen? y = ((w.drew.alloc (.cells ROW 51)).setCells w.heap.size i [x]).frozen? y := fun y => rfl
  have hw1 : IntKind.i64.wrap ((i : Int) + 1) = (i : Int) + 1 := by rw [IntKind.wrap_i64]; omega
  have hb1 : (0 : Int) ≤ (i : Int) + 1 := by omega
  have hin : i ≤ n := by omega
  have htn : ((i : Int) + 1).toNat = i + 1 := by omega
  have hb3 : (i : Int) ≤ (n : Int) := by omega
  have HROW := Lib.hid hROW
  have mixed : Try.prog.follows Departure.mixedOrders = true := by kernel_rfl
  clear hkk hik hold hROW hG hRl hcs hcur htk hx hvc
  go_enter Try.func55, Try.ntmps55
  go_wp2_with (first
    | (at_builtin; refine Lib.wpList_append_run _ rfl _ _ _ _ rfl _ _ rfl rfl _ _ (hrz _) ?_)
    | (at_builtin; refine wpList_copy_runI _ rfl _ _ 26 26 rfl _ _ rfl rfl (hcpA _ hE1 hE2 _ _) ?_)
    | (at_builtin; refine wpList_copy_runI _ rfl _ _ 26 26 rfl _ _ rfl rfl (hcpB _ (fun _ => rfl) (fun _ => rfl) _ _ _) ?_))
  go_region_law_o (refine step_copy_runI rfl _ _ 26 26 rfl (.slice (some ⟨w.heap.size, i + 1, none⟩) (n - i) (G - (i + 1))) (.slice (some ⟨b, i, none⟩) (n - i) (c - i)) (by simp [Act.eval, Act.put]) (by simp [Act.eval, Act.put]) (hcpB _ hF1 hF2 3 (G - (i + 1)) (c - i)) ?_)
  go_wp2
  go_ret
  exact ⟨G, hGn, hGm, rfl, by rw [← HROW.out]⟩
theorem below_setCells_u {B g : Nat} (hg : B ≤ g) : ∀ (vs : List Value) (o : Nat) {w0 w : World}, Below B w0 w → Below B w0 (w.setCells g o vs)
  | [], _, _, _, h => h
  | v :: r, o, _, _, h => below_setCells_u hg r (o + 1) (Below.setCell h hg _)
theorem other_setCells (g : Nat) : ∀ (vs : List Value) (o : Nat) (w : World) (k : Nat), k ≠ g → (w.setCells g o vs).heap[k]? = w.heap[k]?
  | [], _, _, _, _ => rfl
  | v :: r, o, w, k, h => by rw [World.setCells, other_setCells g r _ _ k h]; exact Below.heap_setCell w _ _ k h
theorem eff_setCells (w : World) (g o : Nat) (vs : List Value) : Eff w (w.setCells g o vs) (fun k => k = g) :=
  ⟨(below_setCells_u (B := 0) (g := g) (Nat.zero_le _) vs o (Below.refl _ _)).os, (below_setCells_u (B := 0) (g := g) (Nat.zero_le _) vs o (Below.refl _ _)).tape, (below_setCells_u (B := 0) (g := g) (Nat.zero_le _) vs o (Below.refl _ _)).output, (below_setCells_u (B := 0) (g := g) (Nat.zero_le _) vs o (Below.refl _ _)).size, fun k _ h => other_setCells g vs o w k h⟩
/-- The row with x laid in at i. -/
def insL (l : List Int) (i : Nat) (x : Int) : List Int := l.take i ++ x :: l.drop i
theorem insL_len {l : List Int} {i : Nat} (h : i ≤ l.length) (x : Int) : (insL l i x).length = l.length + 1 := by
  simp only [insL, List.length_append, List.length_take, List.length_cons, List.length_drop]; omega
theorem insL_nums (k : IntKind) (l : List Int) (i : Nat) (x : Int) : nums k (insL l i x) = (nums k l).take i ++ Value.int k x :: (nums k l).drop i := by
  simp [nums, insL, List.map_take, List.map_drop]
theorem fin_list (X R : List Value) (v : Value) (n i : Nat) (hX : X.length = n) (hi : i ≤ n) : (X.take i ++ [v] ++ (X.drop i ++ R)).take (n + 1) = X.take i ++ v :: X.drop i := by
  have e : X.take i ++ [v] ++ (X.drop i ++ R) = (X.take i ++ v :: X.drop i) ++ R := by simp
  rw [e]
  exact List.take_left' (by simp only [List.length_append, List.length_take, List.length_cons, List.length_drop]; omega)
theorem room_list (L X : List Value) (v : Value) (n i : Nat) (hL : n + 1 ≤ L.length) (hi : i < n) (hX : L.take n = X) :
    (((L.take (i + 1) ++ X.drop i ++ L.drop (i + 1 + (X.drop i).length)).take i ++ [v] ++ (L.take (i + 1) ++ X.drop i ++ L.drop (i + 1 + (X.drop i).length)).drop (i + [v].length))).take (n + 1) = X.take i ++ v :: X.drop i := by
  have hXl : X.length = n := by rw [← hX, List.length_take]; omega
  have ht : (L.take (i + 1)).length = i + 1 := by rw [List.length_take]; omega
  have e1 : (L.take (i + 1) ++ X.drop i ++ L.drop (i + 1 + (X.drop i).length)).take i = X.take i := by
    rw [List.append_assoc, List.take_append_of_le_length (by rw [ht]; omega), List.take_take, ← hX, List.take_take]
    congr 1
    omega
  have e2 : (L.take (i + 1) ++ X.drop i ++ L.drop (i + 1 + (X.drop i).length)).drop (i + [v].length) = X.drop i ++ L.drop (i + 1 + (X.drop i).length) := by
    rw [List.append_assoc]
    exact List.drop_left' (by rw [ht]; rfl)
  rw [e1, e2]
  exact fin_list X _ v n i hXl (by omega)
theorem grow_list (L X : List Value) (v : Value) (n i : Nat) (hL : n + 1 ≤ L.length) (hi : i < n) (hXl : X.length = n) (hX : L.take i = X.take i) :
    (((L.take i ++ [v] ++ L.drop (i + [v].length)).take (i + 1) ++ X.drop i ++ (L.take i ++ [v] ++ L.drop (i + [v].length)).drop (i + 1 + (X.drop i).length))).take (n + 1) = X.take i ++ v :: X.drop i := by
  have e1 : (L.take i ++ [v] ++ L.drop (i + [v].length)).take (i + 1) = X.take i ++ [v] := by
    rw [hX]
    exact List.take_left' (by simp only [List.length_append, List.length_take, List.length_singleton]; omega)
  rw [e1, List.append_assoc (X.take i ++ [v])]
  exact fin_list X _ v n i hXl (by omega)
set_option maxHeartbeats 1000000 in
set_option maxRecDepth 100000 in
theorem insert_end {w0 w : World} (base : Nat) (l : List Int) (i : Nat) (x : Int) (v : Value) (vb : Nat) (HO : w.ownsRow base 51 1 v l.length (nums .u32 l)) (hin : i = l.length) (hx : w.heap[vb]? = some (.cells #[.int .u32 x] 51 (0, 0))) (hne : v.ownBlock ≠ some vb) (hb : Below base w0 w) (hbase : base ≤ w.heap.size) (hl : (l.length + 1) * 4 ≤ 140737488355328) :
    Calls Try.prog 55 #[v, .int .i64 i, .slice (some ⟨vb, 0, none⟩) 1 1] w fun e w' =>
      ∃ v1, e = .returned v1 ∧ w'.ownsRow base 51 1 v1 (insL l i x).length (nums .u32 (insL l i x)) ∧ Below base w0 w' ∧ Eff w w' (fun k => some k = v.ownBlock) := by
  have hlen : l.length + 1 ≤ 140737488355328 := by omega
  subst hin
  have HR : ReadsInt w .u32 (some ⟨vb, 0, none⟩) 1 [x] := ⟨rfl, by decide, fun _ => ⟨_, rfl, fun k hk => by
    have hk0 : k = 0 := by omega
    subst hk0
    simp [World.cell?, hx, Addr.add]⟩⟩
  have hlc : ∃ A c, v = .slice A l.length c ∧ l.length ≤ c := by
    rcases HO.2 with ⟨rfl, h0⟩ | ⟨g, cap, cur, rfl, _, _, hnc, _⟩
    · exact ⟨none, 0, by rw [h0], by omega⟩
    · exact ⟨_, _, rfl, hnc⟩
  obtain ⟨A, c, rfl, hc⟩ := hlc
  have HO1 := Lib.hid HO
  have HR1 := Lib.hid HR
  have HB1 := Lib.hid hb
  have hn0 : ¬ ((l.length : Int) < 0) := by omega
  clear HO HR hb hx
  have hA : A = none ∨ ∃ ad, A = some ad := by cases A with | none => exact .inl rfl | some a => exact .inr ⟨a, rfl⟩
  rcases hA with rfl | ⟨ad, rfl⟩
  · have h0 : l.length = 0 ∧ c = 0 := by
      rcases HO1.out.2 with ⟨h, h0⟩ | ⟨g, cap, cur, h, _⟩
      · injection h with _ _ h; exact ⟨h0, h⟩
      · cases h
    obtain ⟨h0, rfl⟩ := h0
    obtain rfl : l = [] := List.eq_nil_of_length_eq_zero h0
    have HO2 : Hid (w.ownsRow base 51 1 (.slice none 0 0) ([] : List Int).length (nums .u32 [])) := HO1
    change Calls _ _ #[.slice none 0 0, .int .i64 0, .slice (some ⟨vb, 0, none⟩) 1 1] w _
    clear HO1 hn0 h0
    go_enter Try.func55, Try.ntmps55
    go_wp2_with (at_builtin; refine print_append_row (w0 := w0) base rfl (.tmp 23) (.tmp 24) 26 51 .u32 4 rfl Try.underlying26 info_u32 (by decide) (.slice none 0 0) [] [x] (some ⟨vb, 0, none⟩) 1 1 rfl rfl HO2.out HR1.out HB1.out hbase (by decide) ?_; intro v1 w1 ho1 hb1 hg1 hat1; have HO3 := Lib.hid ho1; have HB2 := Lib.hid hb1; have HG2 := Lib.hid hg1; clear ho1 hb1 hg1 hat1)
    go_ret
    exact ⟨v1, rfl, HO3.out, HB2.out, Eff.of_grown HG2.out |>.mono fun k _ h => h⟩
  · have hi0 : (0 : Int) ≤ (l.length : Int) := by omega
    have hcl : ¬ c < l.length := by omega
    go_enter Try.func55, Try.ntmps55
    go_wp2_with (at_builtin; refine print_append_row (w0 := w0) base rfl (.tmp 23) (.tmp 24) 26 51 .u32 4 rfl Try.underlying26 info_u32 (by decide) _ l [x] (some ⟨vb, 0, none⟩) 1 1 rfl rfl HO1.out HR1.out HB1.out hbase (by omega) ?_; intro v1 w1 ho1 hb1 hg1 hat1; have HO2 := Lib.hid ho1; have HB2 := Lib.hid hb1; have HG2 := Lib.hid hg1; clear ho1 hb1 hg1 hat1)
    all_goals go_ret
    all_goals
      refine ⟨v1, rfl, ?_, HB2.out, Eff.of_grown HG2.out |>.mono fun k _ h => h⟩
      have e : insL l l.length x = l ++ [x] := by unfold insL; rw [List.take_length, List.drop_length]
      rw [e]
      exact HO2.out
set_option maxHeartbeats 1000000 in
set_option maxRecDepth 100000 in
theorem insert_room {w0 w : World} (base : Nat) (l : List Int) (i : Nat) (x : Int) (b c vb : Nat) (cur : Array Value) (hi : i ≤ l.length) (hlt : i < l.length) (hx : w.heap[vb]? = some (.cells #[.int .u32 x] 51 (0, 0))) (hb : Below base w0 w) (hbase : base ≤ w.heap.size) (hl : (l.length + 1) * 4 ≤ 140737488355328)
    (hbb : base ≤ b) (hcur : w.heap[b]? = some (.cells cur 51 (0, 0))) (hnc : l.length ≤ c) (hcm : c ≤ maxLen) (hcs : cur.size = c) (htk : cur.toList.take l.length = nums .u32 l) (hvb : vb ≠ b) (hroom : l.length + 1 ≤ c) :
    Calls Try.prog 55 #[.slice (some ⟨b, 0, none⟩) l.length c, .int .i64 i, .slice (some ⟨vb, 0, none⟩) 1 1] w fun e w' =>
      ∃ v1, e = .returned v1 ∧ w'.ownsRow base 51 1 v1 (insL l i x).length (nums .u32 (insL l i x)) ∧ Below base w0 w' ∧ Eff w w' (fun k => k = b) := by
  have hnl : (nums .u32 l).length = l.length := nums_len _ _
  refine (ins_shift b l.length c i vb (nums .u32 l) (.int .u32 x) cur w hlt hroom (by unfold maxLen at hcm; omega) hvb hnl hcur hcs htk hx one_nums rfl).mono ?_
  rintro e w' ⟨rfl, rfl⟩
  have hc1 : w.drew.heap[b]? = some (.cells cur 51 (0, 0)) := hcur
  have h1 := heap_setCells_same b ((nums .u32 l).drop i) (i + 1) w.drew cur hc1
  have h2 := heap_setCells_same b [Value.int .u32 x] i _ _ h1
  have hdl : ((nums .u32 l).drop i).length = l.length - i := by rw [List.length_drop, hnl]
  refine ⟨_, rfl, ⟨by rw [nums_len, Nat.mul_one], .inr ⟨b, c, _, by rw [insL_len hi], hbb, h2, by rw [insL_len hi]; exact hroom, hcm, by rw [ovr_size, ovr_size, Nat.mul_one]; exact hcs, ?_⟩⟩, below_setCells_u hbb _ _ (below_setCells_u hbb _ _ (below_drew1 hb)), ?_⟩
  · rw [Nat.mul_one, insL_len hi, ovr_list _ _ _ (by rw [ovr_size]; simp; omega), ovr_list _ _ _ (by rw [hdl]; omega), insL_nums]
    exact room_list cur.toList (nums .u32 l) _ l.length i (by simp; omega) hlt htk
  · exact ((Eff.drewN w 1 _).trans (eff_setCells w.drew b _ _) (fun k _ h => h)).trans (eff_setCells _ b _ _) (fun k _ h => h)
set_option maxHeartbeats 1000000 in
set_option maxRecDepth 100000 in
theorem insert_grow {w0 w : World} (base : Nat) (l : List Int) (i : Nat) (x : Int) (b c vb : Nat) (cur : Array Value) (hi : i ≤ l.length) (hlt : i < l.length) (hx : w.heap[vb]? = some (.cells #[.int .u32 x] 51 (0, 0))) (hb : Below base w0 w) (hbase : base ≤ w.heap.size) (hl : (l.length + 1) * 4 ≤ 140737488355328)
    (hbb : base ≤ b) (hcur : w.heap[b]? = some (.cells cur 51 (0, 0))) (hnc : l.length ≤ c) (hcm : c ≤ maxLen) (hcs : cur.size = c) (htk : cur.toList.take l.length = nums .u32 l) (hvb : vb ≠ b) (hroom : ¬ l.length + 1 ≤ c) :
    Calls Try.prog 55 #[.slice (some ⟨b, 0, none⟩) l.length c, .int .i64 i, .slice (some ⟨vb, 0, none⟩) 1 1] w fun e w' =>
      ∃ v1, e = .returned v1 ∧ w'.ownsRow base 51 1 v1 (insL l i x).length (nums .u32 (insL l i x)) ∧ Below base w0 w' ∧ Eff w w' (fun k => k = b) := by
  have hnl : (nums .u32 l).length = l.length := nums_len _ _
  refine (ins_grow b l.length c i vb (nums .u32 l) (.int .u32 x) cur w hlt hnc (by omega) hl hvb hnl hcur htk hx one_nums rfl).mono ?_
  rintro e w' ⟨G, hG1, hG2, rfl, rfl⟩
  obtain ⟨ROW, hROW⟩ : ∃ ROW : Array Value, ROW = ((nums .u32 l).take i).toArray ++ Builtin.zeroCells (Value.int .u32 0).cells (l.length + 1 - i) ++ Builtin.zeroCells (Value.int .u32 0).cells (G - (l.length + 1)) := ⟨_, rfl⟩
  rw [← hROW]
  have hti : ((nums .u32 l).take i).length = i := by rw [List.length_take, hnl]; omega
  have hdl : ((nums .u32 l).drop i).length = l.length - i := by rw [List.length_drop, hnl]
  have hRs : ROW.size = G := by
    rw [hROW]
    simp only [Array.size_append, List.size_toArray, hti, Builtin.zeroCells, Value.cells]
    simp
    omega
  have hRt : ROW.toList.take i = (nums .u32 l).take i := by
    rw [hROW, Array.toList_append, Array.toList_append, List.append_assoc, List.take_append_of_le_length (by simp [hti]), List.toList_toArray, List.take_take, Nat.min_self]
  have hc0 : ((w.alloc (.cells ROW 51)).drew).heap[w.heap.size]? = some (.cells ROW 51 (0, 0)) := heap_alloc_new _ _
  have h1 := heap_setCells_same w.heap.size [Value.int .u32 x] i _ ROW hc0
  have h2 := heap_setCells_same w.heap.size ((nums .u32 l).drop i) (i + 1) (((w.alloc (.cells ROW 51)).drew.setCells w.heap.size i [Value.int .u32 x]).drew) _ h1
  refine ⟨_, rfl, ⟨by rw [nums_len, Nat.mul_one], .inr ⟨w.heap.size, G, _, by rw [insL_len hi], hbase, h2, by rw [insL_len hi]; exact hG1, hG2, by rw [ovr_size, ovr_size, Nat.mul_one]; exact hRs, ?_⟩⟩, below_setCells_u hbase _ _ (below_drew1 (below_setCells_u hbase _ _ (below_drew1 (hb.alloc hbase _)))), ?_⟩
  · rw [Nat.mul_one, insL_len hi, ovr_list _ _ _ (by rw [ovr_size, hdl]; omega), ovr_list _ _ _ (by simp; omega), insL_nums]
    exact grow_list ROW.toList (nums .u32 l) _ l.length i (by simp; omega) hlt hnl hRt
  · have hS : ∀ k, k < w.heap.size → k = w.heap.size → False := fun k h e => by omega
    exact (((((Eff.alloc w _ _).trans (Eff.drewN _ 1 _) (fun _ _ h => h)).trans (eff_setCells _ w.heap.size _ _) (fun k hk h => (hS k hk h).elim)).trans (Eff.drewN _ 1 _) (fun _ _ h => h)).trans (eff_setCells _ w.heap.size _ _) (fun k hk h => (hS k hk h).elim))
/-- slices.Insert(l, i, x), l a row of one's own. -/
theorem insert_c {w0 w : World} (base : Nat) (l : List Int) (i : Nat) (x : Int) (v : Value) (vb : Nat) (HO : w.ownsRow base 51 1 v l.length (nums .u32 l)) (hi : i ≤ l.length) (hx : w.heap[vb]? = some (.cells #[.int .u32 x] 51 (0, 0))) (hne : v.ownBlock ≠ some vb) (hb : Below base w0 w) (hbase : base ≤ w.heap.size) (hl : (l.length + 1) * 4 ≤ 140737488355328) :
    Calls Try.prog 55 #[v, .int .i64 i, .slice (some ⟨vb, 0, none⟩) 1 1] w fun e w' =>
      ∃ v1, e = .returned v1 ∧ w'.ownsRow base 51 1 v1 (insL l i x).length (nums .u32 (insL l i x)) ∧ Below base w0 w' ∧ Eff w w' (fun k => some k = v.ownBlock) := by
  by_cases hin : i = l.length
  · exact insert_end base l i x v vb HO hin hx hne hb hbase hl
  · rcases HO.2 with ⟨rfl, h0⟩ | ⟨b, c, cur, rfl, hbb, hcur, hnc, hcm, hcs, htk⟩
    · omega
    · have hvb : vb ≠ b := fun e => hne (by rw [e]; rfl)
      rw [Nat.mul_one] at hcs htk
      have hS : ∀ w', Eff w w' (fun k => k = b) → Eff w w' (fun k => some k = (Value.slice (some ⟨b, 0, none⟩) l.length c).ownBlock) := fun w' h => h.mono fun k _ e => by rw [e]; rfl
      by_cases hroom : l.length + 1 ≤ c
      · exact (insert_room base l i x b c vb cur hi (by omega) hx hb hbase hl hbb hcur hnc hcm hcs htk hvb hroom).mono fun _ _ ⟨v1, h1, h2, h3, h4⟩ => ⟨v1, h1, h2, h3, hS _ h4⟩
      · exact (insert_grow base l i x b c vb cur hi (by omega) hx hb hbase hl hbb hcur hnc hcm hcs htk hvb hroom).mono fun _ _ ⟨v1, h1, h2, h3, h4⟩ => ⟨v1, h1, h2, h3, hS _ h4⟩
end Go.Proofs.Ytegacgfhmigdjaa
