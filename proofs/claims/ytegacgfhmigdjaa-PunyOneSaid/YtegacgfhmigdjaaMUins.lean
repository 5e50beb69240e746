/- Joined texts: Uins, Udn, Ufd, Ufe, Uen, Url, Urd, Urn, Urr, Ulq. -/
import Derived.Test.YtegacgfhmigdjaaMUstp
import Derived.Shelf.Spec.SlicesInsertGrow
import Derived.Test.YtegacgfhmigdjaaMUpp
import Derived.Deep.DeepCutAuto
import Derived.Outline
import Derived.Deep.RegionHeld3
import Derived.Deep.AppendLies
import Derived.Deep.CutBlock
import Derived.Test.YtegacgfhmigdjaaPPux7
import Derived.Laws.StructEq
/- slices.Insert at []uint32, one number, into a row of one's own. -/
namespace Go.Proofs.Ytegacgfhmigdjaa
open Go.RowKit Go.Lib Go.Proofs.YtegacgfhmigdjaaW.PrintWords
set_option linter.unusedVariables false
set_option linter.unusedSimpArgs false

/-- Cells, from o on written over. -/
def ovr (cs : Array Value) (o : Nat) : List Value → Array Value
  | [] => cs
  | v :: r => ovr (cs.setIfInBounds o v) (o + 1) r
theorem ovr_size : ∀ (vs : List Value) (cs : Array Value) (o : Nat), (ovr cs o vs).size = cs.size
  | [], _, _ => rfl
  | v :: r, cs, o => by rw [ovr, ovr_size r]; simp
theorem ovr_list : ∀ (vs : List Value) (cs : Array Value) (o : Nat), o + vs.length ≤ cs.size → (ovr cs o vs).toList = cs.toList.take o ++ vs ++ cs.toList.drop (o + vs.length)
  | [], cs, o, _ => by simp [ovr]
  | v :: r, cs, o, h => by
    simp only [List.length_cons] at h
    rw [ovr, ovr_list r _ _ (by simp; omega)]
    rw [Array.toList_setIfInBounds]
    have ho : o < cs.toList.length := by simp; omega
    rw [List.set_eq_take_append_cons_drop, if_pos ho]
    have hl : (cs.toList.take o).length = o := by rw [List.length_take]; omega
    rw [List.take_append, hl, List.take_of_length_le (by omega : (cs.toList.take o).length ≤ o + 1), List.drop_append, hl, List.drop_eq_nil_of_le (by omega : (cs.toList.take o).length ≤ o + 1 + r.length)]
    have e1 : o + 1 - o = 1 := by omega
    have e2 : o + 1 + r.length - o = r.length + 1 := by omega
    rw [e1, e2]
    simp only [List.take_succ_cons, List.take_zero, List.drop_succ_cons, List.drop_drop, List.nil_append, List.length_cons]
    rw [List.append_assoc (cs.toList.take o), List.singleton_append, show o + 1 + r.length = o + (r.length + 1) by omega]
theorem heap_setCells_same {T : TypeId} {fz : Nat × Nat} (b : Nat) : ∀ (vs : List Value) (o : Nat) (w : World) (cs : Array Value), w.heap[b]? = some (.cells cs T fz) → (w.setCells b o vs).heap[b]? = some (.cells (ovr cs o vs) T fz)
  | [], _, _, _, h => h
  | v :: r, o, w, cs, h => by
    rw [World.setCells, ovr]
    refine heap_setCells_same b r (o + 1) _ _ ?_
    unfold World.setCell
    simp only [Array.getElem?_modify, h, if_pos rfl]
    simp
theorem one_nums {k : IntKind} {xs : List Int} : ∀ v ∈ nums k xs, v.oneCell' = true := by
  intro v hv
  simp only [nums, List.mem_map] at hv
  obtain ⟨q, _, rfl⟩ := hv
  rfl
theorem nums_len (k : IntKind) (xs : List Int) : (nums k xs).length = xs.length := by simp [nums]
set_option maxHeartbeats 4000000 in
set_option maxRecDepth 100000 in
theorem ins_shift (b n c i vb : Nat) (cs : List Value) (x : Value) (cur : Array Value) (w : World) (hi : i < n) (hroom : n + 1 ≤ c) (hc63 : c ≤ 9223372036854775807) (hvb : vb ≠ b) (hcl : cs.length = n) (hcur : w.heap[b]? = some (.cells cur 51 (0, 0))) (hcs : cur.size = c) (htk : cur.toList.take n = cs)
    (hx : w.heap[vb]? = some (.cells #[x] 51 (0, 0))) (h1c : ∀ v ∈ cs, v.oneCell' = true) (h1v : x.oneCell' = true) :
    Calls Try.prog 55 #[.slice (some ⟨b, 0, none⟩) n c, .int .i64 i, .slice (some ⟨vb, 0, none⟩) 1 1] w fun e w' =>
      e = .returned (.slice (some ⟨b, 0, none⟩) (n + 1) c) ∧ w' = (w.drew.setCells b (i + 1) (cs.drop i)).setCells b i [x] := by
  have hcell : ∀ j v, cs[j]? = some v → w.cell? ⟨b, j, none⟩ = some v := fun j v hj => by
    rw [← htk, List.getElem?_take] at hj
    split at hj
    · simp [World.cell?, hcur]
      rw [← Array.getElem?_toList]
      exact hj
    · cases hj
  have hsp : ∀ j, j < n + 1 → (w.cell? ⟨b, j, none⟩).isSome = true := fun j hj => by
    simp [World.cell?, hcur, Array.getElem?_eq_getElem (by omega : j < cur.size)]
  have hfz : ∀ j, w.frozen? ⟨b, j, none⟩ = false := fun j => by simp [World.frozen?, hcur]
  have hvc : w.cell? ⟨vb, 0, none⟩ = some x := by simp [World.cell?, hx]
  have hsa : w.shape? vb = some (51, 1) := by simp [World.shape?, hx]
  have hsb : w.shape? b = some (51, c) := by simp [World.shape?, hcur, hcs]
  have hkB : c ≠ 0 := by omega
  have hfa : w.frozen? ⟨vb, 0, none⟩ = false := by simp [World.frozen?, hx]
  have hfe : w.frozen? ⟨vb, 1, none⟩ = false := by simp [World.frozen?, hx]
  have hsz : (Try.prog.info? 51).map (·.size) = some 1 := by kernel_rfl
  have hzz : ∀ w, (Go.sizeOf 51).run Try.prog w = .ok 1 w := fun w => by
    obtain ⟨i0, hi0, h2⟩ := Option.map_eq_some_iff.1 info_u32
    simp only [Prod.mk.injEq] at h2
    simp [sizeOf, typeInfo, hi0, h2.2.1]
  have hz2 : ¬ ((i : Int) = (n : Int)) := by omega
  have hov : ∀ lb cb, (callFunc 69 #[.slice (some ⟨vb, 0, none⟩) 1 1, .slice (some ⟨b, i + 1, none⟩) lb cb]).run Try.prog w = .ok (.value (.bool false)) w := fun lb cb => by
    rw [run_callFunc_extern Try.func69 (by kernel_rfl) (by kernel_rfl) (by kernel_rfl) (e := Extern.SlicesOverlaps.overlaps #[26, 26] #[4]) (by kernel_rfl),
      Lib.run_overlaps_apart w 26 4 51 Try.underlying26 1 hzz ⟨vb, 0, none⟩ ⟨b, i + 1, none⟩ 1 1 lb cb hvb 51 51 1 c hsa hsb hkB hfa hfe]
    rfl
  have hdl : (cs.drop i).length = n - i := by rw [List.length_drop, hcl]
  have hw1 : IntKind.i64.wrap ((i : Int) + 1) = (i : Int) + 1 := by rw [IntKind.wrap_i64]; omega
  have hb1 : (0 : Int) ≤ (i : Int) + 1 := by omega
  have hin : i ≤ n := by omega
  have htn : ((i : Int) + 1).toNat = i + 1 := by omega
  have hb2 : ¬ (c = i + 1) := by omega
  have hb3 : (i : Int) ≤ (n : Int) + 1 := by omega
  have hb4 : ¬ (c = i) := by omega
  have hcp1 : ∀ ty dc sc, (Builtin.copy_ #[26, 26] ty #[.slice (some ⟨b, i + 1, none⟩) (n - i) dc, .slice (some ⟨b, i, none⟩) (n + 1 - i) sc]).run Try.prog w.drew = .ok (goInt (cs.drop i).length) (w.drew.setCells b (i + 1) (cs.drop i)) := fun ty dc sc =>
    run_copy_cells w.drew _ _ ty 51 b (i + 1) (n - i) dc ⟨b, i, none⟩ (n + 1 - i) sc (cs.drop i) Try.underlying26 hsz (by rw [hdl]; simp only [Nat.min_def]; split <;> omega)
      (fun j v hj => by rw [Addr.add_lit]; exact hcell (i + j) v (by rwa [List.getElem?_drop] at hj))
      (fun j hj => hsp _ (by omega)) (fun j hj => hfz _) (fun v hv => h1c v (List.mem_of_mem_drop hv))
  obtain ⟨W1, hW1⟩ : ∃ W1, W1 = w.drew.setCells b (i + 1) (cs.drop i) := ⟨_, rfl⟩
  have hsp1 : ∀ k, k < n + 1 → (W1.cell? ⟨b, k, none⟩).isSome = true := fun k hk => by
    rw [hW1]
    exact Go.Proofs.isSome_setCells b (cs.drop i) (i + 1) w.drew (fun j hj => hsp (i + 1 + j) (by have h2 : j < n - i := hdl ▸ hj; omega)) _ (hsp k hk)
  have hcp2 : ∀ (W : World), (∀ x, W.cell? x = W1.cell? x) → (∀ x, W.frozen? x = W1.frozen? x) → ∀ ty dc, (Builtin.copy_ #[26, 26] ty #[.slice (some ⟨b, i, none⟩) (n + 1 - i) dc, .slice (some ⟨vb, 0, none⟩) 1 1]).run Try.prog W = .ok (goInt [x].length) (W.setCells b i [x]) := fun W hWc hWf ty dc =>
    run_copy_cells W _ _ ty 51 b i (n + 1 - i) dc ⟨vb, 0, none⟩ 1 1 [x] Try.underlying26 hsz (by simp only [Nat.min_def, List.length_singleton]; split <;> omega)
      (fun j v hj => by
        rw [Addr.add_lit, hWc, hW1, World.cell?_setCells_out b _ _ _ _ (fun h _ => absurd h hvb)]
        cases j with
        | zero => simp at hj; rw [← hj]; exact hvc
        | succ j => simp at hj)
      (fun j hj => by rw [hWc]; exact hsp1 (i + j) (by have h1 : j < 1 := hj; omega)) (fun j hj => by rw [hWf, hW1, World.frozen?_setCells]; exact hfz _) (fun v hv => by simp at hv; rw [hv]; exact h1v)
  rw [← hW1] at hcp1
  clear hcell hsp hfz hcur htk hx hsp1
  have mixed : Try.prog.follows Departure.mixedOrders = true := by kernel_rfl
  go_enter Try.func55, Try.ntmps55
  go_wp2_with (simp only [hov])
  go_region_law_o (refine step_copy_runI rfl _ _ 26 26 rfl _ _ (by simp [Act.eval, Act.put]) (by simp [Act.eval, Act.put]) (hcp1 _ _ _) ?_)
  go_wp2_with (at_builtin; refine wpList_copy_runI _ rfl _ _ 26 26 rfl _ _ rfl rfl (hcp2 _ (fun _ => rfl) (fun _ => rfl) _ _) ?_)
  go_ret
  first | exact ⟨rfl, rfl⟩ | exact ⟨rfl, by rw [hW1]⟩
set_option maxHeartbeats 4000000 in
set_option maxRecDepth 100000 in
theorem ins_grow (b n c i vb : Nat) (cs : List Value) (x : Value) (cur : Array Value) (w : World) (hi : i < n) (hnc : n ≤ c) (hroom : c < n + 1) (hbig : (n + 1) * 4 ≤ 140737488355328) (hvb : vb ≠ b) (hcl : cs.length = n) (hcur : w.heap[b]? = some (.cells cur 51 (0, 0))) (htk : cur.toList.take n = cs)
    (hx : w.heap[vb]? = some (.cells #[x] 51 (0, 0))) (h1c : ∀ v ∈ cs, v.oneCell' = true) (h1v : x.oneCell' = true) :
    Calls Try.prog 55 #[.slice (some ⟨b, 0, none⟩) n c, .int .i64 i, .slice (some ⟨vb, 0, none⟩) 1 1] w fun e w' =>
      ∃ G, n + 1 ≤ G ∧ G ≤ maxLen ∧ e = .returned (.slice (some ⟨w.heap.size, 0, none⟩) (n + 1) G) ∧
      w' = (((w.alloc (.cells ((cs.take i).toArray ++ Builtin.zeroCells (Value.int .u32 0).cells (n + 1 - i) ++ Builtin.zeroCells (Value.int .u32 0).cells (G - (n + 1))) 51)).drew.setCells w.heap.size i [x]).drew).setCells w.heap.size (i + 1) (cs.drop i) := by
  have hcs : ∀ j v, cs[j]? = some v → w.cell? ⟨b, j, none⟩ = some v := fun j v hj => by
    rw [← htk, List.getElem?_take] at hj
    split at hj
    · simp [World.cell?, hcur]
      rw [← Array.getElem?_toList]
      exact hj
    · cases hj
  have hvc : w.cell? ⟨vb, 0, none⟩ = some x := by simp [World.cell?, hx]
  obtain ⟨i0, hi0, hzz⟩ := Option.map_eq_some_iff.1 info_u32
  simp only [Prod.mk.injEq] at hzz
  obtain ⟨hz0, hzs, hzb⟩ := hzz
  have hz2 : ¬ ((i : Int) = (n : Int)) := by omega
  have hz3 : (c : Int) < (n : Int) + 1 := by omega
  have hsz : (Try.prog.info? 51).map (·.size) = some 1 := by kernel_rfl
  have hbw : b < w.heap.size := (Array.getElem?_eq_some_iff.1 hcur).1
  have hvw : vb < w.heap.size := (Array.getElem?_eq_some_iff.1 hx).1
  have hkk : (n : Int) + 1 - (i : Int) = ((n + 1 - i : Nat) : Int) := by omega
  have hik : i + (n + 1 - i) = n + 1 := by omega
  have hold : (Builtin.firstCells i0.size i (.slice (some ⟨b, 0, none⟩) i c)).run Try.prog w.drew = .ok (cs.take i).toArray w.drew := by
    rw [hzs]
    exact run_firstCells_some w.drew 1 i ⟨b, 0, none⟩ i c (cs.take i) (by rw [List.length_take]; omega) (fun j v hj => by
      rw [Addr.add_lit, Nat.zero_add]
      rw [List.getElem?_take] at hj
      split at hj
      · exact hcs j v hj
      · cases hj)
  have hrz : ∀ ty, (Builtin.append_ #[26, 3] ty #[.slice (some ⟨b, 0, none⟩) i c, .int .i64 ((n : Int) + 1 - (i : Int))]).run Try.prog w =
      .ok (.slice (some ⟨w.heap.size, 0, none⟩) (n + 1) (grownCap w (n + 1) c 51)) (w.drew.alloc (.cells ((cs.take i).toArray ++ Builtin.zeroCells (Value.int .u32 0).cells (n + 1 - i) ++ Builtin.zeroCells (Value.int .u32 0).cells (grownCap w (n + 1) c 51 - (n + 1))) 51)) := fun ty => by
    have h := Lib.run_append_grow_zeros w 26 3 ty 51 i0 _ .i64 .i64 Try.underlying26 Try.underlying3 hi0 hz0 (some ⟨b, 0, none⟩) i c (cs.take i) hold (n + 1 - i) (by omega) (by omega) (by omega) (by omega) (by rw [hzb]; omega) (by rw [hzb, hik]; exact growslice_fits hroom hbig)
    rw [hik] at h
    rw [hkk]
    exact h
  obtain ⟨G, hG⟩ : ∃ G, G = grownCap w (n + 1) c 51 := ⟨_, rfl⟩
  rw [← hG] at hrz
  obtain ⟨ROW, hROW⟩ : ∃ ROW : Array Value, ROW = (cs.take i).toArray ++ Builtin.zeroCells (Value.int .u32 0).cells (n + 1 - i) ++ Builtin.zeroCells (Value.int .u32 0).cells (G - (n + 1)) := ⟨_, rfl⟩
  rw [← hROW] at hrz
  have hRl : n + 1 ≤ ROW.size := by
    rw [hROW]
    simp [Builtin.zeroCells, Value.cells]
    omega
  obtain ⟨W1, hW1⟩ : ∃ W1, W1 = w.drew.alloc (.cells ROW 51) := ⟨_, rfl⟩
  rw [← hW1] at hrz
  have hN : ∀ j, j < n + 1 → (W1.cell? ⟨w.heap.size, j, none⟩).isSome = true := fun j hj => by
    rw [hW1, World.cell?_alloc_at (w := w.drew) ROW _ w.heap.size j rfl, Array.getElem?_eq_getElem (by omega)]; rfl
  have hNf : ∀ j, W1.frozen? ⟨w.heap.size, j, none⟩ = false := fun j => by rw [hW1]; exact World.frozen?_alloc_at (w := w.drew) ROW _ w.heap.size j rfl
  have hOb : ∀ j v, w.cell? ⟨b, j, none⟩ = some v → W1.cell? ⟨b, j, none⟩ = some v := fun j v h => by rw [hW1, World.cell?_alloc_past (w := w.drew) _ b j hbw]; exact h
  have hOv : ∀ j v, w.cell? ⟨vb, j, none⟩ = some v → W1.cell? ⟨vb, j, none⟩ = some v := fun j v h => by rw [hW1, World.cell?_alloc_past (w := w.drew) _ vb j hvw]; exact h
  have hcpA : ∀ (W : World), (∀ x, W.cell? x = W1.cell? x) → (∀ x, W.frozen? x = W1.frozen? x) → ∀ ty dc, (Builtin.copy_ #[26, 26] ty #[.slice (some ⟨w.heap.size, i, none⟩) (n + 1 - i) dc, .slice (some ⟨vb, 0, none⟩) 1 1]).run Try.prog W = .ok (goInt [x].length) (W.setCells w.heap.size i [x]) := fun W hWc hWf ty dc =>
    run_copy_cells W _ _ ty 51 w.heap.size i (n + 1 - i) dc ⟨vb, 0, none⟩ 1 1 [x] Try.underlying26 hsz (by simp only [Nat.min_def, List.length_singleton]; split <;> omega)
      (fun j v hj => by
        rw [Addr.add_lit, hWc]
        refine hOv _ v ?_
        cases j with
        | zero => simp at hj; rw [← hj]; exact hvc
        | succ j => simp at hj)
      (fun j hj => by rw [hWc]; exact hN (i + j) (by have h1 : j < 1 := hj; omega)) (fun j hj => by rw [hWf]; exact hNf _) (fun v hv => by simp at hv; rw [hv]; exact h1v)
  have hGn : n + 1 ≤ G := by rw [hG]; exact grownCap_ge w _ _ _
  have hGm : G ≤ maxLen := by
    have := grownCap_le_maxLen w (n + 1) c 51 (by unfold maxLen; omega)
    rwa [← hG] at this
  have hG63 : G ≤ 9223372036854775807 := by
    have := hGm
    unfold maxLen at this
    omega
  have hGi : ¬ (G = i) := by omega
  have hGim : ¬ (G = i + 1) := by omega
  have hci : ¬ (c = i) := by omega
  have hbN : b ≠ w.heap.size := by omega
  have hdl : (cs.drop i).length = n - i := by rw [List.length_drop, hcl]
  have hcpB : ∀ (W : World), (∀ y, W.cell? y = (W1.setCells w.heap.size i [x]).cell? y) → (∀ y, W.frozen? y = (W1.setCells w.heap.size i [x]).frozen? y) → ∀ ty dc sc, (Builtin.copy_ #[26, 26] ty #[.slice (some ⟨w.heap.size, i + 1, none⟩) (n - i) dc, .slice (some ⟨b, i, none⟩) (n - i) sc]).run Try.prog W = .ok (goInt (cs.drop i).length) (W.setCells w.heap.size (i + 1) (cs.drop i)) := fun W hWc hWf ty dc sc =>
    run_copy_cells W _ _ ty 51 w.heap.size (i + 1) (n - i) dc ⟨b, i, none⟩ (n - i) sc (cs.drop i) Try.underlying26 hsz (by rw [hdl]; simp only [Nat.min_def]; split <;> omega)
      (fun j v hj => by
        rw [Addr.add_lit, hWc, World.cell?_setCells_out _ _ _ _ _ (fun h _ => absurd h hbN)]
        exact hOb _ v (hcs (i + j) v (by rwa [List.getElem?_drop] at hj)))
      (fun j hj => by rw [hWc]; exact Go.Proofs.isSome_setCells w.heap.size [x] i W1 (fun t ht => hN (i + t) (by have h1 : t < 1 := ht; omega)) _ (hN (i + 1 + j) (by have h2 : j < n - i := hdl ▸ hj; omega)))
      (fun j hj => by rw [hWf, World.frozen?_setCells]; exact hNf _) (fun v hv => h1c v (List.mem_of_mem_drop hv))
  subst hW1
  have hE1 : ∀ x, ((w.alloc (.cells ROW 51)).drew).cell? x = (w.drew.alloc (.cells ROW 51)).cell? x := fun x => rfl
  have hE2 : ∀ x, ((w.alloc (.cells ROW 51)).drew).frozen? x = (w.drew.alloc (.cells ROW 51)).frozen? x := fun x => rfl
  have hF1 : ∀ y, (((w.alloc (.cells ROW 51)).drew.setCells w.heap.size i [x]).drew).cell? y = ((w.drew.alloc (.cells ROW 51)).setCells w.heap.size i [x]).cell? y := fun y => rfl
  have hF2 : ∀ y, (((w.alloc (.cells ROW 51)).drew.setCells w.heap.size i [x]).drew).frozen? y = ((w.drew.alloc (.cells ROW 51)).setCells w.heap.size i [x]).frozen? y := fun y => rfl
  have hw1 : IntKind.i64.wrap ((i : Int) + 1) = (i : Int) + 1 := by rw [IntKind.wrap_i64]; omega
  have hb1 : (0 : Int) ≤ (i : Int) + 1 := by omega
  have hin : i ≤ n := by omega
  have htn : ((i : Int) + 1).toNat = i + 1 := by omega
  have hb3 : (i : Int) ≤ (n : Int) := by omega
  have HROW := Lib.hid hROW
  have mixed : Try.prog.follows Departure.mixedOrders = true := by kernel_rfl
  clear hkk hik hold hROW hG hRl hcs hcur htk hx hvc
  go_enter Try.func55, Try.ntmps55
  go_wp2_with (first
    | (at_builtin; refine Lib.wpList_append_run _ rfl _ _ _ _ rfl _ _ rfl rfl _ _ (hrz _) ?_)
    | (at_builtin; refine wpList_copy_runI _ rfl _ _ 26 26 rfl _ _ rfl rfl (hcpA _ hE1 hE2 _ _) ?_)
    | (at_builtin; refine wpList_copy_runI _ rfl _ _ 26 26 rfl _ _ rfl rfl (hcpB _ (fun _ => rfl) (fun _ => rfl) _ _ _) ?_))
  go_region_law_o (refine step_copy_runI rfl _ _ 26 26 rfl (.slice (some ⟨w.heap.size, i + 1, none⟩) (n - i) (G - (i + 1))) (.slice (some ⟨b, i, none⟩) (n - i) (c - i)) (by simp [Act.eval, Act.put]) (by simp [Act.eval, Act.put]) (hcpB _ hF1 hF2 3 (G - (i + 1)) (c - i)) ?_)
  go_wp2
  go_ret
  exact ⟨G, hGn, hGm, rfl, by rw [← HROW.out]⟩
theorem below_setCells_u {B g : Nat} (hg : B ≤ g) : ∀ (vs : List Value) (o : Nat) {w0 w : World}, Below B w0 w → Below B w0 (w.setCells g o vs)
  | [], _, _, _, h => h
  | v :: r, o, _, _, h => below_setCells_u hg r (o + 1) (Below.setCell h hg _)
theorem other_setCells (g : Nat) : ∀ (vs : List Value) (o : Nat) (w : World) (k : Nat), k ≠ g → (w.setCells g o vs).heap[k]? = w.heap[k]?
  | [], _, _, _, _ => rfl
  | v :: r, o, w, k, h => by rw [World.setCells, other_setCells g r _ _ k h]; exact Below.heap_setCell w _ _ k h
theorem eff_setCells (w : World) (g o : Nat) (vs : List Value) : Eff w (w.setCells g o vs) (fun k => k = g) :=
  ⟨(below_setCells_u (B := 0) (g := g) (Nat.zero_le _) vs o (Below.refl _ _)).os, (below_setCells_u (B := 0) (g := g) (Nat.zero_le _) vs o (Below.refl _ _)).tape, (below_setCells_u (B := 0) (g := g) (Nat.zero_le _) vs o (Below.refl _ _)).output, (below_setCells_u (B := 0) (g := g) (Nat.zero_le _) vs o (Below.refl _ _)).size, fun k _ h => other_setCells g vs o w k h⟩
/-- The row with x laid in at i. -/
def insL (l : List Int) (i : Nat) (x : Int) : List Int := l.take i ++ x :: l.drop i
theorem insL_len {l : List Int} {i : Nat} (h : i ≤ l.length) (x : Int) : (insL l i x).length = l.length + 1 := by
  simp only [insL, List.length_append, List.length_take, List.length_cons, List.length_drop]; omega
theorem insL_nums (k : IntKind) (l : List Int) (i : Nat) (x : Int) : nums k (insL l i x) = (nums k l).take i ++ Value.int k x :: (nums k l).drop i := by
  simp [nums, insL, List.map_take, List.map_drop]
theorem fin_list (X R : List Value) (v : Value) (n i : Nat) (hX : X.length = n) (hi : i ≤ n) : (X.take i ++ [v] ++ (X.drop i ++ R)).take (n + 1) = X.take i ++ v :: X.drop i := by
  have e : X.take i ++ [v] ++ (X.drop i ++ R) = (X.take i ++ v :: X.drop i) ++ R := by simp
  rw [e]
  exact List.take_left' (by simp only [List.length_append, List.length_take, List.length_cons, List.length_drop]; omega)
theorem room_list (L X : List Value) (v : Value) (n i : Nat) (hL : n + 1 ≤ L.length) (hi : i < n) (hX : L.take n = X) :
    (((L.take (i + 1) ++ X.drop i ++ L.drop (i + 1 + (X.drop i).length)).take i ++ [v] ++ (L.take (i + 1) ++ X.drop i ++ L.drop (i + 1 + (X.drop i).length)).drop (i + [v].length))).take (n + 1) = X.take i ++ v :: X.drop i := by
  have hXl : X.length = n := by rw [← hX, List.length_take]; omega
  have ht : (L.take (i + 1)).length = i + 1 := by rw [List.length_take]; omega
  have e1 : (L.take (i + 1) ++ X.drop i ++ L.drop (i + 1 + (X.drop i).length)).take i = X.take i := by
    rw [List.append_assoc, List.take_append_of_le_length (by rw [ht]; omega), List.take_take, ← hX, List.take_take]
    congr 1
    omega
  have e2 : (L.take (i + 1) ++ X.drop i ++ L.drop (i + 1 + (X.drop i).length)).drop (i + [v].length) = X.drop i ++ L.drop (i + 1 + (X.drop i).length) := by
    rw [List.append_assoc]
    exact List.drop_left' (by rw [ht]; rfl)
  rw [e1, e2]
  exact fin_list X _ v n i hXl (by omega)
theorem grow_list (L X : List Value) (v : Value) (n i : Nat) (hL : n + 1 ≤ L.length) (hi : i < n) (hXl : X.length = n) (hX : L.take i = X.take i) :
    (((L.take i ++ [v] ++ L.drop (i + [v].length)).take (i + 1) ++ X.drop i ++ (L.take i ++ [v] ++ L.drop (i + [v].length)).drop (i + 1 + (X.drop i).length))).take (n + 1) = X.take i ++ v :: X.drop i := by
  have e1 : (L.take i ++ [v] ++ L.drop (i + [v].length)).take (i + 1) = X.take i ++ [v] := by
    rw [hX]
    exact List.take_left' (by simp only [List.length_append, List.length_take, List.length_singleton]; omega)
  rw [e1, List.append_assoc (X.take i ++ [v])]
  exact fin_list X _ v n i hXl (by omega)
set_option maxHeartbeats 1000000 in
set_option maxRecDepth 100000 in
theorem insert_end {w0 w : World} (base : Nat) (l : List Int) (i : Nat) (x : Int) (v : Value) (vb : Nat) (HO : w.ownsRow base 51 1 v l.length (nums .u32 l)) (hin : i = l.length) (hx : w.heap[vb]? = some (.cells #[.int .u32 x] 51 (0, 0))) (hne : v.ownBlock ≠ some vb) (hb : Below base w0 w) (hbase : base ≤ w.heap.size) (hl : (l.length + 1) * 4 ≤ 140737488355328) :
    Calls Try.prog 55 #[v, .int .i64 i, .slice (some ⟨vb, 0, none⟩) 1 1] w fun e w' =>
      ∃ v1, e = .returned v1 ∧ w'.ownsRow base 51 1 v1 (insL l i x).length (nums .u32 (insL l i x)) ∧ Below base w0 w' ∧ Eff w w' (fun k => some k = v.ownBlock) := by
  have hlen : l.length + 1 ≤ 140737488355328 := by omega
  subst hin
  have HR : ReadsInt w .u32 (some ⟨vb, 0, none⟩) 1 [x] := ⟨rfl, by decide, fun _ => ⟨_, rfl, fun k hk => by
    have hk0 : k = 0 := by omega
    subst hk0
    simp [World.cell?, hx, Addr.add]⟩⟩
  have hlc : ∃ A c, v = .slice A l.length c ∧ l.length ≤ c := by
    rcases HO.2 with ⟨rfl, h0⟩ | ⟨g, cap, cur, rfl, _, _, hnc, _⟩
    · exact ⟨none, 0, by rw [h0], by omega⟩
    · exact ⟨_, _, rfl, hnc⟩
  obtain ⟨A, c, rfl, hc⟩ := hlc
  have HO1 := Lib.hid HO
  have HR1 := Lib.hid HR
  have HB1 := Lib.hid hb
  have hn0 : ¬ ((l.length : Int) < 0) := by omega
  clear HO HR hb hx
  have hA : A = none ∨ ∃ ad, A = some ad := by cases A with | none => exact .inl rfl | some a => exact .inr ⟨a, rfl⟩
  rcases hA with rfl | ⟨ad, rfl⟩
  · have h0 : l.length = 0 ∧ c = 0 := by
      rcases HO1.out.2 with ⟨h, h0⟩ | ⟨g, cap, cur, h, _⟩
      · injection h with _ _ h; exact ⟨h0, h⟩
      · cases h
    obtain ⟨h0, rfl⟩ := h0
    obtain rfl : l = [] := List.eq_nil_of_length_eq_zero h0
    have HO2 : Hid (w.ownsRow base 51 1 (.slice none 0 0) ([] : List Int).length (nums .u32 [])) := HO1
    change Calls _ _ #[.slice none 0 0, .int .i64 0, .slice (some ⟨vb, 0, none⟩) 1 1] w _
    clear HO1 hn0 h0
    go_enter Try.func55, Try.ntmps55
    go_wp2_with (at_builtin; refine print_append_row (w0 := w0) base rfl (.tmp 23) (.tmp 24) 26 51 .u32 4 rfl Try.underlying26 info_u32 (by decide) (.slice none 0 0) [] [x] (some ⟨vb, 0, none⟩) 1 1 rfl rfl HO2.out HR1.out HB1.out hbase (by decide) ?_; intro v1 w1 ho1 hb1 hg1 hat1; have HO3 := Lib.hid ho1; have HB2 := Lib.hid hb1; have HG2 := Lib.hid hg1; clear ho1 hb1 hg1 hat1)
    go_ret
    exact ⟨v1, rfl, HO3.out, HB2.out, Eff.of_grown HG2.out |>.mono fun k _ h => h⟩
  · have hi0 : (0 : Int) ≤ (l.length : Int) := by omega
    have hcl : ¬ c < l.length := by omega
    go_enter Try.func55, Try.ntmps55
    go_wp2_with (at_builtin; refine print_append_row (w0 := w0) base rfl (.tmp 23) (.tmp 24) 26 51 .u32 4 rfl Try.underlying26 info_u32 (by decide) _ l [x] (some ⟨vb, 0, none⟩) 1 1 rfl rfl HO1.out HR1.out HB1.out hbase (by omega) ?_; intro v1 w1 ho1 hb1 hg1 hat1; have HO2 := Lib.hid ho1; have HB2 := Lib.hid hb1; have HG2 := Lib.hid hg1; clear ho1 hb1 hg1 hat1)
    all_goals go_ret
    all_goals
      refine ⟨v1, rfl, ?_, HB2.out, Eff.of_grown HG2.out |>.mono fun k _ h => h⟩
      have e : insL l l.length x = l ++ [x] := by unfold insL; rw [List.take_length, List.drop_length]
      rw [e]
      exact HO2.out
set_option maxHeartbeats 1000000 in
set_option maxRecDepth 100000 in
theorem insert_room {w0 w : World} (base : Nat) (l : List Int) (i : Nat) (x : Int) (b c vb : Nat) (cur : Array Value) (hi : i ≤ l.length) (hlt : i < l.length) (hx : w.heap[vb]? = some (.cells #[.int .u32 x] 51 (0, 0))) (hb : Below base w0 w) (hbase : base ≤ w.heap.size) (hl : (l.length + 1) * 4 ≤ 140737488355328)
    (hbb : base ≤ b) (hcur : w.heap[b]? = some (.cells cur 51 (0, 0))) (hnc : l.length ≤ c) (hcm : c ≤ maxLen) (hcs : cur.size = c) (htk : cur.toList.take l.length = nums .u32 l) (hvb : vb ≠ b) (hroom : l.length + 1 ≤ c) :
    Calls Try.prog 55 #[.slice (some ⟨b, 0, none⟩) l.length c, .int .i64 i, .slice (some ⟨vb, 0, none⟩) 1 1] w fun e w' =>
      ∃ v1, e = .returned v1 ∧ w'.ownsRow base 51 1 v1 (insL l i x).length (nums .u32 (insL l i x)) ∧ Below base w0 w' ∧ Eff w w' (fun k => k = b) := by
  have hnl : (nums .u32 l).length = l.length := nums_len _ _
  refine (ins_shift b l.length c i vb (nums .u32 l) (.int .u32 x) cur w hlt hroom (by unfold maxLen at hcm; omega) hvb hnl hcur hcs htk hx one_nums rfl).mono ?_
  rintro e w' ⟨rfl, rfl⟩
  have hc1 : w.drew.heap[b]? = some (.cells cur 51 (0, 0)) := hcur
  have h1 := heap_setCells_same b ((nums .u32 l).drop i) (i + 1) w.drew cur hc1
  have h2 := heap_setCells_same b [Value.int .u32 x] i _ _ h1
  have hdl : ((nums .u32 l).drop i).length = l.length - i := by rw [List.length_drop, hnl]
  refine ⟨_, rfl, ⟨by rw [nums_len, Nat.mul_one], .inr ⟨b, c, _, by rw [insL_len hi], hbb, h2, by rw [insL_len hi]; exact hroom, hcm, by rw [ovr_size, ovr_size, Nat.mul_one]; exact hcs, ?_⟩⟩, below_setCells_u hbb _ _ (below_setCells_u hbb _ _ (below_drew1 hb)), ?_⟩
  · rw [Nat.mul_one, insL_len hi, ovr_list _ _ _ (by rw [ovr_size]; simp; omega), ovr_list _ _ _ (by rw [hdl]; omega), insL_nums]
    exact room_list cur.toList (nums .u32 l) _ l.length i (by simp; omega) hlt htk
  · exact ((Eff.drewN w 1 _).trans (eff_setCells w.drew b _ _) (fun k _ h => h)).trans (eff_setCells _ b _ _) (fun k _ h => h)
set_option maxHeartbeats 1000000 in
set_option maxRecDepth 100000 in
theorem insert_grow {w0 w : World} (base : Nat) (l : List Int) (i : Nat) (x : Int) (b c vb : Nat) (cur : Array Value) (hi : i ≤ l.length) (hlt : i < l.length) (hx : w.heap[vb]? = some (.cells #[.int .u32 x] 51 (0, 0))) (hb : Below base w0 w) (hbase : base ≤ w.heap.size) (hl : (l.length + 1) * 4 ≤ 140737488355328)
    (hbb : base ≤ b) (hcur : w.heap[b]? = some (.cells cur 51 (0, 0))) (hnc : l.length ≤ c) (hcm : c ≤ maxLen) (hcs : cur.size = c) (htk : cur.toList.take l.length = nums .u32 l) (hvb : vb ≠ b) (hroom : ¬ l.length + 1 ≤ c) :
    Calls Try.prog 55 #[.slice (some ⟨b, 0, none⟩) l.length c, .int .i64 i, .slice (some ⟨vb, 0, none⟩) 1 1] w fun e w' =>
      ∃ v1, e = .returned v1 ∧ w'.ownsRow base 51 1 v1 (insL l i x).length (nums .u32 (insL l i x)) ∧ Below base w0 w' ∧ Eff w w' (fun k => k = b) := by
  have hnl : (nums .u32 l).length = l.length := nums_len _ _
  refine (ins_grow b l.length c i vb (nums .u32 l) (.int .u32 x) cur w hlt hnc (by omega) hl hvb hnl hcur htk hx one_nums rfl).mono ?_
  rintro e w' ⟨G, hG1, hG2, rfl, rfl⟩
  obtain ⟨ROW, hROW⟩ : ∃ ROW : Array Value, ROW = ((nums .u32 l).take i).toArray ++ Builtin.zeroCells (Value.int .u32 0).cells (l.length + 1 - i) ++ Builtin.zeroCells (Value.int .u32 0).cells (G - (l.length + 1)) := ⟨_, rfl⟩
  rw [← hROW]
  have hti : ((nums .u32 l).take i).length = i := by rw [List.length_take, hnl]; omega
  have hdl : ((nums .u32 l).drop i).length = l.length - i := by rw [List.length_drop, hnl]
  have hRs : ROW.size = G := by
    rw [hROW]
    simp only [Array.size_append, List.size_toArray, hti, Builtin.zeroCells, Value.cells]
    simp
    omega
  have hRt : ROW.toList.take i = (nums .u32 l).take i := by
    rw [hROW, Array.toList_append, Array.toList_append, List.append_assoc, List.take_append_of_le_length (by simp [hti]), List.toList_toArray, List.take_take, Nat.min_self]
  have hc0 : ((w.alloc (.cells ROW 51)).drew).heap[w.heap.size]? = some (.cells ROW 51 (0, 0)) := heap_alloc_new _ _
  have h1 := heap_setCells_same w.heap.size [Value.int .u32 x] i _ ROW hc0
  have h2 := heap_setCells_same w.heap.size ((nums .u32 l).drop i) (i + 1) (((w.alloc (.cells ROW 51)).drew.setCells w.heap.size i [Value.int .u32 x]).drew) _ h1
  refine ⟨_, rfl, ⟨by rw [nums_len, Nat.mul_one], .inr ⟨w.heap.size, G, _, by rw [insL_len hi], hbase, h2, by rw [insL_len hi]; exact hG1, hG2, by rw [ovr_size, ovr_size, Nat.mul_one]; exact hRs, ?_⟩⟩, below_setCells_u hbase _ _ (below_drew1 (below_setCells_u hbase _ _ (below_drew1 (hb.alloc hbase _)))), ?_⟩
  · rw [Nat.mul_one, insL_len hi, ovr_list _ _ _ (by rw [ovr_size, hdl]; omega), ovr_list _ _ _ (by simp; omega), insL_nums]
    exact grow_list ROW.toList (nums .u32 l) _ l.length i (by simp; omega) hlt hnl hRt
  · have hS : ∀ k, k < w.heap.size → k = w.heap.size → False := fun k h e => by omega
    exact (((((Eff.alloc w _ _).trans (Eff.drewN _ 1 _) (fun _ _ h => h)).trans (eff_setCells _ w.heap.size _ _) (fun k hk h => (hS k hk h).elim)).trans (Eff.drewN _ 1 _) (fun _ _ h => h)).trans (eff_setCells _ w.heap.size _ _) (fun k hk h => (hS k hk h).elim))
/-- slices.Insert(l, i, x), l a row of one's own. -/
theorem insert_c {w0 w : World} (base : Nat) (l : List Int) (i : Nat) (x : Int) (v : Value) (vb : Nat) (HO : w.ownsRow base 51 1 v l.length (nums .u32 l)) (hi : i ≤ l.length) (hx : w.heap[vb]? = some (.cells #[.int .u32 x] 51 (0, 0))) (hne : v.ownBlock ≠ some vb) (hb : Below base w0 w) (hbase : base ≤ w.heap.size) (hl : (l.length + 1) * 4 ≤ 140737488355328) :
    Calls Try.prog 55 #[v, .int .i64 i, .slice (some ⟨vb, 0, none⟩) 1 1] w fun e w' =>
      ∃ v1, e = .returned v1 ∧ w'.ownsRow base 51 1 v1 (insL l i x).length (nums .u32 (insL l i x)) ∧ Below base w0 w' ∧ Eff w w' (fun k => some k = v.ownBlock) := by
  by_cases hin : i = l.length
  · exact insert_end base l i x v vb HO hin hx hne hb hbase hl
  · rcases HO.2 with ⟨rfl, h0⟩ | ⟨b, c, cur, rfl, hbb, hcur, hnc, hcm, hcs, htk⟩
    · omega
    · have hvb : vb ≠ b := fun e => hne (by rw [e]; rfl)
      rw [Nat.mul_one] at hcs htk
      have hS : ∀ w', Eff w w' (fun k => k = b) → Eff w w' (fun k => some k = (Value.slice (some ⟨b, 0, none⟩) l.length c).ownBlock) := fun w' h => h.mono fun k _ e => by rw [e]; rfl
      by_cases hroom : l.length + 1 ≤ c
      · exact (insert_room base l i x b c vb cur hi (by omega) hx hb hbase hl hbb hcur hnc hcm hcs htk hvb hroom).mono fun _ _ ⟨v1, h1, h2, h3, h4⟩ => ⟨v1, h1, h2, h3, hS _ h4⟩
      · exact (insert_grow base l i x b c vb cur hi (by omega) hx hb hbase hl hbb hcur hnc hcm hcs htk hvb hroom).mono fun _ _ ⟨v1, h1, h2, h3, h4⟩ => ⟨v1, h1, h2, h3, hS _ h4⟩
end Go.Proofs.Ytegacgfhmigdjaa
/- puny.denoted, walked: what a text denotes. -/
namespace Go.Proofs.Ytegacgfhmigdjaa
open Go.RowKit Go.Proofs.YtegacgfhmigdjaaW.PrintWords Go.Proofs.YtegacgfhmigdjaaW.PrintLast Go.Proofs.YtegacgfhmigdjaaW.PrintMore Go.Proofs.Ytegacgfhmigdjaa.PPu
set_option linter.unusedVariables false
set_option linter.unusedSimpArgs false

/-- Is a number a scalar? -/
def isP (n : Int) : Bool := if n ≤ 1114111 then (if n < 55296 then true else decide (n > 57343)) else false
theorem is_c (n : Int) (w : World) : Calls Try.prog 45 #[.int .u32 n] w fun e w' => e = .returned (.bool (isP n)) ∧ Below w.heap.size w w' := by
  refine (scalar_Is.calls n (isP n) w ?_).mono ?_
  · unfold scalar_Is.f isP; split <;> (try split) <;> rfl
  · rintro e w' ⟨rfl, ⟨nd, rfl⟩⟩
    exact ⟨rfl, below_drewN' (Below.refl _ _) nd⟩
theorem get_c (s : ByteArray) (at_ b : Int) (w : World) (hs : s.size ≤ 1000000000) (h0 : 0 ≤ at_) (h1 : at_ ≤ s.size) :
    Calls Try.prog 54 #[.string s, .int .i64 at_, .int .i64 b] w fun e w' => ∃ r1 r2 r3, e = .returned (.tuple #[.int .u64 r1, .int .i64 r2, .int .i64 r3]) ∧ (match getP s at_ b with | some (v, e) => r1 = v ∧ r2 = e ∧ r3 = 0 | none => r3 ≠ 0) ∧ Below w.heap.size w w' := by
  have h := get_f s b at_ hs h0 h1 (2 * s.size + 10) (Nat.le_refl _)
  cases hg : getP s at_ b with
  | none =>
    rw [hg] at h
    obtain ⟨er, he, hr⟩ := h
    exact (bias_Get.calls _ s at_ b _ _ _ w hr).mono fun e w' h => ⟨_, _, _, h.1, he, h.2⟩
  | some x =>
    obtain ⟨v, e⟩ := x
    rw [hg] at h
    exact (bias_Get.calls _ s at_ b _ _ _ w h).mono fun e w' h => ⟨_, _, _, h.1, ⟨rfl, rfl, rfl⟩, h.2⟩
theorem adapt_c (delta points : Int) (first : Bool) (w : World) (h0 : 0 ≤ delta) (h1 : delta ≤ topP) (hp : 1 ≤ points) :
    Calls Try.prog 56 #[.int .u64 delta, .int .u64 points, .bool first] w fun e w' => e = .returned (.int .i64 (adaptP delta points first)) ∧ Below w.heap.size w w' :=
  bias_Adapt.calls 30 delta points first _ w (adapt_f delta points first h0 h1 hp 30 (Nat.le_refl _))
theorem last_c (s : ByteArray) (w : World) (hs : s.size ≤ 1000000000) :
    Calls Try.prog 53 #[.string s, .int .u8 45] w fun e w' => e = .returned (.int .i64 (lastP s 45 s.size)) ∧ Below w.heap.size w w' :=
  (strings_LastIndexByte.calls (s.size + 1) s 45 _ w (last_f s 45 hs _ (Nat.le_refl _))).mono fun e w' h => ⟨h.1, by obtain ⟨nd, h2⟩ := h.2; rw [h2]; exact below_drewN' (Below.refl _ _) nd⟩
theorem last_range (s : ByteArray) (c : Int) : ∀ m, -1 ≤ lastP s c m ∧ lastP s c m < m
  | 0 => ⟨Int.le_refl (-1), (by decide : (-1 : Int) < ((0 : Nat) : Int))⟩
  | m + 1 => by
    have := last_range s c m
    rw [lastP]
    split <;> omega
/-- The bytes ahead of p, as numbers. -/
def preL (s : ByteArray) (p : Nat) : List Int := (List.range p).map fun (j : Nat) => bt s (j : Int)
theorem preL_len (s : ByteArray) (p : Nat) : (preL s p).length = p := by simp [preL]
theorem preL_succ (s : ByteArray) (p : Nat) : preL s (p + 1) = preL s p ++ [bt s (p : Int)] := by simp [preL, List.range_succ]
theorem own_alloc {w : World} {base n size : Nat} {e : TypeId} {v : Value} {xs : List Value} (h : w.ownsRow base e size v n xs) (o : Obj) : (w.alloc o).ownsRow base e size v n xs :=
  own_move h fun k hk => by obtain ⟨cells, hc⟩ := own_typed h k hk; exact Below.heap_alloc w o k (Array.getElem?_eq_some_iff.1 hc).1
theorem own_slice {w : World} {base n size : Nat} {e : TypeId} {v : Value} {xs : List Value} (h : w.ownsRow base e size v n xs) : ∃ A c, v = .slice A n c ∧ n ≤ c := by
  rcases h.2 with ⟨rfl, h0⟩ | ⟨g, cap, cur, rfl, _, _, hnc, _⟩
  · exact ⟨none, 0, by rw [h0], by omega⟩
  · exact ⟨_, _, rfl, hnc⟩
theorem own_ne {w : World} {base n size : Nat} {e : TypeId} {v : Value} {xs : List Value} (h : w.ownsRow base e size v n xs) : v.ownBlock ≠ some w.heap.size := fun e' => by
  obtain ⟨cells, hc⟩ := own_typed h _ e'
  have := (Array.getElem?_eq_some_iff.1 hc).1
  omega
theorem own_below {w w1 : World} {base n size : Nat} {e : TypeId} {v : Value} {xs : List Value} (h : w.ownsRow base e size v n xs) (hb : Below w.heap.size w w1) : w1.ownsRow base e size v n xs :=
  own_move h fun k hk => by obtain ⟨cells, hc⟩ := own_typed h k hk; exact hb.block k (Array.getElem?_eq_some_iff.1 hc).1
theorem isP_big {n : Int} (h : n > 1114111) : isP n = false := by unfold isP; rw [if_neg (by omega)]
theorem reads_one (w : World) (x y : Int) (h : x = y) : ReadsInt (w.alloc (.cells #[.int .u32 x] 51 (0, 0))) .u32 (some ⟨w.heap.size, 0, none⟩) 1 [y] := by
  subst h
  refine ⟨rfl, by decide, fun _ => ⟨_, rfl, fun k hk => ?_⟩⟩
  obtain rfl : k = 0 := by omega
  rw [Addr.add_lit]
  exact (Blk.new w 51 #[.int .u32 x]).cell rfl
/-- One number behind the other: what they denote. -/
def denGo (s : ByteArray) : Nat → Int → List Int → Int → Int → Int → Bool → Option (List Int)
  | 0, _, _, _, _, _, _ => none
  | k + 1, at_, l, n, i, b, once =>
    if at_ < (s.size : Int) then
      match getP s at_ b with
      | none => none
      | some (delta, e) =>
        if isP (n + (i + delta) / ((l.length : Int) + 1)) = true then
          denGo s k e (insL l ((i + delta) % ((l.length : Int) + 1)).toNat (n + (i + delta) / ((l.length : Int) + 1))) (n + (i + delta) / ((l.length : Int) + 1)) ((i + delta) % ((l.length : Int) + 1) + 1) (adaptP delta ((l.length : Int) + 1) once) false
        else none
    else some l
def denP (s : ByteArray) : Option (List Int) :=
  let p := lastP s 45 s.size
  let t := if 0 < p then s.extract (p.toNat + 1) s.size else s
  denGo t (t.size + 1) 0 (if 0 < p then preL s p.toNat else []) 128 0 72 true
def denR (s : ByteArray) : List Int × Bool := match denP s with | some l => (l, true) | none => ([], false)
def InvA (ts kq : Nat) (a : Int) (f : Nat) : Prop := 0 ≤ a ∧ a ≤ ts ∧ kq = ts - a.toNat ∧ (ts : Int) + 1 ≤ f + a
def InvN (ss : Nat) (l : List Int) (n i a : Int) : Prop := 0 ≤ n ∧ n ≤ 1114111 ∧ 0 ≤ i ∧ i ≤ l.length ∧ (l.length : Int) ≤ ss + a
theorem InvA.f1 {ts kq : Nat} {a : Int} {f : Nat} (h : InvA ts kq a f) : ∃ j, f = j + 1 := ⟨f - 1, by obtain ⟨a0, a1, a2, a3⟩ := h; omega⟩
/-- What a round of the second loop reckons. -/
structure StepF (ss ts : Nat) (l : List Int) (n i r r2 D N : Int) (mi kq f : Nat) : Prop where
  hD : (i + r) / ((l.length : Int) + 1) = D
  hM : (i + r) % ((l.length : Int) + 1) = (mi : Int)
  hN : n + D = N
  z : ¬ ((l.length : Int) + 1 = 0)
  w1 : IntKind.u64.wrap (i + r) = i + r
  w2 : IntKind.u64.wrap ((l.length : Int) + 1) = (l.length : Int) + 1
  w3 : wrap64 ((l.length : Int) + 1) = (l.length : Int) + 1
  q : Int.tdiv (i + r) ((l.length : Int) + 1) = D
  m : Int.tmod (i + r) ((l.length : Int) + 1) = (mi : Int)
  w4 : IntKind.u64.wrap D = D
  w5 : IntKind.u64.wrap (mi : Int) = (mi : Int)
  w6 : IntKind.u64.wrap (n + D) = N
  w7 : IntKind.u64.wrap ((mi : Int) + 1) = (mi : Int) + 1
  w8 : wrap64 (mi : Int) = (mi : Int)
  n0 : 0 ≤ N
  mle : mi ≤ l.length
  ll : (l.length + 1) * 4 ≤ 140737488355328
  lp : 1 ≤ (l.length : Int) + 1
  u32 : N ≤ 1114111 → N % 4294967296 = N
  invN : N ≤ 1114111 → InvN ss (insL l mi N) N ((mi : Int) + 1) r2
  invA : InvA ts (ts - r2.toNat) r2 f
  less : ts - r2.toNat < kq
theorem step_facts (ss ts : Nat) (l : List Int) (n i a r r2 : Int) (kq f : Nat) (hs : ss ≤ 1000000) (ht : ts ≤ ss) (hA : InvA ts kq a (f + 1)) (hN : InvN ss l n i a) (ha : a < (ts : Int)) (hg : 0 ≤ r ∧ r ≤ topP ∧ a < r2 ∧ (a ≤ ts → r2 ≤ ts)) :
    ∃ (D N : Int) (mi : Nat), StepF ss ts l n i r r2 D N mi kq f := by
  have hT : topP = 4611686018427387904 := rfl
  obtain ⟨a0, a1, a2, a3⟩ := hA
  obtain ⟨n0, n1, i0, i1, l1⟩ := hN
  obtain ⟨r0, r1, r3, r4⟩ := hg
  have r5 := r4 a1
  have hD0 : 0 ≤ (i + r) / ((l.length : Int) + 1) := Int.ediv_nonneg (by omega) (by omega)
  have hD1 : (i + r) / ((l.length : Int) + 1) ≤ i + r := Int.ediv_le_self _ (by omega)
  have hM0 : 0 ≤ (i + r) % ((l.length : Int) + 1) := Int.emod_nonneg _ (by omega)
  have hM1 : (i + r) % ((l.length : Int) + 1) < (l.length : Int) + 1 := Int.emod_lt_of_pos _ (by omega)
  have hq : Int.tdiv (i + r) ((l.length : Int) + 1) = (i + r) / ((l.length : Int) + 1) := Int.tdiv_eq_ediv_of_nonneg (by omega)
  have hr : Int.tmod (i + r) ((l.length : Int) + 1) = (i + r) % ((l.length : Int) + 1) := Int.tmod_eq_emod_of_nonneg (by omega)
  obtain ⟨D, hD⟩ : ∃ D, (i + r) / ((l.length : Int) + 1) = D := ⟨_, rfl⟩
  obtain ⟨M, hM⟩ : ∃ M, (i + r) % ((l.length : Int) + 1) = M := ⟨_, rfl⟩
  rw [hD] at hD0 hD1 hq
  rw [hM] at hM0 hM1 hr
  obtain ⟨mi, rfl⟩ : ∃ mi : Nat, M = mi := ⟨M.toNat, by omega⟩
  have hmi : mi ≤ l.length := by omega
  refine ⟨D, n + D, mi, hD, hM, rfl, by omega, u64 (by omega) (by omega), u64 (by omega) (by omega), w64 (by omega) (by omega), hq, hr, u64 (by omega) (by omega), u64 (by omega) (by omega), u64 (by omega) (by omega), u64 (by omega) (by omega), w64 (by omega) (by omega), by omega, hmi, by omega, by omega, fun h => by omega, fun h => ?_, ?_, by omega⟩
  · refine ⟨by omega, h, by omega, ?_, ?_⟩
    · rw [insL_len hmi]; omega
    · rw [insL_len hmi]; omega
  · exact ⟨by omega, by omega, by omega, by omega⟩
set_option maxRecDepth 100000 in
set_option maxHeartbeats 4000000 in
theorem denoted_c (s : ByteArray) (w : World) (hs : s.size ≤ 1000000) :
    Calls Try.prog 42 #[.string s] w fun e w' => ∃ v, e = .returned (.tuple #[v, .bool (denR s).2]) ∧ w'.ownsRow w.heap.size 51 1 v (denR s).1.length (nums .u32 (denR s).1) ∧ Below w.heap.size w w' := by
  obtain ⟨p, hp⟩ : ∃ p, lastP s 45 s.size = p := ⟨_, rfl⟩
  have hpr := last_range s 45 s.size
  rw [hp] at hpr
  obtain ⟨t, ht⟩ : ∃ t, (if 0 < p then s.extract (p.toNat + 1) s.size else s) = t := ⟨_, rfl⟩
  obtain ⟨l0, hl0⟩ : ∃ l0, (if 0 < p then preL s p.toNat else []) = l0 := ⟨_, rfl⟩
  have HD : Hid (denP s = denGo t (t.size + 1) 0 l0 128 0 72 true) := by
    show denP s = _
    unfold denP
    simp only [hp, ht, hl0]
  have hts : t.size ≤ s.size := by rw [← ht]; split <;> simp [ByteArray.size_extract]
  have hll : l0.length ≤ s.size := by rw [← hl0]; split <;> simp [preL_len]; omega
  have HP := Lib.hid hp
  have HT := Lib.hid ht
  have HL0 := Lib.hid hl0
  have HS := Lib.hid hs
  have HTS := Lib.hid hts
  clear hp ht hl0
  go_enter Try.func42, Try.ntmps42
  go_upto_if 19 with (go_at_call 53; refine (last_c s _ (by have := HS.out; omega)).mono ?_; rintro e w1 ⟨rfl, hb1⟩; rw [HP.out]; have HB1 := Lib.hid hb1; clear hb1)
  go_cut [0, 4] (fun s0 s4 wx => s0 = .string t ∧ Hid (wx.ownsRow w.heap.size 51 1 s4 l0.length (nums .u32 l0)) ∧ Hid (Below w.heap.size w wx))
  case first =>
    by_cases h0 : 0 < p
    · rw [decide_eq_true h0]
      obtain ⟨q, rfl⟩ : ∃ q : Nat, p = q := ⟨p.toNat, by omega⟩
      have HQ := Lib.hid h0
      have hq1 : q + 1 ≤ s.size := by omega
      have hq2 : (q : Int) + 1 ≤ (s.size : Int) := by omega
      have HT2 : Hid (s.extract (q + 1) s.size = t) := by have h := HT.out; rw [if_pos h0] at h; exact h
      have HL2 : Hid (preL s q = l0) := by have h := HL0.out; rw [if_pos h0] at h; exact h
      go_wp2_with fail
      clear h0
      go_loopg [4, 21] q (fun kq s4 s21 wx => ∃ i : Nat, s21 = .int .i64 i ∧ Hid (kq = q - i ∧ i ≤ q) ∧ Hid (wx.ownsRow w.heap.size 51 1 s4 (preL s i).length (nums .u32 (preL s i))) ∧ Hid (Below w.heap.size w wx))
      case atStart => exact ⟨0, rfl, Lib.hid ⟨rfl, Nat.zero_le _⟩, Lib.hid ⟨rfl, .inl ⟨rfl, rfl⟩⟩, HB1⟩
      case round =>
        obtain ⟨i, rfl, HK, HO, HB⟩ := hrel
        by_cases hi : i < q
        · have hi0 : (0 : Int) ≤ (i : Int) := by omega
          have hi1 : (i : Int) < (q : Int) := by omega
          have hi2 : i < s.size := by omega
          have hi3 : (i : Int) < (s.size : Int) := by omega
          have hbt : ((s[i].toNat : Int) % 4294967296) = bt s (i : Int) := by
            have h := bt_at s (i : Int) (by rw [Int.toNat_natCast]; exact hi2)
            have h2 := bt_range s (i : Int)
            rw [← h] at h2 ⊢
            simp only [Int.toNat_natCast] at h2 ⊢
            omega
          go_wp2_with (at_builtin; refine print_append_row (w0 := w) w.heap.size rfl (.tmp 24) (.tmp 29) 26 51 .u32 4 rfl Try.underlying26 info_u32 (by decide) u4 (preL s i) [bt s (i : Int)] (some ⟨wr.heap.size, 0, none⟩) 1 1 rfl rfl (own_alloc HO.out _) (reads_one wr _ _ rfl) (below_new HB.out _) (below_new HB.out _).size (by rw [preL_len]; omega) ?_; intro v1 w1 ho1 hb1 hg1 hat1; have HO1 := Lib.hid ho1; have HB2 := Lib.hid hb1; clear ho1 hb1 hg1 hat1)
          go_roundg (gk - 1)
          case measure => have := HK.out; omega
          case rel => exact ⟨i + 1, by go_num, Lib.hid ⟨by have := HK.out; omega, by omega⟩, Lib.hid (by rw [preL_succ]; exact HO1.out), HB2⟩
        · have hi1 : ¬ (i : Int) < (q : Int) := by omega
          have hiq : i = q := by have := HK.out; omega
          have HIQ := Lib.hid hiq
          clear hiq
          go_wp2_with fail
          go_meet
          refine ⟨by rw [HT2.out], ?_, HB⟩
          rw [← HL2.out, ← HIQ.out]
          exact HO
    · rw [decide_eq_false h0]
      have HQ := Lib.hid h0
      go_wp2_with fail
      go_meet
      refine ⟨?_, ?_, HB1⟩
      · have h := HT.out
        rw [if_neg (by have := HQ.out; omega)] at h
        rw [h]
      · have h := HL0.out
        rw [if_neg (by have := HQ.out; omega)] at h
        rw [← h]
        exact Lib.hid ⟨rfl, .inl ⟨rfl, rfl⟩⟩
  case rest =>
    obtain ⟨rfl, HO, HB⟩ := hcut
    go_wp2_with fail
    go_loopg [4, 7, 8, 9, 10, 11] (t.size) (fun kq s4 s7 s8 s9 s10 s11 wx => ∃ (l : List Int) (n i b a : Int) (once : Bool) (f : Nat), s7 = .int .u64 n ∧ s8 = .int .u64 i ∧ s9 = .int .i64 b ∧ s10 = .int .i64 a ∧ s11 = .bool once ∧
      Hid (InvA t.size kq a f) ∧ Hid (InvN s.size l n i a) ∧ Hid (wx.ownsRow w.heap.size 51 1 s4 l.length (nums .u32 l)) ∧ Hid (Below w.heap.size w wx) ∧ Hid (denP s = denGo t f a l n i b once))
    case atStart => exact ⟨l0, 128, 0, 72, 0, true, t.size + 1, rfl, rfl, rfl, rfl, rfl, Lib.hid ⟨by decide, by omega, by omega, by omega⟩, Lib.hid ⟨by decide, by decide, by decide, by omega, by omega⟩, HO, HB, HD⟩
    case round =>
      obtain ⟨l, n, i, b, a, once, f, rfl, rfl, rfl, rfl, rfl, HA, HN, HO, HB, HD⟩ := hrel
      have hs1 := HS.out
      by_cases ha : a < (t.size : Int)
      · have ha0 : 0 ≤ a := HA.out.1
        have HAT := Lib.hid ha
        obtain ⟨f, rfl⟩ := HA.out.f1
        have HD2 := HD.out
        rw [denGo, if_pos ha] at HD2
        go_wp2_with fail
        refine (get_c t a b _ (by omega) ha0 (by omega)).mono ?_
        rintro e w1 ⟨r1, r2, r3, rfl, hg, hb1⟩
        have HB1 := Lib.hid (below_next HB.out hb1)
        cases hgp : getP t a b with
        | none =>
          rw [hgp] at hg HD2
          have hg : r3 ≠ 0 := hg
          have hz : (r3 == 0) = false := by simpa using hg
          have HR : Hid (denR s = ([], false)) := by show denR s = _; unfold denR; rw [HD2]
          clear hb1 hg HD2
          go_wp2_with fail
          refine bodyPost_ret (v := .tuple #[.slice none 0 0, .bool false]) (by simp [results, Try.results42, go_sem]) rfl ?_
          exact ⟨.slice none 0 0, by rw [HR.out], by rw [HR.out]; exact ⟨rfl, .inl ⟨rfl, rfl⟩⟩, HB1.out⟩
        | some x =>
          obtain ⟨v, e⟩ := x
          rw [hgp] at hg HD2
          obtain ⟨rfl, rfl, rfl⟩ := hg
          have HGR := Lib.hid (getP_range hgp)
          have HO1 : Hid (w1.ownsRow w.heap.size 51 1 u4 l.length (nums .u32 l)) := Lib.hid (own_below HO.out hb1)
          have HD3 := Lib.hid HD2
          clear hb1 HD2 hgp
          obtain ⟨A4, c4, rfl, hc4⟩ := own_slice HO1.out
          obtain ⟨D, N, mi, SF⟩ := step_facts s.size t.size l n i a r1 r2 _ f HS.out HTS.out HA.out HN.out HAT.out HGR.out
          have HD4 := HD3.out
          simp only [SF.hD, SF.hM, SF.hN, Int.toNat_natCast] at HD4
          have HD5 := Lib.hid HD4
          have HSF := Lib.hid SF
          have hsz0 := SF.z
          have hw1 := SF.w1
          have hw2 := SF.w2
          have hw3 := SF.w3
          have hq := SF.q
          have hm := SF.m
          have hw4 := SF.w4
          have hw5 := SF.w5
          have hw6 := SF.w6
          clear HD4 SF
          go_upto_region 22 with fail
          clear hq hm hw1 hw2 hw3 hw4 hw5 hw6
          have HRN : isP N = false → Hid (denR s = ([], false)) := fun h => by
            have h2 := HD5.out
            rw [h] at h2
            show denR s = _
            unfold denR
            rw [h2]
            rfl
          by_cases hbig : N > 1114111
          · have HR := HRN (isP_big hbig)
            clear HRN
            have hb : decide (1114111 < N) = true := decide_eq_true hbig
            clear hbig
            go_wp2_with fail
            refine bodyPost_ret (v := .tuple #[.slice none 0 0, .bool false]) (by simp [results, Try.results42, go_sem]) rfl ?_
            exact ⟨.slice none 0 0, by rw [HR.out], by rw [HR.out]; exact ⟨rfl, .inl ⟨rfl, rfl⟩⟩, HB1.out⟩
          · have hb : decide (1114111 < N) = false := decide_eq_false hbig
            have HBG : Hid (N ≤ 1114111) := Lib.hid (Int.not_lt.1 hbig)
            have hu32 := HSF.out.u32 HBG.out
            clear hbig
            go_wp2_with fail
            refine (is_c N _).mono ?_
            rintro e w2 ⟨rfl, hb2⟩
            have HB2 := Lib.hid (below_next HB1.out hb2)
            have HO2 : Hid (w2.ownsRow w.heap.size 51 1 (.slice A4 l.length c4) l.length (nums .u32 l)) := Lib.hid (own_below HO1.out hb2)
            clear hb2
            cases his : isP N with
            | false =>
              have HR := HRN his
              clear HRN his
              go_wp2_with fail
              refine bodyPost_ret (v := .tuple #[.slice none 0 0, .bool false]) (by simp [results, Try.results42, go_sem]) rfl ?_
              exact ⟨.slice none 0 0, by rw [HR.out], by rw [HR.out]; exact ⟨rfl, .inl ⟨rfl, rfl⟩⟩, HB2.out⟩
            | true =>
              have HD6 : Hid (denP s = denGo t f r2 (insL l mi N) N ((mi : Int) + 1) (adaptP r1 ((l.length : Int) + 1) once) false) := by
                have h := HD5.out
                rw [his] at h
                exact h
              clear HRN his
              have hw7 := HSF.out.w7
              have hw8 := HSF.out.w8
              go_wp2_with fail
              refine (insert_c (w0 := w) w.heap.size l mi N _ w2.heap.size (own_alloc HO2.out _) HSF.out.mle (heap_alloc_new _ _) (own_ne HO2.out) (below_new HB2.out _) (below_new HB2.out _).size HSF.out.ll).mono ?_
              rintro e w3 ⟨v3, rfl, ho3, hb3, _⟩
              have HO3 := Lib.hid ho3
              have HB3 := Lib.hid hb3
              clear ho3 hb3
              go_wp2_with fail
              refine (adapt_c r1 ((l.length : Int) + 1) once _ HGR.out.1 HGR.out.2.1 HSF.out.lp).mono ?_
              rintro e w4 ⟨rfl, hb4⟩
              have HB4 := Lib.hid (below_next HB3.out hb4)
              have HO4 : Hid (w4.ownsRow w.heap.size 51 1 v3 (insL l mi N).length (nums .u32 (insL l mi N))) := Lib.hid (own_below HO3.out hb4)
              clear hb4
              go_wp2_with fail
              go_roundg (t.size - r2.toNat)
              case measure => exact HSF.out.less
              case rel => exact ⟨insL l mi N, N, (mi : Int) + 1, adaptP r1 ((l.length : Int) + 1) once, r2, false, f, rfl, by go_num, rfl, rfl, rfl, Lib.hid HSF.out.invA, Lib.hid (HSF.out.invN HBG.out), HO4, HB4, HD6⟩
      · have HR : Hid (denR s = (l, true)) := by
          obtain ⟨f, rfl⟩ := HA.out.f1
          have h := HD.out
          rw [denGo, if_neg ha] at h
          show denR s = _
          unfold denR
          rw [h]
        have HO2 : Hid (wr.ownsRow w.heap.size 51 1 u4 l.length (nums .u32 l)) := HO
        go_wp2_with fail
        refine bodyPost_ret (v := .tuple #[u4, .bool true]) (by simp [results, Try.results42, go_sem]) rfl ?_
        exact ⟨u4, by rw [HR.out], by rw [HR.out]; exact HO2.out, HB.out⟩
end Go.Proofs.Ytegacgfhmigdjaa
/- puny.Decoder: Feed and End. -/
namespace Go.Proofs.Ytegacgfhmigdjaa
open Go.RowKit Go.Proofs.YtegacgfhmigdjaaW.PrintWords Go.Proofs.YtegacgfhmigdjaaW.PrintLast Go.Proofs.YtegacgfhmigdjaaW.PrintMore Go.Proofs.Ytegacgfhmigdjaa.PPu
set_option linter.unusedVariables false
set_option linter.unusedSimpArgs false

/-- append to a row as one step of a region of open order. -/
theorem q_step {P : Program} {ops : Array Oper} {o : Oper} {a : Act} {K : Act → World → Prop} {Q : Exit → Act → World → Prop} {E : Prop} {W : World} (base : Nat) (hgd : o.guard = none) (s x : Operand) (t e : TypeId) (k : IntKind) (bytes : Nat)
    (ho : o.op = .call { callee := .builtin .append, args := #[s, x], argTypes := #[t, t] }) (ht : P.underlying t = some (.slice e)) (hinfo : (P.info? e).map (fun i => (i.zero, i.size, i.bytes)) = some (some (.int k 0), 1, bytes)) (hb0 : 0 < bytes)
    (v : Value) (xs ys : List Int) (A : Option Addr) (m c : Nat) (hs : a.eval s = v) (hx : a.eval x = .slice A m c)
    (HO : QRow W base e 1 v xs.length (nums k xs)) (HR : ReadsInt W k A m ys) (hbase : base ≤ W.heap.size) (hl : (xs.length + m) * bytes ≤ 140737488355328)
    (h : ∀ v1 w1, QRow w1 base e 1 v1 (xs ++ ys).length (nums k (xs ++ ys)) → W.grownBy w1 v.ownBlock → (v1.ownBlock = v.ownBlock ∨ ∃ b, v1.ownBlock = some b ∧ W.heap.size ≤ b) → K (a.put o.dst v1) w1) :
    if Region.wanted o (yielded ops a.tmps) = true then Oper.wp P o a W K Q else E := by
  obtain ⟨v1, w1, hr, hq, hg, hat⟩ := q_run_row (P := P) base t o.type e k bytes ht hinfo hb0 v xs ys A m c HO HR hbase hl
  rw [if_pos (by simp [Region.wanted, hgd])]
  unfold Oper.wp execOp
  simp only [ho, resolve, invoke, builtin, Sem.run_bind, Sem.run_pure, Result.andThen_ok, List.map_toArray, List.map_cons, List.map_nil, hs, hx, hr]
  exact h v1 w1 hq hg hat
theorem reads_u8 (w : World) (x : Int) : ReadsInt (w.alloc (.cells #[.int .u8 x] 5 (0, 0))) .u8 (some ⟨w.heap.size, 0, none⟩) 1 [x] := by
  refine ⟨rfl, by decide, fun _ => ⟨_, rfl, fun k hk => ?_⟩⟩
  obtain rfl : k = 0 := by omega
  rw [Addr.add_lit]
  exact (Blk.new w 5 #[.int .u8 x]).cell rfl
theorem reads_u8d (w : World) (x : Int) : ReadsInt (w.alloc (.cells #[.int .u8 x] 5 (0, 0))).drew .u8 (some ⟨w.heap.size, 0, none⟩) 1 [x] := reads_u8 w x
theorem q_eff {w w1 : World} {base n size : Nat} {e : TypeId} {v : Value} {xs : List Value} {S : Nat → Prop} (h : QRow w base e size v n xs) (he : Eff w w1 S) (hS : ∀ k, v.ownBlock = some k → ¬ S k) : QRow w1 base e size v n xs :=
  q_move h fun k hk => he.block k (q_lt h k hk) (hS k hk)
/-- A decoder that holds no scalars: what it has eaten, what went wrong. -/
structure DX (w : World) (g B : Nat) (err fat : Int) (en : Bool) (n : Int) (tx : List Int) (lv tv : Value) : Prop where
  blk : Blk w g 43 #[.int .i64 n, .int .i64 err, .int .i64 fat, .bool en, lv, tv]
  list : QRow w B 51 1 lv ([] : List Int).length (nums .u32 [])
  own : lv.ownBlock = none
  text : QRow w B 5 1 tv tx.length (nums .u8 tx)
theorem DX.set {w w1 : World} {g B : Nat} {err fat : Int} {en : Bool} {n : Int} {tx tx1 : List Int} {lv tv tv1 : Value} (h : DX w g B err fat en n tx lv tv) (hg : w.grownBy w1 tv.ownBlock) (hq : QRow w1 B 5 1 tv1 tx1.length (nums .u8 tx1)) : DX (w1.setCell ⟨g, 5, none⟩ tv1) g B err fat en n tx1 lv tv1 := by
  have hne := own_types h.text h.blk (by decide)
  have hb1 : Blk w1 g _ _ := (hg.block g h.blk.lt hne).trans h.blk
  have hne1 := own_types hq hb1 (by decide)
  refine ⟨hb1.set 5 tv1, q_move h.list fun k hk => ?_, h.own, q_move hq fun k hk => Below.heap_setCell w1 _ _ k fun e => hne1 (by rw [hk, e])⟩
  rw [h.own] at hk; cases hk
theorem DX.eat {w : World} {g B : Nat} {err fat : Int} {en : Bool} {n : Int} {tx : List Int} {lv tv : Value} (h : DX w g B err fat en n tx lv tv) (m : Int) : DX (w.setCell ⟨g, 0, none⟩ (.int .i64 m)) g B err fat en m tx lv tv := by
  have hne := own_types h.text h.blk (by decide)
  refine ⟨h.blk.set 0 _, q_move h.list fun k hk => ?_, h.own, q_move h.text fun k hk => Below.heap_setCell w _ _ k fun e => hne (by rw [hk, e])⟩
  rw [h.own] at hk; cases hk
theorem DX.below {w w1 : World} {g B : Nat} {err fat : Int} {en : Bool} {n : Int} {tx : List Int} {lv tv : Value} (h : DX w g B err fat en n tx lv tv) (hb : Below w.heap.size w w1) : DX w1 g B err fat en n tx lv tv :=
  ⟨h.blk.below hb, q_move h.list fun k hk => hb.block k (q_lt h.list k hk), h.own, q_move h.text fun k hk => hb.block k (q_lt h.text k hk)⟩
theorem DX.at5 {w w1 : World} {g B : Nat} {err fat : Int} {en : Bool} {n : Int} {tx : List Int} {lv tv : Value} (h : DX w g B err fat en n tx lv tv) (hb : Below w.heap.size w w1) : w1.cell? ⟨g, 5, none⟩ = some tv ∧ w1.frozen? ⟨g, 5, none⟩ = false :=
  ⟨(h.blk.below hb).cell rfl, (h.blk.below hb).frozen 5⟩
theorem DX.at5g {w W w1 : World} {g B : Nat} {err fat : Int} {en : Bool} {n : Int} {tx : List Int} {lv tv : Value} (h : DX w g B err fat en n tx lv tv) (hb : Below w.heap.size w W) (hg : W.grownBy w1 tv.ownBlock) : w1.cell? ⟨g, 5, none⟩ = some tv ∧ w1.frozen? ⟨g, 5, none⟩ = false := by
  have h2 := h.below hb
  have hb1 : Blk w1 g _ _ := (hg.block g h2.blk.lt (own_types h2.text h2.blk (by decide))).trans h2.blk
  exact ⟨hb1.cell rfl, hb1.frozen 5⟩
theorem q_own_ge {w : World} {base n size : Nat} {e : TypeId} {v : Value} {xs : List Value} (h : QRow w base e size v n xs) (k : Nat) (hk : v.ownBlock = some k) : base ≤ k := by
  rcases h.2 with ⟨_, A, rfl, hA⟩ | ⟨g, off, cap, cur, rfl, hb, _⟩
  · cases A with
    | none => cases hk
    | some a => injection hk with hk; rw [← hk]; exact (hA a rfl).1
  · injection hk with hk; rw [← hk]; exact hb
theorem DX.step {w0 w W w1 : World} {g B : Nat} {err fat : Int} {en : Bool} {n : Int} {tx tx1 : List Int} {lv tv tv1 : Value} (h : DX w g B err fat en n tx lv tv) (hb : Below w.heap.size w W) (hg : W.grownBy w1 tv.ownBlock) (hq : QRow w1 B 5 1 tv1 tx1.length (nums .u8 tx1)) (hE : Eff w0 w (fun k => k = g ∨ B ≤ k)) :
    DX (w1.setCell ⟨g, 5, none⟩ tv1) g B err fat en n tx1 lv tv1 ∧ Eff w0 (w1.setCell ⟨g, 5, none⟩ tv1) (fun k => k = g ∨ B ≤ k) := by
  refine ⟨(h.below hb).set hg hq, ?_⟩
  refine ((hE.trans (Eff.of_below hb _) (fun _ _ h => h)).trans (Eff.of_grown hg) (fun k _ hk => .inr (q_own_ge h.text k hk.symm))).trans (Eff.set w1 g 5 tv1) (fun k _ hk => .inl hk)
abbrev DG (w : World) (g B : Nat) (n : Int) (tx : List Int) (lv tv : Value) : Prop := DX w g B 0 0 false n tx lv tv
theorem DX.stop {w : World} {g B : Nat} {n : Int} {tx : List Int} {lv tv : Value} (h : DX w g B 0 0 false n tx lv tv) (e : Int) : DX ((w.setCell ⟨g, 1, none⟩ (.int .i64 e)).setCell ⟨g, 2, none⟩ (.int .i64 n)) g B e n false n tx lv tv := by
  have hne := own_types h.text h.blk (by decide)
  refine ⟨(h.blk.set 1 _).set 2 _, q_move h.list fun k hk => ?_, h.own, q_move h.text fun k hk => ?_⟩
  · rw [h.own] at hk; cases hk
  · have hk2 : k ≠ g := fun e => hne (by rw [hk, e])
    rw [Below.heap_setCell _ _ _ k hk2, Below.heap_setCell _ _ _ k hk2]
/-- How many bytes are eaten: those ahead of the first that is above 7F. -/
def lowN (s : ByteArray) : Nat → Nat → Nat
  | 0, i => i
  | k + 1, i => if i < s.size then (if bt s i ≥ 128 then i else lowN s k (i + 1)) else i
theorem own_le {w : World} {base b2 n size : Nat} {e : TypeId} {v : Value} {xs : List Value} (h : w.ownsRow base e size v n xs) (hb : b2 ≤ base) : w.ownsRow b2 e size v n xs := by
  refine ⟨h.1, ?_⟩
  rcases h.2 with h2 | ⟨g, cap, cur, h1, h2, h3⟩
  · exact .inl h2
  · exact .inr ⟨g, cap, cur, h1, Nat.le_trans hb h2, h3⟩
theorem DX.told {w w1 : World} {g B : Nat} {err fat : Int} {en : Bool} {n : Int} {tx : List Int} {lv tv lv' : Value} (h : DX w g B err fat en n tx lv tv) (hb : Blk w1 g 43 #[.int .i64 n, .int .i64 err, .int .i64 fat, .bool en, lv', tv]) (hq : QRow w1 B 51 1 lv' 0 [])
    (hl : lv'.ownBlock = lv.ownBlock ∨ lv'.ownBlock = none) (he : Eff w w1 (fun k => k = g)) : DX w1 g B err fat en n tx lv' tv := by
  have hne := own_types h.text h.blk (by decide)
  refine ⟨hb, hq, ?_, q_eff h.text he fun k hk e => hne (by rw [hk, e])⟩
  rcases hl with h2 | h2
  · rw [h2, h.own]
  · exact h2
theorem low_stop {s : ByteArray} {i : Nat} (hi : i < s.size) (hb : bt s (i : Int) ≥ 128) : lowN s (s.size - i) i = i := by
  obtain ⟨k, hk⟩ : ∃ k, s.size - i = k + 1 := ⟨s.size - i - 1, by omega⟩
  rw [hk, lowN, if_pos hi, if_pos hb]
theorem low_on {s : ByteArray} {i : Nat} (hi : i < s.size) (hb : ¬ bt s (i : Int) ≥ 128) : lowN s (s.size - i) i = lowN s (s.size - (i + 1)) (i + 1) := by
  obtain ⟨k, hk⟩ : ∃ k, s.size - i = k + 1 := ⟨s.size - i - 1, by omega⟩
  rw [hk, lowN, if_pos hi, if_neg hb, show s.size - (i + 1) = k by omega]
theorem low_end {s : ByteArray} {i : Nat} (hi : i = s.size) : lowN s (s.size - i) i = s.size := by
  subst hi; rw [Nat.sub_self]; rfl
def feedN (s : ByteArray) : Nat := lowN s s.size 0
/-- What Feed leaves behind. -/
def Fed (w0 w : World) (g B : Nat) (n : Int) (tx : List Int) (s : ByteArray) (lv : Value) : Prop :=
  (∃ tv, DX w g B (if feedN s < s.size then 3 else 0) (if feedN s < s.size then n + feedN s else 0) false (n + feedN s) (tx ++ preL s (feedN s)) lv tv) ∧ Eff w0 w (fun k => k = g ∨ B ≤ k)
set_option maxRecDepth 100000 in
set_option maxHeartbeats 4000000 in
theorem feed_go (g B : Nat) (n : Int) (tx : List Int) (lv tv : Value) (s : ByteArray) (room : Int) (w : World) (hd : DG w g B n tx lv tv) (hr : 0 < room) (hB : B ≤ w.heap.size) (h0 : 0 ≤ n) (hn : n + s.size ≤ 1000000) (hl : tx.length + s.size ≤ 1000000) :
    Calls Try.prog 25 #[.pointer (some ⟨g, 0, none⟩), .string s, .int .i64 room] w fun e w' => ∃ v lv', e = .returned (.tuple #[.int .i64 (feedN s), v]) ∧ w'.ownsRow w.heap.size 51 1 v 0 [] ∧ Fed w w' g B n tx s lv' := by
  have HD := Lib.hid hd
  have HH := Lib.hid (And.intro hB (And.intro h0 (And.intro hn hl)))
  clear hd hB h0 hn hl
  go_enter Try.func25, Try.ntmps25
  go_upto_block 0 with fail
  go_cut [8] (fun s8 wx => s8 = .int .i64 (feedN s) ∧ Hid (Fed w wx g B n tx s lv))
  case first =>
    go_wp2_with fail
    go_loopg [8] (s.size) (fun kq s8 wx => ∃ (i : Nat) (tv1 : Value), s8 = .int .i64 i ∧ Hid (kq = s.size - i ∧ i ≤ s.size ∧ lowN s (s.size - i) i = feedN s) ∧ Hid (DG wx g B (n + i) (tx ++ preL s i) lv tv1) ∧ Hid (Eff w wx (fun k => k = g ∨ B ≤ k)))
    case atStart => exact ⟨0, tv, rfl, Lib.hid ⟨rfl, Nat.zero_le _, rfl⟩, Lib.hid (by simpa [preL] using HD.out), Lib.hid (Eff.refl _ _)⟩
    case round =>
      obtain ⟨i, tv1, rfl, HK, HG, HE⟩ := hrel
      by_cases hi : i < s.size
      · have hi0 : (0 : Int) ≤ (i : Int) := by omega
        have hi3 : (i : Int) < (s.size : Int) := by omega
        have hss : s.size ≤ 1000000 := by have := HH.out; omega
        have hbt : (s[i].toNat : Int) = bt s (i : Int) := by
          have h := bt_at s (i : Int) (by rw [Int.toNat_natCast]; exact hi)
          simpa using h
        by_cases hb : bt s (i : Int) ≥ 128
        · have hb1 : decide (128 ≤ bt s (i : Int)) = true := decide_eq_true hb
          have HN : Hid (feedN s = i ∧ i < s.size) := Lib.hid ⟨HK.out.2.2.symm.trans (low_stop hi hb), hi⟩
          clear hb
          go_wp2_with (first
            | (go_at_call 38; refine (going_yes HG.out.blk rfl rfl).mono ?_; rintro e w1 ⟨rfl, rfl⟩)
            | (go_at_call 39; refine (stop_c (err := 3) (by decide) HG.out.blk rfl rfl rfl rfl).mono ?_; rintro e w1 ⟨rfl, rfl⟩))
          go_meet
          refine ⟨by rw [HN.out.1], Lib.hid ⟨⟨tv1, ?_⟩, ?_⟩⟩
          · rw [HN.out.1, if_pos HN.out.2, if_pos HN.out.2]
            exact HG.out.stop 3
          · exact (HE.out.trans (Eff.set _ g 1 _) (fun _ _ h => .inl h)).trans (Eff.set _ g 2 _) (fun _ _ h => .inl h)
        · have hb1 : decide (128 ≤ bt s (i : Int)) = false := decide_eq_false hb
          have HN : Hid (lowN s (s.size - (i + 1)) (i + 1) = feedN s) := Lib.hid ((low_on hi hb).symm.trans HK.out.2.2)
          clear hb
          obtain ⟨X, hX⟩ : ∃ X, tx ++ preL s i = X := ⟨_, rfl⟩
          have HX : Hid (tx ++ preL s (i + 1) = X ++ [bt s (i : Int)]) := Lib.hid (by rw [preL_succ, ← List.append_assoc, hX])
          have hXl : X.length = tx.length + i := by rw [← hX, List.length_append, preL_len]
          have HG2 : Hid (DG wr g B (n + i) X lv tv1) := by rw [← hX]; exact HG
          clear HG hX
          obtain ⟨A1, c1, rfl, hc1⟩ := q_slice HG2.out.text
          have mixed : Try.prog.follows Departure.mixedOrders = true := by kernel_rfl
          obtain ⟨hS0, hS1⟩ := HG2.out.at5 (Below.refl _ _)
          obtain ⟨hS2, hS3⟩ := HG2.out.at5 (below_alloc (Below.refl _ _) (.cells #[.int .u8 (bt s (i : Int))] 5 (0, 0)))
          have HSZ : Hid (B ≤ wr.heap.size) := Lib.hid (Nat.le_trans HH.out.1 HE.out.size)
          have HLB : Hid ((X.length + 1) * 1 ≤ 140737488355328) := Lib.hid (by rw [hXl]; have := HH.out; omega)
          clear hXl
          go_upto_region 5 with (go_at_call 38; refine (going_yes HG2.out.blk rfl rfl).mono ?_; rintro e w1 ⟨rfl, rfl⟩)
          go_cut [8] (fun s8 wx => s8 = .int .i64 i ∧ ∃ tv2, Hid (DG wx g B (n + i) (tx ++ preL s (i + 1)) lv tv2) ∧ Hid (Eff w wx (fun k => k = g ∨ B ≤ k)))
          case first =>
            go_region_law_o (refine q_step B rfl (.tmp 37) (.tmp 41) 41 5 .u8 1 rfl Try.underlying41 info_u8 (by decide) (.slice A1 X.length c1) X [bt s (i : Int)] (some ⟨wr.heap.size, 0, none⟩) 1 1 (by rfl) (by rfl) (HG2.out.below (below_drew1 (below_alloc (Below.refl _ _) _))).text (reads_u8d wr _) (Nat.le_trans HSZ.out (by simp)) HLB.out ?_; intro v7 w7 hq7 hg7 hat7; obtain ⟨A7, k7, rfl, hk7⟩ := q_slice hq7; have HQ7 := Lib.hid hq7; have HG7 := Lib.hid hg7; obtain ⟨hS7, hS8⟩ := HG2.out.at5g (below_drew1 (below_alloc (Below.refl _ _) _)) hg7; clear hq7 hg7 hat7)
            all_goals (go_wp2_with fail; go_meet)
            all_goals
              rw [show X.length + 1 = (X ++ [bt s (i : Int)]).length by simp]
              obtain ⟨a1, a2⟩ := HG2.out.step (below_drew1 (below_alloc (Below.refl _ _) _)) HG7.out HQ7.out HE.out
              exact ⟨rfl, _, Lib.hid (by rw [HX.out]; exact a1), Lib.hid a2⟩
          case rest =>
            obtain ⟨rfl, tv2, HG3, HE3⟩ := hcut
            go_wp2_with (go_at_call 40; refine (eat_c HG3.out.blk rfl rfl rfl (by have := HH.out; omega) (by have := HH.out; omega)).mono ?_; rintro e w1 ⟨rfl, rfl⟩)
            go_roundg (gk - 1)
            case measure => have := HK.out; omega
            case rel => exact ⟨i + 1, tv2, by go_num, Lib.hid ⟨by have := HK.out; omega, by omega, HN.out⟩, Lib.hid (by have h := HG3.out.eat (n + i + 1); rw [show n + ((i + 1 : Nat) : Int) = n + i + 1 by omega]; exact h), Lib.hid (HE3.out.trans (Eff.set _ g 0 _) (fun _ _ h => .inl h))⟩
      · have HIQ : Hid (i = s.size) := Lib.hid (by have := HK.out; omega)
        have HN : Hid (feedN s = s.size) := Lib.hid (HK.out.2.2.symm.trans (low_end HIQ.out))
        have hi3 : ¬ (i : Int) < (s.size : Int) := by omega
        go_wp2_with fail
        go_meet
        refine ⟨by rw [HN.out, HIQ.out], Lib.hid ⟨⟨tv1, ?_⟩, HE.out⟩⟩
        rw [HN.out, if_neg (Nat.lt_irrefl _), if_neg (Nat.lt_irrefl _), ← HIQ.out]
        exact HG.out
  case rest =>
    obtain ⟨rfl, HF⟩ := hcut
    obtain ⟨⟨tv2, hx⟩, he⟩ := HF.out
    have HX := Lib.hid hx
    have HE := Lib.hid he
    clear hx he HF
    go_wp2_with (go_at_call 41; refine (tell_c (o := 4) (by decide) HX.out.blk rfl HX.out.list (by decide)).mono ?_; rintro e w1 ⟨v, lv', rfl, ho, hb, hq, hl, heff⟩)
    refine bodyPost_ret (v := .tuple #[.int .i64 (feedN s), v]) (by simp [results, Try.results25, go_sem]) rfl ?_
    exact ⟨v, lv', rfl, own_le (by rw [List.take_nil] at ho; exact ho) HE.out.size, ⟨tv2, HX.out.told hb (by rw [List.drop_nil] at hq; exact hq) hl heff⟩, HE.out.trans heff (fun _ _ h => .inl h)⟩
/-- A decoder at its end: what it holds. -/
structure DE (w : World) (g B : Nat) (err fat n : Int) (en : Bool) (xs : List Int) (lv : Value) : Prop where
  blk : ∃ tv, Blk w g 43 #[.int .i64 n, .int .i64 err, .int .i64 fat, .bool en, lv, tv]
  list : QRow w B 51 1 lv xs.length (nums .u32 xs)
  off : (err == 0 && !en) = false
theorem denGo_len (t : ByteArray) : ∀ (f : Nat) (a : Int) (l : List Int) (n i b : Int) (once : Bool) (L : List Int), 0 ≤ a → a ≤ t.size → denGo t f a l n i b once = some L → (L.length : Int) ≤ l.length + (t.size - a)
  | 0, _, _, _, _, _, _, _, _, _, h => by cases h
  | f + 1, a, l, n, i, b, once, L, h0, h1, h => by
    rw [denGo] at h
    by_cases ha : a < (t.size : Int)
    · rw [if_pos ha] at h
      cases hg : getP t a b with
      | none => rw [hg] at h; cases h
      | some x =>
        obtain ⟨v, e⟩ := x
        rw [hg] at h
        obtain ⟨_, _, h3, h4⟩ := getP_range hg
        have h5 := h4 h1
        simp only at h
        split at h
        · have h6 := denGo_len t f e _ _ _ _ _ L (by omega) h5 h
          have hM0 : 0 ≤ (i + v) % ((l.length : Int) + 1) := Int.emod_nonneg _ (by omega)
          have hM1 : (i + v) % ((l.length : Int) + 1) < (l.length : Int) + 1 := Int.emod_lt_of_pos _ (by omega)
          rw [insL_len (by omega)] at h6
          omega
        · cases h
    · rw [if_neg ha] at h
      injection h with h
      rw [← h]
      omega
theorem denR_len (s : ByteArray) : (denR s).1.length ≤ s.size := by
  unfold denR
  cases h : denP s with
  | none => exact Nat.zero_le _
  | some L =>
    unfold denP at h
    simp only at h
    have hr := last_range s 45 s.size
    have h1 := denGo_len _ _ 0 _ _ _ _ _ L (by omega) (by omega) h
    by_cases hp : 0 < lastP s 45 s.size
    · rw [if_pos hp, if_pos hp, preL_len, ByteArray.size_extract] at h1
      show L.length ≤ s.size
      omega
    · rw [if_neg hp, if_neg hp] at h1
      show L.length ≤ s.size
      simp at h1
      omega
theorem denR_no {s : ByteArray} {L : List Int} (h : denR s = (L, false)) : L = [] := by
  unfold denR at h
  cases hd : denP s with
  | none => rw [hd] at h; injection h with h; exact h.symm
  | some x => rw [hd] at h; injection h with _ h; cases h
theorem hold_le {w : World} {g B : Nat} {err fat n : Int} {en : Bool} {tx : List Int} {lv tv : Value} (h : DX w g B err fat en n tx lv tv) {k : Nat} (hk : k = g ∨ some k = lv.ownBlock) : k = g ∨ B ≤ k := by
  rcases hk with h1 | h1
  · exact .inl h1
  · rw [h.own] at h1; cases h1
theorem q_far {w : World} {g B n : Nat} {v : Value} {xs : List Value} {cs : Array Value} {i : Nat} {x : Value} (h : QRow w B 51 1 v n xs) (hb : Blk w g 43 cs) : QRow (w.setCell ⟨g, i, none⟩ x) B 51 1 v n xs :=
  q_eff h (Eff.set w g i x) fun k hk e => own_types h hb (by decide) (by rw [hk, e])
theorem strOf_bytes (s : ByteArray) : strOfNums (preL s s.size) = s := by
  unfold strOfNums
  apply ByteArray.ext
  apply Array.toList_inj.1
  apply List.ext_getElem
  · simp [preL]
  · intro j h1 h2
    have hj : j < s.size := by simpa using h2
    simp only [preL, List.map_map, List.getElem_toArray, List.getElem_map, List.getElem_range, Function.comp]
    rw [← bt_at s (j : Int) (by rw [Int.toNat_natCast]; exact hj)]
    simp
    rfl
set_option maxRecDepth 100000 in
set_option maxHeartbeats 4000000 in
/-- End of a decoder that goes on. -/
theorem end_go (g B : Nat) (n E F : Int) (s : ByteArray) (L : List Int) (ok : Bool) (hden : denR s = (L, ok)) (hE : (ok, E, F) = (true, 0, 0) ∨ (ok, E, F) = (false, 4, n)) (lv tv : Value) (w : World) (hd : DG w g B n (preL s s.size) lv tv) (hB : B ≤ w.heap.size) (hs : s.size ≤ 1000000) :
    Calls Try.prog 26 #[.pointer (some ⟨g, 0, none⟩)] w fun e w' => e = .returned (.tuple #[]) ∧ Eff w w' (fun k => k = g ∨ B ≤ k) ∧
      ∃ lv', DE w' g B E F n ok L lv' := by
  have HDEN := Lib.hid hden
  have HEE := Lib.hid hE
  clear hden hE
  obtain ⟨X, hX⟩ : ∃ X, preL s s.size = X := ⟨_, rfl⟩
  have hstr : strOfNums X = s := by rw [← hX]; exact strOf_bytes s
  rw [hX] at hd
  obtain ⟨A, c, rfl, hc⟩ := q_slice hd.text
  have hcv : (convert 41 9 (.slice A X.length c)).run Try.prog w = .ok (.string s) w := by
    have h := string_of_reads (P := Try.prog) Try.underlying41 Try.underlying5 Try.underlying9 (c := c) (q_reads (k := .u8) hd.text)
    rw [hstr] at h
    exact h
  obtain ⟨c5, f5⟩ := hd.at5 (Below.refl _ _)
  have HD := Lib.hid hd
  have HBB := Lib.hid hB
  have HS := Lib.hid hs
  clear hd hB hX hstr
  go_enter Try.func26, Try.ntmps26
  go_wp2_with (go_at_call 38; refine (going_yes HD.out.blk rfl rfl).mono ?_; rintro e w1 ⟨rfl, rfl⟩)
  refine (denoted_c s _ HS.out).mono ?_
  rintro e w1 ⟨v1, rfl, ho1, hb1⟩
  obtain ⟨A1, c1, rfl, hc1⟩ := Go.Proofs.Ytegacgfhmigdjaa.own_slice ho1
  have HO1 := Lib.hid ho1
  have HB1 := Lib.hid hb1
  have HD1 := Lib.hid (HD.out.below hb1)
  have HBS : Hid (B ≤ w1.heap.size) := Lib.hid (Nat.le_trans HBB.out hb1.size)
  clear ho1 hb1
  have hden := HDEN.out
  have HL : Hid (L.length * 4 ≤ 140737488355328) := Lib.hid (by have h := denR_len s; rw [hden] at h; have h2 := HS.out; simp only at h; omega)
  rw [hden]
  cases ok with
  | true =>
    have HR : Hid (ReadsInt w1 .u32 A1 L.length L) := by have h := own_reads' HO1.out; rw [hden] at h; exact h
    clear hden
    go_wp2_with fail
    refine (hold_c (o := 4) (xs := []) (ys := L) (by decide) HD1.out.blk rfl HD1.out.list HBS.out HR.out (by rw [List.length_nil, Nat.zero_add]; exact HL.out)).mono ?_
    rintro e w2 ⟨rfl, v2, hb2, hq2, hat2, he2⟩
    have HB2 := Lib.hid hb2
    have HQ2 := Lib.hid hq2
    have HE2 := Lib.hid he2
    clear hb2 hq2 he2 hat2
    go_wp2_with fail
    refine (end_c HB2.out rfl rfl).mono ?_
    rintro e w3 ⟨rfl, rfl⟩
    go_wp2_with fail
    refine bodyPost_end (v := .tuple #[]) (by simp [results, Try.results26, go_sem]) rfl ⟨rfl, ?_, v2, ?_⟩
    · exact ((Eff.of_below HB1.out _).trans HE2.out (fun k hk h => hold_le HD1.out h)).trans (Eff.set w2 g 3 _) (fun _ _ h => .inl h)
    · have hE := HEE.out
      have h1 : E = 0 ∧ F = 0 := by
        rcases hE with h | h
        · injection h with _ h; injection h with h1 h2; exact ⟨h1, h2⟩
        · injection h with h _; cases h
      rw [h1.1, h1.2]
      exact ⟨⟨_, HB2.out.set 3 _⟩, q_far HQ2.out HB2.out, rfl⟩
  | false =>
    have hL : L = [] := denR_no hden
    subst hL
    have HR : Hid (ReadsInt w1 .u32 A1 0 []) := by have h := own_reads' HO1.out; rw [hden] at h; exact h
    clear hden
    go_wp2_with fail
    refine (stop_c (err := 4) (by decide) HD1.out.blk rfl rfl rfl rfl).mono ?_
    rintro e w2 ⟨rfl, hw2⟩
    have HD2 : Hid (DX w2 g B 4 n false n X lv (.slice A X.length c)) := Lib.hid (by rw [hw2]; exact HD1.out.stop 4)
    have HE2 : Hid (Eff w1 w2 (fun k => k = g ∨ B ≤ k)) := Lib.hid (by rw [hw2]; exact (Eff.set _ g 1 _).mono (fun _ _ h => .inl h) |>.trans (Eff.set _ g 2 _) (fun _ _ h => .inl h))
    have HR2 : Hid (ReadsInt w2 .u32 A1 0 []) := Lib.hid ⟨rfl, by decide, fun h => absurd h (Nat.lt_irrefl 0)⟩
    have HB2 : Hid (B ≤ w2.heap.size) := Lib.hid (Nat.le_trans HBS.out HE2.out.size)
    clear hw2
    go_wp2_with fail
    refine (hold_c (o := 4) (xs := []) (ys := []) (by decide) HD2.out.blk rfl HD2.out.list HB2.out HR2.out (by decide)).mono ?_
    rintro e w3 ⟨rfl, v3, hb3, hq3, hat3, he3⟩
    have HB3 := Lib.hid hb3
    have HQ3 := Lib.hid hq3
    have HE3 := Lib.hid he3
    clear hb3 hq3 he3 hat3
    go_wp2_with fail
    refine (end_not (err := 4) (en := false) HB3.out rfl rfl rfl).mono ?_
    rintro e w4 ⟨rfl, rfl⟩
    go_wp2_with fail
    refine bodyPost_end (v := .tuple #[]) (by simp [results, Try.results26, go_sem]) rfl ⟨rfl, ?_, v3, ?_⟩
    · exact ((Eff.of_below HB1.out _).trans HE2.out (fun _ _ h => h)).trans HE3.out (fun k hk h => hold_le HD2.out h)
    · have hE := HEE.out
      have h1 : E = 4 ∧ F = n := by
        rcases hE with h | h
        · injection h with h _; cases h
        · injection h with _ h; injection h with h1 h2; exact ⟨h1, h2⟩
      rw [h1.1, h1.2]
      exact ⟨⟨_, HB3.out⟩, HQ3.out, rfl⟩
end Go.Proofs.Ytegacgfhmigdjaa
/- puny.Decoder: what is told behind the end; NewDecoder; step.In's Done. -/
namespace Go.Proofs.Ytegacgfhmigdjaa
open Go.RowKit Go.Proofs.YtegacgfhmigdjaaW.PrintWords Go.Proofs.YtegacgfhmigdjaaW.PrintLast Go.Proofs.YtegacgfhmigdjaaW.PrintMore Go.Proofs.Ytegacgfhmigdjaa.PPu
set_option linter.unusedVariables false
set_option linter.unusedSimpArgs false

theorem newdec_c (w : World) : Calls Try.prog 12 #[] w fun e w' => e = .returned (.pointer (some ⟨w.heap.size, 0, none⟩)) ∧ w' = w.alloc (.cells #[.int .i64 0, .int .i64 0, .int .i64 0, .bool false, .slice none 0 0, .slice none 0 0] 43 (0, 0)) := by
  go_enter Try.func12, Try.ntmps12
  go_wp2_with fail
  go_ret
  exact ⟨rfl, rfl⟩
theorem DG.new (w : World) (B : Nat) : DG (w.alloc (.cells #[.int .i64 0, .int .i64 0, .int .i64 0, .bool false, .slice none 0 0, .slice none 0 0] 43 (0, 0))) w.heap.size B 0 [] (.slice none 0 0) (.slice none 0 0) :=
  ⟨Blk.new w _ _, ⟨rfl, .inl ⟨rfl, none, rfl, fun a h => by cases h⟩⟩, rfl, ⟨rfl, .inl ⟨rfl, none, rfl, fun a h => by cases h⟩⟩⟩
set_option maxRecDepth 100000 in
set_option maxHeartbeats 4000000 in
/-- No room: nothing is eaten. -/
theorem feed_zero (g B : Nat) (n : Int) (tx : List Int) (lv tv : Value) (s : ByteArray) (room : Int) (w : World) (hd : DG w g B n tx lv tv) (hr : ¬ 0 < room) :
    Calls Try.prog 25 #[.pointer (some ⟨g, 0, none⟩), .string s, .int .i64 room] w fun e w' => ∃ v lv', e = .returned (.tuple #[.int .i64 0, v]) ∧ w'.ownsRow w.heap.size 51 1 v 0 [] ∧ DG w' g B n tx lv' tv ∧ Eff w w' (fun k => k = g) := by
  have HD := Lib.hid hd
  clear hd
  have hs : s.size = 0 ∨ 0 < s.size := by omega
  have hr1 : decide (0 < room) = false := decide_eq_false hr
  rcases hs with hs | hs
  all_goals
    go_enter Try.func25, Try.ntmps25
    go_upto_block 0 with fail
    go_cut [8] (fun s8 wx => s8 = .int .i64 0 ∧ wx = w)
    case first =>
      go_wp2_with fail
      go_loopg [8] 0 (fun kq s8 wx => s8 = .int .i64 0 ∧ wx = w)
      case atStart => exact ⟨rfl, rfl⟩
      case round =>
        obtain ⟨rfl, rfl⟩ := hrel
        go_wp2_with fail
        go_meet
        exact ⟨rfl, rfl⟩
    case rest =>
      obtain ⟨rfl, rfl⟩ := hcut
      go_wp2_with (go_at_call 41; refine (tell_c (o := 4) (by decide) HD.out.blk rfl HD.out.list (by decide)).mono ?_; rintro e w1 ⟨v, lv', rfl, ho, hb, hq, hl, heff⟩)
      refine bodyPost_ret (v := .tuple #[.int .i64 0, v]) (by simp [results, Try.results25, go_sem]) rfl ?_
      exact ⟨v, lv', rfl, by rw [List.take_nil] at ho; exact ho, HD.out.told hb (by rw [List.drop_nil] at hq; exact hq) hl heff, heff⟩
set_option maxRecDepth 100000 in
set_option maxHeartbeats 4000000 in
/-- Behind the end: the next ones are told. -/
theorem feed_tell (g B : Nat) (err fat n : Int) (en : Bool) (xs : List Int) (lv : Value) (w : World) (hd : DE w g B err fat n en xs lv) (hl : xs.length ≤ 1000000) (room : Int) :
    Calls Try.prog 25 #[.pointer (some ⟨g, 0, none⟩), .string ⟨#[]⟩, .int .i64 room] w fun e w' => ∃ v lv', e = .returned (.tuple #[.int .i64 0, v]) ∧ w'.ownsRow w.heap.size 51 1 v (xs.take (giveN room xs.length)).length (nums .u32 (xs.take (giveN room xs.length))) ∧
      DE w' g B err fat n en (xs.drop (giveN room xs.length)) lv' ∧ Eff w w' (fun k => k = g) ∧ (lv'.ownBlock = lv.ownBlock ∨ lv'.ownBlock = none) := by
  have HD := Lib.hid hd
  have HL := Lib.hid hl
  clear hd hl
  go_enter Try.func25, Try.ntmps25
  go_upto_block 0 with fail
  go_cut [8] (fun s8 wx => s8 = .int .i64 0 ∧ wx = w)
  case first =>
    go_wp2_with fail
    go_loopg [8] 0 (fun kq s8 wx => s8 = .int .i64 0 ∧ wx = w)
    case atStart => exact ⟨rfl, rfl⟩
    case round =>
      obtain ⟨rfl, rfl⟩ := hrel
      go_wp2_with fail
      go_meet
      exact ⟨rfl, rfl⟩
  case rest =>
    obtain ⟨rfl, rfl⟩ := hcut
    obtain ⟨tv, hblk⟩ := HD.out.blk
    have HBK := Lib.hid hblk
    clear hblk
    go_wp2_with (go_at_call 41; refine (tell_c (o := 4) (by decide) HBK.out rfl HD.out.list (by have := HL.out; omega)).mono ?_; rintro e w1 ⟨v, lv', rfl, ho, hb, hq, hl, heff⟩)
    refine bodyPost_ret (v := .tuple #[.int .i64 0, v]) (by simp [results, Try.results25, go_sem]) rfl ?_
    exact ⟨v, lv', rfl, ho, ⟨⟨tv, hb⟩, hq, HD.out.off⟩, heff, hl⟩
set_option maxRecDepth 100000 in
/-- Is all told? -/
theorem done_c (g B : Nat) (err fat n : Int) (en : Bool) (xs : List Int) (lv : Value) (w : World) (hd : DE w g B err fat n en xs lv) :
    Calls Try.prog 29 #[.pointer (some ⟨g, 0, none⟩)] w fun e w' => e = .returned (.bool (xs.length == 0)) ∧ w = w' := by
  obtain ⟨tv, hblk⟩ := hd.blk
  obtain ⟨A, c, rfl, hc⟩ := q_slice hd.list
  have hg := going_c hblk rfl rfl
  rw [hd.off] at hg
  have hh := held_c (o := 4) hblk rfl
  clear hblk hd
  cases hz : (xs.length == 0)
  all_goals
    go_enter Try.func29, Try.ntmps29
    go_wp2_with (first
      | (go_at_call 38; refine hg.mono ?_; rintro e w1 ⟨rfl, rfl⟩)
      | (go_at_call 49; refine hh.mono ?_; rintro e w1 ⟨rfl, rfl⟩))
    go_ret
    first
      | exact ⟨rfl, rfl⟩
      | (refine ⟨?_, rfl⟩; simp at hz; simp [hz])
set_option maxRecDepth 100000 in
/-- End of a decoder that has met an error. -/
theorem end_err (g B : Nat) (err fat n : Int) (tx : List Int) (lv tv : Value) (w : World) (hd : DX w g B err fat false n tx lv tv) (he : err ≠ 0) :
    Calls Try.prog 26 #[.pointer (some ⟨g, 0, none⟩)] w fun e w' => e = .returned (.tuple #[]) ∧ w = w' ∧ DE w g B err fat n false [] lv := by
  have hg := going_err he hd.blk rfl rfl
  have HE : DE w g B err fat n false [] lv := ⟨⟨tv, hd.blk⟩, hd.list, by simp [he]⟩
  have HH := Lib.hid HE
  clear hd HE
  go_enter Try.func26, Try.ntmps26
  go_wp2_with (go_at_call 38; refine hg.mono ?_; rintro e w1 ⟨rfl, rfl⟩)
  exact bodyPost_ret (v := .tuple #[]) (by simp [results, Try.results26, go_sem]) rfl ⟨rfl, rfl, HH.out⟩
end Go.Proofs.Ytegacgfhmigdjaa
/- puny.Encoder: Feed, while it goes on. -/
namespace Go.Proofs.Ytegacgfhmigdjaa
open Go.RowKit Go.Proofs.YtegacgfhmigdjaaW.PrintWords Go.Proofs.YtegacgfhmigdjaaW.PrintLast Go.Proofs.YtegacgfhmigdjaaW.PrintMore Go.Proofs.Ytegacgfhmigdjaa.PPu
set_option linter.unusedVariables false
set_option linter.unusedSimpArgs false

/-- An encoder: what it has eaten, what went wrong, what waits. -/
structure EX (w : World) (g B : Nat) (err fat : Int) (en : Bool) (n : Int) (xs : List Int) (pend : ByteArray) (lv : Value) : Prop where
  blk : Blk w g 65 #[.int .i64 n, .int .i64 err, .int .i64 fat, .bool en, .string pend, lv]
  list : QRow w B 51 1 lv xs.length (nums .u32 xs)
theorem newenc_c (w : World) : Calls Try.prog 21 #[] w fun e w' => e = .returned (.pointer (some ⟨w.heap.size, 0, none⟩)) ∧ w' = w.alloc (.cells #[.int .i64 0, .int .i64 0, .int .i64 0, .bool false, .string ⟨#[]⟩, .slice none 0 0] 65 (0, 0)) := by
  go_enter Try.func21, Try.ntmps21
  go_wp2_with fail
  go_ret
  exact ⟨rfl, rfl⟩
theorem EX.new (w : World) (B : Nat) : EX (w.alloc (.cells #[.int .i64 0, .int .i64 0, .int .i64 0, .bool false, .string ⟨#[]⟩, .slice none 0 0] 65 (0, 0))) w.heap.size B 0 0 false 0 [] ⟨#[]⟩ (.slice none 0 0) :=
  ⟨Blk.new w _ _, ⟨rfl, .inl ⟨rfl, none, rfl, fun a h => by cases h⟩⟩⟩
theorem EX.below {w w1 : World} {g B : Nat} {err fat : Int} {en : Bool} {n : Int} {xs : List Int} {pend : ByteArray} {lv : Value} (h : EX w g B err fat en n xs pend lv) (hb : Below w.heap.size w w1) : EX w1 g B err fat en n xs pend lv :=
  ⟨h.blk.below hb, q_move h.list fun k hk => hb.block k (q_lt h.list k hk)⟩
theorem EX.at5 {w w1 : World} {g B : Nat} {err fat : Int} {en : Bool} {n : Int} {xs : List Int} {pend : ByteArray} {lv : Value} (h : EX w g B err fat en n xs pend lv) (hb : Below w.heap.size w w1) : w1.cell? ⟨g, 5, none⟩ = some lv ∧ w1.frozen? ⟨g, 5, none⟩ = false :=
  ⟨(h.blk.below hb).cell rfl, (h.blk.below hb).frozen 5⟩
theorem EX.at5g {w W w1 : World} {g B : Nat} {err fat : Int} {en : Bool} {n : Int} {xs : List Int} {pend : ByteArray} {lv : Value} (h : EX w g B err fat en n xs pend lv) (hb : Below w.heap.size w W) (hg : W.grownBy w1 lv.ownBlock) : w1.cell? ⟨g, 5, none⟩ = some lv ∧ w1.frozen? ⟨g, 5, none⟩ = false := by
  have h2 := h.below hb
  have hb1 : Blk w1 g _ _ := (hg.block g h2.blk.lt (own_types h2.list h2.blk (by decide))).trans h2.blk
  exact ⟨hb1.cell rfl, hb1.frozen 5⟩
theorem EX.step {w0 w W w1 : World} {g B : Nat} {err fat : Int} {en : Bool} {n : Int} {xs xs1 : List Int} {pend : ByteArray} {lv lv1 : Value} (h : EX w g B err fat en n xs pend lv) (hb : Below w.heap.size w W) (hg : W.grownBy w1 lv.ownBlock) (hq : QRow w1 B 51 1 lv1 xs1.length (nums .u32 xs1)) (hE : Eff w0 w (fun k => k = g ∨ B ≤ k)) :
    EX (w1.setCell ⟨g, 5, none⟩ lv1) g B err fat en n xs1 pend lv1 ∧ Eff w0 (w1.setCell ⟨g, 5, none⟩ lv1) (fun k => k = g ∨ B ≤ k) := by
  have h2 := h.below hb
  have hb1 : Blk w1 g _ _ := (hg.block g h2.blk.lt (own_types h2.list h2.blk (by decide))).trans h2.blk
  have hne1 := own_types hq hb1 (by decide)
  refine ⟨⟨hb1.set 5 lv1, q_move hq fun k hk => Below.heap_setCell w1 _ _ k fun e => hne1 (by rw [hk, e])⟩, ?_⟩
  exact ((hE.trans (Eff.of_below hb _) (fun _ _ h => h)).trans (Eff.of_grown hg) (fun k _ hk => .inr (q_own_ge h.list k hk.symm))).trans (Eff.set w1 g 5 lv1) (fun k _ hk => .inl hk)
theorem EX.eat {w : World} {g B : Nat} {err fat : Int} {en : Bool} {n : Int} {xs : List Int} {pend : ByteArray} {lv : Value} (h : EX w g B err fat en n xs pend lv) (m : Int) : EX (w.setCell ⟨g, 0, none⟩ (.int .i64 m)) g B err fat en m xs pend lv := by
  have hne := own_types h.list h.blk (by decide)
  exact ⟨h.blk.set 0 _, q_move h.list fun k hk => Below.heap_setCell w _ _ k fun e => hne (by rw [hk, e])⟩
theorem EX.stop {w : World} {g B : Nat} {n : Int} {xs : List Int} {pend : ByteArray} {lv : Value} (h : EX w g B 0 0 false n xs pend lv) (e : Int) : EX ((w.setCell ⟨g, 1, none⟩ (.int .i64 e)).setCell ⟨g, 2, none⟩ (.int .i64 n)) g B e n false n xs pend lv := by
  have hne := own_types h.list h.blk (by decide)
  refine ⟨(h.blk.set 1 _).set 2 _, q_move h.list fun k hk => ?_⟩
  have hk2 : k ≠ g := fun e => hne (by rw [hk, e])
  rw [Below.heap_setCell _ _ _ k hk2, Below.heap_setCell _ _ _ k hk2]
/-- How many are eaten: those ahead of the first that is no scalar. -/
def scalN (ys : List Int) : Nat → Nat → Nat
  | 0, i => i
  | k + 1, i => if i < ys.length then (if isP (ys.getD i 0) = true then scalN ys k (i + 1) else i) else i
theorem scal_stop {ys : List Int} {i : Nat} (hi : i < ys.length) (hb : isP (ys.getD i 0) = false) : scalN ys (ys.length - i) i = i := by
  obtain ⟨k, hk⟩ : ∃ k, ys.length - i = k + 1 := ⟨ys.length - i - 1, by omega⟩
  rw [hk, scalN, if_pos hi, if_neg (by rw [hb]; decide)]
theorem scal_on {ys : List Int} {i : Nat} (hi : i < ys.length) (hb : isP (ys.getD i 0) = true) : scalN ys (ys.length - i) i = scalN ys (ys.length - (i + 1)) (i + 1) := by
  obtain ⟨k, hk⟩ : ∃ k, ys.length - i = k + 1 := ⟨ys.length - i - 1, by omega⟩
  rw [hk, scalN, if_pos hi, if_pos hb, show ys.length - (i + 1) = k by omega]
theorem scal_end {ys : List Int} {i : Nat} (hi : i = ys.length) : scalN ys (ys.length - i) i = ys.length := by
  subst hi; rw [Nat.sub_self]; rfl
def encN (ys : List Int) : Nat := scalN ys ys.length 0
theorem reads_oned (w : World) (x : Int) : ReadsInt (w.alloc (.cells #[.int .u32 x] 51 (0, 0))).drew .u32 (some ⟨w.heap.size, 0, none⟩) 1 [x] := reads_one w x x rfl
theorem take_succ_getD (ys : List Int) (i : Nat) (h : i < ys.length) : ys.take (i + 1) = ys.take i ++ [ys.getD i 0] := by
  rw [List.take_add_one, List.getD_eq_getElem?_getD, List.getElem?_eq_getElem h]
  rfl
/-- The numbers that come, and where they lie: not in the encoder's own row. -/
structure SrcU (w : World) (g pb po : Nat) (ys : List Int) (lv : Value) : Prop where
  ne : pb ≠ g
  own : lv.ownBlock ≠ some pb
  lt : ys.length ≠ 0 → pb < w.heap.size
  cells : ∀ j, j < ys.length → w.cell? ⟨pb, po + j, none⟩ = some (.int .u32 (ys.getD j 0))
theorem SrcU.set {w : World} {g pb po i : Nat} {ys : List Int} {lv v : Value} (h : SrcU w g pb po ys lv) : SrcU (w.setCell ⟨g, i, none⟩ v) g pb po ys lv := by
  refine ⟨h.ne, h.own, fun hl => Nat.lt_of_lt_of_le (h.lt hl) (by simp [World.setCell]), fun j hj => ?_⟩
  have hc := h.cells j hj
  have hb : (w.setCell ⟨g, i, none⟩ v).heap[pb]? = w.heap[pb]? := Below.heap_setCell w ⟨g, i, none⟩ v pb h.ne
  unfold World.cell? at hc ⊢
  simp only at hc ⊢
  rw [hb]
  exact hc
theorem SrcU.grown {w W w1 : World} {g pb po : Nat} {ys : List Int} {lv lv1 : Value} (h : SrcU w g pb po ys lv) (hl : ys.length ≠ 0) (hb : Below w.heap.size w W) (hg : W.grownBy w1 lv.ownBlock) (hat : lv1.ownBlock = lv.ownBlock ∨ ∃ b, lv1.ownBlock = some b ∧ W.heap.size ≤ b) : SrcU w1 g pb po ys lv1 := by
  have hlt := h.lt hl
  have hlW : pb < W.heap.size := Nat.lt_of_lt_of_le hlt hb.size
  refine ⟨h.ne, ?_, fun _ => Nat.lt_of_lt_of_le hlW hg.size, fun j hj => ?_⟩
  · rcases hat with e | ⟨b, e, hb2⟩
    · rw [e]; exact h.own
    · rw [e]; intro e2; injection e2 with e2; omega
  · have hc := h.cells j hj
    have hblk : w1.heap[pb]? = w.heap[pb]? := (hg.block pb hlW fun e => h.own e.symm).trans (hb.block pb hlt)
    unfold World.cell? at hc ⊢
    simp only at hc ⊢
    rw [hblk]
    exact hc
theorem SrcU.below {w w1 : World} {g pb po : Nat} {ys : List Int} {lv : Value} (h : SrcU w g pb po ys lv) (hb : Below w.heap.size w w1) : SrcU w1 g pb po ys lv :=
  ⟨h.ne, h.own, fun hl => Nat.lt_of_lt_of_le (h.lt hl) hb.size, fun j hj => (hb.cell (p := ⟨pb, po + j, none⟩) (h.lt (by omega))).trans (h.cells j hj)⟩
theorem empty_extract (a b : Nat) : (⟨#[]⟩ : ByteArray).extract a b = ⟨#[]⟩ := by
  have h : ((⟨#[]⟩ : ByteArray).extract a b).size = 0 := by rw [ByteArray.size_extract]; show min b 0 - a = 0; omega
  exact ByteArray.ext (Array.eq_empty_of_size_eq_zero h)
theorem EX.pend {w : World} {g B : Nat} {err fat : Int} {en : Bool} {n : Int} {xs : List Int} {p : ByteArray} {lv : Value} (h : EX w g B err fat en n xs p lv) (q : ByteArray) : EX (w.setCell ⟨g, 4, none⟩ (.string q)) g B err fat en n xs q lv := by
  have hne := own_types h.list h.blk (by decide)
  exact ⟨h.blk.set 4 _, q_move h.list fun k hk => Below.heap_setCell w _ _ k fun e => hne (by rw [hk, e])⟩
/-- What Feed leaves behind. -/
def EncF (w0 w : World) (g B : Nat) (n : Int) (xs ys : List Int) : Prop :=
  (∃ lv, EX w g B (if encN ys < ys.length then 2 else 0) (if encN ys < ys.length then n + encN ys else 0) false (n + encN ys) (xs ++ ys.take (encN ys)) ⟨#[]⟩ lv) ∧ Eff w0 w (fun k => k = g ∨ B ≤ k)
set_option maxRecDepth 100000 in
set_option maxHeartbeats 4000000 in
theorem enc_go (g B pb po c : Nat) (n : Int) (xs ys : List Int) (lv : Value) (room : Int) (w : World) (hd : EX w g B 0 0 false n xs ⟨#[]⟩ lv) (hsrc : SrcU w g pb po ys lv) (hB : B ≤ w.heap.size) (h0 : 0 ≤ n) (hn : n + ys.length ≤ 1000000) (hl : xs.length + ys.length ≤ 1000000) :
    Calls Try.prog 27 #[.pointer (some ⟨g, 0, none⟩), .slice (some ⟨pb, po, none⟩) ys.length c, .int .i64 room] w fun e w' => e = .returned (.tuple #[.int .i64 (encN ys), .string ⟨#[]⟩]) ∧ EncF w w' g B n xs ys := by
  have HD := Lib.hid hd
  have HSR := Lib.hid hsrc
  have HH := Lib.hid (And.intro hB (And.intro h0 (And.intro hn hl)))
  clear hd hsrc hB h0 hn hl
  go_enter Try.func27, Try.ntmps27
  go_upto_block 0 with fail
  go_cut [8] (fun s8 wx => s8 = .int .i64 (encN ys) ∧ Hid (EncF w wx g B n xs ys))
  case first =>
    go_wp2_with fail
    go_loopg [8] (ys.length) (fun kq s8 wx => ∃ (i : Nat) (lv1 : Value), s8 = .int .i64 i ∧ Hid (kq = ys.length - i ∧ i ≤ ys.length ∧ scalN ys (ys.length - i) i = encN ys) ∧ Hid (EX wx g B 0 0 false (n + i) (xs ++ ys.take i) ⟨#[]⟩ lv1) ∧ Hid (SrcU wx g pb po ys lv1) ∧ Hid (Eff w wx (fun k => k = g ∨ B ≤ k)))
    case atStart => exact ⟨0, lv, rfl, Lib.hid ⟨rfl, Nat.zero_le _, rfl⟩, Lib.hid (by simpa using HD.out), HSR, Lib.hid (Eff.refl _ _)⟩
    case round =>
      obtain ⟨i, lv1, rfl, HK, HG, HS, HE⟩ := hrel
      by_cases hi : i < ys.length
      · have hi0 : (0 : Int) ≤ (i : Int) := by omega
        have hi3 : (i : Int) < (ys.length : Int) := by omega
        have hss : ys.length ≤ 1000000 := by have := HH.out; omega
        have hcc := HS.out.cells i hi
        obtain ⟨y, hy⟩ : ∃ y, ys.getD i 0 = y := ⟨_, rfl⟩
        rw [hy] at hcc
        have HY := Lib.hid hy
        have HNZ : Hid (ys.length ≠ 0) := Lib.hid (by omega)
        clear hy
        cases hb : isP y with
        | false =>
          have HN : Hid (encN ys = i ∧ i < ys.length) := Lib.hid ⟨HK.out.2.2.symm.trans (scal_stop hi (by rw [HY.out]; exact hb)), hi⟩
          have hic := fun W => is_c y W
          rw [hb] at hic
          clear hb
          go_wp2_with (first
            | (go_at_call 38; refine (going_yes HG.out.blk rfl rfl).mono ?_; rintro e w1 ⟨rfl, rfl⟩)
            | (go_at_call 45; refine (hic _).mono ?_; rintro e w2 ⟨rfl, hb2⟩; have HB2 := Lib.hid hb2; have HG2 := Lib.hid (HG.out.below hb2); clear hb2)
            | (go_at_call 39; refine (stop_c (err := 2) (by decide) HG2.out.blk rfl rfl rfl rfl).mono ?_; rintro e w3 ⟨rfl, rfl⟩))
          go_meet
          refine ⟨by rw [HN.out.1], Lib.hid ⟨⟨lv1, ?_⟩, ?_⟩⟩
          · rw [HN.out.1, if_pos HN.out.2, if_pos HN.out.2]
            exact HG2.out.stop 2
          · exact ((HE.out.trans (Eff.of_below HB2.out _) (fun _ _ h => h)).trans (Eff.set _ g 1 _) (fun _ _ h => .inl h)).trans (Eff.set _ g 2 _) (fun _ _ h => .inl h)
        | true =>
          have HN : Hid (scalN ys (ys.length - (i + 1)) (i + 1) = encN ys) := Lib.hid ((scal_on hi (by rw [HY.out]; exact hb)).symm.trans HK.out.2.2)
          have hic := fun W => is_c y W
          rw [hb] at hic
          clear hb
          go_upto_region 5 with (first
            | (go_at_call 38; refine (going_yes HG.out.blk rfl rfl).mono ?_; rintro e w1 ⟨rfl, rfl⟩)
            | (go_at_call 45; refine (hic _).mono ?_; rintro e w2 ⟨rfl, hb2⟩; have HB2 := Lib.hid hb2; have HG2 := Lib.hid (HG.out.below hb2); clear hb2))
          obtain ⟨X, hX⟩ : ∃ X, xs ++ ys.take i = X := ⟨_, rfl⟩
          have HXX : Hid (xs ++ ys.take (i + 1) = X ++ [y]) := Lib.hid (by rw [take_succ_getD ys i hi, HY.out, ← List.append_assoc, hX])
          have HXL : Hid (X.length = xs.length + i) := Lib.hid (by rw [← hX, List.length_append, List.length_take]; omega)
          have HG3 : Hid (EX w2 g B 0 0 false (n + i) X ⟨#[]⟩ lv1) := by rw [← hX]; exact HG2
          have HS2 := Lib.hid (HS.out.below HB2.out)
          have HE2 := Lib.hid (HE.out.trans (Eff.of_below HB2.out _) (fun _ _ h => h))
          clear HG HG2 HS HE hX hcc hic
          obtain ⟨A1, c1, rfl, hc1⟩ := q_slice HG3.out.list
          have mixed : Try.prog.follows Departure.mixedOrders = true := by kernel_rfl
          have hcc1 := HS2.out.cells i hi
          have hcc2 := (HS2.out.below (below_alloc (Below.refl _ _) (.cells #[.int .u32 y] 51 (0, 0)))).cells i hi
          rw [HY.out] at hcc1 hcc2
          obtain ⟨hS0, hS1⟩ := HG3.out.at5 (Below.refl _ _)
          obtain ⟨hS2, hS3⟩ := HG3.out.at5 (below_alloc (Below.refl _ _) (.cells #[.int .u32 y] 51 (0, 0)))
          have HSZ : Hid (B ≤ w2.heap.size) := Lib.hid (Nat.le_trans HH.out.1 HE2.out.size)
          have HLB : Hid ((X.length + 1) * 4 ≤ 140737488355328) := Lib.hid (by have := HXL.out; have := HH.out; omega)
          go_cut [8] (fun s8 wx => s8 = .int .i64 i ∧ ∃ lv2, Hid (EX wx g B 0 0 false (n + i) (xs ++ ys.take (i + 1)) ⟨#[]⟩ lv2) ∧ Hid (SrcU wx g pb po ys lv2) ∧ Hid (Eff w wx (fun k => k = g ∨ B ≤ k)))
          case first =>
            go_region_law_o (refine q_step B rfl (.tmp 35) (.tmp 40) 26 51 .u32 4 rfl Try.underlying26 info_u32 (by decide) (.slice A1 X.length c1) X [y] (some ⟨w2.heap.size, 0, none⟩) 1 1 (by rfl) (by rfl) (HG3.out.below (below_drew1 (below_alloc (Below.refl _ _) _))).list (reads_oned w2 _) (Nat.le_trans HSZ.out (by simp)) HLB.out ?_; intro v7 w7 hq7 hg7 hat7; have HS7 := Lib.hid (HS2.out.grown HNZ.out (below_drew1 (below_alloc (Below.refl _ _) _)) hg7 hat7); obtain ⟨A7, k7, rfl, hk7⟩ := q_slice hq7; have HQ7 := Lib.hid hq7; have HG7 := Lib.hid hg7; obtain ⟨hS7, hS8⟩ := HG3.out.at5g (below_drew1 (below_alloc (Below.refl _ _) _)) hg7; clear hq7 hg7 hat7)
            all_goals (go_wp2_with fail; go_meet)
            all_goals
              rw [show X.length + 1 = (X ++ [y]).length by simp]
              obtain ⟨a1, a2⟩ := HG3.out.step (below_drew1 (below_alloc (Below.refl _ _) _)) HG7.out HQ7.out HE2.out
              exact ⟨rfl, _, Lib.hid (by rw [HXX.out]; exact a1), Lib.hid HS7.out.set, Lib.hid a2⟩
          case rest =>
            obtain ⟨rfl, lv2, HG4, HS4, HE4⟩ := hcut
            go_wp2_with (go_at_call 40; refine (eat_c HG4.out.blk rfl rfl rfl (by have := HH.out; omega) (by have := HH.out; omega)).mono ?_; rintro e w3 ⟨rfl, rfl⟩)
            go_roundg (gk - 1)
            case measure => have := HK.out; omega
            case rel => exact ⟨i + 1, lv2, by go_num, Lib.hid ⟨by have := HK.out; omega, by omega, HN.out⟩, Lib.hid (by have h := HG4.out.eat (n + i + 1); rw [show n + ((i + 1 : Nat) : Int) = n + i + 1 by omega]; exact h), Lib.hid HS4.out.set, Lib.hid (HE4.out.trans (Eff.set _ g 0 _) (fun _ _ h => .inl h))⟩
      · have HIQ : Hid (i = ys.length) := Lib.hid (by have := HK.out; omega)
        have HN : Hid (encN ys = ys.length) := Lib.hid (HK.out.2.2.symm.trans (scal_end HIQ.out))
        have hi3 : ¬ (i : Int) < (ys.length : Int) := by omega
        go_wp2_with fail
        go_meet
        refine ⟨by rw [HN.out, HIQ.out], Lib.hid ⟨⟨lv1, ?_⟩, HE.out⟩⟩
        rw [HN.out, if_neg (Nat.lt_irrefl _), if_neg (Nat.lt_irrefl _), ← HIQ.out]
        exact HG.out
  case rest =>
    obtain ⟨rfl, HF⟩ := hcut
    obtain ⟨⟨lv2, hx⟩, he⟩ := HF.out
    have HX := Lib.hid hx
    have HE := Lib.hid he
    clear hx he HF
    go_wp2_with (go_at_call 46; refine (give_c (o := 4) HX.out.blk rfl).mono ?_; rintro e w1 ⟨rfl, rfl⟩)
    rw [empty_extract]
    refine bodyPost_ret (v := .tuple #[.int .i64 (encN ys), .string ⟨#[]⟩]) (by simp [results, Try.results27, go_sem]) rfl ?_
    exact ⟨rfl, ⟨lv2, by have h := HX.out.pend ((⟨#[]⟩ : ByteArray).extract (giveN room 0) 0); rw [empty_extract] at h; exact (by first | exact h | (rw [empty_extract]; exact h))⟩, HE.out.trans (Eff.set _ g 4 _) (fun _ _ h => .inl h)⟩
end Go.Proofs.Ytegacgfhmigdjaa
/- What a reader has eaten: plain laws, and one contract for Feed at whatever room. -/
namespace Go.Proofs.Ytegacgfhmigdjaa
open Go.RowKit Go.Proofs.YtegacgfhmigdjaaW.PrintWords Go.Proofs.YtegacgfhmigdjaaW.PrintLast Go.Proofs.YtegacgfhmigdjaaW.PrintMore Go.Proofs.Ytegacgfhmigdjaa.PPu
set_option linter.unusedVariables false
set_option linter.unusedSimpArgs false

theorem bt_extract (s : ByteArray) (m e j : Nat) (he : e ≤ s.size) (hj : m + j < e) : bt (s.extract m e) (j : Int) = bt s ((m + j : Nat) : Int) := by
  have h1 : j < (s.extract m e).size := by rw [ByteArray.size_extract]; omega
  rw [← bt_at (s.extract m e) (j : Int) (by rw [Int.toNat_natCast]; exact h1), ← bt_at s ((m + j : Nat) : Int) (by rw [Int.toNat_natCast]; omega)]
  simp only [Int.toNat_natCast]
  congr 2
  exact ByteArray.getElem_extract h1
theorem low_le (s : ByteArray) : ∀ k i, i ≤ lowN s k i
  | 0, i => Nat.le_refl _
  | k + 1, i => by
    rw [lowN]
    split
    · split
      · exact Nat.le_refl _
      · exact Nat.le_trans (Nat.le_succ _) (low_le s k (i + 1))
    · exact Nat.le_refl _
theorem low_size (s : ByteArray) : ∀ k i, i ≤ s.size → lowN s k i ≤ s.size
  | 0, i, h => h
  | k + 1, i, h => by
    rw [lowN]
    split
    · split
      · exact h
      · exact low_size s k (i + 1) (by omega)
    · exact h
theorem feedN_le (s : ByteArray) : feedN s ≤ s.size := low_size s _ 0 (Nat.zero_le _)
theorem low_shift (s : ByteArray) (m n : Nat) (h : m + n ≤ s.size) : ∀ (k i : Nat), i + k = n →
    lowN s (s.size - (m + i)) (m + i) = if lowN (s.extract m (m + n)) k i < n then m + lowN (s.extract m (m + n)) k i else lowN s (s.size - (m + n)) (m + n)
  | 0, i, hk => by
    have : i = n := by omega
    subst this
    rw [lowN, if_neg (Nat.lt_irrefl _)]
  | k + 1, i, hk => by
    have hz : (s.extract m (m + n)).size = n := by rw [ByteArray.size_extract]; omega
    have hb := bt_extract s m (m + n) i h (by omega)
    obtain ⟨q, hq⟩ : ∃ q, s.size - (m + i) = q + 1 := ⟨s.size - (m + i) - 1, by omega⟩
    rw [hq, lowN, if_pos (show m + i < s.size by omega), lowN, if_pos (show i < (s.extract m (m + n)).size by rw [hz]; omega), hb]
    by_cases hc : bt s ((m + i : Nat) : Int) ≥ 128
    · rw [if_pos hc, if_pos hc, if_pos (show i < n by omega)]
    · rw [if_neg hc, if_neg hc]
      have := low_shift s m n h k (i + 1) (by omega)
      rw [show q = s.size - (m + (i + 1)) by omega]
      exact this
theorem preL_add (s : ByteArray) (m n : Nat) (h : m + n ≤ s.size) : ∀ e, e ≤ n → preL s m ++ preL (s.extract m (m + n)) e = preL s (m + e)
  | 0, _ => by simp [preL]
  | e + 1, he => by
    rw [preL_succ, ← List.append_assoc, preL_add s m n h e (by omega), bt_extract s m (m + n) e h (by omega), show m + (e + 1) = m + e + 1 by omega, preL_succ]
theorem rest_extract (s : ByteArray) (m e : Nat) (h : m + e ≤ s.size) : (s.extract m s.size).extract e (s.extract m s.size).size = s.extract (m + e) s.size := by
  rw [ByteArray.extract_extract, ByteArray.size_extract]
  congr 1
  omega
theorem part_extract (s : ByteArray) (m n : Nat) (h : m + n ≤ s.size) : (s.extract m s.size).extract 0 n = s.extract m (m + n) := by
  rw [ByteArray.extract_extract]
  congr 1
  omega
/-- How many are eaten with so much room. -/
def eatN (room : Nat) (t : ByteArray) : Nat := if room = 0 then 0 else feedN t
def badN (room : Nat) (t : ByteArray) : Prop := 0 < room ∧ feedN t < t.size
instance (room : Nat) (t : ByteArray) : Decidable (badN room t) := by unfold badN; infer_instance
theorem eatN_le (room : Nat) (t : ByteArray) : eatN room t ≤ t.size := by
  unfold eatN; split
  · exact Nat.zero_le _
  · exact feedN_le t
theorem feed_any (g B : Nat) (n : Int) (tx : List Int) (lv tv : Value) (s : ByteArray) (room : Nat) (w : World) (hd : DG w g B n tx lv tv) (hB : B ≤ w.heap.size) (h0 : 0 ≤ n) (hn : n + s.size ≤ 1000000) (hl : tx.length + s.size ≤ 1000000) :
    Calls Try.prog 25 #[.pointer (some ⟨g, 0, none⟩), .string s, .int .i64 room] w fun e w' => ∃ v lv' tv', e = .returned (.tuple #[.int .i64 (eatN room s), v]) ∧ w'.ownsRow w.heap.size 51 1 v 0 [] ∧
      DX w' g B (if badN room s then 3 else 0) (if badN room s then n + eatN room s else 0) false (n + eatN room s) (tx ++ preL s (eatN room s)) lv' tv' ∧ Eff w w' (fun k => k = g ∨ B ≤ k) := by
  by_cases hr : room = 0
  · subst hr
    refine (feed_zero g B n tx lv tv s 0 w hd (by decide)).mono ?_
    rintro e w' ⟨v, lv', rfl, ho, hx, he⟩
    have e1 : eatN 0 s = 0 := rfl
    have e2 : ¬ badN 0 s := fun h => absurd h.1 (Nat.lt_irrefl 0)
    rw [e1, if_neg e2, if_neg e2]
    refine ⟨v, lv', tv, rfl, ho, ?_, he.mono fun _ _ h => .inl h⟩
    have : tx ++ preL s 0 = tx := by simp [preL]
    rw [this]
    simpa using hx
  · refine (feed_go g B n tx lv tv s room w hd (by omega) hB h0 hn hl).mono ?_
    rintro e w' ⟨v, lv', rfl, ho, ⟨⟨tv', hx⟩, he⟩⟩
    have e1 : eatN room s = feedN s := by unfold eatN; rw [if_neg hr]
    have e2 : badN room s ↔ feedN s < s.size := ⟨fun h => h.2, fun h => ⟨by omega, h⟩⟩
    rw [e1]
    refine ⟨v, lv', tv', rfl, ho, ?_, he⟩
    by_cases hb : feedN s < s.size
    · rw [if_pos (e2.2 hb), if_pos (e2.2 hb)]
      rw [if_pos hb, if_pos hb] at hx
      exact hx
    · rw [if_neg (fun h => hb (e2.1 h)), if_neg (fun h => hb (e2.1 h))]
      rw [if_neg hb, if_neg hb] at hx
      exact hx
end Go.Proofs.Ytegacgfhmigdjaa
/- pilcrowlaw10.read, walked. -/
namespace Go.Proofs.Ytegacgfhmigdjaa
open Go.RowKit Go.Proofs.YtegacgfhmigdjaaW.PrintWords Go.Proofs.YtegacgfhmigdjaaW.PrintLast Go.Proofs.YtegacgfhmigdjaaW.PrintMore Go.Proofs.Ytegacgfhmigdjaa.PPu
set_option linter.unusedVariables false
set_option linter.unusedSimpArgs false

/-- Numbers that were handed in: they lie where the decoder doesn't. -/
def HandI (w : World) (g B : Nat) (A : Option Addr) (l : List Int) : Prop := l = [] ∨ ∃ pb po, A = some ⟨pb, po, none⟩ ∧ pb ≠ g ∧ pb < B ∧ ∀ j, j < l.length → w.cell? ⟨pb, po + j, none⟩ = some (.int .i64 (l.getD j 0))
theorem HandI.eff {w w1 : World} {g B : Nat} {A : Option Addr} {l : List Int} (h : HandI w g B A l) (he : Eff w w1 (fun k => k = g ∨ B ≤ k)) : HandI w1 g B A l := by
  rcases h with h | ⟨pb, po, h1, h2, h3, h4⟩
  · exact .inl h
  · refine .inr ⟨pb, po, h1, h2, h3, fun j hj => ?_⟩
    have hc := h4 j hj
    have hlt := World.block_lt_of_cell? w _ hc
    have hb := he.block pb hlt (fun e => e.elim h2 (fun e => by omega))
    unfold World.cell? at hc ⊢
    simp only at hc ⊢
    rw [hb]
    exact hc
theorem giveN_mm (p : Int) (n : Nat) : min (max p 0) (n : Int) = (giveN p n : Int) := by unfold giveN; omega
theorem giveN_m100 (p : Int) : min (max p 0) 100 = (giveN p 100 : Int) := by unfold giveN; omega
theorem append_none (A : Option Addr) (c : Nat) (ty : TypeId) (W : World) : (Builtin.append_ #[26, 26] ty #[.slice none 0 0, .slice A 0 c]).run Try.prog W = .ok (.slice none 0 0) W := by
  obtain ⟨i0, hi, hzz⟩ := Option.map_eq_some_iff.1 info_u32
  cases A <;> simp [Builtin.append_, run_underlying Try.underlying26, sizeOf, typeInfo, hi, Builtin.lenOf, Builtin.firstCells, storeCells, loadCells, loadCellsFrom]
set_option maxRecDepth 100000 in
theorem field_err (a b : Value) (w : World) : (Instr.field 33 (.agg #[a, b]) 0).run Try.prog w = .ok a w := by kernel_rfl
theorem bytes_len (X : ByteArray) : X.toList.length = X.size := by
  rw [ByteArray.toList_eq]; simp
/-- What a part brings. -/
structure PartF (s T : ByteArray) (m nn rm E : Nat) : Prop where
  le : m + E ≤ s.size
  en : E ≤ nn
  pre : preL s m ++ preL T E = preL s (m + E)
  bad : badN rm T → feedN s = m + E ∧ m + E < s.size
  good : ¬ badN rm T → lowN s (s.size - (m + E)) (m + E) = feedN s
  all : ¬ badN rm T → 0 < rm → E = nn
theorem part_facts (s : ByteArray) (m nn rm : Nat) (h : m + nn ≤ s.size) (hlow : lowN s (s.size - m) m = feedN s) : PartF s (s.extract m (m + nn)) m nn rm (eatN rm (s.extract m (m + nn))) := by
  have hz : (s.extract m (m + nn)).size = nn := by rw [ByteArray.size_extract]; omega
  have hE : eatN rm (s.extract m (m + nn)) ≤ nn := by have := eatN_le rm (s.extract m (m + nn)); omega
  have hsh := low_shift s m nn h nn 0 (by omega)
  have hf : feedN (s.extract m (m + nn)) = lowN (s.extract m (m + nn)) nn 0 := by unfold feedN; rw [hz]
  rw [Nat.add_zero, hlow, ← hf] at hsh
  have hfl : feedN (s.extract m (m + nn)) ≤ nn := by have := feedN_le (s.extract m (m + nn)); omega
  refine ⟨by omega, hE, preL_add s m nn h _ hE, fun hb => ?_, fun hb => ?_, fun hb h0 => ?_⟩
  · have e : eatN rm (s.extract m (m + nn)) = feedN (s.extract m (m + nn)) := by unfold eatN; rw [if_neg (by have := hb.1; omega)]
    have h2 := hb.2
    rw [hz] at h2
    rw [e]
    rw [if_pos h2] at hsh
    exact ⟨hsh, by omega⟩
  · by_cases h0 : rm = 0
    · have e : eatN rm (s.extract m (m + nn)) = 0 := by unfold eatN; rw [if_pos h0]
      rw [e]
      exact hlow
    · have e : eatN rm (s.extract m (m + nn)) = feedN (s.extract m (m + nn)) := by unfold eatN; rw [if_neg h0]
      have h2 : ¬ feedN (s.extract m (m + nn)) < nn := fun h2 => hb ⟨by omega, by rw [hz]; exact h2⟩
      rw [if_neg h2] at hsh
      rw [e, show feedN (s.extract m (m + nn)) = nn by omega]
      exact hsh.symm
  · have e : eatN rm (s.extract m (m + nn)) = feedN (s.extract m (m + nn)) := by unfold eatN; rw [if_neg (by omega)]
    have h2 : ¬ feedN (s.extract m (m + nn)) < nn := fun h2 => hb ⟨h0, by rw [hz]; exact h2⟩
    omega
/-- What a text is read as: the scalars, whether it ends well, what went wrong and where. -/
def ReadF (s : ByteArray) (L : List Int) (en : Bool) (E F : Int) : Prop :=
  (feedN s < s.size ∧ L = [] ∧ en = false ∧ E = 3 ∧ F = (feedN s : Int)) ∨ (feedN s = s.size ∧ denR s = (L, en) ∧ ((en, E, F) = (true, 0, 0) ∨ (en, E, F) = (false, 4, (feedN s : Int))))
theorem ReadF.len {s : ByteArray} {L : List Int} {en : Bool} {E F : Int} (h : ReadF s L en E F) : L.length ≤ s.size := by
  rcases h with ⟨_, rfl, _⟩ | ⟨_, h, _⟩
  · exact Nat.zero_le _
  · have := denR_len s; rw [h] at this; exact this
theorem DE.grown {w w1 : World} {g B base : Nat} {err fat n : Int} {en : Bool} {xs ys : List Int} {lv v : Value} (h : DE w g B err fat n en xs lv) (ho : w.ownsRow base 51 1 v ys.length (nums .u32 ys)) (hl : ∀ k, lv.ownBlock = some k → k < base) (hg : w.grownBy w1 v.ownBlock) : DE w1 g B err fat n en xs lv := by
  obtain ⟨tv, hb⟩ := h.blk
  refine ⟨⟨tv, (hg.block g hb.lt (own_types (q_of_own ho) hb (by decide))).trans hb⟩, q_move h.list fun k hk => hg.block k (q_lt h.list k hk) fun e => ?_, h.off⟩
  have h1 := hl k hk
  have h2 := q_own_ge (q_of_own ho) k e.symm
  omega
theorem own_keep {w w1 : World} {g base n : Nat} {v : Value} {xs : List Value} {cs : Array Value} (h : w.ownsRow base 51 1 v n xs) (hb : Blk w g 43 cs) (he : Eff w w1 (fun k => k = g)) : w1.ownsRow base 51 1 v n xs :=
  own_move h fun k hk => he.block k (by obtain ⟨cells, hc⟩ := own_typed h k hk; exact (Array.getElem?_eq_some_iff.1 hc).1) fun e => own_types (q_of_own h) hb (by decide) (by rw [hk, e])
/-- What is known at the head of the loop. -/
structure RI (w wx : World) (g B : Nat) (s : ByteArray) (m : Nat) (lv tv o : Value) : Prop where
  le : m ≤ s.size
  low : lowN s (s.size - m) m = feedN s
  dec : DG wx g B (m : Int) (preL s m) lv tv
  out : o = .slice none 0 0
  eff : Eff w wx (fun k => k = g ∨ B ≤ k)
/-- .. and behind it. -/
def RO (w wx : World) (g B : Nat) (s : ByteArray) (o : Value) : Prop :=
  (∃ lv tv, DX wx g B (if feedN s < s.size then 3 else 0) (if feedN s < s.size then (feedN s : Int) else 0) false (feedN s : Int) (preL s (feedN s)) lv tv) ∧ o = .slice none 0 0 ∧ Eff w wx (fun k => k = g ∨ B ≤ k)
set_option maxRecDepth 100000 in
set_option maxHeartbeats 4000000 in
theorem read_c (g B : Nat) (s : ByteArray) (AP AR : Option Addr) (cp cr : Nat) (lp lr : List Int) (w : World) (hd : DG w g B 0 [] (.slice none 0 0) (.slice none 0 0)) (hB : B ≤ w.heap.size) (hs : s.size ≤ 100000) (hlp : lp.length ≤ 1000000) (hlr : lr.length ≤ 1000000)
    (hp : HandI w g B AP lp) (hr : HandI w g B AR lr) (L : List Int) (en : Bool) (E F : Int) (hres : ReadF s L en E F) :
    Calls Try.prog 13 #[.pointer (some ⟨g, 0, none⟩), .string s, .slice AP lp.length cp, .slice AR lr.length cr] w fun e w' => ∃ v lv', e = .returned (.tuple #[v, .bool true]) ∧ w'.ownsRow w.heap.size 51 1 v L.length (nums .u32 L) ∧ DE w' g B E F (feedN s : Int) en [] lv' ∧ Eff w w' (fun k => k = g ∨ B ≤ k) := by
  have HD := Lib.hid hd
  have HB := Lib.hid hB
  have HS := Lib.hid hs
  have HLP := Lib.hid hlp
  have HLR := Lib.hid hlr
  have HPP := Lib.hid hp
  have HRR := Lib.hid hr
  have HDN := Lib.hid hres
  have hmost : (lp.length : Int) + lr.length + s.size + 8 ≤ 9223372036854775807 := by omega
  clear hd hB hp hr hres hlp hlr hs
  go_enter Try.func13, Try.ntmps13
  obtain ⟨MO, hMO⟩ : ∃ MO : Int, (lp.length : Int) + lr.length + s.size + 8 = MO := ⟨_, rfl⟩
  have HMO := Lib.hid hMO
  go_upto_region 2 with fail
  go_cut [11] (fun s11 wx => s11 = .int .i64 MO ∧ wx = w)
  case first =>
    go_wp2_with fail
    go_meet
    exact ⟨by rw [← HMO.out], rfl⟩
  obtain ⟨rfl, hwe⟩ := hcut
  obtain rfl := hwe.symm
  clear hMO hmost
  go_upto_block 0 with fail
  go_cut [10] (fun s10 wx => Hid (RO w wx g B s s10))
  case first =>
    go_wp2_with fail
    go_loopg [1, 10, 12] (lp.length + lr.length + 1) (fun kq s1 s10 s12 wx => ∃ (m k : Nat) (lv tv : Value), s1 = .string (s.extract m s.size) ∧ s12 = .int .i64 k ∧ Hid (k ≤ max lp.length lr.length ∧ kq = lp.length + lr.length + 1 - k) ∧ Hid (RI w wx g B s m lv tv s10))
    case atStart => exact ⟨0, 0, .slice none 0 0, .slice none 0 0, by rw [ByteArray.extract_zero_size], rfl, Lib.hid ⟨Nat.zero_le _, rfl⟩, Lib.hid ⟨Nat.zero_le _, rfl, HD.out, rfl, Eff.refl _ _⟩⟩
    case round =>
      obtain ⟨m, k, lv, tv, rfl, rfl, HK, HI⟩ := hrel
      have hk1 : (k : Int) < MO := by have := HK.out; have := HMO.out; omega
      have hk0 : (0 : Int) ≤ (k : Int) := by omega
      have hkb : k ≤ 1000000 := by have := HK.out; have := HLP.out; have := HLR.out; omega
      obtain ⟨RS, hRS⟩ : ∃ RS, s.extract m s.size = RS := ⟨_, rfl⟩
      have HRS := Lib.hid hRS
      have hrs : RS.size = s.size - m := by rw [← hRS, ByteArray.size_extract]; omega
      have HRZ := Lib.hid hrs
      rw [hRS]
      clear hRS hrs
      go_upto_if 39 with fail
      go_cut [13, 39] (fun s13 s39 wx => wx = wr ∧ ∃ nn : Nat, s13 = .int .i64 nn ∧ Hid (nn ≤ RS.size ∧ (lp.length ≤ k → nn = RS.size)))
      case first =>
        by_cases hc : k < lp.length
        · have hc1 : (k : Int) < (lp.length : Int) := by omega
          rcases (HPP.out.eff HI.out.eff) with h | ⟨pb, po, rfl, _, _, hcell⟩
          · rw [h] at hc; exact absurd hc (Nat.not_lt_zero _)
          · have hcc := hcell k hc
            obtain ⟨p, hp⟩ : ∃ p, lp.getD k 0 = p := ⟨_, rfl⟩
            rw [hp] at hcc
            have HC := Lib.hid hc
            clear hcell hp
            go_wp2_with fail
            all_goals go_meet
            all_goals exact ⟨rfl, giveN p RS.size, by rw [giveN_mm], Lib.hid ⟨giveN_le _ _, fun h => by have := HC.out; omega⟩⟩
        · have hc1 : ¬ (k : Int) < (lp.length : Int) := by omega
          clear hc
          go_wp2_with fail
          go_meet
          exact ⟨rfl, RS.size, rfl, Lib.hid ⟨Nat.le_refl _, fun _ => rfl⟩⟩
      case rest =>
        obtain ⟨rfl, nn, rfl, HNN⟩ := hcut
        go_upto_if 50 with fail
        go_cut [14, 50] (fun s14 s50 wx => wx = wc ∧ ∃ rm : Nat, s14 = .int .i64 rm ∧ Hid (rm ≤ 100 ∧ (lr.length ≤ k → rm = 8)))
        case first =>
          by_cases hc : k < lr.length
          · have hc1 : (k : Int) < (lr.length : Int) := by omega
            rcases (HRR.out.eff HI.out.eff) with h | ⟨pb, po, rfl, _, _, hcell⟩
            · rw [h] at hc; exact absurd hc (Nat.not_lt_zero _)
            · have hcc := hcell k hc
              obtain ⟨p, hp⟩ : ∃ p, lr.getD k 0 = p := ⟨_, rfl⟩
              rw [hp] at hcc
              have HC := Lib.hid hc
              clear hcell hp
              go_wp2_with fail
              all_goals go_meet
              all_goals exact ⟨rfl, giveN p 100, by rw [giveN_m100], Lib.hid ⟨giveN_le _ _, fun h => by have := HC.out; omega⟩⟩
          · have hc1 : ¬ (k : Int) < (lr.length : Int) := by omega
            clear hc
            go_wp2_with fail
            go_meet
            exact ⟨rfl, 8, rfl, Lib.hid ⟨by decide, fun _ => rfl⟩⟩
        case rest =>
          obtain ⟨rfl, rm, rfl, HRM⟩ := hcut
          have ho10 := HI.out.out
          subst ho10
          have hnn0 : (0 : Int) ≤ (nn : Int) := by omega
          have hnn1 : (nn : Int) ≤ (RS.size : Int) := by have := HNN.out.1; omega
          have hT : RS.extract 0 nn = s.extract m (m + nn) := by rw [← HRS.out]; exact part_extract s m nn (by have := HNN.out.1; have := HRZ.out; have := HI.out.le; omega)
          have HPF : Hid (PartF s (s.extract m (m + nn)) m nn rm (eatN rm (s.extract m (m + nn)))) := Lib.hid (part_facts s m nn rm (by have := HNN.out.1; have := HRZ.out; have := HI.out.le; omega) HI.out.low)
          have hTz : (s.extract m (m + nn)).size = nn := by rw [ByteArray.size_extract]; have := HNN.out.1; have := HRZ.out; have := HI.out.le; omega
          have HTB : Hid ((m : Int) + (s.extract m (m + nn)).size ≤ 1000000 ∧ (preL s m).length + (s.extract m (m + nn)).size ≤ 1000000) := Lib.hid (by rw [preL_len, hTz]; have := HNN.out.1; have := HRZ.out; have := HI.out.le; have := HS.out; omega)
          clear hTz
          obtain ⟨T, hTe⟩ : ∃ T, s.extract m (m + nn) = T := ⟨_, rfl⟩
          rw [hTe] at hT HPF HTB
          clear hTe
          go_wp2_with fail
          refine (feed_any g B m (preL s m) lv tv T rm _ HI.out.dec (Nat.le_trans HB.out HI.out.eff.size) (by omega) HTB.out.1 HTB.out.2).mono ?_
          rintro e w1 ⟨v, lv', tv', rfl, ho, hx, he⟩
          obtain ⟨A1, c1, rfl, hc1⟩ := Go.Proofs.Ytegacgfhmigdjaa.own_slice ho
          have hap := append_none A1 c1
          have HE : Hid (Eff w w1 (fun k => k = g ∨ B ≤ k)) := Lib.hid (HI.out.eff.trans he (fun _ _ h => h))
          have HX : Hid (DX w1 g B (if badN rm T then 3 else 0) (if badN rm T then (m : Int) + eatN rm T else 0) false ((m + eatN rm T : Nat) : Int) (preL s (m + eatN rm T)) lv' tv') := Lib.hid (by rw [← HPF.out.pre, Int.natCast_add]; exact hx)
          clear ho hx he hc1
          obtain ⟨E, hE⟩ : ∃ E, eatN rm T = E := ⟨_, rfl⟩
          rw [hE] at HPF HX
          rw [hE]
          clear hE
          have d1 : decide ((E : Int) < 0) = false := decide_eq_false (by omega)
          have d2 : decide ((nn : Int) < (E : Int)) = false := decide_eq_false (by have := HPF.out.en; omega)
          have d3 : decide ((rm : Int) < 0) = false := decide_eq_false (by omega)
          have hEn : E ≤ nn := HPF.out.en
          have d4 : decide (nn < E) = false := decide_eq_false (by omega)
          have hE0 : (0 : Int) ≤ (E : Int) := by omega
          have hE1 : (E : Int) ≤ (RS.size : Int) := by have := HPF.out.en; omega
          go_upto_region 16 with (at_builtin; refine Lib.wpList_append_run _ rfl _ _ _ _ rfl _ _ rfl rfl _ _ (hap _ _) ?_)
          have hEB := HX.out.blk
          have hfe := fun (a b : Value) (w : World) => field_err a b w
          clear d1 d2 d3 d4 hE1 hap hT
          by_cases hbad : badN rm T
          · rw [if_pos hbad, if_pos hbad] at hEB
            have HBAD := Lib.hid hbad
            have HEB := Lib.hid hEB
            clear hEB hbad
            go_wp2_with (go_at_call 16; refine (fail_c HEB.out rfl rfl).mono ?_; rintro e w2 ⟨rfl, hb2⟩; have HB2 := Lib.hid hb2; clear hb2)
            go_meet
            obtain ⟨h1, h2⟩ := HPF.out.bad HBAD.out
            have hx := HX.out.below HB2.out
            rw [if_pos HBAD.out, if_pos HBAD.out] at hx
            refine Lib.hid ⟨⟨lv', tv', ?_⟩, rfl, HE.out.trans (Eff.of_below HB2.out _) (fun _ _ h => h)⟩
            rw [h1, if_pos h2, if_pos h2]
            rw [← Int.natCast_add] at hx
            exact hx
          · rw [if_neg hbad, if_neg hbad] at hEB
            have HBAD := Lib.hid hbad
            have HEB := Lib.hid hEB
            clear hEB hbad
            have HRE : Hid (RS.extract E RS.size = s.extract (m + E) s.size) := Lib.hid (by rw [← HRS.out]; exact rest_extract s m E HPF.out.le)
            obtain ⟨X, hX⟩ : ∃ X, RS.extract E RS.size = X := ⟨_, rfl⟩
            have HXE : Hid (X = s.extract (m + E) s.size) := Lib.hid (by rw [← hX]; exact HRE.out)
            rw [hX]
            clear hX
            have hXz : X.size = s.size - (m + E) := by rw [HXE.out, ByteArray.size_extract]; omega
            have HXZ := Lib.hid hXz
            clear hXz
            by_cases hemp : X.size = 0
            · have hXn : X = ⟨#[]⟩ := ByteArray.ext (Array.eq_empty_of_size_eq_zero hemp)
              subst hXn
              by_cases hkp : (lp.length : Int) ≤ (k : Int)
              · go_wp2_with (go_at_call 16; refine (fail_c HEB.out rfl rfl).mono ?_; rintro e w2 ⟨rfl, hb2⟩; have HB2 := Lib.hid hb2; clear hb2)
                go_meet
                have HRI : Hid (RI w w2 g B s (m + E) lv' tv' (.slice none 0 0)) := Lib.hid ⟨HPF.out.le, HPF.out.good HBAD.out, by have h := HX.out.below HB2.out; rw [if_neg HBAD.out, if_neg HBAD.out] at h; exact h, rfl, HE.out.trans (Eff.of_below HB2.out _) (fun _ _ h => h)⟩
                have hz : m + E = s.size := by have := HXZ.out; have := HPF.out.le; have h0 : (⟨#[]⟩ : ByteArray).size = 0 := rfl; omega
                have hf : feedN s = s.size := HRI.out.low.symm.trans (low_end hz)
                refine Lib.hid ⟨⟨lv', tv', ?_⟩, rfl, HRI.out.eff⟩
                rw [hf, if_neg (Nat.lt_irrefl _), if_neg (Nat.lt_irrefl _), ← hz]
                exact HRI.out.dec
              · go_wp2_with (go_at_call 16; refine (fail_c HEB.out rfl rfl).mono ?_; rintro e w2 ⟨rfl, hb2⟩; have HB2 := Lib.hid hb2; clear hb2)
                have HRI : Hid (RI w w2 g B s (m + E) lv' tv' (.slice none 0 0)) := Lib.hid ⟨HPF.out.le, HPF.out.good HBAD.out, by have h := HX.out.below HB2.out; rw [if_neg HBAD.out, if_neg HBAD.out] at h; exact h, rfl, HE.out.trans (Eff.of_below HB2.out _) (fun _ _ h => h)⟩
                go_roundg (gk - 1)
                case measure => have := HK.out; omega
                case rel => exact ⟨m + E, k + 1, lv', tv', by rw [HXE.out], by go_num, Lib.hid ⟨by have := HK.out; omega, by have := HK.out; omega⟩, HRI⟩
            · have hXne : X ≠ ⟨#[]⟩ := fun e => hemp (by rw [e]; rfl)
              have hXb : ¬ X.toList = [] := fun e => hemp (by have h := bytes_len X; rw [e] at h; simpa using h.symm)
              have hXc : decide (X.toList = []) = false := decide_eq_false hXb
              by_cases hkp : (lp.length : Int) ≤ (k : Int)
              · by_cases hkr : (lr.length : Int) ≤ (k : Int)
                · exfalso
                  have h1 := HRM.out.2 (by omega)
                  have h2 := HNN.out.2 (by omega)
                  have h3 := HPF.out.all HBAD.out (by omega)
                  have h4 := HXZ.out
                  have h5 := HRZ.out
                  omega
                · go_wp2_with (go_at_call 16; refine (fail_c HEB.out rfl rfl).mono ?_; rintro e w2 ⟨rfl, hb2⟩; have HB2 := Lib.hid hb2; clear hb2)
                  have HRI : Hid (RI w w2 g B s (m + E) lv' tv' (.slice none 0 0)) := Lib.hid ⟨HPF.out.le, HPF.out.good HBAD.out, by have h := HX.out.below HB2.out; rw [if_neg HBAD.out, if_neg HBAD.out] at h; exact h, rfl, HE.out.trans (Eff.of_below HB2.out _) (fun _ _ h => h)⟩
                  go_roundg (gk - 1)
                  case measure => have := HK.out; omega
                  case rel => exact ⟨m + E, k + 1, lv', tv', by rw [HXE.out], by go_num, Lib.hid ⟨by have := HK.out; omega, by have := HK.out; omega⟩, HRI⟩
              · go_wp2_with (go_at_call 16; refine (fail_c HEB.out rfl rfl).mono ?_; rintro e w2 ⟨rfl, hb2⟩; have HB2 := Lib.hid hb2; clear hb2)
                have HRI : Hid (RI w w2 g B s (m + E) lv' tv' (.slice none 0 0)) := Lib.hid ⟨HPF.out.le, HPF.out.good HBAD.out, by have h := HX.out.below HB2.out; rw [if_neg HBAD.out, if_neg HBAD.out] at h; exact h, rfl, HE.out.trans (Eff.of_below HB2.out _) (fun _ _ h => h)⟩
                go_roundg (gk - 1)
                case measure => have := HK.out; omega
                case rel => exact ⟨m + E, k + 1, lv', tv', by rw [HXE.out], by go_num, Lib.hid ⟨by have := HK.out; omega, by have := HK.out; omega⟩, HRI⟩
  case rest =>
    obtain ⟨⟨lv, tv, hx⟩, rfl, he⟩ := hcut.out
    have HX := Lib.hid hx
    have HE := Lib.hid he
    clear hx he hcut
    go_upto_region 19 with fail
    go_cut [10] (fun s10 wx => s10 = .slice none 0 0 ∧ ∃ lv, Hid (DE wx g B E F (feedN s : Int) en L lv) ∧ Hid (Eff w wx (fun k => k = g ∨ B ≤ k)))
    case first =>
      rcases HDN.out with ⟨h1, rfl, rfl, rfl, rfl⟩ | ⟨h1, h2, h3⟩
      · have hx := HX.out
        rw [if_pos h1, if_pos h1] at hx
        have HX2 := Lib.hid hx
        clear hx h1 HX
        go_wp2_with fail
        refine (end_err g B 3 _ _ _ lv tv _ HX2.out (by decide)).mono ?_
        rintro e w1 ⟨rfl, rfl, hd⟩
        have HDE := Lib.hid hd
        clear hd
        go_wp2_with fail
        go_meet
        exact ⟨rfl, lv, HDE, HE⟩
      · have hx := HX.out
        rw [if_neg (by omega), if_neg (by omega)] at hx
        have hpre : preL s (feedN s) = preL s s.size := by rw [h1]
        rw [hpre] at hx
        have HX2 := Lib.hid hx
        have H2 := Lib.hid h2
        have H3 := Lib.hid h3
        clear hx h1 h2 h3 HX hpre
        go_wp2_with fail
        refine (end_go g B _ E F s L en H2.out H3.out lv tv _ HX2.out (Nat.le_trans HB.out HE.out.size) (by have := HS.out; omega)).mono ?_
        rintro e w1 ⟨rfl, he1, lv', hd⟩
        have HDE := Lib.hid hd
        have HE1 := Lib.hid (HE.out.trans he1 (fun _ _ h => h))
        clear hd he1
        go_wp2_with fail
        go_meet
        exact ⟨rfl, lv', HDE, HE1⟩
    case rest =>
      obtain ⟨rfl, lv0, HD0, HE0⟩ := hcut
      have HLL : Hid (L.length ≤ 100000) := Lib.hid (Nat.le_trans HDN.out.len HS.out)
      clear HX HE HD HDN
      obtain ⟨base, hbase⟩ : ∃ base, base = wc.heap.size := ⟨_, rfl⟩
      have HBS : Hid (w.heap.size ≤ base ∧ base ≤ wc.heap.size) := Lib.hid ⟨by rw [hbase]; exact HE0.out.size, Nat.le_of_eq hbase⟩
      have HLB : Hid (∀ k, lv0.ownBlock = some k → k < base) := Lib.hid (fun k hk => by rw [hbase]; exact q_lt HD0.out.list k hk)
      clear hbase
      go_wp2_with fail
      go_loopg [10, 17] (L.length) (fun kq s10 s17 wx => ∃ (o r : List Int) (j : Nat) (lv : Value), s17 = .int .i64 j ∧ Hid (o ++ r = L ∧ kq = r.length ∧ j ≤ o.length ∧ base ≤ wx.heap.size) ∧ Hid (wx.ownsRow base 51 1 s10 o.length (nums .u32 o)) ∧ Hid (DE wx g B E F (feedN s : Int) en r lv ∧ ∀ k, lv.ownBlock = some k → k < base) ∧ Hid (Eff w wx (fun k => k = g ∨ B ≤ k)))
      case atStart => exact ⟨[], L, 0, lv0, rfl, Lib.hid ⟨rfl, rfl, Nat.le_refl _, HBS.out.2⟩, Lib.hid ⟨rfl, .inl ⟨rfl, rfl⟩⟩, Lib.hid ⟨HD0.out, HLB.out⟩, HE0⟩
      case round =>
        obtain ⟨o, r, j, lv, rfl, HK, HO, HDE, HE⟩ := hrel
        have hdone := done_c g B E F (feedN s : Int) en r lv wr HDE.out.1
        by_cases hr : r.length = 0
        · have hr0 : r = [] := List.eq_nil_of_length_eq_zero hr
          subst hr0
          have hoL : o = L := by have := HK.out.1; rw [List.append_nil] at this; exact this
          have HOL := Lib.hid hoL
          clear hr hoL
          go_wp2_with (go_at_call 29; refine hdone.mono ?_; rintro e w1 ⟨rfl, rfl⟩)
          refine bodyPost_ret (v := .tuple #[u10, .bool true]) (by simp [results, Try.results13, go_sem]) rfl ?_
          refine ⟨u10, lv, rfl, ?_, HDE.out.1, HE.out⟩
          rw [← HOL.out]
          exact Go.Proofs.Ytegacgfhmigdjaa.own_le HO.out HBS.out.1
        · have hrb : (r.length == 0) = false := by rw [beq_eq_false_iff_ne]; exact hr
          rw [hrb] at hdone
          have HR := Lib.hid hr
          clear hr hrb
          go_wp2_with (go_at_call 29; refine hdone.mono ?_; rintro e w1 ⟨rfl, rfl⟩)
          refine (feed_tell g B E F (feedN s : Int) en r lv _ HDE.out.1 (by have h := HK.out.1; have h2 := congrArg List.length h; rw [List.length_append] at h2; have := HLL.out; omega) 8).mono ?_
          rintro e w2 ⟨v, lv', rfl, ho, hd, he, hl⟩
          obtain ⟨Y, hY⟩ : ∃ Y, r.take (giveN 8 r.length) = Y := ⟨_, rfl⟩
          have hYl : Y.length = giveN 8 r.length := by rw [← hY, List.length_take]; exact Nat.min_eq_left (giveN_le _ _)
          have HY : Hid (Y ++ r.drop (giveN 8 r.length) = r) := Lib.hid (by rw [← hY]; exact List.take_append_drop _ _)
          rw [hY] at ho
          obtain ⟨A1, c1, rfl, hc1⟩ := Go.Proofs.Ytegacgfhmigdjaa.own_slice ho
          have HRS : Hid (ReadsInt w2 .u32 A1 Y.length Y) := Lib.hid (own_reads' ho)
          have HD2 : Hid (DE w2 g B E F (feedN s : Int) en (r.drop (giveN 8 r.length)) lv' ∧ ∀ k, lv'.ownBlock = some k → k < base) := Lib.hid ⟨hd, fun k hk => by
            rcases hl with h | h
            · exact HDE.out.2 k (by rw [← h]; exact hk)
            · rw [h] at hk; cases hk⟩
          have HO2 : Hid (w2.ownsRow base 51 1 u10 o.length (nums .u32 o)) := Lib.hid (by obtain ⟨tv, hb⟩ := HDE.out.1.blk; exact own_keep HO.out hb he)
          have HE2 : Hid (Eff w w2 (fun k => k = g ∨ B ≤ k)) := Lib.hid (HE.out.trans he (fun _ _ h => .inl h))
          have HB2 : Hid (base ≤ w2.heap.size) := Lib.hid (Nat.le_trans HK.out.2.2.2 he.size)
          have HG : Hid (giveN 8 r.length = Y.length ∧ 0 < Y.length ∧ Y.length ≤ 8) := Lib.hid ⟨hYl.symm, by rw [hYl]; unfold giveN; have := HR.out; omega, by rw [hYl]; unfold giveN; omega⟩
          have HSZ : Hid ((o.length + Y.length) * 4 ≤ 140737488355328 ∧ j ≤ 100000) := Lib.hid (by
            have h2 := congrArg List.length HK.out.1
            rw [List.length_append] at h2
            have := HLL.out
            have := HK.out.2.2.1
            have := HG.out.2.2
            omega)
          have hm0 : ¬ Y.length = 0 := by have := HG.out; omega
          have hm1 : ((Y.length : Int) == 0) = false := by rw [beq_eq_false_iff_ne]; omega
          have hm2 : decide (8 < (Y.length : Int)) = false := decide_eq_false (by have := HG.out; omega)
          have hm3 : decide (8 < Y.length) = false := decide_eq_false (by have := HG.out; omega)
          have hj1 : decide (100000 < (j : Int)) = false := decide_eq_false (by have := HSZ.out; omega)
          have hj2 : decide (100000 < j) = false := decide_eq_false (by have := HSZ.out; omega)
          have hm4 : Y.length ≤ 8 := HG.out.2.2
          have hj3 : j ≤ 100000 := HSZ.out.2
          clear ho hd he hl hY hYl hc1 hdone
          go_wp2_with (at_builtin; refine print_append_row (w0 := w2) base rfl (.tmp 142) (.tmp 143) 26 51 .u32 4 rfl Try.underlying26 info_u32 (by decide) u10 o Y A1 Y.length c1 rfl rfl HO2.out HRS.out (Below.refl _ _) HB2.out HSZ.out.1 ?_; intro v3 w3 ho3 hb3 hg3 hat3; have HO3 := Lib.hid ho3; have HB3 := Lib.hid hb3; have HG3 := Lib.hid hg3; clear ho3 hb3 hg3 hat3)
          go_roundg (r.length - Y.length)
          case measure => have := HG.out; have := HK.out; have := HR.out; omega
          case rel => exact ⟨o ++ Y, r.drop (giveN 8 r.length), j + 1, lv', by go_num, Lib.hid ⟨by rw [List.append_assoc, HY.out]; exact HK.out.1, by rw [List.length_drop, HG.out.1], by rw [List.length_append]; have := HG.out; have := HK.out; omega, Nat.le_trans HB2.out HB3.out.size⟩, HO3, Lib.hid ⟨HD2.out.1.grown HO2.out HD2.out.2 HG3.out, HD2.out.2⟩, Lib.hid (HE2.out.trans (Eff.of_grown HG3.out) (fun k _ hk => .inr (Nat.le_trans (Nat.le_trans HB.out HBS.out.1) (q_own_ge (q_of_own HO2.out) k hk.symm))))⟩
end Go.Proofs.Ytegacgfhmigdjaa
/- pilcrowref10.Denoted, walked. -/
namespace Go.Proofs.Ytegacgfhmigdjaa
open Go.RowKit Go.Proofs.YtegacgfhmigdjaaW.PrintWords Go.Proofs.YtegacgfhmigdjaaW.PrintLast Go.Proofs.YtegacgfhmigdjaaW.PrintMore Go.Proofs.Ytegacgfhmigdjaa.PPu
set_option linter.unusedVariables false
set_option linter.unusedSimpArgs false

theorem rget_c (s : ByteArray) (at_ b : Int) (w : World) (hs : s.size ≤ 1000000000) (h0 : 0 ≤ at_) (h1 : at_ ≤ s.size) :
    Calls Try.prog 50 #[.string s, .int .i64 at_, .int .i64 b] w fun e w' => ∃ r1 r2 r3, e = .returned (.tuple #[.int .u64 r1, .int .i64 r2, .int .i64 r3]) ∧ (match getP s at_ b with | some (v, e) => r1 = v ∧ r2 = e ∧ r3 = 0 | none => r3 ≠ 0) ∧ Below w.heap.size w w' := by
  have h := rget_f s b at_ hs h0 h1 (40 * s.size + 110) (Nat.le_refl _)
  cases hg : getP s at_ b with
  | none =>
    rw [hg] at h
    obtain ⟨er, he, hr⟩ := h
    exact (pilcrowref09_Get.calls _ s at_ b _ _ _ w hr).mono fun e w' h => ⟨_, _, _, h.1, he, by obtain ⟨nd, h2⟩ := h.2; rw [h2]; exact below_drewN' (Below.refl _ _) nd⟩
  | some x =>
    obtain ⟨v, e⟩ := x
    rw [hg] at h
    exact (pilcrowref09_Get.calls _ s at_ b _ _ _ w h).mono fun e w' h => ⟨_, _, _, h.1, ⟨rfl, rfl, rfl⟩, by obtain ⟨nd, h2⟩ := h.2; rw [h2]; exact below_drewN' (Below.refl _ _) nd⟩
theorem radapt_c (delta points : Int) (first : Bool) (w : World) (h0 : 0 ≤ delta) (h1 : delta ≤ topP) (hp : 1 ≤ points) :
    Calls Try.prog 37 #[.int .u64 delta, .int .u64 points, .bool first] w fun e w' => e = .returned (.int .i64 (adaptP delta points first)) ∧ Below w.heap.size w w' := by
  refine (pilcrowref09_Adapt.calls 30 delta points first _ w (radapt_f delta points first h0 h1 hp 30 (Nat.le_refl _))).mono ?_
  rintro e w' ⟨rfl, h2⟩
  exact ⟨rfl, by first | exact h2 | (obtain ⟨nd, h3⟩ := h2; rw [h3]; exact below_drewN' (Below.refl _ _) nd)⟩
theorem ris_c (n : Int) (w : World) : Calls Try.prog 34 #[.int .u32 n] w fun e w' => e = .returned (.bool (isP n)) ∧ Below w.heap.size w w' := by
  refine (pilcrowref01_Is.calls n (isP n) w ?_).mono ?_
  · unfold pilcrowref01_Is.f isP
    repeat' split
    all_goals first | rfl | (congr 1; simp; omega) | (exfalso; omega)
  · rintro e w' ⟨rfl, ⟨nd, rfl⟩⟩
    exact ⟨rfl, below_drewN' (Below.refl _ _) nd⟩
/-- Get behind a beginning that is left out. -/
theorem getI_shift (s : ByteArray) (off : Nat) (ho : off ≤ s.size) (b : Int) : ∀ (k : Nat) (a n w place : Int), 0 ≤ a → a ≤ (s.extract off s.size).size →
    getI s b k (off + a) n w place = (getI (s.extract off s.size) b k a n w place).map fun (x : Int × Int) => (x.1, x.2 + (off : Int))
  | 0, _, _, _, _, _, _ => rfl
  | k + 1, a, n, w, place, h0, h1 => by
    have hz : (s.extract off s.size).size = s.size - off := by rw [ByteArray.size_extract]; omega
    rw [getI, getI]
    by_cases he : a = ((s.extract off s.size).size : Int)
    · rw [if_pos he, if_pos (show (off : Int) + a = s.size by rw [hz] at he; omega)]; rfl
    · rw [if_neg he, if_neg (show ¬ (off : Int) + a = s.size by rw [hz] at he; omega)]
      have hb : bt s (off + a) = bt (s.extract off s.size) a := by
        obtain ⟨j, rfl⟩ : ∃ j : Nat, a = j := ⟨a.toNat, by omega⟩
        have hj : j < s.size - off := by rw [hz] at he h1; omega
        have h2 : j < (s.extract off s.size).size := by omega
        rw [← bt_at (s.extract off s.size) (j : Int) (by rw [Int.toNat_natCast]; exact h2), ← Int.natCast_add, ← bt_at s ((off + j : Nat) : Int) (by rw [Int.toNat_natCast]; omega)]
        simp only [Int.toNat_natCast]
        congr 2
        exact (ByteArray.getElem_extract h2).symm
      rw [hb]
      cases digP (bt (s.extract off s.size) a) with
      | none => rfl
      | some d =>
        simp only
        split
        · rfl
        split
        · simp only [Option.map_some]; congr 2; omega
        · rw [show (off : Int) + a + 1 = off + (a + 1) by omega]
          exact getI_shift s off ho b k (a + 1) _ _ _ (by omega) (by rw [hz] at he h1 ⊢; omega)
theorem getP_shift (s : ByteArray) (off : Nat) (ho : off ≤ s.size) (b a : Int) (h0 : 0 ≤ a) (h1 : a ≤ (s.extract off s.size).size) : getP s (off + a) b = (getP (s.extract off s.size) a b).map fun (x : Int × Int) => (x.1, x.2 + (off : Int)) := by
  have hz : (s.extract off s.size).size = s.size - off := by rw [ByteArray.size_extract]; omega
  unfold getP
  rw [show ((s.size : Int) - (off + a)).toNat = (((s.extract off s.size).size : Int) - a).toNat by rw [hz]; omega]
  exact getI_shift s off ho b _ a 0 1 0 h0 h1
theorem own_nil32 (w : World) {B : Nat} (h : B ≤ w.heap.size) : (w.alloc (.cells #[] 51 (0, 0))).ownsRow B 51 1 (.slice (some ⟨w.heap.size, 0, none⟩) 0 0) 0 [] :=
  ⟨by simp, .inr ⟨w.heap.size, 0, _, rfl, h, heap_alloc_new _ _, Nat.le_refl _, by decide, by simp, by simp⟩⟩
theorem own_grown {W w1 : World} {base size n : Nat} {e : TypeId} {v : Value} {xs : List Value} {u : Option Nat} (h : W.ownsRow base e size v n xs) (hg : W.grownBy w1 u) (hne : ∀ k, v.ownBlock = some k → some k ≠ u) : w1.ownsRow base e size v n xs :=
  own_move h fun k hk => hg.block k (by obtain ⟨cells, hc⟩ := own_typed h k hk; exact (Array.getElem?_eq_some_iff.1 hc).1) fun e => hne k hk e
theorem own_blt {W : World} {base size n : Nat} {e : TypeId} {v : Value} {xs : List Value} (h : W.ownsRow base e size v n xs) (k : Nat) (hk : v.ownBlock = some k) : k < W.heap.size := by
  obtain ⟨cells, hc⟩ := own_typed h k hk
  exact (Array.getElem?_eq_some_iff.1 hc).1
theorem ins_eq (l : List Int) (i : Nat) (x : Int) : [] ++ l.take i ++ [x] ++ l.drop i = insL l i x := by simp [insL]
theorem size3 (l : List Int) (mi : Nat) (N : Int) (h : mi ≤ l.length) (hl : (l.length + 1) * 4 ≤ 140737488355328) : (([] : List Int).length + mi) * 4 ≤ 140737488355328 ∧ (([] ++ l.take mi).length + 1) * 4 ≤ 140737488355328 ∧ (([] ++ l.take mi ++ [N]).length + (l.length - mi)) * 4 ≤ 140737488355328 := by
  simp only [List.length_nil, List.nil_append, List.length_take, List.length_append, List.length_singleton]
  omega
theorem apart5 {w2 w5 : World} {base n size : Nat} {e : TypeId} {v : Value} {xs : List Value} {o : Obj} (h : w2.ownsRow base e size v n xs) (hg : (w2.alloc o).grownBy w5 (Value.slice (some ⟨w2.heap.size, 0, none⟩) 0 0).ownBlock) : w5.ownsRow base e size v n xs :=
  own_grown (Go.Proofs.Ytegacgfhmigdjaa.own_alloc h o) hg fun k hk e => by
    have h1 := own_blt h k hk
    have h2 : some k = some w2.heap.size := e
    injection h2 with h2
    omega
theorem at5 {w2 : World} {o : Obj} {v5 : Value} (h : v5.ownBlock = (Value.slice (some ⟨w2.heap.size, 0, none⟩) 0 0).ownBlock ∨ ∃ b, v5.ownBlock = some b ∧ (w2.alloc o).heap.size ≤ b) : ∀ k, v5.ownBlock = some k → w2.heap.size ≤ k := fun k hk => by
  rcases h with h | ⟨b, h, hb⟩
  · rw [h] at hk
    have h2 : some w2.heap.size = some k := hk
    injection h2 with h2
    omega
  · rw [h] at hk
    injection hk with hk
    rw [World.size_alloc] at hb
    omega
theorem apart6 {w2 w5 w6 : World} {base n size : Nat} {e : TypeId} {v v5 : Value} {xs : List Value} {o : Obj} (h : w5.ownsRow base e size v n xs) (hlt : ∀ k, v.ownBlock = some k → k < w2.heap.size) (h5 : ∀ k, v5.ownBlock = some k → w2.heap.size ≤ k) (hg : (w5.alloc o).grownBy w6 v5.ownBlock) : w6.ownsRow base e size v n xs :=
  own_grown (Go.Proofs.Ytegacgfhmigdjaa.own_alloc h o) hg fun k hk e => by
    have h1 := hlt k hk
    have h2 := h5 k e.symm
    omega
theorem slice_lo (A : Option Addr) (n c mi : Nat) (hm : mi ≤ n) (hc : n ≤ c) : ∀ W : World, (Instr.slice 26 (.slice A n c) none (some (.int .u64 (mi : Int))) none).run Try.prog W = .ok (.slice A mi c) W := by
  obtain ⟨i0, hi0, hzz⟩ := Option.map_eq_some_iff.1 info_u32
  have h := cut_to (P := Try.prog) 26 51 .u64 Try.underlying26 hi0 A n c (mi : Int) (by omega) (by omega) hc
  simp only [Int.toNat_natCast] at h
  exact h
theorem slice_hi (A : Option Addr) (n c mi : Nat) (hm : mi ≤ n) : ∀ W : World, (Instr.slice 26 (.slice A n c) (some (.int .u64 (mi : Int))) none none).run Try.prog W = .ok (.slice (if c = mi then A else A.map (·.add mi)) (n - mi) (c - mi)) W := by
  obtain ⟨i0, hi0, hzz⟩ := Option.map_eq_some_iff.1 info_u32
  simp only [Prod.mk.injEq] at hzz
  have h := cut_from (P := Try.prog) 26 51 .u64 Try.underlying26 hi0 1 hzz.2.1 A n c (mi : Int) (by omega) (by omega)
  simp only [Int.toNat_natCast, Nat.mul_one] at h
  exact h
/-- The hyphen, as the reference keeps it. -/
def hyp (p : Int) : Int := if 0 < p then p else 0
theorem hyp_succ (s : ByteArray) (i : Nat) : hyp (lastP s 45 (i + 1)) = if bt s (i : Int) = 45 then (i : Int) else hyp (lastP s 45 i) := by
  rw [lastP]
  split
  · unfold hyp; split <;> omega
  · rfl
theorem den_of (s : ByteArray) (p : Int) (hp : lastP s 45 s.size = p) (off : Nat) (hoff : off = if 0 < p then p.toNat + 1 else 0) : denP s = denGo (s.extract off s.size) ((s.extract off s.size).size + 1) 0 (preL s (hyp p).toNat) 128 0 72 true := by
  unfold denP hyp
  simp only [hp]
  subst hoff
  by_cases h : 0 < p
  · rw [if_pos h, if_pos h, if_pos h, if_pos h]
  · rw [if_neg h, if_neg h, if_neg h, if_neg h, ByteArray.extract_zero_size]
    rfl
set_option maxRecDepth 100000 in
set_option maxHeartbeats 4000000 in
theorem rdenoted_c (s : ByteArray) (w : World) (hs : s.size ≤ 1000000) (hlow : ∀ i : Nat, i < s.size → ¬ bt s (i : Int) > 127) :
    Calls Try.prog 32 #[.string s] w fun e w' => ∃ v, e = .returned (.tuple #[v, .bool (denR s).2]) ∧ w'.ownsRow w.heap.size 51 1 v (denR s).1.length (nums .u32 (denR s).1) ∧ Below w.heap.size w w' := by
  obtain ⟨p, hp⟩ : ∃ p, lastP s 45 s.size = p := ⟨_, rfl⟩
  have hpr := last_range s 45 s.size
  rw [hp] at hpr
  obtain ⟨off, hoff⟩ : ∃ off : Nat, off = if 0 < p then p.toNat + 1 else 0 := ⟨_, rfl⟩
  have hos : off ≤ s.size := by rw [hoff]; split <;> omega
  obtain ⟨H, hH⟩ : ∃ H : Nat, hyp p = H := ⟨(hyp p).toNat, by unfold hyp; split <;> omega⟩
  have hHs : H ≤ s.size := by unfold hyp at hH; split at hH <;> omega
  have HD0 : Hid (denP s = denGo (s.extract off s.size) ((s.extract off s.size).size + 1) 0 (preL s H) 128 0 72 true) := Lib.hid (by have h := den_of s p hp off hoff; rw [hH] at h; exact h)
  have HOF : Hid ((0 < H ↔ 0 < p) ∧ (0 < p → off = H + 1) ∧ (¬ 0 < p → off = 0)) := Lib.hid ⟨by unfold hyp at hH; split at hH <;> omega, fun h => by rw [if_pos h] at hoff; unfold hyp at hH; rw [if_pos h] at hH; omega, fun h => by rw [if_neg h] at hoff; exact hoff⟩
  have HHH : Hid (hyp (lastP s 45 s.size) = H) := Lib.hid (by rw [hp]; exact hH)
  have HS := Lib.hid hs
  have HLOW := Lib.hid hlow
  have HOS := Lib.hid hos
  have HHS := Lib.hid hHs
  clear hp hpr hoff hos hH hHs hlow
  go_enter Try.func32, Try.ntmps32
  go_upto_block 0 with fail
  go_cut [4] (fun s4 wx => s4 = .int .i64 H ∧ wx = w)
  case first =>
    go_wp2_with fail
    go_loopg [4, 5] (s.size) (fun kq s4 s5 wx => ∃ i : Nat, s5 = .int .i64 i ∧ s4 = .int .i64 (hyp (lastP s 45 i)) ∧ Hid (kq = s.size - i ∧ i ≤ s.size) ∧ wx = w)
    case atStart => exact ⟨0, rfl, rfl, Lib.hid ⟨rfl, Nat.zero_le _⟩, rfl⟩
    case round =>
      obtain ⟨i, rfl, rfl, HK, rfl⟩ := hrel
      by_cases hi : i < s.size
      · have hi0 : (0 : Int) ≤ (i : Int) := by omega
        have hi3 : (i : Int) < (s.size : Int) := by omega
        have hbt : (s[i].toNat : Int) = bt s (i : Int) := by
          have h := bt_at s (i : Int) (by rw [Int.toNat_natCast]; exact hi)
          simpa using h
        have hb1 : decide (127 < bt s (i : Int)) = false := decide_eq_false (by have := HLOW.out i hi; omega)
        have HY := Lib.hid (hyp_succ s i)
        have hss : s.size ≤ 1000000 := HS.out
        by_cases hc : bt s (i : Int) = 45
        · have hc1 : (bt s (i : Int) == 45) = true := by rw [hc]; rfl
          have HC := Lib.hid hc
          clear hc
          go_wp2_with fail
          go_roundg (gk - 1)
          case measure => have := HK.out; omega
          case rel => exact ⟨i + 1, by go_num, by rw [HY.out, if_pos HC.out], Lib.hid ⟨by have := HK.out; omega, by omega⟩, rfl⟩
        · have hc1 : (bt s (i : Int) == 45) = false := by rw [beq_eq_false_iff_ne]; exact hc
          have HC := Lib.hid hc
          clear hc
          go_wp2_with fail
          go_roundg (gk - 1)
          case measure => have := HK.out; omega
          case rel => exact ⟨i + 1, by go_num, by rw [HY.out, if_neg HC.out], Lib.hid ⟨by have := HK.out; omega, by omega⟩, rfl⟩
      · have HIQ : Hid (i = s.size) := Lib.hid (by have := HK.out; omega)
        have hi3 : ¬ (i : Int) < (s.size : Int) := by omega
        go_wp2_with fail
        go_meet
        refine ⟨?_, rfl⟩
        rw [HIQ.out, HHH.out]
  case rest =>
    obtain ⟨rfl, hwe⟩ := hcut
    obtain rfl := hwe.symm
    have HO0 : Hid ((w.alloc (.cells #[] 51 (0, 0))).ownsRow w.heap.size 51 1 (.slice (some ⟨w.heap.size, 0, none⟩) 0 0) 0 []) := Lib.hid (own_nil32 w (Nat.le_refl _))
    go_upto_if 34 with fail
    go_cut [6, 7, 34] (fun s6 s7 s34 wx => s7 = .int .i64 off ∧ Hid (wx.ownsRow w.heap.size 51 1 s6 (preL s H).length (nums .u32 (preL s H))) ∧ Hid (Below w.heap.size w wx))
    case first =>
      by_cases h0 : 0 < H
      · have HOF1 : Hid (off = H + 1) := Lib.hid (HOF.out.2.1 (HOF.out.1.1 h0))
        have hH1 : decide ((0 : Int) < (H : Int)) = true := decide_eq_true (by omega)
        have hHs : H ≤ s.size := HHS.out
        have hss : s.size ≤ 1000000 := HS.out
        go_wp2_with fail
        go_loopg [6, 8] H (fun kq s6 s8 wx => ∃ i : Nat, s8 = .int .i64 i ∧ Hid (kq = H - i ∧ i ≤ H) ∧ Hid (wx.ownsRow w.heap.size 51 1 s6 (preL s i).length (nums .u32 (preL s i))) ∧ Hid (Below w.heap.size w wx))
        case atStart => exact ⟨0, rfl, Lib.hid ⟨rfl, Nat.zero_le _⟩, HO0, Lib.hid (below_new (Below.refl _ _) _)⟩
        case round =>
          obtain ⟨i, rfl, HK, HO, HB⟩ := hrel
          by_cases hi : i < H
          · have hi0 : (0 : Int) ≤ (i : Int) := by omega
            have hi1 : (i : Int) < (H : Int) := by omega
            have hi2 : i < s.size := by omega
            have hi3 : (i : Int) < (s.size : Int) := by omega
            have hbt : ((s[i].toNat : Int) % 4294967296) = bt s (i : Int) := by
              have h := bt_at s (i : Int) (by rw [Int.toNat_natCast]; exact hi2)
              have h2 := bt_range s (i : Int)
              rw [← h] at h2 ⊢
              simp only [Int.toNat_natCast] at h2 ⊢
              omega
            go_wp2_with (at_builtin; refine print_append_row (w0 := w) w.heap.size rfl (.tmp 40) (.tmp 45) 26 51 .u32 4 rfl Try.underlying26 info_u32 (by decide) u6 (preL s i) [bt s (i : Int)] (some ⟨wr.heap.size, 0, none⟩) 1 1 rfl rfl (Go.Proofs.Ytegacgfhmigdjaa.own_alloc HO.out _) (reads_one wr _ _ rfl) (below_new HB.out _) (below_new HB.out _).size (by rw [preL_len]; omega) ?_; intro v1 w1 ho1 hb1 hg1 hat1; have HO1 := Lib.hid ho1; have HB2 := Lib.hid hb1; clear ho1 hb1 hg1 hat1)
            go_roundg (gk - 1)
            case measure => have := HK.out; omega
            case rel => exact ⟨i + 1, by go_num, Lib.hid ⟨by have := HK.out; omega, by omega⟩, Lib.hid (by rw [preL_succ]; exact HO1.out), HB2⟩
          · have hi1 : ¬ (i : Int) < (H : Int) := by omega
            have HIQ : Hid (i = H) := Lib.hid (by have := HK.out; omega)
            go_wp2_with fail
            go_meet
            refine ⟨by rw [HOF1.out]; go_num, ?_, HB⟩
            rw [← HIQ.out]
            exact HO
      · have hH1 : decide ((0 : Int) < (H : Int)) = false := decide_eq_false (by omega)
        have HH0 : Hid (H = 0) := Lib.hid (by omega)
        have HOF1 : Hid (off = 0) := Lib.hid (HOF.out.2.2 (fun h => h0 (HOF.out.1.2 h)))
        go_wp2_with fail
        go_meet
        refine ⟨by rw [HOF1.out]; rfl, ?_, Lib.hid (below_new (Below.refl _ _) _)⟩
        rw [HH0.out]
        exact HO0
    case rest =>
      obtain ⟨rfl, HO, HB⟩ := hcut
      obtain ⟨T, hT⟩ : ∃ T, s.extract off s.size = T := ⟨_, rfl⟩
      have HT := Lib.hid hT
      have HTZ : Hid (T.size + off = s.size) := Lib.hid (by rw [← hT, ByteArray.size_extract]; have := HOS.out; omega)
      rw [hT] at HD0
      clear hT
      go_wp2_with fail
      go_loopg [6, 7, 9, 10, 11, 12] (T.size) (fun kq s6 s7 s9 s10 s11 s12 wx => ∃ (l : List Int) (n i b a : Int) (once : Bool) (f : Nat), s9 = .int .u64 n ∧ s10 = .int .u64 i ∧ s11 = .int .i64 b ∧ s7 = .int .i64 (off + a) ∧ s12 = .bool once ∧
        Hid (InvA T.size kq a f) ∧ Hid (InvN s.size l n i a) ∧ Hid (wx.ownsRow w.heap.size 51 1 s6 l.length (nums .u32 l)) ∧ Hid (Below w.heap.size w wx) ∧ Hid (denP s = denGo T f a l n i b once))
      case atStart => exact ⟨preL s H, 128, 0, 72, 0, true, T.size + 1, rfl, rfl, rfl, by rw [Int.add_zero], rfl, Lib.hid ⟨by decide, by omega, by omega, by omega⟩, Lib.hid ⟨by decide, by decide, by decide, by omega, by rw [preL_len]; have := HHS.out; omega⟩, HO, HB, HD0⟩
      case round =>
        obtain ⟨l, n, i, b, a, once, f, rfl, rfl, rfl, rfl, rfl, HA, HN, HO, HB, HD⟩ := hrel
        have ha0 : 0 ≤ a := HA.out.1
        by_cases ha : a < (T.size : Int)
        · have hat : (off : Int) + a < (s.size : Int) := by have := HTZ.out; omega
          have hat0 : (0 : Int) ≤ (off : Int) + a := by omega
          have HAT := Lib.hid ha
          obtain ⟨f, rfl⟩ := HA.out.f1
          have HD2 := HD.out
          rw [denGo, if_pos ha] at HD2
          have hsh := getP_shift s off HOS.out b a ha0 (by rw [HT.out]; omega)
          rw [HT.out] at hsh
          have HSH := Lib.hid hsh
          have HATS : Hid ((off : Int) + a ≤ s.size) := Lib.hid (by omega)
          clear hsh
          go_wp2_with fail
          refine (rget_c s (off + a) b _ (by have := HS.out; omega) hat0 HATS.out).mono ?_
          rintro e w1 ⟨r1, r2, r3, rfl, hg, hb1⟩
          have HB1 := Lib.hid (below_next HB.out hb1)
          rw [HSH.out] at hg
          cases hgp : getP T a b with
          | none =>
            rw [hgp] at hg HD2
            have hg : r3 ≠ 0 := hg
            have hz : (r3 == 0) = false := by simpa using hg
            have HR : Hid (denR s = ([], false)) := by show denR s = _; unfold denR; rw [HD2]
            clear hb1 hg HD2
            go_wp2_with fail
            refine bodyPost_ret (v := .tuple #[.slice none 0 0, .bool false]) (by simp [results, Try.results32, go_sem]) rfl ?_
            exact ⟨.slice none 0 0, by rw [HR.out], by rw [HR.out]; exact ⟨rfl, .inl ⟨rfl, rfl⟩⟩, HB1.out⟩
          | some x =>
            obtain ⟨v, q⟩ := x
            rw [hgp] at hg HD2
            obtain ⟨rfl, rfl, rfl⟩ := hg
            have HGR := Lib.hid (getP_range hgp)
            have HO1 : Hid (w1.ownsRow w.heap.size 51 1 u6 l.length (nums .u32 l)) := Lib.hid (own_below HO.out hb1)
            have HD3 := Lib.hid HD2
            clear hb1 HD2 hgp
            obtain ⟨A4, c4, rfl, hc4⟩ := Go.Proofs.Ytegacgfhmigdjaa.own_slice HO1.out
            obtain ⟨D, N, mi, SF⟩ := step_facts s.size T.size l n i a r1 q _ f HS.out (by have := HTZ.out; omega) HA.out HN.out HAT.out HGR.out
            have HD4 := HD3.out
            simp only [SF.hD, SF.hM, SF.hN, Int.toNat_natCast] at HD4
            have HD5 := Lib.hid HD4
            have HSF := Lib.hid SF
            have hsz0 := SF.z
            have hw1 := SF.w1
            have hw2 := SF.w2
            have hw3 := SF.w3
            have hq := SF.q
            have hm := SF.m
            have hw4 := SF.w4
            have hw5 := SF.w5
            have hw6 := SF.w6
            clear HD4 SF
            go_upto_region 29 with fail
            clear hq hm hw1 hw3 hw4 hw5 hw6
            have HRN : isP N = false → Hid (denR s = ([], false)) := fun h => by
              have h2 := HD5.out
              rw [h] at h2
              show denR s = _
              unfold denR
              rw [h2]
              rfl
            by_cases hbig : N > 1114111
            · have HR := HRN (isP_big hbig)
              clear HRN
              have hb : decide (1114111 < N) = true := decide_eq_true hbig
              clear hbig
              go_wp2_with fail
              refine bodyPost_ret (v := .tuple #[.slice none 0 0, .bool false]) (by simp [results, Try.results32, go_sem]) rfl ?_
              exact ⟨.slice none 0 0, by rw [HR.out], by rw [HR.out]; exact ⟨rfl, .inl ⟨rfl, rfl⟩⟩, HB1.out⟩
            · have hb : decide (1114111 < N) = false := decide_eq_false hbig
              have HBG : Hid (N ≤ 1114111) := Lib.hid (Int.not_lt.1 hbig)
              have hu32 := HSF.out.u32 HBG.out
              clear hbig
              go_wp2_with fail
              refine (ris_c N _).mono ?_
              rintro e w2 ⟨rfl, hb2⟩
              have HB2 := Lib.hid (below_next HB1.out hb2)
              have HO2 : Hid (w2.ownsRow w.heap.size 51 1 (.slice A4 l.length c4) l.length (nums .u32 l)) := Lib.hid (own_below HO1.out hb2)
              clear hb2
              cases his : isP N with
              | false =>
                have HR := HRN his
                clear HRN his
                go_wp2_with fail
                refine bodyPost_ret (v := .tuple #[.slice none 0 0, .bool false]) (by simp [results, Try.results32, go_sem]) rfl ?_
                exact ⟨.slice none 0 0, by rw [HR.out], by rw [HR.out]; exact ⟨rfl, .inl ⟨rfl, rfl⟩⟩, HB2.out⟩
              | true =>
                have HD6 : Hid (denP s = denGo T f q (insL l mi N) N ((mi : Int) + 1) (adaptP r1 ((l.length : Int) + 1) once) false) := by
                  have h := HD5.out
                  rw [his] at h
                  exact h
                clear HRN his
                have hw7 := HSF.out.w7
                have hw8 := HSF.out.w8
                have HMI := Lib.hid HSF.out.mle
                have HC4 := Lib.hid hc4
                have HSZ := Lib.hid (size3 l mi N HSF.out.mle HSF.out.ll)
                have hs1 := slice_lo A4 l.length c4 mi HMI.out HC4.out
                have hs2 := slice_hi A4 l.length c4 mi HMI.out
                obtain ⟨AD, hAD⟩ : ∃ AD, (if c4 = mi then A4 else A4.map (·.add mi)) = AD := ⟨_, rfl⟩
                rw [hAD] at hs2
                have HAD := Lib.hid hAD
                have HLT : Hid (∀ k, (Value.slice A4 l.length c4).ownBlock = some k → k < w2.heap.size) := Lib.hid (own_blt HO2.out)
                clear hAD hc4
                go_upto_region 32 with (at_builtin; refine (print_append_row (w0 := w) w.heap.size rfl (.tmp 89) (.tmp 92) 26 51 .u32 4 rfl Try.underlying26 info_u32 (by decide) (.slice (some ⟨w2.heap.size, 0, none⟩) 0 0) [] (l.take mi) A4 mi c4 rfl rfl (own_nil32 w2 HB2.out.size) ((own_reads' (Go.Proofs.Ytegacgfhmigdjaa.own_alloc HO2.out _)).take_ mi HMI.out) (below_new HB2.out _) (below_new HB2.out _).size HSZ.out.1 ?_); intro v5 w5 ho5 hb5 hg5 hat5; have HO5 := Lib.hid ho5; have HB5 := Lib.hid hb5; have HL5 := Lib.hid (apart5 HO2.out hg5); have HV5 := Lib.hid (at5 hat5); clear ho5 hb5 hg5 hat5)
                go_upto_region 33 with (at_builtin; refine (print_append_row (w0 := w) w.heap.size rfl (.tmp 94) (.tmp 97) 26 51 .u32 4 rfl Try.underlying26 info_u32 (by decide) v5 ([] ++ l.take mi) [N] (some ⟨w5.heap.size, 0, none⟩) 1 1 rfl rfl (Go.Proofs.Ytegacgfhmigdjaa.own_alloc HO5.out _) (reads_one w5 _ _ rfl) (below_new HB5.out _) (below_new HB5.out _).size HSZ.out.2.1 ?_); intro v6 w6 ho6 hb6 hg6 hat6; have HO6 := Lib.hid ho6; have HB6 := Lib.hid hb6; have HL6 := Lib.hid (apart6 HL5.out HLT.out HV5.out hg6); clear ho6 hb6 hg6 hat6)
                go_upto_region 34 with (at_builtin; refine (print_append_row (w0 := w) w.heap.size rfl (.tmp 99) (.tmp 102) 26 51 .u32 4 rfl Try.underlying26 info_u32 (by decide) v6 ([] ++ l.take mi ++ [N]) (l.drop mi) AD (l.length - mi) (c4 - mi) rfl rfl HO6.out (by rw [← HAD.out]; exact (own_reads' HL6.out).drop_ mi HMI.out HC4.out) HB6.out HB6.out.size HSZ.out.2.2 ?_); intro v7 w7 ho7 hb7 hg7 hat7; rw [ins_eq, insL_len HMI.out] at ho7; obtain ⟨A7, c7, rfl, hc7⟩ := Go.Proofs.Ytegacgfhmigdjaa.own_slice ho7; have HO7 := Lib.hid ho7; have HB7 := Lib.hid hb7; clear ho7 hb7 hg7 hat7 hc7)
                clear hs1 hs2
                go_wp2_with (go_at_call 37; refine (radapt_c r1 ((l.length : Int) + 1) once _ HGR.out.1 HGR.out.2.1 HSF.out.lp).mono ?_; rintro e w8 ⟨rfl, hb8⟩; have HB8 := Lib.hid (below_next HB7.out hb8); have HO8 := Lib.hid (own_below HO7.out hb8); clear hb8)
                go_roundg (T.size - q.toNat)
                case measure => exact HSF.out.less
                case rel =>
                  refine ⟨insL l mi N, N, (mi : Int) + 1, adaptP r1 ((l.length : Int) + 1) once, q, false, f, rfl, rfl, rfl, ?_, rfl, Lib.hid HSF.out.invA, Lib.hid (HSF.out.invN HBG.out), ?_, HB8, HD6⟩
                  · rw [Int.add_comm]
                  · rw [insL_len HMI.out]
                    exact HO8
        · have HR : Hid (denR s = (l, true)) := by
            obtain ⟨f, rfl⟩ := HA.out.f1
            have h := HD.out
            rw [denGo, if_neg ha] at h
            show denR s = _
            unfold denR
            rw [h]
          have HO2 : Hid (wr.ownsRow w.heap.size 51 1 u6 l.length (nums .u32 l)) := HO
          have hat : ¬ (off : Int) + a < (s.size : Int) := by have := HTZ.out; omega
          go_wp2_with fail
          refine bodyPost_ret (v := .tuple #[u6, .bool true]) (by simp [results, Try.results32, go_sem]) rfl ?_
          exact ⟨u6, by rw [HR.out], by rw [HR.out]; exact HO2.out, HB.out⟩
end Go.Proofs.Ytegacgfhmigdjaa
/- pilcrowref10.Read and pilcrowlaw10.failed, walked. -/
namespace Go.Proofs.Ytegacgfhmigdjaa
open Go.RowKit Go.Proofs.YtegacgfhmigdjaaW.PrintWords Go.Proofs.YtegacgfhmigdjaaW.PrintLast Go.Proofs.YtegacgfhmigdjaaW.PrintMore Go.Proofs.Ytegacgfhmigdjaa.PPu
set_option linter.unusedVariables false
set_option linter.unusedSimpArgs false

theorem low_lt (s : ByteArray) : ∀ k i j : Nat, i ≤ j → j < lowN s k i → ¬ bt s (j : Int) > 127
  | 0, i, j, h, h1 => by rw [lowN] at h1; omega
  | k + 1, i, j, h, h1 => by
    rw [lowN] at h1
    split at h1
    · split at h1
      · omega
      · rename_i hb
        by_cases e : i = j
        · subst e; omega
        · exact low_lt s k (i + 1) j (by omega) h1
    · omega
theorem low_all {s : ByteArray} (h : feedN s = s.size) : ∀ i : Nat, i < s.size → ¬ bt s (i : Int) > 127 := fun i hi => low_lt s s.size 0 i (Nat.zero_le _) (by rw [← h] at hi; exact hi)
set_option maxRecDepth 100000 in
set_option maxHeartbeats 4000000 in
theorem rread_c (s : ByteArray) (w : World) (hs : s.size ≤ 100000) (L : List Int) (en : Bool) (E F : Int) (hres : ReadF s L en E F) :
    Calls Try.prog 17 #[.string s] w fun e w' => ∃ v, e = .returned (.tuple #[v, .int .i64 E, .int .i64 (feedN s)]) ∧ w'.ownsRow w.heap.size 51 1 v L.length (nums .u32 L) ∧ Below w.heap.size w w' := by
  have HR := Lib.hid hres
  have HS := Lib.hid hs
  clear hres hs
  go_enter Try.func17, Try.ntmps17
  go_upto_block 0 with fail
  go_wp2_with fail
  go_loopg [5] (s.size) (fun kq s5 wx => ∃ i : Nat, s5 = .int .i64 i ∧ Hid (kq = s.size - i ∧ i ≤ s.size ∧ lowN s (s.size - i) i = feedN s) ∧ wx = w)
  case atStart => exact ⟨0, rfl, Lib.hid ⟨rfl, Nat.zero_le _, rfl⟩, rfl⟩
  case round =>
    obtain ⟨i, rfl, HK, rfl⟩ := hrel
    by_cases hi : i < s.size
    · have hi0 : (0 : Int) ≤ (i : Int) := by omega
      have hi3 : (i : Int) < (s.size : Int) := by omega
      have hss : s.size ≤ 100000 := HS.out
      have hbt : (s[i].toNat : Int) = bt s (i : Int) := by
        have h := bt_at s (i : Int) (by rw [Int.toNat_natCast]; exact hi)
        simpa using h
      by_cases hb : bt s (i : Int) ≥ 128
      · have hb1 : decide (127 < bt s (i : Int)) = true := decide_eq_true (by omega)
        have HN : Hid (feedN s = i) := Lib.hid (HK.out.2.2.symm.trans (low_stop hi hb))
        have HQ : Hid (L = [] ∧ E = 3) := Lib.hid (by
          rcases HR.out with ⟨_, h1, _, h2, _⟩ | ⟨h1, _⟩
          · exact ⟨h1, h2⟩
          · exfalso; have := HN.out; omega)
        clear hb
        go_wp2_with fail
        refine bodyPost_ret (v := .tuple #[.slice none 0 0, .int .i64 3, .int .i64 i]) (by simp [results, Try.results17, go_sem]) rfl ?_
        exact ⟨.slice none 0 0, by rw [HQ.out.2, HN.out], by rw [HQ.out.1]; exact ⟨rfl, .inl ⟨rfl, rfl⟩⟩, Below.refl _ _⟩
      · have hb1 : decide (127 < bt s (i : Int)) = false := decide_eq_false (by omega)
        have HN : Hid (lowN s (s.size - (i + 1)) (i + 1) = feedN s) := Lib.hid ((low_on hi hb).symm.trans HK.out.2.2)
        clear hb
        go_wp2_with fail
        go_roundg (gk - 1)
        case measure => have := HK.out; omega
        case rel => exact ⟨i + 1, by go_num, Lib.hid ⟨by have := HK.out; omega, by omega, HN.out⟩, rfl⟩
    · have HIQ : Hid (i = s.size) := Lib.hid (by have := HK.out; omega)
      have HN : Hid (feedN s = s.size) := Lib.hid (HK.out.2.2.symm.trans (low_end HIQ.out))
      have HQ : Hid (denR s = (L, en) ∧ (en = true ∧ E = 0 ∨ en = false ∧ E = 4)) := Lib.hid (by
        rcases HR.out with ⟨h1, _⟩ | ⟨_, h1, h2⟩
        · exfalso; have := HN.out; omega
        · refine ⟨h1, ?_⟩
          rcases h2 with h2 | h2
          · injection h2 with h2 h3; injection h3 with h3 _; exact .inl ⟨h2, h3⟩
          · injection h2 with h2 h3; injection h3 with h3 _; exact .inr ⟨h2, h3⟩)
      have hi3 : ¬ (i : Int) < (s.size : Int) := by omega
      go_wp2_with fail
      refine (rdenoted_c s _ (by have := HS.out; omega) (low_all HN.out)).mono ?_
      rintro e w1 ⟨v1, rfl, ho1, hb1⟩
      have hden := HQ.out.1
      rw [hden] at ho1 ⊢
      have HO1 := Lib.hid ho1
      have HB1 := Lib.hid hb1
      rcases HQ.out.2 with ⟨rfl, rfl⟩ | ⟨rfl, rfl⟩
      · clear ho1 hb1 hden
        go_wp2_with fail
        refine bodyPost_ret (v := .tuple #[v1, .int .i64 0, .int .i64 s.size]) (by simp [results, Try.results17, go_sem]) rfl ?_
        exact ⟨v1, by rw [HN.out], HO1.out, HB1.out⟩
      · have HL : Hid (L = []) := Lib.hid (denR_no hden)
        clear ho1 hb1 hden
        go_wp2_with fail
        refine bodyPost_ret (v := .tuple #[.slice none 0 0, .int .i64 4, .int .i64 s.size]) (by simp [results, Try.results17, go_sem]) rfl ?_
        exact ⟨.slice none 0 0, by rw [HN.out], by rw [HL.out]; exact ⟨rfl, .inl ⟨rfl, rfl⟩⟩, HB1.out⟩
/-- What is told, if an error is met at a place. -/
theorem failed_c (e a : Int) (w : World) : Calls Try.prog 18 #[.int .i64 e, .int .i64 a] w fun r w' => r = .returned (.agg #[.int .i64 e, .int .i64 (if e = 0 then 0 else a)]) ∧ Below w.heap.size w w' := by
  by_cases he : e = 0
  · subst he
    go_enter Try.func18, Try.ntmps18
    go_wp2_with fail
    refine bodyPost_ret (v := .agg #[.int .i64 0, .int .i64 0]) (by simp [results, Try.results18, go_sem]) rfl ⟨rfl, ?_⟩
    exact below_new (Below.refl _ _) _
  · have hb : (e == 0) = false := by rw [beq_eq_false_iff_ne]; exact he
    rw [if_neg he]
    go_enter Try.func18, Try.ntmps18
    go_wp2_with fail
    refine bodyPost_ret (v := .agg #[.int .i64 e, .int .i64 a]) (by simp [results, Try.results18, go_sem]) rfl ⟨rfl, ?_⟩
    exact below_new (Below.refl _ _) _
end Go.Proofs.Ytegacgfhmigdjaa
/- pilcrowref01.Same at equal lists; two errors held against each other. -/
namespace Go.Proofs.Ytegacgfhmigdjaa
open Go.RowKit Go.Proofs.YtegacgfhmigdjaaW.PrintWords Go.Proofs.YtegacgfhmigdjaaW.PrintLast Go.Proofs.YtegacgfhmigdjaaW.PrintMore Go.Proofs.Ytegacgfhmigdjaa.PPu
set_option linter.unusedVariables false
set_option linter.unusedSimpArgs false

theorem order_self (L : List Int) (hL : L.length ≤ 1000000000) : ∀ (m : Nat) (i k : Nat), i + m = L.length → 2 * m + 2 ≤ k → pilcrowref01_Order.l0 k L L i = some 0
  | 0, i, k, hi, hk => by
    obtain ⟨k, rfl⟩ : ∃ j, k = j + 2 := ⟨k - 2, by omega⟩
    rw [pilcrowref01_Order.l0, if_neg (by omega), pilcrowref01_Order.j1, if_neg (by decide), if_neg (by omega), if_neg (by omega)]
  | m + 1, i, k, hi, hk => by
    obtain ⟨k, rfl⟩ : ∃ j, k = j + 2 := ⟨k - 2, by omega⟩
    rw [pilcrowref01_Order.l0, if_pos (by omega), decide_eq_true (by omega), pilcrowref01_Order.j1, if_pos rfl, if_pos (by omega), if_pos (by omega), if_pos (by omega), if_neg (Int.lt_irrefl _), if_neg (Int.lt_irrefl _), w64 (by omega) (by omega)]
    exact order_self L hL m (i + 1) k (by omega) (by omega)
theorem same_c (L : List Int) (hL : L.length ≤ 1000000000) (A0 A1 : Option Addr) (c0 c1 : Nat) (w : World) (h0 : ReadsInt w .u32 A0 L.length L) (h1 : ReadsInt w .u32 A1 L.length L) (hc0 : L.length ≤ c0) (hc1 : L.length ≤ c1) :
    Calls Try.prog 15 #[.slice A0 L.length c0, .slice A1 L.length c1] w fun e w' => e = .returned (.bool true) ∧ Below w.heap.size w w' := by
  refine (pilcrowref01_Same.calls (2 * L.length + 2) A0 c0 L A1 c1 L true w (Kd.C_of_reads (d := (0 : Int)) h0) hc0 (Kd.C_of_reads (d := (0 : Int)) h1) hc1 ?_).mono ?_
  · unfold pilcrowref01_Same.f pilcrowref01_Order.f
    have := order_self L hL L.length 0 (2 * L.length + 2) (by omega) (Nat.le_refl _)
    rw [show (0 : Int) = ((0 : Nat) : Int) from rfl, this]
    rfl
  · rintro e w' ⟨rfl, ⟨nd, rfl⟩⟩
    exact ⟨rfl, below_drewN' (Below.refl _ _) nd⟩
theorem fieldsOf_fail : Try.prog.underlying 33 = some (.struct (Try.prog.fieldsOf 33)) := by kernel_rfl
theorem eql_fail (a b : Int) (w : World) : (binOp .eql 33 (.agg #[.int .i64 a, .int .i64 b]) (.agg #[.int .i64 a, .int .i64 b])).run Try.prog w = .ok (.bool true) w := by
  have he : (Op.equalIn 10000 33 (.agg #[.int .i64 a, .int .i64 b]) (.agg #[.int .i64 a, .int .i64 b])).run Try.prog w = .ok true w := by
    rw [run_equalIn_struct w 9999 33 _ _ fieldsOf_fail (by kernel_rfl)]
    simp only [Program.fieldsOf, Try.underlying33]
    have ei : ∀ (a b : Int) (w : World), (Op.equalIn 9999 3 (.int .i64 a) (.int .i64 b)).run Try.prog w = .ok (a == b) w := fun a b w => by
      unfold Op.equalIn
      simp only [Sem.run_bind, run_underlying Try.underlying3, Result.andThen_ok, if_true, Sem.run_pure]
    have ej : ∀ (a b : Int) (w : World), (Op.equalIn 9999 31 (.int .i64 a) (.int .i64 b)).run Try.prog w = .ok (a == b) w := fun a b w => by
      unfold Op.equalIn
      simp only [Sem.run_bind, run_underlying Try.underlying31, Result.andThen_ok, if_true, Sem.run_pure]
    simp [Op.eqFields, go_sem, ei, ej]
  simp only [binOp]
  simp [Op.equal, Op.maxDepth, he]
end Go.Proofs.Ytegacgfhmigdjaa
