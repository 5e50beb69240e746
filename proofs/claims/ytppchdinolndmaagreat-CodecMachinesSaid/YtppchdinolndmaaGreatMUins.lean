/- Joined texts: Uins, Udn, Ufd, Ufe, Uen, Dp, Dpk. -/
import Derived.Test.YtppchdinolndmaaGreatMUstp
import Derived.Shelf.Spec.SlicesInsertGrow
import Derived.Test.YtppchdinolndmaaGreatMUpp
import Derived.Deep.DeepCutAuto
import Derived.Outline
import Derived.Deep.RegionHeld3
import Derived.Deep.AppendLies
import Derived.Deep.CutBlock
namespace Go.Proofs.YtppchdinolndmaaGreat
open Go.RowKit Go.Lib Go.Proofs.YtppchdinolndmaaGreatW.PrintWords
set_option linter.unusedVariables false
set_option linter.unusedSimpArgs false
def ovr (cs : Array Value) (o : Nat) : List Value → Array Value
 | [] => cs
 | v :: r => ovr (cs.setIfInBounds o v) (o + 1) r
theorem ovr_size : ∀ (vs : List Value) (cs : Array Value) (o : Nat), (ovr cs o vs).size = cs.size
 | [], _, _ => rfl
 | v :: r, cs, o => by rw [ovr, ovr_size r]; simp
theorem ovr_list : ∀ (vs : List Value) (cs : Array Value) (o : Nat), o + vs.length ≤ cs.size → (ovr cs o vs).toList = cs.toList.take o ++ vs ++ cs.toList.drop (o + vs.length)
 | [], cs, o, _ => by simp [ovr]
 | v :: r, cs, o, h => by
  simp only [List.length_cons] at h
  rw [ovr, ovr_list r _ _ (by simp; omega)]
  rw [Array.toList_setIfInBounds]
  have ho : o < cs.toList.length := by simp; omega
  rw [List.set_eq_take_append_cons_drop, if_pos ho]
  have hl : (cs.toList.take o).length = o := by rw [List.length_take]; omega
  rw [List.take_append, hl, List.take_of_length_le (by omega : (cs.toList.take o).length ≤ o + 1), List.drop_append, hl, List.drop_eq_nil_of_le (by omega : (cs.toList.take o).length ≤ o + 1 + r.length)]
  have e1 : o + 1 - o = 1 := by omega
  have e2 : o + 1 + r.length - o = r.length + 1 := by omega
  rw [e1, e2]
  simp only [List.take_succ_cons, List.take_zero, List.drop_succ_cons, List.drop_drop, List.nil_append, List.length_cons]
  rw [List.append_assoc (cs.toList.take o), List.singleton_append, show o + 1 + r.length = o + (r.length + 1) by omega]
theorem heap_setCells_same {T : TypeId} {fz : Nat × Nat} (b : Nat) : ∀ (vs : List Value) (o : Nat) (w : World) (cs : Array Value), w.heap[b]? = some (.cells cs T fz) → (w.setCells b o vs).heap[b]? = some (.cells (ovr cs o vs) T fz)
 | [], _, _, _, h => h
 | v :: r, o, w, cs, h => by
  rw [World.setCells, ovr]
  refine heap_setCells_same b r (o + 1) _ _ ?_
  unfold World.setCell
  simp only [Array.getElem?_modify, h, if_pos rfl]
  simp
theorem one_nums {k : IntKind} {xs : List Int} : ∀ v ∈ nums k xs, v.oneCell' = true := by
 intro v hv
 simp only [nums, List.mem_map] at hv
 obtain ⟨q, _, rfl⟩ := hv
 rfl
theorem nums_len (k : IntKind) (xs : List Int) : (nums k xs).length = xs.length := by simp [nums]
set_option maxHeartbeats 4000000 in
set_option maxRecDepth 100000 in
theorem ins_shift (b n c i vb : Nat) (cs : List Value) (x : Value) (cur : Array Value) (w : World) (hi : i < n) (hroom : n + 1 ≤ c) (hc63 : c ≤ 9223372036854775807) (hvb : vb ≠ b) (hcl : cs.length = n) (hcur : w.heap[b]? = some (.cells cur 47 (0, 0))) (hcs : cur.size = c) (htk : cur.toList.take n = cs)
  (hx : w.heap[vb]? = some (.cells #[x] 47 (0, 0))) (h1c : ∀ v ∈ cs, v.oneCell' = true) (h1v : x.oneCell' = true) :
  Calls Tryz.prog 217 #[.slice (some ⟨b, 0, none⟩) n c, .int .i64 i, .slice (some ⟨vb, 0, none⟩) 1 1] w fun e w' =>
   e = .returned (.slice (some ⟨b, 0, none⟩) (n + 1) c) ∧ w' = (w.drew.setCells b (i + 1) (cs.drop i)).setCells b i [x] := by
 have hcell : ∀ j v, cs[j]? = some v → w.cell? ⟨b, j, none⟩ = some v := fun j v hj => by
  rw [← htk, List.getElem?_take] at hj
  split at hj
  ·simp [World.cell?, hcur]
   rw [← Array.getElem?_toList]
   exact hj
  ·cases hj
 have hsp : ∀ j, j < n + 1 → (w.cell? ⟨b, j, none⟩).isSome = true := fun j hj => by
  simp [World.cell?, hcur, Array.getElem?_eq_getElem (by omega : j < cur.size)]
 have hfz : ∀ j, w.frozen? ⟨b, j, none⟩ = false := fun j => by simp [World.frozen?, hcur]
 have hvc : w.cell? ⟨vb, 0, none⟩ = some x := by simp [World.cell?, hx]
 have hsa : w.shape? vb = some (47, 1) := by simp [World.shape?, hx]
 have hsb : w.shape? b = some (47, c) := by simp [World.shape?, hcur, hcs]
 have hkB : c ≠ 0 := by omega
 have hfa : w.frozen? ⟨vb, 0, none⟩ = false := by simp [World.frozen?, hx]
 have hfe : w.frozen? ⟨vb, 1, none⟩ = false := by simp [World.frozen?, hx]
 have hsz : (Tryz.prog.info? 47).map (·.size) = some 1 := by kernel_rfl
 have hzz : ∀ w, (Go.sizeOf 47).run Tryz.prog w = .ok 1 w := fun w => by
  obtain ⟨i0, hi0, h2⟩ := Option.map_eq_some_iff.1 info_u32
  simp only [Prod.mk.injEq] at h2
  simp [sizeOf, typeInfo, hi0, h2.2.1]
 have hz2 : ¬ ((i : Int) = (n : Int)) := by omega
 have hov : ∀ lb cb, (callFunc 220 #[.slice (some ⟨vb, 0, none⟩) 1 1, .slice (some ⟨b, i + 1, none⟩) lb cb]).run Tryz.prog w = .ok (.value (.bool false)) w := fun lb cb => by
  rw [run_callFunc_extern Tryz.func220 (by kernel_rfl) (by kernel_rfl) (by kernel_rfl) (e := Extern.SlicesOverlaps.overlaps #[22, 22] #[4]) (by kernel_rfl),
   Lib.run_overlaps_apart w 22 4 47 Tryz.underlying22 1 hzz ⟨vb, 0, none⟩ ⟨b, i + 1, none⟩ 1 1 lb cb hvb 47 47 1 c hsa hsb hkB hfa hfe]
  rfl
 have hdl : (cs.drop i).length = n - i := by rw [List.length_drop, hcl]
 have hw1 : IntKind.i64.wrap ((i : Int) + 1) = (i : Int) + 1 := by rw [IntKind.wrap_i64]; omega
 have hb1 : (0 : Int) ≤ (i : Int) + 1 := by omega
 have hin : i ≤ n := by omega
 have htn : ((i : Int) + 1).toNat = i + 1 := by omega
 have hb2 : ¬ (c = i + 1) := by omega
 have hb3 : (i : Int) ≤ (n : Int) + 1 := by omega
 have hb4 : ¬ (c = i) := by omega
 have hcp1 : ∀ ty dc sc, (Builtin.copy_ #[22, 22] ty #[.slice (some ⟨b, i + 1, none⟩) (n - i) dc, .slice (some ⟨b, i, none⟩) (n + 1 - i) sc]).run Tryz.prog w.drew = .ok (goInt (cs.drop i).length) (w.drew.setCells b (i + 1) (cs.drop i)) := fun ty dc sc =>
  run_copy_cells w.drew _ _ ty 47 b (i + 1) (n - i) dc ⟨b, i, none⟩ (n + 1 - i) sc (cs.drop i) Tryz.underlying22 hsz (by rw [hdl]; simp only [Nat.min_def]; split <;> omega)
   (fun j v hj => by rw [Addr.add_lit]; exact hcell (i + j) v (by rwa [List.getElem?_drop] at hj))
   (fun j hj => hsp _ (by omega)) (fun j hj => hfz _) (fun v hv => h1c v (List.mem_of_mem_drop hv))
 obtain ⟨W1, hW1⟩ : ∃ W1, W1 = w.drew.setCells b (i + 1) (cs.drop i) := ⟨_, rfl⟩
 have hsp1 : ∀ k, k < n + 1 → (W1.cell? ⟨b, k, none⟩).isSome = true := fun k hk => by
  rw [hW1]
  exact Go.Proofs.isSome_setCells b (cs.drop i) (i + 1) w.drew (fun j hj => hsp (i + 1 + j) (by have h2 : j < n - i := hdl ▸ hj; omega)) _ (hsp k hk)
 have hcp2 : ∀ (W : World), (∀ x, W.cell? x = W1.cell? x) → (∀ x, W.frozen? x = W1.frozen? x) → ∀ ty dc, (Builtin.copy_ #[22, 22] ty #[.slice (some ⟨b, i, none⟩) (n + 1 - i) dc, .slice (some ⟨vb, 0, none⟩) 1 1]).run Tryz.prog W = .ok (goInt [x].length) (W.setCells b i [x]) := fun W hWc hWf ty dc =>
  run_copy_cells W _ _ ty 47 b i (n + 1 - i) dc ⟨vb, 0, none⟩ 1 1 [x] Tryz.underlying22 hsz (by simp only [Nat.min_def, List.length_singleton]; split <;> omega)
   (fun j v hj => by
    rw [Addr.add_lit, hWc, hW1, World.cell?_setCells_out b _ _ _ _ (fun h _ => absurd h hvb)]
    cases j with
    | zero => simp at hj; rw [← hj]; exact hvc
    | succ j => simp at hj)
   (fun j hj => by rw [hWc]; exact hsp1 (i + j) (by have h1 : j < 1 := hj; omega)) (fun j hj => by rw [hWf, hW1, World.frozen?_setCells]; exact hfz _) (fun v hv => by simp at hv; rw [hv]; exact h1v)
 rw [← hW1] at hcp1
 clear hcell hsp hfz hcur htk hx hsp1
 have mixed : Tryz.prog.follows Departure.mixedOrders = true := by kernel_rfl
 go_enter Tryz.func217, Tryz.ntmps217
 go_wp2_with (simp only [hov])
 go_region_law_o (refine step_copy_runI rfl _ _ 22 22 rfl _ _ (by simp [Act.eval, Act.put]) (by simp [Act.eval, Act.put]) (hcp1 _ _ _) ?_)
 go_wp2_with (at_builtin; refine wpList_copy_runI _ rfl _ _ 22 22 rfl _ _ rfl rfl (hcp2 _ (fun _ => rfl) (fun _ => rfl) _ _) ?_)
 go_ret
 first | exact ⟨rfl, rfl⟩ | exact ⟨rfl, by rw [hW1]⟩
set_option maxHeartbeats 4000000 in
set_option maxRecDepth 100000 in
theorem ins_grow (b n c i vb : Nat) (cs : List Value) (x : Value) (cur : Array Value) (w : World) (hi : i < n) (hnc : n ≤ c) (hroom : c < n + 1) (hbig : (n + 1) * 4 ≤ 140737488355328) (hvb : vb ≠ b) (hcl : cs.length = n) (hcur : w.heap[b]? = some (.cells cur 47 (0, 0))) (htk : cur.toList.take n = cs)
  (hx : w.heap[vb]? = some (.cells #[x] 47 (0, 0))) (h1c : ∀ v ∈ cs, v.oneCell' = true) (h1v : x.oneCell' = true) :
  Calls Tryz.prog 217 #[.slice (some ⟨b, 0, none⟩) n c, .int .i64 i, .slice (some ⟨vb, 0, none⟩) 1 1] w fun e w' =>
   ∃ G, n + 1 ≤ G ∧ G ≤ maxLen ∧ e = .returned (.slice (some ⟨w.heap.size, 0, none⟩) (n + 1) G) ∧
   w' = (((w.alloc (.cells ((cs.take i).toArray ++ Builtin.zeroCells (Value.int .u32 0).cells (n + 1 - i) ++ Builtin.zeroCells (Value.int .u32 0).cells (G - (n + 1))) 47)).drew.setCells w.heap.size i [x]).drew).setCells w.heap.size (i + 1) (cs.drop i) := by
 have hcs : ∀ j v, cs[j]? = some v → w.cell? ⟨b, j, none⟩ = some v := fun j v hj => by
  rw [← htk, List.getElem?_take] at hj
  split at hj
  ·simp [World.cell?, hcur]
   rw [← Array.getElem?_toList]
   exact hj
  ·cases hj
 have hvc : w.cell? ⟨vb, 0, none⟩ = some x := by simp [World.cell?, hx]
 obtain ⟨i0, hi0, hzz⟩ := Option.map_eq_some_iff.1 info_u32
 simp only [Prod.mk.injEq] at hzz
 obtain ⟨hz0, hzs, hzb⟩ := hzz
 have hz2 : ¬ ((i : Int) = (n : Int)) := by omega
 have hz3 : (c : Int) < (n : Int) + 1 := by omega
 have hsz : (Tryz.prog.info? 47).map (·.size) = some 1 := by kernel_rfl
 have hbw : b < w.heap.size := (Array.getElem?_eq_some_iff.1 hcur).1
 have hvw : vb < w.heap.size := (Array.getElem?_eq_some_iff.1 hx).1
 have hkk : (n : Int) + 1 - (i : Int) = ((n + 1 - i : Nat) : Int) := by omega
 have hik : i + (n + 1 - i) = n + 1 := by omega
 have hold : (Builtin.firstCells i0.size i (.slice (some ⟨b, 0, none⟩) i c)).run Tryz.prog w.drew = .ok (cs.take i).toArray w.drew := by
  rw [hzs]
  exact run_firstCells_some w.drew 1 i ⟨b, 0, none⟩ i c (cs.take i) (by rw [List.length_take]; omega) (fun j v hj => by
   rw [Addr.add_lit, Nat.zero_add]
   rw [List.getElem?_take] at hj
   split at hj
   ·exact hcs j v hj
   ·cases hj)
 have hrz : ∀ ty, (Builtin.append_ #[22, 3] ty #[.slice (some ⟨b, 0, none⟩) i c, .int .i64 ((n : Int) + 1 - (i : Int))]).run Tryz.prog w =
   .ok (.slice (some ⟨w.heap.size, 0, none⟩) (n + 1) (grownCap w (n + 1) c 47)) (w.drew.alloc (.cells ((cs.take i).toArray ++ Builtin.zeroCells (Value.int .u32 0).cells (n + 1 - i) ++ Builtin.zeroCells (Value.int .u32 0).cells (grownCap w (n + 1) c 47 - (n + 1))) 47)) := fun ty => by
  have h := Lib.run_append_grow_zeros w 22 3 ty 47 i0 _ .i64 .i64 Tryz.underlying22 Tryz.underlying3 hi0 hz0 (some ⟨b, 0, none⟩) i c (cs.take i) hold (n + 1 - i) (by omega) (by omega) (by omega) (by omega) (by rw [hzb]; omega) (by rw [hzb, hik]; exact growslice_fits hroom hbig)
  rw [hik] at h
  rw [hkk]
  exact h
 obtain ⟨G, hG⟩ : ∃ G, G = grownCap w (n + 1) c 47 := ⟨_, rfl⟩
 rw [← hG] at hrz
 obtain ⟨ROW, hROW⟩ : ∃ ROW : Array Value, ROW = (cs.take i).toArray ++ Builtin.zeroCells (Value.int .u32 0).cells (n + 1 - i) ++ Builtin.zeroCells (Value.int .u32 0).cells (G - (n + 1)) := ⟨_, rfl⟩
 rw [← hROW] at hrz
 have hRl : n + 1 ≤ ROW.size := by
  rw [hROW]
  simp [Builtin.zeroCells, Value.cells]
  omega
 obtain ⟨W1, hW1⟩ : ∃ W1, W1 = w.drew.alloc (.cells ROW 47) := ⟨_, rfl⟩
 rw [← hW1] at hrz
 have hN : ∀ j, j < n + 1 → (W1.cell? ⟨w.heap.size, j, none⟩).isSome = true := fun j hj => by
  rw [hW1, World.cell?_alloc_at (w := w.drew) ROW _ w.heap.size j rfl, Array.getElem?_eq_getElem (by omega)]; rfl
 have hNf : ∀ j, W1.frozen? ⟨w.heap.size, j, none⟩ = false := fun j => by rw [hW1]; exact World.frozen?_alloc_at (w := w.drew) ROW _ w.heap.size j rfl
 have hOb : ∀ j v, w.cell? ⟨b, j, none⟩ = some v → W1.cell? ⟨b, j, none⟩ = some v := fun j v h => by rw [hW1, World.cell?_alloc_past (w := w.drew) _ b j hbw]; exact h
 have hOv : ∀ j v, w.cell? ⟨vb, j, none⟩ = some v → W1.cell? ⟨vb, j, none⟩ = some v := fun j v h => by rw [hW1, World.cell?_alloc_past (w := w.drew) _ vb j hvw]; exact h
 have hcpA : ∀ (W : World), (∀ x, W.cell? x = W1.cell? x) → (∀ x, W.frozen? x = W1.frozen? x) → ∀ ty dc, (Builtin.copy_ #[22, 22] ty #[.slice (some ⟨w.heap.size, i, none⟩) (n + 1 - i) dc, .slice (some ⟨vb, 0, none⟩) 1 1]).run Tryz.prog W = .ok (goInt [x].length) (W.setCells w.heap.size i [x]) := fun W hWc hWf ty dc =>
  run_copy_cells W _ _ ty 47 w.heap.size i (n + 1 - i) dc ⟨vb, 0, none⟩ 1 1 [x] Tryz.underlying22 hsz (by simp only [Nat.min_def, List.length_singleton]; split <;> omega)
   (fun j v hj => by
    rw [Addr.add_lit, hWc]
    refine hOv _ v ?_
    cases j with
    | zero => simp at hj; rw [← hj]; exact hvc
    | succ j => simp at hj)
   (fun j hj => by rw [hWc]; exact hN (i + j) (by have h1 : j < 1 := hj; omega)) (fun j hj => by rw [hWf]; exact hNf _) (fun v hv => by simp at hv; rw [hv]; exact h1v)
 have hGn : n + 1 ≤ G := by rw [hG]; exact grownCap_ge w _ _ _
 have hGm : G ≤ maxLen := by
  have := grownCap_le_maxLen w (n + 1) c 47 (by unfold maxLen; omega)
  rwa [← hG] at this
 have hG63 : G ≤ 9223372036854775807 := by
  have := hGm
  unfold maxLen at this
  omega
 have hGi : ¬ (G = i) := by omega
 have hGim : ¬ (G = i + 1) := by omega
 have hci : ¬ (c = i) := by omega
 have hbN : b ≠ w.heap.size := by omega
 have hdl : (cs.drop i).length = n - i := by rw [List.length_drop, hcl]
 have hcpB : ∀ (W : World), (∀ y, W.cell? y = (W1.setCells w.heap.size i [x]).cell? y) → (∀ y, W.frozen? y = (W1.setCells w.heap.size i [x]).frozen? y) → ∀ ty dc sc, (Builtin.copy_ #[22, 22] ty #[.slice (some ⟨w.heap.size, i + 1, none⟩) (n - i) dc, .slice (some ⟨b, i, none⟩) (n - i) sc]).run Tryz.prog W = .ok (goInt (cs.drop i).length) (W.setCells w.heap.size (i + 1) (cs.drop i)) := fun W hWc hWf ty dc sc =>
  run_copy_cells W _ _ ty 47 w.heap.size (i + 1) (n - i) dc ⟨b, i, none⟩ (n - i) sc (cs.drop i) Tryz.underlying22 hsz (by rw [hdl]; simp only [Nat.min_def]; split <;> omega)
   (fun j v hj => by
    rw [Addr.add_lit, hWc, World.cell?_setCells_out _ _ _ _ _ (fun h _ => absurd h hbN)]
    exact hOb _ v (hcs (i + j) v (by rwa [List.getElem?_drop] at hj)))
   (fun j hj => by rw [hWc]; exact Go.Proofs.isSome_setCells w.heap.size [x] i W1 (fun t ht => hN (i + t) (by have h1 : t < 1 := ht; omega)) _ (hN (i + 1 + j) (by have h2 : j < n - i := hdl ▸ hj; omega)))
   (fun j hj => by rw [hWf, World.frozen?_setCells]; exact hNf _) (fun v hv => h1c v (List.mem_of_mem_drop hv))
 subst hW1
 have hE1 : ∀ x, ((w.alloc (.cells ROW 47)).drew).cell? x = (w.drew.alloc (.cells ROW 47)).cell? x := fun x => rfl
 have hE2 : ∀ x, ((w.alloc (.cells ROW 47)).drew).frozen? x = (w.drew.alloc (.cells ROW 47)).frozen? x := fun x => rfl
 have hF1 : ∀ y, (((w.alloc (.cells ROW 47)).drew.setCells w.heap.size i [x]).drew).cell? y = ((w.drew.alloc (.cells ROW 47)).setCells w.heap.size i [x]).cell? y := fun y => rfl
 have hF2 : ∀ y, (((w.alloc (.cells ROW 47)).drew.setCells w.heap.size i [x]).drew).frozen? y = ((w.drew.alloc (.cells ROW 47)).setCells w.heap.size i [x]).frozen? y := fun y => rfl
 have hw1 : IntKind.i64.wrap ((i : Int) + 1) = (i : Int) + 1 := by rw [IntKind.wrap_i64]; omega
 have hb1 : (0 : Int) ≤ (i : Int) + 1 := by omega
 have hin : i ≤ n := by omega
 have htn : ((i : Int) + 1).toNat = i + 1 := by omega
 have hb3 : (i : Int) ≤ (n : Int) := by omega
 have HROW := Lib.hid hROW
 have mixed : Tryz.prog.follows Departure.mixedOrders = true := by kernel_rfl
 clear hkk hik hold hROW hG hRl hcs hcur htk hx hvc
 go_enter Tryz.func217, Tryz.ntmps217
 go_wp2_with (first
  | (at_builtin; refine Lib.wpList_append_run _ rfl _ _ _ _ rfl _ _ rfl rfl _ _ (hrz _) ?_)
  | (at_builtin; refine wpList_copy_runI _ rfl _ _ 22 22 rfl _ _ rfl rfl (hcpA _ hE1 hE2 _ _) ?_)
  | (at_builtin; refine wpList_copy_runI _ rfl _ _ 22 22 rfl _ _ rfl rfl (hcpB _ (fun _ => rfl) (fun _ => rfl) _ _ _) ?_))
 go_region_law_o (refine step_copy_runI rfl _ _ 22 22 rfl (.slice (some ⟨w.heap.size, i + 1, none⟩) (n - i) (G - (i + 1))) (.slice (some ⟨b, i, none⟩) (n - i) (c - i)) (by simp [Act.eval, Act.put]) (by simp [Act.eval, Act.put]) (hcpB _ hF1 hF2 3 (G - (i + 1)) (c - i)) ?_)
 go_wp2
 go_ret
 exact ⟨G, hGn, hGm, rfl, by rw [← HROW.out]⟩
theorem below_setCells_u {B g : Nat} (hg : B ≤ g) : ∀ (vs : List Value) (o : Nat) {w0 w : World}, Below B w0 w → Below B w0 (w.setCells g o vs)
 | [], _, _, _, h => h
 | v :: r, o, _, _, h => below_setCells_u hg r (o + 1) (Below.setCell h hg _)
theorem other_setCells (g : Nat) : ∀ (vs : List Value) (o : Nat) (w : World) (k : Nat), k ≠ g → (w.setCells g o vs).heap[k]? = w.heap[k]?
 | [], _, _, _, _ => rfl
 | v :: r, o, w, k, h => by rw [World.setCells, other_setCells g r _ _ k h]; exact Below.heap_setCell w _ _ k h
theorem eff_setCells (w : World) (g o : Nat) (vs : List Value) : Eff w (w.setCells g o vs) (fun k => k = g) :=
 ⟨(below_setCells_u (B := 0) (g := g) (Nat.zero_le _) vs o (Below.refl _ _)).os, (below_setCells_u (B := 0) (g := g) (Nat.zero_le _) vs o (Below.refl _ _)).tape, (below_setCells_u (B := 0) (g := g) (Nat.zero_le _) vs o (Below.refl _ _)).output, (below_setCells_u (B := 0) (g := g) (Nat.zero_le _) vs o (Below.refl _ _)).size, fun k _ h => other_setCells g vs o w k h⟩
def insL (l : List Int) (i : Nat) (x : Int) : List Int := l.take i ++ x :: l.drop i
theorem insL_len {l : List Int} {i : Nat} (h : i ≤ l.length) (x : Int) : (insL l i x).length = l.length + 1 := by
 simp only [insL, List.length_append, List.length_take, List.length_cons, List.length_drop]; omega
theorem insL_nums (k : IntKind) (l : List Int) (i : Nat) (x : Int) : nums k (insL l i x) = (nums k l).take i ++ Value.int k x :: (nums k l).drop i := by
 simp [nums, insL, List.map_take, List.map_drop]
theorem fin_list (X R : List Value) (v : Value) (n i : Nat) (hX : X.length = n) (hi : i ≤ n) : (X.take i ++ [v] ++ (X.drop i ++ R)).take (n + 1) = X.take i ++ v :: X.drop i := by
 have e : X.take i ++ [v] ++ (X.drop i ++ R) = (X.take i ++ v :: X.drop i) ++ R := by simp
 rw [e]
 exact List.take_left' (by simp only [List.length_append, List.length_take, List.length_cons, List.length_drop]; omega)
theorem room_list (L X : List Value) (v : Value) (n i : Nat) (hL : n + 1 ≤ L.length) (hi : i < n) (hX : L.take n = X) :
  (((L.take (i + 1) ++ X.drop i ++ L.drop (i + 1 + (X.drop i).length)).take i ++ [v] ++ (L.take (i + 1) ++ X.drop i ++ L.drop (i + 1 + (X.drop i).length)).drop (i + [v].length))).take (n + 1) = X.take i ++ v :: X.drop i := by
 have hXl : X.length = n := by rw [← hX, List.length_take]; omega
 have ht : (L.take (i + 1)).length = i + 1 := by rw [List.length_take]; omega
 have e1 : (L.take (i + 1) ++ X.drop i ++ L.drop (i + 1 + (X.drop i).length)).take i = X.take i := by
  rw [List.append_assoc, List.take_append_of_le_length (by rw [ht]; omega), List.take_take, ← hX, List.take_take]
  congr 1
  omega
 have e2 : (L.take (i + 1) ++ X.drop i ++ L.drop (i + 1 + (X.drop i).length)).drop (i + [v].length) = X.drop i ++ L.drop (i + 1 + (X.drop i).length) := by
  rw [List.append_assoc]
  exact List.drop_left' (by rw [ht]; rfl)
 rw [e1, e2]
 exact fin_list X _ v n i hXl (by omega)
theorem grow_list (L X : List Value) (v : Value) (n i : Nat) (hL : n + 1 ≤ L.length) (hi : i < n) (hXl : X.length = n) (hX : L.take i = X.take i) :
  (((L.take i ++ [v] ++ L.drop (i + [v].length)).take (i + 1) ++ X.drop i ++ (L.take i ++ [v] ++ L.drop (i + [v].length)).drop (i + 1 + (X.drop i).length))).take (n + 1) = X.take i ++ v :: X.drop i := by
 have e1 : (L.take i ++ [v] ++ L.drop (i + [v].length)).take (i + 1) = X.take i ++ [v] := by
  rw [hX]
  exact List.take_left' (by simp only [List.length_append, List.length_take, List.length_singleton]; omega)
 rw [e1, List.append_assoc (X.take i ++ [v])]
 exact fin_list X _ v n i hXl (by omega)
set_option maxHeartbeats 1000000 in
set_option maxRecDepth 100000 in
theorem insert_end {w0 w : World} (base : Nat) (l : List Int) (i : Nat) (x : Int) (v : Value) (vb : Nat) (HO : w.ownsRow base 47 1 v l.length (nums .u32 l)) (hin : i = l.length) (hx : w.heap[vb]? = some (.cells #[.int .u32 x] 47 (0, 0))) (hne : v.ownBlock ≠ some vb) (hb : Below base w0 w) (hbase : base ≤ w.heap.size) (hl : (l.length + 1) * 4 ≤ 140737488355328) :
  Calls Tryz.prog 217 #[v, .int .i64 i, .slice (some ⟨vb, 0, none⟩) 1 1] w fun e w' =>
   ∃ v1, e = .returned v1 ∧ w'.ownsRow base 47 1 v1 (insL l i x).length (nums .u32 (insL l i x)) ∧ Below base w0 w' ∧ Eff w w' (fun k => some k = v.ownBlock) := by
 have hlen : l.length + 1 ≤ 140737488355328 := by omega
 subst hin
 have HR : ReadsInt w .u32 (some ⟨vb, 0, none⟩) 1 [x] := ⟨rfl, by decide, fun _ => ⟨_, rfl, fun k hk => by
  have hk0 : k = 0 := by omega
  subst hk0
  simp [World.cell?, hx, Addr.add]⟩⟩
 have hlc : ∃ A c, v = .slice A l.length c ∧ l.length ≤ c := by
  rcases HO.2 with ⟨rfl, h0⟩ | ⟨g, cap, cur, rfl, _, _, hnc, _⟩
  ·exact ⟨none, 0, by rw [h0], by omega⟩
  ·exact ⟨_, _, rfl, hnc⟩
 obtain ⟨A, c, rfl, hc⟩ := hlc
 have HO1 := Lib.hid HO
 have HR1 := Lib.hid HR
 have HB1 := Lib.hid hb
 have hn0 : ¬ ((l.length : Int) < 0) := by omega
 clear HO HR hb hx
 have hA : A = none ∨ ∃ ad, A = some ad := by cases A with | none => exact .inl rfl | some a => exact .inr ⟨a, rfl⟩
 rcases hA with rfl | ⟨ad, rfl⟩
 ·have h0 : l.length = 0 ∧ c = 0 := by
   rcases HO1.out.2 with ⟨h, h0⟩ | ⟨g, cap, cur, h, _⟩
   ·injection h with _ _ h; exact ⟨h0, h⟩
   ·cases h
  obtain ⟨h0, rfl⟩ := h0
  obtain rfl : l = [] := List.eq_nil_of_length_eq_zero h0
  have HO2 : Hid (w.ownsRow base 47 1 (.slice none 0 0) ([] : List Int).length (nums .u32 [])) := HO1
  change Calls _ _ #[.slice none 0 0, .int .i64 0, .slice (some ⟨vb, 0, none⟩) 1 1] w _
  clear HO1 hn0 h0
  go_enter Tryz.func217, Tryz.ntmps217
  go_wp2_with (at_builtin; refine print_append_row (w0 := w0) base rfl (.tmp 23) (.tmp 24) 22 47 .u32 4 rfl Tryz.underlying22 info_u32 (by decide) (.slice none 0 0) [] [x] (some ⟨vb, 0, none⟩) 1 1 rfl rfl HO2.out HR1.out HB1.out hbase (by decide) ?_; intro v1 w1 ho1 hb1 hg1 hat1; have HO3 := Lib.hid ho1; have HB2 := Lib.hid hb1; have HG2 := Lib.hid hg1; clear ho1 hb1 hg1 hat1)
  go_ret
  exact ⟨v1, rfl, HO3.out, HB2.out, Eff.of_grown HG2.out |>.mono fun k _ h => h⟩
 ·have hi0 : (0 : Int) ≤ (l.length : Int) := by omega
  have hcl : ¬ c < l.length := by omega
  go_enter Tryz.func217, Tryz.ntmps217
  go_wp2_with (at_builtin; refine print_append_row (w0 := w0) base rfl (.tmp 23) (.tmp 24) 22 47 .u32 4 rfl Tryz.underlying22 info_u32 (by decide) _ l [x] (some ⟨vb, 0, none⟩) 1 1 rfl rfl HO1.out HR1.out HB1.out hbase (by omega) ?_; intro v1 w1 ho1 hb1 hg1 hat1; have HO2 := Lib.hid ho1; have HB2 := Lib.hid hb1; have HG2 := Lib.hid hg1; clear ho1 hb1 hg1 hat1)
  all_goals go_ret
  all_goals
   refine ⟨v1, rfl, ?_, HB2.out, Eff.of_grown HG2.out |>.mono fun k _ h => h⟩
   have e : insL l l.length x = l ++ [x] := by unfold insL; rw [List.take_length, List.drop_length]
   rw [e]
   exact HO2.out
set_option maxHeartbeats 1000000 in
set_option maxRecDepth 100000 in
theorem insert_room {w0 w : World} (base : Nat) (l : List Int) (i : Nat) (x : Int) (b c vb : Nat) (cur : Array Value) (hi : i ≤ l.length) (hlt : i < l.length) (hx : w.heap[vb]? = some (.cells #[.int .u32 x] 47 (0, 0))) (hb : Below base w0 w) (hbase : base ≤ w.heap.size) (hl : (l.length + 1) * 4 ≤ 140737488355328)
  (hbb : base ≤ b) (hcur : w.heap[b]? = some (.cells cur 47 (0, 0))) (hnc : l.length ≤ c) (hcm : c ≤ maxLen) (hcs : cur.size = c) (htk : cur.toList.take l.length = nums .u32 l) (hvb : vb ≠ b) (hroom : l.length + 1 ≤ c) :
  Calls Tryz.prog 217 #[.slice (some ⟨b, 0, none⟩) l.length c, .int .i64 i, .slice (some ⟨vb, 0, none⟩) 1 1] w fun e w' =>
   ∃ v1, e = .returned v1 ∧ w'.ownsRow base 47 1 v1 (insL l i x).length (nums .u32 (insL l i x)) ∧ Below base w0 w' ∧ Eff w w' (fun k => k = b) := by
 have hnl : (nums .u32 l).length = l.length := nums_len _ _
 refine (ins_shift b l.length c i vb (nums .u32 l) (.int .u32 x) cur w hlt hroom (by unfold maxLen at hcm; omega) hvb hnl hcur hcs htk hx one_nums rfl).mono ?_
 rintro e w' ⟨rfl, rfl⟩
 have hc1 : w.drew.heap[b]? = some (.cells cur 47 (0, 0)) := hcur
 have h1 := heap_setCells_same b ((nums .u32 l).drop i) (i + 1) w.drew cur hc1
 have h2 := heap_setCells_same b [Value.int .u32 x] i _ _ h1
 have hdl : ((nums .u32 l).drop i).length = l.length - i := by rw [List.length_drop, hnl]
 refine ⟨_, rfl, ⟨by rw [nums_len, Nat.mul_one], .inr ⟨b, c, _, by rw [insL_len hi], hbb, h2, by rw [insL_len hi]; exact hroom, hcm, by rw [ovr_size, ovr_size, Nat.mul_one]; exact hcs, ?_⟩⟩, below_setCells_u hbb _ _ (below_setCells_u hbb _ _ (below_drew1 hb)), ?_⟩
 ·rw [Nat.mul_one, insL_len hi, ovr_list _ _ _ (by rw [ovr_size]; simp; omega), ovr_list _ _ _ (by rw [hdl]; omega), insL_nums]
  exact room_list cur.toList (nums .u32 l) _ l.length i (by simp; omega) hlt htk
 ·exact ((Eff.drewN w 1 _).trans (eff_setCells w.drew b _ _) (fun k _ h => h)).trans (eff_setCells _ b _ _) (fun k _ h => h)
set_option maxHeartbeats 1000000 in
set_option maxRecDepth 100000 in
theorem insert_grow {w0 w : World} (base : Nat) (l : List Int) (i : Nat) (x : Int) (b c vb : Nat) (cur : Array Value) (hi : i ≤ l.length) (hlt : i < l.length) (hx : w.heap[vb]? = some (.cells #[.int .u32 x] 47 (0, 0))) (hb : Below base w0 w) (hbase : base ≤ w.heap.size) (hl : (l.length + 1) * 4 ≤ 140737488355328)
  (hbb : base ≤ b) (hcur : w.heap[b]? = some (.cells cur 47 (0, 0))) (hnc : l.length ≤ c) (hcm : c ≤ maxLen) (hcs : cur.size = c) (htk : cur.toList.take l.length = nums .u32 l) (hvb : vb ≠ b) (hroom : ¬ l.length + 1 ≤ c) :
  Calls Tryz.prog 217 #[.slice (some ⟨b, 0, none⟩) l.length c, .int .i64 i, .slice (some ⟨vb, 0, none⟩) 1 1] w fun e w' =>
   ∃ v1, e = .returned v1 ∧ w'.ownsRow base 47 1 v1 (insL l i x).length (nums .u32 (insL l i x)) ∧ Below base w0 w' ∧ Eff w w' (fun k => k = b) := by
 have hnl : (nums .u32 l).length = l.length := nums_len _ _
 refine (ins_grow b l.length c i vb (nums .u32 l) (.int .u32 x) cur w hlt hnc (by omega) hl hvb hnl hcur htk hx one_nums rfl).mono ?_
 rintro e w' ⟨G, hG1, hG2, rfl, rfl⟩
 obtain ⟨ROW, hROW⟩ : ∃ ROW : Array Value, ROW = ((nums .u32 l).take i).toArray ++ Builtin.zeroCells (Value.int .u32 0).cells (l.length + 1 - i) ++ Builtin.zeroCells (Value.int .u32 0).cells (G - (l.length + 1)) := ⟨_, rfl⟩
 rw [← hROW]
 have hti : ((nums .u32 l).take i).length = i := by rw [List.length_take, hnl]; omega
 have hdl : ((nums .u32 l).drop i).length = l.length - i := by rw [List.length_drop, hnl]
 have hRs : ROW.size = G := by
  rw [hROW]
  simp only [Array.size_append, List.size_toArray, hti, Builtin.zeroCells, Value.cells]
  simp
  omega
 have hRt : ROW.toList.take i = (nums .u32 l).take i := by
  rw [hROW, Array.toList_append, Array.toList_append, List.append_assoc, List.take_append_of_le_length (by simp [hti]), List.toList_toArray, List.take_take, Nat.min_self]
 have hc0 : ((w.alloc (.cells ROW 47)).drew).heap[w.heap.size]? = some (.cells ROW 47 (0, 0)) := heap_alloc_new _ _
 have h1 := heap_setCells_same w.heap.size [Value.int .u32 x] i _ ROW hc0
 have h2 := heap_setCells_same w.heap.size ((nums .u32 l).drop i) (i + 1) (((w.alloc (.cells ROW 47)).drew.setCells w.heap.size i [Value.int .u32 x]).drew) _ h1
 refine ⟨_, rfl, ⟨by rw [nums_len, Nat.mul_one], .inr ⟨w.heap.size, G, _, by rw [insL_len hi], hbase, h2, by rw [insL_len hi]; exact hG1, hG2, by rw [ovr_size, ovr_size, Nat.mul_one]; exact hRs, ?_⟩⟩, below_setCells_u hbase _ _ (below_drew1 (below_setCells_u hbase _ _ (below_drew1 (hb.alloc hbase _)))), ?_⟩
 ·rw [Nat.mul_one, insL_len hi, ovr_list _ _ _ (by rw [ovr_size, hdl]; omega), ovr_list _ _ _ (by simp; omega), insL_nums]
  exact grow_list ROW.toList (nums .u32 l) _ l.length i (by simp; omega) hlt hnl hRt
 ·have hS : ∀ k, k < w.heap.size → k = w.heap.size → False := fun k h e => by omega
  exact (((((Eff.alloc w _ _).trans (Eff.drewN _ 1 _) (fun _ _ h => h)).trans (eff_setCells _ w.heap.size _ _) (fun k hk h => (hS k hk h).elim)).trans (Eff.drewN _ 1 _) (fun _ _ h => h)).trans (eff_setCells _ w.heap.size _ _) (fun k hk h => (hS k hk h).elim))
theorem insert_c {w0 w : World} (base : Nat) (l : List Int) (i : Nat) (x : Int) (v : Value) (vb : Nat) (HO : w.ownsRow base 47 1 v l.length (nums .u32 l)) (hi : i ≤ l.length) (hx : w.heap[vb]? = some (.cells #[.int .u32 x] 47 (0, 0))) (hne : v.ownBlock ≠ some vb) (hb : Below base w0 w) (hbase : base ≤ w.heap.size) (hl : (l.length + 1) * 4 ≤ 140737488355328) :
  Calls Tryz.prog 217 #[v, .int .i64 i, .slice (some ⟨vb, 0, none⟩) 1 1] w fun e w' =>
   ∃ v1, e = .returned v1 ∧ w'.ownsRow base 47 1 v1 (insL l i x).length (nums .u32 (insL l i x)) ∧ Below base w0 w' ∧ Eff w w' (fun k => some k = v.ownBlock) := by
 by_cases hin : i = l.length
 ·exact insert_end base l i x v vb HO hin hx hne hb hbase hl
 ·rcases HO.2 with ⟨rfl, h0⟩ | ⟨b, c, cur, rfl, hbb, hcur, hnc, hcm, hcs, htk⟩
  ·omega
  ·have hvb : vb ≠ b := fun e => hne (by rw [e]; rfl)
   rw [Nat.mul_one] at hcs htk
   have hS : ∀ w', Eff w w' (fun k => k = b) → Eff w w' (fun k => some k = (Value.slice (some ⟨b, 0, none⟩) l.length c).ownBlock) := fun w' h => h.mono fun k _ e => by rw [e]; rfl
   by_cases hroom : l.length + 1 ≤ c
   ·exact (insert_room base l i x b c vb cur hi (by omega) hx hb hbase hl hbb hcur hnc hcm hcs htk hvb hroom).mono fun _ _ ⟨v1, h1, h2, h3, h4⟩ => ⟨v1, h1, h2, h3, hS _ h4⟩
   ·exact (insert_grow base l i x b c vb cur hi (by omega) hx hb hbase hl hbb hcur hnc hcm hcs htk hvb hroom).mono fun _ _ ⟨v1, h1, h2, h3, h4⟩ => ⟨v1, h1, h2, h3, hS _ h4⟩
end Go.Proofs.YtppchdinolndmaaGreat
namespace Go.Proofs.YtppchdinolndmaaGreat
open Go.RowKit Go.Proofs.YtppchdinolndmaaGreatW.PrintWords Go.Proofs.YtppchdinolndmaaGreatW.PrintLast Go.Proofs.YtppchdinolndmaaGreatW.PrintMore Go.Proofs.YtppchdinolndmaaGreat.PPu
set_option linter.unusedVariables false
set_option linter.unusedSimpArgs false
def isP (n : Int) : Bool := if n ≤ 1114111 then (if n < 55296 then true else decide (n > 57343)) else false
theorem is_c (n : Int) (w : World) : Calls Tryz.prog 105 #[.int .u32 n] w fun e w' => e = .returned (.bool (isP n)) ∧ Below w.heap.size w w' := by
 refine (scalar_Is.calls n (isP n) w ?_).mono ?_
 ·unfold scalar_Is.f isP; split <;> (try split) <;> rfl
 ·rintro e w' ⟨rfl, ⟨nd, rfl⟩⟩
  exact ⟨rfl, below_drewN' (Below.refl _ _) nd⟩
theorem get_c (s : ByteArray) (at_ b : Int) (w : World) (hs : s.size ≤ 1000000000) (h0 : 0 ≤ at_) (h1 : at_ ≤ s.size) :
  Calls Tryz.prog 216 #[.string s, .int .i64 at_, .int .i64 b] w fun e w' => ∃ r1 r2 r3, e = .returned (.tuple #[.int .u64 r1, .int .i64 r2, .int .i64 r3]) ∧ (match getP s at_ b with | some (v, e) => r1 = v ∧ r2 = e ∧ r3 = 0 | none => r3 ≠ 0) ∧ Below w.heap.size w w' := by
 have h := get_f s b at_ hs h0 h1 (2 * s.size + 10) (Nat.le_refl _)
 cases hg : getP s at_ b with
 | none =>
  rw [hg] at h
  obtain ⟨er, he, hr⟩ := h
  exact (bias_Get.calls _ s at_ b _ _ _ w hr).mono fun e w' h => ⟨_, _, _, h.1, he, h.2⟩
 | some x =>
  obtain ⟨v, e⟩ := x
  rw [hg] at h
  exact (bias_Get.calls _ s at_ b _ _ _ w h).mono fun e w' h => ⟨_, _, _, h.1, ⟨rfl, rfl, rfl⟩, h.2⟩
theorem adapt_c (delta points : Int) (first : Bool) (w : World) (h0 : 0 ≤ delta) (h1 : delta ≤ topP) (hp : 1 ≤ points) :
  Calls Tryz.prog 128 #[.int .u64 delta, .int .u64 points, .bool first] w fun e w' => e = .returned (.int .i64 (adaptP delta points first)) ∧ Below w.heap.size w w' :=
 bias_Adapt.calls 30 delta points first _ w (adapt_f delta points first h0 h1 hp 30 (Nat.le_refl _))
theorem last_c (s : ByteArray) (w : World) (hs : s.size ≤ 1000000000) :
  Calls Tryz.prog 215 #[.string s, .int .u8 45] w fun e w' => e = .returned (.int .i64 (lastP s 45 s.size)) ∧ Below w.heap.size w w' :=
 (strings_LastIndexByte.calls (s.size + 1) s 45 _ w (last_f s 45 hs _ (Nat.le_refl _))).mono fun e w' h => ⟨h.1, by obtain ⟨nd, h2⟩ := h.2; rw [h2]; exact below_drewN' (Below.refl _ _) nd⟩
theorem last_range (s : ByteArray) (c : Int) : ∀ m, -1 ≤ lastP s c m ∧ lastP s c m < m
 | 0 => ⟨Int.le_refl (-1), (by decide : (-1 : Int) < ((0 : Nat) : Int))⟩
 | m + 1 => by
  have := last_range s c m
  rw [lastP]
  split <;> omega
def preL (s : ByteArray) (p : Nat) : List Int := (List.range p).map fun (j : Nat) => bt s (j : Int)
theorem preL_len (s : ByteArray) (p : Nat) : (preL s p).length = p := by simp [preL]
theorem preL_succ (s : ByteArray) (p : Nat) : preL s (p + 1) = preL s p ++ [bt s (p : Int)] := by simp [preL, List.range_succ]
theorem isP_big {n : Int} (h : n > 1114111) : isP n = false := by unfold isP; rw [if_neg (by omega)]
theorem reads_one (w : World) (x y : Int) (h : x = y) : ReadsInt (w.alloc (.cells #[.int .u32 x] 47 (0, 0))) .u32 (some ⟨w.heap.size, 0, none⟩) 1 [y] := by
 subst h
 refine ⟨rfl, by decide, fun _ => ⟨_, rfl, fun k hk => ?_⟩⟩
 obtain rfl : k = 0 := by omega
 rw [Addr.add_lit]
 exact (Blk.new w 47 #[.int .u32 x]).cell rfl
def denGo (s : ByteArray) : Nat → Int → List Int → Int → Int → Int → Bool → Option (List Int)
 | 0, _, _, _, _, _, _ => none
 | k + 1, at_, l, n, i, b, once =>
  if at_ < (s.size : Int) then
   match getP s at_ b with
   | none => none
   | some (delta, e) =>
    if isP (n + (i + delta) / ((l.length : Int) + 1)) = true then
     denGo s k e (insL l ((i + delta) % ((l.length : Int) + 1)).toNat (n + (i + delta) / ((l.length : Int) + 1))) (n + (i + delta) / ((l.length : Int) + 1)) ((i + delta) % ((l.length : Int) + 1) + 1) (adaptP delta ((l.length : Int) + 1) once) false
    else none
  else some l
def denP (s : ByteArray) : Option (List Int) :=
 let p := lastP s 45 s.size
 let t := if 0 < p then s.extract (p.toNat + 1) s.size else s
 denGo t (t.size + 1) 0 (if 0 < p then preL s p.toNat else []) 128 0 72 true
def denR (s : ByteArray) : List Int × Bool := match denP s with | some l => (l, true) | none => ([], false)
def InvA (ts kq : Nat) (a : Int) (f : Nat) : Prop := 0 ≤ a ∧ a ≤ ts ∧ kq = ts - a.toNat ∧ (ts : Int) + 1 ≤ f + a
def InvN (ss : Nat) (l : List Int) (n i a : Int) : Prop := 0 ≤ n ∧ n ≤ 1114111 ∧ 0 ≤ i ∧ i ≤ l.length ∧ (l.length : Int) ≤ ss + a
theorem InvA.f1 {ts kq : Nat} {a : Int} {f : Nat} (h : InvA ts kq a f) : ∃ j, f = j + 1 := ⟨f - 1, by obtain ⟨a0, a1, a2, a3⟩ := h; omega⟩
structure StepF (ss ts : Nat) (l : List Int) (n i r r2 D N : Int) (mi kq f : Nat) : Prop where
 hD : (i + r) / ((l.length : Int) + 1) = D
 hM : (i + r) % ((l.length : Int) + 1) = (mi : Int)
 hN : n + D = N
 z : ¬ ((l.length : Int) + 1 = 0)
 w1 : IntKind.u64.wrap (i + r) = i + r
 w2 : IntKind.u64.wrap ((l.length : Int) + 1) = (l.length : Int) + 1
 w3 : wrap64 ((l.length : Int) + 1) = (l.length : Int) + 1
 q : Int.tdiv (i + r) ((l.length : Int) + 1) = D
 m : Int.tmod (i + r) ((l.length : Int) + 1) = (mi : Int)
 w4 : IntKind.u64.wrap D = D
 w5 : IntKind.u64.wrap (mi : Int) = (mi : Int)
 w6 : IntKind.u64.wrap (n + D) = N
 w7 : IntKind.u64.wrap ((mi : Int) + 1) = (mi : Int) + 1
 w8 : wrap64 (mi : Int) = (mi : Int)
 n0 : 0 ≤ N
 mle : mi ≤ l.length
 ll : (l.length + 1) * 4 ≤ 140737488355328
 lp : 1 ≤ (l.length : Int) + 1
 u32 : N ≤ 1114111 → N % 4294967296 = N
 invN : N ≤ 1114111 → InvN ss (insL l mi N) N ((mi : Int) + 1) r2
 invA : InvA ts (ts - r2.toNat) r2 f
 less : ts - r2.toNat < kq
theorem step_facts (ss ts : Nat) (l : List Int) (n i a r r2 : Int) (kq f : Nat) (hs : ss ≤ 1000000) (ht : ts ≤ ss) (hA : InvA ts kq a (f + 1)) (hN : InvN ss l n i a) (ha : a < (ts : Int)) (hg : 0 ≤ r ∧ r ≤ topP ∧ a < r2 ∧ (a ≤ ts → r2 ≤ ts)) :
  ∃ (D N : Int) (mi : Nat), StepF ss ts l n i r r2 D N mi kq f := by
 have hT : topP = 4611686018427387904 := rfl
 obtain ⟨a0, a1, a2, a3⟩ := hA
 obtain ⟨n0, n1, i0, i1, l1⟩ := hN
 obtain ⟨r0, r1, r3, r4⟩ := hg
 have r5 := r4 a1
 have hD0 : 0 ≤ (i + r) / ((l.length : Int) + 1) := Int.ediv_nonneg (by omega) (by omega)
 have hD1 : (i + r) / ((l.length : Int) + 1) ≤ i + r := Int.ediv_le_self _ (by omega)
 have hM0 : 0 ≤ (i + r) % ((l.length : Int) + 1) := Int.emod_nonneg _ (by omega)
 have hM1 : (i + r) % ((l.length : Int) + 1) < (l.length : Int) + 1 := Int.emod_lt_of_pos _ (by omega)
 have hq : Int.tdiv (i + r) ((l.length : Int) + 1) = (i + r) / ((l.length : Int) + 1) := Int.tdiv_eq_ediv_of_nonneg (by omega)
 have hr : Int.tmod (i + r) ((l.length : Int) + 1) = (i + r) % ((l.length : Int) + 1) := Int.tmod_eq_emod_of_nonneg (by omega)
 obtain ⟨D, hD⟩ : ∃ D, (i + r) / ((l.length : Int) + 1) = D := ⟨_, rfl⟩
 obtain ⟨M, hM⟩ : ∃ M, (i + r) % ((l.length : Int) + 1) = M := ⟨_, rfl⟩
 rw [hD] at hD0 hD1 hq
 rw [hM] at hM0 hM1 hr
 obtain ⟨mi, rfl⟩ : ∃ mi : Nat, M = mi := ⟨M.toNat, by omega⟩
 have hmi : mi ≤ l.length := by omega
 refine ⟨D, n + D, mi, hD, hM, rfl, by omega, u64 (by omega) (by omega), u64 (by omega) (by omega), w64 (by omega) (by omega), hq, hr, u64 (by omega) (by omega), u64 (by omega) (by omega), u64 (by omega) (by omega), u64 (by omega) (by omega), w64 (by omega) (by omega), by omega, hmi, by omega, by omega, fun h => by omega, fun h => ?_, ?_, by omega⟩
 ·refine ⟨by omega, h, by omega, ?_, ?_⟩
  ·rw [insL_len hmi]; omega
  ·rw [insL_len hmi]; omega
 ·exact ⟨by omega, by omega, by omega, by omega⟩
set_option maxRecDepth 100000 in
set_option maxHeartbeats 4000000 in
theorem denoted_c (s : ByteArray) (w : World) (hs : s.size ≤ 1000000) :
  Calls Tryz.prog 214 #[.string s] w fun e w' => ∃ v, e = .returned (.tuple #[v, .bool (denR s).2]) ∧ w'.ownsRow w.heap.size 47 1 v (denR s).1.length (nums .u32 (denR s).1) ∧ Below w.heap.size w w' := by
 obtain ⟨p, hp⟩ : ∃ p, lastP s 45 s.size = p := ⟨_, rfl⟩
 have hpr := last_range s 45 s.size
 rw [hp] at hpr
 obtain ⟨t, ht⟩ : ∃ t, (if 0 < p then s.extract (p.toNat + 1) s.size else s) = t := ⟨_, rfl⟩
 obtain ⟨l0, hl0⟩ : ∃ l0, (if 0 < p then preL s p.toNat else []) = l0 := ⟨_, rfl⟩
 have HD : Hid (denP s = denGo t (t.size + 1) 0 l0 128 0 72 true) := by
  show denP s = _
  unfold denP
  simp only [hp, ht, hl0]
 have hts : t.size ≤ s.size := by rw [← ht]; split <;> simp [ByteArray.size_extract]
 have hll : l0.length ≤ s.size := by rw [← hl0]; split <;> simp [preL_len]; omega
 have HP := Lib.hid hp
 have HT := Lib.hid ht
 have HL0 := Lib.hid hl0
 have HS := Lib.hid hs
 have HTS := Lib.hid hts
 clear hp ht hl0
 go_enter Tryz.func214, Tryz.ntmps214
 go_upto_if 19 with (go_at_call 215; refine (last_c s _ (by have := HS.out; omega)).mono ?_; rintro e w1 ⟨rfl, hb1⟩; rw [HP.out]; have HB1 := Lib.hid hb1; clear hb1)
 go_cut [0, 4] (fun s0 s4 wx => s0 = .string t ∧ Hid (wx.ownsRow w.heap.size 47 1 s4 l0.length (nums .u32 l0)) ∧ Hid (Below w.heap.size w wx))
 case first =>
  by_cases h0 : 0 < p
  ·rw [decide_eq_true h0]
   obtain ⟨q, rfl⟩ : ∃ q : Nat, p = q := ⟨p.toNat, by omega⟩
   have HQ := Lib.hid h0
   have hq1 : q + 1 ≤ s.size := by omega
   have hq2 : (q : Int) + 1 ≤ (s.size : Int) := by omega
   have HT2 : Hid (s.extract (q + 1) s.size = t) := by have h := HT.out; rw [if_pos h0] at h; exact h
   have HL2 : Hid (preL s q = l0) := by have h := HL0.out; rw [if_pos h0] at h; exact h
   go_wp2_with fail
   clear h0
   go_loopg [4, 21] q (fun kq s4 s21 wx => ∃ i : Nat, s21 = .int .i64 i ∧ Hid (kq = q - i ∧ i ≤ q) ∧ Hid (wx.ownsRow w.heap.size 47 1 s4 (preL s i).length (nums .u32 (preL s i))) ∧ Hid (Below w.heap.size w wx))
   case atStart => exact ⟨0, rfl, Lib.hid ⟨rfl, Nat.zero_le _⟩, Lib.hid ⟨rfl, .inl ⟨rfl, rfl⟩⟩, HB1⟩
   case round =>
    obtain ⟨i, rfl, HK, HO, HB⟩ := hrel
    by_cases hi : i < q
    ·have hi0 : (0 : Int) ≤ (i : Int) := by omega
     have hi1 : (i : Int) < (q : Int) := by omega
     have hi2 : i < s.size := by omega
     have hi3 : (i : Int) < (s.size : Int) := by omega
     have hbt : ((s[i].toNat : Int) % 4294967296) = bt s (i : Int) := by
      have h := bt_at s (i : Int) (by rw [Int.toNat_natCast]; exact hi2)
      have h2 := bt_range s (i : Int)
      rw [← h] at h2 ⊢
      simp only [Int.toNat_natCast] at h2 ⊢
      omega
     go_wp2_with (at_builtin; refine print_append_row (w0 := w) w.heap.size rfl (.tmp 24) (.tmp 29) 22 47 .u32 4 rfl Tryz.underlying22 info_u32 (by decide) u4 (preL s i) [bt s (i : Int)] (some ⟨wr.heap.size, 0, none⟩) 1 1 rfl rfl (own_alloc HO.out _) (reads_one wr _ _ rfl) (below_new HB.out _) (below_new HB.out _).size (by rw [preL_len]; omega) ?_; intro v1 w1 ho1 hb1 hg1 hat1; have HO1 := Lib.hid ho1; have HB2 := Lib.hid hb1; clear ho1 hb1 hg1 hat1)
     go_roundg (gk - 1)
     case measure => have := HK.out; omega
     case rel => exact ⟨i + 1, by go_num, Lib.hid ⟨by have := HK.out; omega, by omega⟩, Lib.hid (by rw [preL_succ]; exact HO1.out), HB2⟩
    ·have hi1 : ¬ (i : Int) < (q : Int) := by omega
     have hiq : i = q := by have := HK.out; omega
     have HIQ := Lib.hid hiq
     clear hiq
     go_wp2_with fail
     go_meet
     refine ⟨by rw [HT2.out], ?_, HB⟩
     rw [← HL2.out, ← HIQ.out]
     exact HO
  ·rw [decide_eq_false h0]
   have HQ := Lib.hid h0
   go_wp2_with fail
   go_meet
   refine ⟨?_, ?_, HB1⟩
   ·have h := HT.out
    rw [if_neg (by have := HQ.out; omega)] at h
    rw [h]
   ·have h := HL0.out
    rw [if_neg (by have := HQ.out; omega)] at h
    rw [← h]
    exact Lib.hid ⟨rfl, .inl ⟨rfl, rfl⟩⟩
 case rest =>
  obtain ⟨rfl, HO, HB⟩ := hcut
  go_wp2_with fail
  go_loopg [4, 7, 8, 9, 10, 11] (t.size) (fun kq s4 s7 s8 s9 s10 s11 wx => ∃ (l : List Int) (n i b a : Int) (once : Bool) (f : Nat), s7 = .int .u64 n ∧ s8 = .int .u64 i ∧ s9 = .int .i64 b ∧ s10 = .int .i64 a ∧ s11 = .bool once ∧
   Hid (InvA t.size kq a f) ∧ Hid (InvN s.size l n i a) ∧ Hid (wx.ownsRow w.heap.size 47 1 s4 l.length (nums .u32 l)) ∧ Hid (Below w.heap.size w wx) ∧ Hid (denP s = denGo t f a l n i b once))
  case atStart => exact ⟨l0, 128, 0, 72, 0, true, t.size + 1, rfl, rfl, rfl, rfl, rfl, Lib.hid ⟨by decide, by omega, by omega, by omega⟩, Lib.hid ⟨by decide, by decide, by decide, by omega, by omega⟩, HO, HB, HD⟩
  case round =>
   obtain ⟨l, n, i, b, a, once, f, rfl, rfl, rfl, rfl, rfl, HA, HN, HO, HB, HD⟩ := hrel
   have hs1 := HS.out
   by_cases ha : a < (t.size : Int)
   ·have ha0 : 0 ≤ a := HA.out.1
    have HAT := Lib.hid ha
    obtain ⟨f, rfl⟩ := HA.out.f1
    have HD2 := HD.out
    rw [denGo, if_pos ha] at HD2
    go_wp2_with fail
    refine (get_c t a b _ (by omega) ha0 (by omega)).mono ?_
    rintro e w1 ⟨r1, r2, r3, rfl, hg, hb1⟩
    have HB1 := Lib.hid (below_next HB.out hb1)
    cases hgp : getP t a b with
    | none =>
     rw [hgp] at hg HD2
     have hg : r3 ≠ 0 := hg
     have hz : (r3 == 0) = false := by simpa using hg
     have HR : Hid (denR s = ([], false)) := by show denR s = _; unfold denR; rw [HD2]
     clear hb1 hg HD2
     go_wp2_with fail
     refine bodyPost_ret (v := .tuple #[.slice none 0 0, .bool false]) (by simp [results, Tryz.results214, go_sem]) rfl ?_
     exact ⟨.slice none 0 0, by rw [HR.out], by rw [HR.out]; exact ⟨rfl, .inl ⟨rfl, rfl⟩⟩, HB1.out⟩
    | some x =>
     obtain ⟨v, e⟩ := x
     rw [hgp] at hg HD2
     obtain ⟨rfl, rfl, rfl⟩ := hg
     have HGR := Lib.hid (getP_range hgp)
     have HO1 : Hid (w1.ownsRow w.heap.size 47 1 u4 l.length (nums .u32 l)) := Lib.hid (own_below HO.out hb1)
     have HD3 := Lib.hid HD2
     clear hb1 HD2 hgp
     obtain ⟨A4, c4, rfl, hc4⟩ := own_slice HO1.out
     obtain ⟨D, N, mi, SF⟩ := step_facts s.size t.size l n i a r1 r2 _ f HS.out HTS.out HA.out HN.out HAT.out HGR.out
     have HD4 := HD3.out
     simp only [SF.hD, SF.hM, SF.hN, Int.toNat_natCast] at HD4
     have HD5 := Lib.hid HD4
     have HSF := Lib.hid SF
     have hsz0 := SF.z
     have hw1 := SF.w1
     have hw2 := SF.w2
     have hw3 := SF.w3
     have hq := SF.q
     have hm := SF.m
     have hw4 := SF.w4
     have hw5 := SF.w5
     have hw6 := SF.w6
     clear HD4 SF
     go_upto_region 22 with fail
     clear hq hm hw1 hw2 hw3 hw4 hw5 hw6
     have HRN : isP N = false → Hid (denR s = ([], false)) := fun h => by
      have h2 := HD5.out
      rw [h] at h2
      show denR s = _
      unfold denR
      rw [h2]
      rfl
     by_cases hbig : N > 1114111
     ·have HR := HRN (isP_big hbig)
      clear HRN
      have hb : decide (1114111 < N) = true := decide_eq_true hbig
      clear hbig
      go_wp2_with fail
      refine bodyPost_ret (v := .tuple #[.slice none 0 0, .bool false]) (by simp [results, Tryz.results214, go_sem]) rfl ?_
      exact ⟨.slice none 0 0, by rw [HR.out], by rw [HR.out]; exact ⟨rfl, .inl ⟨rfl, rfl⟩⟩, HB1.out⟩
     ·have hb : decide (1114111 < N) = false := decide_eq_false hbig
      have HBG : Hid (N ≤ 1114111) := Lib.hid (Int.not_lt.1 hbig)
      have hu32 := HSF.out.u32 HBG.out
      clear hbig
      go_wp2_with fail
      refine (is_c N _).mono ?_
      rintro e w2 ⟨rfl, hb2⟩
      have HB2 := Lib.hid (below_next HB1.out hb2)
      have HO2 : Hid (w2.ownsRow w.heap.size 47 1 (.slice A4 l.length c4) l.length (nums .u32 l)) := Lib.hid (own_below HO1.out hb2)
      clear hb2
      cases his : isP N with
      | false =>
       have HR := HRN his
       clear HRN his
       go_wp2_with fail
       refine bodyPost_ret (v := .tuple #[.slice none 0 0, .bool false]) (by simp [results, Tryz.results214, go_sem]) rfl ?_
       exact ⟨.slice none 0 0, by rw [HR.out], by rw [HR.out]; exact ⟨rfl, .inl ⟨rfl, rfl⟩⟩, HB2.out⟩
      | true =>
       have HD6 : Hid (denP s = denGo t f r2 (insL l mi N) N ((mi : Int) + 1) (adaptP r1 ((l.length : Int) + 1) once) false) := by
        have h := HD5.out
        rw [his] at h
        exact h
       clear HRN his
       have hw7 := HSF.out.w7
       have hw8 := HSF.out.w8
       go_wp2_with fail
       refine (insert_c (w0 := w) w.heap.size l mi N _ w2.heap.size (own_alloc HO2.out _) HSF.out.mle (heap_alloc_new _ _) (own_ne HO2.out) (below_new HB2.out _) (below_new HB2.out _).size HSF.out.ll).mono ?_
       rintro e w3 ⟨v3, rfl, ho3, hb3, _⟩
       have HO3 := Lib.hid ho3
       have HB3 := Lib.hid hb3
       clear ho3 hb3
       go_wp2_with fail
       refine (adapt_c r1 ((l.length : Int) + 1) once _ HGR.out.1 HGR.out.2.1 HSF.out.lp).mono ?_
       rintro e w4 ⟨rfl, hb4⟩
       have HB4 := Lib.hid (below_next HB3.out hb4)
       have HO4 : Hid (w4.ownsRow w.heap.size 47 1 v3 (insL l mi N).length (nums .u32 (insL l mi N))) := Lib.hid (own_below HO3.out hb4)
       clear hb4
       go_wp2_with fail
       go_roundg (t.size - r2.toNat)
       case measure => exact HSF.out.less
       case rel => exact ⟨insL l mi N, N, (mi : Int) + 1, adaptP r1 ((l.length : Int) + 1) once, r2, false, f, rfl, by go_num, rfl, rfl, rfl, Lib.hid HSF.out.invA, Lib.hid (HSF.out.invN HBG.out), HO4, HB4, HD6⟩
   ·have HR : Hid (denR s = (l, true)) := by
     obtain ⟨f, rfl⟩ := HA.out.f1
     have h := HD.out
     rw [denGo, if_neg ha] at h
     show denR s = _
     unfold denR
     rw [h]
    have HO2 : Hid (wr.ownsRow w.heap.size 47 1 u4 l.length (nums .u32 l)) := HO
    go_wp2_with fail
    refine bodyPost_ret (v := .tuple #[u4, .bool true]) (by simp [results, Tryz.results214, go_sem]) rfl ?_
    exact ⟨u4, by rw [HR.out], by rw [HR.out]; exact HO2.out, HB.out⟩
theorem q_step {P : Program} {ops : Array Oper} {o : Oper} {a : Act} {K : Act → World → Prop} {Q : Exit → Act → World → Prop} {E : Prop} {W : World} (base : Nat) (hgd : o.guard = none) (s x : Operand) (t e : TypeId) (k : IntKind) (bytes : Nat)
  (ho : o.op = .call { callee := .builtin .append, args := #[s, x], argTypes := #[t, t] }) (ht : P.underlying t = some (.slice e)) (hinfo : (P.info? e).map (fun i => (i.zero, i.size, i.bytes)) = some (some (.int k 0), 1, bytes)) (hb0 : 0 < bytes)
  (v : Value) (xs ys : List Int) (A : Option Addr) (m c : Nat) (hs : a.eval s = v) (hx : a.eval x = .slice A m c)
  (HO : QRow W base e 1 v xs.length (nums k xs)) (HR : ReadsInt W k A m ys) (hbase : base ≤ W.heap.size) (hl : (xs.length + m) * bytes ≤ 140737488355328)
  (h : ∀ v1 w1, QRow w1 base e 1 v1 (xs ++ ys).length (nums k (xs ++ ys)) → W.grownBy w1 v.ownBlock → (v1.ownBlock = v.ownBlock ∨ ∃ b, v1.ownBlock = some b ∧ W.heap.size ≤ b) → K (a.put o.dst v1) w1) :
  if Region.wanted o (yielded ops a.tmps) = true then Oper.wp P o a W K Q else E := by
 obtain ⟨v1, w1, hr, hq, hg, hat⟩ := q_run_row (P := P) base t o.type e k bytes ht hinfo hb0 v xs ys A m c HO HR hbase hl
 rw [if_pos (by simp [Region.wanted, hgd])]
 unfold Oper.wp execOp
 simp only [ho, resolve, invoke, builtin, Sem.run_bind, Sem.run_pure, Result.andThen_ok, List.map_toArray, List.map_cons, List.map_nil, hs, hx, hr]
 exact h v1 w1 hq hg hat
theorem reads_u8 (w : World) (x : Int) : ReadsInt (w.alloc (.cells #[.int .u8 x] 5 (0, 0))) .u8 (some ⟨w.heap.size, 0, none⟩) 1 [x] := by
 refine ⟨rfl, by decide, fun _ => ⟨_, rfl, fun k hk => ?_⟩⟩
 obtain rfl : k = 0 := by omega
 rw [Addr.add_lit]
 exact (Blk.new w 5 #[.int .u8 x]).cell rfl
theorem reads_u8d (w : World) (x : Int) : ReadsInt (w.alloc (.cells #[.int .u8 x] 5 (0, 0))).drew .u8 (some ⟨w.heap.size, 0, none⟩) 1 [x] := reads_u8 w x
structure DXU (w : World) (g B : Nat) (err fat : Int) (en : Bool) (n : Int) (tx : List Int) (lv tv : Value) : Prop where
 blk : Blk w g 133 #[.int .i64 n, .int .i64 err, .int .i64 fat, .bool en, lv, tv]
 list : QRow w B 47 1 lv ([] : List Int).length (nums .u32 [])
 own : lv.ownBlock = none
 text : QRow w B 5 1 tv tx.length (nums .u8 tx)
theorem DXU.set {w w1 : World} {g B : Nat} {err fat : Int} {en : Bool} {n : Int} {tx tx1 : List Int} {lv tv tv1 : Value} (h : DXU w g B err fat en n tx lv tv) (hg : w.grownBy w1 tv.ownBlock) (hq : QRow w1 B 5 1 tv1 tx1.length (nums .u8 tx1)) : DXU (w1.setCell ⟨g, 5, none⟩ tv1) g B err fat en n tx1 lv tv1 := by
 have hne := own_types h.text h.blk (by decide)
 have hb1 : Blk w1 g _ _ := (hg.block g h.blk.lt hne).trans h.blk
 have hne1 := own_types hq hb1 (by decide)
 refine ⟨hb1.set 5 tv1, q_move h.list fun k hk => ?_, h.own, q_move hq fun k hk => Below.heap_setCell w1 _ _ k fun e => hne1 (by rw [hk, e])⟩
 rw [h.own] at hk; cases hk
theorem DXU.eat {w : World} {g B : Nat} {err fat : Int} {en : Bool} {n : Int} {tx : List Int} {lv tv : Value} (h : DXU w g B err fat en n tx lv tv) (m : Int) : DXU (w.setCell ⟨g, 0, none⟩ (.int .i64 m)) g B err fat en m tx lv tv := by
 have hne := own_types h.text h.blk (by decide)
 refine ⟨h.blk.set 0 _, q_move h.list fun k hk => ?_, h.own, q_move h.text fun k hk => Below.heap_setCell w _ _ k fun e => hne (by rw [hk, e])⟩
 rw [h.own] at hk; cases hk
theorem DXU.below {w w1 : World} {g B : Nat} {err fat : Int} {en : Bool} {n : Int} {tx : List Int} {lv tv : Value} (h : DXU w g B err fat en n tx lv tv) (hb : Below w.heap.size w w1) : DXU w1 g B err fat en n tx lv tv :=
 ⟨h.blk.below hb, q_move h.list fun k hk => hb.block k (q_lt h.list k hk), h.own, q_move h.text fun k hk => hb.block k (q_lt h.text k hk)⟩
theorem DXU.at5 {w w1 : World} {g B : Nat} {err fat : Int} {en : Bool} {n : Int} {tx : List Int} {lv tv : Value} (h : DXU w g B err fat en n tx lv tv) (hb : Below w.heap.size w w1) : w1.cell? ⟨g, 5, none⟩ = some tv ∧ w1.frozen? ⟨g, 5, none⟩ = false :=
 ⟨(h.blk.below hb).cell rfl, (h.blk.below hb).frozen 5⟩
theorem DXU.at5g {w W w1 : World} {g B : Nat} {err fat : Int} {en : Bool} {n : Int} {tx : List Int} {lv tv : Value} (h : DXU w g B err fat en n tx lv tv) (hb : Below w.heap.size w W) (hg : W.grownBy w1 tv.ownBlock) : w1.cell? ⟨g, 5, none⟩ = some tv ∧ w1.frozen? ⟨g, 5, none⟩ = false := by
 have h2 := h.below hb
 have hb1 : Blk w1 g _ _ := (hg.block g h2.blk.lt (own_types h2.text h2.blk (by decide))).trans h2.blk
 exact ⟨hb1.cell rfl, hb1.frozen 5⟩
theorem q_own_ge {w : World} {base n size : Nat} {e : TypeId} {v : Value} {xs : List Value} (h : QRow w base e size v n xs) (k : Nat) (hk : v.ownBlock = some k) : base ≤ k := by
 rcases h.2 with ⟨_, A, rfl, hA⟩ | ⟨g, off, cap, cur, rfl, hb, _⟩
 ·cases A with
  | none => cases hk
  | some a => injection hk with hk; rw [← hk]; exact (hA a rfl).1
 ·injection hk with hk; rw [← hk]; exact hb
theorem DXU.step {w0 w W w1 : World} {g B : Nat} {err fat : Int} {en : Bool} {n : Int} {tx tx1 : List Int} {lv tv tv1 : Value} (h : DXU w g B err fat en n tx lv tv) (hb : Below w.heap.size w W) (hg : W.grownBy w1 tv.ownBlock) (hq : QRow w1 B 5 1 tv1 tx1.length (nums .u8 tx1)) (hE : Eff w0 w (fun k => k = g ∨ B ≤ k)) :
  DXU (w1.setCell ⟨g, 5, none⟩ tv1) g B err fat en n tx1 lv tv1 ∧ Eff w0 (w1.setCell ⟨g, 5, none⟩ tv1) (fun k => k = g ∨ B ≤ k) := by
 refine ⟨(h.below hb).set hg hq, ?_⟩
 refine ((hE.trans (Eff.of_below hb _) (fun _ _ h => h)).trans (Eff.of_grown hg) (fun k _ hk => .inr (q_own_ge h.text k hk.symm))).trans (Eff.set w1 g 5 tv1) (fun k _ hk => .inl hk)
theorem DXU.stop {w : World} {g B : Nat} {n : Int} {tx : List Int} {lv tv : Value} (h : DXU w g B 0 0 false n tx lv tv) (e : Int) : DXU ((w.setCell ⟨g, 1, none⟩ (.int .i64 e)).setCell ⟨g, 2, none⟩ (.int .i64 n)) g B e n false n tx lv tv := by
 have hne := own_types h.text h.blk (by decide)
 refine ⟨(h.blk.set 1 _).set 2 _, q_move h.list fun k hk => ?_, h.own, q_move h.text fun k hk => ?_⟩
 ·rw [h.own] at hk; cases hk
 ·have hk2 : k ≠ g := fun e => hne (by rw [hk, e])
  rw [Below.heap_setCell _ _ _ k hk2, Below.heap_setCell _ _ _ k hk2]
theorem own_le {w : World} {base b2 n size : Nat} {e : TypeId} {v : Value} {xs : List Value} (h : w.ownsRow base e size v n xs) (hb : b2 ≤ base) : w.ownsRow b2 e size v n xs := by
 refine ⟨h.1, ?_⟩
 rcases h.2 with h2 | ⟨g, cap, cur, h1, h2, h3⟩
 ·exact .inl h2
 ·exact .inr ⟨g, cap, cur, h1, Nat.le_trans hb h2, h3⟩
structure DE (w : World) (g B : Nat) (err fat n : Int) (en : Bool) (xs : List Int) (lv : Value) : Prop where
 blk : ∃ tv, Blk w g 133 #[.int .i64 n, .int .i64 err, .int .i64 fat, .bool en, lv, tv]
 list : QRow w B 47 1 lv xs.length (nums .u32 xs)
 off : (err == 0 && !en) = false
theorem denGo_len (t : ByteArray) : ∀ (f : Nat) (a : Int) (l : List Int) (n i b : Int) (once : Bool) (L : List Int), 0 ≤ a → a ≤ t.size → denGo t f a l n i b once = some L → (L.length : Int) ≤ l.length + (t.size - a)
 | 0, _, _, _, _, _, _, _, _, _, h => by cases h
 | f + 1, a, l, n, i, b, once, L, h0, h1, h => by
  rw [denGo] at h
  by_cases ha : a < (t.size : Int)
  ·rw [if_pos ha] at h
   cases hg : getP t a b with
   | none => rw [hg] at h; cases h
   | some x =>
    obtain ⟨v, e⟩ := x
    rw [hg] at h
    obtain ⟨_, _, h3, h4⟩ := getP_range hg
    have h5 := h4 h1
    simp only at h
    split at h
    ·have h6 := denGo_len t f e _ _ _ _ _ L (by omega) h5 h
     have hM0 : 0 ≤ (i + v) % ((l.length : Int) + 1) := Int.emod_nonneg _ (by omega)
     have hM1 : (i + v) % ((l.length : Int) + 1) < (l.length : Int) + 1 := Int.emod_lt_of_pos _ (by omega)
     rw [insL_len (by omega)] at h6
     omega
    ·cases h
  ·rw [if_neg ha] at h
   injection h with h
   rw [← h]
   omega
theorem denR_len (s : ByteArray) : (denR s).1.length ≤ s.size := by
 unfold denR
 cases h : denP s with
 | none => exact Nat.zero_le _
 | some L =>
  unfold denP at h
  simp only at h
  have hr := last_range s 45 s.size
  have h1 := denGo_len _ _ 0 _ _ _ _ _ L (by omega) (by omega) h
  by_cases hp : 0 < lastP s 45 s.size
  ·rw [if_pos hp, if_pos hp, preL_len, ByteArray.size_extract] at h1
   show L.length ≤ s.size
   omega
  ·rw [if_neg hp, if_neg hp] at h1
   show L.length ≤ s.size
   simp at h1
   omega
theorem denR_no {s : ByteArray} {L : List Int} (h : denR s = (L, false)) : L = [] := by
 unfold denR at h
 cases hd : denP s with
 | none => rw [hd] at h; injection h with h; exact h.symm
 | some x => rw [hd] at h; injection h with _ h; cases h
theorem newdec_c (w : World) : Calls Tryz.prog 26 #[] w fun e w' => e = .returned (.pointer (some ⟨w.heap.size, 0, none⟩)) ∧ w' = w.alloc (.cells #[.int .i64 0, .int .i64 0, .int .i64 0, .bool false, .slice none 0 0, .slice none 0 0] 133 (0, 0)) := by
 go_enter Tryz.func26, Tryz.ntmps26
 go_wp2_with fail
 go_ret
 exact ⟨rfl, rfl⟩
structure EPX (w : World) (g B : Nat) (err fat : Int) (en : Bool) (n : Int) (xs : List Int) (pend : ByteArray) (lv : Value) : Prop where
 blk : Blk w g 111 #[.int .i64 n, .int .i64 err, .int .i64 fat, .bool en, .string pend, lv]
 list : QRow w B 47 1 lv xs.length (nums .u32 xs)
theorem newenc_c (w : World) : Calls Tryz.prog 19 #[] w fun e w' => e = .returned (.pointer (some ⟨w.heap.size, 0, none⟩)) ∧ w' = w.alloc (.cells #[.int .i64 0, .int .i64 0, .int .i64 0, .bool false, .string ⟨#[]⟩, .slice none 0 0] 111 (0, 0)) := by
 go_enter Tryz.func19, Tryz.ntmps19
 go_wp2_with fail
 go_ret
 exact ⟨rfl, rfl⟩
theorem EPX.new (w : World) (B : Nat) : EPX (w.alloc (.cells #[.int .i64 0, .int .i64 0, .int .i64 0, .bool false, .string ⟨#[]⟩, .slice none 0 0] 111 (0, 0))) w.heap.size B 0 0 false 0 [] ⟨#[]⟩ (.slice none 0 0) :=
 ⟨Blk.new w _ _, ⟨rfl, .inl ⟨rfl, none, rfl, fun a h => by cases h⟩⟩⟩
theorem EPX.below {w w1 : World} {g B : Nat} {err fat : Int} {en : Bool} {n : Int} {xs : List Int} {pend : ByteArray} {lv : Value} (h : EPX w g B err fat en n xs pend lv) (hb : Below w.heap.size w w1) : EPX w1 g B err fat en n xs pend lv :=
 ⟨h.blk.below hb, q_move h.list fun k hk => hb.block k (q_lt h.list k hk)⟩
theorem EPX.at5 {w w1 : World} {g B : Nat} {err fat : Int} {en : Bool} {n : Int} {xs : List Int} {pend : ByteArray} {lv : Value} (h : EPX w g B err fat en n xs pend lv) (hb : Below w.heap.size w w1) : w1.cell? ⟨g, 5, none⟩ = some lv ∧ w1.frozen? ⟨g, 5, none⟩ = false :=
 ⟨(h.blk.below hb).cell rfl, (h.blk.below hb).frozen 5⟩
theorem EPX.at5g {w W w1 : World} {g B : Nat} {err fat : Int} {en : Bool} {n : Int} {xs : List Int} {pend : ByteArray} {lv : Value} (h : EPX w g B err fat en n xs pend lv) (hb : Below w.heap.size w W) (hg : W.grownBy w1 lv.ownBlock) : w1.cell? ⟨g, 5, none⟩ = some lv ∧ w1.frozen? ⟨g, 5, none⟩ = false := by
 have h2 := h.below hb
 have hb1 : Blk w1 g _ _ := (hg.block g h2.blk.lt (own_types h2.list h2.blk (by decide))).trans h2.blk
 exact ⟨hb1.cell rfl, hb1.frozen 5⟩
theorem EPX.step {w0 w W w1 : World} {g B : Nat} {err fat : Int} {en : Bool} {n : Int} {xs xs1 : List Int} {pend : ByteArray} {lv lv1 : Value} (h : EPX w g B err fat en n xs pend lv) (hb : Below w.heap.size w W) (hg : W.grownBy w1 lv.ownBlock) (hq : QRow w1 B 47 1 lv1 xs1.length (nums .u32 xs1)) (hE : Eff w0 w (fun k => k = g ∨ B ≤ k)) :
  EPX (w1.setCell ⟨g, 5, none⟩ lv1) g B err fat en n xs1 pend lv1 ∧ Eff w0 (w1.setCell ⟨g, 5, none⟩ lv1) (fun k => k = g ∨ B ≤ k) := by
 have h2 := h.below hb
 have hb1 : Blk w1 g _ _ := (hg.block g h2.blk.lt (own_types h2.list h2.blk (by decide))).trans h2.blk
 have hne1 := own_types hq hb1 (by decide)
 refine ⟨⟨hb1.set 5 lv1, q_move hq fun k hk => Below.heap_setCell w1 _ _ k fun e => hne1 (by rw [hk, e])⟩, ?_⟩
 exact ((hE.trans (Eff.of_below hb _) (fun _ _ h => h)).trans (Eff.of_grown hg) (fun k _ hk => .inr (q_own_ge h.list k hk.symm))).trans (Eff.set w1 g 5 lv1) (fun k _ hk => .inl hk)
theorem EPX.eat {w : World} {g B : Nat} {err fat : Int} {en : Bool} {n : Int} {xs : List Int} {pend : ByteArray} {lv : Value} (h : EPX w g B err fat en n xs pend lv) (m : Int) : EPX (w.setCell ⟨g, 0, none⟩ (.int .i64 m)) g B err fat en m xs pend lv := by
 have hne := own_types h.list h.blk (by decide)
 exact ⟨h.blk.set 0 _, q_move h.list fun k hk => Below.heap_setCell w _ _ k fun e => hne (by rw [hk, e])⟩
theorem EPX.stop {w : World} {g B : Nat} {n : Int} {xs : List Int} {pend : ByteArray} {lv : Value} (h : EPX w g B 0 0 false n xs pend lv) (e : Int) : EPX ((w.setCell ⟨g, 1, none⟩ (.int .i64 e)).setCell ⟨g, 2, none⟩ (.int .i64 n)) g B e n false n xs pend lv := by
 have hne := own_types h.list h.blk (by decide)
 refine ⟨(h.blk.set 1 _).set 2 _, q_move h.list fun k hk => ?_⟩
 have hk2 : k ≠ g := fun e => hne (by rw [hk, e])
 rw [Below.heap_setCell _ _ _ k hk2, Below.heap_setCell _ _ _ k hk2]
theorem reads_oned (w : World) (x : Int) : ReadsInt (w.alloc (.cells #[.int .u32 x] 47 (0, 0))).drew .u32 (some ⟨w.heap.size, 0, none⟩) 1 [x] := reads_one w x x rfl
theorem take_succ_getD (ys : List Int) (i : Nat) (h : i < ys.length) : ys.take (i + 1) = ys.take i ++ [ys.getD i 0] := by
 rw [List.take_add_one, List.getD_eq_getElem?_getD, List.getElem?_eq_getElem h]
 rfl
structure SrcU (w : World) (g pb po : Nat) (ys : List Int) (lv : Value) : Prop where
 ne : pb ≠ g
 own : lv.ownBlock ≠ some pb
 lt : ys.length ≠ 0 → pb < w.heap.size
 cells : ∀ j, j < ys.length → w.cell? ⟨pb, po + j, none⟩ = some (.int .u32 (ys.getD j 0))
theorem SrcU.set {w : World} {g pb po i : Nat} {ys : List Int} {lv v : Value} (h : SrcU w g pb po ys lv) : SrcU (w.setCell ⟨g, i, none⟩ v) g pb po ys lv := by
 refine ⟨h.ne, h.own, fun hl => Nat.lt_of_lt_of_le (h.lt hl) (by simp [World.setCell]), fun j hj => ?_⟩
 have hc := h.cells j hj
 have hb : (w.setCell ⟨g, i, none⟩ v).heap[pb]? = w.heap[pb]? := Below.heap_setCell w ⟨g, i, none⟩ v pb h.ne
 unfold World.cell? at hc ⊢
 simp only at hc ⊢
 rw [hb]
 exact hc
theorem SrcU.grown {w W w1 : World} {g pb po : Nat} {ys : List Int} {lv lv1 : Value} (h : SrcU w g pb po ys lv) (hl : ys.length ≠ 0) (hb : Below w.heap.size w W) (hg : W.grownBy w1 lv.ownBlock) (hat : lv1.ownBlock = lv.ownBlock ∨ ∃ b, lv1.ownBlock = some b ∧ W.heap.size ≤ b) : SrcU w1 g pb po ys lv1 := by
 have hlt := h.lt hl
 have hlW : pb < W.heap.size := Nat.lt_of_lt_of_le hlt hb.size
 refine ⟨h.ne, ?_, fun _ => Nat.lt_of_lt_of_le hlW hg.size, fun j hj => ?_⟩
 ·rcases hat with e | ⟨b, e, hb2⟩
  ·rw [e]; exact h.own
  ·rw [e]; intro e2; injection e2 with e2; omega
 ·have hc := h.cells j hj
  have hblk : w1.heap[pb]? = w.heap[pb]? := (hg.block pb hlW fun e => h.own e.symm).trans (hb.block pb hlt)
  unfold World.cell? at hc ⊢
  simp only at hc ⊢
  rw [hblk]
  exact hc
theorem SrcU.below {w w1 : World} {g pb po : Nat} {ys : List Int} {lv : Value} (h : SrcU w g pb po ys lv) (hb : Below w.heap.size w w1) : SrcU w1 g pb po ys lv :=
 ⟨h.ne, h.own, fun hl => Nat.lt_of_lt_of_le (h.lt hl) hb.size, fun j hj => (hb.cell (p := ⟨pb, po + j, none⟩) (h.lt (by omega))).trans (h.cells j hj)⟩
theorem EPX.pend {w : World} {g B : Nat} {err fat : Int} {en : Bool} {n : Int} {xs : List Int} {p : ByteArray} {lv : Value} (h : EPX w g B err fat en n xs p lv) (q : ByteArray) : EPX (w.setCell ⟨g, 4, none⟩ (.string q)) g B err fat en n xs q lv := by
 have hne := own_types h.list h.blk (by decide)
 exact ⟨h.blk.set 4 _, q_move h.list fun k hk => Below.heap_setCell w _ _ k fun e => hne (by rw [hk, e])⟩
abbrev DP : DMach := ⟨List Int, [], fun st b => if 128 ≤ b then none else some (st ++ [b], []), fun st => if (denR (strOf st)).2 = true then some (denR (strOf st)).1 else none⟩
theorem DP_one (st : DP.St) (b : Int) (st' : DP.St) (l : List Int) (h : DP.next st b = some (st', l)) : l.length ≤ 1 := by
 have h' : (if 128 ≤ b then none else some (st ++ [b], ([] : List Int))) = some (st', l) := h
 split at h'
 ·cases h'
 ·injection h' with h'; injection h' with _ h'; rw [← h']; decide
def EP (w : World) (xs : List Value) (st : DP.St) (G : Nat → Prop) : Prop := ∃ tv, xs = [tv] ∧ QRow w 0 5 1 tv (List.length (α := Int) st) (nums .u8 st) ∧ ∀ k, G k ↔ some k = tv.ownBlock
theorem EP_ok : EOk DP EP := by
 refine ⟨fun h k hk => ?_, fun h he hs => ?_⟩
 ·obtain ⟨tv, rfl, hq, hG⟩ := h
  exact q_lt hq k ((hG k).1 hk).symm
 ·obtain ⟨tv, rfl, hq, hG⟩ := h
  exact ⟨tv, rfl, q_move hq fun k hk => he.block k (q_lt hq k hk) (hs k ((hG k).2 hk.symm)), hG⟩
def RepP (w : World) (g : Nat) (F : Nat → Prop) (d : DSt DP) : Prop := GRep 133 DP EP w g F d ∧ (d.err = 0 ∧ d.en = false → d.held = [] ∧ List.length (α := Int) d.st ≤ d.pos)
theorem grown_blk {wr w7 : World} {g : Nat} {cs : Array Value} {tv : Value} {n : Nat} {o : Obj} {xs : List Value} (hB : Blk wr g 133 cs) (hT : QRow wr 0 5 1 tv n xs) (hg : (wr.alloc o).drew.grownBy w7 tv.ownBlock) : Blk w7 g 133 cs := by
 have h2 : Blk (wr.alloc o).drew g 133 cs := hB.alloc o
 exact (hg.block g h2.lt (own_types hT hB (by decide))).trans h2
theorem grown_put {wr w7 : World} {g : Nat} {d : DSt DP} {lv tv v7 : Value} {o : Obj} {x : Int} {F G : Nat → Prop} {st : List Int} (hB : Blk wr g 133 (gcs d lv [tv])) (hQ : QRow wr 0 47 1 lv d.held.length (nums .u32 d.held)) (hF : ∀ k, F k ↔ k = g ∨ some k = lv.ownBlock ∨ G k)
  (hT : QRow wr 0 5 1 tv st.length (nums .u8 st)) (hTG : ∀ k, G k ↔ some k = tv.ownBlock) (hgg : ¬ G g) (hll : ∀ k, lv.ownBlock = some k → ¬ G k) (hg : (wr.alloc o).drew.grownBy w7 tv.ownBlock)
  (hq : QRow w7 0 5 1 v7 (st ++ [x]).length (nums .u8 (st ++ [x]))) (hat : v7.ownBlock = tv.ownBlock ∨ ∃ b, v7.ownBlock = some b ∧ (wr.alloc o).drew.heap.size ≤ b) :
  ∃ F2, GRep 133 DP EP (w7.setCell ⟨g, 5, none⟩ v7) g F2 { d with st := st ++ [x] } ∧ Eff wr (w7.setCell ⟨g, 5, none⟩ v7) F ∧ ∀ j, F2 j → F j ∨ wr.heap.size ≤ j := by
 have hb7 := grown_blk hB hT hg
 have hal : Eff wr (wr.alloc o).drew (fun _ => False) := (Eff.alloc wr o _).trans (Eff.drewN _ 1 _) (fun _ _ h => h)
 have hz : wr.heap.size ≤ (wr.alloc o).drew.heap.size := hal.size
 have he7 : Eff wr w7 (fun k => some k = tv.ownBlock) := (hal.mono (fun _ _ h => h.elim)).trans (Eff.of_grown hg) (fun _ _ h => h)
 have hq7 : QRow w7 0 47 1 lv d.held.length (nums .u32 d.held) := q_move hQ fun k hk => he7.block k (q_lt hQ k hk) (fun e => hll k hk ((hTG k).2 e))
 have hne7 := own_types hq hb7 (by decide)
 have hneq := own_types hq7 hb7 (by decide)
 have hset := Eff.set w7 g 5 v7
 refine ⟨fun k => k = g ∨ some k = lv.ownBlock ∨ some k = v7.ownBlock, ⟨lv, st ++ [x], [v7], fun k => some k = v7.ownBlock, ?_, q_move hq7 fun k hk => hset.block k (q_lt hq7 k hk) (fun e => hneq (by rw [hk, e])), fun _ => Iff.rfl, fun _ => rfl, ⟨v7, rfl, q_move hq fun k hk => hset.block k (q_lt hq k hk) (fun e => hne7 (by rw [hk, e])), fun _ => Iff.rfl⟩, hne7, fun k hk e => ?_⟩, ?_, fun j hj => ?_⟩
 ·have h := hb7.set 5 v7
  unfold gcs at h ⊢
  rw [List.setIfInBounds_toArray] at h
  exact h
 ·rcases hat with h | ⟨b, h, hb⟩
  ·exact hll k hk ((hTG k).2 (by rw [← h]; exact e))
  ·rw [h] at e; injection e with e
   have := q_lt hQ k hk
   omega
 ·exact (he7.mono (fun k _ e => (hF k).2 (.inr (.inr ((hTG k).2 e))))).trans hset (fun k _ e => (hF k).2 (.inl e))
 ·rcases hj with h | h | h
  ·exact .inl ((hF j).2 (.inl h))
  ·exact .inl ((hF j).2 (.inr (.inl h)))
  ·rcases hat with h1 | ⟨b, h1, hb⟩
   ·exact .inl ((hF j).2 (.inr (.inr ((hTG j).2 (by rw [← h1]; exact h)))))
   ·rw [h1] at h; injection h with h
    exact .inr (by omega)
set_option maxRecDepth 100000 in
set_option maxHeartbeats 4000000 in
theorem feedDP {w : World} {g : Nat} {F : Nat → Prop} {d : DSt DP} (s : ByteArray) (room : Int) (h : RepP w g F d) (hp : d.pos + s.size ≤ 1000000) (hh : d.held.length + s.size ≤ 1000000) :
  Calls Tryz.prog 213 #[.pointer (some ⟨g, 0, none⟩), .string s, .int .i64 room] w fun e w' => ∃ v F', e = .returned (.tuple #[.int .i64 (feedD DP room (bytesOf s) d).1, v]) ∧
   w'.ownsRow w.heap.size 47 1 v ((feedD DP room (bytesOf s) d).2.held.take (giveN room (feedD DP room (bytesOf s) d).2.held.length)).length (nums .u32 ((feedD DP room (bytesOf s) d).2.held.take (giveN room (feedD DP room (bytesOf s) d).2.held.length))) ∧
   RepP w' g F' ((feedD DP room (bytesOf s) d).2.drop (giveN room (feedD DP room (bytesOf s) d).2.held.length)) ∧ Eff w w' F ∧ (∀ k, F' k → F k ∨ w.heap.size ≤ k) := by
 have HH := Lib.hid h
 have HP := Lib.hid (And.intro hp hh)
 have hbl := bytesOf_length s
 have HBL := Lib.hid hbl
 clear h hp hh hbl
 go_enter Tryz.func213, Tryz.ntmps213
 go_upto_block 0 with fail
 go_cut [8] (fun s8 wx => ∃ (k : Nat) (D : DSt DP) (F1 : Nat → Prop), s8 = .int .i64 k ∧ Hid (feedD DP room (bytesOf s) d = (k, D) ∧ D.held.length ≤ 1000000) ∧ Hid (RepP wx g F1 D) ∧ Hid (Eff w wx F ∧ ∀ k, F1 k → F k ∨ w.heap.size ≤ k))
 case first =>
  go_wp2_with fail
  go_loopg [8] s.size (fun kq s8 wx => ∃ (k : Nat) (D : DSt DP) (F1 : Nat → Prop), s8 = .int .i64 k ∧ Hid (kq = s.size - k) ∧ Hid (FD DP room (bytesOf s) d k D) ∧ Hid (RepP wx g F1 D) ∧ Hid (Eff w wx F ∧ ∀ k, F1 k → F k ∨ w.heap.size ≤ k))
  case atStart => exact ⟨0, d, F, rfl, Lib.hid rfl, Lib.hid (FD.start _ _ _ _), HH, Lib.hid ⟨Eff.refl _ _, fun _ h => .inl h⟩⟩
  case round =>
   obtain ⟨k, D, F1, rfl, HK, HFD, HR, HE⟩ := hrel
   have hk0 : (0 : Int) ≤ (k : Int) := by omega
   have HB := Lib.hid (And.intro HFD.out.pos (And.intro HFD.out.held (And.intro HFD.out.le (And.intro HBL.out HP.out))))
   have HD1 : Hid (D.held.length ≤ 1000000) := Lib.hid (by obtain ⟨a1, a2, a3, a4, a5⟩ := HB.out; omega)
   by_cases hk : k < s.size
   ·have hk1 : (k : Int) < (s.size : Int) := by omega
    by_cases hr : 0 < room
    ·have HGC := Lib.hid HR.out.1.going
     by_cases hg : D.err = 0 ∧ D.en = false
     ·have HG := Lib.hid hg
      have HI := Lib.hid (HR.out.2 hg)
      have hgt : D.going = true := by unfold DSt.going; rw [hg.1, hg.2]; rfl
      rw [hgt] at HGC
      clear hg hgt
      have hx : (bytesOf s).getD k 0 = bt s (k : Int) := by rw [← rd_bytesOf]; simp [rd]
      have HX := Lib.hid hx
      have hbt : (s[k].toNat : Int) = bt s (k : Int) := by
       have h := bt_at s (k : Int) (by rw [Int.toNat_natCast]; exact hk)
       simpa using h
      have HLT : Hid ((D.held.length : Int) < room) := Lib.hid (by rw [HI.out.1]; exact hr)
      clear hx
      by_cases hb : bt s (k : Int) ≥ 128
      ·have hb1 : decide (128 ≤ bt s (k : Int)) = true := decide_eq_true hb
       have HNN : Hid (DP.next D.st (bt s (k : Int)) = none) := Lib.hid (if_pos hb)
       have HST := Lib.hid (GRep.stop EP_ok (by decide) HR.out.1 (show D.err = 0 ∧ D.en = false from HG.out) 3 (by decide) D.st)
       clear hb
       go_wp2_with (first
        | (go_at_call 103; refine HGC.out.mono ?_; rintro e w1 ⟨rfl, rfl⟩)
        | (go_at_call 106; refine HST.out.mono ?_; rintro e w3 ⟨rfl, hr3, he3⟩))
       go_meet
       refine ⟨k, _, F1, rfl, Lib.hid ⟨HFD.out.bad (by rw [HBL.out]; exact hk) ⟨HLT.out, HG.out⟩ (by rw [HX.out]; exact HNN.out), HD1.out⟩, Lib.hid ⟨hr3, fun h => by have h1 : (3 : Int) = 0 := h.1; omega⟩, Lib.hid ⟨?_, HE.out.2⟩⟩
       exact HE.out.1.trans he3 (fun j hj h => (HE.out.2 j h).elim id (fun h2 => by omega))
      ·have hb1 : decide (128 ≤ bt s (k : Int)) = false := decide_eq_false hb
       obtain ⟨x, hxe⟩ : ∃ x, bt s (k : Int) = x := ⟨_, rfl⟩
       rw [hxe] at hb hb1 hbt HX
       have HNN : Hid (DP.next D.st x = some (D.st ++ [x], [])) := Lib.hid (if_neg hb)
       have HXE := Lib.hid hxe
       clear hb hxe
       obtain ⟨lv, st, xs, G, hB, hQ, hF, hS, ⟨tv, rfl, hT, hTG⟩, hgg, hll⟩ := HR.out.1
       obtain rfl := hS HG.out.1
       obtain ⟨A1, c1, rfl, hc1⟩ := q_slice hT
       have mixed : Tryz.prog.follows Departure.mixedOrders = true := by kernel_rfl
       have hS0 : wr.cell? ⟨g, 5, none⟩ = some (.slice A1 D.st.length c1) := hB.cell rfl
       have hS1 := hB.frozen 5
       have hS2 : (wr.alloc (.cells #[.int .u8 x] 5 (0, 0))).cell? ⟨g, 5, none⟩ = some (.slice A1 D.st.length c1) := (hB.alloc _).cell rfl
       have hS3 := (hB.alloc (.cells #[.int .u8 x] 5 (0, 0))).frozen 5
       have HBb := Lib.hid hB
       have HQq := Lib.hid hQ
       have HFf := Lib.hid hF
       have HTt := Lib.hid hT
       have HTG := Lib.hid hTG
       have HGG := Lib.hid hgg
       have HLL := Lib.hid hll
       have HLB : Hid ((D.st.length + 1) * 1 ≤ 140737488355328) := Lib.hid (by have := HI.out.2; obtain ⟨a1, a2, a3, a4, a5⟩ := HB.out; omega)
       have HTA : Hid (QRow (wr.alloc (.cells #[.int .u8 x] 5 (0, 0))).drew 0 5 1 (.slice A1 D.st.length c1) D.st.length (nums .u8 D.st)) := Lib.hid (q_move hT fun j hj => Below.heap_alloc wr _ j (q_lt hT j hj))
       clear hB hQ hF hT hTG hgg hll hc1 hS
       go_upto_region 5 with (go_at_call 103; refine HGC.out.mono ?_; rintro e w1 ⟨rfl, rfl⟩)
       go_cut [8] (fun s8 wx => s8 = .int .i64 k ∧ ∃ F2, Hid (GRep 133 DP EP wx g F2 { D with st := D.st ++ [x] } ∧ Eff wr wx F1 ∧ ∀ j, F2 j → F1 j ∨ wr.heap.size ≤ j))
       case first =>
        go_region_law_o (refine q_step 0 rfl (.tmp 37) (.tmp 41) 80 5 .u8 1 rfl Tryz.underlying80 info_u8 (by decide) (.slice A1 D.st.length c1) D.st [x] (some ⟨wr.heap.size, 0, none⟩) 1 1 (by rfl) (by rfl) HTA.out (reads_u8d wr _) (Nat.zero_le _) HLB.out ?_; intro v7 w7 hq7 hg7 hat7; obtain ⟨A7, k7, rfl, hk7⟩ := q_slice hq7; have HQ7 := Lib.hid hq7; have HG7 := Lib.hid hg7; have HA7 := Lib.hid hat7; have hb7 := grown_blk HBb.out HTt.out hg7; have hS7 := hb7.cell (i := 5) rfl; have hS8 := hb7.frozen 5; clear hq7 hg7 hat7 hb7)
        all_goals (go_wp2_with fail; go_meet)
        all_goals
         rw [show D.st.length + 1 = (D.st ++ [x]).length by simp]
         obtain ⟨F2, h2⟩ := grown_put HBb.out HQq.out HFf.out HTt.out HTG.out HGG.out HLL.out HG7.out HQ7.out HA7.out
         exact ⟨rfl, F2, Lib.hid h2⟩
       case rest =>
        obtain ⟨rfl, F2, H2⟩ := hcut
        have HEA := Lib.hid (GRep.eat EP_ok (by decide) H2.out.1 (show D.err = 0 ∧ D.en = false from HG.out) (by obtain ⟨a1, a2, a3, a4, a5⟩ := HB.out; show D.pos ≤ 1000000000; omega))
        have hkb : (k : Int) ≤ 1000000 := by obtain ⟨a1, a2, a3, a4, a5⟩ := HB.out; omega
        go_wp2_with (go_at_call 109; refine HEA.out.mono ?_; rintro e w3 ⟨rfl, hr3, he3⟩)
        go_roundg (s.size - (k + 1))
        case measure => have := HK.out; omega
        case rel =>
         have hfe := HFD.out.eat (by rw [HBL.out]; exact hk) ⟨HLT.out, HG.out⟩ (by rw [HX.out]; exact HNN.out) (by decide)
         rw [List.append_nil] at hfe
         refine ⟨k + 1, _, F2, by go_num, Lib.hid rfl, Lib.hid hfe, Lib.hid ⟨hr3, fun _ => ⟨HI.out.1, by show (D.st ++ [x]).length ≤ D.pos + 1; rw [List.length_append]; exact Nat.succ_le_succ HI.out.2⟩⟩, Lib.hid ⟨?_, fun j hj => ?_⟩⟩
         ·exact (HE.out.1.trans H2.out.2.1 (fun j hj h => (HE.out.2 j h).elim id (fun h2 => by omega))).trans he3 (fun j hj h => (H2.out.2.2 j h).elim (fun h => (HE.out.2 j h).elim id (fun h2 => by omega)) (fun h2 => by have := HE.out.1.size; omega))
         ·exact (H2.out.2.2 j hj).elim (HE.out.2 j) (fun h2 => .inr (Nat.le_trans HE.out.1.size h2))
     ·have HG := Lib.hid hg
      have hgf : D.going = false := by
       unfold DSt.going
       rcases Bool.eq_false_or_eq_true (D.err == 0 && !D.en) with h | h
       ·simp at h; exact absurd h hg
       ·exact h
      rw [hgf] at HGC
      clear hg hgf
      go_wp2_with (go_at_call 103; refine HGC.out.mono ?_; rintro e w1 ⟨rfl, rfl⟩)
      go_meet
      exact ⟨k, D, F1, rfl, Lib.hid ⟨HFD.out.stop (fun h => HG.out h.2), HD1.out⟩, HR, HE⟩
    ·have hrf : decide (0 < room) = false := decide_eq_false hr
     have HRN := Lib.hid hr
     clear hr
     go_wp2_with fail
     go_meet
     exact ⟨k, D, F1, rfl, Lib.hid ⟨HFD.out.stop (fun h => by have h1 := HRN.out; have h2 := h.1; omega), HD1.out⟩, HR, HE⟩
   ·have hk1 : ¬ (k : Int) < (s.size : Int) := by omega
    have HKK := Lib.hid hk
    clear hk
    go_wp2_with fail
    go_meet
    exact ⟨k, D, F1, rfl, Lib.hid ⟨HFD.out.all (by rw [HBL.out]; exact HKK.out), HD1.out⟩, HR, HE⟩
 case rest =>
  obtain ⟨k, D, F1, rfl, HFD, HR, HE⟩ := hcut
  have HTL := Lib.hid (GRep.tell EP_ok (by decide) HR.out.1 room (by have := HFD.out.2; omega))
  go_wp2_with (go_at_call 194; refine HTL.out.mono ?_; rintro e w1 ⟨v, F2, rfl, ho, hr2, he2, hf2⟩)
  refine bodyPost_ret (v := .tuple #[.int .i64 k, v]) (by simp [results, Tryz.results213, go_sem]) rfl ?_
  rw [HFD.out.1]
  refine ⟨v, F2, rfl, ?_, ⟨hr2, fun h => ⟨by show D.held.drop _ = []; rw [(HR.out.2 h).1, List.drop_nil], (HR.out.2 h).2⟩⟩, HE.out.1.trans he2 (fun j hj h => (HE.out.2 j h).elim id (fun h2 => by omega)), fun j hj => HE.out.2 j (hf2 j hj)⟩
  obtain ⟨o1, o2⟩ := ho
  refine ⟨o1, ?_⟩
  rcases o2 with h | ⟨g1, cap, cur, h2, h3, h4, h5⟩
  ·exact .inl h
  ·exact .inr ⟨g1, cap, cur, h2, Nat.le_trans HE.out.1.size h3, h4, h5⟩
abbrev TDP : TypeId := 133
set_option maxRecDepth 100000 in
set_option maxHeartbeats 4000000 in
theorem finP {w : World} {g : Nat} {F : Nat → Prop} {d : DSt DP} (h : RepP w g F d) (hp : d.pos ≤ 1000000) :
  Calls Tryz.prog 212 #[.pointer (some ⟨g, 0, none⟩)] w fun e w' => ∃ F', e = .returned (.tuple #[]) ∧ RepP w' g F' (endD DP d) ∧ Eff w w' F ∧ (∀ k, F' k → F k ∨ w.heap.size ≤ k) := by
 have HH := Lib.hid h
 have HGC := Lib.hid h.1.going
 by_cases hg : d.err = 0 ∧ d.en = false
 ·have HI := Lib.hid (h.2 hg)
  obtain ⟨lv, st, xs, G, hb, hq, hF, hs, ⟨tv, rfl, hT, hTG⟩, hgg, hll⟩ := h.1
  obtain rfl := hs hg.1
  obtain ⟨A, c, rfl, hc⟩ := q_slice hT
  have c5 : w.cell? ⟨g, 5, none⟩ = some (.slice A (List.length (α := Int) d.st) c) := hb.cell rfl
  obtain ⟨s, hsd⟩ : ∃ s, strOf d.st = s := ⟨_, rfl⟩
  have hcv : (convert 80 9 (.slice A (List.length (α := Int) d.st) c)).run Tryz.prog w = .ok (.string s) w := by
   rw [← hsd]
   exact string_of_reads (P := Tryz.prog) Tryz.underlying80 Tryz.underlying5 Tryz.underlying9 (c := c) (q_reads (k := .u8) hT)
  have hsz : s.size ≤ 1000000 := by rw [← hsd, strOf_size]; exact Nat.le_trans HI.out.2 hp
  have HSD := Lib.hid hsd
  have HSZ := Lib.hid hsz
  have HG := Lib.hid hg
  have hgt : d.going = true := by unfold DSt.going; rw [hg.1, hg.2]; rfl
  rw [hgt] at HGC
  have hdl := denR_len s
  obtain ⟨R, hR⟩ : ∃ R, denR s = R := ⟨_, rfl⟩
  have HDC := Lib.hid (denoted_c s w hsz)
  rw [hR] at HDC hdl
  have HR := Lib.hid hR
  obtain ⟨L, ok⟩ := R
  simp only at HDC hdl
  have HDL := Lib.hid hdl
  clear hb hq hF hT hTG hgg hll hsd hsz hg hgt hdl hR hs hc h
  cases ok with
  | true =>
   go_enter Tryz.func212, Tryz.ntmps212
   go_wp2_with (go_at_call 103; refine HGC.out.mono ?_; rintro e w1 ⟨rfl, rfl⟩)
   refine HDC.out.mono ?_
   rintro e w1 ⟨v1, rfl, ho1, hb1⟩
   obtain ⟨A1, c1, rfl, hc1⟩ := Go.Proofs.YtppchdinolndmaaGreat.own_slice ho1
   have HO1 := Lib.hid (HH.out.1.hold (A := none) (c := 0) (ys := []) EP_ok (by decide) ⟨rfl, by decide, fun h => absurd h (by decide)⟩ (by rw [HI.out.1]; decide))
   have HG1 : Hid (GRep TDP DP EP w1 g F d) := Lib.hid (HH.out.1.eff EP_ok (Eff.of_below hb1 (fun _ => False)) (fun _ _ h => h))
   have HB1 := Lib.hid hb1
   have HHO := Lib.hid (GRep.hold EP_ok (by decide) HG1.out (c := c1) (own_reads' ho1) (by rw [HI.out.1]; simp only [List.length_nil]; have := HDL.out; have := HSZ.out; omega))
   clear ho1 hb1
   go_wp2_with (go_at_call 195; refine HHO.out.mono ?_; rintro e w2 ⟨rfl, F2, hr2, he2, hf2⟩)
   have HEN := Lib.hid (GRep.ending EP_ok (by decide) hr2 (show d.err = 0 ∧ d.en = false from HG.out))
   have HE2 := Lib.hid (And.intro he2 hf2)
   clear hr2 he2 hf2
   go_wp2_with (go_at_call 99; refine HEN.out.mono ?_; rintro e w3 ⟨rfl, hr3, he3⟩)
   refine bodyPost_end (v := .tuple #[]) (by simp [results, Tryz.results212, go_sem]) rfl ?_
   have e1 : endD DP d = { d with held := d.held ++ L, en := true } := by
    unfold endD
    rw [if_pos HG.out, show DP.fin d.st = some L by show (if (denR (strOf d.st)).2 = true then some (denR (strOf d.st)).1 else none) = _; rw [HSD.out, HR.out]; rfl]
   rw [e1]
   refine ⟨F2, rfl, ⟨hr3, fun h => by cases h.2⟩, ((Eff.of_below HB1.out F).trans HE2.out.1 (fun _ _ h => h)).trans he3 (fun k hk h => (HE2.out.2 k h).elim id (fun h2 => ?_)), fun k h => (HE2.out.2 k h).elim .inl (fun h2 => .inr (Nat.le_trans HB1.out.size h2))⟩
   have := HB1.out.size
   omega
  | false =>
   have hL : L = [] := denR_no HR.out
   subst hL
   go_enter Tryz.func212, Tryz.ntmps212
   go_wp2_with (go_at_call 103; refine HGC.out.mono ?_; rintro e w1 ⟨rfl, rfl⟩)
   refine HDC.out.mono ?_
   rintro e w1 ⟨v1, rfl, ho1, hb1⟩
   obtain ⟨A1, c1, rfl, hc1⟩ := Go.Proofs.YtppchdinolndmaaGreat.own_slice ho1
   have HG1 : Hid (GRep TDP DP EP w1 g F d) := Lib.hid (HH.out.1.eff EP_ok (Eff.of_below hb1 (fun _ => False)) (fun _ _ h => h))
   have HB1 := Lib.hid hb1
   have HST := Lib.hid (GRep.stop EP_ok (by decide) HG1.out HG.out 4 (by decide) d.st)
   clear ho1 hb1
   go_wp2_with fail
   refine HST.out.mono ?_
   rintro e w2 ⟨rfl, hr2, he2⟩
   have HHO := Lib.hid (GRep.hold (A := A1) (c := c1) (ys := []) EP_ok (by decide) hr2 ⟨rfl, by decide, fun h => absurd h (by decide)⟩ (by show d.held.length + 0 ≤ _; rw [HI.out.1]; decide))
   have HE2 := Lib.hid he2
   clear hr2 he2
   go_wp2_with fail
   refine HHO.out.mono ?_
   rintro e w3 ⟨rfl, F3, hr3, he3, hf3⟩
   have HEN := Lib.hid (hr3.ended (fun h => by have h1 : (4 : Int) = 0 := h.1; omega))
   have HR3 := Lib.hid hr3
   have HE3 := Lib.hid (And.intro he3 hf3)
   clear hr3 he3 hf3
   go_wp2_with fail
   refine HEN.out.mono ?_
   rintro e w4 ⟨rfl, rfl⟩
   go_wp2_with fail
   refine bodyPost_end (v := .tuple #[]) (by simp [results, Tryz.results212, go_sem]) rfl ?_
   have e1 : endD DP d = { d with err := 4, fat := d.pos } := by
    unfold endD
    rw [if_pos HG.out, show DP.fin d.st = none by show (if (denR (strOf d.st)).2 = true then some (denR (strOf d.st)).1 else none) = _; rw [HSD.out, HR.out]; rfl]
   rw [e1]
   refine ⟨F3, rfl, ⟨?_, fun h => by have h1 : (4 : Int) = 0 := h.1; omega⟩, ((Eff.of_below HB1.out F).trans HE2.out (fun _ _ h => h)).trans HE3.out.1 (fun _ _ h => h), fun k h => (HE3.out.2 k h).elim .inl (fun h2 => .inr (Nat.le_trans (Nat.le_trans HB1.out.size HE2.out.size) h2))⟩
   have h := HR3.out
   simp only [List.append_nil] at h
   exact h
 ·have e1 : endD DP d = d := by unfold endD; rw [if_neg hg]
  rw [e1]
  have hgf : d.going = false := by
   unfold DSt.going
   rcases Bool.eq_false_or_eq_true (d.err == 0 && !d.en) with h | h
   ·simp at h; exact absurd h hg
   ·exact h
  rw [hgf] at HGC
  clear hg hgf e1 h
  go_enter Tryz.func212, Tryz.ntmps212
  go_wp2_with (go_at_call 103; refine HGC.out.mono ?_; rintro e w1 ⟨rfl, rfl⟩)
  refine bodyPost_ret (v := .tuple #[]) (by simp [results, Tryz.results212, go_sem]) rfl ?_
  exact ⟨F, rfl, HH.out, Eff.refl _ _, fun k h => .inl h⟩
theorem kP : DecK 73 213 212 DP RepP where
 invF := by intro n g x y w; kernel_rfl
 invE := by intro n g w; kernel_rfl
 invD := by intro n g w; kernel_rfl
 invW := by intro n g w; kernel_rfl
 lt h k hk := h.1.lt EP_ok k hk
 eff h he hs := ⟨h.1.eff EP_ok he hs, h.2⟩
 feed s room h hp hh := feedDP s room h hp hh
 fin h hp _ := finP h hp
 done h := h.1.done
 fail h := h.1.fail
theorem newP_rep (w : World) : RepP (w.alloc (.cells #[.int .i64 0, .int .i64 0, .int .i64 0, .bool false, .slice none 0 0, .slice none 0 0] TDP (0, 0))) w.heap.size (fun k => k = w.heap.size) (DSt.new DP) :=
 ⟨⟨.slice none 0 0, [], _, fun _ => False, Blk.new w _ _, ⟨rfl, .inl ⟨rfl, none, rfl, fun a h => by cases h⟩⟩, fun k => ⟨.inl, fun h => h.elim id (fun h => h.elim (fun h => by cases h) False.elim)⟩, fun _ => rfl,
  ⟨.slice none 0 0, rfl, ⟨rfl, .inl ⟨rfl, none, rfl, fun a h => by cases h⟩⟩, fun k => ⟨False.elim, fun h => by cases h⟩⟩, fun h => h, fun _ _ h => h⟩, fun _ => ⟨rfl, Nat.le_refl _⟩⟩
set_option maxRecDepth 100000 in
theorem newD7 : NewD 7 73 DP RepP := by
 intro w
 go_enter Tryz.func7, Tryz.ntmps7
 go_wp2_with (go_at_call 26; refine (newdec_c _).mono ?_; rintro e w' ⟨rfl, rfl⟩)
 refine bodyPost_ret (v := .tuple #[.iface 73 (.pointer (some ⟨w.heap.size, 0, none⟩)), .int .i64 0]) (by simp [results, Tryz.results7, go_sem]) rfl ?_
 exact ⟨_, _, rfl, below_new (Below.refl _ _) _, newP_rep w, fun k hk => Nat.le_of_eq hk.symm⟩
end Go.Proofs.YtppchdinolndmaaGreat
