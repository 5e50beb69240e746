/- Joined texts: Tb, Tx. -/
import Derived.Test.YtppchdinolndmaaGreatMBase
import Derived.Test.YtppchdinolndmaaGreatMUstp
import Derived.Deep.WholeRow
import Derived.Deep.MidRow
import Derived.Great.BuildSlice
import Derived.Laws.IdiomStrings
namespace Go.Proofs.YtppchdinolndmaaGreat
open Go.RowKit Go.Proofs.YtppchdinolndmaaGreatW.PrintWords
set_option linter.unusedVariables false
set_option linter.unusedSimpArgs false
def kn160 : List Int := [0, 1, 2, 3, 55, 45, 46, 47, 22, 5, 21, 11, 12, 13, 14, 15, 16, 17, 18, 19, 60, 61, 50, 38, 24, 25, 63, 39, 28, 29, 30, 31, 64, 90, 127, 123, 91, 108, 80, 125, 77, 93, 92, 78, 107, 96, 75, 97, 240, 241, 242, 243, 244, 245, 246, 247, 248, 249, 122, 94, 76, 126, 110, 111, 124, 193, 194, 195, 196, 197, 198, 199, 200, 201, 209, 210, 211, 212, 213, 214, 215, 216, 217, 226, 227, 228, 229, 230, 231, 232, 233, 173, 224, 189, 95, 109, 121, 129, 130, 131, 132, 133, 134, 135, 136, 137, 145, 146, 147, 148, 149, 150, 151, 152, 153, 162, 163, 164, 165, 166, 167, 168, 169, 192, 79, 208, 161, 7, 32, 33, 34, 35, 36, 37, 6, 23, 40, 41, 42, 43, 44, 9, 10, 27, 48, 49, 26, 51, 52, 53, 54, 8, 56, 57, 58, 59, 4, 20, 62, 255]
def permTo : List Int := [0, 1, 2, 3, 55, 45, 46, 47, 22, 5, 21, 11, 12, 13, 14, 15, 16, 17, 18, 19, 60, 61, 50, 38, 24, 25, 63, 39, 28, 29, 30, 31, 64, 90, 127, 123, 91, 108, 80, 125, 77, 93, 92, 78, 107, 96, 75, 97, 240, 241, 242, 243, 244, 245, 246, 247, 248, 249, 122, 94, 76, 126, 110, 111, 124, 193, 194, 195, 196, 197, 198, 199, 200, 201, 209, 210, 211, 212, 213, 214, 215, 216, 217, 226, 227, 228, 229, 230, 231, 232, 233, 173, 224, 189, 95, 109, 121, 129, 130, 131, 132, 133, 134, 135, 136, 137, 145, 146, 147, 148, 149, 150, 151, 152, 153, 162, 163, 164, 165, 166, 167, 168, 169, 192, 79, 208, 161, 7, 32, 33, 34, 35, 36, 37, 6, 23, 40, 41, 42, 43, 44, 9, 10, 27, 48, 49, 26, 51, 52, 53, 54, 8, 56, 57, 58, 59, 4, 20, 62, 255, 65, 66, 67, 68, 69, 70, 71, 72, 73, 74, 81, 82, 83, 84, 85, 86, 87, 88, 89, 98, 99, 100, 101, 102, 103, 104, 105, 106, 112, 113, 114, 115, 116, 117, 118, 119, 120, 128, 138, 139, 140, 141, 142, 143, 144, 154, 155, 156, 157, 158, 159, 160, 170, 171, 172, 174, 175, 176, 177, 178, 179, 180, 181, 182, 183, 184, 185, 186, 187, 188, 190, 191, 202, 203, 204, 205, 206, 207, 218, 219, 220, 221, 222, 223, 225, 234, 235, 236, 237, 238, 239, 250, 251, 252, 253, 254]
def permFrom : List Int := [0, 1, 2, 3, 156, 9, 134, 127, 151, 141, 142, 11, 12, 13, 14, 15, 16, 17, 18, 19, 157, 10, 8, 135, 24, 25, 146, 143, 28, 29, 30, 31, 128, 129, 130, 131, 132, 133, 23, 27, 136, 137, 138, 139, 140, 5, 6, 7, 144, 145, 22, 147, 148, 149, 150, 4, 152, 153, 154, 155, 20, 21, 158, 26, 32, 160, 161, 162, 163, 164, 165, 166, 167, 168, 169, 46, 60, 40, 43, 124, 38, 170, 171, 172, 173, 174, 175, 176, 177, 178, 33, 36, 42, 41, 59, 94, 45, 47, 179, 180, 181, 182, 183, 184, 185, 186, 187, 44, 37, 95, 62, 63, 188, 189, 190, 191, 192, 193, 194, 195, 196, 96, 58, 35, 64, 39, 61, 34, 197, 97, 98, 99, 100, 101, 102, 103, 104, 105, 198, 199, 200, 201, 202, 203, 204, 106, 107, 108, 109, 110, 111, 112, 113, 114, 205, 206, 207, 208, 209, 210, 211, 126, 115, 116, 117, 118, 119, 120, 121, 122, 212, 213, 214, 91, 215, 216, 217, 218, 219, 220, 221, 222, 223, 224, 225, 226, 227, 228, 229, 93, 230, 231, 123, 65, 66, 67, 68, 69, 70, 71, 72, 73, 232, 233, 234, 235, 236, 237, 125, 74, 75, 76, 77, 78, 79, 80, 81, 82, 238, 239, 240, 241, 242, 243, 92, 244, 83, 84, 85, 86, 87, 88, 89, 90, 245, 246, 247, 248, 249, 250, 48, 49, 50, 51, 52, 53, 54, 55, 56, 57, 251, 252, 253, 254, 255, 159]
def kn (k : Nat) : Int := kn160.getD k 0
def knA : Array Value := (kn160.map (Value.int .u8)).toArray
theorem kn_range (k : Nat) : 0 ≤ kn k ∧ kn k ≤ 255 := by
 have h : ∀ x ∈ kn160, 0 ≤ x ∧ x ≤ 255 := by decide +kernel
 unfold kn
 rw [List.getD_eq_getElem?_getD]
 cases e : kn160[k]? with
 | none => decide
 | some x => exact h x (List.mem_of_getElem? e)
theorem knA_at (k : Nat) (h : k < 160) : knA[k]? = some (.int .u8 (kn k)) := by
 have hl : kn160.length = 160 := rfl
 unfold knA kn
 rw [List.getElem?_toArray, List.getElem?_map, List.getD_eq_getElem?_getD, List.getElem?_eq_getElem (by omega)]
 rfl
abbrev TTb : TypeId := 152
theorem zi171 : (Tryz.prog.info? 154).map (fun i => (i.zero, i.size)) = some (some (.agg (Array.replicate 160 (.int .u8 0))), 160) := by kernel_rfl
theorem zi170 : (Tryz.prog.info? 153).map (fun i => (i.zero, i.size)) = some (some (.agg (Array.replicate 256 (.bool false))), 256) := by kernel_rfl
theorem zi169 : (Tryz.prog.info? TTb).map (fun i => (i.zero, i.size)) = some (some (.agg (Array.replicate 512 (.int .u8 0))), 512) := by kernel_rfl
theorem knA_one : knA.all (·.oneCell') = true := by kernel_rfl
theorem hi171 : (Tryz.prog.info? 154).map (·.size) = some 160 := (zero_of_info zi171).2
theorem hs5 : (Tryz.prog.info? 5).map (·.size) = some 1 := by kernel_rfl
theorem hz171 : ((Tryz.prog.info? 154).bind (·.zero)).map (·.cells.size) = some kn160.length := by kernel_rfl
theorem index_u8 {P : Program} {t e : TypeId} {n : Nat} (hu : P.underlying t = some (.array n e)) (he : P.underlying e = some (.int .u8)) (hsz : (P.info? e).map (·.size) = some 1) (cs : Array Value) (k : Nat) (b : Value) (hk : k < n) (hc : cs[k]? = some b) (w : World) :
  (Instr.index t (.agg cs) (.int .i64 k)).run P w = .ok b w := by
 have h0 : (0 : Int) ≤ (k : Int) := by omega
 cases hq : P.info? e with
 | none => rw [hq] at hsz; cases hsz
 | some i =>
  have hs : i.size = 1 := by rw [hq] at hsz; simpa using hsz
  simp [Instr.index, run_underlying hu, run_underlying he, asIntOf, sizeOf, typeInfo, hq, hs, h0, part, isAgg, hc, go_sem]
  intro h
  omega
theorem results_cell {fn : Func} {p : Tmp} {ty : TypeId} (h : fn.results = #[.cell p ty]) (tmps : Array Value) (P : Program) (w : World) :
  (results fn tmps).run P w = ((asAddr (tmps.getD p undef)).run P w).andThen fun a w₁ => (loadVar ty a).run P w₁ := by
 simp only [results, h]
 simp [Sem.run_bind, Result.andThen]
theorem load171 (w : World) : (loadVar 154 ⟨w.heap.size, 0, none⟩).run Tryz.prog (w.alloc (.cells knA 154 (0, 0))) = .ok (.agg knA) (w.alloc (.cells knA 154 (0, 0))) :=
 run_loadVar_new w _ knA 160 5 Tryz.underlying154 hi171
set_option maxRecDepth 100000 in
set_option maxHeartbeats 4000000 in
theorem known_c (w : World) : Calls Tryz.prog 53 #[] w fun e w' => e = .returned (.agg knA) ∧ Below w.heap.size w w' := by
 have hz := (zero_of_info zi171).1
 go_enter Tryz.func53, Tryz.ntmps53
 go_wp2_with (first
  | ((with_reducible refine gate_dst (N := 1) rfl ?_); refine wpList_buildFlatArrTo rfl 154 5 160 _ rfl .u8 kn160 (some 1) rfl Tryz.underlying154 hs5 hz171 (by kernel_rfl) ?_)
  | ((with_reducible refine gate_store (t := 154) rfl ?_); refine wpList_store_rowTo rfl 154 _ _ rfl rfl w.heap.size knA rfl rfl 154 (Array.replicate 160 (.int .u8 0)) (heap_alloc_last _ _) hi171 rfl knA_one ?_; rw [World.setRow_alloc_new]))
 refine bodyPost_ret (v := .agg knA) ?_ rfl ⟨rfl, below_new (Below.refl _ _) _⟩
 rw [results_cell (p := 0) (ty := 154) rfl]
 show ((asAddr (.pointer (some ⟨w.heap.size, 0, none⟩))).run Tryz.prog _).andThen _ = _
 have ha : (asAddr (.pointer (some ⟨w.heap.size, 0, none⟩))).run Tryz.prog (w.alloc (.cells knA 154 (0, 0))) = .ok ⟨w.heap.size, 0, none⟩ (w.alloc (.cells knA 154 (0, 0))) := rfl
 rw [ha]
 exact load171 w
def p1 : Nat → Array Value
 | 0 => Array.replicate 512 (.int .u8 0)
 | k + 1 => (p1 k).setIfInBounds k (.int .u8 (kn k))
def k1 : Nat → Array Value
 | 0 => Array.replicate 256 (.bool false)
 | k + 1 => (k1 k).setIfInBounds (kn k).toNat (.bool true)
theorem p1_size : ∀ k, (p1 k).size = 512
 | 0 => Array.size_replicate
 | k + 1 => by rw [p1, Array.size_setIfInBounds]; exact p1_size k
theorem k1_size : ∀ k, (k1 k).size = 256
 | 0 => Array.size_replicate
 | k + 1 => by rw [k1, Array.size_setIfInBounds]; exact k1_size k
theorem Blk.has {w : World} {g : Nat} {T : TypeId} {cs : Array Value} (h : Blk w g T cs) (i : Nat) (hi : i < cs.size) : w.cell? ⟨g, i, none⟩ = some cs[i] := h.cell (Array.getElem?_eq_getElem hi)
def tkL : List Bool := [true, true, true, true, true, true, true, true, true, true, true, true, true, true, true, true, true, true, true, true, true, true, true, true, true, true, true, true, true, true, true, true, true, true, true, true, true, true, true, true, true, true, true, true, true, true, true, true, true, true, true, true, true, true, true, true, true, true, true, true, true, true, true, true, true, false, false, false, false, false, false, false, false, false, false, true, true, true, true, true, true, false, false, false, false, false, false, false, false, false, true, true, true, true, true, true, true, true, false, false, false, false, false, false, false, false, false, true, true, true, true, true, false, false, false, false, false, false, false, false, false, true, true, true, true, true, true, true, false, true, true, true, true, true, true, true, true, true, false, false, false, false, false, false, false, true, true, true, true, true, true, true, true, true, false, false, false, false, false, false, false, true, true, true, true, true, true, true, true, true, false, false, false, true, false, false, false, false, false, false, false, false, false, false, false, false, false, false, false, true, false, false, true, true, true, true, true, true, true, true, true, true, false, false, false, false, false, false, true, true, true, true, true, true, true, true, true, true, false, false, false, false, false, false, true, false, true, true, true, true, true, true, true, true, false, false, false, false, false, false, true, true, true, true, true, true, true, true, true, true, false, false, false, false, false, true]
def atL : List Nat := [160, 160, 160, 160, 160, 160, 160, 160, 160, 160, 160, 160, 160, 160, 160, 160, 160, 160, 160, 160, 160, 160, 160, 160, 160, 160, 160, 160, 160, 160, 160, 160, 160, 160, 160, 160, 160, 160, 160, 160, 160, 160, 160, 160, 160, 160, 160, 160, 160, 160, 160, 160, 160, 160, 160, 160, 160, 160, 160, 160, 160, 160, 160, 160, 160, 160, 161, 162, 163, 164, 165, 166, 167, 168, 169, 170, 170, 170, 170, 170, 170, 170, 171, 172, 173, 174, 175, 176, 177, 178, 179, 179, 179, 179, 179, 179, 179, 179, 179, 180, 181, 182, 183, 184, 185, 186, 187, 188, 188, 188, 188, 188, 188, 189, 190, 191, 192, 193, 194, 195, 196, 197, 197, 197, 197, 197, 197, 197, 197, 198, 198, 198, 198, 198, 198, 198, 198, 198, 198, 199, 200, 201, 202, 203, 204, 205, 205, 205, 205, 205, 205, 205, 205, 205, 205, 206, 207, 208, 209, 210, 211, 212, 212, 212, 212, 212, 212, 212, 212, 212, 212, 213, 214, 215, 215, 216, 217, 218, 219, 220, 221, 222, 223, 224, 225, 226, 227, 228, 229, 230, 230, 231, 232, 232, 232, 232, 232, 232, 232, 232, 232, 232, 232, 233, 234, 235, 236, 237, 238, 238, 238, 238, 238, 238, 238, 238, 238, 238, 238, 239, 240, 241, 242, 243, 244, 244, 245, 245, 245, 245, 245, 245, 245, 245, 245, 246, 247, 248, 249, 250, 251, 251, 251, 251, 251, 251, 251, 251, 251, 251, 251, 252, 253, 254, 255, 256, 256]
def tkB (b : Nat) : Bool := tkL.getD b false
def atN (b : Nat) : Nat := atL.getD b 0
def p2 : Nat → Array Value
 | 0 => p1 160
 | b + 1 => if tkB b then p2 b else (p2 b).setIfInBounds (atN b) (.int .u8 b)
theorem p2_size : ∀ b, (p2 b).size = 512
 | 0 => p1_size 160
 | b + 1 => by
  rw [p2]
  split
  ·exact p2_size b
  ·rw [Array.size_setIfInBounds]; exact p2_size b
set_option maxRecDepth 100000 in
theorem at_step (b : Nat) (h : b < 256) : (tkB b = true ∧ atN (b + 1) = atN b) ∨ (tkB b = false ∧ atN (b + 1) = atN b + 1 ∧ atN b < 256) := by
 have := (by decide +kernel : ∀ b : Fin 256, (tkB b.val = true ∧ atN (b.val + 1) = atN b.val) ∨ (tkB b.val = false ∧ atN (b.val + 1) = atN b.val + 1 ∧ atN b.val < 256))
 exact this ⟨b, h⟩
theorem k1_all : k1 160 = (tkL.map Value.bool).toArray := by kernel_rfl
theorem k1_at (b : Nat) (h : b < 256) : (k1 160)[b]? = some (.bool (tkB b)) := by
 have hl : tkL.length = 256 := by kernel_rfl
 rw [k1_all]
 unfold tkB
 rw [List.getElem?_toArray, List.getElem?_map, List.getD_eq_getElem?_getD, List.getElem?_eq_getElem (by omega)]
 rfl
def toA : Array Value := (permTo.map (Value.int .u8)).toArray
theorem p2_all : p2 256 = (permTo.map (Value.int .u8) ++ List.replicate 256 (Value.int .u8 0)).toArray := by kernel_rfl
def toN (k : Nat) : Int := permTo.getD k 0
theorem toN_range (k : Nat) : 0 ≤ toN k ∧ toN k ≤ 255 := by
 have h : ∀ x ∈ permTo, 0 ≤ x ∧ x ≤ 255 := by decide +kernel
 unfold toN
 rw [List.getD_eq_getElem?_getD]
 cases e : permTo[k]? with
 | none => decide
 | some x => exact h x (List.mem_of_getElem? e)
theorem permTo_length : permTo.length = 256 := by kernel_rfl
theorem toA_at (k : Nat) (h : k < 256) : toA[k]? = some (.int .u8 (toN k)) := by
 have hl := permTo_length
 unfold toA toN
 rw [List.getElem?_toArray, List.getElem?_map, List.getD_eq_getElem?_getD, List.getElem?_eq_getElem (by omega)]
 rfl
def p3 : Nat → Array Value
 | 0 => p2 256
 | k + 1 => (p3 k).setIfInBounds (256 + (toN k).toNat) (.int .u8 k)
theorem p3_size : ∀ k, (p3 k).size = 512
 | 0 => p2_size 256
 | k + 1 => by rw [p3, Array.size_setIfInBounds]; exact p3_size k
theorem p3_all : p3 256 = ((permTo ++ permFrom).map (Value.int .u8)).toArray := by kernel_rfl
theorem hi167 : (Tryz.prog.info? 150).map (·.size) = some (permTo.map (Value.int .u8)).length := by kernel_rfl
set_option maxRecDepth 100000 in
set_option maxHeartbeats 4000000 in
theorem permute_c (w : World) : Calls Tryz.prog 39 #[] w fun e w' => ∃ g, e = .returned (.pointer (some ⟨g, 0, none⟩)) ∧ w.heap.size ≤ g ∧ Blk w' g TTb ((permTo ++ permFrom).map (Value.int .u8)).toArray ∧ Below w.heap.size w w' := by
 have hz0 := (zero_of_info zi170).1
 have hi0 := (zero_of_info zi170).2
 have hz1 := (zero_of_info zi171).1
 have hz9 := (zero_of_info zi169).1
 have hi9 := (zero_of_info zi169).2
 go_enter Tryz.func39, Tryz.ntmps39
 go_wp2_with fail
 refine (known_c _).mono ?_
 rintro e w1 ⟨rfl, hb1⟩
 have HB1 := Lib.hid (below_next (below_new (below_new (Below.refl _ _) _) _) hb1)
 have KT := Lib.hid (((Blk.new w TTb (Array.replicate 512 (.int .u8 0))).alloc (.cells (Array.replicate 256 (.bool false)) 153 (0, 0))).below hb1)
 have kk := Blk.new (w.alloc (.cells (Array.replicate 512 (.int .u8 0)) TTb (0, 0))) 153 (Array.replicate 256 (.bool false))
 rw [World.size_alloc] at kk
 have KK := Lib.hid (kk.below hb1)
 clear hb1 kk
 have hld : True := trivial
 go_upto_region 4 with (((with_reducible refine gate_store (t := 154) rfl ?_); refine wpList_store_rowTo rfl 154 _ _ rfl rfl w1.heap.size knA rfl rfl 154 (Array.replicate 160 (.int .u8 0)) (heap_alloc_last _ _) hi171 rfl knA_one ?_; rw [World.setRow_alloc_new]))
 have hd2 : Below w.heap.size w (w1.alloc (.cells knA 154 (0, 0))) := below_new HB1.out _
 have kt2 := KT.out.alloc (.cells knA 154 (0, 0))
 have kk2 := KK.out.alloc (.cells knA 154 (0, 0))
 have hrg : (w1.alloc (.cells knA 154 (0, 0))).rangeAt w1.heap.size 0 (kn160.map (Value.int .u8)) := fun j v hv => by
  rw [Nat.zero_add]
  refine (Blk.new w1 154 knA).cell ?_
  unfold knA
  rw [List.getElem?_toArray]
  exact hv
 clear hld
 go_wp2_with (((with_reducible refine gate_dst (N := 13) rfl ?_); refine wpList_load_mid rfl 154 _ rfl w1.heap.size 0 rfl (kn160.map (Value.int .u8)) _ hrg Tryz.underlying154 rfl hi171 ?_))
 clear hrg HB1 KT KK
 rw [show (List.map (Value.int .u8) kn160).toArray = knA from rfl]
 obtain ⟨W, hW⟩ : ∃ W, w1.alloc (.cells knA 154 (0, 0)) = W := ⟨_, rfl⟩
 rw [hW] at hd2 kt2 kk2 ⊢
 clear hW
 obtain ⟨g, hg⟩ : ∃ g, w.heap.size = g := ⟨_, rfl⟩
 rw [hg] at kt2 kk2 ⊢
 have HG := Lib.hid hg
 have HST := Lib.hid (And.intro hd2 (And.intro kt2 kk2))
 obtain ⟨gn, hgn⟩ : ∃ gn, w1.heap.size = gn := ⟨_, rfl⟩
 rw [hgn]
 clear hd2 kt2 kk2 hg hgn
 go_loopg [14] 160 (fun kq s14 wx => ∃ k : Nat, s14 = .int .i64 k ∧ Hid (kq = 160 - k ∧ k ≤ 160 ∧ Below w.heap.size w wx ∧ Blk wx g TTb (p1 k) ∧ Blk wx (g + 1) 153 (k1 k)))
 case atStart => exact ⟨0, rfl, Lib.hid ⟨rfl, Nat.zero_le _, HST.out⟩⟩
 case round =>
  obtain ⟨k, rfl, HK⟩ := hrel
  by_cases hk : k < 160
  ·have hk1 : (k : Int) < 160 := by omega
   have hk0 : (0 : Int) ≤ (k : Int) := by omega
   have hr := kn_range k
   obtain ⟨r1, r2, r3, r4⟩ := HK.out.2
   obtain ⟨v3, m3⟩ : ∃ v, wr.cell? ⟨g, k, none⟩ = some v := ⟨_, r3.has k (by rw [p1_size]; omega)⟩
   obtain ⟨v4, m4⟩ : ∃ v, wr.cell? ⟨g + 1, (kn k).toNat, none⟩ = some v := ⟨_, r4.has (kn k).toNat (by rw [k1_size]; omega)⟩
   have fz3 := r3.frozen
   have fz4 := r4.frozen
   have hg0 := HG.out
   have HNX : Hid (k + 1 ≤ 160 ∧ Below w.heap.size w ((wr.setCell ⟨g, k, none⟩ (.int .u8 (kn k))).setCell ⟨g + 1, (kn k).toNat, none⟩ (.bool true)) ∧ Blk ((wr.setCell ⟨g, k, none⟩ (.int .u8 (kn k))).setCell ⟨g + 1, (kn k).toNat, none⟩ (.bool true)) g TTb (p1 (k + 1)) ∧ Blk ((wr.setCell ⟨g, k, none⟩ (.int .u8 (kn k))).setCell ⟨g + 1, (kn k).toNat, none⟩ (.bool true)) (g + 1) 153 (k1 (k + 1))) :=
    Lib.hid ⟨by omega, below_set (below_set r2 (by omega)) (by omega), (r3.set k _).far (by show g ≠ g + 1; omega) _, (r4.far (by show g + 1 ≠ g; omega) _).set _ _⟩
   have hix := fun W => index_u8 (P := Tryz.prog) Tryz.underlying154 Tryz.underlying5 hs5 knA k _ hk (knA_at k hk) W
   obtain ⟨b, hb⟩ : ∃ b, kn k = b := ⟨_, rfl⟩
   rw [hb] at hr HNX hix m4
   have hb0 := hr.1
   have hb1 : b < 256 := by omega
   clear r1 r2 r3 r4 hg0 hr hb
   go_wp2_with fail
   go_roundg (160 - (k + 1))
   case measure => have := HK.out.1; omega
   case rel => exact ⟨k + 1, by go_num, Lib.hid ⟨rfl, HNX.out⟩⟩
  ·have hk1 : ¬ (k : Int) < 160 := by omega
   obtain rfl : k = 160 := by have := HK.out.2.1; omega
   have HST := Lib.hid HK.out.2.2
   clear HK hk hz1 hz9 hi0 hi9
   go_wp2_with fail
   go_loopg [6, 27] 256 (fun kq s6 s27 wx => ∃ k : Nat, s6 = .int .i64 (atN k) ∧ s27 = .int .i64 k ∧ Hid (kq = 256 - k ∧ k ≤ 256 ∧ Below w.heap.size w wx ∧ Blk wx g TTb (p2 k) ∧ Blk wx (g + 1) 153 (k1 160)))
   case atStart => exact ⟨0, rfl, rfl, Lib.hid ⟨rfl, Nat.zero_le _, HST.out⟩⟩
   case round =>
    clear HST
    obtain ⟨k, rfl, rfl, HK⟩ := hrel
    by_cases hk : k < 256
    ·have hk1 : (k : Int) < 256 := by omega
     have hk0 : (0 : Int) ≤ (k : Int) := by omega
     have hkm : (k : Int) % 256 = k := by omega
     obtain ⟨r1, r2, r3, r4⟩ := HK.out.2
     have m4 := r4.cell (k1_at k hk)
     rcases at_step k hk with ⟨ht, hat⟩ | ⟨ht, hat, hlt⟩
     ·rw [ht] at m4
      have HNX : Hid (k + 1 ≤ 256 ∧ Below w.heap.size w wr ∧ Blk wr g TTb (p2 (k + 1)) ∧ Blk wr (g + 1) 153 (k1 160)) := Lib.hid ⟨by omega, r2, by rw [p2, if_pos ht]; exact r3, r4⟩
      have HAT := Lib.hid hat
      clear r1 r2 r3 r4 ht hat
      obtain ⟨A, hA⟩ : ∃ A, atN k = A := ⟨_, rfl⟩
      rw [hA] at HAT ⊢
      clear hA
      go_wp2_with fail
      go_roundg (256 - (k + 1))
      case measure => have := HK.out.1; omega
      case rel => exact ⟨k + 1, by rw [HAT.out], by go_num, Lib.hid ⟨rfl, HNX.out⟩⟩
     ·rw [ht] at m4
      obtain ⟨v3, m3⟩ : ∃ v, wr.cell? ⟨g, atN k, none⟩ = some v := ⟨_, r3.has (atN k) (by rw [p2_size]; omega)⟩
      have fz3 := r3.frozen
      have hg0 := HG.out
      have HNX : Hid (k + 1 ≤ 256 ∧ Below w.heap.size w (wr.setCell ⟨g, atN k, none⟩ (.int .u8 k)) ∧ Blk (wr.setCell ⟨g, atN k, none⟩ (.int .u8 k)) g TTb (p2 (k + 1)) ∧ Blk (wr.setCell ⟨g, atN k, none⟩ (.int .u8 k)) (g + 1) 153 (k1 160)) :=
       Lib.hid ⟨by omega, below_set r2 (by omega), by rw [p2, if_neg (by rw [ht]; decide)]; exact r3.set _ _, r4.far (by show g + 1 ≠ g; omega) _⟩
      have HAT := Lib.hid hat
      clear r1 r2 r3 r4 ht hat hg0
      obtain ⟨A, hA⟩ : ∃ A, atN k = A := ⟨_, rfl⟩
      rw [hA] at HAT HNX m3 hlt ⊢
      have hA0 : (0 : Int) ≤ (A : Int) := by omega
      have hA1 : (A : Int) < 256 := by omega
      clear hA hlt
      go_wp2_with fail
      go_roundg (256 - (k + 1))
      case measure => have := HK.out.1; omega
      case rel => exact ⟨k + 1, by rw [HAT.out]; go_num, by go_num, Lib.hid ⟨rfl, HNX.out⟩⟩
    ·have hk1 : ¬ (k : Int) < 256 := by omega
     obtain rfl : k = 256 := by have := HK.out.2.1; omega
     have hst := HK.out.2.2
     have hrg : wr.rangeAt g 0 (permTo.map (Value.int .u8)) := fun j v hv => by
      rw [Nat.zero_add]
      refine hst.2.1.cell ?_
      rw [p2_all, List.getElem?_toArray, List.getElem?_append_left (by rw [List.length_map]; have := (List.getElem?_eq_some_iff.1 hv).1; rwa [List.length_map] at this)]
      exact hv
     have HST := Lib.hid hst
     clear HK hk hst
     go_wp2_with (((with_reducible refine gate_dst (N := 47) rfl ?_); refine wpList_load_mid rfl 150 _ rfl g 0 rfl (permTo.map (Value.int .u8)) _ hrg Tryz.underlying150 rfl hi167 ?_))
     clear hrg
     rw [show (List.map (Value.int .u8) permTo).toArray = toA from rfl]
     go_loopg [48] 256 (fun kq s48 wx => ∃ k : Nat, s48 = .int .i64 k ∧ Hid (kq = 256 - k ∧ k ≤ 256 ∧ Below w.heap.size w wx ∧ Blk wx g TTb (p3 k)))
     case atStart => exact ⟨0, rfl, Lib.hid ⟨rfl, Nat.zero_le _, HST.out.1, HST.out.2.1⟩⟩
     case round =>
      clear HST
      obtain ⟨k, rfl, HK⟩ := hrel
      by_cases hk : k < 256
      ·have hk1 : (k : Int) < 256 := by omega
       have hk0 : (0 : Int) ≤ (k : Int) := by omega
       have hkm : (k : Int) % 256 = k := by omega
       have hr := toN_range k
       obtain ⟨r1, r2, r3⟩ := HK.out.2
       obtain ⟨v3, m3⟩ : ∃ v, wr.cell? ⟨g, 256 + (toN k).toNat, none⟩ = some v := ⟨_, r3.has (256 + (toN k).toNat) (by rw [p3_size]; omega)⟩
       have fz3 := r3.frozen
       have hg0 := HG.out
       have HNX : Hid (k + 1 ≤ 256 ∧ Below w.heap.size w (wr.setCell ⟨g, 256 + (toN k).toNat, none⟩ (.int .u8 k)) ∧ Blk (wr.setCell ⟨g, 256 + (toN k).toNat, none⟩ (.int .u8 k)) g TTb (p3 (k + 1))) :=
        Lib.hid ⟨by omega, below_set r2 (by omega), r3.set _ _⟩
       have hix := fun W => index_u8 (P := Tryz.prog) Tryz.underlying150 Tryz.underlying5 hs5 toA k _ hk (toA_at k hk) W
       obtain ⟨b, hb⟩ : ∃ b, toN k = b := ⟨_, rfl⟩
       rw [hb] at hr HNX hix m3
       have hb0 := hr.1
       have hb1 : b < 256 := by omega
       clear r1 r2 r3 hg0 hr hb
       go_wp2_with fail
       go_roundg (256 - (k + 1))
       case measure => have := HK.out.1; omega
       case rel => exact ⟨k + 1, by go_num, Lib.hid ⟨rfl, HNX.out⟩⟩
      ·have hk1 : ¬ (k : Int) < 256 := by omega
       obtain rfl : k = 256 := by have := HK.out.2.1; omega
       obtain ⟨r1, r2, r3, r4⟩ := HK.out
       rw [p3_all] at r4
       have HR := Lib.hid (And.intro r3 r4)
       clear HK r1 r2 r3 r4 hk
       go_wp2_with fail
       go_ret
       exact ⟨g, rfl, Nat.le_of_eq HG.out, HR.out.2, HR.out.1⟩
def permCells : Array Value := ((permTo ++ permFrom).map (Value.int .u8)).toArray
def permP (b : Int) : Int := permTo.getD b.toNat 0
def permQ (b : Int) : Int := permFrom.getD b.toNat 0
theorem permFrom_length : permFrom.length = 256 := by kernel_rfl
theorem permP_range (b : Int) : 0 ≤ permP b ∧ permP b ≤ 255 := toN_range b.toNat
theorem permQ_range (b : Int) : 0 ≤ permQ b ∧ permQ b ≤ 255 := by
 have h : ∀ x ∈ permFrom, 0 ≤ x ∧ x ≤ 255 := by decide +kernel
 unfold permQ
 rw [List.getD_eq_getElem?_getD]
 cases e : permFrom[b.toNat]? with
 | none => decide
 | some x => exact h x (List.mem_of_getElem? e)
theorem permCells_to (b : Int) (h0 : 0 ≤ b) (h1 : b < 256) : permCells[b.toNat]? = some (.int .u8 (permP b)) := by
 have hl := permTo_length
 unfold permCells permP
 rw [List.getElem?_toArray, List.getElem?_map, List.getElem?_append_left (by omega), List.getD_eq_getElem?_getD, List.getElem?_eq_getElem (by omega)]
 rfl
theorem permCells_from (b : Int) (h0 : 0 ≤ b) (h1 : b < 256) : permCells[256 + b.toNat]? = some (.int .u8 (permQ b)) := by
 have hl := permTo_length
 have hl2 := permFrom_length
 unfold permCells permQ
 rw [List.getElem?_toArray, List.getElem?_map, List.getElem?_append_right (by omega), hl, Nat.add_sub_cancel_left, List.getD_eq_getElem?_getD, List.getElem?_eq_getElem (by omega)]
 rfl
def rowk (f : Int → Int) (s : ByteArray) (k j : Nat) : Int := if j < k then f (bt s (j : Int)) else bt s (j : Int)
structure RowK (f : Int → Int) (w : World) (b : Nat) (s : ByteArray) (k : Nat) : Prop where
 cell : ∀ j, j < s.size → w.cell? ⟨b, j, none⟩ = some (.int .u8 (rowk f s k j))
 free : ∀ j, j < s.size → w.frozen? ⟨b, j, none⟩ = false
theorem RowK.step {f : Int → Int} {w : World} {b : Nat} {s : ByteArray} {k : Nat} (h : RowK f w b s k) (hk : k < s.size) : RowK f (w.setCell ⟨b, k, none⟩ (.int .u8 (f (bt s (k : Int))))) b s (k + 1) := by
 refine ⟨fun j hj => ?_, fun j hj => by rw [World.frozen?_setCell]; exact h.free j hj⟩
 have hc := h.cell j hj
 by_cases e : j = k
 ·subst e
  rw [World.cell?_setCell_same w _ _ hc]
  unfold rowk
  rw [if_pos (by omega)]
 ·rw [World.cell?_setCell_other w _ _ _ (by intro h2; injection h2 with _ h3; exact e h3.symm), hc]
  unfold rowk
  by_cases hl : j < k
  ·rw [if_pos hl, if_pos (by omega)]
  ·rw [if_neg hl, if_neg (by omega)]
theorem conv_row (f : Int → Int) (w : World) (s : ByteArray) : RowK f (w.drew.alloc (.cells (bytesRow s (grownCap w s.size 0 5)) 5 ((bytesRow s (grownCap w s.size 0 5)).size, (bytesRow s (grownCap w s.size 0 5)).size + 1))) w.heap.size s 0 := by
 refine ⟨fun j hj => ?_, fun j hj => ?_⟩
 ·have := World.cell?_alloc_mark w.drew (bytesRow s (grownCap w s.size 0 5)) 5 ((bytesRow s (grownCap w s.size 0 5)).size, (bytesRow s (grownCap w s.size 0 5)).size + 1) j
  rw [show w.drew.heap.size = w.heap.size from rfl] at this
  rw [this, bytesRow_at s _ j hj]
  unfold rowk
  rw [if_neg (by omega), ← bt_at s (j : Int) (by rw [Int.toNat_natCast]; exact hj)]
  simp only [Int.toNat_natCast]
  rfl
 ·have := World.frozen?_alloc_mark w.drew (bytesRow s (grownCap w s.size 0 5)) 5 (bytesRow s (grownCap w s.size 0 5)).size ((bytesRow s (grownCap w s.size 0 5)).size + 1) j
  rw [show w.drew.heap.size = w.heap.size from rfl] at this
  rw [this]
  have hz : s.size ≤ (bytesRow s (grownCap w s.size 0 5)).size := by
   unfold bytesRow
   rw [Array.size_append, Array.size_map]
   exact Nat.le_add_right _ _
  rw [decide_eq_false (by omega)]
  rfl
theorem back_row (f : Int → Int) (hf : ∀ b, 0 ≤ f b ∧ f b ≤ 255) {w : World} {b : Nat} {s : ByteArray} (h : RowK f w b s s.size) (cap : Nat) :
  (convert 80 9 (.slice (some ⟨b, 0, none⟩) s.size cap)).run Tryz.prog w = .ok (.string (strOf ((bytesOf s).map f))) w := by
 have hlen : (((bytesOf s).map f).map fun x => UInt8.ofNat x.toNat).length = s.size := by rw [List.length_map, List.length_map, bytesOf_length]
 have hx := run_convert_bytes_back (P := Tryz.prog) w 80 9 5 ⟨b, 0, none⟩ cap (((bytesOf s).map f).map fun x => UInt8.ofNat x.toNat) Tryz.underlying80 Tryz.underlying5 Tryz.underlying9 (fun j hj => by
  have hj2 : j < s.size := by rw [← hlen]; exact hj
  have hadd : (⟨b, 0, none⟩ : Addr).add j = ⟨b, j, none⟩ := by rw [Addr.add_mid, Nat.zero_add]
  rw [hadd, h.cell j hj2]
  have e1 : ((bytesOf s).map f)[j]'(by rw [List.length_map, bytesOf_length]; exact hj2) = f (bt s (j : Int)) := by
   rw [List.getElem_map]
   have := rd_bytesOf s j
   unfold bytesOf
   rw [List.getElem_map, ← bt_at s (j : Int) (by rw [Int.toNat_natCast]; exact hj2)]
   simp only [Int.toNat_natCast]
   rfl
  have hr := hf (bt s (j : Int))
  rw [List.getElem_map, e1]
  unfold rowk
  rw [if_pos hj2]
  have : ((UInt8.ofNat (f (bt s (j : Int))).toNat).toNat : Int) = f (bt s (j : Int)) := by
   rw [UInt8.toNat_ofNat']
   omega
  rw [this])
 rw [hlen] at hx
 exact hx
set_option maxRecDepth 100000 in
set_option maxHeartbeats 4000000 in
theorem permtext_c {w : World} {g : Nat} (hb : Blk w g TTb permCells) (s : ByteArray) (hs : s.size ≤ 100000000) :
  Calls Tryz.prog 118 #[.pointer (some ⟨g, 0, none⟩), .string s] w fun e w' => e = .returned (.string (strOf ((bytesOf s).map permP))) ∧ Below w.heap.size w w' := by
 have hcv := run_bytes_of_string (P := Tryz.prog) w 9 80 5 s Tryz.underlying9 Tryz.underlying80 Tryz.underlying5
 have hrow := conv_row permP w s
 obtain ⟨cap, hcap⟩ : ∃ c, grownCap w s.size 0 5 = c := ⟨_, rfl⟩
 rw [hcap] at hcv hrow
 have hdb : Below w.heap.size w (w.drew.alloc (.cells (bytesRow s cap) 5 ((bytesRow s cap).size, (bytesRow s cap).size + 1))) := below_new (below_drewN' (Below.refl _ _) 1) _
 obtain ⟨W, hW⟩ : ∃ W, w.drew.alloc (.cells (bytesRow s cap) 5 ((bytesRow s cap).size, (bytesRow s cap).size + 1)) = W := ⟨_, rfl⟩
 rw [hW] at hcv hrow hdb
 have hlt := hb.lt
 have hbW := hb.below hdb
 have HROW := Lib.hid hrow
 have HBW := Lib.hid hbW
 have HDB := Lib.hid hdb
 have HLT := Lib.hid hlt
 clear hrow hbW hdb hlt hW hcap hb
 obtain ⟨b, hbe⟩ : ∃ b, w.heap.size = b := ⟨_, rfl⟩
 rw [hbe] at hcv HROW HLT
 have HBE := Lib.hid hbe
 clear hbe
 go_enter Tryz.func118, Tryz.ntmps118
 go_upto_region 2 with fail
 clear hcv
 go_wp2_with fail
 go_loopg [12] s.size (fun kq s12 wx => ∃ k : Nat, s12 = .int .i64 k ∧ Hid (kq = s.size - k ∧ k ≤ s.size ∧ Below w.heap.size w wx ∧ Blk wx g TTb permCells ∧ RowK permP wx b s k))
 case atStart => exact ⟨0, rfl, Lib.hid ⟨rfl, Nat.zero_le _, HDB.out, HBW.out, HROW.out⟩⟩
 case round =>
  clear HROW HBW HDB
  obtain ⟨k, rfl, HK⟩ := hrel
  have hk0 : (0 : Int) ≤ (k : Int) := by omega
  by_cases hk : k < s.size
  ·have hk1 : (k : Int) < (s.size : Int) := by omega
   obtain ⟨r1, r2, r3, r4⟩ := HK.out.2
   have hx := bt_range s (k : Int)
   have c1 := r4.cell k hk
   have fz := r4.free k hk
   rw [show rowk permP s k k = bt s (k : Int) from by unfold rowk; rw [if_neg (Nat.lt_irrefl k)]] at c1
   have c2 := r3.cell (permCells_to (bt s (k : Int)) hx.1 (by omega))
   have HNX : Hid (k + 1 ≤ s.size ∧ Below w.heap.size w (wr.setCell ⟨b, k, none⟩ (.int .u8 (permP (bt s (k : Int))))) ∧ Blk (wr.setCell ⟨b, k, none⟩ (.int .u8 (permP (bt s (k : Int))))) g TTb permCells ∧ RowK permP (wr.setCell ⟨b, k, none⟩ (.int .u8 (permP (bt s (k : Int))))) b s (k + 1)) :=
    Lib.hid ⟨by omega, below_set r2 (Nat.le_of_eq HBE.out), r3.far (by have := HLT.out; show g ≠ b; omega) _, r4.step hk⟩
   obtain ⟨x, hxe⟩ : ∃ x, bt s (k : Int) = x := ⟨_, rfl⟩
   rw [hxe] at hx c1 c2 HNX
   obtain ⟨y, hye⟩ : ∃ y, permP x = y := ⟨_, rfl⟩
   rw [hye] at c2 HNX
   have hx0 := hx.1
   have hx1 : x < 256 := by omega
   clear r1 r2 r3 r4 hx hxe hye
   go_wp2_with fail
   go_roundg (s.size - (k + 1))
   case measure => have := HK.out.1; omega
   case rel => exact ⟨k + 1, by go_num, Lib.hid ⟨rfl, HNX.out⟩⟩
  ·have hk1 : ¬ (k : Int) < (s.size : Int) := by omega
   obtain rfl : k = s.size := by have := HK.out.2.1; omega
   have hbk := back_row permP permP_range HK.out.2.2.2.2 cap
   go_wp2_with fail
   go_ret
   exact ⟨rfl, HK.out.2.2.1⟩
set_option maxRecDepth 100000 in
set_option maxHeartbeats 4000000 in
theorem permback_c {w : World} {g : Nat} (hb : Blk w g TTb permCells) (s : ByteArray) (hs : s.size ≤ 100000000) :
  Calls Tryz.prog 208 #[.pointer (some ⟨g, 0, none⟩), .string s] w fun e w' => e = .returned (.string (strOf ((bytesOf s).map permQ))) ∧ Below w.heap.size w w' := by
 have hcv := run_bytes_of_string (P := Tryz.prog) w 9 80 5 s Tryz.underlying9 Tryz.underlying80 Tryz.underlying5
 have hrow := conv_row permQ w s
 obtain ⟨cap, hcap⟩ : ∃ c, grownCap w s.size 0 5 = c := ⟨_, rfl⟩
 rw [hcap] at hcv hrow
 have hdb : Below w.heap.size w (w.drew.alloc (.cells (bytesRow s cap) 5 ((bytesRow s cap).size, (bytesRow s cap).size + 1))) := below_new (below_drewN' (Below.refl _ _) 1) _
 obtain ⟨W, hW⟩ : ∃ W, w.drew.alloc (.cells (bytesRow s cap) 5 ((bytesRow s cap).size, (bytesRow s cap).size + 1)) = W := ⟨_, rfl⟩
 rw [hW] at hcv hrow hdb
 have hlt := hb.lt
 have hbW := hb.below hdb
 have HROW := Lib.hid hrow
 have HBW := Lib.hid hbW
 have HDB := Lib.hid hdb
 have HLT := Lib.hid hlt
 clear hrow hbW hdb hlt hW hcap hb
 obtain ⟨b, hbe⟩ : ∃ b, w.heap.size = b := ⟨_, rfl⟩
 rw [hbe] at hcv HROW HLT
 have HBE := Lib.hid hbe
 clear hbe
 go_enter Tryz.func208, Tryz.ntmps208
 go_upto_region 2 with fail
 clear hcv
 go_wp2_with fail
 go_loopg [12] s.size (fun kq s12 wx => ∃ k : Nat, s12 = .int .i64 k ∧ Hid (kq = s.size - k ∧ k ≤ s.size ∧ Below w.heap.size w wx ∧ Blk wx g TTb permCells ∧ RowK permQ wx b s k))
 case atStart => exact ⟨0, rfl, Lib.hid ⟨rfl, Nat.zero_le _, HDB.out, HBW.out, HROW.out⟩⟩
 case round =>
  clear HROW HBW HDB
  obtain ⟨k, rfl, HK⟩ := hrel
  have hk0 : (0 : Int) ≤ (k : Int) := by omega
  by_cases hk : k < s.size
  ·have hk1 : (k : Int) < (s.size : Int) := by omega
   obtain ⟨r1, r2, r3, r4⟩ := HK.out.2
   have hx := bt_range s (k : Int)
   have c1 := r4.cell k hk
   have fz := r4.free k hk
   rw [show rowk permQ s k k = bt s (k : Int) from by unfold rowk; rw [if_neg (Nat.lt_irrefl k)]] at c1
   have c2 := r3.cell (permCells_from (bt s (k : Int)) hx.1 (by omega))
   have HNX : Hid (k + 1 ≤ s.size ∧ Below w.heap.size w (wr.setCell ⟨b, k, none⟩ (.int .u8 (permQ (bt s (k : Int))))) ∧ Blk (wr.setCell ⟨b, k, none⟩ (.int .u8 (permQ (bt s (k : Int))))) g TTb permCells ∧ RowK permQ (wr.setCell ⟨b, k, none⟩ (.int .u8 (permQ (bt s (k : Int))))) b s (k + 1)) :=
    Lib.hid ⟨by omega, below_set r2 (Nat.le_of_eq HBE.out), r3.far (by have := HLT.out; show g ≠ b; omega) _, r4.step hk⟩
   obtain ⟨x, hxe⟩ : ∃ x, bt s (k : Int) = x := ⟨_, rfl⟩
   rw [hxe] at hx c1 c2 HNX
   obtain ⟨y, hye⟩ : ∃ y, permQ x = y := ⟨_, rfl⟩
   rw [hye] at c2 HNX
   have hx0 := hx.1
   have hx1 : x < 256 := by omega
   clear r1 r2 r3 r4 hx hxe hye
   go_wp2_with fail
   go_roundg (s.size - (k + 1))
   case measure => have := HK.out.1; omega
   case rel => exact ⟨k + 1, by go_num, Lib.hid ⟨rfl, HNX.out⟩⟩
  ·have hk1 : ¬ (k : Int) < (s.size : Int) := by omega
   obtain rfl : k = s.size := by have := HK.out.2.1; omega
   have hbk := back_row permQ permQ_range HK.out.2.2.2.2 cap
   go_wp2_with fail
   go_ret
   exact ⟨rfl, HK.out.2.2.1⟩
end Go.Proofs.YtppchdinolndmaaGreat
