/- Joined texts: Vw, Vx, Vt, Cq, Cr, Ct, Cv, Cw, Cx, Cz, Dx, Dy, Dxk. -/
import Derived.Test.YtppchdinolndmaaGreatMBase
import Derived.Test.YtppchdinolndmaaGreatMUstp
import Derived.Test.YtppchdinolndmaaGreatMBit
import Derived.Test.YtppchdinolndmaaGreatMTb
import Derived.Laws.CopyRow
import Derived.RegionTactic
import Derived.Deep.CutBlock
import Derived.Laws.BitsAllLaws
namespace Go.Proofs.YtppchdinolndmaaGreat
open Go.RowKit Go.Proofs.YtppchdinolndmaaGreatW.PrintWords
set_option linter.unusedVariables false
set_option linter.unusedSimpArgs false
abbrev TWn : TypeId := 159
def winC (offs used : List Int) : Array Value := (offs.map (Value.int .u32) ++ used.map (Value.int .i64)).toArray
def WinAt (w : World) (t : Nat) (offs used : List Int) : Prop := Blk w t TWn (winC offs used) ∧ offs.length = 8 ∧ used.length = 8
theorem winC_off {offs used : List Int} (h : offs.length = 8) (n : Nat) (hn : n < 8) : (winC offs used)[n]? = some (.int .u32 (offs.getD n 0)) := by
 unfold winC
 rw [List.getElem?_toArray, List.getElem?_append_left (by rw [List.length_map]; omega), List.getElem?_map, List.getD_eq_getElem?_getD, List.getElem?_eq_getElem (by omega)]
 rfl
theorem winC_used {offs used : List Int} (h : offs.length = 8) (h2 : used.length = 8) (n : Nat) (hn : n < 8) : (winC offs used)[8 + n]? = some (.int .i64 (used.getD n 0)) := by
 unfold winC
 rw [List.getElem?_toArray, List.getElem?_append_right (by rw [List.length_map]; omega), List.length_map, h, Nat.add_sub_cancel_left, List.getElem?_map, List.getD_eq_getElem?_getD, List.getElem?_eq_getElem (by omega)]
 rfl
theorem winC_set {offs used : List Int} (h : offs.length = 8) (n : Nat) (hn : n < 8) (x : Int) : (winC offs used).setIfInBounds n (.int .u32 x) = winC (offs.set n x) used := by
 unfold winC
 rw [List.setIfInBounds_toArray, List.set_append_left _ _ (by rw [List.length_map]; omega), List.map_set]
theorem WinAt.off {w : World} {t : Nat} {offs used : List Int} (h : WinAt w t offs used) (n : Nat) (hn : n < 8) : w.cell? ⟨t, n, none⟩ = some (.int .u32 (offs.getD n 0)) := h.1.cell (winC_off h.2.1 n hn)
theorem WinAt.use {w : World} {t : Nat} {offs used : List Int} (h : WinAt w t offs used) (n : Nat) (hn : n < 8) : w.cell? ⟨t, 8 + n, none⟩ = some (.int .i64 (used.getD n 0)) := h.1.cell (winC_used h.2.1 h.2.2 n hn)
theorem WinAt.set {w : World} {t : Nat} {offs used : List Int} (h : WinAt w t offs used) (n : Nat) (hn : n < 8) (x : Int) : WinAt (w.setCell ⟨t, n, none⟩ (.int .u32 x)) t (offs.set n x) used := by
 refine ⟨?_, by rw [List.length_set]; exact h.2.1, h.2.2⟩
 rw [← winC_set h.2.1 n hn]
 exact h.1.set n _
theorem winis_c (n : Int) (h0 : 0 ≤ n) (h1 : n < 8) (w : World) : Calls Tryz.prog 185 #[.int .i64 n] w fun e w' => e = .returned (.bool true) ∧ w' = w := by
 go_enter Tryz.func185, Tryz.ntmps185
 go_wp2_with fail
 go_ret
 exact ⟨rfl, rfl⟩
set_option maxRecDepth 100000 in
theorem winat_c {w : World} {t : Nat} {offs used : List Int} (h : WinAt w t offs used) (n : Nat) (h1 : n < 8) : Calls Tryz.prog 176 #[.pointer (some ⟨t, 0, none⟩), .int .i64 n] w fun e w' => e = .returned (.int .u32 (offs.getD n 0)) ∧ w' = w := by
 have h0 : (0 : Int) ≤ (n : Int) := by omega
 have h2 : (n : Int) < 8 := by omega
 have hc := h.off n h1
 clear h
 go_enter Tryz.func176, Tryz.ntmps176
 go_wp2_with (go_at_call 185; refine (winis_c _ h0 h2 _).mono ?_; rintro e w1 ⟨rfl, rfl⟩)
 go_ret
 exact ⟨rfl, rfl⟩
set_option maxRecDepth 100000 in
theorem winset_c {w : World} {t : Nat} {offs used : List Int} (h : WinAt w t offs used) (n : Nat) (h1 : n < 8) (x : Int) : Calls Tryz.prog 184 #[.pointer (some ⟨t, 0, none⟩), .int .i64 n, .int .u32 x] w fun e w' => e = .returned (.tuple #[]) ∧ w' = w.setCell ⟨t, n, none⟩ (.int .u32 x) := by
 have h0 : (0 : Int) ≤ (n : Int) := by omega
 have h2 : (n : Int) < 8 := by omega
 have hc := h.off n h1
 have hf := h.1.frozen
 clear h
 go_enter Tryz.func184, Tryz.ntmps184
 go_wp2_with (go_at_call 185; refine (winis_c _ h0 h2 _).mono ?_; rintro e w1 ⟨rfl, rfl⟩)
 exact bodyPost_end (v := .tuple #[]) (by simp [results, Tryz.results184, go_sem]) rfl ⟨rfl, rfl⟩
def statics : List Int := [0, 128, 256, 768, 8192, 8320, 8448, 12288]
def specials : List Int := [192, 592, 880, 1328, 12352, 12448, 65376]
def spA : Array Value := (specials.map (Value.int .u32)).toArray
abbrev TSp : TypeId := 247
theorem zi233 : (Tryz.prog.info? TSp).map (fun i => (i.zero, i.size)) = some (some (.agg (Array.replicate 7 (.int .u32 0))), 7) := by kernel_rfl
set_option maxRecDepth 100000 in
theorem special_c (w : World) : Calls Tryz.prog 188 #[] w fun e w' => e = .returned (.agg spA) ∧ Below w.heap.size w w' := by
 have hz := (zero_of_info zi233).1
 have hi := (zero_of_info zi233).2
 go_enter Tryz.func188, Tryz.ntmps188
 go_wp2_with fail
 refine bodyPost_ret (v := .agg spA) ?_ rfl ⟨rfl, below_new (Below.refl _ _) _⟩
 rw [results_cell (p := 0) (ty := TSp) rfl]
 show ((asAddr (.pointer (some ⟨w.heap.size, 0, none⟩))).run Tryz.prog _).andThen _ = _
 have ha : (asAddr (.pointer (some ⟨w.heap.size, 0, none⟩))).run Tryz.prog (w.alloc (.cells spA TSp (0, 0))) = .ok ⟨w.heap.size, 0, none⟩ (w.alloc (.cells spA TSp (0, 0))) := rfl
 exact (congrArg (fun r => Result.andThen r _) ha).trans (run_loadVar_new w _ spA 7 47 Tryz.underlying247 hi)
def offsetF (x : Int) : Option Int :=
 if x = 0 ∨ (167 < x ∧ x < 249) then none else if x ≤ 103 then some (x * 128) else if x ≤ 167 then some (x * 128 + 44032) else some (specials.getD (x - 249).toNat 0)
theorem spA_at (k : Nat) (h : k < 7) : spA[k]? = some (.int .u32 (specials.getD k 0)) := by
 have hl : specials.length = 7 := rfl
 unfold spA
 rw [List.getElem?_toArray, List.getElem?_map, List.getD_eq_getElem?_getD, List.getElem?_eq_getElem (by omega)]
 rfl
theorem index_u32 {P : Program} {t e : TypeId} {n : Nat} (hu : P.underlying t = some (.array n e)) (he : P.underlying e = some (.int .u32)) (hsz : (P.info? e).map (·.size) = some 1) (cs : Array Value) (kk : IntKind) (k : Nat) (b : Value) (hk : k < n) (hc : cs[k]? = some b) (w : World) :
  (Instr.index t (.agg cs) (.int kk k)).run P w = .ok b w := by
 have h0 : (0 : Int) ≤ (k : Int) := by omega
 cases hq : P.info? e with
 | none => rw [hq] at hsz; cases hsz
 | some i =>
  have hs : i.size = 1 := by rw [hq] at hsz; simpa using hsz
  simp [Instr.index, run_underlying hu, run_underlying he, asIntOf, sizeOf, typeInfo, hq, hs, h0, part, isAgg, hc, go_sem]
  intro h
  omega
theorem hs28 : (Tryz.prog.info? 47).map (·.size) = some 1 := by kernel_rfl
set_option maxRecDepth 100000 in
theorem static_c (n : Int) (h0 : 0 ≤ n) (h1 : n < 8) (w : World) : Calls Tryz.prog 186 #[.int .i64 n] w fun e w' => e = .returned (.tuple #[.int .u32 (statics.getD n.toNat 0), .bool true]) ∧ w' = w := by
 obtain ⟨k, rfl⟩ : ∃ k : Nat, n = k := ⟨n.toNat, by omega⟩
 rw [Int.toNat_natCast]
 have hk : k < 8 := by omega
 have hc : (#[.int .u32 0, .int .u32 128, .int .u32 256, .int .u32 768, .int .u32 8192, .int .u32 8320, .int .u32 8448, .int .u32 12288] : Array Value)[k]? = some (.int .u32 (statics.getD k 0)) := by
  have h : k = 0 ∨ k = 1 ∨ k = 2 ∨ k = 3 ∨ k = 4 ∨ k = 5 ∨ k = 6 ∨ k = 7 := by omega
  rcases h with rfl | rfl | rfl | rfl | rfl | rfl | rfl | rfl <;> rfl
 have hix := fun W => index_u32 (P := Tryz.prog) Tryz.underlying156 Tryz.underlying47 hs28 _ .i64 k _ hk hc W
 clear hc
 go_enter Tryz.func186, Tryz.ntmps186
 go_wp2_with fail
 refine bodyPost_ret (results_list (rs := [.tmp 2, .tmp 3]) rfl (by simp) (.tmp (.tmp .nil))) rfl ?_
 exact ⟨rfl, rfl⟩
set_option maxRecDepth 100000 in
set_option maxHeartbeats 4000000 in
theorem offset_c (x : Int) (h0 : 0 ≤ x) (h1 : x < 256) (w : World) : Calls Tryz.prog 187 #[.int .u8 x] w fun e w' => e = .returned (.tuple #[.int .u32 ((offsetF x).getD 0), .bool (offsetF x).isSome]) ∧ Below w.heap.size w w' := by
 unfold offsetF
 by_cases a : x = 0
 ·subst a
  rw [if_pos (.inl rfl)]
  go_enter Tryz.func187, Tryz.ntmps187
  go_wp2_with fail
  refine bodyPost_ret (results_list (rs := [.tmp 2, .tmp 3]) rfl (by simp) (.tmp (.tmp .nil))) rfl ?_
  exact ⟨rfl, Below.refl _ _⟩
 have a1 : (x == 0) = false := by simpa using a
 by_cases b : x ≤ 103
 ·rw [if_neg (by omega), if_pos b]
  have b1 : ¬ 167 < x := by omega
  have b2 : x * 128 < 4294967296 := by omega
  have b3 : 0 ≤ x * 128 := by omega
  go_enter Tryz.func187, Tryz.ntmps187
  go_wp2_with fail
  refine bodyPost_ret (results_list (rs := [.tmp 2, .tmp 3]) rfl (by simp) (.tmp (.tmp .nil))) rfl ?_
  exact ⟨rfl, Below.refl _ _⟩
 by_cases c : x ≤ 167
 ·rw [if_neg (by omega), if_neg b, if_pos c]
  have b1 : ¬ 167 < x := by omega
  have b2 : x * 128 + 44032 < 4294967296 := by omega
  have b3 : 0 ≤ x * 128 := by omega
  go_enter Tryz.func187, Tryz.ntmps187
  go_wp2_with fail
  refine bodyPost_ret (results_list (rs := [.tmp 2, .tmp 3]) rfl (by simp) (.tmp (.tmp .nil))) rfl ?_
  exact ⟨rfl, Below.refl _ _⟩
 have c1 : 167 < x := by omega
 by_cases d : x < 249
 ·rw [if_pos (.inr ⟨c1, d⟩)]
  go_enter Tryz.func187, Tryz.ntmps187
  go_wp2_with fail
  refine bodyPost_ret (results_list (rs := [.tmp 2, .tmp 3]) rfl (by simp) (.tmp (.tmp .nil))) rfl ?_
  exact ⟨rfl, Below.refl _ _⟩
 rw [if_neg (by omega), if_neg b, if_neg c]
 obtain ⟨k, hk⟩ : ∃ k : Nat, x - 249 = k := ⟨(x - 249).toNat, by omega⟩
 have hix := fun W => index_u32 (P := Tryz.prog) Tryz.underlying247 Tryz.underlying47 hs28 spA .u32 k _ (by omega) (spA_at k (by omega)) W
 rw [hk, Int.toNat_natCast]
 have hx : x = (k : Int) + 249 := by omega
 have hk7 : (k : Int) < 7 := by omega
 subst hx
 clear hk a a1 h0
 go_enter Tryz.func187, Tryz.ntmps187
 go_wp2_with (go_at_call 188; refine (special_c _).mono ?_; rintro e w1 ⟨rfl, hb1⟩; have HB := Lib.hid hb1; clear hb1)
 refine bodyPost_ret (results_list (rs := [.tmp 2, .tmp 3]) rfl (by simp) (.tmp (.tmp .nil))) rfl ?_
 exact ⟨rfl, HB.out⟩
theorem vw_and31 {x : Int} (h0 : 0 ≤ x) (h1 : x < 256) : bits .and .u8 x 31 = x % 32 := bits_mask .u8 8 (by decide) wraps_u8 5 (by decide) x h0 h1
theorem vw_or {x y : Int} (hx0 : 0 ≤ x) (hx : x ≤ 31) (hy0 : 0 ≤ y) (hy : y ≤ 255) : bits .or .u32 (x * 256) y = x * 256 + y := bits_join .u32 32 (by decide) wraps_u32 8 (x * 256) y (by omega) (by omega) (by omega) hy0 (by omega) (by omega)
set_option maxRecDepth 100000 in
theorem extended_c (h l : Int) (h0 : 0 ≤ h) (h1 : h ≤ 255) (l0 : 0 ≤ l) (l1 : l ≤ 255) (w : World) : Calls Tryz.prog 238 #[.int .u8 h, .int .u8 l] w fun e w' => e = .returned (.tuple #[.int .i64 (h / 32), .int .u32 (65536 + 128 * (h % 32 * 256 + l))]) ∧ w' = w := by
 have e1 : bits .and .u8 h 31 = h % 32 := vw_and31 h0 (by omega)
 have e2 : bits .or .u32 (h % 32 * 256) l = h % 32 * 256 + l := vw_or (by omega) (by omega) l0 l1
 have e3 : 128 * (h % 32 * 256 + l) < 4294967296 := by omega
 have e4 : 65536 + 128 * (h % 32 * 256 + l) < 4294967296 := by omega
 have e5 : 0 ≤ h % 32 * 256 + l := by omega
 go_enter Tryz.func238, Tryz.ntmps238
 go_wp2_with fail
 refine bodyPost_ret (results_list (rs := [.tmp 4, .tmp 5]) rfl (by simp) (.tmp (.tmp .nil))) rfl ?_
 exact ⟨rfl, rfl⟩
def holdsF (o c : Int) : Bool := decide (o ≤ c ∧ c - o < 128)
theorem holds_c (o c : Int) (ho : 0 ≤ o) (hc : 0 ≤ c) (hc1 : c < 4294967296) (w : World) : Calls Tryz.prog 175 #[.int .u32 o, .int .u32 c] w fun e w' => e = .returned (.bool (holdsF o c)) ∧ w' = w := by
 by_cases h : o ≤ c
 ·have h2 : 0 ≤ c - o := by omega
  have h3 : c - o < 4294967296 := by omega
  have hge : c ≥ o := h
  have hR : Hid (holdsF o c = decide (c - o < 128)) := Lib.hid (by unfold holdsF; simp [h])
  have v1 : IntKind.u32.wrap (c - o) = c - o := wraps_u32 _ h2 h3
  go_enter Tryz.func175, Tryz.ntmps175
  go_wp2_with fail
  go_ret
  rw [hR.out]
  exact ⟨rfl, rfl⟩
 ·have hge : ¬ c ≥ o := h
  have hR : Hid (holdsF o c = false) := Lib.hid (by unfold holdsF; simp [h])
  go_enter Tryz.func175, Tryz.ntmps175
  go_wp2_with fail
  go_ret
  rw [hR.out]
  exact ⟨rfl, rfl⟩
def findN (offs : List Int) (c : Int) : Nat → Option Nat
 | 0 => none
 | k + 1 => if holdsF (offs.getD (7 - k) 0) c = true then some (7 - k) else findN offs c k
def findF (offs : List Int) (c : Int) : Option Nat := findN offs c 8
theorem findN_lt (offs : List Int) (c : Int) : ∀ k n, findN offs c k = some n → n < 8 ∧ holdsF (offs.getD n 0) c = true
 | 0, _, h => by cases h
 | k + 1, n, h => by
  unfold findN at h
  split at h
  ·injection h with h; rename_i hh; rw [← h]; exact ⟨by omega, hh⟩
  ·exact findN_lt offs c k n h
set_option maxRecDepth 100000 in
set_option maxHeartbeats 4000000 in
theorem find_c {w : World} {t : Nat} {offs used : List Int} (h : WinAt w t offs used) (hr : ∀ x ∈ offs, 0 ≤ x) (c : Int) (hc : 0 ≤ c) (hc1 : c < 4294967296) :
  Calls Tryz.prog 169 #[.pointer (some ⟨t, 0, none⟩), .int .u32 c] w fun e w' => e = .returned (.tuple #[.int .i64 ((findF offs c).getD 0 : Nat), .bool (findF offs c).isSome]) ∧ w' = w := by
 have hl := h.2.1
 have hrg : w.rangeAt t 0 (offs.map (Value.int .u32)) := fun j v hv => by
  rw [Nat.zero_add]
  refine h.1.cell ?_
  unfold winC
  rw [List.getElem?_toArray, List.getElem?_append_left (List.getElem?_eq_some_iff.1 hv).1]
  exact hv
 have hi8 : (Tryz.prog.info? 156).map (·.size) = some (offs.map (Value.int .u32)).length := by rw [List.length_map, hl]; kernel_rfl
 have hix : ∀ k : Nat, k < 8 → ∀ W, (Instr.index 156 (.agg (offs.map (Value.int .u32)).toArray) (.int .i64 k)).run Tryz.prog W = .ok (.int .u32 (offs.getD k 0)) W := fun k hk W =>
  index_u32 (P := Tryz.prog) Tryz.underlying156 Tryz.underlying47 hs28 _ .i64 k _ hk (by rw [List.getElem?_toArray, List.getElem?_map, List.getD_eq_getElem?_getD, List.getElem?_eq_getElem (by omega)]; rfl) W
 have hnn : ∀ k : Nat, 0 ≤ offs.getD k 0 := fun k => by
  rw [List.getD_eq_getElem?_getD]
  cases e : offs[k]? with
  | none => exact Int.le_refl 0
  | some x => exact hr x (List.mem_of_getElem? e)
 have HIX := Lib.hid hix
 have HNN := Lib.hid hnn
 obtain ⟨L, hL⟩ : ∃ L, (offs.map (Value.int .u32)).toArray = L := ⟨_, rfl⟩
 rw [hL] at HIX
 have HL := Lib.hid hL
 clear hix hnn h hl hr hL
 go_enter Tryz.func169, Tryz.ntmps169
 go_wp2_with (((with_reducible refine gate_dst (N := 11) rfl ?_); refine wpList_load_mid rfl 156 _ rfl t 0 rfl (offs.map (Value.int .u32)) _ hrg Tryz.underlying156 rfl hi8 ?_))
 clear hrg hi8
 rw [HL.out]
 go_loopg [12] 8 (fun kq s12 wx => ∃ k : Nat, s12 = .int .i64 k ∧ Hid (kq = 8 - k ∧ k ≤ 8 ∧ findF offs c = findN offs c (8 - k)) ∧ wx = w)
 case atStart => exact ⟨0, rfl, Lib.hid ⟨rfl, Nat.zero_le _, rfl⟩, rfl⟩
 case round =>
  obtain ⟨k, rfl, HK, hww⟩ := hrel
  obtain rfl := hww.symm
  clear hww
  have hk0 : (0 : Int) ≤ (k : Int) := by omega
  by_cases hk : k < 8
  ·have hk1 : (k : Int) < 8 := by omega
   have hixk := HIX.out k hk
   have hhc := holds_c (offs.getD k 0) c (HNN.out k) hc hc1
   have hfn : findN offs c (8 - k) = if holdsF (offs.getD k 0) c = true then some k else findN offs c (8 - (k + 1)) := by
    obtain ⟨m, hm⟩ : ∃ m, 8 - k = m + 1 := ⟨7 - k, by omega⟩
    rw [hm, findN, show 7 - m = k by omega, show 8 - (k + 1) = m by omega]
   have HFN := Lib.hid hfn
   have HHC := Lib.hid hhc
   clear hfn hhc
   cases hv : holdsF (offs.getD k 0) c with
   | true =>
    rw [hv] at HHC
    have hR : Hid (findF offs c = some k) := Lib.hid (by rw [HK.out.2.2, HFN.out, if_pos hv])
    clear hv
    go_wp2_with (go_at_call 175; refine (HHC.out _).mono ?_; rintro e w1 ⟨rfl, hw1⟩; obtain rfl := hw1.symm; clear hw1)
    refine bodyPost_ret (results_list (rs := [.tmp 4, .tmp 5]) rfl (by simp) (.tmp (.tmp .nil))) rfl ?_
    rw [hR.out]
    exact ⟨rfl, rfl⟩
   | false =>
    rw [hv] at HHC
    have hR : Hid (findF offs c = findN offs c (8 - (k + 1))) := Lib.hid (by rw [HK.out.2.2, HFN.out, if_neg (by rw [hv]; decide)])
    clear hv
    go_wp2_with (go_at_call 175; refine (HHC.out _).mono ?_; rintro e w1 ⟨rfl, hw1⟩; obtain rfl := hw1.symm; clear hw1)
    go_roundg (8 - (k + 1))
    case measure => have := HK.out.1; omega
    case rel => exact ⟨k + 1, by go_num, Lib.hid ⟨rfl, by omega, hR.out⟩, rfl⟩
  ·have hk1 : ¬ (k : Int) < 8 := by omega
   have hR : Hid (findF offs c = none) := Lib.hid (by rw [HK.out.2.2, show 8 - k = 0 by omega]; rfl)
   go_wp2_with fail
   refine bodyPost_ret (results_list (rs := [.tmp 4, .tmp 5]) rfl (by simp) (.tmp (.tmp .nil))) rfl ?_
   rw [hR.out]
   exact ⟨rfl, rfl⟩
set_option maxRecDepth 100000 in
theorem oldest_c {w : World} {t : Nat} {offs used : List Int} (h : WinAt w t offs used) : Calls Tryz.prog 181 #[.pointer (some ⟨t, 0, none⟩)] w fun e w' => e = .returned (.int .i64 (used.getD 0 0)) ∧ w' = w := by
 have hc := h.use 0 (by decide)
 clear h
 go_enter Tryz.func181, Tryz.ntmps181
 go_wp2_with fail
 go_ret
 exact ⟨rfl, rfl⟩
def specN (c : Int) : Nat → Option Nat
 | 0 => none
 | k + 1 => if holdsF (specials.getD (6 - k) 0) c = true then some (6 - k) else specN c k
def indexF (c : Int) : Option Int :=
 match specN c 7 with
 | some i => some (249 + i)
 | none => if 128 ≤ c ∧ c < 13312 then some (c / 128) else if 57344 ≤ c ∧ c < 65536 then some ((c - 44032) / 128) else none
theorem specials_nn (k : Nat) : 0 ≤ specials.getD k 0 := by
 have h : ∀ x ∈ specials, 0 ≤ x := by decide
 rw [List.getD_eq_getElem?_getD]
 cases e : specials[k]? with
 | none => exact Int.le_refl 0
 | some x => exact h x (List.mem_of_getElem? e)
set_option maxRecDepth 100000 in
set_option maxHeartbeats 4000000 in
theorem index_c (c : Int) (hc : 0 ≤ c) (hc1 : c ≤ 1114111) (w : World) :
  Calls Tryz.prog 183 #[.int .u32 c] w fun e w' => e = .returned (.tuple #[.int .u8 ((indexF c).getD 0), .bool (indexF c).isSome]) ∧ Below w.heap.size w w' := by
 have hix : ∀ k : Nat, k < 7 → ∀ W, (Instr.index TSp (.agg spA) (.int .i64 k)).run Tryz.prog W = .ok (.int .u32 (specials.getD k 0)) W := fun k hk W =>
  index_u32 (P := Tryz.prog) Tryz.underlying247 Tryz.underlying47 hs28 _ .i64 k _ hk (spA_at k hk) W
 have HIX := Lib.hid hix
 have hc2 : c < 4294967296 := by omega
 clear hix
 go_enter Tryz.func183, Tryz.ntmps183
 go_wp2_with (go_at_call 188; refine (special_c _).mono ?_; rintro e w1 ⟨rfl, hb1⟩; have HB := Lib.hid hb1; clear hb1)
 obtain ⟨L, hL⟩ : ∃ L, spA = L := ⟨_, rfl⟩
 rw [hL] at HIX ⊢
 clear hL
 go_loopg [7] 7 (fun kq s7 wx => ∃ k : Nat, s7 = .int .i64 k ∧ Hid (kq = 7 - k ∧ k ≤ 7 ∧ specN c 7 = specN c (7 - k)) ∧ wx = w1)
 case atStart => exact ⟨0, rfl, Lib.hid ⟨rfl, Nat.zero_le _, rfl⟩, rfl⟩
 case round =>
  obtain ⟨k, rfl, HK, hww⟩ := hrel
  obtain rfl := hww.symm
  clear hww
  have hk0 : (0 : Int) ≤ (k : Int) := by omega
  by_cases hk : k < 7
  ·have hk1 : (k : Int) < 7 := by omega
   have hixk := HIX.out k hk
   have hhc := holds_c (specials.getD k 0) c (specials_nn k) hc hc2
   have hfn : specN c (7 - k) = if holdsF (specials.getD k 0) c = true then some k else specN c (7 - (k + 1)) := by
    obtain ⟨m, hm⟩ : ∃ m, 7 - k = m + 1 := ⟨6 - k, by omega⟩
    rw [hm, specN, show 6 - m = k by omega, show 7 - (k + 1) = m by omega]
   have HFN := Lib.hid hfn
   have HHC := Lib.hid hhc
   clear hfn hhc
   have hkm : (249 + (k : Int)) % 256 = 249 + (k : Int) := by omega
   cases hv : holdsF (specials.getD k 0) c with
   | true =>
    rw [hv] at HHC
    have hR : Hid (indexF c = some (249 + (k : Int))) := Lib.hid (by unfold indexF; rw [HK.out.2.2, HFN.out, if_pos hv])
    clear hv
    go_wp2_with (go_at_call 175; refine (HHC.out _).mono ?_; rintro e w2 ⟨rfl, hw2⟩; obtain rfl := hw2.symm; clear hw2)
    refine bodyPost_ret (results_list (rs := [.tmp 2, .tmp 3]) rfl (by simp) (.tmp (.tmp .nil))) rfl ?_
    rw [hR.out]
    exact ⟨rfl, HB.out⟩
   | false =>
    rw [hv] at HHC
    have hR : Hid (specN c 7 = specN c (7 - (k + 1))) := Lib.hid (by rw [HK.out.2.2, HFN.out, if_neg (by rw [hv]; decide)])
    clear hv
    go_wp2_with (go_at_call 175; refine (HHC.out _).mono ?_; rintro e w2 ⟨rfl, hw2⟩; obtain rfl := hw2.symm; clear hw2)
    go_roundg (7 - (k + 1))
    case measure => have := HK.out.1; omega
    case rel => exact ⟨k + 1, by go_num, Lib.hid ⟨rfl, by omega, hR.out⟩, rfl⟩
  ·have hk1 : ¬ (k : Int) < 7 := by omega
   have hs0 : specN c 7 = none := by rw [HK.out.2.2, show 7 - k = 0 by omega]; rfl
   clear HK hk
   by_cases a : 128 ≤ c ∧ c < 13312
   ·have a1 : c ≥ 128 := a.1
    have a2 := a.2
    have a3 : c / 128 % 256 = c / 128 := by omega
    have hR : Hid (indexF c = some (c / 128)) := Lib.hid (by unfold indexF; rw [hs0]; show (if _ then _ else _) = _; rw [if_pos a])
    clear a hs0
    go_wp2_with fail
    refine bodyPost_ret (results_list (rs := [.tmp 2, .tmp 3]) rfl (by simp) (.tmp (.tmp .nil))) rfl ?_
    rw [hR.out]
    exact ⟨rfl, HB.out⟩
   by_cases b : 57344 ≤ c ∧ c < 65536
   ·have b1 : c ≥ 57344 := b.1
    have b2 := b.2
    have b3 : (c - 44032) / 128 % 256 = (c - 44032) / 128 := by omega
    have b4 : c ≥ 128 := by omega
    have b5 : ¬ c < 13312 := by omega
    have b6 : 0 ≤ c - 44032 := by omega
    have v1 : IntKind.u32.wrap (c - 44032) = c - 44032 := wraps_u32 _ b6 (by omega)
    have hR : Hid (indexF c = some ((c - 44032) / 128)) := Lib.hid (by unfold indexF; rw [hs0]; show (if _ then _ else _) = _; rw [if_neg a, if_pos b])
    clear a b hs0
    go_wp2_with fail
    refine bodyPost_ret (results_list (rs := [.tmp 2, .tmp 3]) rfl (by simp) (.tmp (.tmp .nil))) rfl ?_
    rw [hR.out]
    exact ⟨rfl, HB.out⟩
   have hR : Hid (indexF c = none) := Lib.hid (by unfold indexF; rw [hs0]; show (if _ then _ else _) = _; rw [if_neg a, if_neg b])
   have hcase : (¬ c ≥ 128) ∨ (c ≥ 128 ∧ ¬ c < 13312 ∧ ¬ c ≥ 57344) ∨ (c ≥ 128 ∧ ¬ c < 13312 ∧ c ≥ 57344 ∧ ¬ c < 65536) := by omega
   clear a b hs0
   rcases hcase with h1 | ⟨h1, h2, h3⟩ | ⟨h1, h2, h3, h4⟩
   ·have h5 : ¬ c ≥ 57344 := by omega
    go_wp2_with fail
    refine bodyPost_ret (results_list (rs := [.tmp 2, .tmp 3]) rfl (by simp) (.tmp (.tmp .nil))) rfl ?_
    rw [hR.out]
    exact ⟨rfl, HB.out⟩
   all_goals
    go_wp2_with fail
    refine bodyPost_ret (results_list (rs := [.tmp 2, .tmp 3]) rfl (by simp) (.tmp (.tmp .nil))) rfl ?_
    rw [hR.out]
    exact ⟨rfl, HB.out⟩
set_option maxRecDepth 100000 in
theorem pair_no (n c : Int) (h0 : 0 ≤ n) (h1 : n < 8) (hc : c < 65536) (w : World) : Calls Tryz.prog 182 #[.int .i64 n, .int .u32 c] w fun e w' => e = .returned (.tuple #[.int .u8 0, .int .u8 0, .bool false]) ∧ w' = w := by
 have a1 : ¬ n < 0 := by omega
 have a2 : ¬ n ≥ 8 := by omega
 go_enter Tryz.func182, Tryz.ntmps182
 go_wp2_with fail
 refine bodyPost_ret (results_list (rs := [.tmp 4, .tmp 5, .tmp 6]) rfl (by simp) (.tmp (.tmp (.tmp .nil)))) rfl ?_
 exact ⟨rfl, rfl⟩
set_option maxRecDepth 100000 in
theorem pair_yes (n c : Int) (h0 : 0 ≤ n) (h1 : n < 8) (hc : 65536 ≤ c) (hc1 : c ≤ 1114111) (w : World) : Calls Tryz.prog 182 #[.int .i64 n, .int .u32 c] w fun e w' => e = .returned (.tuple #[.int .u8 (n * 32 + (c - 65536) / 128 / 256), .int .u8 ((c - 65536) / 128 % 256), .bool true]) ∧ w' = w := by
 have a1 : ¬ n < 0 := by omega
 have a2 : ¬ n ≥ 8 := by omega
 have a3 : ¬ c < 65536 := by omega
 have a4 : ¬ c > 1114111 := by omega
 have v1 : IntKind.u32.wrap (c - 65536) = c - 65536 := wraps_u32 _ (by omega) (by omega)
 have b1 : n * 32 % 256 = n * 32 := by omega
 have b2 : (c - 65536) / 128 / 256 % 256 = (c - 65536) / 128 / 256 := by omega
 have b0 : 0 ≤ c - 65536 := by omega
 have b3 : bits .or .u8 (n * 32) ((c - 65536) / 128 / 256) = n * 32 + (c - 65536) / 128 / 256 := bits_join .u8 8 (by decide) wraps_u8 5 (n * 32) _ (by omega) (by omega) (by omega) (by omega) (by omega) (by omega)
 go_enter Tryz.func182, Tryz.ntmps182
 go_wp2_with fail
 refine bodyPost_ret (results_list (rs := [.tmp 4, .tmp 5, .tmp 6]) rfl (by simp) (.tmp (.tmp (.tmp .nil)))) rfl ?_
 exact ⟨rfl, rfl⟩
def firstAt : List Int → Int → Nat
 | [], _ => 0
 | x :: r, n => if x = n then 0 else firstAt r n + 1
theorem firstAt_is : ∀ (l : List Int) (n : Int), n ∈ l → firstAt l n < l.length ∧ l.getD (firstAt l n) 0 = n
 | [], n, h => by cases h
 | x :: r, n, h => by
  unfold firstAt
  by_cases e : x = n
  ·rw [if_pos e]; exact ⟨Nat.succ_pos _, e⟩
  ·rw [if_neg e]
   have h2 : n ∈ r := by
    rcases List.mem_cons.1 h with h | h
    ·exact absurd h.symm e
    ·exact h
   have := firstAt_is r n h2
   exact ⟨Nat.succ_lt_succ this.1, this.2⟩
theorem firstAt_not : ∀ (l : List Int) (n : Int) (j : Nat), j < firstAt l n → l.getD j 0 ≠ n
 | [], n, j, h => absurd h (Nat.not_lt_zero _)
 | x :: r, n, j, h => by
  unfold firstAt at h
  by_cases e : x = n
  ·rw [if_pos e] at h; exact absurd h (Nat.not_lt_zero _)
  ·rw [if_neg e] at h
   cases j with
   | zero => exact e
   | succ j => exact firstAt_not r n j (Nat.lt_of_succ_lt_succ h)
def touchF (used : List Int) (n : Int) : List Int := used.take (firstAt used n) ++ used.drop (firstAt used n + 1) ++ [n]
theorem touchF_length {used : List Int} {n : Int} (h : used.length = 8) (hm : n ∈ used) : (touchF used n).length = 8 := by
 have := (firstAt_is used n hm).1
 unfold touchF
 rw [List.length_append, List.length_append, List.length_take, List.length_drop]
 simp
 omega
theorem winC_row {offs used : List Int} (h : offs.length = 8) (h2 : used.length = 8) (a : Nat) (ha : a < 8) :
  ((winC offs used).toList.take (8 + a) ++ (used.drop (a + 1)).map (Value.int .i64) ++ (winC offs used).toList.drop (8 + a + ((used.drop (a + 1)).map (Value.int .i64)).length)).toArray = winC offs (used.take a ++ used.drop (a + 1) ++ used.drop 7) := by
 unfold winC
 have e1 : (List.map (Value.int .u32) offs).length = 8 := by rw [List.length_map]; exact h
 have e2 : 8 + a + ((used.drop (a + 1)).map (Value.int .i64)).length = 8 + 7 := by rw [List.length_map, List.length_drop]; omega
 rw [e2]
 simp only [List.toList_toArray]
 rw [← e1, List.take_length_add_append, List.drop_length_add_append]
 simp only [List.map_append, List.map_take, List.map_drop, List.append_assoc]
theorem winC_last {offs used : List Int} (h : offs.length = 8) (h2 : used.length = 8) (l : List Int) (hl : l.length = 7) (x y : Int) (hu : used = l ++ [x]) : (winC offs used).setIfInBounds 15 (.int .i64 y) = winC offs (l ++ [y]) := by
 subst hu
 unfold winC
 rw [List.setIfInBounds_toArray, List.set_append_right _ _ (by rw [List.length_map]; omega), List.length_map, h, List.map_append, List.set_append_right _ _ (by rw [List.length_map]; omega), List.length_map, hl]
 simp
set_option maxRecDepth 100000 in
set_option maxHeartbeats 8000000 in
theorem touch_c {w : World} {t : Nat} {offs used : List Int} (h : WinAt w t offs used) (n : Int) (h0 : 0 ≤ n) (h1 : n < 8) (hm : n ∈ used) :
  Calls Tryz.prog 178 #[.pointer (some ⟨t, 0, none⟩), .int .i64 n] w fun e w' => e = .returned (.tuple #[]) ∧ WinAt w' t offs (touchF used n) ∧ Eff w w' (fun k => k = t) := by
 obtain ⟨ha, hv⟩ := firstAt_is used n hm
 have hnot := firstAt_not used n
 have htl := touchF_length h.2.2 hm
 have htf : touchF used n = used.take (firstAt used n) ++ used.drop (firstAt used n + 1) ++ [n] := rfl
 obtain ⟨a, hae⟩ : ∃ a, firstAt used n = a := ⟨_, rfl⟩
 rw [hae] at ha hv hnot htf
 rw [h.2.2] at ha
 have HW := Lib.hid h
 have HNOT := Lib.hid hnot
 have HV := Lib.hid hv
 have HTF := Lib.hid htf
 have HTL := Lib.hid htl
 clear hnot hv htf htl h hae hm
 go_enter Tryz.func178, Tryz.ntmps178
 go_wp2_with (go_at_call 185; refine (winis_c _ h0 h1 _).mono ?_; rintro e w1 ⟨rfl, hw1⟩; obtain rfl := hw1.symm; clear hw1)
 go_loopg [4] a (fun kq s4 wx => ∃ j : Nat, s4 = .int .i64 j ∧ Hid (kq = a - j ∧ j ≤ a) ∧ wx = w)
 case atStart => exact ⟨0, rfl, Lib.hid ⟨rfl, Nat.zero_le _⟩, rfl⟩
 case round =>
  obtain ⟨j, rfl, HJ, hww⟩ := hrel
  obtain rfl := hww.symm
  clear hww
  have hj0 : (0 : Int) ≤ (j : Int) := by omega
  have hj8 : (j : Int) < 8 := by have := HJ.out.2; omega
  have hc := HW.out.use j (by omega)
  by_cases hj : j < a
  ·have hnx := HNOT.out j hj
   obtain ⟨x, hx⟩ : ∃ x, used.getD j 0 = x := ⟨_, rfl⟩
   rw [hx] at hc hnx
   have hne : (x != n) = true := by simpa using hnx
   clear hx
   go_wp2_with fail
   go_roundg (a - (j + 1))
   case measure => have := HJ.out.1; omega
   case rel => exact ⟨j + 1, by go_num, Lib.hid ⟨rfl, by omega⟩, rfl⟩
  ·obtain rfl : j = a := by have := HJ.out.2; omega
   rw [HV.out] at hc
   have hne : (n != n) = false := by simp
   clear hj
   have hl := HW.out.2.1
   have hl2 := HW.out.2.2
   have hs3 : (Tryz.prog.info? 3).map (·.size) = some 1 := by kernel_rfl
   have hrow := winC_row hl hl2 j (by omega)
   have hcslen : ((used.drop (j + 1)).map (Value.int .i64)).length = Nat.min (7 - j) (8 - j) := by
    rw [List.length_map, List.length_drop, hl2]
    have : 7 - j ≤ 8 - j := by omega
    show _ = min (7 - j) (8 - j)
    omega
   have hz1 : ∀ W, (sizeOf (Tryz.prog.elem 157)).run Tryz.prog W = .ok 1 W := fun W => by
    have : Tryz.prog.elem 157 = 3 := by kernel_rfl
    rw [this]
    cases hq : Tryz.prog.info? 3 with
    | none => rw [hq] at hs3; cases hs3
    | some i =>
     have : i.size = 1 := by rw [hq] at hs3; simpa using hs3
     simp [sizeOf, typeInfo, hq, this]
   have hal : Tryz.prog.arrayLen 157 = 8 := by kernel_rfl
   have hut : Tryz.prog.underlying 157 = some (.array (Tryz.prog.arrayLen 157) (Tryz.prog.elem 157)) := by kernel_rfl
   have hs1 : ∀ W, (Instr.sliceAt 157 (.pointer (some ⟨t, 8, none⟩)) (some (.int .i64 j)) none none).run Tryz.prog W = .ok (.slice (some ⟨t, 8 + j, none⟩) (8 - j) (8 - j)) W := fun W => by
    rw [run_sliceAt_array_l W _ _ hut .i64 (j : Int) hj0 (by rw [hal]; omega), hz1]
    simp only [Result.andThen_ok, slicedAt, hal, Int.toNat_natCast]
    rw [if_neg (by omega), Nat.mul_one, Addr.add_mid]
   obtain ⟨A2, hA2⟩ : ∃ A2 : Addr, (if 8 = j + 1 then (⟨t, 8, none⟩ : Addr) else ⟨t, 8 + (j + 1), none⟩) = A2 := ⟨_, rfl⟩
   have hs2 : ∀ W, (Instr.sliceAt 157 (.pointer (some ⟨t, 8, none⟩)) (some (.int .i64 ((j : Int) + 1))) none none).run Tryz.prog W = .ok (.slice (some A2) (7 - j) (7 - j)) W := fun W => by
    rw [run_sliceAt_array_l W _ _ hut .i64 ((j : Int) + 1) (by omega) (by rw [hal]; omega), hz1]
    simp only [Result.andThen_ok, slicedAt, hal]
    rw [show ((j : Int) + 1).toNat = j + 1 by omega, Nat.mul_one, Addr.add_mid, hA2, show 8 - (j + 1) = 7 - j by omega]
   have hsrc : ∀ (W : World), WinAt W t offs used → ∀ (i : Nat) v, ((used.drop (j + 1)).map (Value.int .i64))[i]? = some v → W.cell? (A2.add i) = some v := fun W hW i v hv => by
    rw [List.getElem?_map, List.getElem?_drop] at hv
    have hi : j + 1 + i < 8 := by
     cases e : used[j + 1 + i]? with
     | none => rw [e] at hv; cases hv
     | some x => have := (List.getElem?_eq_some_iff.1 e).1; omega
    rw [← hA2, if_neg (by omega), Addr.add_mid]
    have := hW.use (j + 1 + i) hi
    rw [List.getD_eq_getElem?_getD] at this
    cases e : used[j + 1 + i]? with
    | none => rw [e] at hv; cases hv
    | some x =>
     rw [e] at hv this
     rw [show 8 + (j + 1) + i = 8 + (j + 1 + i) by omega]
     rw [this]
     exact hv
   have hcopy := fun (W : World) (hW : WinAt W t offs used) => run_copy_row (P := Tryz.prog) W 168 168 3 3 t (8 + j) (8 - j) (8 - j) A2 (7 - j) (7 - j) (winC offs used) TWn ((used.drop (j + 1)).map (Value.int .i64)) Tryz.underlying168 hs3 hW.1 hcslen (hsrc W hW) (by
     have : (winC offs used).size = 16 := by unfold winC; simp; omega
     rw [this, List.length_map, List.length_drop]; omega) (fun v hv => by obtain ⟨x, _, rfl⟩ := List.mem_map.1 hv; rfl)
   rw [hrow] at hcopy
   have hset : ∀ (W : World), WinAt W t offs used → Blk (W.setRow t (winC offs (used.take j ++ used.drop (j + 1) ++ used.drop 7))) t TWn (winC offs (used.take j ++ used.drop (j + 1) ++ used.drop 7)) := fun W hW => setRow_heap W t _ _ TWn (0, 0) hW.1
   have heff : ∀ (W : World), WinAt W t offs used → Eff W (W.setRow t (winC offs (used.take j ++ used.drop (j + 1) ++ used.drop 7))) (fun k => k = t) := fun W hW => by
    refine ⟨rfl, rfl, rfl, by simp [World.setRow], fun k hk hne => ?_⟩
    have hne' : ¬ t = k := fun e => hne e.symm
    simp [World.setRow, Array.getElem?_modify, hne']
   have HCOPY := Lib.hid hcopy
   have HSET := Lib.hid hset
   have HEFF := Lib.hid heff
   clear hcopy hsrc hrow hcslen hset heff hz1 hal hut hA2 hs3
   go_upto_region 4 with fail
   have hcp1 := HCOPY.out w HW.out
   have hcp2 := HCOPY.out w.drew ⟨HW.out.1.drewN 1, HW.out.2⟩
   go_region
   have hwd : WinAt w.drew t offs used := ⟨HW.out.1.drewN 1, HW.out.2⟩
   have hb1 := HSET.out w.drew hwd
   have he1 := (Eff.drewN w 1 (fun k => k = t)).trans (HEFF.out w.drew hwd) (fun _ _ h => h)
   rw [List.append_assoc] at hb1 he1
   obtain ⟨W1, hW1⟩ : ∃ W1, w.drew.setRow t (winC offs (used.take j ++ (used.drop (j + 1) ++ used.drop 7))) = W1 := ⟨_, rfl⟩
   have he1' : Eff w W1 (fun k => k = t) := by rw [← hW1]; exact he1
   rw [hW1] at hb1 ⊢
   have hlen : (used.take j ++ used.drop (j + 1)).length = 7 := by rw [List.length_append, List.length_take, List.length_drop]; omega
   obtain ⟨x7, hx7⟩ : ∃ x, used.drop 7 = [x] := by
    have h1 : (used.drop 7).length = 1 := by rw [List.length_drop]; omega
    exact List.length_eq_one_iff.1 h1
   have hlen8 : (used.take j ++ (used.drop (j + 1) ++ used.drop 7)).length = 8 := by rw [← List.append_assoc, List.length_append, hlen, hx7]; rfl
   have c15 : W1.cell? ⟨t, 15, none⟩ = some (.int .i64 ((used.take j ++ (used.drop (j + 1) ++ used.drop 7)).getD 7 0)) := hb1.cell (winC_used hl hlen8 7 (by decide))
   have f15 := hb1.frozen
   have hfin : Blk (W1.setCell ⟨t, 15, none⟩ (.int .i64 n)) t TWn (winC offs (touchF used n)) := by
    have h := hb1.set 15 (.int .i64 n)
    rw [winC_last hl hlen8 (used.take j ++ used.drop (j + 1)) hlen x7 n (by rw [← List.append_assoc, hx7])] at h
    rw [HTF.out]
    exact h
   have HFIN := Lib.hid (And.intro hfin (he1'.trans (Eff.set W1 t 15 (.int .i64 n)) (fun _ _ h => h)))
   clear he1 he1' hfin hwd hb1 hW1 hx7 hlen hlen8 hcp1 hcp2 hs1 hs2
   go_wp2_with fail
   exact bodyPost_end (v := .tuple #[]) (by simp [results, Tryz.results178, go_sem]) rfl ⟨rfl, ⟨HFIN.out.1, hl, HTL.out⟩, HFIN.out.2⟩
abbrev NOC : Int := 2147483648
structure SC where
 offs : List Int
 used : List Int
 uni : Bool
 active : Int
 behind : Bool
 waits : Int
structure OKC (st : SC) : Prop where
 len : st.offs.length = 8
 rng : ∀ x ∈ st.offs, 0 ≤ x ∧ x ≤ 1114111
 len2 : st.used.length = 8
 all : ∀ n : Int, 0 ≤ n → n < 8 → n ∈ st.used
 bnd : ∀ n ∈ st.used, 0 ≤ n ∧ n < 8
 act : 0 ≤ st.active ∧ st.active < 8
def passesF (c : Int) : Bool := decide (32 ≤ c ∧ c < 128) || c == 0 || c == 9 || c == 10 || c == 13
def taggedF (c : Int) : Bool := decide (57344 ≤ c ∧ c ≤ 62207)
def simpleF (st : SC) (c : Int) : Option (List Int) :=
 if passesF c = true then some [c] else if c < 32 then some [1, c]
 else if holdsF (st.offs.getD st.active.toNat 0) c = true then some [128 + (c - st.offs.getD st.active.toNat 0)] else none
def ownF (c : Int) : Option Int := if 65536 ≤ c then some (c - c % 128) else (indexF c).bind offsetF
def twinsF (c d : Int) : Bool := match ownF c with
 | none => false
 | some x => (d != NOC) && holdsF x d
def easyF (st : SC) (c : Int) : Bool := (findF st.offs c).isSome || decide (c < 128)
def softF (st : SC) (d : Int) : Bool := (d == NOC) || easyF st d
def statN (c : Int) : Nat → Option Nat
 | 0 => none
 | k + 1 => if holdsF (statics.getD (7 - k) 0) c = true then some (7 - k) else statN c k
def statF (c : Int) : Option Nat := statN c 7
def statV (c : Int) : Int := match statF c with
 | some n => statics.getD n 0
 | none => 0
def useF (st : SC) (n : Int) : SC := { st with active := n, used := touchF st.used n }
def unitsF (c : Int) : List Int :=
 if 65536 ≤ c then [(55296 + (c - 65536) / 1024) / 256, (55296 + (c - 65536) / 1024) % 256, (56320 + (c - 65536) % 1024) / 256, (56320 + (c - 65536) % 1024) % 256]
 else if taggedF c = true then [240, c / 256, c % 256] else [c / 256, c % 256]
def doubleF (st : SC) (c : Int) : SC × List Int := ({ st with uni := true }, 15 :: unitsF c)
abbrev TCp : TypeId := 117
structure DC where
 pos : Nat
 err : Int
 fat : Int
 en : Bool
def csC (plain : Bool) (t : Nat) (d : DC) (kept : List Int) (st : SC) : Array Value := #[.int .i64 d.pos, .int .i64 d.err, .int .i64 d.fat, .bool d.en, .string (strOf kept), .bool plain, .pointer (some ⟨t, 0, none⟩), .bool st.uni, .int .i64 st.active, .bool st.behind, .int .u32 st.waits]
structure CW (plain : Bool) (w : World) (g t : Nat) (d : DC) (kept : List Int) (st : SC) : Prop where
 blk : Blk w g TCp (csC plain t d kept st)
 win : WinAt w t st.offs st.used
 ne : g ≠ t
section
variable {plain : Bool} {w : World} {g t : Nat} {d : DC} {kept : List Int} {st : SC}
theorem CW.below {w1 : World} (h : CW plain w g t d kept st) (hb : Below w.heap.size w w1) : CW plain w1 g t d kept st := ⟨h.blk.below hb, ⟨h.win.1.below hb, h.win.2⟩, h.ne⟩
theorem CW.eff {w1 : World} (h : CW plain w g t d kept st) {S : Nat → Prop} (he : Eff w w1 S) (hg : ¬ S g) (ht : ¬ S t) : CW plain w1 g t d kept st := ⟨h.blk.eff he hg, ⟨h.win.1.eff he ht, h.win.2⟩, h.ne⟩
theorem CW.set {st1 : SC} (h : CW plain w g t d kept st) (i : Nat) (v : Value) (ho : st1.offs = st.offs) (hu : st1.used = st.used) (hv : (csC plain t d kept st).setIfInBounds i v = csC plain t d kept st1) :
  CW plain (w.setCell ⟨g, i, none⟩ v) g t d kept st1 ∧ Eff w (w.setCell ⟨g, i, none⟩ v) (fun k => k = g ∨ k = t) := by
 refine ⟨⟨?_, ?_, h.ne⟩, (Eff.set _ _ _ _).mono fun k _ e => .inl e⟩
 ·rw [← hv]; exact h.blk.set i v
 ·rw [ho, hu]; exact ⟨h.win.1.far h.ne.symm _, h.win.2⟩
theorem CW.win_of {w1 : World} {offs used : List Int} (h : CW plain w g t d kept st) (hw : WinAt w1 t offs used) (he : Eff w w1 (fun k => k = t)) : CW plain w1 g t d kept { st with offs := offs, used := used } :=
 ⟨h.blk.eff he h.ne, hw, h.ne⟩
set_option maxRecDepth 100000 in
theorem xkeep_c (h : CW plain w g t d kept st) (l : List Int) (hl : l.length ≤ 100) (hk : kept.length ≤ 100010000) :
  Calls Tryz.prog 162 #[.pointer (some ⟨g, 0, none⟩), .slice (some ⟨w.heap.size, 0, none⟩) l.length l.length] (w.alloc (.cells (nums .u8 l).toArray 5 (0, 0))) fun e w' => e = .returned (.tuple #[]) ∧ CW plain w' g t d (kept ++ l) st ∧ Eff w w' (fun k => k = g ∨ k = t) := by
 have hc1 := conv8 w l l.length hl
 have hc2 := conv8d w l l.length hl
 have ha := h.below (below_new (Below.refl _ _) (.cells (nums .u8 l).toArray 5 (0, 0)))
 have hkp := fun (W : World) (hW : Blk W g TCp (csC plain t d kept st)) => keep_l (ys := l) (o := 4) hW rfl (by omega)
 obtain ⟨W, hW⟩ : ∃ W, w.alloc (.cells (nums .u8 l).toArray 5 (0, 0)) = W := ⟨_, rfl⟩
 have HE : Hid (Eff w W (fun _ => False)) := Lib.hid (by rw [← hW]; exact Eff.alloc _ _ _)
 rw [hW] at hc1 hc2 ha ⊢
 have HA := Lib.hid ha
 have HKP := Lib.hid hkp
 obtain ⟨b, hb⟩ : ∃ b, w.heap.size = b := ⟨_, rfl⟩
 rw [hb] at hc1 hc2 ⊢
 clear ha hkp hW hb
 go_enter Tryz.func162, Tryz.ntmps162
 go_region_with (go_at_call 107; refine (HKP.out _ (by first | exact HA.out.blk | exact HA.out.blk.drewN 1)).mono ?_; rintro e w2 ⟨rfl, rfl⟩)
 all_goals go_wp2_with fail
 all_goals exact bodyPost_end (v := .tuple #[]) (by simp [results, Tryz.results162, go_sem]) rfl (by
  have hfin : ∀ W1, CW plain W1 g t d kept st → Eff w W1 (fun _ => False) → CW plain (W1.setCell ⟨g, 4, none⟩ (.string (strOf (kept ++ l)))) g t d (kept ++ l) st ∧ Eff w (W1.setCell ⟨g, 4, none⟩ (.string (strOf (kept ++ l)))) (fun k => k = g ∨ k = t) := fun W1 hc he =>
   ⟨⟨hc.blk.set 4 _, ⟨hc.win.1.far hc.ne.symm _, hc.win.2⟩, hc.ne⟩, (he.mono fun _ _ h => h.elim).trans ((Eff.set _ _ _ _).mono fun k _ e => .inl e) (fun _ _ h => h)⟩
  first
   | exact ⟨rfl, hfin _ HA.out HE.out⟩
   | exact ⟨rfl, hfin _ (HA.out.eff (Eff.drewN _ 1 (fun _ => False)) (fun h => h) (fun h => h)) (HE.out.trans (Eff.drewN _ 1 _) (fun _ _ h => h))⟩
   | exact ⟨rfl, (hfin _ HA.out HE.out).1.eff (Eff.drewN _ 1 (fun _ => False)) (fun h => h) (fun h => h), (hfin _ HA.out HE.out).2.trans (Eff.drewN _ 1 _) (fun _ _ h => h)⟩)
end
theorem passes_c (c : Int) (hc : 0 ≤ c) (w : World) : Calls Tryz.prog 174 #[.int .u32 c] w fun e w' => e = .returned (.bool (passesF c)) ∧ w' = w := by
 by_cases a0 : c = 0
 ·subst a0; go_enter Tryz.func174, Tryz.ntmps174; go_wp2_with fail; go_ret; exact ⟨rfl, rfl⟩
 by_cases a9 : c = 9
 ·subst a9; go_enter Tryz.func174, Tryz.ntmps174; go_wp2_with fail; go_ret; exact ⟨rfl, rfl⟩
 by_cases a10 : c = 10
 ·subst a10; go_enter Tryz.func174, Tryz.ntmps174; go_wp2_with fail; go_ret; exact ⟨rfl, rfl⟩
 by_cases a13 : c = 13
 ·subst a13; go_enter Tryz.func174, Tryz.ntmps174; go_wp2_with fail; go_ret; exact ⟨rfl, rfl⟩
 have q0 : (c == 0) = false := by simpa using a0
 have q9 : (c == 9) = false := by simpa using a9
 have q10 : (c == 10) = false := by simpa using a10
 have q13 : (c == 13) = false := by simpa using a13
 have hR : passesF c = decide (32 ≤ c ∧ c < 128) := by unfold passesF; rw [q0, q9, q10, q13]; simp
 have HR := Lib.hid hR
 clear hR a0 a9 a10 a13
 by_cases h1 : 32 ≤ c
 ·have g1 : c ≥ 32 := h1
  by_cases h2 : c < 128
  ·have HR2 : Hid (passesF c = true) := Lib.hid (by rw [HR.out]; exact decide_eq_true ⟨h1, h2⟩)
   go_enter Tryz.func174, Tryz.ntmps174; go_wp2_with fail; go_ret; rw [HR2.out]; exact ⟨rfl, rfl⟩
  ·have HR2 : Hid (passesF c = false) := Lib.hid (by rw [HR.out]; exact decide_eq_false fun h => h2 h.2)
   go_enter Tryz.func174, Tryz.ntmps174; go_wp2_with fail; go_ret; rw [HR2.out]; exact ⟨rfl, rfl⟩
 ·have g1 : ¬ c ≥ 32 := h1
  have HR2 : Hid (passesF c = false) := Lib.hid (by rw [HR.out]; exact decide_eq_false fun h => h1 h.1)
  go_enter Tryz.func174, Tryz.ntmps174; go_wp2_with fail; go_ret; rw [HR2.out]; exact ⟨rfl, rfl⟩
theorem tagged_c (c : Int) (w : World) : Calls Tryz.prog 173 #[.int .u32 c] w fun e w' => e = .returned (.bool (taggedF c)) ∧ w' = w := by
 by_cases h1 : 57344 ≤ c
 ·have g1 : c ≥ 57344 := h1
  by_cases h2 : c ≤ 62207
  ·have HR2 : Hid (taggedF c = true) := Lib.hid (decide_eq_true ⟨h1, h2⟩)
   go_enter Tryz.func173, Tryz.ntmps173; go_wp2_with fail; go_ret; rw [HR2.out]; exact ⟨rfl, rfl⟩
  ·have HR2 : Hid (taggedF c = false) := Lib.hid (decide_eq_false fun h => h2 h.2)
   go_enter Tryz.func173, Tryz.ntmps173; go_wp2_with fail; go_ret; rw [HR2.out]; exact ⟨rfl, rfl⟩
 ·have g1 : ¬ c ≥ 57344 := h1
  have HR2 : Hid (taggedF c = false) := Lib.hid (decide_eq_false fun h => h1 h.1)
  go_enter Tryz.func173, Tryz.ntmps173; go_wp2_with fail; go_ret; rw [HR2.out]; exact ⟨rfl, rfl⟩
theorem nat_not127 (a : Nat) (h : a < 4294967296) : a &&& (4294967295 - 127) = a - a % 128 := by
 have e1 : (4294967295 - 127 : Nat) = (2 ^ 25 - 1) <<< 7 := by decide
 have e2 : a - a % 128 = (a >>> 7) <<< 7 := by
  rw [Nat.shiftLeft_eq, Nat.shiftRight_eq_div_pow]
  have := Nat.div_add_mod a 128
  omega
 rw [e1, e2]
 apply Nat.eq_of_testBit_eq
 intro i
 rw [Nat.testBit_and, Nat.testBit_shiftLeft, Nat.testBit_shiftLeft, Nat.testBit_shiftRight, Nat.testBit_two_pow_sub_one]
 by_cases h7 : 7 ≤ i
 ·rw [show 7 + (i - 7) = i by omega]
  by_cases h32 : i < 32
  ·simp [h7, show i - 7 < 25 by omega]
  ·have : a.testBit i = false := Nat.testBit_lt_two_pow (Nat.lt_of_lt_of_le h (by
    have : 2 ^ 32 ≤ 2 ^ i := Nat.pow_le_pow_right (by decide) (by omega)
    exact this))
   simp [this]
 ·simp [h7]
theorem u32_not127 (c : Int) (h0 : 0 ≤ c) (h1 : c < 4294967296) : bits .andNot .u32 c 127 = c - c % 128 := by
 obtain ⟨a, rfl⟩ : ∃ a : Nat, c = a := ⟨c.toNat, by omega⟩
 rw [show (127 : Int) = ((127 : Nat) : Int) from rfl, u32_andNot_nat a 127 (by omega) (by decide), nat_not127 a (by omega)]
 omega
theorem indexF_byte {c x : Int} (hc : 0 ≤ c) (h : indexF c = some x) : 0 ≤ x ∧ x < 256 ∧ (offsetF x).isSome = true := by
 unfold indexF at h
 split at h
 ·rename_i i hi
  have hlt : ∀ k i, specN c k = some i → i < 7 := by
   intro k
   induction k with
   | zero => intro i h; cases h
   | succ k ih =>
    intro i h
    unfold specN at h
    split at h
    ·injection h with h; omega
    ·exact ih i h
  have := hlt 7 i hi
  injection h with h
  refine ⟨by omega, by omega, ?_⟩
  unfold offsetF
  rw [if_neg (by omega), if_neg (by omega), if_neg (by omega)]; rfl
 ·split at h
  ·injection h with h
   refine ⟨by omega, by omega, ?_⟩
   unfold offsetF
   rw [if_neg (by omega), if_pos (by omega)]; rfl
  ·split at h
   ·injection h with h
    refine ⟨by omega, by omega, ?_⟩
    unfold offsetF
    rw [if_neg (by omega)]
    split
    ·rfl
    ·rw [if_pos (by omega)]; rfl
   ·cases h
theorem ownF_rng {c x : Int} (hc : 0 ≤ c) (hc1 : c ≤ 1114111) (h : ownF c = some x) : 0 ≤ x ∧ x ≤ 1114111 := by
 unfold ownF at h
 split at h
 ·injection h with h; omega
 ·cases hi : indexF c with
  | none => rw [hi] at h; cases h
  | some y =>
   rw [hi] at h
   have h2 : offsetF y = some x := h
   have hy := indexF_byte hc hi
   have hb := hy.1
   unfold offsetF at h2
   split at h2
   ·cases h2
   ·split at h2
    ·injection h2 with h2; omega
    ·split at h2
     ·injection h2 with h2; omega
     ·injection h2 with h2
      have : ∀ k : Nat, 0 ≤ specials.getD k 0 ∧ specials.getD k 0 ≤ 65376 := by
       intro k
       have hh : ∀ x ∈ specials, 0 ≤ x ∧ x ≤ 65376 := by decide
       rw [List.getD_eq_getElem?_getD]
       cases e : specials[k]? with
       | none => decide
       | some z => exact hh z (List.mem_of_getElem? e)
      have := this (y - 249).toNat
      omega
set_option maxRecDepth 100000 in
set_option maxHeartbeats 4000000 in
theorem own_c (c : Int) (hc : 0 ≤ c) (hc1 : c ≤ 1114111) (w : World) : Calls Tryz.prog 180 #[.int .u32 c] w fun e w' => e = .returned (.tuple #[.int .u32 ((ownF c).getD 0), .bool (ownF c).isSome]) ∧ Below w.heap.size w w' := by
 by_cases a : 65536 ≤ c
 ·have a1 : c ≥ 65536 := a
  have hn := u32_not127 c hc (by omega)
  have hR : Hid (ownF c = some (c - c % 128)) := Lib.hid (by unfold ownF; rw [if_pos a])
  go_enter Tryz.func180, Tryz.ntmps180
  go_wp2_with fail
  refine bodyPost_ret (results_list (rs := [.tmp 2, .tmp 3]) rfl (by simp) (.tmp (.tmp .nil))) rfl ?_
  rw [hR.out]
  exact ⟨rfl, Below.refl _ _⟩
 ·have a1 : ¬ c ≥ 65536 := a
  have HI := Lib.hid (fun W => index_c c hc hc1 W)
  cases hi : indexF c with
  | none =>
   rw [hi] at HI
   have HOF := Lib.hid (fun W => offset_c 0 (by decide) (by decide) W)
   have hR : Hid (ownF c = none) := Lib.hid (by unfold ownF; rw [if_neg a, hi]; rfl)
   clear hi
   go_enter Tryz.func180, Tryz.ntmps180
   go_wp2_with (first
    | (go_at_call 183; refine (HI.out _).mono ?_; rintro e w1 ⟨rfl, hb1⟩; have HB1 := Lib.hid hb1; clear hb1)
    | (go_at_call 187; refine (HOF.out _).mono ?_; rintro e w2 ⟨rfl, hb2⟩; have HB2 := Lib.hid (below_next HB1.out hb2); clear hb2))
   refine bodyPost_ret (results_list (rs := [.tmp 2, .tmp 3]) rfl (by simp) (.tmp (.tmp .nil))) rfl ?_
   rw [hR.out]
   exact ⟨rfl, HB2.out⟩
  | some x =>
   rw [hi] at HI
   have hx := indexF_byte hc hi
   have HOF := Lib.hid (fun W => offset_c x hx.1 hx.2.1 W)
   have hR : Hid (ownF c = offsetF x) := Lib.hid (by unfold ownF; rw [if_neg a, hi]; rfl)
   have HS := Lib.hid hx.2.2
   clear hi hx
   go_enter Tryz.func180, Tryz.ntmps180
   go_wp2_with (first
    | (go_at_call 183; refine (HI.out _).mono ?_; rintro e w1 ⟨rfl, hb1⟩; have HB1 := Lib.hid hb1; clear hb1)
    | (go_at_call 187; refine (HOF.out _).mono ?_; rintro e w2 ⟨rfl, hb2⟩; have HB2 := Lib.hid (below_next HB1.out hb2); clear hb2))
   refine bodyPost_ret (results_list (rs := [.tmp 2, .tmp 3]) rfl (by simp) (.tmp (.tmp .nil))) rfl ?_
   rw [hR.out, HS.out]
   exact ⟨rfl, HB2.out⟩
set_option maxRecDepth 100000 in
set_option maxHeartbeats 4000000 in
theorem twins_c (c x : Int) (hc : 0 ≤ c) (hc1 : c ≤ 1114111) (hx0 : 0 ≤ x) (hx1 : x < 4294967296) (w : World) : Calls Tryz.prog 171 #[.int .u32 c, .int .u32 x] w fun e w' => e = .returned (.bool (twinsF c x)) ∧ Below w.heap.size w w' := by
 have HO := Lib.hid (fun W => own_c c hc hc1 W)
 cases ho : ownF c with
 | none =>
  rw [ho] at HO
  have hR : Hid (twinsF c x = false) := Lib.hid (by unfold twinsF; rw [ho])
  clear ho
  go_enter Tryz.func171, Tryz.ntmps171
  go_wp2_with (go_at_call 180; refine (HO.out _).mono ?_; rintro e w1 ⟨rfl, hb1⟩; have HB1 := Lib.hid hb1; clear hb1)
  go_ret
  rw [hR.out]
  exact ⟨rfl, HB1.out⟩
 | some y =>
  rw [ho] at HO
  have hy := ownF_rng hc hc1 ho
  by_cases hn : x = NOC
  ·subst hn
   have hR : Hid (twinsF c NOC = false) := Lib.hid (by unfold twinsF; rw [ho]; rfl)
   clear ho
   go_enter Tryz.func171, Tryz.ntmps171
   go_wp2_with (go_at_call 180; refine (HO.out _).mono ?_; rintro e w1 ⟨rfl, hb1⟩; have HB1 := Lib.hid hb1; clear hb1)
   go_ret
   rw [hR.out]
   exact ⟨rfl, HB1.out⟩
  ·have hnb : (x != 2147483648) = true := by simpa using hn
   have hR : Hid (twinsF c x = holdsF y x) := Lib.hid (by unfold twinsF; rw [ho]; show ((x != NOC) && _) = _; rw [show (x != NOC) = true from hnb]; rfl)
   have HH := Lib.hid (fun W => holds_c y x hy.1 hx0 hx1 W)
   clear ho hy hn
   go_enter Tryz.func171, Tryz.ntmps171
   go_wp2_with (first
    | (go_at_call 180; refine (HO.out _).mono ?_; rintro e w1 ⟨rfl, hb1⟩; have HB1 := Lib.hid hb1; clear hb1)
    | (go_at_call 175; refine (HH.out _).mono ?_; rintro e w2 ⟨rfl, hw2⟩; obtain rfl := hw2.symm; clear hw2))
   go_ret
   rw [hR.out]
   exact ⟨rfl, HB1.out⟩
theorem statics_nn (k : Nat) : 0 ≤ statics.getD k 0 := by
 have h : ∀ x ∈ statics, 0 ≤ x := by decide
 rw [List.getD_eq_getElem?_getD]
 cases e : statics[k]? with
 | none => exact Int.le_refl 0
 | some x => exact h x (List.mem_of_getElem? e)
theorem statN_is (c : Int) : ∀ k n, k ≤ 7 → statN c k = some n → 1 ≤ n ∧ n < 8 ∧ holdsF (statics.getD n 0) c = true
 | 0, _, _, h => by cases h
 | k + 1, n, hk, h => by
  unfold statN at h
  split at h
  ·rename_i hh
   injection h with h
   subst h
   exact ⟨by omega, by omega, hh⟩
  ·exact statN_is c k n (by omega) h
set_option maxRecDepth 100000 in
set_option maxHeartbeats 4000000 in
theorem stat_c (c : Int) (hc : 0 ≤ c) (hc1 : c < 4294967296) (w : World) : Calls Tryz.prog 179 #[.int .u32 c] w fun e w' => e = .returned (.tuple #[.int .i64 ((statF c).getD 0 : Nat), .int .u32 (statV c), .bool (statF c).isSome]) ∧ w' = w := by
 go_enter Tryz.func179, Tryz.ntmps179
 go_wp2_with fail
 go_loopg [5] 7 (fun kq s5 wx => ∃ k : Nat, s5 = .int .i64 k ∧ Hid (kq = 8 - k ∧ 1 ≤ k ∧ k ≤ 8 ∧ statF c = statN c (8 - k)) ∧ wx = w)
 case atStart => exact ⟨1, rfl, Lib.hid ⟨rfl, Nat.le_refl _, by decide, rfl⟩, rfl⟩
 case round =>
  obtain ⟨k, rfl, HK, hww⟩ := hrel
  obtain rfl := hww.symm
  clear hww
  have hk0 : (0 : Int) ≤ (k : Int) := by omega
  by_cases hk : k < 8
  ·have hk1 : (k : Int) < 8 := by omega
   have hst := static_c (k : Int) hk0 hk1
   rw [Int.toNat_natCast] at hst
   have HST := Lib.hid hst
   have hhc := holds_c (statics.getD k 0) c (statics_nn k) hc hc1
   have hfn : statN c (8 - k) = if holdsF (statics.getD k 0) c = true then some k else statN c (8 - (k + 1)) := by
    obtain ⟨m, hm⟩ : ∃ m, 8 - k = m + 1 := ⟨7 - k, by omega⟩
    rw [hm, statN, show 7 - m = k by omega, show 8 - (k + 1) = m by omega]
   obtain ⟨V, hV⟩ : ∃ V, statics.getD k 0 = V := ⟨_, rfl⟩
   rw [hV] at HST hhc hfn
   have HVV := Lib.hid hV
   have HFN := Lib.hid hfn
   have HHC := Lib.hid hhc
   clear hfn hhc hst hV
   cases hv : holdsF V c with
   | true =>
    rw [hv] at HHC
    have hR : Hid (statF c = some k) := Lib.hid (by rw [HK.out.2.2.2, HFN.out, if_pos hv])
    clear hv
    go_wp2_with (first
     | (go_at_call 186; refine (HST.out _).mono ?_; rintro e w1 ⟨rfl, hw1⟩; obtain rfl := hw1.symm; clear hw1)
     | (go_at_call 175; refine (HHC.out _).mono ?_; rintro e w2 ⟨rfl, hw2⟩; obtain rfl := hw2.symm; clear hw2))
    refine bodyPost_ret (results_list (rs := [.tmp 2, .tmp 3, .tmp 4]) rfl (by simp) (.tmp (.tmp (.tmp .nil)))) rfl ?_
    rw [hR.out]
    have hsv : statV c = V := by unfold statV; rw [hR.out]; exact HVV.out
    rw [hsv]
    exact ⟨rfl, rfl⟩
   | false =>
    rw [hv] at HHC
    have hR : Hid (statF c = statN c (8 - (k + 1))) := Lib.hid (by rw [HK.out.2.2.2, HFN.out, if_neg (by rw [hv]; decide)])
    clear hv
    go_wp2_with (first
     | (go_at_call 186; refine (HST.out _).mono ?_; rintro e w1 ⟨rfl, hw1⟩; obtain rfl := hw1.symm; clear hw1)
     | (go_at_call 175; refine (HHC.out _).mono ?_; rintro e w2 ⟨rfl, hw2⟩; obtain rfl := hw2.symm; clear hw2))
    go_roundg (8 - (k + 1))
    case measure => have := HK.out.1; omega
    case rel => exact ⟨k + 1, by go_num, Lib.hid ⟨rfl, by omega, by omega, hR.out⟩, rfl⟩
  ·have hk1 : ¬ (k : Int) < 8 := by omega
   have hR : Hid (statF c = none) := Lib.hid (by rw [HK.out.2.2.2, show 8 - k = 0 by omega]; rfl)
   go_wp2_with fail
   refine bodyPost_ret (results_list (rs := [.tmp 2, .tmp 3, .tmp 4]) rfl (by simp) (.tmp (.tmp (.tmp .nil)))) rfl ?_
   have hsv : statV c = 0 := by unfold statV; rw [hR.out]
   rw [hsv, hR.out]
   exact ⟨rfl, rfl⟩
theorem touch_all {used : List Int} {n : Int} (hm : n ∈ used) (x : Int) (hx : x ∈ used) : x ∈ touchF used n := by
 have h1 := firstAt_is used n hm
 unfold touchF
 by_cases e : x = n
 ·exact List.mem_append_right _ (by rw [e]; exact List.mem_singleton_self _)
 ·apply List.mem_append_left
  obtain ⟨i, hi, hxi⟩ := List.getElem_of_mem hx
  have hne : i ≠ firstAt used n := by
   intro h
   have h2 := h1.2
   rw [List.getD_eq_getElem?_getD, ← h, List.getElem?_eq_getElem hi] at h2
   exact e (hxi.symm.trans h2)
  by_cases hl : i < firstAt used n
  ·exact List.mem_append_left _ (List.mem_take_iff_getElem.2 ⟨i, by omega, hxi⟩)
  ·exact List.mem_append_right _ (List.mem_drop_iff_getElem.2 ⟨i - (firstAt used n + 1), by omega, by
    rw [← hxi]; congr 1; omega⟩)
theorem touch_bnd {used : List Int} {n : Int} (x : Int) (hx : x ∈ touchF used n) : x ∈ used ∨ x = n := by
 unfold touchF at hx
 rcases List.mem_append.1 hx with h | h
 ·rcases List.mem_append.1 h with h | h
  ·exact .inl (List.mem_of_mem_take h)
  ·exact .inl (List.mem_of_mem_drop h)
 ·exact .inr (List.mem_singleton.1 h)
theorem OKC.touch {st : SC} (h : OKC st) (n : Int) (h0 : 0 ≤ n) (h1 : n < 8) : OKC { st with used := touchF st.used n } :=
 { h with
  len2 := touchF_length h.len2 (h.all n h0 h1)
  all := fun x hx0 hx1 => touch_all (h.all n h0 h1) x (h.all x hx0 hx1)
  bnd := fun x hx => (touch_bnd x hx).elim (h.bnd x) (fun e => e ▸ ⟨h0, h1⟩) }
theorem OKC.use {st : SC} (h : OKC st) (n : Int) (h0 : 0 ≤ n) (h1 : n < 8) : OKC (useF st n) :=
 { h.touch n h0 h1 with act := ⟨h0, h1⟩ }
theorem OKC.nn {st : SC} (h : OKC st) : ∀ x ∈ st.offs, 0 ≤ x := fun x hx => (h.rng x hx).1
theorem OKC.off {st : SC} (h : OKC st) (n : Nat) (hn : n < 8) : 0 ≤ st.offs.getD n 0 ∧ st.offs.getD n 0 ≤ 1114111 := by
 rw [List.getD_eq_getElem?_getD, List.getElem?_eq_getElem (by rw [h.len]; exact hn)]
 exact h.rng _ (List.getElem_mem _)
def CP (plain : Bool) (w : World) (g t : Nat) (d : DC) (kept : List Int) (st : SC) (v : Value) (e : Ending) (w' : World) : Prop :=
 e = .returned v ∧ CW plain w' g t d kept st ∧ Eff w w' (fun k => k = g ∨ k = t)
theorem holdsF_le {o c : Int} (h : holdsF o c = true) : o ≤ c ∧ c - o < 128 := of_decide_eq_true h
section
variable {plain : Bool} {w : World} {g t : Nat} {d : DC} {kept : List Int} {st : SC}
set_option maxRecDepth 100000 in
theorem xheld_c (h : CW plain w g t d kept st) (hok : OKC st) (n : Nat) (hn : n < 8) (c : Int) (hc : c ≤ 1114111) (hh : holdsF (st.offs.getD n 0) c = true) :
  Calls Tryz.prog 177 #[.pointer (some ⟨g, 0, none⟩), .int .i64 n, .int .u32 c] w fun e w' => e = .returned (.int .u8 (128 + (c - st.offs.getD n 0))) ∧ w' = w := by
 have c6 : w.cell? ⟨g, 6, none⟩ = some (.pointer (some ⟨t, 0, none⟩)) := h.blk.cell rfl
 have HAT := Lib.hid (winat_c h.win n hn)
 have ho := hok.off n hn
 have hl := holdsF_le hh
 obtain ⟨A, hA⟩ : ∃ A, st.offs.getD n 0 = A := ⟨_, rfl⟩
 rw [hA] at HAT ho hl ⊢
 have v1 : IntKind.u32.wrap (128 + c) = 128 + c := wraps_u32 _ (by omega) (by omega)
 have v2 : IntKind.u32.wrap (128 + c - A) = 128 + c - A := wraps_u32 _ (by omega) (by omega)
 have HEQ : Hid (128 + (c - A) = 128 + c - A) := Lib.hid (by omega)
 have v3 : 128 + c - A < 256 := by omega
 have v4 : 0 ≤ 128 + c - A := by omega
 have v5 : 128 + c - A < 4294967296 := by omega
 have v6 : 128 + c < 4294967296 := by omega
 have v7 : 0 ≤ 128 + c := by omega
 clear h hok ho hl hh hA
 go_enter Tryz.func177, Tryz.ntmps177
 go_wp2_with (go_at_call 176; refine HAT.out.mono ?_; rintro e w1 ⟨rfl, hw1⟩; obtain rfl := hw1.symm; clear hw1)
 go_ret
 rw [HEQ.out]
 exact ⟨rfl, rfl⟩
set_option maxRecDepth 100000 in
theorem xuse_c (h : CW plain w g t d kept st) (hok : OKC st) (n : Int) (h0 : 0 ≤ n) (h1 : n < 8) :
  Calls Tryz.prog 170 #[.pointer (some ⟨g, 0, none⟩), .int .i64 n] w (CP plain w g t d kept (useF st n) (.tuple #[])) := by
 obtain ⟨k1, e1⟩ := h.set 8 (.int .i64 n) (st1 := { st with active := n }) rfl rfl rfl
 have c8 : w.cell? ⟨g, 8, none⟩ = some (.int .i64 st.active) := h.blk.cell rfl
 have fz := h.blk.frozen
 obtain ⟨w1, hw1⟩ : ∃ w1, w.setCell ⟨g, 8, none⟩ (.int .i64 n) = w1 := ⟨_, rfl⟩
 rw [hw1] at k1 e1
 have d6 : w1.cell? ⟨g, 6, none⟩ = some (.pointer (some ⟨t, 0, none⟩)) := k1.blk.cell rfl
 have HT := Lib.hid (touch_c k1.win n h0 h1 (hok.all n h0 h1))
 have K1 := Lib.hid (And.intro k1 e1)
 clear k1 e1 h hok
 go_enter Tryz.func170, Tryz.ntmps170
 go_upto_region 1 with fail
 try rw [hw1]
 clear hw1 c8 fz
 go_wp2_with fail
 refine HT.out.mono ?_
 rintro e w2 ⟨rfl, hwin, he⟩
 have hfin := K1.out.1.win_of hwin he
 have hef := K1.out.2.trans (he.mono fun k _ h => .inr h) (fun _ _ h => h)
 have HF := Lib.hid (And.intro hfin hef)
 clear hfin hef hwin he
 go_wp2_with fail
 exact bodyPost_end (v := .tuple #[]) (by simp [results, Tryz.results170, go_sem]) rfl ⟨rfl, HF.out.1, HF.out.2⟩
set_option maxRecDepth 100000 in
set_option maxHeartbeats 4000000 in
theorem xunits_c (h : CW plain w g t d kept st) (hk : kept.length ≤ 100001000) (c : Int) (h0 : 0 ≤ c) (h1 : c ≤ 1114111) :
  Calls Tryz.prog 163 #[.pointer (some ⟨g, 0, none⟩), .int .u32 c] w (CP plain w g t d (kept ++ unitsF c) st (.tuple #[])) := by
 by_cases a : 65536 ≤ c
 ·have a1 : c ≥ 65536 := a
  have e1 : bits .or .u32 55296 ((c - 65536) / 1024) = 55296 + (c - 65536) / 1024 := u32_orD800 (by omega) (by omega)
  have e2 : bits .and .u32 (c - 65536) 1023 = (c - 65536) % 1024 := u32_and1023 (by omega) (by omega)
  have e3 : bits .or .u32 56320 ((c - 65536) % 1024) = 56320 + (c - 65536) % 1024 := u32_orDC00 (by omega) (by omega)
  have v0 : IntKind.u32.wrap (c - 65536) = c - 65536 := wraps_u32 _ (by omega) (by omega)
  have v1 : 0 ≤ c - 65536 := by omega
  have v2 : c - 65536 < 4294967296 := by omega
  have m1 : (55296 + (c - 65536) / 1024) / 256 % 256 = (55296 + (c - 65536) / 1024) / 256 := by omega
  have m2 : (56320 + (c - 65536) % 1024) / 256 % 256 = (56320 + (c - 65536) % 1024) / 256 := by omega
  have hR : Hid (unitsF c = [(55296 + (c - 65536) / 1024) / 256, (55296 + (c - 65536) / 1024) % 256, (56320 + (c - 65536) % 1024) / 256, (56320 + (c - 65536) % 1024) % 256]) := Lib.hid (by unfold unitsF; rw [if_pos a])
  have hkk := xkeep_c h [(55296 + (c - 65536) / 1024) / 256, (55296 + (c - 65536) / 1024) % 256, (56320 + (c - 65536) % 1024) / 256, (56320 + (c - 65536) % 1024) % 256] (by simp) (by omega)
  simp only [nums, List.map_cons, List.map_nil, List.length_cons, List.length_nil, Nat.zero_add, Nat.reduceAdd] at hkk
  have HK := Lib.hid hkk
  clear hkk
  clear h
  go_enter Tryz.func163, Tryz.ntmps163
  go_wp2_with fail
  refine HK.out.mono ?_
  rintro e w1 ⟨rfl, hc, he⟩
  have HF := Lib.hid (And.intro hc he)
  clear hc he
  go_wp2_with fail
  exact bodyPost_end (v := .tuple #[]) (by simp [results, Tryz.results163, go_sem]) rfl ⟨rfl, by rw [hR.out]; exact HF.out.1, HF.out.2⟩
 ·have a1 : ¬ c ≥ 65536 := a
  have m1 : c / 256 % 256 = c / 256 := by omega
  have HT := Lib.hid (fun W => tagged_c c W)
  cases ht : taggedF c with
  | true =>
   rw [ht] at HT
   have hR : Hid (unitsF c = [240, c / 256, c % 256]) := Lib.hid (by unfold unitsF; rw [if_neg a, if_pos ht])
   have hkk := xkeep_c h [240] (by simp) (by omega)
   simp only [nums, List.map_cons, List.map_nil, List.length_cons, List.length_nil, Nat.zero_add, Nat.reduceAdd] at hkk
   have HK := Lib.hid hkk
   clear hkk
   have HK2 : Hid (∀ W, CW plain W g t d (kept ++ [240]) st → Calls Tryz.prog 162 #[.pointer (some ⟨g, 0, none⟩), .slice (some ⟨W.heap.size, 0, none⟩) 2 2] (W.alloc (.cells #[.int .u8 (c / 256), .int .u8 (c % 256)] 5 (0, 0))) fun e w' => e = .returned (.tuple #[]) ∧ CW plain w' g t d ((kept ++ [240]) ++ [c / 256, c % 256]) st ∧ Eff W w' (fun k => k = g ∨ k = t)) := Lib.hid fun W hW => xkeep_c hW [c / 256, c % 256] (by simp) (by rw [List.length_append]; simp; omega)
   clear h ht
   go_enter Tryz.func163, Tryz.ntmps163
   go_wp2_with (go_at_call 173; refine (HT.out _).mono ?_; rintro e w1 ⟨rfl, hw1⟩; obtain rfl := hw1.symm; clear hw1)
   refine HK.out.mono ?_
   rintro e w1 ⟨rfl, hc, he⟩
   have HF := Lib.hid (And.intro hc he)
   have HK3 := Lib.hid (HK2.out w1 hc)
   clear hc he HK2
   go_wp2_with fail
   refine HK3.out.mono ?_
   rintro e w2 ⟨rfl, hc, he⟩
   have HF2 := Lib.hid (And.intro hc (HF.out.2.trans he (fun _ _ h => h)))
   clear hc he
   go_wp2_with fail
   exact bodyPost_end (v := .tuple #[]) (by simp [results, Tryz.results163, go_sem]) rfl ⟨rfl, by rw [hR.out]; have := HF2.out.1; rw [List.append_assoc] at this; exact this, HF2.out.2⟩
  | false =>
   rw [ht] at HT
   have hR : Hid (unitsF c = [c / 256, c % 256]) := Lib.hid (by unfold unitsF; rw [if_neg a, if_neg (by rw [ht]; decide)])
   have hkk := xkeep_c h [c / 256, c % 256] (by simp) (by omega)
   simp only [nums, List.map_cons, List.map_nil, List.length_cons, List.length_nil, Nat.zero_add, Nat.reduceAdd] at hkk
   have HK := Lib.hid hkk
   clear hkk
   clear h ht
   go_enter Tryz.func163, Tryz.ntmps163
   go_wp2_with (go_at_call 173; refine (HT.out _).mono ?_; rintro e w1 ⟨rfl, hw1⟩; obtain rfl := hw1.symm; clear hw1)
   refine HK.out.mono ?_
   rintro e w1 ⟨rfl, hc, he⟩
   have HF := Lib.hid (And.intro hc he)
   clear hc he
   go_wp2_with fail
   exact bodyPost_end (v := .tuple #[]) (by simp [results, Tryz.results163, go_sem]) rfl ⟨rfl, by rw [hR.out]; exact HF.out.1, HF.out.2⟩
set_option maxRecDepth 100000 in
theorem xdouble_c' (h : CW plain w g t d kept st) (hk : kept.length ≤ 100000900) (c : Int) (h0 : 0 ≤ c) (h1 : c ≤ 1114111) :
  Calls Tryz.prog 165 #[.pointer (some ⟨g, 0, none⟩), .int .u32 c] w (CP plain w g t d (kept ++ (doubleF st c).2) (doubleF st c).1 (.tuple #[])) := by
 have hkk := xkeep_c h [15] (by simp) (by omega)
 simp only [nums, List.map_cons, List.map_nil, List.length_cons, List.length_nil, Nat.zero_add, Nat.reduceAdd] at hkk
 have HK := Lib.hid hkk
 clear hkk
 clear h
 go_enter Tryz.func165, Tryz.ntmps165
 go_wp2_with fail
 refine HK.out.mono ?_
 rintro e w1 ⟨rfl, hc, he⟩
 obtain ⟨k1, e1⟩ := hc.set 7 (.bool true) (st1 := { st with uni := true }) rfl rfl rfl
 have c7 : w1.cell? ⟨g, 7, none⟩ = some (.bool st.uni) := hc.blk.cell rfl
 have fz := hc.blk.frozen
 have HU := Lib.hid (xunits_c k1 (by rw [List.length_append]; simp; omega) c h0 h1)
 have HE := Lib.hid (he.trans e1 (fun _ _ h => h))
 clear hc he k1 e1
 go_wp2_with fail
 refine HU.out.mono ?_
 rintro e w2 ⟨rfl, hc, he⟩
 have HF := Lib.hid (And.intro hc (HE.out.trans he (fun _ _ h => h)))
 clear hc he
 go_wp2_with fail
 exact bodyPost_end (v := .tuple #[]) (by simp [results, Tryz.results165, go_sem]) rfl ⟨rfl, by have := HF.out.1; rw [List.append_assoc] at this; exact this, HF.out.2⟩
set_option maxRecDepth 100000 in
theorem xeasy_c (h : CW plain w g t d kept st) (hok : OKC st) (c : Int) (h0 : 0 ≤ c) (h1 : c < 4294967296) :
  Calls Tryz.prog 167 #[.pointer (some ⟨g, 0, none⟩), .int .u32 c] w fun e w' => e = .returned (.bool (easyF st c)) ∧ w' = w := by
 have c6 : w.cell? ⟨g, 6, none⟩ = some (.pointer (some ⟨t, 0, none⟩)) := h.blk.cell rfl
 have HFD := Lib.hid (find_c h.win hok.nn c h0 h1)
 clear h hok
 cases hf : findF st.offs c with
 | some n =>
  rw [hf] at HFD
  have hR : Hid (easyF st c = true) := Lib.hid (by unfold easyF; rw [hf]; rfl)
  clear hf
  go_enter Tryz.func167, Tryz.ntmps167
  go_wp2_with (go_at_call 169; refine HFD.out.mono ?_; rintro e w1 ⟨rfl, hw1⟩; obtain rfl := hw1.symm; clear hw1)
  go_ret
  rw [hR.out]
  exact ⟨rfl, rfl⟩
 | none =>
  rw [hf] at HFD
  have hR : Hid (easyF st c = decide (c < 128)) := Lib.hid (by unfold easyF; rw [hf]; rfl)
  clear hf
  go_enter Tryz.func167, Tryz.ntmps167
  go_wp2_with (go_at_call 169; refine HFD.out.mono ?_; rintro e w1 ⟨rfl, hw1⟩; obtain rfl := hw1.symm; clear hw1)
  go_ret
  rw [hR.out]
  exact ⟨rfl, rfl⟩
set_option maxRecDepth 100000 in
theorem xsoft_c (h : CW plain w g t d kept st) (hok : OKC st) (c : Int) (h0 : 0 ≤ c) (h1 : c < 4294967296) :
  Calls Tryz.prog 168 #[.pointer (some ⟨g, 0, none⟩), .int .u32 c] w fun e w' => e = .returned (.bool (softF st c)) ∧ w' = w := by
 by_cases a : c = NOC
 ·subst a
  have hR : Hid (softF st NOC = true) := Lib.hid rfl
  clear h hok
  go_enter Tryz.func168, Tryz.ntmps168
  go_wp2_with fail
  go_ret
  rw [hR.out]
  exact ⟨rfl, rfl⟩
 ·have ab : (c == 2147483648) = false := by simpa using a
  have HE := Lib.hid (xeasy_c h hok c h0 h1)
  have hR : Hid (softF st c = easyF st c) := Lib.hid (by unfold softF; rw [show (c == NOC) = false from ab]; rfl)
  clear h hok a
  go_enter Tryz.func168, Tryz.ntmps168
  go_wp2_with (go_at_call 167; refine HE.out.mono ?_; rintro e w1 ⟨rfl, hw1⟩; obtain rfl := hw1.symm; clear hw1)
  go_ret
  rw [hR.out]
  exact ⟨rfl, rfl⟩
set_option maxRecDepth 100000 in
set_option maxHeartbeats 4000000 in
theorem xsimple_c (h : CW plain w g t d kept st) (hok : OKC st) (hk : kept.length ≤ 100001000) (c : Int) (h0 : 0 ≤ c) (h1 : c ≤ 1114111) :
  Calls Tryz.prog 164 #[.pointer (some ⟨g, 0, none⟩), .int .u32 c] w (CP plain w g t d (kept ++ (simpleF st c).getD []) st (.bool (simpleF st c).isSome)) := by
 have HP := Lib.hid (fun W => passes_c c h0 W)
 have c6 : w.cell? ⟨g, 6, none⟩ = some (.pointer (some ⟨t, 0, none⟩)) := h.blk.cell rfl
 have c8 : w.cell? ⟨g, 8, none⟩ = some (.int .i64 st.active) := h.blk.cell rfl
 cases hp : passesF c with
 | true =>
  rw [hp] at HP
  have hc256 : c % 256 = c := by
   unfold passesF at hp
   simp at hp
   omega
  have hR : Hid (simpleF st c = some [c]) := Lib.hid (by unfold simpleF; rw [if_pos hp])
  have hkk := xkeep_c h [c] (by simp) (by omega)
  simp only [nums, List.map_cons, List.map_nil, List.length_cons, List.length_nil, Nat.zero_add, Nat.reduceAdd] at hkk
  have HK := Lib.hid hkk
  clear hkk
  clear h hok hp
  go_enter Tryz.func164, Tryz.ntmps164
  go_wp2_with (go_at_call 174; refine (HP.out _).mono ?_; rintro e w1 ⟨rfl, hw1⟩; obtain rfl := hw1.symm; clear hw1)
  refine HK.out.mono ?_
  rintro e w1 ⟨rfl, hc, he⟩
  have HF := Lib.hid (And.intro hc he)
  clear hc he
  go_wp2_with fail
  go_ret
  rw [hR.out]
  exact ⟨rfl, HF.out⟩
 | false =>
  rw [hp] at HP
  have hpn : ¬ passesF c = true := by rw [hp]; decide
  clear hp
  by_cases a : c < 32
  ·have hc256 : c % 256 = c := by omega
   have hR : Hid (simpleF st c = some [1, c]) := Lib.hid (by unfold simpleF; rw [if_neg hpn, if_pos a])
   have hkk := xkeep_c h [1, c] (by simp) (by omega)
   simp only [nums, List.map_cons, List.map_nil, List.length_cons, List.length_nil, Nat.zero_add, Nat.reduceAdd] at hkk
   have HK := Lib.hid hkk
   clear hkk
   clear h hok hpn
   go_enter Tryz.func164, Tryz.ntmps164
   go_wp2_with (go_at_call 174; refine (HP.out _).mono ?_; rintro e w1 ⟨rfl, hw1⟩; obtain rfl := hw1.symm; clear hw1)
   refine HK.out.mono ?_
   rintro e w1 ⟨rfl, hc, he⟩
   have HF := Lib.hid (And.intro hc he)
   clear hc he
   go_wp2_with fail
   go_ret
   rw [hR.out]
   exact ⟨rfl, HF.out⟩
  ·obtain ⟨m, hm⟩ : ∃ m : Nat, st.active = m := ⟨st.active.toNat, by have := hok.act; omega⟩
   have hm8 : m < 8 := by have := hok.act; omega
   have hat := fun (W : World) (hW : WinAt W t st.offs st.used) => winat_c hW m hm8
   have ho := hok.off m hm8
   rw [hm] at c8
   have HWIN := Lib.hid h.win
   have HHL := Lib.hid (fun W => holds_c (st.offs.getD m 0) c ho.1 h0 (by omega) W)
   cases hh : holdsF (st.offs.getD m 0) c with
   | true =>
    have hhe := xheld_c h hok m hm8 c h1 hh
    have hR : Hid (simpleF st c = some [128 + (c - st.offs.getD m 0)]) := Lib.hid (by unfold simpleF; rw [if_neg hpn, if_neg a, hm, Int.toNat_natCast, if_pos hh])
    rw [hh] at HHL
    obtain ⟨X, hX⟩ : ∃ X, 128 + (c - st.offs.getD m 0) = X := ⟨_, rfl⟩
    rw [hX] at hhe hR
    have HHE := Lib.hid hhe
    have HAT := Lib.hid hat
    have HE0 := Lib.hid (fun (W : World) (hW : Eff w W (fun _ => False)) => h.eff hW (fun h => h) (fun h => h))
    have HCW := Lib.hid h
    have HK : Hid (∀ W, CW plain W g t d kept st → Calls Tryz.prog 162 #[.pointer (some ⟨g, 0, none⟩), .slice (some ⟨W.heap.size, 0, none⟩) 1 1] (W.alloc (.cells #[.int .u8 X] 5 (0, 0))) fun e w' => e = .returned (.tuple #[]) ∧ CW plain w' g t d (kept ++ [X]) st ∧ Eff W w' (fun k => k = g ∨ k = t)) := Lib.hid fun W hW => xkeep_c hW [X] (by simp) (by omega)
    have HOK := Lib.hid hok
    have HHH := Lib.hid hh
    have HXX := Lib.hid hX
    clear h hok hpn hat hhe hX hh ho
    go_enter Tryz.func164, Tryz.ntmps164
    go_upto_region 6 with (go_at_call 174; refine (HP.out _).mono ?_; rintro e w1 ⟨rfl, hw1⟩; obtain rfl := hw1.symm; clear hw1)
    go_cut [21] (fun s21 wx => s21 = .bool true ∧ ∃ W0, wx = W0 ∧ Hid (Eff w W0 (fun _ => False)))
    case first =>
     go_region_with (first
      | (go_at_call 176; refine (HAT.out _ (by first | exact HWIN.out | exact ⟨HWIN.out.1.drewN 1, HWIN.out.2⟩)).mono ?_; rintro e w1 ⟨rfl, hw1⟩; obtain rfl := hw1.symm; clear hw1)
      | (go_at_call 175; refine (HHL.out _).mono ?_; rintro e w2 ⟨rfl, hw2⟩; obtain rfl := hw2.symm; clear hw2))
     all_goals (go_wp2_with fail; go_meet)
     all_goals exact ⟨rfl, _, rfl, Lib.hid (by first | exact Eff.refl _ _ | exact Eff.drewN _ 1 _ | exact Eff.drewN _ 2 _)⟩
    case rest =>
     obtain ⟨rfl, W0, hw0, HEW⟩ := hcut
     obtain rfl := hw0.symm
     have hcw := HE0.out W0 HEW.out
     have d8 : W0.cell? ⟨g, 8, none⟩ = some (.int .i64 m) := by have : W0.cell? ⟨g, 8, none⟩ = some (.int .i64 st.active) := hcw.blk.cell rfl; rw [this, hm]
     have HHE2 : Hid (Calls Tryz.prog 177 #[.pointer (some ⟨g, 0, none⟩), .int .i64 m, .int .u32 c] W0 fun e w' => e = .returned (.int .u8 X) ∧ w' = W0) := Lib.hid (by
      have := xheld_c hcw HOK.out m hm8 c h1 HHH.out
      rw [HXX.out] at this
      exact this)
     have HK0 := Lib.hid (HK.out W0 hcw)
     clear hcw hw0 HE0 HHE HK
     go_wp2_with (go_at_call 177; refine HHE2.out.mono ?_; rintro e w1 ⟨rfl, hw1⟩; obtain rfl := hw1.symm; clear hw1)
     refine HK0.out.mono ?_
     rintro e w1 ⟨rfl, hc, he⟩
     have HF := Lib.hid (And.intro hc ((HEW.out.mono fun _ _ h => h.elim).trans he (fun _ _ h => h)))
     clear hc he
     go_wp2_with fail
     go_ret
     rw [hR.out]
     exact ⟨rfl, HF.out⟩
   | false =>
    have hR : Hid (simpleF st c = none) := Lib.hid (by unfold simpleF; rw [if_neg hpn, if_neg a, hm, Int.toNat_natCast, if_neg (by rw [hh]; decide)])
    rw [hh] at HHL
    have HAT := Lib.hid hat
    have HE0 := Lib.hid (fun (W : World) (hW : Eff w W (fun _ => False)) => h.eff hW (fun h => h) (fun h => h))
    clear h hok hpn hat hh ho
    go_enter Tryz.func164, Tryz.ntmps164
    go_upto_region 6 with (go_at_call 174; refine (HP.out _).mono ?_; rintro e w1 ⟨rfl, hw1⟩; obtain rfl := hw1.symm; clear hw1)
    go_cut [21] (fun s21 wx => s21 = .bool false ∧ ∃ W0, wx = W0 ∧ Hid (Eff w W0 (fun _ => False)))
    case first =>
     go_region_with (first
      | (go_at_call 176; refine (HAT.out _ (by first | exact HWIN.out | exact ⟨HWIN.out.1.drewN 1, HWIN.out.2⟩)).mono ?_; rintro e w1 ⟨rfl, hw1⟩; obtain rfl := hw1.symm; clear hw1)
      | (go_at_call 175; refine (HHL.out _).mono ?_; rintro e w2 ⟨rfl, hw2⟩; obtain rfl := hw2.symm; clear hw2))
     all_goals (go_wp2_with fail; go_meet)
     all_goals exact ⟨rfl, _, rfl, Lib.hid (by first | exact Eff.refl _ _ | exact Eff.drewN _ 1 _ | exact Eff.drewN _ 2 _)⟩
    case rest =>
     obtain ⟨rfl, W0, hw0, HEW⟩ := hcut
     obtain rfl := hw0.symm
     have HCW := Lib.hid (HE0.out W0 HEW.out)
     clear hw0 HE0
     go_wp2_with fail
     go_ret
     rw [hR.out]
     exact ⟨rfl, by rw [show kept ++ (none : Option (List Int)).getD [] = kept from List.append_nil _]; exact HCW.out, HEW.out.mono fun _ _ h => h.elim⟩
end
theorem own_holds {c x : Int} (h0 : 0 ≤ c) (h1 : c ≤ 1114111) (h : ownF c = some x) : holdsF x c = true := by
 have hold : ∀ y : Int, y ≤ c → c - y < 128 → holdsF y c = true := fun y a b => decide_eq_true ⟨a, b⟩
 unfold ownF at h
 split at h
 ·injection h with h; exact hold x (by omega) (by omega)
 ·cases hi : indexF c with
  | none => rw [hi] at h; cases h
  | some y =>
   rw [hi] at h
   have h2 : offsetF y = some x := h
   unfold indexF at hi
   split at hi
   ·rename_i i hs
    have hh : ∀ k i, specN c k = some i → i < 7 ∧ holdsF (specials.getD i 0) c = true := by
     intro k
     induction k with
     | zero => intro i h; cases h
     | succ k ih =>
      intro i h
      unfold specN at h
      split at h
      ·rename_i hv; injection h with h; subst h; exact ⟨by omega, hv⟩
      ·exact ih i h
    have hv := hh 7 i hs
    injection hi with hi
    subst hi
    unfold offsetF at h2
    rw [if_neg (by omega), if_neg (by omega), if_neg (by omega)] at h2
    injection h2 with h2
    rw [show ((249 + (i : Int)) - 249).toNat = i by omega] at h2
    rw [← h2]
    exact hv.2
   ·split at hi
    ·injection hi with hi
     subst hi
     unfold offsetF at h2
     rw [if_neg (by omega), if_pos (by omega)] at h2
     injection h2 with h2
     exact hold x (by omega) (by omega)
    ·split at hi
     ·injection hi with hi
      subst hi
      unfold offsetF at h2
      rw [if_neg (by omega), if_neg (by omega), if_pos (by omega)] at h2
      injection h2 with h2
      exact hold x (by omega) (by omega)
     ·cases hi
theorem own_index {c x : Int} (h : ownF c = some x) (hc : ¬ 65536 ≤ c) : ∃ y, indexF c = some y := by
 unfold ownF at h
 rw [if_neg hc] at h
 cases hi : indexF c with
 | none => rw [hi] at h; cases h
 | some y => exact ⟨y, rfl⟩
def layB (st : SC) (c ix pr x : Int) : List Int :=
 (if 65536 ≤ c then [pr, st.used.getD 0 0 * 32 + (c - 65536) / 128 / 256, (c - 65536) / 128 % 256] else [ix + st.used.getD 0 0, (indexF c).getD 0]) ++ [128 + (c - x)]
def layS (st : SC) (x : Int) : SC := { useF { st with offs := st.offs.set (st.used.getD 0 0).toNat x } (st.used.getD 0 0) with uni := false }
theorem OKC.setoff {st : SC} (h : OKC st) (n : Nat) (x : Int) (hx : 0 ≤ x ∧ x ≤ 1114111) : OKC { st with offs := st.offs.set n x } := by
 have hr : ∀ y ∈ st.offs.set n x, 0 ≤ y ∧ y ≤ 1114111 := fun y hy => by
  rcases List.mem_or_eq_of_mem_set hy with hy | rfl
  ·exact h.rng y hy
  ·exact hx
 exact { h with len := (List.length_set ..).trans h.len, rng := hr }
theorem OKC.first {st : SC} (h : OKC st) : 0 ≤ st.used.getD 0 0 ∧ st.used.getD 0 0 < 8 := by
 rw [List.getD_eq_getElem?_getD, List.getElem?_eq_getElem (by rw [h.len2]; decide)]
 exact h.bnd _ (List.getElem_mem _)
theorem OKC.lay {st : SC} (h : OKC st) (x : Int) (hx : 0 ≤ x ∧ x ≤ 1114111) : OKC (layS st x) := by
 have hf := h.first
 have h1 := (h.setoff (st.used.getD 0 0).toNat x hx).use (st.used.getD 0 0) hf.1 hf.2
 exact { h1 with len := h1.len }
section
variable {plain : Bool} {w : World} {g t : Nat} {d : DC} {kept : List Int} {st : SC}
set_option maxRecDepth 100000 in
set_option maxHeartbeats 8000000 in
theorem xlay_c (h : CW plain w g t d kept st) (hok : OKC st) (hk : kept.length ≤ 100000900) (c ix pr x : Int) (h0 : 0 ≤ c) (h1 : c ≤ 1114111) (hix : (ix = 24 ∧ pr = 11) ∨ (ix = 232 ∧ pr = 241)) (ho : ownF c = some x) :
  Calls Tryz.prog 172 #[.pointer (some ⟨g, 0, none⟩), .int .u32 c, .int .u8 ix, .int .u8 pr] w (CP plain w g t d (kept ++ layB st c ix pr x) (layS st x) (.tuple #[])) := by
 have hxr := ownF_rng h0 h1 ho
 have hho := own_holds h0 h1 ho
 have hf := hok.first
 obtain ⟨n, hn⟩ : ∃ n : Nat, st.used.getD 0 0 = n := ⟨(st.used.getD 0 0).toNat, by omega⟩
 have hn8 : n < 8 := by omega
 have hn0 : (0 : Int) ≤ (n : Int) := by omega
 have hn7 : (n : Int) < 8 := by omega
 have hn256 : (n : Int) % 256 = n := by omega
 have c6 : w.cell? ⟨g, 6, none⟩ = some (.pointer (some ⟨t, 0, none⟩)) := h.blk.cell rfl
 have hold := oldest_c h.win
 rw [hn] at hold
 have HOLD := Lib.hid hold
 have hown := fun W => own_c c h0 h1 W
 have hsb : (ownF c).isSome = true := by rw [ho]; rfl
 have hgd : (ownF c).getD 0 = x := by rw [ho]; rfl
 rw [hgd, hsb] at hown
 have HOWN := Lib.hid hown
 have hrest : ∀ (W : World) (kp : List Int), CW plain W g t d kp st → kp.length ≤ 100000950 → Calls Tryz.prog 184 #[.pointer (some ⟨t, 0, none⟩), .int .i64 n, .int .u32 x] W fun e w' => e = .returned (.tuple #[]) ∧ CW plain w' g t d kp { st with offs := st.offs.set n x } ∧ Eff W w' (fun k => k = g ∨ k = t) := fun W kp hW _ => by
  refine (winset_c hW.win n hn8 x).mono ?_
  rintro e w' ⟨rfl, rfl⟩
  exact ⟨rfl, ⟨hW.blk.far hW.ne _, hW.win.set n hn8 x, hW.ne⟩, (Eff.set _ _ _ _).mono fun k _ e => .inr e⟩
 have hok2 := hok.setoff n x hxr
 have huse : ∀ (W : World) (kp : List Int), CW plain W g t d kp { st with offs := st.offs.set n x } → Calls Tryz.prog 170 #[.pointer (some ⟨g, 0, none⟩), .int .i64 n] W (CP plain W g t d kp (useF { st with offs := st.offs.set n x } n) (.tuple #[])) := fun W kp hW => xuse_c hW hok2 n hn0 hn7
 have hok3 := hok2.use (n : Int) hn0 hn7
 have hge : (st.offs.set n x).getD n 0 = x := by
  rw [List.getD_eq_getElem?_getD, List.getElem?_set_self (by rw [hok.len]; exact hn8)]; rfl
 have hheld : ∀ (W : World) (kp : List Int), CW plain W g t d kp { useF { st with offs := st.offs.set n x } n with uni := false } → Calls Tryz.prog 177 #[.pointer (some ⟨g, 0, none⟩), .int .i64 n, .int .u32 c] W fun e w' => e = .returned (.int .u8 (128 + (c - x))) ∧ w' = W := fun W kp hW => by
  have hok4 : OKC { useF { st with offs := st.offs.set n x } n with uni := false } := { hok3 with len := hok3.len }
  have := xheld_c hW hok4 n hn8 c h1 (by show holdsF ((st.offs.set n x).getD n 0) c = true; rw [hge]; exact hho)
  rw [show ({ useF { st with offs := st.offs.set n x } n with uni := false } : SC).offs.getD n 0 = x from hge] at this
  exact this
 have hst : Hid (layS st x = { useF { st with offs := st.offs.set n x } n with uni := false }) := Lib.hid (by unfold layS; rw [hn, Int.toNat_natCast])
 have HREST := Lib.hid hrest
 have HUSE := Lib.hid huse
 have HHELD := Lib.hid hheld
 have HCW := Lib.hid h
 have hfin : ∀ (W : World) (kp bs : List Int) , CW plain W g t d (kept ++ kp) st → Eff w W (fun k => k = g ∨ k = t) → kp.length ≤ 10 → bs = kp ++ [128 + (c - x)] → layB st c ix pr x = bs → True := fun _ _ _ _ _ _ _ _ => trivial
 clear hfin hold hown hsb hgd hrest huse hheld hge hok2 hok3 hho hxr hf
 by_cases a : 65536 ≤ c
 ·have HP := Lib.hid (fun W => pair_yes (n : Int) c hn0 hn7 a h1 W)
  have hb : Hid (layB st c ix pr x = [pr, (n : Int) * 32 + (c - 65536) / 128 / 256, (c - 65536) / 128 % 256, 128 + (c - x)]) := Lib.hid (by unfold layB; rw [if_pos a, hn]; rfl)
  obtain ⟨P1, hP1⟩ : ∃ P1, (n : Int) * 32 + (c - 65536) / 128 / 256 = P1 := ⟨_, rfl⟩
  obtain ⟨P2, hP2⟩ : ∃ P2, (c - 65536) / 128 % 256 = P2 := ⟨_, rfl⟩
  obtain ⟨P3, hP3⟩ : ∃ P3, 128 + (c - x) = P3 := ⟨_, rfl⟩
  rw [hP1, hP2] at HP
  rw [hP1, hP2, hP3] at hb
  rw [hP3] at HHELD
  have HK1 : Hid (∀ W, CW plain W g t d kept st → Calls Tryz.prog 162 #[.pointer (some ⟨g, 0, none⟩), .slice (some ⟨W.heap.size, 0, none⟩) 3 3] (W.alloc (.cells #[.int .u8 pr, .int .u8 P1, .int .u8 P2] 5 (0, 0))) fun e w' => e = .returned (.tuple #[]) ∧ CW plain w' g t d (kept ++ [pr, P1, P2]) st ∧ Eff W w' (fun k => k = g ∨ k = t)) := Lib.hid fun W hW => xkeep_c hW [pr, P1, P2] (by simp) (by omega)
  have HK2 : Hid (∀ W, CW plain W g t d (kept ++ [pr, P1, P2]) { useF { st with offs := st.offs.set n x } n with uni := false } → Calls Tryz.prog 162 #[.pointer (some ⟨g, 0, none⟩), .slice (some ⟨W.heap.size, 0, none⟩) 1 1] (W.alloc (.cells #[.int .u8 P3] 5 (0, 0))) fun e w' => e = .returned (.tuple #[]) ∧ CW plain w' g t d ((kept ++ [pr, P1, P2]) ++ [P3]) { useF { st with offs := st.offs.set n x } n with uni := false } ∧ Eff W w' (fun k => k = g ∨ k = t)) := Lib.hid fun W hW => xkeep_c hW [P3] (by simp) (by rw [List.length_append]; simp; omega)
  clear h hok hP1 hP2 hP3
  go_enter Tryz.func172, Tryz.ntmps172
  go_wp2_with (go_at_call 181; refine HOLD.out.mono ?_; rintro e w1 ⟨rfl, hw1⟩; obtain rfl := hw1.symm; clear hw1)
  refine (HOWN.out _).mono ?_
  rintro e w1 ⟨rfl, hb1⟩
  have hc1 := HCW.out.below hb1
  have HE1 := Lib.hid (Eff.of_below hb1 (fun k => k = g ∨ k = t))
  have HKA := Lib.hid (HK1.out w1 hc1)
  clear hb1 hc1
  go_wp2_with (go_at_call 182; refine (HP.out _).mono ?_; rintro e w2 ⟨rfl, hw2⟩; obtain rfl := hw2.symm; clear hw2)
  refine HKA.out.mono ?_
  rintro e w2 ⟨rfl, hc, he⟩
  have e6 : w2.cell? ⟨g, 6, none⟩ = some (.pointer (some ⟨t, 0, none⟩)) := hc.blk.cell rfl
  have HS := Lib.hid (HREST.out w2 _ hc (by rw [List.length_append]; simp; omega))
  have HE2 := Lib.hid (HE1.out.trans he (fun _ _ h => h))
  clear hc he c6
  go_wp2_with fail
  refine HS.out.mono ?_
  rintro e w3 ⟨rfl, hc, he⟩
  have HE3 := Lib.hid (HE2.out.trans he (fun _ _ h => h))
  have HU := Lib.hid (HUSE.out w3 _ hc)
  clear hc he
  go_wp2_with fail
  refine HU.out.mono ?_
  rintro e w4 ⟨rfl, hc, he⟩
  obtain ⟨k1, e1⟩ := hc.set 7 (.bool false) (st1 := { useF { st with offs := st.offs.set n x } n with uni := false }) rfl rfl rfl
  have c7 : w4.cell? ⟨g, 7, none⟩ = some (.bool (useF { st with offs := st.offs.set n x } n).uni) := hc.blk.cell rfl
  have fz := hc.blk.frozen
  have HE4 := Lib.hid ((HE3.out.trans he (fun _ _ h => h)).trans e1 (fun _ _ h => h))
  obtain ⟨w5, hw5⟩ : ∃ W, w4.setCell ⟨g, 7, none⟩ (.bool false) = W := ⟨_, rfl⟩
  rw [hw5] at k1 HE4
  have HH := Lib.hid (HHELD.out w5 _ k1)
  have HKB := Lib.hid (HK2.out w5 k1)
  clear hc he k1 e1
  go_upto_region 10 with fail
  try rw [hw5]
  clear hw5 c7 fz
  go_wp2_with (go_at_call 177; refine HH.out.mono ?_; rintro e w5b ⟨rfl, hw5⟩; obtain rfl := hw5.symm; clear hw5)
  refine HKB.out.mono ?_
  rintro e w6 ⟨rfl, hc, he⟩
  have HF := Lib.hid (And.intro hc (HE4.out.trans he (fun _ _ h => h)))
  clear hc he
  go_wp2_with fail
  exact bodyPost_end (v := .tuple #[]) (by simp [results, Tryz.results172, go_sem]) rfl ⟨rfl, by rw [hb.out, hst.out]; have := HF.out.1; rw [List.append_assoc] at this; exact this, HF.out.2⟩
 ·have HP := Lib.hid (fun W => pair_no (n : Int) c hn0 hn7 (by omega) W)
  obtain ⟨y, hy⟩ := own_index ho a
  have hyr := indexF_byte h0 hy
  have HI0 := fun W => index_c c h0 h1 W
  rw [hy] at HI0
  have HI : Hid (∀ W, Calls Tryz.prog 183 #[.int .u32 c] W fun e w' => e = .returned (.tuple #[.int .u8 y, .bool true]) ∧ Below W.heap.size W w') := Lib.hid HI0
  have hb : Hid (layB st c ix pr x = [ix + (n : Int), y, 128 + (c - x)]) := Lib.hid (by unfold layB; rw [if_neg a, hn, hy]; rfl)
  have hi1 : 0 ≤ ix + (n : Int) := by omega
  have hi2 : ix + (n : Int) < 256 := by omega
  have hi3 : (ix + (n : Int)) % 256 = ix + (n : Int) := by omega
  have v8 : IntKind.u8.wrap (ix + (n : Int)) = ix + (n : Int) := wraps_u8 _ hi1 hi2
  obtain ⟨P3, hP3⟩ : ∃ P3, 128 + (c - x) = P3 := ⟨_, rfl⟩
  rw [hP3] at hb
  rw [hP3] at HHELD
  have HK1 : Hid (∀ W, CW plain W g t d kept st → Calls Tryz.prog 162 #[.pointer (some ⟨g, 0, none⟩), .slice (some ⟨W.heap.size, 0, none⟩) 2 2] (W.alloc (.cells #[.int .u8 (ix + (n : Int)), .int .u8 y] 5 (0, 0))) fun e w' => e = .returned (.tuple #[]) ∧ CW plain w' g t d (kept ++ [ix + (n : Int), y]) st ∧ Eff W w' (fun k => k = g ∨ k = t)) := Lib.hid fun W hW => xkeep_c hW [ix + (n : Int), y] (by simp) (by omega)
  have HK2 : Hid (∀ W, CW plain W g t d (kept ++ [ix + (n : Int), y]) { useF { st with offs := st.offs.set n x } n with uni := false } → Calls Tryz.prog 162 #[.pointer (some ⟨g, 0, none⟩), .slice (some ⟨W.heap.size, 0, none⟩) 1 1] (W.alloc (.cells #[.int .u8 P3] 5 (0, 0))) fun e w' => e = .returned (.tuple #[]) ∧ CW plain w' g t d ((kept ++ [ix + (n : Int), y]) ++ [P3]) { useF { st with offs := st.offs.set n x } n with uni := false } ∧ Eff W w' (fun k => k = g ∨ k = t)) := Lib.hid fun W hW => xkeep_c hW [P3] (by simp) (by rw [List.length_append]; simp; omega)
  clear h hok hP3 hy hyr HI0
  go_enter Tryz.func172, Tryz.ntmps172
  go_wp2_with (go_at_call 181; refine HOLD.out.mono ?_; rintro e w1 ⟨rfl, hw1⟩; obtain rfl := hw1.symm; clear hw1)
  refine (HOWN.out _).mono ?_
  rintro e w1 ⟨rfl, hb1⟩
  have HC1 := Lib.hid (HCW.out.below hb1)
  have HE0 := Lib.hid hb1
  clear hb1
  go_wp2_with (go_at_call 182; refine (HP.out _).mono ?_; rintro e w2 ⟨rfl, hw2⟩; obtain rfl := hw2.symm; clear hw2)
  refine (HI.out _).mono ?_
  rintro e w1b ⟨rfl, hb1⟩
  have hc1 := HC1.out.below hb1
  have HE1 := Lib.hid (Eff.of_below (below_next HE0.out hb1) (fun k => k = g ∨ k = t))
  have HKA := Lib.hid (HK1.out w1b hc1)
  clear hb1 hc1
  go_wp2_with fail
  refine HKA.out.mono ?_
  rintro e w2 ⟨rfl, hc, he⟩
  have e6 : w2.cell? ⟨g, 6, none⟩ = some (.pointer (some ⟨t, 0, none⟩)) := hc.blk.cell rfl
  have HS := Lib.hid (HREST.out w2 _ hc (by rw [List.length_append]; simp; omega))
  have HE2 := Lib.hid (HE1.out.trans he (fun _ _ h => h))
  clear hc he c6
  go_wp2_with fail
  refine HS.out.mono ?_
  rintro e w3 ⟨rfl, hc, he⟩
  have HE3 := Lib.hid (HE2.out.trans he (fun _ _ h => h))
  have HU := Lib.hid (HUSE.out w3 _ hc)
  clear hc he
  go_wp2_with fail
  refine HU.out.mono ?_
  rintro e w4 ⟨rfl, hc, he⟩
  obtain ⟨k1, e1⟩ := hc.set 7 (.bool false) (st1 := { useF { st with offs := st.offs.set n x } n with uni := false }) rfl rfl rfl
  have c7 : w4.cell? ⟨g, 7, none⟩ = some (.bool (useF { st with offs := st.offs.set n x } n).uni) := hc.blk.cell rfl
  have fz := hc.blk.frozen
  have HE4 := Lib.hid ((HE3.out.trans he (fun _ _ h => h)).trans e1 (fun _ _ h => h))
  obtain ⟨w5, hw5⟩ : ∃ W, w4.setCell ⟨g, 7, none⟩ (.bool false) = W := ⟨_, rfl⟩
  rw [hw5] at k1 HE4
  have HH := Lib.hid (HHELD.out w5 _ k1)
  have HKB := Lib.hid (HK2.out w5 k1)
  clear hc he k1 e1
  go_upto_region 10 with fail
  try rw [hw5]
  clear hw5 c7 fz
  go_wp2_with (go_at_call 177; refine HH.out.mono ?_; rintro e w5b ⟨rfl, hw5⟩; obtain rfl := hw5.symm; clear hw5)
  refine HKB.out.mono ?_
  rintro e w6 ⟨rfl, hc, he⟩
  have HF := Lib.hid (And.intro hc (HE4.out.trans he (fun _ _ h => h)))
  clear hc he
  go_wp2_with fail
  exact bodyPost_end (v := .tuple #[]) (by simp [results, Tryz.results172, go_sem]) rfl ⟨rfl, by rw [hb.out, hst.out]; have := HF.out.1; rw [List.append_assoc] at this; exact this, HF.out.2⟩
end
def singleF (st : SC) (c d : Int) : SC × List Int :=
 match simpleF st c with
 | some b => (st, b)
 | none => match findF st.offs c with
  | some n => if d ≠ NOC ∧ holdsF (st.offs.getD n 0) d = true then ({ st with used := touchF st.used n, active := n }, [16 + (n : Int), 128 + (c - st.offs.getD n 0)])
   else ({ st with used := touchF st.used n }, [1 + (n : Int), 128 + (c - st.offs.getD n 0)])
  | none =>
   if twinsF c d = false ∧ (statF c).isSome = true then (st, [1 + (((statF c).getD 0 : Nat) : Int), c - statV c])
   else if twinsF c d = true ∨ (65536 ≤ c ∧ softF st d = true) then (layS st ((ownF c).getD 0), layB st c 24 11 ((ownF c).getD 0))
   else if c < 65536 ∧ (softF st d = true ∨ taggedF c = true) then (st, [14, c / 256, c % 256])
   else doubleF st c
def workF (plain : Bool) (st0 : SC) (c d : Int) : SC × List Int :=
 let st : SC := { st0 with behind := true }
 if st0.behind = false ∧ c = 65279 then (st, [14, 254, 255])
 else if plain = true then
  if st0.uni = true then (st, unitsF c) else match simpleF st c with
   | some b => (st, b)
   | none => doubleF st c
 else if st0.uni = false then singleF st c d
 else if easyF st c = true ∧ softF st d = true then
  let st1 : SC := { useF st (match findF st.offs c with | some n => (n : Int) | none => st.active) with uni := false }
  (st1, [224 + st1.active] ++ (simpleF st1 c).getD [])
 else if twinsF c d = true then (layS st ((ownF c).getD 0), layB st c 232 241 ((ownF c).getD 0))
 else (st, unitsF c)
theorem twins_own {c d : Int} (h : twinsF c d = true) : ∃ x, ownF c = some x := by
 unfold twinsF at h
 cases ho : ownF c with
 | none => rw [ho] at h; cases h
 | some x => exact ⟨x, rfl⟩
theorem own_high {c : Int} (h : 65536 ≤ c) : ∃ x, ownF c = some x := ⟨_, by unfold ownF; rw [if_pos h]⟩
section
variable {plain : Bool} {w : World} {g t : Nat} {d : DC} {kept : List Int} {st : SC}
set_option maxRecDepth 100000 in
set_option maxHeartbeats 8000000 in
theorem xsingle_c' (h : CW plain w g t d kept st) (hok : OKC st) (hk : kept.length ≤ 100000800) (c e : Int) (h0 : 0 ≤ c) (h1 : c ≤ 1114111) (e0 : 0 ≤ e) (e1 : e < 4294967296) :
  Calls Tryz.prog 166 #[.pointer (some ⟨g, 0, none⟩), .int .u32 c, .int .u32 e] w (CP plain w g t d (kept ++ (singleF st c e).2) (singleF st c e).1 (.tuple #[])) := by
 have HS := Lib.hid (xsimple_c h hok (by omega) c h0 h1)
 have hc2 : c < 4294967296 := by omega
 cases hs : simpleF st c with
 | some b =>
  rw [hs] at HS
  have hR : Hid (singleF st c e = (st, b)) := Lib.hid (by unfold singleF; rw [hs])
  clear h hok hs
  go_enter Tryz.func166, Tryz.ntmps166
  go_wp2_with (go_at_call 164; refine HS.out.mono ?_; rintro e w1 ⟨rfl, hc, he⟩; have HF := Lib.hid (And.intro hc he); clear hc he)
  exact bodyPost_ret (v := .tuple #[]) (by simp [results, Tryz.results166, go_sem]) rfl ⟨rfl, by rw [hR.out]; exact HF.out.1, HF.out.2⟩
 | none =>
  rw [hs] at HS
  have HS0 : Hid (Calls Tryz.prog 164 #[.pointer (some ⟨g, 0, none⟩), .int .u32 c] w (CP plain w g t d kept st (.bool false))) := Lib.hid (by have := HS.out; rw [show kept ++ (none : Option (List Int)).getD [] = kept from List.append_nil _] at this; exact this)
  clear HS
  have hfd := fun (W : World) (hW : CW plain W g t d kept st) => find_c hW.win hok.nn c h0 hc2
  have HNX : Hid (∀ W, CW plain W g t d kept st → W.cell? ⟨g, 6, none⟩ = some (.pointer (some ⟨t, 0, none⟩))) := Lib.hid fun W hW => hW.blk.cell rfl
  have HOK := Lib.hid hok
  cases hf : findF st.offs c with
  | some n =>
   rw [hf] at hfd
   have hn := findN_lt st.offs c 8 n hf
   have hn8 := hn.1
   have hnh := hn.2
   have hn0 : (0 : Int) ≤ (n : Int) := by omega
   have hn7 : (n : Int) < 8 := by omega
   have hn256 : (n : Int) % 256 = n := by omega
   have w16 : IntKind.u8.wrap (16 + (n : Int)) = 16 + (n : Int) := wraps_u8 _ (by omega) (by omega)
   have w1' : IntKind.u8.wrap (1 + (n : Int)) = 1 + (n : Int) := wraps_u8 _ (by omega) (by omega)
   have ho := hok.off n hn8
   have HFD := Lib.hid hfd
   have hok1 : OKC { st with used := touchF st.used n } := hok.touch n hn0 hn7
   have HTO : Hid (∀ W, CW plain W g t d kept st → Calls Tryz.prog 178 #[.pointer (some ⟨t, 0, none⟩), .int .i64 n] W fun e w' => e = .returned (.tuple #[]) ∧ CW plain w' g t d kept { st with used := touchF st.used n } ∧ Eff W w' (fun k => k = g ∨ k = t)) := Lib.hid fun W hW => by
    refine (touch_c hW.win n hn0 hn7 (hok.all n hn0 hn7)).mono ?_
    rintro e w' ⟨rfl, hwin, he⟩
    exact ⟨rfl, hW.win_of hwin he, he.mono fun k _ h => .inr h⟩
   have HAT : Hid (∀ W, CW plain W g t d kept { st with used := touchF st.used n } → Calls Tryz.prog 176 #[.pointer (some ⟨t, 0, none⟩), .int .i64 n] W fun e w' => e = .returned (.int .u32 (st.offs.getD n 0)) ∧ w' = W) := Lib.hid fun W hW => winat_c hW.win n hn8
   have HHO := Lib.hid (fun W => holds_c (st.offs.getD n 0) e ho.1 e0 e1 W)
   have HHE : Hid (∀ W (s : SC), s.offs = st.offs → OKC s → CW plain W g t d kept s → Calls Tryz.prog 177 #[.pointer (some ⟨g, 0, none⟩), .int .i64 n, .int .u32 c] W fun e w' => e = .returned (.int .u8 (128 + (c - st.offs.getD n 0))) ∧ w' = W) := Lib.hid fun W s hs hos hW => by
    have := xheld_c hW hos n hn8 c h1 (by rw [hs]; exact hnh)
    rw [hs] at this
    exact this
   have HKE : Hid (∀ (a b : Int) W s, CW plain W g t d kept s → Calls Tryz.prog 162 #[.pointer (some ⟨g, 0, none⟩), .slice (some ⟨W.heap.size, 0, none⟩) 2 2] (W.alloc (.cells #[.int .u8 a, .int .u8 b] 5 (0, 0))) fun e w' => e = .returned (.tuple #[]) ∧ CW plain w' g t d (kept ++ [a, b]) s ∧ Eff W w' (fun k => k = g ∨ k = t)) := Lib.hid fun a b W s hW => xkeep_c hW [a, b] (by simp) (by omega)
   have hRs : singleF st c e = (if e ≠ NOC ∧ holdsF (st.offs.getD n 0) e = true then ({ st with used := touchF st.used n, active := n }, [16 + (n : Int), 128 + (c - st.offs.getD n 0)]) else ({ st with used := touchF st.used n }, [1 + (n : Int), 128 + (c - st.offs.getD n 0)])) := by
    unfold singleF; rw [hs]; show (match findF st.offs c with | some n => _ | none => _) = _; rw [hf]
   obtain ⟨A, hA⟩ : ∃ A, st.offs.getD n 0 = A := ⟨_, rfl⟩
   obtain ⟨X, hX⟩ : ∃ X, 128 + (c - A) = X := ⟨_, rfl⟩
   rw [hA] at HAT HHO HHE hRs
   rw [hX] at HHE hRs
   have HRS := Lib.hid hRs
   have HOK1 := Lib.hid hok1
   clear h hok hs hf hfd hn hnh ho hok1 hA hX hRs
   go_enter Tryz.func166, Tryz.ntmps166
   go_upto_region 3 with (first
    | (go_at_call 164; refine HS0.out.mono ?_; rintro e w1 ⟨rfl, hc, he⟩; have c6 := HNX.out w1 hc; have HF := Lib.hid (And.intro hc he); have HFD1 := Lib.hid (HFD.out w1 hc); have HT1 := Lib.hid (HTO.out w1 hc); clear hc he)
    | (go_at_call 169; refine HFD1.out.mono ?_; rintro e w2 ⟨rfl, hw2⟩; obtain rfl := hw2.symm; clear hw2))
   go_wp2_with fail
   refine HT1.out.mono ?_
   rintro e2 w2 ⟨rfl, hc, he⟩
   have d6 : w2.cell? ⟨g, 6, none⟩ = some (.pointer (some ⟨t, 0, none⟩)) := hc.blk.cell rfl
   have d8 : w2.cell? ⟨g, 8, none⟩ = some (.int .i64 st.active) := hc.blk.cell rfl
   have fz := hc.blk.frozen
   have HAT2 := Lib.hid (HAT.out w2 hc)
   have HC2 := Lib.hid hc
   have HE2 := Lib.hid (HF.out.2.trans he (fun _ _ h => h))
   clear hc he HT1 HFD1 HF c6 HAT
   by_cases hq : e ≠ NOC ∧ holdsF A e = true
   ·have hq1 : (e != 2147483648) = true := by simpa using hq.1
    have hq2 := hq.2
    rw [hq2] at HHO
    have hR : Hid (singleF st c e = ({ st with used := touchF st.used n, active := n }, [16 + (n : Int), X])) := Lib.hid (by rw [HRS.out, if_pos hq])
    obtain ⟨k1, ee⟩ := HC2.out.set 8 (.int .i64 n) (st1 := { st with used := touchF st.used n, active := n }) rfl rfl rfl
    obtain ⟨w3, hw3⟩ : ∃ W, w2.setCell ⟨g, 8, none⟩ (.int .i64 n) = W := ⟨_, rfl⟩
    rw [hw3] at k1 ee
    have hok3 : OKC { st with used := touchF st.used n, active := n } := { HOK1.out with act := ⟨hn0, hn7⟩ }
    have HH3 := Lib.hid (HHE.out w3 { st with used := touchF st.used n, active := n } rfl hok3 k1)
    have HK3 := Lib.hid (HKE.out (16 + (n : Int)) X w3 _ k1)
    have HE3 := Lib.hid (HE2.out.trans ee (fun _ _ h => h))
    clear hq hq2 k1 ee hok3
    go_upto_region 6 with (first
     | (go_at_call 176; refine HAT2.out.mono ?_; rintro e2 w4 ⟨rfl, hw4⟩; obtain rfl := hw4.symm; clear hw4)
     | (go_at_call 175; refine (HHO.out _).mono ?_; rintro e2 w4 ⟨rfl, hw4⟩; obtain rfl := hw4.symm; clear hw4))
    try rw [hw3]
    clear hw3 d6 d8 fz
    go_wp2_with (go_at_call 177; refine HH3.out.mono ?_; rintro e2 w4 ⟨rfl, hw4⟩; obtain rfl := hw4.symm; clear hw4)
    refine HK3.out.mono ?_
    rintro e2 w5 ⟨rfl, hc, he⟩
    have HF := Lib.hid (And.intro hc (HE3.out.trans he (fun _ _ h => h)))
    clear hc he
    go_wp2_with fail
    exact bodyPost_ret (v := .tuple #[]) (by simp [results, Tryz.results166, go_sem]) rfl ⟨rfl, by rw [hR.out]; exact HF.out.1, HF.out.2⟩
   ·have hR : Hid (singleF st c e = ({ st with used := touchF st.used n }, [1 + (n : Int), X])) := Lib.hid (by rw [HRS.out, if_neg hq])
    have HH3 := Lib.hid (HHE.out w2 { st with used := touchF st.used n } rfl HOK1.out HC2.out)
    have HK3 := Lib.hid (HKE.out (1 + (n : Int)) X w2 _ HC2.out)
    by_cases hz : e = NOC
    ·have hq1 : (e != 2147483648) = false := by simpa using hz
     clear hq
     go_wp2_with (go_at_call 177; refine HH3.out.mono ?_; rintro e2 w4 ⟨rfl, hw4⟩; obtain rfl := hw4.symm; clear hw4)
     refine HK3.out.mono ?_
     rintro e2 w5 ⟨rfl, hc, he⟩
     have HF := Lib.hid (And.intro hc (HE2.out.trans he (fun _ _ h => h)))
     clear hc he
     go_wp2_with fail
     exact bodyPost_ret (v := .tuple #[]) (by simp [results, Tryz.results166, go_sem]) rfl ⟨rfl, by rw [hR.out]; exact HF.out.1, HF.out.2⟩
    ·have hq1 : (e != 2147483648) = true := by simpa using hz
     have hq2 : holdsF A e = false := by
      cases hv : holdsF A e with
      | true => exact absurd ⟨hz, hv⟩ hq
      | false => rfl
     rw [hq2] at HHO
     clear hq hq2
     go_wp2_with (first
      | (go_at_call 176; refine HAT2.out.mono ?_; rintro e2 w4 ⟨rfl, hw4⟩; obtain rfl := hw4.symm; clear hw4)
      | (go_at_call 175; refine (HHO.out _).mono ?_; rintro e2 w4 ⟨rfl, hw4⟩; obtain rfl := hw4.symm; clear hw4)
      | (go_at_call 177; refine HH3.out.mono ?_; rintro e2 w4 ⟨rfl, hw4⟩; obtain rfl := hw4.symm; clear hw4))
     refine HK3.out.mono ?_
     rintro e2 w5 ⟨rfl, hc, he⟩
     have HF := Lib.hid (And.intro hc (HE2.out.trans he (fun _ _ h => h)))
     clear hc he
     go_wp2_with fail
     exact bodyPost_ret (v := .tuple #[]) (by simp [results, Tryz.results166, go_sem]) rfl ⟨rfl, by rw [hR.out]; exact HF.out.1, HF.out.2⟩
  | none =>
   rw [hf] at hfd
   have HFD := Lib.hid hfd
   have HST := Lib.hid (fun W => stat_c c h0 hc2 W)
   have HTW := Lib.hid (fun W => twins_c c e h0 h1 e0 e1 W)
   have HSO : Hid (∀ W, CW plain W g t d kept st → Calls Tryz.prog 168 #[.pointer (some ⟨g, 0, none⟩), .int .u32 e] W fun x w' => x = .returned (.bool (softF st e)) ∧ w' = W) := Lib.hid fun W hW => xsoft_c hW hok e e0 e1
   have HTG := Lib.hid (fun W => tagged_c c W)
   have HDB : Hid (∀ W, CW plain W g t d kept st → Calls Tryz.prog 165 #[.pointer (some ⟨g, 0, none⟩), .int .u32 c] W (CP plain W g t d (kept ++ (doubleF st c).2) (doubleF st c).1 (.tuple #[]))) := Lib.hid fun W hW => xdouble_c' hW (by omega) c h0 h1
   have HLA : Hid (∀ W x, CW plain W g t d kept st → ownF c = some x → Calls Tryz.prog 172 #[.pointer (some ⟨g, 0, none⟩), .int .u32 c, .int .u8 24, .int .u8 11] W (CP plain W g t d (kept ++ layB st c 24 11 x) (layS st x) (.tuple #[]))) := Lib.hid fun W x hW hx => xlay_c hW hok (by omega) c 24 11 x h0 h1 (.inl ⟨rfl, rfl⟩) hx
   have HK2 : Hid (∀ (a b : Int) W, CW plain W g t d kept st → Calls Tryz.prog 162 #[.pointer (some ⟨g, 0, none⟩), .slice (some ⟨W.heap.size, 0, none⟩) 2 2] (W.alloc (.cells #[.int .u8 a, .int .u8 b] 5 (0, 0))) fun e w' => e = .returned (.tuple #[]) ∧ CW plain w' g t d (kept ++ [a, b]) st ∧ Eff W w' (fun k => k = g ∨ k = t)) := Lib.hid fun a b W hW => xkeep_c hW [a, b] (by simp) (by omega)
   have HK3 : Hid (∀ (a b f : Int) W, CW plain W g t d kept st → Calls Tryz.prog 162 #[.pointer (some ⟨g, 0, none⟩), .slice (some ⟨W.heap.size, 0, none⟩) 3 3] (W.alloc (.cells #[.int .u8 a, .int .u8 b, .int .u8 f] 5 (0, 0))) fun e w' => e = .returned (.tuple #[]) ∧ CW plain w' g t d (kept ++ [a, b, f]) st ∧ Eff W w' (fun k => k = g ∨ k = t)) := Lib.hid fun a b f W hW => xkeep_c hW [a, b, f] (by simp) (by omega)
   have hRs : singleF st c e = (if twinsF c e = false ∧ (statF c).isSome = true then (st, [1 + (((statF c).getD 0 : Nat) : Int), c - statV c])
     else if twinsF c e = true ∨ (65536 ≤ c ∧ softF st e = true) then (layS st ((ownF c).getD 0), layB st c 24 11 ((ownF c).getD 0))
     else if c < 65536 ∧ (softF st e = true ∨ taggedF c = true) then (st, [14, c / 256, c % 256])
     else doubleF st c) := by
    unfold singleF; rw [hs]; show (match findF st.offs c with | some n => _ | none => _) = _; rw [hf]
   have HRS := Lib.hid hRs
   clear h hok hs hf hfd hRs
   go_enter Tryz.func166, Tryz.ntmps166
   go_upto_region 8 with (first
    | (go_at_call 164; refine HS0.out.mono ?_; rintro e w1 ⟨rfl, hc, he⟩; have c6 := HNX.out w1 hc; have HF := Lib.hid (And.intro hc he); have HFD1 := Lib.hid (HFD.out w1 hc); clear hc he)
    | (go_at_call 169; refine HFD1.out.mono ?_; rintro e w2 ⟨rfl, hw2⟩; obtain rfl := hw2.symm; clear hw2))
   clear HFD HFD1 HS0 c6
   cases hT : twinsF c e with
   | true =>
    rw [hT] at HTW
    obtain ⟨x, hx⟩ := twins_own hT
    have hR : Hid (singleF st c e = (layS st x, layB st c 24 11 x)) := Lib.hid (by rw [HRS.out, if_neg (by rw [hT]; exact fun h => Bool.noConfusion h.1), if_pos (.inl hT), hx]; rfl)
    clear hT
    go_wp2_with (go_at_call 179; refine (HST.out _).mono ?_; rintro e2 w2 ⟨rfl, hw2⟩; obtain rfl := hw2.symm; clear hw2)
    refine (HTW.out _).mono ?_
    rintro e2 w2 ⟨rfl, hb2⟩
    have HC2 := Lib.hid (HF.out.1.below hb2)
    have HE2 := Lib.hid (HF.out.2.trans (Eff.of_below hb2 _) (fun _ _ h => h))
    clear hb2
    go_wp2_with fail
    refine (HTW.out _).mono ?_
    rintro e2 w3 ⟨rfl, hb2⟩
    have HL := Lib.hid (HLA.out w3 x (HC2.out.below hb2) hx)
    have HE3 := Lib.hid (HE2.out.trans (Eff.of_below hb2 _) (fun _ _ h => h))
    clear hb2 hx
    go_wp2_with fail
    refine HL.out.mono ?_
    rintro e2 w4 ⟨rfl, hc, he⟩
    have HFF := Lib.hid (And.intro hc (HE3.out.trans he (fun _ _ h => h)))
    clear hc he
    go_wp2_with fail
    exact bodyPost_end (v := .tuple #[]) (by simp [results, Tryz.results166, go_sem]) rfl ⟨rfl, by rw [hR.out]; exact HFF.out.1, HFF.out.2⟩
   | false =>
    rw [hT] at HTW
    cases hS : statF c with
    | some m =>
     rw [hS] at HST
     have hm := statN_is c 7 m (Nat.le_refl _) hS
     have hl := holdsF_le hm.2.2
     have hsv : statV c = statics.getD m 0 := by unfold statV; rw [hS]
     obtain ⟨V, hV⟩ : ∃ V, statics.getD m 0 = V := ⟨_, rfl⟩
     rw [hV] at hl hsv
     rw [hsv] at HST
     have hm0 : (0 : Int) ≤ (m : Int) := by omega
     have hm7 : (m : Int) < 8 := by omega
     have hm256 : (m : Int) % 256 = m := by omega
     have w1' : IntKind.u8.wrap (1 + (m : Int)) = 1 + (m : Int) := wraps_u8 _ (by omega) (by omega)
     have v1 : 0 ≤ c - V := by omega
     have v2 : c - V < 128 := by omega
     have v3 : (c - V) % 256 = c - V := by omega
     have v4 : IntKind.u32.wrap (c - V) = c - V := wraps_u32 _ v1 (by omega)
     have hR : Hid (singleF st c e = (st, [1 + (m : Int), c - V])) := Lib.hid (by rw [HRS.out, if_pos ⟨hT, by rw [hS]; rfl⟩, hS, hsv]; rfl)
     clear hT hS hm hl hsv hV
     go_wp2_with (go_at_call 179; refine (HST.out _).mono ?_; rintro e2 w2 ⟨rfl, hw2⟩; obtain rfl := hw2.symm; clear hw2)
     refine (HTW.out _).mono ?_
     rintro e2 w2 ⟨rfl, hb2⟩
     have HKK := Lib.hid (HK2.out (1 + (m : Int)) (c - V) w2 (HF.out.1.below hb2))
     have HE2 := Lib.hid (HF.out.2.trans (Eff.of_below hb2 _) (fun _ _ h => h))
     clear hb2
     go_wp2_with fail
     refine HKK.out.mono ?_
     rintro e2 w3 ⟨rfl, hc, he⟩
     have HFF := Lib.hid (And.intro hc (HE2.out.trans he (fun _ _ h => h)))
     clear hc he
     go_wp2_with fail
     exact bodyPost_end (v := .tuple #[]) (by simp [results, Tryz.results166, go_sem]) rfl ⟨rfl, by rw [hR.out]; exact HFF.out.1, HFF.out.2⟩
    | none =>
     rw [hS] at HST
     have hsv : statV c = 0 := by unfold statV; rw [hS]
     rw [hsv] at HST
     have hRr : singleF st c e = (if 65536 ≤ c ∧ softF st e = true then (layS st ((ownF c).getD 0), layB st c 24 11 ((ownF c).getD 0))
       else if c < 65536 ∧ (softF st e = true ∨ taggedF c = true) then (st, [14, c / 256, c % 256]) else doubleF st c) := by
      rw [HRS.out, if_neg (by rw [hS]; exact fun h => Bool.noConfusion h.2)]
      by_cases hq : 65536 ≤ c ∧ softF st e = true
      ·rw [if_pos (.inr hq), if_pos hq]
      ·rw [if_neg (fun h => h.elim (fun h => by rw [hT] at h; cases h) hq), if_neg hq]
     have HRR := Lib.hid hRr
     clear hT hS hsv hRr HRS
     go_wp2_with (go_at_call 179; refine (HST.out _).mono ?_; rintro e2 w2 ⟨rfl, hw2⟩; obtain rfl := hw2.symm; clear hw2)
     refine (HTW.out _).mono ?_
     rintro e2 w2 ⟨rfl, hb2⟩
     have HC2 := Lib.hid (HF.out.1.below hb2)
     have HE2 := Lib.hid (HF.out.2.trans (Eff.of_below hb2 _) (fun _ _ h => h))
     clear hb2
     go_wp2_with fail
     refine (HTW.out _).mono ?_
     rintro e2 w3 ⟨rfl, hb2⟩
     have hc3 := HC2.out.below hb2
     have HE3 := Lib.hid (HE2.out.trans (Eff.of_below hb2 _) (fun _ _ h => h))
     have HSO3 := Lib.hid (HSO.out w3 hc3)
     have HD3 := Lib.hid (HDB.out w3 hc3)
     have HL3 := Lib.hid (fun x hx => HLA.out w3 x hc3 hx)
     have HK4 := Lib.hid (HK3.out 14 (c / 256) (c % 256) w3 hc3)
     clear hb2 hc3 HSO HDB HLA HK3 HK2
     by_cases hbig : 65536 ≤ c
     ·have hb1 : c ≥ 65536 := hbig
      have hb2 : ¬ c < 65536 := by omega
      cases hso : softF st e with
      | true =>
       rw [hso] at HSO3
       obtain ⟨x, hx⟩ := own_high hbig
       have HL4 := Lib.hid (HL3.out x hx)
       have hR : Hid (singleF st c e = (layS st x, layB st c 24 11 x)) := Lib.hid (by rw [HRR.out, if_pos ⟨hbig, hso⟩, hx]; rfl)
       clear hso hx hbig HL3
       go_wp2_with (go_at_call 168; refine HSO3.out.mono ?_; rintro e2 w4 ⟨rfl, hw4⟩; obtain rfl := hw4.symm; clear hw4)
       refine HL4.out.mono ?_
       rintro e2 w5 ⟨rfl, hc, he⟩
       have HFF := Lib.hid (And.intro hc (HE3.out.trans he (fun _ _ h => h)))
       clear hc he
       go_wp2_with fail
       exact bodyPost_end (v := .tuple #[]) (by simp [results, Tryz.results166, go_sem]) rfl ⟨rfl, by rw [hR.out]; exact HFF.out.1, HFF.out.2⟩
      | false =>
       rw [hso] at HSO3
       have hR : Hid (singleF st c e = doubleF st c) := Lib.hid (by rw [HRR.out, if_neg (by rw [hso]; exact fun h => Bool.noConfusion h.2), if_neg (fun h => hb2 h.1)])
       clear hso hbig HL3
       go_wp2_with (go_at_call 168; refine HSO3.out.mono ?_; rintro e2 w4 ⟨rfl, hw4⟩; obtain rfl := hw4.symm; clear hw4)
       refine HD3.out.mono ?_
       rintro e2 w5 ⟨rfl, hc, he⟩
       have HFF := Lib.hid (And.intro hc (HE3.out.trans he (fun _ _ h => h)))
       clear hc he
       go_wp2_with fail
       exact bodyPost_end (v := .tuple #[]) (by simp [results, Tryz.results166, go_sem]) rfl ⟨rfl, by rw [hR.out]; exact HFF.out.1, HFF.out.2⟩
     ·have hb1 : ¬ c ≥ 65536 := hbig
      have hb2 : c < 65536 := by omega
      have m1 : c / 256 % 256 = c / 256 := by omega
      cases hso : softF st e with
      | true =>
       rw [hso] at HSO3
       have hR : Hid (singleF st c e = (st, [14, c / 256, c % 256])) := Lib.hid (by rw [HRR.out, if_neg (fun h => hbig h.1), if_pos ⟨hb2, .inl hso⟩])
       clear hso hbig HL3
       go_wp2_with (go_at_call 168; refine HSO3.out.mono ?_; rintro e2 w4 ⟨rfl, hw4⟩; obtain rfl := hw4.symm; clear hw4)
       refine HK4.out.mono ?_
       rintro e2 w5 ⟨rfl, hc, he⟩
       have HFF := Lib.hid (And.intro hc (HE3.out.trans he (fun _ _ h => h)))
       clear hc he
       go_wp2_with fail
       exact bodyPost_end (v := .tuple #[]) (by simp [results, Tryz.results166, go_sem]) rfl ⟨rfl, by rw [hR.out]; exact HFF.out.1, HFF.out.2⟩
      | false =>
       rw [hso] at HSO3
       cases htg : taggedF c with
       | true =>
        rw [htg] at HTG
        have hR : Hid (singleF st c e = (st, [14, c / 256, c % 256])) := Lib.hid (by rw [HRR.out, if_neg (fun h => hbig h.1), if_pos ⟨hb2, .inr htg⟩])
        clear hso hbig HL3 htg
        go_wp2_with (first
         | (go_at_call 168; refine HSO3.out.mono ?_; rintro e2 w4 ⟨rfl, hw4⟩; obtain rfl := hw4.symm; clear hw4)
         | (go_at_call 173; refine (HTG.out _).mono ?_; rintro e2 w4 ⟨rfl, hw4⟩; obtain rfl := hw4.symm; clear hw4))
        refine HK4.out.mono ?_
        rintro e2 w5 ⟨rfl, hc, he⟩
        have HFF := Lib.hid (And.intro hc (HE3.out.trans he (fun _ _ h => h)))
        clear hc he
        go_wp2_with fail
        exact bodyPost_end (v := .tuple #[]) (by simp [results, Tryz.results166, go_sem]) rfl ⟨rfl, by rw [hR.out]; exact HFF.out.1, HFF.out.2⟩
       | false =>
        rw [htg] at HTG
        have hR : Hid (singleF st c e = doubleF st c) := Lib.hid (by rw [HRR.out, if_neg (fun h => hbig h.1), if_neg (fun h => h.2.elim (fun h => by rw [hso] at h; cases h) (fun h => by rw [htg] at h; cases h))])
        clear hso hbig HL3 htg
        go_wp2_with (first
         | (go_at_call 168; refine HSO3.out.mono ?_; rintro e2 w4 ⟨rfl, hw4⟩; obtain rfl := hw4.symm; clear hw4)
         | (go_at_call 173; refine (HTG.out _).mono ?_; rintro e2 w4 ⟨rfl, hw4⟩; obtain rfl := hw4.symm; clear hw4))
        refine HD3.out.mono ?_
        rintro e2 w5 ⟨rfl, hc, he⟩
        have HFF := Lib.hid (And.intro hc (HE3.out.trans he (fun _ _ h => h)))
        clear hc he
        go_wp2_with fail
        exact bodyPost_end (v := .tuple #[]) (by simp [results, Tryz.results166, go_sem]) rfl ⟨rfl, by rw [hR.out]; exact HFF.out.1, HFF.out.2⟩
end
theorem OKC.work0 {st : SC} (h : OKC st) : OKC { st with behind := true } := { h with }
theorem OKC.ownl {st : SC} (h : OKC st) {c x : Int} (h0 : 0 ≤ c) (h1 : c ≤ 1114111) (ho : ownF c = some x) : OKC (layS st x) := h.lay x (by have := ownF_rng h0 h1 ho; omega)
theorem OKC.single {st : SC} (h : OKC st) {c d : Int} (h0 : 0 ≤ c) (h1 : c ≤ 1114111) : OKC (singleF st c d).1 := by
 unfold singleF
 split
 ·exact h
 ·split
  ·rename_i n hn
   have hn := (findN_lt st.offs c 8 n hn).1
   split
   ·exact { h.touch n (by omega) (by omega) with act := ⟨by show (0 : Int) ≤ n; omega, by show (n : Int) < 8; omega⟩ }
   ·exact h.touch n (by omega) (by omega)
  ·split
   ·exact h
   ·split
    ·rename_i hq
     have ho : ∃ x, ownF c = some x := hq.elim twins_own (fun h => own_high h.1)
     obtain ⟨x, hx⟩ := ho
     rw [hx]
     exact h.ownl h0 h1 hx
    ·split
     ·exact h
     ·exact { h with }
theorem OKC.work {st : SC} (h : OKC st) {plain : Bool} {c d : Int} (h0 : 0 ≤ c) (h1 : c ≤ 1114111) : OKC (workF plain st c d).1 := by
 have hb := h.work0
 unfold workF
 dsimp only
 split
 ·exact hb
 ·split
  ·split
   ·exact hb
   ·split
    ·exact hb
    ·exact { hb with }
  ·split
   ·exact hb.single h0 h1
   ·split
    ·have hu : ∀ n : Int, 0 ≤ n → n < 8 → OKC { useF { st with behind := true } n with uni := false } := fun n a b => { hb.use n a b with }
     cases hf : findF st.offs c with
     | some n => have hn := (findN_lt st.offs c 8 n hf).1; exact hu n (by omega) (by omega)
     | none => exact hu _ h.act.1 h.act.2
    ·split
     ·rename_i hq
      obtain ⟨x, hx⟩ := twins_own hq
      rw [hx]
      exact hb.ownl h0 h1 hx
     ·exact hb
section
variable {plain : Bool} {w : World} {g t : Nat} {d : DC} {kept : List Int} {st0 : SC}
set_option maxRecDepth 100000 in
set_option maxHeartbeats 8000000 in
theorem xwork_c (h : CW plain w g t d kept st0) (hok : OKC st0) (hk : kept.length ≤ 100000700) (c e : Int) (h0 : 0 ≤ c) (h1 : c ≤ 1114111) (e0 : 0 ≤ e) (e1 : e < 4294967296) :
  Calls Tryz.prog 161 #[.pointer (some ⟨g, 0, none⟩), .int .u32 c, .int .u32 e] w (CP plain w g t d (kept ++ (workF plain st0 c e).2) (workF plain st0 c e).1 (.tuple #[])) := by
 have hc2 : c < 4294967296 := by omega
 obtain ⟨k1, ee⟩ := h.set 9 (.bool true) (st1 := { st0 with behind := true }) rfl rfl rfl
 obtain ⟨w1, hw1⟩ : ∃ W, w.setCell ⟨g, 9, none⟩ (.bool true) = W := ⟨_, rfl⟩
 rw [hw1] at k1 ee
 have c9 : w.cell? ⟨g, 9, none⟩ = some (.bool st0.behind) := h.blk.cell rfl
 have fz := h.blk.frozen
 have hok1 := hok.work0
 obtain ⟨st, hst⟩ : ∃ s, ({ st0 with behind := true } : SC) = s := ⟨_, rfl⟩
 have huni : st0.uni = st.uni := by rw [← hst]
 have hoffs : st0.offs = st.offs := by rw [← hst]
 have hact : st0.active = st.active := by rw [← hst]
 have hR0 : workF plain st0 c e = (if (!st0.behind && c == 65279) = true then (st, [14, 254, 255])
   else if plain = true then if st.uni = true then (st, unitsF c) else match simpleF st c with
     | some b => (st, b)
     | none => doubleF st c
   else if st.uni = false then singleF st c e
   else if easyF st c = true ∧ softF st e = true then
    let st1 : SC := { useF st (match findF st.offs c with | some n => (n : Int) | none => st.active) with uni := false }
    (st1, [224 + st1.active] ++ (simpleF st1 c).getD [])
   else if twinsF c e = true then (layS st ((ownF c).getD 0), layB st c 232 241 ((ownF c).getD 0))
   else (st, unitsF c)) := by
  have hq : ((!st0.behind && c == 65279) = true) = (st0.behind = false ∧ c = 65279) := by
   simp
  unfold workF
  dsimp only
  rw [hst, huni, hoffs, hact]
  simp only [hq]
  try rfl
 rw [hst] at k1 hok1
 have HC1 := Lib.hid k1
 have HE1 := Lib.hid ee
 have d5 : w1.cell? ⟨g, 5, none⟩ = some (.bool plain) := k1.blk.cell rfl
 have d6 : w1.cell? ⟨g, 6, none⟩ = some (.pointer (some ⟨t, 0, none⟩)) := k1.blk.cell rfl
 have d7 : w1.cell? ⟨g, 7, none⟩ = some (.bool st.uni) := k1.blk.cell rfl
 have d8 : w1.cell? ⟨g, 8, none⟩ = some (.int .i64 st.active) := k1.blk.cell rfl
 have HK0 := Lib.hid (xkeep_c k1 [14, 254, 255] (by simp) (by omega))
 have HSI := Lib.hid (xsimple_c k1 hok1 (by omega) c h0 h1)
 have HUN := Lib.hid (xunits_c k1 (by omega) c h0 h1)
 have HDO : Hid (∀ W, CW plain W g t d kept st → Calls Tryz.prog 165 #[.pointer (some ⟨g, 0, none⟩), .int .u32 c] W (CP plain W g t d (kept ++ (doubleF st c).2) (doubleF st c).1 (.tuple #[]))) := Lib.hid fun W hW => xdouble_c' hW (by omega) c h0 h1
 have HSG := Lib.hid (xsingle_c' k1 hok1 (by omega) c e h0 h1 e0 e1)
 have HEA := Lib.hid (xeasy_c k1 hok1 c h0 hc2)
 have HSO := Lib.hid (xsoft_c k1 hok1 e e0 e1)
 have HTW := Lib.hid (fun W => twins_c c e h0 h1 e0 e1 W)
 have HLA : Hid (∀ W x, CW plain W g t d kept st → ownF c = some x → Calls Tryz.prog 172 #[.pointer (some ⟨g, 0, none⟩), .int .u32 c, .int .u8 232, .int .u8 241] W (CP plain W g t d (kept ++ layB st c 232 241 x) (layS st x) (.tuple #[]))) := Lib.hid fun W x hW hx => xlay_c hW hok1 (by omega) c 232 241 x h0 h1 (.inr ⟨rfl, rfl⟩) hx
 have HUN2 : Hid (∀ W, CW plain W g t d kept st → Calls Tryz.prog 163 #[.pointer (some ⟨g, 0, none⟩), .int .u32 c] W (CP plain W g t d (kept ++ unitsF c) st (.tuple #[]))) := Lib.hid fun W hW => xunits_c hW (by omega) c h0 h1
 have HFD := Lib.hid (find_c k1.win hok1.nn c h0 hc2)
 have HUS : Hid (∀ n : Int, 0 ≤ n → n < 8 → Calls Tryz.prog 170 #[.pointer (some ⟨g, 0, none⟩), .int .i64 n] w1 (CP plain w1 g t d kept (useF st n) (.tuple #[]))) := Lib.hid fun n a b => xuse_c k1 hok1 n a b
 have HK1 : Hid (∀ (a : Int) W s, CW plain W g t d kept s → Calls Tryz.prog 162 #[.pointer (some ⟨g, 0, none⟩), .slice (some ⟨W.heap.size, 0, none⟩) 1 1] (W.alloc (.cells #[.int .u8 a] 5 (0, 0))) fun e w' => e = .returned (.tuple #[]) ∧ CW plain w' g t d (kept ++ [a]) s ∧ Eff W w' (fun k => k = g ∨ k = t)) := Lib.hid fun a W s hW => xkeep_c hW [a] (by simp) (by omega)
 have HS2 : Hid (∀ (a : Int) W s, CW plain W g t d (kept ++ [a]) s → OKC s → Calls Tryz.prog 164 #[.pointer (some ⟨g, 0, none⟩), .int .u32 c] W (CP plain W g t d ((kept ++ [a]) ++ (simpleF s c).getD []) s (.bool (simpleF s c).isSome))) := Lib.hid fun a W s hW hs => xsimple_c hW hs (by rw [List.length_append]; simp; omega) c h0 h1
 have HOK := Lib.hid hok1
 have HFN := Lib.hid (fun n hn => (findN_lt st.offs c 8 n hn).1)
 have HOW := Lib.hid (@twins_own c e)
 simp only [nums, List.map_cons, List.map_nil, List.length_cons, List.length_nil, Nat.zero_add, Nat.reduceAdd] at HK0
 obtain ⟨B, hB⟩ : ∃ b, st0.behind = b := ⟨_, rfl⟩
 obtain ⟨M, hM⟩ : ∃ b, (!st0.behind && c == 65279) = b := ⟨_, rfl⟩
 rw [hM] at hR0
 rw [hB] at c9 hM
 have HR0 := Lib.hid hR0
 have HM := Lib.hid hM
 clear h hok hok1 k1 ee hst huni hoffs hact hR0 hM hB
 go_enter Tryz.func161, Tryz.ntmps161
 go_upto_region 3 with fail
 try rw [hw1]
 clear hw1 c9 fz
 go_cut [20] (fun s20 wx => s20 = .bool M ∧ ∃ W0, wx = W0 ∧ Hid (W0 = w1))
 case first =>
  cases B with
  | true =>
   have hm : M = false := HM.out.symm
   subst hm
   go_wp2_with fail
   go_meet
   exact ⟨rfl, _, rfl, Lib.hid rfl⟩
  | false =>
   by_cases hc : c = 65279
   ·have q : (c == 65279) = true := by simpa using hc
    have hm : M = true := by have := HM.out; rw [q] at this; exact this.symm
    subst hm
    clear hc
    go_wp2_with fail
    go_meet
    exact ⟨rfl, _, rfl, Lib.hid rfl⟩
   ·have q : (c == 65279) = false := by simpa using hc
    have hm : M = false := by have := HM.out; rw [q] at this; exact this.symm
    subst hm
    clear hc
    go_wp2_with fail
    go_meet
    exact ⟨rfl, _, rfl, Lib.hid rfl⟩
 case rest =>
  obtain ⟨rfl, W0, hw0, HW0⟩ := hcut
  obtain rfl := hw0.symm
  obtain rfl := HW0.out.symm
  clear hw0 HW0 HM
  cases M with
  | true =>
   have hR : Hid (workF plain st0 c e = (st, [14, 254, 255])) := Lib.hid (by rw [HR0.out, if_pos rfl])
   have HC0 := HK0
   clear HR0 HK0
   go_wp2_with fail
   refine HC0.out.mono ?_
   rintro e2 w5 ⟨rfl, hc, he⟩
   have HFF := Lib.hid (And.intro hc (HE1.out.trans he (fun _ _ h => h)))
   clear hc he
   go_wp2_with fail
   exact bodyPost_end (v := .tuple #[]) (by simp [results, Tryz.results161, go_sem]) rfl ⟨rfl, by rw [hR.out]; exact HFF.out.1, HFF.out.2⟩
  | false =>
   have HR1 := Lib.hid (HR0.out.trans (if_neg (by decide)))
   clear HR0 HK0
   cases hp : plain with
   | true =>
    subst hp
    have HR2 := Lib.hid (HR1.out.trans (if_pos rfl))
    clear HR1
    cases hu : st.uni with
    | true =>
     rw [hu] at d7
     have hR : Hid (workF true st0 c e = (st, unitsF c)) := Lib.hid (by rw [HR2.out, if_pos hu])
     have HC0 := HUN
     clear hu HR2
     go_wp2_with fail
     refine HC0.out.mono ?_
     rintro e2 w5 ⟨rfl, hc, he⟩
     have HFF := Lib.hid (And.intro hc (HE1.out.trans he (fun _ _ h => h)))
     clear hc he
     go_wp2_with fail
     exact bodyPost_end (v := .tuple #[]) (by simp [results, Tryz.results161, go_sem]) rfl ⟨rfl, by rw [hR.out]; exact HFF.out.1, HFF.out.2⟩
    | false =>
     rw [hu] at d7
     have HR3 := Lib.hid (HR2.out.trans (if_neg (by rw [hu]; decide)))
     clear hu HR2
     cases hs : simpleF st c with
     | some b =>
      have hR : Hid (workF true st0 c e = (st, b)) := Lib.hid (by rw [HR3.out, hs])
      have HC0 := HSI
      rw [hs] at HC0
      clear hs HR3
      go_wp2_with fail
      refine HC0.out.mono ?_
      rintro e2 w5 ⟨rfl, hc, he⟩
      have HFF := Lib.hid (And.intro hc (HE1.out.trans he (fun _ _ h => h)))
      clear hc he
      go_wp2_with fail
      exact bodyPost_end (v := .tuple #[]) (by simp [results, Tryz.results161, go_sem]) rfl ⟨rfl, by rw [hR.out]; exact HFF.out.1, HFF.out.2⟩
     | none =>
      have hR : Hid (workF true st0 c e = doubleF st c) := Lib.hid (by rw [HR3.out, hs])
      rw [hs] at HSI
      have HSI0 : Hid (Calls Tryz.prog 164 #[.pointer (some ⟨g, 0, none⟩), .int .u32 c] w1 (CP true w1 g t d kept st (.bool false))) := Lib.hid (by have := HSI.out; rw [show kept ++ (none : Option (List Int)).getD [] = kept from List.append_nil _] at this; exact this)
      clear hs HR3 HSI
      go_wp2_with fail
      refine HSI0.out.mono ?_
      rintro e2 w4 ⟨rfl, hc, he⟩
      have HC0 := Lib.hid (HDO.out w4 hc)
      have HE4 := Lib.hid (HE1.out.trans he (fun _ _ h => h))
      clear hc he HSI0
      go_wp2_with fail
      refine HC0.out.mono ?_
      rintro e2 w5 ⟨rfl, hc, he⟩
      have HFF := Lib.hid (And.intro hc (HE4.out.trans he (fun _ _ h => h)))
      clear hc he
      go_wp2_with fail
      exact bodyPost_end (v := .tuple #[]) (by simp [results, Tryz.results161, go_sem]) rfl ⟨rfl, by rw [hR.out]; exact HFF.out.1, HFF.out.2⟩
   | false =>
    subst hp
    have HR2 := Lib.hid (HR1.out.trans (if_neg (by decide)))
    clear HR1
    cases hu : st.uni with
    | false =>
     rw [hu] at d7
     have hR : Hid (workF false st0 c e = singleF st c e) := Lib.hid (by rw [HR2.out, if_pos hu])
     have HC0 := HSG
     clear hu HR2
     go_wp2_with fail
     refine HC0.out.mono ?_
     rintro e2 w5 ⟨rfl, hc, he⟩
     have HFF := Lib.hid (And.intro hc (HE1.out.trans he (fun _ _ h => h)))
     clear hc he
     go_wp2_with fail
     exact bodyPost_end (v := .tuple #[]) (by simp [results, Tryz.results161, go_sem]) rfl ⟨rfl, by rw [hR.out]; exact HFF.out.1, HFF.out.2⟩
    | true =>
     rw [hu] at d7
     have HR3 := Lib.hid (HR2.out.trans (if_neg (by rw [hu]; decide)))
     clear hu HR2
     cases hea : easyF st c && softF st e with
     | true =>
      have h1a : easyF st c = true := by cases h : easyF st c with
       | true => rfl
       | false => rw [h] at hea; cases hea
      have h1b : softF st e = true := by rw [h1a] at hea; exact hea
      have HR4 := Lib.hid (HR3.out.trans (if_pos ⟨h1a, h1b⟩))
      rw [h1a] at HEA
      rw [h1b] at HSO
      clear hea h1a h1b HR3
      obtain ⟨N, hN⟩ : ∃ N, (match findF st.offs c with | some n => (n : Int) | none => st.active) = N := ⟨_, rfl⟩
      have hNr : 0 ≤ N ∧ N < 8 := by
       rw [← hN]
       cases hf : findF st.offs c with
       | some n => have := HFN.out n hf; exact ⟨by show (0 : Int) ≤ n; omega, by show (n : Int) < 8; omega⟩
       | none => exact HOK.out.act
      obtain ⟨n0, n8⟩ := hNr
      have hR : Hid (workF false st0 c e = ({ useF st N with uni := false }, [224 + N] ++ (simpleF { useF st N with uni := false } c).getD [])) := Lib.hid (by
       have := HR4.out
       rw [hN] at this
       exact this)
      have HUS0 := Lib.hid (HUS.out N n0 n8)
      have HOK4 : Hid (OKC { useF st N with uni := false }) := Lib.hid { HOK.out.use N n0 n8 with }
      have n256 : N % 256 = N := by omega
      have nw : IntKind.u8.wrap (224 + N) = 224 + N := wraps_u8 _ (by omega) (by omega)
      clear HR4 HUS HSI HUN HSG HTW HLA HUN2 HDO n0 n8
      go_upto_region 13 with (first
       | (go_at_call 167; refine HEA.out.mono ?_; rintro e2 w4 ⟨rfl, hw4⟩; obtain rfl := hw4.symm; clear hw4)
       | (go_at_call 168; refine HSO.out.mono ?_; rintro e2 w4 ⟨rfl, hw4⟩; obtain rfl := hw4.symm; clear hw4))
      try rw [show st.offs = st.offs from rfl]
      cases hf : findF st.offs c with
      | some n =>
       have hNn : (n : Int) = N := by rw [hf] at hN; exact hN
       rw [hf, show ((some n : Option Nat).getD 0 : Nat) = n from rfl, hNn] at HFD
       clear hN hNn hf
       go_wp2_with (go_at_call 169; refine HFD.out.mono ?_; rintro e2 w4 ⟨rfl, hw4⟩; obtain rfl := hw4.symm; clear hw4)
       refine HUS0.out.mono ?_
       rintro e2 w4 ⟨rfl, hc, he⟩
       obtain ⟨k5, ee5⟩ := hc.set 7 (.bool false) (st1 := { useF st N with uni := false }) rfl rfl rfl
       have f7 : w4.cell? ⟨g, 7, none⟩ = some (.bool st.uni) := hc.blk.cell rfl
       have fz := hc.blk.frozen
       obtain ⟨w5, hw5⟩ : ∃ W, w4.setCell ⟨g, 7, none⟩ (.bool false) = W := ⟨_, rfl⟩
       rw [hw5] at k5 ee5
       have HK5 := Lib.hid (HK1.out (224 + N) w5 _ k5)
       have HE5 := Lib.hid ((HE1.out.trans he (fun _ _ h => h)).trans ee5 (fun _ _ h => h))
       clear hc he k5 ee5
       go_upto_region 18 with fail
       try rw [hw5]
       clear hw5 f7 fz
       go_wp2_with fail
       refine HK5.out.mono ?_
       rintro e2 w6 ⟨rfl, hc, he⟩
       have HC0 := Lib.hid (HS2.out _ w6 _ hc HOK4.out)
       have HE6 := Lib.hid (HE5.out.trans he (fun _ _ h => h))
       clear hc he
       go_wp2_with fail
       refine HC0.out.mono ?_
       rintro e2 w7 ⟨rfl, hc, he⟩
       have HFF := Lib.hid (And.intro hc (HE6.out.trans he (fun _ _ h => h)))
       clear hc he
       go_wp2_with fail
       exact bodyPost_end (v := .tuple #[]) (by simp [results, Tryz.results161, go_sem]) rfl ⟨rfl, by rw [hR.out, ← List.append_assoc]; exact HFF.out.1, HFF.out.2⟩
      | none =>
       have hNn : st.active = N := by rw [hf] at hN; exact hN
       rw [hf] at HFD
       rw [hNn] at d8
       clear hN hNn hf
       go_wp2_with (go_at_call 169; refine HFD.out.mono ?_; rintro e2 w4 ⟨rfl, hw4⟩; obtain rfl := hw4.symm; clear hw4)
       refine HUS0.out.mono ?_
       rintro e2 w4 ⟨rfl, hc, he⟩
       obtain ⟨k5, ee5⟩ := hc.set 7 (.bool false) (st1 := { useF st N with uni := false }) rfl rfl rfl
       have f7 : w4.cell? ⟨g, 7, none⟩ = some (.bool st.uni) := hc.blk.cell rfl
       have fz := hc.blk.frozen
       obtain ⟨w5, hw5⟩ : ∃ W, w4.setCell ⟨g, 7, none⟩ (.bool false) = W := ⟨_, rfl⟩
       rw [hw5] at k5 ee5
       have HK5 := Lib.hid (HK1.out (224 + N) w5 _ k5)
       have HE5 := Lib.hid ((HE1.out.trans he (fun _ _ h => h)).trans ee5 (fun _ _ h => h))
       clear hc he k5 ee5
       go_upto_region 18 with fail
       try rw [hw5]
       clear hw5 f7 fz
       go_wp2_with fail
       refine HK5.out.mono ?_
       rintro e2 w6 ⟨rfl, hc, he⟩
       have HC0 := Lib.hid (HS2.out _ w6 _ hc HOK4.out)
       have HE6 := Lib.hid (HE5.out.trans he (fun _ _ h => h))
       clear hc he
       go_wp2_with fail
       refine HC0.out.mono ?_
       rintro e2 w7 ⟨rfl, hc, he⟩
       have HFF := Lib.hid (And.intro hc (HE6.out.trans he (fun _ _ h => h)))
       clear hc he
       go_wp2_with fail
       exact bodyPost_end (v := .tuple #[]) (by simp [results, Tryz.results161, go_sem]) rfl ⟨rfl, by rw [hR.out, ← List.append_assoc]; exact HFF.out.1, HFF.out.2⟩
     | false =>
      have hea' : ¬ (easyF st c = true ∧ softF st e = true) := fun h => by rw [h.1, h.2] at hea; cases hea
      have HR4 := Lib.hid (HR3.out.trans (if_neg hea'))
      clear hea' HR3 HUS HSI HUN HSG HDO HK1 HS2 HFD HFN
      cases hea1 : easyF st c with
      | true =>
       have h1b : softF st e = false := by rw [hea1] at hea; exact hea
       rw [hea1] at HEA
       rw [h1b] at HSO
       clear hea hea1 h1b
       cases hT : twinsF c e with
       | true =>
        rw [hT] at HTW
        obtain ⟨x, hx⟩ := HOW.out hT
        have hR : Hid (workF false st0 c e = (layS st x, layB st c 232 241 x)) := Lib.hid (by rw [HR4.out, if_pos hT, hx]; rfl)
        have HLA0 := Lib.hid (fun W hW => HLA.out W x hW hx)
        clear hT hx HLA HR4
        go_wp2_with (first
         | (go_at_call 167; refine HEA.out.mono ?_; rintro e2 w4 ⟨rfl, hw4⟩; obtain rfl := hw4.symm; clear hw4)
         | (go_at_call 168; refine HSO.out.mono ?_; rintro e2 w4 ⟨rfl, hw4⟩; obtain rfl := hw4.symm; clear hw4))
        refine (HTW.out _).mono ?_
        rintro e2 w4 ⟨rfl, hb4⟩
        have HC0 := Lib.hid (HLA0.out w4 (HC1.out.below hb4))
        have HE4 := Lib.hid (HE1.out.trans (Eff.of_below hb4 _) (fun _ _ h => h))
        clear hb4
        go_wp2_with fail
        refine HC0.out.mono ?_
        rintro e2 w5 ⟨rfl, hc, he⟩
        have HFF := Lib.hid (And.intro hc (HE4.out.trans he (fun _ _ h => h)))
        clear hc he
        go_wp2_with fail
        exact bodyPost_end (v := .tuple #[]) (by simp [results, Tryz.results161, go_sem]) rfl ⟨rfl, by rw [hR.out]; exact HFF.out.1, HFF.out.2⟩
       | false =>
        rw [hT] at HTW
        have hR : Hid (workF false st0 c e = (st, unitsF c)) := Lib.hid (by rw [HR4.out, if_neg (by rw [hT]; decide)])
        clear hT HLA HR4
        go_wp2_with (first
         | (go_at_call 167; refine HEA.out.mono ?_; rintro e2 w4 ⟨rfl, hw4⟩; obtain rfl := hw4.symm; clear hw4)
         | (go_at_call 168; refine HSO.out.mono ?_; rintro e2 w4 ⟨rfl, hw4⟩; obtain rfl := hw4.symm; clear hw4))
        refine (HTW.out _).mono ?_
        rintro e2 w4 ⟨rfl, hb4⟩
        have HC0 := Lib.hid (HUN2.out w4 (HC1.out.below hb4))
        have HE4 := Lib.hid (HE1.out.trans (Eff.of_below hb4 _) (fun _ _ h => h))
        clear hb4
        go_wp2_with fail
        refine HC0.out.mono ?_
        rintro e2 w5 ⟨rfl, hc, he⟩
        have HFF := Lib.hid (And.intro hc (HE4.out.trans he (fun _ _ h => h)))
        clear hc he
        go_wp2_with fail
        exact bodyPost_end (v := .tuple #[]) (by simp [results, Tryz.results161, go_sem]) rfl ⟨rfl, by rw [hR.out]; exact HFF.out.1, HFF.out.2⟩
      | false =>
       rw [hea1] at HEA
       clear hea hea1
       cases hT : twinsF c e with
       | true =>
        rw [hT] at HTW
        obtain ⟨x, hx⟩ := HOW.out hT
        have hR : Hid (workF false st0 c e = (layS st x, layB st c 232 241 x)) := Lib.hid (by rw [HR4.out, if_pos hT, hx]; rfl)
        have HLA0 := Lib.hid (fun W hW => HLA.out W x hW hx)
        clear hT hx HLA HR4
        go_wp2_with (first
         | (go_at_call 167; refine HEA.out.mono ?_; rintro e2 w4 ⟨rfl, hw4⟩; obtain rfl := hw4.symm; clear hw4)
         | (go_at_call 168; refine HSO.out.mono ?_; rintro e2 w4 ⟨rfl, hw4⟩; obtain rfl := hw4.symm; clear hw4))
        refine (HTW.out _).mono ?_
        rintro e2 w4 ⟨rfl, hb4⟩
        have HC0 := Lib.hid (HLA0.out w4 (HC1.out.below hb4))
        have HE4 := Lib.hid (HE1.out.trans (Eff.of_below hb4 _) (fun _ _ h => h))
        clear hb4
        go_wp2_with fail
        refine HC0.out.mono ?_
        rintro e2 w5 ⟨rfl, hc, he⟩
        have HFF := Lib.hid (And.intro hc (HE4.out.trans he (fun _ _ h => h)))
        clear hc he
        go_wp2_with fail
        exact bodyPost_end (v := .tuple #[]) (by simp [results, Tryz.results161, go_sem]) rfl ⟨rfl, by rw [hR.out]; exact HFF.out.1, HFF.out.2⟩
       | false =>
        rw [hT] at HTW
        have hR : Hid (workF false st0 c e = (st, unitsF c)) := Lib.hid (by rw [HR4.out, if_neg (by rw [hT]; decide)])
        clear hT HLA HR4
        go_wp2_with (first
         | (go_at_call 167; refine HEA.out.mono ?_; rintro e2 w4 ⟨rfl, hw4⟩; obtain rfl := hw4.symm; clear hw4)
         | (go_at_call 168; refine HSO.out.mono ?_; rintro e2 w4 ⟨rfl, hw4⟩; obtain rfl := hw4.symm; clear hw4))
        refine (HTW.out _).mono ?_
        rintro e2 w4 ⟨rfl, hb4⟩
        have HC0 := Lib.hid (HUN2.out w4 (HC1.out.below hb4))
        have HE4 := Lib.hid (HE1.out.trans (Eff.of_below hb4 _) (fun _ _ h => h))
        clear hb4
        go_wp2_with fail
        refine HC0.out.mono ?_
        rintro e2 w5 ⟨rfl, hc, he⟩
        have HFF := Lib.hid (And.intro hc (HE4.out.trans he (fun _ _ h => h)))
        clear hc he
        go_wp2_with fail
        exact bodyPost_end (v := .tuple #[]) (by simp [results, Tryz.results161, go_sem]) rfl ⟨rfl, by rw [hR.out]; exact HFF.out.1, HFF.out.2⟩
end
def offsE : List Int := [128, 192, 1024, 1536, 2304, 12352, 12448, 65280]
def usedE : List Int := [7, 6, 5, 4, 3, 2, 1, 0]
def putC (plain : Bool) (st : SC) (c : Int) : SC × List Int :=
 if st.waits = NOC then ({ st with waits := c }, []) else ({ (workF plain st st.waits c).1 with waits := c }, (workF plain st st.waits c).2)
def badC (plain : Bool) (st : SC) : List Int := if st.waits = NOC then [] else (workF plain st st.waits NOC).2
def CM (plain : Bool) : EMach := ⟨SC, ⟨offsE, usedE, false, 0, false, NOC⟩, putC plain, badC plain, badC plain⟩
theorem units_len (c : Int) : (unitsF c).length ≤ 4 := by
 unfold unitsF
 (repeat' split) <;> simp
theorem simple_len (st : SC) (c : Int) : ((simpleF st c).getD []).length ≤ 2 := by
 unfold simpleF
 (repeat' split) <;> simp
theorem double_len (st : SC) (c : Int) : (doubleF st c).2.length ≤ 5 := by
 have := units_len c
 unfold doubleF
 simp only [List.length_cons]
 omega
theorem layB_len (st : SC) (c i p x : Int) : (layB st c i p x).length ≤ 5 := by
 unfold layB
 split <;> simp
theorem single_len (st : SC) (c d : Int) : (singleF st c d).2.length ≤ 5 := by
 have h1 := simple_len st c
 have h2 := double_len st c
 unfold singleF
 split
 ·rename_i b hb
  rw [hb] at h1
  exact Nat.le_trans h1 (by decide)
 ·split
  ·split <;> simp
  ·split
   ·simp
   ·split
    ·exact layB_len ..
    ·split
     ·simp
     ·exact h2
theorem work_len (plain : Bool) (st : SC) (c d : Int) : (workF plain st c d).2.length ≤ 5 := by
 unfold workF
 dsimp only
 split
 ·simp
 ·split
  ·split
   ·exact Nat.le_trans (units_len c) (by decide)
   ·split
    ·rename_i b hb
     have h1 := simple_len { st with behind := true } c
     rw [hb] at h1
     exact Nat.le_trans h1 (by decide)
    ·exact double_len ..
  ·split
   ·exact single_len ..
   ·split
    ·rw [List.length_append]
     have h1 := fun s => simple_len s c
     exact Nat.le_trans (Nat.add_le_add_left (h1 _) _) (by simp)
    ·split
     ·exact layB_len ..
     ·exact Nat.le_trans (units_len c) (by decide)
theorem put_len (plain : Bool) (st : SC) (c : Int) : ((CM plain).put st c).2.length ≤ 5 := by
 show (putC plain st c).2.length ≤ 5
 unfold putC
 split
 ·exact Nat.zero_le _
 ·exact work_len ..
theorem badC_len (plain : Bool) (st : SC) : (badC plain st).length ≤ 5 := by
 unfold badC
 split
 ·exact Nat.zero_le _
 ·exact work_len ..
structure OKW (st : SC) : Prop where
 ok : OKC st
 wt : st.waits = NOC ∨ (0 ≤ st.waits ∧ st.waits ≤ 1114111)
theorem OKW.put {st : SC} (h : OKW st) (plain : Bool) (c : Int) (h0 : 0 ≤ c) (h1 : c ≤ 1114111) : OKW ((CM plain).put st c).1 := by
 show OKW (putC plain st c).1
 unfold putC
 split
 ·exact ⟨{ h.ok with }, .inr ⟨h0, h1⟩⟩
 ·rename_i hw
  have hr := h.wt.resolve_left hw
  exact ⟨{ h.ok.work hr.1 hr.2 with }, .inr ⟨h0, h1⟩⟩
def dcOf {plain : Bool} (D : ESt (CM plain)) : DC := ⟨D.pos, D.err, D.fat, D.en⟩
def RC (plain : Bool) (w : World) (g t : Nat) (D : ESt (CM plain)) : Prop := ∃ s, CW plain w g t (dcOf D) D.kept s ∧ (D.err = 0 ∧ D.en = false → s = D.st ∧ OKW s)
structure RepC (plain : Bool) (w : World) (g : Nat) (F : Nat → Prop) (d : ESt (CM plain)) : Prop where
 ex : ∃ t, RC plain w g t d ∧ ∀ k, F k ↔ (k = g ∨ k = t)
theorem scal_le {x : Int} (h : isScal x = true) : x ≤ 1114111 := by unfold isScal at h; simp at h; omega
section
variable {plain : Bool} {w : World} {g t : Nat} {d : DC} {kept : List Int} {st : SC}
theorem CW.c0 (h : CW plain w g t d kept st) (n : Nat) : CW plain (w.setCell ⟨g, 0, none⟩ (.int .i64 n)) g t { d with pos := n } kept st ∧ Eff w (w.setCell ⟨g, 0, none⟩ (.int .i64 n)) (fun k => k = g ∨ k = t) :=
 ⟨⟨h.blk.set 0 _, ⟨h.win.1.far h.ne.symm _, h.win.2⟩, h.ne⟩, (Eff.set _ _ _ _).mono fun k _ e => .inl e⟩
theorem CW.c4 (h : CW plain w g t d kept st) (l : List Int) : CW plain (w.setCell ⟨g, 4, none⟩ (.string (strOf l))) g t d l st ∧ Eff w (w.setCell ⟨g, 4, none⟩ (.string (strOf l))) (fun k => k = g ∨ k = t) :=
 ⟨⟨h.blk.set 4 _, ⟨h.win.1.far h.ne.symm _, h.win.2⟩, h.ne⟩, (Eff.set _ _ _ _).mono fun k _ e => .inl e⟩
theorem CW.c3 (h : CW plain w g t d kept st) (b : Bool) : CW plain (w.setCell ⟨g, 3, none⟩ (.bool b)) g t { d with en := b } kept st ∧ Eff w (w.setCell ⟨g, 3, none⟩ (.bool b)) (fun k => k = g ∨ k = t) :=
 ⟨⟨h.blk.set 3 _, ⟨h.win.1.far h.ne.symm _, h.win.2⟩, h.ne⟩, (Eff.set _ _ _ _).mono fun k _ e => .inl e⟩
theorem CW.c12 (h : CW plain w g t d kept st) (e f : Int) : CW plain ((w.setCell ⟨g, 1, none⟩ (.int .i64 e)).setCell ⟨g, 2, none⟩ (.int .i64 f)) g t { d with err := e, fat := f } kept st ∧ Eff w ((w.setCell ⟨g, 1, none⟩ (.int .i64 e)).setCell ⟨g, 2, none⟩ (.int .i64 f)) (fun k => k = g ∨ k = t) :=
 ⟨⟨(h.blk.set 1 _).set 2 _, ⟨(h.win.1.far h.ne.symm _).far h.ne.symm _, h.win.2⟩, h.ne⟩, ((Eff.set _ _ _ _).trans (Eff.set _ _ _ _) (fun _ _ h => h)).mono fun k _ e => .inl e⟩
set_option maxRecDepth 100000 in
theorem xflush_c (h : CW plain w g t d kept st) (hok : OKW st) (hk : kept.length ≤ 100000000) :
  Calls Tryz.prog 160 #[.pointer (some ⟨g, 0, none⟩)] w fun e w' => ∃ s, CP plain w g t d (kept ++ badC plain st) s (.tuple #[]) e w' := by
 have c10 : w.cell? ⟨g, 10, none⟩ = some (.int .u32 st.waits) := h.blk.cell rfl
 by_cases hw : st.waits = NOC
 ·have hB : Hid (badC plain st = []) := Lib.hid (if_pos hw)
  rw [hw] at c10
  have HC := Lib.hid h
  clear h hok hw
  go_enter Tryz.func160, Tryz.ntmps160
  go_wp2_with fail
  refine bodyPost_end (v := .tuple #[]) (by simp [results, Tryz.results160, go_sem]) rfl ⟨st, rfl, ?_, Eff.refl _ _⟩
  rw [hB.out, List.append_nil]
  exact HC.out
 ·have hB : Hid (badC plain st = (workF plain st st.waits NOC).2) := Lib.hid (if_neg hw)
  have hr := hok.wt.resolve_left hw
  have hn : (st.waits != 2147483648) = true := by simpa using hw
  have HW := Lib.hid (xwork_c h hok.ok (by omega) st.waits NOC hr.1 hr.2 (by decide) (by decide))
  obtain ⟨x, hx⟩ : ∃ x, st.waits = x := ⟨_, rfl⟩
  rw [hx] at c10 hn HW hB
  clear h hok hw hr hx
  go_enter Tryz.func160, Tryz.ntmps160
  go_upto_region 2 with (go_at_call 161; refine HW.out.mono ?_; rintro e w1 ⟨rfl, hc, he⟩; have d10 : w1.cell? ⟨g, 10, none⟩ = some (.int .u32 (workF plain st x NOC).1.waits) := hc.blk.cell rfl; have fz := hc.blk.frozen; have HF := Lib.hid (And.intro hc he); clear hc he)
  go_wp2_with fail
  obtain ⟨k1, e1⟩ := HF.out.1.set 10 (.int .u32 NOC) (st1 := { (workF plain st x NOC).1 with waits := NOC }) rfl rfl rfl
  refine bodyPost_end (v := .tuple #[]) (by simp [results, Tryz.results160, go_sem]) rfl ⟨{ (workF plain st x NOC).1 with waits := NOC }, rfl, ?_, HF.out.2.trans e1 (fun _ _ h => h)⟩
  rw [hB.out]
  exact k1
end
set_option maxRecDepth 100000 in
set_option maxHeartbeats 8000000 in
theorem feedC {plain : Bool} {w : World} {g : Nat} {F : Nat → Prop} {d : ESt (CM plain)} (A : Option Addr) (c : Nat) (l : List Int) (room : Int) (h : RepC plain w g F d) (hr : ReadsInt w .u32 A l.length l) (hs : l ≠ [] → ∀ ad, A = some ad → ¬ F ad.block)
  (hsc : ∀ x ∈ l, 0 ≤ x) (hp : d.pos + l.length ≤ 1000000) (hk : d.kept.length ≤ 10000000) (hroom : -1000000000 ≤ room ∧ room ≤ 9223372036854775807) :
  Calls Tryz.prog 159 #[.pointer (some ⟨g, 0, none⟩), .slice A l.length c, .int .i64 room] w fun e w' => ∃ F', e = .returned (.tuple #[.int .i64 (feedE (CM plain) room l (d.drop (giveZ room d.kept.length)) (d.kept.take (giveZ room d.kept.length))).1,
    .string (strOf (feedE (CM plain) room l (d.drop (giveZ room d.kept.length)) (d.kept.take (giveZ room d.kept.length))).2.1)]) ∧
   RepC plain w' g F' (feedE (CM plain) room l (d.drop (giveZ room d.kept.length)) (d.kept.take (giveZ room d.kept.length))).2.2 ∧ Eff w w' F ∧ (∀ k, F' k → F k ∨ w.heap.size ≤ k) := by
 obtain ⟨t, ⟨s0, hb, hst⟩, hF⟩ := h.ex
 obtain ⟨d0, hd0⟩ : ∃ d0, d.drop (giveZ room d.kept.length) = d0 := ⟨_, rfl⟩
 obtain ⟨o0, ho0⟩ : ∃ o0, d.kept.take (giveZ room d.kept.length) = o0 := ⟨_, rfl⟩
 have ho0l : o0.length ≤ 10000000 := by rw [← ho0, List.length_take]; omega
 have hd0k : d0.kept.length ≤ 10000000 := by rw [← hd0]; show (d.kept.drop _).length ≤ _; rw [List.length_drop]; omega
 have hd0p : d0.pos = d.pos := by rw [← hd0]; rfl
 have hg0 := give_l (room := room) (xs := d.kept) (o := 4) hb.blk rfl
 rw [ho0] at hg0
 obtain ⟨hb0, he0⟩ := hb.c4 (d.kept.drop (giveZ room d.kept.length))
 have hr0 : RC plain (w.setCell ⟨g, 4, none⟩ (.string (strOf (d.kept.drop (giveZ room d.kept.length))))) g t d0 := by rw [← hd0]; exact ⟨s0, hb0, hst⟩
 obtain ⟨w0, hw0⟩ : ∃ w0, w.setCell ⟨g, 4, none⟩ (.string (strOf (d.kept.drop (giveZ room d.kept.length)))) = w0 := ⟨_, rfl⟩
 rw [hw0] at hg0 hr0 he0
 rw [hd0, ho0]
 have hsg : l ≠ [] → ∀ ad, A = some ad → ¬ (ad.block = g ∨ ad.block = t) := fun hne ad had e => hs hne ad had ((hF _).2 e)
 have HR0 := Lib.hid hr
 have HSG := Lib.hid hsg
 have HB0 := Lib.hid hr0
 have HE0 := Lib.hid he0
 have HFF := Lib.hid hF
 have HSC := Lib.hid hsc
 have HLEN := Lib.hid (And.intro ho0l (And.intro hd0k (And.intro hd0p hp)))
 have HG0 := Lib.hid hg0
 clear hb hr hs hsg hb0 he0 hr0 hF hsc hw0 ho0l hd0k hd0p hp hg0 hd0 ho0 hk h hst
 go_enter Tryz.func159, Tryz.ntmps159
 go_upto_block 0 with (go_at_call 104; refine HG0.out.mono ?_; rintro e w' ⟨rfl, rfl⟩)
 go_cut [8, 9] (fun s8 s9 wx => ∃ (k : Nat) (D : ESt (CM plain)) (o : List Int), s8 = .string (strOf o) ∧ s9 = .int .i64 k ∧ Hid (feedE (CM plain) room l d0 o0 = (k, o, D)) ∧ Hid (RC plain wx g t D) ∧ Hid (Eff w wx (fun k => k = g ∨ k = t)))
 case first =>
  go_wp2_with fail
  go_loopg [8, 9] l.length (fun kq s8 s9 wx => ∃ (k : Nat) (D : ESt (CM plain)) (o : List Int), s8 = .string (strOf o) ∧ s9 = .int .i64 k ∧ Hid (kq = l.length - k) ∧ Hid (FE (CM plain) 5 room l d0 o0 k D o) ∧ Hid (RC plain wx g t D) ∧ Hid (Eff w wx (fun k => k = g ∨ k = t)))
  case atStart => exact ⟨0, d0, o0, rfl, rfl, Lib.hid rfl, Lib.hid (FE.start _ _ _ _ _ _), HB0, HE0⟩
  case round =>
   obtain ⟨k, D, o, rfl, rfl, HK, HFE, HB, HE⟩ := hrel
   have hk0 : (0 : Int) ≤ (k : Int) := by omega
   have HEW := HE
   by_cases hk : k < l.length
   ·have hk1 : (k : Int) < (l.length : Int) := by omega
    by_cases hkp : D.kept = []
    ·have hkept : Calls Tryz.prog 102 #[.pointer (some ⟨g, 4, none⟩)] wr fun e w' => e = .returned (.int .i64 D.kept.length) ∧ wr = w' := by obtain ⟨s, hc, _⟩ := HB.out; exact kept_l (xs := D.kept) (o := 4) hc.blk rfl
     rw [hkp, List.length_nil] at hkept
     have HKP := Lib.hid hkp
     have HKT := Lib.hid hkept
     clear hkept hkp
     by_cases hgo : D.err = 0 ∧ D.en = false
     ·have HGO := Lib.hid hgo
      obtain ⟨s, hc, hss⟩ := HB.out
      obtain ⟨hs1, hokw⟩ := hss hgo
      have HGC := Lib.hid (going_yes hc.blk (by show some (Value.int .i64 D.err) = _; rw [hgo.1]) (by show some (Value.bool D.en) = _; rw [hgo.2]))
      rw [HKP.out] at hc
      have HC := Lib.hid hc
      have HS := Lib.hid hs1
      have HOK := Lib.hid hokw
      clear hgo hc hss hs1 hokw
      obtain ⟨ad, rfl, hcell⟩ := ReadsInt.at_ (reads_eff HR0.out HE.out (fun hne ad had e => HSG.out hne ad had e)) (k : Int) hk0 hk1
      rw [Int.toNat_natCast, show rd l (k : Int) = l.getD k 0 by simp [rd]] at hcell
      have hne : l ≠ [] := fun e => by rw [e] at hk; exact absurd hk (Nat.not_lt_zero _)
      have HBD := Lib.hid (HSG.out hne ad rfl)
      obtain ⟨x, hx⟩ : ∃ x, l.getD k 0 = x := ⟨_, rfl⟩
      rw [hx] at hcell
      have hxk : 0 ≤ x := HSC.out x (by rw [← hx, List.getD_eq_getElem?_getD, List.getElem?_eq_getElem hk]; exact List.getElem_mem hk)
      have HX := Lib.hid hx
      clear hx hne
      by_cases hsx : isScal x = true
      ·have hxl := scal_le hsx
       have HIS := Lib.hid (scal_c x wr)
       go_upto_region 8 with (first
        | (go_at_call 102; refine HKT.out.mono ?_; rintro e w1 ⟨rfl, rfl⟩)
        | (go_at_call 103; refine HGC.out.mono ?_; rintro e w1 ⟨rfl, rfl⟩)
        | (go_at_call 105; refine HIS.out.mono ?_; rw [hsx]; rintro e w1 ⟨rfl, hb1⟩))
       have HC1 := Lib.hid (HC.out.below hb1)
       have HE1 := Lib.hid (HEW.out.trans (Eff.of_below hb1 _) (fun _ _ h => h))
       have hc1 : w1.cell? (ad.add k) = some (.int .u32 x) := (hb1.cell (World.block_lt_of_cell? wr _ hcell)).trans hcell
       clear hb1 hcell
       have HFE1 := Lib.hid (HFE.out.eat (put_len plain) hk ⟨HKP.out, HGO.out⟩ (by rw [HX.out]; exact hsx))
       have HOK1 := Lib.hid (HOK.out.put plain x hxk hxl)
       have d10 : w1.cell? ⟨g, 10, none⟩ = some (.int .u32 s.waits) := HC1.out.blk.cell rfl
       by_cases hwt : s.waits = NOC
       ·have HPP : Hid (putC plain s x = ({ s with waits := x }, [])) := Lib.hid (if_pos hwt)
        rw [hwt] at d10
        clear hwt
        go_upto_region 10 with fail
        clear d10
        obtain ⟨B, hB⟩ : ∃ B : List Int, ([] : List Int) = B := ⟨_, rfl⟩
        obtain ⟨st1, hst1⟩ : ∃ s1, s = s1 := ⟨_, rfl⟩
        have HPQ : Hid (putC plain s x = ({ st1 with waits := x }, B)) := Lib.hid (by rw [HPP.out, hB, hst1])
        have HC2 : Hid (CW plain w1 g t (dcOf D) B st1) := Lib.hid (by have := HC1.out; rw [hst1, hB] at this; exact this)
        have hc2 := hc1
        have HE2 := HE1
        obtain ⟨w2, hw2⟩ : ∃ W, w1 = W := ⟨_, rfl⟩
        obtain rfl := hw2.symm
        clear HPP hB HC1 hc1 HE1 hw2
        obtain ⟨hc6, he6⟩ := HC2.out.set 10 (.int .u32 x) (st1 := { st1 with waits := x }) rfl rfl rfl
        have d10 : w2.cell? ⟨g, 10, none⟩ = some (.int .u32 st1.waits) := HC2.out.blk.cell rfl
        have fz := HC2.out.blk.frozen
        obtain ⟨w6, hw6⟩ : ∃ W, w2.setCell ⟨g, 10, none⟩ (.int .u32 x) = W := ⟨_, rfl⟩
        rw [hw6] at hc6 he6
        have HC6 := Lib.hid hc6
        have HE6 := Lib.hid (HE2.out.trans he6 (fun _ _ h => h))
        clear hc6 he6 HC2 HE2
        go_upto_region 11 with fail
        try rw [hw6]
        clear hw6 d10 fz hc2
        have HEAT := Lib.hid (eat_c (n := D.pos) HC6.out.blk rfl (by show some (Value.int .i64 D.err) = _; rw [HGO.out.1]) (by show some (Value.bool D.en) = _; rw [HGO.out.2]) (by omega) (by have := HFE.out.pos; have := HFE.out.le; have := HLEN.out; omega))
        obtain ⟨m, hm⟩ : ∃ m, giveZ (room - o.length) B.length = m := ⟨_, rfl⟩
        have hbl : B.length ≤ 5 := by have := put_len plain s x; rw [show (CM plain).put s x = _ from HPQ.out] at this; exact this
        have HPQD : Hid ((CM plain).put D.st x = ({ st1 with waits := x }, B)) := Lib.hid (by rw [← HS.out]; exact HPQ.out)
        have HFE2 : Hid (FE (CM plain) 5 room l d0 o0 (k + 1) { D with pos := D.pos + 1, kept := B.drop m, st := { st1 with waits := x } } (o ++ B.take m)) := by
         have h := HFE1.out
         rw [HX.out, HPQD.out] at h
         simp only [hm] at h
         exact Lib.hid h
        have HOK2 : Hid (OKW { st1 with waits := x }) := Lib.hid (by have := HOK1.out; rw [show (CM plain).put s x = _ from HPQ.out] at this; exact this)
        obtain ⟨hc7, he7⟩ := HC6.out.c0 (D.pos + 1)
        rw [Int.natCast_add] at hc7 he7
        have HC7 := Lib.hid hc7
        have HE7 := Lib.hid (HE6.out.trans he7 (fun _ _ h => h))
        clear hc7 he7 HE6
        obtain ⟨w7, hw7⟩ : ∃ W, w6.setCell ⟨g, 0, none⟩ (.int .i64 ((D.pos : Int) + ((1 : Nat) : Int))) = W := ⟨_, rfl⟩
        rw [hw7] at HC7 HE7
        rw [show (D.pos : Int) + 1 = (D.pos : Int) + ((1 : Nat) : Int) from rfl, hw7] at HEAT
        clear hw7
        have HGV : Hid (Calls Tryz.prog 104 #[.pointer (some ⟨g, 4, none⟩), .int .i64 (room - o.length)] w7 fun e w' => e = .returned (.string (strOf (B.take m))) ∧ w' = w7.setCell ⟨g, 4, none⟩ (.string (strOf (B.drop m)))) := by
         have h := give_l (room := room - o.length) (xs := B) (o := 4) HC7.out.blk rfl
         rw [hm] at h
         exact Lib.hid h
        have hso : (strOf o).size = o.length := strOf_size o
        have hol : o.length ≤ 20000000 := by have := HFE.out.out; have := HLEN.out.1; have := HLEN.out.2.2.2; omega
        obtain ⟨T, hT⟩ : ∃ T, B.take m = T := ⟨_, rfl⟩
        have hTl : T.length ≤ 5 := by rw [← hT, List.length_take]; omega
        have hst : (strOf T).size = T.length := strOf_size T
        have HTT := Lib.hid hT
        rw [hT] at HGV
        have hkb : (k : Int) ≤ 1000000 := by have := HLEN.out.2.2.2; omega
        have hr1 := hroom.1
        have hr2 := hroom.2
        clear hm hT hbl HFE1 HOK1
        go_wp2_with (first
         | (go_at_call 109; refine HEAT.out.mono ?_; rintro e w5 ⟨rfl, rfl⟩)
         | (go_at_call 104; refine HGV.out.mono ?_; rintro e w5 ⟨rfl, rfl⟩))
        go_roundg (l.length - (k + 1))
        case measure => have := HK.out; omega
        case rel =>
         obtain ⟨hc8, he8⟩ := HC7.out.c4 (B.drop m)
         exact ⟨k + 1, _, o ++ B.take m, by rw [strOf_append, HTT.out], by go_num, Lib.hid rfl, HFE2, Lib.hid ⟨_, hc8, fun _ => ⟨rfl, HOK2.out⟩⟩, Lib.hid (HE7.out.trans he8 (fun _ _ h => h))⟩
       ·have hr := HOK.out.wt.resolve_left hwt
        have HPP : Hid (putC plain s x = ({ (workF plain s s.waits x).1 with waits := x }, (workF plain s s.waits x).2)) := Lib.hid (if_neg hwt)
        have hn : (s.waits != 2147483648) = true := by simpa using hwt
        have HWK : Hid (∀ W, CW plain W g t (dcOf D) [] s → Calls Tryz.prog 161 #[.pointer (some ⟨g, 0, none⟩), .int .u32 s.waits, .int .u32 x] W (CP plain W g t (dcOf D) (workF plain s s.waits x).2 (workF plain s s.waits x).1 (.tuple #[]))) := Lib.hid fun W hW => xwork_c hW HOK.out.ok (by simp) s.waits x hr.1 hr.2 hxk (by omega)
        clear hwt hr
        obtain ⟨P, hP⟩ : ∃ P, workF plain s s.waits x = P := ⟨_, rfl⟩
        rw [hP] at HPP HWK
        obtain ⟨st1, B⟩ := P
        obtain ⟨q, hq⟩ : ∃ q, s.waits = q := ⟨_, rfl⟩
        rw [hq] at hn d10 HWK
        have HQ := Lib.hid hq
        clear hP hq
        go_upto_region 9 with fail
        clear d10 hn
        go_cut [] (fun wx => Hid (CW plain wx g t (dcOf D) B st1 ∧ Eff w1 wx (fun k => k = g ∨ k = t)))
        case first =>
         have d10 : w1.cell? ⟨g, 10, none⟩ = some (.int .u32 q) := by have : w1.cell? ⟨g, 10, none⟩ = some (.int .u32 s.waits) := HC1.out.blk.cell rfl; rw [this, HQ.out]
         go_region_with (go_at_call 161; refine (HWK.out _ (by first | exact HC1.out | exact HC1.out.eff (Eff.drewN _ 1 (fun _ => False)) (fun h => h) (fun h => h))).mono ?_; rintro e w3 ⟨rfl, hb3, he3⟩; have HB3 : Hid (CW plain w3 g t (dcOf D) B st1 ∧ Eff w1 w3 (fun k => k = g ∨ k = t)) := Lib.hid ⟨hb3, (by first | exact he3 | exact (Eff.drewN w1 1 _).trans he3 (fun _ _ h => h))⟩; clear hb3 he3)
         all_goals (go_wp2_with fail; go_meet)
         all_goals first
          | exact HB3
          | exact Lib.hid ⟨HB3.out.1.eff (Eff.drewN _ 1 (fun _ => False)) (fun h => h) (fun h => h), HB3.out.2.trans (Eff.drewN _ 1 _) (fun _ _ h => h)⟩
        case rest =>
         have HC2 := Lib.hid hcut.out.1
         have HE2 := Lib.hid (HE1.out.trans hcut.out.2 (fun _ _ h => h))
         have hc2 : wc.cell? (ad.add k) = some (.int .u32 x) := by
          obtain ⟨ad', he', hcell⟩ := ReadsInt.at_ (reads_eff HR0.out HE2.out (fun hne ad had e => HSG.out hne ad had e)) (k : Int) hk0 hk1
          injection he' with he'
          subst he'
          rw [Int.toNat_natCast, show rd l (k : Int) = l.getD k 0 by simp [rd], HX.out] at hcell
          exact hcell
         have HPQ := HPP
         obtain ⟨w2, hw2⟩ : ∃ W, wc = W := ⟨_, rfl⟩
         obtain rfl := hw2.symm
         clear HPP HC1 hc1 HE1 hw2 hcut HWK
         obtain ⟨hc6, he6⟩ := HC2.out.set 10 (.int .u32 x) (st1 := { st1 with waits := x }) rfl rfl rfl
         have d10 : w2.cell? ⟨g, 10, none⟩ = some (.int .u32 st1.waits) := HC2.out.blk.cell rfl
         have fz := HC2.out.blk.frozen
         obtain ⟨w6, hw6⟩ : ∃ W, w2.setCell ⟨g, 10, none⟩ (.int .u32 x) = W := ⟨_, rfl⟩
         rw [hw6] at hc6 he6
         have HC6 := Lib.hid hc6
         have HE6 := Lib.hid (HE2.out.trans he6 (fun _ _ h => h))
         clear hc6 he6 HC2 HE2
         go_upto_region 11 with fail
         try rw [hw6]
         clear hw6 d10 fz hc2
         have HEAT := Lib.hid (eat_c (n := D.pos) HC6.out.blk rfl (by show some (Value.int .i64 D.err) = _; rw [HGO.out.1]) (by show some (Value.bool D.en) = _; rw [HGO.out.2]) (by omega) (by have := HFE.out.pos; have := HFE.out.le; have := HLEN.out; omega))
         obtain ⟨m, hm⟩ : ∃ m, giveZ (room - o.length) B.length = m := ⟨_, rfl⟩
         have hbl : B.length ≤ 5 := by have := put_len plain s x; rw [show (CM plain).put s x = _ from HPQ.out] at this; exact this
         have HPQD : Hid ((CM plain).put D.st x = ({ st1 with waits := x }, B)) := Lib.hid (by rw [← HS.out]; exact HPQ.out)
         have HFE2 : Hid (FE (CM plain) 5 room l d0 o0 (k + 1) { D with pos := D.pos + 1, kept := B.drop m, st := { st1 with waits := x } } (o ++ B.take m)) := by
          have h := HFE1.out
          rw [HX.out, HPQD.out] at h
          simp only [hm] at h
          exact Lib.hid h
         have HOK2 : Hid (OKW { st1 with waits := x }) := Lib.hid (by have := HOK1.out; rw [show (CM plain).put s x = _ from HPQ.out] at this; exact this)
         obtain ⟨hc7, he7⟩ := HC6.out.c0 (D.pos + 1)
         rw [Int.natCast_add] at hc7 he7
         have HC7 := Lib.hid hc7
         have HE7 := Lib.hid (HE6.out.trans he7 (fun _ _ h => h))
         clear hc7 he7 HE6
         obtain ⟨w7, hw7⟩ : ∃ W, w6.setCell ⟨g, 0, none⟩ (.int .i64 ((D.pos : Int) + ((1 : Nat) : Int))) = W := ⟨_, rfl⟩
         rw [hw7] at HC7 HE7
         rw [show (D.pos : Int) + 1 = (D.pos : Int) + ((1 : Nat) : Int) from rfl, hw7] at HEAT
         clear hw7
         have HGV : Hid (Calls Tryz.prog 104 #[.pointer (some ⟨g, 4, none⟩), .int .i64 (room - o.length)] w7 fun e w' => e = .returned (.string (strOf (B.take m))) ∧ w' = w7.setCell ⟨g, 4, none⟩ (.string (strOf (B.drop m)))) := by
          have h := give_l (room := room - o.length) (xs := B) (o := 4) HC7.out.blk rfl
          rw [hm] at h
          exact Lib.hid h
         have hso : (strOf o).size = o.length := strOf_size o
         have hol : o.length ≤ 20000000 := by have := HFE.out.out; have := HLEN.out.1; have := HLEN.out.2.2.2; omega
         obtain ⟨T, hT⟩ : ∃ T, B.take m = T := ⟨_, rfl⟩
         have hTl : T.length ≤ 5 := by rw [← hT, List.length_take]; omega
         have hst : (strOf T).size = T.length := strOf_size T
         have HTT := Lib.hid hT
         rw [hT] at HGV
         have hkb : (k : Int) ≤ 1000000 := by have := HLEN.out.2.2.2; omega
         have hr1 := hroom.1
         have hr2 := hroom.2
         clear hm hT hbl HFE1 HOK1
         go_wp2_with (first
          | (go_at_call 109; refine HEAT.out.mono ?_; rintro e w5 ⟨rfl, rfl⟩)
          | (go_at_call 104; refine HGV.out.mono ?_; rintro e w5 ⟨rfl, rfl⟩))
         go_roundg (l.length - (k + 1))
         case measure => have := HK.out; omega
         case rel =>
          obtain ⟨hc8, he8⟩ := HC7.out.c4 (B.drop m)
          exact ⟨k + 1, _, o ++ B.take m, by rw [strOf_append, HTT.out], by go_num, Lib.hid rfl, HFE2, Lib.hid ⟨_, hc8, fun _ => ⟨rfl, HOK2.out⟩⟩, Lib.hid (HE7.out.trans he8 (fun _ _ h => h))⟩
      ·have hsx0 : isScal x = false := by simpa using hsx
       have HIS := Lib.hid (scal_c x wr)
       have hbl := badC_len plain D.st
       have HFB := Lib.hid (HFE.out.bad hk ⟨HKP.out, HGO.out⟩ (by rw [HX.out]; exact hsx0))
       have HFL : Hid (∀ W, CW plain W g t (dcOf D) [] s → Calls Tryz.prog 160 #[.pointer (some ⟨g, 0, none⟩)] W fun e w' => ∃ s', CP plain W g t (dcOf D) (badC plain D.st) s' (.tuple #[]) e w') := Lib.hid fun W hW => by
        have := xflush_c hW HOK.out (by simp)
        rw [List.nil_append, HS.out] at this
        exact this
       obtain ⟨B, hB⟩ : ∃ B, badC plain D.st = B := ⟨_, rfl⟩
       rw [show (CM plain).bad D.st = B from hB] at HFB
       rw [hB] at HFL hbl
       clear hB
       go_upto_region 5 with (first
        | (go_at_call 102; refine HKT.out.mono ?_; rintro e w1 ⟨rfl, rfl⟩)
        | (go_at_call 103; refine HGC.out.mono ?_; rintro e w1 ⟨rfl, rfl⟩)
        | (go_at_call 105; refine HIS.out.mono ?_; rw [hsx0]; rintro e w1 ⟨rfl, hb1⟩))
       have HF1 := Lib.hid (HFL.out w1 (HC.out.below hb1))
       have HE1 := Lib.hid (HEW.out.trans (Eff.of_below hb1 _) (fun _ _ h => h))
       clear hb1
       go_wp2_with fail
       refine HF1.out.mono ?_
       rintro e w2 ⟨s2, rfl, hc2, he2⟩
       have HE2 := Lib.hid (HE1.out.trans he2 (fun _ _ h => h))
       have HST := Lib.hid (stop_c (err := 2) (n := D.pos) (z := D.fat) (by decide) hc2.blk rfl (by show some (Value.int .i64 D.err) = _; rw [HGO.out.1]) rfl (by show some (Value.bool D.en) = _; rw [HGO.out.2]))
       obtain ⟨hc3, he3⟩ := hc2.c12 2 D.pos
       have HC3 := Lib.hid hc3
       have HE3 := Lib.hid (HE2.out.trans he3 (fun _ _ h => h))
       clear hc2 he2 hc3 he3 HE1 HE2 HF1 HFL
       obtain ⟨w3, hw3⟩ : ∃ W, (w2.setCell ⟨g, 1, none⟩ (.int .i64 2)).setCell ⟨g, 2, none⟩ (.int .i64 D.pos) = W := ⟨_, rfl⟩
       rw [hw3] at HST HC3 HE3
       clear hw3
       obtain ⟨m, hm⟩ : ∃ m, giveZ (room - o.length) B.length = m := ⟨_, rfl⟩
       rw [hm] at HFB
       have HGV : Hid (Calls Tryz.prog 104 #[.pointer (some ⟨g, 4, none⟩), .int .i64 (room - o.length)] w3 fun e w' => e = .returned (.string (strOf (B.take m))) ∧ w' = w3.setCell ⟨g, 4, none⟩ (.string (strOf (B.drop m)))) := by
        have h := give_l (room := room - o.length) (xs := B) (o := 4) HC3.out.blk rfl
        rw [hm] at h
        exact Lib.hid h
       have hso : (strOf o).size = o.length := strOf_size o
       have hol : o.length ≤ 20000000 := by have := HFE.out.out; have := HLEN.out.1; have := HLEN.out.2.2.2; omega
       obtain ⟨T, hT⟩ : ∃ T, B.take m = T := ⟨_, rfl⟩
       have hTl : T.length ≤ 5 := by rw [← hT, List.length_take]; omega
       have hst : (strOf T).size = T.length := strOf_size T
       have HTT := Lib.hid hT
       rw [hT] at HGV
       have hkb : (k : Int) ≤ 1000000 := by have := HLEN.out.2.2.2; omega
       have hr1 := hroom.1
       have hr2 := hroom.2
       clear hm hT hbl
       go_wp2_with (first
        | (go_at_call 106; refine HST.out.mono ?_; rintro e w5 ⟨rfl, rfl⟩)
        | (go_at_call 104; refine HGV.out.mono ?_; rintro e w5 ⟨rfl, rfl⟩))
       go_meet
       obtain ⟨hc5, he5⟩ := HC3.out.c4 (B.drop m)
       refine ⟨k, _, o ++ B.take m, by rw [strOf_append, HTT.out], rfl, HFB, Lib.hid ⟨s2, ?_, fun h => absurd h.1 (show ¬ ((2 : Int) = 0) by decide)⟩, Lib.hid (HE3.out.trans he5 (fun _ _ h => h))⟩
       exact hc5
     ·have HGO := Lib.hid hgo
      have HGC : Hid (Calls Tryz.prog 103 #[.pointer (some ⟨g, 0, none⟩)] wr fun e w' => e = .returned (.bool (D.err == 0 && !D.en)) ∧ wr = w') := Lib.hid (by obtain ⟨s, hc, _⟩ := HB.out; exact going_c (err := D.err) (en := D.en) hc.blk rfl rfl)
      have hgf : (D.err == 0 && !D.en) = false := by
       rcases Bool.eq_false_or_eq_true (D.err == 0 && !D.en) with h | h
       ·simp at h; exact absurd h hgo
       ·exact h
      rw [hgf] at HGC
      clear hgo hgf
      go_wp2_with (first
        | (go_at_call 102; refine HKT.out.mono ?_; rintro e w1 ⟨rfl, rfl⟩)
        | (go_at_call 103; refine HGC.out.mono ?_; rintro e w1 ⟨rfl, rfl⟩))
      go_meet
      exact ⟨k, D, o, rfl, rfl, Lib.hid (HFE.out.stop (fun h => HGO.out h.2)), HB, HEW⟩
    ·have hkept : Calls Tryz.prog 102 #[.pointer (some ⟨g, 4, none⟩)] wr fun e w' => e = .returned (.int .i64 D.kept.length) ∧ wr = w' := by obtain ⟨s, hc, _⟩ := HB.out; exact kept_l (xs := D.kept) (o := 4) hc.blk rfl
     have hz : ((D.kept.length : Int) == 0) = false := by simpa using hkp
     have HKP := Lib.hid hkp
     have HKT := Lib.hid hkept
     clear hkept hkp
     go_wp2_with (go_at_call 102; refine HKT.out.mono ?_; rintro e w1 ⟨rfl, rfl⟩)
     go_meet
     exact ⟨k, D, o, rfl, rfl, Lib.hid (HFE.out.stop (fun h => HKP.out h.1)), HB, HEW⟩
   ·have hk1 : ¬ (k : Int) < (l.length : Int) := by omega
    have HKK := Lib.hid hk
    clear hk
    go_wp2_with fail
    go_meet
    exact ⟨k, D, o, rfl, rfl, Lib.hid (HFE.out.all HKK.out), HB, HEW⟩
 case rest =>
  obtain ⟨k, D, o, rfl, rfl, HFE, HB, HE⟩ := hcut
  go_wp2_with fail
  refine bodyPost_ret (v := .tuple #[.int .i64 k, .string (strOf o)]) (by simp [results, Tryz.results159, go_sem]) rfl ?_
  rw [HFE.out]
  exact ⟨fun k => k = g ∨ k = t, rfl, ⟨t, HB.out, fun _ => Iff.rfl⟩, HE.out.mono (fun k _ h => (HFF.out k).2 h), fun k h => .inl ((HFF.out k).2 h)⟩
set_option maxRecDepth 100000 in
theorem finC {plain : Bool} {w : World} {g : Nat} {F : Nat → Prop} {d : ESt (CM plain)} (h : RepC plain w g F d) (hk : d.kept.length ≤ 10000000) :
  Calls Tryz.prog 158 #[.pointer (some ⟨g, 0, none⟩)] w fun e w' => ∃ F', e = .returned (.tuple #[]) ∧ RepC plain w' g F' (endE (CM plain) d) ∧ Eff w w' F ∧ (∀ k, F' k → F k ∨ w.heap.size ≤ k) := by
 obtain ⟨t, ⟨s, hc, hs⟩, hF⟩ := h.ex
 by_cases hg : d.err = 0 ∧ d.en = false
 ·obtain ⟨rfl, hok⟩ := hs hg
  have hE : Hid (endE (CM plain) d = { d with kept := d.kept ++ badC plain d.st, en := true }) := Lib.hid (if_pos hg)
  have HGC := Lib.hid (going_yes hc.blk (by show some (Value.int .i64 d.err) = _; rw [hg.1]) (by show some (Value.bool d.en) = _; rw [hg.2]))
  have HFL := Lib.hid (xflush_c hc hok (by omega))
  have HG := Lib.hid hg
  have HF := Lib.hid hF
  clear h hc hs hF hg hok hk
  go_enter Tryz.func158, Tryz.ntmps158
  go_wp2_with (go_at_call 103; refine HGC.out.mono ?_; rintro e w1 ⟨rfl, rfl⟩)
  refine HFL.out.mono ?_
  rintro e w2 ⟨s2, rfl, hc2, he2⟩
  have HEN := Lib.hid (end_c hc2.blk (by show some (Value.int .i64 d.err) = _; rw [HG.out.1]) (by show some (Value.bool d.en) = _; rw [HG.out.2]))
  obtain ⟨hc3, he3⟩ := hc2.c3 true
  have HC3 := Lib.hid (And.intro hc3 (he2.trans he3 (fun _ _ h => h)))
  clear hc2 he2 hc3 he3 HFL HGC
  go_wp2_with (go_at_call 99; refine HEN.out.mono ?_; rintro e w3 ⟨rfl, rfl⟩)
  refine bodyPost_end (v := .tuple #[]) (by simp [results, Tryz.results158, go_sem]) rfl ⟨fun k => k = g ∨ k = t, rfl, ?_, HC3.out.2.mono (fun k _ h => (HF.out k).2 h), fun k h => .inl ((HF.out k).2 h)⟩
  rw [hE.out]
  exact ⟨t, ⟨s2, HC3.out.1, fun h => absurd h.2 (show ¬ (true = false) by decide)⟩, fun _ => Iff.rfl⟩
 ·have hE : Hid (endE (CM plain) d = d) := Lib.hid (if_neg hg)
  have hgf : (d.err == 0 && !d.en) = false := by
   rcases Bool.eq_false_or_eq_true (d.err == 0 && !d.en) with h | h
   ·simp at h; exact absurd h hg
   ·exact h
  have hgc := going_c (err := d.err) (en := d.en) hc.blk rfl rfl
  rw [hgf] at hgc
  have HGC := Lib.hid hgc
  have HEN := Lib.hid (end_not (err := d.err) (en := d.en) hc.blk rfl rfl hgf)
  have HH := Lib.hid h
  clear h hc hs hF hg hgc hgf hk
  go_enter Tryz.func158, Tryz.ntmps158
  go_wp2_with (first
   | (go_at_call 103; refine HGC.out.mono ?_; rintro e w1 ⟨rfl, rfl⟩)
   | (go_at_call 99; refine HEN.out.mono ?_; rintro e w1 ⟨rfl, rfl⟩))
  refine bodyPost_end (v := .tuple #[]) (by simp [results, Tryz.results158, go_sem]) rfl ⟨F, rfl, ?_, Eff.refl _ _, fun k h => .inl h⟩
  rw [hE.out]
  exact HH.out
theorem kC (plain : Bool) : EncK 63 159 158 (CM plain) (RepC plain) where
 invF := by intro n g x y w; kernel_rfl
 invE := by intro n g w; kernel_rfl
 invD := by intro n g w; kernel_rfl
 invW := by intro n g w; kernel_rfl
 lt h k hk := by
  obtain ⟨t, ⟨s, hc, _⟩, hF⟩ := h.ex
  rcases (hF k).1 hk with rfl | rfl
  ·exact hc.blk.lt
  ·exact hc.win.1.lt
 eff h he hs := by
  obtain ⟨t, ⟨s, hc, hss⟩, hF⟩ := h.ex
  exact ⟨t, ⟨s, hc.eff he (hs _ ((hF _).2 (.inl rfl))) (hs _ ((hF _).2 (.inr rfl))), hss⟩, hF⟩
 feed A c l room h hr hs hsc hp hk hroom := feedC A c l room h hr hs hsc hp hk hroom
 fin h _ hk := finC h hk
 done h := by
  obtain ⟨t, ⟨s, hc, _⟩, hF⟩ := h.ex
  exact outdone_c (err := _) (en := _) (xs := _) hc.blk rfl rfl rfl
 blk h := by
  obtain ⟨t, ⟨s, hc, _⟩, hF⟩ := h.ex
  exact ⟨TCp, _, by decide, by decide, hc.blk, rfl, rfl⟩
set_option maxRecDepth 100000 in
theorem newwinE_c (w : World) : Calls Tryz.prog 40 #[] w fun e w' => e = .returned (.pointer (some ⟨w.heap.size, 0, none⟩)) ∧ w' = w.alloc (.cells (winC offsE usedE) TWn (0, 0)) := by
 go_enter Tryz.func40, Tryz.ntmps40
 go_wp2_with fail
 go_ret
 exact ⟨rfl, rfl⟩
theorem okC0 : OKW ⟨offsE, usedE, false, 0, false, NOC⟩ where
 ok := {
  len := rfl
  rng := by decide
  len2 := rfl
  all := fun n h0 h1 => by
   have : n = 0 ∨ n = 1 ∨ n = 2 ∨ n = 3 ∨ n = 4 ∨ n = 5 ∨ n = 6 ∨ n = 7 := by omega
   rcases this with rfl | rfl | rfl | rfl | rfl | rfl | rfl | rfl <;> decide
  bnd := by decide
  act := by decide }
 wt := .inl rfl
set_option maxRecDepth 100000 in
theorem newC_c (plain : Bool) (w : World) : Calls Tryz.prog 21 #[.bool plain] w fun e w' => ∃ g F, e = .returned (.pointer (some ⟨g, 0, none⟩)) ∧ Below w.heap.size w w' ∧ RepC plain w' g F (ESt.new (CM plain)) ∧ (∀ k, F k → w.heap.size ≤ k) := by
 go_enter Tryz.func21, Tryz.ntmps21
 go_wp2_with (go_at_call 40; refine (newwinE_c _).mono ?_; rintro e w' ⟨rfl, rfl⟩)
 go_ret
 have ht : WinAt (w.alloc (.cells (winC offsE usedE) TWn (0, 0))) w.heap.size offsE usedE := ⟨Blk.new w _ _, rfl, rfl⟩
 have hB : Blk ((w.alloc (.cells (winC offsE usedE) TWn (0, 0))).alloc (.cells (csC plain w.heap.size ⟨0, 0, 0, false⟩ [] ⟨offsE, usedE, false, 0, false, NOC⟩) TCp (0, 0))) (w.heap.size + 1) TCp (csC plain w.heap.size ⟨0, 0, 0, false⟩ [] ⟨offsE, usedE, false, 0, false, NOC⟩) := by
  have := Blk.new (w.alloc (.cells (winC offsE usedE) TWn (0, 0))) TCp (csC plain w.heap.size ⟨0, 0, 0, false⟩ [] ⟨offsE, usedE, false, 0, false, NOC⟩)
  rwa [World.size_alloc] at this
 refine ⟨w.heap.size + 1, fun k => k = w.heap.size + 1 ∨ k = w.heap.size, rfl, below_new (below_new (Below.refl _ _) _) _, ⟨w.heap.size, ⟨⟨offsE, usedE, false, 0, false, NOC⟩, ⟨hB, ⟨ht.1.alloc _, ht.2⟩, by omega⟩, fun _ => ⟨rfl, okC0⟩⟩, fun k => Iff.rfl⟩, fun k hk => ?_⟩
 rcases hk with rfl | rfl
 ·exact Nat.le_succ _
 ·exact Nat.le_refl _
theorem newE_C (plain : Bool) (c : Int) (hc : (c = 9 ∧ plain = false) ∨ (c = 10 ∧ plain = true)) : NewE c 63 (CM plain) (RepC plain) := by
 intro w
 have HN := Lib.hid (newC_c plain w)
 rcases hc with ⟨rfl, rfl⟩ | ⟨rfl, rfl⟩
 all_goals
  go_enter Tryz.func6, Tryz.ntmps6
  go_wp2_with (go_at_call 21; refine HN.out.mono ?_; rintro e w' ⟨g, F, rfl, hb, hr, hF⟩)
  refine bodyPost_ret (v := .tuple #[.iface 63 (.pointer (some ⟨g, 0, none⟩)), .int .i64 0]) (by simp [results, Tryz.results6, go_sem]) rfl ?_
  exact ⟨g, F, rfl, hb, hr, hF⟩
theorem newE9 : NewE 9 63 (CM false) (RepC false) := newE_C false 9 (.inl ⟨rfl, rfl⟩)
theorem newE10 : NewE 10 63 (CM true) (RepC true) := newE_C true 10 (.inr ⟨rfl, rfl⟩)
structure SX where
 offs : List Int
 uni : Bool
 active : Int
 begun : Int
 n : Int
 first : Int
 upper : Int
def fitsX (st : SX) (b : Int) : Bool := decide (220 ≤ b ∧ b ≤ 223) == (st.upper != 0)
def beginX (st : SX) (a n : Int) : Option (SX × List Int) := some ({ st with begun := a, n := n }, [])
def actX (st : SX) (n : Int) : Option (SX × List Int) := some ({ st with active := n, uni := false, begun := 0 }, [])
def singleX (st : SX) (b : Int) : Option (SX × List Int) :=
 if (st.upper ≠ 0 ∧ b ≠ 14) ∨ b = 12 then none
 else if 128 ≤ b then some (st, [st.offs.getD st.active.toNat 0 + b - 128])
 else if 32 ≤ b ∨ b = 0 ∨ b = 9 ∨ b = 10 ∨ b = 13 then some (st, [b])
 else if 24 ≤ b then beginX st 2 (b - 24)
 else if 16 ≤ b then actX st (b - 16)
 else if b = 15 then some ({ st with uni := true }, [])
 else if b = 14 then beginX st 5 0
 else if b = 11 then beginX st 3 0
 else beginX st 1 (b - 1)
def doubleX (st : SX) (b : Int) : Option (SX × List Int) :=
 if b < 224 ∨ 242 < b then (if fitsX st b = true then beginX { st with first := b } 6 0 else none)
 else if b = 240 then beginX st 5 0
 else if st.upper ≠ 0 ∨ b = 242 then none
 else if b = 241 then beginX st 3 0
 else if 232 ≤ b then beginX st 2 (b - 232)
 else actX st (b - 224)
def wholeX (st : SX) (u : Int) : Option (SX × List Int) :=
 if st.upper ≠ 0 then some ({ st with begun := 0, upper := 0 }, [65536 + st.upper % 1024 * 1024 + u % 1024])
 else if 55296 ≤ u ∧ u < 56320 then some ({ st with begun := 0, upper := u }, [])
 else some ({ st with begun := 0 }, [u])
def moreX (st : SX) (b : Int) : Option (SX × List Int) :=
 if st.begun = 1 then some ({ st with begun := 0 }, [(if 128 ≤ b then st.offs.getD st.n.toNat 0 - 128 else statics.getD st.n.toNat 0) + b])
 else if st.begun = 2 then match offsetF b with | none => none | some x => actX { st with offs := st.offs.set st.n.toNat x } st.n
 else if st.begun = 3 then some ({ st with first := b, begun := 4 }, [])
 else if st.begun = 4 then actX { st with offs := st.offs.set (st.first / 32).toNat (65536 + 128 * (st.first % 32 * 256 + b)) } (st.first / 32)
 else if st.begun = 5 then (if fitsX st b = true then beginX { st with first := b } 6 0 else none)
 else wholeX st (st.first * 256 + b)
def nextX (st : SX) (b : Int) : Option (SX × List Int) := if st.begun ≠ 0 then moreX st b else if st.uni = true then doubleX st b else singleX st b
def offsI : List Int := [128, 192, 1024, 1536, 2304, 12352, 12448, 65280]
def usedI : List Int := [7, 6, 5, 4, 3, 2, 1, 0]
def DX : DMach := ⟨SX, ⟨offsI, false, 0, 0, 0, 0, 0⟩, nextX, fun st => if st.begun = 0 ∧ st.upper = 0 then some [] else none⟩
theorem DX_one (st : DX.St) (b : Int) (st' : DX.St) (l : List Int) (h : DX.next st b = some (st', l)) : l.length ≤ 1 := by
 have h' : nextX st b = some (st', l) := h
 unfold nextX moreX doubleX singleX wholeX beginX actX at h'
 (repeat' split at h') <;> first | (cases h'; done) | (injection h' with h'; injection h' with _ h'; rw [← h']; decide) | (injection h' with h'; injection h' with _ h'; rw [← h']; simp)
structure OKX (st : SX) : Prop where
 len : st.offs.length = 8
 rng : ∀ x ∈ st.offs, 128 ≤ x ∧ x ≤ 1114111
 act : 0 ≤ st.active ∧ st.active ≤ 7
 beg : 0 ≤ st.begun ∧ st.begun ≤ 6
 nn : 0 ≤ st.n ∧ st.n ≤ 7
 fst : 0 ≤ st.first ∧ st.first ≤ 255
 upp : st.upper = 0 ∨ (55296 ≤ st.upper ∧ st.upper < 56320)
theorem OKX.at_ {st : SX} (h : OKX st) (n : Nat) (hn : n < 8) : 128 ≤ st.offs.getD n 0 ∧ st.offs.getD n 0 ≤ 1114111 := by
 rw [List.getD_eq_getElem?_getD, List.getElem?_eq_getElem (by rw [h.len]; exact hn)]
 exact h.rng _ (List.getElem_mem _)
theorem OKX.set {st : SX} (h : OKX st) (n : Nat) (x : Int) (hx : 128 ≤ x ∧ x ≤ 1114111) : OKX { st with offs := st.offs.set n x } := by
 have hr : ∀ y ∈ st.offs.set n x, 128 ≤ y ∧ y ≤ 1114111 := fun y hy => by
  rcases List.mem_or_eq_of_mem_set hy with hy | rfl
  ·exact h.rng y hy
  ·exact hx
 exact { h with len := (List.length_set ..).trans h.len, rng := hr }
theorem offsetF_rng {b x : Int} (h0 : 0 ≤ b) (h1 : b ≤ 255) (h : offsetF b = some x) : 128 ≤ x ∧ x ≤ 1114111 := by
 unfold offsetF at h
 split at h
 ·cases h
 ·split at h
  ·injection h with h; omega
  ·split at h
   ·injection h with h; omega
   ·injection h with h
    have hb : b = 249 ∨ b = 250 ∨ b = 251 ∨ b = 252 ∨ b = 253 ∨ b = 254 ∨ b = 255 := by omega
    rcases hb with rfl | rfl | rfl | rfl | rfl | rfl | rfl <;> (rw [← h]; decide)
theorem nextX_ok {st : SX} (h : OKX st) {b : Int} (h0 : 0 ≤ b) (h1 : b ≤ 255) {s : SX} {l : List Int} (hn : nextX st b = some (s, l)) : OKX s := by
 have hb := h.beg
 have hf := h.fst
 have hnn := h.nn
 unfold nextX moreX doubleX singleX wholeX beginX actX at hn
 (repeat' split at hn) <;> first
  | (cases hn; done)
  | (injection hn with hn; injection hn with hn _; rw [← hn]; first
    | exact h
    | exact { h with act := h.act }
    | exact { h with beg := (show (0 : Int) ≤ 0 ∧ (0 : Int) ≤ 6 by decide) }
    | exact { h with beg := (show (0 : Int) ≤ 0 ∧ (0 : Int) ≤ 6 by decide), upp := .inl rfl }
    | exact { h with beg := (show (0 : Int) ≤ 0 ∧ (0 : Int) ≤ 6 by decide), upp := .inr (by assumption) }
    | exact { h.set _ _ (offsetF_rng h0 h1 (by assumption)) with act := hnn, beg := (show (0 : Int) ≤ 0 ∧ (0 : Int) ≤ 6 by decide) }
    | exact { h with beg := (show (0 : Int) ≤ 4 ∧ (4 : Int) ≤ 6 by decide), fst := ⟨h0, h1⟩ }
    | exact { h.set _ _ (show 128 ≤ 65536 + 128 * (st.first % 32 * 256 + b) ∧ 65536 + 128 * (st.first % 32 * 256 + b) ≤ 1114111 by omega) with act := (show 0 ≤ st.first / 32 ∧ st.first / 32 ≤ 7 by omega), beg := (show (0 : Int) ≤ 0 ∧ (0 : Int) ≤ 6 by decide) }
    | exact { h with beg := (show (0 : Int) ≤ 6 ∧ (6 : Int) ≤ 6 by decide), nn := (show (0 : Int) ≤ 0 ∧ (0 : Int) ≤ 7 by decide), fst := ⟨h0, h1⟩ }
    | exact { h with beg := (show (0 : Int) ≤ 5 ∧ (5 : Int) ≤ 6 by decide), nn := (show (0 : Int) ≤ 0 ∧ (0 : Int) ≤ 7 by decide) }
    | exact { h with beg := (show (0 : Int) ≤ 3 ∧ (3 : Int) ≤ 6 by decide), nn := (show (0 : Int) ≤ 0 ∧ (0 : Int) ≤ 7 by decide) }
    | exact { h with beg := (show (0 : Int) ≤ 2 ∧ (2 : Int) ≤ 6 by decide), nn := (show 0 ≤ b - 232 ∧ b - 232 ≤ 7 by omega) }
    | exact { h with beg := (show (0 : Int) ≤ 2 ∧ (2 : Int) ≤ 6 by decide), nn := (show 0 ≤ b - 24 ∧ b - 24 ≤ 7 by omega) }
    | exact { h with beg := (show (0 : Int) ≤ 1 ∧ (1 : Int) ≤ 6 by decide), nn := (show 0 ≤ b - 1 ∧ b - 1 ≤ 7 by omega) }
    | exact { h with act := (show 0 ≤ b - 224 ∧ b - 224 ≤ 7 by omega), beg := (show (0 : Int) ≤ 0 ∧ (0 : Int) ≤ 6 by decide) }
    | exact { h with act := (show 0 ≤ b - 16 ∧ b - 16 ≤ 7 by omega), beg := (show (0 : Int) ≤ 0 ∧ (0 : Int) ≤ 6 by decide) })
def xsX (t : Nat) (st : SX) : List Value := [.pointer (some ⟨t, 0, none⟩), .bool st.uni, .int .i64 st.active, .int .i64 st.begun, .int .i64 st.n, .int .u8 st.first, .int .u32 st.upper]
def EXx (w : World) (xs : List Value) (st : DX.St) (G : Nat → Prop) : Prop := ∃ t, xs = xsX t st ∧ WinAt w t (SX.offs st) usedI ∧ ∀ k, G k ↔ k = t
def EX (w : World) (xs : List Value) (st : DX.St) (G : Nat → Prop) : Prop := EXx w xs st G ∧ OKX st
theorem EXx_ok : EOk DX EXx := by
 refine ⟨fun h k hk => ?_, fun h he hs => ?_⟩
 ·obtain ⟨t, rfl, ht, hG⟩ := h
  rw [(hG k).1 hk]; exact ht.1.lt
 ·obtain ⟨t, rfl, ht, hG⟩ := h
  exact ⟨t, rfl, ⟨ht.1.eff he (hs t ((hG t).2 rfl)), ht.2⟩, hG⟩
theorem EX_ok : EOk DX EX := ⟨fun h k hk => EXx_ok.lt h.1 k hk, fun h he hs => ⟨EXx_ok.eff h.1 he hs, h.2⟩⟩
abbrev TDX : TypeId := 137
abbrev GX (w : World) (g : Nat) (F : Nat → Prop) (d : DSt DX) (st : SX) (hl : List Int) : Prop := GRep TDX DX EXx w g F { d with st := st, held := hl }
theorem GX.of {w : World} {g : Nat} {F : Nat → Prop} {d : DSt DX} (h : GRep TDX DX EX w g F d) : GX w g F d d.st d.held := by
 obtain ⟨lv, st, xs, G, hb, hq, hF, hs, ⟨h1, h2⟩, hgg, hll⟩ := h
 exact ⟨lv, st, xs, G, hb, hq, hF, hs, h1, hgg, hll⟩
theorem GX.to {w : World} {g : Nat} {F : Nat → Prop} {d : DSt DX} {st : SX} {hl : List Int} (h : GX w g F d st hl) (he : d.err = 0) (hok : OKX st) : GRep TDX DX EX w g F { d with st := st, held := hl } := by
 obtain ⟨lv, st', xs, G, hb, hq, hF, hs, h1, hgg, hll⟩ := h
 obtain rfl := hs he
 exact ⟨lv, _, xs, G, hb, hq, hF, fun _ => rfl, ⟨h1, hok⟩, hgg, hll⟩
structure OpenX (w : World) (g : Nat) (F : Nat → Prop) (d : DSt DX) (st : SX) (hl : List Int) (t : Nat) : Prop where
 c5 : w.cell? ⟨g, 5, none⟩ = some (.pointer (some ⟨t, 0, none⟩))
 c6 : w.cell? ⟨g, 6, none⟩ = some (.bool st.uni)
 c7 : w.cell? ⟨g, 7, none⟩ = some (.int .i64 st.active)
 c8 : w.cell? ⟨g, 8, none⟩ = some (.int .i64 st.begun)
 c9 : w.cell? ⟨g, 9, none⟩ = some (.int .i64 st.n)
 c10 : w.cell? ⟨g, 10, none⟩ = some (.int .u8 st.first)
 c11 : w.cell? ⟨g, 11, none⟩ = some (.int .u32 st.upper)
 fz : ∀ i, w.frozen? ⟨g, i, none⟩ = false
 win : WinAt w t st.offs usedI
 wset : ∀ (n : Nat) (x : Int), n < 8 → GX (w.setCell ⟨t, n, none⟩ (.int .u32 x)) g F d { st with offs := st.offs.set n x } hl ∧ Eff w (w.setCell ⟨t, n, none⟩ (.int .u32 x)) F
theorem GX.open {w : World} {g : Nat} {F : Nat → Prop} {d : DSt DX} {st : SX} {hl : List Int} (h : GX w g F d st hl) (he : d.err = 0) : ∃ t, OpenX w g F d st hl t := by
 obtain ⟨lv, st', xs, G, hb, hq, hF, hs, ⟨t, rfl, ht, hG⟩, hgg, hll⟩ := h
 obtain rfl := hs he
 refine ⟨t, hb.cell rfl, hb.cell rfl, hb.cell rfl, hb.cell rfl, hb.cell rfl, hb.cell rfl, hb.cell rfl, hb.frozen, ht, fun n x hn => ?_⟩
 have hgt : g ≠ t := fun e => hgg ((hG g).2 e)
 have hf := Eff.set w t n (.int .u32 x)
 exact ⟨⟨lv, _, _, G, hb.far hgt _, q_move hq fun k hk => hf.block k (q_lt hq k hk) fun e => hll k hk ((hG k).2 e), hF, fun _ => rfl, ⟨t, rfl, ht.set n hn x, hG⟩, hgg, hll⟩, hf.mono fun k _ e => (hF k).2 (.inr (.inr ((hG k).2 e)))⟩
theorem GX.set {w : World} {g : Nat} {F : Nat → Prop} {d : DSt DX} {st st1 : SX} {hl : List Int} (h : GX w g F d st hl) (he : d.err = 0) (i : Nat) (v : Value) (ho : st.offs = st1.offs)
  (hv : ∀ t, (xsX t st).set i v = xsX t st1) : GX (w.setCell ⟨g, i + 5, none⟩ v) g F d st1 hl ∧ Eff w (w.setCell ⟨g, i + 5, none⟩ v) F := by
 obtain ⟨lv, st', xs, G, hb, hq, hF, hs, ⟨t, rfl, ht, hG⟩, hgg, hll⟩ := h
 obtain rfl := hs he
 obtain ⟨k1, k2⟩ := GRep.xset (by decide) w i v hb hq
 have hgt : g ≠ t := fun e => hgg ((hG g).2 e)
 have ht2 : WinAt (w.setCell ⟨g, i + 5, none⟩ v) t st1.offs usedI := by rw [← ho]; exact ⟨ht.1.far hgt.symm _, ht.2⟩
 exact ⟨⟨lv, st1, _, G, k1, k2, hF, fun _ => rfl, ⟨t, hv t, ht2, hG⟩, hgg, hll⟩, (Eff.set _ _ _ _).mono fun k _ e => (hF k).2 (.inl e)⟩
set_option maxRecDepth 100000 in
theorem xbegin_c {w : World} {g : Nat} {F : Nat → Prop} {d : DSt DX} {st : SX} {hl : List Int} (h : GX w g F d st hl) (he : d.err = 0) (a b : Int) : Calls Tryz.prog 240 #[.pointer (some ⟨g, 0, none⟩), .int .i64 a, .int .i64 b] w fun e w' => e = .returned (.bool true) ∧ GX w' g F d { st with begun := a, n := b } hl ∧ Eff w w' F := by
 obtain ⟨t, ho⟩ := h.open he
 have c8 := ho.c8
 have c9 := ho.c9
 have fz := ho.fz
 obtain ⟨k1, e1⟩ := h.set he 3 (.int .i64 a) (st1 := { st with begun := a }) rfl (fun _ => rfl)
 obtain ⟨k2, e2⟩ := k1.set he 4 (.int .i64 b) (st1 := { st with begun := a, n := b }) rfl (fun _ => rfl)
 have HK := Lib.hid (And.intro k2 (e1.trans e2 (fun _ _ h => h)))
 clear ho k1 e1 k2 e2 h
 go_enter Tryz.func240, Tryz.ntmps240
 go_wp2_with fail
 go_ret
 exact ⟨rfl, HK.out⟩
set_option maxRecDepth 100000 in
theorem xact_c {w : World} {g : Nat} {F : Nat → Prop} {d : DSt DX} {st : SX} {hl : List Int} (h : GX w g F d st hl) (he : d.err = 0) (a : Int) : Calls Tryz.prog 237 #[.pointer (some ⟨g, 0, none⟩), .int .i64 a] w fun e w' => e = .returned (.bool true) ∧ GX w' g F d { st with active := a, uni := false, begun := 0 } hl ∧ Eff w w' F := by
 obtain ⟨t, ho⟩ := h.open he
 have c6 := ho.c6
 have c7 := ho.c7
 have c8 := ho.c8
 have fz := ho.fz
 obtain ⟨k1, e1⟩ := h.set he 2 (.int .i64 a) (st1 := { st with active := a }) rfl (fun _ => rfl)
 obtain ⟨k2, e2⟩ := k1.set he 1 (.bool false) (st1 := { st with active := a, uni := false }) rfl (fun _ => rfl)
 obtain ⟨k3, e3⟩ := k2.set he 3 (.int .i64 0) (st1 := { st with active := a, uni := false, begun := 0 }) rfl (fun _ => rfl)
 have HK := Lib.hid (And.intro k3 ((e1.trans e2 (fun _ _ h => h)).trans e3 (fun _ _ h => h)))
 clear ho k1 e1 k2 e2 k3 e3 h
 go_enter Tryz.func237, Tryz.ntmps237
 go_wp2_with fail
 go_ret
 exact ⟨rfl, HK.out⟩
set_option maxRecDepth 100000 in
theorem xfits_c {w : World} {g : Nat} {F : Nat → Prop} {d : DSt DX} {st : SX} {hl : List Int} (h : GX w g F d st hl) (he : d.err = 0) (b : Int) : Calls Tryz.prog 239 #[.pointer (some ⟨g, 0, none⟩), .int .u8 b] w fun e w' => e = .returned (.bool (fitsX st b)) ∧ w' = w := by
 obtain ⟨t, ho⟩ := h.open he
 have c11 := ho.c11
 by_cases h1 : 220 ≤ b
 ·by_cases h2 : b ≤ 223
  ·have hd : fitsX st b = (true == (st.upper != 0)) := by unfold fitsX; rw [decide_eq_true ⟨h1, h2⟩]
   have HD := Lib.hid hd
   clear ho h hd
   go_enter Tryz.func239, Tryz.ntmps239
   go_wp2_with fail
   go_ret
   rw [HD.out]
   exact ⟨by simp, rfl⟩
  ·have hd : fitsX st b = (false == (st.upper != 0)) := by unfold fitsX; rw [decide_eq_false (fun h => h2 h.2)]
   have HD := Lib.hid hd
   clear ho h hd
   go_enter Tryz.func239, Tryz.ntmps239
   go_wp2_with fail
   go_ret
   rw [HD.out]
   exact ⟨by simp, rfl⟩
 ·have hd : fitsX st b = (false == (st.upper != 0)) := by unfold fitsX; rw [decide_eq_false (fun h => h1 h.1)]
  have HD := Lib.hid hd
  clear ho h hd
  go_enter Tryz.func239, Tryz.ntmps239
  go_wp2_with fail
  go_ret
  rw [HD.out]
  exact ⟨by simp, rfl⟩
def NXP (w : World) (g : Nat) (F : Nat → Prop) (d : DSt DX) (hl : List Int) (r : Option (SX × List Int)) (e : Ending) (w' : World) : Prop :=
 ∃ F', (match r with
  | none => e = .returned (.bool false) ∧ ∃ s, OKX s ∧ GX w' g F' d s hl
  | some (s, l) => e = .returned (.bool true) ∧ GX w' g F' d s (hl ++ l)) ∧ Eff w w' F ∧ (∀ k, F' k → F k ∨ w.heap.size ≤ k)
def HoldP (w : World) (g : Nat) (F : Nat → Prop) (d : DSt DX) (st : SX) (hl : List Int) (x : Int) (e : Ending) (w' : World) : Prop :=
 e = .returned (.tuple #[]) ∧ ∃ F', GX w' g F' d st (hl ++ [x]) ∧ Eff w w' F ∧ (∀ k, F' k → F k ∨ w.heap.size ≤ k)
theorem xhold_c {w : World} {g : Nat} {F : Nat → Prop} {d : DSt DX} {st : SX} {hl : List Int} (h : GX w g F d st hl) (hn : hl.length ≤ 9000000) (x : Int) :
  Calls Tryz.prog 195 #[.pointer (some ⟨g, 4, none⟩), .slice (some ⟨w.heap.size, 0, none⟩) 1 1] (w.alloc (.cells #[.int .u32 x] 47 (0, 0))) (HoldP w g F d st hl x) := by
 have h2 := h.eff EXx_ok (Eff.alloc w (.cells #[.int .u32 x] 47 (0, 0)) (fun _ => False)) (fun _ _ h => h)
 refine (GRep.hold EXx_ok (by decide) h2 (c := 1) (reads_u32 w x) (by show hl.length + 1 ≤ _; omega)).mono ?_
 rintro e w' ⟨rfl, F', hr, he, hf⟩
 exact ⟨rfl, F', hr, (Eff.alloc w _ F).trans he (fun _ _ h => h), fun k hk => (hf k hk).elim .inl fun h => .inr (Nat.le_trans (by simp) h)⟩
theorem xholdd_c {w : World} {g : Nat} {F : Nat → Prop} {d : DSt DX} {st : SX} {hl : List Int} (h : GX w g F d st hl) (hn : hl.length ≤ 9000000) (x : Int) :
  Calls Tryz.prog 195 #[.pointer (some ⟨g, 4, none⟩), .slice (some ⟨w.heap.size, 0, none⟩) 1 1] (w.alloc (.cells #[.int .u32 x] 47 (0, 0))).drew (HoldP w g F d st hl x) := by
 have hE : Eff w (w.alloc (.cells #[.int .u32 x] 47 (0, 0))).drew (fun _ => False) := (Eff.alloc w _ _).trans (Eff.drewN _ 1 _) (fun _ _ h => h)
 have h2 := h.eff EXx_ok hE (fun _ _ h => h)
 refine (GRep.hold EXx_ok (by decide) h2 (c := 1) (show ReadsInt (w.alloc (.cells #[.int .u32 x] 47 (0, 0))).drew .u32 (some ⟨w.heap.size, 0, none⟩) [x].length [x] from reads_u32 w x) (by show hl.length + 1 ≤ _; omega)).mono ?_
 rintro e w' ⟨rfl, F', hr, he, hf⟩
 exact ⟨rfl, F', hr, (hE.mono fun _ _ h => h.elim).trans he (fun _ _ h => h), fun k hk => (hf k hk).elim .inl fun h => .inr (Nat.le_trans hE.size h)⟩
set_option maxRecDepth 100000 in
set_option maxHeartbeats 8000000 in
theorem xwhole_c {w : World} {g : Nat} {F : Nat → Prop} {d : DSt DX} {st : SX} {hl : List Int} (h : GX w g F d st hl) (he : d.err = 0) (hok : OKX st) (hn : hl.length ≤ 9000000) (b : Int) (h0 : 0 ≤ b) (h1 : b ≤ 65535) :
  Calls Tryz.prog 241 #[.pointer (some ⟨g, 0, none⟩), .int .u32 b] w (NXP w g F d hl (wholeX st b)) := by
 obtain ⟨t, ho⟩ := h.open he
 have HX := Lib.hid h
 have HOK := Lib.hid hok
 have HHN := Lib.hid hn
 have HO := Lib.hid ho
 obtain ⟨k1, e1⟩ := h.set he 3 (.int .i64 0) (st1 := { st with begun := 0 }) rfl (fun _ => rfl)
 obtain ⟨w1, hw1⟩ : ∃ w1, w.setCell ⟨g, 8, none⟩ (.int .i64 0) = w1 := ⟨_, rfl⟩
 have hw1' : w.setCell ⟨g, 3 + 5, none⟩ (.int .i64 0) = w1 := hw1
 rw [hw1'] at k1 e1
 have c8 := ho.c8
 have fz := ho.fz
 obtain ⟨t1, ho1⟩ := k1.open he
 have d11 := ho1.c11
 have fz1 := ho1.fz
 have hup := hok.upp
 have K1 := Lib.hid k1
 have E1 := Lib.hid e1
 clear k1 e1 ho ho1 h hok hw1'
 obtain ⟨up, hupe⟩ : ∃ up, st.upper = up := ⟨_, rfl⟩
 have HUP := Lib.hid hupe
 have d11' : w1.cell? ⟨g, 11, none⟩ = some (.int .u32 up) := by rw [← hupe]; exact d11
 rw [hupe] at hup
 clear d11
 by_cases hz : up = 0
 ·have hzb : (up != 0) = false := by simpa using hz
  by_cases hs : 55296 ≤ b ∧ b < 56320
  ·have hs1 := hs.1
   have hs2 := hs.2
   have hR : Hid (wholeX st b = some ({ st with begun := 0, upper := b }, [])) := Lib.hid (by unfold wholeX; rw [if_neg (by rw [hupe]; exact fun h => h hz), if_pos hs])
   obtain ⟨k2, e2⟩ := K1.out.set he 6 (.int .u32 b) (st1 := { st with begun := 0, upper := b }) rfl (fun _ => rfl)
   have K2 := Lib.hid (And.intro k2 (E1.out.trans e2 (fun _ _ h => h)))
   clear k2 e2 hup hz hs hupe
   go_enter Tryz.func241, Tryz.ntmps241
   go_wp2_with fail
   go_ret
   rw [hR.out]
   exact ⟨F, ⟨rfl, by rw [List.append_nil]; exact K2.out.1⟩, K2.out.2, fun k h => .inl h⟩
  ·have hR : Hid (wholeX st b = some ({ st with begun := 0 }, [b])) := Lib.hid (by unfold wholeX; rw [if_neg (by rw [hupe]; exact fun h => h hz), if_neg hs])
   have HHO := Lib.hid (xhold_c K1.out HHN.out b)
   clear hup hz hupe
   by_cases hs1 : 55296 ≤ b
   ·have hs2 : ¬ b < 56320 := fun h => hs ⟨hs1, h⟩
    clear hs
    go_enter Tryz.func241, Tryz.ntmps241
    go_wp2_with (go_at_call 195; refine HHO.out.mono ?_; rintro e w2 ⟨rfl, F2, hr2, he2, hf2⟩; have HR2 := Lib.hid (And.intro hr2 (And.intro he2 hf2)); clear hr2 he2 hf2)
    go_ret
    rw [hR.out]
    exact ⟨F2, ⟨rfl, HR2.out.1⟩, E1.out.trans HR2.out.2.1 (fun _ _ h => h), fun k h => (HR2.out.2.2 k h).elim .inl fun h2 => .inr (Nat.le_trans E1.out.size h2)⟩
   ·clear hs
    go_enter Tryz.func241, Tryz.ntmps241
    go_wp2_with (go_at_call 195; refine HHO.out.mono ?_; rintro e w2 ⟨rfl, F2, hr2, he2, hf2⟩; have HR2 := Lib.hid (And.intro hr2 (And.intro he2 hf2)); clear hr2 he2 hf2)
    go_ret
    rw [hR.out]
    exact ⟨F2, ⟨rfl, HR2.out.1⟩, E1.out.trans HR2.out.2.1 (fun _ _ h => h), fun k h => (HR2.out.2.2 k h).elim .inl fun h2 => .inr (Nat.le_trans E1.out.size h2)⟩
 ·have hzb : (up != 0) = true := by simpa using hz
  have hu2 : 55296 ≤ up ∧ up < 56320 := hup.resolve_left hz
  have hu3 := hu2.1
  have hu4 := hu2.2
  have a1 : bits .and .u32 up 1023 = up % 1024 := u32_and1023 (by omega) (by omega)
  have a2 : bits .and .u32 b 1023 = b % 1024 := u32_and1023 h0 (by omega)
  have a3 : up % 1024 * 1024 < 4294967296 := by omega
  have a4 : 65536 + up % 1024 * 1024 < 4294967296 := by omega
  have a5 : 65536 + up % 1024 * 1024 + b % 1024 < 4294967296 := by omega
  have a6 : 0 ≤ up % 1024 * 1024 := by omega
  have a7 : 0 ≤ b % 1024 := by omega
  have v1 : IntKind.u32.wrap (up % 1024 * 1024) = up % 1024 * 1024 := wraps_u32 _ a6 a3
  have v2 : IntKind.u32.wrap (65536 + up % 1024 * 1024) = 65536 + up % 1024 * 1024 := wraps_u32 _ (by omega) a4
  have v3 : IntKind.u32.wrap (65536 + up % 1024 * 1024 + b % 1024) = 65536 + up % 1024 * 1024 + b % 1024 := wraps_u32 _ (by omega) a5
  obtain ⟨X, hX⟩ : ∃ X, 65536 + up % 1024 * 1024 + b % 1024 = X := ⟨_, rfl⟩
  rw [hX] at v3 a5
  have hR : Hid (wholeX st b = some ({ st with begun := 0, upper := 0 }, [X])) := Lib.hid (by unfold wholeX; rw [if_pos (by rw [hupe]; exact hz), hupe, hX])
  have HHO := Lib.hid (xholdd_c K1.out HHN.out X)
  clear hup hz hu2 hupe
  go_enter Tryz.func241, Tryz.ntmps241
  go_upto_region 4 with fail
  go_cut [] (fun wx => ∃ F6, Hid (GX wx g F6 d { st with begun := 0 } (hl ++ [X]) ∧ Eff w wx F ∧ ∀ k, F6 k → F k ∨ w.heap.size ≤ k))
  case first =>
   go_region_with (go_at_call 195; refine HHO.out.mono ?_; rintro e w2 ⟨rfl, F2, hr2, he2, hf2⟩; have HR2 := Lib.hid (And.intro hr2 (And.intro he2 hf2)); clear hr2 he2 hf2)
   all_goals (go_wp2_with fail; go_meet)
   all_goals exact ⟨F2, Lib.hid ⟨HR2.out.1, E1.out.trans HR2.out.2.1 (fun _ _ h => h), fun k h => (HR2.out.2.2 k h).elim .inl fun h2 => .inr (Nat.le_trans E1.out.size h2)⟩⟩
  case rest =>
   obtain ⟨F6, H6⟩ := hcut
   obtain ⟨t6, ho6⟩ := H6.out.1.open he
   have x11 := ho6.c11
   have xfz := ho6.fz
   obtain ⟨k7, e7⟩ := H6.out.1.set he 6 (.int .u32 0) (st1 := { st with begun := 0, upper := 0 }) rfl (fun _ => rfl)
   have K7 := Lib.hid (And.intro k7 e7)
   clear ho6 k7 e7
   go_wp2_with fail
   go_ret
   rw [hR.out]
   exact ⟨F6, ⟨rfl, K7.out.1⟩, Eff.trans H6.out.2.1 (K7.out.2.mono fun k _ h => h) (fun k hk h => (H6.out.2.2 k h).elim id fun h2 => absurd hk (Nat.not_lt.2 h2)), H6.out.2.2⟩
set_option maxRecDepth 100000 in
set_option maxHeartbeats 8000000 in
theorem xsingle_c {w : World} {g : Nat} {F : Nat → Prop} {d : DSt DX} {st : SX} {hl : List Int} (h : GX w g F d st hl) (he : d.err = 0) (hok : OKX st) (hn : hl.length ≤ 9000000) (b : Int) (h0 : 0 ≤ b) (h1 : b ≤ 255) :
  Calls Tryz.prog 236 #[.pointer (some ⟨g, 0, none⟩), .int .u8 b] w (NXP w g F d hl (singleX st b)) := by
 obtain ⟨t, ho⟩ := h.open he
 have HX := Lib.hid h
 have HOK := Lib.hid hok
 have HHN := Lib.hid hn
 have HO := Lib.hid ho
 have c5 := ho.c5
 have c6 := ho.c6
 have c7 := ho.c7
 have fz := ho.fz
 have hact := hok.act
 have hat := hok.at_ st.active.toNat (by omega)
 obtain ⟨up, hupe⟩ : ∃ up, st.upper = up := ⟨_, rfl⟩
 have c11 : w.cell? ⟨g, 11, none⟩ = some (.int .u32 up) := by rw [← hupe]; exact ho.c11
 have h256 : b < 256 := by omega
 have HU := Lib.hid hupe
 clear ho h hok
 by_cases hz : up = 0
 ·have hzb : (up != 0) = false := by simpa using hz
  by_cases g12 : b = 12
  ·subst g12
   have hR : Hid (singleX st 12 = none) := Lib.hid (by unfold singleX; rw [if_pos (by rw [HU.out]; omega)])
   clear hact hat hz hupe
   go_enter Tryz.func236, Tryz.ntmps236
   go_wp2_with fail
   go_ret
   rw [hR.out]
   exact ⟨F, ⟨rfl, st, HOK.out, HX.out⟩, Eff.refl _ _, fun k h => .inl h⟩
  have q12 : (b == 12) = false := by simpa using g12
  by_cases g128 : 128 ≤ b
  ·obtain ⟨A, hA⟩ : ∃ A, st.offs.getD st.active.toNat 0 = A := ⟨_, rfl⟩
   rw [hA] at hat
   have hA0 := hat.1
   have hA1 : A + b < 4294967296 := by omega
   have hA2 : 0 ≤ A + b - 128 := by omega
   have hA3 : A + b - 128 < 4294967296 := by omega
   have v0 : IntKind.u32.wrap b = b := wraps_u32 _ h0 (by omega)
   have v1 : IntKind.u32.wrap (A + b) = A + b := wraps_u32 _ (by omega) hA1
   have v2 : IntKind.u32.wrap (A + b - 128) = A + b - 128 := wraps_u32 _ hA2 hA3
   have hAb : 0 ≤ A + b := by omega
   have hR : Hid (singleX st b = some (st, [A + b - 128])) := Lib.hid (by unfold singleX; rw [if_neg (by rw [HU.out]; omega), if_pos (by omega), hA])
   obtain ⟨m, hm⟩ : ∃ m : Nat, st.active = m := ⟨st.active.toNat, by omega⟩
   have HAT : Hid (∀ W, WinAt W t st.offs usedI → Calls Tryz.prog 176 #[.pointer (some ⟨t, 0, none⟩), .int .i64 st.active] W fun e w' => e = .returned (.int .u32 A) ∧ w' = W) := Lib.hid fun W hW => by
    have h := winat_c hW m (by omega)
    rw [hm, ← hA, hm, Int.toNat_natCast]
    exact h
   have HHO := Lib.hid (xholdd_c HX.out HHN.out (A + b - 128))
   have HWN := Lib.hid HO.out.win
   clear hact hat hz hupe hA hm g12
   go_enter Tryz.func236, Tryz.ntmps236
   go_upto_region 6 with fail
   go_region_with (first
    | (go_at_call 176; refine (HAT.out _ (by first | exact HWN.out | exact ⟨HWN.out.1.drewN 1, HWN.out.2⟩)).mono ?_; rintro e w1 ⟨rfl, rfl⟩)
    | (go_at_call 195; refine HHO.out.mono ?_; rintro e w2 ⟨rfl, F2, hr2, he2, hf2⟩; have HR2 := Lib.hid (And.intro hr2 (And.intro he2 hf2)); clear hr2 he2 hf2))
   all_goals (go_wp2_with fail; go_ret; rw [hR.out]; exact ⟨F2, ⟨rfl, HR2.out.1⟩, HR2.out.2.1, HR2.out.2.2⟩)
  by_cases g32 : 32 ≤ b
  ·have hR : Hid (singleX st b = some (st, [b])) := Lib.hid (by unfold singleX; rw [if_neg (by rw [HU.out]; omega), if_neg (by omega), if_pos (by omega)])
   have HHO := Lib.hid (xhold_c HX.out HHN.out b)
   clear hact hat hz hupe g12
   go_enter Tryz.func236, Tryz.ntmps236
   go_wp2_with (go_at_call 195; refine HHO.out.mono ?_; rintro e w2 ⟨rfl, F2, hr2, he2, hf2⟩; have HR2 := Lib.hid (And.intro hr2 (And.intro he2 hf2)); clear hr2 he2 hf2)
   go_ret
   rw [hR.out]
   exact ⟨F2, ⟨rfl, HR2.out.1⟩, HR2.out.2.1, HR2.out.2.2⟩
  by_cases g0 : b = 0
  ·subst g0
   have hR : Hid (singleX st 0 = some (st, [0])) := Lib.hid (by unfold singleX; rw [if_neg (by rw [HU.out]; omega), if_neg (by omega), if_pos (by omega)])
   have HHO := Lib.hid (xhold_c HX.out HHN.out 0)
   clear hact hat hz hupe
   go_enter Tryz.func236, Tryz.ntmps236
   go_wp2_with (go_at_call 195; refine HHO.out.mono ?_; rintro e w2 ⟨rfl, F2, hr2, he2, hf2⟩; have HR2 := Lib.hid (And.intro hr2 (And.intro he2 hf2)); clear hr2 he2 hf2)
   go_ret
   rw [hR.out]
   exact ⟨F2, ⟨rfl, HR2.out.1⟩, HR2.out.2.1, HR2.out.2.2⟩
  have q0 : (b == 0) = false := by simpa using g0
  by_cases g9 : b = 9
  ·subst g9
   have hR : Hid (singleX st 9 = some (st, [9])) := Lib.hid (by unfold singleX; rw [if_neg (by rw [HU.out]; omega), if_neg (by omega), if_pos (by omega)])
   have HHO := Lib.hid (xhold_c HX.out HHN.out 9)
   clear hact hat hz hupe
   go_enter Tryz.func236, Tryz.ntmps236
   go_wp2_with (go_at_call 195; refine HHO.out.mono ?_; rintro e w2 ⟨rfl, F2, hr2, he2, hf2⟩; have HR2 := Lib.hid (And.intro hr2 (And.intro he2 hf2)); clear hr2 he2 hf2)
   go_ret
   rw [hR.out]
   exact ⟨F2, ⟨rfl, HR2.out.1⟩, HR2.out.2.1, HR2.out.2.2⟩
  have q9 : (b == 9) = false := by simpa using g9
  by_cases g10 : b = 10
  ·subst g10
   have hR : Hid (singleX st 10 = some (st, [10])) := Lib.hid (by unfold singleX; rw [if_neg (by rw [HU.out]; omega), if_neg (by omega), if_pos (by omega)])
   have HHO := Lib.hid (xhold_c HX.out HHN.out 10)
   clear hact hat hz hupe
   go_enter Tryz.func236, Tryz.ntmps236
   go_wp2_with (go_at_call 195; refine HHO.out.mono ?_; rintro e w2 ⟨rfl, F2, hr2, he2, hf2⟩; have HR2 := Lib.hid (And.intro hr2 (And.intro he2 hf2)); clear hr2 he2 hf2)
   go_ret
   rw [hR.out]
   exact ⟨F2, ⟨rfl, HR2.out.1⟩, HR2.out.2.1, HR2.out.2.2⟩
  have q10 : (b == 10) = false := by simpa using g10
  by_cases g13 : b = 13
  ·subst g13
   have hR : Hid (singleX st 13 = some (st, [13])) := Lib.hid (by unfold singleX; rw [if_neg (by rw [HU.out]; omega), if_neg (by omega), if_pos (by omega)])
   have HHO := Lib.hid (xhold_c HX.out HHN.out 13)
   clear hact hat hz hupe
   go_enter Tryz.func236, Tryz.ntmps236
   go_wp2_with (go_at_call 195; refine HHO.out.mono ?_; rintro e w2 ⟨rfl, F2, hr2, he2, hf2⟩; have HR2 := Lib.hid (And.intro hr2 (And.intro he2 hf2)); clear hr2 he2 hf2)
   go_ret
   rw [hR.out]
   exact ⟨F2, ⟨rfl, HR2.out.1⟩, HR2.out.2.1, HR2.out.2.2⟩
  have q13 : (b == 13) = false := by simpa using g13
  by_cases g24 : 24 ≤ b
  ·have f1 : 0 ≤ b - 24 := by omega
   have hR : Hid (singleX st b = some ({ st with begun := 2, n := b - 24 }, [])) := Lib.hid (by unfold singleX; rw [if_neg (by rw [HU.out]; omega), if_neg (by omega), if_neg (by omega), if_pos (by omega)]; rfl)
   have HBG := Lib.hid (xbegin_c HX.out he 2 (b - 24))
   clear hact hat hz hupe
   go_enter Tryz.func236, Tryz.ntmps236
   go_wp2_with (go_at_call 240; refine HBG.out.mono ?_; rintro e w2 ⟨rfl, hr2, he2⟩; have HR2 := Lib.hid (And.intro hr2 he2); clear hr2 he2)
   go_ret
   rw [hR.out]
   exact ⟨F, ⟨rfl, by rw [List.append_nil]; exact HR2.out.1⟩, HR2.out.2, fun k h => .inl h⟩
  by_cases g16 : 16 ≤ b
  ·have f1 : 0 ≤ b - 16 := by omega
   have hR : Hid (singleX st b = some ({ st with active := b - 16, uni := false, begun := 0 }, [])) := Lib.hid (by unfold singleX; rw [if_neg (by rw [HU.out]; omega), if_neg (by omega), if_neg (by omega), if_neg (by omega), if_pos (by omega)]; rfl)
   have HBG := Lib.hid (xact_c HX.out he (b - 16))
   clear hact hat hz hupe
   go_enter Tryz.func236, Tryz.ntmps236
   go_wp2_with (go_at_call 237; refine HBG.out.mono ?_; rintro e w2 ⟨rfl, hr2, he2⟩; have HR2 := Lib.hid (And.intro hr2 he2); clear hr2 he2)
   go_ret
   rw [hR.out]
   exact ⟨F, ⟨rfl, by rw [List.append_nil]; exact HR2.out.1⟩, HR2.out.2, fun k h => .inl h⟩
  by_cases g15 : b = 15
  ·subst g15
   have hR : Hid (singleX st 15 = some ({ st with uni := true }, [])) := Lib.hid (by unfold singleX; rw [if_neg (by rw [HU.out]; omega), if_neg (by omega), if_neg (by omega), if_neg (by omega), if_neg (by omega), if_pos (by omega)])
   obtain ⟨k1, e1⟩ := HX.out.set he 1 (.bool true) (st1 := { st with uni := true }) rfl (fun _ => rfl)
   have HR2 := Lib.hid (And.intro k1 e1)
   clear k1 e1 hact hat hz hupe
   go_enter Tryz.func236, Tryz.ntmps236
   go_wp2_with fail
   go_ret
   rw [hR.out]
   exact ⟨F, ⟨rfl, by rw [List.append_nil]; exact HR2.out.1⟩, HR2.out.2, fun k h => .inl h⟩
  by_cases g14 : b = 14
  ·subst g14
   have hR : Hid (singleX st 14 = some ({ st with begun := 5, n := 0 }, [])) := Lib.hid (by unfold singleX; rw [if_neg (by rw [HU.out]; omega), if_neg (by omega), if_neg (by omega), if_neg (by omega), if_neg (by omega), if_neg (by omega), if_pos (by omega)]; rfl)
   have HBG := Lib.hid (xbegin_c HX.out he 5 0)
   clear hact hat hz hupe
   go_enter Tryz.func236, Tryz.ntmps236
   go_wp2_with (go_at_call 240; refine HBG.out.mono ?_; rintro e w2 ⟨rfl, hr2, he2⟩; have HR2 := Lib.hid (And.intro hr2 he2); clear hr2 he2)
   go_ret
   rw [hR.out]
   exact ⟨F, ⟨rfl, by rw [List.append_nil]; exact HR2.out.1⟩, HR2.out.2, fun k h => .inl h⟩
  by_cases g11 : b = 11
  ·subst g11
   have hR : Hid (singleX st 11 = some ({ st with begun := 3, n := 0 }, [])) := Lib.hid (by unfold singleX; rw [if_neg (by rw [HU.out]; omega), if_neg (by omega), if_neg (by omega), if_neg (by omega), if_neg (by omega), if_neg (by omega), if_neg (by omega), if_pos (by omega)]; rfl)
   have HBG := Lib.hid (xbegin_c HX.out he 3 0)
   clear hact hat hz hupe
   go_enter Tryz.func236, Tryz.ntmps236
   go_wp2_with (go_at_call 240; refine HBG.out.mono ?_; rintro e w2 ⟨rfl, hr2, he2⟩; have HR2 := Lib.hid (And.intro hr2 he2); clear hr2 he2)
   go_ret
   rw [hR.out]
   exact ⟨F, ⟨rfl, by rw [List.append_nil]; exact HR2.out.1⟩, HR2.out.2, fun k h => .inl h⟩
  have q15 : (b == 15) = false := by simpa using g15
  have q14 : (b == 14) = false := by simpa using g14
  have q11 : (b == 11) = false := by simpa using g11
  have f1 : 0 ≤ b - 1 := by omega
  have hR : Hid (singleX st b = some ({ st with begun := 1, n := b - 1 }, [])) := Lib.hid (by unfold singleX; rw [if_neg (by rw [HU.out]; omega), if_neg (by omega), if_neg (by omega), if_neg (by omega), if_neg (by omega), if_neg (by omega), if_neg (by omega), if_neg (by omega)]; rfl)
  have HBG := Lib.hid (xbegin_c HX.out he 1 (b - 1))
  clear hact hat hz hupe
  go_enter Tryz.func236, Tryz.ntmps236
  go_wp2_with (go_at_call 240; refine HBG.out.mono ?_; rintro e w2 ⟨rfl, hr2, he2⟩; have HR2 := Lib.hid (And.intro hr2 he2); clear hr2 he2)
  go_ret
  rw [hR.out]
  exact ⟨F, ⟨rfl, by rw [List.append_nil]; exact HR2.out.1⟩, HR2.out.2, fun k h => .inl h⟩
 ·have hzb : (up != 0) = true := by simpa using hz
  by_cases g14 : b = 14
  ·subst g14
   have hR : Hid (singleX st 14 = some ({ st with begun := 5, n := 0 }, [])) := Lib.hid (by unfold singleX; rw [if_neg (by rw [HU.out]; omega), if_neg (by omega), if_neg (by omega), if_neg (by omega), if_neg (by omega), if_neg (by omega), if_pos (by omega)]; rfl)
   have HBG := Lib.hid (xbegin_c HX.out he 5 0)
   clear hact hat hz hupe
   go_enter Tryz.func236, Tryz.ntmps236
   go_wp2_with (go_at_call 240; refine HBG.out.mono ?_; rintro e w2 ⟨rfl, hr2, he2⟩; have HR2 := Lib.hid (And.intro hr2 he2); clear hr2 he2)
   go_ret
   rw [hR.out]
   exact ⟨F, ⟨rfl, by rw [List.append_nil]; exact HR2.out.1⟩, HR2.out.2, fun k h => .inl h⟩
  have q14 : (b != 14) = true := by simpa using g14
  have hR : Hid (singleX st b = none) := Lib.hid (by unfold singleX; rw [if_pos (by rw [HU.out]; omega)])
  clear hact hat hz hupe
  go_enter Tryz.func236, Tryz.ntmps236
  go_wp2_with fail
  go_ret
  rw [hR.out]
  exact ⟨F, ⟨rfl, st, HOK.out, HX.out⟩, Eff.refl _ _, fun k h => .inl h⟩
set_option maxRecDepth 100000 in
set_option maxHeartbeats 8000000 in
theorem xdouble_c {w : World} {g : Nat} {F : Nat → Prop} {d : DSt DX} {st : SX} {hl : List Int} (h : GX w g F d st hl) (he : d.err = 0) (hok : OKX st) (hn : hl.length ≤ 9000000) (b : Int) (h0 : 0 ≤ b) (h1 : b ≤ 255) :
  Calls Tryz.prog 235 #[.pointer (some ⟨g, 0, none⟩), .int .u8 b] w (NXP w g F d hl (doubleX st b)) := by
 obtain ⟨t, ho⟩ := h.open he
 have HX := Lib.hid h
 have HOK := Lib.hid hok
 have HHN := Lib.hid hn
 have HO := Lib.hid ho
 have c10 := ho.c10
 have fz := ho.fz
 obtain ⟨up, hupe⟩ : ∃ up, st.upper = up := ⟨_, rfl⟩
 have c11 : w.cell? ⟨g, 11, none⟩ = some (.int .u32 up) := by rw [← hupe]; exact ho.c11
 have h256 : b < 256 := by omega
 have HU := Lib.hid hupe
 clear ho h hok hupe
 by_cases g224 : b < 224
 ·obtain ⟨k1, e1⟩ := HX.out.set he 5 (.int .u8 b) (st1 := { st with first := b }) rfl (fun _ => rfl)
  have hfits := xfits_c k1 he b
  have hfe : fitsX { st with first := b } b = fitsX st b := rfl
  rw [hfe] at hfits
  have hbeg := xbegin_c k1 he 6 0
  have HF := Lib.hid hfits
  have HB6 := Lib.hid hbeg
  have K1 := Lib.hid (And.intro k1 e1)
  clear k1 e1 hfits hbeg hfe
  cases hfx : fitsX st b with
  | true =>
   rw [hfx] at HF
   have hR : Hid (doubleX st b = some ({ st with first := b, begun := 6, n := 0 }, [])) := Lib.hid (by unfold doubleX; rw [if_pos (by omega), if_pos hfx]; rfl)
   clear hfx
   go_enter Tryz.func235, Tryz.ntmps235
   go_wp2_with (first
    | (go_at_call 239; refine HF.out.mono ?_; rintro e w1 ⟨rfl, rfl⟩)
    | (go_at_call 240; refine HB6.out.mono ?_; rintro e w2 ⟨rfl, hr2, he2⟩; have HR2 := Lib.hid (And.intro hr2 he2); clear hr2 he2))
   go_ret
   rw [hR.out]
   exact ⟨F, ⟨rfl, by rw [List.append_nil]; exact HR2.out.1⟩, K1.out.2.trans HR2.out.2 (fun _ _ h => h), fun k h => .inl h⟩
  | false =>
   rw [hfx] at HF
   have hR : Hid (doubleX st b = none) := Lib.hid (by unfold doubleX; rw [if_pos (by omega), if_neg (by rw [hfx]; decide)])
   clear hfx
   have hok1 : Hid (OKX { st with first := b }) := Lib.hid { HOK.out with fst := ⟨h0, h1⟩ }
   go_enter Tryz.func235, Tryz.ntmps235
   go_wp2_with (go_at_call 239; refine HF.out.mono ?_; rintro e w1 ⟨rfl, rfl⟩)
   go_ret
   rw [hR.out]
   exact ⟨F, ⟨rfl, { st with first := b }, hok1.out, K1.out.1⟩, K1.out.2, fun k h => .inl h⟩
 by_cases g242 : 242 < b
 ·have g242' : b > 242 := g242
  obtain ⟨k1, e1⟩ := HX.out.set he 5 (.int .u8 b) (st1 := { st with first := b }) rfl (fun _ => rfl)
  have hfits := xfits_c k1 he b
  have hfe : fitsX { st with first := b } b = fitsX st b := rfl
  rw [hfe] at hfits
  have hbeg := xbegin_c k1 he 6 0
  have HF := Lib.hid hfits
  have HB6 := Lib.hid hbeg
  have K1 := Lib.hid (And.intro k1 e1)
  clear k1 e1 hfits hbeg hfe
  cases hfx : fitsX st b with
  | true =>
   rw [hfx] at HF
   have hR : Hid (doubleX st b = some ({ st with first := b, begun := 6, n := 0 }, [])) := Lib.hid (by unfold doubleX; rw [if_pos (by omega), if_pos hfx]; rfl)
   clear hfx
   go_enter Tryz.func235, Tryz.ntmps235
   go_wp2_with (first
    | (go_at_call 239; refine HF.out.mono ?_; rintro e w1 ⟨rfl, rfl⟩)
    | (go_at_call 240; refine HB6.out.mono ?_; rintro e w2 ⟨rfl, hr2, he2⟩; have HR2 := Lib.hid (And.intro hr2 he2); clear hr2 he2))
   go_ret
   rw [hR.out]
   exact ⟨F, ⟨rfl, by rw [List.append_nil]; exact HR2.out.1⟩, K1.out.2.trans HR2.out.2 (fun _ _ h => h), fun k h => .inl h⟩
  | false =>
   rw [hfx] at HF
   have hR : Hid (doubleX st b = none) := Lib.hid (by unfold doubleX; rw [if_pos (by omega), if_neg (by rw [hfx]; decide)])
   clear hfx
   have hok1 : Hid (OKX { st with first := b }) := Lib.hid { HOK.out with fst := ⟨h0, h1⟩ }
   go_enter Tryz.func235, Tryz.ntmps235
   go_wp2_with (go_at_call 239; refine HF.out.mono ?_; rintro e w1 ⟨rfl, rfl⟩)
   go_ret
   rw [hR.out]
   exact ⟨F, ⟨rfl, { st with first := b }, hok1.out, K1.out.1⟩, K1.out.2, fun k h => .inl h⟩
 by_cases g240 : b = 240
 ·subst g240
  have hR : Hid (doubleX st 240 = some ({ st with begun := 5, n := 0 }, [])) := Lib.hid (by unfold doubleX; rw [if_neg (by omega), if_pos (by omega)]; rfl)
  have HBG := Lib.hid (xbegin_c HX.out he 5 0)
  go_enter Tryz.func235, Tryz.ntmps235
  go_wp2_with (go_at_call 240; refine HBG.out.mono ?_; rintro e w2 ⟨rfl, hr2, he2⟩; have HR2 := Lib.hid (And.intro hr2 he2); clear hr2 he2)
  go_ret
  rw [hR.out]
  exact ⟨F, ⟨rfl, by rw [List.append_nil]; exact HR2.out.1⟩, HR2.out.2, fun k h => .inl h⟩
 have q240 : (b == 240) = false := by simpa using g240
 by_cases hz : up = 0
 ·have hzb : (up != 0) = false := by simpa using hz
  by_cases g2 : b = 242
  ·subst g2
   have hR : Hid (doubleX st 242 = none) := Lib.hid (by unfold doubleX; rw [if_neg (by omega), if_neg (by omega), if_pos (by rw [HU.out]; omega)])
   go_enter Tryz.func235, Tryz.ntmps235
   go_wp2_with fail
   go_ret
   rw [hR.out]
   exact ⟨F, ⟨rfl, st, HOK.out, HX.out⟩, Eff.refl _ _, fun k h => .inl h⟩
  have q242 : (b == 242) = false := by simpa using g2
  by_cases g1 : b = 241
  ·subst g1
   have hR : Hid (doubleX st 241 = some ({ st with begun := 3, n := 0 }, [])) := Lib.hid (by unfold doubleX; rw [if_neg (by omega), if_neg (by omega), if_neg (by rw [HU.out]; omega), if_pos (by omega)]; rfl)
   have HBG := Lib.hid (xbegin_c HX.out he 3 0)
   go_enter Tryz.func235, Tryz.ntmps235
   go_wp2_with (go_at_call 240; refine HBG.out.mono ?_; rintro e w2 ⟨rfl, hr2, he2⟩; have HR2 := Lib.hid (And.intro hr2 he2); clear hr2 he2)
   go_ret
   rw [hR.out]
   exact ⟨F, ⟨rfl, by rw [List.append_nil]; exact HR2.out.1⟩, HR2.out.2, fun k h => .inl h⟩
  have q241 : (b == 241) = false := by simpa using g1
  by_cases g232 : 232 ≤ b
  ·have f1 : 0 ≤ b - 232 := by omega
   have hR : Hid (doubleX st b = some ({ st with begun := 2, n := b - 232 }, [])) := Lib.hid (by unfold doubleX; rw [if_neg (by omega), if_neg (by omega), if_neg (by rw [HU.out]; omega), if_neg (by omega), if_pos (by omega)]; rfl)
   have HBG := Lib.hid (xbegin_c HX.out he 2 (b - 232))
   go_enter Tryz.func235, Tryz.ntmps235
   go_wp2_with (go_at_call 240; refine HBG.out.mono ?_; rintro e w2 ⟨rfl, hr2, he2⟩; have HR2 := Lib.hid (And.intro hr2 he2); clear hr2 he2)
   go_ret
   rw [hR.out]
   exact ⟨F, ⟨rfl, by rw [List.append_nil]; exact HR2.out.1⟩, HR2.out.2, fun k h => .inl h⟩
  have f1 : 0 ≤ b - 224 := by omega
  have hR : Hid (doubleX st b = some ({ st with active := b - 224, uni := false, begun := 0 }, [])) := Lib.hid (by unfold doubleX; rw [if_neg (by omega), if_neg (by omega), if_neg (by rw [HU.out]; omega), if_neg (by omega), if_neg (by omega)]; rfl)
  have HBG := Lib.hid (xact_c HX.out he (b - 224))
  go_enter Tryz.func235, Tryz.ntmps235
  go_wp2_with (go_at_call 237; refine HBG.out.mono ?_; rintro e w2 ⟨rfl, hr2, he2⟩; have HR2 := Lib.hid (And.intro hr2 he2); clear hr2 he2)
  go_ret
  rw [hR.out]
  exact ⟨F, ⟨rfl, by rw [List.append_nil]; exact HR2.out.1⟩, HR2.out.2, fun k h => .inl h⟩
 ·have hzb : (up != 0) = true := by simpa using hz
  have hR : Hid (doubleX st b = none) := Lib.hid (by unfold doubleX; rw [if_neg (by omega), if_neg (by omega), if_pos (by rw [HU.out]; omega)])
  go_enter Tryz.func235, Tryz.ntmps235
  go_wp2_with fail
  go_ret
  rw [hR.out]
  exact ⟨F, ⟨rfl, st, HOK.out, HX.out⟩, Eff.refl _ _, fun k h => .inl h⟩
set_option maxRecDepth 100000 in
set_option maxHeartbeats 8000000 in
theorem xmore_c {w : World} {g : Nat} {F : Nat → Prop} {d : DSt DX} {st : SX} {hl : List Int} (h : GX w g F d st hl) (he : d.err = 0) (hok : OKX st) (hn : hl.length ≤ 9000000) (hbg : st.begun ≠ 0) (b : Int) (h0 : 0 ≤ b) (h1 : b ≤ 255) :
  Calls Tryz.prog 234 #[.pointer (some ⟨g, 0, none⟩), .int .u8 b] w (NXP w g F d hl (moreX st b)) := by
 obtain ⟨t, ho⟩ := h.open he
 have HX := Lib.hid h
 have HOK := Lib.hid hok
 have HHN := Lib.hid hn
 have HO := Lib.hid ho
 have c5 := ho.c5
 have c8 := ho.c8
 have c9 := ho.c9
 have c10 := ho.c10
 have fz := ho.fz
 have hbeg := hok.beg
 have hnn := hok.nn
 have hfst := hok.fst
 have h256 : b < 256 := by omega
 have v0 : IntKind.u32.wrap b = b := wraps_u32 _ h0 (by omega)
 obtain ⟨bg, hbe⟩ : ∃ x, st.begun = x := ⟨_, rfl⟩
 obtain ⟨m, hm⟩ : ∃ m : Nat, st.n = m := ⟨st.n.toNat, by omega⟩
 have hm8 : m < 8 := by omega
 have hat := hok.at_ m hm8
 rw [hbe] at c8 hbeg hbg
 rw [hm] at c9
 obtain ⟨fi, hfi⟩ : ∃ x, st.first = x := ⟨_, rfl⟩
 rw [hfi] at c10 hfst
 have HBE := Lib.hid hbe
 have HM := Lib.hid hm
 have HFI := Lib.hid hfi
 have HWN := Lib.hid ho.win
 have hcase : bg = 1 ∨ bg = 2 ∨ bg = 3 ∨ bg = 4 ∨ bg = 5 ∨ bg = 6 := by omega
 have hm0 : (0 : Int) ≤ (m : Int) := by omega
 have hm1 : (m : Int) < 8 := by omega
 clear ho h hok hbe hm hfi hnn hbeg hbg
 rcases hcase with rfl | rfl | rfl | rfl | rfl | rfl
 ·obtain ⟨A, hA⟩ : ∃ A, st.offs.getD m 0 = A := ⟨_, rfl⟩
  rw [hA] at hat
  obtain ⟨S, hS⟩ : ∃ S, statics.getD m 0 = S := ⟨_, rfl⟩
  have hSr : 0 ≤ S ∧ S ≤ 12288 := by
   have h : m = 0 ∨ m = 1 ∨ m = 2 ∨ m = 3 ∨ m = 4 ∨ m = 5 ∨ m = 6 ∨ m = 7 := by omega
   rw [← hS]
   rcases h with rfl | rfl | rfl | rfl | rfl | rfl | rfl | rfl <;> decide
  have hA0 := hat.1
  have hA1 := hat.2
  have hS0 := hSr.1
  have hS1 := hSr.2
  have HST : Hid (∀ W, Calls Tryz.prog 186 #[.int .i64 m] W fun e w' => e = .returned (.tuple #[.int .u32 S, .bool true]) ∧ w' = W) := Lib.hid fun W => by
   have h := static_c (m : Int) hm0 hm1 W
   rw [Int.toNat_natCast, hS] at h
   exact h
  have HAT : Hid (∀ W, WinAt W t st.offs usedI → Calls Tryz.prog 176 #[.pointer (some ⟨t, 0, none⟩), .int .i64 m] W fun e w' => e = .returned (.int .u32 A) ∧ w' = W) := Lib.hid fun W hW => by
   have h := winat_c hW m hm8
   rw [hA] at h
   exact h
  have HAS := Lib.hid hA
  have HSS := Lib.hid hS
  clear hat hSr hA hS
  by_cases g : 128 ≤ b
  ·obtain ⟨X, hX⟩ : ∃ X, A - 128 + b = X := ⟨_, rfl⟩
   have hR : Hid (moreX st b = some ({ st with begun := 0 }, [X])) := Lib.hid (by unfold moreX; rw [if_pos HBE.out, if_pos g, HM.out, Int.toNat_natCast, HAS.out, hX])
   have v1 : IntKind.u32.wrap (A - 128) = A - 128 := wraps_u32 _ (by omega) (by omega)
   have v2 : IntKind.u32.wrap (A - 128 + b) = A - 128 + b := wraps_u32 _ (by omega) (by omega)
   rw [hX] at v2
   have v3 : 0 ≤ A - 128 := by omega
   have v4 : A - 128 < 4294967296 := by omega
   have v5 : (A - 128) % 4294967296 = A - 128 := by omega
   have v6 : (A - 128 + b) % 4294967296 = X := by omega
   have hge : b ≥ 128 := g
   have HNXT : Hid (∀ W, Eff w W (fun _ => False) → WinAt W t st.offs usedI) := Lib.hid fun W hW => ⟨HWN.out.1.eff hW (fun h => h), HWN.out.2⟩
   go_enter Tryz.func234, Tryz.ntmps234
   go_upto_region 5 with (go_at_call 186; refine (HST.out _).mono ?_; rintro e w1 ⟨rfl, hw1⟩; obtain rfl := hw1.symm; clear hw1)
   go_cut [5] (fun s5 wx => s5 = .int .u32 (A - 128) ∧ ∃ W0, wx = W0 ∧ Hid (Eff w W0 (fun _ => False)))
   case first =>
    go_region_with (go_at_call 176; refine (HAT.out _ (by first | exact HWN.out | exact ⟨HWN.out.1.drewN 1, HWN.out.2⟩)).mono ?_; rintro e w1 ⟨rfl, hw1⟩; obtain rfl := hw1.symm; clear hw1)
    all_goals (go_wp2_with fail; go_meet)
    all_goals exact ⟨rfl, _, rfl, Lib.hid (by first | exact Eff.refl _ _ | exact Eff.drewN _ 1 _ | exact Eff.drewN _ 2 _)⟩
   case rest =>
    obtain ⟨rfl, W0, hw0, HE0⟩ := hcut
    obtain rfl := hw0.symm
    clear hw0
    have HX0 := Lib.hid (HX.out.eff EXx_ok HE0.out (fun _ _ h => h))
    have HHO := Lib.hid (xhold_c HX0.out HHN.out X)
    go_upto_region 7 with (go_at_call 195; refine HHO.out.mono ?_; rintro e w2 ⟨rfl, F2, hr2, he2, hf2⟩; have HR2 := Lib.hid (And.intro hr2 (And.intro he2 hf2)); clear hr2 he2 hf2)
    obtain ⟨t6, ho6⟩ := HR2.out.1.open he
    have x8 := ho6.c8
    have xfz := ho6.fz
    obtain ⟨k7, e7⟩ := HR2.out.1.set he 3 (.int .i64 0) (st1 := { st with begun := 0 }) rfl (fun _ => rfl)
    have K7 := Lib.hid (And.intro k7 e7)
    clear ho6 k7 e7
    go_wp2_with fail
    go_ret
    rw [hR.out]
    have heff : Eff w _ F := (HE0.out.mono fun _ _ h => h.elim).trans HR2.out.2.1 (fun _ _ h => h)
    have hsub : ∀ k, F2 k → F k ∨ w.heap.size ≤ k := fun k h => (HR2.out.2.2 k h).elim .inl fun h2 => .inr (Nat.le_trans HE0.out.size h2)
    exact ⟨F2, ⟨rfl, K7.out.1⟩, Eff.trans heff K7.out.2 (fun k hk h => (hsub k h).elim id fun h2 => absurd hk (Nat.not_lt.2 h2)), hsub⟩
  ·obtain ⟨X, hX⟩ : ∃ X, S + b = X := ⟨_, rfl⟩
   have hR : Hid (moreX st b = some ({ st with begun := 0 }, [X])) := Lib.hid (by unfold moreX; rw [if_pos HBE.out, if_neg g, HM.out, Int.toNat_natCast, HSS.out, hX])
   have v2 : IntKind.u32.wrap (S + b) = S + b := wraps_u32 _ (by omega) (by omega)
   rw [hX] at v2
   have v6 : (S + b) % 4294967296 = X := by omega
   have hge : ¬ b ≥ 128 := g
   have HHO := Lib.hid (xhold_c HX.out HHN.out X)
   go_enter Tryz.func234, Tryz.ntmps234
   go_upto_region 7 with (first
    | (go_at_call 186; refine (HST.out _).mono ?_; rintro e w1 ⟨rfl, hw1⟩; obtain rfl := hw1.symm; clear hw1)
    | (go_at_call 195; refine HHO.out.mono ?_; rintro e w2 ⟨rfl, F2, hr2, he2, hf2⟩; have HR2 := Lib.hid (And.intro hr2 (And.intro he2 hf2)); clear hr2 he2 hf2))
   obtain ⟨t6, ho6⟩ := HR2.out.1.open he
   have x8 := ho6.c8
   have xfz := ho6.fz
   obtain ⟨k7, e7⟩ := HR2.out.1.set he 3 (.int .i64 0) (st1 := { st with begun := 0 }) rfl (fun _ => rfl)
   have K7 := Lib.hid (And.intro k7 e7)
   clear ho6 k7 e7
   go_wp2_with fail
   go_ret
   rw [hR.out]
   exact ⟨F2, ⟨rfl, K7.out.1⟩, Eff.trans HR2.out.2.1 K7.out.2 (fun k hk h => (HR2.out.2.2 k h).elim id fun h2 => absurd hk (Nat.not_lt.2 h2)), HR2.out.2.2⟩
 ·have hof := fun W => offset_c b h0 h256 W
  cases hfx : offsetF b with
  | none =>
   rw [hfx] at hof
   have HOF := Lib.hid hof
   have hR : Hid (moreX st b = none) := Lib.hid (by unfold moreX; rw [if_neg (by rw [HBE.out]; decide), if_pos HBE.out, hfx])
   clear hof hfx hat
   go_enter Tryz.func234, Tryz.ntmps234
   go_wp2_with (go_at_call 187; refine (HOF.out _).mono ?_; rintro e w1 ⟨rfl, hb1⟩; have HB1 := Lib.hid hb1; clear hb1)
   go_ret
   rw [hR.out]
   exact ⟨F, ⟨rfl, st, HOK.out, HX.out.eff EXx_ok (Eff.of_below HB1.out (fun _ => False)) (fun _ _ h => h)⟩, Eff.of_below HB1.out _, fun k h => .inl h⟩
  | some x =>
   rw [hfx] at hof
   have hxr := offsetF_rng h0 h1 hfx
   have HOF : Hid (∀ W, Calls Tryz.prog 187 #[.int .u8 b] W fun e w' => e = .returned (.tuple #[.int .u32 x, .bool true]) ∧ Below W.heap.size W w') := Lib.hid hof
   have hR : Hid (moreX st b = some ({ st with offs := st.offs.set m x, active := m, uni := false, begun := 0 }, [])) := Lib.hid (by unfold moreX; rw [if_neg (by rw [HBE.out]; decide), if_pos HBE.out, hfx]; show actX { st with offs := st.offs.set st.n.toNat x } st.n = _; rw [HM.out, Int.toNat_natCast]; rfl)
   clear hof hfx hat hxr
   go_enter Tryz.func234, Tryz.ntmps234
   go_upto_region 12 with (go_at_call 187; refine (HOF.out _).mono ?_; rintro e w1 ⟨rfl, hb1⟩; have HB1 := Lib.hid hb1; clear hb1)
   have hx1 := HX.out.eff EXx_ok (Eff.of_below HB1.out (fun _ => False)) (fun _ _ h => h)
   obtain ⟨t1, ho1⟩ := GX.open hx1 he
   have d5 := ho1.c5
   have d9 := ho1.c9
   rw [HM.out] at d9
   have HW1 := Lib.hid ho1.win
   have HS1 := Lib.hid (ho1.wset m x hm8)
   clear ho1 hx1
   go_cut [] (fun wx => Hid (GX wx g F d { st with offs := st.offs.set m x } hl ∧ Eff w wx F))
   case first =>
    go_region_with (go_at_call 184; refine (winset_c (show WinAt _ t1 st.offs usedI from by first | exact HW1.out | exact ⟨HW1.out.1.drewN 1, HW1.out.2⟩) m hm8 x).mono ?_; rintro e w2 ⟨rfl, rfl⟩)
    all_goals (go_wp2_with fail; go_meet)
    all_goals exact Lib.hid (by first | exact ⟨HS1.out.1, (Eff.of_below HB1.out F).trans HS1.out.2 (fun _ _ h => h)⟩ | exact ⟨HS1.out.1.eff EXx_ok (Eff.drewN _ 1 (fun _ => False)) (fun _ _ h => h), ((Eff.of_below HB1.out F).trans HS1.out.2 (fun _ _ h => h)).trans (Eff.drewN _ 1 _) (fun _ _ h => h)⟩)
   case rest =>
    obtain ⟨t2, ho2⟩ := hcut.out.1.open he
    have x9 := ho2.c9
    have x9' := x9
    rw [show ({ st with offs := st.offs.set m x } : SX).n = (m : Int) from HM.out] at x9'
    have HBG := Lib.hid (xact_c hcut.out.1 he (m : Int))
    have HC := hcut
    clear ho2 hcut x9
    go_wp2_with (go_at_call 237; refine HBG.out.mono ?_; rintro e w2 ⟨rfl, hr2, he2⟩; have HR2 := Lib.hid (And.intro hr2 he2); clear hr2 he2)
    go_ret
    rw [hR.out]
    exact ⟨F, ⟨rfl, by rw [List.append_nil]; exact HR2.out.1⟩, HC.out.2.trans HR2.out.2 (fun _ _ h => h), fun k h => .inl h⟩
 ·have hR : Hid (moreX st b = some ({ st with first := b, begun := 4 }, [])) := Lib.hid (by unfold moreX; rw [if_neg (by rw [HBE.out]; decide), if_neg (by rw [HBE.out]; decide), if_pos HBE.out])
  obtain ⟨k1, e1⟩ := HX.out.set he 5 (.int .u8 b) (st1 := { st with first := b }) rfl (fun _ => rfl)
  obtain ⟨k2, e2⟩ := k1.set he 3 (.int .i64 4) (st1 := { st with first := b, begun := 4 }) rfl (fun _ => rfl)
  have HK := Lib.hid (And.intro k2 (e1.trans e2 (fun _ _ h => h)))
  clear k1 e1 k2 e2 hat
  go_enter Tryz.func234, Tryz.ntmps234
  go_wp2_with fail
  go_ret
  rw [hR.out]
  exact ⟨F, ⟨rfl, by rw [List.append_nil]; exact HK.out.1⟩, HK.out.2, fun k h => .inl h⟩
 ·obtain ⟨q, hq⟩ : ∃ q : Nat, fi / 32 = q := ⟨(fi / 32).toNat, by omega⟩
  have hq8 : q < 8 := by omega
  obtain ⟨X, hX⟩ : ∃ X, 65536 + 128 * (fi % 32 * 256 + b) = X := ⟨_, rfl⟩
  have hR : Hid (moreX st b = some ({ st with offs := st.offs.set q X, active := q, uni := false, begun := 0 }, [])) := Lib.hid (by unfold moreX; rw [if_neg (by rw [HBE.out]; decide), if_neg (by rw [HBE.out]; decide), if_neg (by rw [HBE.out]; decide), if_pos HBE.out, HFI.out, hX, hq, Int.toNat_natCast]; rfl)
  have hex := fun W => extended_c fi b hfst.1 hfst.2 h0 h1 W
  rw [hX, hq] at hex
  have HEX := Lib.hid hex
  have HS1 := Lib.hid (HO.out.wset q X hq8)
  have HBG := Lib.hid (xact_c HS1.out.1 he (q : Int))
  clear hex hX hq hat hfst
  go_enter Tryz.func234, Tryz.ntmps234
  go_wp2_with (first
   | (go_at_call 238; refine (HEX.out _).mono ?_; rintro e w1 ⟨rfl, rfl⟩)
   | (go_at_call 184; refine (winset_c HWN.out q hq8 X).mono ?_; rintro e w1 ⟨rfl, rfl⟩)
   | (go_at_call 237; refine HBG.out.mono ?_; rintro e w2 ⟨rfl, hr2, he2⟩; have HR2 := Lib.hid (And.intro hr2 he2); clear hr2 he2))
  go_ret
  rw [hR.out]
  exact ⟨F, ⟨rfl, by rw [List.append_nil]; exact HR2.out.1⟩, HS1.out.2.trans HR2.out.2 (fun _ _ h => h), fun k h => .inl h⟩
 ·clear hat hfst
  obtain ⟨k1, e1⟩ := HX.out.set he 5 (.int .u8 b) (st1 := { st with first := b }) rfl (fun _ => rfl)
  have hfits := xfits_c k1 he b
  have hfe : fitsX { st with first := b } b = fitsX st b := rfl
  rw [hfe] at hfits
  have hbeg := xbegin_c k1 he 6 0
  have HF := Lib.hid hfits
  have HB6 := Lib.hid hbeg
  have K1 := Lib.hid (And.intro k1 e1)
  clear k1 e1 hfits hbeg hfe
  cases hfx : fitsX st b with
  | true =>
   rw [hfx] at HF
   have hR : Hid (moreX st b = some ({ st with first := b, begun := 6, n := 0 }, [])) := Lib.hid (by unfold moreX; rw [if_neg (by rw [HBE.out]; decide), if_neg (by rw [HBE.out]; decide), if_neg (by rw [HBE.out]; decide), if_neg (by rw [HBE.out]; decide), if_pos HBE.out, if_pos hfx]; rfl)
   clear hfx
   go_enter Tryz.func234, Tryz.ntmps234
   go_wp2_with (first
    | (go_at_call 239; refine HF.out.mono ?_; rintro e w1 ⟨rfl, rfl⟩)
    | (go_at_call 240; refine HB6.out.mono ?_; rintro e w2 ⟨rfl, hr2, he2⟩; have HR2 := Lib.hid (And.intro hr2 he2); clear hr2 he2))
   go_ret
   rw [hR.out]
   exact ⟨F, ⟨rfl, by rw [List.append_nil]; exact HR2.out.1⟩, K1.out.2.trans HR2.out.2 (fun _ _ h => h), fun k h => .inl h⟩
  | false =>
   rw [hfx] at HF
   have hR : Hid (moreX st b = none) := Lib.hid (by unfold moreX; rw [if_neg (by rw [HBE.out]; decide), if_neg (by rw [HBE.out]; decide), if_neg (by rw [HBE.out]; decide), if_neg (by rw [HBE.out]; decide), if_pos HBE.out, if_neg (by rw [hfx]; decide)])
   clear hfx
   have hok1 : Hid (OKX { st with first := b }) := Lib.hid { HOK.out with fst := ⟨h0, h1⟩ }
   go_enter Tryz.func234, Tryz.ntmps234
   go_wp2_with (go_at_call 239; refine HF.out.mono ?_; rintro e w1 ⟨rfl, rfl⟩)
   go_ret
   rw [hR.out]
   exact ⟨F, ⟨rfl, { st with first := b }, hok1.out, K1.out.1⟩, K1.out.2, fun k h => .inl h⟩
 ·obtain ⟨U, hU⟩ : ∃ U, fi * 256 + b = U := ⟨_, rfl⟩
  have hR : Hid (moreX st b = wholeX st U) := Lib.hid (by unfold moreX; rw [if_neg (by rw [HBE.out]; decide), if_neg (by rw [HBE.out]; decide), if_neg (by rw [HBE.out]; decide), if_neg (by rw [HBE.out]; decide), if_neg (by rw [HBE.out]; decide), HFI.out, hU])
  have hor : bits .or .u32 (fi * 256) b = U := by rw [← hU]; exact bits_join .u32 32 (by decide) wraps_u32 8 (fi * 256) b (by omega) (by omega) (by omega) h0 (by omega) (by omega)
  have v1 : IntKind.u32.wrap fi = fi := wraps_u32 _ hfst.1 (by omega)
  have v2 : IntKind.u32.wrap (fi * 256) = fi * 256 := wraps_u32 _ (by omega) (by omega)
  have v3 : fi % 4294967296 = fi := by omega
  have v4 : fi * 256 % 4294967296 = fi * 256 := by omega
  have HWH := Lib.hid (xwhole_c HX.out he HOK.out HHN.out U (by omega) (by omega))
  have hf0 := hfst.1
  have hf1 : fi * 256 < 4294967296 := by omega
  have HRES : Hid (∀ e w2, NXP w g F d hl (wholeX st U) e w2 → ∃ r, e = .returned (.bool r) ∧ NXP w g F d hl (wholeX st U) (.returned (.bool r)) w2) := Lib.hid fun e w2 hp => by
   obtain ⟨F', hm, he', hf'⟩ := hp
   cases hr : wholeX st U with
   | none => rw [hr] at hm; obtain ⟨rfl, hm⟩ := hm; exact ⟨false, rfl, F', ⟨rfl, hm⟩, he', hf'⟩
   | some p => rw [hr] at hm; obtain ⟨rfl, hm⟩ := hm; exact ⟨true, rfl, F', ⟨rfl, hm⟩, he', hf'⟩
  clear hU hfst hat
  go_enter Tryz.func234, Tryz.ntmps234
  go_wp2_with (go_at_call 241; refine HWH.out.mono ?_; intro e w2 hp; obtain ⟨r, rfl, hq⟩ := HRES.out e w2 hp; have HQ := Lib.hid hq; clear hp hq)
  go_ret
  rw [hR.out]
  exact HQ.out
theorem nxp_bool {w : World} {g : Nat} {F : Nat → Prop} {d : DSt DX} {hl : List Int} {r : Option (SX × List Int)} {e : Ending} {w2 : World} (hp : NXP w g F d hl r e w2) : ∃ x, e = .returned (.bool x) ∧ NXP w g F d hl r (.returned (.bool x)) w2 := by
 obtain ⟨F', hm, he', hf'⟩ := hp
 cases r with
 | none => obtain ⟨rfl, hm⟩ := hm; exact ⟨false, rfl, F', ⟨rfl, hm⟩, he', hf'⟩
 | some p => obtain ⟨rfl, hm⟩ := hm; exact ⟨true, rfl, F', ⟨rfl, hm⟩, he', hf'⟩
set_option maxRecDepth 100000 in
set_option maxHeartbeats 8000000 in
theorem nextX_c {w : World} {g : Nat} {F : Nat → Prop} {d : DSt DX} (b : Int) (h : GRep TDX DX EX w g F d) (h0 : 0 ≤ b) (h1 : b ≤ 255) (hg : d.err = 0 ∧ d.en = false) (hl : d.held.length ≤ 9000000) :
  Calls Tryz.prog 233 #[.pointer (some ⟨g, 0, none⟩), .int .u8 b] w (NextP TDX EX w g F d (DX.next d.st b)) := by
 have hok : OKX d.st := by
  obtain ⟨lv, st, xs, G, hb, hq, hF, hs, ⟨h1, h2⟩, hgg, hll⟩ := h
  obtain rfl := hs hg.1
  exact h2
 have hx := GX.of h
 have HFIN : Hid (∀ e w2, NXP w g F d d.held (nextX d.st b) e w2 → NextP TDX EX w g F d (DX.next d.st b) e w2) := Lib.hid fun e w2 hp => by
  obtain ⟨F', hm, he', hf'⟩ := hp
  refine ⟨F', ?_, he', hf'⟩
  have hdn : DX.next d.st b = nextX d.st b := rfl
  rw [hdn]
  cases hr : nextX d.st b with
  | none =>
   rw [hr] at hm
   obtain ⟨rfl, s, hs, hm⟩ := hm
   exact ⟨rfl, s, hm.to hg.1 hs⟩
  | some p =>
   obtain ⟨s, l⟩ := p
   rw [hr] at hm
   obtain ⟨rfl, hm⟩ := hm
   exact ⟨rfl, hm.to hg.1 (nextX_ok hok h0 h1 hr)⟩
 obtain ⟨t, ho⟩ := hx.open hg.1
 have c6 := ho.c6
 have c8 := ho.c8
 obtain ⟨bg, hbe⟩ : ∃ x, SX.begun d.st = x := ⟨_, rfl⟩
 rw [hbe] at c8
 clear ho h
 by_cases hz : bg = 0
 ·have hzb : (bg != 0) = false := by simpa using hz
  cases hu : SX.uni d.st with
  | true =>
   rw [hu] at c6
   have hN : Hid (nextX d.st b = doubleX d.st b) := Lib.hid (by unfold nextX; rw [if_neg (by rw [hbe]; exact fun h => h hz), if_pos hu])
   have HC := Lib.hid (xdouble_c hx hg.1 hok hl b h0 h1)
   rw [hN.out] at HFIN
   clear hx hok hu hbe hz
   go_enter Tryz.func233, Tryz.ntmps233
   go_wp2_with (go_at_call 235; refine HC.out.mono ?_; intro e w2 hp; obtain ⟨r, rfl, hq⟩ := nxp_bool hp; have HQ := Lib.hid hq; clear hp hq)
   go_ret
   exact HFIN.out _ _ HQ.out
  | false =>
   rw [hu] at c6
   have hN : Hid (nextX d.st b = singleX d.st b) := Lib.hid (by unfold nextX; rw [if_neg (by rw [hbe]; exact fun h => h hz), if_neg (by rw [hu]; decide)])
   have HC := Lib.hid (xsingle_c hx hg.1 hok hl b h0 h1)
   rw [hN.out] at HFIN
   clear hx hok hu hbe hz
   go_enter Tryz.func233, Tryz.ntmps233
   go_wp2_with (go_at_call 236; refine HC.out.mono ?_; intro e w2 hp; obtain ⟨r, rfl, hq⟩ := nxp_bool hp; have HQ := Lib.hid hq; clear hp hq)
   go_ret
   exact HFIN.out _ _ HQ.out
 ·have hzb : (bg != 0) = true := by simpa using hz
  have hN : Hid (nextX d.st b = moreX d.st b) := Lib.hid (by unfold nextX; rw [if_pos (by rw [hbe]; exact hz)])
  have HC := Lib.hid (xmore_c hx hg.1 hok hl (by rw [hbe]; exact hz) b h0 h1)
  rw [hN.out] at HFIN
  clear hx hok hbe hz
  go_enter Tryz.func233, Tryz.ntmps233
  go_wp2_with (go_at_call 234; refine HC.out.mono ?_; intro e w2 hp; obtain ⟨r, rfl, hq⟩ := nxp_bool hp; have HQ := Lib.hid hq; clear hp hq)
  go_ret
  exact HFIN.out _ _ HQ.out
set_option maxRecDepth 100000 in
set_option maxHeartbeats 4000000 in
theorem finX {w : World} {g : Nat} {F : Nat → Prop} {d : DSt DX} (h : GRep TDX DX EX w g F d) :
  Calls Tryz.prog 231 #[.pointer (some ⟨g, 0, none⟩)] w fun e w' => ∃ F', e = .returned (.tuple #[]) ∧ GRep TDX DX EX w' g F' (endD DX d) ∧ Eff w w' F ∧ (∀ k, F' k → F k ∨ w.heap.size ≤ k) := by
 have HH := Lib.hid h
 obtain ⟨lv, st, xs, G, hb, hq, hF, hs, ⟨⟨t, hxs, ht, hG⟩, hok⟩, hgg, hll⟩ := h
 rw [hxs] at hb
 have c8 : w.cell? ⟨g, 8, none⟩ = some (.int .i64 (SX.begun st)) := hb.cell rfl
 have c11 : w.cell? ⟨g, 11, none⟩ = some (.int .u32 (SX.upper st)) := hb.cell rfl
 have HOP : Hid (d.err = 0 → (DX).fin d.st = if SX.begun st = 0 ∧ SX.upper st = 0 then some [] else none) := Lib.hid fun he => by rw [← hs he]; rfl
 obtain ⟨n, hn⟩ : ∃ n, SX.begun st = n := ⟨_, rfl⟩
 obtain ⟨u, hu⟩ : ∃ u, SX.upper st = u := ⟨_, rfl⟩
 rw [hn] at c8 HOP
 rw [hu] at c11 HOP
 clear hb hq hF hgg hll hs ht hG hok hn hu hxs
 have hopen : ¬ (n = 0 ∧ u = 0) → d.err = 0 ∧ d.en = false → endD DX d = { d with err := 4, fat := d.pos } := fun hc hg => by
  unfold endD; rw [if_pos hg, HOP.out hg.1, if_neg hc]
 have hshut : n = 0 ∧ u = 0 → d.err = 0 ∧ d.en = false → endD DX d = { d with en := true } := fun hc hg => by
  unfold endD; rw [if_pos hg, HOP.out hg.1, if_pos hc]; simp
 have hnot : ¬ (d.err = 0 ∧ d.en = false) → endD DX d = d := fun hg => by unfold endD; rw [if_neg hg]
 have HOPEN := Lib.hid hopen
 have HSHUT := Lib.hid hshut
 have HNOT := Lib.hid hnot
 clear hopen hshut hnot HOP
 by_cases hc : n = 0 ∧ u = 0
 ·have HC := Lib.hid hc
  have hd : (n != 0) = false := by simpa using hc.1
  have hd2 : (u != 0) = false := by simpa using hc.2
  clear hc
  by_cases hg : d.err = 0 ∧ d.en = false
  ·have HE := Lib.hid (HH.out.ending EX_ok (by decide) hg)
   have HG := Lib.hid hg
   clear hg
   go_enter Tryz.func231, Tryz.ntmps231
   go_wp2_with (go_at_call 99; refine HE.out.mono ?_; rintro e w1 ⟨rfl, hr1, he1⟩)
   refine bodyPost_end (v := .tuple #[]) (by simp [results, Tryz.results231, go_sem]) rfl ⟨F, rfl, ?_, he1, fun k h => .inl h⟩
   rw [HSHUT.out HC.out HG.out]
   exact hr1
  ·have HE := Lib.hid (HH.out.ended hg)
   have HG := Lib.hid hg
   clear hg
   go_enter Tryz.func231, Tryz.ntmps231
   go_wp2_with (go_at_call 99; refine HE.out.mono ?_; rintro e w1 ⟨rfl, rfl⟩)
   refine bodyPost_end (v := .tuple #[]) (by simp [results, Tryz.results231, go_sem]) rfl ⟨F, rfl, ?_, Eff.refl _ _, fun k h => .inl h⟩
   rw [HNOT.out HG.out]
   exact HH.out
 ·have HC := Lib.hid hc
  have hcase : (n != 0) = true ∨ ((n != 0) = false ∧ (u != 0) = true) := by
   by_cases a : n = 0
   ·exact .inr ⟨by simpa using a, by have : u ≠ 0 := fun e => hc ⟨a, e⟩; simpa using this⟩
   ·exact .inl (by simpa using a)
  clear hc
  by_cases hg : d.err = 0 ∧ d.en = false
  ·have HST := Lib.hid (HH.out.stop EX_ok (by decide) hg 4 (by decide) d.st)
   have HG := Lib.hid hg
   have FIN : Hid (∀ w1, GRep TDX DX EX w1 g F { d with err := 4, fat := d.pos, st := d.st } → Calls Tryz.prog 99 #[.pointer (some ⟨g, 0, none⟩)] w1 fun e w' => e = .returned (.tuple #[]) ∧ w1 = w') := Lib.hid fun w1 h1 => h1.ended (by show ¬ ((4 : Int) = 0 ∧ d.en = false); intro h; exact absurd h.1 (by decide))
   clear hg
   rcases hcase with hd | ⟨hd, hd2⟩
   all_goals
    go_enter Tryz.func231, Tryz.ntmps231
    go_upto_region 2 with (go_at_call 106; refine HST.out.mono ?_; rintro e w1 ⟨rfl, hr1, he1⟩)
    have HR1 := Lib.hid (And.intro hr1 he1)
    have HE := Lib.hid (FIN.out w1 hr1)
    clear hr1 he1
    go_wp2_with (go_at_call 99; refine HE.out.mono ?_; rintro e w2 ⟨rfl, rfl⟩)
    refine bodyPost_end (v := .tuple #[]) (by simp [results, Tryz.results231, go_sem]) rfl ⟨F, rfl, ?_, HR1.out.2, fun k h => .inl h⟩
    rw [HOPEN.out HC.out HG.out]
    exact HR1.out.1
  ·have HE := Lib.hid (HH.out.ended hg)
   have HST := Lib.hid (HH.out.stopped hg 4)
   have HG := Lib.hid hg
   clear hg
   rcases hcase with hd | ⟨hd, hd2⟩
   all_goals
    go_enter Tryz.func231, Tryz.ntmps231
    go_wp2_with (first
     | (go_at_call 106; refine HST.out.mono ?_; rintro e w1 ⟨rfl, rfl⟩)
     | (go_at_call 99; refine HE.out.mono ?_; rintro e w2 ⟨rfl, rfl⟩))
    refine bodyPost_end (v := .tuple #[]) (by simp [results, Tryz.results231, go_sem]) rfl ⟨F, rfl, ?_, Eff.refl _ _, fun k h => .inl h⟩
    rw [HNOT.out HG.out]
    exact HH.out
theorem kX : DecK 77 232 231 DX (GRep TDX DX EX) where
 invF := by intro n g x y w; kernel_rfl
 invE := by intro n g w; kernel_rfl
 invD := by intro n g w; kernel_rfl
 invW := by intro n g w; kernel_rfl
 lt h k hk := h.lt EX_ok k hk
 eff h he hs := h.eff EX_ok he hs
 feed s room h hp hh := feedG EX_ok (by decide) DX_one _ _ (.inr (.inr (.inr (.inr (.inr ⟨rfl, rfl⟩))))) nextX_c s room h hp hh
 fin h _ _ := finX h
 done h := h.done
 fail h := h.fail
set_option maxRecDepth 100000 in
theorem newwin_c (w : World) : Calls Tryz.prog 40 #[] w fun e w' => e = .returned (.pointer (some ⟨w.heap.size, 0, none⟩)) ∧ w' = w.alloc (.cells (winC offsI usedI) TWn (0, 0)) := by
 go_enter Tryz.func40, Tryz.ntmps40
 go_wp2_with fail
 go_ret
 exact ⟨rfl, rfl⟩
set_option maxRecDepth 100000 in
theorem newX_c (w : World) : Calls Tryz.prog 28 #[] w fun e w' => ∃ g F, e = .returned (.pointer (some ⟨g, 0, none⟩)) ∧ Below w.heap.size w w' ∧ GRep TDX DX EX w' g F (DSt.new DX) ∧ (∀ k, F k → w.heap.size ≤ k) := by
 go_enter Tryz.func28, Tryz.ntmps28
 go_wp2_with (go_at_call 40; refine (newwin_c _).mono ?_; rintro e w' ⟨rfl, rfl⟩)
 go_ret
 have ht : WinAt (w.alloc (.cells (winC offsI usedI) TWn (0, 0))) w.heap.size offsI usedI := ⟨Blk.new w _ _, rfl, rfl⟩
 have hok : OKX ⟨offsI, false, 0, 0, 0, 0, 0⟩ := ⟨rfl, by decide, by decide, by decide, by decide, by decide, .inl rfl⟩
 have hB : Blk ((w.alloc (.cells (winC offsI usedI) TWn (0, 0))).alloc (.cells (gcs (DSt.new DX) (.slice none 0 0) (xsX w.heap.size ⟨offsI, false, 0, 0, 0, 0, 0⟩)) TDX (0, 0))) (w.heap.size + 1) TDX (gcs (DSt.new DX) (.slice none 0 0) (xsX w.heap.size ⟨offsI, false, 0, 0, 0, 0, 0⟩)) := by
  have := Blk.new (w.alloc (.cells (winC offsI usedI) TWn (0, 0))) TDX (gcs (DSt.new DX) (.slice none 0 0) (xsX w.heap.size ⟨offsI, false, 0, 0, 0, 0, 0⟩))
  rwa [World.size_alloc] at this
 refine ⟨w.heap.size + 1, fun k => k = w.heap.size + 1 ∨ some k = (Value.slice none 0 0).ownBlock ∨ k = w.heap.size, rfl, below_new (below_new (Below.refl _ _) _) _, ⟨.slice none 0 0, (⟨offsI, false, 0, 0, 0, 0, 0⟩ : SX), _, fun k => k = w.heap.size, hB, ⟨rfl, .inl ⟨rfl, none, rfl, fun a h => by cases h⟩⟩, fun k => Iff.rfl, fun _ => rfl, ⟨⟨w.heap.size, rfl, ⟨ht.1.alloc _, ht.2⟩, fun k => Iff.rfl⟩, hok⟩, (by show ¬ (w.heap.size + 1 = w.heap.size); omega), fun k hk => by cases hk⟩, fun k hk => ?_⟩
 rcases hk with rfl | hk | rfl
 ·exact Nat.le_succ _
 ·cases hk
 ·exact Nat.le_refl _
theorem newD_X (c : Int) (hc : c = 9 ∨ c = 10) : NewD c 77 DX (GRep TDX DX EX) := by
 intro w
 have HN := Lib.hid (newX_c w)
 rcases hc with rfl | rfl
 all_goals
  go_enter Tryz.func7, Tryz.ntmps7
  go_wp2_with (go_at_call 28; refine HN.out.mono ?_; rintro e w' ⟨g, F, rfl, hb, hr, hF⟩)
  refine bodyPost_ret (results_list (rs := [.tmp 2, .tmp 3]) rfl (by simp) (.tmp (.tmp .nil))) rfl ?_
  exact ⟨g, F, rfl, hb, hr, hF⟩
theorem newD9 : NewD 9 77 DX (GRep TDX DX EX) := newD_X 9 (.inl rfl)
theorem newD10 : NewD 10 77 DX (GRep TDX DX EX) := newD_X 10 (.inr rfl)
end Go.Proofs.YtppchdinolndmaaGreat
