/- Joined texts: Zm, Za, Zl, Zn, Zk. -/
import Derived.Test.YtcofkjiaiiiooaaGreatMZc
import Derived.Test.YtcofkjiaiiiooaaGreatME8
import Derived.Test.YtcofkjiaiiiooaaGreatMSb
import Derived.Test.YtcofkjiaiiiooaaGreatMDv
import Derived.Test.YtcofkjiaiiiooaaGreatMUstp
import Derived.Test.YtcofkjiaiiiooaaGreatMBase
import Derived.Test.YtcofkjiaiiiooaaGreatPBzx
import Derived.Test.YtcofkjiaiiiooaaGreatMSz
import Derived.Test.YtcofkjiaiiiooaaGreatMZr
/- block.Make and block.Open at the inputs that awake asks for. -/
namespace Go.Proofs.YtcofkjiaiiiooaaGreat
open Go.RowKit Go.Proofs.YtcofkjiaiiiooaaGreatW.PrintWords Go.Proofs.YtcofkjiaiiiooaaGreatW.PrintLast Go.Proofs.YtcofkjiaiiiooaaGreatW.PrintMore Go.Proofs.YtcofkjiaiiiooaaGreat.PBz
set_option linter.unusedVariables false
set_option linter.unusedSimpArgs false

theorem aw8_enc : runE E8 E8.ini [65] 0 [] = ([65], 0, 0) := by decide
theorem aw8_dec : runD DV DV.ini (bytesOf ⟨#[65]⟩) 0 [] = ([65], 0, 0) := by kernel_rfl
theorem aw8_str : strOf [65] = ⟨#[65]⟩ := by kernel_rfl
theorem aw8_crc : crcF ⟨#[65]⟩ = 3554254475 := by decide +kernel
theorem aw8_name : nameF 1 = ⟨#[117, 116, 102, 45, 56]⟩ := by kernel_rfl
theorem aw8_encode (w : World) (X : Nat) (hr : ReadsInt w .u32 (some ⟨X, 0, none⟩) 1 [65]) : Calls Tryz.prog 45 #[.int .i64 1, .slice (some ⟨X, 0, none⟩) 1 1] w fun e w' => e = .returned (.tuple #[.string ⟨#[65]⟩, .agg #[.int .i64 0, .int .i64 0]]) ∧ Below w.heap.size w w' := by
  have h := encode_c k8 newE1 4 (fun st c => bytes8_len st c) (fun _ => Nat.zero_le _) [65] (by simp) (by decide) (by decide) (by rw [aw8_enc]; decide) (some ⟨X, 0, none⟩) 1 (by decide) (fun h => by cases h) w hr
  rw [aw8_enc] at h
  simp only [aw8_str] at h
  exact h
theorem reads_far {w : World} {k : IntKind} {A : Option Addr} {n : Nat} {xs : List Int} (h : ReadsInt w k A n xs) {p : Addr} (hp : ∀ ad, A = some ad → ad.block ≠ p.block) (v : Value) : ReadsInt (w.setCell p v) k A n xs := by
  refine ⟨h.1, h.2.1, fun hn => ?_⟩
  obtain ⟨ad, ha, hc⟩ := h.2.2 hn
  refine ⟨ad, ha, fun i hi => ?_⟩
  have hb : (w.setCell p v).heap[ad.block]? = w.heap[ad.block]? := Below.heap_setCell w p v ad.block (hp ad ha)
  have := hc i hi
  have e : (ad.add i).block = ad.block := by unfold Addr.add; split <;> rfl
  simpa [World.cell?, e, hb] using this
theorem aw8_decode (w : World) : Calls Tryz.prog 44 #[.int .i64 1, .string ⟨#[65]⟩] w fun e w' => ∃ A c, e = .returned (.tuple #[.slice A 1 c, .agg #[.int .i64 0, .int .i64 0]]) ∧ 1 ≤ c ∧ ReadsInt w' .u32 A 1 [65] ∧ (∀ ad, A = some ad → w.heap.size ≤ ad.block) ∧ Below w.heap.size w w' := by
  have h := decode_c kV newD1 DV_one ⟨#[65]⟩ (by decide) (by rw [aw8_dec]; decide) w
  rw [aw8_dec] at h
  refine h.mono ?_
  rintro e w' ⟨v, rfl, hq, hb⟩
  obtain ⟨A, c, rfl, hc⟩ := q_slice hq
  refine ⟨A, c, rfl, hc, q_reads hq, ?_, hb⟩
  rcases hq.2 with ⟨h0, _⟩ | ⟨g, off, cap, cur, hv, hg, _⟩
  · exact absurd h0 (by decide)
  · intro ad ha
    injection hv with h1 _ _
    rw [ha] at h1
    injection h1 with h1
    rw [h1]
    exact hg
set_option maxRecDepth 100000 in
set_option maxHeartbeats 4000000 in
theorem make_nil (w : World) : Calls Tryz.prog 20 #[.int .i64 1, .slice none 0 0] w fun e w' => e = .returned (.tuple #[.agg #[.int .i64 0, .int .u32 0, .string ⟨#[]⟩], .agg #[.int .i64 8, .int .i64 0]]) ∧ Below w.heap.size w w' := by
  go_enter Tryz.func20, Tryz.ntmps20
  go_wp2_with fail
  refine bodyPost_ret (results_list (rs := [.cell 4 30, .cell 5 37]) rfl (by simp) (.cell w.heap.size 30 #[.int .i64 0, .int .u32 0, .string ⟨#[]⟩] (0, 0) _ rfl ((Blk.new w _ _).alloc _) Tryz.underlying30 rfl (by kernel_rfl)
    (.cell (w.heap.size + 1) 37 #[.int .i64 8, .int .i64 0] (0, 0) _ rfl (by
      have := Blk.new (w.alloc (.cells #[.int .i64 0, .int .u32 0, .string ⟨#[]⟩] 30 (0, 0))) 37 #[.int .i64 8, .int .i64 0]
      rwa [World.size_alloc] at this) Tryz.underlying37 rfl (by kernel_rfl) .nil))) rfl ?_
  exact ⟨rfl, below_new (below_new (Below.refl _ _) _) _⟩
set_option maxRecDepth 100000 in
set_option maxHeartbeats 4000000 in
theorem make_one (w : World) (X : Nat) (hx : Blk w X 28 #[.int .u32 65]) : Calls Tryz.prog 20 #[.int .i64 1, .slice (some ⟨X, 0, none⟩) 1 1] w fun e w' => e = .returned (.tuple #[.agg #[.int .i64 1, .int .u32 3554254475, .string ⟨#[65]⟩], .agg #[.int .i64 0, .int .i64 0]]) ∧ Below w.heap.size w w' := by
  have HENC := Lib.hid (fun W h => aw8_encode W X h)
  have hlt := hx.lt
  go_enter Tryz.func20, Tryz.ntmps20
  go_upto_region 3 with fail
  obtain ⟨W, hW⟩ : ∃ W, (w.alloc (.cells #[.int .i64 0, .int .u32 0, .string ⟨#[]⟩] 30 (0, 0))).alloc (.cells #[.int .i64 0, .int .i64 0] 37 (0, 0)) = W := ⟨_, rfl⟩
  have k4 : Blk W w.heap.size 30 #[.int .i64 0, .int .u32 0, .string ⟨#[]⟩] := by rw [← hW]; exact (Blk.new w _ _).alloc _
  have k5 : Blk W (w.heap.size + 1) 37 #[.int .i64 0, .int .i64 0] := by rw [← hW]; have := Blk.new (w.alloc (.cells #[.int .i64 0, .int .u32 0, .string ⟨#[]⟩] 30 (0, 0))) 37 #[.int .i64 0, .int .i64 0]; rwa [World.size_alloc] at this
  have hd : Below w.heap.size w W := by rw [← hW]; exact below_new (below_new (Below.refl _ _) _) _
  have hxW : Blk W X 28 #[.int .u32 65] := by rw [← hW]; exact (hx.alloc _).alloc _
  have hrd : ReadsInt W .u32 (some ⟨X, 0, none⟩) 1 [65] := ⟨rfl, by decide, fun _ => ⟨_, rfl, fun k hk => by
    obtain rfl : k = 0 := by omega
    rw [Addr.add_lit]; exact hxW.cell rfl⟩⟩
  rw [hW]
  clear hW hxW
  have HENC1 := Lib.hid (HENC.out W hrd)
  have K4 := Lib.hid k4
  have K5 := Lib.hid k5
  have HD := Lib.hid hd
  clear hrd HENC k4 k5 hd hx
  go_upto_region 4 with (go_at_call 45; refine HENC1.out.mono ?_; rintro e w1 ⟨rfl, hb1⟩)
  have k4 := K4.out.below hb1
  have k5 := K5.out.below hb1
  have hd1 := below_next HD.out hb1
  clear K4 K5 HD hb1 HENC1
  have hof := fun W => of_c ⟨#[65]⟩ (Blk.new W 9 #[.string ⟨#[65]⟩]) (by decide)
  rw [aw8_crc] at hof
  obtain ⟨W1, hW1⟩ : ∃ W, w1.alloc (.cells #[.int .i64 0, .int .i64 0] 37 (0, 0)) = W := ⟨_, rfl⟩
  have k7 : Blk W1 w1.heap.size 37 #[.int .i64 0, .int .i64 0] := by rw [← hW1]; exact Blk.new _ _ _
  have k4a : Blk W1 w.heap.size 30 #[.int .i64 0, .int .u32 0, .string ⟨#[]⟩] := by rw [← hW1]; exact k4.alloc _
  have k5a : Blk W1 (w.heap.size + 1) 37 #[.int .i64 0, .int .i64 0] := by rw [← hW1]; exact k5.alloc _
  have hd2 : Below w.heap.size w W1 := by rw [← hW1]; exact below_new hd1 _
  rw [hW1]
  obtain ⟨g7, hg7⟩ : ∃ g, w1.heap.size = g := ⟨_, rfl⟩
  rw [hg7] at k7 ⊢
  have c70 := k7.cell (i := 0) rfl
  have HOF := Lib.hid hof
  have HD2 := Lib.hid hd2
  have K4 := Lib.hid k4a
  have K5 := Lib.hid k5a
  clear hof hd1 hd2 k4 k5 k4a k5a k7 hW1 hg7
  go_upto_region 8 with fail
  have k4b := K4.out.alloc (.cells #[.string ⟨#[65]⟩] 9 (0, 0))
  have k5b := K5.out.alloc (.cells #[.string ⟨#[65]⟩] 9 (0, 0))
  have hd3 := below_new HD2.out (.cells #[.string ⟨#[65]⟩] 9 (0, 0))
  have K4 := Lib.hid k4b
  have K5 := Lib.hid k5b
  have HD3 := Lib.hid hd3
  clear k4b k5b hd3 HD2
  go_wp2_with (go_at_call 46; refine (HOF.out _).mono ?_; rintro e w2 ⟨rfl, hb2⟩; have k4 := K4.out.below hb2; have k5 := K5.out.below hb2; have c40 := k4.cell (i := 0) rfl; have c41 := k4.cell (i := 1) rfl; have c42 := k4.cell (i := 2) rfl; have c50 := k5.cell (i := 0) rfl; have c51 := k5.cell (i := 1) rfl; have f4 := k4.frozen; have f5 := k5.frozen; have HK4 := Lib.hid k4; have HK5 := Lib.hid k5; have HD4 := Lib.hid (below_next HD3.out hb2); clear k4 k5 hb2)
  refine bodyPost_ret (results_list (rs := [.cell 4 30, .cell 5 37]) rfl (by simp) (.cell w.heap.size 30 #[.int .i64 1, .int .u32 3554254475, .string ⟨#[65]⟩] (0, 0) _ rfl (by
      refine blk_far ?_ (show w.heap.size ≠ w.heap.size + 1 by omega) _
      refine blk_far ?_ (show w.heap.size ≠ w.heap.size + 1 by omega) _
      refine blk_put (cs := #[.int .i64 1, .int .u32 3554254475, .string ⟨#[]⟩]) ?_ 2 _ rfl
      refine blk_put (cs := #[.int .i64 1, .int .u32 0, .string ⟨#[]⟩]) ?_ 1 _ rfl
      refine blk_put (cs := #[.int .i64 0, .int .u32 0, .string ⟨#[]⟩]) ?_ 0 _ rfl
      exact HK4.out) Tryz.underlying30 rfl (by kernel_rfl)
    (.cell (w.heap.size + 1) 37 #[.int .i64 0, .int .i64 0] (0, 0) _ rfl (by
      refine blk_put (cs := #[.int .i64 0, .int .i64 0]) ?_ 1 _ rfl
      refine blk_put (cs := #[.int .i64 0, .int .i64 0]) ?_ 0 _ rfl
      refine blk_far ?_ (show w.heap.size + 1 ≠ w.heap.size by omega) _
      refine blk_far ?_ (show w.heap.size + 1 ≠ w.heap.size by omega) _
      refine blk_far ?_ (show w.heap.size + 1 ≠ w.heap.size by omega) _
      exact HK5.out) Tryz.underlying37 rfl (by kernel_rfl) .nil))) rfl ?_
  exact ⟨rfl, by repeat (first | exact HD4.out | refine below_set ?_ (by first | exact Nat.le_refl _ | exact Nat.le_succ _))⟩
theorem right_one (w : World) : Calls Tryz.prog 23 #[.agg #[.int .i64 1, .int .u32 3554254475, .string ⟨#[65]⟩]] w fun e w' => e = .returned (.int .i64 0) ∧ Below w.heap.size w w' := block_right.calls 1 1 3554254475 ⟨#[65]⟩ 0 w (by decide +kernel)
set_option maxRecDepth 100000 in
set_option maxHeartbeats 4000000 in
theorem open_one (w : World) : Calls Tryz.prog 21 #[.int .i64 1, .agg #[.int .i64 1, .int .u32 3554254475, .string ⟨#[65]⟩]] w fun e w' => ∃ A c, e = .returned (.tuple #[.slice A 1 c, .agg #[.int .i64 0, .int .i64 0]]) ∧ 1 ≤ c ∧ ReadsInt w' .u32 A 1 [65] ∧ Below w.heap.size w w' := by
  have HNAME := Lib.hid (fun W => name_calls 1 W)
  have hN : (nameF 1).toList ≠ [] := by rw [aw8_name, ByteArray.toList_eq]; decide
  have hNd : decide ((nameF 1).toList = []) = false := decide_eq_false hN
  have hNi : (nameF 1).toList.isEmpty = false := by cases h : (nameF 1).toList with | nil => exact absurd h hN | cons a r => rfl
  obtain ⟨NM, hNM⟩ : ∃ N, nameF 1 = N := ⟨_, rfl⟩
  rw [hNM] at HNAME hNd hNi
  clear hN hNM
  have his := fun W => is_c ⟨#[65]⟩ 3554254475 (by decide) W
  rw [aw8_crc] at his
  have HIS := Lib.hid his
  have HDEC := Lib.hid (fun W => aw8_decode W)
  clear his
  go_enter Tryz.func21, Tryz.ntmps21
  go_upto_region 1 with fail
  obtain ⟨W, hW⟩ : ∃ W, (w.alloc (.cells #[.int .i64 1, .int .u32 3554254475, .string ⟨#[65]⟩] 30 (0, 0))).alloc (.cells #[.int .i64 0, .int .i64 0] 37 (0, 0)) = W := ⟨_, rfl⟩
  have k4 : Blk W w.heap.size 30 #[.int .i64 1, .int .u32 3554254475, .string ⟨#[65]⟩] := by rw [← hW]; exact (Blk.new w _ _).alloc _
  have k5 : Blk W (w.heap.size + 1) 37 #[.int .i64 0, .int .i64 0] := by rw [← hW]; have := Blk.new (w.alloc (.cells #[.int .i64 1, .int .u32 3554254475, .string ⟨#[65]⟩] 30 (0, 0))) 37 #[.int .i64 0, .int .i64 0]; rwa [World.size_alloc] at this
  have hd : Below w.heap.size w W := by rw [← hW]; exact below_new (below_new (Below.refl _ _) _) _
  have HSZ : w.heap.size + 2 ≤ W.heap.size := by rw [← hW]; simp
  rw [hW]
  clear hW
  have K4 := Lib.hid k4
  have K5 := Lib.hid k5
  have HD := Lib.hid hd
  have c40 := k4.cell (i := 0) rfl
  have c41 := k4.cell (i := 1) rfl
  have c42 := k4.cell (i := 2) rfl
  clear k4 k5 hd
  go_wp2_with (go_at_call 23; refine (right_one _).mono ?_; rintro e w1 ⟨rfl, hb1⟩; have K4a := Lib.hid (K4.out.below hb1); have K5a := Lib.hid (K5.out.below hb1); have HDa := Lib.hid (below_next HD.out hb1); have HSZ1 := hb1.size; clear hb1)
  refine (HNAME.out _).mono ?_
  rintro e w2 ⟨rfl, hb2⟩
  have k4 := K4a.out.below hb2
  have K5b := Lib.hid (K5a.out.below hb2)
  have HDb := Lib.hid (below_next HDa.out hb2)
  have HSZ2 := hb2.size
  have d41 := k4.cell (i := 1) rfl
  have d42 := k4.cell (i := 2) rfl
  have K4b := Lib.hid k4
  clear k4 hb2 K4 K5 HD K4a K5a HDa HNAME c40 c41 c42
  go_wp2_with (go_at_call 47; refine (HIS.out _).mono ?_; rintro e w3 ⟨rfl, hb3⟩; have k4 := K4b.out.below hb3; have K5c := Lib.hid (K5b.out.below hb3); have HDc := Lib.hid (below_next HDb.out hb3); have c42 := k4.cell (i := 2) rfl; have K4c := Lib.hid k4; have HSZ3 : w.heap.size + 2 ≤ w3.heap.size := Nat.le_trans HSZ (Nat.le_trans HSZ1 (Nat.le_trans HSZ2 hb3.size)); clear k4 hb3)
  refine (HDEC.out _).mono ?_
  rintro e w4 ⟨A, cp, rfl, hcp, hrd, had, hb4⟩
  have HAD : Hid (∀ ad, A = some ad → w.heap.size + 2 ≤ ad.block) := Lib.hid (fun ad h => Nat.le_trans HSZ3 (had ad h))
  have k4 := (K4c.out.below hb4).alloc (.cells #[.int .i64 0, .int .i64 0] 37 (0, 0))
  have k5 := (K5c.out.below hb4).alloc (.cells #[.int .i64 0, .int .i64 0] 37 (0, 0))
  have hd1 := below_new (below_next HDc.out hb4) (.cells #[.int .i64 0, .int .i64 0] 37 (0, 0))
  have k8 := Blk.new w4 37 #[.int .i64 0, .int .i64 0]
  have hrd1 := hrd.below (below_new (Below.refl _ _) (.cells #[.int .i64 0, .int .i64 0] 37 (0, 0)))
  clear hb4 hrd K4b K5b HDb K4c K5c HDc HIS HDEC d41 d42
  go_upto_region 9 with fail
  obtain ⟨W5, hW5⟩ : ∃ W, w4.alloc (.cells #[.int .i64 0, .int .i64 0] 37 (0, 0)) = W := ⟨_, rfl⟩
  rw [hW5] at k4 k5 hd1 k8 hrd1 ⊢
  obtain ⟨g8, hg8⟩ : ∃ g, w4.heap.size = g := ⟨_, rfl⟩
  rw [hg8] at k8 ⊢
  have b80 := k8.cell (i := 0) rfl
  have b40 := k4.cell (i := 0) rfl
  have b50 := k5.cell (i := 0) rfl
  have b51 := k5.cell (i := 1) rfl
  have f5 := k5.frozen
  have K5 := Lib.hid k5
  have HD := Lib.hid hd1
  have HRD := Lib.hid hrd1
  clear k4 k5 hd1 k8 hrd1 hW5 hg8 c42
  go_wp2_with fail
  refine bodyPost_ret (results_list (rs := [.tmp 4, .cell 5 37]) rfl (by simp) (.tmp (.cell (w.heap.size + 1) 37 #[.int .i64 0, .int .i64 0] (0, 0) _ rfl (by
      refine blk_put (cs := #[.int .i64 0, .int .i64 0]) ?_ 1 _ rfl
      refine blk_put (cs := #[.int .i64 0, .int .i64 0]) ?_ 0 _ rfl
      exact K5.out) Tryz.underlying37 rfl (by kernel_rfl) .nil))) rfl ?_
  refine ⟨A, cp, rfl, hcp, ?_, by repeat (first | exact HD.out | refine below_set ?_ (by first | exact Nat.le_refl _ | exact Nat.le_succ _))⟩
  exact reads_far (reads_far HRD.out (fun ad h => by have := HAD.out ad h; show ad.block ≠ w.heap.size + 1; omega) _) (fun ad h => by have := HAD.out ad h; show ad.block ≠ w.heap.size + 1; omega) _
end Go.Proofs.YtcofkjiaiiiooaaGreat
/- awake of pilcrowlaw20 answers true. -/
namespace Go.Proofs.YtcofkjiaiiiooaaGreat
open Go.RowKit Go.Proofs.YtcofkjiaiiiooaaGreatW.PrintWords Go.Proofs.YtcofkjiaiiiooaaGreatW.PrintLast Go.Proofs.YtcofkjiaiiiooaaGreatW.PrintMore Go.Proofs.YtcofkjiaiiiooaaGreat.PBz
set_option linter.unusedVariables false
set_option linter.unusedSimpArgs false

theorem aw_bytes (w : World) : Calls Tryz.prog 10 #[.agg #[.int .i64 1, .int .u32 3554254475, .string ⟨#[65]⟩]] w fun e w' => e = .returned (.tuple #[.string ⟨#[66, 1, 0, 0, 0, 1, 0, 0, 0, 139, 158, 217, 211, 65]⟩, .int .i64 0]) ∧ Below w.heap.size w w' :=
  block_Bytes.calls 1 1 3554254475 ⟨#[65]⟩ ⟨#[66, 1, 0, 0, 0, 1, 0, 0, 0, 139, 158, 217, 211, 65]⟩ 0 w (by kernel_rfl)
theorem aw_read_f : block_Read.f 8 ((⟨#[120]⟩ : ByteArray) ++ (⟨#[66, 1, 0, 0, 0, 1, 0, 0, 0, 139, 158, 217, 211, 65]⟩ : ByteArray)) 1 = some (1, 3554254475, (⟨#[65]⟩ : ByteArray), 15, 0, 0) := by kernel_rfl
theorem aw_read (S : ByteArray) (hS : block_Read.f 8 S 1 = some (1, 3554254475, (⟨#[65]⟩ : ByteArray), 15, 0, 0)) (w : World) : Calls Tryz.prog 13 #[.string S, .int .i64 1] w fun e w' => e = .returned (.tuple #[.agg #[.int .i64 1, .int .u32 3554254475, .string ⟨#[65]⟩], .int .i64 15, .agg #[.int .i64 0, .int .i64 0]]) ∧ Below w.heap.size w w' :=
  block_Read.calls 8 S 1 1 3554254475 ⟨#[65]⟩ 15 0 0 w hS
theorem reads_a (w : World) : ReadsInt (w.alloc (.cells #[.int .u32 65] 28 (0, 0))) .u32 (some ⟨w.heap.size, 0, none⟩) 1 [65] := by
  refine ⟨rfl, by decide, fun _ => ⟨_, rfl, fun k hk => ?_⟩⟩
  obtain rfl : k = 0 := by omega
  rw [Addr.add_lit]; exact (Blk.new w 28 #[.int .u32 65]).cell rfl
abbrev CB1 : Array Value := #[.int .i64 1, .int .u32 3554254475, .string ⟨#[65]⟩]
abbrev CF0 : Array Value := #[.int .i64 0, .int .i64 0]
abbrev TBk : TypeId := 30
abbrev TFl : TypeId := 37
theorem blk_two {w : World} (a b : Obj) (T : TypeId) (cs : Array Value) (h : b = .cells cs T (0, 0)) : Blk ((w.alloc a).alloc b) (w.heap.size + 1) T cs := by
  subst h
  have := Blk.new (w.alloc a) T cs
  rwa [World.size_alloc] at this
set_option maxRecDepth 100000 in
set_option maxHeartbeats 4000000 in
theorem bawake_c (w : World) : Calls Tryz.prog 9 #[] w fun e w' => e = .returned (.bool true) ∧ Below w.heap.size w w' := by
  go_enter Tryz.func9, Tryz.ntmps9
  go_wp2_with fail
  refine (make_one _ _ (Blk.new w 28 #[.int .u32 65])).mono ?_
  rintro e w1 ⟨rfl, hb1⟩
  have HB1 := Lib.hid (below_then (below_new (Below.refl _ _) _) hb1 (by simp))
  clear hb1
  go_upto_region 2 with fail
  obtain ⟨W1, hW1⟩ : ∃ W, (w1.alloc (.cells CB1 TBk (0, 0))).alloc (.cells CF0 TFl (0, 0)) = W := ⟨_, rfl⟩
  have k1 : Blk W1 w1.heap.size TBk CB1 := by rw [← hW1]; exact (Blk.new w1 _ _).alloc _
  have k2 : Blk W1 (w1.heap.size + 1) TFl CF0 := by rw [← hW1]; exact blk_two _ _ _ _ rfl
  have hd : Below w.heap.size w W1 := by rw [← hW1]; exact below_new (below_new HB1.out _) _
  rw [hW1]
  obtain ⟨g1, hg1⟩ : ∃ g, w1.heap.size = g := ⟨_, rfl⟩
  rw [hg1] at k1 k2 ⊢
  have c10 := k1.cell (i := 0) rfl
  have c11 := k1.cell (i := 1) rfl
  have c12 := k1.cell (i := 2) rfl
  have K1 := Lib.hid k1
  have K2 := Lib.hid k2
  have HD1 := Lib.hid hd
  clear k1 k2 hd hW1 hg1 HB1
  go_wp2_with fail
  refine (aw_bytes W1).mono ?_
  rintro e w2 ⟨rfl, hb2⟩
  have K1 := Lib.hid (K1.out.below hb2)
  have K2 := Lib.hid (K2.out.below hb2)
  have HD2 := Lib.hid (below_next HD1.out hb2)
  clear hb2 c10 c11 c12 HD1
  go_wp2_with fail
  refine (aw_read _ (by with_reducible exact aw_read_f) w2).mono ?_
  rintro e w3 ⟨rfl, hb3⟩
  have HD3 := Lib.hid (below_next HD2.out hb3)
  have K1 := Lib.hid (K1.out.below hb3)
  have K2 := Lib.hid (K2.out.below hb3)
  clear hb3 HD2
  go_upto_region 4 with fail
  obtain ⟨W3, hW3⟩ : ∃ W, (w3.alloc (.cells CB1 TBk (0, 0))).alloc (.cells CF0 TFl (0, 0)) = W := ⟨_, rfl⟩
  have k3 : Blk W3 w3.heap.size TBk CB1 := by rw [← hW3]; exact (Blk.new w3 _ _).alloc _
  have k4 : Blk W3 (w3.heap.size + 1) TFl CF0 := by rw [← hW3]; exact blk_two _ _ _ _ rfl
  have K1 : Hid (Blk W3 g1 TBk CB1) := Lib.hid (by rw [← hW3]; exact (K1.out.alloc _).alloc _)
  have K2 : Hid (Blk W3 (g1 + 1) TFl CF0) := Lib.hid (by rw [← hW3]; exact (K2.out.alloc _).alloc _)
  have hd : Below w.heap.size w W3 := by rw [← hW3]; exact below_new (below_new HD3.out _) _
  rw [hW3]
  obtain ⟨g3, hg3⟩ : ∃ g, w3.heap.size = g := ⟨_, rfl⟩
  rw [hg3] at k3 k4 ⊢
  have c10 := k3.cell (i := 0) rfl
  have c11 := k3.cell (i := 1) rfl
  have c12 := k3.cell (i := 2) rfl
  have K3 := Lib.hid k3
  have K4 := Lib.hid k4
  have HD4 := Lib.hid hd
  clear k3 k4 hd hW3 hg3 HD3
  go_wp2_with fail
  refine (open_one W3).mono ?_
  rintro e w4 ⟨A, cp, rfl, hcp, hrd, hb4⟩
  have K1 := Lib.hid (K1.out.below hb4)
  have K2 := Lib.hid (K2.out.below hb4)
  have K3 := Lib.hid (K3.out.below hb4)
  have K4 := Lib.hid (K4.out.below hb4)
  have HD5 := Lib.hid (below_next HD4.out hb4)
  have HRD := Lib.hid hrd
  clear hb4 hrd HD4 c10 c11 c12
  go_upto_region 5 with fail
  obtain ⟨W4, hW4⟩ : ∃ W, w4.alloc (.cells CF0 TFl (0, 0)) = W := ⟨_, rfl⟩
  have k5 : Blk W4 w4.heap.size TFl CF0 := by rw [← hW4]; exact Blk.new w4 _ _
  have K1 : Hid (Blk W4 g1 TBk CB1) := Lib.hid (by rw [← hW4]; exact K1.out.alloc _)
  have K2 : Hid (Blk W4 (g1 + 1) TFl CF0) := Lib.hid (by rw [← hW4]; exact K2.out.alloc _)
  have K3 : Hid (Blk W4 g3 TBk CB1) := Lib.hid (by rw [← hW4]; exact K3.out.alloc _)
  have K4 : Hid (Blk W4 (g3 + 1) TFl CF0) := Lib.hid (by rw [← hW4]; exact K4.out.alloc _)
  have HRD : Hid (ReadsInt W4 .u32 A 1 [65]) := Lib.hid (by rw [← hW4]; exact HRD.out.below (below_new (Below.refl _ _) _))
  have hd : Below w.heap.size w W4 := by rw [← hW4]; exact below_new HD5.out _
  rw [hW4]
  obtain ⟨g5, hg5⟩ : ∃ g, w4.heap.size = g := ⟨_, rfl⟩
  rw [hg5] at k5 ⊢
  have K5 := Lib.hid k5
  have HD6 := Lib.hid hd
  clear k5 hd hW4 hg5 HD5
  go_wp2_with fail
  refine (make_nil W4).mono ?_
  rintro e w5 ⟨rfl, hb5⟩
  have K1 := Lib.hid (K1.out.below hb5)
  have K2 := Lib.hid (K2.out.below hb5)
  have K3 := Lib.hid (K3.out.below hb5)
  have K4 := Lib.hid (K4.out.below hb5)
  have K5 := Lib.hid (K5.out.below hb5)
  have HRD := Lib.hid (HRD.out.below hb5)
  have HD7 := Lib.hid (below_next HD6.out hb5)
  clear hb5 HD6
  go_upto_region 6 with fail
  obtain ⟨W5, hW5⟩ : ∃ W, (w5.alloc (.cells #[.int .i64 0, .int .u32 0, .string ⟨#[]⟩] TBk (0, 0))).alloc (.cells #[.int .i64 8, .int .i64 0] TFl (0, 0)) = W := ⟨_, rfl⟩
  have k7 : Blk W5 (w5.heap.size + 1) TFl #[.int .i64 8, .int .i64 0] := by rw [← hW5]; exact blk_two _ _ _ _ rfl
  have k1 : Blk W5 g1 TBk CB1 := by rw [← hW5]; exact (K1.out.alloc _).alloc _
  have k2 : Blk W5 (g1 + 1) TFl CF0 := by rw [← hW5]; exact (K2.out.alloc _).alloc _
  have k3 : Blk W5 g3 TBk CB1 := by rw [← hW5]; exact (K3.out.alloc _).alloc _
  have k4 : Blk W5 (g3 + 1) TFl CF0 := by rw [← hW5]; exact (K4.out.alloc _).alloc _
  have k5 : Blk W5 g5 TFl CF0 := by rw [← hW5]; exact (K5.out.alloc _).alloc _
  have hrd : ReadsInt W5 .u32 A 1 [65] := by rw [← hW5]; exact HRD.out.below (below_new (below_new (Below.refl _ _) _) _)
  have hd : Below w.heap.size w W5 := by rw [← hW5]; exact below_new (below_new HD7.out _) _
  rw [hW5]
  obtain ⟨g7, hg7⟩ : ∃ g, w5.heap.size + 1 = g := ⟨_, rfl⟩
  rw [hg7] at k7 ⊢
  have a10 := k1.cell (i := 0) rfl
  have a11 := k1.cell (i := 1) rfl
  have a12 := k1.cell (i := 2) rfl
  have a20 := k2.cell (i := 0) rfl
  have a21 := k2.cell (i := 1) rfl
  have a30 := k3.cell (i := 0) rfl
  have a31 := k3.cell (i := 1) rfl
  have a32 := k3.cell (i := 2) rfl
  have a40 := k4.cell (i := 0) rfl
  have a41 := k4.cell (i := 1) rfl
  have K5 := Lib.hid k5
  have K7 := Lib.hid k7
  have HD8 := Lib.hid hd
  have HR8 := Lib.hid hrd
  clear k1 k2 k3 k4 k5 k7 hd hW5 hg7 HD7 K1 K2 K3 K4 HRD hrd
  have q0 := fun W => eql_fail 0 0 W
  have q8 := fun W => eql_fail 8 0 W
  have qb := fun W => eql_block 1 3554254475 ⟨#[65]⟩ W
  go_wp2_with fail
  have hsame := same_c [65] (by decide) A (some ⟨W5.heap.size, 0, none⟩) cp 1 (W5.alloc (.cells #[.int .u32 65] 28 (0, 0))) (HR8.out.below (below_new (Below.refl _ _) _)) (reads_a W5) hcp (by decide)
  refine hsame.mono ?_
  rintro e w6 ⟨rfl, hb6⟩
  have HE := Lib.hid (below_next (below_new (Below.refl _ _) _) hb6)
  have HD9 := Lib.hid (below_next HD8.out HE.out)
  have k5 := K5.out.below HE.out
  have k7 := K7.out.below HE.out
  have b50 := k5.cell (i := 0) rfl
  have b51 := k5.cell (i := 1) rfl
  have b70 := k7.cell (i := 0) rfl
  have b71 := k7.cell (i := 1) rfl
  clear hsame hb6 a10 a11 a12 a20 a21 a30 a31 a32 a40 a41 k5 k7
  go_wp2_with fail
  go_ret
  exact ⟨rfl, HD9.out⟩
end Go.Proofs.YtcofkjiaiiiooaaGreat
/- pilcrowlaw20.BlockReads, walked. -/
namespace Go.Proofs.YtcofkjiaiiiooaaGreat
open Go.RowKit Go.Proofs.YtcofkjiaiiiooaaGreatW.PrintWords Go.Proofs.YtcofkjiaiiiooaaGreatW.PrintLast Go.Proofs.YtcofkjiaiiiooaaGreatW.PrintMore Go.Proofs.YtcofkjiaiiiooaaGreat.PBz
set_option linter.unusedVariables false
set_option linter.unusedSimpArgs false

theorem read_c (s : ByteArray) (a : Int) (hs : s.size ≤ 10000000) {r1 r2 : Int} {r3 : ByteArray} {r4 r5 r6 : Int} (hr : readF s a = (r1, r2, r3, r4, r5, r6)) (w : World) :
    Calls Tryz.prog 13 #[.string s, .int .i64 a] w fun e w' => e = .returned (.tuple #[.agg #[.int .i64 r1, .int .u32 r2, .string r3], .int .i64 r4, .agg #[.int .i64 r5, .int .i64 r6]]) ∧ Below w.heap.size w w' :=
  block_Read.calls (0 + 4) s a r1 r2 r3 r4 r5 r6 w (by rw [read_prog s a hs 0, hr])
theorem rref_c (s : ByteArray) (a : Int) (hs : s.size ≤ 10000000) {r1 r2 : Int} {r3 : ByteArray} {r4 r5 r6 : Int} (hr : readF s a = (r1, r2, r3, r4, r5, r6)) (w : World) :
    Calls Tryz.prog 14 #[.string s, .int .i64 a] w fun e w' => e = .returned (.tuple #[.agg #[.int .i64 r1, .int .u32 r2, .string r3], .int .i64 r4, .int .i64 r5, .int .i64 r6]) ∧ Below w.heap.size w w' :=
  pilcrowref20_Read.calls (0 + 4) s a r1 r2 r3 r4 r5 r6 w (by rw [read_ref s a hs 0, hr])
set_option maxRecDepth 100000 in
set_option maxHeartbeats 4000000 in
theorem reads_law (s : ByteArray) (a : Int) (w : World) : Calls Tryz.prog 5 #[.string s, .int .i64 a] w fun e w' => e = .returned (.bool true) ∧ Below w.heap.size w w' := by
  by_cases hn : s.size > 2000
  · have hn1 : (s.size : Int) > 2000 := by omega
    clear hn
    go_enter Tryz.func5, Tryz.ntmps5
    go_wp2_with fail
    refine (bawake_c _).mono ?_
    rintro e w1 ⟨rfl, hb1⟩
    have HB1 := Lib.hid hb1
    clear hb1
    go_wp2_with fail
    refine (bawake_c _).mono ?_
    rintro e w2 ⟨rfl, hb2⟩
    have HB2 := Lib.hid (below_next HB1.out hb2)
    clear hb2
    go_wp2_with fail
    go_ret
    exact ⟨rfl, HB2.out⟩
  · have hn1 : ¬ (s.size : Int) > 2000 := by omega
    obtain ⟨⟨r1, r2, r3, r4, r5, r6⟩, hr⟩ : ∃ r, readF s a = r := ⟨_, rfl⟩
    have HP := Lib.hid (fun W => read_c s a (by omega) hr W)
    have HQ := Lib.hid (fun W => rref_c s a (by omega) hr W)
    clear hn hr
    go_enter Tryz.func5, Tryz.ntmps5
    go_wp2_with fail
    refine (bawake_c _).mono ?_
    rintro e w1 ⟨rfl, hb1⟩
    have HB1 := Lib.hid hb1
    clear hb1
    go_wp2_with fail
    refine (HP.out _).mono ?_
    rintro e w2 ⟨rfl, hb2⟩
    have HB2 := Lib.hid (below_next HB1.out hb2)
    clear hb2 HB1
    go_upto_region 4 with fail
    obtain ⟨W2, hW2⟩ : ∃ W, (w2.alloc (.cells #[.int .i64 r1, .int .u32 r2, .string r3] TBk (0, 0))).alloc (.cells #[.int .i64 r5, .int .i64 r6] TFl (0, 0)) = W := ⟨_, rfl⟩
    have k1 : Blk W2 w2.heap.size TBk #[.int .i64 r1, .int .u32 r2, .string r3] := by rw [← hW2]; exact (Blk.new w2 _ _).alloc _
    have k2 : Blk W2 (w2.heap.size + 1) TFl #[.int .i64 r5, .int .i64 r6] := by rw [← hW2]; exact blk_two _ _ _ _ rfl
    have hd : Below w.heap.size w W2 := by rw [← hW2]; exact below_new (below_new HB2.out _) _
    rw [hW2]
    obtain ⟨g1, hg1⟩ : ∃ g, w2.heap.size = g := ⟨_, rfl⟩
    rw [hg1] at k1 k2 ⊢
    have K1 := Lib.hid k1
    have K2 := Lib.hid k2
    have HD2 := Lib.hid hd
    clear k1 k2 hd hW2 hg1 HB2
    go_wp2_with fail
    refine (HQ.out _).mono ?_
    rintro e w3 ⟨rfl, hb3⟩
    have HB3 := Lib.hid (below_next HD2.out hb3)
    have K1 := Lib.hid (K1.out.below hb3)
    have K2 := Lib.hid (K2.out.below hb3)
    clear hb3 HD2
    go_upto_region 5 with fail
    obtain ⟨W3, hW3⟩ : ∃ W, w3.alloc (.cells #[.int .i64 r1, .int .u32 r2, .string r3] TBk (0, 0)) = W := ⟨_, rfl⟩
    have k3 : Blk W3 w3.heap.size TBk #[.int .i64 r1, .int .u32 r2, .string r3] := by rw [← hW3]; exact Blk.new w3 _ _
    have k1 : Blk W3 g1 TBk #[.int .i64 r1, .int .u32 r2, .string r3] := by rw [← hW3]; exact K1.out.alloc _
    have k2 : Blk W3 (g1 + 1) TFl #[.int .i64 r5, .int .i64 r6] := by rw [← hW3]; exact K2.out.alloc _
    have hd : Below w.heap.size w W3 := by rw [← hW3]; exact below_new HB3.out _
    rw [hW3]
    obtain ⟨g3, hg3⟩ : ∃ g, w3.heap.size = g := ⟨_, rfl⟩
    rw [hg3] at k3 ⊢
    have a10 := k1.cell (i := 0) rfl
    have a11 := k1.cell (i := 1) rfl
    have a12 := k1.cell (i := 2) rfl
    have a20 := k2.cell (i := 0) rfl
    have a21 := k2.cell (i := 1) rfl
    have a30 := k3.cell (i := 0) rfl
    have a31 := k3.cell (i := 1) rfl
    have a32 := k3.cell (i := 2) rfl
    have HD3 := Lib.hid hd
    clear k1 k2 k3 hd hW3 hg3 HB3 K1 K2
    have qf := fun W => eql_fail r5 r6 W
    have qb := fun W => eql_block r1 r2 r3 W
    go_wp2_with fail
    go_ret
    exact ⟨rfl, HD3.out⟩
end Go.Proofs.YtcofkjiaiiiooaaGreat
/- pilcrowlaw20.BlockOne, walked. -/
namespace Go.Proofs.YtcofkjiaiiiooaaGreat
open Go.RowKit Go.Proofs.YtcofkjiaiiiooaaGreatW.PrintWords Go.Proofs.YtcofkjiaiiiooaaGreatW.PrintLast Go.Proofs.YtcofkjiaiiiooaaGreatW.PrintMore Go.Proofs.YtcofkjiaiiiooaaGreat.PBz
set_option linter.unusedVariables false
set_option linter.unusedSimpArgs false

theorem bytes_c (c u : Int) (p : ByteArray) (hp : p.size ≤ 10000000) (h : rightF c p = 0) (w : World) :
    Calls Tryz.prog 10 #[.agg #[.int .i64 c, .int .u32 u, .string p]] w fun e w' => e = .returned (.tuple #[.string (bytesB c u p), .int .i64 0]) ∧ Below w.heap.size w w' :=
  block_Bytes.calls (0 + 1) c u p _ _ w (by rw [bytes_prog c u p hp 0, if_pos h])
theorem bytesbad_c (c u : Int) (p : ByteArray) (hp : p.size ≤ 10000000) (h : ¬ rightF c p = 0) (w : World) :
    Calls Tryz.prog 10 #[.agg #[.int .i64 c, .int .u32 u, .string p]] w fun e w' => e = .returned (.tuple #[.string ⟨#[]⟩, .int .i64 (rightF c p)]) ∧ Below w.heap.size w w' :=
  block_Bytes.calls (0 + 1) c u p _ _ w (by rw [bytes_prog c u p hp 0, if_neg h])
set_option maxRecDepth 100000 in
set_option maxHeartbeats 4000000 in
theorem one_law (s : ByteArray) (a : Int) (w : World) : Calls Tryz.prog 6 #[.string s, .int .i64 a] w fun e w' => e = .returned (.bool true) ∧ Below w.heap.size w w' := by
  by_cases hn : s.size > 2000
  · have hn1 : (s.size : Int) > 2000 := by omega
    clear hn
    go_enter Tryz.func6, Tryz.ntmps6
    go_wp2_with fail
    refine (bawake_c _).mono ?_
    rintro e w1 ⟨rfl, hb1⟩
    have HB1 := Lib.hid hb1
    clear hb1
    go_wp2_with fail
    refine (bawake_c _).mono ?_
    rintro e w2 ⟨rfl, hb2⟩
    have HB2 := Lib.hid (below_next HB1.out hb2)
    clear hb2
    go_wp2_with fail
    go_ret
    exact ⟨rfl, HB2.out⟩
  · have hn1 : ¬ (s.size : Int) > 2000 := by omega
    obtain ⟨⟨r1, r2, r3, r4, r5, r6⟩, hr⟩ : ∃ r, readF s a = r := ⟨_, rfl⟩
    have HP := Lib.hid (fun W => read_c s a (by omega) hr W)
    have hone := read_one s a hr
    have hz3 : r3.size ≤ 10000000 := by
      rcases hone with ⟨_, _, _, rfl, _⟩ | ⟨_, _, _, _, h, _⟩
      · exact Nat.zero_le _
      · unfold rightF at h
        split at h
        · exact absurd h (by decide)
        · split at h
          · exact absurd h (by decide)
          · omega
    have HZ3 := Lib.hid hz3
    clear hn hr hz3
    go_enter Tryz.func6, Tryz.ntmps6
    go_wp2_with fail
    refine (bawake_c _).mono ?_
    rintro e w1 ⟨rfl, hb1⟩
    have HB1 := Lib.hid hb1
    clear hb1
    go_wp2_with fail
    refine (HP.out _).mono ?_
    rintro e w2 ⟨rfl, hb2⟩
    have HB2 := Lib.hid (below_next HB1.out hb2)
    clear hb2 HB1 HP
    go_upto_region 4 with fail
    obtain ⟨W2, hW2⟩ : ∃ W, (w2.alloc (.cells #[.int .i64 r1, .int .u32 r2, .string r3] TBk (0, 0))).alloc (.cells #[.int .i64 r5, .int .i64 r6] TFl (0, 0)) = W := ⟨_, rfl⟩
    have k1 : Blk W2 w2.heap.size TBk #[.int .i64 r1, .int .u32 r2, .string r3] := by rw [← hW2]; exact (Blk.new w2 _ _).alloc _
    have k2 : Blk W2 (w2.heap.size + 1) TFl #[.int .i64 r5, .int .i64 r6] := by rw [← hW2]; exact blk_two _ _ _ _ rfl
    have hd : Below w.heap.size w W2 := by rw [← hW2]; exact below_new (below_new HB2.out _) _
    rw [hW2]
    obtain ⟨g1, hg1⟩ : ∃ g, w2.heap.size = g := ⟨_, rfl⟩
    rw [hg1] at k1 k2 ⊢
    have a10 := k1.cell (i := 0) rfl
    have a11 := k1.cell (i := 1) rfl
    have a12 := k1.cell (i := 2) rfl
    have a20 := k2.cell (i := 0) rfl
    have HD2 := Lib.hid hd
    clear k1 k2 hd hW2 hg1 HB2
    rcases hone with ⟨h5, rfl, rfl, rfl, rfl⟩ | ⟨rfl, h0, h1, h2, hri, hu0, hu1, hby⟩
    · have d5 : (r5 != 0) = true := by simpa using h5
      have qb := fun W => eql_block 0 0 ⟨#[]⟩ W
      go_wp2_with fail
      go_ret
      exact ⟨rfl, HD2.out⟩
    · have hbc := fun W => bytes_c r1 r2 r3 HZ3.out hri W
      rw [hby] at hbc
      have HBC := Lib.hid hbc
      clear hbc hby hri hu0 hu1
      have h01 : (0 : Int) ≤ r4 := Int.le_trans h0 h1
      go_wp2_with fail
      refine (HBC.out _).mono ?_
      rintro e w3 ⟨rfl, hb3⟩
      have HB3 := Lib.hid (below_next HD2.out hb3)
      clear hb3 a10 a11 a12 a20
      go_wp2_with fail
      go_ret
      exact ⟨rfl, HB3.out⟩
end Go.Proofs.YtcofkjiaiiiooaaGreat
/- pilcrowlaw20.BlockBytes, walked. -/
namespace Go.Proofs.YtcofkjiaiiiooaaGreat
open Go.RowKit Go.Proofs.YtcofkjiaiiiooaaGreatW.PrintWords Go.Proofs.YtcofkjiaiiiooaaGreatW.PrintLast Go.Proofs.YtcofkjiaiiiooaaGreatW.PrintMore Go.Proofs.YtcofkjiaiiiooaaGreat.PBz
set_option linter.unusedVariables false
set_option linter.unusedSimpArgs false

theorem rightref_c (c u : Int) (p : ByteArray) (w : World) :
    Calls Tryz.prog 11 #[.agg #[.int .i64 c, .int .u32 u, .string p]] w fun e w' => e = .returned (.int .i64 (rightF c p)) ∧ Below w.heap.size w w' :=
  pilcrowref20_Right.calls (0 + 1) c u p _ w (right_ref c u p 0)
theorem bytesref_c (c u : Int) (p : ByteArray) (h0 : 0 ≤ u) (h1 : u ≤ 4294967295) (hp : p.size ≤ 10000000) (w : World) :
    Calls Tryz.prog 12 #[.agg #[.int .i64 c, .int .u32 u, .string p]] w fun e w' => e = .returned (.string (bytesB c u p)) ∧ Below w.heap.size w w' :=
  pilcrowref20_Bytes.calls c u p _ w (bytes_ref c u p h0 h1 hp)
set_option maxRecDepth 100000 in
set_option maxHeartbeats 4000000 in
theorem bytes_law (c u : Int) (p : ByteArray) (hu0 : 0 ≤ u) (hu1 : u ≤ 4294967295) (w : World) : Calls Tryz.prog 4 #[.agg #[.int .i64 c, .int .u32 u, .string p]] w fun e w' => e = .returned (.bool true) ∧ Below w.heap.size w w' := by
  have hk0 := Blk.new w TBk #[.int .i64 c, .int .u32 u, .string p]
  have hd0 : Below w.heap.size w (w.alloc (.cells #[.int .i64 c, .int .u32 u, .string p] TBk (0, 0))) := below_new (Below.refl _ _) _
  have HK0 := Lib.hid hk0
  have HD0 := Lib.hid hd0
  clear hk0 hd0
  by_cases hn : p.size > 2000
  · have hn1 : (p.size : Int) > 2000 := by omega
    clear hn
    go_enter Tryz.func4, Tryz.ntmps4
    go_wp2_with fail
    refine (bawake_c _).mono ?_
    rintro e w1 ⟨rfl, hb1⟩
    have k1 := HK0.out.below hb1
    have a02 := k1.cell (i := 2) rfl
    have HB1 := Lib.hid (below_next HD0.out hb1)
    clear hb1 k1
    go_wp2_with fail
    refine (bawake_c _).mono ?_
    rintro e w2 ⟨rfl, hb2⟩
    have HB2 := Lib.hid (below_next HB1.out hb2)
    clear hb2
    go_wp2_with fail
    go_ret
    exact ⟨rfl, HB2.out⟩
  · have hn1 : ¬ (p.size : Int) > 2000 := by omega
    have hp7 : p.size ≤ 10000000 := by omega
    have HR := Lib.hid (fun W => rightref_c c u p W)
    have HBR := Lib.hid (fun W => bytesref_c c u p hu0 hu1 hp7 W)
    have HBG := Lib.hid (fun W (h : rightF c p = 0) => bytes_c c u p hp7 h W)
    have HBB := Lib.hid (fun W (h : ¬ rightF c p = 0) => bytesbad_c c u p hp7 h W)
    obtain ⟨R, hR⟩ : ∃ R, rightF c p = R := ⟨_, rfl⟩
    obtain ⟨T, hT⟩ : ∃ T, bytesB c u p = T := ⟨_, rfl⟩
    rw [hR] at HR HBG HBB
    rw [hT] at HBR HBG
    clear hn hp7 hR hT hu0 hu1
    go_enter Tryz.func4, Tryz.ntmps4
    go_wp2_with fail
    refine (bawake_c _).mono ?_
    rintro e w1 ⟨rfl, hb1⟩
    have k1 := HK0.out.below hb1
    have a00 := k1.cell (i := 0) rfl
    have a01 := k1.cell (i := 1) rfl
    have a02 := k1.cell (i := 2) rfl
    have K1 := Lib.hid k1
    have HB1 := Lib.hid (below_next HD0.out hb1)
    clear hb1 k1 HK0 HD0
    go_wp2_with fail
    by_cases hz : R = 0
    · subst hz
      refine (HBG.out _ rfl).mono ?_
      rintro e w2 ⟨rfl, hb2⟩
      have k2 := K1.out.below hb2
      have b00 := k2.cell (i := 0) rfl
      have b01 := k2.cell (i := 1) rfl
      have b02 := k2.cell (i := 2) rfl
      have K2 := Lib.hid k2
      have HB2 := Lib.hid (below_next HB1.out hb2)
      clear hb2 k2 K1 HB1 a00 a01 a02
      go_wp2_with fail
      refine (HR.out _).mono ?_
      rintro e w3 ⟨rfl, hb3⟩
      have k3 := K2.out.below hb3
      have a00 := k3.cell (i := 0) rfl
      have a01 := k3.cell (i := 1) rfl
      have a02 := k3.cell (i := 2) rfl
      have HB3 := Lib.hid (below_next HB2.out hb3)
      clear hb3 k3 K2 HB2 b00 b01 b02
      go_wp2_with fail
      refine (HBR.out _).mono ?_
      rintro e w4 ⟨rfl, hb4⟩
      have HB4 := Lib.hid (below_next HB3.out hb4)
      clear hb4 a00 a01 a02
      go_wp2_with fail
      go_ret
      exact ⟨rfl, HB4.out⟩
    · have hzb : (R != 0) = true := by simpa using hz
      refine (HBB.out _ hz).mono ?_
      rintro e w2 ⟨rfl, hb2⟩
      have k2 := K1.out.below hb2
      have b00 := k2.cell (i := 0) rfl
      have b01 := k2.cell (i := 1) rfl
      have b02 := k2.cell (i := 2) rfl
      have HB2 := Lib.hid (below_next HB1.out hb2)
      clear hb2 k2 K1 HB1 a00 a01 a02
      go_wp2_with fail
      refine (HR.out _).mono ?_
      rintro e w3 ⟨rfl, hb3⟩
      have HB3 := Lib.hid (below_next HB2.out hb3)
      clear hb3 HB2 b00 b01 b02
      go_wp2_with fail
      go_ret
      exact ⟨rfl, HB3.out⟩
theorem bytes_row (c u : Int) (p : ByteArray) (W : World) (w0 : (Lit.int .i64 c).wf = true) (w1 : (Lit.int .u32 u).wf = true) (w2 : p.size ≤ maxLen) : Calls Tryz.prog 4 #[.agg #[.int .i64 c, .int .u32 u, .string p]] W fun e w' => e = .returned (.bool true) ∧ Below W.heap.size W w' := bytes_law c u p (u32_of_wf w1).1 (u32_of_wf w1).2 W
end Go.Proofs.YtcofkjiaiiiooaaGreat
