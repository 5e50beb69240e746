/- Joined texts: La. -/
import Derived.Test.YtmgnndnofbemeaaGreatMCo
import Derived.Test.YtmgnndnofbemeaaGreatME8
import Derived.Test.YtmgnndnofbemeaaGreatMCe
import Derived.Test.YtmgnndnofbemeaaGreatMUfk
/- pilcrowlaw18.CodecBack, walked. -/
namespace Go.Proofs.YtmgnndnofbemeaaGreat
open Go.RowKit Go.Proofs.YtmgnndnofbemeaaGreatW.PrintWords
set_option linter.unusedVariables false
set_option linter.unusedSimpArgs false
set_option maxRecDepth 100000 in
set_option maxHeartbeats 4000000 in
theorem cback_c (c : Int) (A0 : Option Addr) (c0 : Nat) (l : List Int) (w : World) (h0 : ReadsInt w .u32 A0 l.length l) (hc0 : l.length ≤ c0) (hf : ∀ n ∈ l, (Lit.int .u32 n).wf = true) :
  Calls Tryz.prog 3 #[.int .i64 c, .slice A0 l.length c0] w fun e w' => e = .returned (.bool true) ∧ Below w.heap.size w w' := by
 have HR0 := Lib.hid h0
 have HC0 := Lib.hid hc0
 have HF0 : Hid (∀ y ∈ l, 0 ≤ y) := Lib.hid fun y hy => (Go.bounds_u32 (hf y hy)).1
 have HAW := Lib.hid (fun W => cawake_c W)
 clear h0 hc0 hf
 go_enter Tryz.func3, Tryz.ntmps3
 go_wp2_with fail
 refine (HAW.out _).mono ?_
 rintro e w1 ⟨rfl, hb1⟩
 have HB1 := Lib.hid hb1
 clear hb1
 have hout : ∀ wx, Below w.heap.size w wx → True := fun _ _ => trivial
 by_cases g1 : (l.length : Int) > 100
 ·go_wp2_with fail
  refine (HAW.out _).mono ?_
  rintro e w3 ⟨rfl, hb3⟩
  have HB3 := Lib.hid (below_next HB1.out hb3)
  clear hb3
  go_wp2_with fail
  go_ret
  exact ⟨rfl, HB3.out⟩
 by_cases g2 : c < 1
 ·go_wp2_with fail
  refine (HAW.out _).mono ?_
  rintro e w3 ⟨rfl, hb3⟩
  have HB3 := Lib.hid (below_next HB1.out hb3)
  clear hb3
  go_wp2_with fail
  go_ret
  exact ⟨rfl, HB3.out⟩
 by_cases g3 : c > 10
 ·go_wp2_with fail
  refine (HAW.out _).mono ?_
  rintro e w3 ⟨rfl, hb3⟩
  have HB3 := Lib.hid (below_next HB1.out hb3)
  clear hb3
  go_wp2_with fail
  go_ret
  exact ⟨rfl, HB3.out⟩
 have HL : Hid (l.length ≤ 100) := Lib.hid (by omega)
 have HFI := Lib.hid (fun W (hW : Below w.heap.size w W) => fir_c A0 c0 l W (HR0.out.below hW) HC0.out (by have := HL.out; omega) HF0.out)
 by_cases g4 : firF l < 0
 ·obtain ⟨hS, hm⟩ := fir_no g4 HF0.out
  rw [hm] at HFI
  have htb := there_back c (by omega) (by omega) l hS (by have := HL.out; omega)
  obtain ⟨bs, hbs⟩ : ∃ bs, (encR c l).1 = bs := ⟨_, rfl⟩
  have hln := encR_len c l HF0.out (by have := HL.out; omega)
  rw [hbs] at htb hln
  have hsz : (strOf bs).size ≤ 4000 := by rw [strOf_size]; have := HL.out; omega
  have HEN : Hid (∀ (v : Value) (base : Nat) (W : World), QRow W base 48 1 v l.length (nums .u32 l) → Calls Tryz.prog 13 #[.int .i64 c, v] W fun e w' => e = .returned (.tuple #[.string (strOf bs), .agg #[.int .i64 0, .int .i64 0]]) ∧ Below W.heap.size W w') := Lib.hid fun v base W hq => by
   have h := encode_q c l HF0.out (by have := HL.out; omega) v base W hq
   rw [hbs, htb.1] at h
   exact h
  have HDE : Hid (∀ W : World, Calls Tryz.prog 14 #[.int .i64 c, .string (strOf bs)] W fun e w' => ∃ A1 c1, e = .returned (.tuple #[.slice A1 l.length c1, .agg #[.int .i64 0, .int .i64 0]]) ∧ l.length ≤ c1 ∧ ReadsInt w' .u32 A1 l.length l ∧ Below W.heap.size W w') := Lib.hid fun W => by
   have h := dec_all c (strOf bs) hsz W
   rw [bytesOf_strOf hln.2, htb.2] at h
   refine h.mono ?_
   rintro e w' ⟨v, rfl, hq, hb⟩
   obtain ⟨A1, c1, rfl, k1, k2, k3⟩ := q_slice2 hq
   exact ⟨A1, c1, rfl, k1, k3, hb⟩
  clear hm hS htb hbs hln hsz g4
  go_wp2_with fail
  refine (HFI.out _ HB1.out).mono ?_
  rintro e w2 ⟨rfl, hb2⟩
  have HB2 := Lib.hid (below_next HB1.out hb2)
  clear hb2 HFI
  have hq0 := q_empty w2 w2.heap.size (Nat.le_refl _)
  have hr0 : ReadsInt (w2.alloc (.cells #[] 48 (0, 0))) .u32 A0 l.length l := HR0.out.below (below_new HB2.out _)
  have hz0 : w2.heap.size ≤ (w2.alloc (.cells #[] 48 (0, 0))).heap.size := by rw [World.size_alloc]; omega
  have hlen : (([] : List Int).length + l.length) * 4 ≤ 140737488355328 := by have := HL.out; simp only [List.length_nil]; omega
  go_upto_region 4 with (first
   | (at_builtin; refine q_append_row w2.heap.size rfl _ _ 22 48 .u32 4 rfl rfl info_u32 (by decide) _ [] l A0 l.length c0 rfl rfl hq0 hr0 hz0 hlen ?_; intro v1 w3 hq3 hg3 hv3)
   | (go_at_call 13; refine (HEN.out _ _ _ hq3).mono ?_; rintro e w4 ⟨rfl, hb4⟩))
  have HB4 : Hid (Below w.heap.size w w4) := Lib.hid (below_next (Eff.under (below_new HB2.out _) (Eff.of_grown hg3) (by rw [World.size_alloc]; exact Nat.le_succ_of_le HB2.out.size) (fun k hk => by
   injection hk with hk; rw [hk]; exact HB2.out.size)) hb4)
  obtain ⟨W4, hW4⟩ : ∃ W, w4.alloc (.cells #[.int .i64 0, .int .i64 0] 27 (0, 0)) = W := ⟨_, rfl⟩
  have k4 : Blk W4 w4.heap.size 27 #[.int .i64 0, .int .i64 0] := by rw [← hW4]; exact Blk.new w4 _ _
  have HD : Hid (Below w.heap.size w W4) := Lib.hid (by rw [← hW4]; exact below_new HB4.out _)
  rw [hW4]
  obtain ⟨f4, hf4⟩ : ∃ g, w4.heap.size = g := ⟨_, rfl⟩
  rw [hf4] at k4 ⊢
  have K4 := Lib.hid k4
  clear hq0 hr0 hz0 hlen hq3 hg3 hv3 hb4 hW4 k4 hf4 HEN HB4
  go_upto_region 5 with (go_at_call 14; refine (HDE.out _).mono ?_; rintro e w5 ⟨A1, c1, rfl, hc1, hr1, hb5⟩)
  obtain ⟨W5, hW5⟩ : ∃ W, w5.alloc (.cells #[.int .i64 0, .int .i64 0] 27 (0, 0)) = W := ⟨_, rfl⟩
  have k5 : Blk W5 w5.heap.size 27 #[.int .i64 0, .int .i64 0] := by rw [← hW5]; exact Blk.new w5 _ _
  have hd5 : Below W4.heap.size W4 W5 := by rw [← hW5]; exact below_new hb5 _
  have k4 : Blk W5 f4 27 #[.int .i64 0, .int .i64 0] := K4.out.below hd5
  have HR1 : Hid (ReadsInt W5 .u32 A1 l.length l) := Lib.hid (by rw [← hW5]; exact hr1.below (below_new (Below.refl _ _) _))
  have HD5 := Lib.hid (below_next HD.out hd5)
  rw [hW5]
  obtain ⟨f5, hf5⟩ : ∃ g, w5.heap.size = g := ⟨_, rfl⟩
  rw [hf5] at k5 ⊢
  have a40 := k4.cell (i := 0) rfl
  have a41 := k4.cell (i := 1) rfl
  have a50 := k5.cell (i := 0) rfl
  have a51 := k5.cell (i := 1) rfl
  have q0 := fun W => eql_fail 0 0 W
  have HSA := Lib.hid (same_c l (by have := HL.out; omega) A0 A1 c0 c1 W5 (HR0.out.below HD5.out) HR1.out HC0.out hc1)
  clear hr1 hb5 hW5 hf5 k4 k5 hd5 HDE HD K4
  go_wp2_with (go_at_call 15; refine HSA.out.mono ?_; rintro e w6 ⟨rfl, hb6⟩; have HB6 := Lib.hid (below_next HD5.out hb6); clear hb6)
  go_ret
  exact ⟨rfl, HB6.out⟩
 ·have hge : firF l ≥ 0 := by omega
  clear g4
  obtain ⟨f, hf⟩ : ∃ f, firF l = f := ⟨_, rfl⟩
  rw [hf] at hge HFI
  go_wp2_with fail
  refine (HFI.out _ HB1.out).mono ?_
  rintro e w2 ⟨rfl, hb2⟩
  have HB2 := Lib.hid (below_next HB1.out hb2)
  clear hb2 HFI
  go_wp2_with fail
  refine (HAW.out _).mono ?_
  rintro e w3 ⟨rfl, hb3⟩
  have HB3 := Lib.hid (below_next HB2.out hb3)
  clear hb3
  go_wp2_with fail
  go_ret
  exact ⟨rfl, HB3.out⟩
end Go.Proofs.YtmgnndnofbemeaaGreat
