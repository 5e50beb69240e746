/- Joined texts: Me. -/
import Derived.Test.YtppchdinolndmaaGreatMMc
import Derived.Test.YtppchdinolndmaaGreatMUfk
/- pilcrowlaw18.CodecMachines, walked. -/
namespace Go.Proofs.YtppchdinolndmaaGreat
open Go.RowKit Go.Proofs.YtppchdinolndmaaGreatW.PrintWords
set_option linter.unusedVariables false
set_option linter.unusedSimpArgs false
set_option maxRecDepth 100000 in
set_option maxHeartbeats 4000000 in
theorem machines_let (c : Int) (s : ByteArray) (A : Option Addr) (cp : Nat) (l : List Int) (w : World) (h : (60 : Int) < (l.length : Int) ∨ (100 : Int) < (s.size : Int)) :
  Calls Tryz.prog 3 #[.int .i64 c, .slice A l.length cp, .string s] w fun e w' => e = .returned (.bool true) ∧ Below w.heap.size w w' := by
 have HAW := Lib.hid (fun W => cawake_c W)
 go_enter Tryz.func3, Tryz.ntmps3
 go_wp2_with fail
 refine (HAW.out _).mono ?_
 rintro e w1 ⟨rfl, hb1⟩
 have HB1 := Lib.hid hb1
 clear hb1
 by_cases g1 : (l.length : Int) > 60
 ·go_wp2_with fail
  refine (HAW.out _).mono ?_
  rintro e w3 ⟨rfl, hb3⟩
  have HB3 := Lib.hid (below_next HB1.out hb3)
  clear hb3
  go_wp2_with fail
  go_ret
  exact ⟨rfl, HB3.out⟩
 ·have g2 : (s.size : Int) > 100 := by omega
  go_wp2_with fail
  refine (HAW.out _).mono ?_
  rintro e w3 ⟨rfl, hb3⟩
  have HB3 := Lib.hid (below_next HB1.out hb3)
  clear hb3
  go_wp2_with fail
  go_ret
  exact ⟨rfl, HB3.out⟩
set_option maxRecDepth 100000 in
set_option maxHeartbeats 4000000 in
theorem machines_no (c : Int) (hc : c < 1 ∨ 10 < c) (s : ByteArray) (A : Option Addr) (cp : Nat) (l : List Int) (w : World) (h1 : ¬ (60 : Int) < (l.length : Int)) (h2 : ¬ (100 : Int) < (s.size : Int)) :
  Calls Tryz.prog 3 #[.int .i64 c, .slice A l.length cp, .string s] w fun e w' => e = .returned (.bool true) ∧ Below w.heap.size w w' := by
 have HAW := Lib.hid (fun W => cawake_c W)
 have HN := Lib.hid (fun W => noE c hc W)
 have HD := Lib.hid (fun W => noD c hc W)
 go_enter Tryz.func3, Tryz.ntmps3
 go_wp2_with fail
 refine (HAW.out _).mono ?_
 rintro e w1 ⟨rfl, hb1⟩
 have HB1 := Lib.hid hb1
 clear hb1
 go_upto_region 5 with (first
  | (go_at_call 6; refine (HN.out _).mono ?_; rintro e w' ⟨rfl, rfl⟩)
  | (go_at_call 7; refine (HD.out _).mono ?_; rintro e w' ⟨rfl, rfl⟩))
 by_cases g1 : c < 1
 ·go_wp2_with fail
  go_ret
  exact ⟨rfl, HB1.out⟩
 ·have g2 : c > 10 := by omega
  go_wp2_with fail
  go_ret
  exact ⟨rfl, HB1.out⟩
theorem machines_c (c : Int) (s : ByteArray) (A : Option Addr) (cp : Nat) (l : List Int) (w : World) (hr : ReadsInt w .u32 A l.length l) (hcp : l.length ≤ cp) (hf : ∀ n ∈ l, (Lit.int .u32 n).wf = true) :
  Calls Tryz.prog 3 #[.int .i64 c, .slice A l.length cp, .string s] w fun e w' => e = .returned (.bool true) ∧ Below w.heap.size w w' := by
 have h0 : ∀ y ∈ l, 0 ≤ y := fun y hy => (Go.bounds_u32 (hf y hy)).1
 by_cases g : (60 : Int) < (l.length : Int) ∨ (100 : Int) < (s.size : Int)
 ·exact machines_let c s A cp l w g
 have g1 : ¬ (60 : Int) < (l.length : Int) := fun h => g (.inl h)
 have g2 : ¬ (100 : Int) < (s.size : Int) := fun h => g (.inr h)
 by_cases hc : 1 ≤ c ∧ c ≤ 10
 ·obtain ⟨tg, fF, fE, Rep, K, HN, HNA⟩ := hasME c hc.1 hc.2
  obtain ⟨td, gF, gE, RepD, KD, HND, HNAD⟩ := hasMD c hc.1 hc.2
  have hi0 := InvE.new (emOf c) l
  rw [show runE (emOf c) (emOf c).ini l 0 [] = encR c l by unfold encR; rw [if_pos hc]] at hi0
  have hd0 := InvD.new (dmOf c) (bytesOf s)
  rw [show runD (dmOf c) (dmOf c).ini (bytesOf s) 0 [] = decR c (bytesOf s) by unfold decR; rw [if_pos hc]] at hd0
  have hDl := decR_len c (bytesOf s)
  rw [bytesOf_length] at hDl
  refine machines_in hc.1 hc.2 K HN HNA KD HND HNAD s (by omega) A cp l (by omega) (encR c l) (decR c (bytesOf s)) hi0 (encR_len c l h0 (by omega)).1 hd0 hDl ?_ ?_ w hr hcp h0
  ·intro v base W hq
   exact encode_q c l h0 (by omega) v base W hq
  ·intro W
   refine (dec_all c s (by omega) W).mono ?_
   rintro e w' ⟨v, rfl, hq, hb⟩
   obtain ⟨A1, c1, rfl, k1, k2, k3⟩ := q_slice2 hq
   exact ⟨A1, c1, rfl, k1, k3, hb⟩
 ·exact machines_no c (by omega) s A cp l w g1 g2
end Go.Proofs.YtppchdinolndmaaGreat
