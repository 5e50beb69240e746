/- pilcrowlaw10.awake answers true. -/
import Derived.Test.YtegacgfhmigdjaaUlq
import Derived.Test.YtegacgfhmigdjaaUee
namespace Go.Proofs.Ytegacgfhmigdjaa
open Go.RowKit Go.Proofs.YtegacgfhmigdjaaW.PrintWords Go.Proofs.YtegacgfhmigdjaaW.PrintLast Go.Proofs.YtegacgfhmigdjaaW.PrintMore Go.Proofs.Ytegacgfhmigdjaa.PPu
set_option linter.unusedVariables false
set_option linter.unusedSimpArgs false

theorem own_eff {w w1 : World} {S : Nat → Prop} {base n size : Nat} {e : TypeId} {v : Value} {xs : List Value} (h : w.ownsRow base e size v n xs) (he : Eff w w1 S) (hn : ∀ k, base ≤ k → k < w.heap.size → ¬ S k) : w1.ownsRow base e size v n xs :=
  own_move h fun k hk => by
    obtain ⟨cells, hc⟩ := own_typed h k hk
    have hlt : k < w.heap.size := (Array.getElem?_eq_some_iff.1 hc).1
    exact he.block k hlt (hn k (q_own_ge (q_of_own h) k hk) hlt)
theorem DE.eff {w w1 : World} {S : Nat → Prop} {g B : Nat} {err fat n : Int} {en : Bool} {xs : List Int} {lv : Value} (h : DE w g B err fat n en xs lv) (he : Eff w w1 S) (hg : ¬ S g) (hn : ∀ k, B ≤ k → k < w.heap.size → ¬ S k) : DE w1 g B err fat n en xs lv := by
  obtain ⟨tv, hb⟩ := h.blk
  exact ⟨⟨tv, hb.eff he hg⟩, q_move h.list fun k hk => he.block k (q_lt h.list k hk) (hn k (q_own_ge h.list k hk) (q_lt h.list k hk)), h.off⟩
theorem src_of {w : World} {A : Option Addr} {ys : List Int} (h : ReadsInt w .u32 A ys.length ys) (hne : 0 < ys.length) : ∃ pb po, A = some ⟨pb, po, none⟩ ∧ SrcT w pb po ys := by
  obtain ⟨ad, rfl, hc⟩ := h.2.2 hne
  have h0 := hc 0 hne
  have h1 : w.cell? ad = some (.int .u32 (ys.getD 0 0)) := by simpa [Addr.add] using h0
  obtain ⟨pb, po, sp⟩ := ad
  cases sp with
  | none =>
    have hlt := World.block_lt_of_cell? w _ h1
    refine ⟨pb, po, rfl, fun _ => hlt, fun j hj => ?_⟩
    have := hc j hj
    rwa [Addr.add_lit] at this
  | some x => exfalso; unfold World.cell? at h1; simp at h1; split at h1 <;> simp at h1
theorem SrcT.below {w w1 : World} {pb po : Nat} {ys : List Int} (h : SrcT w pb po ys) (hb : Below w.heap.size w w1) : SrcT w1 pb po ys :=
  ⟨fun hl => Nat.lt_of_lt_of_le (h.lt hl) hb.size, fun j hj => h.at_ hb j hj⟩
def LL : List Int := [98, 252, 99, 104, 101, 114]
def sD : ByteArray := ⟨#[98, 99, 104, 101, 114, 45, 75, 118, 97]⟩
def sF : ByteArray := ⟨#[97, 98, 255]⟩
def sK : ByteArray := ⟨#[107, 118, 97]⟩
theorem den_sD : denR sD = (LL, true) := by kernel_rfl
theorem feed_sD : feedN sD = 9 := by kernel_rfl
theorem feed_sF : feedN sF = 2 := by kernel_rfl
theorem enc_LL : encN LL = 6 := by kernel_rfl
theorem low_LL : lowL LL = [98, 99, 104, 101, 114] := by kernel_rfl
theorem high_LL : highL LL = [252] := by kernel_rfl
theorem put_LL : bias_Put.f 100 ((252 - 128) * ((lowL LL).length + 1) + (1 : Nat)) 72 = some sK := by kernel_rfl
theorem res_LL : lowL LL ++ [45] ++ bytesOf sK = ([98, 99, 104, 101, 114, 45, 107, 118, 97] : List UInt8).map fun b => (b.toNat : Int) := by kernel_rfl
def DECZ : Array Value := #[.int .i64 0, .int .i64 0, .int .i64 0, .bool false, .slice none 0 0, .slice none 0 0]
theorem fed_sD {w0 w : World} {g B : Nat} {lv : Value} (h : Fed w0 w g B 0 [] sD lv) : (∃ tv, DG w g B 9 (preL sD sD.size) lv tv) ∧ Eff w0 w (fun k => k = g ∨ B ≤ k) := by
  obtain ⟨⟨tv, h1⟩, h2⟩ := h
  rw [feed_sD] at h1
  exact ⟨⟨tv, h1⟩, h2⟩
theorem fed_sF {w0 w : World} {g B : Nat} {lv : Value} (h : Fed w0 w g B 0 [] sF lv) : (∃ tv, Blk w g 43 #[.int .i64 2, .int .i64 3, .int .i64 2, .bool false, lv, tv]) ∧ Eff w0 w (fun k => k = g ∨ B ≤ k) := by
  obtain ⟨⟨tv, h1⟩, h2⟩ := h
  rw [feed_sF] at h1
  exact ⟨⟨tv, h1.blk⟩, h2⟩
def LLC : Array Value := #[.int .u32 98, .int .u32 252, .int .u32 99, .int .u32 104, .int .u32 101, .int .u32 114]
theorem lit_cell (w : World) (j : Nat) (hj : j < LL.length) : (w.alloc (.cells LLC 51 (0, 0))).cell? ⟨w.heap.size, 0 + j, none⟩ = some (.int .u32 (LL.getD j 0)) := by
  have h6 : j < 6 := hj
  rw [Nat.zero_add]
  refine (Blk.new w 51 LLC).cell ?_
  rcases j with _ | _ | _ | _ | _ | _ | j
  all_goals first | rfl | omega
theorem lit_src (w : World) (g : Nat) (hg : g < w.heap.size) : SrcU (w.alloc (.cells LLC 51 (0, 0))) g w.heap.size 0 LL (.slice none 0 0) :=
  ⟨by omega, fun h => (by cases h), fun _ => by rw [World.size_alloc]; omega, fun j hj => lit_cell w j hj⟩
theorem lit_reads (w : World) : ReadsInt (w.alloc (.cells LLC 51 (0, 0))) .u32 (some ⟨w.heap.size, 0, none⟩) LL.length LL :=
  ⟨rfl, by decide, fun _ => ⟨⟨w.heap.size, 0, none⟩, rfl, fun j hj => by rw [Addr.add_lit]; exact lit_cell w j hj⟩⟩
theorem enc_LLF {w0 w : World} {g B : Nat} (h : EncF w0 w g B 0 [] LL) : (∃ lv, EX w g B 0 0 false 6 LL ⟨#[]⟩ lv) ∧ Eff w0 w (fun k => k = g ∨ B ≤ k) := by
  obtain ⟨⟨lv, h1⟩, h2⟩ := h
  rw [enc_LL] at h1
  exact ⟨⟨lv, h1⟩, h2⟩
theorem text_LL (w : World) (A : Option Addr) (c : Nat) (h : ReadsInt w .u32 A LL.length LL) (W : World) (hb : Below w.heap.size w W) : Calls Try.prog 48 #[.slice A LL.length c] W fun e w' => e = .returned (.string ⟨#[98, 99, 104, 101, 114, 45, 107, 118, 97]⟩) ∧ Below W.heap.size W w' := by
  obtain ⟨pb, po, rfl, hs⟩ := src_of h (by decide)
  exact text_one pb po c LL 252 W (hs.below hb) (by decide) (by decide) high_LL (by rw [low_LL]; decide) 1 (by decide) (by decide) (by decide) (by decide) sK 100 put_LL (by decide) [98, 99, 104, 101, 114, 45, 107, 118, 97] res_LL
set_option maxRecDepth 100000 in
set_option maxHeartbeats 4000000 in
theorem awake_c (w : World) : Calls Try.prog 10 #[] w fun e w' => e = .returned (.bool true) ∧ Below w.heap.size w w' := by
  go_enter Try.func10, Try.ntmps10
  go_wp2_with fail
  refine (newdec_c _).mono ?_
  rintro e w1 ⟨rfl, hw1⟩
  have HN1 : Hid (Blk w1 w.heap.size 43 DECZ ∧ w1.heap.size = w.heap.size + 1) := Lib.hid ⟨by rw [hw1]; exact Blk.new w _ _, by rw [hw1, World.size_alloc]⟩
  have HB1 : Hid (Below w.heap.size w w1) := Lib.hid (by rw [hw1]; exact below_new (Below.refl _ _) _)
  clear hw1
  go_wp2_with fail
  refine (newdec_c _).mono ?_
  rintro e w2 ⟨rfl, hw2⟩
  have HN2 : Hid (Blk w2 w.heap.size 43 DECZ ∧ Blk w2 (w.heap.size + 1) 43 DECZ ∧ w2.heap.size = w.heap.size + 2) := Lib.hid ⟨by rw [hw2]; exact HN1.out.1.alloc _, by rw [hw2, ← HN1.out.2]; exact Blk.new w1 _ _, by rw [hw2, World.size_alloc, HN1.out.2]⟩
  have HB2 : Hid (Below w.heap.size w w2) := Lib.hid (by rw [hw2]; exact below_new HB1.out _)
  rw [HN1.out.2]
  clear hw2 HN1 HB1
  go_wp2_with fail
  refine (newenc_c _).mono ?_
  rintro e w3 ⟨rfl, hw3⟩
  have HN3 : Hid (Blk w3 w.heap.size 43 DECZ ∧ Blk w3 (w.heap.size + 1) 43 DECZ ∧ EX w3 (w.heap.size + 2) w3.heap.size 0 0 false 0 [] ⟨#[]⟩ (.slice none 0 0) ∧ w3.heap.size = w.heap.size + 3) := Lib.hid ⟨by rw [hw3]; exact HN2.out.1.alloc _, by rw [hw3]; exact HN2.out.2.1.alloc _, by rw [hw3, ← HN2.out.2.2]; exact EX.new w2 _, by rw [hw3, World.size_alloc, HN2.out.2.2]⟩
  have HB3 : Hid (Below w.heap.size w w3) := Lib.hid (by rw [hw3]; exact below_new HB2.out _)
  rw [HN2.out.2.2]
  clear hw3 HN2 HB2
  obtain ⟨g, hg⟩ : ∃ g, w.heap.size = g := ⟨_, rfl⟩
  rw [hg] at HN3 HB3 ⊢
  obtain ⟨g2, hg2⟩ : ∃ g2, g + 1 = g2 := ⟨_, rfl⟩
  obtain ⟨g3, hg3⟩ : ∃ g3, g + 2 = g3 := ⟨_, rfl⟩
  obtain ⟨B, hB⟩ : ∃ B, w3.heap.size = B := ⟨_, rfl⟩
  rw [hg2, hg3, hB] at HN3
  rw [hg2, hg3]
  have HG : Hid (g2 = g + 1 ∧ g3 = g + 2 ∧ B = g + 3 ∧ w3.heap.size = B) := Lib.hid ⟨by omega, by omega, by rw [← HN3.out.2.2.2], hB⟩
  clear hg2 hg3 hB
  have HD3 : Hid (DG w3 g B 0 [] (.slice none 0 0) (.slice none 0 0)) := Lib.hid ⟨HN3.out.1, ⟨rfl, .inl ⟨rfl, none, rfl, fun a h => by cases h⟩⟩, rfl, ⟨rfl, .inl ⟨rfl, none, rfl, fun a h => by cases h⟩⟩⟩
  go_wp2_with fail
  refine (feed_go g B 0 [] _ _ sD 9 w3 HD3.out (by decide) (by rw [HG.out.2.2.2]; exact Nat.le_refl _) (by decide) (by decide) (by decide)).mono ?_
  rintro e w4 ⟨v4, lv4, rfl, ho4, hf4⟩
  clear ho4
  obtain ⟨⟨tv4, hd4⟩, he4⟩ := fed_sD hf4
  have HD4 := Lib.hid hd4
  have HE4 := Lib.hid he4
  have HF4 : Hid (Blk w4 g2 43 DECZ) := Lib.hid (HN3.out.2.1.eff he4 (by have := HG.out; omega))
  have HX4 : Hid (EX w4 g3 w4.heap.size 0 0 false 0 [] ⟨#[]⟩ (.slice none 0 0)) := Lib.hid ⟨HN3.out.2.2.1.blk.eff he4 (by have := HG.out; omega), ⟨rfl, .inl ⟨rfl, none, rfl, fun a h => by cases h⟩⟩⟩
  have HB4 : Hid (Below g w w4) := Lib.hid (Eff.under HB3.out he4 (by have := HG.out; omega) (fun k hk => by have := HG.out; omega))
  have HZ4 : Hid (B ≤ w4.heap.size) := Lib.hid (by have := HG.out; have := he4.size; omega)
  clear hf4 hd4 he4 HN3 HB3 HD3
  go_wp2_with fail
  refine (end_go g B 9 0 0 sD LL true den_sD (.inl rfl) lv4 tv4 w4 HD4.out HZ4.out (by decide)).mono ?_
  rintro e w5 ⟨rfl, he5, lv5, hd5⟩
  have HD5 := Lib.hid hd5
  have HF5 : Hid (Blk w5 g2 43 DECZ) := Lib.hid (HF4.out.eff he5 (by have := HG.out; omega))
  have HX5 : Hid (EX w5 g3 w5.heap.size 0 0 false 0 [] ⟨#[]⟩ (.slice none 0 0)) := Lib.hid ⟨HX4.out.blk.eff he5 (by have := HG.out; omega), ⟨rfl, .inl ⟨rfl, none, rfl, fun a h => by cases h⟩⟩⟩
  have HB5 : Hid (Below g w w5) := Lib.hid (Eff.under HB4.out he5 (by have := HG.out; have := HZ4.out; omega) (fun k hk => by have := HG.out; omega))
  have HZ5 : Hid (B ≤ w5.heap.size) := Lib.hid (by have := HZ4.out; have := he5.size; omega)
  clear hd5 he5 HF4 HX4 HD4 HB4 HZ4 HE4
  go_wp2_with fail
  refine (feed_tell g B 0 0 9 true LL lv5 w5 HD5.out (by decide) 9).mono ?_
  rintro e w6 ⟨v6, lv6, rfl, ho6, hd6, he6, hl6⟩
  have HD6 : Hid (DE w6 g B 0 0 9 true [] lv6) := Lib.hid hd6
  have ho6' : w6.ownsRow w5.heap.size 51 1 v6 LL.length (nums .u32 LL) := ho6
  obtain ⟨A6, c6, rfl, hc6⟩ := Go.Proofs.Ytegacgfhmigdjaa.own_slice ho6'
  have HO6 := Lib.hid ho6'
  have HC6 := Lib.hid hc6
  have HF6 : Hid (Blk w6 g2 43 DECZ) := Lib.hid (HF5.out.eff he6 (by have := HG.out; omega))
  have HX6 : Hid (EX w6 g3 w6.heap.size 0 0 false 0 [] ⟨#[]⟩ (.slice none 0 0)) := Lib.hid ⟨HX5.out.blk.eff he6 (by have := HG.out; omega), ⟨rfl, .inl ⟨rfl, none, rfl, fun a h => by cases h⟩⟩⟩
  have HB6 : Hid (Below g w w6) := Lib.hid (Eff.under HB5.out he6 (by have := HG.out; have := HZ5.out; omega) (fun k hk => by omega))
  have HZ6 : Hid (B ≤ w6.heap.size) := Lib.hid (by have := HZ5.out; have := he6.size; omega)
  clear ho6 ho6' hc6 hd6 he6 hl6 HF5 HX5 HD5 HB5
  have HDF : Hid (DG w6 g2 w6.heap.size 0 [] (.slice none 0 0) (.slice none 0 0)) := Lib.hid ⟨HF6.out, ⟨rfl, .inl ⟨rfl, none, rfl, fun a h => by cases h⟩⟩, rfl, ⟨rfl, .inl ⟨rfl, none, rfl, fun a h => by cases h⟩⟩⟩
  go_wp2_with fail
  refine (feed_go g2 w6.heap.size 0 [] _ _ sF 9 w6 HDF.out (by decide) (Nat.le_refl _) (by decide) (by decide) (by decide)).mono ?_
  rintro e w7 ⟨v7, lv7, rfl, ho7, hf7⟩
  rw [feed_sF]
  clear ho7
  obtain ⟨⟨tv7, hd7⟩, he7⟩ := fed_sF hf7
  have HF7 := Lib.hid hd7
  have HD7 : Hid (DE w7 g B 0 0 9 true [] lv6) := Lib.hid (HD6.out.eff he7 (by have := HG.out; have := HZ6.out; omega) (fun k h1 h2 => by have := HG.out; omega))
  have HO7 := Lib.hid (own_eff HO6.out he7 (fun k h1 h2 => by have := HG.out; have := HZ5.out; omega))
  have HX7 : Hid (EX w7 g3 w7.heap.size 0 0 false 0 [] ⟨#[]⟩ (.slice none 0 0)) := Lib.hid ⟨HX6.out.blk.eff he7 (by have := HG.out; have := HZ6.out; omega), ⟨rfl, .inl ⟨rfl, none, rfl, fun a h => by cases h⟩⟩⟩
  have HB7 : Hid (Below g w w7) := Lib.hid (Eff.under HB6.out he7 (by have := HG.out; have := HZ6.out; omega) (fun k hk => by have := HG.out; have := HZ6.out; omega))
  have HZ7 : Hid (B ≤ w7.heap.size) := Lib.hid (by have := HZ6.out; have := he7.size; omega)
  clear hd7 he7 hf7 HF6 HX6 HD6 HO6 HB6 HDF
  go_wp2_with fail
  have HB8 : Hid (Below g w (w7.alloc (.cells LLC 51 (0, 0)))) := Lib.hid (Eff.under HB7.out (Eff.alloc w7 _ (fun _ => False)) (by have := HG.out; have := HZ7.out; omega) (fun k hk => hk.elim))
  have HX8 : Hid (EX (w7.alloc (.cells LLC 51 (0, 0))) g3 (w7.heap.size + 1) 0 0 false 0 [] ⟨#[]⟩ (.slice none 0 0)) := Lib.hid ⟨HX7.out.blk.alloc _, ⟨rfl, .inl ⟨rfl, none, rfl, fun a h => by cases h⟩⟩⟩
  refine (enc_go g3 (w7.heap.size + 1) w7.heap.size 0 6 0 [] LL (.slice none 0 0) 0 _ HX8.out (lit_src w7 g3 (by have := HG.out; have := HZ7.out; omega)) (by rw [World.size_alloc]; exact Nat.le_refl _) (by decide) (by decide) (by decide)).mono ?_
  rintro e w9 ⟨rfl, hf9⟩
  obtain ⟨⟨lv9, hx9⟩, he9⟩ := enc_LLF hf9
  have HX9 := Lib.hid hx9
  have HF9 := Lib.hid ((HF7.out.alloc _).eff he9 (by have := HG.out; have := HZ7.out; omega))
  have HD9 : Hid (DE w9 g B 0 0 9 true [] lv6) := Lib.hid ((HD7.out.eff (Eff.alloc w7 _ (fun _ => False)) (fun h => h) (fun k h1 h2 h => h)).eff he9 (by have := HG.out; have := HZ7.out; omega) (fun k h1 h2 => by have := HG.out; rw [World.size_alloc] at h2; omega))
  have HO9 := Lib.hid (own_eff (Go.Proofs.Ytegacgfhmigdjaa.own_alloc HO7.out _) he9 (fun k h1 h2 => by have := HG.out; have := HZ5.out; rw [World.size_alloc] at h2; omega))
  have HB9 : Hid (Below g w w9) := Lib.hid (Eff.under HB8.out he9 (by rw [World.size_alloc]; have := HG.out; have := HZ7.out; omega) (fun k hk => by have := HG.out; have := HZ7.out; omega))
  have HZ9 : Hid (B ≤ w9.heap.size) := Lib.hid (by have := HZ7.out; have := he9.size; rw [World.size_alloc] at this; omega)
  obtain ⟨A9, c9, rfl, hc9⟩ := q_slice HX9.out.list
  have HT9 := Lib.hid (text_LL w9 A9 c9 (q_reads HX9.out.list))
  clear hf9 hx9 he9 hc9 HF7 HX7 HD7 HO7 HB7 HX8 HB8
  go_wp2_with fail
  refine (encEnd_c g3 (w7.heap.size + 1) 6 LL _ ⟨#[98, 99, 104, 101, 114, 45, 107, 118, 97]⟩ w9 HX9.out (by decide) HT9.out).mono ?_
  rintro e w10 ⟨rfl, w10', HBB, hw10⟩
  have HX10 : Hid (EX w10 g3 (w7.heap.size + 1) 0 0 true 6 LL ⟨#[98, 99, 104, 101, 114, 45, 107, 118, 97]⟩ (.slice A9 LL.length c9)) := Lib.hid (by rw [hw10]; exact ((HX9.out.below HBB.out).pend _).fin)
  have he10 : Eff w9 w10 (fun k => k = g3) := by rw [hw10]; exact ((Eff.of_below HBB.out _).trans (Eff.set _ g3 4 _) (fun _ _ h => h)).trans (Eff.set _ g3 3 _) (fun _ _ h => h)
  have HF10 := Lib.hid (HF9.out.eff he10 (by have := HG.out; omega))
  have HD10 : Hid (DE w10 g B 0 0 9 true [] lv6) := Lib.hid (HD9.out.eff he10 (by have := HG.out; omega) (fun k h1 h2 => by have := HG.out; omega))
  have HO10 := Lib.hid (own_eff HO9.out he10 (fun k h1 h2 => by have := HG.out; have := HZ5.out; omega))
  have HB10 : Hid (Below g w w10) := Lib.hid (Eff.under HB9.out he10 (by have := HG.out; have := HZ9.out; omega) (fun k hk => by have := HG.out; omega))
  have HZ10 : Hid (B ≤ w10.heap.size) := Lib.hid (by have := HZ9.out; have := he10.size; omega)
  clear hw10 he10 HF9 HD9 HO9 HB9 HX9 HT9 HBB
  go_wp2_with fail
  refine (encGive_c g3 (w7.heap.size + 1) 6 LL ⟨#[98, 99, 104, 101, 114, 45, 107, 118, 97]⟩ _ 9 w10 HX10.out).mono ?_
  rintro e w11 ⟨rfl, hx11, he11⟩
  rw [show (⟨#[98, 99, 104, 101, 114, 45, 107, 118, 97]⟩ : ByteArray).extract 0 (giveN 9 (⟨#[98, 99, 104, 101, 114, 45, 107, 118, 97]⟩ : ByteArray).size) = ⟨#[98, 99, 104, 101, 114, 45, 107, 118, 97]⟩ from by kernel_rfl]
  have HF11 := Lib.hid (HF10.out.eff he11 (by have := HG.out; omega))
  have HD11 : Hid (DE w11 g B 0 0 9 true [] lv6) := Lib.hid (HD10.out.eff he11 (by have := HG.out; omega) (fun k h1 h2 => by have := HG.out; omega))
  have HO11 := Lib.hid (own_eff HO10.out he11 (fun k h1 h2 => by have := HG.out; have := HZ5.out; omega))
  have HB11 : Hid (Below g w w11) := Lib.hid (Eff.under HB10.out he11 (by have := HG.out; have := HZ10.out; omega) (fun k hk => by have := HG.out; omega))
  have HZ11 : Hid (B ≤ w11.heap.size) := Lib.hid (by have := HZ10.out; have := he11.size; omega)
  clear hx11 he11 HX10 HF10 HD10 HO10 HB10
  go_wp2_with fail
  have HB12 : Hid (Below g w (w11.alloc (.cells LLC 51 (0, 0)))) := Lib.hid (Eff.under HB11.out (Eff.alloc w11 _ (fun _ => False)) (by have := HG.out; have := HZ11.out; omega) (fun k hk => hk.elim))
  refine (same_c LL (by decide) A6 (some ⟨w11.heap.size, 0, none⟩) c6 6 (w11.alloc (.cells LLC 51 (0, 0))) (own_reads' (Go.Proofs.Ytegacgfhmigdjaa.own_alloc HO11.out _)) (lit_reads w11) HC6.out (by decide)).mono ?_
  rintro e w13 ⟨rfl, hb13⟩
  have he13 : Eff w11 w13 (fun _ => False) := (Eff.alloc w11 _ _).trans (Eff.of_below hb13 (fun _ => False)) (fun _ _ h => h)
  have HF13 := Lib.hid (HF11.out.eff he13 (fun h => h))
  have HD13 : Hid (DE w13 g B 0 0 9 true [] lv6) := Lib.hid (HD11.out.eff he13 (fun h => h) (fun k h1 h2 h => h))
  have HB13 : Hid (Below g w w13) := Lib.hid (Eff.under HB11.out he13 (by have := HG.out; have := HZ11.out; omega) (fun k hk => hk.elim))
  have HZ13 : Hid (B ≤ w13.heap.size) := Lib.hid (by have := HZ11.out; have := he13.size; omega)
  clear hb13 he13 HF11 HD11 HO11 HB11 HB12
  go_wp2_with fail
  refine (done_c g B 0 0 9 true [] lv6 w13 HD13.out).mono ?_
  rintro e w14 ⟨rfl, rfl⟩
  go_wp2_with fail
  refine (fail_c HF13.out rfl rfl).mono ?_
  rintro e w15 ⟨rfl, hb15⟩
  have HB15 : Hid (Below g w w15) := Lib.hid (Eff.under HB13.out (Eff.of_below hb15 (fun _ => False)) (by have := HG.out; have := HZ13.out; omega) (fun k hk => hk.elim))
  clear hb15
  have hq := eql_fail 3 2
  go_wp2_with fail
  go_ret
  exact ⟨rfl, by rw [hg]; exact HB15.out⟩
end Go.Proofs.Ytegacgfhmigdjaa
