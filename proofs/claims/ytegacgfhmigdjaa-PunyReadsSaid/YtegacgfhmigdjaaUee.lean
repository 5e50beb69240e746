/- puny.Encoder: its end, and what is told behind it. -/
import Derived.Test.YtegacgfhmigdjaaUtx
namespace Go.Proofs.Ytegacgfhmigdjaa
open Go.RowKit Go.Proofs.YtegacgfhmigdjaaW.PrintWords Go.Proofs.YtegacgfhmigdjaaW.PrintLast Go.Proofs.YtegacgfhmigdjaaW.PrintMore Go.Proofs.Ytegacgfhmigdjaa.PPu
set_option linter.unusedVariables false
set_option linter.unusedSimpArgs false

theorem EX.fin {w : World} {g B : Nat} {n : Int} {xs : List Int} {p : ByteArray} {lv : Value} (h : EX w g B 0 0 false n xs p lv) : EX (w.setCell ⟨g, 3, none⟩ (.bool true)) g B 0 0 true n xs p lv := by
  have hne := own_types h.list h.blk (by decide)
  exact ⟨h.blk.set 3 _, q_move h.list fun k hk => Below.heap_setCell w _ _ k fun e => hne (by rw [hk, e])⟩
theorem empty_app (t : ByteArray) : (⟨#[]⟩ : ByteArray) ++ t = t := by apply ByteArray.ext; simp
theorem empty_sz (t : ByteArray) (h : t.size ≤ 1000000) : (⟨#[]⟩ : ByteArray).size + t.size ≤ 140737488351232 := by
  have h0 : (⟨#[]⟩ : ByteArray).size = 0 := rfl
  omega
theorem encEnd_c (g B : Nat) (n : Int) (xs : List Int) (lv : Value) (t : ByteArray) (w : World) (hd : EX w g B 0 0 false n xs ⟨#[]⟩ lv) (hsz : t.size ≤ 1000000)
    (ht : ∀ W, Below w.heap.size w W → Calls Try.prog 48 #[lv] W fun e w' => e = .returned (.string t) ∧ Below W.heap.size W w') :
    Calls Try.prog 28 #[.pointer (some ⟨g, 0, none⟩)] w fun e w' => e = .returned (.tuple #[]) ∧ ∃ w2, Hid (Below w.heap.size w w2) ∧ w' = (w2.setCell ⟨g, 4, none⟩ (.string t)).setCell ⟨g, 3, none⟩ (.bool true) := by
  have HD := Lib.hid hd
  have HS := Lib.hid hsz
  have HT := Lib.hid ht
  clear hd hsz ht
  obtain ⟨c5, f5⟩ := HD.out.at5 (Below.refl _ _)
  go_enter Try.func28, Try.ntmps28
  go_upto_region 1 with (go_at_call 38; refine (going_yes HD.out.blk rfl rfl).mono ?_; rintro e w1 ⟨rfl, rfl⟩)
  go_cut [] (fun wx => ∃ w2, Hid (Below w.heap.size w w2) ∧ wx = w2.setCell ⟨g, 4, none⟩ (.string t))
  case first =>
    go_region_with (first
      | (go_at_call 48; refine (HT.out _ (by first | exact Below.refl _ _ | exact below_drew1 (Below.refl _ _))).mono ?_; rintro e w1 ⟨rfl, hb1⟩; have HB1 : Hid (Below w.heap.size w w1) := Lib.hid (by first | exact below_next (Below.refl _ _) hb1 | exact below_next (below_drew1 (Below.refl _ _)) hb1); clear hb1)
      | (go_at_call 47; refine (keep_c (o := 4) (s := ⟨#[]⟩) (HD.out.blk.below HB1.out) rfl (empty_sz t HS.out)).mono ?_; rw [empty_app]; rintro e w2 ⟨rfl, rfl⟩))
    all_goals (go_wp2_with fail; go_meet)
    all_goals exact ⟨w1, HB1, rfl⟩
  case rest =>
    obtain ⟨w2, HB2, rfl⟩ := hcut
    have HE2 := Lib.hid ((HD.out.below HB2.out).pend t)
    go_wp2_with (go_at_call 44; refine (end_c HE2.out.blk rfl rfl).mono ?_; rintro e w3 ⟨rfl, rfl⟩)
    refine bodyPost_end (v := .tuple #[]) (by simp [results, Try.results28, go_sem]) rfl ⟨rfl, w2, HB2, rfl⟩
theorem encGive_c (g B : Nat) (n : Int) (xs : List Int) (t : ByteArray) (lv : Value) (room : Int) (w : World) (hd : EX w g B 0 0 true n xs t lv) :
    Calls Try.prog 27 #[.pointer (some ⟨g, 0, none⟩), .slice none 0 0, .int .i64 room] w fun e w' => e = .returned (.tuple #[.int .i64 0, .string (t.extract 0 (giveN room t.size))]) ∧ EX w' g B 0 0 true n xs (t.extract (giveN room t.size) t.size) lv ∧ Eff w w' (fun k => k = g) := by
  have HD := Lib.hid hd
  clear hd
  go_enter Try.func27, Try.ntmps27
  go_upto_block 0 with fail
  go_cut [8] (fun s8 wx => s8 = .int .i64 0 ∧ wx = w)
  case first =>
    go_wp2_with fail
    go_loopg [8] 0 (fun kq s8 wx => s8 = .int .i64 0 ∧ wx = w)
    case atStart => exact ⟨rfl, rfl⟩
    case round =>
      obtain ⟨rfl, rfl⟩ := hrel
      go_wp2_with fail
      go_meet
      exact ⟨rfl, rfl⟩
  case rest =>
    obtain ⟨rfl, rfl⟩ := hcut
    go_wp2_with (go_at_call 46; refine (give_c (o := 4) HD.out.blk rfl).mono ?_; rintro e w1 ⟨rfl, rfl⟩)
    refine bodyPost_ret (v := .tuple #[.int .i64 0, .string (t.extract 0 (giveN room t.size))]) (by simp [results, Try.results27, go_sem]) rfl ?_
    exact ⟨rfl, HD.out.pend _, Eff.set _ g 4 _ |>.mono fun _ _ h => h⟩
end Go.Proofs.Ytegacgfhmigdjaa
