/- puny.Decoder: what is told behind the end; NewDecoder; step.In's Done. -/
import Derived.Test.YtegacgfhmigdjaaUfd
namespace Go.Proofs.Ytegacgfhmigdjaa
open Go.RowKit Go.Proofs.YtegacgfhmigdjaaW.PrintWords Go.Proofs.YtegacgfhmigdjaaW.PrintLast Go.Proofs.YtegacgfhmigdjaaW.PrintMore Go.Proofs.Ytegacgfhmigdjaa.PPu
set_option linter.unusedVariables false
set_option linter.unusedSimpArgs false

theorem newdec_c (w : World) : Calls Try.prog 12 #[] w fun e w' => e = .returned (.pointer (some ⟨w.heap.size, 0, none⟩)) ∧ w' = w.alloc (.cells #[.int .i64 0, .int .i64 0, .int .i64 0, .bool false, .slice none 0 0, .slice none 0 0] 43 (0, 0)) := by
  go_enter Try.func12, Try.ntmps12
  go_wp2_with fail
  go_ret
  exact ⟨rfl, rfl⟩
theorem DG.new (w : World) (B : Nat) : DG (w.alloc (.cells #[.int .i64 0, .int .i64 0, .int .i64 0, .bool false, .slice none 0 0, .slice none 0 0] 43 (0, 0))) w.heap.size B 0 [] (.slice none 0 0) (.slice none 0 0) :=
  ⟨Blk.new w _ _, ⟨rfl, .inl ⟨rfl, none, rfl, fun a h => by cases h⟩⟩, rfl, ⟨rfl, .inl ⟨rfl, none, rfl, fun a h => by cases h⟩⟩⟩
set_option maxRecDepth 100000 in
set_option maxHeartbeats 4000000 in
/-- No room: nothing is eaten. -/
theorem feed_zero (g B : Nat) (n : Int) (tx : List Int) (lv tv : Value) (s : ByteArray) (room : Int) (w : World) (hd : DG w g B n tx lv tv) (hr : ¬ 0 < room) :
    Calls Try.prog 25 #[.pointer (some ⟨g, 0, none⟩), .string s, .int .i64 room] w fun e w' => ∃ v lv', e = .returned (.tuple #[.int .i64 0, v]) ∧ w'.ownsRow w.heap.size 51 1 v 0 [] ∧ DG w' g B n tx lv' tv ∧ Eff w w' (fun k => k = g) := by
  have HD := Lib.hid hd
  clear hd
  have hs : s.size = 0 ∨ 0 < s.size := by omega
  have hr1 : decide (0 < room) = false := decide_eq_false hr
  rcases hs with hs | hs
  all_goals
    go_enter Try.func25, Try.ntmps25
    go_upto_block 0 with fail
    go_cut [8] (fun s8 wx => s8 = .int .i64 0 ∧ wx = w)
    case first =>
      go_wp2_with fail
      go_loopg [8] 0 (fun kq s8 wx => s8 = .int .i64 0 ∧ wx = w)
      case atStart => exact ⟨rfl, rfl⟩
      case round =>
        obtain ⟨rfl, rfl⟩ := hrel
        go_wp2_with fail
        go_meet
        exact ⟨rfl, rfl⟩
    case rest =>
      obtain ⟨rfl, rfl⟩ := hcut
      go_wp2_with (go_at_call 41; refine (tell_c (o := 4) (by decide) HD.out.blk rfl HD.out.list (by decide)).mono ?_; rintro e w1 ⟨v, lv', rfl, ho, hb, hq, hl, heff⟩)
      refine bodyPost_ret (v := .tuple #[.int .i64 0, v]) (by simp [results, Try.results25, go_sem]) rfl ?_
      exact ⟨v, lv', rfl, by rw [List.take_nil] at ho; exact ho, HD.out.told hb (by rw [List.drop_nil] at hq; exact hq) hl heff, heff⟩
set_option maxRecDepth 100000 in
set_option maxHeartbeats 4000000 in
/-- Behind the end: the next ones are told. -/
theorem feed_tell (g B : Nat) (err fat n : Int) (en : Bool) (xs : List Int) (lv : Value) (w : World) (hd : DE w g B err fat n en xs lv) (hl : xs.length ≤ 1000000) (room : Int) :
    Calls Try.prog 25 #[.pointer (some ⟨g, 0, none⟩), .string ⟨#[]⟩, .int .i64 room] w fun e w' => ∃ v lv', e = .returned (.tuple #[.int .i64 0, v]) ∧ w'.ownsRow w.heap.size 51 1 v (xs.take (giveN room xs.length)).length (nums .u32 (xs.take (giveN room xs.length))) ∧
      DE w' g B err fat n en (xs.drop (giveN room xs.length)) lv' ∧ Eff w w' (fun k => k = g) ∧ (lv'.ownBlock = lv.ownBlock ∨ lv'.ownBlock = none) := by
  have HD := Lib.hid hd
  have HL := Lib.hid hl
  clear hd hl
  go_enter Try.func25, Try.ntmps25
  go_upto_block 0 with fail
  go_cut [8] (fun s8 wx => s8 = .int .i64 0 ∧ wx = w)
  case first =>
    go_wp2_with fail
    go_loopg [8] 0 (fun kq s8 wx => s8 = .int .i64 0 ∧ wx = w)
    case atStart => exact ⟨rfl, rfl⟩
    case round =>
      obtain ⟨rfl, rfl⟩ := hrel
      go_wp2_with fail
      go_meet
      exact ⟨rfl, rfl⟩
  case rest =>
    obtain ⟨rfl, rfl⟩ := hcut
    obtain ⟨tv, hblk⟩ := HD.out.blk
    have HBK := Lib.hid hblk
    clear hblk
    go_wp2_with (go_at_call 41; refine (tell_c (o := 4) (by decide) HBK.out rfl HD.out.list (by have := HL.out; omega)).mono ?_; rintro e w1 ⟨v, lv', rfl, ho, hb, hq, hl, heff⟩)
    refine bodyPost_ret (v := .tuple #[.int .i64 0, v]) (by simp [results, Try.results25, go_sem]) rfl ?_
    exact ⟨v, lv', rfl, ho, ⟨⟨tv, hb⟩, hq, HD.out.off⟩, heff, hl⟩
set_option maxRecDepth 100000 in
/-- Is all told? -/
theorem done_c (g B : Nat) (err fat n : Int) (en : Bool) (xs : List Int) (lv : Value) (w : World) (hd : DE w g B err fat n en xs lv) :
    Calls Try.prog 29 #[.pointer (some ⟨g, 0, none⟩)] w fun e w' => e = .returned (.bool (xs.length == 0)) ∧ w = w' := by
  obtain ⟨tv, hblk⟩ := hd.blk
  obtain ⟨A, c, rfl, hc⟩ := q_slice hd.list
  have hg := going_c hblk rfl rfl
  rw [hd.off] at hg
  have hh := held_c (o := 4) hblk rfl
  clear hblk hd
  cases hz : (xs.length == 0)
  all_goals
    go_enter Try.func29, Try.ntmps29
    go_wp2_with (first
      | (go_at_call 38; refine hg.mono ?_; rintro e w1 ⟨rfl, rfl⟩)
      | (go_at_call 49; refine hh.mono ?_; rintro e w1 ⟨rfl, rfl⟩))
    go_ret
    first
      | exact ⟨rfl, rfl⟩
      | (refine ⟨?_, rfl⟩; simp at hz; simp [hz])
set_option maxRecDepth 100000 in
/-- End of a decoder that has met an error. -/
theorem end_err (g B : Nat) (err fat n : Int) (tx : List Int) (lv tv : Value) (w : World) (hd : DX w g B err fat false n tx lv tv) (he : err ≠ 0) :
    Calls Try.prog 26 #[.pointer (some ⟨g, 0, none⟩)] w fun e w' => e = .returned (.tuple #[]) ∧ w = w' ∧ DE w g B err fat n false [] lv := by
  have hg := going_err he hd.blk rfl rfl
  have HE : DE w g B err fat n false [] lv := ⟨⟨tv, hd.blk⟩, hd.list, by simp [he]⟩
  have HH := Lib.hid HE
  clear hd HE
  go_enter Try.func26, Try.ntmps26
  go_wp2_with (go_at_call 38; refine hg.mono ?_; rintro e w1 ⟨rfl, rfl⟩)
  exact bodyPost_ret (v := .tuple #[]) (by simp [results, Try.results26, go_sem]) rfl ⟨rfl, rfl, HH.out⟩
end Go.Proofs.Ytegacgfhmigdjaa
