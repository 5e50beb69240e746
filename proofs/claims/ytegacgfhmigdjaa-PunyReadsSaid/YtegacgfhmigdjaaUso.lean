/- slices.Sort and slices.Compact at one number (or none). -/
import Derived.Test.YtegacgfhmigdjaaUbl
namespace Go.Proofs.Ytegacgfhmigdjaa
open Go.RowKit Go.Proofs.YtegacgfhmigdjaaW.PrintWords Go.Proofs.YtegacgfhmigdjaaW.PrintLast Go.Proofs.YtegacgfhmigdjaaW.PrintMore Go.Proofs.Ytegacgfhmigdjaa.PPu
set_option linter.unusedVariables false
set_option linter.unusedSimpArgs false

set_option maxRecDepth 100000 in
set_option maxHeartbeats 1000000 in
theorem insertionSort_one (A : Option Addr) (n c : Nat) (hn : n ≤ 1) (w : World) : Calls Try.prog 78 #[.slice A n c, .int .i64 0, .int .i64 n] w fun e w' => e = .returned (.tuple #[]) ∧ w = w' := by
  have h1 : decide ((1 : Int) < (n : Int)) = false := decide_eq_false (by omega)
  have h2 : ¬ (1 : Int) < (n : Int) := by omega
  go_enter Try.func78, Try.ntmps78
  go_wp2_with fail
  go_loopg [6] 0 (fun kq s6 wx => s6 = .int .i64 1 ∧ wx = w)
  case atStart => exact ⟨rfl, rfl⟩
  case round =>
    obtain ⟨rfl, rfl⟩ := hrel
    go_wp2_with fail
    exact bodyPost_end (v := .tuple #[]) (by simp [results, Try.results78, go_sem]) rfl ⟨rfl, rfl⟩
set_option maxRecDepth 100000 in
set_option maxHeartbeats 1000000 in
theorem pdqsort_one (A : Option Addr) (n c : Nat) (hn : n ≤ 1) (limit : Int) (w : World) : Calls Try.prog 72 #[.slice A n c, .int .i64 0, .int .i64 n, .int .i64 limit] w fun e w' => e = .returned (.tuple #[]) ∧ w = w' := by
  have h1 : decide ((n : Int) ≤ 12) = true := decide_eq_true (by omega)
  have h2 : (n : Int) ≤ 12 := by omega
  have h3 : n ≤ 12 := by omega
  go_enter Try.func72, Try.ntmps72
  go_upto_block 1 with fail
  go_loopg [1, 2] 0 (fun kq s1 s2 wx => s1 = .int .i64 0 ∧ s2 = .int .i64 n ∧ wx = w)
  case atStart => exact ⟨rfl, rfl, rfl⟩
  case round =>
    obtain ⟨rfl, rfl, rfl⟩ := hrel
    go_wp2_with (go_at_call 78; refine (insertionSort_one A n c hn _).mono ?_; rintro e w1 ⟨rfl, rfl⟩)
    exact bodyPost_ret (v := .tuple #[]) (by simp [results, Try.results72, go_sem]) rfl ⟨rfl, rfl⟩
set_option maxRecDepth 100000 in
theorem sort_one (A : Option Addr) (n c : Nat) (hn : n ≤ 1) (w : World) : Calls Try.prog 59 #[.slice A n c] w fun e w' => e = .returned (.tuple #[]) ∧ w = w' := by
  have hb := Try.bits_Len (n : Int) w (by omega) (by omega)
  have hw : IntKind.u64.wrap (n : Int) = n := Go.Proofs.Ytegacgfhmigdjaa.u64 (by omega) (by omega)
  go_enter Try.func59, Try.ntmps59
  go_wp2_with (first
    | (go_at_call 73; refine hb.mono ?_; rintro e w1 ⟨rfl, rfl⟩)
    | (go_at_call 72; refine (pdqsort_one A n c hn _ _).mono ?_; rintro e w1 ⟨rfl, rfl⟩))
  exact bodyPost_end (v := .tuple #[]) (by simp [results, Try.results59, go_sem]) rfl ⟨rfl, rfl⟩
set_option maxRecDepth 100000 in
theorem compact_one (A : Option Addr) (n c : Nat) (hn : n ≤ 1) (w : World) : Calls Try.prog 60 #[.slice A n c] w fun e w' => e = .returned (.slice A n c) ∧ w = w' := by
  have h1 : decide ((n : Int) < 2) = true := decide_eq_true (by omega)
  have h2 : (n : Int) < 2 := by omega
  have h3 : n < 2 := by omega
  go_enter Try.func60, Try.ntmps60
  go_wp2_with fail
  go_ret
  exact ⟨rfl, rfl⟩
end Go.Proofs.Ytegacgfhmigdjaa
