/- codec.Name and codec.Codec answer what nameF and codecF answer. -/
import Derived.Test.YtlddfdkmpnllmaaDoorBase
import Derived.Outline
namespace Go.Proofs.YtlddfdkmpnllmaaDoor
open Go.RowKit
set_option linter.unusedVariables false

def codecNames : List (List UInt8) := [[], [117, 116, 102, 45, 56], [117, 116, 102, 45, 49, 54, 98, 101], [117, 116, 102, 45, 49, 54, 108, 101], [117, 116, 102, 45, 51, 50, 98, 101], [117, 116, 102, 45, 51, 50, 108, 101], [117, 116, 102, 45, 101, 98, 99, 100, 105, 99], [112, 117, 110, 121, 99, 111, 100, 101], [98, 111, 99, 117, 45, 49], [115, 99, 115, 117], [115, 99, 115, 117, 45, 112, 108, 97, 105, 110]]
def nameF (c : Int) : ByteArray := ⟨(if c < 1 ∨ 10 < c then [] else codecNames.getD c.toNat []).toArray⟩

set_option maxHeartbeats 2000000 in
theorem name_calls (c : Int) (w : World) :
    Calls Tryd.prog 29 #[.int .i64 c] w fun e w' => e = .returned (.string (nameF c)) ∧ Below w.heap.size w w' := by
  by_cases h1 : c < 1
  · have e : nameF c = ⟨#[]⟩ := by simp [nameF, h1]
    rw [e]
    clear e
    go_enter Tryd.func29, Tryd.ntmps29
    go_wp2
    go_ret
    exact ⟨rfl, (Below.refl _ _).alloc (Nat.le_refl _) _⟩
  · by_cases h2 : 10 < c
    · have e : nameF c = ⟨#[]⟩ := by simp [nameF, h2]
      rw [e]
      clear e
      go_enter Tryd.func29, Tryd.ntmps29
      go_wp2
      go_ret
      exact ⟨rfl, (Below.refl _ _).alloc (Nat.le_refl _) _⟩
    · have h : c = 1 ∨ c = 2 ∨ c = 3 ∨ c = 4 ∨ c = 5 ∨ c = 6 ∨ c = 7 ∨ c = 8 ∨ c = 9 ∨ c = 10 := by omega
      clear h1 h2
      rcases h with rfl | rfl | rfl | rfl | rfl | rfl | rfl | rfl | rfl | rfl
      all_goals
        go_enter Tryd.func29, Tryd.ntmps29
        go_wp2
        go_ret
        exact ⟨rfl, (Below.refl _ _).alloc (Nat.le_refl _) _⟩

/-- The first of 1 .. 10 whose name it is, from k on; 0: none. -/
def codecFrom (s : ByteArray) : Nat → Int
  | 0 => 0
  | n + 1 => if nameF (10 - n) = s then (10 - n : Int) else codecFrom s n
def codecF (s : ByteArray) : Int := codecFrom s 10
theorem codecFrom_yes {s : ByteArray} {n : Nat} {c : Int} (hc : c = 11 - ((n + 1 : Nat) : Int)) (h : nameF c = s) : codecFrom s (n + 1) = c := by
  have e : (10 - n : Int) = c := by omega
  simp only [codecFrom, e]; rw [if_pos h]
theorem codecFrom_no {s : ByteArray} {n : Nat} {c : Int} (hc : c = 11 - ((n + 1 : Nat) : Int)) (h : ¬ nameF c = s) : codecFrom s (n + 1) = codecFrom s n := by
  have e : (10 - n : Int) = c := by omega
  simp only [codecFrom, e]; rw [if_neg h]

set_option maxHeartbeats 2000000 in
theorem codec_calls (s : ByteArray) (w : World) :
    Calls Tryd.prog 36 #[.string s] w fun e w' => e = .returned (.int .i64 (codecF s)) ∧ Below w.heap.size w w' := by
  go_enter Tryd.func36, Tryd.ntmps36
  go_wp2
  go_loopg [3] 10 (fun kq v3 w' => ∃ c : Int, v3 = .int .i64 c ∧ Hid (c = 11 - kq ∧ kq ≤ 10 ∧ codecF s = codecFrom s kq) ∧ Hid (Below w.heap.size w w'))
  case atStart => exact ⟨1, rfl, Lib.hid ⟨rfl, Nat.le_refl _, rfl⟩, Lib.hid (Below.refl _ _)⟩
  case round =>
    obtain ⟨c, rfl, hF, hB⟩ := hrel
    cases gk with
    | zero =>
      have hc : ¬ c ≤ 10 := by have := hF.1; omega
      go_wp2
      go_ret
      exact ⟨by rw [hF.2.2]; rfl, hB⟩
    | succ n =>
      have hc : c ≤ 10 := by have := hF.1; omega
      have hc1 : 1 ≤ c := by have := hF.1; have := hF.2.1; omega
      go_wp2_with (go_at_call 29; refine (name_calls c _).mono ?_; rintro e w1 ⟨rfl, hb⟩)
      · have ht : ((nameF c).toList == s.toList) = true := by assumption
        go_ret
        exact ⟨by rw [hF.2.2, codecFrom_yes hF.1 ((str_eq_iff _ _).1 ht)]; rfl, below_next hB hb⟩
      · have ht : ((nameF c).toList == s.toList) = false := by assumption
        go_roundg n
        case measure => omega
        case rel => exact ⟨c + 1, rfl, Lib.hid ⟨by have := hF.1; omega, by have := hF.2.1; omega, by rw [hF.2.2, codecFrom_no hF.1 ((str_ne_iff _ _).1 ht)]⟩, Lib.hid (below_next hB hb)⟩
end Go.Proofs.YtlddfdkmpnllmaaDoor
