/- strings.Cut(s, "=") answers what cutF answers. -/
import Derived.Test.YtlddfdkmpnllmaaDoorBase
import Derived.Test.YtlddfdkmpnllmaaDoorShelf
import Derived.Outline
import Derived.WalkSpells
namespace Go.Proofs.YtlddfdkmpnllmaaDoor
open Go.RowKit
set_option linter.unusedVariables false

def eqAt (s : ByteArray) : Int := Lib.indexByte s.data.toList 61
def cutF (s : ByteArray) : ByteArray × ByteArray × Bool :=
  if 0 ≤ eqAt s then (s.extract 0 (eqAt s).toNat, s.extract ((eqAt s).toNat + 1) s.size, true) else (s, ⟨#[]⟩, false)

theorem indexByte_lt : ∀ (l : List UInt8) (c : UInt8), Lib.indexByte l c < (l.length : Int) ∨ Lib.indexByte l c = -1
  | [], _ => .inr rfl
  | b :: l, c => by
    unfold Lib.indexByte
    have ih := indexByte_lt l c
    have hg := Lib.indexByte_ge l c
    by_cases h : (b == c) = true
    · rw [if_pos h]; simp
    · rw [if_neg h]
      by_cases h2 : (Lib.indexByte l c == -1) = true
      · rw [if_pos h2]; exact .inr rfl
      · rw [if_neg h2]
        have h3 : Lib.indexByte l c ≠ -1 := by simpa using h2
        simp only [List.length_cons]
        omega
theorem eqAt_range (s : ByteArray) : -1 ≤ eqAt s ∧ eqAt s < (s.size : Int) := by
  have h1 := Lib.indexByte_ge s.data.toList 61
  have h2 := indexByte_lt s.data.toList 61
  have h3 : s.data.toList.length = s.size := rfl
  unfold eqAt
  omega

set_option maxHeartbeats 2000000 in
theorem cut_calls' (s : ByteArray) (w : World) (hs : s.size ≤ 140737488351232) :
    Calls Tryd.prog 34 #[.string s, .string ⟨#[61]⟩] w fun e w' => e = .returned (.tuple #[.string (cutF s).1, .string (cutF s).2.1, .bool (cutF s).2.2]) ∧ ∃ n, w' = w.drewN n := by
  have hI := Tryd.stringslite_Index_one s 61
  obtain ⟨h1, h2⟩ := eqAt_range s
  obtain ⟨i, hi⟩ : ∃ i, eqAt s = i := ⟨_, rfl⟩
  have HI : ∀ w, Calls Tryd.prog 39 #[.string s, .string ⟨#[61]⟩] w fun e w' => e = .returned (.int .i64 i) ∧ w = w' := fun w => by rw [← hi]; exact (hI w).mono fun e w' h => ⟨h.1, h.2.symm⟩
  have H := Lib.hid HI
  clear HI hI
  rw [hi] at h1 h2
  by_cases h0 : 0 ≤ i
  · have e : cutF s = (s.extract 0 i.toNat, s.extract (i.toNat + 1) s.size, true) := by unfold cutF; rw [hi, if_pos h0]
    rw [e]
    clear e hi
    obtain ⟨n, rfl⟩ := Int.eq_ofNat_of_zero_le h0
    have hn : n < s.size := by omega
    have k1 : (n : Int) ≤ (s.size : Int) := by omega
    have k2 : IntKind.i64.wrap ((n : Int) + 1) = (n : Int) + 1 := by rw [IntKind.wrap_i64]; omega
    have k3 : (0 : Int) ≤ (n : Int) + 1 := by omega
    have k4 : (n : Int) + 1 ≤ (s.size : Int) := by omega
    have k5 : ((n : Int) + 1).toNat = n + 1 := by omega
    rw [Int.toNat_natCast]
    go_enter Tryd.func34, Tryd.ntmps34
    go_wp2_with (go_at_call 39; refine (H.out _).mono ?_; rintro e w' ⟨rfl, rfl⟩)
    go_quiet (fail)
    go_wp2
    go_ret3
    exact ⟨by simp, _, rfl⟩
  · have e : cutF s = (s, ⟨#[]⟩, false) := by unfold cutF; rw [hi, if_neg h0]
    rw [e]
    clear e hi
    go_enter Tryd.func34, Tryd.ntmps34
    go_wp2_with (go_at_call 39; refine (H.out _).mono ?_; rintro e w' ⟨rfl, rfl⟩)
    go_ret3
    exact ⟨rfl, 0, rfl⟩

theorem cut_calls (s : ByteArray) (w : World) (hs : s.size ≤ 140737488351232) :
    Calls Tryd.prog 19 #[.string s, .string ⟨#[61]⟩] w fun e w' => e = .returned (.tuple #[.string (cutF s).1, .string (cutF s).2.1, .bool (cutF s).2.2]) ∧ ∃ n, w' = w.drewN n := by
  go_enter Tryd.func19, Tryd.ntmps19
  go_wp2_with (go_at_call 34; refine (cut_calls' s _ hs).mono ?_; rintro e w' ⟨rfl, n, rfl⟩)
  go_ret3
  exact ⟨rfl, n, rfl⟩
end Go.Proofs.YtlddfdkmpnllmaaDoor
