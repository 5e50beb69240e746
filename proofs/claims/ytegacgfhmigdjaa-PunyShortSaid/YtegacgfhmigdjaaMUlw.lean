/- Joined texts: Ulw. -/
import Derived.Test.YtegacgfhmigdjaaMUsj
import Derived.Test.YtegacgfhmigdjaaMUbl
import Derived.Test.YtegacgfhmigdjaaPPbx1
import Derived.OpenShut
/- Words for the laws that write: the first that is no scalar, lists that were handed in. -/
namespace Go.Proofs.Ytegacgfhmigdjaa
open Go.RowKit Go.Proofs.YtegacgfhmigdjaaW.PrintWords Go.Proofs.YtegacgfhmigdjaaW.PrintLast Go.Proofs.YtegacgfhmigdjaaW.PrintMore Go.Proofs.Ytegacgfhmigdjaa.PPu
set_option linter.unusedVariables false
set_option linter.unusedSimpArgs false

theorem src32_of {w : World} {g B : Nat} {A : Option Addr} {l : List Int} (h : ReadsInt w .u32 A l.length l) (hg : w.heap.size ≤ g) (hB : w.heap.size ≤ B) : Src32 w g B A l := by
  cases l with
  | nil => exact .inl rfl
  | cons a r =>
    obtain ⟨pb, po, rfl, hs⟩ := src_u h (by simp)
    have hlt := hs.lt (by simp)
    exact .inr ⟨pb, po, rfl, by omega, by omega, hs.cells⟩
theorem bis_f (n : Int) : PPb.pilcrowref01_Is.f n = some (isP n) := by
  unfold PPb.pilcrowref01_Is.f isP
  repeat' split
  all_goals first | rfl | (simp; omega) | (exfalso; omega)
theorem first_l0 (l : List Int) (hl : l.length ≤ 1000000) : ∀ (m i k : Nat), i + m = l.length → m + 1 ≤ k → PPb.pilcrowref01_First.l0 k l i = some (if scalN l m i < l.length then (scalN l m i : Int) else -1)
  | 0, i, k, hi, hk => by
    obtain ⟨k, rfl⟩ : ∃ j, k = j + 1 := ⟨k - 1, by omega⟩
    rw [PPb.pilcrowref01_First.l0, if_neg (by omega), scalN, if_neg (by omega)]
  | m + 1, i, k, hi, hk => by
    obtain ⟨k, rfl⟩ : ∃ j, k = j + 1 := ⟨k - 1, by omega⟩
    have hrd : rd l (i : Int) = l.getD i 0 := by unfold rd; rw [Int.toNat_natCast]
    have hs : scalN l (m + 1) i = if isP (l.getD i 0) = true then scalN l m (i + 1) else i := by rw [scalN, if_pos (by omega)]
    rw [PPb.pilcrowref01_First.l0, if_pos (by omega), if_pos (by omega), hrd, bis_f, Option.bind_some, hs]
    by_cases hp : isP (l.getD i 0) = true
    · simp only [if_pos hp]
      rw [w64 (by omega) (by omega)]
      exact first_l0 l hl m (i + 1) k (by omega) (by omega)
    · simp only [if_neg hp]
      rw [if_pos (by omega)]
def firstR (l : List Int) : Int := if encN l < l.length then (encN l : Int) else -1
theorem first_c (A : Option Addr) (c : Nat) (l : List Int) (w : World) (h : ReadsInt w .u32 A l.length l) (hc : l.length ≤ c) (hl : l.length ≤ 1000000) :
    Calls Try.prog 22 #[.slice A l.length c] w fun e w' => e = .returned (.int .i64 (firstR l)) ∧ Below w.heap.size w w' := by
  refine (PPb.pilcrowref01_First.calls (l.length + 1) A c l (firstR l) w (Kd.C_of_reads (d := (0 : Int)) h) hc (first_l0 l hl l.length 0 (l.length + 1) (by omega) (Nat.le_refl _))).mono ?_
  rintro e w' ⟨rfl, ⟨nd, rfl⟩⟩
  exact ⟨rfl, below_drewN' (Below.refl _ _) nd⟩
theorem writeF_some (l : List Int) : ∃ t en E F, WriteF l t en E F := by
  by_cases h : encN l < l.length
  · exact ⟨_, _, _, _, .inl ⟨h, rfl, rfl, rfl, rfl⟩⟩
  · exact ⟨_, _, _, _, .inr ⟨by have := encN_le l; omega, rfl, rfl, rfl, rfl⟩⟩
theorem reads_nil (w : World) (k : IntKind) : ReadsInt w k none ([] : List Int).length [] := ⟨rfl, by decide, fun h => absurd h (Nat.lt_irrefl 0)⟩
/-- great, where no parts are told. -/
theorem great_n (n : Nat) (w : World) : Calls Try.prog 11 #[.int .i64 n, .slice none 0 0, .slice none 0 0] w fun e w' => e = .returned (.bool (decide (n > 120))) ∧ Below w.heap.size w w' := by
  have h := great_c n none none 0 0 [] [] w (reads_nil w _) (reads_nil w _) (Nat.le_refl _) (Nat.le_refl _)
  refine h.mono ?_
  rintro e w' ⟨rfl, hb⟩
  refine ⟨?_, hb⟩
  unfold greatR
  simp
/-- A fresh encoder writes a list of scalars. -/
theorem write_fresh (l : List Int) (A AP AR : Option Addr) (c cp cr : Nat) (lp lr : List Int) (w w3 : World) (hw : w3 = w.alloc (.cells #[.int .i64 0, .int .i64 0, .int .i64 0, .bool false, .string ⟨#[]⟩, .slice none 0 0] 65 (0, 0)))
    (h1 : ReadsInt w .u32 A l.length l) (hc : l.length ≤ c) (hl : l.length ≤ 10000) (h0 : ∀ y ∈ l, 0 ≤ y) (hp : ReadsInt w .i64 AP lp.length lp) (hr : ReadsInt w .i64 AR lr.length lr) (hlp : lp.length ≤ 1000000) (hlr : lr.length ≤ 1000000) (t : ByteArray) (en : Bool) (E F : Int) (hres : WriteF l t en E F) :
    Calls Try.prog 20 #[.pointer (some ⟨w.heap.size, 0, none⟩), .slice A l.length c, .slice AP lp.length cp, .slice AR lr.length cr] w3 fun e w' => e = .returned (.tuple #[.string t, .bool true]) ∧ (∃ lv, EX w' w.heap.size (w.heap.size + 1) E F en (encN l : Int) (l.take (encN l)) ⟨#[]⟩ lv) ∧ Below w.heap.size w w' := by
  have hb : Below w.heap.size w w3 := by rw [hw]; exact below_new (Below.refl _ _) _
  have hz : w3.heap.size = w.heap.size + 1 := by rw [hw, World.size_alloc]
  refine (write_c w.heap.size (w.heap.size + 1) A AP AR c cp cr l lp lr w3 (by rw [hw]; exact EX.new w _) (by omega) (by omega) hl hlp hlr h0 ((src32_of h1 (Nat.le_refl _) (Nat.le_succ _)).eff (Eff.of_below hb _)) hc ((hand_of hp (Nat.le_refl _) (Nat.le_succ _)).below hb) ((hand_of hr (Nat.le_refl _) (Nat.le_succ _)).below hb) t en E F hres).mono ?_
  rintro e w' ⟨rfl, hx, he⟩
  exact ⟨rfl, hx, Eff.under hb he (by omega) (fun k hk => by omega)⟩
end Go.Proofs.Ytegacgfhmigdjaa
