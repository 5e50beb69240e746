/- Joined texts: Co, Lq, Mb. -/
import Derived.Test.YtppchdinolndmaaGreatMUstp
import Derived.Test.YtppchdinolndmaaGreatMSb
import Derived.Test.YtppchdinolndmaaGreatMEfg
import Derived.Test.YtppchdinolndmaaGreatME16
import Derived.Test.YtppchdinolndmaaGreatME32
import Derived.Test.YtppchdinolndmaaGreatMKm
import Derived.Test.YtppchdinolndmaaGreatMUsj
import Derived.Test.YtppchdinolndmaaGreatMEb
import Derived.Test.YtppchdinolndmaaGreatMVw
import Derived.Test.YtppchdinolndmaaGreatMDv
import Derived.Test.YtppchdinolndmaaGreatMDh
import Derived.Test.YtppchdinolndmaaGreatMDw
import Derived.Test.YtppchdinolndmaaGreatMDm
import Derived.Test.YtppchdinolndmaaGreatMUins
import Derived.Test.YtppchdinolndmaaGreatMHd
namespace Go.Proofs.YtppchdinolndmaaGreat
open Go.RowKit Go.Proofs.YtppchdinolndmaaGreatW.PrintWords
set_option linter.unusedVariables false
set_option linter.unusedSimpArgs false
def dmOf (c : Int) : DMach := if c = 1 then DV else if c = 2 then DH true else if c = 3 then DH false else if c = 4 then DW true else if c = 5 then DW false else if c = 6 then DEc else if c = 7 then DP else if c = 8 then DB else DX
def emOf (c : Int) : EMach := if c = 1 then E8 else if c = 2 then E16 true else if c = 3 then E16 false else if c = 4 then E32 true else if c = 5 then E32 false else if c = 6 then EEb else if c = 7 then EPn else if c = 8 then EBo else if c = 9 then CM false else CM true
structure HasD (c : Int) (M : DMach) : Prop where
 ex : ∃ tg fF fE Rep, DecK tg fF fE M Rep ∧ NewD c tg M Rep
 one : ∀ st b st' l, M.next st b = some (st', l) → l.length ≤ 1
 wt : ∃ μ : M.St → Nat, μ M.ini = 0 ∧ (∀ st b st' l, M.next st b = some (st', l) → l.length + μ st' ≤ μ st + 1) ∧ ∀ st l, M.fin st = some l → l.length ≤ μ st
structure HasE (c : Int) (M : EMach) : Prop where
 ex : ∃ tg fF fE Rep, EncK tg fF fE M Rep ∧ NewE c tg M Rep
 put5 : ∀ st x, (M.put st x).2.length ≤ 5
 bad5 : ∀ st, (M.bad st).length ≤ 5
 byt : ∀ (l : List Int) (p : Nat), (∀ x ∈ l, 0 ≤ x) → l.length ≤ 500 → (runE M M.ini l p []).1.length ≤ 9 * l.length + 9 ∧ isBytes (runE M M.ini l p []).1
theorem wt_none {M : DMach} (h : ∀ st b st' l, M.next st b = some (st', l) → l.length ≤ 1) (hf : ∀ st l, M.fin st = some l → l = []) : ∃ μ : M.St → Nat, μ M.ini = 0 ∧ (∀ st b st' l, M.next st b = some (st', l) → l.length + μ st' ≤ μ st + 1) ∧ ∀ st l, M.fin st = some l → l.length ≤ μ st :=
 ⟨fun _ => 0, rfl, fun st b st' l hn => h st b st' l hn, fun st l hl => by rw [hf st l hl]; exact Nat.le_refl _⟩
theorem runD_le {M : DMach} (μ : M.St → Nat) (h1 : ∀ st b st' l, M.next st b = some (st', l) → l.length + μ st' ≤ μ st + 1) (h2 : ∀ st l, M.fin st = some l → l.length ≤ μ st) : ∀ (s : List Int) (st : M.St) (p : Nat) (acc : List Int), (runD M st s p acc).1.length ≤ acc.length + μ st + s.length
 | [], st, p, acc => by
  rw [runD]
  cases hf : M.fin st with
  | none => show acc.length ≤ _; omega
  | some k => show (acc ++ k).length ≤ _; have := h2 st k hf; rw [List.length_append]; omega
 | b :: r, st, p, acc => by
  rw [runD]
  cases hn : M.next st b with
  | none => show acc.length ≤ _; omega
  | some q =>
   obtain ⟨st', k⟩ := q
   have := runD_le μ h1 h2 r st' (p + 1) (acc ++ k)
   have := h1 st b st' k hn
   show (runD M st' r (p + 1) (acc ++ k)).1.length ≤ _
   rw [List.length_append] at *
   rw [List.length_cons]
   omega
theorem HasD.le {c : Int} {M : DMach} (h : HasD c M) (s : List Int) : (runD M M.ini s 0 []).1.length ≤ s.length := by
 obtain ⟨μ, h0, h1, h2⟩ := h.wt
 have := runD_le μ h1 h2 s M.ini 0 []
 rw [h0] at this
 simpa using this
theorem runE_len (M : EMach) (z : Nat) (h1 : ∀ st x, (M.put st x).2.length ≤ z) (h2 : ∀ st, (M.bad st).length ≤ z) (h3 : ∀ st, (M.fin st).length ≤ z) : ∀ (l : List Int) (st : M.St) (p : Nat) (acc : List Int), (runE M st l p acc).1.length ≤ acc.length + z * (l.length + 1)
 | [], st, p, acc => by
  have := h3 st
  show (acc ++ M.fin st).length ≤ _
  rw [List.length_append, List.length_nil]; omega
 | c :: r, st, p, acc => by
  have e : z * ((c :: r).length + 1) = z * (r.length + 1) + z := by rw [List.length_cons, Nat.mul_add z (r.length + 1) 1]; omega
  rw [runE, e]
  split
  ·have := runE_len M z h1 h2 h3 r (M.put st c).1 (p + 1) (acc ++ (M.put st c).2)
   have := h1 st c
   rw [List.length_append] at *
   omega
  ·have := h2 st
   show (acc ++ M.bad st).length ≤ _
   rw [List.length_append]; omega
theorem isBytes_append {a b : List Int} (ha : isBytes a) (hb : isBytes b) : isBytes (a ++ b) := fun x hx => (List.mem_append.1 hx).elim (ha x) (hb x)
theorem runE_bytes (M : EMach) (Q : M.St → Prop) (h1 : ∀ st x, Q st → 0 ≤ x → isScal x = true → Q (M.put st x).1 ∧ isBytes (M.put st x).2) (h2 : ∀ st, Q st → isBytes (M.bad st)) (h3 : ∀ st, Q st → isBytes (M.fin st)) :
  ∀ (l : List Int) (st : M.St) (p : Nat) (acc : List Int), (∀ x ∈ l, 0 ≤ x) → Q st → isBytes acc → isBytes (runE M st l p acc).1
 | [], st, p, acc, _, q, ha => isBytes_append ha (h3 st q)
 | c :: r, st, p, acc, hl, q, ha => by
  rw [runE]
  split
  ·rename_i hs
   obtain ⟨q1, b1⟩ := h1 st c q (hl c (List.mem_cons_self ..)) hs
   exact runE_bytes M Q h1 h2 h3 r _ _ _ (fun x hx => hl x (List.mem_cons_of_mem _ hx)) q1 (isBytes_append ha b1)
  ·exact isBytes_append ha (h2 st q)
theorem byt_of (M : EMach) (h1 : ∀ st x, (M.put st x).2.length ≤ 5) (h2 : ∀ st, (M.bad st).length ≤ 5) (h3 : ∀ st, (M.fin st).length ≤ 5) (Q : M.St → Prop) (q0 : Q M.ini) (k1 : ∀ st x, Q st → 0 ≤ x → isScal x = true → Q (M.put st x).1 ∧ isBytes (M.put st x).2) (k2 : ∀ st, Q st → isBytes (M.bad st)) (k3 : ∀ st, Q st → isBytes (M.fin st))
  (l : List Int) (p : Nat) (hl : ∀ x ∈ l, 0 ≤ x) : (runE M M.ini l p []).1.length ≤ 9 * l.length + 9 ∧ isBytes (runE M M.ini l p []).1 := by
 refine ⟨?_, runE_bytes M Q k1 k2 k3 l M.ini p [] hl q0 (fun x hx => by cases hx)⟩
 have := runE_len M 5 h1 h2 h3 l M.ini p []
 simp only [List.length_nil] at this
 omega
theorem nil_bytes : isBytes [] := fun x hx => by cases hx
theorem isB1 {a : Int} (h : 0 ≤ a ∧ a ≤ 255) : isBytes [a] := fun x hx => by rw [List.mem_singleton] at hx; rw [hx]; exact h
theorem isBc {a : Int} {l : List Int} (h : 0 ≤ a ∧ a ≤ 255) (hl : isBytes l) : isBytes (a :: l) := fun x hx => by
 rcases List.mem_cons.1 hx with e | e
 ·rw [e]; exact h
 ·exact hl x e
theorem bytes8_rng (c : Int) (h0 : 0 ≤ c) (h1 : c ≤ 1114111) : isBytes (bytes8 c) := by
 unfold bytes8
 intro x hx
 (repeat' split at hx) <;> simp only [List.mem_cons, List.not_mem_nil, or_false] at hx <;> omega
theorem unit16_rng (big : Bool) (u : Int) (h0 : 0 ≤ u) (h1 : u ≤ 65535) : isBytes (unit16 big u) := by
 unfold unit16
 intro x hx
 split at hx <;> simp only [List.mem_cons, List.not_mem_nil, or_false] at hx <;> omega
theorem bytes16_rng (big : Bool) (c : Int) (h0 : 0 ≤ c) (h1 : c ≤ 1114111) : isBytes (bytes16 big c) := by
 unfold bytes16
 split
 ·exact unit16_rng big c h0 (by omega)
 ·exact isBytes_append (unit16_rng big _ (by omega) (by omega)) (unit16_rng big _ (by omega) (by omega))
theorem bytes32_rng (big : Bool) (c : Int) (h0 : 0 ≤ c) (h1 : c ≤ 1114111) : isBytes (bytes32 big c) := by
 unfold bytes32
 intro x hx
 split at hx <;> simp only [List.mem_cons, List.not_mem_nil, or_false] at hx <;> omega
theorem permP_rng (x : Int) (h0 : 0 ≤ x) (h1 : x ≤ 255) : 0 ≤ permP x ∧ permP x ≤ 255 := by
 have h : ∀ n : Fin 256, 0 ≤ permP ((n.val : Nat) : Int) ∧ permP ((n.val : Nat) : Int) ≤ 255 := by decide +kernel
 have := h ⟨x.toNat, by omega⟩
 rwa [show ((x.toNat : Nat) : Int) = x by omega] at this
theorem bytesM_rng (c : Int) (h0 : 0 ≤ c) (h1 : c ≤ 1114111) : isBytes (bytesM c) := by
 unfold bytesM
 intro x hx
 (repeat' split at hx) <;> simp only [List.mem_cons, List.not_mem_nil, or_false] at hx <;> omega
theorem bytesOf_rng (s : ByteArray) : isBytes (bytesOf s) := by
 intro x hx
 unfold bytesOf at hx
 obtain ⟨b, _, rfl⟩ := List.mem_map.1 hx
 have := b.toNat_lt
 omega
theorem scal_top {c : Int} (h : isScal c = true) : c ≤ 1114111 := by unfold isScal at h; simp at h; omega
theorem hasE8 : HasE 1 E8 := ⟨⟨_, _, _, _, k8, newE1⟩, fun st c => Nat.le_trans (bytes8_len st c) (by decide), fun _ => Nat.zero_le _, fun l p hl _ => byt_of E8 (fun st c => Nat.le_trans (bytes8_len st c) (by decide)) (fun _ => Nat.zero_le _) (fun _ => Nat.zero_le _) (fun _ => True) trivial
 (fun _ x _ h0 h1 => ⟨trivial, bytes8_rng x h0 (scal_top h1)⟩) (fun _ _ => nil_bytes) (fun _ _ => nil_bytes) l p hl⟩
theorem hasE16 (c : Int) (big : Bool) (hn : NewE c 53 (E16 big) (Rep16 big)) : HasE c (E16 big) := ⟨⟨_, _, _, _, k16 big, hn⟩, fun st c => Nat.le_trans (bytes16_len big c) (by decide), fun _ => Nat.zero_le _, fun l p hl _ => byt_of (E16 big) (fun st c => Nat.le_trans (bytes16_len big c) (by decide)) (fun _ => Nat.zero_le _) (fun _ => Nat.zero_le _) (fun _ => True) trivial
 (fun _ x _ h0 h1 => ⟨trivial, bytes16_rng big x h0 (scal_top h1)⟩) (fun _ _ => nil_bytes) (fun _ _ => nil_bytes) l p hl⟩
theorem hasE32 (c : Int) (big : Bool) (hn : NewE c 55 (E32 big) (Rep32 big)) : HasE c (E32 big) := ⟨⟨_, _, _, _, k32 big, hn⟩, fun st c => Nat.le_trans (bytes32_len big st c) (by decide), fun _ => Nat.zero_le _, fun l p hl _ => byt_of (E32 big) (fun st c => Nat.le_trans (bytes32_len big st c) (by decide)) (fun _ => Nat.zero_le _) (fun _ => Nat.zero_le _) (fun _ => True) trivial
 (fun _ x _ h0 h1 => ⟨trivial, bytes32_rng big x h0 (scal_top h1)⟩) (fun _ _ => nil_bytes) (fun _ _ => nil_bytes) l p hl⟩
theorem bytesP_len (c : Int) : ((bytesM c).map permP).length ≤ 5 := by rw [List.length_map]; exact bytesM_len () c
theorem hasE6 : HasE 6 EEb := ⟨⟨_, _, _, _, kEb, newE6⟩, fun st c => bytesP_len c, fun _ => Nat.zero_le _, fun l p hl _ => byt_of EEb (fun st c => bytesP_len c) (fun _ => Nat.zero_le _) (fun _ => Nat.zero_le _) (fun _ => True) trivial
 (fun _ x _ h0 h1 => ⟨trivial, fun y hy => by
  have hy' : y ∈ (bytesM x).map permP := hy
  obtain ⟨b, hb, rfl⟩ := List.mem_map.1 hy'
  have := bytesM_rng x h0 (scal_top h1) b hb
  exact permP_rng b this.1 this.2⟩) (fun _ _ => nil_bytes) (fun _ _ => nil_bytes) l p hl⟩
theorem hasE8b : HasE 8 EBo := ⟨⟨_, _, _, _, kBo, newE8⟩, fun st c => Nat.le_trans (bytesBo_len st c) (by decide), fun _ => Nat.zero_le _, fun l p hl _ => byt_of EBo (fun st c => Nat.le_trans (bytesBo_len st c) (by decide)) (fun _ => Nat.zero_le _) (fun _ => Nat.zero_le _) (fun _ => True) trivial
 (fun st x _ h0 h1 => ⟨trivial, by
  show isBytes (putBo st x).2
  unfold putBo
  split
  ·intro y hy
   have hy' : y ∈ [x] := hy
   rw [List.mem_singleton] at hy'
   omega
  ·exact bytesOf_rng _⟩) (fun _ _ => nil_bytes) (fun _ _ => nil_bytes) l p hl⟩
theorem runE_puny : ∀ (l st : List Int) (p : Nat) (acc : List Int), (∀ x ∈ l, 0 ≤ x) → (∀ x ∈ st, 0 ≤ x ∧ x ≤ 1114111) → (runE EPn st l p acc).1 = acc ∨ ∃ ys, (∀ y ∈ ys, 0 ≤ y ∧ y ≤ 1114111) ∧ ys.length ≤ st.length + l.length ∧ (runE EPn st l p acc).1 = acc ++ textL ys
 | [], st, p, acc, _, hs => .inr ⟨st, hs, by simp, rfl⟩
 | c :: r, st, p, acc, hl, hs => by
  have e : runE EPn st (c :: r) p acc = if isScal c then runE EPn (st ++ [c]) r (p + 1) (acc ++ []) else (acc ++ [], 2, (p : Int)) := rfl
  rw [e]
  split
  ·rename_i hc
   have h0 := hl c (List.mem_cons_self ..)
   have := runE_puny r (st ++ [c]) (p + 1) (acc ++ []) (fun x hx => hl x (List.mem_cons_of_mem _ hx)) (fun x hx => by
    rcases List.mem_append.1 hx with h | h
    ·exact hs x h
    ·rw [List.mem_singleton] at h; rw [h]; exact ⟨h0, scal_top hc⟩)
   rw [List.append_nil] at this
   rw [List.append_nil]
   refine this.imp id fun ⟨ys, a, b, d⟩ => ⟨ys, a, ?_, d⟩
   rw [List.length_append, List.length_singleton] at b
   rw [List.length_cons]; omega
  ·exact .inl (List.append_nil acc)
theorem hasE7 : HasE 7 EPn := ⟨⟨_, _, _, _, kPE, newE7⟩, fun _ _ => Nat.zero_le _, fun _ => Nat.zero_le _, fun l p hl hn => by
 rcases runE_puny l [] p [] hl (fun x hx => by cases hx) with h | ⟨ys, h1, h2, h3⟩
 ·have e : (runE EPn EPn.ini l p []).1 = [] := h
  rw [e]
  exact ⟨Nat.zero_le _, nil_bytes⟩
 ·have e : (runE EPn EPn.ini l p []).1 = textL ys := h3
  rw [e]
  have hle : ys.length ≤ l.length := by simpa using h2
  have ht := (text_short ys (by omega) h1).2
  have hsz : (textP ys).size = (textL ys).length := by rw [← bytesOf_length, bytes_p ys h1]
  have hlh := low_high_len ys
  refine ⟨by omega, fun x hx => ?_⟩
  rw [← bytes_p ys h1] at hx
  exact bytesOf_rng _ x hx⟩
theorem simple_rng {st : SC} {c : Int} (h0 : 0 ≤ c) (h1 : c ≤ 1114111) : isBytes ((simpleF st c).getD []) := by
 unfold simpleF
 by_cases a : passesF c = true
 ·rw [if_pos a]
  have : c ≤ 255 := by unfold passesF at a; simp at a; omega
  exact isB1 ⟨h0, this⟩
 ·rw [if_neg a]
  by_cases b : c < 32
  ·rw [if_pos b]; exact isBc (by decide) (isB1 (by omega))
  ·rw [if_neg b]
   split
   ·rename_i hh
    have := holdsF_le hh
    exact isB1 (by omega)
   ·exact nil_bytes
theorem units_rng {c : Int} (h0 : 0 ≤ c) (h1 : c ≤ 1114111) : isBytes (unitsF c) := by
 unfold unitsF
 split
 ·exact isBc (by omega) (isBc (by omega) (isBc (by omega) (isB1 (by omega))))
 ·split
  ·exact isBc (by omega) (isBc (by omega) (isB1 (by omega)))
  ·exact isBc (by omega) (isB1 (by omega))
theorem lay_rng {st : SC} (hok : OKC st) {c x : Int} (h0 : 0 ≤ c) (h1 : c ≤ 1114111) (hx : x ≤ c ∧ c - x < 128) {ib pb : Int} (hi : 0 ≤ ib ∧ ib ≤ 240) (hp : 0 ≤ pb ∧ pb ≤ 255) (hix : c < 65536 → 0 ≤ (indexF c).getD 0 ∧ (indexF c).getD 0 ≤ 255) : isBytes (layB st c ib pb x) := by
 obtain ⟨w0, w1⟩ := hok.first
 unfold layB
 refine isBytes_append ?_ (isB1 (by omega))
 split
 ·exact isBc hp (isBc (by omega) (isB1 (by omega)))
 ·have := hix (by omega)
  exact isBc (by omega) (isB1 this)
theorem own_rng2 {c x : Int} (h0 : 0 ≤ c) (h : ownF c = some x) : (x ≤ c ∧ c - x < 128) ∧ (c < 65536 → 0 ≤ (indexF c).getD 0 ∧ (indexF c).getD 0 ≤ 255) := by
 obtain ⟨a, b, _, d⟩ := own_win h0 h
 exact ⟨⟨a, b⟩, fun hc => by obtain ⟨ix, e, _, f, g⟩ := d hc; rw [e]; exact ⟨f, g⟩⟩
theorem single_rng {st : SC} (hok : OKC st) {c : Int} (d : Int) (h0 : 0 ≤ c) (h1 : c ≤ 1114111) : isBytes (singleF st c d).2 := by
 have hs := simple_rng (st := st) h0 h1
 unfold singleF
 cases hsf : simpleF st c with
 | some b => rw [hsf] at hs; exact hs
 | none =>
  dsimp only
  cases hf : findF st.offs c with
  | some n =>
   obtain ⟨n8, hh⟩ := findN_lt st.offs c 8 n hf
   have := holdsF_le hh
   dsimp only
   split
   ·exact isBc (by omega) (isB1 (by omega))
   ·exact isBc (by omega) (isB1 (by omega))
  | none =>
   dsimp only
   split
   ·rename_i b1
    obtain ⟨n, hn⟩ := Option.isSome_iff_exists.1 b1.2
    obtain ⟨n1, n8, hh⟩ := stat_lt c 7 n (Nat.le_refl _) hn
    have hl := holdsF_le hh
    have hv : statV c = statics.getD n 0 := by unfold statV; rw [hn]
    rw [hn, hv]
    exact isBc (by rw [Option.getD_some]; omega) (isB1 (by omega))
   ·split
    ·rename_i b2
     obtain ⟨x, hx⟩ : ∃ x, ownF c = some x := b2.elim twins_own (fun h => own_high h.1)
     rw [hx]
     obtain ⟨a, b⟩ := own_rng2 h0 hx
     exact lay_rng hok h0 h1 a (by decide) (by decide) b
    ·split
     ·exact isBc (by decide) (isBc (by omega) (isB1 (by omega)))
     ·exact isBytes_append (a := [15]) (isB1 (by decide)) (units_rng h0 h1)
theorem work_rng {plain : Bool} {st : SC} (hok : OKC st) {c : Int} (d : Int) (h0 : 0 ≤ c) (h1 : c ≤ 1114111) : isBytes (workF plain st c d).2 := by
 have hok' := hok.work0
 unfold workF
 dsimp only
 split
 ·exact isBc (by decide) (isBc (by decide) (isB1 (by decide)))
 ·split
  ·split
   ·exact units_rng h0 h1
   ·have hs := simple_rng (st := { st with behind := true }) h0 h1
    cases hsf : simpleF { st with behind := true } c with
    | some b => rw [hsf] at hs; exact hs
    | none => exact isBytes_append (a := [15]) (isB1 (by decide)) (units_rng h0 h1)
  ·split
   ·exact single_rng hok' d h0 h1
   ·split
    ·have key : ∀ n : Int, 0 ≤ n → n < 8 → isBytes ([224 + n] ++ (simpleF { useF { st with behind := true } n with uni := false } c).getD []) := fun n a b =>
      isBytes_append (isB1 (by omega)) (simple_rng h0 h1)
     cases hf : findF st.offs c with
     | some n => have hn := (findN_lt st.offs c 8 n hf).1; exact key n (by omega) (by omega)
     | none => exact key _ hok.act.1 hok.act.2
    ·split
     ·rename_i hq
      obtain ⟨x, hx⟩ := twins_own hq
      rw [hx]
      obtain ⟨a, b⟩ := own_rng2 h0 hx
      exact lay_rng hok' h0 h1 a (by decide) (by decide) b
     ·exact units_rng h0 h1
theorem badC_rng {plain : Bool} {st : SC} (h : OKW st) : isBytes (badC plain st) := by
 unfold badC
 split
 ·exact nil_bytes
 ·rename_i hw
  have := h.wt.resolve_left hw
  exact work_rng h.ok NOC this.1 this.2
theorem hasE_C (c : Int) (plain : Bool) (hn : NewE c 63 (CM plain) (RepC plain)) : HasE c (CM plain) := ⟨⟨_, _, _, _, kC plain, hn⟩, put_len plain, badC_len plain, fun l p hl _ => byt_of (CM plain) (put_len plain) (badC_len plain) (badC_len plain) OKW ⟨OKC.ini, .inl rfl⟩
 (fun st x q h0 h1 => ⟨OKW.put q plain x h0 (scal_top h1), by
  show isBytes (putC plain st x).2
  unfold putC
  split
  ·exact nil_bytes
  ·rename_i hw
   have := q.wt.resolve_left hw
   exact work_rng q.ok x this.1 this.2⟩) (fun _ q => badC_rng q) (fun _ q => badC_rng q) l p hl⟩
theorem hasE (c : Int) (h0 : 1 ≤ c) (h1 : c ≤ 10) : HasE c (emOf c) := by
 have : c = 1 ∨ c = 2 ∨ c = 3 ∨ c = 4 ∨ c = 5 ∨ c = 6 ∨ c = 7 ∨ c = 8 ∨ c = 9 ∨ c = 10 := by omega
 rcases this with rfl | rfl | rfl | rfl | rfl | rfl | rfl | rfl | rfl | rfl
 ·exact hasE8
 ·exact hasE16 2 true newE2
 ·exact hasE16 3 false newE3
 ·exact hasE32 4 true newE4
 ·exact hasE32 5 false newE5
 ·exact hasE6
 ·exact hasE7
 ·exact hasE8b
 ·exact hasE_C 9 false newE9
 ·exact hasE_C 10 true newE10
theorem fin_nil {α : Type} {P : Prop} [Decidable P] {l : List α} (h : (if P then some ([] : List α) else none) = some l) : l = [] := by
 split at h
 ·injection h with h; exact h.symm
 ·cases h
theorem hasD7 : HasD 7 DP := ⟨⟨_, _, _, _, kP, newD7⟩, DP_one, fun st => List.length (α := Int) st, rfl, fun st b st' l h => by
 have h' : (if 128 ≤ b then none else some (st ++ [b], ([] : List Int))) = some (st', l) := h
 split at h'
 ·cases h'
 ·injection h' with h'
  injection h' with e1 e2
  rw [← e1, ← e2]
  show 0 + (st ++ [b]).length ≤ List.length (α := Int) st + 1
  rw [List.length_append, List.length_singleton]; omega, fun st l h => by
 have h' : (if (denR (strOf st)).2 = true then some (denR (strOf st)).1 else none) = some l := h
 split at h'
 ·injection h' with h'
  have := denR_len (strOf st)
  rw [h', strOf_size] at this
  exact this
 ·cases h'⟩
theorem hasD (c : Int) (h0 : 1 ≤ c) (h1 : c ≤ 10) : HasD c (dmOf c) := by
 have : c = 1 ∨ c = 2 ∨ c = 3 ∨ c = 4 ∨ c = 5 ∨ c = 6 ∨ c = 7 ∨ c = 8 ∨ c = 9 ∨ c = 10 := by omega
 rcases this with rfl | rfl | rfl | rfl | rfl | rfl | rfl | rfl | rfl | rfl
 ·exact ⟨⟨_, _, _, _, kV, newD1⟩, DV_one, wt_none DV_one fun _ _ h => fin_nil h⟩
 ·exact ⟨⟨_, _, _, _, kH true, newD2⟩, DH_one true, wt_none (DH_one true) fun _ _ h => fin_nil h⟩
 ·exact ⟨⟨_, _, _, _, kH false, newD3⟩, DH_one false, wt_none (DH_one false) fun _ _ h => fin_nil h⟩
 ·exact ⟨⟨_, _, _, _, kW true, newD4⟩, DW_one true, wt_none (DW_one true) fun _ _ h => fin_nil h⟩
 ·exact ⟨⟨_, _, _, _, kW false, newD5⟩, DW_one false, wt_none (DW_one false) fun _ _ h => fin_nil h⟩
 ·exact ⟨⟨_, _, _, _, kEc, newD6⟩, DEc_one, wt_none DEc_one fun _ _ h => fin_nil h⟩
 ·exact hasD7
 ·exact ⟨⟨_, _, _, _, kB, newD8⟩, DB_one, wt_none DB_one fun _ _ h => fin_nil h⟩
 ·exact ⟨⟨_, _, _, _, kX, newD9⟩, DX_one, wt_none DX_one fun _ _ h => fin_nil h⟩
 ·exact ⟨⟨_, _, _, _, kX, newD10⟩, DX_one, wt_none DX_one fun _ _ h => fin_nil h⟩
def decR (c : Int) (l : List Int) : List Int × Int × Int := if 1 ≤ c ∧ c ≤ 10 then runD (dmOf c) (dmOf c).ini l 0 [] else ([], 11, 0)
def encR (c : Int) (l : List Int) : List Int × Int × Int := if 1 ≤ c ∧ c ≤ 10 then runE (emOf c) (emOf c).ini l 0 [] else ([], 11, 0)
theorem decR_len (c : Int) (l : List Int) : (decR c l).1.length ≤ l.length := by
 unfold decR
 split
 ·rename_i h; exact (hasD c h.1 h.2).le l
 ·exact Nat.zero_le _
theorem encR_len (c : Int) (l : List Int) (hl : ∀ x ∈ l, 0 ≤ x) (hn : l.length ≤ 500) : (encR c l).1.length ≤ 9 * l.length + 9 ∧ isBytes (encR c l).1 := by
 unfold encR
 split
 ·rename_i h; exact (hasE c h.1 h.2).byt l 0 hl hn
 ·exact ⟨Nat.zero_le _, nil_bytes⟩
set_option maxRecDepth 100000 in
theorem decode_no (c : Int) (h : c < 1 ∨ 10 < c) (s : ByteArray) (w : World) : Calls Tryz.prog 9 #[.int .i64 c, .string s] w fun e w' => e = .returned (.tuple #[.slice none 0 0, .agg #[.int .i64 11, .int .i64 0]]) ∧ Below w.heap.size w w' := by
 have HN := Lib.hid (fun W => noD c h W)
 clear h
 go_enter Tryz.func9, Tryz.ntmps9
 go_wp2_with (go_at_call 7; refine (HN.out _).mono ?_; rintro e w' ⟨rfl, rfl⟩)
 refine bodyPost_ret (v := .tuple #[.slice none 0 0, .agg #[.int .i64 11, .int .i64 0]]) (by simp [results, Tryz.results9, go_sem]; try rfl) rfl ?_
 exact ⟨rfl, below_new (Below.refl _ _) _⟩
set_option maxRecDepth 100000 in
theorem encode_no (c : Int) (h : c < 1 ∨ 10 < c) (A : Option Addr) (n cp : Nat) (w : World) : Calls Tryz.prog 8 #[.int .i64 c, .slice A n cp] w fun e w' => e = .returned (.tuple #[.string ⟨#[]⟩, .agg #[.int .i64 11, .int .i64 0]]) ∧ Below w.heap.size w w' := by
 have HN := Lib.hid (fun W => noE c h W)
 clear h
 go_enter Tryz.func8, Tryz.ntmps8
 go_wp2_with (go_at_call 6; refine (HN.out _).mono ?_; rintro e w' ⟨rfl, rfl⟩)
 refine bodyPost_ret (v := .tuple #[.string ⟨#[]⟩, .agg #[.int .i64 11, .int .i64 0]]) (by simp [results, Tryz.results8, go_sem]; try rfl) rfl ?_
 exact ⟨rfl, below_new (Below.refl _ _) _⟩
theorem dec_all (c : Int) (s : ByteArray) (hs : s.size ≤ 4000) (w : World) :
  Calls Tryz.prog 9 #[.int .i64 c, .string s] w fun e w' => ∃ v, e = .returned (.tuple #[v, .agg #[.int .i64 (decR c (bytesOf s)).2.1, .int .i64 (decR c (bytesOf s)).2.2]]) ∧
   QRow w' w.heap.size 47 1 v (decR c (bytesOf s)).1.length (nums .u32 (decR c (bytesOf s)).1) ∧ Below w.heap.size w w' := by
 by_cases h : 1 ≤ c ∧ c ≤ 10
 ·have hd := hasD c h.1 h.2
  obtain ⟨tg, fF, fE, Rep, K, HN⟩ := hd.ex
  have hle := hd.le (bytesOf s)
  rw [bytesOf_length] at hle
  have := decode_c K HN hd.one s hs (by omega) w
  unfold decR
  rw [if_pos h]
  exact this
 ·unfold decR
  rw [if_neg h]
  refine (decode_no c (by omega) s w).mono ?_
  rintro e w' ⟨rfl, hb⟩
  exact ⟨_, rfl, ⟨rfl, .inl ⟨rfl, none, rfl, fun a h => by cases h⟩⟩, hb⟩
theorem enc_all (c : Int) (l : List Int) (hsc : ∀ x ∈ l, 0 ≤ x) (hl : l.length ≤ 400) (A : Option Addr) (cp : Nat) (hcp : l.length ≤ cp) (hA : A = none → cp = 0) (w : World) (hr : ReadsInt w .u32 A l.length l) :
  Calls Tryz.prog 8 #[.int .i64 c, .slice A l.length cp] w fun e w' => e = .returned (.tuple #[.string (strOf (encR c l).1), .agg #[.int .i64 (encR c l).2.1, .int .i64 (encR c l).2.2]]) ∧ Below w.heap.size w w' := by
 by_cases h : 1 ≤ c ∧ c ≤ 10
 ·have he := hasE c h.1 h.2
  obtain ⟨tg, fF, fE, Rep, K, HN⟩ := he.ex
  have := (he.byt l 0 hsc (by omega)).1
  have := encode_c K HN 5 he.put5 he.bad5 l hsc (by omega) (by omega) (by omega) A cp hcp hA w hr
  unfold encR
  rw [if_pos h]
  exact this
 ·unfold encR
  rw [if_neg h]
  exact encode_no c (by omega) A l.length cp w
theorem q_slice2 {w : World} {base : Nat} {v : Value} {xs : List Int} (h : QRow w base 47 1 v xs.length (nums .u32 xs)) : ∃ A c, v = .slice A xs.length c ∧ xs.length ≤ c ∧ (A = none → c = 0) ∧ ReadsInt w .u32 A xs.length xs := by
 rcases h.2 with ⟨h0, A, rfl, _⟩ | ⟨g, off, cap, cur, rfl, hg, hr⟩
 ·refine ⟨A, 0, ?_, by omega, fun _ => rfl, q_reads (base := base) (e := 47) (c := 0) ?_⟩
  ·rw [h0]
  ·rw [h0] at h ⊢; exact h
 ·exact ⟨_, cap, rfl, hr.2.1, fun hn => (by cases hn), q_reads (c := cap) h⟩
theorem q_empty (w : World) (B : Nat) (hB : B ≤ w.heap.size) : QRow (w.alloc (.cells #[] 47 (0, 0))) B 47 1 (.slice (some ⟨w.heap.size, 0, none⟩) 0 0) ([] : List Int).length (nums .u32 []) :=
 ⟨rfl, .inl ⟨rfl, some ⟨w.heap.size, 0, none⟩, rfl, fun a h => by injection h with h; subst h; exact ⟨hB, #[], Blk.new w 47 #[]⟩⟩⟩
theorem encode_q (c : Int) (l : List Int) (hsc : ∀ x ∈ l, 0 ≤ x) (hl : l.length ≤ 400) (v : Value) (base : Nat) (w : World) (hq : QRow w base 47 1 v l.length (nums .u32 l)) :
  Calls Tryz.prog 8 #[.int .i64 c, v] w fun e w' => e = .returned (.tuple #[.string (strOf (encR c l).1), .agg #[.int .i64 (encR c l).2.1, .int .i64 (encR c l).2.2]]) ∧ Below w.heap.size w w' := by
 obtain ⟨A, cp, rfl, h1, h2, h3⟩ := q_slice2 hq
 exact enc_all c l hsc hl A cp h1 h2 w h3
def NilM (tg : TypeId) (name : String) : Prop := ∀ (n : Nat) (g : Nat) (w : World), Sem.run Tryz.prog (nilAhead (n + 1) tg (.pointer (some ⟨g, 0, none⟩)) name) w = .ok (some false) w
theorem hasMD (c : Int) (h0 : 1 ≤ c) (h1 : c ≤ 10) : ∃ tg fF fE Rep, DecK tg fF fE (dmOf c) Rep ∧ NewD c tg (dmOf c) Rep ∧ NilM tg "Feed" := by
 have : c = 1 ∨ c = 2 ∨ c = 3 ∨ c = 4 ∨ c = 5 ∨ c = 6 ∨ c = 7 ∨ c = 8 ∨ c = 9 ∨ c = 10 := by omega
 rcases this with rfl | rfl | rfl | rfl | rfl | rfl | rfl | rfl | rfl | rfl
 ·exact ⟨_, _, _, _, kV, newD1, by intro n g w; kernel_rfl⟩
 ·exact ⟨_, _, _, _, kH true, newD2, by intro n g w; kernel_rfl⟩
 ·exact ⟨_, _, _, _, kH false, newD3, by intro n g w; kernel_rfl⟩
 ·exact ⟨_, _, _, _, kW true, newD4, by intro n g w; kernel_rfl⟩
 ·exact ⟨_, _, _, _, kW false, newD5, by intro n g w; kernel_rfl⟩
 ·exact ⟨_, _, _, _, kEc, newD6, by intro n g w; kernel_rfl⟩
 ·exact ⟨_, _, _, _, kP, newD7, by intro n g w; kernel_rfl⟩
 ·exact ⟨_, _, _, _, kB, newD8, by intro n g w; kernel_rfl⟩
 ·exact ⟨_, _, _, _, kX, newD9, by intro n g w; kernel_rfl⟩
 ·exact ⟨_, _, _, _, kX, newD10, by intro n g w; kernel_rfl⟩
theorem hasME (c : Int) (h0 : 1 ≤ c) (h1 : c ≤ 10) : ∃ tg fF fE Rep, EncK tg fF fE (emOf c) Rep ∧ NewE c tg (emOf c) Rep ∧ NilM tg "Feed" := by
 have : c = 1 ∨ c = 2 ∨ c = 3 ∨ c = 4 ∨ c = 5 ∨ c = 6 ∨ c = 7 ∨ c = 8 ∨ c = 9 ∨ c = 10 := by omega
 rcases this with rfl | rfl | rfl | rfl | rfl | rfl | rfl | rfl | rfl | rfl
 ·exact ⟨_, _, _, _, k8, newE1, by intro n g w; kernel_rfl⟩
 ·exact ⟨_, _, _, _, k16 true, newE2, by intro n g w; kernel_rfl⟩
 ·exact ⟨_, _, _, _, k16 false, newE3, by intro n g w; kernel_rfl⟩
 ·exact ⟨_, _, _, _, k32 true, newE4, by intro n g w; kernel_rfl⟩
 ·exact ⟨_, _, _, _, k32 false, newE5, by intro n g w; kernel_rfl⟩
 ·exact ⟨_, _, _, _, kEb, newE6, by intro n g w; kernel_rfl⟩
 ·exact ⟨_, _, _, _, kPE, newE7, by intro n g w; kernel_rfl⟩
 ·exact ⟨_, _, _, _, kBo, newE8, by intro n g w; kernel_rfl⟩
 ·exact ⟨_, _, _, _, kC false, newE9, by intro n g w; kernel_rfl⟩
 ·exact ⟨_, _, _, _, kC true, newE10, by intro n g w; kernel_rfl⟩
theorem mcut (ad : Addr) (n cp i : Nat) (h : i < n) (hc : n ≤ cp) : ∀ W : World, (Instr.slice 22 (.slice (some ad) n cp) (some (.int .i64 (i : Int))) (some (.int .i64 ((i : Int) + 1))) none).run Tryz.prog W = .ok (.slice (some (ad.add i)) 1 (cp - i)) W := by
 obtain ⟨i0, hi0, hzz⟩ := Option.map_eq_some_iff.1 info_u32
 simp only [Prod.mk.injEq] at hzz
 intro W
 have := cut_mid (P := Tryz.prog) 22 47 .i64 .i64 Tryz.underlying22 hi0 1 hzz.2.1 (some ad) n cp (i : Int) ((i : Int) + 1) (by omega) (by omega) (by omega) hc W
 rw [if_neg (by rw [Int.toNat_natCast]; omega), Int.toNat_natCast, show ((i : Int) + 1).toNat = i + 1 by omega, Nat.mul_one, Nat.add_sub_cancel_left] at this
 exact this
theorem mread {w : World} {ad : Addr} {x : Int} (h : w.cell? ad = some (.int .u32 x)) : ReadsInt w .u32 (some ad) [x].length [x] := by
 refine ⟨rfl, by show 1 ≤ 9223372036854775807; omega, fun _ => ⟨ad, rfl, fun k hk => ?_⟩⟩
 have hk : k < 1 := hk
 have : k = 0 := by omega
 subst this
 rw [Addr.add_zero']
 exact h
structure MAt {M : EMach} {MD : DMach} (Rep : World → Nat → (Nat → Prop) → ESt M → Prop) (RepD : World → Nat → (Nat → Prop) → DSt MD → Prop) (W0 W : World) (g : Nat) (F : Nat → Prop) (D : ESt M) (gd : Nat) (Fd : Nat → Prop) (DD : DSt MD) : Prop where
 rep : Rep W g F D
 repd : RepD W gd Fd DD
 bel : Below W0.heap.size W0 W
 low : ∀ k, F k → W0.heap.size ≤ k
 lowd : ∀ k, Fd k → W0.heap.size ≤ k
 apart : ∀ k, F k → ¬ Fd k
section
variable {tg : TypeId} {fF fE : Nat} {M : EMach} {Rep : World → Nat → (Nat → Prop) → ESt M → Prop} {td : TypeId} {gF gE : Nat} {MD : DMach} {RepD : World → Nat → (Nat → Prop) → DSt MD → Prop}
theorem MAt.below (K : EncK tg fF fE M Rep) (KD : DecK td gF gE MD RepD) {W0 W W1 : World} {g : Nat} {F : Nat → Prop} {D : ESt M} {gd : Nat} {Fd : Nat → Prop} {DD : DSt MD} (h : MAt Rep RepD W0 W g F D gd Fd DD) (hb : Below W.heap.size W W1) : MAt Rep RepD W0 W1 g F D gd Fd DD :=
 ⟨K.eff h.rep (Eff.of_below hb (fun _ => False)) (fun _ _ h => h), KD.eff h.repd (Eff.of_below hb (fun _ => False)) (fun _ _ h => h), below_then h.bel hb h.bel.size, h.low, h.lowd, h.apart⟩
theorem MAt.enc (K : EncK tg fF fE M Rep) (KD : DecK td gF gE MD RepD) {W0 W W1 : World} {g : Nat} {F F1 : Nat → Prop} {D D1 : ESt M} {gd : Nat} {Fd : Nat → Prop} {DD : DSt MD} (h : MAt Rep RepD W0 W g F D gd Fd DD) (h1 : Rep W1 g F1 D1) (he : Eff W W1 F) (hF : ∀ k, F1 k → F k ∨ W.heap.size ≤ k) : MAt Rep RepD W0 W1 g F1 D1 gd Fd DD :=
 ⟨h1, KD.eff h.repd he (fun k hk hf => h.apart k hf hk), Eff.under h.bel he h.bel.size h.low, fun k hk => (hF k hk).elim (h.low k) (fun hh => Nat.le_trans h.bel.size hh), h.lowd, fun k hk hd => (hF k hk).elim (fun hh => h.apart k hh hd) (fun hh => absurd (KD.lt h.repd k hd) (Nat.not_lt.2 hh))⟩
theorem MAt.dec (K : EncK tg fF fE M Rep) (KD : DecK td gF gE MD RepD) {W0 W W1 : World} {g : Nat} {F : Nat → Prop} {D : ESt M} {gd : Nat} {Fd Fd1 : Nat → Prop} {DD DD1 : DSt MD} (h : MAt Rep RepD W0 W g F D gd Fd DD) (h1 : RepD W1 gd Fd1 DD1) (he : Eff W W1 Fd) (hF : ∀ k, Fd1 k → Fd k ∨ W.heap.size ≤ k) : MAt Rep RepD W0 W1 g F D gd Fd1 DD1 :=
 ⟨K.eff h.rep he (fun k hk hf => h.apart k hk hf), h1, Eff.under h.bel he h.bel.size h.lowd, h.low, fun k hk => (hF k hk).elim (h.lowd k) (fun hh => Nat.le_trans h.bel.size hh), fun k hk hd => (hF k hd).elim (fun hh => h.apart k hk hh) (fun hh => absurd (K.lt h.rep k hk) (Nat.not_lt.2 hh))⟩
end
theorem feed1 {tg : TypeId} {fF fE : Nat} {M : EMach} {Rep : World → Nat → (Nat → Prop) → ESt M → Prop} (K : EncK tg fF fE M Rep) {w : World} {g : Nat} {F : Nat → Prop} {D : ESt M} (h : Rep w g F D) (ad : Addr) (c : Nat) (x : Int) (hc : w.cell? ad = some (.int .u32 x)) (hx : 0 ≤ x) (hf : ¬ F ad.block) (hp : D.pos ≤ 1000) (hk : D.kept.length ≤ 10000) :
  Calls Tryz.prog fF #[.pointer (some ⟨g, 0, none⟩), .slice (some ad) 1 c, .int .i64 1] w fun e w' => ∃ F', e = .returned (.tuple #[.int .i64 (stepE M 1 [x] D).1, .string (strOf (stepE M 1 [x] D).2.1)]) ∧ Rep w' g F' (stepE M 1 [x] D).2.2 ∧ Eff w w' F ∧ (∀ k, F' k → F k ∨ w.heap.size ≤ k) :=
 K.feed (some ad) c [x] 1 h (mread hc) (fun _ a e => by injection e with e; rw [← e]; exact hf) (fun y hy => by rw [List.mem_singleton] at hy; rw [hy]; exact hx) (by show D.pos + 1 ≤ 1000000; omega) (by omega) (by decide)
theorem feed0 {tg : TypeId} {fF fE : Nat} {M : EMach} {Rep : World → Nat → (Nat → Prop) → ESt M → Prop} (K : EncK tg fF fE M Rep) {w : World} {g : Nat} {F : Nat → Prop} {D : ESt M} (h : Rep w g F D) (hp : D.pos ≤ 1000) (hk : D.kept.length ≤ 10000) :
  Calls Tryz.prog fF #[.pointer (some ⟨g, 0, none⟩), .slice none 0 0, .int .i64 1] w fun e w' => ∃ F', e = .returned (.tuple #[.int .i64 0, .string (strOf (stepE M 1 [] D).2.1)]) ∧ Rep w' g F' (stepE M 1 [] D).2.2 ∧ Eff w w' F ∧ (∀ k, F' k → F k ∨ w.heap.size ≤ k) :=
 K.feed none 0 [] 1 h ⟨rfl, by decide, fun h => absurd h (Nat.lt_irrefl 0)⟩ (fun h => absurd rfl h) (fun y hy => by cases hy) (by show D.pos + 0 ≤ 1000000; omega) (by omega) (by decide)
structure MRow {M : EMach} {MD : DMach} (Rep : World → Nat → (Nat → Prop) → ESt M → Prop) (RepD : World → Nat → (Nat → Prop) → DSt MD → Prop) (W0 W : World) (g : Nat) (F : Nat → Prop) (D : ESt M) (gd : Nat) (Fd : Nat → Prop) (DD : DSt MD) (v : Value) (xs : List Int) : Prop where
 mat : MAt Rep RepD W0 W g F D gd Fd DD
 row : QRow W W0.heap.size 47 1 v xs.length (nums .u32 xs)
 fe : ∀ k, F k → some k ≠ v.ownBlock
 fd : ∀ k, Fd k → some k ≠ v.ownBlock
section
variable {tg : TypeId} {fF fE : Nat} {M : EMach} {Rep : World → Nat → (Nat → Prop) → ESt M → Prop} {td : TypeId} {gF gE : Nat} {MD : DMach} {RepD : World → Nat → (Nat → Prop) → DSt MD → Prop}
theorem MRow.nil {W0 W : World} {g : Nat} {F : Nat → Prop} {D : ESt M} {gd : Nat} {Fd : Nat → Prop} {DD : DSt MD} (h : MAt Rep RepD W0 W g F D gd Fd DD) : MRow Rep RepD W0 W g F D gd Fd DD (.slice none 0 0) [] :=
 ⟨h, ⟨rfl, .inl ⟨rfl, none, rfl, fun a h => by cases h⟩⟩, (fun k _ e => by cases e), (fun k _ e => by cases e)⟩
theorem MRow.below (K : EncK tg fF fE M Rep) (KD : DecK td gF gE MD RepD) {W0 W W1 : World} {g : Nat} {F : Nat → Prop} {D : ESt M} {gd : Nat} {Fd : Nat → Prop} {DD : DSt MD} {v : Value} {xs : List Int} (h : MRow Rep RepD W0 W g F D gd Fd DD v xs) (hb : Below W.heap.size W W1) : MRow Rep RepD W0 W1 g F D gd Fd DD v xs :=
 ⟨h.mat.below K KD hb, q_move h.row fun k hk => hb.block k (q_lt h.row k hk), h.fe, h.fd⟩
theorem MRow.dec (K : EncK tg fF fE M Rep) (KD : DecK td gF gE MD RepD) {W0 W W1 : World} {g : Nat} {F : Nat → Prop} {D : ESt M} {gd : Nat} {Fd Fd1 : Nat → Prop} {DD DD1 : DSt MD} {v : Value} {xs : List Int} (h : MRow Rep RepD W0 W g F D gd Fd DD v xs) (h1 : RepD W1 gd Fd1 DD1) (he : Eff W W1 Fd) (hF : ∀ k, Fd1 k → Fd k ∨ W.heap.size ≤ k) : MRow Rep RepD W0 W1 g F D gd Fd1 DD1 v xs :=
 ⟨h.mat.dec K KD h1 he hF, q_move h.row fun k hk => he.block k (q_lt h.row k hk) (fun hf => h.fd k hf hk.symm), h.fe, fun k hk e => (hF k hk).elim (fun hh => h.fd k hh e) (fun hh => absurd (q_lt h.row k e.symm) (Nat.not_lt.2 hh))⟩
theorem MRow.app (K : EncK tg fF fE M Rep) (KD : DecK td gF gE MD RepD) {W0 W W1 : World} {g : Nat} {F : Nat → Prop} {D : ESt M} {gd : Nat} {Fd : Nat → Prop} {DD : DSt MD} {v v1 : Value} {xs ys : List Int} (h : MRow Rep RepD W0 W g F D gd Fd DD v xs) (hq : QRow W1 W0.heap.size 47 1 v1 ys.length (nums .u32 ys)) (hg : W.grownBy W1 v.ownBlock) (hv : v1.ownBlock = v.ownBlock ∨ ∃ b, v1.ownBlock = some b ∧ W.heap.size ≤ b) : MRow Rep RepD W0 W1 g F D gd Fd DD v1 ys := by
 have he := Eff.of_grown hg
 refine ⟨⟨K.eff h.mat.rep he (fun k hk e => h.fe k hk e), KD.eff h.mat.repd he (fun k hk e => h.fd k hk e), Eff.under h.mat.bel he h.mat.bel.size (fun k hk => q_ge h.row k hk.symm), h.mat.low, h.mat.lowd, h.mat.apart⟩, hq, fun k hk e => ?_, fun k hk e => ?_⟩
 ·rcases hv with hh | ⟨b, hh, hb⟩
  ·exact h.fe k hk (by rw [e, hh])
  ·rw [hh] at e; injection e with e; have := K.lt h.mat.rep k hk; omega
 ·rcases hv with hh | ⟨b, hh, hb⟩
  ·exact h.fd k hk (by rw [e, hh])
  ·rw [hh] at e; injection e with e; have := KD.lt h.mat.repd k hk; omega
end
theorem bytes_one (s : ByteArray) (i : Nat) (hi : i < s.size) : bytesOf (s.extract i (i + 1)) = [(bytesOf s).getD i 0] := by
 have e : ∀ (l : List UInt8) (a b : Nat), l.extract a b = (l.drop a).take (b - a) := fun _ _ _ => rfl
 have h2 : i < s.data.toList.length := by rw [Array.length_toList]; exact hi
 unfold bytesOf
 simp only [ByteArray.data_extract, Array.toList_extract, e]
 rw [Nat.add_sub_cancel_left, List.drop_eq_getElem_cons h2]
 simp [List.getD_eq_getElem?_getD, List.getElem?_map, List.getElem?_eq_getElem h2]
theorem feedD1 {td : TypeId} {gF gE : Nat} {MD : DMach} {RepD : World → Nat → (Nat → Prop) → DSt MD → Prop} (KD : DecK td gF gE MD RepD) {w : World} {g : Nat} {F : Nat → Prop} {D : DSt MD} (h : RepD w g F D) (s : ByteArray) (hs : s.size ≤ 1) (hp : D.pos ≤ 1000) (hk : D.held.length ≤ 10000) :
  Calls Tryz.prog gF #[.pointer (some ⟨g, 0, none⟩), .string s, .int .i64 1] w fun e w' => ∃ A c F', e = .returned (.tuple #[.int .i64 (tellD MD (bytesOf s) D).1, .slice A (tellD MD (bytesOf s) D).2.1.length c]) ∧ ReadsInt w' .u32 A (tellD MD (bytesOf s) D).2.1.length (tellD MD (bytesOf s) D).2.1 ∧ RepD w' g F' (tellD MD (bytesOf s) D).2.2 ∧ Eff w w' F ∧ (∀ k, F' k → F k ∨ w.heap.size ≤ k) := by
 refine (KD.feed s 1 h (by omega) (by omega)).mono ?_
 rintro e w' ⟨v, F', rfl, ho, hr, he, hF⟩
 obtain ⟨A, c1, rfl⟩ := Go.Proofs.YtppchdinolndmaaGreatW.PrintWords.own_slice ho
 exact ⟨A, c1, F', rfl, q_reads (q_of_own ho), hr, he, hF⟩
end Go.Proofs.YtppchdinolndmaaGreat
