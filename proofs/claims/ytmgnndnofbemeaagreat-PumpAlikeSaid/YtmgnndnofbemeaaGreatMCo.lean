/- Joined texts: Co, Qn, Lq, Aq. -/
import Derived.Test.YtmgnndnofbemeaaGreatMUstp
import Derived.Deep.CutBlock
import Derived.Test.YtmgnndnofbemeaaGreatMSb
import Derived.Test.YtmgnndnofbemeaaGreatMEfg
import Derived.Test.YtmgnndnofbemeaaGreatME16
import Derived.Test.YtmgnndnofbemeaaGreatME32
import Derived.Test.YtmgnndnofbemeaaGreatMKm
import Derived.Test.YtmgnndnofbemeaaGreatMUsj
import Derived.Test.YtmgnndnofbemeaaGreatMEb
import Derived.Test.YtmgnndnofbemeaaGreatMVw
import Derived.Test.YtmgnndnofbemeaaGreatMDv
import Derived.Test.YtmgnndnofbemeaaGreatMDh
import Derived.Test.YtmgnndnofbemeaaGreatMDw
import Derived.Test.YtmgnndnofbemeaaGreatMDm
import Derived.Test.YtmgnndnofbemeaaGreatMUins
import Derived.Test.YtmgnndnofbemeaaGreatMHd
import Derived.Test.YtmgnndnofbemeaaGreatMQb
import Derived.Test.YtmgnndnofbemeaaGreatMQw
import Derived.Test.YtmgnndnofbemeaaGreatMSame
namespace Go.Proofs.YtmgnndnofbemeaaGreat
open Go.RowKit Go.Proofs.YtmgnndnofbemeaaGreatW.PrintWords
set_option linter.unusedVariables false
set_option linter.unusedSimpArgs false
def dmOf (c : Int) : DMach := if c = 1 then DV else if c = 2 then DH true else if c = 3 then DH false else if c = 4 then DW true else if c = 5 then DW false else if c = 6 then DEc else if c = 7 then DP else if c = 8 then DB else DX
def emOf (c : Int) : EMach := if c = 1 then E8 else if c = 2 then E16 true else if c = 3 then E16 false else if c = 4 then E32 true else if c = 5 then E32 false else if c = 6 then EEb else if c = 7 then EPn else if c = 8 then EBo else if c = 9 then CM false else CM true
structure HasD (c : Int) (M : DMach) : Prop where
 ex : ∃ tg fF fE Rep, DecK tg fF fE M Rep ∧ NewD c tg M Rep
 one : ∀ st b st' l, M.next st b = some (st', l) → l.length ≤ 1
 wt : ∃ μ : M.St → Nat, μ M.ini = 0 ∧ (∀ st b st' l, M.next st b = some (st', l) → l.length + μ st' ≤ μ st + 1) ∧ ∀ st l, M.fin st = some l → l.length ≤ μ st
structure HasE (c : Int) (M : EMach) : Prop where
 ex : ∃ tg fF fE Rep, EncK tg fF fE M Rep ∧ NewE c tg M Rep
 put5 : ∀ st x, (M.put st x).2.length ≤ 5
 bad5 : ∀ st, (M.bad st).length ≤ 5
 byt : ∀ (l : List Int) (p : Nat), (∀ x ∈ l, 0 ≤ x) → l.length ≤ 500 → (runE M M.ini l p []).1.length ≤ 9 * l.length + 9 ∧ isBytes (runE M M.ini l p []).1
theorem wt_none {M : DMach} (h : ∀ st b st' l, M.next st b = some (st', l) → l.length ≤ 1) (hf : ∀ st l, M.fin st = some l → l = []) : ∃ μ : M.St → Nat, μ M.ini = 0 ∧ (∀ st b st' l, M.next st b = some (st', l) → l.length + μ st' ≤ μ st + 1) ∧ ∀ st l, M.fin st = some l → l.length ≤ μ st :=
 ⟨fun _ => 0, rfl, fun st b st' l hn => h st b st' l hn, fun st l hl => by rw [hf st l hl]; exact Nat.le_refl _⟩
theorem runD_le {M : DMach} (μ : M.St → Nat) (h1 : ∀ st b st' l, M.next st b = some (st', l) → l.length + μ st' ≤ μ st + 1) (h2 : ∀ st l, M.fin st = some l → l.length ≤ μ st) : ∀ (s : List Int) (st : M.St) (p : Nat) (acc : List Int), (runD M st s p acc).1.length ≤ acc.length + μ st + s.length
 | [], st, p, acc => by
  rw [runD]
  cases hf : M.fin st with
  | none => show acc.length ≤ _; omega
  | some k => show (acc ++ k).length ≤ _; have := h2 st k hf; rw [List.length_append]; omega
 | b :: r, st, p, acc => by
  rw [runD]
  cases hn : M.next st b with
  | none => show acc.length ≤ _; omega
  | some q =>
   obtain ⟨st', k⟩ := q
   have := runD_le μ h1 h2 r st' (p + 1) (acc ++ k)
   have := h1 st b st' k hn
   show (runD M st' r (p + 1) (acc ++ k)).1.length ≤ _
   rw [List.length_append] at *
   rw [List.length_cons]
   omega
theorem HasD.le {c : Int} {M : DMach} (h : HasD c M) (s : List Int) : (runD M M.ini s 0 []).1.length ≤ s.length := by
 obtain ⟨μ, h0, h1, h2⟩ := h.wt
 have := runD_le μ h1 h2 s M.ini 0 []
 rw [h0] at this
 simpa using this
theorem runE_len (M : EMach) (z : Nat) (h1 : ∀ st x, (M.put st x).2.length ≤ z) (h2 : ∀ st, (M.bad st).length ≤ z) (h3 : ∀ st, (M.fin st).length ≤ z) : ∀ (l : List Int) (st : M.St) (p : Nat) (acc : List Int), (runE M st l p acc).1.length ≤ acc.length + z * (l.length + 1)
 | [], st, p, acc => by
  have := h3 st
  show (acc ++ M.fin st).length ≤ _
  rw [List.length_append, List.length_nil]; omega
 | c :: r, st, p, acc => by
  have e : z * ((c :: r).length + 1) = z * (r.length + 1) + z := by rw [List.length_cons, Nat.mul_add z (r.length + 1) 1]; omega
  rw [runE, e]
  split
  ·have := runE_len M z h1 h2 h3 r (M.put st c).1 (p + 1) (acc ++ (M.put st c).2)
   have := h1 st c
   rw [List.length_append] at *
   omega
  ·have := h2 st
   show (acc ++ M.bad st).length ≤ _
   rw [List.length_append]; omega
theorem isBytes_append {a b : List Int} (ha : isBytes a) (hb : isBytes b) : isBytes (a ++ b) := fun x hx => (List.mem_append.1 hx).elim (ha x) (hb x)
theorem runE_bytes (M : EMach) (Q : M.St → Prop) (h1 : ∀ st x, Q st → 0 ≤ x → isScal x = true → Q (M.put st x).1 ∧ isBytes (M.put st x).2) (h2 : ∀ st, Q st → isBytes (M.bad st)) (h3 : ∀ st, Q st → isBytes (M.fin st)) :
  ∀ (l : List Int) (st : M.St) (p : Nat) (acc : List Int), (∀ x ∈ l, 0 ≤ x) → Q st → isBytes acc → isBytes (runE M st l p acc).1
 | [], st, p, acc, _, q, ha => isBytes_append ha (h3 st q)
 | c :: r, st, p, acc, hl, q, ha => by
  rw [runE]
  split
  ·rename_i hs
   obtain ⟨q1, b1⟩ := h1 st c q (hl c (List.mem_cons_self ..)) hs
   exact runE_bytes M Q h1 h2 h3 r _ _ _ (fun x hx => hl x (List.mem_cons_of_mem _ hx)) q1 (isBytes_append ha b1)
  ·exact isBytes_append ha (h2 st q)
theorem byt_of (M : EMach) (h1 : ∀ st x, (M.put st x).2.length ≤ 5) (h2 : ∀ st, (M.bad st).length ≤ 5) (h3 : ∀ st, (M.fin st).length ≤ 5) (Q : M.St → Prop) (q0 : Q M.ini) (k1 : ∀ st x, Q st → 0 ≤ x → isScal x = true → Q (M.put st x).1 ∧ isBytes (M.put st x).2) (k2 : ∀ st, Q st → isBytes (M.bad st)) (k3 : ∀ st, Q st → isBytes (M.fin st))
  (l : List Int) (p : Nat) (hl : ∀ x ∈ l, 0 ≤ x) : (runE M M.ini l p []).1.length ≤ 9 * l.length + 9 ∧ isBytes (runE M M.ini l p []).1 := by
 refine ⟨?_, runE_bytes M Q k1 k2 k3 l M.ini p [] hl q0 (fun x hx => by cases hx)⟩
 have := runE_len M 5 h1 h2 h3 l M.ini p []
 simp only [List.length_nil] at this
 omega
theorem nil_bytes : isBytes [] := fun x hx => by cases hx
theorem isB1 {a : Int} (h : 0 ≤ a ∧ a ≤ 255) : isBytes [a] := fun x hx => by rw [List.mem_singleton] at hx; rw [hx]; exact h
theorem isBc {a : Int} {l : List Int} (h : 0 ≤ a ∧ a ≤ 255) (hl : isBytes l) : isBytes (a :: l) := fun x hx => by
 rcases List.mem_cons.1 hx with e | e
 ·rw [e]; exact h
 ·exact hl x e
theorem bytes8_rng (c : Int) (h0 : 0 ≤ c) (h1 : c ≤ 1114111) : isBytes (bytes8 c) := by
 unfold bytes8
 intro x hx
 (repeat' split at hx) <;> simp only [List.mem_cons, List.not_mem_nil, or_false] at hx <;> omega
theorem unit16_rng (big : Bool) (u : Int) (h0 : 0 ≤ u) (h1 : u ≤ 65535) : isBytes (unit16 big u) := by
 unfold unit16
 intro x hx
 split at hx <;> simp only [List.mem_cons, List.not_mem_nil, or_false] at hx <;> omega
theorem bytes16_rng (big : Bool) (c : Int) (h0 : 0 ≤ c) (h1 : c ≤ 1114111) : isBytes (bytes16 big c) := by
 unfold bytes16
 split
 ·exact unit16_rng big c h0 (by omega)
 ·exact isBytes_append (unit16_rng big _ (by omega) (by omega)) (unit16_rng big _ (by omega) (by omega))
theorem bytes32_rng (big : Bool) (c : Int) (h0 : 0 ≤ c) (h1 : c ≤ 1114111) : isBytes (bytes32 big c) := by
 unfold bytes32
 intro x hx
 split at hx <;> simp only [List.mem_cons, List.not_mem_nil, or_false] at hx <;> omega
theorem permP_rng (x : Int) (h0 : 0 ≤ x) (h1 : x ≤ 255) : 0 ≤ permP x ∧ permP x ≤ 255 := by
 have h : ∀ n : Fin 256, 0 ≤ permP ((n.val : Nat) : Int) ∧ permP ((n.val : Nat) : Int) ≤ 255 := by decide +kernel
 have := h ⟨x.toNat, by omega⟩
 rwa [show ((x.toNat : Nat) : Int) = x by omega] at this
theorem bytesM_rng (c : Int) (h0 : 0 ≤ c) (h1 : c ≤ 1114111) : isBytes (bytesM c) := by
 unfold bytesM
 intro x hx
 (repeat' split at hx) <;> simp only [List.mem_cons, List.not_mem_nil, or_false] at hx <;> omega
theorem bytesOf_rng (s : ByteArray) : isBytes (bytesOf s) := by
 intro x hx
 unfold bytesOf at hx
 obtain ⟨b, _, rfl⟩ := List.mem_map.1 hx
 have := b.toNat_lt
 omega
theorem scal_top {c : Int} (h : isScal c = true) : c ≤ 1114111 := by unfold isScal at h; simp at h; omega
theorem hasE8 : HasE 1 E8 := ⟨⟨_, _, _, _, k8, newE1⟩, fun st c => Nat.le_trans (bytes8_len st c) (by decide), fun _ => Nat.zero_le _, fun l p hl _ => byt_of E8 (fun st c => Nat.le_trans (bytes8_len st c) (by decide)) (fun _ => Nat.zero_le _) (fun _ => Nat.zero_le _) (fun _ => True) trivial
 (fun _ x _ h0 h1 => ⟨trivial, bytes8_rng x h0 (scal_top h1)⟩) (fun _ _ => nil_bytes) (fun _ _ => nil_bytes) l p hl⟩
theorem hasE16 (c : Int) (big : Bool) (hn : NewE c 88 (E16 big) (Rep16 big)) : HasE c (E16 big) := ⟨⟨_, _, _, _, k16 big, hn⟩, fun st c => Nat.le_trans (bytes16_len big c) (by decide), fun _ => Nat.zero_le _, fun l p hl _ => byt_of (E16 big) (fun st c => Nat.le_trans (bytes16_len big c) (by decide)) (fun _ => Nat.zero_le _) (fun _ => Nat.zero_le _) (fun _ => True) trivial
 (fun _ x _ h0 h1 => ⟨trivial, bytes16_rng big x h0 (scal_top h1)⟩) (fun _ _ => nil_bytes) (fun _ _ => nil_bytes) l p hl⟩
theorem hasE32 (c : Int) (big : Bool) (hn : NewE c 90 (E32 big) (Rep32 big)) : HasE c (E32 big) := ⟨⟨_, _, _, _, k32 big, hn⟩, fun st c => Nat.le_trans (bytes32_len big st c) (by decide), fun _ => Nat.zero_le _, fun l p hl _ => byt_of (E32 big) (fun st c => Nat.le_trans (bytes32_len big st c) (by decide)) (fun _ => Nat.zero_le _) (fun _ => Nat.zero_le _) (fun _ => True) trivial
 (fun _ x _ h0 h1 => ⟨trivial, bytes32_rng big x h0 (scal_top h1)⟩) (fun _ _ => nil_bytes) (fun _ _ => nil_bytes) l p hl⟩
theorem bytesP_len (c : Int) : ((bytesM c).map permP).length ≤ 5 := by rw [List.length_map]; exact bytesM_len () c
theorem hasE6 : HasE 6 EEb := ⟨⟨_, _, _, _, kEb, newE6⟩, fun st c => bytesP_len c, fun _ => Nat.zero_le _, fun l p hl _ => byt_of EEb (fun st c => bytesP_len c) (fun _ => Nat.zero_le _) (fun _ => Nat.zero_le _) (fun _ => True) trivial
 (fun _ x _ h0 h1 => ⟨trivial, fun y hy => by
  have hy' : y ∈ (bytesM x).map permP := hy
  obtain ⟨b, hb, rfl⟩ := List.mem_map.1 hy'
  have := bytesM_rng x h0 (scal_top h1) b hb
  exact permP_rng b this.1 this.2⟩) (fun _ _ => nil_bytes) (fun _ _ => nil_bytes) l p hl⟩
theorem hasE8b : HasE 8 EBo := ⟨⟨_, _, _, _, kBo, newE8⟩, fun st c => Nat.le_trans (bytesBo_len st c) (by decide), fun _ => Nat.zero_le _, fun l p hl _ => byt_of EBo (fun st c => Nat.le_trans (bytesBo_len st c) (by decide)) (fun _ => Nat.zero_le _) (fun _ => Nat.zero_le _) (fun _ => True) trivial
 (fun st x _ h0 h1 => ⟨trivial, by
  show isBytes (putBo st x).2
  unfold putBo
  split
  ·intro y hy
   have hy' : y ∈ [x] := hy
   rw [List.mem_singleton] at hy'
   omega
  ·exact bytesOf_rng _⟩) (fun _ _ => nil_bytes) (fun _ _ => nil_bytes) l p hl⟩
theorem runE_puny : ∀ (l st : List Int) (p : Nat) (acc : List Int), (∀ x ∈ l, 0 ≤ x) → (∀ x ∈ st, 0 ≤ x ∧ x ≤ 1114111) → (runE EPn st l p acc).1 = acc ∨ ∃ ys, (∀ y ∈ ys, 0 ≤ y ∧ y ≤ 1114111) ∧ ys.length ≤ st.length + l.length ∧ (runE EPn st l p acc).1 = acc ++ textL ys
 | [], st, p, acc, _, hs => .inr ⟨st, hs, by simp, rfl⟩
 | c :: r, st, p, acc, hl, hs => by
  have e : runE EPn st (c :: r) p acc = if isScal c then runE EPn (st ++ [c]) r (p + 1) (acc ++ []) else (acc ++ [], 2, (p : Int)) := rfl
  rw [e]
  split
  ·rename_i hc
   have h0 := hl c (List.mem_cons_self ..)
   have := runE_puny r (st ++ [c]) (p + 1) (acc ++ []) (fun x hx => hl x (List.mem_cons_of_mem _ hx)) (fun x hx => by
    rcases List.mem_append.1 hx with h | h
    ·exact hs x h
    ·rw [List.mem_singleton] at h; rw [h]; exact ⟨h0, scal_top hc⟩)
   rw [List.append_nil] at this
   rw [List.append_nil]
   refine this.imp id fun ⟨ys, a, b, d⟩ => ⟨ys, a, ?_, d⟩
   rw [List.length_append, List.length_singleton] at b
   rw [List.length_cons]; omega
  ·exact .inl (List.append_nil acc)
theorem hasE7 : HasE 7 EPn := ⟨⟨_, _, _, _, kPE, newE7⟩, fun _ _ => Nat.zero_le _, fun _ => Nat.zero_le _, fun l p hl hn => by
 rcases runE_puny l [] p [] hl (fun x hx => by cases hx) with h | ⟨ys, h1, h2, h3⟩
 ·have e : (runE EPn EPn.ini l p []).1 = [] := h
  rw [e]
  exact ⟨Nat.zero_le _, nil_bytes⟩
 ·have e : (runE EPn EPn.ini l p []).1 = textL ys := h3
  rw [e]
  have hle : ys.length ≤ l.length := by simpa using h2
  have ht := (text_short ys (by omega) h1).2
  have hsz : (textP ys).size = (textL ys).length := by rw [← bytesOf_length, bytes_p ys h1]
  have hlh := low_high_len ys
  refine ⟨by omega, fun x hx => ?_⟩
  rw [← bytes_p ys h1] at hx
  exact bytesOf_rng _ x hx⟩
theorem simple_rng {st : SC} {c : Int} (h0 : 0 ≤ c) (h1 : c ≤ 1114111) : isBytes ((simpleF st c).getD []) := by
 unfold simpleF
 by_cases a : passesF c = true
 ·rw [if_pos a]
  have : c ≤ 255 := by unfold passesF at a; simp at a; omega
  exact isB1 ⟨h0, this⟩
 ·rw [if_neg a]
  by_cases b : c < 32
  ·rw [if_pos b]; exact isBc (by decide) (isB1 (by omega))
  ·rw [if_neg b]
   split
   ·rename_i hh
    have := holdsF_le hh
    exact isB1 (by omega)
   ·exact nil_bytes
theorem units_rng {c : Int} (h0 : 0 ≤ c) (h1 : c ≤ 1114111) : isBytes (unitsF c) := by
 unfold unitsF
 split
 ·exact isBc (by omega) (isBc (by omega) (isBc (by omega) (isB1 (by omega))))
 ·split
  ·exact isBc (by omega) (isBc (by omega) (isB1 (by omega)))
  ·exact isBc (by omega) (isB1 (by omega))
theorem lay_rng {st : SC} (hok : OKC st) {c x : Int} (h0 : 0 ≤ c) (h1 : c ≤ 1114111) (hx : x ≤ c ∧ c - x < 128) {ib pb : Int} (hi : 0 ≤ ib ∧ ib ≤ 240) (hp : 0 ≤ pb ∧ pb ≤ 255) (hix : c < 65536 → 0 ≤ (indexF c).getD 0 ∧ (indexF c).getD 0 ≤ 255) : isBytes (layB st c ib pb x) := by
 obtain ⟨w0, w1⟩ := hok.first
 unfold layB
 refine isBytes_append ?_ (isB1 (by omega))
 split
 ·exact isBc hp (isBc (by omega) (isB1 (by omega)))
 ·have := hix (by omega)
  exact isBc (by omega) (isB1 this)
theorem own_rng2 {c x : Int} (h0 : 0 ≤ c) (h : ownF c = some x) : (x ≤ c ∧ c - x < 128) ∧ (c < 65536 → 0 ≤ (indexF c).getD 0 ∧ (indexF c).getD 0 ≤ 255) := by
 obtain ⟨a, b, _, d⟩ := own_win h0 h
 exact ⟨⟨a, b⟩, fun hc => by obtain ⟨ix, e, _, f, g⟩ := d hc; rw [e]; exact ⟨f, g⟩⟩
theorem single_rng {st : SC} (hok : OKC st) {c : Int} (d : Int) (h0 : 0 ≤ c) (h1 : c ≤ 1114111) : isBytes (singleF st c d).2 := by
 have hs := simple_rng (st := st) h0 h1
 unfold singleF
 cases hsf : simpleF st c with
 | some b => rw [hsf] at hs; exact hs
 | none =>
  dsimp only
  cases hf : findF st.offs c with
  | some n =>
   obtain ⟨n8, hh⟩ := findN_lt st.offs c 8 n hf
   have := holdsF_le hh
   dsimp only
   split
   ·exact isBc (by omega) (isB1 (by omega))
   ·exact isBc (by omega) (isB1 (by omega))
  | none =>
   dsimp only
   split
   ·rename_i b1
    obtain ⟨n, hn⟩ := Option.isSome_iff_exists.1 b1.2
    obtain ⟨n1, n8, hh⟩ := stat_lt c 7 n (Nat.le_refl _) hn
    have hl := holdsF_le hh
    have hv : statV c = statics.getD n 0 := by unfold statV; rw [hn]
    rw [hn, hv]
    exact isBc (by rw [Option.getD_some]; omega) (isB1 (by omega))
   ·split
    ·rename_i b2
     obtain ⟨x, hx⟩ : ∃ x, ownF c = some x := b2.elim twins_own (fun h => own_high h.1)
     rw [hx]
     obtain ⟨a, b⟩ := own_rng2 h0 hx
     exact lay_rng hok h0 h1 a (by decide) (by decide) b
    ·split
     ·exact isBc (by decide) (isBc (by omega) (isB1 (by omega)))
     ·exact isBytes_append (a := [15]) (isB1 (by decide)) (units_rng h0 h1)
theorem work_rng {plain : Bool} {st : SC} (hok : OKC st) {c : Int} (d : Int) (h0 : 0 ≤ c) (h1 : c ≤ 1114111) : isBytes (workF plain st c d).2 := by
 have hok' := hok.work0
 unfold workF
 dsimp only
 split
 ·exact isBc (by decide) (isBc (by decide) (isB1 (by decide)))
 ·split
  ·split
   ·exact units_rng h0 h1
   ·have hs := simple_rng (st := { st with behind := true }) h0 h1
    cases hsf : simpleF { st with behind := true } c with
    | some b => rw [hsf] at hs; exact hs
    | none => exact isBytes_append (a := [15]) (isB1 (by decide)) (units_rng h0 h1)
  ·split
   ·exact single_rng hok' d h0 h1
   ·split
    ·have key : ∀ n : Int, 0 ≤ n → n < 8 → isBytes ([224 + n] ++ (simpleF { useF { st with behind := true } n with uni := false } c).getD []) := fun n a b =>
      isBytes_append (isB1 (by omega)) (simple_rng h0 h1)
     cases hf : findF st.offs c with
     | some n => have hn := (findN_lt st.offs c 8 n hf).1; exact key n (by omega) (by omega)
     | none => exact key _ hok.act.1 hok.act.2
    ·split
     ·rename_i hq
      obtain ⟨x, hx⟩ := twins_own hq
      rw [hx]
      obtain ⟨a, b⟩ := own_rng2 h0 hx
      exact lay_rng hok' h0 h1 a (by decide) (by decide) b
     ·exact units_rng h0 h1
theorem badC_rng {plain : Bool} {st : SC} (h : OKW st) : isBytes (badC plain st) := by
 unfold badC
 split
 ·exact nil_bytes
 ·rename_i hw
  have := h.wt.resolve_left hw
  exact work_rng h.ok NOC this.1 this.2
theorem hasE_C (c : Int) (plain : Bool) (hn : NewE c 98 (CM plain) (RepC plain)) : HasE c (CM plain) := ⟨⟨_, _, _, _, kC plain, hn⟩, put_len plain, badC_len plain, fun l p hl _ => byt_of (CM plain) (put_len plain) (badC_len plain) (badC_len plain) OKW ⟨OKC.ini, .inl rfl⟩
 (fun st x q h0 h1 => ⟨OKW.put q plain x h0 (scal_top h1), by
  show isBytes (putC plain st x).2
  unfold putC
  split
  ·exact nil_bytes
  ·rename_i hw
   have := q.wt.resolve_left hw
   exact work_rng q.ok x this.1 this.2⟩) (fun _ q => badC_rng q) (fun _ q => badC_rng q) l p hl⟩
theorem hasE (c : Int) (h0 : 1 ≤ c) (h1 : c ≤ 10) : HasE c (emOf c) := by
 have : c = 1 ∨ c = 2 ∨ c = 3 ∨ c = 4 ∨ c = 5 ∨ c = 6 ∨ c = 7 ∨ c = 8 ∨ c = 9 ∨ c = 10 := by omega
 rcases this with rfl | rfl | rfl | rfl | rfl | rfl | rfl | rfl | rfl | rfl
 ·exact hasE8
 ·exact hasE16 2 true newE2
 ·exact hasE16 3 false newE3
 ·exact hasE32 4 true newE4
 ·exact hasE32 5 false newE5
 ·exact hasE6
 ·exact hasE7
 ·exact hasE8b
 ·exact hasE_C 9 false newE9
 ·exact hasE_C 10 true newE10
theorem fin_nil {α : Type} {P : Prop} [Decidable P] {l : List α} (h : (if P then some ([] : List α) else none) = some l) : l = [] := by
 split at h
 ·injection h with h; exact h.symm
 ·cases h
theorem hasD7 : HasD 7 DP := ⟨⟨_, _, _, _, kP, newD7⟩, DP_one, fun st => List.length (α := Int) st, rfl, fun st b st' l h => by
 have h' : (if 128 ≤ b then none else some (st ++ [b], ([] : List Int))) = some (st', l) := h
 split at h'
 ·cases h'
 ·injection h' with h'
  injection h' with e1 e2
  rw [← e1, ← e2]
  show 0 + (st ++ [b]).length ≤ List.length (α := Int) st + 1
  rw [List.length_append, List.length_singleton]; omega, fun st l h => by
 have h' : (if (denR (strOf st)).2 = true then some (denR (strOf st)).1 else none) = some l := h
 split at h'
 ·injection h' with h'
  have := denR_len (strOf st)
  rw [h', strOf_size] at this
  exact this
 ·cases h'⟩
theorem hasD (c : Int) (h0 : 1 ≤ c) (h1 : c ≤ 10) : HasD c (dmOf c) := by
 have : c = 1 ∨ c = 2 ∨ c = 3 ∨ c = 4 ∨ c = 5 ∨ c = 6 ∨ c = 7 ∨ c = 8 ∨ c = 9 ∨ c = 10 := by omega
 rcases this with rfl | rfl | rfl | rfl | rfl | rfl | rfl | rfl | rfl | rfl
 ·exact ⟨⟨_, _, _, _, kV, newD1⟩, DV_one, wt_none DV_one fun _ _ h => fin_nil h⟩
 ·exact ⟨⟨_, _, _, _, kH true, newD2⟩, DH_one true, wt_none (DH_one true) fun _ _ h => fin_nil h⟩
 ·exact ⟨⟨_, _, _, _, kH false, newD3⟩, DH_one false, wt_none (DH_one false) fun _ _ h => fin_nil h⟩
 ·exact ⟨⟨_, _, _, _, kW true, newD4⟩, DW_one true, wt_none (DW_one true) fun _ _ h => fin_nil h⟩
 ·exact ⟨⟨_, _, _, _, kW false, newD5⟩, DW_one false, wt_none (DW_one false) fun _ _ h => fin_nil h⟩
 ·exact ⟨⟨_, _, _, _, kEc, newD6⟩, DEc_one, wt_none DEc_one fun _ _ h => fin_nil h⟩
 ·exact hasD7
 ·exact ⟨⟨_, _, _, _, kB, newD8⟩, DB_one, wt_none DB_one fun _ _ h => fin_nil h⟩
 ·exact ⟨⟨_, _, _, _, kX, newD9⟩, DX_one, wt_none DX_one fun _ _ h => fin_nil h⟩
 ·exact ⟨⟨_, _, _, _, kX, newD10⟩, DX_one, wt_none DX_one fun _ _ h => fin_nil h⟩
def decR (c : Int) (l : List Int) : List Int × Int × Int := if 1 ≤ c ∧ c ≤ 10 then runD (dmOf c) (dmOf c).ini l 0 [] else ([], 11, 0)
def encR (c : Int) (l : List Int) : List Int × Int × Int := if 1 ≤ c ∧ c ≤ 10 then runE (emOf c) (emOf c).ini l 0 [] else ([], 11, 0)
theorem decR_len (c : Int) (l : List Int) : (decR c l).1.length ≤ l.length := by
 unfold decR
 split
 ·rename_i h; exact (hasD c h.1 h.2).le l
 ·exact Nat.zero_le _
theorem encR_len (c : Int) (l : List Int) (hl : ∀ x ∈ l, 0 ≤ x) (hn : l.length ≤ 500) : (encR c l).1.length ≤ 9 * l.length + 9 ∧ isBytes (encR c l).1 := by
 unfold encR
 split
 ·rename_i h; exact (hasE c h.1 h.2).byt l 0 hl hn
 ·exact ⟨Nat.zero_le _, nil_bytes⟩
theorem hasQD (c : Int) (h0 : 1 ≤ c) (h1 : c ≤ 10) : ∃ tg fF fE Rep, DecK tg fF fE (dmOf c) Rep ∧ NewD c tg (dmOf c) Rep ∧ NilA tg "Feed" := by
 have : c = 1 ∨ c = 2 ∨ c = 3 ∨ c = 4 ∨ c = 5 ∨ c = 6 ∨ c = 7 ∨ c = 8 ∨ c = 9 ∨ c = 10 := by omega
 rcases this with rfl | rfl | rfl | rfl | rfl | rfl | rfl | rfl | rfl | rfl
 ·exact ⟨_, _, _, _, kV, newD1, by intro n g w; kernel_rfl⟩
 ·exact ⟨_, _, _, _, kH true, newD2, by intro n g w; kernel_rfl⟩
 ·exact ⟨_, _, _, _, kH false, newD3, by intro n g w; kernel_rfl⟩
 ·exact ⟨_, _, _, _, kW true, newD4, by intro n g w; kernel_rfl⟩
 ·exact ⟨_, _, _, _, kW false, newD5, by intro n g w; kernel_rfl⟩
 ·exact ⟨_, _, _, _, kEc, newD6, by intro n g w; kernel_rfl⟩
 ·exact ⟨_, _, _, _, kP, newD7, by intro n g w; kernel_rfl⟩
 ·exact ⟨_, _, _, _, kB, newD8, by intro n g w; kernel_rfl⟩
 ·exact ⟨_, _, _, _, kX, newD9, by intro n g w; kernel_rfl⟩
 ·exact ⟨_, _, _, _, kX, newD10, by intro n g w; kernel_rfl⟩
theorem hasQE (c : Int) (h0 : 1 ≤ c) (h1 : c ≤ 10) : ∃ tg fF fE Rep, EncK tg fF fE (emOf c) Rep ∧ NewE c tg (emOf c) Rep ∧ NilA tg "Feed" := by
 have : c = 1 ∨ c = 2 ∨ c = 3 ∨ c = 4 ∨ c = 5 ∨ c = 6 ∨ c = 7 ∨ c = 8 ∨ c = 9 ∨ c = 10 := by omega
 rcases this with rfl | rfl | rfl | rfl | rfl | rfl | rfl | rfl | rfl | rfl
 ·exact ⟨_, _, _, _, k8, newE1, by intro n g w; kernel_rfl⟩
 ·exact ⟨_, _, _, _, k16 true, newE2, by intro n g w; kernel_rfl⟩
 ·exact ⟨_, _, _, _, k16 false, newE3, by intro n g w; kernel_rfl⟩
 ·exact ⟨_, _, _, _, k32 true, newE4, by intro n g w; kernel_rfl⟩
 ·exact ⟨_, _, _, _, k32 false, newE5, by intro n g w; kernel_rfl⟩
 ·exact ⟨_, _, _, _, kEb, newE6, by intro n g w; kernel_rfl⟩
 ·exact ⟨_, _, _, _, kPE, newE7, by intro n g w; kernel_rfl⟩
 ·exact ⟨_, _, _, _, kBo, newE8, by intro n g w; kernel_rfl⟩
 ·exact ⟨_, _, _, _, kC false, newE9, by intro n g w; kernel_rfl⟩
 ·exact ⟨_, _, _, _, kC true, newE10, by intro n g w; kernel_rfl⟩
def stepsD (c : Int) (l p r : List Int) : Nat := if 1 ≤ c ∧ c ≤ 10 then pumpD (dmOf c) p r (max p.length r.length + l.length + (decR c l).1.length + 1) 0 (DSt.new (dmOf c)) l else 0
set_option maxRecDepth 100000 in
theorem pread_no (c : Int) (h : c < 1 ∨ 10 < c) (s : ByteArray) (x y : Value) (w : World) : Calls Tryz.prog 22 #[.int .i64 c, .string s, .agg #[x, y]] w fun e w' => e = .returned (.tuple #[.slice none 0 0, .agg #[.int .i64 11, .int .i64 0], .int .i64 0]) ∧ Below w.heap.size w w' := by
 have HN := Lib.hid (fun W => noD c h W)
 clear h
 go_enter Tryz.func22, Tryz.ntmps22
 go_upto_region 1 with fail
 go_step3
 go_wp2_with (go_at_call 17; refine (HN.out _).mono ?_; rintro e w' ⟨rfl, rfl⟩)
 try simp only [Exit.inBlock, Exit.then, Exit.noGoto]
 refine bodyPost_ret (v := .tuple #[.slice none 0 0, .agg #[.int .i64 11, .int .i64 0], .int .i64 0]) (by simp [results, Tryz.results22, go_sem]; try rfl) rfl ?_
 exact ⟨rfl, below_new (below_new (Below.refl _ _) _) _⟩
set_option maxRecDepth 100000 in
theorem pwrite_no (c : Int) (h : c < 1 ∨ 10 < c) (A : Option Addr) (n cp : Nat) (x y : Value) (w : World) : Calls Tryz.prog 21 #[.int .i64 c, .slice A n cp, .agg #[x, y]] w fun e w' => e = .returned (.tuple #[.string ⟨#[]⟩, .agg #[.int .i64 11, .int .i64 0], .int .i64 0]) ∧ Below w.heap.size w w' := by
 have HN := Lib.hid (fun W => noE c h W)
 clear h
 go_enter Tryz.func21, Tryz.ntmps21
 go_upto_region 1 with fail
 go_step3
 go_wp2_with (go_at_call 16; refine (HN.out _).mono ?_; rintro e w' ⟨rfl, rfl⟩)
 try simp only [Exit.inBlock, Exit.then, Exit.noGoto]
 refine bodyPost_ret (v := .tuple #[.string ⟨#[]⟩, .agg #[.int .i64 11, .int .i64 0], .int .i64 0]) (by simp [results, Tryz.results21, go_sem]; try rfl) rfl ?_
 exact ⟨rfl, below_new (below_new (Below.refl _ _) _) _⟩
theorem pread_all (c : Int) (s : ByteArray) (hs : s.size ≤ 4000) (A1 A2 : Option Addr) (c1 c2 : Nat) (p r : List Int) (w : World) (h1 : ReadsInt w .i64 A1 p.length p) (h2 : ReadsInt w .i64 A2 r.length r) (hp : p.length ≤ 1000) (hr : r.length ≤ 1000) :
  Calls Tryz.prog 22 #[.int .i64 c, .string s, .agg #[.slice A1 p.length c1, .slice A2 r.length c2]] w fun e w' => ∃ v, e = .returned (.tuple #[v, .agg #[.int .i64 (decR c (bytesOf s)).2.1, .int .i64 (decR c (bytesOf s)).2.2], .int .i64 (stepsD c (bytesOf s) p r : Nat)]) ∧
   stepsD c (bytesOf s) p r ≤ max p.length r.length + s.size + (decR c (bytesOf s)).1.length + 1 ∧ QRow w' w.heap.size 48 1 v (decR c (bytesOf s)).1.length (nums .u32 (decR c (bytesOf s)).1) ∧ Below w.heap.size w w' := by
 by_cases h : 1 ≤ c ∧ c ≤ 10
 ·obtain ⟨tg, fF, fE, Rep, K, HN, HNA⟩ := hasQD c h.1 h.2
  have hle := decR_len c (bytesOf s)
  rw [bytesOf_length] at hle
  have he : decR c (bytesOf s) = runD (dmOf c) (dmOf c).ini (bytesOf s) 0 [] := by unfold decR; rw [if_pos h]
  have := pread_c K HN HNA s hs (by rw [← he]; omega) A1 A2 c1 c2 p r w h1 h2 hp hr
  rw [← he] at this
  refine this.mono ?_
  rintro e w' ⟨v, n, rfl, hn, hb, hq, hw⟩
  have hns : stepsD c (bytesOf s) p r = n := by unfold stepsD; rw [if_pos h, hn, bytesOf_length]
  rw [hns]
  exact ⟨v, rfl, hb, hq, hw⟩
 ·have hz : stepsD c (bytesOf s) p r = 0 := by unfold stepsD; rw [if_neg h]
  rw [hz]
  unfold decR
  rw [if_neg h]
  refine (pread_no c (by omega) s _ _ w).mono ?_
  rintro e w' ⟨rfl, hb⟩
  exact ⟨_, rfl, Nat.zero_le _, ⟨rfl, .inl ⟨rfl, none, rfl, fun a h => by cases h⟩⟩, hb⟩
theorem pwrite_all (c : Int) (l : List Int) (hsc : ∀ x ∈ l, 0 ≤ x) (hl : l.length ≤ 400) (A : Option Addr) (cp : Nat) (hcp : l.length ≤ cp) (A1 A2 : Option Addr) (c1 c2 : Nat) (p r : List Int) (w : World) (h0 : ReadsInt w .u32 A l.length l) (h1 : ReadsInt w .i64 A1 p.length p) (h2 : ReadsInt w .i64 A2 r.length r) (hp : p.length ≤ 1000) (hr : r.length ≤ 1000) (hrr : ∀ x ∈ r, x ≤ 9223372036854775807) :
  Calls Tryz.prog 21 #[.int .i64 c, .slice A l.length cp, .agg #[.slice A1 p.length c1, .slice A2 r.length c2]] w fun e w' => ∃ n, e = .returned (.tuple #[.string (strOf (encR c l).1), .agg #[.int .i64 (encR c l).2.1, .int .i64 (encR c l).2.2], .int .i64 (n : Nat)]) ∧
   n ≤ max p.length r.length + l.length + (encR c l).1.length + 1 ∧ Below w.heap.size w w' := by
 by_cases h : 1 ≤ c ∧ c ≤ 10
 ·obtain ⟨tg, fF, fE, Rep, K, HN, HNA⟩ := hasQE c h.1 h.2
  have hln := (encR_len c l hsc (by omega)).1
  have he : encR c l = runE (emOf c) (emOf c).ini l 0 [] := by unfold encR; rw [if_pos h]
  have := pwrite_c K HN HNA l (by omega) hsc (by rw [← he]; omega) A cp hcp A1 A2 c1 c2 p r w h0 h1 h2 hp hr hrr
  rw [← he] at this
  exact this
 ·unfold encR
  rw [if_neg h]
  refine (pwrite_no c (by omega) A _ cp _ _ w).mono ?_
  rintro e w' ⟨rfl, hb⟩
  exact ⟨0, rfl, Nat.zero_le _, hb⟩
theorem q_slice2 {w : World} {base : Nat} {v : Value} {xs : List Int} (h : QRow w base 48 1 v xs.length (nums .u32 xs)) : ∃ A c, v = .slice A xs.length c ∧ xs.length ≤ c ∧ (A = none → c = 0) ∧ ReadsInt w .u32 A xs.length xs := by
 rcases h.2 with ⟨h0, A, rfl, _⟩ | ⟨g, off, cap, cur, rfl, hg, hr⟩
 ·refine ⟨A, 0, ?_, by omega, fun _ => rfl, q_reads (base := base) (e := 48) (c := 0) ?_⟩
  ·rw [h0]
  ·rw [h0] at h ⊢; exact h
 ·exact ⟨_, cap, rfl, hr.2.1, fun hn => (by cases hn), q_reads (c := cap) h⟩
theorem reads_new (w : World) (T : TypeId) (k : IntKind) (l : List Int) (hl : l.length ≤ 9223372036854775807) : ReadsInt (w.alloc (.cells (nums k l).toArray T (0, 0))) k (some ⟨w.heap.size, 0, none⟩) l.length l := by
 refine ⟨rfl, hl, fun _ => ⟨_, rfl, fun j hj => ?_⟩⟩
 rw [Addr.add_lit, Nat.zero_add]
 refine (Blk.new w T _).cell ?_
 simp [nums, List.getElem?_eq_getElem hj, List.getD_eq_getElem?_getD]
theorem reads_none (w : World) (k : IntKind) : ReadsInt w k none ([] : List Int).length [] := ⟨rfl, by decide, fun h => absurd h (Nat.lt_irrefl 0)⟩
theorem aw19_dec : decR 1 (bytesOf ⟨#[226, 130, 172]⟩) = ([8364], 0, 0) := by kernel_rfl
theorem aw19_n : stepsD 1 (bytesOf ⟨#[226, 130, 172]⟩) [1, 1, 1] [] = 3 := by kernel_rfl
theorem aw19_enc : encR 2 [8364, 55296] = ([32, 172], 2, 1) := by kernel_rfl
theorem aw19_str : strOf [32, 172] = ⟨#[32, 172]⟩ := by kernel_rfl
theorem aw19_read (w : World) : Calls Tryz.prog 22 #[.int .i64 1, .string ⟨#[226, 130, 172]⟩, .agg #[.slice (some ⟨w.heap.size, 0, none⟩) 3 3, .slice none 0 0]] (w.alloc (.cells #[.int .i64 1, .int .i64 1, .int .i64 1] 3 (0, 0))) fun e w' =>
  ∃ A c, e = .returned (.tuple #[.slice A 1 c, .agg #[.int .i64 0, .int .i64 0], .int .i64 3]) ∧ 1 ≤ c ∧ ReadsInt w' .u32 A 1 [8364] ∧ Below w.heap.size w w' := by
 have h := pread_all 1 ⟨#[226, 130, 172]⟩ (by decide) (some ⟨w.heap.size, 0, none⟩) none 3 0 [1, 1, 1] [] (w.alloc (.cells (nums .i64 [1, 1, 1]).toArray 3 (0, 0))) (reads_new w _ _ _ (by decide)) (reads_none _ _) (by decide) (by decide)
 rw [aw19_dec, aw19_n] at h
 refine h.mono ?_
 rintro e w' ⟨v, rfl, _, hq, hb⟩
 obtain ⟨A, c, rfl, hc, _, hr⟩ := q_slice2 hq
 exact ⟨A, c, rfl, hc, hr, below_next (below_new (Below.refl _ _) _) hb⟩
theorem aw19_write (w : World) : Calls Tryz.prog 21 #[.int .i64 2, .slice (some ⟨w.heap.size, 0, none⟩) 2 2, .agg #[.slice none 0 0, .slice (some ⟨w.heap.size + 1, 0, none⟩) 2 2]] ((w.alloc (.cells #[.int .u32 8364, .int .u32 55296] 48 (0, 0))).alloc (.cells #[.int .i64 1, .int .i64 0] 3 (0, 0))) fun e w' =>
  ∃ n : Nat, e = .returned (.tuple #[.string ⟨#[32, 172]⟩, .agg #[.int .i64 2, .int .i64 1], .int .i64 n]) ∧ Below w.heap.size w w' := by
 have hr2 := reads_new (w.alloc (.cells #[.int .u32 8364, .int .u32 55296] 48 (0, 0))) 3 .i64 [1, 0] (by decide)
 rw [World.size_alloc] at hr2
 have h := pwrite_all 2 [8364, 55296] (by decide) (by decide) (some ⟨w.heap.size, 0, none⟩) 2 (by decide) none (some ⟨w.heap.size + 1, 0, none⟩) 0 2 [] [1, 0] ((w.alloc (.cells (nums .u32 [8364, 55296]).toArray 48 (0, 0))).alloc (.cells (nums .i64 [1, 0]).toArray 3 (0, 0)))
  ((reads_new w _ _ _ (by decide)).below (below_new (Below.refl _ _) _)) (reads_none _ _) hr2 (by decide) (by decide) (by decide)
 rw [aw19_enc, aw19_str] at h
 refine h.mono ?_
 rintro e w' ⟨n, rfl, _, hb⟩
 exact ⟨n, rfl, below_next (below_new (below_new (Below.refl _ _) _) _) hb⟩
theorem reads_8364 (w : World) : ReadsInt (w.alloc (.cells #[.int .u32 8364] 48 (0, 0))) .u32 (some ⟨w.heap.size, 0, none⟩) 1 [8364] := reads_new w _ _ [8364] (by decide)
set_option maxRecDepth 100000 in
set_option maxHeartbeats 4000000 in
theorem awake19_c (w : World) : Calls Tryz.prog 19 #[] w fun e w' => e = .returned (.bool true) ∧ Below w.heap.size w w' := by
 go_enter Tryz.func19, Tryz.ntmps19
 go_wp2_with fail
 refine (aw19_read w).mono ?_
 rintro e w1 ⟨A1, c1, rfl, hc1, hr1, hb1⟩
 have HB1 := Lib.hid hb1
 have HR1 := Lib.hid hr1
 clear hb1 hr1
 go_upto_region 2 with fail
 have hk1 := Blk.new w1 27 #[.int .i64 0, .int .i64 0]
 have hd1 : Below w1.heap.size w1 (w1.alloc (.cells #[.int .i64 0, .int .i64 0] 27 (0, 0))) := below_new (Below.refl _ _) _
 obtain ⟨W1, hW1⟩ : ∃ W, w1.alloc (.cells #[.int .i64 0, .int .i64 0] 27 (0, 0)) = W := ⟨_, rfl⟩
 rw [hW1] at hk1 hd1 ⊢
 have HW1 := Lib.hid (below_next HB1.out hd1)
 have HS1 := Lib.hid (HR1.out.below hd1)
 obtain ⟨f1, hf1⟩ : ∃ f, w1.heap.size = f := ⟨_, rfl⟩
 rw [hf1] at hk1 ⊢
 have HK1 := Lib.hid hk1
 clear hk1 hd1 hf1 hW1 HB1 HR1
 go_wp2_with fail
 refine (aw19_write W1).mono ?_
 rintro e w2 ⟨n2, rfl, hb2⟩
 have HB2 := Lib.hid (below_next HW1.out hb2)
 have HK12 := Lib.hid (HK1.out.below hb2)
 have HS2 := Lib.hid (HS1.out.below hb2)
 clear hb2
 go_upto_region 3 with fail
 have hk2 := Blk.new w2 27 #[.int .i64 2, .int .i64 1]
 have hd2 : Below w2.heap.size w2 (w2.alloc (.cells #[.int .i64 2, .int .i64 1] 27 (0, 0))) := below_new (Below.refl _ _) _
 obtain ⟨W2, hW2⟩ : ∃ W, w2.alloc (.cells #[.int .i64 2, .int .i64 1] 27 (0, 0)) = W := ⟨_, rfl⟩
 rw [hW2] at hk2 hd2 ⊢
 have HW2 := Lib.hid (below_next HB2.out hd2)
 have HK13 := Lib.hid (HK12.out.below hd2)
 have HS3 := Lib.hid (HS2.out.below hd2)
 obtain ⟨f2, hf2⟩ : ∃ f, w2.heap.size = f := ⟨_, rfl⟩
 rw [hf2] at hk2 ⊢
 have HK2 := Lib.hid hk2
 clear hk2 hd2 hf2 hW2 HK12 HS2 HS1 HK1 HB2
 go_wp2_with fail
 refine (pread_no 11 (by decide) _ _ _ _).mono ?_
 rintro e w3 ⟨rfl, hb3⟩
 have HB3 := Lib.hid (below_next HW2.out hb3)
 have HK14 := Lib.hid (HK13.out.below hb3)
 have HK24 := Lib.hid (HK2.out.below hb3)
 have HS4 := Lib.hid (HS3.out.below hb3)
 clear hb3
 go_upto_region 4 with fail
 have hk3 := Blk.new w3 27 #[.int .i64 11, .int .i64 0]
 have hd3 : Below w3.heap.size w3 (w3.alloc (.cells #[.int .i64 11, .int .i64 0] 27 (0, 0))) := below_new (Below.refl _ _) _
 obtain ⟨W3, hW3⟩ : ∃ W, w3.alloc (.cells #[.int .i64 11, .int .i64 0] 27 (0, 0)) = W := ⟨_, rfl⟩
 rw [hW3] at hk3 hd3 ⊢
 have HW3 := Lib.hid (below_next HB3.out hd3)
 have HK15 := Lib.hid (HK14.out.below hd3)
 have HK25 := Lib.hid (HK24.out.below hd3)
 have HS5 := Lib.hid (HS4.out.below hd3)
 obtain ⟨f3, hf3⟩ : ∃ f, w3.heap.size = f := ⟨_, rfl⟩
 rw [hf3] at hk3 ⊢
 have HK3 := Lib.hid hk3
 clear hk3 hd3 hf3 hW3 HK13 HS3 HK14 HS4 HK24 HK2 HB3
 have q0 := fun W => eql_fail 0 0 W
 have q2 := fun W => eql_fail 2 1 W
 have q11 := fun W => eql_fail 11 0 W
 go_wp2_with fail
 have hsame := same_c [8364] (by decide) A1 (some ⟨W3.heap.size, 0, none⟩) c1 1 (W3.alloc (.cells #[.int .u32 8364] 48 (0, 0))) (HS5.out.below (below_new (Below.refl _ _) _)) (reads_8364 W3) hc1 (by decide)
 refine hsame.mono ?_
 rintro e w5 ⟨rfl, hb5⟩
 have hd5 := below_next (below_new (Below.refl _ _) _) hb5
 have HB5 := Lib.hid (below_next HW3.out hd5)
 have k1 := HK15.out.below hd5
 have k2 := HK25.out.below hd5
 have k3 := HK3.out.below hd5
 have b10 := k1.cell (i := 0) rfl
 have b11 := k1.cell (i := 1) rfl
 have b20 := k2.cell (i := 0) rfl
 have b21 := k2.cell (i := 1) rfl
 have b30 := k3.cell (i := 0) rfl
 have b31 := k3.cell (i := 1) rfl
 clear hsame hb5 hd5 k1 k2 k3
 go_wp2_with fail
 go_ret
 exact ⟨rfl, HB5.out⟩
set_option maxRecDepth 100000 in
theorem great_c (n : Int) (A1 A2 : Option Addr) (n1 n2 c1 c2 : Nat) (w : World) : Calls Tryz.prog 20 #[.int .i64 n, .agg #[.slice A1 n1 c1, .slice A2 n2 c2]] w fun e w' => e = .returned (.bool (decide (n > 300 ∨ 200 < n1 ∨ 200 < n2))) ∧ Below w.heap.size w w' := by
 have HB := Lib.hid (below_new (Below.refl w.heap.size w) (.cells #[.slice A1 n1 c1, .slice A2 n2 c2] 52 (0, 0)))
 obtain ⟨b, hb⟩ : ∃ b, decide (n > 300 ∨ 200 < n1 ∨ 200 < n2) = b := ⟨_, rfl⟩
 rw [hb]
 by_cases g1 : n > 300
 ·have HR : Hid (b = true) := Lib.hid (by rw [← hb]; exact decide_eq_true (.inl g1))
  clear hb
  go_enter Tryz.func20, Tryz.ntmps20
  go_wp2_with fail
  go_ret
  rw [HR.out]
  exact ⟨rfl, HB.out⟩
 by_cases g2 : (n1 : Int) > 200
 ·have HR : Hid (b = true) := Lib.hid (by rw [← hb]; exact decide_eq_true (.inr (.inl (by omega))))
  clear hb
  go_enter Tryz.func20, Tryz.ntmps20
  go_wp2_with fail
  go_ret
  rw [HR.out]
  exact ⟨rfl, HB.out⟩
 by_cases g3 : (n2 : Int) > 200
 ·have HR : Hid (b = true) := Lib.hid (by rw [← hb]; exact decide_eq_true (.inr (.inr (by omega))))
  clear hb
  go_enter Tryz.func20, Tryz.ntmps20
  go_wp2_with fail
  go_ret
  rw [HR.out]
  exact ⟨rfl, HB.out⟩
 ·have HR : Hid (b = false) := Lib.hid (by rw [← hb]; exact decide_eq_false (by omega))
  clear hb
  go_enter Tryz.func20, Tryz.ntmps20
  go_wp2_with fail
  go_ret
  rw [HR.out]
  exact ⟨rfl, HB.out⟩
end Go.Proofs.YtmgnndnofbemeaaGreat
