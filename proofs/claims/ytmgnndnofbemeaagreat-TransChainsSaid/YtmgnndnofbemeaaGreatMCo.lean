/- Joined texts: Co, Lq, Sd, Tt, Ba. -/
import Derived.Test.YtmgnndnofbemeaaGreatMUstp
import Derived.Test.YtmgnndnofbemeaaGreatMSb
import Derived.Test.YtmgnndnofbemeaaGreatMEfg
import Derived.Test.YtmgnndnofbemeaaGreatME16
import Derived.Test.YtmgnndnofbemeaaGreatME32
import Derived.Test.YtmgnndnofbemeaaGreatMKm
import Derived.Test.YtmgnndnofbemeaaGreatMUsj
import Derived.Test.YtmgnndnofbemeaaGreatMEb
import Derived.Test.YtmgnndnofbemeaaGreatMVw
import Derived.Test.YtmgnndnofbemeaaGreatMDv
import Derived.Test.YtmgnndnofbemeaaGreatMDh
import Derived.Test.YtmgnndnofbemeaaGreatMDw
import Derived.Test.YtmgnndnofbemeaaGreatMDm
import Derived.Test.YtmgnndnofbemeaaGreatMUins
import Derived.Test.YtmgnndnofbemeaaGreatMHd
import Derived.Test.YtmgnndnofbemeaaGreatMHe
import Derived.Test.YtmgnndnofbemeaaGreatMBase
import Derived.RegionTactic
import Derived.Test.YtmgnndnofbemeaaGreatMHp
namespace Go.Proofs.YtmgnndnofbemeaaGreat
open Go.RowKit Go.Proofs.YtmgnndnofbemeaaGreatW.PrintWords
set_option linter.unusedVariables false
set_option linter.unusedSimpArgs false
def dmOf (c : Int) : DMach := if c = 1 then DV else if c = 2 then DH true else if c = 3 then DH false else if c = 4 then DW true else if c = 5 then DW false else if c = 6 then DEc else if c = 7 then DP else if c = 8 then DB else DX
def emOf (c : Int) : EMach := if c = 1 then E8 else if c = 2 then E16 true else if c = 3 then E16 false else if c = 4 then E32 true else if c = 5 then E32 false else if c = 6 then EEb else if c = 7 then EPn else if c = 8 then EBo else if c = 9 then CM false else CM true
structure HasD (c : Int) (M : DMach) : Prop where
 ex : ∃ tg fF fE Rep, DecK tg fF fE M Rep ∧ NewD c tg M Rep
 one : ∀ st b st' l, M.next st b = some (st', l) → l.length ≤ 1
 wt : ∃ μ : M.St → Nat, μ M.ini = 0 ∧ (∀ st b st' l, M.next st b = some (st', l) → l.length + μ st' ≤ μ st + 1) ∧ ∀ st l, M.fin st = some l → l.length ≤ μ st
structure HasE (c : Int) (M : EMach) : Prop where
 ex : ∃ tg fF fE Rep, EncK tg fF fE M Rep ∧ NewE c tg M Rep
 put5 : ∀ st x, (M.put st x).2.length ≤ 5
 bad5 : ∀ st, (M.bad st).length ≤ 5
 byt : ∀ (l : List Int) (p : Nat), (∀ x ∈ l, 0 ≤ x) → l.length ≤ 500 → (runE M M.ini l p []).1.length ≤ 9 * l.length + 9 ∧ isBytes (runE M M.ini l p []).1
theorem wt_none {M : DMach} (h : ∀ st b st' l, M.next st b = some (st', l) → l.length ≤ 1) (hf : ∀ st l, M.fin st = some l → l = []) : ∃ μ : M.St → Nat, μ M.ini = 0 ∧ (∀ st b st' l, M.next st b = some (st', l) → l.length + μ st' ≤ μ st + 1) ∧ ∀ st l, M.fin st = some l → l.length ≤ μ st :=
 ⟨fun _ => 0, rfl, fun st b st' l hn => h st b st' l hn, fun st l hl => by rw [hf st l hl]; exact Nat.le_refl _⟩
theorem runD_le {M : DMach} (μ : M.St → Nat) (h1 : ∀ st b st' l, M.next st b = some (st', l) → l.length + μ st' ≤ μ st + 1) (h2 : ∀ st l, M.fin st = some l → l.length ≤ μ st) : ∀ (s : List Int) (st : M.St) (p : Nat) (acc : List Int), (runD M st s p acc).1.length ≤ acc.length + μ st + s.length
 | [], st, p, acc => by
  rw [runD]
  cases hf : M.fin st with
  | none => show acc.length ≤ _; omega
  | some k => show (acc ++ k).length ≤ _; have := h2 st k hf; rw [List.length_append]; omega
 | b :: r, st, p, acc => by
  rw [runD]
  cases hn : M.next st b with
  | none => show acc.length ≤ _; omega
  | some q =>
   obtain ⟨st', k⟩ := q
   have := runD_le μ h1 h2 r st' (p + 1) (acc ++ k)
   have := h1 st b st' k hn
   show (runD M st' r (p + 1) (acc ++ k)).1.length ≤ _
   rw [List.length_append] at *
   rw [List.length_cons]
   omega
theorem HasD.le {c : Int} {M : DMach} (h : HasD c M) (s : List Int) : (runD M M.ini s 0 []).1.length ≤ s.length := by
 obtain ⟨μ, h0, h1, h2⟩ := h.wt
 have := runD_le μ h1 h2 s M.ini 0 []
 rw [h0] at this
 simpa using this
theorem runE_len (M : EMach) (z : Nat) (h1 : ∀ st x, (M.put st x).2.length ≤ z) (h2 : ∀ st, (M.bad st).length ≤ z) (h3 : ∀ st, (M.fin st).length ≤ z) : ∀ (l : List Int) (st : M.St) (p : Nat) (acc : List Int), (runE M st l p acc).1.length ≤ acc.length + z * (l.length + 1)
 | [], st, p, acc => by
  have := h3 st
  show (acc ++ M.fin st).length ≤ _
  rw [List.length_append, List.length_nil]; omega
 | c :: r, st, p, acc => by
  have e : z * ((c :: r).length + 1) = z * (r.length + 1) + z := by rw [List.length_cons, Nat.mul_add z (r.length + 1) 1]; omega
  rw [runE, e]
  split
  ·have := runE_len M z h1 h2 h3 r (M.put st c).1 (p + 1) (acc ++ (M.put st c).2)
   have := h1 st c
   rw [List.length_append] at *
   omega
  ·have := h2 st
   show (acc ++ M.bad st).length ≤ _
   rw [List.length_append]; omega
theorem isBytes_append {a b : List Int} (ha : isBytes a) (hb : isBytes b) : isBytes (a ++ b) := fun x hx => (List.mem_append.1 hx).elim (ha x) (hb x)
theorem runE_bytes (M : EMach) (Q : M.St → Prop) (h1 : ∀ st x, Q st → 0 ≤ x → isScal x = true → Q (M.put st x).1 ∧ isBytes (M.put st x).2) (h2 : ∀ st, Q st → isBytes (M.bad st)) (h3 : ∀ st, Q st → isBytes (M.fin st)) :
  ∀ (l : List Int) (st : M.St) (p : Nat) (acc : List Int), (∀ x ∈ l, 0 ≤ x) → Q st → isBytes acc → isBytes (runE M st l p acc).1
 | [], st, p, acc, _, q, ha => isBytes_append ha (h3 st q)
 | c :: r, st, p, acc, hl, q, ha => by
  rw [runE]
  split
  ·rename_i hs
   obtain ⟨q1, b1⟩ := h1 st c q (hl c (List.mem_cons_self ..)) hs
   exact runE_bytes M Q h1 h2 h3 r _ _ _ (fun x hx => hl x (List.mem_cons_of_mem _ hx)) q1 (isBytes_append ha b1)
  ·exact isBytes_append ha (h2 st q)
theorem byt_of (M : EMach) (h1 : ∀ st x, (M.put st x).2.length ≤ 5) (h2 : ∀ st, (M.bad st).length ≤ 5) (h3 : ∀ st, (M.fin st).length ≤ 5) (Q : M.St → Prop) (q0 : Q M.ini) (k1 : ∀ st x, Q st → 0 ≤ x → isScal x = true → Q (M.put st x).1 ∧ isBytes (M.put st x).2) (k2 : ∀ st, Q st → isBytes (M.bad st)) (k3 : ∀ st, Q st → isBytes (M.fin st))
  (l : List Int) (p : Nat) (hl : ∀ x ∈ l, 0 ≤ x) : (runE M M.ini l p []).1.length ≤ 9 * l.length + 9 ∧ isBytes (runE M M.ini l p []).1 := by
 refine ⟨?_, runE_bytes M Q k1 k2 k3 l M.ini p [] hl q0 (fun x hx => by cases hx)⟩
 have := runE_len M 5 h1 h2 h3 l M.ini p []
 simp only [List.length_nil] at this
 omega
theorem nil_bytes : isBytes [] := fun x hx => by cases hx
theorem isB1 {a : Int} (h : 0 ≤ a ∧ a ≤ 255) : isBytes [a] := fun x hx => by rw [List.mem_singleton] at hx; rw [hx]; exact h
theorem isBc {a : Int} {l : List Int} (h : 0 ≤ a ∧ a ≤ 255) (hl : isBytes l) : isBytes (a :: l) := fun x hx => by
 rcases List.mem_cons.1 hx with e | e
 ·rw [e]; exact h
 ·exact hl x e
theorem bytes8_rng (c : Int) (h0 : 0 ≤ c) (h1 : c ≤ 1114111) : isBytes (bytes8 c) := by
 unfold bytes8
 intro x hx
 (repeat' split at hx) <;> simp only [List.mem_cons, List.not_mem_nil, or_false] at hx <;> omega
theorem unit16_rng (big : Bool) (u : Int) (h0 : 0 ≤ u) (h1 : u ≤ 65535) : isBytes (unit16 big u) := by
 unfold unit16
 intro x hx
 split at hx <;> simp only [List.mem_cons, List.not_mem_nil, or_false] at hx <;> omega
theorem bytes16_rng (big : Bool) (c : Int) (h0 : 0 ≤ c) (h1 : c ≤ 1114111) : isBytes (bytes16 big c) := by
 unfold bytes16
 split
 ·exact unit16_rng big c h0 (by omega)
 ·exact isBytes_append (unit16_rng big _ (by omega) (by omega)) (unit16_rng big _ (by omega) (by omega))
theorem bytes32_rng (big : Bool) (c : Int) (h0 : 0 ≤ c) (h1 : c ≤ 1114111) : isBytes (bytes32 big c) := by
 unfold bytes32
 intro x hx
 split at hx <;> simp only [List.mem_cons, List.not_mem_nil, or_false] at hx <;> omega
theorem permP_rng (x : Int) (h0 : 0 ≤ x) (h1 : x ≤ 255) : 0 ≤ permP x ∧ permP x ≤ 255 := by
 have h : ∀ n : Fin 256, 0 ≤ permP ((n.val : Nat) : Int) ∧ permP ((n.val : Nat) : Int) ≤ 255 := by decide +kernel
 have := h ⟨x.toNat, by omega⟩
 rwa [show ((x.toNat : Nat) : Int) = x by omega] at this
theorem bytesM_rng (c : Int) (h0 : 0 ≤ c) (h1 : c ≤ 1114111) : isBytes (bytesM c) := by
 unfold bytesM
 intro x hx
 (repeat' split at hx) <;> simp only [List.mem_cons, List.not_mem_nil, or_false] at hx <;> omega
theorem bytesOf_rng (s : ByteArray) : isBytes (bytesOf s) := by
 intro x hx
 unfold bytesOf at hx
 obtain ⟨b, _, rfl⟩ := List.mem_map.1 hx
 have := b.toNat_lt
 omega
theorem scal_top {c : Int} (h : isScal c = true) : c ≤ 1114111 := by unfold isScal at h; simp at h; omega
theorem hasE8 : HasE 1 E8 := ⟨⟨_, _, _, _, k8, newE1⟩, fun st c => Nat.le_trans (bytes8_len st c) (by decide), fun _ => Nat.zero_le _, fun l p hl _ => byt_of E8 (fun st c => Nat.le_trans (bytes8_len st c) (by decide)) (fun _ => Nat.zero_le _) (fun _ => Nat.zero_le _) (fun _ => True) trivial
 (fun _ x _ h0 h1 => ⟨trivial, bytes8_rng x h0 (scal_top h1)⟩) (fun _ _ => nil_bytes) (fun _ _ => nil_bytes) l p hl⟩
theorem hasE16 (c : Int) (big : Bool) (hn : NewE c 88 (E16 big) (Rep16 big)) : HasE c (E16 big) := ⟨⟨_, _, _, _, k16 big, hn⟩, fun st c => Nat.le_trans (bytes16_len big c) (by decide), fun _ => Nat.zero_le _, fun l p hl _ => byt_of (E16 big) (fun st c => Nat.le_trans (bytes16_len big c) (by decide)) (fun _ => Nat.zero_le _) (fun _ => Nat.zero_le _) (fun _ => True) trivial
 (fun _ x _ h0 h1 => ⟨trivial, bytes16_rng big x h0 (scal_top h1)⟩) (fun _ _ => nil_bytes) (fun _ _ => nil_bytes) l p hl⟩
theorem hasE32 (c : Int) (big : Bool) (hn : NewE c 90 (E32 big) (Rep32 big)) : HasE c (E32 big) := ⟨⟨_, _, _, _, k32 big, hn⟩, fun st c => Nat.le_trans (bytes32_len big st c) (by decide), fun _ => Nat.zero_le _, fun l p hl _ => byt_of (E32 big) (fun st c => Nat.le_trans (bytes32_len big st c) (by decide)) (fun _ => Nat.zero_le _) (fun _ => Nat.zero_le _) (fun _ => True) trivial
 (fun _ x _ h0 h1 => ⟨trivial, bytes32_rng big x h0 (scal_top h1)⟩) (fun _ _ => nil_bytes) (fun _ _ => nil_bytes) l p hl⟩
theorem bytesP_len (c : Int) : ((bytesM c).map permP).length ≤ 5 := by rw [List.length_map]; exact bytesM_len () c
theorem hasE6 : HasE 6 EEb := ⟨⟨_, _, _, _, kEb, newE6⟩, fun st c => bytesP_len c, fun _ => Nat.zero_le _, fun l p hl _ => byt_of EEb (fun st c => bytesP_len c) (fun _ => Nat.zero_le _) (fun _ => Nat.zero_le _) (fun _ => True) trivial
 (fun _ x _ h0 h1 => ⟨trivial, fun y hy => by
  have hy' : y ∈ (bytesM x).map permP := hy
  obtain ⟨b, hb, rfl⟩ := List.mem_map.1 hy'
  have := bytesM_rng x h0 (scal_top h1) b hb
  exact permP_rng b this.1 this.2⟩) (fun _ _ => nil_bytes) (fun _ _ => nil_bytes) l p hl⟩
theorem hasE8b : HasE 8 EBo := ⟨⟨_, _, _, _, kBo, newE8⟩, fun st c => Nat.le_trans (bytesBo_len st c) (by decide), fun _ => Nat.zero_le _, fun l p hl _ => byt_of EBo (fun st c => Nat.le_trans (bytesBo_len st c) (by decide)) (fun _ => Nat.zero_le _) (fun _ => Nat.zero_le _) (fun _ => True) trivial
 (fun st x _ h0 h1 => ⟨trivial, by
  show isBytes (putBo st x).2
  unfold putBo
  split
  ·intro y hy
   have hy' : y ∈ [x] := hy
   rw [List.mem_singleton] at hy'
   omega
  ·exact bytesOf_rng _⟩) (fun _ _ => nil_bytes) (fun _ _ => nil_bytes) l p hl⟩
theorem runE_puny : ∀ (l st : List Int) (p : Nat) (acc : List Int), (∀ x ∈ l, 0 ≤ x) → (∀ x ∈ st, 0 ≤ x ∧ x ≤ 1114111) → (runE EPn st l p acc).1 = acc ∨ ∃ ys, (∀ y ∈ ys, 0 ≤ y ∧ y ≤ 1114111) ∧ ys.length ≤ st.length + l.length ∧ (runE EPn st l p acc).1 = acc ++ textL ys
 | [], st, p, acc, _, hs => .inr ⟨st, hs, by simp, rfl⟩
 | c :: r, st, p, acc, hl, hs => by
  have e : runE EPn st (c :: r) p acc = if isScal c then runE EPn (st ++ [c]) r (p + 1) (acc ++ []) else (acc ++ [], 2, (p : Int)) := rfl
  rw [e]
  split
  ·rename_i hc
   have h0 := hl c (List.mem_cons_self ..)
   have := runE_puny r (st ++ [c]) (p + 1) (acc ++ []) (fun x hx => hl x (List.mem_cons_of_mem _ hx)) (fun x hx => by
    rcases List.mem_append.1 hx with h | h
    ·exact hs x h
    ·rw [List.mem_singleton] at h; rw [h]; exact ⟨h0, scal_top hc⟩)
   rw [List.append_nil] at this
   rw [List.append_nil]
   refine this.imp id fun ⟨ys, a, b, d⟩ => ⟨ys, a, ?_, d⟩
   rw [List.length_append, List.length_singleton] at b
   rw [List.length_cons]; omega
  ·exact .inl (List.append_nil acc)
theorem hasE7 : HasE 7 EPn := ⟨⟨_, _, _, _, kPE, newE7⟩, fun _ _ => Nat.zero_le _, fun _ => Nat.zero_le _, fun l p hl hn => by
 rcases runE_puny l [] p [] hl (fun x hx => by cases hx) with h | ⟨ys, h1, h2, h3⟩
 ·have e : (runE EPn EPn.ini l p []).1 = [] := h
  rw [e]
  exact ⟨Nat.zero_le _, nil_bytes⟩
 ·have e : (runE EPn EPn.ini l p []).1 = textL ys := h3
  rw [e]
  have hle : ys.length ≤ l.length := by simpa using h2
  have ht := (text_short ys (by omega) h1).2
  have hsz : (textP ys).size = (textL ys).length := by rw [← bytesOf_length, bytes_p ys h1]
  have hlh := low_high_len ys
  refine ⟨by omega, fun x hx => ?_⟩
  rw [← bytes_p ys h1] at hx
  exact bytesOf_rng _ x hx⟩
theorem simple_rng {st : SC} {c : Int} (h0 : 0 ≤ c) (h1 : c ≤ 1114111) : isBytes ((simpleF st c).getD []) := by
 unfold simpleF
 by_cases a : passesF c = true
 ·rw [if_pos a]
  have : c ≤ 255 := by unfold passesF at a; simp at a; omega
  exact isB1 ⟨h0, this⟩
 ·rw [if_neg a]
  by_cases b : c < 32
  ·rw [if_pos b]; exact isBc (by decide) (isB1 (by omega))
  ·rw [if_neg b]
   split
   ·rename_i hh
    have := holdsF_le hh
    exact isB1 (by omega)
   ·exact nil_bytes
theorem units_rng {c : Int} (h0 : 0 ≤ c) (h1 : c ≤ 1114111) : isBytes (unitsF c) := by
 unfold unitsF
 split
 ·exact isBc (by omega) (isBc (by omega) (isBc (by omega) (isB1 (by omega))))
 ·split
  ·exact isBc (by omega) (isBc (by omega) (isB1 (by omega)))
  ·exact isBc (by omega) (isB1 (by omega))
theorem lay_rng {st : SC} (hok : OKC st) {c x : Int} (h0 : 0 ≤ c) (h1 : c ≤ 1114111) (hx : x ≤ c ∧ c - x < 128) {ib pb : Int} (hi : 0 ≤ ib ∧ ib ≤ 240) (hp : 0 ≤ pb ∧ pb ≤ 255) (hix : c < 65536 → 0 ≤ (indexF c).getD 0 ∧ (indexF c).getD 0 ≤ 255) : isBytes (layB st c ib pb x) := by
 obtain ⟨w0, w1⟩ := hok.first
 unfold layB
 refine isBytes_append ?_ (isB1 (by omega))
 split
 ·exact isBc hp (isBc (by omega) (isB1 (by omega)))
 ·have := hix (by omega)
  exact isBc (by omega) (isB1 this)
theorem own_rng2 {c x : Int} (h0 : 0 ≤ c) (h : ownF c = some x) : (x ≤ c ∧ c - x < 128) ∧ (c < 65536 → 0 ≤ (indexF c).getD 0 ∧ (indexF c).getD 0 ≤ 255) := by
 obtain ⟨a, b, _, d⟩ := own_win h0 h
 exact ⟨⟨a, b⟩, fun hc => by obtain ⟨ix, e, _, f, g⟩ := d hc; rw [e]; exact ⟨f, g⟩⟩
theorem single_rng {st : SC} (hok : OKC st) {c : Int} (d : Int) (h0 : 0 ≤ c) (h1 : c ≤ 1114111) : isBytes (singleF st c d).2 := by
 have hs := simple_rng (st := st) h0 h1
 unfold singleF
 cases hsf : simpleF st c with
 | some b => rw [hsf] at hs; exact hs
 | none =>
  dsimp only
  cases hf : findF st.offs c with
  | some n =>
   obtain ⟨n8, hh⟩ := findN_lt st.offs c 8 n hf
   have := holdsF_le hh
   dsimp only
   split
   ·exact isBc (by omega) (isB1 (by omega))
   ·exact isBc (by omega) (isB1 (by omega))
  | none =>
   dsimp only
   split
   ·rename_i b1
    obtain ⟨n, hn⟩ := Option.isSome_iff_exists.1 b1.2
    obtain ⟨n1, n8, hh⟩ := stat_lt c 7 n (Nat.le_refl _) hn
    have hl := holdsF_le hh
    have hv : statV c = statics.getD n 0 := by unfold statV; rw [hn]
    rw [hn, hv]
    exact isBc (by rw [Option.getD_some]; omega) (isB1 (by omega))
   ·split
    ·rename_i b2
     obtain ⟨x, hx⟩ : ∃ x, ownF c = some x := b2.elim twins_own (fun h => own_high h.1)
     rw [hx]
     obtain ⟨a, b⟩ := own_rng2 h0 hx
     exact lay_rng hok h0 h1 a (by decide) (by decide) b
    ·split
     ·exact isBc (by decide) (isBc (by omega) (isB1 (by omega)))
     ·exact isBytes_append (a := [15]) (isB1 (by decide)) (units_rng h0 h1)
theorem work_rng {plain : Bool} {st : SC} (hok : OKC st) {c : Int} (d : Int) (h0 : 0 ≤ c) (h1 : c ≤ 1114111) : isBytes (workF plain st c d).2 := by
 have hok' := hok.work0
 unfold workF
 dsimp only
 split
 ·exact isBc (by decide) (isBc (by decide) (isB1 (by decide)))
 ·split
  ·split
   ·exact units_rng h0 h1
   ·have hs := simple_rng (st := { st with behind := true }) h0 h1
    cases hsf : simpleF { st with behind := true } c with
    | some b => rw [hsf] at hs; exact hs
    | none => exact isBytes_append (a := [15]) (isB1 (by decide)) (units_rng h0 h1)
  ·split
   ·exact single_rng hok' d h0 h1
   ·split
    ·have key : ∀ n : Int, 0 ≤ n → n < 8 → isBytes ([224 + n] ++ (simpleF { useF { st with behind := true } n with uni := false } c).getD []) := fun n a b =>
      isBytes_append (isB1 (by omega)) (simple_rng h0 h1)
     cases hf : findF st.offs c with
     | some n => have hn := (findN_lt st.offs c 8 n hf).1; exact key n (by omega) (by omega)
     | none => exact key _ hok.act.1 hok.act.2
    ·split
     ·rename_i hq
      obtain ⟨x, hx⟩ := twins_own hq
      rw [hx]
      obtain ⟨a, b⟩ := own_rng2 h0 hx
      exact lay_rng hok' h0 h1 a (by decide) (by decide) b
     ·exact units_rng h0 h1
theorem badC_rng {plain : Bool} {st : SC} (h : OKW st) : isBytes (badC plain st) := by
 unfold badC
 split
 ·exact nil_bytes
 ·rename_i hw
  have := h.wt.resolve_left hw
  exact work_rng h.ok NOC this.1 this.2
theorem hasE_C (c : Int) (plain : Bool) (hn : NewE c 98 (CM plain) (RepC plain)) : HasE c (CM plain) := ⟨⟨_, _, _, _, kC plain, hn⟩, put_len plain, badC_len plain, fun l p hl _ => byt_of (CM plain) (put_len plain) (badC_len plain) (badC_len plain) OKW ⟨OKC.ini, .inl rfl⟩
 (fun st x q h0 h1 => ⟨OKW.put q plain x h0 (scal_top h1), by
  show isBytes (putC plain st x).2
  unfold putC
  split
  ·exact nil_bytes
  ·rename_i hw
   have := q.wt.resolve_left hw
   exact work_rng q.ok x this.1 this.2⟩) (fun _ q => badC_rng q) (fun _ q => badC_rng q) l p hl⟩
theorem hasE (c : Int) (h0 : 1 ≤ c) (h1 : c ≤ 10) : HasE c (emOf c) := by
 have : c = 1 ∨ c = 2 ∨ c = 3 ∨ c = 4 ∨ c = 5 ∨ c = 6 ∨ c = 7 ∨ c = 8 ∨ c = 9 ∨ c = 10 := by omega
 rcases this with rfl | rfl | rfl | rfl | rfl | rfl | rfl | rfl | rfl | rfl
 ·exact hasE8
 ·exact hasE16 2 true newE2
 ·exact hasE16 3 false newE3
 ·exact hasE32 4 true newE4
 ·exact hasE32 5 false newE5
 ·exact hasE6
 ·exact hasE7
 ·exact hasE8b
 ·exact hasE_C 9 false newE9
 ·exact hasE_C 10 true newE10
theorem fin_nil {α : Type} {P : Prop} [Decidable P] {l : List α} (h : (if P then some ([] : List α) else none) = some l) : l = [] := by
 split at h
 ·injection h with h; exact h.symm
 ·cases h
theorem hasD7 : HasD 7 DP := ⟨⟨_, _, _, _, kP, newD7⟩, DP_one, fun st => List.length (α := Int) st, rfl, fun st b st' l h => by
 have h' : (if 128 ≤ b then none else some (st ++ [b], ([] : List Int))) = some (st', l) := h
 split at h'
 ·cases h'
 ·injection h' with h'
  injection h' with e1 e2
  rw [← e1, ← e2]
  show 0 + (st ++ [b]).length ≤ List.length (α := Int) st + 1
  rw [List.length_append, List.length_singleton]; omega, fun st l h => by
 have h' : (if (denR (strOf st)).2 = true then some (denR (strOf st)).1 else none) = some l := h
 split at h'
 ·injection h' with h'
  have := denR_len (strOf st)
  rw [h', strOf_size] at this
  exact this
 ·cases h'⟩
theorem hasD (c : Int) (h0 : 1 ≤ c) (h1 : c ≤ 10) : HasD c (dmOf c) := by
 have : c = 1 ∨ c = 2 ∨ c = 3 ∨ c = 4 ∨ c = 5 ∨ c = 6 ∨ c = 7 ∨ c = 8 ∨ c = 9 ∨ c = 10 := by omega
 rcases this with rfl | rfl | rfl | rfl | rfl | rfl | rfl | rfl | rfl | rfl
 ·exact ⟨⟨_, _, _, _, kV, newD1⟩, DV_one, wt_none DV_one fun _ _ h => fin_nil h⟩
 ·exact ⟨⟨_, _, _, _, kH true, newD2⟩, DH_one true, wt_none (DH_one true) fun _ _ h => fin_nil h⟩
 ·exact ⟨⟨_, _, _, _, kH false, newD3⟩, DH_one false, wt_none (DH_one false) fun _ _ h => fin_nil h⟩
 ·exact ⟨⟨_, _, _, _, kW true, newD4⟩, DW_one true, wt_none (DW_one true) fun _ _ h => fin_nil h⟩
 ·exact ⟨⟨_, _, _, _, kW false, newD5⟩, DW_one false, wt_none (DW_one false) fun _ _ h => fin_nil h⟩
 ·exact ⟨⟨_, _, _, _, kEc, newD6⟩, DEc_one, wt_none DEc_one fun _ _ h => fin_nil h⟩
 ·exact hasD7
 ·exact ⟨⟨_, _, _, _, kB, newD8⟩, DB_one, wt_none DB_one fun _ _ h => fin_nil h⟩
 ·exact ⟨⟨_, _, _, _, kX, newD9⟩, DX_one, wt_none DX_one fun _ _ h => fin_nil h⟩
 ·exact ⟨⟨_, _, _, _, kX, newD10⟩, DX_one, wt_none DX_one fun _ _ h => fin_nil h⟩
def decR (c : Int) (l : List Int) : List Int × Int × Int := if 1 ≤ c ∧ c ≤ 10 then runD (dmOf c) (dmOf c).ini l 0 [] else ([], 11, 0)
def encR (c : Int) (l : List Int) : List Int × Int × Int := if 1 ≤ c ∧ c ≤ 10 then runE (emOf c) (emOf c).ini l 0 [] else ([], 11, 0)
theorem decR_len (c : Int) (l : List Int) : (decR c l).1.length ≤ l.length := by
 unfold decR
 split
 ·rename_i h; exact (hasD c h.1 h.2).le l
 ·exact Nat.zero_le _
theorem encR_len (c : Int) (l : List Int) (hl : ∀ x ∈ l, 0 ≤ x) (hn : l.length ≤ 500) : (encR c l).1.length ≤ 9 * l.length + 9 ∧ isBytes (encR c l).1 := by
 unfold encR
 split
 ·rename_i h; exact (hasE c h.1 h.2).byt l 0 hl hn
 ·exact ⟨Nat.zero_le _, nil_bytes⟩
set_option maxRecDepth 100000 in
theorem decode_no (c : Int) (h : c < 1 ∨ 10 < c) (s : ByteArray) (w : World) : Calls Tryz.prog 14 #[.int .i64 c, .string s] w fun e w' => e = .returned (.tuple #[.slice none 0 0, .agg #[.int .i64 11, .int .i64 0]]) ∧ Below w.heap.size w w' := by
 have HN := Lib.hid (fun W => noD c h W)
 clear h
 go_enter Tryz.func14, Tryz.ntmps14
 go_wp2_with (go_at_call 17; refine (HN.out _).mono ?_; rintro e w' ⟨rfl, rfl⟩)
 refine bodyPost_ret (v := .tuple #[.slice none 0 0, .agg #[.int .i64 11, .int .i64 0]]) (by simp [results, Tryz.results14, go_sem]; try rfl) rfl ?_
 exact ⟨rfl, below_new (Below.refl _ _) _⟩
set_option maxRecDepth 100000 in
theorem encode_no (c : Int) (h : c < 1 ∨ 10 < c) (A : Option Addr) (n cp : Nat) (w : World) : Calls Tryz.prog 13 #[.int .i64 c, .slice A n cp] w fun e w' => e = .returned (.tuple #[.string ⟨#[]⟩, .agg #[.int .i64 11, .int .i64 0]]) ∧ Below w.heap.size w w' := by
 have HN := Lib.hid (fun W => noE c h W)
 clear h
 go_enter Tryz.func13, Tryz.ntmps13
 go_wp2_with (go_at_call 16; refine (HN.out _).mono ?_; rintro e w' ⟨rfl, rfl⟩)
 refine bodyPost_ret (v := .tuple #[.string ⟨#[]⟩, .agg #[.int .i64 11, .int .i64 0]]) (by simp [results, Tryz.results13, go_sem]; try rfl) rfl ?_
 exact ⟨rfl, below_new (Below.refl _ _) _⟩
theorem dec_all (c : Int) (s : ByteArray) (hs : s.size ≤ 4000) (w : World) :
  Calls Tryz.prog 14 #[.int .i64 c, .string s] w fun e w' => ∃ v, e = .returned (.tuple #[v, .agg #[.int .i64 (decR c (bytesOf s)).2.1, .int .i64 (decR c (bytesOf s)).2.2]]) ∧
   QRow w' w.heap.size 48 1 v (decR c (bytesOf s)).1.length (nums .u32 (decR c (bytesOf s)).1) ∧ Below w.heap.size w w' := by
 by_cases h : 1 ≤ c ∧ c ≤ 10
 ·have hd := hasD c h.1 h.2
  obtain ⟨tg, fF, fE, Rep, K, HN⟩ := hd.ex
  have hle := hd.le (bytesOf s)
  rw [bytesOf_length] at hle
  have := decode_c K HN hd.one s hs (by omega) w
  unfold decR
  rw [if_pos h]
  exact this
 ·unfold decR
  rw [if_neg h]
  refine (decode_no c (by omega) s w).mono ?_
  rintro e w' ⟨rfl, hb⟩
  exact ⟨_, rfl, ⟨rfl, .inl ⟨rfl, none, rfl, fun a h => by cases h⟩⟩, hb⟩
theorem enc_all (c : Int) (l : List Int) (hsc : ∀ x ∈ l, 0 ≤ x) (hl : l.length ≤ 400) (A : Option Addr) (cp : Nat) (hcp : l.length ≤ cp) (hA : A = none → cp = 0) (w : World) (hr : ReadsInt w .u32 A l.length l) :
  Calls Tryz.prog 13 #[.int .i64 c, .slice A l.length cp] w fun e w' => e = .returned (.tuple #[.string (strOf (encR c l).1), .agg #[.int .i64 (encR c l).2.1, .int .i64 (encR c l).2.2]]) ∧ Below w.heap.size w w' := by
 by_cases h : 1 ≤ c ∧ c ≤ 10
 ·have he := hasE c h.1 h.2
  obtain ⟨tg, fF, fE, Rep, K, HN⟩ := he.ex
  have := (he.byt l 0 hsc (by omega)).1
  have := encode_c K HN 5 he.put5 he.bad5 l hsc (by omega) (by omega) (by omega) A cp hcp hA w hr
  unfold encR
  rw [if_pos h]
  exact this
 ·unfold encR
  rw [if_neg h]
  exact encode_no c (by omega) A l.length cp w
theorem q_slice2 {w : World} {base : Nat} {v : Value} {xs : List Int} (h : QRow w base 48 1 v xs.length (nums .u32 xs)) : ∃ A c, v = .slice A xs.length c ∧ xs.length ≤ c ∧ (A = none → c = 0) ∧ ReadsInt w .u32 A xs.length xs := by
 rcases h.2 with ⟨h0, A, rfl, _⟩ | ⟨g, off, cap, cur, rfl, hg, hr⟩
 ·refine ⟨A, 0, ?_, by omega, fun _ => rfl, q_reads (base := base) (e := 48) (c := 0) ?_⟩
  ·rw [h0]
  ·rw [h0] at h ⊢; exact h
 ·exact ⟨_, cap, rfl, hr.2.1, fun hn => (by cases hn), q_reads (c := cap) h⟩
end Go.Proofs.YtmgnndnofbemeaaGreat
namespace Go.Proofs.YtmgnndnofbemeaaGreat
open Go.RowKit Go.Proofs.YtmgnndnofbemeaaGreatW.PrintWords Go.Proofs.YtmgnndnofbemeaaGreatW.PrintLast Go.Proofs.YtmgnndnofbemeaaGreatW.PrintMore Go.Proofs.YtmgnndnofbemeaaGreat.PPd
set_option linter.unusedVariables false
set_option linter.unusedSimpArgs false
theorem allS_nil : AllS [] := fun x hx => by cases hx
theorem allS_one {x : Int} (h0 : 0 ≤ x) (h1 : x ≤ 1114111) (h2 : ¬ (55296 ≤ x ∧ x ≤ 57343)) : AllS [x] := fun y hy => by
 rw [List.mem_singleton] at hy
 subst hy
 refine ⟨h0, ?_⟩
 unfold isScal
 rw [decide_eq_true h1]
 by_cases a : 55296 ≤ y
 ·rw [decide_eq_true a, decide_eq_false (show ¬ y ≤ 57343 by omega)]; rfl
 ·rw [decide_eq_false a]; rfl
theorem allS_append {a b : List Int} (ha : AllS a) (hb : AllS b) : AllS (a ++ b) := fun x hx => (List.mem_append.1 hx).elim (ha x) (hb x)
theorem runD_scal (M : DMach) (Q : M.St → Prop) (h1 : ∀ st b st' l, Q st → 0 ≤ b → b ≤ 255 → M.next st b = some (st', l) → Q st' ∧ AllS l) (h2 : ∀ st l, Q st → M.fin st = some l → AllS l) :
  ∀ (s : List Int) (st : M.St) (p : Nat) (acc : List Int), isBytes s → Q st → AllS acc → AllS (runD M st s p acc).1
 | [], st, p, acc, _, q, ha => by
  rw [runD]
  cases hf : M.fin st with
  | none => exact ha
  | some k => exact allS_append ha (h2 st k q hf)
 | b :: r, st, p, acc, hs, q, ha => by
  rw [runD]
  cases hn : M.next st b with
  | none => exact ha
  | some z =>
   obtain ⟨st', k⟩ := z
   have hb := hs b (List.mem_cons_self ..)
   obtain ⟨q1, a1⟩ := h1 st b st' k q hb.1 hb.2 hn
   exact runD_scal M Q h1 h2 r st' (p + 1) (acc ++ k) (fun x hx => hs x (List.mem_cons_of_mem _ hx)) q1 (allS_append ha a1)
def ScalD (M : DMach) : Prop := ∀ s, isBytes s → AllS (runD M M.ini s 0 []).1
theorem scalD_of (M : DMach) (Q : M.St → Prop) (h0 : Q M.ini) (h1 : ∀ st b st' l, Q st → 0 ≤ b → b ≤ 255 → M.next st b = some (st', l) → Q st' ∧ AllS l) (h2 : ∀ st l, M.fin st = some l → l = []) : ScalD M := fun s hs =>
 runD_scal M Q h1 (fun st l _ h => by rw [h2 st l h]; exact allS_nil) s M.ini 0 [] hs h0 allS_nil
def RS (w c : Int) : Prop := 0 ≤ c ∧ (c + 1) * w ≤ 1114112 ∧ ((c + 1) * w ≤ 55296 ∨ 57344 ≤ c * w)
theorem RS.one {c : Int} (h : RS 1 c) : AllS [c] := by
 unfold RS at h
 exact allS_one (by omega) (by omega) (by omega)
def wV (n : Int) : Int := if n = 1 then 1 else if n = 2 then 64 else 4096
theorem scalV : ScalD DV := by
 refine scalD_of DV (fun st : V8 => st.need = 0 ∨ (1 ≤ st.need ∧ st.need ≤ 3 ∧ 128 ≤ st.lo ∧ st.hi ≤ 191 ∧ ∀ b, st.lo ≤ b → b ≤ st.hi → RS (wV st.need) (st.c * 64 + (b - 128)))) (.inl rfl) (fun st b st' l q b0 b1 hn => ?_) (fun st l h => fin_nil h)
 obtain ⟨need, lo, hi, c⟩ := st
 have hn' : nextV ⟨need, lo, hi, c⟩ b = some (st', l) := hn
 unfold nextV at hn'
 dsimp only at hn' q
 by_cases a : need = 0
 ·rw [if_pos a] at hn'
  by_cases a1 : b < 128
  ·rw [if_pos a1] at hn'
   injection hn' with hn'; injection hn' with e1 e2
   rw [← e1, ← e2]
   exact ⟨.inl a, allS_one b0 (by omega) (by omega)⟩
  ·rw [if_neg a1] at hn'
   unfold leadV at hn'
   by_cases a2 : b < 194 ∨ 244 < b
   ·rw [if_pos a2] at hn'; cases hn'
   ·rw [if_neg a2] at hn'
    injection hn' with hn'; injection hn' with e1 e2
    rw [← e1, ← e2]
    refine ⟨.inr ?_, allS_nil⟩
    dsimp only
    by_cases c1 : b < 224
    ·rw [if_pos c1, if_neg (show ¬ b = 224 by omega), if_neg (show ¬ b = 240 by omega), if_neg (show ¬ b = 237 by omega), if_neg (show ¬ b = 244 by omega), if_pos c1]
     refine ⟨by decide, by decide, by decide, by decide, fun x x0 x1 => ?_⟩
     unfold RS wV
     rw [if_pos rfl]; omega
    ·rw [if_neg c1, if_neg c1]
     by_cases c2 : b < 240
     ·rw [if_pos c2, if_pos c2, if_neg (show ¬ b = 240 by omega), if_neg (show ¬ b = 244 by omega)]
      refine ⟨by decide, by decide, by split <;> decide, by split <;> decide, fun x x0 x1 => ?_⟩
      unfold RS wV
      rw [if_neg (by decide), if_pos rfl]
      split at x0 <;> split at x1 <;> omega
     ·rw [if_neg c2, if_neg c2, if_neg (show ¬ b = 224 by omega), if_neg (show ¬ b = 237 by omega)]
      refine ⟨by decide, by decide, by split <;> decide, by split <;> decide, fun x x0 x1 => ?_⟩
      unfold RS wV
      rw [if_neg (by decide), if_neg (by decide)]
      split at x0 <;> split at x1 <;> omega
 ·rw [if_neg a] at hn'
  obtain ⟨q0, q1, q2, q3, q4⟩ := q.resolve_left a
  by_cases a1 : b < lo ∨ hi < b
  ·rw [if_pos a1] at hn'; cases hn'
  ·rw [if_neg a1] at hn'
   have hr := q4 b (by omega) (by omega)
   have hm : b % 64 = b - 128 := by omega
   rw [hm] at hn'
   by_cases a2 : need = 1
   ·rw [if_pos a2] at hn'
    injection hn' with hn'; injection hn' with e1 e2
    rw [← e1, ← e2]
    rw [a2] at hr
    exact ⟨.inl rfl, RS.one hr⟩
   ·rw [if_neg a2] at hn'
    injection hn' with hn'; injection hn' with e1 e2
    rw [← e1, ← e2]
    refine ⟨.inr ?_, allS_nil⟩
    dsimp only
    refine ⟨by omega, by omega, by decide, by decide, fun x x0 x1 => ?_⟩
    have : need = 2 ∨ need = 3 := by omega
    rcases this with e | e
    ·rw [e] at hr ⊢
     have h1 : RS 64 (c * 64 + (b - 128)) := hr
     show RS 1 _
     unfold RS at *
     omega
    ·rw [e] at hr ⊢
     have h1 : RS 4096 (c * 64 + (b - 128)) := hr
     show RS 64 _
     unfold RS at *
     omega
theorem fits_iff {up u : Int} : fits16 up u = true ↔ ((56320 ≤ u ∧ u < 57344) ↔ up ≠ 0) := by
 unfold fits16
 by_cases a : 56320 ≤ u <;> by_cases b : u < 57344 <;> by_cases c : up = 0 <;> simp [a, b, c]
theorem scalH (big : Bool) : ScalD (DH big) := by
 refine scalD_of (DH big) (fun st : Bool × Int × Int => (0 ≤ st.2.1 ∧ st.2.1 ≤ 255) ∧ (st.2.2 = 0 ∨ (55296 ≤ st.2.2 ∧ st.2.2 < 56320))) ⟨⟨Int.le_refl 0, by show (0 : Int) ≤ 255; decide⟩, .inl rfl⟩ (fun st b st' l q b0 b1 hn => ?_) (fun st l h => fin_nil h)
 obtain ⟨o, f, up⟩ := st
 obtain ⟨qf, qu⟩ := q
 dsimp only at qf qu
 have hn' : nextH big (o, f, up) b = some (st', l) := hn
 unfold nextH at hn'
 dsimp only at hn'
 have hu : 0 ≤ unitOf big f b ∧ unitOf big f b ≤ 65535 := by unfold unitOf; split <;> omega
 by_cases a : o = false
 ·rw [if_pos a] at hn'
  split at hn'
  ·cases hn'
  ·injection hn' with hn'; injection hn' with e1 e2
   rw [← e1, ← e2]
   exact ⟨⟨⟨b0, b1⟩, qu⟩, allS_nil⟩
 ·rw [if_neg a] at hn'
  by_cases a1 : fits16 up (unitOf big f b) = false
  ·rw [if_pos a1] at hn'; cases hn'
  ·rw [if_neg a1] at hn'
   have hf := fits_iff.1 (show fits16 up (unitOf big f b) = true by simpa using a1)
   obtain ⟨u, hU⟩ : ∃ u, unitOf big f b = u := ⟨_, rfl⟩
   rw [hU] at hn' hf hu
   by_cases a2 : up ≠ 0
   ·rw [if_pos a2] at hn'
    injection hn' with hn'; injection hn' with e1 e2
    rw [← e1, ← e2]
    have := hf.2 a2
    exact ⟨⟨qf, .inl rfl⟩, allS_one (by omega) (by omega) (by omega)⟩
   ·rw [if_neg a2] at hn'
    have hnu : ¬ (56320 ≤ u ∧ u < 57344) := fun h => a2 (hf.1 h)
    by_cases a3 : 55296 ≤ u ∧ u < 56320
    ·rw [if_pos a3] at hn'
     injection hn' with hn'; injection hn' with e1 e2
     rw [← e1, ← e2]
     exact ⟨⟨qf, .inr a3⟩, allS_nil⟩
    ·rw [if_neg a3] at hn'
     injection hn' with hn'; injection hn' with e1 e2
     rw [← e1, ← e2]
     exact ⟨⟨qf, .inl rfl⟩, allS_one (by omega) (by omega) (by omega)⟩
theorem scalW (big : Bool) : ScalD (DW big) := by
 refine scalD_of (DW big) (fun st : Int × Int => 0 ≤ st.2) (Int.le_refl 0) (fun st b st' l q b0 b1 hn => ?_) (fun st l h => fin_nil h)
 obtain ⟨v, c⟩ := st
 have q' : 0 ≤ c := q
 have hn' : nextW big (v, c) b = some (st', l) := hn
 unfold nextW at hn'
 dsimp only at hn'
 have hm : 0 ≤ moreW big v c b := by
  unfold moreW
  split
  ·omega
  ·(repeat' split) <;> omega
 by_cases a : fitsW big v (moreW big v c b) = false
 ·rw [if_pos a] at hn'; cases hn'
 ·rw [if_neg a] at hn'
  by_cases a1 : v = 3
  ·rw [if_pos a1] at hn'
   injection hn' with hn'; injection hn' with e1 e2
   rw [← e1, ← e2]
   refine ⟨Int.le_refl 0, fun y hy => ?_⟩
   rw [List.mem_singleton] at hy
   subst hy
   refine ⟨hm, ?_⟩
   unfold fitsW at a
   rw [if_pos a1] at a
   simpa using a
  ·rw [if_neg a1] at hn'
   injection hn' with hn'; injection hn' with e1 e2
   rw [← e1, ← e2]
   exact ⟨hm, allS_nil⟩
def wM (n : Int) : Int := if n = 1 then 1 else if n = 2 then 32 else if n = 3 then 1024 else 32768
theorem permQ_rng {b : Int} (h0 : 0 ≤ b) (h1 : b ≤ 255) : 0 ≤ permQ b ∧ permQ b ≤ 255 := by
 have h : ∀ n : Fin 256, 0 ≤ permQ ((n.val : Nat) : Int) ∧ permQ ((n.val : Nat) : Int) ≤ 255 := by decide +kernel
 have := h ⟨b.toNat, by omega⟩
 rwa [show ((b.toNat : Nat) : Int) = b by omega] at this
theorem scalEc : ScalD DEc := by
 refine scalD_of DEc (fun st : M8 => st.need = 0 ∨ (1 ≤ st.need ∧ st.need ≤ 4 ∧ ∀ b, 160 ≤ b → b ≤ 191 → (st.gone = false → secM st.b b = true) → RS (wM st.need) (st.c * 32 + (b - 160)))) (.inl rfl) (fun st b st' l q b0 b1 hn => ?_) (fun st l h => fin_nil h)
 obtain ⟨need, f, c, gone⟩ := st
 have hn0 : nextM ⟨need, f, c, gone⟩ (permQ b) = some (st', l) := hn
 obtain ⟨y, hy⟩ : ∃ y, permQ b = y := ⟨_, rfl⟩
 have hyr := permQ_rng b0 b1
 rw [hy] at hyr hn0
 obtain ⟨y0, y1⟩ := hyr
 have hn' := hn0
 unfold nextM at hn'
 dsimp only at hn' q
 by_cases a : need = 0
 ·rw [if_pos a] at hn'
  by_cases a1 : y < 160
  ·rw [if_pos a1] at hn'
   injection hn' with hn'; injection hn' with e1 e2
   rw [← e1, ← e2]
   exact ⟨.inl a, allS_one y0 (by omega) (by omega)⟩
  ·rw [if_neg a1] at hn'
   unfold leadM at hn'
   by_cases c1 : 197 ≤ y ∧ y ≤ 223
   ·rw [if_pos c1] at hn'
    injection hn' with hn'; injection hn' with e1 e2
    rw [← e1, ← e2]
    refine ⟨.inr ⟨by dsimp only; decide, by dsimp only; decide, fun x x0 x1 _ => ?_⟩, allS_nil⟩
    show RS 1 (y % 32 * 32 + (x - 160))
    unfold RS; omega
   ·rw [if_neg c1] at hn'
    by_cases c2 : 225 ≤ y ∧ y ≤ 239
    ·rw [if_pos c2] at hn'
     injection hn' with hn'; injection hn' with e1 e2
     rw [← e1, ← e2]
     refine ⟨.inr ⟨by dsimp only; decide, by dsimp only; decide, fun x x0 x1 _ => ?_⟩, allS_nil⟩
     show RS 32 (y % 16 * 32 + (x - 160))
     unfold RS; omega
    ·rw [if_neg c2] at hn'
     by_cases c3 : 240 ≤ y ∧ y ≤ 247
     ·rw [if_pos c3] at hn'
      injection hn' with hn'; injection hn' with e1 e2
      rw [← e1, ← e2]
      refine ⟨.inr ⟨by dsimp only; decide, by dsimp only; decide, fun x x0 x1 hs => ?_⟩, allS_nil⟩
      have hs' : secM y x = true := hs rfl
      have h241 : y = 241 → x ≠ 182 ∧ x ≠ 183 := fun e => by unfold secM at hs'; rw [if_neg (by omega), if_pos e] at hs'; simpa using hs'
      show RS 1024 (y % 8 * 32 + (x - 160))
      unfold RS
      by_cases e : y = 241
      ·have := h241 e
       omega
      ·omega
     ·rw [if_neg c3] at hn'
      by_cases c4 : y = 248 ∨ y = 249
      ·rw [if_pos c4] at hn'
       injection hn' with hn'; injection hn' with e1 e2
       rw [← e1, ← e2]
       refine ⟨.inr ⟨by dsimp only; decide, by dsimp only; decide, fun x x0 x1 hs => ?_⟩, allS_nil⟩
       have hs' : secM y x = true := hs rfl
       have h248 : y = 248 → 168 ≤ x := fun e => by unfold secM at hs'; rw [if_neg (by omega), if_neg (by omega), if_pos e] at hs'; simpa using hs'
       have h249 : y = 249 → x ≤ 161 := fun e => by unfold secM at hs'; rw [if_neg (by omega), if_neg (by omega), if_neg (by omega), if_pos e] at hs'; simpa using hs'
       show RS 32768 (y % 4 * 32 + (x - 160))
       unfold RS
       omega
      ·rw [if_neg c4] at hn'; cases hn'
 ·rw [if_neg a] at hn'
  obtain ⟨q0, q1, q2⟩ := q.resolve_left a
  by_cases a1 : y < 160 ∨ 191 < y ∨ (gone = false ∧ secM f y = false)
  ·rw [if_pos a1] at hn'; cases hn'
  ·rw [if_neg a1] at hn'
   have hr := q2 y (by omega) (by omega) (fun hg => by
    cases hs : secM f y with
    | true => rfl
    | false => exact absurd (.inr (.inr ⟨hg, hs⟩)) a1)
   have hm : y % 32 = y - 160 := by omega
   rw [hm] at hn'
   by_cases a2 : need = 1
   ·rw [if_pos a2] at hn'
    injection hn' with hn'; injection hn' with e1 e2
    rw [← e1, ← e2]
    rw [a2] at hr
    exact ⟨.inl rfl, RS.one hr⟩
   ·rw [if_neg a2] at hn'
    injection hn' with hn'; injection hn' with e1 e2
    rw [← e1, ← e2]
    refine ⟨.inr ⟨by show 1 ≤ need - 1; omega, by show need - 1 ≤ 4; omega, fun x x0 x1 _ => ?_⟩, allS_nil⟩
    have : need = 2 ∨ need = 3 ∨ need = 4 := by omega
    rcases this with e | e | e
    ·rw [e] at hr ⊢
     have h1 : RS 32 (c * 32 + (y - 160)) := hr
     show RS 1 _
     unfold RS at *
     dsimp only
     omega
    ·rw [e] at hr ⊢
     have h1 : RS 1024 (c * 32 + (y - 160)) := hr
     show RS 32 _
     unfold RS at *
     dsimp only
     omega
    ·rw [e] at hr ⊢
     have h1 : RS 32768 (c * 32 + (y - 160)) := hr
     show RS 1024 _
     unfold RS at *
     dsimp only
     omega
theorem insL_mem {l : List Int} {p : Nat} {x y : Int} (h : y ∈ insL l p x) : y ∈ l ∨ y = x := by
 unfold insL at h
 simp only [List.mem_append, List.mem_cons, List.not_mem_nil, or_false] at h
 rcases h with h | h | h
 ·exact .inl (List.mem_of_mem_take h)
 ·exact .inr h
 ·exact .inl (List.mem_of_mem_drop h)
theorem den_scal (s : ByteArray) : ∀ (k : Nat) (at_ : Int) (l : List Int) (n i b : Int) (once : Bool) (r : List Int), (∀ x ∈ l, 0 ≤ x ∧ isP x = true) → 0 ≤ n → 0 ≤ i → denGo s k at_ l n i b once = some r → ∀ x ∈ r, 0 ≤ x ∧ isP x = true
 | 0, at_, l, n, i, b, once, r, _, _, _, h => by rw [denGo] at h; cases h
 | k + 1, at_, l, n, i, b, once, r, hl, hn, hi, h => by
  rw [denGo] at h
  split at h
  ·cases hg : getP s at_ b with
   | none => rw [hg] at h; cases h
   | some z =>
    obtain ⟨delta, e⟩ := z
    rw [hg] at h
    dsimp only at h
    have hd : 0 ≤ delta := (getP_range hg).1
    have hq : 0 ≤ (i + delta) / ((l.length : Int) + 1) := Int.ediv_nonneg (by omega) (by omega)
    split at h
    ·rename_i hp
     refine den_scal s k _ _ _ _ _ _ r (fun x hx => ?_) (by omega) (by have := Int.emod_nonneg (i + delta) (show ((l.length : Int) + 1) ≠ 0 by omega); omega) h
     rcases insL_mem hx with hx | hx
     ·exact hl x hx
     ·rw [hx]; exact ⟨by omega, hp⟩
    ·cases h
  ·injection h with h; rw [← h]; exact hl
theorem allS_isP {l : List Int} (h : ∀ x ∈ l, 0 ≤ x ∧ isP x = true) : AllS l := fun x hx => ⟨(h x hx).1, by rw [← isP_scal x (h x hx).1]; exact (h x hx).2⟩
theorem scalP : ScalD DP := by
 intro s hs
 refine runD_scal DP (fun st => ∀ x ∈ (show List Int from st), 0 ≤ x ∧ x < 128) (fun st b st' l q b0 b1 hn => ?_) (fun st l q hf => ?_) s [] 0 [] hs (fun x hx => by cases hx) allS_nil
 ·have hn' : (if 128 ≤ b then none else some (st ++ [b], ([] : List Int))) = some (st', l) := hn
  split at hn'
  ·cases hn'
  ·rename_i hb
   injection hn' with hn'; injection hn' with e1 e2
   rw [← e1, ← e2]
   refine ⟨fun x hx => ?_, allS_nil⟩
   have hx' : x ∈ (show List Int from st) ++ [b] := hx
   rcases List.mem_append.1 hx' with h | h
   ·exact q x h
   ·rw [List.mem_singleton] at h; omega
 ·have hf' : (if (denR (strOf st)).2 = true then some (denR (strOf st)).1 else none) = some l := hf
  split at hf'
  ·injection hf' with hf'
   rw [← hf']
   have hq : ∀ i : Nat, bt (strOf st) (i : Int) < 128 := fun i => by
    rw [strOf_bt (fun x hx => by have := q x hx; omega) i, List.getD_eq_getElem?_getD]
    by_cases hi : i < List.length (α := Int) st
    ·rw [List.getElem?_eq_getElem hi]; exact (q _ (List.getElem_mem hi)).2
    ·rw [List.getElem?_eq_none (by omega)]; decide
   have hpre : ∀ n : Nat, ∀ x ∈ preL (strOf st) n, 0 ≤ x ∧ isP x = true := fun n x hx => by
    unfold preL at hx
    obtain ⟨j, _, rfl⟩ := List.mem_map.1 hx
    have h1 := bt_range (strOf st) (j : Int)
    have h2 := hq j
    refine ⟨h1.1, ?_⟩
    unfold isP
    rw [if_pos (by omega), if_pos (by omega)]
   unfold denR
   cases hd : denP (strOf st) with
   | none => exact allS_nil
   | some r =>
    refine allS_isP ?_
    unfold denP at hd
    dsimp only at hd
    refine den_scal _ _ _ _ _ _ _ _ r (fun x hx => ?_) (by decide) (by decide) hd
    split at hx
    ·exact hpre _ x hx
    ·cases hx
  ·cases hf'
def WinS (o : Int) : Prop := 128 ≤ o ∧ o + 127 ≤ 1114111 ∧ (o + 127 ≤ 55295 ∨ 57344 ≤ o)
theorem offset_win {b x : Int} (h0 : 0 ≤ b) (h1 : b ≤ 255) (h : offsetF b = some x) : WinS x := by
 unfold offsetF at h
 split at h
 ·cases h
 ·split at h
  ·injection h with h; unfold WinS; omega
  ·split at h
   ·injection h with h; unfold WinS; omega
   ·injection h with h
    have hb : b = 249 ∨ b = 250 ∨ b = 251 ∨ b = 252 ∨ b = 253 ∨ b = 254 ∨ b = 255 := by omega
    rcases hb with rfl | rfl | rfl | rfl | rfl | rfl | rfl <;> (rw [← h]; unfold WinS; decide)
theorem WinS.all {o c : Int} (h : WinS o) (h0 : o ≤ c) (h1 : c ≤ o + 127) : AllS [c] := by
 unfold WinS at h
 exact allS_one (by omega) (by omega) (by omega)
structure QX (st : SX) : Prop where
 ok : OKX st
 win : ∀ o ∈ st.offs, WinS o
 fit : st.begun = 6 → ((220 ≤ st.first ∧ st.first ≤ 223) ↔ st.upper ≠ 0)
theorem QX.at_ {st : SX} (h : QX st) (n : Int) (h0 : 0 ≤ n) (h1 : n ≤ 7) : WinS (st.offs.getD n.toNat 0) := by
 rw [List.getD_eq_getElem?_getD, List.getElem?_eq_getElem (by rw [h.ok.len]; omega)]
 exact h.win _ (List.getElem_mem _)
theorem fitsX_iff {st : SX} {b : Int} (h : fitsX st b = true) : (220 ≤ b ∧ b ≤ 223) ↔ st.upper ≠ 0 := by
 unfold fitsX at h
 by_cases a : 220 ≤ b ∧ b ≤ 223
 ·rw [decide_eq_true a] at h
  exact ⟨fun _ => by simpa using h, fun _ => a⟩
 ·rw [decide_eq_false a] at h
  have : st.upper = 0 := by simpa using h
  exact ⟨fun h => absurd h a, fun h => absurd this h⟩
theorem win_set {l : List Int} (h : ∀ o ∈ l, WinS o) (n : Nat) {x : Int} (hx : WinS x) : ∀ o ∈ l.set n x, WinS o := fun o ho => by
 rcases List.mem_or_eq_of_mem_set ho with ho | rfl
 ·exact h o ho
 ·exact hx
theorem stat_scal {n b : Int} (n0 : 0 ≤ n) (n1 : n ≤ 7) (h0 : 0 ≤ b) (h1 : b ≤ 127) : AllS [statics.getD n.toNat 0 + b] := by
 have hb : n = 0 ∨ n = 1 ∨ n = 2 ∨ n = 3 ∨ n = 4 ∨ n = 5 ∨ n = 6 ∨ n = 7 := by omega
 rcases hb with rfl | rfl | rfl | rfl | rfl | rfl | rfl | rfl
 ·exact allS_one (show 0 ≤ 0 + b by omega) (show 0 + b ≤ _ by omega) (show ¬ (_ ≤ 0 + b ∧ 0 + b ≤ _) by omega)
 ·exact allS_one (show 0 ≤ 128 + b by omega) (show 128 + b ≤ _ by omega) (show ¬ (_ ≤ 128 + b ∧ 128 + b ≤ _) by omega)
 ·exact allS_one (show 0 ≤ 256 + b by omega) (show 256 + b ≤ _ by omega) (show ¬ (_ ≤ 256 + b ∧ 256 + b ≤ _) by omega)
 ·exact allS_one (show 0 ≤ 768 + b by omega) (show 768 + b ≤ _ by omega) (show ¬ (_ ≤ 768 + b ∧ 768 + b ≤ _) by omega)
 ·exact allS_one (show 0 ≤ 8192 + b by omega) (show 8192 + b ≤ _ by omega) (show ¬ (_ ≤ 8192 + b ∧ 8192 + b ≤ _) by omega)
 ·exact allS_one (show 0 ≤ 8320 + b by omega) (show 8320 + b ≤ _ by omega) (show ¬ (_ ≤ 8320 + b ∧ 8320 + b ≤ _) by omega)
 ·exact allS_one (show 0 ≤ 8448 + b by omega) (show 8448 + b ≤ _ by omega) (show ¬ (_ ≤ 8448 + b ∧ 8448 + b ≤ _) by omega)
 ·exact allS_one (show 0 ≤ 12288 + b by omega) (show 12288 + b ≤ _ by omega) (show ¬ (_ ≤ 12288 + b ∧ 12288 + b ≤ _) by omega)
theorem nextX_scal {st : SX} (h : QX st) {b : Int} (h0 : 0 ≤ b) (h1 : b ≤ 255) {s : SX} {l : List Int} (hn : nextX st b = some (s, l)) : QX s ∧ AllS l := by
 have hok := nextX_ok h.ok h0 h1 hn
 have hb := h.ok.beg
 have hup := h.ok.upp
 have hfs := h.ok.fst
 have W := h.win
 have go : ∀ (s' : SX) (l' : List Int), some (s', l') = some (s, l) → (∀ o ∈ s'.offs, WinS o) → (s'.begun = 6 → ((220 ≤ s'.first ∧ s'.first ≤ 223) ↔ s'.upper ≠ 0)) → AllS l' → QX s ∧ AllS l := fun s' l' he w f a => by
  injection he with he; injection he with e1 e2
  subst e1; subst e2
  exact ⟨⟨hok, w, f⟩, a⟩
 have begin_ : ∀ (z : SX) (k n : Int), z.offs = st.offs → z.upper = st.upper → (k = 6 → ((220 ≤ z.first ∧ z.first ≤ 223) ↔ st.upper ≠ 0)) → beginX z k n = some (s, l) → QX s ∧ AllS l := fun z k n e1 e2 hk he => by
  refine go _ _ he (by show ∀ o ∈ z.offs, WinS o; rw [e1]; exact W) (fun hk6 => ?_) allS_nil
  show (220 ≤ z.first ∧ z.first ≤ 223) ↔ z.upper ≠ 0
  rw [e2]
  exact hk hk6
 have act_ : ∀ (z : SX) (n : Int), (∀ o ∈ z.offs, WinS o) → actX z n = some (s, l) → QX s ∧ AllS l := fun z n w he =>
  go _ _ he w (fun hk => absurd hk (show ¬ (0 : Int) = 6 by decide)) allS_nil
 unfold nextX at hn
 by_cases a : st.begun ≠ 0
 ·rw [if_pos a] at hn
  unfold moreX at hn
  by_cases b1 : st.begun = 1
  ·rw [if_pos b1] at hn
   refine go _ _ hn W (fun hk => absurd hk (show ¬ (0 : Int) = 6 by decide)) ?_
   by_cases c1 : 128 ≤ b
   ·rw [if_pos c1]
    have := h.at_ st.n h.ok.nn.1 h.ok.nn.2
    exact this.all (by omega) (by omega)
   ·rw [if_neg c1]
    exact stat_scal h.ok.nn.1 h.ok.nn.2 h0 (by omega)
  ·rw [if_neg b1] at hn
   by_cases b2 : st.begun = 2
   ·rw [if_pos b2] at hn
    cases ho : offsetF b with
    | none => rw [ho] at hn; cases hn
    | some x =>
     rw [ho] at hn
     exact act_ _ _ (win_set W _ (offset_win h0 h1 ho)) hn
   ·rw [if_neg b2] at hn
    by_cases b3 : st.begun = 3
    ·rw [if_pos b3] at hn
     exact go _ _ hn W (fun hk => absurd hk (show ¬ (4 : Int) = 6 by decide)) allS_nil
    ·rw [if_neg b3] at hn
     by_cases b4 : st.begun = 4
     ·rw [if_pos b4] at hn
      exact act_ _ _ (win_set W _ (by unfold WinS; omega)) hn
     ·rw [if_neg b4] at hn
      by_cases b5 : st.begun = 5
      ·rw [if_pos b5] at hn
       by_cases hf : fitsX st b = true
       ·rw [if_pos hf] at hn
        exact begin_ { st with first := b } 6 0 rfl rfl (fun _ => fitsX_iff hf) hn
       ·rw [if_neg hf] at hn; cases hn
      ·rw [if_neg b5] at hn
       have b6 : st.begun = 6 := by omega
       have hfit := h.fit b6
       unfold wholeX at hn
       by_cases c1 : st.upper ≠ 0
       ·rw [if_pos c1] at hn
        exact go _ _ hn W (fun hk => absurd hk (show ¬ (0 : Int) = 6 by decide)) (allS_one (by omega) (by omega) (by omega))
       ·rw [if_neg c1] at hn
        have hnf : ¬ (220 ≤ st.first ∧ st.first ≤ 223) := fun hh => c1 (hfit.1 hh)
        by_cases c2 : 55296 ≤ st.first * 256 + b ∧ st.first * 256 + b < 56320
        ·rw [if_pos c2] at hn
         exact go _ _ hn W (fun hk => absurd hk (show ¬ (0 : Int) = 6 by decide)) allS_nil
        ·rw [if_neg c2] at hn
         exact go _ _ hn W (fun hk => absurd hk (show ¬ (0 : Int) = 6 by decide)) (allS_one (by omega) (by omega) (by omega))
 ·rw [if_neg a] at hn
  have hb0 : st.begun = 0 := by omega
  have n6 : ¬ st.begun = 6 := by omega
  by_cases u : st.uni = true
  ·rw [if_pos u] at hn
   unfold doubleX at hn
   by_cases c1 : b < 224 ∨ 242 < b
   ·rw [if_pos c1] at hn
    by_cases hf : fitsX st b = true
    ·rw [if_pos hf] at hn
     exact begin_ { st with first := b } 6 0 rfl rfl (fun _ => fitsX_iff hf) hn
    ·rw [if_neg hf] at hn; cases hn
   ·rw [if_neg c1] at hn
    (repeat' split at hn) <;> first
     | (cases hn; done)
     | exact begin_ st _ _ rfl rfl (fun hk => absurd hk (by decide)) hn
     | exact act_ st _ W hn
  ·rw [if_neg u] at hn
   unfold singleX at hn
   by_cases c1 : (st.upper ≠ 0 ∧ b ≠ 14) ∨ b = 12
   ·rw [if_pos c1] at hn; cases hn
   ·rw [if_neg c1] at hn
    by_cases c2 : 128 ≤ b
    ·rw [if_pos c2] at hn
     have := h.at_ st.active h.ok.act.1 h.ok.act.2
     exact go _ _ hn W (fun hk => absurd hk n6) (this.all (by omega) (by omega))
    ·rw [if_neg c2] at hn
     by_cases c3 : 32 ≤ b ∨ b = 0 ∨ b = 9 ∨ b = 10 ∨ b = 13
     ·rw [if_pos c3] at hn
      exact go _ _ hn W (fun hk => absurd hk n6) (allS_one h0 (by omega) (by omega))
     ·rw [if_neg c3] at hn
      (repeat' split at hn) <;> first
       | (cases hn; done)
       | exact begin_ st _ _ rfl rfl (fun hk => absurd hk (by decide)) hn
       | exact act_ st _ W hn
       | exact go _ _ hn W (fun hk => absurd hk n6) allS_nil
theorem scalX : ScalD DX := by
 refine scalD_of DX QX ⟨⟨rfl, by decide, by decide, by decide, by decide, by decide, .inl rfl⟩, fun o ho => ?_, fun h => absurd h (by decide)⟩ (fun st b st' l q b0 b1 hn => nextX_scal q b0 b1 hn) (fun st l h => fin_nil h)
 have : o ∈ offsI := ho
 simp only [offsI, List.mem_cons, List.not_mem_nil, or_false] at this
 unfold WinS
 omega
theorem w64_in (x : Int) : -9223372036854775808 ≤ wrap64 x ∧ wrap64 x ≤ 9223372036854775807 := by unfold wrap64; omega
theorem range_lo (s : ByteArray) (f t : Int) (hs : (s.size : Int) = t + 1) (ht : t ≤ 3) : ∀ (n k : Nat) (v i lo hi m : Int), i + n = t + 1 → 1 ≤ i → diff_Range.l0 k s f t v 1 i = some (lo, hi, m, true) → hi = lo
 | _, 0, v, i, lo, hi, m, _, _, h => by rw [diff_Range.l0] at h; cases h
 | 0, k + 1, v, i, lo, hi, m, h0, h1, h => by
  rw [diff_Range.l0, if_neg (by omega)] at h
  injection h with h
  injection h with e1 h
  injection h with e2 h
  have := w64_in (f + v)
  rw [← e1, ← e2]
  obtain ⟨x, hx⟩ : ∃ x, wrap64 (f + v) = x := ⟨_, rfl⟩
  rw [hx] at this ⊢
  unfold wrap64
  omega
 | n + 1, k + 1, v, i, lo, hi, m, h0, h1, h => by
  have hw : wrap64 (i + 1) = i + 1 := by unfold wrap64; omega
  rw [diff_Range.l0, if_pos (by omega), if_neg (by omega), if_pos (by omega), if_pos (by omega), hw] at h
  cases htr : diff_Trail.f k (bt s i) with
  | none => rw [htr] at h; cases h
  | some z =>
   rw [htr, Option.bind_some] at h
   by_cases hz : z.2 = true
   ·rw [if_pos hz] at h
    exact range_lo s f t hs ht n k _ (i + 1) lo hi m (by omega) (by omega) h
   ·rw [if_neg hz] at h
    injection h with h
    injection h with _ h
    injection h with _ h
    injection h with _ h
    cases h
theorem range_n (s : ByteArray) (f t : Int) (ht : t ≤ 3) : ∀ (k : Nat) (v sp i lo hi m : Int), diff_Range.l0 k s f t v sp i = some (lo, hi, m, true) → m = wrap64 (t + 1)
 | 0, v, sp, i, lo, hi, m, h => by rw [diff_Range.l0] at h; cases h
 | k + 1, v, sp, i, lo, hi, m, h => by
  rw [diff_Range.l0] at h
  split at h
  ·split at h
   ·exact range_n s f t ht k _ _ _ lo hi m h
   ·split at h
    ·split at h
     ·cases htr : diff_Trail.f k (bt s i) with
      | none => rw [htr] at h; cases h
      | some z =>
       rw [htr, Option.bind_some] at h
       split at h
       ·exact range_n s f t ht k _ _ _ lo hi m h
       ·injection h with h
        injection h with _ h
        injection h with _ h
        injection h with _ h
        cases h
     ·cases h
    ·cases h
  ·injection h with h
   injection h with _ h
   injection h with _ h
   injection h with h _
   exact h.symm
theorem rng_last {P : List Int} {lo hi n : Int} (h : rngB P = (lo, hi, n, true)) (hn : (P.length : Int) = n) : hi = lo := by
 obtain ⟨r, hr⟩ := range_tot (strOf P)
 have e : rngB P = r := by unfold rngB; rw [hr]; rfl
 rw [e] at h
 subst h
 have hsz : ((strOf P).size : Int) = n := by rw [strOf_size]; exact hn
 have hj : ∀ b, diff_Range.j0 30 (strOf P) b = some (lo, hi, n, true) → hi = lo := by
  intro b h
  rw [diff_Range.j0] at h
  split at h
  ·injection h with h
   injection h with _ h
   injection h with _ h
   injection h with _ h
   cases h
  ·split at h
   ·obtain ⟨f, t, hab, t0, t1⟩ := first_tot (bt (strOf P) 0)
    rw [hab, Option.bind_some] at h
    dsimp only at h
    split at h
    ·injection h with h
     injection h with _ h
     injection h with _ h
     injection h with _ h
     cases h
    ·have hm := range_n (strOf P) f t t1 29 0 1 1 lo hi n h
     have hw : wrap64 (t + 1) = t + 1 := by unfold wrap64; omega
     rw [hw] at hm
     exact range_lo (strOf P) f t (by omega) t1 t.toNat 29 0 1 lo hi n (by omega) (by decide) h
   ·cases h
 unfold diff_Range.f at hr
 split at hr
 ·exact hj _ hr
 ·split at hr
  ·split at hr
   ·exact hj _ hr
   ·exact hj _ hr
  ·cases hr
theorem some_scal {x : Int} (h : someB x x = true) : AllS [x] := by
 unfold someB bocu_some.f mx mn at h
 have : 33 ≤ x ∧ x ≤ 1114111 ∧ ¬ (55296 ≤ x ∧ x ≤ 57343) := by
  (repeat' split at h) <;> simp at h <;> omega
 exact allS_one (by omega) this.2.1 this.2.2
theorem scalB : ScalD DB := by
 refine scalD_of DB (fun _ => True) trivial (fun st b st' l _ b0 b1 hn => ⟨trivial, ?_⟩) (fun st l h => fin_nil h)
 have hn' : nextB st b = some (st', l) := hn
 unfold nextB at hn'
 split at hn'
 ·injection hn' with hn'; injection hn' with _ e; rw [← e]; exact allS_nil
 ·split at hn'
  ·rename_i hc
   injection hn' with hn'; injection hn' with _ e; rw [← e]
   exact allS_one b0 (by omega) (by omega)
  ·split at hn'
   ·cases hn'
   ·rename_i hs
    split at hn'
    ·rename_i hl
     injection hn' with hn'; injection hn' with _ e; rw [← e]
     obtain ⟨⟨lo, hi, n, ok⟩, hr⟩ : ∃ r, rngB (st.2 ++ [b]) = r := ⟨_, rfl⟩
     rw [hr] at hs hl ⊢
     dsimp only at hs hl ⊢
     have hok : ok = true := by
      cases ok with
      | true => rfl
      | false => exact absurd (.inl rfl) hs
     subst hok
     have hh := rng_last hr hl
     subst hh
     have hsm : someB (wrap64 (st.1 + hi)) (wrap64 (st.1 + hi)) = true := by
      cases h : someB (wrap64 (st.1 + hi)) (wrap64 (st.1 + hi)) with
      | true => rfl
      | false => exact absurd (.inr h) hs
     have ha := some_scal hsm
     have hx := ha (wrap64 (st.1 + hi)) (List.mem_singleton_self _)
     have ht := scal_top hx.2
     rw [show wrap64 (st.1 + hi) % 4294967296 = wrap64 (st.1 + hi) by omega]
     exact ha
    ·injection hn' with hn'; injection hn' with _ e; rw [← e]; exact allS_nil
theorem decR_scal (c : Int) (s : List Int) (hs : isBytes s) : AllS (decR c s).1 := by
 unfold decR
 split
 ·rename_i h
  have : c = 1 ∨ c = 2 ∨ c = 3 ∨ c = 4 ∨ c = 5 ∨ c = 6 ∨ c = 7 ∨ c = 8 ∨ c = 9 ∨ c = 10 := by omega
  rcases this with rfl | rfl | rfl | rfl | rfl | rfl | rfl | rfl | rfl | rfl
  ·exact scalV s hs
  ·exact scalH true s hs
  ·exact scalH false s hs
  ·exact scalW true s hs
  ·exact scalW false s hs
  ·exact scalEc s hs
  ·exact scalP s hs
  ·exact scalB s hs
  ·exact scalX s hs
  ·exact scalX s hs
 ·exact allS_nil
end Go.Proofs.YtmgnndnofbemeaaGreat
namespace Go.Proofs.YtmgnndnofbemeaaGreat
open Go.RowKit Go.Proofs.YtmgnndnofbemeaaGreatW.PrintWords
set_option linter.unusedVariables false
set_option linter.unusedSimpArgs false
def trR (a b : Int) (s : List Int) : List Int × Int × Int := if (1 ≤ a ∧ a ≤ 10) ∧ 1 ≤ b ∧ b ≤ 10 then ((encR b (decR a s).1).1, (decR a s).2) else ([], 11, 0)
set_option maxRecDepth 100000 in
set_option maxHeartbeats 4000000 in
theorem trans_yes (a b : Int) (ha : 1 ≤ a ∧ a ≤ 10) (hb : 1 ≤ b ∧ b ≤ 10) (s : ByteArray) (hs : s.size ≤ 4000) (hl : (decR a (bytesOf s)).1.length ≤ 400) (w : World) :
  Calls Tryz.prog 24 #[.int .i64 a, .int .i64 b, .string s] w fun e w' => e = .returned (.tuple #[.string (strOf (encR b (decR a (bytesOf s)).1).1), .agg #[.int .i64 (decR a (bytesOf s)).2.1, .int .i64 (decR a (bytesOf s)).2.2]]) ∧ Below w.heap.size w w' := by
 have HN1 := Lib.hid (fun W => name_calls a W)
 have HN2 := Lib.hid (fun W => name_calls b W)
 have h1 := name_some a ha.1 ha.2
 have h2 := name_some b hb.1 hb.2
 obtain ⟨M1, hM1⟩ : ∃ N, nameF a = N := ⟨_, rfl⟩
 obtain ⟨M2, hM2⟩ : ∃ N, nameF b = N := ⟨_, rfl⟩
 rw [hM1] at HN1 h1
 rw [hM2] at HN2 h2
 have d1 : decide (M1.toList = []) = false := decide_eq_false h1
 have d2 : decide (M2.toList = []) = false := decide_eq_false h2
 have i1 : M1.toList.isEmpty = false := by cases h : M1.toList with | nil => exact absurd h h1 | cons a r => rfl
 have i2 : M2.toList.isEmpty = false := by cases h : M2.toList with | nil => exact absurd h h2 | cons a r => rfl
 have hsc := decR_scal a (bytesOf s) (bytesOf_rng s)
 have HDEC := Lib.hid (fun W => dec_all a s hs W)
 obtain ⟨L, hL⟩ : ∃ L, (decR a (bytesOf s)).1 = L := ⟨_, rfl⟩
 obtain ⟨e1, he1⟩ : ∃ x, (decR a (bytesOf s)).2.1 = x := ⟨_, rfl⟩
 obtain ⟨a1, ha1⟩ : ∃ x, (decR a (bytesOf s)).2.2 = x := ⟨_, rfl⟩
 rw [hL] at hsc hl
 rw [hL, he1, ha1] at HDEC
 rw [hL, he1, ha1]
 have HDEC : Hid (∀ W : World, Calls Tryz.prog 14 #[.int .i64 a, .string s] W fun e w' => ∃ A c, e = .returned (.tuple #[.slice A L.length c, .agg #[.int .i64 e1, .int .i64 a1]]) ∧ (L.length ≤ c ∧ (A = none → c = 0)) ∧ ReadsInt w' .u32 A L.length L ∧ Below W.heap.size W w') := Lib.hid fun W => by
  refine (HDEC.out W).mono ?_
  rintro e w' ⟨v, rfl, hq, hbw⟩
  obtain ⟨A, c, rfl, k1, k2, k3⟩ := q_slice2 hq
  exact ⟨A, c, rfl, ⟨k1, k2⟩, k3, hbw⟩
 obtain ⟨T, hT⟩ : ∃ T, strOf (encR b L).1 = T := ⟨_, rfl⟩
 obtain ⟨ee, hee⟩ : ∃ x, (encR b L).2.1 = x := ⟨_, rfl⟩
 obtain ⟨ea, hea⟩ : ∃ x, (encR b L).2.2 = x := ⟨_, rfl⟩
 have HENC : Hid (∀ (W : World) (A : Option Addr) (c : Nat), (L.length ≤ c ∧ (A = none → c = 0)) → ReadsInt W .u32 A L.length L → Calls Tryz.prog 13 #[.int .i64 b, .slice A L.length c] W fun e w' => e = .returned (.tuple #[.string T, .agg #[.int .i64 ee, .int .i64 ea]]) ∧ Below W.heap.size W w') := Lib.hid fun W A c hc hr => by
  have h := enc_all b L (fun x hx => (hsc x hx).1) hl A c hc.1 hc.2 W hr
  rw [hT, hee, hea] at h
  exact h
 rw [hT]
 clear hM1 hM2 h1 h2 hT hL he1 ha1 hee hea hsc hl hs ha hb
 go_enter Tryz.func24, Tryz.ntmps24
 go_wp2_with fail
 refine (HN1.out _).mono ?_
 rintro e w1 ⟨rfl, hb1⟩
 have k7 := (Blk.new w 27 #[.int .i64 0, .int .i64 0]).below hb1
 have HB1 := Lib.hid (below_then (below_new (Below.refl _ _) _) hb1 (by simp))
 have K7 := Lib.hid k7
 clear hb1 k7 HN1
 go_wp2_with fail
 refine (HN2.out _).mono ?_
 rintro e w2 ⟨rfl, hb2⟩
 have HB2 := Lib.hid (below_next HB1.out hb2)
 have K7 := Lib.hid (K7.out.below hb2)
 clear hb2 HN2 HB1
 go_wp2_with fail
 refine (HDEC.out _).mono ?_
 rintro e w3 ⟨A, cp, rfl, hcp, hrd, hb3⟩
 have HB3 := Lib.hid (below_next HB2.out hb3)
 have K7 := Lib.hid (K7.out.below hb3)
 have HRD := Lib.hid hrd
 clear hb3 HB2 hrd
 go_upto_region 4 with fail
 obtain ⟨W3, hW3⟩ : ∃ W, w3.alloc (.cells #[.int .i64 e1, .int .i64 a1] 27 (0, 0)) = W := ⟨_, rfl⟩
 have k9 : Blk W3 w3.heap.size 27 #[.int .i64 e1, .int .i64 a1] := by rw [← hW3]; exact Blk.new w3 _ _
 have K7 : Hid (Blk W3 w.heap.size 27 #[.int .i64 0, .int .i64 0]) := Lib.hid (by rw [← hW3]; exact K7.out.alloc _)
 have hrd : ReadsInt W3 .u32 A L.length L := by rw [← hW3]; exact HRD.out.below (below_new (Below.refl _ _) _)
 have hd : Below w.heap.size w W3 := by rw [← hW3]; exact below_new HB3.out _
 rw [hW3]
 obtain ⟨g9, hg9⟩ : ∃ g, w3.heap.size = g := ⟨_, rfl⟩
 rw [hg9] at k9 ⊢
 have K9 := Lib.hid k9
 have HD := Lib.hid hd
 have HEN := Lib.hid (HENC.out W3 A cp hcp hrd)
 clear k9 hrd hd hW3 hg9 HRD HB3 HENC HDEC
 go_wp2_with fail
 refine HEN.out.mono ?_
 rintro e w4 ⟨rfl, hb4⟩
 have HD4 := Lib.hid (below_next HD.out hb4)
 have K7 := Lib.hid (K7.out.below hb4)
 have K9 := Lib.hid (K9.out.below hb4)
 clear hb4 HD HEN
 go_upto_region 5 with fail
 obtain ⟨W4, hW4⟩ : ∃ W, w4.alloc (.cells #[.int .i64 ee, .int .i64 ea] 27 (0, 0)) = W := ⟨_, rfl⟩
 have k9 : Blk W4 g9 27 #[.int .i64 e1, .int .i64 a1] := by rw [← hW4]; exact K9.out.alloc _
 have k7 : Blk W4 w.heap.size 27 #[.int .i64 0, .int .i64 0] := by rw [← hW4]; exact K7.out.alloc _
 have hd : Below w.heap.size w W4 := by rw [← hW4]; exact below_new HD4.out _
 rw [hW4]
 have b90 := k9.cell (i := 0) rfl
 have b91 := k9.cell (i := 1) rfl
 have b70 := k7.cell (i := 0) rfl
 have b71 := k7.cell (i := 1) rfl
 have f7 := k7.frozen
 have K7 := Lib.hid k7
 have HD := Lib.hid hd
 clear k9 k7 hd hW4 HD4 K9
 go_region
 go_wp2_with fail
 refine bodyPost_ret (results_list (rs := [.tmp 6, .cell 7 27]) rfl (by simp) (.tmp (.cell w.heap.size 27 #[.int .i64 e1, .int .i64 a1] (0, 0) _ rfl (by
   refine blk_drew ?_
   refine blk_put (cs := #[.int .i64 e1, .int .i64 0]) ?_ 1 _ rfl
   refine blk_put (cs := #[.int .i64 0, .int .i64 0]) ?_ 0 _ rfl
   exact K7.out) Tryz.underlying27 rfl (by kernel_rfl) .nil))) rfl ?_
 exact ⟨rfl, below_drewN' (below_set (below_set HD.out (Nat.le_refl _)) (Nat.le_refl _)) 1⟩
set_option maxRecDepth 100000 in
set_option maxHeartbeats 4000000 in
theorem trans_no (a b : Int) (h : ¬ ((1 ≤ a ∧ a ≤ 10) ∧ 1 ≤ b ∧ b ≤ 10)) (s : ByteArray) (w : World) :
  Calls Tryz.prog 24 #[.int .i64 a, .int .i64 b, .string s] w fun e w' => e = .returned (.tuple #[.string ⟨#[]⟩, .agg #[.int .i64 11, .int .i64 0]]) ∧ Below w.heap.size w w' := by
 have HN1 := Lib.hid (fun W => name_calls a W)
 have HN2 := Lib.hid (fun W => name_calls b W)
 by_cases ha : 1 ≤ a ∧ a ≤ 10
 ·have h1 := name_some a ha.1 ha.2
  have h2 := name_none b (by omega)
  obtain ⟨M1, hM1⟩ : ∃ N, nameF a = N := ⟨_, rfl⟩
  rw [hM1] at HN1 h1
  rw [h2] at HN2
  have d1 : decide (M1.toList = []) = false := decide_eq_false h1
  have i1 : M1.toList.isEmpty = false := by cases h : M1.toList with | nil => exact absurd h h1 | cons a r => rfl
  clear hM1 h1 h2 ha h
  go_enter Tryz.func24, Tryz.ntmps24
  go_wp2_with fail
  refine (HN1.out _).mono ?_
  rintro e w1 ⟨rfl, hb1⟩
  have HB1 := Lib.hid (below_then (below_new (Below.refl _ _) _) hb1 (by simp))
  have K7 := Lib.hid ((Blk.new w 27 #[.int .i64 0, .int .i64 0]).below hb1)
  clear hb1 HN1
  go_wp2_with fail
  refine (HN2.out _).mono ?_
  rintro e w2 ⟨rfl, hb2⟩
  have HB2 := Lib.hid (below_next HB1.out hb2)
  have k7 := K7.out.below hb2
  have b70 := k7.cell (i := 0) rfl
  have b71 := k7.cell (i := 1) rfl
  have f7 := k7.frozen
  have K7 := Lib.hid k7
  clear hb2 HN2 HB1 k7
  go_wp2_with fail
  refine bodyPost_ret (results_list (rs := [.tmp 6, .cell 7 27]) rfl (by simp) (.tmp (.cell w.heap.size 27 #[.int .i64 11, .int .i64 0] (0, 0) _ rfl (by
    refine blk_put (cs := #[.int .i64 11, .int .i64 0]) ?_ 1 _ rfl
    refine blk_put (cs := #[.int .i64 0, .int .i64 0]) ?_ 0 _ rfl
    exact K7.out) Tryz.underlying27 rfl (by kernel_rfl) .nil))) rfl ?_
  exact ⟨rfl, below_set (below_set HB2.out (Nat.le_refl _)) (Nat.le_refl _)⟩
 ·have h1 := name_none a (by omega)
  rw [h1] at HN1
  clear h1 ha h HN2
  go_enter Tryz.func24, Tryz.ntmps24
  go_wp2_with fail
  refine (HN1.out _).mono ?_
  rintro e w1 ⟨rfl, hb1⟩
  have HB1 := Lib.hid (below_then (below_new (Below.refl _ _) _) hb1 (by simp))
  have k7 := (Blk.new w 27 #[.int .i64 0, .int .i64 0]).below hb1
  have b70 := k7.cell (i := 0) rfl
  have b71 := k7.cell (i := 1) rfl
  have f7 := k7.frozen
  have K7 := Lib.hid k7
  clear hb1 HN1 k7
  go_wp2_with fail
  refine bodyPost_ret (results_list (rs := [.tmp 6, .cell 7 27]) rfl (by simp) (.tmp (.cell w.heap.size 27 #[.int .i64 11, .int .i64 0] (0, 0) _ rfl (by
    refine blk_put (cs := #[.int .i64 11, .int .i64 0]) ?_ 1 _ rfl
    refine blk_put (cs := #[.int .i64 0, .int .i64 0]) ?_ 0 _ rfl
    exact K7.out) Tryz.underlying27 rfl (by kernel_rfl) .nil))) rfl ?_
  exact ⟨rfl, below_set (below_set HB1.out (Nat.le_refl _)) (Nat.le_refl _)⟩
theorem trans_text (a b : Int) (s : ByteArray) (hs : s.size ≤ 4000) (hl : (decR a (bytesOf s)).1.length ≤ 400) (w : World) :
  Calls Tryz.prog 24 #[.int .i64 a, .int .i64 b, .string s] w fun e w' => e = .returned (.tuple #[.string (strOf (trR a b (bytesOf s)).1), .agg #[.int .i64 (trR a b (bytesOf s)).2.1, .int .i64 (trR a b (bytesOf s)).2.2]]) ∧ Below w.heap.size w w' := by
 unfold trR
 by_cases h : (1 ≤ a ∧ a ≤ 10) ∧ 1 ≤ b ∧ b ≤ 10
 ·rw [if_pos h]; exact trans_yes a b h.1 h.2 s hs hl w
 ·rw [if_neg h]; exact trans_no a b h s w
end Go.Proofs.YtmgnndnofbemeaaGreat
namespace Go.Proofs.YtmgnndnofbemeaaGreat
set_option linter.unusedVariables false
set_option linter.unusedSimpArgs false
theorem back_all (c : Int) (h0 : 1 ≤ c) (h1 : c ≤ 10) : BackN 500 (emOf c) (dmOf c) := by
 have : c = 1 ∨ c = 2 ∨ c = 3 ∨ c = 4 ∨ c = 5 ∨ c = 6 ∨ c = 7 ∨ c = 8 ∨ c = 9 ∨ c = 10 := by omega
 rcases this with rfl | rfl | rfl | rfl | rfl | rfl | rfl | rfl | rfl | rfl
 ·exact back8.n 500
 ·exact (back16 true).n 500
 ·exact (back16 false).n 500
 ·exact (back32 true).n 500
 ·exact (back32 false).n 500
 ·exact backEb.n 500
 ·exact backP
 ·exact backBo.n 500
 ·exact (backC false).n 500
 ·exact (backC true).n 500
theorem there_back (c : Int) (h0 : 1 ≤ c) (h1 : c ≤ 10) (l : List Int) (hl : AllS l) (hn : l.length ≤ 500) : (encR c l).2 = (0, 0) ∧ decR c (encR c l).1 = (l, 0, 0) := by
 have e : encR c l = (bytesE (emOf c) (emOf c).ini l, 0, 0) := by
  unfold encR
  rw [if_pos ⟨h0, h1⟩, runE_ok (emOf c) l _ 0 [] hl, List.nil_append]
 rw [e]
 refine ⟨rfl, ?_⟩
 unfold decR
 rw [if_pos ⟨h0, h1⟩]
 exact back_all c h0 h1 l hl hn
end Go.Proofs.YtmgnndnofbemeaaGreat
