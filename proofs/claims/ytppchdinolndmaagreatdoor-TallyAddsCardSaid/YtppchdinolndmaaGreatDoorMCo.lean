/- Joined texts: Co, Lq. -/
import Derived.Test.YtppchdinolndmaaGreatDoorMUstp
import Derived.Test.YtppchdinolndmaaGreatDoorMSb
import Derived.Test.YtppchdinolndmaaGreatDoorMEfg
import Derived.Test.YtppchdinolndmaaGreatDoorME16
import Derived.Test.YtppchdinolndmaaGreatDoorME32
import Derived.Test.YtppchdinolndmaaGreatDoorMKm
import Derived.Test.YtppchdinolndmaaGreatDoorMUsj
import Derived.Test.YtppchdinolndmaaGreatDoorMEb
import Derived.Test.YtppchdinolndmaaGreatDoorMVw
import Derived.Test.YtppchdinolndmaaGreatDoorMBit
import Derived.Deep.CutBlock
import Derived.Test.YtppchdinolndmaaGreatDoorMTb
import Derived.Test.YtppchdinolndmaaGreatDoorMUdn
import Derived.Test.YtppchdinolndmaaGreatDoorMHd
namespace Go.Proofs.YtppchdinolndmaaGreatDoor
open Go.RowKit Go.Proofs.YtppchdinolndmaaGreatDoorW.PrintWords
set_option linter.unusedVariables false
set_option linter.unusedSimpArgs false
def emOf (c : Int) : EMach := if c = 1 then E8 else if c = 2 then E16 true else if c = 3 then E16 false else if c = 4 then E32 true else if c = 5 then E32 false else if c = 6 then EEb else if c = 7 then EPn else if c = 8 then EBo else if c = 9 then CM false else CM true
structure HasE (c : Int) (M : EMach) : Prop where
 ex : ∃ tg fF fE Rep, EncK tg fF fE M Rep ∧ NewE c tg M Rep
 put5 : ∀ st x, (M.put st x).2.length ≤ 5
 bad5 : ∀ st, (M.bad st).length ≤ 5
 byt : ∀ (l : List Int) (p : Nat), (∀ x ∈ l, 0 ≤ x) → l.length ≤ 500 → (runE M M.ini l p []).1.length ≤ 9 * l.length + 9 ∧ isBytes (runE M M.ini l p []).1
theorem runE_len (M : EMach) (z : Nat) (h1 : ∀ st x, (M.put st x).2.length ≤ z) (h2 : ∀ st, (M.bad st).length ≤ z) (h3 : ∀ st, (M.fin st).length ≤ z) : ∀ (l : List Int) (st : M.St) (p : Nat) (acc : List Int), (runE M st l p acc).1.length ≤ acc.length + z * (l.length + 1)
 | [], st, p, acc => by
  have := h3 st
  show (acc ++ M.fin st).length ≤ _
  rw [List.length_append, List.length_nil]; omega
 | c :: r, st, p, acc => by
  have e : z * ((c :: r).length + 1) = z * (r.length + 1) + z := by rw [List.length_cons, Nat.mul_add z (r.length + 1) 1]; omega
  rw [runE, e]
  split
  ·have := runE_len M z h1 h2 h3 r (M.put st c).1 (p + 1) (acc ++ (M.put st c).2)
   have := h1 st c
   rw [List.length_append] at *
   omega
  ·have := h2 st
   show (acc ++ M.bad st).length ≤ _
   rw [List.length_append]; omega
theorem isBytes_append {a b : List Int} (ha : isBytes a) (hb : isBytes b) : isBytes (a ++ b) := fun x hx => (List.mem_append.1 hx).elim (ha x) (hb x)
theorem runE_bytes (M : EMach) (Q : M.St → Prop) (h1 : ∀ st x, Q st → 0 ≤ x → isScal x = true → Q (M.put st x).1 ∧ isBytes (M.put st x).2) (h2 : ∀ st, Q st → isBytes (M.bad st)) (h3 : ∀ st, Q st → isBytes (M.fin st)) :
  ∀ (l : List Int) (st : M.St) (p : Nat) (acc : List Int), (∀ x ∈ l, 0 ≤ x) → Q st → isBytes acc → isBytes (runE M st l p acc).1
 | [], st, p, acc, _, q, ha => isBytes_append ha (h3 st q)
 | c :: r, st, p, acc, hl, q, ha => by
  rw [runE]
  split
  ·rename_i hs
   obtain ⟨q1, b1⟩ := h1 st c q (hl c (List.mem_cons_self ..)) hs
   exact runE_bytes M Q h1 h2 h3 r _ _ _ (fun x hx => hl x (List.mem_cons_of_mem _ hx)) q1 (isBytes_append ha b1)
  ·exact isBytes_append ha (h2 st q)
theorem byt_of (M : EMach) (h1 : ∀ st x, (M.put st x).2.length ≤ 5) (h2 : ∀ st, (M.bad st).length ≤ 5) (h3 : ∀ st, (M.fin st).length ≤ 5) (Q : M.St → Prop) (q0 : Q M.ini) (k1 : ∀ st x, Q st → 0 ≤ x → isScal x = true → Q (M.put st x).1 ∧ isBytes (M.put st x).2) (k2 : ∀ st, Q st → isBytes (M.bad st)) (k3 : ∀ st, Q st → isBytes (M.fin st))
  (l : List Int) (p : Nat) (hl : ∀ x ∈ l, 0 ≤ x) : (runE M M.ini l p []).1.length ≤ 9 * l.length + 9 ∧ isBytes (runE M M.ini l p []).1 := by
 refine ⟨?_, runE_bytes M Q k1 k2 k3 l M.ini p [] hl q0 (fun x hx => by cases hx)⟩
 have := runE_len M 5 h1 h2 h3 l M.ini p []
 simp only [List.length_nil] at this
 omega
theorem nil_bytes : isBytes [] := fun x hx => by cases hx
theorem isB1 {a : Int} (h : 0 ≤ a ∧ a ≤ 255) : isBytes [a] := fun x hx => by rw [List.mem_singleton] at hx; rw [hx]; exact h
theorem isBc {a : Int} {l : List Int} (h : 0 ≤ a ∧ a ≤ 255) (hl : isBytes l) : isBytes (a :: l) := fun x hx => by
 rcases List.mem_cons.1 hx with e | e
 ·rw [e]; exact h
 ·exact hl x e
theorem bytes8_rng (c : Int) (h0 : 0 ≤ c) (h1 : c ≤ 1114111) : isBytes (bytes8 c) := by
 unfold bytes8
 intro x hx
 (repeat' split at hx) <;> simp only [List.mem_cons, List.not_mem_nil, or_false] at hx <;> omega
theorem unit16_rng (big : Bool) (u : Int) (h0 : 0 ≤ u) (h1 : u ≤ 65535) : isBytes (unit16 big u) := by
 unfold unit16
 intro x hx
 split at hx <;> simp only [List.mem_cons, List.not_mem_nil, or_false] at hx <;> omega
theorem bytes16_rng (big : Bool) (c : Int) (h0 : 0 ≤ c) (h1 : c ≤ 1114111) : isBytes (bytes16 big c) := by
 unfold bytes16
 split
 ·exact unit16_rng big c h0 (by omega)
 ·exact isBytes_append (unit16_rng big _ (by omega) (by omega)) (unit16_rng big _ (by omega) (by omega))
theorem bytes32_rng (big : Bool) (c : Int) (h0 : 0 ≤ c) (h1 : c ≤ 1114111) : isBytes (bytes32 big c) := by
 unfold bytes32
 intro x hx
 split at hx <;> simp only [List.mem_cons, List.not_mem_nil, or_false] at hx <;> omega
theorem permP_rng (x : Int) (h0 : 0 ≤ x) (h1 : x ≤ 255) : 0 ≤ permP x ∧ permP x ≤ 255 := by
 have h : ∀ n : Fin 256, 0 ≤ permP ((n.val : Nat) : Int) ∧ permP ((n.val : Nat) : Int) ≤ 255 := by decide +kernel
 have := h ⟨x.toNat, by omega⟩
 rwa [show ((x.toNat : Nat) : Int) = x by omega] at this
theorem bytesM_rng (c : Int) (h0 : 0 ≤ c) (h1 : c ≤ 1114111) : isBytes (bytesM c) := by
 unfold bytesM
 intro x hx
 (repeat' split at hx) <;> simp only [List.mem_cons, List.not_mem_nil, or_false] at hx <;> omega
theorem bytesOf_rng (s : ByteArray) : isBytes (bytesOf s) := by
 intro x hx
 unfold bytesOf at hx
 obtain ⟨b, _, rfl⟩ := List.mem_map.1 hx
 have := b.toNat_lt
 omega
theorem scal_top {c : Int} (h : isScal c = true) : c ≤ 1114111 := by unfold isScal at h; simp at h; omega
theorem hasE8 : HasE 1 E8 := ⟨⟨_, _, _, _, k8, newE1⟩, fun st c => Nat.le_trans (bytes8_len st c) (by decide), fun _ => Nat.zero_le _, fun l p hl _ => byt_of E8 (fun st c => Nat.le_trans (bytes8_len st c) (by decide)) (fun _ => Nat.zero_le _) (fun _ => Nat.zero_le _) (fun _ => True) trivial
 (fun _ x _ h0 h1 => ⟨trivial, bytes8_rng x h0 (scal_top h1)⟩) (fun _ _ => nil_bytes) (fun _ _ => nil_bytes) l p hl⟩
theorem hasE16 (c : Int) (big : Bool) (hn : NewE c 74 (E16 big) (Rep16 big)) : HasE c (E16 big) := ⟨⟨_, _, _, _, k16 big, hn⟩, fun st c => Nat.le_trans (bytes16_len big c) (by decide), fun _ => Nat.zero_le _, fun l p hl _ => byt_of (E16 big) (fun st c => Nat.le_trans (bytes16_len big c) (by decide)) (fun _ => Nat.zero_le _) (fun _ => Nat.zero_le _) (fun _ => True) trivial
 (fun _ x _ h0 h1 => ⟨trivial, bytes16_rng big x h0 (scal_top h1)⟩) (fun _ _ => nil_bytes) (fun _ _ => nil_bytes) l p hl⟩
theorem hasE32 (c : Int) (big : Bool) (hn : NewE c 76 (E32 big) (Rep32 big)) : HasE c (E32 big) := ⟨⟨_, _, _, _, k32 big, hn⟩, fun st c => Nat.le_trans (bytes32_len big st c) (by decide), fun _ => Nat.zero_le _, fun l p hl _ => byt_of (E32 big) (fun st c => Nat.le_trans (bytes32_len big st c) (by decide)) (fun _ => Nat.zero_le _) (fun _ => Nat.zero_le _) (fun _ => True) trivial
 (fun _ x _ h0 h1 => ⟨trivial, bytes32_rng big x h0 (scal_top h1)⟩) (fun _ _ => nil_bytes) (fun _ _ => nil_bytes) l p hl⟩
theorem bytesP_len (c : Int) : ((bytesM c).map permP).length ≤ 5 := by rw [List.length_map]; exact bytesM_len () c
theorem hasE6 : HasE 6 EEb := ⟨⟨_, _, _, _, kEb, newE6⟩, fun st c => bytesP_len c, fun _ => Nat.zero_le _, fun l p hl _ => byt_of EEb (fun st c => bytesP_len c) (fun _ => Nat.zero_le _) (fun _ => Nat.zero_le _) (fun _ => True) trivial
 (fun _ x _ h0 h1 => ⟨trivial, fun y hy => by
  have hy' : y ∈ (bytesM x).map permP := hy
  obtain ⟨b, hb, rfl⟩ := List.mem_map.1 hy'
  have := bytesM_rng x h0 (scal_top h1) b hb
  exact permP_rng b this.1 this.2⟩) (fun _ _ => nil_bytes) (fun _ _ => nil_bytes) l p hl⟩
theorem hasE8b : HasE 8 EBo := ⟨⟨_, _, _, _, kBo, newE8⟩, fun st c => Nat.le_trans (bytesBo_len st c) (by decide), fun _ => Nat.zero_le _, fun l p hl _ => byt_of EBo (fun st c => Nat.le_trans (bytesBo_len st c) (by decide)) (fun _ => Nat.zero_le _) (fun _ => Nat.zero_le _) (fun _ => True) trivial
 (fun st x _ h0 h1 => ⟨trivial, by
  show isBytes (putBo st x).2
  unfold putBo
  split
  ·intro y hy
   have hy' : y ∈ [x] := hy
   rw [List.mem_singleton] at hy'
   omega
  ·exact bytesOf_rng _⟩) (fun _ _ => nil_bytes) (fun _ _ => nil_bytes) l p hl⟩
theorem runE_puny : ∀ (l st : List Int) (p : Nat) (acc : List Int), (∀ x ∈ l, 0 ≤ x) → (∀ x ∈ st, 0 ≤ x ∧ x ≤ 1114111) → (runE EPn st l p acc).1 = acc ∨ ∃ ys, (∀ y ∈ ys, 0 ≤ y ∧ y ≤ 1114111) ∧ ys.length ≤ st.length + l.length ∧ (runE EPn st l p acc).1 = acc ++ textL ys
 | [], st, p, acc, _, hs => .inr ⟨st, hs, by simp, rfl⟩
 | c :: r, st, p, acc, hl, hs => by
  have e : runE EPn st (c :: r) p acc = if isScal c then runE EPn (st ++ [c]) r (p + 1) (acc ++ []) else (acc ++ [], 2, (p : Int)) := rfl
  rw [e]
  split
  ·rename_i hc
   have h0 := hl c (List.mem_cons_self ..)
   have := runE_puny r (st ++ [c]) (p + 1) (acc ++ []) (fun x hx => hl x (List.mem_cons_of_mem _ hx)) (fun x hx => by
    rcases List.mem_append.1 hx with h | h
    ·exact hs x h
    ·rw [List.mem_singleton] at h; rw [h]; exact ⟨h0, scal_top hc⟩)
   rw [List.append_nil] at this
   rw [List.append_nil]
   refine this.imp id fun ⟨ys, a, b, d⟩ => ⟨ys, a, ?_, d⟩
   rw [List.length_append, List.length_singleton] at b
   rw [List.length_cons]; omega
  ·exact .inl (List.append_nil acc)
theorem hasE7 : HasE 7 EPn := ⟨⟨_, _, _, _, kPE, newE7⟩, fun _ _ => Nat.zero_le _, fun _ => Nat.zero_le _, fun l p hl hn => by
 rcases runE_puny l [] p [] hl (fun x hx => by cases hx) with h | ⟨ys, h1, h2, h3⟩
 ·have e : (runE EPn EPn.ini l p []).1 = [] := h
  rw [e]
  exact ⟨Nat.zero_le _, nil_bytes⟩
 ·have e : (runE EPn EPn.ini l p []).1 = textL ys := h3
  rw [e]
  have hle : ys.length ≤ l.length := by simpa using h2
  have ht := (text_short ys (by omega) h1).2
  have hsz : (textP ys).size = (textL ys).length := by rw [← bytesOf_length, bytes_p ys h1]
  have hlh := low_high_len ys
  refine ⟨by omega, fun x hx => ?_⟩
  rw [← bytes_p ys h1] at hx
  exact bytesOf_rng _ x hx⟩
theorem simple_rng {st : SC} {c : Int} (h0 : 0 ≤ c) (h1 : c ≤ 1114111) : isBytes ((simpleF st c).getD []) := by
 unfold simpleF
 by_cases a : passesF c = true
 ·rw [if_pos a]
  have : c ≤ 255 := by unfold passesF at a; simp at a; omega
  exact isB1 ⟨h0, this⟩
 ·rw [if_neg a]
  by_cases b : c < 32
  ·rw [if_pos b]; exact isBc (by decide) (isB1 (by omega))
  ·rw [if_neg b]
   split
   ·rename_i hh
    have := holdsF_le hh
    exact isB1 (by omega)
   ·exact nil_bytes
theorem units_rng {c : Int} (h0 : 0 ≤ c) (h1 : c ≤ 1114111) : isBytes (unitsF c) := by
 unfold unitsF
 split
 ·exact isBc (by omega) (isBc (by omega) (isBc (by omega) (isB1 (by omega))))
 ·split
  ·exact isBc (by omega) (isBc (by omega) (isB1 (by omega)))
  ·exact isBc (by omega) (isB1 (by omega))
theorem lay_rng {st : SC} (hok : OKC st) {c x : Int} (h0 : 0 ≤ c) (h1 : c ≤ 1114111) (hx : x ≤ c ∧ c - x < 128) {ib pb : Int} (hi : 0 ≤ ib ∧ ib ≤ 240) (hp : 0 ≤ pb ∧ pb ≤ 255) (hix : c < 65536 → 0 ≤ (indexF c).getD 0 ∧ (indexF c).getD 0 ≤ 255) : isBytes (layB st c ib pb x) := by
 obtain ⟨w0, w1⟩ := hok.first
 unfold layB
 refine isBytes_append ?_ (isB1 (by omega))
 split
 ·exact isBc hp (isBc (by omega) (isB1 (by omega)))
 ·have := hix (by omega)
  exact isBc (by omega) (isB1 this)
theorem own_rng2 {c x : Int} (h0 : 0 ≤ c) (h : ownF c = some x) : (x ≤ c ∧ c - x < 128) ∧ (c < 65536 → 0 ≤ (indexF c).getD 0 ∧ (indexF c).getD 0 ≤ 255) := by
 obtain ⟨a, b, _, d⟩ := own_win h0 h
 exact ⟨⟨a, b⟩, fun hc => by obtain ⟨ix, e, _, f, g⟩ := d hc; rw [e]; exact ⟨f, g⟩⟩
theorem single_rng {st : SC} (hok : OKC st) {c : Int} (d : Int) (h0 : 0 ≤ c) (h1 : c ≤ 1114111) : isBytes (singleF st c d).2 := by
 have hs := simple_rng (st := st) h0 h1
 unfold singleF
 cases hsf : simpleF st c with
 | some b => rw [hsf] at hs; exact hs
 | none =>
  dsimp only
  cases hf : findF st.offs c with
  | some n =>
   obtain ⟨n8, hh⟩ := findN_lt st.offs c 8 n hf
   have := holdsF_le hh
   dsimp only
   split
   ·exact isBc (by omega) (isB1 (by omega))
   ·exact isBc (by omega) (isB1 (by omega))
  | none =>
   dsimp only
   split
   ·rename_i b1
    obtain ⟨n, hn⟩ := Option.isSome_iff_exists.1 b1.2
    obtain ⟨n1, n8, hh⟩ := stat_lt c 7 n (Nat.le_refl _) hn
    have hl := holdsF_le hh
    have hv : statV c = statics.getD n 0 := by unfold statV; rw [hn]
    rw [hn, hv]
    exact isBc (by rw [Option.getD_some]; omega) (isB1 (by omega))
   ·split
    ·rename_i b2
     obtain ⟨x, hx⟩ : ∃ x, ownF c = some x := b2.elim twins_own (fun h => own_high h.1)
     rw [hx]
     obtain ⟨a, b⟩ := own_rng2 h0 hx
     exact lay_rng hok h0 h1 a (by decide) (by decide) b
    ·split
     ·exact isBc (by decide) (isBc (by omega) (isB1 (by omega)))
     ·exact isBytes_append (a := [15]) (isB1 (by decide)) (units_rng h0 h1)
theorem work_rng {plain : Bool} {st : SC} (hok : OKC st) {c : Int} (d : Int) (h0 : 0 ≤ c) (h1 : c ≤ 1114111) : isBytes (workF plain st c d).2 := by
 have hok' := hok.work0
 unfold workF
 dsimp only
 split
 ·exact isBc (by decide) (isBc (by decide) (isB1 (by decide)))
 ·split
  ·split
   ·exact units_rng h0 h1
   ·have hs := simple_rng (st := { st with behind := true }) h0 h1
    cases hsf : simpleF { st with behind := true } c with
    | some b => rw [hsf] at hs; exact hs
    | none => exact isBytes_append (a := [15]) (isB1 (by decide)) (units_rng h0 h1)
  ·split
   ·exact single_rng hok' d h0 h1
   ·split
    ·have key : ∀ n : Int, 0 ≤ n → n < 8 → isBytes ([224 + n] ++ (simpleF { useF { st with behind := true } n with uni := false } c).getD []) := fun n a b =>
      isBytes_append (isB1 (by omega)) (simple_rng h0 h1)
     cases hf : findF st.offs c with
     | some n => have hn := (findN_lt st.offs c 8 n hf).1; exact key n (by omega) (by omega)
     | none => exact key _ hok.act.1 hok.act.2
    ·split
     ·rename_i hq
      obtain ⟨x, hx⟩ := twins_own hq
      rw [hx]
      obtain ⟨a, b⟩ := own_rng2 h0 hx
      exact lay_rng hok' h0 h1 a (by decide) (by decide) b
     ·exact units_rng h0 h1
theorem badC_rng {plain : Bool} {st : SC} (h : OKW st) : isBytes (badC plain st) := by
 unfold badC
 split
 ·exact nil_bytes
 ·rename_i hw
  have := h.wt.resolve_left hw
  exact work_rng h.ok NOC this.1 this.2
theorem hasE_C (c : Int) (plain : Bool) (hn : NewE c 84 (CM plain) (RepC plain)) : HasE c (CM plain) := ⟨⟨_, _, _, _, kC plain, hn⟩, put_len plain, badC_len plain, fun l p hl _ => byt_of (CM plain) (put_len plain) (badC_len plain) (badC_len plain) OKW ⟨OKC.ini, .inl rfl⟩
 (fun st x q h0 h1 => ⟨OKW.put q plain x h0 (scal_top h1), by
  show isBytes (putC plain st x).2
  unfold putC
  split
  ·exact nil_bytes
  ·rename_i hw
   have := q.wt.resolve_left hw
   exact work_rng q.ok x this.1 this.2⟩) (fun _ q => badC_rng q) (fun _ q => badC_rng q) l p hl⟩
theorem hasE (c : Int) (h0 : 1 ≤ c) (h1 : c ≤ 10) : HasE c (emOf c) := by
 have : c = 1 ∨ c = 2 ∨ c = 3 ∨ c = 4 ∨ c = 5 ∨ c = 6 ∨ c = 7 ∨ c = 8 ∨ c = 9 ∨ c = 10 := by omega
 rcases this with rfl | rfl | rfl | rfl | rfl | rfl | rfl | rfl | rfl | rfl
 ·exact hasE8
 ·exact hasE16 2 true newE2
 ·exact hasE16 3 false newE3
 ·exact hasE32 4 true newE4
 ·exact hasE32 5 false newE5
 ·exact hasE6
 ·exact hasE7
 ·exact hasE8b
 ·exact hasE_C 9 false newE9
 ·exact hasE_C 10 true newE10
def encR (c : Int) (l : List Int) : List Int × Int × Int := if 1 ≤ c ∧ c ≤ 10 then runE (emOf c) (emOf c).ini l 0 [] else ([], 11, 0)
set_option maxRecDepth 100000 in
theorem encode_no (c : Int) (h : c < 1 ∨ 10 < c) (A : Option Addr) (n cp : Nat) (w : World) : Calls Tryz.prog 18 #[.int .i64 c, .slice A n cp] w fun e w' => e = .returned (.tuple #[.string ⟨#[]⟩, .agg #[.int .i64 11, .int .i64 0]]) ∧ Below w.heap.size w w' := by
 have HN := Lib.hid (fun W => noE c h W)
 clear h
 go_enter Tryz.func18, Tryz.ntmps18
 go_wp2_with (go_at_call 30; refine (HN.out _).mono ?_; rintro e w' ⟨rfl, rfl⟩)
 refine bodyPost_ret (v := .tuple #[.string ⟨#[]⟩, .agg #[.int .i64 11, .int .i64 0]]) (by simp [results, Tryz.results18, go_sem]; try rfl) rfl ?_
 exact ⟨rfl, below_new (Below.refl _ _) _⟩
theorem enc_all (c : Int) (l : List Int) (hsc : ∀ x ∈ l, 0 ≤ x) (hl : l.length ≤ 400) (A : Option Addr) (cp : Nat) (hcp : l.length ≤ cp) (hA : A = none → cp = 0) (w : World) (hr : ReadsInt w .u32 A l.length l) :
  Calls Tryz.prog 18 #[.int .i64 c, .slice A l.length cp] w fun e w' => e = .returned (.tuple #[.string (strOf (encR c l).1), .agg #[.int .i64 (encR c l).2.1, .int .i64 (encR c l).2.2]]) ∧ Below w.heap.size w w' := by
 by_cases h : 1 ≤ c ∧ c ≤ 10
 ·have he := hasE c h.1 h.2
  obtain ⟨tg, fF, fE, Rep, K, HN⟩ := he.ex
  have := (he.byt l 0 hsc (by omega)).1
  have := encode_c K HN 5 he.put5 he.bad5 l hsc (by omega) (by omega) (by omega) A cp hcp hA w hr
  unfold encR
  rw [if_pos h]
  exact this
 ·unfold encR
  rw [if_neg h]
  exact encode_no c (by omega) A l.length cp w
theorem q_slice2 {w : World} {base : Nat} {v : Value} {xs : List Int} (h : QRow w base 24 1 v xs.length (nums .u32 xs)) : ∃ A c, v = .slice A xs.length c ∧ xs.length ≤ c ∧ (A = none → c = 0) ∧ ReadsInt w .u32 A xs.length xs := by
 rcases h.2 with ⟨h0, A, rfl, _⟩ | ⟨g, off, cap, cur, rfl, hg, hr⟩
 ·refine ⟨A, 0, ?_, by omega, fun _ => rfl, q_reads (base := base) (e := 24) (c := 0) ?_⟩
  ·rw [h0]
  ·rw [h0] at h ⊢; exact h
 ·exact ⟨_, cap, rfl, hr.2.1, fun hn => (by cases hn), q_reads (c := cap) h⟩
theorem q_empty (w : World) (B : Nat) (hB : B ≤ w.heap.size) : QRow (w.alloc (.cells #[] 24 (0, 0))) B 24 1 (.slice (some ⟨w.heap.size, 0, none⟩) 0 0) ([] : List Int).length (nums .u32 []) :=
 ⟨rfl, .inl ⟨rfl, some ⟨w.heap.size, 0, none⟩, rfl, fun a h => by injection h with h; subst h; exact ⟨hB, #[], Blk.new w 24 #[]⟩⟩⟩
end Go.Proofs.YtppchdinolndmaaGreatDoor
