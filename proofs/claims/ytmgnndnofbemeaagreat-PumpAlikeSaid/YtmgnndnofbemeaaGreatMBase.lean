/- Joined texts: Base, Md, Qe. -/
import Derived.Test.YtmgnndnofbemeaaGreatProg
import Derived.WalkKit
import Derived.WalkLawsBesides
import Derived.KernelRfl
import Derived.Deep.LoopGhost
import Derived.Deep.QuietTactic
import Derived.BigQuiet
import Derived.Lib.Hide
namespace Go.Proofs.YtmgnndnofbemeaaGreat
open Go.RowKit
set_option linter.unusedVariables false
set_option linter.unusedSimpArgs false
theorem below_then {B : Nat} {w w1 w2 : World} (h : Below B w w1) (k : Below w1.heap.size w1 w2) (hB : B ≤ w1.heap.size) : Below B w w2 :=
 h.trans (k.mono hB)
theorem below_next {w w1 w2 : World} (h : Below w.heap.size w w1) (k : Below w1.heap.size w1 w2) : Below w.heap.size w w2 :=
 below_then h k h.size
theorem below_new {w w1 : World} (h : Below w.heap.size w w1) (o : Obj) : Below w.heap.size w (w1.alloc o) := h.alloc h.size o
theorem below_drewN' {B : Nat} {w w1 : World} (h : Below B w w1) (n : Nat) : Below B w (w1.drewN n) := ⟨h.os, h.tape, h.output, h.size, h.block⟩
end Go.Proofs.YtmgnndnofbemeaaGreat
namespace Go.Proofs.YtmgnndnofbemeaaGreat
set_option linter.unusedVariables false
set_option linter.unusedSimpArgs false
structure DMach where
 St : Type
 ini : St
 next : St → Int → Option (St × List Int)
 fin : St → Option (List Int)
structure DSt (M : DMach) where
 pos : Nat
 err : Int
 fat : Int
 en : Bool
 held : List Int
 st : M.St
def DSt.going {M : DMach} (d : DSt M) : Bool := d.err == 0 && !d.en
def DSt.new (M : DMach) : DSt M := ⟨0, 0, 0, false, [], M.ini⟩
def feedD (M : DMach) (room : Int) : List Int → DSt M → Nat × DSt M
 | [], d => (0, d)
 | b :: r, d =>
  if (d.held.length : Int) < room ∧ d.err = 0 ∧ d.en = false then
   match M.next d.st b with
   | none => (0, { d with err := 3, fat := d.pos })
   | some (s, l) => ((feedD M room r { d with pos := d.pos + 1, held := d.held ++ l, st := s }).1 + 1, (feedD M room r { d with pos := d.pos + 1, held := d.held ++ l, st := s }).2)
  else (0, d)
def endD (M : DMach) (d : DSt M) : DSt M :=
 if d.err = 0 ∧ d.en = false then
  match M.fin d.st with
  | none => { d with err := 4, fat := d.pos }
  | some l => { d with held := d.held ++ l, en := true }
 else d
def runD (M : DMach) : M.St → List Int → Nat → List Int → List Int × Int × Int
 | st, [], p, acc => match M.fin st with
  | none => (acc, 4, p)
  | some l => (acc ++ l, 0, 0)
 | st, b :: r, p, acc => match M.next st b with
  | none => (acc, 3, p)
  | some (s, l) => runD M s r (p + 1) (acc ++ l)
theorem feedD_le (M : DMach) (room : Int) : ∀ (l : List Int) (d : DSt M), (feedD M room l d).1 ≤ l.length
 | [], d => Nat.le_refl _
 | b :: r, d => by
  unfold feedD
  split
  ·split
   ·exact Nat.zero_le _
   ·exact Nat.succ_le_succ (feedD_le M room r _)
  ·exact Nat.zero_le _
theorem feedD_pos (M : DMach) (room : Int) : ∀ (l : List Int) (d : DSt M), (feedD M room l d).2.pos = d.pos + (feedD M room l d).1
 | [], d => rfl
 | b :: r, d => by
  unfold feedD
  split
  ·split
   ·rfl
   ·have := feedD_pos M room r
    simp only [this]; omega
  ·rfl
def DSt.drop {M : DMach} (d : DSt M) (k : Nat) : DSt M := { d with held := d.held.drop k }
theorem endD_pos (M : DMach) (d : DSt M) : (endD M d).pos = d.pos := by
 unfold endD
 split
 ·split <;> rfl
 ·rfl
structure FD (M : DMach) (room : Int) (l : List Int) (d0 : DSt M) (k : Nat) (d : DSt M) : Prop where
 le : k ≤ l.length
 pos : d.pos = d0.pos + k
 held : d.held.length ≤ d0.held.length + k
 eq : feedD M room l d0 = (k + (feedD M room (l.drop k) d).1, (feedD M room (l.drop k) d).2)
theorem FD.start (M : DMach) (room : Int) (l : List Int) (d0 : DSt M) : FD M room l d0 0 d0 := ⟨Nat.zero_le _, rfl, by omega, by rw [List.drop_zero]; simp⟩
theorem FD.stop {M : DMach} {room : Int} {l : List Int} {d0 d : DSt M} {k : Nat} (h : FD M room l d0 k d) (hs : ¬ ((d.held.length : Int) < room ∧ d.err = 0 ∧ d.en = false)) : feedD M room l d0 = (k, d) := by
 rw [h.eq]
 cases hd : l.drop k with
 | nil => rfl
 | cons c r => rw [feedD, if_neg hs]; rfl
theorem FD.all {M : DMach} {room : Int} {l : List Int} {d0 d : DSt M} {k : Nat} (h : FD M room l d0 k d) (hs : ¬ k < l.length) : feedD M room l d0 = (k, d) := by
 rw [h.eq, List.drop_eq_nil_of_le (by omega)]; rfl
theorem drop_consD (l : List Int) (k : Nat) (h : k < l.length) : l.drop k = l.getD k 0 :: l.drop (k + 1) := by
 rw [List.drop_eq_getElem_cons h, List.getD_eq_getElem?_getD, List.getElem?_eq_getElem h]; rfl
theorem FD.bad {M : DMach} {room : Int} {l : List Int} {d0 d : DSt M} {k : Nat} (h : FD M room l d0 k d) (hk : k < l.length) (hg : (d.held.length : Int) < room ∧ d.err = 0 ∧ d.en = false) (hn : M.next d.st (l.getD k 0) = none) :
  feedD M room l d0 = (k, { d with err := 3, fat := d.pos }) := by
 rw [h.eq, drop_consD l k hk, feedD, if_pos hg, hn]; rfl
theorem FD.eat {M : DMach} {room : Int} {l : List Int} {d0 d : DSt M} {k : Nat} (h : FD M room l d0 k d) (hk : k < l.length) (hg : (d.held.length : Int) < room ∧ d.err = 0 ∧ d.en = false) {s : M.St} {q : List Int} (hn : M.next d.st (l.getD k 0) = some (s, q)) (hq : q.length ≤ 1) :
  FD M room l d0 (k + 1) { d with pos := d.pos + 1, held := d.held ++ q, st := s } := by
 refine ⟨hk, by show d.pos + 1 = _; rw [h.pos]; omega, ?_, ?_⟩
 ·show (d.held ++ q).length ≤ _
  have := h.held
  rw [List.length_append]; omega
 ·rw [h.eq, drop_consD l k hk, feedD, if_pos hg, hn]
  refine Prod.ext ?_ rfl
  show k + (_ + 1) = k + 1 + _
  omega
structure EMach where
 St : Type
 ini : St
 put : St → Int → St × List Int
 bad : St → List Int
 fin : St → List Int
structure ESt (M : EMach) where
 pos : Nat
 err : Int
 fat : Int
 en : Bool
 kept : List Int
 st : M.St
def ESt.new (M : EMach) : ESt M := ⟨0, 0, 0, false, [], M.ini⟩
def isScal (c : Int) : Bool := decide (c ≤ 1114111) && !(decide (55296 ≤ c) && decide (c ≤ 57343))
def giveZ (room : Int) (n : Nat) : Nat := min room.toNat n
def feedE (M : EMach) (room : Int) : List Int → ESt M → List Int → Nat × List Int × ESt M
 | [], e, out => (0, out, e)
 | c :: r, e, out =>
  if e.kept = [] ∧ e.err = 0 ∧ e.en = false then
   if isScal c then
    let b := (M.put e.st c).2
    let k := giveZ (room - out.length) b.length
    let q := feedE M room r { e with pos := e.pos + 1, kept := b.drop k, st := (M.put e.st c).1 } (out ++ b.take k)
    (q.1 + 1, q.2)
   else
    let b := M.bad e.st
    let k := giveZ (room - out.length) b.length
    (0, out ++ b.take k, { e with err := 2, fat := e.pos, kept := b.drop k })
  else (0, out, e)
def endE (M : EMach) (e : ESt M) : ESt M :=
 if e.err = 0 ∧ e.en = false then { e with kept := e.kept ++ M.fin e.st, en := true } else e
def runE (M : EMach) : M.St → List Int → Nat → List Int → List Int × Int × Int
 | st, [], p, acc => (acc ++ M.fin st, 0, 0)
 | st, c :: r, p, acc => if isScal c then runE M (M.put st c).1 r (p + 1) (acc ++ (M.put st c).2) else (acc ++ M.bad st, 2, p)
def ESt.going {M : EMach} (d : ESt M) : Bool := d.err == 0 && !d.en
def ESt.drop {M : EMach} (d : ESt M) (k : Nat) : ESt M := { d with kept := d.kept.drop k }
theorem feedE_le (M : EMach) (room : Int) : ∀ (l : List Int) (e : ESt M) (out : List Int), (feedE M room l e out).1 ≤ l.length
 | [], e, out => Nat.le_refl _
 | c :: r, e, out => by
  unfold feedE
  split
  ·split
   ·exact Nat.succ_le_succ (feedE_le M room r _ _)
   ·exact Nat.zero_le _
  ·exact Nat.zero_le _
theorem feedE_pos (M : EMach) (room : Int) : ∀ (l : List Int) (e : ESt M) (out : List Int), (feedE M room l e out).2.2.pos = e.pos + (feedE M room l e out).1
 | [], e, out => rfl
 | c :: r, e, out => by
  unfold feedE
  split
  ·split
   ·have := feedE_pos M room r
    simp only [this]; omega
   ·rfl
  ·rfl
structure FE (M : EMach) (z : Nat) (room : Int) (l : List Int) (d0 : ESt M) (out0 : List Int) (k : Nat) (d : ESt M) (o : List Int) : Prop where
 le : k ≤ l.length
 pos : d.pos = d0.pos + k
 out : o.length ≤ out0.length + z * k
 kept : d.kept.length ≤ d0.kept.length + z
 eq : feedE M room l d0 out0 = (k + (feedE M room (l.drop k) d o).1, (feedE M room (l.drop k) d o).2)
theorem FE.start (M : EMach) (z : Nat) (room : Int) (l : List Int) (d0 : ESt M) (out0 : List Int) : FE M z room l d0 out0 0 d0 out0 :=
 ⟨Nat.zero_le _, rfl, by omega, by omega, by rw [List.drop_zero]; simp⟩
theorem FE.stop {M : EMach} {z : Nat} {room : Int} {l : List Int} {d0 d : ESt M} {out0 o : List Int} {k : Nat} (h : FE M z room l d0 out0 k d o) (hs : ¬ (d.kept = [] ∧ d.err = 0 ∧ d.en = false)) : feedE M room l d0 out0 = (k, o, d) := by
 rw [h.eq]
 cases hd : l.drop k with
 | nil => rfl
 | cons c r => rw [feedE, if_neg hs]; rfl
theorem FE.all {M : EMach} {z : Nat} {room : Int} {l : List Int} {d0 d : ESt M} {out0 o : List Int} {k : Nat} (h : FE M z room l d0 out0 k d o) (hs : ¬ k < l.length) : feedE M room l d0 out0 = (k, o, d) := by
 rw [h.eq, List.drop_eq_nil_of_le (by omega)]; rfl
theorem drop_cons (l : List Int) (k : Nat) (h : k < l.length) : l.drop k = l.getD k 0 :: l.drop (k + 1) := by
 rw [List.drop_eq_getElem_cons h, List.getD_eq_getElem?_getD, List.getElem?_eq_getElem h]; rfl
theorem FE.bad {M : EMach} {z : Nat} {room : Int} {l : List Int} {d0 d : ESt M} {out0 o : List Int} {k : Nat} (h : FE M z room l d0 out0 k d o) (hk : k < l.length) (hg : d.kept = [] ∧ d.err = 0 ∧ d.en = false) (hs : isScal (l.getD k 0) = false) :
  feedE M room l d0 out0 = (k, o ++ (M.bad d.st).take (giveZ (room - o.length) (M.bad d.st).length), { d with err := 2, fat := d.pos, kept := (M.bad d.st).drop (giveZ (room - o.length) (M.bad d.st).length) }) := by
 rw [h.eq, drop_cons l k hk, feedE, if_pos hg, if_neg (by rw [hs]; decide)]
 rfl
theorem FE.bad0 {M : EMach} {z : Nat} {room : Int} {l : List Int} {d0 d : ESt M} {out0 o : List Int} {k : Nat} (h : FE M z room l d0 out0 k d o) (hb : M.bad d.st = []) (hk : k < l.length) (hg : d.kept = [] ∧ d.err = 0 ∧ d.en = false) (hs : isScal (l.getD k 0) = false) :
  feedE M room l d0 out0 = (k, o, { d with err := 2, fat := d.pos }) := by
 rw [h.bad hk hg hs, hb]
 simp [hg.1]
theorem FE.eat {M : EMach} {z : Nat} {room : Int} {l : List Int} {d0 d : ESt M} {out0 o : List Int} {k : Nat} (h1 : ∀ st c, (M.put st c).2.length ≤ z) (h : FE M z room l d0 out0 k d o) (hk : k < l.length) (hg : d.kept = [] ∧ d.err = 0 ∧ d.en = false) (hs : isScal (l.getD k 0) = true) :
  FE M z room l d0 out0 (k + 1) { d with pos := d.pos + 1, kept := (M.put d.st (l.getD k 0)).2.drop (giveZ (room - o.length) (M.put d.st (l.getD k 0)).2.length), st := (M.put d.st (l.getD k 0)).1 }
   (o ++ (M.put d.st (l.getD k 0)).2.take (giveZ (room - o.length) (M.put d.st (l.getD k 0)).2.length)) := by
 have hb := h1 d.st (l.getD k 0)
 refine ⟨hk, by show d.pos + 1 = _; rw [h.pos]; omega, ?_, ?_, ?_⟩
 ·have := h.out
  rw [List.length_append, List.length_take, Nat.mul_succ]; omega
 ·show (List.drop _ _).length ≤ _
  rw [List.length_drop]; omega
 ·rw [h.eq, drop_cons l k hk, feedE, if_pos hg, if_pos hs]
  refine Prod.ext ?_ rfl
  show k + (_ + 1) = k + 1 + _
  omega
theorem endE_pos (M : EMach) (e : ESt M) : (endE M e).pos = e.pos := by
 unfold endE
 split <;> rfl
structure InvE (M : EMach) (R : List Int × Int × Int) (e : ESt M) (s o : List Int) : Prop where
 go : e.err = 0 ∧ e.en = false → runE M e.st s e.pos (o ++ e.kept) = R
 no : ¬ (e.err = 0 ∧ e.en = false) → R = (o ++ e.kept, e.err, e.fat)
 fat : e.err = 0 → e.fat = 0
theorem InvE.new (M : EMach) (s : List Int) : InvE M (runE M M.ini s 0 []) (ESt.new M) s [] :=
 ⟨fun _ => rfl, fun h => absurd ⟨rfl, rfl⟩ h, fun _ => rfl⟩
theorem take_drop3 (o out b : List Int) (k : Nat) : o ++ (out ++ b.take k) ++ b.drop k = o ++ out ++ b := by
 rw [← List.append_assoc, List.append_assoc (o ++ out), List.take_append_drop]
theorem InvE.feed {M : EMach} {R : List Int × Int × Int} (room : Int) {o : List Int} : ∀ (part rest : List Int) {e : ESt M} (out : List Int), InvE M R e (part ++ rest) (o ++ out) →
  InvE M R (feedE M room part e out).2.2 ((part ++ rest).drop (feedE M room part e out).1) (o ++ (feedE M room part e out).2.1)
 | [], rest, e, out, h => by simpa [feedE] using h
 | c :: r, rest, e, out, h => by
  unfold feedE
  by_cases hc : e.kept = [] ∧ e.err = 0 ∧ e.en = false
  ·rw [if_pos hc]
   have hg := h.go hc.2
   rw [List.cons_append, runE, hc.1, List.append_nil] at hg
   by_cases hs : isScal c = true
   ·rw [if_pos hs] at hg ⊢
    obtain ⟨k, hk⟩ : ∃ k, giveZ (room - out.length) (M.put e.st c).2.length = k := ⟨_, rfl⟩
    simp only [hk]
    have h2 : InvE M R { e with pos := e.pos + 1, kept := (M.put e.st c).2.drop k, st := (M.put e.st c).1 } (r ++ rest) (o ++ (out ++ (M.put e.st c).2.take k)) :=
     ⟨fun _ => (show runE M (M.put e.st c).1 (r ++ rest) (e.pos + 1) (o ++ (out ++ (M.put e.st c).2.take k) ++ (M.put e.st c).2.drop k) = R from by rw [take_drop3]; exact hg), fun h => absurd hc.2 h, h.fat⟩
    have ih := InvE.feed room r rest (out ++ (M.put e.st c).2.take k) h2
    simpa using ih
   ·rw [if_neg hs] at hg ⊢
    obtain ⟨k, hk⟩ : ∃ k, giveZ (room - out.length) (M.bad e.st).length = k := ⟨_, rfl⟩
    simp only [hk]
    refine ⟨fun h => absurd h.1 (show ¬ ((2 : Int) = 0) by decide), fun _ => ?_, fun h => absurd h (show ¬ ((2 : Int) = 0) by decide)⟩
    show R = (o ++ (out ++ (M.bad e.st).take k) ++ (M.bad e.st).drop k, 2, (e.pos : Int))
    rw [take_drop3]
    exact hg.symm
  ·rw [if_neg hc]
   simpa using h
theorem InvE.fin {M : EMach} {R : List Int × Int × Int} {e : ESt M} {o : List Int} (h : InvE M R e [] o) : InvE M R (endE M e) [] o := by
 unfold endE
 by_cases hg : e.err = 0 ∧ e.en = false
 ·rw [if_pos hg]
  have h1 := h.go hg
  rw [runE] at h1
  refine ⟨fun h => absurd h.2 (show ¬ (true = false) by decide), fun _ => ?_, h.fat⟩
  show R = (o ++ (e.kept ++ M.fin e.st), e.err, e.fat)
  rw [h.fat hg.1, hg.1, ← List.append_assoc]
  exact h1.symm
 ·rw [if_neg hg]; exact h
theorem endE_not (M : EMach) (e : ESt M) : ¬ ((endE M e).err = 0 ∧ (endE M e).en = false) := by
 unfold endE
 by_cases hg : e.err = 0 ∧ e.en = false
 ·rw [if_pos hg]; exact fun h => absurd h.2 (show ¬ (true = false) by decide)
 ·rw [if_neg hg]; exact hg
theorem runE_lenQ (M : EMach) : ∀ (s : List Int) (st : M.St) (p : Nat) (acc : List Int), acc.length ≤ (runE M st s p acc).1.length
 | [], st, p, acc => by
  rw [runE]
  show acc.length ≤ (acc ++ M.fin st).length
  rw [List.length_append]; omega
 | c :: r, st, p, acc => by
  rw [runE]
  by_cases hs : isScal c = true
  ·rw [if_pos hs]
   have := runE_lenQ M r (M.put st c).1 (p + 1) (acc ++ (M.put st c).2)
   rw [List.length_append] at this
   omega
  ·rw [if_neg hs]
   show acc.length ≤ (acc ++ M.bad st).length
   rw [List.length_append]; omega
theorem InvE.len {M : EMach} {R : List Int × Int × Int} {e : ESt M} {s o : List Int} (h : InvE M R e s o) : o.length + e.kept.length ≤ R.1.length := by
 rw [← List.length_append]
 by_cases hg : e.err = 0 ∧ e.en = false
 ·rw [← h.go hg]; exact runE_lenQ ..
 ·rw [h.no hg]; exact Nat.le_refl _
theorem InvE.tell {M : EMach} {R : List Int × Int × Int} {e : ESt M} {s o : List Int} (h : InvE M R e s o) (m : Nat) : InvE M R (e.drop m) s (o ++ e.kept.take m) := by
 have q : (o ++ e.kept.take m) ++ e.kept.drop m = o ++ e.kept := by rw [List.append_assoc, List.take_append_drop]
 exact ⟨fun hg => by show runE M e.st s e.pos ((o ++ e.kept.take m) ++ e.kept.drop m) = R; rw [q]; exact h.go hg, fun hg => by show R = ((o ++ e.kept.take m) ++ e.kept.drop m, e.err, e.fat); rw [q]; exact h.no hg, h.fat⟩
def muE {M : EMach} (C : Nat) (R : List Int × Int × Int) (k : Nat) (e : ESt M) (s o : List Int) : Nat :=
 (C - k) + s.length + (R.1.length - o.length) + if e.err = 0 ∧ e.en = false then 1 else 0
theorem feedE_not (M : EMach) (room : Int) (part : List Int) (e : ESt M) (out : List Int) (h : ¬ (e.err = 0 ∧ e.en = false)) : feedE M room part e out = (0, out, e) := by
 cases part with
 | nil => rfl
 | cons b r => rw [feedE, if_neg (fun hc => h hc.2)]
theorem feedE_off (M : EMach) (room : Int) : ∀ (part : List Int) (e : ESt M) (out : List Int), (feedE M room part e out).2.2.err = 0 ∧ (feedE M room part e out).2.2.en = false → e.err = 0 ∧ e.en = false
 | [], e, out, h => h
 | b :: r, e, out, h => by
  by_cases hg : e.err = 0 ∧ e.en = false
  ·exact hg
  ·rw [feedE_not M room _ e out hg] at h; exact h
theorem feedE_outQ (M : EMach) (room : Int) : ∀ (part : List Int) (e : ESt M) (out : List Int), out.length ≤ (feedE M room part e out).2.1.length
 | [], e, out => Nat.le_refl _
 | c :: r, e, out => by
  unfold feedE
  split
  ·split
   ·have := feedE_outQ M room r { e with pos := e.pos + 1, kept := (M.put e.st c).2.drop (giveZ (room - out.length) (M.put e.st c).2.length), st := (M.put e.st c).1 } (out ++ (M.put e.st c).2.take (giveZ (room - out.length) (M.put e.st c).2.length))
    rw [List.length_append] at this
    simp only
    omega
   ·simp only [List.length_append]; omega
  ·exact Nat.le_refl _
def stepE (M : EMach) (room : Int) (part : List Int) (e : ESt M) : Nat × List Int × ESt M := feedE M room part (e.drop (giveZ room e.kept.length)) (e.kept.take (giveZ room e.kept.length))
theorem stepE_le (M : EMach) (room : Int) (part : List Int) (e : ESt M) : (stepE M room part e).1 ≤ part.length := feedE_le ..
theorem stepE_pos (M : EMach) (room : Int) (part : List Int) (e : ESt M) : (stepE M room part e).2.2.pos = e.pos + (stepE M room part e).1 := feedE_pos ..
theorem muE_step {M : EMach} {R : List Int × Int × Int} {C k m : Nat} {room : Int} {e e1 : ESt M} {s o : List Int} (h : InvE M R e s o) (hr : 1 ≤ room) (hm : C ≤ k → m = s.length) (hnd : ¬ (¬ (e.err = 0 ∧ e.en = false) ∧ e.kept = []))
  (hd : e1 = if s = [] then endE M e else e) :
  InvE M R (stepE M room (s.take m) e1).2.2 (s.drop (stepE M room (s.take m) e1).1) (o ++ (stepE M room (s.take m) e1).2.1) ∧
  muE C R (k + 1) (stepE M room (s.take m) e1).2.2 (s.drop (stepE M room (s.take m) e1).1) (o ++ (stepE M room (s.take m) e1).2.1) + 1 ≤ muE C R k e s o := by
 have h1 : InvE M R e1 s o := by
  rw [hd]
  split
  ·rename_i he; rw [he] at h ⊢; exact h.fin
  ·exact h
 have h2 := InvE.feed room (s.take m) (s.drop m) (e := e1.drop (giveZ room e1.kept.length)) (e1.kept.take (giveZ room e1.kept.length)) (o := o) (R := R) (by rw [List.take_append_drop]; exact h1.tell _)
 rw [List.take_append_drop] at h2
 have hoff : (stepE M room (s.take m) e1).2.2.err = 0 ∧ (stepE M room (s.take m) e1).2.2.en = false → e1.err = 0 ∧ e1.en = false := fun hf => feedE_off M room (s.take m) (e1.drop (giveZ room e1.kept.length)) _ hf
 have hon : e1.err = 0 ∧ e1.en = false → e.err = 0 ∧ e.en = false := by
  rw [hd]
  split
  ·exact fun h => absurd h (endE_not M e)
  ·exact id
 have hle := stepE_le M room (s.take m) e1
 have hlt : (s.take m).length ≤ s.length := by rw [List.length_take]; omega
 have hout : min e1.kept.length (giveZ room e1.kept.length) ≤ (stepE M room (s.take m) e1).2.1.length := by
  have := feedE_outQ M room (s.take m) (e1.drop (giveZ room e1.kept.length)) (e1.kept.take (giveZ room e1.kept.length))
  rw [List.length_take] at this
  exact Nat.le_trans (by omega) this
 have hR := h2.len
 have hRl := h.len
 have h2' : InvE M R (stepE M room (s.take m) e1).2.2 (s.drop (stepE M room (s.take m) e1).1) (o ++ (stepE M room (s.take m) e1).2.1) := h2
 refine ⟨h2', ?_⟩
 have hR' := h2'.len
 have hprog : C ≤ k → 1 ≤ (stepE M room (s.take m) e1).1 ∨ 1 ≤ (stepE M room (s.take m) e1).2.1.length ∨ ((e.err = 0 ∧ e.en = false) ∧ ¬ ((stepE M room (s.take m) e1).2.2.err = 0 ∧ (stepE M room (s.take m) e1).2.2.en = false)) := by
  intro hk
  by_cases hk1 : e1.kept = []
  ·by_cases hg : e.err = 0 ∧ e.en = false
   ·cases s with
    | nil =>
     rw [if_pos rfl] at hd
     refine .inr (.inr ⟨hg, fun hf => ?_⟩)
     have := hoff hf
     rw [hd] at this
     exact endE_not M e this
    | cons b r =>
     rw [if_neg (by simp)] at hd
     subst hd
     rw [hm hk, List.take_length]
     unfold stepE
     rw [feedE]
     by_cases hc : (e1.drop (giveZ room e1.kept.length)).kept = [] ∧ (e1.drop (giveZ room e1.kept.length)).err = 0 ∧ (e1.drop (giveZ room e1.kept.length)).en = false
     ·rw [if_pos hc]
      by_cases hs : isScal b = true
      ·rw [if_pos hs]; exact .inl (Nat.succ_le_succ (Nat.zero_le _))
      ·rw [if_neg hs]; exact .inr (.inr ⟨hg, fun hf => absurd hf.1 (show ¬ ((2 : Int) = 0) by decide)⟩)
     ·exact absurd ⟨(show (e1.kept.drop _) = [] by rw [hk1]; simp), hg⟩ hc
   ·have hke : e.kept = [] := by
     have : e1 = e := by
      rw [hd]
      split
      ·unfold endE; rw [if_neg hg]
      ·rfl
     rw [← this]; exact hk1
    exact absurd ⟨hg, hke⟩ hnd
  ·refine .inr (.inl ?_)
   have : 0 < e1.kept.length := List.length_pos_iff.2 hk1
   refine Nat.le_trans ?_ hout
   unfold giveZ
   omega
 unfold muE
 rw [List.length_drop, List.length_append]
 rw [List.length_append] at hR'
 have hbit : (if (stepE M room (s.take m) e1).2.2.err = 0 ∧ (stepE M room (s.take m) e1).2.2.en = false then 1 else 0) ≤ (if e.err = 0 ∧ e.en = false then 1 else 0) := by
  by_cases hg : e.err = 0 ∧ e.en = false
  ·rw [if_pos hg]; split <;> omega
  ·rw [if_neg (fun hf => hg (hon (hoff hf)))]; exact Nat.zero_le _
 by_cases hk : C ≤ k
 ·rcases hprog hk with hp | hp | ⟨hp1, hp2⟩
  ·omega
  ·omega
  ·rw [if_pos hp1, if_neg hp2]
   omega
 ·omega
end Go.Proofs.YtmgnndnofbemeaaGreat
