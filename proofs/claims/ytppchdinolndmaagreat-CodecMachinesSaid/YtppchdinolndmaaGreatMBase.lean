/- Joined texts: Base, Md, Qe, Na, Nm. -/
import Derived.Test.YtppchdinolndmaaGreatProg
import Derived.WalkKit
import Derived.WalkLawsBesides
import Derived.KernelRfl
import Derived.Deep.LoopGhost
import Derived.Deep.QuietTactic
import Derived.BigQuiet
import Derived.Lib.Hide
import Derived.Outline
namespace Go.Proofs.YtppchdinolndmaaGreat
open Go.RowKit
set_option linter.unusedVariables false
set_option linter.unusedSimpArgs false
theorem below_then {B : Nat} {w w1 w2 : World} (h : Below B w w1) (k : Below w1.heap.size w1 w2) (hB : B ≤ w1.heap.size) : Below B w w2 :=
 h.trans (k.mono hB)
theorem below_next {w w1 w2 : World} (h : Below w.heap.size w w1) (k : Below w1.heap.size w1 w2) : Below w.heap.size w w2 :=
 below_then h k h.size
theorem below_new {w w1 : World} (h : Below w.heap.size w w1) (o : Obj) : Below w.heap.size w (w1.alloc o) := h.alloc h.size o
theorem below_drewN' {B : Nat} {w w1 : World} (h : Below B w w1) (n : Nat) : Below B w (w1.drewN n) := ⟨h.os, h.tape, h.output, h.size, h.block⟩
theorem str_eq_iff (a b : ByteArray) : ((a.toList == b.toList) = true) ↔ a = b := by
 rw [beq_iff_eq, ByteArray.toList_eq, ByteArray.toList_eq]
 constructor
 ·intro h
  have : a.data = b.data := Array.toList_inj.mp h
  cases a; cases b; simpa using this
 ·rintro rfl; rfl
theorem str_eq (a b : ByteArray) : (a.toList == b.toList) = decide (a = b) := by
 rw [Bool.eq_iff_iff, str_eq_iff]; simp
theorem str_ne_iff (a b : ByteArray) : ((a.toList == b.toList) = false) ↔ ¬ a = b := by
 rw [str_eq]; simp
end Go.Proofs.YtppchdinolndmaaGreat
namespace Go.Proofs.YtppchdinolndmaaGreat
set_option linter.unusedVariables false
set_option linter.unusedSimpArgs false
structure DMach where
 St : Type
 ini : St
 next : St → Int → Option (St × List Int)
 fin : St → Option (List Int)
structure DSt (M : DMach) where
 pos : Nat
 err : Int
 fat : Int
 en : Bool
 held : List Int
 st : M.St
def DSt.going {M : DMach} (d : DSt M) : Bool := d.err == 0 && !d.en
def DSt.new (M : DMach) : DSt M := ⟨0, 0, 0, false, [], M.ini⟩
def feedD (M : DMach) (room : Int) : List Int → DSt M → Nat × DSt M
 | [], d => (0, d)
 | b :: r, d =>
  if (d.held.length : Int) < room ∧ d.err = 0 ∧ d.en = false then
   match M.next d.st b with
   | none => (0, { d with err := 3, fat := d.pos })
   | some (s, l) => ((feedD M room r { d with pos := d.pos + 1, held := d.held ++ l, st := s }).1 + 1, (feedD M room r { d with pos := d.pos + 1, held := d.held ++ l, st := s }).2)
  else (0, d)
def endD (M : DMach) (d : DSt M) : DSt M :=
 if d.err = 0 ∧ d.en = false then
  match M.fin d.st with
  | none => { d with err := 4, fat := d.pos }
  | some l => { d with held := d.held ++ l, en := true }
 else d
def runD (M : DMach) : M.St → List Int → Nat → List Int → List Int × Int × Int
 | st, [], p, acc => match M.fin st with
  | none => (acc, 4, p)
  | some l => (acc ++ l, 0, 0)
 | st, b :: r, p, acc => match M.next st b with
  | none => (acc, 3, p)
  | some (s, l) => runD M s r (p + 1) (acc ++ l)
theorem feedD_le (M : DMach) (room : Int) : ∀ (l : List Int) (d : DSt M), (feedD M room l d).1 ≤ l.length
 | [], d => Nat.le_refl _
 | b :: r, d => by
  unfold feedD
  split
  ·split
   ·exact Nat.zero_le _
   ·exact Nat.succ_le_succ (feedD_le M room r _)
  ·exact Nat.zero_le _
theorem feedD_run (M : DMach) (h1 : ∀ st b st' l, M.next st b = some (st', l) → l.length ≤ 1) (room : Int) : ∀ (l : List Int) (d : DSt M), d.err = 0 → d.en = false → (d.held.length + l.length : Int) ≤ room →
  (feedD M room l d).2.en = false ∧ ((feedD M room l d).2.err = 0 → (feedD M room l d).1 = l.length) ∧ ((feedD M room l d).2.held.length : Int) ≤ d.held.length + l.length ∧
  runD M d.st l d.pos d.held = (if (feedD M room l d).2.err = 0 then (match M.fin (feedD M room l d).2.st with | none => ((feedD M room l d).2.held, 4, ((feedD M room l d).2.pos : Int)) | some k => ((feedD M room l d).2.held ++ k, 0, 0))
   else ((feedD M room l d).2.held, (feedD M room l d).2.err, (feedD M room l d).2.fat))
 | [], d, he, hn, hr => by simp [feedD, runD, he, hn]
 | b :: r, d, he, hn, hr => by
  have hlt : (d.held.length : Int) < room := by simp only [List.length_cons] at hr; omega
  have e : feedD M room (b :: r) d = match M.next d.st b with
   | none => (0, { d with err := 3, fat := d.pos })
   | some (s, l) => ((feedD M room r { d with pos := d.pos + 1, held := d.held ++ l, st := s }).1 + 1, (feedD M room r { d with pos := d.pos + 1, held := d.held ++ l, st := s }).2) := by
   rw [feedD, if_pos ⟨hlt, he, hn⟩]
  rw [e]
  cases hx : M.next d.st b with
  | none => simp [runD, hx, hn]; omega
  | some p =>
   obtain ⟨s, l⟩ := p
   have hl := h1 _ _ _ _ hx
   have := feedD_run M h1 room r { d with pos := d.pos + 1, held := d.held ++ l, st := s } he hn (by simp only [List.length_append, List.length_cons] at hr ⊢; omega)
   obtain ⟨a1, a2, a3, a4⟩ := this
   refine ⟨a1, fun h => ?_, ?_, ?_⟩
   ·simp only [List.length_cons]; rw [a2 h]
   ·simp only [List.length_append, List.length_cons] at a3 ⊢; omega
   ·rw [runD, hx]; exact a4
theorem feedD_fat (M : DMach) (room : Int) : ∀ (l : List Int) (d : DSt M), (feedD M room l d).2.err = 0 → (feedD M room l d).2.fat = d.fat
 | [], d, h => rfl
 | b :: r, d, h => by
  unfold feedD at h ⊢
  split at h
  ·rename_i hc
   rw [if_pos hc]
   split at h
   ·simp at h
   ·rename_i hx
    simp only [hx]
    exact feedD_fat M room r _ h
  ·rename_i hc
   rw [if_neg hc]
theorem feedD_en (M : DMach) (room : Int) : ∀ (l : List Int) (d : DSt M), (feedD M room l d).2.en = d.en
 | [], d => rfl
 | b :: r, d => by
  unfold feedD
  split
  ·split
   ·rfl
   ·exact feedD_en M room r _
  ·rfl
theorem feedD_pos (M : DMach) (room : Int) : ∀ (l : List Int) (d : DSt M), (feedD M room l d).2.pos = d.pos + (feedD M room l d).1
 | [], d => rfl
 | b :: r, d => by
  unfold feedD
  split
  ·split
   ·rfl
   ·have := feedD_pos M room r
    simp only [this]; omega
  ·rfl
theorem decode_plain (M : DMach) (h1 : ∀ st b st' l, M.next st b = some (st', l) → l.length ≤ 1) (room : Int) (l : List Int) (hr : (l.length : Int) ≤ room) :
  ((feedD M room l (DSt.new M)).2.held.length : Int) ≤ l.length ∧ ((feedD M room l (DSt.new M)).2.err = 0 → (feedD M room l (DSt.new M)).1 = l.length) ∧ (endD M (feedD M room l (DSt.new M)).2).going = false ∧
  runD M M.ini l 0 [] = ((endD M (feedD M room l (DSt.new M)).2).held, (endD M (feedD M room l (DSt.new M)).2).err, (endD M (feedD M room l (DSt.new M)).2).fat) := by
 obtain ⟨a1, a2, a3, a4⟩ := feedD_run M h1 room l (DSt.new M) rfl rfl (by simp [DSt.new]; exact hr)
 have a5 := feedD_fat M room l (DSt.new M)
 refine ⟨by simpa [DSt.new] using a3, a2, ?_, ?_⟩
 ·unfold endD
  by_cases he : (feedD M room l (DSt.new M)).2.err = 0
  ·rw [if_pos ⟨he, a1⟩]
   split <;> simp [DSt.going]
  ·rw [if_neg (fun h => he h.1)]
   simp [DSt.going, he]
 ·rw [show runD M M.ini l 0 [] = runD M (DSt.new M).st l (DSt.new M).pos (DSt.new M).held from rfl, a4]
  unfold endD
  by_cases he : (feedD M room l (DSt.new M)).2.err = 0
  ·rw [if_pos he, if_pos ⟨he, a1⟩]
   have a6 := a5 he
   cases hf : M.fin (feedD M room l (DSt.new M)).2.st with
   | none => rfl
   | some k => simp only [he, a6]; rfl
  ·rw [if_neg he, if_neg (fun h => he h.1)]
def DSt.drop {M : DMach} (d : DSt M) (k : Nat) : DSt M := { d with held := d.held.drop k }
theorem endD_drop (M : DMach) (d : DSt M) : (endD M (d.drop d.held.length)).err = (endD M d).err ∧ (endD M (d.drop d.held.length)).fat = (endD M d).fat ∧ (endD M (d.drop d.held.length)).going = (endD M d).going ∧ (endD M (d.drop d.held.length)).pos = d.pos ∧ (endD M d).held = d.held ++ (endD M (d.drop d.held.length)).held := by
 unfold endD DSt.drop DSt.going
 simp only [List.drop_length]
 split
 ·split <;> simp
 ·simp
theorem endD_pos (M : DMach) (d : DSt M) : (endD M d).pos = d.pos := by
 unfold endD
 split
 ·split <;> rfl
 ·rfl
structure FD (M : DMach) (room : Int) (l : List Int) (d0 : DSt M) (k : Nat) (d : DSt M) : Prop where
 le : k ≤ l.length
 pos : d.pos = d0.pos + k
 held : d.held.length ≤ d0.held.length + k
 eq : feedD M room l d0 = (k + (feedD M room (l.drop k) d).1, (feedD M room (l.drop k) d).2)
theorem FD.start (M : DMach) (room : Int) (l : List Int) (d0 : DSt M) : FD M room l d0 0 d0 := ⟨Nat.zero_le _, rfl, by omega, by rw [List.drop_zero]; simp⟩
theorem FD.stop {M : DMach} {room : Int} {l : List Int} {d0 d : DSt M} {k : Nat} (h : FD M room l d0 k d) (hs : ¬ ((d.held.length : Int) < room ∧ d.err = 0 ∧ d.en = false)) : feedD M room l d0 = (k, d) := by
 rw [h.eq]
 cases hd : l.drop k with
 | nil => rfl
 | cons c r => rw [feedD, if_neg hs]; rfl
theorem FD.all {M : DMach} {room : Int} {l : List Int} {d0 d : DSt M} {k : Nat} (h : FD M room l d0 k d) (hs : ¬ k < l.length) : feedD M room l d0 = (k, d) := by
 rw [h.eq, List.drop_eq_nil_of_le (by omega)]; rfl
theorem drop_consD (l : List Int) (k : Nat) (h : k < l.length) : l.drop k = l.getD k 0 :: l.drop (k + 1) := by
 rw [List.drop_eq_getElem_cons h, List.getD_eq_getElem?_getD, List.getElem?_eq_getElem h]; rfl
theorem FD.bad {M : DMach} {room : Int} {l : List Int} {d0 d : DSt M} {k : Nat} (h : FD M room l d0 k d) (hk : k < l.length) (hg : (d.held.length : Int) < room ∧ d.err = 0 ∧ d.en = false) (hn : M.next d.st (l.getD k 0) = none) :
  feedD M room l d0 = (k, { d with err := 3, fat := d.pos }) := by
 rw [h.eq, drop_consD l k hk, feedD, if_pos hg, hn]; rfl
theorem FD.eat {M : DMach} {room : Int} {l : List Int} {d0 d : DSt M} {k : Nat} (h : FD M room l d0 k d) (hk : k < l.length) (hg : (d.held.length : Int) < room ∧ d.err = 0 ∧ d.en = false) {s : M.St} {q : List Int} (hn : M.next d.st (l.getD k 0) = some (s, q)) (hq : q.length ≤ 1) :
  FD M room l d0 (k + 1) { d with pos := d.pos + 1, held := d.held ++ q, st := s } := by
 refine ⟨hk, by show d.pos + 1 = _; rw [h.pos]; omega, ?_, ?_⟩
 ·show (d.held ++ q).length ≤ _
  have := h.held
  rw [List.length_append]; omega
 ·rw [h.eq, drop_consD l k hk, feedD, if_pos hg, hn]
  refine Prod.ext ?_ rfl
  show k + (_ + 1) = k + 1 + _
  omega
structure EMach where
 St : Type
 ini : St
 put : St → Int → St × List Int
 bad : St → List Int
 fin : St → List Int
structure ESt (M : EMach) where
 pos : Nat
 err : Int
 fat : Int
 en : Bool
 kept : List Int
 st : M.St
def ESt.new (M : EMach) : ESt M := ⟨0, 0, 0, false, [], M.ini⟩
def isScal (c : Int) : Bool := decide (c ≤ 1114111) && !(decide (55296 ≤ c) && decide (c ≤ 57343))
def giveZ (room : Int) (n : Nat) : Nat := min room.toNat n
def feedE (M : EMach) (room : Int) : List Int → ESt M → List Int → Nat × List Int × ESt M
 | [], e, out => (0, out, e)
 | c :: r, e, out =>
  if e.kept = [] ∧ e.err = 0 ∧ e.en = false then
   if isScal c then
    let b := (M.put e.st c).2
    let k := giveZ (room - out.length) b.length
    let q := feedE M room r { e with pos := e.pos + 1, kept := b.drop k, st := (M.put e.st c).1 } (out ++ b.take k)
    (q.1 + 1, q.2)
   else
    let b := M.bad e.st
    let k := giveZ (room - out.length) b.length
    (0, out ++ b.take k, { e with err := 2, fat := e.pos, kept := b.drop k })
  else (0, out, e)
def endE (M : EMach) (e : ESt M) : ESt M :=
 if e.err = 0 ∧ e.en = false then { e with kept := e.kept ++ M.fin e.st, en := true } else e
def runE (M : EMach) : M.St → List Int → Nat → List Int → List Int × Int × Int
 | st, [], p, acc => (acc ++ M.fin st, 0, 0)
 | st, c :: r, p, acc => if isScal c then runE M (M.put st c).1 r (p + 1) (acc ++ (M.put st c).2) else (acc ++ M.bad st, 2, p)
def ESt.going {M : EMach} (d : ESt M) : Bool := d.err == 0 && !d.en
def ESt.drop {M : EMach} (d : ESt M) (k : Nat) : ESt M := { d with kept := d.kept.drop k }
theorem giveZ_all {room : Int} {n : Nat} (h : (n : Int) ≤ room) : giveZ room n = n := by unfold giveZ; omega
theorem feedE_run (M : EMach) (z : Nat) (h1 : ∀ st c, (M.put st c).2.length ≤ z) (h2 : ∀ st, (M.bad st).length ≤ z) (room : Int) : ∀ (l : List Int) (e : ESt M) (out : List Int), e.kept = [] → e.err = 0 → e.en = false → (out.length + z * (l.length + 1) : Int) ≤ room →
  (feedE M room l e out).2.2.kept = [] ∧ (feedE M room l e out).2.2.en = false ∧ ((feedE M room l e out).2.2.err = 0 → (feedE M room l e out).1 = l.length) ∧ (feedE M room l e out).2.1.length ≤ out.length + z * (l.length + 1) ∧
  runE M e.st l e.pos out = (if (feedE M room l e out).2.2.err = 0 then ((feedE M room l e out).2.1 ++ M.fin (feedE M room l e out).2.2.st, 0, 0)
   else ((feedE M room l e out).2.1, (feedE M room l e out).2.2.err, (feedE M room l e out).2.2.fat))
 | [], e, out, hk, he, hn, hr => by simp [feedE, runE, he, hn, hk]
 | c :: r, e, out, hk, he, hn, hr => by
  have hz : z * ((c :: r).length + 1) = z * (r.length + 1) + z := by simp only [List.length_cons]; rw [Nat.mul_add z (r.length + 1) 1]; omega
  have hzi : ((z * ((c :: r).length + 1) : Nat) : Int) = ((z * (r.length + 1) : Nat) : Int) + z := by rw [hz]; simp
  have hr' : (out.length : Int) + ((z * (r.length + 1) : Nat) : Int) + z ≤ room := by
   have e1 : ((z * ((c :: r).length + 1) : Nat) : Int) = (z : Int) * (((c :: r).length : Int) + 1) := by simp
   omega
  by_cases hs : isScal c = true
  ·have hp := h1 e.st c
   have hg : giveZ (room - out.length) (M.put e.st c).2.length = (M.put e.st c).2.length := giveZ_all (by omega)
   have e1 : feedE M room (c :: r) e out = ((feedE M room r { e with pos := e.pos + 1, kept := [], st := (M.put e.st c).1 } (out ++ (M.put e.st c).2)).1 + 1, (feedE M room r { e with pos := e.pos + 1, kept := [], st := (M.put e.st c).1 } (out ++ (M.put e.st c).2)).2) := by
    rw [feedE, if_pos ⟨hk, he, hn⟩, if_pos hs]
    simp only [hg, List.drop_length, List.take_length]
   rw [e1]
   have hl2 : (out ++ (M.put e.st c).2).length ≤ out.length + z := by rw [List.length_append]; omega
   obtain ⟨a0, a1, a2, a3, a4⟩ := feedE_run M z h1 h2 room r { e with pos := e.pos + 1, kept := [], st := (M.put e.st c).1 } (out ++ (M.put e.st c).2) rfl he hn (by
    have : ((z * (r.length + 1) : Nat) : Int) = (z : Int) * ((r.length : Int) + 1) := by simp
    omega)
   refine ⟨a0, a1, fun h => ?_, ?_, ?_⟩
   ·simp only [List.length_cons]; rw [a2 h]
   ·rw [hz]; simp only [] at a3 ⊢; omega
   ·rw [runE, if_pos hs]; exact a4
  ·have hp := h2 e.st
   have hg : giveZ (room - out.length) (M.bad e.st).length = (M.bad e.st).length := giveZ_all (by
    have : (0 : Int) ≤ ((z * (r.length + 1) : Nat) : Int) := Int.natCast_nonneg _
    omega)
   have e1 : feedE M room (c :: r) e out = (0, out ++ M.bad e.st, { e with err := 2, fat := e.pos, kept := [] }) := by
    rw [feedE, if_pos ⟨hk, he, hn⟩, if_neg hs]
    simp only [hg, List.drop_length, List.take_length]
   rw [e1]
   refine ⟨rfl, hn, fun h => by simp at h, ?_, ?_⟩
   ·rw [List.length_append, hz]; omega
   ·rw [runE, if_neg hs]; simp
theorem feedE_le (M : EMach) (room : Int) : ∀ (l : List Int) (e : ESt M) (out : List Int), (feedE M room l e out).1 ≤ l.length
 | [], e, out => Nat.le_refl _
 | c :: r, e, out => by
  unfold feedE
  split
  ·split
   ·exact Nat.succ_le_succ (feedE_le M room r _ _)
   ·exact Nat.zero_le _
  ·exact Nat.zero_le _
theorem feedE_pos (M : EMach) (room : Int) : ∀ (l : List Int) (e : ESt M) (out : List Int), (feedE M room l e out).2.2.pos = e.pos + (feedE M room l e out).1
 | [], e, out => rfl
 | c :: r, e, out => by
  unfold feedE
  split
  ·split
   ·have := feedE_pos M room r
    simp only [this]; omega
   ·rfl
  ·rfl
theorem feedE_fat (M : EMach) (room : Int) : ∀ (l : List Int) (e : ESt M) (out : List Int), (feedE M room l e out).2.2.err = 0 → (feedE M room l e out).2.2.fat = e.fat
 | [], e, out, h => rfl
 | c :: r, e, out, h => by
  unfold feedE at h ⊢
  by_cases h1 : e.kept = [] ∧ e.err = 0 ∧ e.en = false
  ·rw [if_pos h1] at h ⊢
   by_cases h2 : isScal c = true
   ·rw [if_pos h2] at h ⊢
    exact feedE_fat M room r _ _ h
   ·rw [if_neg h2] at h
    simp at h
  ·rw [if_neg h1]
structure FE (M : EMach) (z : Nat) (room : Int) (l : List Int) (d0 : ESt M) (out0 : List Int) (k : Nat) (d : ESt M) (o : List Int) : Prop where
 le : k ≤ l.length
 pos : d.pos = d0.pos + k
 out : o.length ≤ out0.length + z * k
 kept : d.kept.length ≤ d0.kept.length + z
 eq : feedE M room l d0 out0 = (k + (feedE M room (l.drop k) d o).1, (feedE M room (l.drop k) d o).2)
theorem FE.start (M : EMach) (z : Nat) (room : Int) (l : List Int) (d0 : ESt M) (out0 : List Int) : FE M z room l d0 out0 0 d0 out0 :=
 ⟨Nat.zero_le _, rfl, by omega, by omega, by rw [List.drop_zero]; simp⟩
theorem FE.stop {M : EMach} {z : Nat} {room : Int} {l : List Int} {d0 d : ESt M} {out0 o : List Int} {k : Nat} (h : FE M z room l d0 out0 k d o) (hs : ¬ (d.kept = [] ∧ d.err = 0 ∧ d.en = false)) : feedE M room l d0 out0 = (k, o, d) := by
 rw [h.eq]
 cases hd : l.drop k with
 | nil => rfl
 | cons c r => rw [feedE, if_neg hs]; rfl
theorem FE.all {M : EMach} {z : Nat} {room : Int} {l : List Int} {d0 d : ESt M} {out0 o : List Int} {k : Nat} (h : FE M z room l d0 out0 k d o) (hs : ¬ k < l.length) : feedE M room l d0 out0 = (k, o, d) := by
 rw [h.eq, List.drop_eq_nil_of_le (by omega)]; rfl
theorem drop_cons (l : List Int) (k : Nat) (h : k < l.length) : l.drop k = l.getD k 0 :: l.drop (k + 1) := by
 rw [List.drop_eq_getElem_cons h, List.getD_eq_getElem?_getD, List.getElem?_eq_getElem h]; rfl
theorem FE.bad {M : EMach} {z : Nat} {room : Int} {l : List Int} {d0 d : ESt M} {out0 o : List Int} {k : Nat} (h : FE M z room l d0 out0 k d o) (hk : k < l.length) (hg : d.kept = [] ∧ d.err = 0 ∧ d.en = false) (hs : isScal (l.getD k 0) = false) :
  feedE M room l d0 out0 = (k, o ++ (M.bad d.st).take (giveZ (room - o.length) (M.bad d.st).length), { d with err := 2, fat := d.pos, kept := (M.bad d.st).drop (giveZ (room - o.length) (M.bad d.st).length) }) := by
 rw [h.eq, drop_cons l k hk, feedE, if_pos hg, if_neg (by rw [hs]; decide)]
 rfl
theorem FE.bad0 {M : EMach} {z : Nat} {room : Int} {l : List Int} {d0 d : ESt M} {out0 o : List Int} {k : Nat} (h : FE M z room l d0 out0 k d o) (hb : M.bad d.st = []) (hk : k < l.length) (hg : d.kept = [] ∧ d.err = 0 ∧ d.en = false) (hs : isScal (l.getD k 0) = false) :
  feedE M room l d0 out0 = (k, o, { d with err := 2, fat := d.pos }) := by
 rw [h.bad hk hg hs, hb]
 simp [hg.1]
theorem FE.eat {M : EMach} {z : Nat} {room : Int} {l : List Int} {d0 d : ESt M} {out0 o : List Int} {k : Nat} (h1 : ∀ st c, (M.put st c).2.length ≤ z) (h : FE M z room l d0 out0 k d o) (hk : k < l.length) (hg : d.kept = [] ∧ d.err = 0 ∧ d.en = false) (hs : isScal (l.getD k 0) = true) :
  FE M z room l d0 out0 (k + 1) { d with pos := d.pos + 1, kept := (M.put d.st (l.getD k 0)).2.drop (giveZ (room - o.length) (M.put d.st (l.getD k 0)).2.length), st := (M.put d.st (l.getD k 0)).1 }
   (o ++ (M.put d.st (l.getD k 0)).2.take (giveZ (room - o.length) (M.put d.st (l.getD k 0)).2.length)) := by
 have hb := h1 d.st (l.getD k 0)
 refine ⟨hk, by show d.pos + 1 = _; rw [h.pos]; omega, ?_, ?_, ?_⟩
 ·have := h.out
  rw [List.length_append, List.length_take, Nat.mul_succ]; omega
 ·show (List.drop _ _).length ≤ _
  rw [List.length_drop]; omega
 ·rw [h.eq, drop_cons l k hk, feedE, if_pos hg, if_pos hs]
  refine Prod.ext ?_ rfl
  show k + (_ + 1) = k + 1 + _
  omega
theorem encode_plain (M : EMach) (z : Nat) (h1 : ∀ st c, (M.put st c).2.length ≤ z) (h2 : ∀ st, (M.bad st).length ≤ z) (room : Int) (l : List Int) (hr : (z * (l.length + 1) : Int) ≤ room) :
  (feedE M room l (ESt.new M) []).2.2.kept = [] ∧ ((feedE M room l (ESt.new M) []).2.2.err = 0 → (feedE M room l (ESt.new M) []).1 = l.length) ∧ (endE M (feedE M room l (ESt.new M) []).2.2).going = false ∧
  runE M M.ini l 0 [] = ((feedE M room l (ESt.new M) []).2.1 ++ (endE M (feedE M room l (ESt.new M) []).2.2).kept, (endE M (feedE M room l (ESt.new M) []).2.2).err, (endE M (feedE M room l (ESt.new M) []).2.2).fat) := by
 obtain ⟨a0, a1, a2, a3, a4⟩ := feedE_run M z h1 h2 room l (ESt.new M) [] rfl rfl rfl (by simpa using hr)
 have a5 := feedE_fat M room l (ESt.new M) []
 refine ⟨a0, a2, ?_, ?_⟩
 ·unfold endE
  by_cases he : (feedE M room l (ESt.new M) []).2.2.err = 0
  ·rw [if_pos ⟨he, a1⟩]; simp [ESt.going]
  ·rw [if_neg (fun h => he h.1)]; simp [ESt.going, he]
 ·rw [show runE M M.ini l 0 [] = runE M (ESt.new M).st l (ESt.new M).pos [] from rfl, a4]
  unfold endE
  by_cases he : (feedE M room l (ESt.new M) []).2.2.err = 0
  ·rw [if_pos he, if_pos ⟨he, a1⟩]
   have a6 := a5 he
   simp only [he, a6, a0, List.nil_append]; rfl
  ·rw [if_neg he, if_neg (fun h => he h.1), a0, List.append_nil]
theorem endE_pos (M : EMach) (e : ESt M) : (endE M e).pos = e.pos := by
 unfold endE
 split <;> rfl
structure InvE (M : EMach) (R : List Int × Int × Int) (e : ESt M) (s o : List Int) : Prop where
 go : e.err = 0 ∧ e.en = false → runE M e.st s e.pos (o ++ e.kept) = R
 no : ¬ (e.err = 0 ∧ e.en = false) → R = (o ++ e.kept, e.err, e.fat)
 fat : e.err = 0 → e.fat = 0
theorem InvE.new (M : EMach) (s : List Int) : InvE M (runE M M.ini s 0 []) (ESt.new M) s [] :=
 ⟨fun _ => rfl, fun h => absurd ⟨rfl, rfl⟩ h, fun _ => rfl⟩
theorem take_drop3 (o out b : List Int) (k : Nat) : o ++ (out ++ b.take k) ++ b.drop k = o ++ out ++ b := by
 rw [← List.append_assoc, List.append_assoc (o ++ out), List.take_append_drop]
theorem InvE.feed {M : EMach} {R : List Int × Int × Int} (room : Int) {o : List Int} : ∀ (part rest : List Int) {e : ESt M} (out : List Int), InvE M R e (part ++ rest) (o ++ out) →
  InvE M R (feedE M room part e out).2.2 ((part ++ rest).drop (feedE M room part e out).1) (o ++ (feedE M room part e out).2.1)
 | [], rest, e, out, h => by simpa [feedE] using h
 | c :: r, rest, e, out, h => by
  unfold feedE
  by_cases hc : e.kept = [] ∧ e.err = 0 ∧ e.en = false
  ·rw [if_pos hc]
   have hg := h.go hc.2
   rw [List.cons_append, runE, hc.1, List.append_nil] at hg
   by_cases hs : isScal c = true
   ·rw [if_pos hs] at hg ⊢
    obtain ⟨k, hk⟩ : ∃ k, giveZ (room - out.length) (M.put e.st c).2.length = k := ⟨_, rfl⟩
    simp only [hk]
    have h2 : InvE M R { e with pos := e.pos + 1, kept := (M.put e.st c).2.drop k, st := (M.put e.st c).1 } (r ++ rest) (o ++ (out ++ (M.put e.st c).2.take k)) :=
     ⟨fun _ => (show runE M (M.put e.st c).1 (r ++ rest) (e.pos + 1) (o ++ (out ++ (M.put e.st c).2.take k) ++ (M.put e.st c).2.drop k) = R from by rw [take_drop3]; exact hg), fun h => absurd hc.2 h, h.fat⟩
    have ih := InvE.feed room r rest (out ++ (M.put e.st c).2.take k) h2
    simpa using ih
   ·rw [if_neg hs] at hg ⊢
    obtain ⟨k, hk⟩ : ∃ k, giveZ (room - out.length) (M.bad e.st).length = k := ⟨_, rfl⟩
    simp only [hk]
    refine ⟨fun h => absurd h.1 (show ¬ ((2 : Int) = 0) by decide), fun _ => ?_, fun h => absurd h (show ¬ ((2 : Int) = 0) by decide)⟩
    show R = (o ++ (out ++ (M.bad e.st).take k) ++ (M.bad e.st).drop k, 2, (e.pos : Int))
    rw [take_drop3]
    exact hg.symm
  ·rw [if_neg hc]
   simpa using h
theorem InvE.fin {M : EMach} {R : List Int × Int × Int} {e : ESt M} {o : List Int} (h : InvE M R e [] o) : InvE M R (endE M e) [] o := by
 unfold endE
 by_cases hg : e.err = 0 ∧ e.en = false
 ·rw [if_pos hg]
  have h1 := h.go hg
  rw [runE] at h1
  refine ⟨fun h => absurd h.2 (show ¬ (true = false) by decide), fun _ => ?_, h.fat⟩
  show R = (o ++ (e.kept ++ M.fin e.st), e.err, e.fat)
  rw [h.fat hg.1, hg.1, ← List.append_assoc]
  exact h1.symm
 ·rw [if_neg hg]; exact h
theorem endE_not (M : EMach) (e : ESt M) : ¬ ((endE M e).err = 0 ∧ (endE M e).en = false) := by
 unfold endE
 by_cases hg : e.err = 0 ∧ e.en = false
 ·rw [if_pos hg]; exact fun h => absurd h.2 (show ¬ (true = false) by decide)
 ·rw [if_neg hg]; exact hg
theorem runE_lenQ (M : EMach) : ∀ (s : List Int) (st : M.St) (p : Nat) (acc : List Int), acc.length ≤ (runE M st s p acc).1.length
 | [], st, p, acc => by
  rw [runE]
  show acc.length ≤ (acc ++ M.fin st).length
  rw [List.length_append]; omega
 | c :: r, st, p, acc => by
  rw [runE]
  by_cases hs : isScal c = true
  ·rw [if_pos hs]
   have := runE_lenQ M r (M.put st c).1 (p + 1) (acc ++ (M.put st c).2)
   rw [List.length_append] at this
   omega
  ·rw [if_neg hs]
   show acc.length ≤ (acc ++ M.bad st).length
   rw [List.length_append]; omega
theorem InvE.len {M : EMach} {R : List Int × Int × Int} {e : ESt M} {s o : List Int} (h : InvE M R e s o) : o.length + e.kept.length ≤ R.1.length := by
 rw [← List.length_append]
 by_cases hg : e.err = 0 ∧ e.en = false
 ·rw [← h.go hg]; exact runE_lenQ ..
 ·rw [h.no hg]; exact Nat.le_refl _
theorem InvE.tell {M : EMach} {R : List Int × Int × Int} {e : ESt M} {s o : List Int} (h : InvE M R e s o) (m : Nat) : InvE M R (e.drop m) s (o ++ e.kept.take m) := by
 have q : (o ++ e.kept.take m) ++ e.kept.drop m = o ++ e.kept := by rw [List.append_assoc, List.take_append_drop]
 exact ⟨fun hg => by show runE M e.st s e.pos ((o ++ e.kept.take m) ++ e.kept.drop m) = R; rw [q]; exact h.go hg, fun hg => by show R = ((o ++ e.kept.take m) ++ e.kept.drop m, e.err, e.fat); rw [q]; exact h.no hg, h.fat⟩
theorem feedE_outQ (M : EMach) (room : Int) : ∀ (part : List Int) (e : ESt M) (out : List Int), out.length ≤ (feedE M room part e out).2.1.length
 | [], e, out => Nat.le_refl _
 | c :: r, e, out => by
  unfold feedE
  split
  ·split
   ·have := feedE_outQ M room r { e with pos := e.pos + 1, kept := (M.put e.st c).2.drop (giveZ (room - out.length) (M.put e.st c).2.length), st := (M.put e.st c).1 } (out ++ (M.put e.st c).2.take (giveZ (room - out.length) (M.put e.st c).2.length))
    rw [List.length_append] at this
    simp only
    omega
   ·simp only [List.length_append]; omega
  ·exact Nat.le_refl _
def stepE (M : EMach) (room : Int) (part : List Int) (e : ESt M) : Nat × List Int × ESt M := feedE M room part (e.drop (giveZ room e.kept.length)) (e.kept.take (giveZ room e.kept.length))
theorem stepE_le (M : EMach) (room : Int) (part : List Int) (e : ESt M) : (stepE M room part e).1 ≤ part.length := feedE_le ..
theorem stepE_pos (M : EMach) (room : Int) (part : List Int) (e : ESt M) : (stepE M room part e).2.2.pos = e.pos + (stepE M room part e).1 := feedE_pos ..
end Go.Proofs.YtppchdinolndmaaGreat
namespace Go.Proofs.YtppchdinolndmaaGreat
open Go.RowKit
set_option linter.unusedVariables false
set_option linter.unusedSimpArgs false
def codecNames : List (List UInt8) := [[], [117, 116, 102, 45, 56], [117, 116, 102, 45, 49, 54, 98, 101], [117, 116, 102, 45, 49, 54, 108, 101], [117, 116, 102, 45, 51, 50, 98, 101], [117, 116, 102, 45, 51, 50, 108, 101], [117, 116, 102, 45, 101, 98, 99, 100, 105, 99], [112, 117, 110, 121, 99, 111, 100, 101], [98, 111, 99, 117, 45, 49], [115, 99, 115, 117], [115, 99, 115, 117, 45, 112, 108, 97, 105, 110]]
def nameF (c : Int) : ByteArray := ⟨(if c < 1 ∨ 10 < c then [] else codecNames.getD c.toNat []).toArray⟩
set_option maxHeartbeats 2000000 in
theorem name_calls (c : Int) (w : World) :
  Calls Tryz.prog 14 #[.int .i64 c] w fun e w' => e = .returned (.string (nameF c)) ∧ Below w.heap.size w w' := by
 by_cases h1 : c < 1
 ·have e : nameF c = ⟨#[]⟩ := by simp [nameF, h1]
  rw [e]
  clear e
  go_enter Tryz.func14, Tryz.ntmps14
  go_wp2
  go_ret
  exact ⟨rfl, (Below.refl _ _).alloc (Nat.le_refl _) _⟩
 ·by_cases h2 : 10 < c
  ·have e : nameF c = ⟨#[]⟩ := by simp [nameF, h2]
   rw [e]
   clear e
   go_enter Tryz.func14, Tryz.ntmps14
   go_wp2
   go_ret
   exact ⟨rfl, (Below.refl _ _).alloc (Nat.le_refl _) _⟩
  ·have h : c = 1 ∨ c = 2 ∨ c = 3 ∨ c = 4 ∨ c = 5 ∨ c = 6 ∨ c = 7 ∨ c = 8 ∨ c = 9 ∨ c = 10 := by omega
   clear h1 h2
   rcases h with rfl | rfl | rfl | rfl | rfl | rfl | rfl | rfl | rfl | rfl
   all_goals
    go_enter Tryz.func14, Tryz.ntmps14
    go_wp2
    go_ret
    exact ⟨rfl, (Below.refl _ _).alloc (Nat.le_refl _) _⟩
def codecFrom (s : ByteArray) : Nat → Int
 | 0 => 0
 | n + 1 => if nameF (10 - n) = s then (10 - n : Int) else codecFrom s n
def codecF (s : ByteArray) : Int := codecFrom s 10
theorem codecFrom_yes {s : ByteArray} {n : Nat} {c : Int} (hc : c = 11 - ((n + 1 : Nat) : Int)) (h : nameF c = s) : codecFrom s (n + 1) = c := by
 have e : (10 - n : Int) = c := by omega
 simp only [codecFrom, e]; rw [if_pos h]
theorem codecFrom_no {s : ByteArray} {n : Nat} {c : Int} (hc : c = 11 - ((n + 1 : Nat) : Int)) (h : ¬ nameF c = s) : codecFrom s (n + 1) = codecFrom s n := by
 have e : (10 - n : Int) = c := by omega
 simp only [codecFrom, e]; rw [if_neg h]
set_option maxHeartbeats 2000000 in
theorem codec_calls (s : ByteArray) (w : World) :
  Calls Tryz.prog 13 #[.string s] w fun e w' => e = .returned (.int .i64 (codecF s)) ∧ Below w.heap.size w w' := by
 go_enter Tryz.func13, Tryz.ntmps13
 go_wp2
 go_loopg [3] 10 (fun kq v3 w' => ∃ c : Int, v3 = .int .i64 c ∧ Hid (c = 11 - kq ∧ kq ≤ 10 ∧ codecF s = codecFrom s kq) ∧ Hid (Below w.heap.size w w'))
 case atStart => exact ⟨1, rfl, Lib.hid ⟨rfl, Nat.le_refl _, rfl⟩, Lib.hid (Below.refl _ _)⟩
 case round =>
  obtain ⟨c, rfl, hF, hB⟩ := hrel
  cases gk with
  | zero =>
   have hc : ¬ c ≤ 10 := by have := hF.1; omega
   go_wp2
   go_ret
   exact ⟨by rw [hF.2.2]; rfl, hB⟩
  | succ n =>
   have hc : c ≤ 10 := by have := hF.1; omega
   have hc1 : 1 ≤ c := by have := hF.1; have := hF.2.1; omega
   go_wp2_with (go_at_call 14; refine (name_calls c _).mono ?_; rintro e w1 ⟨rfl, hb⟩)
   ·have ht : ((nameF c).toList == s.toList) = true := by assumption
    go_ret
    exact ⟨by rw [hF.2.2, codecFrom_yes hF.1 ((str_eq_iff _ _).1 ht)]; rfl, below_next hB hb⟩
   ·have ht : ((nameF c).toList == s.toList) = false := by assumption
    go_roundg n
    case measure => omega
    case rel => exact ⟨c + 1, rfl, Lib.hid ⟨by have := hF.1; omega, by have := hF.2.1; omega, by rw [hF.2.2, codecFrom_no hF.1 ((str_ne_iff _ _).1 ht)]⟩, Lib.hid (below_next hB hb)⟩
end Go.Proofs.YtppchdinolndmaaGreat
