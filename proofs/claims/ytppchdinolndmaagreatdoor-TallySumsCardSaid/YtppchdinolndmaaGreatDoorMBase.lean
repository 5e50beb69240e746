/- Joined texts: Base, Md, Ya. -/
import Derived.Test.YtppchdinolndmaaGreatDoorProg
import Derived.WalkKit
import Derived.WalkLawsBesides
import Derived.KernelRfl
import Derived.Deep.LoopGhost
import Derived.Deep.QuietTactic
import Derived.BigQuiet
import Derived.Lib.Hide
namespace Go.Proofs.YtppchdinolndmaaGreatDoor
open Go.RowKit
set_option linter.unusedVariables false
set_option linter.unusedSimpArgs false
theorem below_then {B : Nat} {w w1 w2 : World} (h : Below B w w1) (k : Below w1.heap.size w1 w2) (hB : B ≤ w1.heap.size) : Below B w w2 :=
 h.trans (k.mono hB)
theorem below_next {w w1 w2 : World} (h : Below w.heap.size w w1) (k : Below w1.heap.size w1 w2) : Below w.heap.size w w2 :=
 below_then h k h.size
theorem below_new {w w1 : World} (h : Below w.heap.size w w1) (o : Obj) : Below w.heap.size w (w1.alloc o) := h.alloc h.size o
theorem below_drewN' {B : Nat} {w w1 : World} (h : Below B w w1) (n : Nat) : Below B w (w1.drewN n) := ⟨h.os, h.tape, h.output, h.size, h.block⟩
end Go.Proofs.YtppchdinolndmaaGreatDoor
namespace Go.Proofs.YtppchdinolndmaaGreatDoor
set_option linter.unusedVariables false
set_option linter.unusedSimpArgs false
structure DMach where
 St : Type
 ini : St
 next : St → Int → Option (St × List Int)
 fin : St → Option (List Int)
structure DSt (M : DMach) where
 pos : Nat
 err : Int
 fat : Int
 en : Bool
 held : List Int
 st : M.St
def feedD (M : DMach) (room : Int) : List Int → DSt M → Nat × DSt M
 | [], d => (0, d)
 | b :: r, d =>
  if (d.held.length : Int) < room ∧ d.err = 0 ∧ d.en = false then
   match M.next d.st b with
   | none => (0, { d with err := 3, fat := d.pos })
   | some (s, l) => ((feedD M room r { d with pos := d.pos + 1, held := d.held ++ l, st := s }).1 + 1, (feedD M room r { d with pos := d.pos + 1, held := d.held ++ l, st := s }).2)
  else (0, d)
structure FD (M : DMach) (room : Int) (l : List Int) (d0 : DSt M) (k : Nat) (d : DSt M) : Prop where
 le : k ≤ l.length
 pos : d.pos = d0.pos + k
 held : d.held.length ≤ d0.held.length + k
 eq : feedD M room l d0 = (k + (feedD M room (l.drop k) d).1, (feedD M room (l.drop k) d).2)
theorem FD.all {M : DMach} {room : Int} {l : List Int} {d0 d : DSt M} {k : Nat} (h : FD M room l d0 k d) (hs : ¬ k < l.length) : feedD M room l d0 = (k, d) := by
 rw [h.eq, List.drop_eq_nil_of_le (by omega)]; rfl
structure EMach where
 St : Type
 ini : St
 put : St → Int → St × List Int
 bad : St → List Int
 fin : St → List Int
structure ESt (M : EMach) where
 pos : Nat
 err : Int
 fat : Int
 en : Bool
 kept : List Int
 st : M.St
def ESt.new (M : EMach) : ESt M := ⟨0, 0, 0, false, [], M.ini⟩
def isScal (c : Int) : Bool := decide (c ≤ 1114111) && !(decide (55296 ≤ c) && decide (c ≤ 57343))
def giveZ (room : Int) (n : Nat) : Nat := min room.toNat n
def feedE (M : EMach) (room : Int) : List Int → ESt M → List Int → Nat × List Int × ESt M
 | [], e, out => (0, out, e)
 | c :: r, e, out =>
  if e.kept = [] ∧ e.err = 0 ∧ e.en = false then
   if isScal c then
    let b := (M.put e.st c).2
    let k := giveZ (room - out.length) b.length
    let q := feedE M room r { e with pos := e.pos + 1, kept := b.drop k, st := (M.put e.st c).1 } (out ++ b.take k)
    (q.1 + 1, q.2)
   else
    let b := M.bad e.st
    let k := giveZ (room - out.length) b.length
    (0, out ++ b.take k, { e with err := 2, fat := e.pos, kept := b.drop k })
  else (0, out, e)
def endE (M : EMach) (e : ESt M) : ESt M :=
 if e.err = 0 ∧ e.en = false then { e with kept := e.kept ++ M.fin e.st, en := true } else e
def runE (M : EMach) : M.St → List Int → Nat → List Int → List Int × Int × Int
 | st, [], p, acc => (acc ++ M.fin st, 0, 0)
 | st, c :: r, p, acc => if isScal c then runE M (M.put st c).1 r (p + 1) (acc ++ (M.put st c).2) else (acc ++ M.bad st, 2, p)
def ESt.going {M : EMach} (d : ESt M) : Bool := d.err == 0 && !d.en
def ESt.drop {M : EMach} (d : ESt M) (k : Nat) : ESt M := { d with kept := d.kept.drop k }
theorem giveZ_all {room : Int} {n : Nat} (h : (n : Int) ≤ room) : giveZ room n = n := by unfold giveZ; omega
theorem feedE_run (M : EMach) (z : Nat) (h1 : ∀ st c, (M.put st c).2.length ≤ z) (h2 : ∀ st, (M.bad st).length ≤ z) (room : Int) : ∀ (l : List Int) (e : ESt M) (out : List Int), e.kept = [] → e.err = 0 → e.en = false → (out.length + z * (l.length + 1) : Int) ≤ room →
  (feedE M room l e out).2.2.kept = [] ∧ (feedE M room l e out).2.2.en = false ∧ ((feedE M room l e out).2.2.err = 0 → (feedE M room l e out).1 = l.length) ∧ (feedE M room l e out).2.1.length ≤ out.length + z * (l.length + 1) ∧
  runE M e.st l e.pos out = (if (feedE M room l e out).2.2.err = 0 then ((feedE M room l e out).2.1 ++ M.fin (feedE M room l e out).2.2.st, 0, 0)
   else ((feedE M room l e out).2.1, (feedE M room l e out).2.2.err, (feedE M room l e out).2.2.fat))
 | [], e, out, hk, he, hn, hr => by simp [feedE, runE, he, hn, hk]
 | c :: r, e, out, hk, he, hn, hr => by
  have hz : z * ((c :: r).length + 1) = z * (r.length + 1) + z := by simp only [List.length_cons]; rw [Nat.mul_add z (r.length + 1) 1]; omega
  have hzi : ((z * ((c :: r).length + 1) : Nat) : Int) = ((z * (r.length + 1) : Nat) : Int) + z := by rw [hz]; simp
  have hr' : (out.length : Int) + ((z * (r.length + 1) : Nat) : Int) + z ≤ room := by
   have e1 : ((z * ((c :: r).length + 1) : Nat) : Int) = (z : Int) * (((c :: r).length : Int) + 1) := by simp
   omega
  by_cases hs : isScal c = true
  ·have hp := h1 e.st c
   have hg : giveZ (room - out.length) (M.put e.st c).2.length = (M.put e.st c).2.length := giveZ_all (by omega)
   have e1 : feedE M room (c :: r) e out = ((feedE M room r { e with pos := e.pos + 1, kept := [], st := (M.put e.st c).1 } (out ++ (M.put e.st c).2)).1 + 1, (feedE M room r { e with pos := e.pos + 1, kept := [], st := (M.put e.st c).1 } (out ++ (M.put e.st c).2)).2) := by
    rw [feedE, if_pos ⟨hk, he, hn⟩, if_pos hs]
    simp only [hg, List.drop_length, List.take_length]
   rw [e1]
   have hl2 : (out ++ (M.put e.st c).2).length ≤ out.length + z := by rw [List.length_append]; omega
   obtain ⟨a0, a1, a2, a3, a4⟩ := feedE_run M z h1 h2 room r { e with pos := e.pos + 1, kept := [], st := (M.put e.st c).1 } (out ++ (M.put e.st c).2) rfl he hn (by
    have : ((z * (r.length + 1) : Nat) : Int) = (z : Int) * ((r.length : Int) + 1) := by simp
    omega)
   refine ⟨a0, a1, fun h => ?_, ?_, ?_⟩
   ·simp only [List.length_cons]; rw [a2 h]
   ·rw [hz]; simp only [] at a3 ⊢; omega
   ·rw [runE, if_pos hs]; exact a4
  ·have hp := h2 e.st
   have hg : giveZ (room - out.length) (M.bad e.st).length = (M.bad e.st).length := giveZ_all (by
    have : (0 : Int) ≤ ((z * (r.length + 1) : Nat) : Int) := Int.natCast_nonneg _
    omega)
   have e1 : feedE M room (c :: r) e out = (0, out ++ M.bad e.st, { e with err := 2, fat := e.pos, kept := [] }) := by
    rw [feedE, if_pos ⟨hk, he, hn⟩, if_neg hs]
    simp only [hg, List.drop_length, List.take_length]
   rw [e1]
   refine ⟨rfl, hn, fun h => by simp at h, ?_, ?_⟩
   ·rw [List.length_append, hz]; omega
   ·rw [runE, if_neg hs]; simp
theorem feedE_le (M : EMach) (room : Int) : ∀ (l : List Int) (e : ESt M) (out : List Int), (feedE M room l e out).1 ≤ l.length
 | [], e, out => Nat.le_refl _
 | c :: r, e, out => by
  unfold feedE
  split
  ·split
   ·exact Nat.succ_le_succ (feedE_le M room r _ _)
   ·exact Nat.zero_le _
  ·exact Nat.zero_le _
theorem feedE_pos (M : EMach) (room : Int) : ∀ (l : List Int) (e : ESt M) (out : List Int), (feedE M room l e out).2.2.pos = e.pos + (feedE M room l e out).1
 | [], e, out => rfl
 | c :: r, e, out => by
  unfold feedE
  split
  ·split
   ·have := feedE_pos M room r
    simp only [this]; omega
   ·rfl
  ·rfl
theorem feedE_fat (M : EMach) (room : Int) : ∀ (l : List Int) (e : ESt M) (out : List Int), (feedE M room l e out).2.2.err = 0 → (feedE M room l e out).2.2.fat = e.fat
 | [], e, out, h => rfl
 | c :: r, e, out, h => by
  unfold feedE at h ⊢
  by_cases h1 : e.kept = [] ∧ e.err = 0 ∧ e.en = false
  ·rw [if_pos h1] at h ⊢
   by_cases h2 : isScal c = true
   ·rw [if_pos h2] at h ⊢
    exact feedE_fat M room r _ _ h
   ·rw [if_neg h2] at h
    simp at h
  ·rw [if_neg h1]
structure FE (M : EMach) (z : Nat) (room : Int) (l : List Int) (d0 : ESt M) (out0 : List Int) (k : Nat) (d : ESt M) (o : List Int) : Prop where
 le : k ≤ l.length
 pos : d.pos = d0.pos + k
 out : o.length ≤ out0.length + z * k
 kept : d.kept.length ≤ d0.kept.length + z
 eq : feedE M room l d0 out0 = (k + (feedE M room (l.drop k) d o).1, (feedE M room (l.drop k) d o).2)
theorem FE.start (M : EMach) (z : Nat) (room : Int) (l : List Int) (d0 : ESt M) (out0 : List Int) : FE M z room l d0 out0 0 d0 out0 :=
 ⟨Nat.zero_le _, rfl, by omega, by omega, by rw [List.drop_zero]; simp⟩
theorem FE.stop {M : EMach} {z : Nat} {room : Int} {l : List Int} {d0 d : ESt M} {out0 o : List Int} {k : Nat} (h : FE M z room l d0 out0 k d o) (hs : ¬ (d.kept = [] ∧ d.err = 0 ∧ d.en = false)) : feedE M room l d0 out0 = (k, o, d) := by
 rw [h.eq]
 cases hd : l.drop k with
 | nil => rfl
 | cons c r => rw [feedE, if_neg hs]; rfl
theorem FE.all {M : EMach} {z : Nat} {room : Int} {l : List Int} {d0 d : ESt M} {out0 o : List Int} {k : Nat} (h : FE M z room l d0 out0 k d o) (hs : ¬ k < l.length) : feedE M room l d0 out0 = (k, o, d) := by
 rw [h.eq, List.drop_eq_nil_of_le (by omega)]; rfl
theorem drop_cons (l : List Int) (k : Nat) (h : k < l.length) : l.drop k = l.getD k 0 :: l.drop (k + 1) := by
 rw [List.drop_eq_getElem_cons h, List.getD_eq_getElem?_getD, List.getElem?_eq_getElem h]; rfl
theorem FE.bad {M : EMach} {z : Nat} {room : Int} {l : List Int} {d0 d : ESt M} {out0 o : List Int} {k : Nat} (h : FE M z room l d0 out0 k d o) (hk : k < l.length) (hg : d.kept = [] ∧ d.err = 0 ∧ d.en = false) (hs : isScal (l.getD k 0) = false) :
  feedE M room l d0 out0 = (k, o ++ (M.bad d.st).take (giveZ (room - o.length) (M.bad d.st).length), { d with err := 2, fat := d.pos, kept := (M.bad d.st).drop (giveZ (room - o.length) (M.bad d.st).length) }) := by
 rw [h.eq, drop_cons l k hk, feedE, if_pos hg, if_neg (by rw [hs]; decide)]
 rfl
theorem FE.bad0 {M : EMach} {z : Nat} {room : Int} {l : List Int} {d0 d : ESt M} {out0 o : List Int} {k : Nat} (h : FE M z room l d0 out0 k d o) (hb : M.bad d.st = []) (hk : k < l.length) (hg : d.kept = [] ∧ d.err = 0 ∧ d.en = false) (hs : isScal (l.getD k 0) = false) :
  feedE M room l d0 out0 = (k, o, { d with err := 2, fat := d.pos }) := by
 rw [h.bad hk hg hs, hb]
 simp [hg.1]
theorem FE.eat {M : EMach} {z : Nat} {room : Int} {l : List Int} {d0 d : ESt M} {out0 o : List Int} {k : Nat} (h1 : ∀ st c, (M.put st c).2.length ≤ z) (h : FE M z room l d0 out0 k d o) (hk : k < l.length) (hg : d.kept = [] ∧ d.err = 0 ∧ d.en = false) (hs : isScal (l.getD k 0) = true) :
  FE M z room l d0 out0 (k + 1) { d with pos := d.pos + 1, kept := (M.put d.st (l.getD k 0)).2.drop (giveZ (room - o.length) (M.put d.st (l.getD k 0)).2.length), st := (M.put d.st (l.getD k 0)).1 }
   (o ++ (M.put d.st (l.getD k 0)).2.take (giveZ (room - o.length) (M.put d.st (l.getD k 0)).2.length)) := by
 have hb := h1 d.st (l.getD k 0)
 refine ⟨hk, by show d.pos + 1 = _; rw [h.pos]; omega, ?_, ?_, ?_⟩
 ·have := h.out
  rw [List.length_append, List.length_take, Nat.mul_succ]; omega
 ·show (List.drop _ _).length ≤ _
  rw [List.length_drop]; omega
 ·rw [h.eq, drop_cons l k hk, feedE, if_pos hg, if_pos hs]
  refine Prod.ext ?_ rfl
  show k + (_ + 1) = k + 1 + _
  omega
theorem encode_plain (M : EMach) (z : Nat) (h1 : ∀ st c, (M.put st c).2.length ≤ z) (h2 : ∀ st, (M.bad st).length ≤ z) (room : Int) (l : List Int) (hr : (z * (l.length + 1) : Int) ≤ room) :
  (feedE M room l (ESt.new M) []).2.2.kept = [] ∧ ((feedE M room l (ESt.new M) []).2.2.err = 0 → (feedE M room l (ESt.new M) []).1 = l.length) ∧ (endE M (feedE M room l (ESt.new M) []).2.2).going = false ∧
  runE M M.ini l 0 [] = ((feedE M room l (ESt.new M) []).2.1 ++ (endE M (feedE M room l (ESt.new M) []).2.2).kept, (endE M (feedE M room l (ESt.new M) []).2.2).err, (endE M (feedE M room l (ESt.new M) []).2.2).fat) := by
 obtain ⟨a0, a1, a2, a3, a4⟩ := feedE_run M z h1 h2 room l (ESt.new M) [] rfl rfl rfl (by simpa using hr)
 have a5 := feedE_fat M room l (ESt.new M) []
 refine ⟨a0, a2, ?_, ?_⟩
 ·unfold endE
  by_cases he : (feedE M room l (ESt.new M) []).2.2.err = 0
  ·rw [if_pos ⟨he, a1⟩]; simp [ESt.going]
  ·rw [if_neg (fun h => he h.1)]; simp [ESt.going, he]
 ·rw [show runE M M.ini l 0 [] = runE M (ESt.new M).st l (ESt.new M).pos [] from rfl, a4]
  unfold endE
  by_cases he : (feedE M room l (ESt.new M) []).2.2.err = 0
  ·rw [if_pos he, if_pos ⟨he, a1⟩]
   have a6 := a5 he
   simp only [he, a6, a0, List.nil_append]; rfl
  ·rw [if_neg he, if_neg (fun h => he h.1), a0, List.append_nil]
theorem endE_pos (M : EMach) (e : ESt M) : (endE M e).pos = e.pos := by
 unfold endE
 split <;> rfl
theorem snoc_ind {α : Type} {P : List α → Prop} (h0 : P []) (h1 : ∀ l c, P l → P (l ++ [c])) (l : List α) : P l := by
 have h : ∀ r : List α, P r.reverse := fun r => by
  induction r with
  | nil => exact h0
  | cons c r ih => rw [List.reverse_cons]; exact h1 _ _ ih
 have := h l.reverse
 rwa [List.reverse_reverse] at this
structure Tl where
 sc : Int
 un : Int
 by8 : Int
 ct : Int
 ai : Int
 la : Int
 pl : Int
 pr : Int
 be : Int
 le : Int
 mo : Int
def clsF (c : Int) : Int := if isScal c = false then 0 else if c < 32 ∨ (127 ≤ c ∧ c < 160) then 1 else if c < 127 then 2 else if c ≤ 255 then 3 else if 57344 ≤ c ∧ c ≤ 63743 then 5 else if 65536 ≤ c then 6 else 4
def len8 (c : Int) : Int := if c < 128 then 1 else if c < 2048 then 2 else if c < 65536 then 3 else 4
def one (c k : Int) : Int := if clsF c = k then 1 else 0
def zeroT : Tl := ⟨0, 0, 0, 0, 0, 0, 0, 0, 0, 0, 0⟩
def unF (c : Int) : Int := if c < 65536 then 1 else 2
def stepY (t : Tl) (c : Int) : Tl := if isScal c = true then ⟨t.sc + 1, t.un + unF c, t.by8 + len8 c, t.ct + one c 1, t.ai + one c 2, t.la + one c 3, t.pl + one c 4, t.pr + one c 5, t.be + one c 6, if t.sc = 0 then c else if c < t.le then c else t.le, if t.mo < c then c else t.mo⟩ else t
def ofT (l : List Int) : Tl := l.foldl stepY zeroT
def addT (a b : Tl) : Tl := ⟨a.sc + b.sc, a.un + b.un, a.by8 + b.by8, a.ct + b.ct, a.ai + b.ai, a.la + b.la, a.pl + b.pl, a.pr + b.pr, a.be + b.be,
 if a.sc = 0 ∧ b.sc = 0 then 0 else if a.sc = 0 then b.le else if b.sc = 0 then a.le else if b.le < a.le then b.le else a.le,
 if a.sc = 0 ∧ b.sc = 0 then 0 else if a.sc = 0 then b.mo else if b.sc = 0 then a.mo else if a.mo < b.mo then b.mo else a.mo⟩
theorem ofT_snoc (l : List Int) (c : Int) : ofT (l ++ [c]) = stepY (ofT l) c := by simp [ofT]
structure OkT (n : Nat) (t : Tl) : Prop where
 sc0 : 0 ≤ t.sc
 scn : t.sc ≤ n
 zle : t.sc = 0 → t.le = 0
 zmo : t.sc = 0 → t.mo = 0
 mo0 : 0 ≤ t.mo
 le0 : 0 ≤ t.le
 lemo : t.le ≤ t.mo
 top : t.mo ≤ 1114111
 cls : t.ct + t.ai + t.la + t.pl + t.pr + t.be = t.sc
 pos : 0 ≤ t.ct ∧ 0 ≤ t.ai ∧ 0 ≤ t.la ∧ 0 ≤ t.pl ∧ 0 ≤ t.pr ∧ 0 ≤ t.be
 uni : t.un = t.sc + t.be
 lo8 : t.sc ≤ t.by8
 hi8 : t.by8 ≤ 4 * t.sc
theorem one_rng (c k : Int) : 0 ≤ one c k ∧ one c k ≤ 1 := by unfold one; split <;> omega
theorem one_all {c : Int} (h : isScal c = true) : one c 1 + one c 2 + one c 3 + one c 4 + one c 5 + one c 6 = 1 := by
 unfold one clsF
 rw [h]
 simp only [Bool.true_eq_false, if_false]
 (repeat' split) <;> omega
theorem one_be {c : Int} (h : isScal c = true) : unF c = 1 + one c 6 := by
 unfold one clsF unF
 rw [h]
 simp only [Bool.true_eq_false, if_false]
 (repeat' split) <;> omega
theorem len8_rng (c : Int) : 1 ≤ len8 c ∧ len8 c ≤ 4 := by unfold len8; (repeat' split) <;> omega
theorem isScal_top {c : Int} (h : isScal c = true) : c ≤ 1114111 := by unfold isScal at h; simp at h; omega
theorem OkT.zero : OkT 0 zeroT := by constructor <;> simp [zeroT]
theorem OkT.mono {n m : Nat} {t : Tl} (h : OkT n t) (hm : n ≤ m) : OkT m t := { h with scn := by have := h.scn; omega }
theorem OkT.step {n : Nat} {t : Tl} (h : OkT n t) {c : Int} (h0 : 0 ≤ c) : OkT (n + 1) (stepY t c) := by
 unfold stepY
 split
 ·rename_i hs
  have ht := isScal_top hs
  have r1 := one_rng c 1
  have r2 := one_rng c 2
  have r3 := one_rng c 3
  have r4 := one_rng c 4
  have r5 := one_rng c 5
  have r6 := one_rng c 6
  have ra := one_all hs
  have ru := one_be hs
  have r8 := len8_rng c
  obtain ⟨a1, a2, a3, a4, a5, a6, a7, a8, a9, a10, a11, a12, a13⟩ := h
  constructor <;> dsimp only
  ·omega
  ·omega
  ·intro e; omega
  ·intro e; omega
  ·split <;> omega
  ·(repeat' split) <;> omega
  ·(repeat' split) <;> omega
  ·split <;> omega
  ·omega
  ·omega
  ·omega
  ·omega
  ·omega
 ·exact h.mono (by omega)
theorem okT : ∀ (l : List Int), (∀ x ∈ l, 0 ≤ x) → OkT l.length (ofT l) := by
 intro l
 refine snoc_ind (P := fun l => (∀ x ∈ l, 0 ≤ x) → OkT l.length (ofT l)) ?_ ?_ l
 ·intro _; exact OkT.zero
 ·intro l c ih h
  rw [ofT_snoc, List.length_append]
  exact (ih fun x hx => h x (List.mem_append_left _ hx)).step (h c (List.mem_append_right _ (List.mem_singleton.2 rfl)))
theorem addT_comm (a b : Tl) : addT a b = addT b a := by
 unfold addT
 congr 1 <;> (try omega) <;> (repeat' split) <;> omega
theorem addT_zero {n : Nat} {a : Tl} (h : OkT n a) : addT a zeroT = a := by
 obtain ⟨a1, a2, a3, a4, a5, a6, a7, a8, a9, a10, a11, a12, a13⟩ := h
 rcases a with ⟨sc, un, by8, ct, ai, la, pl, pr, be, le, mo⟩
 dsimp only at *
 unfold addT zeroT
 congr 1 <;> (try omega) <;> dsimp only <;> (repeat' split) <;> omega
theorem addT_step {n m : Nat} {a b : Tl} (ha : OkT n a) (hb : OkT m b) {c : Int} (h0 : 0 ≤ c) : addT a (stepY b c) = stepY (addT a b) c := by
 unfold stepY
 split
 ·have a1 := ha.sc0
  have a2 := ha.zle
  have a3 := ha.zmo
  have a4 := ha.mo0
  have b1 := hb.sc0
  have b2 := hb.zle
  have b3 := hb.zmo
  have b4 := hb.mo0
  clear ha hb
  unfold addT
  dsimp only
  congr 1 <;> (try omega) <;> (repeat' split) <;> omega
 ·rfl
theorem addT_of (a : List Int) (ha : ∀ x ∈ a, 0 ≤ x) : ∀ (b : List Int), (∀ x ∈ b, 0 ≤ x) → addT (ofT a) (ofT b) = ofT (a ++ b) := by
 intro b
 refine snoc_ind (P := fun b => (∀ x ∈ b, 0 ≤ x) → addT (ofT a) (ofT b) = ofT (a ++ b)) ?_ ?_ b
 ·intro _; rw [List.append_nil]; exact addT_zero (okT a ha)
 ·intro b c ih h
  have hb : ∀ x ∈ b, 0 ≤ x := fun x hx => h x (List.mem_append_left _ hx)
  rw [ofT_snoc, addT_step (okT a ha) (okT b hb) (h c (List.mem_append_right _ (List.mem_singleton.2 rfl))), ih hb, ← List.append_assoc, ofT_snoc]
theorem ofT_filter (l : List Int) : ofT (l.filter fun c => isScal c) = ofT l := by
 unfold ofT
 have : ∀ (l : List Int) (t : Tl), (l.filter fun c => isScal c).foldl stepY t = l.foldl stepY t := by
  intro l
  induction l with
  | nil => intro t; rfl
  | cons c r ih =>
   intro t
   by_cases h : isScal c = true
   ·rw [List.filter_cons_of_pos (by simpa using h), List.foldl_cons, List.foldl_cons, ih]
   ·rw [List.filter_cons_of_neg (by simpa using h), List.foldl_cons, ih]
    congr 1
    unfold stepY
    rw [if_neg h]
 exact this l zeroT
end Go.Proofs.YtppchdinolndmaaGreatDoor
