/- args.Parse answers what parseF answers. -/
import Derived.Test.YtlddfdkmpnllmaaDoorPar
import Derived.Test.YtlddfdkmpnllmaaDoorPlan
import Derived.Deep.DeepCutAuto
import Derived.Outline
namespace Go.Proofs.YtlddfdkmpnllmaaDoor
open Go.RowKit Go.Proofs.YtlddfdkmpnllmaaDoorW.PrintWords Go.Proofs.YtlddfdkmpnllmaaDoorW.PrintLast Go.Proofs.YtlddfdkmpnllmaaDoorW.PrintMore
set_option linter.unusedVariables false
set_option linter.unusedSimpArgs false

def Pl.withForm (p : Pl) : Pl := if p.c3 = 0 ∧ inF kForm (mayF p.c0) = true then { p with c3 := 1 } else p
def Pl.withSize (p : Pl) : Pl := if p.c4 = 0 ∧ p.c0 = 1 ∧ p.f = true then { p with c4 := 4096 } else p
/-- What is told of a plan when all n arguments are read. -/
def finishF (p : Pl) (n : Int) : Pl × Int × Bool := if wholeF p = false then (Pl.zero, n, false) else (p.withForm.withSize, 0, true)
/-- From argument i on: p is the plan so far, seen the options so far. -/
def parseGo (n : Int) : List ByteArray → Int → Pl → List ByteArray → Pl × Int × Bool
  | [], _, p, _ => finishF p n
  | a :: r, i, p, seen =>
    if 64 ≤ i then (Pl.zero, i, false)
    else if inF (cutF a).1 (mayF p.c0) = false then (Pl.zero, i, false)
    else if inF (cutF a).1 seen = true then (Pl.zero, i, false)
    else if (setF p (cutF a).1 (cutF a).2.1 (cutF a).2.2).2 = false then (Pl.zero, i, false)
    else parseGo n r (i + 1) (setF p (cutF a).1 (cutF a).2.1 (cutF a).2.2).1 (seen ++ [(cutF a).1])
def parseF : List ByteArray → Pl × Int × Bool
  | [] => (Pl.zero, 0, false)
  | a :: r => if a.size = 0 then (Pl.zero, 0, false) else if inF a cmds = false then (Pl.zero, 0, false) else parseGo (r.length + 1) r 1 { Pl.zero with c0 := idxF a cmds 0 } []

theorem go_late {n i : Int} {x : ByteArray} {t : List ByteArray} {p : Pl} {seen : List ByteArray} (h : 64 ≤ i) : parseGo n (x :: t) i p seen = (Pl.zero, i, false) := by
  simp only [parseGo]; rw [if_pos h]
theorem go_no {n i : Int} {x nm : ByteArray} {t : List ByteArray} {p : Pl} {seen : List ByteArray} (hn : (cutF x).1 = nm) (h : ¬ 64 ≤ i) (h1 : inF nm (mayF p.c0) = false) : parseGo n (x :: t) i p seen = (Pl.zero, i, false) := by
  simp only [parseGo, hn]; rw [if_neg h, if_pos h1]
theorem go_twice {n i : Int} {x nm : ByteArray} {t : List ByteArray} {p : Pl} {seen : List ByteArray} (hn : (cutF x).1 = nm) (h : ¬ 64 ≤ i) (h1 : inF nm (mayF p.c0) = true) (h2 : inF nm seen = true) : parseGo n (x :: t) i p seen = (Pl.zero, i, false) := by
  simp only [parseGo, hn]; rw [if_neg h, if_neg (by rw [h1]; decide), if_pos h2]
theorem go_bad {n i : Int} {x nm vl : ByteArray} {hs : Bool} {t : List ByteArray} {p : Pl} {seen : List ByteArray} (hn : (cutF x).1 = nm) (hv : (cutF x).2.1 = vl) (hh : (cutF x).2.2 = hs) (h : ¬ 64 ≤ i) (h1 : inF nm (mayF p.c0) = true) (h2 : inF nm seen = false)
    (h3 : (setF p nm vl hs).2 = false) : parseGo n (x :: t) i p seen = (Pl.zero, i, false) := by
  simp only [parseGo, hn, hv, hh]; rw [if_neg h, if_neg (by rw [h1]; decide), if_neg (by rw [h2]; decide), if_pos h3]
theorem go_on {n i : Int} {x nm vl : ByteArray} {hs : Bool} {t : List ByteArray} {p : Pl} {seen : List ByteArray} (hn : (cutF x).1 = nm) (hv : (cutF x).2.1 = vl) (hh : (cutF x).2.2 = hs) (h : ¬ 64 ≤ i) (h1 : inF nm (mayF p.c0) = true) (h2 : inF nm seen = false)
    (h3 : (setF p nm vl hs).2 = true) : parseGo n (x :: t) i p seen = parseGo n t (i + 1) (setF p nm vl hs).1 (seen ++ [nm]) := by
  simp only [parseGo, hn, hv, hh]; rw [if_neg h, if_neg (by rw [h1]; decide), if_neg (by rw [h2]; decide), if_neg (by rw [h3]; decide)]

theorem finish_no {p : Pl} {n : Int} (h : wholeF p = false) : finishF p n = (Pl.zero, n, false) := by unfold finishF; rw [if_pos h]
theorem finish_ok {p q q2 : Pl} {n : Int} (h : wholeF p = true) (h1 : p.withForm = q) (h2 : q.withSize = q2) : finishF p n = (q2, 0, true) := by unfold finishF; rw [if_neg (by rw [h]; decide), h1, h2]
theorem form_no1 {p : Pl} (h : ¬ p.c3 = 0) : p.withForm = p := by unfold Pl.withForm; rw [if_neg (fun e => h e.1)]
theorem form_no2 {p : Pl} (h : inF kForm (mayF p.c0) = false) : p.withForm = p := by unfold Pl.withForm; rw [if_neg (fun e => by rw [h] at e; exact absurd e.2 (by decide))]
theorem form_yes {p : Pl} (h : p.c3 = 0) (h1 : inF kForm (mayF p.c0) = true) : p.withForm = { p with c3 := 1 } := by unfold Pl.withForm; rw [if_pos ⟨h, h1⟩]
theorem size_no1 {p : Pl} (h : ¬ p.c4 = 0) : p.withSize = p := by unfold Pl.withSize; rw [if_neg (fun e => h e.1)]
theorem size_no2 {p : Pl} (h : ¬ p.c0 = 1) : p.withSize = p := by unfold Pl.withSize; rw [if_neg (fun e => h e.2.1)]
theorem size_no3 {p : Pl} (h : p.f = false) : p.withSize = p := by unfold Pl.withSize; rw [if_neg (fun e => by rw [h] at e; exact absurd e.2.2 (by decide))]
theorem size_yes {p : Pl} (h : p.c4 = 0) (h1 : p.c0 = 1) (h2 : p.f = true) : p.withSize = { p with c4 := 4096 } := by unfold Pl.withSize; rw [if_pos ⟨h, h1, h2⟩]

/-- What Parse comes to. -/
def Parsed (w : World) (r : Pl × Int × Bool) (e : Ending) (w' : World) : Prop := e = .returned (.tuple #[.agg r.1.cells, .int .i64 r.2.1, .bool r.2.2]) ∧ Below w.heap.size w w'

/-- The address and the cell of a list's first text. -/
theorem SL.head {w : World} {v : Value} {a : ByteArray} {r : List ByteArray} (h : SL w v (a :: r)) : ∃ g o c, v = .slice (some ⟨g, o, none⟩) (r.length + 1) c ∧ g < w.heap.size ∧ w.cell? ⟨g, o, none⟩ = some (.string a) := by
  obtain ⟨A, c, e, hc, hr⟩ := h
  obtain ⟨ad, eA, hcell⟩ := (Kd.reads_of_C (d := ByteArray.empty) hr).2.2 (by simp)
  have h0 := hcell 0 (by simp)
  have h1 : w.cell? ad = some (.string a) := by simpa [Addr.add] using h0
  obtain ⟨g, o, sp⟩ := ad
  cases sp with
  | none => exact ⟨g, o, c, by rw [e, eA]; rfl, World.block_lt_of_cell? w _ h1, h1⟩
  | some x => exfalso; unfold World.cell? at h1; simp at h1; split at h1 <;> simp at h1

theorem size_drew (w : World) : w.drew.heap.size = w.heap.size := rfl
/-- What a drawn statement keeps: a text of the arguments; the plan; all that was there. -/
def PS (w0 : World) (b : Nat) (p : Pl) (g o : Nat) (a : ByteArray) (w' : World) : Prop := w'.cell? ⟨g, o, none⟩ = some (.string a) ∧ Hid (PlanAt w' b p) ∧ Hid (Below w0.heap.size w0 w')
theorem PS.start {w : World} {g o : Nat} {a : ByteArray} (hg : g < w.heap.size) (hc : w.cell? ⟨g, o, none⟩ = some (.string a)) : PS w w.heap.size Pl.zero g o a (w.alloc (.cells Pl.zero.cells 26)).drew :=
  ⟨(World.cell?_alloc_lt w _ ⟨g, o, none⟩ hg).trans hc, PlanAt.new w Pl.zero, (below_new (Below.refl _ _) _).drew⟩
theorem PS.next {w0 w1 w2 : World} {b g o : Nat} {p : Pl} {a : ByteArray} (h : PS w0 b p g o a w1) (hb : Below w1.heap.size w1 w2) : PS w0 b p g o a w2 :=
  ⟨(hb.cell (World.block_lt_of_cell? w1 _ h.1)).trans h.1, PlanAt.below h.2.1 hb, below_next h.2.2 hb⟩
theorem PS.alloc {w0 w1 : World} {b g o : Nat} {p : Pl} {a : ByteArray} (h : PS w0 b p g o a w1) (O : Obj) : PS w0 b p g o a (w1.alloc O) := h.next (below_new (Below.refl _ _) O)
theorem PS.far {w0 w1 : World} {b g o x i : Nat} {p : Pl} {a : ByteArray} {v : Value} (h : PS w0 b p g o a w1) (hg : g ≠ x) (hb : b ≠ x) (h0 : w0.heap.size ≤ x) : PS w0 b p g o a (w1.setCell ⟨x, i, none⟩ v) :=
  ⟨by unfold World.cell?; rw [Below.heap_setCell w1 ⟨x, i, none⟩ v g hg]; exact h.1, (Below.heap_setCell w1 ⟨x, i, none⟩ v b hb).trans h.2.1, Below.setCell h.2.2 h0 v⟩
theorem PS.setPlan {w0 w1 : World} {b g o x : Nat} {p q : Pl} {a : ByteArray} (h : PS w0 b p g o a w1) (hg : g ≠ x) (hb : b ≠ x) (h0 : w0.heap.size ≤ x) : PS w0 b p g o a (setPlan w1 x q) :=
  (((((((h.far hg hb h0).far hg hb h0).far hg hb h0).far hg hb h0).far hg hb h0).far hg hb h0).far hg hb h0).far hg hb h0
theorem PS.drew {w0 w1 : World} {b g o : Nat} {p : Pl} {a : ByteArray} (h : PS w0 b p g o a w1) : PS w0 b p g o a w1.drew := ⟨h.1, h.2.1, h.2.2.drew⟩
theorem PS.drawn {w0 w1 : World} {b g o n : Nat} {p : Pl} {a : ByteArray} (h : PS w0 b p g o a w1) : PS w0 b p g o a (w1.drewN n) :=
  ⟨h.1, h.2.1, below_drewN' h.2.2 n⟩

set_option maxRecDepth 100000 in
set_option maxHeartbeats 600000 in
theorem parse_nil (A : Option Addr) (c : Nat) (w : World) : Calls Tryd.prog 10 #[.slice A 0 c] w (Parsed w (parseF [])) := by
  go_enter Tryd.func10, Tryd.ntmps10
  go_upto_region 1 with fail
  go_cut [28] (fun s28 wx => s28 = .bool true ∧ Hid (PlanAt wx w.heap.size Pl.zero) ∧ Hid (Below w.heap.size w wx))
  case first =>
    go_quiet (fail)
    go_wp2_with fail
    go_meet
    exact ⟨rfl, PlanAt.drewN (PlanAt.new w Pl.zero) _, below_drewN' (below_new (Below.refl _ _) _) _⟩
  case rest =>
    obtain ⟨rfl, HP, HW⟩ := hcut
    obtain ⟨h0, h1, h2, h3, h4, h5, h6, h7⟩ := PlanAt.cells8 HP.out
    have hfr := PlanAt.frozen HP.out
    go_wp2
    change bodyPost _ _ _ _ _ (setPlan wc w.heap.size Pl.zero)
    refine bodyPost_ret (results_plan (b := w.heap.size) (p := Pl.zero) (n := 0) (ok := false) Tryd.results10 rfl rfl rfl (setPlan_at HP.out)) rfl ?_
    exact ⟨rfl, setPlan_below _ HW.out (Nat.le_refl _)⟩

set_option maxRecDepth 100000 in
set_option maxHeartbeats 600000 in
theorem parse_empty (g o c m : Nat) (a : ByteArray) (ha : a.size = 0) (w : World) (hg : g < w.heap.size) (hc : w.cell? ⟨g, o, none⟩ = some (.string a)) :
    Calls Tryd.prog 10 #[.slice (some ⟨g, o, none⟩) (m + 1) c] w (Parsed w (Pl.zero, 0, false)) := by
  have hl : a.toList = [] := by rw [ByteArray.toList_eq]; exact List.eq_nil_of_length_eq_zero ha
  have hm : ((m : Int) + 1 == 0) = false := by rw [beq_eq_false_iff_ne]; omega
  go_enter Tryd.func10, Tryd.ntmps10
  go_upto_region 1 with fail
  go_cut [28] (fun s28 wx => s28 = .bool true ∧ Hid (PlanAt wx w.heap.size Pl.zero) ∧ Hid (Below w.heap.size w wx))
  case first =>
    go_quiet (fail)
    go_wp2_with fail
    go_meet
    exact ⟨rfl, PlanAt.drewN (PlanAt.new w Pl.zero) _, below_drewN' (below_new (Below.refl _ _) _) _⟩
  case rest =>
    obtain ⟨rfl, HP, HW⟩ := hcut
    obtain ⟨h0, h1, h2, h3, h4, h5, h6, h7⟩ := PlanAt.cells8 HP.out
    have hfr := PlanAt.frozen HP.out
    go_wp2
    change bodyPost _ _ _ _ _ (setPlan wc w.heap.size Pl.zero)
    refine bodyPost_ret (results_plan (b := w.heap.size) (p := Pl.zero) (n := 0) (ok := false) Tryd.results10 rfl rfl rfl (setPlan_at HP.out)) rfl ?_
    exact ⟨rfl, setPlan_below _ HW.out (Nat.le_refl _)⟩

set_option maxRecDepth 100000 in
set_option maxHeartbeats 600000 in
theorem parse_nocmd (g o c m : Nat) (a : ByteArray) (ha : a.size ≠ 0) (hin : inF a cmds = false) (w : World) (hg : g < w.heap.size) (hc : w.cell? ⟨g, o, none⟩ = some (.string a)) :
    Calls Tryd.prog 10 #[.slice (some ⟨g, o, none⟩) (m + 1) c] w (Parsed w (Pl.zero, 0, false)) := by
  have hl : a.toList ≠ [] := by rw [ByteArray.toList_eq]; intro h; exact ha (by show a.data.toList.length = 0; rw [h]; rfl)
  have hl1 : (a.toList == []) = false := by rw [beq_eq_false_iff_ne]; exact hl
  have hl2 : a.toList.isEmpty = false := by rw [List.isEmpty_eq_false_iff]; exact hl
  have hm : ((m : Int) + 1 == 0) = false := by rw [beq_eq_false_iff_ne]; omega
  have hin' := Lib.hid hin
  clear hin ha
  go_enter Tryd.func10, Tryd.ntmps10
  go_upto_region 1 with fail
  go_cut [28] (fun s28 wx => s28 = .bool true ∧ Hid (PlanAt wx w.heap.size Pl.zero) ∧ Hid (Below w.heap.size w wx))
  case first =>
    go_region_held3 (fun w' => w'.cell? ⟨g, o, none⟩ = some (.string a) ∧ Hid (PlanAt w' w.heap.size Pl.zero) ∧ Hid (Below w.heap.size w w')) ((change PS w w.heap.size Pl.zero g o a _; first | with_reducible assumption | with_reducible exact PS.start hg hc | exact PS.start hg hc))
      (first
        | (go_at_call 17; refine (commands_c _).mono ?_; rintro e w1 ⟨v, rfl, hv, hb⟩; have hS1 : PS w w.heap.size Pl.zero g o a w1 := PS.next (by assumption) hb)
        | (go_at_call 16; refine (contains_b _ cmds a _ (by assumption)).mono ?_; rintro e w2 ⟨rfl, hb2⟩; have hS2 : PS w w.heap.size Pl.zero g o a w2 := PS.next (by assumption) hb2; rw [hin'.out]))
    all_goals (go_wp2_with fail; go_meet)
    refine ⟨rfl, ?_⟩
    exact (show PS w w.heap.size Pl.zero g o a _ by assumption).2
  case rest =>
    obtain ⟨rfl, HP, HW⟩ := hcut
    obtain ⟨h0, h1, h2, h3, h4, h5, h6, h7⟩ := PlanAt.cells8 HP.out
    have hfr := PlanAt.frozen HP.out
    go_wp2
    change bodyPost _ _ _ _ _ (setPlan wc w.heap.size Pl.zero)
    refine bodyPost_ret (results_plan (b := w.heap.size) (p := Pl.zero) (n := 0) (ok := false) Tryd.results10 rfl rfl rfl (setPlan_at HP.out)) rfl ?_
    exact ⟨rfl, setPlan_below _ HW.out (Nat.le_refl _)⟩

end Go.Proofs.YtlddfdkmpnllmaaDoor
