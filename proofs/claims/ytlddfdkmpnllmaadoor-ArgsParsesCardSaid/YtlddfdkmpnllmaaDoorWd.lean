/- args.Words answers what wordsF answers. -/
import Derived.Test.YtlddfdkmpnllmaaDoorPc
import Derived.Test.YtlddfdkmpnllmaaDoorShelf
import Derived.Lib.ItoaLen
import Derived.Deep.RegionWith
import Derived.WalkSmall
import Derived.Sort.Grow
import Derived.Lib.LaidTab
namespace Go.Proofs.YtlddfdkmpnllmaaDoor
open Go.RowKit Go.Proofs.YtlddfdkmpnllmaaDoorW.PrintWords Go.Proofs.YtlddfdkmpnllmaaDoorW.PrintLast Go.Proofs.YtlddfdkmpnllmaaDoorW.PrintMore
set_option linter.unusedVariables false
set_option linter.unusedSimpArgs false

def eFrom : ByteArray := ⟨#[45, 45, 102, 114, 111, 109, 61]⟩
def eTo : ByteArray := ⟨#[45, 45, 116, 111, 61]⟩
def eForm : ByteArray := ⟨#[45, 45, 102, 111, 114, 109, 61]⟩
def eSize : ByteArray := ⟨#[45, 45, 115, 105, 122, 101, 61]⟩
def kw (is : Bool) (word : ByteArray) (xs : List ByteArray) : List ByteArray := if is = true then xs ++ [word] else xs
def itoaF (n : Int) : ByteArray := ⟨(Lib.itoa n).toArray⟩
/-- The words of a plan, whether some ask for it or not. -/
def wordsL (p : Pl) : List ByteArray :=
  kw p.t kStrip (kw p.s kSign (kw p.f kFramed (kw (p.c4 != 0 && p.c4 != 4096) (eSize ++ itoaF p.c4) (kw (decide (1 < p.c3) || decide (p.c3 < 0)) (eForm ++ nameF p.c3)
    (kw (p.c2 != 0) (eTo ++ nameF p.c2) (kw (p.c1 != 0) (eFrom ++ nameF p.c1) [cmds.getD p.c0.toNat ByteArray.empty]))))))
def wordsF (p : Pl) : List ByteArray × Bool :=
  if p.c0 < 1 then ([], false) else if 6 < p.c0 then ([], false)
  else if (parseF (wordsL p)).2.2 = false then ([], false) else if (parseF (wordsL p)).1.same p = false then ([], false) else (wordsL p, true)

def Worded (w : World) (r : List ByteArray × Bool) (e : Ending) (w' : World) : Prop := ∃ v, e = .returned (.tuple #[v, .bool r.2]) ∧ SL w' v r.1 ∧ Below w.heap.size w w'

set_option maxRecDepth 100000 in
set_option maxHeartbeats 1000000 in
theorem words_bad (p : Pl) (h : p.c0 < 1 ∨ 6 < p.c0) (w : World) : Calls Tryd.prog 12 #[.agg p.cells] w (Worded w ([], false)) := by
  rcases h with h | h
  · have k1 : decide (p.c0 < 1) = true := decide_eq_true h
    clear h
    unfold Pl.cells
    go_enter Tryd.func12, Tryd.ntmps12
    go_wp2
    go_ret2
    exact ⟨_, rfl, ⟨none, 0, rfl, Nat.le_refl _, Kd.C_nil _ _⟩, below_new (Below.refl _ _) _⟩
  · have k1 : decide (p.c0 < 1) = false := decide_eq_false (by omega)
    have k2 : decide (6 < p.c0) = true := decide_eq_true h
    clear h
    unfold Pl.cells
    go_enter Tryd.func12, Tryd.ntmps12
    go_wp2
    go_ret2
    exact ⟨_, rfl, ⟨none, 0, rfl, Nat.le_refl _, Kd.C_nil _ _⟩, below_new (Below.refl _ _) _⟩

theorem R_one {w : World} {base g : Nat} {s : ByteArray} (hb : base ≤ g) (h : w.heap[g]? = some (.cells #[.string s] 9 (0, 0))) : Kd.R Kd.string 9 w base (fun _ => True) (.slice (some ⟨g, 0, none⟩) 1 1) [s] :=
  Kd.R_of_own ⟨rfl, .inr ⟨g, 1, _, rfl, hb, h, Nat.le_refl _, by decide, rfl, rfl⟩⟩ (fun _ _ => trivial)
theorem heap_new (w : World) (o : Obj) : (w.alloc o).heap[w.heap.size]? = some o := by
  show (w.heap.push o)[w.heap.size]? = _
  simp
theorem heap_old (w : World) (o : Obj) (k : Nat) (h : k < w.heap.size) : (w.alloc o).heap[k]? = w.heap[k]? := Below.heap_alloc w o k h
theorem outA {w0 w1 : World} {b : Nat} {p : Pl} {s : ByteArray} (hp : PlanAt w1 b p) (hB : Below w0.heap.size w0 w1) :
    PutW w0 w0 ((w1.alloc (.cells #[.string s] 9)).alloc (.cells #[.slice (some ⟨w1.heap.size, 0, none⟩) 1 1] 22)) (w1.heap.size + 1) b p [s] := by
  have hs : (w1.alloc (.cells #[.string s] 9)).heap.size = w1.heap.size + 1 := World.size_alloc _ _
  refine ⟨⟨_, ?_, R_one hB.size ((heap_old _ _ _ (by rw [hs]; omega)).trans (heap_new _ _))⟩, (hp.alloc _).alloc _, below_new (below_new hB _) _⟩
  have h := heap_new (w1.alloc (.cells #[.string s] 9)) (.cells #[.slice (some ⟨w1.heap.size, 0, none⟩) 1 1] 22)
  rw [hs] at h; exact h
theorem outB {w0 w1 : World} {b : Nat} {p : Pl} {s : ByteArray} (hp : PlanAt w1 b p) (hB : Below w0.heap.size w0 w1) :
    PutW w0 w0 ((w1.alloc (.cells #[.slice (some ⟨w1.heap.size + 1, 0, none⟩) 1 1] 22)).alloc (.cells #[.string s] 9)) w1.heap.size b p [s] := by
  have hs : (w1.alloc (.cells #[.slice (some ⟨w1.heap.size + 1, 0, none⟩) 1 1] 22)).heap.size = w1.heap.size + 1 := World.size_alloc _ _
  refine ⟨⟨_, (heap_old _ _ _ (by rw [hs]; omega)).trans (heap_new _ _), R_one (Nat.le_succ_of_le hB.size) ?_⟩, (hp.alloc _).alloc _, below_new (below_new hB _) _⟩
  have h := heap_new (w1.alloc (.cells #[.slice (some ⟨w1.heap.size + 1, 0, none⟩) 1 1] 22)) (.cells #[.string s] 9)
  rw [hs] at h; exact h
theorem outC {w0 w1 : World} {b x : Nat} {v : Value} {p : Pl} {s : ByteArray} (hp : PlanAt w1 b p) (hB : Below w0.heap.size w0 w1) (hx : w1.heap[x]? = some (.cells #[v] 22 (0, 0))) (h0 : w0.heap.size ≤ x) (hne : b ≠ x) :
    PutW w0 w0 ((w1.setCell ⟨x, 0, none⟩ (.slice (some ⟨w1.heap.size, 0, none⟩) 1 1)).alloc (.cells #[.string s] 9)) x b p [s] := by
  have hlt : x < w1.heap.size := (Array.getElem?_eq_some_iff.1 hx).1
  have hs : (w1.setCell ⟨x, 0, none⟩ (.slice (some ⟨w1.heap.size, 0, none⟩) 1 1)).heap.size = w1.heap.size := by simp [World.setCell]
  refine ⟨⟨_, (heap_old _ _ _ (by rw [hs]; exact hlt)).trans ?_, R_one hB.size ?_⟩, (hp.far hne).alloc _, below_new (hB.setCell h0 _) _⟩
  · unfold World.setCell
    simp only [Array.getElem?_modify]
    rw [hx]
    simp
  · have h := heap_new (w1.setCell ⟨x, 0, none⟩ (.slice (some ⟨w1.heap.size, 0, none⟩) 1 1)) (.cells #[.string s] 9)
    rw [hs] at h; exact h
theorem PutW.drew {w0 wi w1 : World} {ob b : Nat} {p : Pl} {xs : List ByteArray} (h : PutW w0 wi w1 ob b p xs) : PutW w0 wi w1.drew ob b p xs := h.next (Below.refl _ _).drew
theorem put_c (is : Bool) (word : ByteArray) (ob b : Nat) (p : Pl) (xs : List ByteArray) (hxs : xs.length ≤ 100) (w0 wi w : World) (hb0 : w0.heap.size ≤ ob) (h : PutW w0 wi w ob b p xs) :
    Calls Tryd.prog 28 #[.bool is, .string word, .pointer (some ⟨ob, 0, none⟩)] w fun e w' => e = .returned (.tuple #[]) ∧ PutW w0 wi w' ob b p (kw is word xs) := by
  cases is
  · exact (put_no word _ w).mono fun e w' ⟨h1, h2⟩ => ⟨h1, by rw [← h2]; exact h⟩
  · exact put_yes word ob b p xs hxs w0 wi w hb0 h
theorem kw_len {is : Bool} {word : ByteArray} {xs : List ByteArray} {n : Nat} (h : xs.length ≤ n) : (kw is word xs).length ≤ n + 1 := by
  unfold kw
  split
  · simp; omega
  · omega
theorem nameF_size (c : Int) : (nameF c).size ≤ 10 := by
  unfold nameF
  split
  · decide
  · rename_i h
    have h : c = 1 ∨ c = 2 ∨ c = 3 ∨ c = 4 ∨ c = 5 ∨ c = 6 ∨ c = 7 ∨ c = 8 ∨ c = 9 ∨ c = 10 := by omega
    rcases h with rfl | rfl | rfl | rfl | rfl | rfl | rfl | rfl | rfl | rfl <;> decide
theorem cat_name (e : ByteArray) (he : e.size ≤ 10) (c : Int) (w : World) : (Op.stringOp .add e (nameF c)).run Tryd.prog w = .ok (.string (e ++ nameF c)) w :=
  run_string_add_sum w e (nameF c) (by have := nameF_size c; omega)
/-- The table that strconv.Itoa reads. -/
def Tab (w : World) : Prop := Lib.TabIs Tryd.prog w "internal/strconv.uint64pow10" .u64 Lib.pow10Tab ∧ 1 < w.heap.size
theorem gTab : Tryd.prog.globalNamed "internal/strconv.uint64pow10" = some 1 := by kernel_rfl
theorem Tab.below {w w1 : World} (h : Tab w) (hb : Below w.heap.size w w1) : Tab w1 := ⟨var?_below hb gTab h.2 h.1, Nat.lt_of_lt_of_le h.2 hb.size⟩
theorem below_grow (w : World) (os : Array Obj) : Below w.heap.size w (Sort.grow w os) :=
  ⟨rfl, rfl, rfl, by simp [Sort.grow], fun k hk => by simp only [Sort.grow]; rw [Array.getElem?_append_left hk]⟩
theorem itoa_c (n : Int) (h0 : -9223372036854775808 ≤ n) (h1 : n ≤ 9223372036854775807) (w : World) (ht : Tab w) : Calls Tryd.prog 30 #[.int .i64 n] w fun e w' => e = .returned (.string (itoaF n)) ∧ Below w.heap.size w w' :=
  (Tryd.strconv_Itoa n h0 h1 w ht.1).mono fun e w' ⟨he, k, os, hw⟩ => ⟨he, by rw [hw]; exact below_next (below_drewN' (Below.refl _ _) k) (below_grow (w.drewN k) os)⟩
theorem itoaF_size (n : Int) (h0 : -9223372036854775808 ≤ n) (h1 : n ≤ 9223372036854775807) : (itoaF n).size ≤ 21 := by
  have := Lib.itoa_length_le n h0 h1
  simpa [itoaF, ByteArray.size] using this
theorem kw_mem {is : Bool} {word s : ByteArray} {xs : List ByteArray} (h : s ∈ kw is word xs) : s = word ∨ s ∈ xs := by
  unfold kw at h
  split at h
  · rw [List.mem_append, List.mem_singleton] at h
    exact h.symm
  · exact .inr h
theorem size_cat (a b : ByteArray) : (a ++ b).size = a.size + b.size := by simp [ByteArray.size_append]
theorem cmds_size (n : Nat) : (cmds.getD n ByteArray.empty).size ≤ 10 := by
  match n with
  | 0 => decide
  | 1 => decide
  | 2 => decide
  | 3 => decide
  | 4 => decide
  | 5 => decide
  | 6 => decide
  | _ + 7 => exact Nat.zero_le _
theorem wordsL_size (p : Pl) (h0 : -9223372036854775808 ≤ p.c4) (h1 : p.c4 ≤ 9223372036854775807) : ∀ s ∈ wordsL p, s.size ≤ 100 := by
  intro s hs
  unfold wordsL at hs
  have n1 := nameF_size p.c1
  have n2 := nameF_size p.c2
  have n3 := nameF_size p.c3
  have n4 := itoaF_size p.c4 h0 h1
  have n5 := cmds_size p.c0.toNat
  rcases kw_mem hs with rfl | hs
  · decide
  rcases kw_mem hs with rfl | hs
  · decide
  rcases kw_mem hs with rfl | hs
  · decide
  rcases kw_mem hs with rfl | hs
  · rw [size_cat]; have : eSize.size = 7 := rfl; omega
  rcases kw_mem hs with rfl | hs
  · rw [size_cat]; have : eForm.size = 7 := rfl; omega
  rcases kw_mem hs with rfl | hs
  · rw [size_cat]; have : eTo.size = 5 := rfl; omega
  rcases kw_mem hs with rfl | hs
  · rw [size_cat]; have : eFrom.size = 7 := rfl; omega
  rw [List.mem_singleton] at hs
  subst hs
  omega
theorem wordsF_eq {p q : Pl} {n : Int} {ok : Bool} (h1 : 1 ≤ p.c0) (h6 : p.c0 ≤ 6) (hr : parseF (wordsL p) = (q, n, ok)) : wordsF p = if ok = false then ([], false) else if q.same p = false then ([], false) else (wordsL p, true) := by
  unfold wordsF
  rw [if_neg (by omega), if_neg (by omega), hr]
theorem SL.cmds {w : World} {v : Value} (h : SL w v cmds) : ∃ g o c, v = .slice (some ⟨g, o, none⟩) 7 c ∧ g < w.heap.size ∧ ∀ j, j < 7 → w.cell? ⟨g, o + j, none⟩ = some (.string (cmds.getD j ByteArray.empty)) := SL.cells h

set_option maxRecDepth 100000 in
set_option maxHeartbeats 8000000 in
theorem words_good (p : Pl) (h1 : 1 ≤ p.c0) (h6 : p.c0 ≤ 6) (hr0 : -9223372036854775808 ≤ p.c4) (hr1 : p.c4 ≤ 9223372036854775807) (w : World) (hT : Tab w) : Calls Tryd.prog 12 #[.agg p.cells] w (Worded w (wordsF p)) := by
  have k1 : decide (p.c0 < 1) = false := decide_eq_false (by omega)
  have k2 : decide (6 < p.c0) = false := decide_eq_false (by omega)
  have k3 : 0 ≤ p.c0 := by omega
  have k4 : p.c0 < 7 := by omega
  obtain ⟨cmd, hcmd⟩ : ∃ cmd, cmds.getD p.c0.toNat ByteArray.empty = cmd := ⟨_, rfl⟩
  have HC := Lib.hid hcmd
  have HR0 := Lib.hid hr0
  have HR1 := Lib.hid hr1
  have HT := Lib.hid hT
  clear hcmd h1 h6 hr0 hr1 hT
  unfold Pl.cells
  go_enter Tryd.func12, Tryd.ntmps12
  go_upto_region 3 with fail
  obtain ⟨wb, hwb⟩ : ∃ wb, wb = w.alloc (.cells #[.int .i64 p.c0, .int .i64 p.c1, .int .i64 p.c2, .int .i64 p.c3, .int .i64 p.c4, .bool p.f, .bool p.s, .bool p.t] 26) := ⟨_, rfl⟩
  have HPb : Hid (PlanAt wb w.heap.size p) := by rw [hwb]; exact PlanAt.new w p
  have HBb : Hid (Below w.heap.size w wb) := by rw [hwb]; exact below_new (Below.refl _ _) _
  have hsb : w.heap.size < wb.heap.size := PlanAt.lt HPb.out
  rw [← hwb]
  clear hwb
  have hz0 := PlanAt.cell HPb.out 0
  simp only [Pl.cells] at hz0
  go_cut [4] (fun s4 wx => ∃ ob, s4 = .pointer (some ⟨ob, 0, none⟩) ∧ Hid (w.heap.size < ob ∧ PutW w w wx ob w.heap.size p [cmd]))
  case first =>
    go_region_with (go_at_call 17; refine (commands_c _).mono ?_; rintro e w1 ⟨v, rfl, hv, hb⟩; obtain ⟨g, o, c, rfl, hg, hcs⟩ := SL.cmds hv; have hcx := (hcs p.c0.toNat (by omega)).trans (congrArg (fun s => some (Value.string s)) HC.out); clear hcs; have hs1 := hb.size; (try simp only [size_drew, World.size_alloc] at hs1); have hs2 : w.heap.size < w1.heap.size := (by omega); obtain ⟨hcB, hfB⟩ := bcell hb; (try simp only [size_drew, World.size_alloc, Nat.add_one_le_iff] at hs1 hcB hfB))
    all_goals (go_wp2_with fail; go_meet)
    all_goals (have hpw : PlanAt w1 w.heap.size p := by first | exact PlanAt.below (w := wb.drew) HPb.out hb | exact PlanAt.below (w := (wb.alloc _).drew) (PlanAt.alloc HPb.out _) hb)
    all_goals (have hBw : Below w.heap.size w w1 := by first | exact below_then HBb.out.drew hb HBb.out.size | exact below_then (below_new HBb.out _).drew hb (below_new HBb.out _).drew.size)
    all_goals first | exact ⟨_, rfl, by omega, outA hpw hBw⟩ | exact ⟨_, rfl, by omega, outB hpw hBw⟩ | exact ⟨_, rfl, by omega, outC hpw hBw ((hb.block _ (by show wb.heap.size < (wb.alloc _).heap.size; simp)).trans (heap_new wb _)) (by omega) (by omega)⟩
  case rest =>
    obtain ⟨ob, rfl, HO⟩ := hcut
    have hob := HO.1
    have HW0 := Lib.hid HO.2
    go_wp2_with fail
    obtain ⟨x1, hx1⟩ : ∃ x1, kw (p.c1 != 0) (eFrom ++ nameF p.c1) [cmd] = x1 := ⟨_, rfl⟩
    have HX1 := Lib.hid hx1
    have HNx1 : Hid (x1.length ≤ 2) := by rw [← HX1.out]; exact kw_len (Nat.le_refl 1)
    clear hx1
    go_cut [] (fun wx => Hid (PutW w w wx ob w.heap.size p x1))
    case first =>
      have hcat : ¬ 9223372036854775807 < 7 + (nameF p.c1).size := by have := nameF_size p.c1; omega
      have hS0 : wc.drew.cell? ⟨w.heap.size, 1, none⟩ = some (.int .i64 p.c1) ∧ Hid (PlanAt wc.drew w.heap.size p) := ⟨HW0.out.plan.cell 1, HW0.out.plan⟩
      have hW0 := PutW.drew HW0.out
      go_region_held3 (fun w' => w'.cell? ⟨w.heap.size, 1, none⟩ = some (.int .i64 p.c1) ∧ Hid (PlanAt w' w.heap.size p)) (first | with_reducible assumption | exact hS0)
        (first
          | (go_at_call 29; refine (name_calls p.c1 _).mono ?_; rintro e w1 ⟨rfl, hb⟩; have hW1 := PutW.next hW0 hb; have hS1 : w1.cell? ⟨w.heap.size, 1, none⟩ = some (.int .i64 p.c1) ∧ Hid (PlanAt w1 w.heap.size p) := ⟨hW1.plan.cell 1, hW1.plan⟩)
          | (go_at_call 28; refine (put_c _ _ _ _ _ _ (by show [cmd].length ≤ 100; simp) _ _ _ (Nat.le_of_lt hob) (by assumption)).mono ?_; rintro e w2 ⟨rfl, hW2⟩; have hS2 : w2.cell? ⟨w.heap.size, 1, none⟩ = some (.int .i64 p.c1) ∧ Hid (PlanAt w2 w.heap.size p) := ⟨hW2.plan.cell 1, hW2.plan⟩))
      all_goals (go_wp2_with fail; go_meet)
      rw [← HX1.out]; exact hW2
    case rest =>
      have HW6 := hcut
      clear hcut
      go_wp2_with fail
      obtain ⟨x2, hx2⟩ : ∃ x2, kw (p.c2 != 0) (eTo ++ nameF p.c2) x1 = x2 := ⟨_, rfl⟩
      have HX2 := Lib.hid hx2
      clear hx2
      have HNx2 : Hid (x2.length ≤ 3) := by rw [← HX2.out]; exact kw_len HNx1.out
      go_cut [] (fun wx => Hid (PutW w w wx ob w.heap.size p x2))
      case first =>
        have hcat : ¬ 9223372036854775807 < 5 + (nameF p.c2).size := by have := nameF_size p.c2; omega
        have hS0 : wc.drew.cell? ⟨w.heap.size, 2, none⟩ = some (.int .i64 p.c2) ∧ Hid (PlanAt wc.drew w.heap.size p) := ⟨HW6.out.plan.cell 2, HW6.out.plan⟩
        have hW0 := PutW.drew HW6.out
        go_region_held3 (fun w' => w'.cell? ⟨w.heap.size, 2, none⟩ = some (.int .i64 p.c2) ∧ Hid (PlanAt w' w.heap.size p)) (first | with_reducible assumption | exact hS0)
          (first
            | (go_at_call 29; refine (name_calls p.c2 _).mono ?_; rintro e w1 ⟨rfl, hb⟩; have hW1 := PutW.next hW0 hb; have hS1 : w1.cell? ⟨w.heap.size, 2, none⟩ = some (.int .i64 p.c2) ∧ Hid (PlanAt w1 w.heap.size p) := ⟨hW1.plan.cell 2, hW1.plan⟩)
            | (go_at_call 28; refine (put_c _ _ _ _ _ _ (Nat.le_trans HNx1.out (by decide)) _ _ _ (Nat.le_of_lt hob) (by assumption)).mono ?_; rintro e w2 ⟨rfl, hW2⟩; have hS2 : w2.cell? ⟨w.heap.size, 2, none⟩ = some (.int .i64 p.c2) ∧ Hid (PlanAt w2 w.heap.size p) := ⟨hW2.plan.cell 2, hW2.plan⟩))
        all_goals (go_wp2_with fail; go_meet)
        rw [← HX2.out]; exact hW2
      case rest =>
        have HW7 := hcut
        clear hcut
        go_wp2_with fail
        obtain ⟨x3, hx3⟩ : ∃ x3, kw (decide (1 < p.c3) || decide (p.c3 < 0)) (eForm ++ nameF p.c3) x2 = x3 := ⟨_, rfl⟩
        have HX3 := Lib.hid hx3
        clear hx3
        have HNx3 : Hid (x3.length ≤ 4) := by rw [← HX3.out]; exact kw_len HNx2.out
        go_cut [] (fun wx => Hid (PutW w w wx ob w.heap.size p x3))
        case first =>
          have hcat : ¬ 9223372036854775807 < 7 + (nameF p.c3).size := by have := nameF_size p.c3; omega
          have hS0 : wc.drew.cell? ⟨w.heap.size, 3, none⟩ = some (.int .i64 p.c3) ∧ Hid (PlanAt wc.drew w.heap.size p) := ⟨HW7.out.plan.cell 3, HW7.out.plan⟩
          have hW0 := PutW.drew HW7.out
          by_cases h3 : 1 < p.c3
          · have k5 : decide (1 < p.c3) = true := decide_eq_true h3
            have k6 : (decide (1 < p.c3) || decide (p.c3 < 0)) = true := by rw [k5]; rfl
            have K6 := Lib.hid k6
            clear h3 k6
            refine wp_region_held_drew (S := fun w' => w'.cell? ⟨w.heap.size, 3, none⟩ = some (.int .i64 p.c3) ∧ Hid (PlanAt w' w.heap.size p)) (by kernel_rfl) hS0 (fun hHeld => ?_)
            refine wpAnyH_take (i := 0) (v := ?_) rfl (by kernel_rfl) (by kernel_rfl) (by kernel_rfl) (fun _ _ _ h => h) (Or.inl ⟨by rfl, ?_⟩) (by assumption) ?_
            rotate_left
            · (intro wx hSw; (try dsimp only at hSw); go_simp <;> (with_reducible rfl))
            try simp only [Act.put, List.setIfInBounds_toArray, List.set_cons_zero, List.set_cons_succ]
            refine wpAnyH_take (i := 1) (v := ?_) rfl (by kernel_rfl) (by kernel_rfl) (by kernel_rfl) (fun _ _ _ h => h) (Or.inl ⟨by rfl, ?_⟩) (by assumption) ?_
            rotate_left
            · (intro wx hSw; (try dsimp only at hSw); go_simp <;> (with_reducible rfl))
            try simp only [Act.put, List.setIfInBounds_toArray, List.set_cons_zero, List.set_cons_succ]
            refine wpAnyH_take (i := 2) (v := ?_) rfl (by kernel_rfl) (by kernel_rfl) (by kernel_rfl) (fun _ _ _ h => h) (Or.inl ⟨by rfl, ?_⟩) (by assumption) ?_
            rotate_left
            · (intro wx hSw; (try dsimp only at hSw); go_simp <;> (with_reducible rfl))
            try simp only [Act.put, List.setIfInBounds_toArray, List.set_cons_zero, List.set_cons_succ]
            refine wpAnyH_take (i := 3) (v := ?_) rfl (by kernel_rfl) (by kernel_rfl) (by kernel_rfl) (fun _ _ _ h => h) (Or.inl ⟨by rfl, ?_⟩) (by assumption) ?_
            rotate_left
            · (intro wx hSw; (try dsimp only at hSw); go_simp <;> (with_reducible rfl))
            try simp only [Act.put, List.setIfInBounds_toArray, List.set_cons_zero, List.set_cons_succ]
            refine wpAnyH_take (i := 4) (v := ?_) rfl (by kernel_rfl) (by kernel_rfl) (by kernel_rfl) (fun _ _ _ h => h) (Or.inl ⟨by rfl, ?_⟩) (by assumption) ?_
            rotate_left
            · (intro wx hSw; (try dsimp only at hSw); go_simp <;> (with_reducible rfl))
            try simp only [Act.put, List.setIfInBounds_toArray, List.set_cons_zero, List.set_cons_succ]
            refine wpAnyH_take (i := 5) rfl (by kernel_rfl) (by kernel_rfl) (by kernel_rfl) (fun _ _ _ h => h) (Or.inr ⟨by rfl, rfl⟩) (by assumption) ?_
            try simp only [Act.put, List.setIfInBounds_toArray, List.set_cons_zero, List.set_cons_succ]
            refine wpAnyH_take (i := 6) rfl (by kernel_rfl) (by kernel_rfl) (by kernel_rfl) (fun _ _ _ h => h) (Or.inr ⟨by rfl, rfl⟩) (by assumption) ?_
            try simp only [Act.put, List.setIfInBounds_toArray, List.set_cons_zero, List.set_cons_succ]
            refine wpAnyH_take (i := 7) rfl (by kernel_rfl) (by kernel_rfl) (by kernel_rfl) (fun _ _ _ h => h) (Or.inr ⟨by rfl, rfl⟩) (by assumption) ?_
            try simp only [Act.put, List.setIfInBounds_toArray, List.set_cons_zero, List.set_cons_succ]
            refine wpAnyH_take (i := 8) (v := ?_) rfl (by kernel_rfl) (by kernel_rfl) (by kernel_rfl) (fun _ _ _ h => h) (Or.inl ⟨by rfl, ?_⟩) (by assumption) ?_
            rotate_left
            · (intro wx hSw; (try dsimp only at hSw); go_simp <;> (with_reducible rfl))
            try simp only [Act.put, List.setIfInBounds_toArray, List.set_cons_zero, List.set_cons_succ]
            refine wpAnyH_take (i := 9) (v := ?_) rfl (by kernel_rfl) (by kernel_rfl) (by kernel_rfl) (fun _ _ _ h => h) (Or.inl ⟨by rfl, ?_⟩) (by assumption) ?_
            rotate_left
            · (intro wx hSw; (try dsimp only at hSw); go_simp <;> (with_reducible rfl))
            try simp only [Act.put, List.setIfInBounds_toArray, List.set_cons_zero, List.set_cons_succ]
            refine wpAnyH_take (i := 10) (v := ?_) rfl (by kernel_rfl) (by kernel_rfl) (by kernel_rfl) (fun _ _ _ h => h) (Or.inl ⟨by rfl, ?_⟩) (by assumption) ?_
            rotate_left
            · (intro wx hSw; (try dsimp only at hSw); go_simp <;> (with_reducible rfl))
            try simp only [Act.put, List.setIfInBounds_toArray, List.set_cons_zero, List.set_cons_succ]
            refine wpAnyH_ready (rs := [11]) (by kernel_rfl) (by simp) ?_
            refine AllReadyH.cons rfl (fun K hK => ?_) AllReadyH.nil
            go_simp
            refine (name_calls p.c3 _).mono ?_
            rintro e w1 ⟨rfl, hb⟩
            have hW1 := PutW.next hW0 hb
            have hS1 : w1.cell? ⟨w.heap.size, 3, none⟩ = some (.int .i64 p.c3) ∧ Hid (PlanAt w1 w.heap.size p) := ⟨hW1.plan.cell 3, hW1.plan⟩
            refine hK.out _ _ hS1 (fun hHeld => ?_)
            clear hK K
            try simp only [Act.put, List.setIfInBounds_toArray, List.set_cons_zero, List.set_cons_succ]
            refine wpAnyH_take (i := 12) (v := ?_) rfl (by kernel_rfl) (by kernel_rfl) (by kernel_rfl) (fun _ _ _ h => h) (Or.inl ⟨by rfl, ?_⟩) (by assumption) ?_
            rotate_left
            · (intro wx hSw; (try dsimp only at hSw); go_simp <;> (with_reducible rfl))
            try simp only [Act.put, List.setIfInBounds_toArray, List.set_cons_zero, List.set_cons_succ]
            refine wpAnyH_ready (rs := [13]) (by kernel_rfl) (by simp) ?_
            refine AllReadyH.cons rfl (fun K hK => ?_) AllReadyH.nil
            go_simp
            refine (put_c _ _ _ _ _ _ (Nat.le_trans HNx2.out (by decide)) _ _ _ (Nat.le_of_lt hob) hW1).mono ?_
            rintro e w2 ⟨rfl, hW2⟩
            have hS2 : w2.cell? ⟨w.heap.size, 3, none⟩ = some (.int .i64 p.c3) ∧ Hid (PlanAt w2 w.heap.size p) := ⟨hW2.plan.cell 3, hW2.plan⟩
            refine hK.out _ _ hS2 (fun hHeld => ?_)
            clear hK K
            refine wpAnyH_done (by kernel_rfl) ?_ _
            try simp only [Act.put, List.setIfInBounds_toArray, List.set_cons_zero, List.set_cons_succ]
            go_wp2_with fail
            go_meet
            rw [← HX3.out, K6.out]; exact hW2
          · have k5 : decide (1 < p.c3) = false := decide_eq_false h3
            have k6 : (decide (1 < p.c3) || decide (p.c3 < 0)) = decide (p.c3 < 0) := by rw [k5]; rfl
            have K6 := Lib.hid k6
            clear h3 k6
            go_region_held3 (fun w' => w'.cell? ⟨w.heap.size, 3, none⟩ = some (.int .i64 p.c3) ∧ Hid (PlanAt w' w.heap.size p)) (first | with_reducible assumption | exact hS0)
              (first
                | (go_at_call 29; refine (name_calls p.c3 _).mono ?_; rintro e w1 ⟨rfl, hb⟩; have hW1 := PutW.next hW0 hb; have hS1 : w1.cell? ⟨w.heap.size, 3, none⟩ = some (.int .i64 p.c3) ∧ Hid (PlanAt w1 w.heap.size p) := ⟨hW1.plan.cell 3, hW1.plan⟩)
                | (go_at_call 28; refine (put_c _ _ _ _ _ _ (Nat.le_trans HNx2.out (by decide)) _ _ _ (Nat.le_of_lt hob) (by assumption)).mono ?_; rintro e w2 ⟨rfl, hW2⟩; have hS2 : w2.cell? ⟨w.heap.size, 3, none⟩ = some (.int .i64 p.c3) ∧ Hid (PlanAt w2 w.heap.size p) := ⟨hW2.plan.cell 3, hW2.plan⟩))
            all_goals (go_wp2_with fail; go_meet)
            all_goals (rw [← HX3.out, K6.out]; exact hW2)
        case rest =>
          have HW8 := hcut
          clear hcut
          go_wp2_with fail
          obtain ⟨x4, hx4⟩ : ∃ x4, kw (p.c4 != 0 && p.c4 != 4096) (eSize ++ itoaF p.c4) x3 = x4 := ⟨_, rfl⟩
          have HX4 := Lib.hid hx4
          clear hx4
          have HNx4 : Hid (x4.length ≤ 5) := by rw [← HX4.out]; exact kw_len HNx3.out
          go_cut [] (fun wx => Hid (PutW w w wx ob w.heap.size p x4))
          case first =>
            have hcat : ¬ 9223372036854775807 < 7 + (itoaF p.c4).size := by have := itoaF_size p.c4 HR0.out HR1.out; omega
            have hS0 : wc.drew.cell? ⟨w.heap.size, 4, none⟩ = some (.int .i64 p.c4) ∧ Hid (PlanAt wc.drew w.heap.size p) := ⟨HW8.out.plan.cell 4, HW8.out.plan⟩
            have hW0 := PutW.drew HW8.out
            by_cases h4 : p.c4 = 0
            · have k5 : (p.c4 != 0) = false := by rw [bne_eq_false_iff_eq]; exact h4
              have k6 : (p.c4 != 0 && p.c4 != 4096) = false := by rw [k5]; rfl
              have K6 := Lib.hid k6
              clear h4 k6
              refine wp_region_held_drew (S := fun w' => w'.cell? ⟨w.heap.size, 4, none⟩ = some (.int .i64 p.c4) ∧ Hid (PlanAt w' w.heap.size p)) (by kernel_rfl) hS0 (fun hHeld => ?_)
              refine wpAnyH_take (i := 0) (v := ?_) rfl (by kernel_rfl) (by kernel_rfl) (by kernel_rfl) (fun _ _ _ h => h) (Or.inl ⟨by rfl, ?_⟩) (by assumption) ?_
              rotate_left
              · (intro wx hSw; (try dsimp only at hSw); go_simp <;> (with_reducible rfl))
              try simp only [Act.put, List.setIfInBounds_toArray, List.set_cons_zero, List.set_cons_succ]
              refine wpAnyH_take (i := 1) (v := ?_) rfl (by kernel_rfl) (by kernel_rfl) (by kernel_rfl) (fun _ _ _ h => h) (Or.inl ⟨by rfl, ?_⟩) (by assumption) ?_
              rotate_left
              · (intro wx hSw; (try dsimp only at hSw); go_simp <;> (with_reducible rfl))
              try simp only [Act.put, List.setIfInBounds_toArray, List.set_cons_zero, List.set_cons_succ]
              refine wpAnyH_take (i := 2) (v := ?_) rfl (by kernel_rfl) (by kernel_rfl) (by kernel_rfl) (fun _ _ _ h => h) (Or.inl ⟨by rfl, ?_⟩) (by assumption) ?_
              rotate_left
              · (intro wx hSw; (try dsimp only at hSw); go_simp <;> (with_reducible rfl))
              try simp only [Act.put, List.setIfInBounds_toArray, List.set_cons_zero, List.set_cons_succ]
              refine wpAnyH_take (i := 3) (v := ?_) rfl (by kernel_rfl) (by kernel_rfl) (by kernel_rfl) (fun _ _ _ h => h) (Or.inl ⟨by rfl, ?_⟩) (by assumption) ?_
              rotate_left
              · (intro wx hSw; (try dsimp only at hSw); go_simp <;> (with_reducible rfl))
              try simp only [Act.put, List.setIfInBounds_toArray, List.set_cons_zero, List.set_cons_succ]
              refine wpAnyH_take (i := 4) (v := ?_) rfl (by kernel_rfl) (by kernel_rfl) (by kernel_rfl) (fun _ _ _ h => h) (Or.inl ⟨by rfl, ?_⟩) (by assumption) ?_
              rotate_left
              · (intro wx hSw; (try dsimp only at hSw); go_simp <;> (with_reducible rfl))
              try simp only [Act.put, List.setIfInBounds_toArray, List.set_cons_zero, List.set_cons_succ]
              refine wpAnyH_take (i := 5) rfl (by kernel_rfl) (by kernel_rfl) (by kernel_rfl) (fun _ _ _ h => h) (Or.inr ⟨by rfl, rfl⟩) (by assumption) ?_
              try simp only [Act.put, List.setIfInBounds_toArray, List.set_cons_zero, List.set_cons_succ]
              refine wpAnyH_take (i := 6) rfl (by kernel_rfl) (by kernel_rfl) (by kernel_rfl) (fun _ _ _ h => h) (Or.inr ⟨by rfl, rfl⟩) (by assumption) ?_
              try simp only [Act.put, List.setIfInBounds_toArray, List.set_cons_zero, List.set_cons_succ]
              refine wpAnyH_take (i := 7) rfl (by kernel_rfl) (by kernel_rfl) (by kernel_rfl) (fun _ _ _ h => h) (Or.inr ⟨by rfl, rfl⟩) (by assumption) ?_
              try simp only [Act.put, List.setIfInBounds_toArray, List.set_cons_zero, List.set_cons_succ]
              refine wpAnyH_take (i := 8) (v := ?_) rfl (by kernel_rfl) (by kernel_rfl) (by kernel_rfl) (fun _ _ _ h => h) (Or.inl ⟨by rfl, ?_⟩) (by assumption) ?_
              rotate_left
              · (intro wx hSw; (try dsimp only at hSw); go_simp <;> (with_reducible rfl))
              try simp only [Act.put, List.setIfInBounds_toArray, List.set_cons_zero, List.set_cons_succ]
              refine wpAnyH_take (i := 9) (v := ?_) rfl (by kernel_rfl) (by kernel_rfl) (by kernel_rfl) (fun _ _ _ h => h) (Or.inl ⟨by rfl, ?_⟩) (by assumption) ?_
              rotate_left
              · (intro wx hSw; (try dsimp only at hSw); go_simp <;> (with_reducible rfl))
              try simp only [Act.put, List.setIfInBounds_toArray, List.set_cons_zero, List.set_cons_succ]
              refine wpAnyH_take (i := 10) (v := ?_) rfl (by kernel_rfl) (by kernel_rfl) (by kernel_rfl) (fun _ _ _ h => h) (Or.inl ⟨by rfl, ?_⟩) (by assumption) ?_
              rotate_left
              · (intro wx hSw; (try dsimp only at hSw); go_simp <;> (with_reducible rfl))
              try simp only [Act.put, List.setIfInBounds_toArray, List.set_cons_zero, List.set_cons_succ]
              refine wpAnyH_ready (rs := [11]) (by kernel_rfl) (by simp) ?_
              refine AllReadyH.cons rfl (fun K hK => ?_) AllReadyH.nil
              go_simp
              refine (itoa_c p.c4 HR0.out HR1.out _ (HT.out.below hW0.below)).mono ?_
              rintro e w1 ⟨rfl, hb⟩
              have hW1 := PutW.next hW0 hb
              have hS1 : w1.cell? ⟨w.heap.size, 4, none⟩ = some (.int .i64 p.c4) ∧ Hid (PlanAt w1 w.heap.size p) := ⟨hW1.plan.cell 4, hW1.plan⟩
              refine hK.out _ _ hS1 (fun hHeld => ?_)
              clear hK K
              try simp only [Act.put, List.setIfInBounds_toArray, List.set_cons_zero, List.set_cons_succ]
              refine wpAnyH_take (i := 12) (v := ?_) rfl (by kernel_rfl) (by kernel_rfl) (by kernel_rfl) (fun _ _ _ h => h) (Or.inl ⟨by rfl, ?_⟩) (by assumption) ?_
              rotate_left
              · (intro wx hSw; (try dsimp only at hSw); go_simp <;> (with_reducible rfl))
              try simp only [Act.put, List.setIfInBounds_toArray, List.set_cons_zero, List.set_cons_succ]
              refine wpAnyH_ready (rs := [13]) (by kernel_rfl) (by simp) ?_
              refine AllReadyH.cons rfl (fun K hK => ?_) AllReadyH.nil
              go_simp
              refine (put_c _ _ _ _ _ _ (Nat.le_trans HNx3.out (by decide)) _ _ _ (Nat.le_of_lt hob) hW1).mono ?_
              rintro e w2 ⟨rfl, hW2⟩
              have hS2 : w2.cell? ⟨w.heap.size, 4, none⟩ = some (.int .i64 p.c4) ∧ Hid (PlanAt w2 w.heap.size p) := ⟨hW2.plan.cell 4, hW2.plan⟩
              refine hK.out _ _ hS2 (fun hHeld => ?_)
              clear hK K
              refine wpAnyH_done (by kernel_rfl) ?_ _
              try simp only [Act.put, List.setIfInBounds_toArray, List.set_cons_zero, List.set_cons_succ]
              go_wp2_with fail
              go_meet
              rw [← HX4.out, K6.out]; exact hW2
            · have k5 : (p.c4 != 0) = true := by rw [bne_iff_ne]; exact h4
              have k6 : (p.c4 != 0 && p.c4 != 4096) = (p.c4 != 4096) := by rw [k5]; rfl
              have K6 := Lib.hid k6
              clear h4 k6
              go_region_held3 (fun w' => w'.cell? ⟨w.heap.size, 4, none⟩ = some (.int .i64 p.c4) ∧ Hid (PlanAt w' w.heap.size p)) (first | with_reducible assumption | exact hS0)
                (first
                  | (go_at_call 30; refine (itoa_c p.c4 HR0.out HR1.out _ (HT.out.below hW0.below)).mono ?_; rintro e w1 ⟨rfl, hb⟩; have hW1 := PutW.next hW0 hb; have hS1 : w1.cell? ⟨w.heap.size, 4, none⟩ = some (.int .i64 p.c4) ∧ Hid (PlanAt w1 w.heap.size p) := ⟨hW1.plan.cell 4, hW1.plan⟩)
                  | (go_at_call 28; refine (put_c _ _ _ _ _ _ (Nat.le_trans HNx3.out (by decide)) _ _ _ (Nat.le_of_lt hob) (by assumption)).mono ?_; rintro e w2 ⟨rfl, hW2⟩; have hS2 : w2.cell? ⟨w.heap.size, 4, none⟩ = some (.int .i64 p.c4) ∧ Hid (PlanAt w2 w.heap.size p) := ⟨hW2.plan.cell 4, hW2.plan⟩))
              all_goals (go_wp2_with fail; go_meet)
              rw [← HX4.out, K6.out]; exact hW2
          case rest =>
            have HW9 := hcut
            clear hcut
            obtain ⟨y0, y1, y2, y3, y4, y5, y6, y7⟩ := PlanAt.cells8 HW9.out.plan
            go_wp2_with fail
            refine (put_c p.f kFramed ob _ p x4 (Nat.le_trans HNx4.out (by decide)) w w _ (Nat.le_of_lt hob) HW9.out).mono ?_
            rintro e v10 ⟨rfl, hW10⟩
            obtain ⟨x5, hx5⟩ : ∃ x5, kw p.f kFramed x4 = x5 := ⟨_, rfl⟩
            rw [hx5] at hW10
            have HW10 := Lib.hid hW10
            have HX5 := Lib.hid hx5
            have HNx5 : Hid (x5.length ≤ 6) := by rw [← HX5.out]; exact kw_len HNx4.out
            clear hW10 hx5 y0 y1 y2 y3 y4 y5 y6 y7
            obtain ⟨y0, y1, y2, y3, y4, y5, y6, y7⟩ := PlanAt.cells8 HW10.out.plan
            go_wp2_with fail
            refine (put_c p.s kSign ob _ p x5 (Nat.le_trans HNx5.out (by decide)) w w _ (Nat.le_of_lt hob) HW10.out).mono ?_
            rintro e v11 ⟨rfl, hW11⟩
            obtain ⟨x6, hx6⟩ : ∃ x6, kw p.s kSign x5 = x6 := ⟨_, rfl⟩
            rw [hx6] at hW11
            have HW11 := Lib.hid hW11
            have HX6 := Lib.hid hx6
            have HNx6 : Hid (x6.length ≤ 7) := by rw [← HX6.out]; exact kw_len HNx5.out
            clear hW11 hx6 y0 y1 y2 y3 y4 y5 y6 y7
            obtain ⟨y0, y1, y2, y3, y4, y5, y6, y7⟩ := PlanAt.cells8 HW11.out.plan
            go_wp2_with fail
            refine (put_c p.t kStrip ob _ p x6 (Nat.le_trans HNx6.out (by decide)) w w _ (Nat.le_of_lt hob) HW11.out).mono ?_
            rintro e v12 ⟨rfl, hW12⟩
            obtain ⟨x7, hx7⟩ : ∃ x7, kw p.t kStrip x6 = x7 := ⟨_, rfl⟩
            rw [hx7] at hW12
            have HW12 := Lib.hid hW12
            have HX7 := Lib.hid hx7
            have HNx7 : Hid (x7.length ≤ 8) := by rw [← HX7.out]; exact kw_len HNx6.out
            clear hW12 hx7 y0 y1 y2 y3 y4 y5 y6 y7
            have HL : Hid (wordsL p = x7) := by show wordsL p = x7; unfold wordsL; rw [HC.out, HX1.out, HX2.out, HX3.out, HX4.out, HX5.out, HX6.out, HX7.out]
            obtain ⟨vv, hvv, hRv⟩ := HW12.out.out
            have hcv : v12.cell? ⟨ob, 0, none⟩ = some vv := cell_of_blk hvv
            have HVV := Lib.hid hvv
            have HRV := Lib.hid hRv
            clear hvv hRv
            obtain ⟨q, nn, ok, hpr⟩ : ∃ q nn ok, parseF x7 = (q, nn, ok) := ⟨_, _, _, rfl⟩
            have HPR := Lib.hid hpr
            clear hpr
            have HPC : Hid (Calls Tryd.prog 10 #[vv] v12 fun e w' => e = .returned (.tuple #[.agg #[.int .i64 q.c0, .int .i64 q.c1, .int .i64 q.c2, .int .i64 q.c3, .int .i64 q.c4, .bool q.f, .bool q.s, .bool q.t], .int .i64 nn, .bool ok]) ∧ Below v12.heap.size v12 w') := by
              have h := parse_c vv x7 v12 (SL.of_R HRV.out) (fun s hs => Nat.le_trans (wordsL_size p HR0.out HR1.out s (by rw [HL.out]; exact hs)) (by decide))
              rw [HPR.out] at h
              exact h
            go_wp2_with fail
            refine HPC.out.mono ?_
            rintro e w13 ⟨rfl, hb13⟩
            have HW13 := Lib.hid (PutW.next HW12.out hb13)
            have HR13 := Lib.hid (Kd.R_below HRV.out hb13)
            have hc13 : w13.cell? ⟨ob, 0, none⟩ = some vv := (hb13.cell (p := ⟨ob, 0, none⟩) (Array.getElem?_eq_some_iff.1 HVV.out).1).trans hcv
            have hob13 : ob < w13.heap.size := Nat.lt_of_lt_of_le (Array.getElem?_eq_some_iff.1 HVV.out).1 hb13.size
            clear hb13 hcv
            obtain ⟨y0, y1, y2, y3, y4, y5, y6, y7⟩ := PlanAt.cells8 HW13.out.plan
            have hbb : w.heap.size < w13.heap.size := PlanAt.lt HW13.out.plan
            have hneq := run_neq_plan q p
            simp only [Pl.cells] at hneq
            have HWE : Hid (wordsF p = if ok = false then ([], false) else if q.same p = false then ([], false) else (x7, true)) := by
              have h := wordsF_eq (p := p) (q := q) (n := nn) (ok := ok) (by have := of_decide_eq_false k1; omega) (by have := of_decide_eq_false k2; omega) (by rw [HL.out]; exact HPR.out)
              rw [HL.out] at h
              exact h
            have hBend := HW13.out.below
            have HBE := Lib.hid hBend
            clear hBend
            cases ok
            · have HE : Hid (wordsF p = ([], false)) := by have h := HWE.out; rw [if_pos rfl] at h; exact h
              go_wp2_with fail
              go_ret2
              exact ⟨_, by rw [HE.out]; rfl, by rw [HE.out]; exact ⟨none, 0, rfl, Nat.le_refl _, Kd.C_nil _ _⟩, below_new HBE.out _⟩
            · by_cases hsm : q.same p = true
              · rw [hsm] at hneq
                have HE : Hid (wordsF p = (x7, true)) := by have h := HWE.out; rw [if_neg (by decide), hsm, if_neg (by decide)] at h; exact h
                clear hsm
                go_wp2_with fail
                go_ret2
                exact ⟨vv, by rw [HE.out]; rfl, by rw [HE.out]; exact SL.alloc (SL.of_R HR13.out) _, below_new HBE.out _⟩
              · have hsm' : q.same p = false := by simpa using hsm
                rw [hsm'] at hneq
                have HE : Hid (wordsF p = ([], false)) := by have h := HWE.out; rw [if_neg (by decide), if_pos hsm'] at h; exact h
                clear hsm hsm'
                go_wp2_with fail
                go_ret2
                exact ⟨_, by rw [HE.out]; rfl, by rw [HE.out]; exact ⟨none, 0, rfl, Nat.le_refl _, Kd.C_nil _ _⟩, below_new HBE.out _⟩

theorem words_c (p : Pl) (hr0 : -9223372036854775808 ≤ p.c4) (hr1 : p.c4 ≤ 9223372036854775807) (w : World) (hT : Tab w) : Calls Tryd.prog 12 #[.agg p.cells] w (Worded w (wordsF p)) := by
  by_cases h1 : p.c0 < 1
  · have e : wordsF p = ([], false) := by unfold wordsF; rw [if_pos h1]
    rw [e]; exact words_bad p (.inl h1) w
  · by_cases h6 : 6 < p.c0
    · have e : wordsF p = ([], false) := by unfold wordsF; rw [if_neg h1, if_pos h6]
      rw [e]; exact words_bad p (.inr h6) w
    · exact words_good p (by omega) (by omega) hr0 hr1 w hT
end Go.Proofs.YtlddfdkmpnllmaaDoor
