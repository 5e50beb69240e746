/- pilcrowref24.Parse, walked: it answers what parseF answers. -/
import Derived.Test.YtlddfdkmpnllmaaDoorRq
import Derived.Deep.DeepCutAuto
import Derived.Outline
import Derived.Lib.IndexLaws
namespace Go.Proofs.YtlddfdkmpnllmaaDoor
open Go.RowKit Go.Proofs.YtlddfdkmpnllmaaDoorW.PrintWords Go.Proofs.YtlddfdkmpnllmaaDoorW.PrintLast Go.Proofs.YtlddfdkmpnllmaaDoorW.PrintMore Go.Proofs.YtlddfdkmpnllmaaDoor.PRpp
set_option linter.unusedVariables false
set_option linter.unusedSimpArgs false

/-- Both plans lie there, empty; nothing that was there has changed. -/
structure ZZ (w0 w : World) : Prop where
  p : PlanAt w w0.heap.size Pl.zero
  q : PlanAt w (w0.heap.size + 1) Pl.zero
  below : Below w0.heap.size w0 w
theorem ZZ.next {w0 w w1 : World} (h : ZZ w0 w) (hb : Below w.heap.size w w1) : ZZ w0 w1 := ⟨PlanAt.below h.p hb, PlanAt.below h.q hb, below_next h.below hb⟩
theorem ZZ.start (w : World) : ZZ w ((w.alloc (.cells #[.int .i64 0, .int .i64 0, .int .i64 0, .int .i64 0, .int .i64 0, .bool false, .bool false, .bool false] 26 (0, 0))).alloc (.cells #[.int .i64 0, .int .i64 0, .int .i64 0, .int .i64 0, .int .i64 0, .bool false, .bool false, .bool false] 26 (0, 0))) := by
  have h1 : PlanAt (w.alloc (.cells #[.int .i64 0, .int .i64 0, .int .i64 0, .int .i64 0, .int .i64 0, .bool false, .bool false, .bool false] 26 (0, 0))) w.heap.size Pl.zero := PlanAt.new w Pl.zero
  have h2 := PlanAt.new (w.alloc (.cells #[.int .i64 0, .int .i64 0, .int .i64 0, .int .i64 0, .int .i64 0, .bool false, .bool false, .bool false] 26 (0, 0))) Pl.zero
  rw [World.size_alloc] at h2
  exact ⟨PlanAt.alloc h1 _, h2, below_new (below_new (Below.refl _ _) _) _⟩
def PZ (w0 : World) (g o : Nat) (a : ByteArray) (w' : World) : Prop := w'.cell? ⟨g, o, none⟩ = some (.string a) ∧ Hid (ZZ w0 w')
theorem PZ.next {w0 w1 w2 : World} {g o : Nat} {a : ByteArray} (h : PZ w0 g o a w1) (hb : Below w1.heap.size w1 w2) : PZ w0 g o a w2 :=
  ⟨(hb.cell (World.block_lt_of_cell? w1 _ h.1)).trans h.1, ZZ.next h.2 hb⟩
theorem PZ.drew {w0 w1 : World} {g o : Nat} {a : ByteArray} (h : PZ w0 g o a w1) : PZ w0 g o a w1.drew := h.next (below_drew1 (Below.refl _ _))
/-- What is told where something is wrong. -/
theorem zz_ret {w0 w : World} (h : ZZ w0 w) : Below w0.heap.size w0 (setPlan w w0.heap.size Pl.zero) := setPlan_below _ h.below (Nat.le_refl _)
set_option maxRecDepth 100000 in
set_option maxHeartbeats 1000000 in
theorem refparse_nil (A : Option Addr) (c : Nat) (w : World) : Calls Tryd.prog 11 #[.slice A 0 c] w (Parsed w (parseF [])) := by
  go_enter Tryd.func11, Tryd.ntmps11
  go_wp2
  refine bodyPost_ret (results_plan (b := w.heap.size) (p := Pl.zero) (n := 0) (ok := false) Tryd.results11 rfl rfl rfl (ZZ.start w).p) rfl ?_
  exact ⟨rfl, (ZZ.start w).below⟩
set_option maxRecDepth 100000 in
set_option maxHeartbeats 1000000 in
theorem refparse_cmd (g o c m : Nat) (a : ByteArray) (w : World) (hg : g < w.heap.size) (hc : w.cell? ⟨g, o, none⟩ = some (.string a)) (hneg : idxF a cmds 0 ≤ 0) :
    Calls Tryd.prog 11 #[.slice (some ⟨g, o, none⟩) (m + 1) c] w (Parsed w (Pl.zero, 0, false)) := by
  have hm : ((m : Int) + 1 == 0) = false := by rw [beq_eq_false_iff_ne]; omega
  have hm0 : 0 < m + 1 := by omega
  go_enter Tryd.func11, Tryd.ntmps11
  go_upto_region 4 with fail
  obtain ⟨wb, hwb⟩ : ∃ wb, wb = (w.alloc (.cells #[.int .i64 0, .int .i64 0, .int .i64 0, .int .i64 0, .int .i64 0, .bool false, .bool false, .bool false] 26)).alloc (.cells #[.int .i64 0, .int .i64 0, .int .i64 0, .int .i64 0, .int .i64 0, .bool false, .bool false, .bool false] 26) := ⟨_, rfl⟩
  have HZ : Hid (ZZ w wb) := by rw [hwb]; exact ZZ.start w
  rw [← hwb]
  clear hwb
  have hS0 : PZ w g o a wb := ⟨(HZ.out.below.cell (p := ⟨g, o, none⟩) hg).trans hc, HZ.out⟩
  go_cut [6] (fun s6 wx => s6 = .int .i64 (idxF a cmds 0) ∧ Hid (ZZ w wx))
  case first =>
    have hS0d := PZ.drew hS0
    go_region_held3 (fun w' => w'.cell? ⟨g, o, none⟩ = some (.string a) ∧ Hid (ZZ w w')) ((change PZ w g o a _; with_reducible assumption))
      (first
        | (go_at_call 24; refine (cmdsP_c _).mono ?_; rintro e w1 ⟨v, rfl, hv, hb⟩; have hS1 : PZ w g o a w1 := PZ.next (by assumption) hb)
        | (go_at_call 23; refine (find_c _ cmds a _ (by assumption)).mono ?_; rintro e w2 ⟨rfl, hb2⟩; have hS2 : PZ w g o a w2 := PZ.next (by assumption) hb2))
    all_goals (go_wp2_with fail; go_meet)
    exact ⟨rfl, (show PZ w g o a _ by assumption).2⟩
  case rest =>
    obtain ⟨rfl, HZ2⟩ := hcut
    obtain ⟨z0, z1, z2, z3, z4, z5, z6, z7⟩ := PlanAt.cells8 HZ2.out.q
    obtain ⟨x0, x1, x2, x3, x4, x5, x6, x7⟩ := PlanAt.cells8 HZ2.out.p
    have hfr := PlanAt.frozen HZ2.out.p
    go_wp2
    change bodyPost _ _ _ _ _ (setPlan wc w.heap.size Pl.zero)
    refine bodyPost_ret (results_plan (b := w.heap.size) (p := Pl.zero) (n := 0) (ok := false) Tryd.results11 rfl rfl rfl (setPlan_at HZ2.out.p)) rfl ?_
    exact ⟨rfl, zz_ret HZ2.out⟩
end Go.Proofs.YtlddfdkmpnllmaaDoor
