/- Joined texts: Udn, Ufd, Uen. -/
import Derived.Test.YtppchdinolndmaaGreatDoorMUstp
import Derived.Shelf.Spec.SlicesInsertGrow
import Derived.Test.YtppchdinolndmaaGreatDoorMUpp
import Derived.Deep.DeepCutAuto
import Derived.Outline
import Derived.Deep.RegionHeld3
import Derived.Deep.AppendLies
namespace Go.Proofs.YtppchdinolndmaaGreatDoor
open Go.RowKit Go.Proofs.YtppchdinolndmaaGreatDoorW.PrintWords Go.Proofs.YtppchdinolndmaaGreatDoorW.PrintLast Go.Proofs.YtppchdinolndmaaGreatDoorW.PrintMore Go.Proofs.YtppchdinolndmaaGreatDoor.PPu
set_option linter.unusedVariables false
set_option linter.unusedSimpArgs false
def isP (n : Int) : Bool := if n ≤ 1114111 then (if n < 55296 then true else decide (n > 57343)) else false
theorem is_c (n : Int) (w : World) : Calls Tryz.prog 29 #[.int .u32 n] w fun e w' => e = .returned (.bool (isP n)) ∧ Below w.heap.size w w' := by
 refine (scalar_Is.calls n (isP n) w ?_).mono ?_
 ·unfold scalar_Is.f isP; split <;> (try split) <;> rfl
 ·rintro e w' ⟨rfl, ⟨nd, rfl⟩⟩
  exact ⟨rfl, below_drewN' (Below.refl _ _) nd⟩
theorem adapt_c (delta points : Int) (first : Bool) (w : World) (h0 : 0 ≤ delta) (h1 : delta ≤ topP) (hp : 1 ≤ points) :
  Calls Tryz.prog 155 #[.int .u64 delta, .int .u64 points, .bool first] w fun e w' => e = .returned (.int .i64 (adaptP delta points first)) ∧ Below w.heap.size w w' :=
 bias_Adapt.calls 30 delta points first _ w (adapt_f delta points first h0 h1 hp 30 (Nat.le_refl _))
theorem reads_one (w : World) (x y : Int) (h : x = y) : ReadsInt (w.alloc (.cells #[.int .u32 x] 24 (0, 0))) .u32 (some ⟨w.heap.size, 0, none⟩) 1 [y] := by
 subst h
 refine ⟨rfl, by decide, fun _ => ⟨_, rfl, fun k hk => ?_⟩⟩
 obtain rfl : k = 0 := by omega
 rw [Addr.add_lit]
 exact (Blk.new w 24 #[.int .u32 x]).cell rfl
theorem q_step {P : Program} {ops : Array Oper} {o : Oper} {a : Act} {K : Act → World → Prop} {Q : Exit → Act → World → Prop} {E : Prop} {W : World} (base : Nat) (hgd : o.guard = none) (s x : Operand) (t e : TypeId) (k : IntKind) (bytes : Nat)
  (ho : o.op = .call { callee := .builtin .append, args := #[s, x], argTypes := #[t, t] }) (ht : P.underlying t = some (.slice e)) (hinfo : (P.info? e).map (fun i => (i.zero, i.size, i.bytes)) = some (some (.int k 0), 1, bytes)) (hb0 : 0 < bytes)
  (v : Value) (xs ys : List Int) (A : Option Addr) (m c : Nat) (hs : a.eval s = v) (hx : a.eval x = .slice A m c)
  (HO : QRow W base e 1 v xs.length (nums k xs)) (HR : ReadsInt W k A m ys) (hbase : base ≤ W.heap.size) (hl : (xs.length + m) * bytes ≤ 140737488355328)
  (h : ∀ v1 w1, QRow w1 base e 1 v1 (xs ++ ys).length (nums k (xs ++ ys)) → W.grownBy w1 v.ownBlock → (v1.ownBlock = v.ownBlock ∨ ∃ b, v1.ownBlock = some b ∧ W.heap.size ≤ b) → K (a.put o.dst v1) w1) :
  if Region.wanted o (yielded ops a.tmps) = true then Oper.wp P o a W K Q else E := by
 obtain ⟨v1, w1, hr, hq, hg, hat⟩ := q_run_row (P := P) base t o.type e k bytes ht hinfo hb0 v xs ys A m c HO HR hbase hl
 rw [if_pos (by simp [Region.wanted, hgd])]
 unfold Oper.wp execOp
 simp only [ho, resolve, invoke, builtin, Sem.run_bind, Sem.run_pure, Result.andThen_ok, List.map_toArray, List.map_cons, List.map_nil, hs, hx, hr]
 exact h v1 w1 hq hg hat
theorem reads_u8 (w : World) (x : Int) : ReadsInt (w.alloc (.cells #[.int .u8 x] 5 (0, 0))) .u8 (some ⟨w.heap.size, 0, none⟩) 1 [x] := by
 refine ⟨rfl, by decide, fun _ => ⟨_, rfl, fun k hk => ?_⟩⟩
 obtain rfl : k = 0 := by omega
 rw [Addr.add_lit]
 exact (Blk.new w 5 #[.int .u8 x]).cell rfl
theorem q_own_ge {w : World} {base n size : Nat} {e : TypeId} {v : Value} {xs : List Value} (h : QRow w base e size v n xs) (k : Nat) (hk : v.ownBlock = some k) : base ≤ k := by
 rcases h.2 with ⟨_, A, rfl, hA⟩ | ⟨g, off, cap, cur, rfl, hb, _⟩
 ·cases A with
  | none => cases hk
  | some a => injection hk with hk; rw [← hk]; exact (hA a rfl).1
 ·injection hk with hk; rw [← hk]; exact hb
structure EPX (w : World) (g B : Nat) (err fat : Int) (en : Bool) (n : Int) (xs : List Int) (pend : ByteArray) (lv : Value) : Prop where
 blk : Blk w g 108 #[.int .i64 n, .int .i64 err, .int .i64 fat, .bool en, .string pend, lv]
 list : QRow w B 24 1 lv xs.length (nums .u32 xs)
theorem newenc_c (w : World) : Calls Tryz.prog 41 #[] w fun e w' => e = .returned (.pointer (some ⟨w.heap.size, 0, none⟩)) ∧ w' = w.alloc (.cells #[.int .i64 0, .int .i64 0, .int .i64 0, .bool false, .string ⟨#[]⟩, .slice none 0 0] 108 (0, 0)) := by
 go_enter Tryz.func41, Tryz.ntmps41
 go_wp2_with fail
 go_ret
 exact ⟨rfl, rfl⟩
theorem EPX.new (w : World) (B : Nat) : EPX (w.alloc (.cells #[.int .i64 0, .int .i64 0, .int .i64 0, .bool false, .string ⟨#[]⟩, .slice none 0 0] 108 (0, 0))) w.heap.size B 0 0 false 0 [] ⟨#[]⟩ (.slice none 0 0) :=
 ⟨Blk.new w _ _, ⟨rfl, .inl ⟨rfl, none, rfl, fun a h => by cases h⟩⟩⟩
theorem EPX.below {w w1 : World} {g B : Nat} {err fat : Int} {en : Bool} {n : Int} {xs : List Int} {pend : ByteArray} {lv : Value} (h : EPX w g B err fat en n xs pend lv) (hb : Below w.heap.size w w1) : EPX w1 g B err fat en n xs pend lv :=
 ⟨h.blk.below hb, q_move h.list fun k hk => hb.block k (q_lt h.list k hk)⟩
theorem EPX.at5 {w w1 : World} {g B : Nat} {err fat : Int} {en : Bool} {n : Int} {xs : List Int} {pend : ByteArray} {lv : Value} (h : EPX w g B err fat en n xs pend lv) (hb : Below w.heap.size w w1) : w1.cell? ⟨g, 5, none⟩ = some lv ∧ w1.frozen? ⟨g, 5, none⟩ = false :=
 ⟨(h.blk.below hb).cell rfl, (h.blk.below hb).frozen 5⟩
theorem EPX.at5g {w W w1 : World} {g B : Nat} {err fat : Int} {en : Bool} {n : Int} {xs : List Int} {pend : ByteArray} {lv : Value} (h : EPX w g B err fat en n xs pend lv) (hb : Below w.heap.size w W) (hg : W.grownBy w1 lv.ownBlock) : w1.cell? ⟨g, 5, none⟩ = some lv ∧ w1.frozen? ⟨g, 5, none⟩ = false := by
 have h2 := h.below hb
 have hb1 : Blk w1 g _ _ := (hg.block g h2.blk.lt (own_types h2.list h2.blk (by decide))).trans h2.blk
 exact ⟨hb1.cell rfl, hb1.frozen 5⟩
theorem EPX.eat {w : World} {g B : Nat} {err fat : Int} {en : Bool} {n : Int} {xs : List Int} {pend : ByteArray} {lv : Value} (h : EPX w g B err fat en n xs pend lv) (m : Int) : EPX (w.setCell ⟨g, 0, none⟩ (.int .i64 m)) g B err fat en m xs pend lv := by
 have hne := own_types h.list h.blk (by decide)
 exact ⟨h.blk.set 0 _, q_move h.list fun k hk => Below.heap_setCell w _ _ k fun e => hne (by rw [hk, e])⟩
theorem reads_oned (w : World) (x : Int) : ReadsInt (w.alloc (.cells #[.int .u32 x] 24 (0, 0))).drew .u32 (some ⟨w.heap.size, 0, none⟩) 1 [x] := reads_one w x x rfl
theorem take_succ_getD (ys : List Int) (i : Nat) (h : i < ys.length) : ys.take (i + 1) = ys.take i ++ [ys.getD i 0] := by
 rw [List.take_add_one, List.getD_eq_getElem?_getD, List.getElem?_eq_getElem h]
 rfl
theorem EPX.pend {w : World} {g B : Nat} {err fat : Int} {en : Bool} {n : Int} {xs : List Int} {p : ByteArray} {lv : Value} (h : EPX w g B err fat en n xs p lv) (q : ByteArray) : EPX (w.setCell ⟨g, 4, none⟩ (.string q)) g B err fat en n xs q lv := by
 have hne := own_types h.list h.blk (by decide)
 exact ⟨h.blk.set 4 _, q_move h.list fun k hk => Below.heap_setCell w _ _ k fun e => hne (by rw [hk, e])⟩
end Go.Proofs.YtppchdinolndmaaGreatDoor
