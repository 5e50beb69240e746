/- The functions of package step, over the cells of whatever block they point into. -/
import Derived.Test.YtegacgfhmigdjaaBase
import Derived.Test.YtegacgfhmigdjaaWWords
namespace Go.Proofs.Ytegacgfhmigdjaa
open Go.RowKit Go.Proofs.YtegacgfhmigdjaaW.PrintWords
set_option linter.unusedVariables false
set_option linter.unusedSimpArgs false

/-- Block g holds the cells cs of a value of type T. -/
def Blk (w : World) (g : Nat) (T : TypeId) (cs : Array Value) : Prop := w.heap[g]? = some (.cells cs T (0, 0))
theorem Blk.lt {w : World} {g : Nat} {T : TypeId} {cs : Array Value} (h : Blk w g T cs) : g < w.heap.size := (Array.getElem?_eq_some_iff.1 h).1
theorem Blk.cell {w : World} {g : Nat} {T : TypeId} {cs : Array Value} (h : Blk w g T cs) {i : Nat} {v : Value} (hi : cs[i]? = some v) : w.cell? ⟨g, i, none⟩ = some v := by
  have h' : w.heap[g]? = _ := h
  simp [World.cell?, h', hi]
theorem Blk.frozen {w : World} {g : Nat} {T : TypeId} {cs : Array Value} (h : Blk w g T cs) (i : Nat) : w.frozen? ⟨g, i, none⟩ = false := by
  have h' : w.heap[g]? = _ := h
  simp [World.frozen?, h']
theorem Blk.set {w : World} {g : Nat} {T : TypeId} {cs : Array Value} (h : Blk w g T cs) (i : Nat) (v : Value) : Blk (w.setCell ⟨g, i, none⟩ v) g T (cs.setIfInBounds i v) := by
  unfold Blk World.setCell
  simp only [Array.getElem?_modify]
  have h' : w.heap[g]? = _ := h
  rw [h']
  simp
theorem Blk.below {w w1 : World} {g : Nat} {T : TypeId} {cs : Array Value} (h : Blk w g T cs) (hb : Below w.heap.size w w1) : Blk w1 g T cs := (hb.block g h.lt).trans h
theorem Blk.drewN {w : World} {g : Nat} {T : TypeId} {cs : Array Value} (h : Blk w g T cs) (n : Nat) : Blk (w.drewN n) g T cs := h
theorem Blk.new (w : World) (T : TypeId) (cs : Array Value) : Blk (w.alloc (.cells cs T (0, 0))) w.heap.size T cs := heap_alloc_new _ _
theorem Blk.alloc {w : World} {g : Nat} {T : TypeId} {cs : Array Value} (h : Blk w g T cs) (o : Obj) : Blk (w.alloc o) g T cs := (Below.heap_alloc w o g h.lt).trans h
theorem Blk.far {w : World} {g : Nat} {T : TypeId} {cs : Array Value} (h : Blk w g T cs) {p : Addr} (hp : g ≠ p.block) (v : Value) : Blk (w.setCell p v) g T cs := (Below.heap_setCell w p v g hp).trans h

theorem going_c {g : Nat} {T : TypeId} {cs : Array Value} {err : Int} {en : Bool} {w : World} (hb : Blk w g T cs) (e1 : cs[1]? = some (.int .i64 err)) (e3 : cs[3]? = some (.bool en)) :
    Calls Try.prog 38 #[.pointer (some ⟨g, 0, none⟩)] w fun e w' => e = .returned (.bool (err == 0 && !en)) ∧ w = w' := by
  have h1 := hb.cell e1
  have h3 := hb.cell e3
  clear hb e1 e3
  cases h : (err == 0)
  · go_enter Try.func38, Try.ntmps38
    go_wp2
    go_ret
    exact ⟨rfl, rfl⟩
  · go_enter Try.func38, Try.ntmps38
    go_wp2
    go_ret
    exact ⟨rfl, rfl⟩
theorem going_yes {g : Nat} {T : TypeId} {cs : Array Value} {w : World} (hb : Blk w g T cs) (e1 : cs[1]? = some (.int .i64 0)) (e3 : cs[3]? = some (.bool false)) :
    Calls Try.prog 38 #[.pointer (some ⟨g, 0, none⟩)] w fun e w' => e = .returned (.bool true) ∧ w = w' := going_c hb e1 e3
theorem going_end {g : Nat} {T : TypeId} {cs : Array Value} {err : Int} {w : World} (hb : Blk w g T cs) (e1 : cs[1]? = some (.int .i64 err)) (e3 : cs[3]? = some (.bool true)) :
    Calls Try.prog 38 #[.pointer (some ⟨g, 0, none⟩)] w fun e w' => e = .returned (.bool false) ∧ w = w' :=
  (going_c hb e1 e3).mono fun _ _ h => ⟨by rw [h.1]; simp, h.2⟩
theorem going_err {g : Nat} {T : TypeId} {cs : Array Value} {err : Int} {en : Bool} {w : World} (he : err ≠ 0) (hb : Blk w g T cs) (e1 : cs[1]? = some (.int .i64 err)) (e3 : cs[3]? = some (.bool en)) :
    Calls Try.prog 38 #[.pointer (some ⟨g, 0, none⟩)] w fun e w' => e = .returned (.bool false) ∧ w = w' :=
  (going_c hb e1 e3).mono fun _ _ h => ⟨by rw [h.1]; simp [he], h.2⟩
theorem fail_c {g : Nat} {T : TypeId} {cs : Array Value} {err fat : Int} {w : World} (hb : Blk w g T cs) (e1 : cs[1]? = some (.int .i64 err)) (e2 : cs[2]? = some (.int .i64 fat)) :
    Calls Try.prog 16 #[.pointer (some ⟨g, 0, none⟩)] w fun e w' => e = .returned (.agg #[.int .i64 err, .int .i64 fat]) ∧ Below w.heap.size w w' := by
  have h1 := hb.cell e1
  have h2 := hb.cell e2
  have hlt := hb.lt
  have hf := hb.frozen
  clear hb e1 e2
  go_enter Try.func16, Try.ntmps16
  go_wp2
  refine bodyPost_ret (v := .agg #[.int .i64 err, .int .i64 fat]) (by simp [results, Try.results16, go_sem]) rfl ⟨rfl, ?_⟩
  exact below_new (Below.refl _ _) _
theorem at_c {g : Nat} {T : TypeId} {cs : Array Value} {n : Int} {w : World} (hb : Blk w g T cs) (e0 : cs[0]? = some (.int .i64 n)) :
    Calls Try.prog 19 #[.pointer (some ⟨g, 0, none⟩)] w fun e w' => e = .returned (.int .i64 n) ∧ w = w' := by
  have h0 := hb.cell e0
  clear hb e0
  go_enter Try.func19, Try.ntmps19
  go_wp2
  go_ret
  exact ⟨rfl, rfl⟩
/-- Eat(1), going. -/
theorem eat_c {g : Nat} {T : TypeId} {cs : Array Value} {n : Int} {w : World} (hb : Blk w g T cs) (e0 : cs[0]? = some (.int .i64 n)) (e1 : cs[1]? = some (.int .i64 0)) (e3 : cs[3]? = some (.bool false)) (h0 : 0 ≤ n) (hn : n ≤ 4611686018427387904) :
    Calls Try.prog 40 #[.pointer (some ⟨g, 0, none⟩), .int .i64 1] w fun e w' => e = .returned (.tuple #[]) ∧ w' = w.setCell ⟨g, 0, none⟩ (.int .i64 (n + 1)) := by
  have hg := going_yes hb e1 e3
  have c0 := hb.cell e0
  have hf := hb.frozen
  clear e0 e1 e3 hb
  go_enter Try.func40, Try.ntmps40
  go_wp2_with (go_at_call 38; refine hg.mono ?_; rintro e w' ⟨rfl, rfl⟩)
  exact bodyPost_end (v := .tuple #[]) (by simp [results, Try.results40, go_sem]) rfl ⟨rfl, rfl⟩
theorem stop_c {g : Nat} {T : TypeId} {cs : Array Value} {n err z : Int} {w : World} (he : err ≠ 0) (hb : Blk w g T cs) (e0 : cs[0]? = some (.int .i64 n)) (e1 : cs[1]? = some (.int .i64 0)) (e2 : cs[2]? = some (.int .i64 z)) (e3 : cs[3]? = some (.bool false)) :
    Calls Try.prog 39 #[.pointer (some ⟨g, 0, none⟩), .int .i64 err] w fun e w' => e = .returned (.tuple #[]) ∧ w' = (w.setCell ⟨g, 1, none⟩ (.int .i64 err)).setCell ⟨g, 2, none⟩ (.int .i64 n) := by
  have hg := going_yes hb e1 e3
  have c0 := hb.cell e0
  have c1 := hb.cell e1
  have c2 := hb.cell e2
  have hf := hb.frozen
  have h1 : (err == 0) = false := by simpa using he
  have h2 : (err != 0) = true := by simpa using he
  clear e0 e1 e2 e3 hb
  go_enter Try.func39, Try.ntmps39
  go_wp2_with (go_at_call 38; refine hg.mono ?_; rintro e w' ⟨rfl, rfl⟩)
  exact bodyPost_end (v := .tuple #[]) (by simp [results, Try.results39, go_sem]) rfl ⟨rfl, rfl⟩
theorem end_c {g : Nat} {T : TypeId} {cs : Array Value} {w : World} (hb : Blk w g T cs) (e1 : cs[1]? = some (.int .i64 0)) (e3 : cs[3]? = some (.bool false)) :
    Calls Try.prog 44 #[.pointer (some ⟨g, 0, none⟩)] w fun e w' => e = .returned (.tuple #[]) ∧ w' = w.setCell ⟨g, 3, none⟩ (.bool true) := by
  have hg := going_yes hb e1 e3
  have c3 := hb.cell e3
  have hf := hb.frozen
  clear e1 e3 hb
  go_enter Try.func44, Try.ntmps44
  go_wp2_with (go_at_call 38; refine hg.mono ?_; rintro e w' ⟨rfl, rfl⟩)
  exact bodyPost_end (v := .tuple #[]) (by simp [results, Try.results44, go_sem]) rfl ⟨rfl, rfl⟩
/-- End of what doesn't go on: nothing. -/
theorem end_not {g : Nat} {T : TypeId} {cs : Array Value} {err : Int} {en : Bool} {w : World} (hb : Blk w g T cs) (e1 : cs[1]? = some (.int .i64 err)) (e3 : cs[3]? = some (.bool en)) (hn : (err == 0 && !en) = false) :
    Calls Try.prog 44 #[.pointer (some ⟨g, 0, none⟩)] w fun e w' => e = .returned (.tuple #[]) ∧ w = w' := by
  have hg := going_c hb e1 e3
  rw [hn] at hg
  clear e1 e3 hb hn
  go_enter Try.func44, Try.ntmps44
  go_wp2_with (go_at_call 38; refine hg.mono ?_; rintro e w' ⟨rfl, rfl⟩)
  exact bodyPost_end (v := .tuple #[]) (by simp [results, Try.results44, go_sem]) rfl ⟨rfl, rfl⟩
theorem kept_c {g o : Nat} {T : TypeId} {cs : Array Value} {s : ByteArray} {w : World} (hb : Blk w g T cs) (e : cs[o]? = some (.string s)) :
    Calls Try.prog 24 #[.pointer (some ⟨g, o, none⟩)] w fun e w' => e = .returned (.int .i64 s.size) ∧ w = w' := by
  have c0 := hb.cell e
  clear hb e
  go_enter Try.func24, Try.ntmps24
  go_wp2
  go_ret
  exact ⟨rfl, rfl⟩
theorem keep_c {g o : Nat} {T : TypeId} {cs : Array Value} {s t : ByteArray} {w : World} (hb : Blk w g T cs) (e : cs[o]? = some (.string s)) (hs : s.size + t.size ≤ 140737488351232) :
    Calls Try.prog 47 #[.pointer (some ⟨g, o, none⟩), .string t] w fun e w' => e = .returned (.tuple #[]) ∧ w' = w.setCell ⟨g, o, none⟩ (.string (s ++ t)) := by
  have c0 := hb.cell e
  have hf := hb.frozen o
  clear hb e
  go_enter Try.func47, Try.ntmps47
  go_wp2
  exact bodyPost_end (v := .tuple #[]) (by simp [results, Try.results47, go_sem]) rfl ⟨rfl, rfl⟩
/-- So much of what waits is given. -/
def giveN (room : Int) (n : Nat) : Nat := min room.toNat n
theorem giveN_le (room : Int) (n : Nat) : giveN room n ≤ n := Nat.min_le_right _ _
theorem giveN_if (room : Int) (n : Nat) : (if (n : Int) < if room < 0 then 0 else room then (n : Int) else if room < 0 then 0 else room) = (giveN room n : Int) := by
  unfold giveN
  split <;> split at * <;> omega
theorem give_c {g o : Nat} {T : TypeId} {cs : Array Value} {s : ByteArray} {room : Int} {w : World} (hb : Blk w g T cs) (e : cs[o]? = some (.string s)) :
    Calls Try.prog 46 #[.pointer (some ⟨g, o, none⟩), .int .i64 room] w fun e w' => e = .returned (.string (s.extract 0 (giveN room s.size))) ∧ w' = w.setCell ⟨g, o, none⟩ (.string (s.extract (giveN room s.size) s.size)) := by
  have c0 := hb.cell e
  have hf := hb.frozen o
  have hle := giveN_le room s.size
  have hif := giveN_if room s.size
  generalize giveN room s.size = m at *
  clear hb e
  go_enter Try.func46, Try.ntmps46
  go_wp2
  all_goals go_ret
  all_goals exact ⟨rfl, rfl⟩
theorem held_c {g o : Nat} {T : TypeId} {cs : Array Value} {A : Option Addr} {n c : Nat} {w : World} (hb : Blk w g T cs) (e : cs[o]? = some (.slice A n c)) :
    Calls Try.prog 49 #[.pointer (some ⟨g, o, none⟩)] w fun e w' => e = .returned (.int .i64 n) ∧ w = w' := by
  have c0 := hb.cell e
  clear hb e
  go_enter Try.func49, Try.ntmps49
  go_wp2
  go_ret
  exact ⟨rfl, rfl⟩
end Go.Proofs.Ytegacgfhmigdjaa
