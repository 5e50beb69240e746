/- Maps that a literal makes, with texts as keys: what an insertion and a look-up do. -/
import Derived.Test.YtlddfdkmpnllmaaDoorBase
import Derived.Maps.Own
namespace Go.Proofs.YtlddfdkmpnllmaaDoor
open Go.RowKit
set_option linter.unusedVariables false

theorem checkKey_string {P : Program} {K : TypeId} (hK : P.underlying K = some .string) (b : Bool) (n : Nat) (v : Value) (w : World) :
    (Instr.checkKey b (n + 1) K v).run P w = .ok () w := by
  unfold Instr.checkKey
  simp only [Sem.run_bind, run_underlying hK, Result.andThen]
  rfl
theorem findKey_string {P : Program} {K : TypeId} (hK : P.underlying K = some .string) (k : Value) (es : List MapEntry) (r : Option (Nat × Value)) (h : Instr.findNow .string k es 0 = some r) (w : World) :
    (Instr.findKey K k es).run P w = .ok r w := by
  unfold Instr.findKey
  simp only [Sem.run_bind, run_underlying hK, Result.andThen, h, Sem.run_pure]

theorem run_insert_top {P : Program} {T K E : TypeId} (hT : P.underlying T = some (.map K E)) (hK : P.underlying K = some .string) (w : World) (es : Array MapEntry) (clock n : Nat) (hn : n = w.heap.size) (k : ByteArray) (v : Value)
    (hnew : Instr.findNow .string (.string k) es.toList 0 = some none) :
    (Instr.mapUpdate T (.map (some n)) (.string k) v).run P (w.alloc (.map es clock)) = .ok () (w.alloc (.map (es.push ⟨.string k, v, clock⟩) (clock + 1))) := by
  subst hn
  have hb : (w.alloc (.map es clock)).heap[w.heap.size]? = some (.map es clock) := by show (w.heap.push _)[w.heap.size]? = _; simp
  unfold Instr.mapUpdate
  simp only [Sem.run_bind, run_underlying hT, Result.andThen, run_getObj_map _ w.heap.size es clock hb, checkKey_string hK, findKey_string hK _ _ _ hnew]
  rw [MapKept.run_setObj_map _ hb]
  show Result.ok () { w with heap := (w.heap.push _).setIfInBounds w.heap.size _ } = Result.ok () { w with heap := w.heap.push _ }
  congr 2
  apply Array.ext_getElem?
  intro i
  simp only [Array.getElem?_setIfInBounds, Array.getElem?_push, Array.size_push]
  split <;> split <;> first | rfl | omega | (split <;> first | rfl | omega)
/-- For the walk, which takes it as a rule. -/
theorem run_insert_drew {P : Program} {T K E : TypeId} (hT : P.underlying T = some (.map K E)) (hK : P.underlying K = some .string) (w : World) (es : List MapEntry) (clock : Nat) (k : ByteArray) (v : Value)
    (hnew : Instr.findNow .string (.string k) es 0 = some none) :
    (Instr.mapUpdate T (.map (some w.heap.size)) (.string k) v).run P (w.alloc (.map es.toArray clock)).drew = .ok () (w.alloc (.map (es ++ [MapEntry.mk (.string k) v clock]).toArray (clock + 1))).drew := by
  have := run_insert_top hT hK w.drew es.toArray clock _ rfl k v (by simpa using hnew)
  rw [show es.toArray.push (MapEntry.mk (.string k) v clock) = (es ++ [MapEntry.mk (.string k) v clock]).toArray by simp] at this
  exact this
theorem run_insert_drewN {P : Program} {T K E : TypeId} (hT : P.underlying T = some (.map K E)) (hK : P.underlying K = some .string) (w : World) (m : Nat) (es : List MapEntry) (clock : Nat) (k : ByteArray) (v : Value)
    (hnew : Instr.findNow .string (.string k) es 0 = some none) :
    (Instr.mapUpdate T (.map (some w.heap.size)) (.string k) v).run P ((w.alloc (.map es.toArray clock)).drewN m) = .ok () ((w.alloc (.map (es ++ [MapEntry.mk (.string k) v clock]).toArray (clock + 1))).drewN m) := by
  have := run_insert_top hT hK (w.drewN m) es.toArray clock _ rfl k v (by simpa using hnew)
  rw [show es.toArray.push (MapEntry.mk (.string k) v clock) = (es ++ [MapEntry.mk (.string k) v clock]).toArray by simp] at this
  exact this
theorem findNow_nil (d : TypeDesc) (k : Value) (i : Nat) : Instr.findNow d k [] i = some none := by simp only [Instr.findNow]
theorem findNow_here (k k' : ByteArray) (v : Value) (b : Nat) (es : List MapEntry) (i : Nat) (h : (k == k') = true) : Instr.findNow .string (.string k) (⟨.string k', v, b⟩ :: es) i = some (some (i, v)) := by
  simp only [Instr.findNow, Instr.sameNow, h]
theorem findNow_past (k k' : ByteArray) (v : Value) (b : Nat) (es : List MapEntry) (i : Nat) (h : (k == k') = false) : Instr.findNow .string (.string k) (⟨.string k', v, b⟩ :: es) i = Instr.findNow .string (.string k) es (i + 1) := by
  simp only [Instr.findNow, Instr.sameNow, h]
theorem run_lookup_at {P : Program} {T K E : TypeId} (hT : P.underlying T = some (.map K E)) (hK : P.underlying K = some .string) (w : World) (es : Array MapEntry) (clock n : Nat) (hb : w.heap[n]? = some (.map es clock)) (k : ByteArray) (i : Nat) (v : Value) (ok : Bool)
    (h : Instr.findNow .string (.string k) es.toList 0 = some (some (i, v))) :
    (Instr.lookup T (.map (some n)) (.string k) ok).run P w = .ok (if ok then .tuple #[v, .bool true] else v) w := by
  unfold Instr.lookup
  simp only [Sem.run_bind, run_underlying hT, Result.andThen, run_getObj_map _ n es clock hb, checkKey_string hK, Sem.run_pure, findKey_string hK _ _ _ h]
theorem run_lookup_none {P : Program} {T K E : TypeId} {z : Value} (hT : P.underlying T = some (.map K E)) (hK : P.underlying K = some .string) (w : World) (hz : (zeroValue E).run P w = .ok z w) (es : Array MapEntry) (clock n : Nat) (hb : w.heap[n]? = some (.map es clock)) (k : ByteArray) (ok : Bool)
    (h : Instr.findNow .string (.string k) es.toList 0 = some none) :
    (Instr.lookup T (.map (some n)) (.string k) ok).run P w = .ok (if ok then .tuple #[z, .bool false] else z) w := by
  unfold Instr.lookup
  simp only [Sem.run_bind, run_underlying hT, Result.andThen, run_getObj_map _ n es clock hb, checkKey_string hK, Sem.run_pure, findKey_string hK _ _ _ h, hz]

/-- What a look-up hands back; z: the zero value. -/
def lookV (z : Value) : Bool → Option (Option (Nat × Value)) → Value
  | true, some (some (_, v)) => .tuple #[v, .bool true]
  | false, some (some (_, v)) => v
  | true, _ => .tuple #[z, .bool false]
  | false, _ => z
theorem lookV_yes (z v : Value) (i : Nat) : lookV z true (some (some (i, v))) = .tuple #[v, .bool true] := by simp only [lookV]
theorem lookV_no (z : Value) : lookV z true (some none) = .tuple #[z, .bool false] := by simp only [lookV]
theorem lookV_yes1 (z v : Value) (i : Nat) : lookV z false (some (some (i, v))) = v := by simp only [lookV]
theorem run_lookup_drew {P : Program} {T K E : TypeId} {z : Value} (hT : P.underlying T = some (.map K E)) (hK : P.underlying K = some .string) (hz : ∀ w, (zeroValue E).run P w = .ok z w) (w : World) (es : List MapEntry) (clock : Nat) (k : ByteArray) (ok : Bool)
    (h : (Instr.findNow .string (.string k) es 0).isSome = true) :
    (Instr.lookup T (.map (some w.heap.size)) (.string k) ok).run P (w.alloc (.map es.toArray clock)).drew = .ok (lookV z ok (Instr.findNow .string (.string k) es 0)) (w.alloc (.map es.toArray clock)).drew := by
  have hb : (w.alloc (.map es.toArray clock)).drew.heap[w.heap.size]? = some (.map es.toArray clock) := by show (w.heap.push _)[w.heap.size]? = _; simp
  cases hf : Instr.findNow .string (.string k) es 0 with
  | none => rw [hf] at h; cases h
  | some r =>
    cases r with
    | none => rw [run_lookup_none hT hK _ (hz _) es.toArray clock _ hb k ok (by simpa using hf)]; cases ok <;> rfl
    | some p =>
      obtain ⟨i, v⟩ := p
      rw [run_lookup_at hT hK _ es.toArray clock _ hb k i v ok (by simpa using hf)]; cases ok <;> rfl
theorem run_lookup_drewN {P : Program} {T K E : TypeId} {z : Value} (hT : P.underlying T = some (.map K E)) (hK : P.underlying K = some .string) (hz : ∀ w, (zeroValue E).run P w = .ok z w) (w : World) (m : Nat) (es : List MapEntry) (clock : Nat) (k : ByteArray) (ok : Bool)
    (h : (Instr.findNow .string (.string k) es 0).isSome = true) :
    (Instr.lookup T (.map (some w.heap.size)) (.string k) ok).run P ((w.alloc (.map es.toArray clock)).drewN m) = .ok (lookV z ok (Instr.findNow .string (.string k) es 0)) ((w.alloc (.map es.toArray clock)).drewN m) := by
  have hb : ((w.alloc (.map es.toArray clock)).drewN m).heap[w.heap.size]? = some (.map es.toArray clock) := by show (w.heap.push _)[w.heap.size]? = _; simp
  cases hf : Instr.findNow .string (.string k) es 0 with
  | none => rw [hf] at h; cases h
  | some r =>
    cases r with
    | none => rw [run_lookup_none hT hK _ (hz _) es.toArray clock _ hb k ok (by simpa using hf)]; cases ok <;> rfl
    | some p =>
      obtain ⟨i, v⟩ := p
      rw [run_lookup_at hT hK _ es.toArray clock _ hb k i v ok (by simpa using hf)]; cases ok <;> rfl
theorem run_insert_drew2 {P : Program} {T K E : TypeId} (hT : P.underlying T = some (.map K E)) (hK : P.underlying K = some .string) (w : World) (n : Nat) (hn : n = w.heap.size) (es : List MapEntry) (clock : Nat) (k : ByteArray) (v : Value)
    (hnew : Instr.findNow .string (.string k) es 0 = some none) :
    (Instr.mapUpdate T (.map (some n)) (.string k) v).run P (w.alloc (.map es.toArray clock)).drew.drew = .ok () (w.alloc (.map (es ++ [MapEntry.mk (.string k) v clock]).toArray (clock + 1))).drew.drew := by
  subst hn
  exact run_insert_drewN hT hK w 2 es clock k v hnew
theorem run_lookup_drew2 {P : Program} {T K E : TypeId} {z : Value} (hT : P.underlying T = some (.map K E)) (hK : P.underlying K = some .string) (hz : ∀ w, (zeroValue E).run P w = .ok z w) (w : World) (n : Nat) (hn : n = w.heap.size) (es : List MapEntry) (clock : Nat) (k : ByteArray) (ok : Bool)
    (h : (Instr.findNow .string (.string k) es 0).isSome = true) :
    (Instr.lookup T (.map (some n)) (.string k) ok).run P (w.alloc (.map es.toArray clock)).drew.drew = .ok (lookV z ok (Instr.findNow .string (.string k) es 0)) (w.alloc (.map es.toArray clock)).drew.drew := by
  subst hn
  exact run_lookup_drewN hT hK hz w 2 es clock k ok h
end Go.Proofs.YtlddfdkmpnllmaaDoor
