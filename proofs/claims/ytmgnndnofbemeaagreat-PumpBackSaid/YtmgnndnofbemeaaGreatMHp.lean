/- Joined texts: Hp. -/
import Derived.Test.YtmgnndnofbemeaaGreatME8
import Derived.Test.YtmgnndnofbemeaaGreatMUins
import Derived.Test.YtmgnndnofbemeaaGreatMUsj
/- There and back, in plain Lean: Punycode. -/
namespace Go.Proofs.YtmgnndnofbemeaaGreat
set_option linter.unusedVariables false
set_option linter.unusedSimpArgs false
def BackN (n : Nat) (E : EMach) (D : DMach) : Prop := ∀ l, AllS l → l.length ≤ n → runD D D.ini (bytesE E E.ini l) 0 [] = (l, 0, 0)
theorem BackM.n {E : EMach} {D : DMach} (h : BackM E D) (n : Nat) : BackN n E D := fun l hl _ => h l hl
theorem scal_full (ys : List Int) (h : ∀ y ∈ ys, isP y = true) : ∀ k i, i + k = ys.length → scalN ys k i = ys.length
 | 0, i, hi => by rw [scalN]; omega
 | k + 1, i, hi => by
  rw [scalN, if_pos (by omega), if_pos, scal_full ys h k (i + 1) (by omega)]
  rw [List.getD_eq_getElem?_getD, List.getElem?_eq_getElem (by omega)]
  exact h _ (List.getElem_mem _)
theorem bytesP : ∀ (l st : List Int), bytesE EPn st l = textL (st ++ l)
 | [], st => by rw [List.append_nil]; rfl
 | c :: r, st => by
  show ([] : List Int) ++ bytesE EPn (st ++ [c]) r = _
  rw [List.nil_append, bytesP r (st ++ [c])]
  simp
theorem runDP_all : ∀ (s st : List Int) (p : Nat) (acc : List Int), (∀ x ∈ s, x < 128) → runD DP st s p acc = (if (denR (strOf (st ++ s))).2 = true then (acc ++ (denR (strOf (st ++ s))).1, 0, 0) else (acc, 4, ((p + s.length : Nat) : Int)))
 | [], st, p, acc, _ => by
  rw [runD, List.append_nil]
  show (match (if (denR (strOf st)).2 = true then some (denR (strOf st)).1 else none : Option (List Int)) with | none => (acc, (4 : Int), (p : Int)) | some l => (acc ++ l, 0, 0)) = _
  by_cases h : (denR (strOf st)).2 = true
  ·rw [if_pos h, if_pos h]
  ·rw [if_neg h, if_neg h]; rfl
 | b :: r, st, p, acc, hs => by
  have hb := hs b (List.mem_cons_self ..)
  have hn : DP.next st b = some (st ++ [b], []) := by
   show (if 128 ≤ b then none else some (st ++ [b], ([] : List Int))) = _
   rw [if_neg (by omega)]
  rw [runD_some hn, runDP_all r (st ++ [b]) (p + 1) (acc ++ []) (fun x hx => hs x (List.mem_cons_of_mem _ hx)), List.append_nil, List.append_assoc, List.cons_append, List.nil_append, List.length_cons, show p + 1 + r.length = p + (r.length + 1) by omega]
theorem backP : BackN 500 EPn DP := by
 intro l hl hn
 have h0 : ∀ y ∈ l, 0 ≤ y := fun y hy => (hl y hy).1
 have hP : ∀ y ∈ l, isP y = true := fun y hy => by rw [isP_scal y (h0 y hy)]; exact (hl y hy).2
 have he : encN l = l.length := scal_full l hP l.length 0 (by omega)
 have hr := enc_range he h0
 have hd := den_text l hn h0 he
 have hb : bytesE EPn EPn.ini l = textL l := bytesP l []
 rw [hb]
 have ha := text_ascii l hn hr
 have := runDP_all (textL l) [] 0 [] (fun x hx => (ha x hx).2)
 rw [List.nil_append] at this
 have hs : denR (strOf (textL l)) = (l, true) := hd
 rw [hs, if_pos rfl, List.nil_append] at this
 exact this
end Go.Proofs.YtmgnndnofbemeaaGreat
