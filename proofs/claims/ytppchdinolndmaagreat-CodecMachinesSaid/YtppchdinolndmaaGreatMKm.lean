/- Joined texts: Km. -/
import Derived.Test.YtppchdinolndmaaGreatMEm
import Derived.Test.YtppchdinolndmaaGreatMEfg
import Derived.Test.YtppchdinolndmaaGreatMTb
import Derived.Test.YtppchdinolndmaaGreatMUstp
/- ebcdic.Encoder is an encoder: mod8's bytes, each turned. -/
namespace Go.Proofs.YtppchdinolndmaaGreat
open Go.RowKit Go.Proofs.YtppchdinolndmaaGreatW.PrintWords
set_option linter.unusedVariables false
set_option linter.unusedSimpArgs false
def EEb : EMach := ⟨Unit, (), fun _ c => ((), (bytesM c).map permP), fun _ => [], fun _ => []⟩
def mpE (d : ESt MEn) : ESt EEb := ⟨d.pos, d.err, d.fat, d.en, d.kept.map permP, d.st⟩
theorem feedE_map (room : Int) : ∀ (l : List Int) (d : ESt MEn) (o : List Int), feedE EEb room l (mpE d) (o.map permP) = ((feedE MEn room l d o).1, (feedE MEn room l d o).2.1.map permP, mpE (feedE MEn room l d o).2.2)
 | [], d, o => rfl
 | c :: r, d, o => by
  have hk : ((mpE d).kept = [] ∧ (mpE d).err = 0 ∧ (mpE d).en = false) ↔ (d.kept = [] ∧ d.err = 0 ∧ d.en = false) := by
   show (d.kept.map permP = [] ∧ d.err = 0 ∧ d.en = false) ↔ _
   rw [List.map_eq_nil_iff]
  simp only [feedE]
  by_cases h : d.kept = [] ∧ d.err = 0 ∧ d.en = false
  ·rw [if_pos h, if_pos (hk.2 h)]
   by_cases hs : isScal c = true
   ·rw [if_pos hs, if_pos hs]
    have ih := feedE_map room r { d with pos := d.pos + 1, kept := (bytesM c).drop (giveZ (room - o.length) (bytesM c).length), st := () } (o ++ (bytesM c).take (giveZ (room - o.length) (bytesM c).length))
    have e1 : (o ++ (bytesM c).take (giveZ (room - o.length) (bytesM c).length)).map permP = o.map permP ++ ((bytesM c).map permP).take (giveZ (room - (o.map permP).length) ((bytesM c).map permP).length) := by
     rw [List.map_append, List.map_take, List.length_map, List.length_map]
    have e2 : mpE { d with pos := d.pos + 1, kept := (bytesM c).drop (giveZ (room - o.length) (bytesM c).length), st := () } = { mpE d with pos := (mpE d).pos + 1, kept := ((bytesM c).map permP).drop (giveZ (room - (o.map permP).length) ((bytesM c).map permP).length), st := () } := by
     unfold mpE
     simp only [List.map_drop, List.length_map]
    rw [e1, e2] at ih
    show ((feedE EEb room r { mpE d with pos := (mpE d).pos + 1, kept := ((bytesM c).map permP).drop (giveZ (room - (o.map permP).length) ((bytesM c).map permP).length), st := () } (o.map permP ++ ((bytesM c).map permP).take (giveZ (room - (o.map permP).length) ((bytesM c).map permP).length))).1 + 1, (feedE EEb room r { mpE d with pos := (mpE d).pos + 1, kept := ((bytesM c).map permP).drop (giveZ (room - (o.map permP).length) ((bytesM c).map permP).length), st := () } (o.map permP ++ ((bytesM c).map permP).take (giveZ (room - (o.map permP).length) ((bytesM c).map permP).length))).2) = _
    rw [ih]
    rfl
   ·rw [if_neg hs, if_neg hs]
    show (0, o.map permP ++ ([] : List Int).take _, _) = _
    simp [mpE, MEn, EEb]
  ·rw [if_neg h, if_neg (fun h2 => h (hk.1 h2))]
theorem bytesM_byte {c : Int} (h0 : 0 ≤ c) (h1 : isScal c = true) : isBytes (bytesM c) := by
 have hc1 : c ≤ 1114111 := by unfold isScal at h1; simp at h1; omega
 unfold bytesM isBytes
 intro x hx
 (repeat' split at hx) <;> simp only [List.mem_cons, List.not_mem_nil, or_false] at hx <;> omega
theorem feedE_bytes (room : Int) : ∀ (l : List Int) (d : ESt MEn) (o : List Int), (∀ x ∈ l, 0 ≤ x) → isBytes d.kept → isBytes o → isBytes (feedE MEn room l d o).2.1 ∧ isBytes (feedE MEn room l d o).2.2.kept
 | [], d, o, _, hd, ho => ⟨ho, hd⟩
 | c :: r, d, o, hl, hd, ho => by
  simp only [feedE]
  by_cases h : d.kept = [] ∧ d.err = 0 ∧ d.en = false
  ·rw [if_pos h]
   by_cases hs : isScal c = true
   ·rw [if_pos hs]
    have hb := bytesM_byte (hl c (List.mem_cons_self ..)) hs
    exact feedE_bytes room r { d with pos := d.pos + 1, kept := (bytesM c).drop (giveZ (room - o.length) (bytesM c).length), st := () } (o ++ (bytesM c).take (giveZ (room - o.length) (bytesM c).length)) (fun x hx => hl x (List.mem_cons_of_mem _ hx)) (fun x hx => hb x (List.mem_of_mem_drop hx)) (fun x hx => by
     rcases List.mem_append.1 hx with h | h
     ·exact ho x h
     ·exact hb x (List.mem_of_mem_take h))
   ·rw [if_neg hs]
    refine ⟨fun x hx => ?_, fun x hx => ?_⟩
    ·rcases List.mem_append.1 hx with h | h
     ·exact ho x h
     ·have := List.mem_of_mem_take h
      cases this
    ·have := List.mem_of_mem_drop hx
     cases this
  ·rw [if_neg h]
   exact ⟨ho, hd⟩
theorem feedE_out (room : Int) : ∀ (l : List Int) (d : ESt MEn) (o : List Int), (feedE MEn room l d o).2.1.length ≤ o.length + 5 * l.length
 | [], d, o => Nat.le_add_right _ _
 | c :: r, d, o => by
  simp only [feedE]
  by_cases h : d.kept = [] ∧ d.err = 0 ∧ d.en = false
  ·rw [if_pos h]
   by_cases hs : isScal c = true
   ·rw [if_pos hs]
    have ih := feedE_out room r { d with pos := d.pos + 1, kept := (bytesM c).drop (giveZ (room - o.length) (bytesM c).length), st := () } (o ++ (bytesM c).take (giveZ (room - o.length) (bytesM c).length))
    have hb := bytesM_len () c
    have hb' : (bytesM c).length ≤ 5 := hb
    rw [List.length_append, List.length_take] at ih
    rw [List.length_cons]
    have h2 : min (giveZ (room - o.length) (bytesM c).length) (bytesM c).length ≤ 5 := Nat.le_trans (Nat.min_le_right _ _) hb'
    exact Nat.le_trans ih (by omega)
   ·rw [if_neg hs]
    show (o ++ ([] : List Int).take _).length ≤ _
    rw [List.take_nil, List.append_nil]
    exact Nat.le_add_right _ _
  ·rw [if_neg h]
   exact Nat.le_add_right _ _
structure RepEb (w : World) (g : Nat) (F : Nat → Prop) (d : ESt EEb) : Prop where
 ex : ∃ tb dm, d = mpE dm ∧ Blk w g TEb (CsM tb dm) ∧ Blk w tb TTb permCells ∧ isBytes dm.kept ∧ tb ≠ g ∧ ∀ k, F k ↔ (k = g ∨ k = tb)
set_option maxRecDepth 100000 in
theorem feedEb {w : World} {g : Nat} {F : Nat → Prop} {d : ESt EEb} (A : Option Addr) (c : Nat) (l : List Int) (room : Int) (h : RepEb w g F d) (hr : ReadsInt w .u32 A l.length l) (hs : l ≠ [] → ∀ ad, A = some ad → ¬ F ad.block)
  (hsc : ∀ x ∈ l, 0 ≤ x) (hp : d.pos + l.length ≤ 1000000) (hk : d.kept.length ≤ 10000000) (hroom : -1000000000 ≤ room ∧ room ≤ 9223372036854775807) :
  Calls Tryz.prog 116 #[.pointer (some ⟨g, 0, none⟩), .slice A l.length c, .int .i64 room] w fun e w' => ∃ F', e = .returned (.tuple #[.int .i64 (feedE EEb room l (d.drop (giveZ room d.kept.length)) (d.kept.take (giveZ room d.kept.length))).1,
    .string (strOf (feedE EEb room l (d.drop (giveZ room d.kept.length)) (d.kept.take (giveZ room d.kept.length))).2.1)]) ∧
   RepEb w' g F' (feedE EEb room l (d.drop (giveZ room d.kept.length)) (d.kept.take (giveZ room d.kept.length))).2.2 ∧ Eff w w' F ∧ (∀ k, F' k → F k ∨ w.heap.size ≤ k) := by
 obtain ⟨tb, dm, rfl, hb, ht, hby, htg, hF⟩ := h.ex
 have hlen : (mpE dm).kept.length = dm.kept.length := List.length_map _
 rw [hlen] at hk
 have hm := feedEG (Cs := CsM tb) ⟨fun _ => rfl, fun _ => rfl, fun _ => rfl, fun _ => rfl, fun _ => rfl, fun _ _ => rfl, fun _ _ _ => rfl, fun _ _ => rfl⟩ 5 (by decide) bytesM_len (fun _ => rfl) _ _ (.inr (.inr (.inr (.inl ⟨rfl, rfl⟩)))) (fun _ hb => bytesM_c hb) (F := fun k => k = g) A c l room ⟨hb, fun k => Iff.rfl⟩ hr (fun hne ad had e => hs hne ad had ((hF _).2 (.inl e))) hsc hp hk hroom
 have hmap := feedE_map room l (dm.drop (giveZ room dm.kept.length)) (dm.kept.take (giveZ room dm.kept.length))
 have e1 : mpE (dm.drop (giveZ room dm.kept.length)) = (mpE dm).drop (giveZ room (mpE dm).kept.length) := by
  unfold mpE ESt.drop
  simp only [List.map_drop, List.length_map]
 have e2 : (dm.kept.take (giveZ room dm.kept.length)).map permP = (mpE dm).kept.take (giveZ room (mpE dm).kept.length) := by
  unfold mpE
  simp only [List.map_take, List.length_map]
 rw [e1, e2] at hmap
 rw [hmap]
 have hbb := feedE_bytes room l (dm.drop (giveZ room dm.kept.length)) (dm.kept.take (giveZ room dm.kept.length)) hsc (fun x hx => hby x (List.mem_of_mem_drop hx)) (fun x hx => hby x (List.mem_of_mem_take hx))
 have hle : (feedE MEn room l (dm.drop (giveZ room dm.kept.length)) (dm.kept.take (giveZ room dm.kept.length))).2.1.length ≤ 20000000 := by
  have := feedE_out room l (dm.drop (giveZ room dm.kept.length)) (dm.kept.take (giveZ room dm.kept.length))
  rw [List.length_take] at this
  have h2 : min (giveZ room dm.kept.length) dm.kept.length ≤ dm.kept.length := Nat.min_le_right _ _
  omega
 obtain ⟨⟨n, o, D⟩, hR⟩ : ∃ R, feedE MEn room l (dm.drop (giveZ room dm.kept.length)) (dm.kept.take (giveZ room dm.kept.length)) = R := ⟨_, rfl⟩
 rw [hR] at hm hbb hle ⊢
 have HM := Lib.hid hm
 have HT := Lib.hid (And.intro ht (And.intro htg hF))
 have HBB := Lib.hid hbb
 have HLE := Lib.hid hle
 have hlt := hb.lt
 clear hm hmap e1 e2 ht htg hF hbb hle hR hr hs hsc hp hk hlen h hb hby
 go_enter Tryz.func116, Tryz.ntmps116
 go_wp2_with fail
 refine HM.out.mono ?_
 rintro e w1 ⟨F1, rfl, hr1, he1, hF1⟩
 have c5 : w1.cell? ⟨g, 5, none⟩ = some (.pointer (some ⟨tb, 0, none⟩)) := hr1.1.cell rfl
 have ht1 := HT.out.1.eff he1 (fun e => HT.out.2.1 e)
 have hx := permtext_c ht1 (strOf o) (by rw [strOf_size]; exact Nat.le_trans HLE.out (by decide))
 rw [bytesOf_strOf HBB.out.1] at hx
 have HX := Lib.hid hx
 have HR1 := Lib.hid (And.intro hr1 (And.intro he1 ht1))
 clear hr1 he1 hF1 ht1 hx HM
 go_wp2_with fail
 refine HX.out.mono ?_
 rintro e w2 ⟨rfl, hb2⟩
 have hr2 := HR1.out.1.1.below hb2
 have ht2 := HR1.out.2.2.below hb2
 have he2 : Eff w w2 (fun k => k = g) := HR1.out.2.1.trans (Eff.of_below hb2 _) (fun _ _ h => h)
 clear hb2
 go_wp2_with fail
 refine bodyPost_ret (results_list (rs := [.tmp 6, .tmp 7]) rfl (by simp) (.tmp (.tmp .nil))) rfl ?_
 exact ⟨fun k => k = g ∨ k = tb, rfl, ⟨tb, D, rfl, hr2, ht2, HBB.out.2, HT.out.2.1, fun k => Iff.rfl⟩, he2.mono (fun k _ h => (HT.out.2.2 k).2 (.inl h)), fun k h => .inl ((HT.out.2.2 k).2 h)⟩
theorem finEb {w : World} {g : Nat} {F : Nat → Prop} {d : ESt EEb} (h : RepEb w g F d) :
  Calls Tryz.prog 99 #[.pointer (some ⟨g, 0, none⟩)] w fun e w' => ∃ F', e = .returned (.tuple #[]) ∧ RepEb w' g F' (endE EEb d) ∧ Eff w w' F ∧ (∀ k, F' k → F k ∨ w.heap.size ≤ k) := by
 obtain ⟨tb, dm, rfl, hb, ht, hby, htg, hF⟩ := h.ex
 unfold endE
 by_cases hg : dm.err = 0 ∧ dm.en = false
 ·rw [if_pos (show (mpE dm).err = 0 ∧ (mpE dm).en = false from hg)]
  refine (end_c hb (by show some (Value.int .i64 dm.err) = _; rw [hg.1]) (by show some (Value.bool dm.en) = _; rw [hg.2])).mono ?_
  rintro e w' ⟨rfl, rfl⟩
  refine ⟨F, rfl, ⟨tb, { dm with en := true }, ?_, hb.set 3 (.bool true), ht.far htg _, hby, htg, hF⟩, (Eff.set _ _ _ _).mono (fun k _ h => (hF k).2 (.inl h)), fun k h => .inl h⟩
  show ({ mpE dm with kept := (mpE dm).kept ++ [], en := true } : ESt EEb) = _
  rw [List.append_nil]
  rfl
 ·rw [if_neg (show ¬ ((mpE dm).err = 0 ∧ (mpE dm).en = false) from hg)]
  refine (end_not (err := dm.err) (en := dm.en) hb rfl rfl (by
   rcases Bool.eq_false_or_eq_true (dm.err == 0 && !dm.en) with h | h
   ·simp at h; exact absurd h hg
   ·exact h)).mono ?_
  rintro e w' ⟨rfl, rfl⟩
  exact ⟨F, rfl, ⟨tb, dm, rfl, hb, ht, hby, htg, hF⟩, Eff.refl _ _, fun k h => .inl h⟩
theorem kEb : EncK 57 116 99 EEb RepEb where
 invF := by intro n g x y w; kernel_rfl
 invE := by intro n g w; kernel_rfl
 invD := by intro n g w; kernel_rfl
 invW := by intro n g w; kernel_rfl
 lt h k hk := by
  obtain ⟨tb, dm, rfl, hb, ht, hby, htg, hF⟩ := h.ex
  rcases (hF k).1 hk with rfl | rfl
  ·exact hb.lt
  ·exact ht.lt
 eff h he hs := by
  obtain ⟨tb, dm, rfl, hb, ht, hby, htg, hF⟩ := h.ex
  exact ⟨tb, dm, rfl, hb.eff he (hs _ ((hF _).2 (.inl rfl))), ht.eff he (hs _ ((hF _).2 (.inr rfl))), hby, htg, hF⟩
 feed A c l room h hr hs hsc hp hk hroom := feedEb A c l room h hr hs hsc hp hk hroom
 fin h _ _ := finEb h
 done h := by
  obtain ⟨tb, dm, rfl, hb, ht, hby, htg, hF⟩ := h.ex
  have := outdone_c (err := dm.err) (en := dm.en) (xs := dm.kept) hb rfl rfl rfl
  refine this.mono ?_
  rintro e w' ⟨rfl, rfl⟩
  refine ⟨?_, rfl⟩
  show _ = Ending.returned (.bool (!(dm.err == 0 && !dm.en) && (dm.kept.map permP).isEmpty))
  rw [List.isEmpty_map]
 blk h := by
  obtain ⟨tb, dm, rfl, hb, ht, hby, htg, hF⟩ := h.ex
  exact ⟨TEb, _, by decide, by decide, hb, rfl, rfl⟩
set_option maxRecDepth 100000 in
theorem newEb (w : World) : Calls Tryz.prog 18 #[] w fun e w' => ∃ g F, e = .returned (.pointer (some ⟨g, 0, none⟩)) ∧ Below w.heap.size w w' ∧ RepEb w' g F (ESt.new EEb) ∧ (∀ k, F k → w.heap.size ≤ k) := by
 go_enter Tryz.func18, Tryz.ntmps18
 go_wp2_with fail
 refine (permute_c w).mono ?_
 rintro e w1 ⟨g, rfl, hg, ht, hb1⟩
 have HT := Lib.hid (And.intro hg (And.intro ht hb1))
 clear hg ht hb1
 go_wp2_with fail
 go_ret
 refine ⟨w1.heap.size, fun k => k = w1.heap.size ∨ k = g, rfl, below_new HT.out.2.2 _, ⟨g, ESt.new MEn, rfl, Blk.new _ _ _, HT.out.2.1.alloc _, (show ∀ x ∈ ([] : List Int), 0 ≤ x ∧ x ≤ 255 from fun x hx => absurd hx List.not_mem_nil), Nat.ne_of_lt HT.out.2.1.lt, fun k => Iff.rfl⟩, fun k hk => ?_⟩
 rcases hk with rfl | rfl
 ·exact HT.out.2.2.size
 ·exact HT.out.1
set_option maxRecDepth 100000 in
theorem newE6 : NewE 6 57 EEb RepEb := by
 intro w
 have HN := Lib.hid (newEb w)
 go_enter Tryz.func6, Tryz.ntmps6
 go_wp2_with (go_at_call 18; refine HN.out.mono ?_; rintro e w' ⟨g, F, rfl, hb, hr, hF⟩)
 refine bodyPost_ret (v := .tuple #[.iface 57 (.pointer (some ⟨g, 0, none⟩)), .int .i64 0]) (by simp [results, Tryz.results6, go_sem]) rfl ?_
 exact ⟨g, F, rfl, hb, hr, hF⟩
end Go.Proofs.YtppchdinolndmaaGreat
