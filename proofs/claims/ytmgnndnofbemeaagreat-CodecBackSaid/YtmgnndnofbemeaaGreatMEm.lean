/- Joined texts: Em, Emf. -/
import Derived.Test.YtmgnndnofbemeaaGreatMUstp
import Derived.Test.YtmgnndnofbemeaaGreatMBit
import Derived.StillTailTactics
import Derived.Deep.CutBlock
namespace Go.Proofs.YtmgnndnofbemeaaGreat
open Go.RowKit Go.Proofs.YtmgnndnofbemeaaGreatW.PrintWords
set_option linter.unusedVariables false
set_option linter.unusedSimpArgs false
def bytesM (c : Int) : List Int :=
 if c < 160 then [c] else if c < 1024 then [192 + c / 32, 160 + c % 32] else if c < 16384 then [224 + c / 1024, 160 + c / 32 % 32, 160 + c % 32]
 else if c < 262144 then [240 + c / 32768, 160 + c / 1024 % 32, 160 + c / 32 % 32, 160 + c % 32]
 else [248 + c / 1048576, 160 + c / 32768 % 32, 160 + c / 1024 % 32, 160 + c / 32 % 32, 160 + c % 32]
def MEn : EMach := ⟨Unit, (), fun _ c => ((), bytesM c), fun _ => [], fun _ => []⟩
abbrev TEb : TypeId := 146
def CsM (tb : Nat) (d : ESt MEn) : Array Value := #[.int .i64 d.pos, .int .i64 d.err, .int .i64 d.fat, .bool d.en, .string (strOf d.kept), .pointer (some ⟨tb, 0, none⟩)]
theorem bytesM_len (st : MEn.St) (c : Int) : (MEn.put st c).2.length ≤ 5 := by
 show (bytesM c).length ≤ 5
 unfold bytesM
 (repeat' split) <;> simp
theorem info_u8b : (Tryz.prog.info? 5).map (fun i => (i.zero, i.size, i.bytes)) = some (some (.int .u8 0), 1, 1) := by kernel_rfl
theorem make8_2 : ∀ W : World, (Instr.makeSlice 77 (.int .i64 2) (.int .i64 2)).run Tryz.prog W = .ok (.slice (some ⟨W.heap.size, 0, none⟩) 2 2) (W.alloc (.cells #[.int .u8 0, .int .u8 0] 5 (0, 0))) := fun W => by
 have h := print_make (P := Tryz.prog) 77 5 .u8 1 Tryz.underlying77 info_u8b (by decide) 2 (by decide) W
 rw [show madeCells #[.int .u8 0] 2 = #[.int .u8 0, .int .u8 0] from by kernel_rfl] at h
 exact h
theorem make8_3 : ∀ W : World, (Instr.makeSlice 77 (.int .i64 3) (.int .i64 3)).run Tryz.prog W = .ok (.slice (some ⟨W.heap.size, 0, none⟩) 3 3) (W.alloc (.cells #[.int .u8 0, .int .u8 0, .int .u8 0] 5 (0, 0))) := fun W => by
 have h := print_make (P := Tryz.prog) 77 5 .u8 1 Tryz.underlying77 info_u8b (by decide) 3 (by decide) W
 rw [show madeCells #[.int .u8 0] 3 = #[.int .u8 0, .int .u8 0, .int .u8 0] from by kernel_rfl] at h
 exact h
theorem make8_4 : ∀ W : World, (Instr.makeSlice 77 (.int .i64 4) (.int .i64 4)).run Tryz.prog W = .ok (.slice (some ⟨W.heap.size, 0, none⟩) 4 4) (W.alloc (.cells #[.int .u8 0, .int .u8 0, .int .u8 0, .int .u8 0] 5 (0, 0))) := fun W => by
 have h := print_make (P := Tryz.prog) 77 5 .u8 1 Tryz.underlying77 info_u8b (by decide) 4 (by decide) W
 rw [show madeCells #[.int .u8 0] 4 = #[.int .u8 0, .int .u8 0, .int .u8 0, .int .u8 0] from by kernel_rfl] at h
 exact h
theorem make8_5 : ∀ W : World, (Instr.makeSlice 77 (.int .i64 5) (.int .i64 5)).run Tryz.prog W = .ok (.slice (some ⟨W.heap.size, 0, none⟩) 5 5) (W.alloc (.cells #[.int .u8 0, .int .u8 0, .int .u8 0, .int .u8 0, .int .u8 0] 5 (0, 0))) := fun W => by
 have h := print_make (P := Tryz.prog) 77 5 .u8 1 Tryz.underlying77 info_u8b (by decide) 5 (by decide) W
 rw [show madeCells #[.int .u8 0] 5 = #[.int .u8 0, .int .u8 0, .int .u8 0, .int .u8 0, .int .u8 0] from by kernel_rfl] at h
 exact h
theorem em_and31 {x : Int} (h0 : 0 ≤ x) (h1 : x < 4294967296) : bits .and .u32 x 31 = x % 32 := u32_mask 5 (by decide) h0 h1
theorem em_or160 {y : Int} (h0 : 0 ≤ y) (h1 : y < 32) : bits .or .u8 160 y = 160 + y := bits_join .u8 8 (by decide) wraps_u8 5 160 y (by decide) (by decide) (by decide) h0 h1 (by omega)
theorem em_or192 {y : Int} (h0 : 0 ≤ y) (h1 : y < 32) : bits .or .u8 192 y = 192 + y := bits_join .u8 8 (by decide) wraps_u8 5 192 y (by decide) (by decide) (by decide) h0 h1 (by omega)
theorem em_or224 {y : Int} (h0 : 0 ≤ y) (h1 : y < 16) : bits .or .u8 224 y = 224 + y := bits_join .u8 8 (by decide) wraps_u8 4 224 y (by decide) (by decide) (by decide) h0 h1 (by omega)
theorem em_or240 {y : Int} (h0 : 0 ≤ y) (h1 : y < 8) : bits .or .u8 240 y = 240 + y := bits_join .u8 8 (by decide) wraps_u8 3 240 y (by decide) (by decide) (by decide) h0 h1 (by omega)
theorem em_or248 {y : Int} (h0 : 0 ≤ y) (h1 : y < 4) : bits .or .u8 248 y = 248 + y := bits_join .u8 8 (by decide) wraps_u8 2 248 y (by decide) (by decide) (by decide) h0 h1 (by omega)
set_option maxRecDepth 100000 in
set_option maxHeartbeats 4000000 in
theorem mbytes1_c {g : Nat} (c : Int) (h0 : 0 ≤ c) (h1 : c < 160) (w : World) :
  Calls Tryz.prog 150 #[.pointer (some ⟨g, 0, none⟩), .int .u32 c] w fun e w' => e = .returned (.string (strOf [c])) ∧ Below w.heap.size w w' := by
 have hc := conv8 w [c] 1 (by simp)
 simp only [nums, List.map_cons, List.map_nil, List.length_cons, List.length_nil, Nat.zero_add] at hc
 have hcm : c % 256 = c := by omega
 go_enter Tryz.func150, Tryz.ntmps150
 go_wp2_with fail
 go_ret
 exact ⟨rfl, below_new (Below.refl _ _) _⟩
set_option maxRecDepth 100000 in
set_option maxHeartbeats 4000000 in
theorem mbytes2_c {g : Nat} (c : Int) (h0 : 0 ≤ c) (hl : 160 ≤ c) (h1 : c < 1024) (w : World) :
  Calls Tryz.prog 150 #[.pointer (some ⟨g, 0, none⟩), .int .u32 c] w fun e w' => e = .returned (.string (strOf [192 + c / 32, 160 + c % 32])) ∧ Below w.heap.size w w' := by
 have hc := conv8 w [192 + c / 32, 160 + c % 32] 2 (by simp)
 simp only [nums, List.map_cons, List.map_nil, List.length_cons, List.length_nil, Nat.zero_add, Nat.reduceAdd] at hc
 have a0 : bits .and .u32 c 31 = c % 32 := em_and31 (by omega) (by omega)
 have b0 : (c % 32) % 256 = c % 32 := by omega
 have o0 : bits .or .u8 160 (c % 32) = 160 + c % 32 := em_or160 (by omega) (by omega)
 have mk := make8_2
 have ol : bits .or .u8 192 (c / 32) = 192 + c / 32 := em_or192 (by omega) (by omega)
 have om : (c / 32) % 256 = c / 32 := by omega
 have d0 : ¬ c < 160 := by omega
 have dl : c < 1024 := h1
 clear h1 hl
 go_enter Tryz.func150, Tryz.ntmps150
 go_upto_region 11 with fail
 go_wp2_with fail
 go_loopg [1, 8] 1 (fun kq s1 s8 wx => (kq = 1 ∧ s8 = .int .i64 1 ∧ s1 = .int .u32 c ∧ wx = w.alloc (.cells #[.int .u8 (0), .int .u8 (0)] 5 (0, 0))) ∨ (kq = 0 ∧ s8 = .int .i64 0 ∧ s1 = .int .u32 (c / 32) ∧ wx = w.alloc (.cells #[.int .u8 (0), .int .u8 (160 + c % 32)] 5 (0, 0))))
 case atStart => exact .inl ⟨rfl, rfl, rfl, rfl⟩
 case round =>
  rcases hrel with ⟨hk, rfl, rfl, hww⟩ | ⟨hk, rfl, rfl, hww⟩
  ·subst hww
   go_wp2_with fail
   go_roundg 0
   case measure => omega
   case rel => exact (.inr ⟨rfl, rfl, rfl, rfl⟩)
  ·subst hww
   go_wp2_with fail
   go_ret
   exact ⟨rfl, below_new (Below.refl _ _) _⟩
set_option maxRecDepth 100000 in
set_option maxHeartbeats 4000000 in
theorem mbytes3_c {g : Nat} (c : Int) (h0 : 0 ≤ c) (hl : 1024 ≤ c) (h1 : c < 16384) (w : World) :
  Calls Tryz.prog 150 #[.pointer (some ⟨g, 0, none⟩), .int .u32 c] w fun e w' => e = .returned (.string (strOf [224 + c / 1024, 160 + c / 32 % 32, 160 + c % 32])) ∧ Below w.heap.size w w' := by
 have hc := conv8 w [224 + c / 1024, 160 + c / 32 % 32, 160 + c % 32] 3 (by simp)
 simp only [nums, List.map_cons, List.map_nil, List.length_cons, List.length_nil, Nat.zero_add, Nat.reduceAdd] at hc
 have a0 : bits .and .u32 c 31 = c % 32 := em_and31 (by omega) (by omega)
 have b0 : (c % 32) % 256 = c % 32 := by omega
 have o0 : bits .or .u8 160 (c % 32) = 160 + c % 32 := em_or160 (by omega) (by omega)
 have a1 : bits .and .u32 (c / 32) 31 = (c / 32) % 32 := em_and31 (by omega) (by omega)
 have b1 : ((c / 32) % 32) % 256 = (c / 32) % 32 := by omega
 have o1 : bits .or .u8 160 ((c / 32) % 32) = 160 + (c / 32) % 32 := em_or160 (by omega) (by omega)
 have s1 : (c / 32) / 32 = c / 1024 := by rw [Int.ediv_ediv_of_nonneg (by decide)]; rfl
 have mk := make8_3
 have ol : bits .or .u8 224 (c / 1024) = 224 + c / 1024 := em_or224 (by omega) (by omega)
 have om : (c / 1024) % 256 = c / 1024 := by omega
 have d0 : ¬ c < 160 := by omega
 have d1 : ¬ c < 1024 := by omega
 have dl : c < 16384 := h1
 clear h1 hl
 go_enter Tryz.func150, Tryz.ntmps150
 go_upto_region 11 with fail
 go_wp2_with fail
 go_loopg [1, 8] 2 (fun kq s1 s8 wx => (kq = 2 ∧ s8 = .int .i64 2 ∧ s1 = .int .u32 c ∧ wx = w.alloc (.cells #[.int .u8 (0), .int .u8 (0), .int .u8 (0)] 5 (0, 0))) ∨ (kq = 1 ∧ s8 = .int .i64 1 ∧ s1 = .int .u32 (c / 32) ∧ wx = w.alloc (.cells #[.int .u8 (0), .int .u8 (0), .int .u8 (160 + c % 32)] 5 (0, 0))) ∨ (kq = 0 ∧ s8 = .int .i64 0 ∧ s1 = .int .u32 (c / 1024) ∧ wx = w.alloc (.cells #[.int .u8 (0), .int .u8 (160 + c / 32 % 32), .int .u8 (160 + c % 32)] 5 (0, 0))))
 case atStart => exact .inl ⟨rfl, rfl, rfl, rfl⟩
 case round =>
  rcases hrel with ⟨hk, rfl, rfl, hww⟩ | ⟨hk, rfl, rfl, hww⟩ | ⟨hk, rfl, rfl, hww⟩
  ·subst hww
   go_wp2_with fail
   go_roundg 1
   case measure => omega
   case rel => exact (.inr (.inl ⟨rfl, rfl, rfl, rfl⟩))
  ·subst hww
   go_wp2_with fail
   go_roundg 0
   case measure => omega
   case rel => exact (.inr (.inr ⟨rfl, rfl, rfl, rfl⟩))
  ·subst hww
   go_wp2_with fail
   go_ret
   exact ⟨rfl, below_new (Below.refl _ _) _⟩
set_option maxRecDepth 100000 in
set_option maxHeartbeats 4000000 in
theorem mbytes4_c {g : Nat} (c : Int) (h0 : 0 ≤ c) (hl : 16384 ≤ c) (h1 : c < 262144) (w : World) :
  Calls Tryz.prog 150 #[.pointer (some ⟨g, 0, none⟩), .int .u32 c] w fun e w' => e = .returned (.string (strOf [240 + c / 32768, 160 + c / 1024 % 32, 160 + c / 32 % 32, 160 + c % 32])) ∧ Below w.heap.size w w' := by
 have hc := conv8 w [240 + c / 32768, 160 + c / 1024 % 32, 160 + c / 32 % 32, 160 + c % 32] 4 (by simp)
 simp only [nums, List.map_cons, List.map_nil, List.length_cons, List.length_nil, Nat.zero_add, Nat.reduceAdd] at hc
 have a0 : bits .and .u32 c 31 = c % 32 := em_and31 (by omega) (by omega)
 have b0 : (c % 32) % 256 = c % 32 := by omega
 have o0 : bits .or .u8 160 (c % 32) = 160 + c % 32 := em_or160 (by omega) (by omega)
 have a1 : bits .and .u32 (c / 32) 31 = (c / 32) % 32 := em_and31 (by omega) (by omega)
 have b1 : ((c / 32) % 32) % 256 = (c / 32) % 32 := by omega
 have o1 : bits .or .u8 160 ((c / 32) % 32) = 160 + (c / 32) % 32 := em_or160 (by omega) (by omega)
 have s1 : (c / 32) / 32 = c / 1024 := by rw [Int.ediv_ediv_of_nonneg (by decide)]; rfl
 have a2 : bits .and .u32 (c / 1024) 31 = (c / 1024) % 32 := em_and31 (by omega) (by omega)
 have b2 : ((c / 1024) % 32) % 256 = (c / 1024) % 32 := by omega
 have o2 : bits .or .u8 160 ((c / 1024) % 32) = 160 + (c / 1024) % 32 := em_or160 (by omega) (by omega)
 have s2 : (c / 1024) / 32 = c / 32768 := by rw [Int.ediv_ediv_of_nonneg (by decide)]; rfl
 have mk := make8_4
 have ol : bits .or .u8 240 (c / 32768) = 240 + c / 32768 := em_or240 (by omega) (by omega)
 have om : (c / 32768) % 256 = c / 32768 := by omega
 have d0 : ¬ c < 160 := by omega
 have d1 : ¬ c < 1024 := by omega
 have d2 : ¬ c < 16384 := by omega
 have dl : c < 262144 := h1
 clear h1 hl
 go_enter Tryz.func150, Tryz.ntmps150
 go_upto_region 11 with fail
 go_wp2_with fail
 go_loopg [1, 8] 3 (fun kq s1 s8 wx => (kq = 3 ∧ s8 = .int .i64 3 ∧ s1 = .int .u32 c ∧ wx = w.alloc (.cells #[.int .u8 (0), .int .u8 (0), .int .u8 (0), .int .u8 (0)] 5 (0, 0))) ∨ (kq = 2 ∧ s8 = .int .i64 2 ∧ s1 = .int .u32 (c / 32) ∧ wx = w.alloc (.cells #[.int .u8 (0), .int .u8 (0), .int .u8 (0), .int .u8 (160 + c % 32)] 5 (0, 0))) ∨ (kq = 1 ∧ s8 = .int .i64 1 ∧ s1 = .int .u32 (c / 1024) ∧ wx = w.alloc (.cells #[.int .u8 (0), .int .u8 (0), .int .u8 (160 + c / 32 % 32), .int .u8 (160 + c % 32)] 5 (0, 0))) ∨ (kq = 0 ∧ s8 = .int .i64 0 ∧ s1 = .int .u32 (c / 32768) ∧ wx = w.alloc (.cells #[.int .u8 (0), .int .u8 (160 + c / 1024 % 32), .int .u8 (160 + c / 32 % 32), .int .u8 (160 + c % 32)] 5 (0, 0))))
 case atStart => exact .inl ⟨rfl, rfl, rfl, rfl⟩
 case round =>
  rcases hrel with ⟨hk, rfl, rfl, hww⟩ | ⟨hk, rfl, rfl, hww⟩ | ⟨hk, rfl, rfl, hww⟩ | ⟨hk, rfl, rfl, hww⟩
  ·subst hww
   go_wp2_with fail
   go_roundg 2
   case measure => omega
   case rel => exact (.inr (.inl ⟨rfl, rfl, rfl, rfl⟩))
  ·subst hww
   go_wp2_with fail
   go_roundg 1
   case measure => omega
   case rel => exact (.inr (.inr (.inl ⟨rfl, rfl, rfl, rfl⟩)))
  ·subst hww
   go_wp2_with fail
   go_roundg 0
   case measure => omega
   case rel => exact (.inr (.inr (.inr ⟨rfl, rfl, rfl, rfl⟩)))
  ·subst hww
   go_wp2_with fail
   go_ret
   exact ⟨rfl, below_new (Below.refl _ _) _⟩
set_option maxRecDepth 100000 in
set_option maxHeartbeats 4000000 in
theorem mbytes5_c {g : Nat} (c : Int) (h0 : 0 ≤ c) (hl : 262144 ≤ c) (h1 : c < 1114112) (w : World) :
  Calls Tryz.prog 150 #[.pointer (some ⟨g, 0, none⟩), .int .u32 c] w fun e w' => e = .returned (.string (strOf [248 + c / 1048576, 160 + c / 32768 % 32, 160 + c / 1024 % 32, 160 + c / 32 % 32, 160 + c % 32])) ∧ Below w.heap.size w w' := by
 have hc := conv8 w [248 + c / 1048576, 160 + c / 32768 % 32, 160 + c / 1024 % 32, 160 + c / 32 % 32, 160 + c % 32] 5 (by simp)
 simp only [nums, List.map_cons, List.map_nil, List.length_cons, List.length_nil, Nat.zero_add, Nat.reduceAdd] at hc
 have a0 : bits .and .u32 c 31 = c % 32 := em_and31 (by omega) (by omega)
 have b0 : (c % 32) % 256 = c % 32 := by omega
 have o0 : bits .or .u8 160 (c % 32) = 160 + c % 32 := em_or160 (by omega) (by omega)
 have a1 : bits .and .u32 (c / 32) 31 = (c / 32) % 32 := em_and31 (by omega) (by omega)
 have b1 : ((c / 32) % 32) % 256 = (c / 32) % 32 := by omega
 have o1 : bits .or .u8 160 ((c / 32) % 32) = 160 + (c / 32) % 32 := em_or160 (by omega) (by omega)
 have s1 : (c / 32) / 32 = c / 1024 := by rw [Int.ediv_ediv_of_nonneg (by decide)]; rfl
 have a2 : bits .and .u32 (c / 1024) 31 = (c / 1024) % 32 := em_and31 (by omega) (by omega)
 have b2 : ((c / 1024) % 32) % 256 = (c / 1024) % 32 := by omega
 have o2 : bits .or .u8 160 ((c / 1024) % 32) = 160 + (c / 1024) % 32 := em_or160 (by omega) (by omega)
 have s2 : (c / 1024) / 32 = c / 32768 := by rw [Int.ediv_ediv_of_nonneg (by decide)]; rfl
 have a3 : bits .and .u32 (c / 32768) 31 = (c / 32768) % 32 := em_and31 (by omega) (by omega)
 have b3 : ((c / 32768) % 32) % 256 = (c / 32768) % 32 := by omega
 have o3 : bits .or .u8 160 ((c / 32768) % 32) = 160 + (c / 32768) % 32 := em_or160 (by omega) (by omega)
 have s3 : (c / 32768) / 32 = c / 1048576 := by rw [Int.ediv_ediv_of_nonneg (by decide)]; rfl
 have mk := make8_5
 have ol : bits .or .u8 248 (c / 1048576) = 248 + c / 1048576 := em_or248 (by omega) (by omega)
 have om : (c / 1048576) % 256 = c / 1048576 := by omega
 have d0 : ¬ c < 160 := by omega
 have d1 : ¬ c < 1024 := by omega
 have d2 : ¬ c < 16384 := by omega
 have d3 : ¬ c < 262144 := by omega
 clear h1 hl
 go_enter Tryz.func150, Tryz.ntmps150
 go_upto_region 11 with fail
 go_wp2_with fail
 go_loopg [1, 8] 4 (fun kq s1 s8 wx => (kq = 4 ∧ s8 = .int .i64 4 ∧ s1 = .int .u32 c ∧ wx = w.alloc (.cells #[.int .u8 (0), .int .u8 (0), .int .u8 (0), .int .u8 (0), .int .u8 (0)] 5 (0, 0))) ∨ (kq = 3 ∧ s8 = .int .i64 3 ∧ s1 = .int .u32 (c / 32) ∧ wx = w.alloc (.cells #[.int .u8 (0), .int .u8 (0), .int .u8 (0), .int .u8 (0), .int .u8 (160 + c % 32)] 5 (0, 0))) ∨ (kq = 2 ∧ s8 = .int .i64 2 ∧ s1 = .int .u32 (c / 1024) ∧ wx = w.alloc (.cells #[.int .u8 (0), .int .u8 (0), .int .u8 (0), .int .u8 (160 + c / 32 % 32), .int .u8 (160 + c % 32)] 5 (0, 0))) ∨ (kq = 1 ∧ s8 = .int .i64 1 ∧ s1 = .int .u32 (c / 32768) ∧ wx = w.alloc (.cells #[.int .u8 (0), .int .u8 (0), .int .u8 (160 + c / 1024 % 32), .int .u8 (160 + c / 32 % 32), .int .u8 (160 + c % 32)] 5 (0, 0))) ∨ (kq = 0 ∧ s8 = .int .i64 0 ∧ s1 = .int .u32 (c / 1048576) ∧ wx = w.alloc (.cells #[.int .u8 (0), .int .u8 (160 + c / 32768 % 32), .int .u8 (160 + c / 1024 % 32), .int .u8 (160 + c / 32 % 32), .int .u8 (160 + c % 32)] 5 (0, 0))))
 case atStart => exact .inl ⟨rfl, rfl, rfl, rfl⟩
 case round =>
  rcases hrel with ⟨hk, rfl, rfl, hww⟩ | ⟨hk, rfl, rfl, hww⟩ | ⟨hk, rfl, rfl, hww⟩ | ⟨hk, rfl, rfl, hww⟩ | ⟨hk, rfl, rfl, hww⟩
  ·subst hww
   go_wp2_with fail
   go_roundg 3
   case measure => omega
   case rel => exact (.inr (.inl ⟨rfl, rfl, rfl, rfl⟩))
  ·subst hww
   go_wp2_with fail
   go_roundg 2
   case measure => omega
   case rel => exact (.inr (.inr (.inl ⟨rfl, rfl, rfl, rfl⟩)))
  ·subst hww
   go_wp2_with fail
   go_roundg 1
   case measure => omega
   case rel => exact (.inr (.inr (.inr (.inl ⟨rfl, rfl, rfl, rfl⟩))))
  ·subst hww
   go_wp2_with fail
   go_roundg 0
   case measure => omega
   case rel => exact (.inr (.inr (.inr (.inr ⟨rfl, rfl, rfl, rfl⟩))))
  ·subst hww
   go_wp2_with fail
   go_ret
   exact ⟨rfl, below_new (Below.refl _ _) _⟩
theorem mbytes_c {g : Nat} (c : Int) (h0 : 0 ≤ c) (h1 : isScal c = true) (w : World) :
  Calls Tryz.prog 150 #[.pointer (some ⟨g, 0, none⟩), .int .u32 c] w fun e w' => e = .returned (.string (strOf (bytesM c))) ∧ Below w.heap.size w w' := by
 have hc1 : c ≤ 1114111 := by unfold isScal at h1; simp at h1; omega
 unfold bytesM
 by_cases a0 : c < 160
 ·rw [if_pos a0]; exact mbytes1_c c h0 a0 w
 rw [if_neg a0]
 by_cases a1 : c < 1024
 ·rw [if_pos a1]; exact mbytes2_c c h0 (by omega) a1 w
 rw [if_neg a1]
 by_cases a2 : c < 16384
 ·rw [if_pos a2]; exact mbytes3_c c h0 (by omega) a2 w
 rw [if_neg a2]
 by_cases a3 : c < 262144
 ·rw [if_pos a3]; exact mbytes4_c c h0 (by omega) a3 w
 rw [if_neg a3]
 exact mbytes5_c c h0 (by omega) (by omega) w
def RepM (tb : Nat) (w : World) (g : Nat) (F : Nat → Prop) (d : ESt MEn) : Prop := Blk w g TEb (CsM tb d) ∧ ∀ k, F k ↔ k = g
theorem bytesM_c {tb : Nat} {w : World} {g : Nat} {d : ESt MEn} (hb : Blk w g TEb (CsM tb d)) (c : Int) (h0 : 0 ≤ c) (h1 : isScal c = true) :
  Calls Tryz.prog 150 #[.pointer (some ⟨g, 0, none⟩), .int .u32 c] w fun e w' => e = .returned (.string (strOf (MEn.put d.st c).2)) ∧ Blk w' g TEb (CsM tb { d with st := (MEn.put d.st c).1 }) ∧ Eff w w' (fun k => k = g) := by
 refine (mbytes_c c h0 h1 w).mono ?_
 rintro e w' ⟨rfl, hbw⟩
 exact ⟨rfl, hb.below hbw, Eff.of_below hbw _⟩
end Go.Proofs.YtmgnndnofbemeaaGreat
namespace Go.Proofs.YtmgnndnofbemeaaGreat
open Go.RowKit Go.Proofs.YtmgnndnofbemeaaGreatW.PrintWords
set_option linter.unusedVariables false
set_option linter.unusedSimpArgs false
set_option maxRecDepth 100000 in
set_option maxHeartbeats 4000000 in
theorem feedEM {tb : Nat} {w : World} {g : Nat} {F : Nat → Prop} {d : ESt MEn} (A : Option Addr) (c : Nat) (l : List Int) (room : Int) (h : RepM tb w g F d) (hr : ReadsInt w .u32 A l.length l) (hs : l ≠ [] → ∀ ad, A = some ad → ¬ F ad.block)
  (hsc : ∀ x ∈ l, 0 ≤ x) (hp : d.pos + l.length ≤ 1000000) (hk : d.kept.length ≤ 10000000) (hroom : -1000000000 ≤ room ∧ room ≤ 9223372036854775807) :
  Calls Tryz.prog 148 #[.pointer (some ⟨g, 0, none⟩), .slice A l.length c, .int .i64 room] w fun e w' => ∃ F', e = .returned (.tuple #[.int .i64 (feedE MEn room l (d.drop (giveZ room d.kept.length)) (d.kept.take (giveZ room d.kept.length))).1,
    .string (strOf (feedE MEn room l (d.drop (giveZ room d.kept.length)) (d.kept.take (giveZ room d.kept.length))).2.1)]) ∧
   RepM tb w' g F' (feedE MEn room l (d.drop (giveZ room d.kept.length)) (d.kept.take (giveZ room d.kept.length))).2.2 ∧ Eff w w' F ∧ (∀ k, F' k → F k ∨ w.heap.size ≤ k) := by
 obtain ⟨hb, hF⟩ := h
 obtain ⟨d0, hd0⟩ : ∃ d0, d.drop (giveZ room d.kept.length) = d0 := ⟨_, rfl⟩
 obtain ⟨o0, ho0⟩ : ∃ o0, d.kept.take (giveZ room d.kept.length) = o0 := ⟨_, rfl⟩
 have ho0l : o0.length ≤ 10000000 := by rw [← ho0, List.length_take]; omega
 have hd0k : d0.kept.length ≤ 10000000 := by rw [← hd0]; show (d.kept.drop _).length ≤ _; rw [List.length_drop]; omega
 have hd0p : d0.pos = d.pos := by rw [← hd0]; rfl
 have hg0 := give_l (room := room) (xs := d.kept) (o := 4) hb rfl
 rw [ho0] at hg0
 have hb0 : Blk (w.setCell ⟨g, 4, none⟩ (.string (strOf (d.kept.drop (giveZ room d.kept.length))))) g TEb (CsM tb d0) := by rw [← hd0]; exact hb.set 4 _
 have he0 : Eff w (w.setCell ⟨g, 4, none⟩ (.string (strOf (d.kept.drop (giveZ room d.kept.length))))) (fun k => k = g) := Eff.set _ _ _ _
 obtain ⟨w0, hw0⟩ : ∃ w0, w.setCell ⟨g, 4, none⟩ (.string (strOf (d.kept.drop (giveZ room d.kept.length)))) = w0 := ⟨_, rfl⟩
 rw [hw0] at hg0 hb0 he0
 rw [hd0, ho0]
 have hsg : l ≠ [] → ∀ ad, A = some ad → ad.block ≠ g := fun hne ad had e => hs hne ad had ((hF _).2 e)
 have HR0 := Lib.hid hr
 have HSG := Lib.hid hsg
 have HB0 := Lib.hid hb0
 have HE0 := Lib.hid he0
 have HFF := Lib.hid hF
 have HSC := Lib.hid hsc
 have HLEN := Lib.hid (And.intro ho0l (And.intro hd0k (And.intro hd0p hp)))
 have HG0 := Lib.hid hg0
 clear hb hr hs hsg hb0 he0 hF hsc hw0 ho0l hd0k hd0p hp hg0 hd0 ho0 hk
 go_enter Tryz.func148, Tryz.ntmps148
 go_upto_block 0 with (go_at_call 135; refine HG0.out.mono ?_; rintro e w' ⟨rfl, rfl⟩)
 go_cut [8, 9] (fun s8 s9 wx => ∃ (k : Nat) (D : ESt MEn) (o : List Int), s8 = .string (strOf o) ∧ s9 = .int .i64 k ∧ Hid (feedE MEn room l d0 o0 = (k, o, D)) ∧ Hid (Blk wx g TEb (CsM tb D)) ∧ Hid (Eff w wx (fun k => k = g)))
 case first =>
  go_wp2_with fail
  go_loopg [8, 9] l.length (fun kq s8 s9 wx => ∃ (k : Nat) (D : ESt MEn) (o : List Int), s8 = .string (strOf o) ∧ s9 = .int .i64 k ∧ Hid (kq = l.length - k) ∧ Hid (FE MEn 5 room l d0 o0 k D o) ∧ Hid (Blk wx g TEb (CsM tb D)) ∧ Hid (Eff w wx (fun k => k = g)))
  case atStart => exact ⟨0, d0, o0, rfl, rfl, Lib.hid rfl, Lib.hid (FE.start _ _ _ _ _ _), HB0, HE0⟩
  case round =>
   obtain ⟨k, D, o, rfl, rfl, HK, HFE, HB, HE⟩ := hrel
   have hk0 : (0 : Int) ≤ (k : Int) := by omega
   have HEW := HE
   by_cases hk : k < l.length
   ·have hk1 : (k : Int) < (l.length : Int) := by omega
    by_cases hkp : D.kept = []
    ·have hkept := kept_l (xs := D.kept) (o := 4) HB.out rfl
     rw [hkp, List.length_nil] at hkept
     have HKP := Lib.hid hkp
     have HKT := Lib.hid hkept
     clear hkept hkp
     by_cases hgo : D.err = 0 ∧ D.en = false
     ·have HGO := Lib.hid hgo
      have HGC := Lib.hid (going_yes HB.out (by show some (Value.int .i64 D.err) = _; rw [hgo.1]) (by show some (Value.bool D.en) = _; rw [hgo.2]))
      clear hgo
      obtain ⟨ad, rfl, hcell⟩ := ReadsInt.at_ (reads_eff HR0.out HE.out (fun hne ad had e => HSG.out hne ad had e)) (k : Int) hk0 hk1
      rw [Int.toNat_natCast, show rd l (k : Int) = l.getD k 0 by simp [rd]] at hcell
      obtain ⟨x, hx⟩ : ∃ x, l.getD k 0 = x := ⟨_, rfl⟩
      rw [hx] at hcell
      have HX := Lib.hid hx
      clear hx
      by_cases hsx : isScal x = true
      ·have HSX := Lib.hid hsx
       have HIS := Lib.hid (scal_c x wr)
       have hsc1 : ∀ w1, Below wr.heap.size wr w1 → True := fun _ _ => trivial
       clear hsc1
       go_upto_region 6 with (first
        | (go_at_call 133; refine HKT.out.mono ?_; rintro e w1 ⟨rfl, rfl⟩)
        | (go_at_call 134; refine HGC.out.mono ?_; rintro e w1 ⟨rfl, rfl⟩)
        | (go_at_call 136; refine HIS.out.mono ?_; rw [hsx]; rintro e w1 ⟨rfl, hb1⟩))
       have HB1 := Lib.hid (HB.out.below hb1)
       have HE1 := Lib.hid (HEW.out.trans (Eff.of_below hb1 _) (fun _ _ h => h))
       have hc1 : w1.cell? (ad.add k) = some (.int .u32 x) := (hb1.cell (World.block_lt_of_cell? wr _ hcell)).trans hcell
       clear hb1 hcell
       have hxk : 0 ≤ x := HSC.out x (by rw [← HX.out, List.getD_eq_getElem?_getD, List.getElem?_eq_getElem hk]; exact List.getElem_mem hk)
       have hby := fun W (hW : Blk W g TEb (CsM tb D) ∧ Eff w1 W (fun k => k = g)) => bytesM_c (d := D) hW.1 x hxk hsx
       have hbl := bytesM_len D.st x
       obtain ⟨P, hP⟩ : ∃ P, (MEn).put D.st x = P := ⟨_, rfl⟩
       rw [hP] at hby hbl
       obtain ⟨sx, B⟩ := P
       simp only at hby hbl
       have HPP := Lib.hid hP
       have HBY := Lib.hid hby
       have HFE1 := Lib.hid (HFE.out.eat bytesM_len hk ⟨HKP.out, HGO.out⟩ (by rw [HX.out]; exact hsx))
       clear hby hP
       go_cut [] (fun wx => Hid (Blk wx g TEb (CsM tb { D with kept := B, st := sx }) ∧ Eff w wx (fun k => k = g)))
       case first =>
        go_region_with (first
         | (go_at_call 150; refine (HBY.out _ (by first | exact ⟨HB1.out, Eff.refl _ _⟩ | exact ⟨HB1.out, Eff.drewN _ 1 _⟩)).mono ?_; rintro e w3 ⟨rfl, hb3, he3⟩; have HB3 : Hid (Blk w3 g TEb (CsM tb { D with st := sx }) ∧ Eff w1 w3 (fun k => k = g)) := Lib.hid ⟨hb3, (by first | exact he3 | exact (Eff.drewN w1 1 _).trans he3 (fun _ _ h => h))⟩; clear hb3 he3)
         | (go_at_call 138; refine (keep_l (o := 4) (xs := D.kept) (ys := B) HB3.out.1 rfl (by rw [HKP.out, List.length_nil]; omega)).mono ?_; rintro e w4 ⟨rfl, rfl⟩))
        all_goals (go_wp2_with fail; go_meet)
        all_goals exact Lib.hid ⟨by rw [HKP.out, List.nil_append]; exact HB3.out.1.set 4 _, (HE1.out.trans HB3.out.2 (fun _ _ h => h)).trans (Eff.set _ _ _ _) (fun _ _ h => h)⟩
       case rest =>
        have HB6 := Lib.hid hcut.out.1
        have HE6 := Lib.hid hcut.out.2
        clear hcut HB1 HE1 hc1
        have HEAT := Lib.hid (eat_c (n := D.pos) HB6.out rfl (by show some (Value.int .i64 D.err) = _; rw [HGO.out.1]) (by show some (Value.bool D.en) = _; rw [HGO.out.2]) (by omega) (by have := HFE.out.pos; have := HFE.out.le; have := HLEN.out; omega))
        obtain ⟨m, hm⟩ : ∃ m, giveZ (room - o.length) B.length = m := ⟨_, rfl⟩
        have HFE2 : Hid (FE MEn 5 room l d0 o0 (k + 1) { D with pos := D.pos + 1, kept := B.drop m, st := sx } (o ++ B.take m)) := by
         have h := HFE1.out
         rw [HX.out, HPP.out] at h
         simp only [hm] at h
         exact Lib.hid h
        have HB7 : Hid (Blk (wc.setCell ⟨g, 0, none⟩ (.int .i64 ((D.pos : Int) + 1))) g TEb (CsM tb { D with pos := D.pos + 1, kept := B, st := sx })) := by
         refine Lib.hid ?_
         show Blk _ g TEb #[.int .i64 ((D.pos + 1 : Nat) : Int), .int .i64 D.err, .int .i64 D.fat, .bool D.en, .string (strOf B), .pointer (some ⟨tb, 0, none⟩)]
         rw [Int.natCast_add]
         exact HB6.out.set 0 _
        have HGV : Hid (Calls Tryz.prog 135 #[.pointer (some ⟨g, 4, none⟩), .int .i64 (room - o.length)] (wc.setCell ⟨g, 0, none⟩ (.int .i64 ((D.pos : Int) + 1))) fun e w' => e = .returned (.string (strOf (B.take m))) ∧ w' = (wc.setCell ⟨g, 0, none⟩ (.int .i64 ((D.pos : Int) + 1))).setCell ⟨g, 4, none⟩ (.string (strOf (B.drop m)))) := by
         have h := give_l (room := room - o.length) (xs := B) (o := 4) HB7.out rfl
         rw [hm] at h
         exact Lib.hid h
        have hso : (strOf o).size = o.length := strOf_size o
        have hol : o.length ≤ 20000000 := by have := HFE.out.out; have := HLEN.out.1; have := HLEN.out.2.2.2; omega
        obtain ⟨T, hT⟩ : ∃ T, B.take m = T := ⟨_, rfl⟩
        have hTl : T.length ≤ 5 := by rw [← hT, List.length_take]; omega
        have hst : (strOf T).size = T.length := strOf_size T
        have HTT := Lib.hid hT
        rw [hT] at HGV
        have hkb : (k : Int) ≤ 1000000 := by have := HLEN.out.2.2.2; omega
        have hr1 := hroom.1
        have hr2 := hroom.2
        clear hm hT hbl
        go_wp2_with (first
         | (go_at_call 140; refine HEAT.out.mono ?_; rintro e w5 ⟨rfl, rfl⟩)
         | (go_at_call 135; refine HGV.out.mono ?_; rintro e w5 ⟨rfl, rfl⟩))
        go_roundg (l.length - (k + 1))
        case measure => have := HK.out; omega
        case rel =>
         refine ⟨k + 1, _, o ++ B.take m, by rw [strOf_append, HTT.out], by go_num, Lib.hid rfl, HFE2, ?_, ?_⟩
         ·exact Lib.hid (HB7.out.set 4 _)
         ·exact Lib.hid ((HE6.out.trans (Eff.set _ _ _ _) (fun _ _ h => h)).trans (Eff.set _ _ _ _) (fun _ _ h => h))
      ·have hsx0 : isScal x = false := by simpa using hsx
       have HIS := Lib.hid (scal_c x wr)
       have HST := Lib.hid (fun w1 (hb1 : Below wr.heap.size wr w1) => stop_c (err := 2) (n := D.pos) (z := D.fat) (by decide) (HB.out.below hb1) rfl (by show some (Value.int .i64 D.err) = _; rw [HGO.out.1]) rfl (by show some (Value.bool D.en) = _; rw [HGO.out.2]))
       go_upto_region 5 with (first
        | (go_at_call 133; refine HKT.out.mono ?_; rintro e w1 ⟨rfl, rfl⟩)
        | (go_at_call 134; refine HGC.out.mono ?_; rintro e w1 ⟨rfl, rfl⟩)
        | (go_at_call 136; refine HIS.out.mono ?_; rw [hsx0]; rintro e w1 ⟨rfl, hb1⟩))
       have HS1 := Lib.hid (HST.out w1 hb1)
       have HB1 := Lib.hid (HB.out.below hb1)
       have HE1 := Lib.hid (HEW.out.trans (Eff.of_below hb1 _) (fun _ _ h => h))
       clear hb1
       go_wp2_with (go_at_call 137; refine HS1.out.mono ?_; rintro e w2 ⟨rfl, rfl⟩)
       go_meet
       refine ⟨k, _, o, rfl, rfl, Lib.hid (HFE.out.bad0 rfl hk ⟨HKP.out, HGO.out⟩ (by rw [HX.out]; exact hsx0)), Lib.hid ((HB1.out.set 1 (.int .i64 2)).set 2 (.int .i64 D.pos)), Lib.hid ((HE1.out.trans (Eff.set _ _ _ _) (fun _ _ h => h)).trans (Eff.set _ _ _ _) (fun _ _ h => h))⟩
     ·have HGO := Lib.hid hgo
      have HGC := Lib.hid (going_c (err := D.err) (en := D.en) HB.out rfl rfl)
      have hgf : (D.err == 0 && !D.en) = false := by
       rcases Bool.eq_false_or_eq_true (D.err == 0 && !D.en) with h | h
       ·simp at h; exact absurd h hgo
       ·exact h
      rw [hgf] at HGC
      clear hgo hgf
      go_wp2_with (first
        | (go_at_call 133; refine HKT.out.mono ?_; rintro e w1 ⟨rfl, rfl⟩)
        | (go_at_call 134; refine HGC.out.mono ?_; rintro e w1 ⟨rfl, rfl⟩))
      go_meet
      exact ⟨k, D, o, rfl, rfl, Lib.hid (HFE.out.stop (fun h => HGO.out h.2)), HB, HEW⟩
    ·have hkept := kept_l (xs := D.kept) (o := 4) HB.out rfl
     have hz : ((D.kept.length : Int) == 0) = false := by simpa using hkp
     have HKP := Lib.hid hkp
     have HKT := Lib.hid hkept
     clear hkept hkp
     go_wp2_with (go_at_call 133; refine HKT.out.mono ?_; rintro e w1 ⟨rfl, rfl⟩)
     go_meet
     exact ⟨k, D, o, rfl, rfl, Lib.hid (HFE.out.stop (fun h => HKP.out h.1)), HB, HEW⟩
   ·have hk1 : ¬ (k : Int) < (l.length : Int) := by omega
    have HKK := Lib.hid hk
    clear hk
    go_wp2_with fail
    go_meet
    exact ⟨k, D, o, rfl, rfl, Lib.hid (HFE.out.all HKK.out), HB, HEW⟩
 case rest =>
  obtain ⟨k, D, o, rfl, rfl, HFE, HB, HE⟩ := hcut
  go_wp2_with fail
  refine bodyPost_ret (v := .tuple #[.int .i64 k, .string (strOf o)]) (by simp [results, Tryz.results148, go_sem]) rfl ?_
  rw [HFE.out]
  exact ⟨fun k => k = g, rfl, ⟨HB.out, fun _ => Iff.rfl⟩, HE.out.mono (fun k _ h => (HFF.out k).2 h), fun k h => .inl ((HFF.out k).2 h)⟩
end Go.Proofs.YtmgnndnofbemeaaGreat
