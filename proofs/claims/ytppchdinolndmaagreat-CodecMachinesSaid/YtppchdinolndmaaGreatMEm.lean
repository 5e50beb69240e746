/- Joined texts: Em. -/
import Derived.Test.YtppchdinolndmaaGreatMUstp
import Derived.Test.YtppchdinolndmaaGreatMBit
import Derived.StillTailTactics
import Derived.Deep.CutBlock
/- mod8.Encoder (within an ebcdic.Encoder): a scalar's bytes. -/
namespace Go.Proofs.YtppchdinolndmaaGreat
open Go.RowKit Go.Proofs.YtppchdinolndmaaGreatW.PrintWords
set_option linter.unusedVariables false
set_option linter.unusedSimpArgs false
def bytesM (c : Int) : List Int :=
 if c < 160 then [c] else if c < 1024 then [192 + c / 32, 160 + c % 32] else if c < 16384 then [224 + c / 1024, 160 + c / 32 % 32, 160 + c % 32]
 else if c < 262144 then [240 + c / 32768, 160 + c / 1024 % 32, 160 + c / 32 % 32, 160 + c % 32]
 else [248 + c / 1048576, 160 + c / 32768 % 32, 160 + c / 1024 % 32, 160 + c / 32 % 32, 160 + c % 32]
def MEn : EMach := ⟨Unit, (), fun _ c => ((), bytesM c), fun _ => [], fun _ => []⟩
abbrev TEb : TypeId := 109
def CsM (tb : Nat) (d : ESt MEn) : Array Value := #[.int .i64 d.pos, .int .i64 d.err, .int .i64 d.fat, .bool d.en, .string (strOf d.kept), .pointer (some ⟨tb, 0, none⟩)]
theorem bytesM_len (st : MEn.St) (c : Int) : (MEn.put st c).2.length ≤ 5 := by
 show (bytesM c).length ≤ 5
 unfold bytesM
 (repeat' split) <;> simp
theorem info_u8b : (Tryz.prog.info? 5).map (fun i => (i.zero, i.size, i.bytes)) = some (some (.int .u8 0), 1, 1) := by kernel_rfl
theorem make8_2 : ∀ W : World, (Instr.makeSlice 80 (.int .i64 2) (.int .i64 2)).run Tryz.prog W = .ok (.slice (some ⟨W.heap.size, 0, none⟩) 2 2) (W.alloc (.cells #[.int .u8 0, .int .u8 0] 5 (0, 0))) := fun W => by
 have h := print_make (P := Tryz.prog) 80 5 .u8 1 Tryz.underlying80 info_u8b (by decide) 2 (by decide) W
 rw [show madeCells #[.int .u8 0] 2 = #[.int .u8 0, .int .u8 0] from by kernel_rfl] at h
 exact h
theorem make8_3 : ∀ W : World, (Instr.makeSlice 80 (.int .i64 3) (.int .i64 3)).run Tryz.prog W = .ok (.slice (some ⟨W.heap.size, 0, none⟩) 3 3) (W.alloc (.cells #[.int .u8 0, .int .u8 0, .int .u8 0] 5 (0, 0))) := fun W => by
 have h := print_make (P := Tryz.prog) 80 5 .u8 1 Tryz.underlying80 info_u8b (by decide) 3 (by decide) W
 rw [show madeCells #[.int .u8 0] 3 = #[.int .u8 0, .int .u8 0, .int .u8 0] from by kernel_rfl] at h
 exact h
theorem make8_4 : ∀ W : World, (Instr.makeSlice 80 (.int .i64 4) (.int .i64 4)).run Tryz.prog W = .ok (.slice (some ⟨W.heap.size, 0, none⟩) 4 4) (W.alloc (.cells #[.int .u8 0, .int .u8 0, .int .u8 0, .int .u8 0] 5 (0, 0))) := fun W => by
 have h := print_make (P := Tryz.prog) 80 5 .u8 1 Tryz.underlying80 info_u8b (by decide) 4 (by decide) W
 rw [show madeCells #[.int .u8 0] 4 = #[.int .u8 0, .int .u8 0, .int .u8 0, .int .u8 0] from by kernel_rfl] at h
 exact h
theorem make8_5 : ∀ W : World, (Instr.makeSlice 80 (.int .i64 5) (.int .i64 5)).run Tryz.prog W = .ok (.slice (some ⟨W.heap.size, 0, none⟩) 5 5) (W.alloc (.cells #[.int .u8 0, .int .u8 0, .int .u8 0, .int .u8 0, .int .u8 0] 5 (0, 0))) := fun W => by
 have h := print_make (P := Tryz.prog) 80 5 .u8 1 Tryz.underlying80 info_u8b (by decide) 5 (by decide) W
 rw [show madeCells #[.int .u8 0] 5 = #[.int .u8 0, .int .u8 0, .int .u8 0, .int .u8 0, .int .u8 0] from by kernel_rfl] at h
 exact h
theorem em_and31 {x : Int} (h0 : 0 ≤ x) (h1 : x < 4294967296) : bits .and .u32 x 31 = x % 32 := u32_mask 5 (by decide) h0 h1
theorem em_or160 {y : Int} (h0 : 0 ≤ y) (h1 : y < 32) : bits .or .u8 160 y = 160 + y := bits_join .u8 8 (by decide) wraps_u8 5 160 y (by decide) (by decide) (by decide) h0 h1 (by omega)
theorem em_or192 {y : Int} (h0 : 0 ≤ y) (h1 : y < 32) : bits .or .u8 192 y = 192 + y := bits_join .u8 8 (by decide) wraps_u8 5 192 y (by decide) (by decide) (by decide) h0 h1 (by omega)
theorem em_or224 {y : Int} (h0 : 0 ≤ y) (h1 : y < 16) : bits .or .u8 224 y = 224 + y := bits_join .u8 8 (by decide) wraps_u8 4 224 y (by decide) (by decide) (by decide) h0 h1 (by omega)
theorem em_or240 {y : Int} (h0 : 0 ≤ y) (h1 : y < 8) : bits .or .u8 240 y = 240 + y := bits_join .u8 8 (by decide) wraps_u8 3 240 y (by decide) (by decide) (by decide) h0 h1 (by omega)
theorem em_or248 {y : Int} (h0 : 0 ≤ y) (h1 : y < 4) : bits .or .u8 248 y = 248 + y := bits_join .u8 8 (by decide) wraps_u8 2 248 y (by decide) (by decide) (by decide) h0 h1 (by omega)
set_option maxRecDepth 100000 in
set_option maxHeartbeats 4000000 in
theorem mbytes1_c {g : Nat} (c : Int) (h0 : 0 ≤ c) (h1 : c < 160) (w : World) :
  Calls Tryz.prog 119 #[.pointer (some ⟨g, 0, none⟩), .int .u32 c] w fun e w' => e = .returned (.string (strOf [c])) ∧ Below w.heap.size w w' := by
 have hc := conv8 w [c] 1 (by simp)
 simp only [nums, List.map_cons, List.map_nil, List.length_cons, List.length_nil, Nat.zero_add] at hc
 have hcm : c % 256 = c := by omega
 go_enter Tryz.func119, Tryz.ntmps119
 go_wp2_with fail
 go_ret
 exact ⟨rfl, below_new (Below.refl _ _) _⟩
set_option maxRecDepth 100000 in
set_option maxHeartbeats 4000000 in
theorem mbytes2_c {g : Nat} (c : Int) (h0 : 0 ≤ c) (hl : 160 ≤ c) (h1 : c < 1024) (w : World) :
  Calls Tryz.prog 119 #[.pointer (some ⟨g, 0, none⟩), .int .u32 c] w fun e w' => e = .returned (.string (strOf [192 + c / 32, 160 + c % 32])) ∧ Below w.heap.size w w' := by
 have hc := conv8 w [192 + c / 32, 160 + c % 32] 2 (by simp)
 simp only [nums, List.map_cons, List.map_nil, List.length_cons, List.length_nil, Nat.zero_add, Nat.reduceAdd] at hc
 have a0 : bits .and .u32 c 31 = c % 32 := em_and31 (by omega) (by omega)
 have b0 : (c % 32) % 256 = c % 32 := by omega
 have o0 : bits .or .u8 160 (c % 32) = 160 + c % 32 := em_or160 (by omega) (by omega)
 have mk := make8_2
 have ol : bits .or .u8 192 (c / 32) = 192 + c / 32 := em_or192 (by omega) (by omega)
 have om : (c / 32) % 256 = c / 32 := by omega
 have d0 : ¬ c < 160 := by omega
 have dl : c < 1024 := h1
 clear h1 hl
 go_enter Tryz.func119, Tryz.ntmps119
 go_upto_region 11 with fail
 go_wp2_with fail
 go_loopg [1, 8] 1 (fun kq s1 s8 wx => (kq = 1 ∧ s8 = .int .i64 1 ∧ s1 = .int .u32 c ∧ wx = w.alloc (.cells #[.int .u8 (0), .int .u8 (0)] 5 (0, 0))) ∨ (kq = 0 ∧ s8 = .int .i64 0 ∧ s1 = .int .u32 (c / 32) ∧ wx = w.alloc (.cells #[.int .u8 (0), .int .u8 (160 + c % 32)] 5 (0, 0))))
 case atStart => exact .inl ⟨rfl, rfl, rfl, rfl⟩
 case round =>
  rcases hrel with ⟨hk, rfl, rfl, hww⟩ | ⟨hk, rfl, rfl, hww⟩
  ·subst hww
   go_wp2_with fail
   go_roundg 0
   case measure => omega
   case rel => exact (.inr ⟨rfl, rfl, rfl, rfl⟩)
  ·subst hww
   go_wp2_with fail
   go_ret
   exact ⟨rfl, below_new (Below.refl _ _) _⟩
set_option maxRecDepth 100000 in
set_option maxHeartbeats 4000000 in
theorem mbytes3_c {g : Nat} (c : Int) (h0 : 0 ≤ c) (hl : 1024 ≤ c) (h1 : c < 16384) (w : World) :
  Calls Tryz.prog 119 #[.pointer (some ⟨g, 0, none⟩), .int .u32 c] w fun e w' => e = .returned (.string (strOf [224 + c / 1024, 160 + c / 32 % 32, 160 + c % 32])) ∧ Below w.heap.size w w' := by
 have hc := conv8 w [224 + c / 1024, 160 + c / 32 % 32, 160 + c % 32] 3 (by simp)
 simp only [nums, List.map_cons, List.map_nil, List.length_cons, List.length_nil, Nat.zero_add, Nat.reduceAdd] at hc
 have a0 : bits .and .u32 c 31 = c % 32 := em_and31 (by omega) (by omega)
 have b0 : (c % 32) % 256 = c % 32 := by omega
 have o0 : bits .or .u8 160 (c % 32) = 160 + c % 32 := em_or160 (by omega) (by omega)
 have a1 : bits .and .u32 (c / 32) 31 = (c / 32) % 32 := em_and31 (by omega) (by omega)
 have b1 : ((c / 32) % 32) % 256 = (c / 32) % 32 := by omega
 have o1 : bits .or .u8 160 ((c / 32) % 32) = 160 + (c / 32) % 32 := em_or160 (by omega) (by omega)
 have s1 : (c / 32) / 32 = c / 1024 := by rw [Int.ediv_ediv_of_nonneg (by decide)]; rfl
 have mk := make8_3
 have ol : bits .or .u8 224 (c / 1024) = 224 + c / 1024 := em_or224 (by omega) (by omega)
 have om : (c / 1024) % 256 = c / 1024 := by omega
 have d0 : ¬ c < 160 := by omega
 have d1 : ¬ c < 1024 := by omega
 have dl : c < 16384 := h1
 clear h1 hl
 go_enter Tryz.func119, Tryz.ntmps119
 go_upto_region 11 with fail
 go_wp2_with fail
 go_loopg [1, 8] 2 (fun kq s1 s8 wx => (kq = 2 ∧ s8 = .int .i64 2 ∧ s1 = .int .u32 c ∧ wx = w.alloc (.cells #[.int .u8 (0), .int .u8 (0), .int .u8 (0)] 5 (0, 0))) ∨ (kq = 1 ∧ s8 = .int .i64 1 ∧ s1 = .int .u32 (c / 32) ∧ wx = w.alloc (.cells #[.int .u8 (0), .int .u8 (0), .int .u8 (160 + c % 32)] 5 (0, 0))) ∨ (kq = 0 ∧ s8 = .int .i64 0 ∧ s1 = .int .u32 (c / 1024) ∧ wx = w.alloc (.cells #[.int .u8 (0), .int .u8 (160 + c / 32 % 32), .int .u8 (160 + c % 32)] 5 (0, 0))))
 case atStart => exact .inl ⟨rfl, rfl, rfl, rfl⟩
 case round =>
  rcases hrel with ⟨hk, rfl, rfl, hww⟩ | ⟨hk, rfl, rfl, hww⟩ | ⟨hk, rfl, rfl, hww⟩
  ·subst hww
   go_wp2_with fail
   go_roundg 1
   case measure => omega
   case rel => exact (.inr (.inl ⟨rfl, rfl, rfl, rfl⟩))
  ·subst hww
   go_wp2_with fail
   go_roundg 0
   case measure => omega
   case rel => exact (.inr (.inr ⟨rfl, rfl, rfl, rfl⟩))
  ·subst hww
   go_wp2_with fail
   go_ret
   exact ⟨rfl, below_new (Below.refl _ _) _⟩
set_option maxRecDepth 100000 in
set_option maxHeartbeats 4000000 in
theorem mbytes4_c {g : Nat} (c : Int) (h0 : 0 ≤ c) (hl : 16384 ≤ c) (h1 : c < 262144) (w : World) :
  Calls Tryz.prog 119 #[.pointer (some ⟨g, 0, none⟩), .int .u32 c] w fun e w' => e = .returned (.string (strOf [240 + c / 32768, 160 + c / 1024 % 32, 160 + c / 32 % 32, 160 + c % 32])) ∧ Below w.heap.size w w' := by
 have hc := conv8 w [240 + c / 32768, 160 + c / 1024 % 32, 160 + c / 32 % 32, 160 + c % 32] 4 (by simp)
 simp only [nums, List.map_cons, List.map_nil, List.length_cons, List.length_nil, Nat.zero_add, Nat.reduceAdd] at hc
 have a0 : bits .and .u32 c 31 = c % 32 := em_and31 (by omega) (by omega)
 have b0 : (c % 32) % 256 = c % 32 := by omega
 have o0 : bits .or .u8 160 (c % 32) = 160 + c % 32 := em_or160 (by omega) (by omega)
 have a1 : bits .and .u32 (c / 32) 31 = (c / 32) % 32 := em_and31 (by omega) (by omega)
 have b1 : ((c / 32) % 32) % 256 = (c / 32) % 32 := by omega
 have o1 : bits .or .u8 160 ((c / 32) % 32) = 160 + (c / 32) % 32 := em_or160 (by omega) (by omega)
 have s1 : (c / 32) / 32 = c / 1024 := by rw [Int.ediv_ediv_of_nonneg (by decide)]; rfl
 have a2 : bits .and .u32 (c / 1024) 31 = (c / 1024) % 32 := em_and31 (by omega) (by omega)
 have b2 : ((c / 1024) % 32) % 256 = (c / 1024) % 32 := by omega
 have o2 : bits .or .u8 160 ((c / 1024) % 32) = 160 + (c / 1024) % 32 := em_or160 (by omega) (by omega)
 have s2 : (c / 1024) / 32 = c / 32768 := by rw [Int.ediv_ediv_of_nonneg (by decide)]; rfl
 have mk := make8_4
 have ol : bits .or .u8 240 (c / 32768) = 240 + c / 32768 := em_or240 (by omega) (by omega)
 have om : (c / 32768) % 256 = c / 32768 := by omega
 have d0 : ¬ c < 160 := by omega
 have d1 : ¬ c < 1024 := by omega
 have d2 : ¬ c < 16384 := by omega
 have dl : c < 262144 := h1
 clear h1 hl
 go_enter Tryz.func119, Tryz.ntmps119
 go_upto_region 11 with fail
 go_wp2_with fail
 go_loopg [1, 8] 3 (fun kq s1 s8 wx => (kq = 3 ∧ s8 = .int .i64 3 ∧ s1 = .int .u32 c ∧ wx = w.alloc (.cells #[.int .u8 (0), .int .u8 (0), .int .u8 (0), .int .u8 (0)] 5 (0, 0))) ∨ (kq = 2 ∧ s8 = .int .i64 2 ∧ s1 = .int .u32 (c / 32) ∧ wx = w.alloc (.cells #[.int .u8 (0), .int .u8 (0), .int .u8 (0), .int .u8 (160 + c % 32)] 5 (0, 0))) ∨ (kq = 1 ∧ s8 = .int .i64 1 ∧ s1 = .int .u32 (c / 1024) ∧ wx = w.alloc (.cells #[.int .u8 (0), .int .u8 (0), .int .u8 (160 + c / 32 % 32), .int .u8 (160 + c % 32)] 5 (0, 0))) ∨ (kq = 0 ∧ s8 = .int .i64 0 ∧ s1 = .int .u32 (c / 32768) ∧ wx = w.alloc (.cells #[.int .u8 (0), .int .u8 (160 + c / 1024 % 32), .int .u8 (160 + c / 32 % 32), .int .u8 (160 + c % 32)] 5 (0, 0))))
 case atStart => exact .inl ⟨rfl, rfl, rfl, rfl⟩
 case round =>
  rcases hrel with ⟨hk, rfl, rfl, hww⟩ | ⟨hk, rfl, rfl, hww⟩ | ⟨hk, rfl, rfl, hww⟩ | ⟨hk, rfl, rfl, hww⟩
  ·subst hww
   go_wp2_with fail
   go_roundg 2
   case measure => omega
   case rel => exact (.inr (.inl ⟨rfl, rfl, rfl, rfl⟩))
  ·subst hww
   go_wp2_with fail
   go_roundg 1
   case measure => omega
   case rel => exact (.inr (.inr (.inl ⟨rfl, rfl, rfl, rfl⟩)))
  ·subst hww
   go_wp2_with fail
   go_roundg 0
   case measure => omega
   case rel => exact (.inr (.inr (.inr ⟨rfl, rfl, rfl, rfl⟩)))
  ·subst hww
   go_wp2_with fail
   go_ret
   exact ⟨rfl, below_new (Below.refl _ _) _⟩
set_option maxRecDepth 100000 in
set_option maxHeartbeats 4000000 in
theorem mbytes5_c {g : Nat} (c : Int) (h0 : 0 ≤ c) (hl : 262144 ≤ c) (h1 : c < 1114112) (w : World) :
  Calls Tryz.prog 119 #[.pointer (some ⟨g, 0, none⟩), .int .u32 c] w fun e w' => e = .returned (.string (strOf [248 + c / 1048576, 160 + c / 32768 % 32, 160 + c / 1024 % 32, 160 + c / 32 % 32, 160 + c % 32])) ∧ Below w.heap.size w w' := by
 have hc := conv8 w [248 + c / 1048576, 160 + c / 32768 % 32, 160 + c / 1024 % 32, 160 + c / 32 % 32, 160 + c % 32] 5 (by simp)
 simp only [nums, List.map_cons, List.map_nil, List.length_cons, List.length_nil, Nat.zero_add, Nat.reduceAdd] at hc
 have a0 : bits .and .u32 c 31 = c % 32 := em_and31 (by omega) (by omega)
 have b0 : (c % 32) % 256 = c % 32 := by omega
 have o0 : bits .or .u8 160 (c % 32) = 160 + c % 32 := em_or160 (by omega) (by omega)
 have a1 : bits .and .u32 (c / 32) 31 = (c / 32) % 32 := em_and31 (by omega) (by omega)
 have b1 : ((c / 32) % 32) % 256 = (c / 32) % 32 := by omega
 have o1 : bits .or .u8 160 ((c / 32) % 32) = 160 + (c / 32) % 32 := em_or160 (by omega) (by omega)
 have s1 : (c / 32) / 32 = c / 1024 := by rw [Int.ediv_ediv_of_nonneg (by decide)]; rfl
 have a2 : bits .and .u32 (c / 1024) 31 = (c / 1024) % 32 := em_and31 (by omega) (by omega)
 have b2 : ((c / 1024) % 32) % 256 = (c / 1024) % 32 := by omega
 have o2 : bits .or .u8 160 ((c / 1024) % 32) = 160 + (c / 1024) % 32 := em_or160 (by omega) (by omega)
 have s2 : (c / 1024) / 32 = c / 32768 := by rw [Int.ediv_ediv_of_nonneg (by decide)]; rfl
 have a3 : bits .and .u32 (c / 32768) 31 = (c / 32768) % 32 := em_and31 (by omega) (by omega)
 have b3 : ((c / 32768) % 32) % 256 = (c / 32768) % 32 := by omega
 have o3 : bits .or .u8 160 ((c / 32768) % 32) = 160 + (c / 32768) % 32 := em_or160 (by omega) (by omega)
 have s3 : (c / 32768) / 32 = c / 1048576 := by rw [Int.ediv_ediv_of_nonneg (by decide)]; rfl
 have mk := make8_5
 have ol : bits .or .u8 248 (c / 1048576) = 248 + c / 1048576 := em_or248 (by omega) (by omega)
 have om : (c / 1048576) % 256 = c / 1048576 := by omega
 have d0 : ¬ c < 160 := by omega
 have d1 : ¬ c < 1024 := by omega
 have d2 : ¬ c < 16384 := by omega
 have d3 : ¬ c < 262144 := by omega
 clear h1 hl
 go_enter Tryz.func119, Tryz.ntmps119
 go_upto_region 11 with fail
 go_wp2_with fail
 go_loopg [1, 8] 4 (fun kq s1 s8 wx => (kq = 4 ∧ s8 = .int .i64 4 ∧ s1 = .int .u32 c ∧ wx = w.alloc (.cells #[.int .u8 (0), .int .u8 (0), .int .u8 (0), .int .u8 (0), .int .u8 (0)] 5 (0, 0))) ∨ (kq = 3 ∧ s8 = .int .i64 3 ∧ s1 = .int .u32 (c / 32) ∧ wx = w.alloc (.cells #[.int .u8 (0), .int .u8 (0), .int .u8 (0), .int .u8 (0), .int .u8 (160 + c % 32)] 5 (0, 0))) ∨ (kq = 2 ∧ s8 = .int .i64 2 ∧ s1 = .int .u32 (c / 1024) ∧ wx = w.alloc (.cells #[.int .u8 (0), .int .u8 (0), .int .u8 (0), .int .u8 (160 + c / 32 % 32), .int .u8 (160 + c % 32)] 5 (0, 0))) ∨ (kq = 1 ∧ s8 = .int .i64 1 ∧ s1 = .int .u32 (c / 32768) ∧ wx = w.alloc (.cells #[.int .u8 (0), .int .u8 (0), .int .u8 (160 + c / 1024 % 32), .int .u8 (160 + c / 32 % 32), .int .u8 (160 + c % 32)] 5 (0, 0))) ∨ (kq = 0 ∧ s8 = .int .i64 0 ∧ s1 = .int .u32 (c / 1048576) ∧ wx = w.alloc (.cells #[.int .u8 (0), .int .u8 (160 + c / 32768 % 32), .int .u8 (160 + c / 1024 % 32), .int .u8 (160 + c / 32 % 32), .int .u8 (160 + c % 32)] 5 (0, 0))))
 case atStart => exact .inl ⟨rfl, rfl, rfl, rfl⟩
 case round =>
  rcases hrel with ⟨hk, rfl, rfl, hww⟩ | ⟨hk, rfl, rfl, hww⟩ | ⟨hk, rfl, rfl, hww⟩ | ⟨hk, rfl, rfl, hww⟩ | ⟨hk, rfl, rfl, hww⟩
  ·subst hww
   go_wp2_with fail
   go_roundg 3
   case measure => omega
   case rel => exact (.inr (.inl ⟨rfl, rfl, rfl, rfl⟩))
  ·subst hww
   go_wp2_with fail
   go_roundg 2
   case measure => omega
   case rel => exact (.inr (.inr (.inl ⟨rfl, rfl, rfl, rfl⟩)))
  ·subst hww
   go_wp2_with fail
   go_roundg 1
   case measure => omega
   case rel => exact (.inr (.inr (.inr (.inl ⟨rfl, rfl, rfl, rfl⟩))))
  ·subst hww
   go_wp2_with fail
   go_roundg 0
   case measure => omega
   case rel => exact (.inr (.inr (.inr (.inr ⟨rfl, rfl, rfl, rfl⟩))))
  ·subst hww
   go_wp2_with fail
   go_ret
   exact ⟨rfl, below_new (Below.refl _ _) _⟩
theorem mbytes_c {g : Nat} (c : Int) (h0 : 0 ≤ c) (h1 : isScal c = true) (w : World) :
  Calls Tryz.prog 119 #[.pointer (some ⟨g, 0, none⟩), .int .u32 c] w fun e w' => e = .returned (.string (strOf (bytesM c))) ∧ Below w.heap.size w w' := by
 have hc1 : c ≤ 1114111 := by unfold isScal at h1; simp at h1; omega
 unfold bytesM
 by_cases a0 : c < 160
 ·rw [if_pos a0]; exact mbytes1_c c h0 a0 w
 rw [if_neg a0]
 by_cases a1 : c < 1024
 ·rw [if_pos a1]; exact mbytes2_c c h0 (by omega) a1 w
 rw [if_neg a1]
 by_cases a2 : c < 16384
 ·rw [if_pos a2]; exact mbytes3_c c h0 (by omega) a2 w
 rw [if_neg a2]
 by_cases a3 : c < 262144
 ·rw [if_pos a3]; exact mbytes4_c c h0 (by omega) a3 w
 rw [if_neg a3]
 exact mbytes5_c c h0 (by omega) (by omega) w
theorem bytesM_c {tb : Nat} {w : World} {g : Nat} {d : ESt MEn} (hb : Blk w g TEb (CsM tb d)) (c : Int) (h0 : 0 ≤ c) (h1 : isScal c = true) :
  Calls Tryz.prog 119 #[.pointer (some ⟨g, 0, none⟩), .int .u32 c] w fun e w' => e = .returned (.string (strOf (MEn.put d.st c).2)) ∧ Blk w' g TEb (CsM tb { d with st := (MEn.put d.st c).1 }) ∧ Eff w w' (fun k => k = g) := by
 refine (mbytes_c c h0 h1 w).mono ?_
 rintro e w' ⟨rfl, hbw⟩
 exact ⟨rfl, hb.below hbw, Eff.of_below hbw _⟩
end Go.Proofs.YtppchdinolndmaaGreat
