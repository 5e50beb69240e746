/-
  No cell of these rows narrows 'for every input' (looked for: loops, veiled, ifaces, maps, wideKeys, modest, calm, conditions, laid).
  DERIVED. THE GIVEN ROWS OF THIS SEAT. 7 by the template 'for every input the law returns true; each argument reads behind the call as it read before'; 0 by the template 'total and deterministic' (their statements: YtegacgfhmigdjaaTotals.lean).
  GIVEN WITH THE SEED: the statements are not yours to turn. If you find one false, say at which input.
  Laid BY PROGRAM, IN A SANDBOX (cutbox-rows.mjs): the forced cells as the released guide's own fill.sh prints them over the translation f28b3a6697fc0953… (all of the seat's roots in one cut). By AI agents, Wed Nov 11 2026. No macro, syntax, notation, axiom, sorry.
-/
import Derived.Test.YtegacgfhmigdjaaChecked
import GoSem.Claim
import GoSem.ClaimJoined
import GoSem.ClaimMapViews
import Derived.JoinedTies
import Derived.KernelRfl
namespace Go.Proofs.Ytegacgfhmigdjaa
/- THE CELL 'sum', in the pinned program and in every row, IS THE sha256 OF THE DUMP (.gsa) THAT YtegacgfhmigdjaaProg.lean LOADS. Nothing in Lean hashes anything: it is a label: what it is worth is what the hold of that sum in a sandbox is worth. -/
noncomputable def Try.pinned : Pinned := { name := "ytegacgfhmigdjaa", sum := "f28b3a6697fc095303c51c01de785e2e062f319988387cca24048b8985fd6f89", checked := Try.checked }
namespace Rows
def none {H : Type} : Left H := { results := [], args := [] }

/-- 'pilcrowlaw10.PunyLetters': WHATEVER THE INPUT: true; the input reads as it did. -/
def punyLettersSpec : ChangeSpec := { name := "punyLetters", fn := fun _ => fun
  | [d] => { results := [.lit (.bool true)], args := [d] }
  | _ => none }
def punyLettersRow : OpenClaim := { program := "ytegacgfhmigdjaa", sum := "f28b3a6697fc095303c51c01de785e2e062f319988387cca24048b8985fd6f89", func := "pilcrow/pilcrowlaw10.PunyLetters", spec := "punyLetters", inPlace := ["slices.overlaps[uint32]", "internal/abi.NoEscape"], recurses := true, apart := false }
def PunyLettersSaid : Prop := punyLettersRow.holds Try.pinned (OpenSpec.ofChange punyLettersSpec)

/-- ITS FALSE NEIGHBOUR: 'it returns false'. Refute it at one input. -/
def punyLettersWrong : ChangeSpec := { name := "punyLetters", fn := fun _ => fun
  | [d] => { results := [.lit (.bool false)], args := [d] }
  | _ => none }
def PunyLettersWrongFalsely : Prop := punyLettersRow.holds Try.pinned (OpenSpec.ofChange punyLettersWrong)

/-- 'pilcrowlaw10.PunyReads': WHATEVER THE INPUT: true; the input reads as it did. -/
def punyReadsSpec : ChangeSpec := { name := "punyReads", fn := fun _ => fun
  | [d1, d2, d3] => { results := [.lit (.bool true)], args := [d1, d2, d3] }
  | _ => none }
def punyReadsRow : OpenClaim := { program := "ytegacgfhmigdjaa", sum := "f28b3a6697fc095303c51c01de785e2e062f319988387cca24048b8985fd6f89", func := "pilcrow/pilcrowlaw10.PunyReads", spec := "punyReads", inPlace := ["slices.overlaps[uint32]", "internal/abi.NoEscape"], recurses := true, apart := false }
def PunyReadsSaid : Prop := punyReadsRow.holds Try.pinned (OpenSpec.ofChange punyReadsSpec)

/-- ITS FALSE NEIGHBOUR: 'it returns false'. Refute it at one input. -/
def punyReadsWrong : ChangeSpec := { name := "punyReads", fn := fun _ => fun
  | [d1, d2, d3] => { results := [.lit (.bool false)], args := [d1, d2, d3] }
  | _ => none }
def PunyReadsWrongFalsely : Prop := punyReadsRow.holds Try.pinned (OpenSpec.ofChange punyReadsWrong)

/-- 'pilcrowlaw10.PunyExtends': WHATEVER THE INPUT: true; the input reads as it did. -/
def punyExtendsSpec : ChangeSpec := { name := "punyExtends", fn := fun _ => fun
  | [d1, d2] => { results := [.lit (.bool true)], args := [d1, d2] }
  | _ => none }
def punyExtendsRow : OpenClaim := { program := "ytegacgfhmigdjaa", sum := "f28b3a6697fc095303c51c01de785e2e062f319988387cca24048b8985fd6f89", func := "pilcrow/pilcrowlaw10.PunyExtends", spec := "punyExtends", inPlace := ["slices.overlaps[uint32]", "internal/abi.NoEscape"], recurses := true, apart := false }
def PunyExtendsSaid : Prop := punyExtendsRow.holds Try.pinned (OpenSpec.ofChange punyExtendsSpec)

/-- ITS FALSE NEIGHBOUR: 'it returns false'. Refute it at one input. -/
def punyExtendsWrong : ChangeSpec := { name := "punyExtends", fn := fun _ => fun
  | [d1, d2] => { results := [.lit (.bool false)], args := [d1, d2] }
  | _ => none }
def PunyExtendsWrongFalsely : Prop := punyExtendsRow.holds Try.pinned (OpenSpec.ofChange punyExtendsWrong)

/-- 'pilcrowlaw10.PunyOne': WHATEVER THE INPUT: true; the input reads as it did. -/
def punyOneSpec : ChangeSpec := { name := "punyOne", fn := fun _ => fun
  | [d] => { results := [.lit (.bool true)], args := [d] }
  | _ => none }
def punyOneRow : OpenClaim := { program := "ytegacgfhmigdjaa", sum := "f28b3a6697fc095303c51c01de785e2e062f319988387cca24048b8985fd6f89", func := "pilcrow/pilcrowlaw10.PunyOne", spec := "punyOne", inPlace := ["slices.overlaps[uint32]", "internal/abi.NoEscape"], recurses := true, apart := false }
def PunyOneSaid : Prop := punyOneRow.holds Try.pinned (OpenSpec.ofChange punyOneSpec)

/-- ITS FALSE NEIGHBOUR: 'it returns false'. Refute it at one input. -/
def punyOneWrong : ChangeSpec := { name := "punyOne", fn := fun _ => fun
  | [d] => { results := [.lit (.bool false)], args := [d] }
  | _ => none }
def PunyOneWrongFalsely : Prop := punyOneRow.holds Try.pinned (OpenSpec.ofChange punyOneWrong)

/-- 'pilcrowlaw10.PunyShort': WHATEVER THE INPUT: true; the input reads as it did. -/
def punyShortSpec : ChangeSpec := { name := "punyShort", fn := fun _ => fun
  | [d] => { results := [.lit (.bool true)], args := [d] }
  | _ => none }
def punyShortRow : OpenClaim := { program := "ytegacgfhmigdjaa", sum := "f28b3a6697fc095303c51c01de785e2e062f319988387cca24048b8985fd6f89", func := "pilcrow/pilcrowlaw10.PunyShort", spec := "punyShort", inPlace := ["slices.overlaps[uint32]", "internal/abi.NoEscape"], recurses := true, apart := false }
def PunyShortSaid : Prop := punyShortRow.holds Try.pinned (OpenSpec.ofChange punyShortSpec)

/-- ITS FALSE NEIGHBOUR: 'it returns false'. Refute it at one input. -/
def punyShortWrong : ChangeSpec := { name := "punyShort", fn := fun _ => fun
  | [d] => { results := [.lit (.bool false)], args := [d] }
  | _ => none }
def PunyShortWrongFalsely : Prop := punyShortRow.holds Try.pinned (OpenSpec.ofChange punyShortWrong)

/-- 'pilcrowlaw10.PunyWrites': WHATEVER THE INPUT: true; the input reads as it did. -/
def punyWritesSpec : ChangeSpec := { name := "punyWrites", fn := fun _ => fun
  | [d1, d2, d3] => { results := [.lit (.bool true)], args := [d1, d2, d3] }
  | _ => none }
def punyWritesRow : OpenClaim := { program := "ytegacgfhmigdjaa", sum := "f28b3a6697fc095303c51c01de785e2e062f319988387cca24048b8985fd6f89", func := "pilcrow/pilcrowlaw10.PunyWrites", spec := "punyWrites", inPlace := ["slices.overlaps[uint32]", "internal/abi.NoEscape"], recurses := true, apart := false }
def PunyWritesSaid : Prop := punyWritesRow.holds Try.pinned (OpenSpec.ofChange punyWritesSpec)

/-- ITS FALSE NEIGHBOUR: 'it returns false'. Refute it at one input. -/
def punyWritesWrong : ChangeSpec := { name := "punyWrites", fn := fun _ => fun
  | [d1, d2, d3] => { results := [.lit (.bool false)], args := [d1, d2, d3] }
  | _ => none }
def PunyWritesWrongFalsely : Prop := punyWritesRow.holds Try.pinned (OpenSpec.ofChange punyWritesWrong)

/-- 'pilcrowlaw10.PunyBack': WHATEVER THE INPUT: true; the input reads as it did. -/
def punyBackSpec : ChangeSpec := { name := "punyBack", fn := fun _ => fun
  | [d1, d2, d3] => { results := [.lit (.bool true)], args := [d1, d2, d3] }
  | _ => none }
def punyBackRow : OpenClaim := { program := "ytegacgfhmigdjaa", sum := "f28b3a6697fc095303c51c01de785e2e062f319988387cca24048b8985fd6f89", func := "pilcrow/pilcrowlaw10.PunyBack", spec := "punyBack", inPlace := ["slices.overlaps[uint32]", "internal/abi.NoEscape"], recurses := true, apart := false }
def PunyBackSaid : Prop := punyBackRow.holds Try.pinned (OpenSpec.ofChange punyBackSpec)

/-- ITS FALSE NEIGHBOUR: 'it returns false'. Refute it at one input. -/
def punyBackWrong : ChangeSpec := { name := "punyBack", fn := fun _ => fun
  | [d1, d2, d3] => { results := [.lit (.bool false)], args := [d1, d2, d3] }
  | _ => none }
def PunyBackWrongFalsely : Prop := punyBackRow.holds Try.pinned (OpenSpec.ofChange punyBackWrong)

/- THE SECOND FORM. 'bulk': how many values and letters a reading holds, each counted each time it is reached (what is shared counts as often as it is met; a slice's spare places count too). A statement '..UptoSaid' is the law's where the arguments, and the package variables that the reading takes, are together of bulk at most 1048576: NARROWER than '..Said'. Prove '..Said' where nothing that the law and all that it calls make is longer than what came in: it says more and counts as full. Else prove '..UptoSaid'. A law counts once. -/
mutual
def uptoBulk {H : Type} : DataW H → Nat
  | .lit (.string bytes) => bytes.length + 1
  | .lit _ => 1
  | .nil => 1
  | .ptr d => uptoBulk d + 1
  | .slice elems spare => uptoBulkAll elems + uptoBulkAll spare + 1
  | .agg parts => uptoBulkAll parts + 1
  | .iface _ d => uptoBulk d + 1
  | .map entries => uptoBulkEntries entries + 1
  | .held _ => 1
def uptoBulkAll {H : Type} : List (DataW H) → Nat
  | [] => 0
  | d :: r => uptoBulk d + uptoBulkAll r
def uptoBulkEntries {H : Type} : List (Lit × DataW H) → Nat
  | [] => 0
  | x :: r => uptoBulkEntry x + uptoBulkEntries r
def uptoBulkEntry {H : Type} : Lit × DataW H → Nat
  | (.string bytes, d) => bytes.length + uptoBulk d + 1
  | (_, d) => uptoBulk d + 1
 end
def uptoSmall : (H : Type) → List (DataW H) → Bool := fun _ ds => decide (uptoBulkAll ds ≤ 1048576)
def OpenSpec.upto (s : _root_.Go.ChangeSpec) : _root_.Go.OpenSpec := { _root_.Go.OpenSpec.ofChange s with cond := some uptoSmall }

/-- 'pilcrowlaw10.PunyLetters', WHERE WHAT IT READS IS OF BULK AT MOST 1048576: true; the input reads as it did. -/
def punyLettersUptoRow : OpenClaim := { program := "ytegacgfhmigdjaa", sum := "f28b3a6697fc095303c51c01de785e2e062f319988387cca24048b8985fd6f89", func := "pilcrow/pilcrowlaw10.PunyLetters", spec := "punyLetters", inPlace := ["slices.overlaps[uint32]", "internal/abi.NoEscape"], recurses := true, apart := false, narrowed := true }
def PunyLettersUptoSaid : Prop := punyLettersUptoRow.holds Try.pinned (OpenSpec.upto punyLettersSpec)

/-- 'pilcrowlaw10.PunyReads', WHERE WHAT IT READS IS OF BULK AT MOST 1048576: true; the input reads as it did. -/
def punyReadsUptoRow : OpenClaim := { program := "ytegacgfhmigdjaa", sum := "f28b3a6697fc095303c51c01de785e2e062f319988387cca24048b8985fd6f89", func := "pilcrow/pilcrowlaw10.PunyReads", spec := "punyReads", inPlace := ["slices.overlaps[uint32]", "internal/abi.NoEscape"], recurses := true, apart := false, narrowed := true }
def PunyReadsUptoSaid : Prop := punyReadsUptoRow.holds Try.pinned (OpenSpec.upto punyReadsSpec)

/-- 'pilcrowlaw10.PunyExtends', WHERE WHAT IT READS IS OF BULK AT MOST 1048576: true; the input reads as it did. -/
def punyExtendsUptoRow : OpenClaim := { program := "ytegacgfhmigdjaa", sum := "f28b3a6697fc095303c51c01de785e2e062f319988387cca24048b8985fd6f89", func := "pilcrow/pilcrowlaw10.PunyExtends", spec := "punyExtends", inPlace := ["slices.overlaps[uint32]", "internal/abi.NoEscape"], recurses := true, apart := false, narrowed := true }
def PunyExtendsUptoSaid : Prop := punyExtendsUptoRow.holds Try.pinned (OpenSpec.upto punyExtendsSpec)

/-- 'pilcrowlaw10.PunyOne', WHERE WHAT IT READS IS OF BULK AT MOST 1048576: true; the input reads as it did. -/
def punyOneUptoRow : OpenClaim := { program := "ytegacgfhmigdjaa", sum := "f28b3a6697fc095303c51c01de785e2e062f319988387cca24048b8985fd6f89", func := "pilcrow/pilcrowlaw10.PunyOne", spec := "punyOne", inPlace := ["slices.overlaps[uint32]", "internal/abi.NoEscape"], recurses := true, apart := false, narrowed := true }
def PunyOneUptoSaid : Prop := punyOneUptoRow.holds Try.pinned (OpenSpec.upto punyOneSpec)

/-- 'pilcrowlaw10.PunyShort', WHERE WHAT IT READS IS OF BULK AT MOST 1048576: true; the input reads as it did. -/
def punyShortUptoRow : OpenClaim := { program := "ytegacgfhmigdjaa", sum := "f28b3a6697fc095303c51c01de785e2e062f319988387cca24048b8985fd6f89", func := "pilcrow/pilcrowlaw10.PunyShort", spec := "punyShort", inPlace := ["slices.overlaps[uint32]", "internal/abi.NoEscape"], recurses := true, apart := false, narrowed := true }
def PunyShortUptoSaid : Prop := punyShortUptoRow.holds Try.pinned (OpenSpec.upto punyShortSpec)

/-- 'pilcrowlaw10.PunyWrites', WHERE WHAT IT READS IS OF BULK AT MOST 1048576: true; the input reads as it did. -/
def punyWritesUptoRow : OpenClaim := { program := "ytegacgfhmigdjaa", sum := "f28b3a6697fc095303c51c01de785e2e062f319988387cca24048b8985fd6f89", func := "pilcrow/pilcrowlaw10.PunyWrites", spec := "punyWrites", inPlace := ["slices.overlaps[uint32]", "internal/abi.NoEscape"], recurses := true, apart := false, narrowed := true }
def PunyWritesUptoSaid : Prop := punyWritesUptoRow.holds Try.pinned (OpenSpec.upto punyWritesSpec)

/-- 'pilcrowlaw10.PunyBack', WHERE WHAT IT READS IS OF BULK AT MOST 1048576: true; the input reads as it did. -/
def punyBackUptoRow : OpenClaim := { program := "ytegacgfhmigdjaa", sum := "f28b3a6697fc095303c51c01de785e2e062f319988387cca24048b8985fd6f89", func := "pilcrow/pilcrowlaw10.PunyBack", spec := "punyBack", inPlace := ["slices.overlaps[uint32]", "internal/abi.NoEscape"], recurses := true, apart := false, narrowed := true }
def PunyBackUptoSaid : Prop := punyBackUptoRow.holds Try.pinned (OpenSpec.upto punyBackSpec)

end Rows
end Go.Proofs.Ytegacgfhmigdjaa
