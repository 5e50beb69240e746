/-
  No cell of these rows narrows 'for every input' (looked for: loops, veiled, ifaces, maps, wideKeys, modest, calm, conditions, laid).
  DERIVED. THE GIVEN ROWS OF THIS SEAT. 8 by the template 'for every input the law returns true; each argument reads behind the call as it read before'; 0 by the template 'total and deterministic' (their statements: YtmgnndnofbemeaaGreatTotals.lean).
  GIVEN WITH THE SEED: the statements are not yours to turn. If you find one false, say at which input.
  Laid BY PROGRAM, IN A SANDBOX (cutbox-rows.mjs): the forced cells as the released guide's own fill.sh prints them over the translation 913cf4d84d32faf6… (all of the seat's roots in one cut). By AI agents, Wed Nov 11 2026. No macro, syntax, notation, axiom, sorry.
-/
import Derived.Test.YtmgnndnofbemeaaGreatChecked
import GoSem.Claim
import GoSem.ClaimJoined
import GoSem.ClaimMapViews
import Derived.JoinedTies
import Derived.KernelRfl
namespace Go.Proofs.YtmgnndnofbemeaaGreat
/- THE CELL 'sum', in the pinned program and in every row, IS THE sha256 OF THE DUMP (.gsa) THAT YtmgnndnofbemeaaGreatProg.lean LOADS. Nothing in Lean hashes anything: it is a label: what it is worth is what the hold of that sum in a sandbox is worth. -/
noncomputable def Tryz.pinned : Pinned := { name := "ytmgnndnofbemeaagreat", sum := "913cf4d84d32faf60b36870e07c62e461129ceff8940e1ae9d35f2ea8594dc86", checked := Tryz.checked }
namespace Rows
def none {H : Type} : Left H := { results := [], args := [] }

/-- 'pilcrowlaw18.CodecBack': WHATEVER THE INPUT: true; the input reads as it did. -/
def codecBackSpec : ChangeSpec := { name := "codecBack", fn := fun _ => fun
  | [d1, d2] => { results := [.lit (.bool true)], args := [d1, d2] }
  | _ => none }
def codecBackRow : OpenClaim := { program := "ytmgnndnofbemeaagreat", sum := "913cf4d84d32faf60b36870e07c62e461129ceff8940e1ae9d35f2ea8594dc86", func := "pilcrow/pilcrowlaw18.CodecBack", spec := "codecBack", inPlace := ["internal/abi.NoEscape"], unfollowed := true, recurses := true, apart := false }
def CodecBackSaid : Prop := codecBackRow.holds Tryz.pinned (OpenSpec.ofChange codecBackSpec)

/-- ITS FALSE NEIGHBOUR: 'it returns false'. Refute it at one input. -/
def codecBackWrong : ChangeSpec := { name := "codecBack", fn := fun _ => fun
  | [d1, d2] => { results := [.lit (.bool false)], args := [d1, d2] }
  | _ => none }
def CodecBackWrongFalsely : Prop := codecBackRow.holds Tryz.pinned (OpenSpec.ofChange codecBackWrong)

/-- 'pilcrowlaw18.CodecMachines': WHATEVER THE INPUT: true; the input reads as it did. -/
def codecMachinesSpec : ChangeSpec := { name := "codecMachines", fn := fun _ => fun
  | [d1, d2, d3] => { results := [.lit (.bool true)], args := [d1, d2, d3] }
  | _ => none }
def codecMachinesRow : OpenClaim := { program := "ytmgnndnofbemeaagreat", sum := "913cf4d84d32faf60b36870e07c62e461129ceff8940e1ae9d35f2ea8594dc86", func := "pilcrow/pilcrowlaw18.CodecMachines", spec := "codecMachines", inPlace := ["internal/abi.NoEscape"], unfollowed := true, recurses := true, apart := false }
def CodecMachinesSaid : Prop := codecMachinesRow.holds Tryz.pinned (OpenSpec.ofChange codecMachinesSpec)

/-- ITS FALSE NEIGHBOUR: 'it returns false'. Refute it at one input. -/
def codecMachinesWrong : ChangeSpec := { name := "codecMachines", fn := fun _ => fun
  | [d1, d2, d3] => { results := [.lit (.bool false)], args := [d1, d2, d3] }
  | _ => none }
def CodecMachinesWrongFalsely : Prop := codecMachinesRow.holds Tryz.pinned (OpenSpec.ofChange codecMachinesWrong)

/-- 'pilcrowlaw18.CodecFirst': WHATEVER THE INPUT: true; the input reads as it did. -/
def codecFirstSpec : ChangeSpec := { name := "codecFirst", fn := fun _ => fun
  | [d1, d2] => { results := [.lit (.bool true)], args := [d1, d2] }
  | _ => none }
def codecFirstRow : OpenClaim := { program := "ytmgnndnofbemeaagreat", sum := "913cf4d84d32faf60b36870e07c62e461129ceff8940e1ae9d35f2ea8594dc86", func := "pilcrow/pilcrowlaw18.CodecFirst", spec := "codecFirst", inPlace := ["internal/abi.NoEscape"], unfollowed := true, recurses := true, apart := false }
def CodecFirstSaid : Prop := codecFirstRow.holds Tryz.pinned (OpenSpec.ofChange codecFirstSpec)

/-- ITS FALSE NEIGHBOUR: 'it returns false'. Refute it at one input. -/
def codecFirstWrong : ChangeSpec := { name := "codecFirst", fn := fun _ => fun
  | [d1, d2] => { results := [.lit (.bool false)], args := [d1, d2] }
  | _ => none }
def CodecFirstWrongFalsely : Prop := codecFirstRow.holds Tryz.pinned (OpenSpec.ofChange codecFirstWrong)

/-- 'pilcrowlaw19.PumpSteps': WHATEVER THE INPUT: true; the input reads as it did. -/
def pumpStepsSpec : ChangeSpec := { name := "pumpSteps", fn := fun _ => fun
  | [d1, d2, d3] => { results := [.lit (.bool true)], args := [d1, d2, d3] }
  | _ => none }
def pumpStepsRow : OpenClaim := { program := "ytmgnndnofbemeaagreat", sum := "913cf4d84d32faf60b36870e07c62e461129ceff8940e1ae9d35f2ea8594dc86", func := "pilcrow/pilcrowlaw19.PumpSteps", spec := "pumpSteps", inPlace := ["internal/abi.NoEscape"], unfollowed := true, recurses := true, apart := false }
def PumpStepsSaid : Prop := pumpStepsRow.holds Tryz.pinned (OpenSpec.ofChange pumpStepsSpec)

/-- ITS FALSE NEIGHBOUR: 'it returns false'. Refute it at one input. -/
def pumpStepsWrong : ChangeSpec := { name := "pumpSteps", fn := fun _ => fun
  | [d1, d2, d3] => { results := [.lit (.bool false)], args := [d1, d2, d3] }
  | _ => none }
def PumpStepsWrongFalsely : Prop := pumpStepsRow.holds Tryz.pinned (OpenSpec.ofChange pumpStepsWrong)

/-- 'pilcrowlaw19.PumpBack': WHATEVER THE INPUT: true; the input reads as it did. -/
def pumpBackSpec : ChangeSpec := { name := "pumpBack", fn := fun _ => fun
  | [d1, d2, d3] => { results := [.lit (.bool true)], args := [d1, d2, d3] }
  | _ => none }
def pumpBackRow : OpenClaim := { program := "ytmgnndnofbemeaagreat", sum := "913cf4d84d32faf60b36870e07c62e461129ceff8940e1ae9d35f2ea8594dc86", func := "pilcrow/pilcrowlaw19.PumpBack", spec := "pumpBack", inPlace := ["internal/abi.NoEscape"], unfollowed := true, recurses := true, apart := false }
def PumpBackSaid : Prop := pumpBackRow.holds Tryz.pinned (OpenSpec.ofChange pumpBackSpec)

/-- ITS FALSE NEIGHBOUR: 'it returns false'. Refute it at one input. -/
def pumpBackWrong : ChangeSpec := { name := "pumpBack", fn := fun _ => fun
  | [d1, d2, d3] => { results := [.lit (.bool false)], args := [d1, d2, d3] }
  | _ => none }
def PumpBackWrongFalsely : Prop := pumpBackRow.holds Tryz.pinned (OpenSpec.ofChange pumpBackWrong)

/-- 'pilcrowlaw19.PumpAlike': WHATEVER THE INPUT: true; the input reads as it did. -/
def pumpAlikeSpec : ChangeSpec := { name := "pumpAlike", fn := fun _ => fun
  | [d1, d2, d3] => { results := [.lit (.bool true)], args := [d1, d2, d3] }
  | _ => none }
def pumpAlikeRow : OpenClaim := { program := "ytmgnndnofbemeaagreat", sum := "913cf4d84d32faf60b36870e07c62e461129ceff8940e1ae9d35f2ea8594dc86", func := "pilcrow/pilcrowlaw19.PumpAlike", spec := "pumpAlike", inPlace := ["internal/abi.NoEscape"], unfollowed := true, recurses := true, apart := false }
def PumpAlikeSaid : Prop := pumpAlikeRow.holds Tryz.pinned (OpenSpec.ofChange pumpAlikeSpec)

/-- ITS FALSE NEIGHBOUR: 'it returns false'. Refute it at one input. -/
def pumpAlikeWrong : ChangeSpec := { name := "pumpAlike", fn := fun _ => fun
  | [d1, d2, d3] => { results := [.lit (.bool false)], args := [d1, d2, d3] }
  | _ => none }
def PumpAlikeWrongFalsely : Prop := pumpAlikeRow.holds Tryz.pinned (OpenSpec.ofChange pumpAlikeWrong)

/-- 'pilcrowlaw25.TransChains': WHATEVER THE INPUT: true; the input reads as it did. -/
def transChainsSpec : ChangeSpec := { name := "transChains", fn := fun _ => fun
  | [d1, d2] => { results := [.lit (.bool true)], args := [d1, d2] }
  | _ => none }
def transChainsRow : OpenClaim := { program := "ytmgnndnofbemeaagreat", sum := "913cf4d84d32faf60b36870e07c62e461129ceff8940e1ae9d35f2ea8594dc86", func := "pilcrow/pilcrowlaw25.TransChains", spec := "transChains", inPlace := ["internal/abi.NoEscape"], unfollowed := true, recurses := true, apart := false }
def TransChainsSaid : Prop := transChainsRow.holds Tryz.pinned (OpenSpec.ofChange transChainsSpec)

/-- ITS FALSE NEIGHBOUR: 'it returns false'. Refute it at one input. -/
def transChainsWrong : ChangeSpec := { name := "transChains", fn := fun _ => fun
  | [d1, d2] => { results := [.lit (.bool false)], args := [d1, d2] }
  | _ => none }
def TransChainsWrongFalsely : Prop := transChainsRow.holds Tryz.pinned (OpenSpec.ofChange transChainsWrong)

/-- 'pilcrowlaw20.BlockBack': WHATEVER THE INPUT: true; the input reads as it did. -/
def blockBackSpec : ChangeSpec := { name := "blockBack", fn := fun _ => fun
  | [d1, d2, d3] => { results := [.lit (.bool true)], args := [d1, d2, d3] }
  | _ => none }
def blockBackRow : OpenClaim := { program := "ytmgnndnofbemeaagreat", sum := "913cf4d84d32faf60b36870e07c62e461129ceff8940e1ae9d35f2ea8594dc86", func := "pilcrow/pilcrowlaw20.BlockBack", spec := "blockBack", inPlace := ["internal/abi.NoEscape"], unfollowed := true, recurses := true, apart := false }
def BlockBackSaid : Prop := blockBackRow.holds Tryz.pinned (OpenSpec.ofChange blockBackSpec)

/-- ITS FALSE NEIGHBOUR: 'it returns false'. Refute it at one input. -/
def blockBackWrong : ChangeSpec := { name := "blockBack", fn := fun _ => fun
  | [d1, d2, d3] => { results := [.lit (.bool false)], args := [d1, d2, d3] }
  | _ => none }
def BlockBackWrongFalsely : Prop := blockBackRow.holds Tryz.pinned (OpenSpec.ofChange blockBackWrong)

/- THE SECOND FORM. 'bulk': how many values and letters a reading holds, each counted each time it is reached (what is shared counts as often as it is met; a slice's spare places count too). A statement '..UptoSaid' is the law's where the arguments, and the package variables that the reading takes, are together of bulk at most 1048576: NARROWER than '..Said'. Prove '..Said' where nothing that the law and all that it calls make is longer than what came in: it says more and counts as full. Else prove '..UptoSaid'. A law counts once. -/
mutual
def uptoBulk {H : Type} : DataW H → Nat
  | .lit (.string bytes) => bytes.length + 1
  | .lit _ => 1
  | .nil => 1
  | .ptr d => uptoBulk d + 1
  | .slice elems spare => uptoBulkAll elems + uptoBulkAll spare + 1
  | .agg parts => uptoBulkAll parts + 1
  | .iface _ d => uptoBulk d + 1
  | .map entries => uptoBulkEntries entries + 1
  | .held _ => 1
def uptoBulkAll {H : Type} : List (DataW H) → Nat
  | [] => 0
  | d :: r => uptoBulk d + uptoBulkAll r
def uptoBulkEntries {H : Type} : List (Lit × DataW H) → Nat
  | [] => 0
  | x :: r => uptoBulkEntry x + uptoBulkEntries r
def uptoBulkEntry {H : Type} : Lit × DataW H → Nat
  | (.string bytes, d) => bytes.length + uptoBulk d + 1
  | (_, d) => uptoBulk d + 1
 end
def uptoSmall : (H : Type) → List (DataW H) → Bool := fun _ ds => decide (uptoBulkAll ds ≤ 1048576)
def OpenSpec.upto (s : _root_.Go.ChangeSpec) : _root_.Go.OpenSpec := { _root_.Go.OpenSpec.ofChange s with cond := some uptoSmall }

/-- 'pilcrowlaw18.CodecBack', WHERE WHAT IT READS IS OF BULK AT MOST 1048576: true; the input reads as it did. -/
def codecBackUptoRow : OpenClaim := { program := "ytmgnndnofbemeaagreat", sum := "913cf4d84d32faf60b36870e07c62e461129ceff8940e1ae9d35f2ea8594dc86", func := "pilcrow/pilcrowlaw18.CodecBack", spec := "codecBack", inPlace := ["internal/abi.NoEscape"], unfollowed := true, recurses := true, apart := false, narrowed := true }
def CodecBackUptoSaid : Prop := codecBackUptoRow.holds Tryz.pinned (OpenSpec.upto codecBackSpec)

/-- 'pilcrowlaw18.CodecMachines', WHERE WHAT IT READS IS OF BULK AT MOST 1048576: true; the input reads as it did. -/
def codecMachinesUptoRow : OpenClaim := { program := "ytmgnndnofbemeaagreat", sum := "913cf4d84d32faf60b36870e07c62e461129ceff8940e1ae9d35f2ea8594dc86", func := "pilcrow/pilcrowlaw18.CodecMachines", spec := "codecMachines", inPlace := ["internal/abi.NoEscape"], unfollowed := true, recurses := true, apart := false, narrowed := true }
def CodecMachinesUptoSaid : Prop := codecMachinesUptoRow.holds Tryz.pinned (OpenSpec.upto codecMachinesSpec)

/-- 'pilcrowlaw18.CodecFirst', WHERE WHAT IT READS IS OF BULK AT MOST 1048576: true; the input reads as it did. -/
def codecFirstUptoRow : OpenClaim := { program := "ytmgnndnofbemeaagreat", sum := "913cf4d84d32faf60b36870e07c62e461129ceff8940e1ae9d35f2ea8594dc86", func := "pilcrow/pilcrowlaw18.CodecFirst", spec := "codecFirst", inPlace := ["internal/abi.NoEscape"], unfollowed := true, recurses := true, apart := false, narrowed := true }
def CodecFirstUptoSaid : Prop := codecFirstUptoRow.holds Tryz.pinned (OpenSpec.upto codecFirstSpec)

/-- 'pilcrowlaw19.PumpSteps', WHERE WHAT IT READS IS OF BULK AT MOST 1048576: true; the input reads as it did. -/
def pumpStepsUptoRow : OpenClaim := { program := "ytmgnndnofbemeaagreat", sum := "913cf4d84d32faf60b36870e07c62e461129ceff8940e1ae9d35f2ea8594dc86", func := "pilcrow/pilcrowlaw19.PumpSteps", spec := "pumpSteps", inPlace := ["internal/abi.NoEscape"], unfollowed := true, recurses := true, apart := false, narrowed := true }
def PumpStepsUptoSaid : Prop := pumpStepsUptoRow.holds Tryz.pinned (OpenSpec.upto pumpStepsSpec)

/-- 'pilcrowlaw19.PumpBack', WHERE WHAT IT READS IS OF BULK AT MOST 1048576: true; the input reads as it did. -/
def pumpBackUptoRow : OpenClaim := { program := "ytmgnndnofbemeaagreat", sum := "913cf4d84d32faf60b36870e07c62e461129ceff8940e1ae9d35f2ea8594dc86", func := "pilcrow/pilcrowlaw19.PumpBack", spec := "pumpBack", inPlace := ["internal/abi.NoEscape"], unfollowed := true, recurses := true, apart := false, narrowed := true }
def PumpBackUptoSaid : Prop := pumpBackUptoRow.holds Tryz.pinned (OpenSpec.upto pumpBackSpec)

/-- 'pilcrowlaw19.PumpAlike', WHERE WHAT IT READS IS OF BULK AT MOST 1048576: true; the input reads as it did. -/
def pumpAlikeUptoRow : OpenClaim := { program := "ytmgnndnofbemeaagreat", sum := "913cf4d84d32faf60b36870e07c62e461129ceff8940e1ae9d35f2ea8594dc86", func := "pilcrow/pilcrowlaw19.PumpAlike", spec := "pumpAlike", inPlace := ["internal/abi.NoEscape"], unfollowed := true, recurses := true, apart := false, narrowed := true }
def PumpAlikeUptoSaid : Prop := pumpAlikeUptoRow.holds Tryz.pinned (OpenSpec.upto pumpAlikeSpec)

/-- 'pilcrowlaw25.TransChains', WHERE WHAT IT READS IS OF BULK AT MOST 1048576: true; the input reads as it did. -/
def transChainsUptoRow : OpenClaim := { program := "ytmgnndnofbemeaagreat", sum := "913cf4d84d32faf60b36870e07c62e461129ceff8940e1ae9d35f2ea8594dc86", func := "pilcrow/pilcrowlaw25.TransChains", spec := "transChains", inPlace := ["internal/abi.NoEscape"], unfollowed := true, recurses := true, apart := false, narrowed := true }
def TransChainsUptoSaid : Prop := transChainsUptoRow.holds Tryz.pinned (OpenSpec.upto transChainsSpec)

/-- 'pilcrowlaw20.BlockBack', WHERE WHAT IT READS IS OF BULK AT MOST 1048576: true; the input reads as it did. -/
def blockBackUptoRow : OpenClaim := { program := "ytmgnndnofbemeaagreat", sum := "913cf4d84d32faf60b36870e07c62e461129ceff8940e1ae9d35f2ea8594dc86", func := "pilcrow/pilcrowlaw20.BlockBack", spec := "blockBack", inPlace := ["internal/abi.NoEscape"], unfollowed := true, recurses := true, apart := false, narrowed := true }
def BlockBackUptoSaid : Prop := blockBackUptoRow.holds Tryz.pinned (OpenSpec.upto blockBackSpec)

end Rows
end Go.Proofs.YtmgnndnofbemeaaGreat
