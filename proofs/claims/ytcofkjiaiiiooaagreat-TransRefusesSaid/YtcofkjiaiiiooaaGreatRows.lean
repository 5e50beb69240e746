/-
  No cell of these rows narrows 'for every input' (looked for: loops, veiled, ifaces, maps, wideKeys, modest, calm, conditions, laid).
  DERIVED. THE GIVEN ROWS OF THIS SEAT. 4 by the template 'for every input the law returns true; each argument reads behind the call as it read before'; 0 by the template 'total and deterministic' (their statements: YtcofkjiaiiiooaaGreatTotals.lean).
  GIVEN WITH THE SEED: the statements are not yours to turn. If you find one false, say at which input.
  Laid BY PROGRAM, IN A SANDBOX (cutbox-rows.mjs): the forced cells as the released guide's own fill.sh prints them over the translation 9686f8deb7d2524c… (all of the seat's roots in one cut). By AI agents, Wed Nov 11 2026. No macro, syntax, notation, axiom, sorry.
-/
import Derived.Test.YtcofkjiaiiiooaaGreatChecked
import GoSem.Claim
import GoSem.ClaimJoined
import GoSem.ClaimMapViews
import Derived.JoinedTies
import Derived.KernelRfl
namespace Go.Proofs.YtcofkjiaiiiooaaGreat
/- THE CELL 'sum', in the pinned program and in every row, IS THE sha256 OF THE DUMP (.gsa) THAT YtcofkjiaiiiooaaGreatProg.lean LOADS. Nothing in Lean hashes anything: it is a label: what it is worth is what the hold of that sum in a sandbox is worth. -/
noncomputable def Tryz.pinned : Pinned := { name := "ytcofkjiaiiiooaagreat", sum := "9686f8deb7d2524c7c80dc3ca2bd618863e23d63ffe4c82eb13cb185f3c748c8", checked := Tryz.checked }
namespace Rows
def none {H : Type} : Left H := { results := [], args := [] }

/-- 'pilcrowlaw25.TransRefuses': WHATEVER THE INPUT: true; the input reads as it did. -/
def transRefusesSpec : ChangeSpec := { name := "transRefuses", fn := fun _ => fun
  | [d1, d2, d3] => { results := [.lit (.bool true)], args := [d1, d2, d3] }
  | _ => none }
def transRefusesRow : OpenClaim := { program := "ytcofkjiaiiiooaagreat", sum := "9686f8deb7d2524c7c80dc3ca2bd618863e23d63ffe4c82eb13cb185f3c748c8", func := "pilcrow/pilcrowlaw25.TransRefuses", spec := "transRefuses", inPlace := ["internal/abi.NoEscape"], unfollowed := true, recurses := true, apart := false }
def TransRefusesSaid : Prop := transRefusesRow.holds Tryz.pinned (OpenSpec.ofChange transRefusesSpec)

/-- ITS FALSE NEIGHBOUR: 'it returns false'. Refute it at one input. -/
def transRefusesWrong : ChangeSpec := { name := "transRefuses", fn := fun _ => fun
  | [d1, d2, d3] => { results := [.lit (.bool false)], args := [d1, d2, d3] }
  | _ => none }
def TransRefusesWrongFalsely : Prop := transRefusesRow.holds Tryz.pinned (OpenSpec.ofChange transRefusesWrong)

/-- 'pilcrowlaw20.BlockBytes': WHATEVER THE INPUT: true; the input reads as it did. -/
def blockBytesSpec : ChangeSpec := { name := "blockBytes", fn := fun _ => fun
  | [d] => { results := [.lit (.bool true)], args := [d] }
  | _ => none }
def blockBytesRow : OpenClaim := { program := "ytcofkjiaiiiooaagreat", sum := "9686f8deb7d2524c7c80dc3ca2bd618863e23d63ffe4c82eb13cb185f3c748c8", func := "pilcrow/pilcrowlaw20.BlockBytes", spec := "blockBytes", inPlace := ["internal/abi.NoEscape"], unfollowed := true, recurses := true, apart := false }
def BlockBytesSaid : Prop := blockBytesRow.holds Tryz.pinned (OpenSpec.ofChange blockBytesSpec)

/-- ITS FALSE NEIGHBOUR: 'it returns false'. Refute it at one input. -/
def blockBytesWrong : ChangeSpec := { name := "blockBytes", fn := fun _ => fun
  | [d] => { results := [.lit (.bool false)], args := [d] }
  | _ => none }
def BlockBytesWrongFalsely : Prop := blockBytesRow.holds Tryz.pinned (OpenSpec.ofChange blockBytesWrong)

/-- 'pilcrowlaw20.BlockReads': WHATEVER THE INPUT: true; the input reads as it did. -/
def blockReadsSpec : ChangeSpec := { name := "blockReads", fn := fun _ => fun
  | [d1, d2] => { results := [.lit (.bool true)], args := [d1, d2] }
  | _ => none }
def blockReadsRow : OpenClaim := { program := "ytcofkjiaiiiooaagreat", sum := "9686f8deb7d2524c7c80dc3ca2bd618863e23d63ffe4c82eb13cb185f3c748c8", func := "pilcrow/pilcrowlaw20.BlockReads", spec := "blockReads", inPlace := ["internal/abi.NoEscape"], unfollowed := true, recurses := true, apart := false }
def BlockReadsSaid : Prop := blockReadsRow.holds Tryz.pinned (OpenSpec.ofChange blockReadsSpec)

/-- ITS FALSE NEIGHBOUR: 'it returns false'. Refute it at one input. -/
def blockReadsWrong : ChangeSpec := { name := "blockReads", fn := fun _ => fun
  | [d1, d2] => { results := [.lit (.bool false)], args := [d1, d2] }
  | _ => none }
def BlockReadsWrongFalsely : Prop := blockReadsRow.holds Tryz.pinned (OpenSpec.ofChange blockReadsWrong)

/-- 'pilcrowlaw20.BlockOne': WHATEVER THE INPUT: true; the input reads as it did. -/
def blockOneSpec : ChangeSpec := { name := "blockOne", fn := fun _ => fun
  | [d1, d2] => { results := [.lit (.bool true)], args := [d1, d2] }
  | _ => none }
def blockOneRow : OpenClaim := { program := "ytcofkjiaiiiooaagreat", sum := "9686f8deb7d2524c7c80dc3ca2bd618863e23d63ffe4c82eb13cb185f3c748c8", func := "pilcrow/pilcrowlaw20.BlockOne", spec := "blockOne", inPlace := ["internal/abi.NoEscape"], unfollowed := true, recurses := true, apart := false }
def BlockOneSaid : Prop := blockOneRow.holds Tryz.pinned (OpenSpec.ofChange blockOneSpec)

/-- ITS FALSE NEIGHBOUR: 'it returns false'. Refute it at one input. -/
def blockOneWrong : ChangeSpec := { name := "blockOne", fn := fun _ => fun
  | [d1, d2] => { results := [.lit (.bool false)], args := [d1, d2] }
  | _ => none }
def BlockOneWrongFalsely : Prop := blockOneRow.holds Tryz.pinned (OpenSpec.ofChange blockOneWrong)

/- THE SECOND FORM. 'bulk': how many values and letters a reading holds, each counted each time it is reached (what is shared counts as often as it is met; a slice's spare places count too). A statement '..UptoSaid' is the law's where the arguments, and the package variables that the reading takes, are together of bulk at most 1048576: NARROWER than '..Said'. Prove '..Said' where nothing that the law and all that it calls make is longer than what came in: it says more and counts as full. Else prove '..UptoSaid'. A law counts once. -/
mutual
def uptoBulk {H : Type} : DataW H → Nat
  | .lit (.string bytes) => bytes.length + 1
  | .lit _ => 1
  | .nil => 1
  | .ptr d => uptoBulk d + 1
  | .slice elems spare => uptoBulkAll elems + uptoBulkAll spare + 1
  | .agg parts => uptoBulkAll parts + 1
  | .iface _ d => uptoBulk d + 1
  | .map entries => uptoBulkEntries entries + 1
  | .held _ => 1
def uptoBulkAll {H : Type} : List (DataW H) → Nat
  | [] => 0
  | d :: r => uptoBulk d + uptoBulkAll r
def uptoBulkEntries {H : Type} : List (Lit × DataW H) → Nat
  | [] => 0
  | x :: r => uptoBulkEntry x + uptoBulkEntries r
def uptoBulkEntry {H : Type} : Lit × DataW H → Nat
  | (.string bytes, d) => bytes.length + uptoBulk d + 1
  | (_, d) => uptoBulk d + 1
 end
def uptoSmall : (H : Type) → List (DataW H) → Bool := fun _ ds => decide (uptoBulkAll ds ≤ 1048576)
def OpenSpec.upto (s : _root_.Go.ChangeSpec) : _root_.Go.OpenSpec := { _root_.Go.OpenSpec.ofChange s with cond := some uptoSmall }

/-- 'pilcrowlaw25.TransRefuses', WHERE WHAT IT READS IS OF BULK AT MOST 1048576: true; the input reads as it did. -/
def transRefusesUptoRow : OpenClaim := { program := "ytcofkjiaiiiooaagreat", sum := "9686f8deb7d2524c7c80dc3ca2bd618863e23d63ffe4c82eb13cb185f3c748c8", func := "pilcrow/pilcrowlaw25.TransRefuses", spec := "transRefuses", inPlace := ["internal/abi.NoEscape"], unfollowed := true, recurses := true, apart := false, narrowed := true }
def TransRefusesUptoSaid : Prop := transRefusesUptoRow.holds Tryz.pinned (OpenSpec.upto transRefusesSpec)

/-- 'pilcrowlaw20.BlockBytes', WHERE WHAT IT READS IS OF BULK AT MOST 1048576: true; the input reads as it did. -/
def blockBytesUptoRow : OpenClaim := { program := "ytcofkjiaiiiooaagreat", sum := "9686f8deb7d2524c7c80dc3ca2bd618863e23d63ffe4c82eb13cb185f3c748c8", func := "pilcrow/pilcrowlaw20.BlockBytes", spec := "blockBytes", inPlace := ["internal/abi.NoEscape"], unfollowed := true, recurses := true, apart := false, narrowed := true }
def BlockBytesUptoSaid : Prop := blockBytesUptoRow.holds Tryz.pinned (OpenSpec.upto blockBytesSpec)

/-- 'pilcrowlaw20.BlockReads', WHERE WHAT IT READS IS OF BULK AT MOST 1048576: true; the input reads as it did. -/
def blockReadsUptoRow : OpenClaim := { program := "ytcofkjiaiiiooaagreat", sum := "9686f8deb7d2524c7c80dc3ca2bd618863e23d63ffe4c82eb13cb185f3c748c8", func := "pilcrow/pilcrowlaw20.BlockReads", spec := "blockReads", inPlace := ["internal/abi.NoEscape"], unfollowed := true, recurses := true, apart := false, narrowed := true }
def BlockReadsUptoSaid : Prop := blockReadsUptoRow.holds Tryz.pinned (OpenSpec.upto blockReadsSpec)

/-- 'pilcrowlaw20.BlockOne', WHERE WHAT IT READS IS OF BULK AT MOST 1048576: true; the input reads as it did. -/
def blockOneUptoRow : OpenClaim := { program := "ytcofkjiaiiiooaagreat", sum := "9686f8deb7d2524c7c80dc3ca2bd618863e23d63ffe4c82eb13cb185f3c748c8", func := "pilcrow/pilcrowlaw20.BlockOne", spec := "blockOne", inPlace := ["internal/abi.NoEscape"], unfollowed := true, recurses := true, apart := false, narrowed := true }
def BlockOneUptoSaid : Prop := blockOneUptoRow.holds Tryz.pinned (OpenSpec.upto blockOneSpec)

end Rows
end Go.Proofs.YtcofkjiaiiiooaaGreat
