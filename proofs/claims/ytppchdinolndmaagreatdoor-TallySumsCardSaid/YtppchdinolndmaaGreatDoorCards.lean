/-
  DERIVED. GIVEN WITH THE SEED: THE CARDS: each row of YtppchdinolndmaaGreatDoorRows.lean that lists a variable, with what it lists TIED to the program's text (the seventh form; the later family's looks); each row that meets fmt, with fmt's text TOLD by the authors' own Lean function (tested against real Go, not proved from fmt's source: count such statements apart). THE CARD IS WHAT COUNTS. Prove the row's statement (the work); the ties are given (YtppchdinolndmaaGreatDoorTie.lean); close each card by the builder's one call (the guide's Derived/Test/ToyasCard.lean, 'card_holds'). Laid BY PROGRAM, IN A SANDBOX (cutbox-door.mjs). By AI agents, Wed Nov 11 2026. No macro, syntax, notation, axiom, sorry.
-/
import Derived.Test.YtppchdinolndmaaGreatDoorRows
import GoSem.ClaimSeven
namespace Go.Proofs.YtppchdinolndmaaGreatDoor
namespace Rows

/-- THE TIED CARD OF 'pilcrowlaw23.TallyCounts'. -/
def tallyCountsCard : Claim7 := { stood := { row := tallyCountsRow, standIns := [], harness := (true, "bcecf5514d6b2eec99f0e2b04e66d5922bbe40443483f376fe3dad79b1e0fb53"), looks := false }, kinds := [], alts := [], laidByText := true, laidKinds := [.data, .data, .data], laidTests := true, laidLooks := .later }
def TallyCountsCardSaid : Prop := Claim7.holds Tryz.pinned (.plain (OpenSpec.ofChange tallyCountsSpec)) tallyCountsCard

/-- THE TIED CARD OF 'pilcrowlaw23.TallyAdds'. -/
def tallyAddsCard : Claim7 := { stood := { row := tallyAddsRow, standIns := [], harness := (true, "bcecf5514d6b2eec99f0e2b04e66d5922bbe40443483f376fe3dad79b1e0fb53"), looks := false }, kinds := [], alts := [], laidByText := true, laidKinds := [.data, .data, .data], laidTests := true, laidLooks := .later }
def TallyAddsCardSaid : Prop := Claim7.holds Tryz.pinned (.plain (OpenSpec.ofChange tallyAddsSpec)) tallyAddsCard

/-- THE TIED CARD OF 'pilcrowlaw23.TallyTexts'. -/
def tallyTextsCard : Claim7 := { stood := { row := tallyTextsRow, standIns := [], harness := (true, "bcecf5514d6b2eec99f0e2b04e66d5922bbe40443483f376fe3dad79b1e0fb53"), looks := false }, kinds := [], alts := [], laidByText := true, laidKinds := [.data, .data, .data], laidTests := true, laidLooks := .later }
def TallyTextsCardSaid : Prop := Claim7.holds Tryz.pinned (.plain (OpenSpec.ofChange tallyTextsSpec)) tallyTextsCard

/-- THE TIED CARD OF 'pilcrowlaw23.TallySums'. -/
def tallySumsCard : Claim7 := { stood := { row := tallySumsRow, standIns := [], harness := (true, "bcecf5514d6b2eec99f0e2b04e66d5922bbe40443483f376fe3dad79b1e0fb53"), looks := false }, kinds := [], alts := [], laidByText := true, laidKinds := [.data, .data, .data], laidTests := true, laidLooks := .later }
def TallySumsCardSaid : Prop := Claim7.holds Tryz.pinned (.plain (OpenSpec.ofChange tallySumsSpec)) tallySumsCard

/-- THE TIED CARD OF 'pilcrowlaw23.TallySizes'. -/
def tallySizesCard : Claim7 := { stood := { row := tallySizesRow, standIns := [], harness := (true, "bcecf5514d6b2eec99f0e2b04e66d5922bbe40443483f376fe3dad79b1e0fb53"), looks := false }, kinds := [], alts := [], laidByText := true, laidKinds := [.data, .data, .data], laidTests := true, laidLooks := .later }
def TallySizesCardSaid : Prop := Claim7.holds Tryz.pinned (.plain (OpenSpec.ofChange tallySizesSpec)) tallySizesCard

/-- THE SECOND FORM's CARD OF 'pilcrowlaw23.TallyCounts'. -/
def tallyCountsUptoCard : Claim7 := { stood := { row := tallyCountsUptoRow, standIns := [], harness := (true, "bcecf5514d6b2eec99f0e2b04e66d5922bbe40443483f376fe3dad79b1e0fb53"), looks := false }, kinds := [], alts := [], laidByText := true, laidKinds := [.data, .data, .data], laidTests := true, laidLooks := .later }
def TallyCountsUptoCardSaid : Prop := Claim7.holds Tryz.pinned (.plain (OpenSpec.upto tallyCountsSpec)) tallyCountsUptoCard

/-- THE SECOND FORM's CARD OF 'pilcrowlaw23.TallyAdds'. -/
def tallyAddsUptoCard : Claim7 := { stood := { row := tallyAddsUptoRow, standIns := [], harness := (true, "bcecf5514d6b2eec99f0e2b04e66d5922bbe40443483f376fe3dad79b1e0fb53"), looks := false }, kinds := [], alts := [], laidByText := true, laidKinds := [.data, .data, .data], laidTests := true, laidLooks := .later }
def TallyAddsUptoCardSaid : Prop := Claim7.holds Tryz.pinned (.plain (OpenSpec.upto tallyAddsSpec)) tallyAddsUptoCard

/-- THE SECOND FORM's CARD OF 'pilcrowlaw23.TallyTexts'. -/
def tallyTextsUptoCard : Claim7 := { stood := { row := tallyTextsUptoRow, standIns := [], harness := (true, "bcecf5514d6b2eec99f0e2b04e66d5922bbe40443483f376fe3dad79b1e0fb53"), looks := false }, kinds := [], alts := [], laidByText := true, laidKinds := [.data, .data, .data], laidTests := true, laidLooks := .later }
def TallyTextsUptoCardSaid : Prop := Claim7.holds Tryz.pinned (.plain (OpenSpec.upto tallyTextsSpec)) tallyTextsUptoCard

/-- THE SECOND FORM's CARD OF 'pilcrowlaw23.TallySums'. -/
def tallySumsUptoCard : Claim7 := { stood := { row := tallySumsUptoRow, standIns := [], harness := (true, "bcecf5514d6b2eec99f0e2b04e66d5922bbe40443483f376fe3dad79b1e0fb53"), looks := false }, kinds := [], alts := [], laidByText := true, laidKinds := [.data, .data, .data], laidTests := true, laidLooks := .later }
def TallySumsUptoCardSaid : Prop := Claim7.holds Tryz.pinned (.plain (OpenSpec.upto tallySumsSpec)) tallySumsUptoCard

/-- THE SECOND FORM's CARD OF 'pilcrowlaw23.TallySizes'. -/
def tallySizesUptoCard : Claim7 := { stood := { row := tallySizesUptoRow, standIns := [], harness := (true, "bcecf5514d6b2eec99f0e2b04e66d5922bbe40443483f376fe3dad79b1e0fb53"), looks := false }, kinds := [], alts := [], laidByText := true, laidKinds := [.data, .data, .data], laidTests := true, laidLooks := .later }
def TallySizesUptoCardSaid : Prop := Claim7.holds Tryz.pinned (.plain (OpenSpec.upto tallySizesSpec)) tallySizesUptoCard
end Rows
end Go.Proofs.YtppchdinolndmaaGreatDoor
