/-
  DERIVED. GIVEN WITH THE SEED: THE CARDS: each row of YtlddfdkmpnllmaaDoorRows.lean that lists a variable, with what it lists TIED to the program's text (the seventh form; the later family's looks); each row that meets fmt, with fmt's text TOLD by the authors' own Lean function (tested against real Go, not proved from fmt's source: count such statements apart). THE CARD IS WHAT COUNTS. Prove the row's statement (the work); the ties are given (YtlddfdkmpnllmaaDoorTie.lean); close each card by the builder's one call (the guide's Derived/Test/ToyasCard.lean, 'card_holds'). Laid BY PROGRAM, IN A SANDBOX (cutbox-door.mjs). By AI agents, Wed Nov 11 2026. No macro, syntax, notation, axiom, sorry.
-/
import Derived.Test.YtlddfdkmpnllmaaDoorRows
import GoSem.ClaimSeven
namespace Go.Proofs.YtlddfdkmpnllmaaDoor
namespace Rows

/-- THE TIED CARD OF 'pilcrowlaw24.ArgsParses'. -/
def argsParsesCard : Claim7 := { stood := { row := argsParsesRow, standIns := [], harness := (true, "ba48e89886e5ef1f5eeb9dae0ba9cad384bd82c73d569517cbfebfb4790b06c1"), looks := false }, kinds := [], alts := [], laidByText := true, laidKinds := [.data, .data, .data], laidTests := true, laidLooks := .later }
def ArgsParsesCardSaid : Prop := Claim7.holds Tryd.pinned (.plain (OpenSpec.ofChange argsParsesSpec)) argsParsesCard

/-- THE TIED CARD OF 'pilcrowlaw24.ArgsWords'. -/
def argsWordsCard : Claim7 := { stood := { row := argsWordsRow, standIns := [], harness := (true, "ba48e89886e5ef1f5eeb9dae0ba9cad384bd82c73d569517cbfebfb4790b06c1"), looks := false }, kinds := [], alts := [], laidByText := true, laidKinds := [.data, .data, .data], laidTests := true, laidLooks := .later }
def ArgsWordsCardSaid : Prop := Claim7.holds Tryd.pinned (.plain (OpenSpec.ofChange argsWordsSpec)) argsWordsCard

/-- THE TIED CARD OF 'pilcrowlaw24.ArgsBack'. -/
def argsBackCard : Claim7 := { stood := { row := argsBackRow, standIns := [], harness := (true, "ba48e89886e5ef1f5eeb9dae0ba9cad384bd82c73d569517cbfebfb4790b06c1"), looks := false }, kinds := [], alts := [], laidByText := true, laidKinds := [.data, .data, .data], laidTests := true, laidLooks := .later }
def ArgsBackCardSaid : Prop := Claim7.holds Tryd.pinned (.plain (OpenSpec.ofChange argsBackSpec)) argsBackCard

/-- THE TIED CARD OF 'pilcrowlaw24.ArgsOrder'. -/
def argsOrderCard : Claim7 := { stood := { row := argsOrderRow, standIns := [], harness := (true, "ba48e89886e5ef1f5eeb9dae0ba9cad384bd82c73d569517cbfebfb4790b06c1"), looks := false }, kinds := [], alts := [], laidByText := true, laidKinds := [.data, .data, .data], laidTests := true, laidLooks := .later }
def ArgsOrderCardSaid : Prop := Claim7.holds Tryd.pinned (.plain (OpenSpec.ofChange argsOrderSpec)) argsOrderCard

/-- THE TIED CARD OF 'pilcrowlaw24.ArgsTwice'. -/
def argsTwiceCard : Claim7 := { stood := { row := argsTwiceRow, standIns := [], harness := (true, "ba48e89886e5ef1f5eeb9dae0ba9cad384bd82c73d569517cbfebfb4790b06c1"), looks := false }, kinds := [], alts := [], laidByText := true, laidKinds := [.data, .data, .data], laidTests := true, laidLooks := .later }
def ArgsTwiceCardSaid : Prop := Claim7.holds Tryd.pinned (.plain (OpenSpec.ofChange argsTwiceSpec)) argsTwiceCard

/-- THE SECOND FORM's CARD OF 'pilcrowlaw24.ArgsParses'. -/
def argsParsesUptoCard : Claim7 := { stood := { row := argsParsesUptoRow, standIns := [], harness := (true, "ba48e89886e5ef1f5eeb9dae0ba9cad384bd82c73d569517cbfebfb4790b06c1"), looks := false }, kinds := [], alts := [], laidByText := true, laidKinds := [.data, .data, .data], laidTests := true, laidLooks := .later }
def ArgsParsesUptoCardSaid : Prop := Claim7.holds Tryd.pinned (.plain (OpenSpec.upto argsParsesSpec)) argsParsesUptoCard

/-- THE SECOND FORM's CARD OF 'pilcrowlaw24.ArgsWords'. -/
def argsWordsUptoCard : Claim7 := { stood := { row := argsWordsUptoRow, standIns := [], harness := (true, "ba48e89886e5ef1f5eeb9dae0ba9cad384bd82c73d569517cbfebfb4790b06c1"), looks := false }, kinds := [], alts := [], laidByText := true, laidKinds := [.data, .data, .data], laidTests := true, laidLooks := .later }
def ArgsWordsUptoCardSaid : Prop := Claim7.holds Tryd.pinned (.plain (OpenSpec.upto argsWordsSpec)) argsWordsUptoCard

/-- THE SECOND FORM's CARD OF 'pilcrowlaw24.ArgsBack'. -/
def argsBackUptoCard : Claim7 := { stood := { row := argsBackUptoRow, standIns := [], harness := (true, "ba48e89886e5ef1f5eeb9dae0ba9cad384bd82c73d569517cbfebfb4790b06c1"), looks := false }, kinds := [], alts := [], laidByText := true, laidKinds := [.data, .data, .data], laidTests := true, laidLooks := .later }
def ArgsBackUptoCardSaid : Prop := Claim7.holds Tryd.pinned (.plain (OpenSpec.upto argsBackSpec)) argsBackUptoCard

/-- THE SECOND FORM's CARD OF 'pilcrowlaw24.ArgsOrder'. -/
def argsOrderUptoCard : Claim7 := { stood := { row := argsOrderUptoRow, standIns := [], harness := (true, "ba48e89886e5ef1f5eeb9dae0ba9cad384bd82c73d569517cbfebfb4790b06c1"), looks := false }, kinds := [], alts := [], laidByText := true, laidKinds := [.data, .data, .data], laidTests := true, laidLooks := .later }
def ArgsOrderUptoCardSaid : Prop := Claim7.holds Tryd.pinned (.plain (OpenSpec.upto argsOrderSpec)) argsOrderUptoCard

/-- THE SECOND FORM's CARD OF 'pilcrowlaw24.ArgsTwice'. -/
def argsTwiceUptoCard : Claim7 := { stood := { row := argsTwiceUptoRow, standIns := [], harness := (true, "ba48e89886e5ef1f5eeb9dae0ba9cad384bd82c73d569517cbfebfb4790b06c1"), looks := false }, kinds := [], alts := [], laidByText := true, laidKinds := [.data, .data, .data], laidTests := true, laidLooks := .later }
def ArgsTwiceUptoCardSaid : Prop := Claim7.holds Tryd.pinned (.plain (OpenSpec.upto argsTwiceSpec)) argsTwiceUptoCard
end Rows
end Go.Proofs.YtlddfdkmpnllmaaDoor
