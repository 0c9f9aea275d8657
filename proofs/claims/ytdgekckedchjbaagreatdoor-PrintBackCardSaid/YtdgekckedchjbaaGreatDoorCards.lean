/-
  DERIVED. GIVEN WITH THE SEED: THE CARDS: each row of YtdgekckedchjbaaGreatDoorRows.lean that lists a variable, with what it lists TIED to the program's text (the seventh form; the later family's looks); each row that meets fmt, with fmt's text TOLD by the authors' own Lean function (tested against real Go, not proved from fmt's source: count such statements apart). THE CARD IS WHAT COUNTS. Prove the row's statement (the work); the ties are given (YtdgekckedchjbaaGreatDoorTie.lean); close each card by the builder's one call (the guide's Derived/Test/ToyasCard.lean, 'card_holds'). Laid BY PROGRAM, IN A SANDBOX (cutbox-door.mjs). By AI agents, Wed Nov 11 2026. No macro, syntax, notation, axiom, sorry.
-/
import Derived.Test.YtdgekckedchjbaaGreatDoorRows
import GoSem.ClaimSeven
namespace Go.Proofs.YtdgekckedchjbaaGreatDoor
namespace Rows

/-- THE TIED CARD OF 'baizelaw11.PrintExprs'. -/
def printExprsCard : Claim7 := { stood := { row := printExprsRow, standIns := [], harness := (true, "4ce961c72d5d92fe11e25e76987751b53cf2f54640aca892f2ca004b17dc2583"), looks := false }, kinds := [], alts := [], laidByText := true, laidKinds := [.data, .data, .data, .listed, .data, .data], laidTests := true, laidLooks := .later }
def PrintExprsCardSaid : Prop := Claim7.holds Tryz.pinned (.plain (OpenSpec.ofChange printExprsSpec)) printExprsCard

/-- THE TIED CARD OF 'baizelaw11.PrintBack'. -/
def printBackCard : Claim7 := { stood := { row := printBackRow, standIns := [], harness := (true, "4ce961c72d5d92fe11e25e76987751b53cf2f54640aca892f2ca004b17dc2583"), looks := false }, kinds := [], alts := [], laidByText := true, laidKinds := [.data, .data, .data, .listed, .data, .data, .data], laidTests := true, laidLooks := .later }
def PrintBackCardSaid : Prop := Claim7.holds Tryz.pinned (.plain (OpenSpec.ofChange printBackSpec)) printBackCard

/-- THE TIED CARD OF 'baizelaw11.PrintTwice'. -/
def printTwiceCard : Claim7 := { stood := { row := printTwiceRow, standIns := [], harness := (true, "4ce961c72d5d92fe11e25e76987751b53cf2f54640aca892f2ca004b17dc2583"), looks := false }, kinds := [], alts := [], laidByText := true, laidKinds := [.data, .data, .data, .listed, .data, .data, .data], laidTests := true, laidLooks := .later }
def PrintTwiceCardSaid : Prop := Claim7.holds Tryz.pinned (.plain (OpenSpec.ofChange printTwiceSpec)) printTwiceCard

/-- THE TIED CARD OF 'baizelaw11.PrintLoose'. -/
def printLooseCard : Claim7 := { stood := { row := printLooseRow, standIns := [], harness := (true, "4ce961c72d5d92fe11e25e76987751b53cf2f54640aca892f2ca004b17dc2583"), looks := false }, kinds := [], alts := [], laidByText := true, laidKinds := [.data, .data, .data, .listed, .data, .data, .data], laidTests := true, laidLooks := .later }
def PrintLooseCardSaid : Prop := Claim7.holds Tryz.pinned (.plain (OpenSpec.ofChange printLooseSpec)) printLooseCard

/-- THE TIED CARD OF 'baizelaw11.PrintForm'. -/
def printFormCard : Claim7 := { stood := { row := printFormRow, standIns := [], harness := (true, "4ce961c72d5d92fe11e25e76987751b53cf2f54640aca892f2ca004b17dc2583"), looks := false }, kinds := [], alts := [], laidByText := true, laidKinds := [.data, .data, .data, .listed, .data, .data, .data], laidTests := true, laidLooks := .later }
def PrintFormCardSaid : Prop := Claim7.holds Tryz.pinned (.plain (OpenSpec.ofChange printFormSpec)) printFormCard

/-- THE SECOND FORM's CARD OF 'baizelaw11.PrintExprs'. -/
def printExprsUptoCard : Claim7 := { stood := { row := printExprsUptoRow, standIns := [], harness := (true, "4ce961c72d5d92fe11e25e76987751b53cf2f54640aca892f2ca004b17dc2583"), looks := false }, kinds := [], alts := [], laidByText := true, laidKinds := [.data, .data, .data, .listed, .data, .data], laidTests := true, laidLooks := .later }
def PrintExprsUptoCardSaid : Prop := Claim7.holds Tryz.pinned (.plain (OpenSpec.upto printExprsSpec)) printExprsUptoCard

/-- THE SECOND FORM's CARD OF 'baizelaw11.PrintBack'. -/
def printBackUptoCard : Claim7 := { stood := { row := printBackUptoRow, standIns := [], harness := (true, "4ce961c72d5d92fe11e25e76987751b53cf2f54640aca892f2ca004b17dc2583"), looks := false }, kinds := [], alts := [], laidByText := true, laidKinds := [.data, .data, .data, .listed, .data, .data, .data], laidTests := true, laidLooks := .later }
def PrintBackUptoCardSaid : Prop := Claim7.holds Tryz.pinned (.plain (OpenSpec.upto printBackSpec)) printBackUptoCard

/-- THE SECOND FORM's CARD OF 'baizelaw11.PrintTwice'. -/
def printTwiceUptoCard : Claim7 := { stood := { row := printTwiceUptoRow, standIns := [], harness := (true, "4ce961c72d5d92fe11e25e76987751b53cf2f54640aca892f2ca004b17dc2583"), looks := false }, kinds := [], alts := [], laidByText := true, laidKinds := [.data, .data, .data, .listed, .data, .data, .data], laidTests := true, laidLooks := .later }
def PrintTwiceUptoCardSaid : Prop := Claim7.holds Tryz.pinned (.plain (OpenSpec.upto printTwiceSpec)) printTwiceUptoCard

/-- THE SECOND FORM's CARD OF 'baizelaw11.PrintLoose'. -/
def printLooseUptoCard : Claim7 := { stood := { row := printLooseUptoRow, standIns := [], harness := (true, "4ce961c72d5d92fe11e25e76987751b53cf2f54640aca892f2ca004b17dc2583"), looks := false }, kinds := [], alts := [], laidByText := true, laidKinds := [.data, .data, .data, .listed, .data, .data, .data], laidTests := true, laidLooks := .later }
def PrintLooseUptoCardSaid : Prop := Claim7.holds Tryz.pinned (.plain (OpenSpec.upto printLooseSpec)) printLooseUptoCard

/-- THE SECOND FORM's CARD OF 'baizelaw11.PrintForm'. -/
def printFormUptoCard : Claim7 := { stood := { row := printFormUptoRow, standIns := [], harness := (true, "4ce961c72d5d92fe11e25e76987751b53cf2f54640aca892f2ca004b17dc2583"), looks := false }, kinds := [], alts := [], laidByText := true, laidKinds := [.data, .data, .data, .listed, .data, .data, .data], laidTests := true, laidLooks := .later }
def PrintFormUptoCardSaid : Prop := Claim7.holds Tryz.pinned (.plain (OpenSpec.upto printFormSpec)) printFormUptoCard
end Rows
end Go.Proofs.YtdgekckedchjbaaGreatDoor
