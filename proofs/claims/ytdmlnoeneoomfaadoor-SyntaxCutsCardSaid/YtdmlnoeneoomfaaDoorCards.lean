/-
  DERIVED. GIVEN WITH THE SEED: THE CARDS: each row of YtdmlnoeneoomfaaDoorRows.lean that lists a variable, with what it lists TIED to the program's text (the seventh form; the later family's looks); each row that meets fmt, with fmt's text TOLD by the authors' own Lean function (tested against real Go, not proved from fmt's source: count such statements apart). THE CARD IS WHAT COUNTS. Prove the row's statement (the work); the ties are given (YtdmlnoeneoomfaaDoorTie.lean); close each card by the builder's one call (the guide's Derived/Test/ToyasCard.lean, 'card_holds'). Laid BY PROGRAM, IN A SANDBOX (cutbox-door.mjs). By AI agents, Wed Nov 11 2026. No macro, syntax, notation, axiom, sorry.
-/
import Derived.Test.YtdmlnoeneoomfaaDoorRows
import GoSem.ClaimSeven
namespace Go.Proofs.YtdmlnoeneoomfaaDoor
namespace Rows

/-- THE TIED CARD OF 'baizelaw10.SyntaxWraps'. -/
def syntaxWrapsCard : Claim7 := { stood := { row := syntaxWrapsRow, standIns := [], harness := (true, "3388705c1a1b495a593a5ae84e11983bb3a0e8b60e7faf0ed4aa9d0287f699fa"), looks := false }, kinds := [], alts := [], laidByText := true, laidKinds := [.listed, .data], laidTests := true, laidLooks := .later }
def SyntaxWrapsCardSaid : Prop := Claim7.holds Tryd.pinned (.plain (OpenSpec.ofChange syntaxWrapsSpec)) syntaxWrapsCard

/-- THE TIED CARD OF 'baizelaw10.SyntaxTrees'. -/
def syntaxTreesCard : Claim7 := { stood := { row := syntaxTreesRow, standIns := [], harness := (true, "3388705c1a1b495a593a5ae84e11983bb3a0e8b60e7faf0ed4aa9d0287f699fa"), looks := false }, kinds := [], alts := [], laidByText := true, laidKinds := [.listed, .data], laidTests := true, laidLooks := .later }
def SyntaxTreesCardSaid : Prop := Claim7.holds Tryd.pinned (.plain (OpenSpec.ofChange syntaxTreesSpec)) syntaxTreesCard

/-- THE TIED CARD OF 'baizelaw10.SyntaxJoins'. -/
def syntaxJoinsCard : Claim7 := { stood := { row := syntaxJoinsRow, standIns := [], harness := (true, "3388705c1a1b495a593a5ae84e11983bb3a0e8b60e7faf0ed4aa9d0287f699fa"), looks := false }, kinds := [], alts := [], laidByText := true, laidKinds := [.listed, .data], laidTests := true, laidLooks := .later }
def SyntaxJoinsCardSaid : Prop := Claim7.holds Tryd.pinned (.plain (OpenSpec.ofChange syntaxJoinsSpec)) syntaxJoinsCard

/-- THE TIED CARD OF 'baizelaw10.SyntaxLayout'. -/
def syntaxLayoutCard : Claim7 := { stood := { row := syntaxLayoutRow, standIns := [], harness := (true, "3388705c1a1b495a593a5ae84e11983bb3a0e8b60e7faf0ed4aa9d0287f699fa"), looks := false }, kinds := [], alts := [], laidByText := true, laidKinds := [.listed, .data], laidTests := true, laidLooks := .later }
def SyntaxLayoutCardSaid : Prop := Claim7.holds Tryd.pinned (.plain (OpenSpec.ofChange syntaxLayoutSpec)) syntaxLayoutCard

/-- THE TIED CARD OF 'baizelaw10.SyntaxCuts'. -/
def syntaxCutsCard : Claim7 := { stood := { row := syntaxCutsRow, standIns := [], harness := (true, "3388705c1a1b495a593a5ae84e11983bb3a0e8b60e7faf0ed4aa9d0287f699fa"), looks := false }, kinds := [], alts := [], laidByText := true, laidKinds := [.listed, .data], laidTests := true, laidLooks := .later }
def SyntaxCutsCardSaid : Prop := Claim7.holds Tryd.pinned (.plain (OpenSpec.ofChange syntaxCutsSpec)) syntaxCutsCard

/-- THE SECOND FORM's CARD OF 'baizelaw10.SyntaxWraps'. -/
def syntaxWrapsUptoCard : Claim7 := { stood := { row := syntaxWrapsUptoRow, standIns := [], harness := (true, "3388705c1a1b495a593a5ae84e11983bb3a0e8b60e7faf0ed4aa9d0287f699fa"), looks := false }, kinds := [], alts := [], laidByText := true, laidKinds := [.listed, .data], laidTests := true, laidLooks := .later }
def SyntaxWrapsUptoCardSaid : Prop := Claim7.holds Tryd.pinned (.plain (OpenSpec.upto syntaxWrapsSpec)) syntaxWrapsUptoCard

/-- THE SECOND FORM's CARD OF 'baizelaw10.SyntaxTrees'. -/
def syntaxTreesUptoCard : Claim7 := { stood := { row := syntaxTreesUptoRow, standIns := [], harness := (true, "3388705c1a1b495a593a5ae84e11983bb3a0e8b60e7faf0ed4aa9d0287f699fa"), looks := false }, kinds := [], alts := [], laidByText := true, laidKinds := [.listed, .data], laidTests := true, laidLooks := .later }
def SyntaxTreesUptoCardSaid : Prop := Claim7.holds Tryd.pinned (.plain (OpenSpec.upto syntaxTreesSpec)) syntaxTreesUptoCard

/-- THE SECOND FORM's CARD OF 'baizelaw10.SyntaxJoins'. -/
def syntaxJoinsUptoCard : Claim7 := { stood := { row := syntaxJoinsUptoRow, standIns := [], harness := (true, "3388705c1a1b495a593a5ae84e11983bb3a0e8b60e7faf0ed4aa9d0287f699fa"), looks := false }, kinds := [], alts := [], laidByText := true, laidKinds := [.listed, .data], laidTests := true, laidLooks := .later }
def SyntaxJoinsUptoCardSaid : Prop := Claim7.holds Tryd.pinned (.plain (OpenSpec.upto syntaxJoinsSpec)) syntaxJoinsUptoCard

/-- THE SECOND FORM's CARD OF 'baizelaw10.SyntaxLayout'. -/
def syntaxLayoutUptoCard : Claim7 := { stood := { row := syntaxLayoutUptoRow, standIns := [], harness := (true, "3388705c1a1b495a593a5ae84e11983bb3a0e8b60e7faf0ed4aa9d0287f699fa"), looks := false }, kinds := [], alts := [], laidByText := true, laidKinds := [.listed, .data], laidTests := true, laidLooks := .later }
def SyntaxLayoutUptoCardSaid : Prop := Claim7.holds Tryd.pinned (.plain (OpenSpec.upto syntaxLayoutSpec)) syntaxLayoutUptoCard

/-- THE SECOND FORM's CARD OF 'baizelaw10.SyntaxCuts'. -/
def syntaxCutsUptoCard : Claim7 := { stood := { row := syntaxCutsUptoRow, standIns := [], harness := (true, "3388705c1a1b495a593a5ae84e11983bb3a0e8b60e7faf0ed4aa9d0287f699fa"), looks := false }, kinds := [], alts := [], laidByText := true, laidKinds := [.listed, .data], laidTests := true, laidLooks := .later }
def SyntaxCutsUptoCardSaid : Prop := Claim7.holds Tryd.pinned (.plain (OpenSpec.upto syntaxCutsSpec)) syntaxCutsUptoCard
end Rows
end Go.Proofs.YtdmlnoeneoomfaaDoor
