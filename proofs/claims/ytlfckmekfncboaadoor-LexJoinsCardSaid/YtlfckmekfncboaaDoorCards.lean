/-
  DERIVED. GIVEN WITH THE SEED: THE CARDS: each row of YtlfckmekfncboaaDoorRows.lean that lists a variable, with what it lists TIED to the program's text (the seventh form; the later family's looks); each row that meets fmt, with fmt's text TOLD by the authors' own Lean function (tested against real Go, not proved from fmt's source: count such statements apart). THE CARD IS WHAT COUNTS. Prove the row's statement (the work); the ties are given (YtlfckmekfncboaaDoorTie.lean); close each card by the builder's one call (the guide's Derived/Test/ToyasCard.lean, 'card_holds'). Laid BY PROGRAM, IN A SANDBOX (cutbox-door.mjs). By AI agents, Wed Nov 11 2026. No macro, syntax, notation, axiom, sorry.
-/
import Derived.Test.YtlfckmekfncboaaDoorRows
import GoSem.ClaimSeven
namespace Go.Proofs.YtlfckmekfncboaaDoor
namespace Rows

/-- THE TIED CARD OF 'baizelaw09.LexPlaces'. -/
def lexPlacesCard : Claim7 := { stood := { row := lexPlacesRow, standIns := [], harness := (true, "de7d3e5c0814cddb16ccba64ab61a8e6124a3586878dd6b9daa77076c38e360d"), looks := false }, kinds := [], alts := [], laidByText := true, laidKinds := [.listed, .data], laidTests := true, laidLooks := .later }
def LexPlacesCardSaid : Prop := Claim7.holds Tryd.pinned (.plain (OpenSpec.ofChange lexPlacesSpec)) lexPlacesCard

/-- THE TIED CARD OF 'baizelaw09.LexMarks'. -/
def lexMarksCard : Claim7 := { stood := { row := lexMarksRow, standIns := [], harness := (true, "de7d3e5c0814cddb16ccba64ab61a8e6124a3586878dd6b9daa77076c38e360d"), looks := false }, kinds := [], alts := [], laidByText := true, laidKinds := [.listed, .data], laidTests := true, laidLooks := .later }
def LexMarksCardSaid : Prop := Claim7.holds Tryd.pinned (.plain (OpenSpec.ofChange lexMarksSpec)) lexMarksCard

/-- THE TIED CARD OF 'baizelaw09.LexNumbers'. -/
def lexNumbersCard : Claim7 := { stood := { row := lexNumbersRow, standIns := [], harness := (true, "de7d3e5c0814cddb16ccba64ab61a8e6124a3586878dd6b9daa77076c38e360d"), looks := false }, kinds := [], alts := [], laidByText := true, laidKinds := [.listed, .data], laidTests := true, laidLooks := .later }
def LexNumbersCardSaid : Prop := Claim7.holds Tryd.pinned (.plain (OpenSpec.ofChange lexNumbersSpec)) lexNumbersCard

/-- THE TIED CARD OF 'baizelaw09.LexNames'. -/
def lexNamesCard : Claim7 := { stood := { row := lexNamesRow, standIns := [], harness := (true, "de7d3e5c0814cddb16ccba64ab61a8e6124a3586878dd6b9daa77076c38e360d"), looks := false }, kinds := [], alts := [], laidByText := true, laidKinds := [.listed, .data], laidTests := true, laidLooks := .later }
def LexNamesCardSaid : Prop := Claim7.holds Tryd.pinned (.plain (OpenSpec.ofChange lexNamesSpec)) lexNamesCard

/-- THE TIED CARD OF 'baizelaw09.LexBlanks'. -/
def lexBlanksCard : Claim7 := { stood := { row := lexBlanksRow, standIns := [], harness := (true, "de7d3e5c0814cddb16ccba64ab61a8e6124a3586878dd6b9daa77076c38e360d"), looks := false }, kinds := [], alts := [], laidByText := true, laidKinds := [.listed, .data], laidTests := true, laidLooks := .later }
def LexBlanksCardSaid : Prop := Claim7.holds Tryd.pinned (.plain (OpenSpec.ofChange lexBlanksSpec)) lexBlanksCard

/-- THE TIED CARD OF 'baizelaw09.LexTwo'. -/
def lexTwoCard : Claim7 := { stood := { row := lexTwoRow, standIns := [], harness := (true, "de7d3e5c0814cddb16ccba64ab61a8e6124a3586878dd6b9daa77076c38e360d"), looks := false }, kinds := [], alts := [], laidByText := true, laidKinds := [.listed, .data], laidTests := true, laidLooks := .later }
def LexTwoCardSaid : Prop := Claim7.holds Tryd.pinned (.plain (OpenSpec.ofChange lexTwoSpec)) lexTwoCard

/-- THE TIED CARD OF 'baizelaw09.LexJoins'. -/
def lexJoinsCard : Claim7 := { stood := { row := lexJoinsRow, standIns := [], harness := (true, "de7d3e5c0814cddb16ccba64ab61a8e6124a3586878dd6b9daa77076c38e360d"), looks := false }, kinds := [], alts := [], laidByText := true, laidKinds := [.listed, .data], laidTests := true, laidLooks := .later }
def LexJoinsCardSaid : Prop := Claim7.holds Tryd.pinned (.plain (OpenSpec.ofChange lexJoinsSpec)) lexJoinsCard

/-- THE SECOND FORM's CARD OF 'baizelaw09.LexPlaces'. -/
def lexPlacesUptoCard : Claim7 := { stood := { row := lexPlacesUptoRow, standIns := [], harness := (true, "de7d3e5c0814cddb16ccba64ab61a8e6124a3586878dd6b9daa77076c38e360d"), looks := false }, kinds := [], alts := [], laidByText := true, laidKinds := [.listed, .data], laidTests := true, laidLooks := .later }
def LexPlacesUptoCardSaid : Prop := Claim7.holds Tryd.pinned (.plain (OpenSpec.upto lexPlacesSpec)) lexPlacesUptoCard

/-- THE SECOND FORM's CARD OF 'baizelaw09.LexMarks'. -/
def lexMarksUptoCard : Claim7 := { stood := { row := lexMarksUptoRow, standIns := [], harness := (true, "de7d3e5c0814cddb16ccba64ab61a8e6124a3586878dd6b9daa77076c38e360d"), looks := false }, kinds := [], alts := [], laidByText := true, laidKinds := [.listed, .data], laidTests := true, laidLooks := .later }
def LexMarksUptoCardSaid : Prop := Claim7.holds Tryd.pinned (.plain (OpenSpec.upto lexMarksSpec)) lexMarksUptoCard

/-- THE SECOND FORM's CARD OF 'baizelaw09.LexNumbers'. -/
def lexNumbersUptoCard : Claim7 := { stood := { row := lexNumbersUptoRow, standIns := [], harness := (true, "de7d3e5c0814cddb16ccba64ab61a8e6124a3586878dd6b9daa77076c38e360d"), looks := false }, kinds := [], alts := [], laidByText := true, laidKinds := [.listed, .data], laidTests := true, laidLooks := .later }
def LexNumbersUptoCardSaid : Prop := Claim7.holds Tryd.pinned (.plain (OpenSpec.upto lexNumbersSpec)) lexNumbersUptoCard

/-- THE SECOND FORM's CARD OF 'baizelaw09.LexNames'. -/
def lexNamesUptoCard : Claim7 := { stood := { row := lexNamesUptoRow, standIns := [], harness := (true, "de7d3e5c0814cddb16ccba64ab61a8e6124a3586878dd6b9daa77076c38e360d"), looks := false }, kinds := [], alts := [], laidByText := true, laidKinds := [.listed, .data], laidTests := true, laidLooks := .later }
def LexNamesUptoCardSaid : Prop := Claim7.holds Tryd.pinned (.plain (OpenSpec.upto lexNamesSpec)) lexNamesUptoCard

/-- THE SECOND FORM's CARD OF 'baizelaw09.LexBlanks'. -/
def lexBlanksUptoCard : Claim7 := { stood := { row := lexBlanksUptoRow, standIns := [], harness := (true, "de7d3e5c0814cddb16ccba64ab61a8e6124a3586878dd6b9daa77076c38e360d"), looks := false }, kinds := [], alts := [], laidByText := true, laidKinds := [.listed, .data], laidTests := true, laidLooks := .later }
def LexBlanksUptoCardSaid : Prop := Claim7.holds Tryd.pinned (.plain (OpenSpec.upto lexBlanksSpec)) lexBlanksUptoCard

/-- THE SECOND FORM's CARD OF 'baizelaw09.LexTwo'. -/
def lexTwoUptoCard : Claim7 := { stood := { row := lexTwoUptoRow, standIns := [], harness := (true, "de7d3e5c0814cddb16ccba64ab61a8e6124a3586878dd6b9daa77076c38e360d"), looks := false }, kinds := [], alts := [], laidByText := true, laidKinds := [.listed, .data], laidTests := true, laidLooks := .later }
def LexTwoUptoCardSaid : Prop := Claim7.holds Tryd.pinned (.plain (OpenSpec.upto lexTwoSpec)) lexTwoUptoCard

/-- THE SECOND FORM's CARD OF 'baizelaw09.LexJoins'. -/
def lexJoinsUptoCard : Claim7 := { stood := { row := lexJoinsUptoRow, standIns := [], harness := (true, "de7d3e5c0814cddb16ccba64ab61a8e6124a3586878dd6b9daa77076c38e360d"), looks := false }, kinds := [], alts := [], laidByText := true, laidKinds := [.listed, .data], laidTests := true, laidLooks := .later }
def LexJoinsUptoCardSaid : Prop := Claim7.holds Tryd.pinned (.plain (OpenSpec.upto lexJoinsSpec)) lexJoinsUptoCard
end Rows
end Go.Proofs.YtlfckmekfncboaaDoor
