/-
  No cell of these rows narrows 'for every input' (looked for: loops, veiled, ifaces, maps, wideKeys, modest, calm, conditions, laid).
  DERIVED. THE GIVEN ROWS OF THIS SEAT. 6 by the template 'for every input the law returns true; each argument reads behind the call as it read before'; 0 by the template 'total and deterministic' (their statements: YtdbffjipoiphpaaTotals.lean).
  GIVEN WITH THE SEED: the statements are not yours to turn. If you find one false, say at which input.
  Laid BY PROGRAM, IN A SANDBOX (cutbox-rows.mjs): the forced cells as the released guide's own fill.sh prints them over the translation 991ea2cbcbd27510… (all of the seat's roots in one cut). By AI agents, Wed Nov 11 2026. No macro, syntax, notation, axiom, sorry.
-/
import Derived.Test.YtdbffjipoiphpaaChecked
import GoSem.Claim
import GoSem.ClaimJoined
import GoSem.ClaimMapViews
import Derived.JoinedTies
import Derived.KernelRfl
namespace Go.Proofs.Ytdbffjipoiphpaa
/- THE CELL 'sum', in the pinned program and in every row, IS THE sha256 OF THE DUMP (.gsa) THAT YtdbffjipoiphpaaProg.lean LOADS. Nothing in Lean hashes anything: it is a label: what it is worth is what the hold of that sum in a sandbox is worth. -/
noncomputable def Try.pinned : Pinned := { name := "ytdbffjipoiphpaa", sum := "991ea2cbcbd275102134c43a999f639cd5c7cbb90ee4073255a020ea4b7f91de", checked := Try.checked }
namespace Rows
def none {H : Type} : Left H := { results := [], args := [] }

/-- 'baizelaw37.TopupSums': WHATEVER THE INPUT: true; the input reads as it did. -/
def topupSumsSpec : ChangeSpec := { name := "topupSums", fn := fun _ => fun
  | [d1, d2] => { results := [.lit (.bool true)], args := [d1, d2] }
  | _ => none }
def topupSumsRow : OpenClaim := { program := "ytdbffjipoiphpaa", sum := "991ea2cbcbd275102134c43a999f639cd5c7cbb90ee4073255a020ea4b7f91de", func := "baize/baizelaw37.TopupSums", spec := "topupSums", unfollowed := true, recurses := true, apart := false }
def TopupSumsSaid : Prop := topupSumsRow.holds Try.pinned (OpenSpec.ofChange topupSumsSpec)

/-- ITS FALSE NEIGHBOUR: 'it returns false'. Refute it at one input. -/
def topupSumsWrong : ChangeSpec := { name := "topupSums", fn := fun _ => fun
  | [d1, d2] => { results := [.lit (.bool false)], args := [d1, d2] }
  | _ => none }
def TopupSumsWrongFalsely : Prop := topupSumsRow.holds Try.pinned (OpenSpec.ofChange topupSumsWrong)

/-- 'baizelaw37.TopupAll': WHATEVER THE INPUT: true; the input reads as it did. -/
def topupAllSpec : ChangeSpec := { name := "topupAll", fn := fun _ => fun
  | [d1, d2, d3] => { results := [.lit (.bool true)], args := [d1, d2, d3] }
  | _ => none }
def topupAllRow : OpenClaim := { program := "ytdbffjipoiphpaa", sum := "991ea2cbcbd275102134c43a999f639cd5c7cbb90ee4073255a020ea4b7f91de", func := "baize/baizelaw37.TopupAll", spec := "topupAll", unfollowed := true, recurses := true, apart := false }
def TopupAllSaid : Prop := topupAllRow.holds Try.pinned (OpenSpec.ofChange topupAllSpec)

/-- ITS FALSE NEIGHBOUR: 'it returns false'. Refute it at one input. -/
def topupAllWrong : ChangeSpec := { name := "topupAll", fn := fun _ => fun
  | [d1, d2, d3] => { results := [.lit (.bool false)], args := [d1, d2, d3] }
  | _ => none }
def TopupAllWrongFalsely : Prop := topupAllRow.holds Try.pinned (OpenSpec.ofChange topupAllWrong)

/-- 'baizelaw37.TopupOrder': WHATEVER THE INPUT: true; the input reads as it did. -/
def topupOrderSpec : ChangeSpec := { name := "topupOrder", fn := fun _ => fun
  | [d1, d2, d3] => { results := [.lit (.bool true)], args := [d1, d2, d3] }
  | _ => none }
def topupOrderRow : OpenClaim := { program := "ytdbffjipoiphpaa", sum := "991ea2cbcbd275102134c43a999f639cd5c7cbb90ee4073255a020ea4b7f91de", func := "baize/baizelaw37.TopupOrder", spec := "topupOrder", unfollowed := true, recurses := true, apart := false }
def TopupOrderSaid : Prop := topupOrderRow.holds Try.pinned (OpenSpec.ofChange topupOrderSpec)

/-- ITS FALSE NEIGHBOUR: 'it returns false'. Refute it at one input. -/
def topupOrderWrong : ChangeSpec := { name := "topupOrder", fn := fun _ => fun
  | [d1, d2, d3] => { results := [.lit (.bool false)], args := [d1, d2, d3] }
  | _ => none }
def TopupOrderWrongFalsely : Prop := topupOrderRow.holds Try.pinned (OpenSpec.ofChange topupOrderWrong)

/-- 'baizelaw37.TopupApart': WHATEVER THE INPUT: true; the input reads as it did. -/
def topupApartSpec : ChangeSpec := { name := "topupApart", fn := fun _ => fun
  | [d1, d2, d3] => { results := [.lit (.bool true)], args := [d1, d2, d3] }
  | _ => none }
def topupApartRow : OpenClaim := { program := "ytdbffjipoiphpaa", sum := "991ea2cbcbd275102134c43a999f639cd5c7cbb90ee4073255a020ea4b7f91de", func := "baize/baizelaw37.TopupApart", spec := "topupApart", unfollowed := true, recurses := true, apart := false }
def TopupApartSaid : Prop := topupApartRow.holds Try.pinned (OpenSpec.ofChange topupApartSpec)

/-- ITS FALSE NEIGHBOUR: 'it returns false'. Refute it at one input. -/
def topupApartWrong : ChangeSpec := { name := "topupApart", fn := fun _ => fun
  | [d1, d2, d3] => { results := [.lit (.bool false)], args := [d1, d2, d3] }
  | _ => none }
def TopupApartWrongFalsely : Prop := topupApartRow.holds Try.pinned (OpenSpec.ofChange topupApartWrong)

/-- 'baizelaw37.TopupNil': WHATEVER THE INPUT: true; the input reads as it did. -/
def topupNilSpec : ChangeSpec := { name := "topupNil", fn := fun _ => fun
  | [d] => { results := [.lit (.bool true)], args := [d] }
  | _ => none }
def topupNilRow : OpenClaim := { program := "ytdbffjipoiphpaa", sum := "991ea2cbcbd275102134c43a999f639cd5c7cbb90ee4073255a020ea4b7f91de", func := "baize/baizelaw37.TopupNil", spec := "topupNil", unfollowed := true, recurses := true, apart := false }
def TopupNilSaid : Prop := topupNilRow.holds Try.pinned (OpenSpec.ofChange topupNilSpec)

/-- ITS FALSE NEIGHBOUR: 'it returns false'. Refute it at one input. -/
def topupNilWrong : ChangeSpec := { name := "topupNil", fn := fun _ => fun
  | [d] => { results := [.lit (.bool false)], args := [d] }
  | _ => none }
def TopupNilWrongFalsely : Prop := topupNilRow.holds Try.pinned (OpenSpec.ofChange topupNilWrong)

/-- 'baizelaw37.TopupDigests': WHATEVER THE INPUT: true; the input reads as it did. -/
def topupDigestsSpec : ChangeSpec := { name := "topupDigests", fn := fun _ => fun
  | [d1, d2, d3] => { results := [.lit (.bool true)], args := [d1, d2, d3] }
  | _ => none }
def topupDigestsRow : OpenClaim := { program := "ytdbffjipoiphpaa", sum := "991ea2cbcbd275102134c43a999f639cd5c7cbb90ee4073255a020ea4b7f91de", func := "baize/baizelaw37.TopupDigests", spec := "topupDigests", unfollowed := true, recurses := true, apart := false }
def TopupDigestsSaid : Prop := topupDigestsRow.holds Try.pinned (OpenSpec.ofChange topupDigestsSpec)

/-- ITS FALSE NEIGHBOUR: 'it returns false'. Refute it at one input. -/
def topupDigestsWrong : ChangeSpec := { name := "topupDigests", fn := fun _ => fun
  | [d1, d2, d3] => { results := [.lit (.bool false)], args := [d1, d2, d3] }
  | _ => none }
def TopupDigestsWrongFalsely : Prop := topupDigestsRow.holds Try.pinned (OpenSpec.ofChange topupDigestsWrong)

/- THE SECOND FORM. 'bulk': how many values and letters a reading holds, each counted each time it is reached (what is shared counts as often as it is met; a slice's spare places count too). A statement '..UptoSaid' is the law's where the arguments, and the package variables that the reading takes, are together of bulk at most 1048576: NARROWER than '..Said'. Prove '..Said' where nothing that the law and all that it calls make is longer than what came in: it says more and counts as full. Else prove '..UptoSaid'. A law counts once. -/
mutual
def uptoBulk {H : Type} : DataW H → Nat
  | .lit (.string bytes) => bytes.length + 1
  | .lit _ => 1
  | .nil => 1
  | .ptr d => uptoBulk d + 1
  | .slice elems spare => uptoBulkAll elems + uptoBulkAll spare + 1
  | .agg parts => uptoBulkAll parts + 1
  | .iface _ d => uptoBulk d + 1
  | .map entries => uptoBulkEntries entries + 1
  | .held _ => 1
def uptoBulkAll {H : Type} : List (DataW H) → Nat
  | [] => 0
  | d :: r => uptoBulk d + uptoBulkAll r
def uptoBulkEntries {H : Type} : List (Lit × DataW H) → Nat
  | [] => 0
  | x :: r => uptoBulkEntry x + uptoBulkEntries r
def uptoBulkEntry {H : Type} : Lit × DataW H → Nat
  | (.string bytes, d) => bytes.length + uptoBulk d + 1
  | (_, d) => uptoBulk d + 1
 end
def uptoSmall : (H : Type) → List (DataW H) → Bool := fun _ ds => decide (uptoBulkAll ds ≤ 1048576)
def OpenSpec.upto (s : _root_.Go.ChangeSpec) : _root_.Go.OpenSpec := { _root_.Go.OpenSpec.ofChange s with cond := some uptoSmall }

/-- 'baizelaw37.TopupSums', WHERE WHAT IT READS IS OF BULK AT MOST 1048576: true; the input reads as it did. -/
def topupSumsUptoRow : OpenClaim := { program := "ytdbffjipoiphpaa", sum := "991ea2cbcbd275102134c43a999f639cd5c7cbb90ee4073255a020ea4b7f91de", func := "baize/baizelaw37.TopupSums", spec := "topupSums", unfollowed := true, recurses := true, apart := false, narrowed := true }
def TopupSumsUptoSaid : Prop := topupSumsUptoRow.holds Try.pinned (OpenSpec.upto topupSumsSpec)

/-- 'baizelaw37.TopupAll', WHERE WHAT IT READS IS OF BULK AT MOST 1048576: true; the input reads as it did. -/
def topupAllUptoRow : OpenClaim := { program := "ytdbffjipoiphpaa", sum := "991ea2cbcbd275102134c43a999f639cd5c7cbb90ee4073255a020ea4b7f91de", func := "baize/baizelaw37.TopupAll", spec := "topupAll", unfollowed := true, recurses := true, apart := false, narrowed := true }
def TopupAllUptoSaid : Prop := topupAllUptoRow.holds Try.pinned (OpenSpec.upto topupAllSpec)

/-- 'baizelaw37.TopupOrder', WHERE WHAT IT READS IS OF BULK AT MOST 1048576: true; the input reads as it did. -/
def topupOrderUptoRow : OpenClaim := { program := "ytdbffjipoiphpaa", sum := "991ea2cbcbd275102134c43a999f639cd5c7cbb90ee4073255a020ea4b7f91de", func := "baize/baizelaw37.TopupOrder", spec := "topupOrder", unfollowed := true, recurses := true, apart := false, narrowed := true }
def TopupOrderUptoSaid : Prop := topupOrderUptoRow.holds Try.pinned (OpenSpec.upto topupOrderSpec)

/-- 'baizelaw37.TopupApart', WHERE WHAT IT READS IS OF BULK AT MOST 1048576: true; the input reads as it did. -/
def topupApartUptoRow : OpenClaim := { program := "ytdbffjipoiphpaa", sum := "991ea2cbcbd275102134c43a999f639cd5c7cbb90ee4073255a020ea4b7f91de", func := "baize/baizelaw37.TopupApart", spec := "topupApart", unfollowed := true, recurses := true, apart := false, narrowed := true }
def TopupApartUptoSaid : Prop := topupApartUptoRow.holds Try.pinned (OpenSpec.upto topupApartSpec)

/-- 'baizelaw37.TopupNil', WHERE WHAT IT READS IS OF BULK AT MOST 1048576: true; the input reads as it did. -/
def topupNilUptoRow : OpenClaim := { program := "ytdbffjipoiphpaa", sum := "991ea2cbcbd275102134c43a999f639cd5c7cbb90ee4073255a020ea4b7f91de", func := "baize/baizelaw37.TopupNil", spec := "topupNil", unfollowed := true, recurses := true, apart := false, narrowed := true }
def TopupNilUptoSaid : Prop := topupNilUptoRow.holds Try.pinned (OpenSpec.upto topupNilSpec)

/-- 'baizelaw37.TopupDigests', WHERE WHAT IT READS IS OF BULK AT MOST 1048576: true; the input reads as it did. -/
def topupDigestsUptoRow : OpenClaim := { program := "ytdbffjipoiphpaa", sum := "991ea2cbcbd275102134c43a999f639cd5c7cbb90ee4073255a020ea4b7f91de", func := "baize/baizelaw37.TopupDigests", spec := "topupDigests", unfollowed := true, recurses := true, apart := false, narrowed := true }
def TopupDigestsUptoSaid : Prop := topupDigestsUptoRow.holds Try.pinned (OpenSpec.upto topupDigestsSpec)

end Rows
end Go.Proofs.Ytdbffjipoiphpaa
