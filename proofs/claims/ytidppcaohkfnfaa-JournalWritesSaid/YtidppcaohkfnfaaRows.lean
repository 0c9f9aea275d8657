/-
  No cell of these rows narrows 'for every input' (looked for: loops, veiled, ifaces, maps, wideKeys, modest, calm, conditions, laid).
  DERIVED. THE GIVEN ROWS OF THIS SEAT. 8 by the template 'for every input the law returns true; each argument reads behind the call as it read before'; 0 by the template 'total and deterministic' (their statements: YtidppcaohkfnfaaTotals.lean).
  GIVEN WITH THE SEED: the statements are not yours to turn. If you find one false, say at which input.
  Laid BY PROGRAM, IN A SANDBOX (cutbox-rows.mjs): the forced cells as the released guide's own fill.sh prints them over the translation e9c7ecfa785c2e83… (all of the seat's roots in one cut). By AI agents, Wed Nov 11 2026. No macro, syntax, notation, axiom, sorry.
-/
import Derived.Test.YtidppcaohkfnfaaChecked
import GoSem.Claim
import GoSem.ClaimJoined
import GoSem.ClaimMapViews
import Derived.JoinedTies
import Derived.KernelRfl
namespace Go.Proofs.Ytidppcaohkfnfaa
/- THE CELL 'sum', in the pinned program and in every row, IS THE sha256 OF THE DUMP (.gsa) THAT YtidppcaohkfnfaaProg.lean LOADS. Nothing in Lean hashes anything: it is a label: what it is worth is what the hold of that sum in a sandbox is worth. -/
noncomputable def Try.pinned : Pinned := { name := "ytidppcaohkfnfaa", sum := "e9c7ecfa785c2e83c38e943269df1a0d47db04f63d9a10c069b0861947005cb3", checked := Try.checked }
namespace Rows
def none {H : Type} : Left H := { results := [], args := [] }

/-- 'baizelaw41.JournalSame': WHATEVER THE INPUT: true; the input reads as it did. -/
def journalSameSpec : ChangeSpec := { name := "journalSame", fn := fun _ => fun
  | [d1, d2] => { results := [.lit (.bool true)], args := [d1, d2] }
  | _ => none }
def journalSameRow : OpenClaim := { program := "ytidppcaohkfnfaa", sum := "e9c7ecfa785c2e83c38e943269df1a0d47db04f63d9a10c069b0861947005cb3", func := "baize/baizelaw41.JournalSame", spec := "journalSame", unfollowed := true, recurses := true, plainKeys := false, apart := false }
def JournalSameSaid : Prop := journalSameRow.holds Try.pinned (OpenSpec.ofChange journalSameSpec)

/-- ITS FALSE NEIGHBOUR: 'it returns false'. Refute it at one input. -/
def journalSameWrong : ChangeSpec := { name := "journalSame", fn := fun _ => fun
  | [d1, d2] => { results := [.lit (.bool false)], args := [d1, d2] }
  | _ => none }
def JournalSameWrongFalsely : Prop := journalSameRow.holds Try.pinned (OpenSpec.ofChange journalSameWrong)

/-- 'baizelaw41.JournalOpens': WHATEVER THE INPUT: true; the input reads as it did. -/
def journalOpensSpec : ChangeSpec := { name := "journalOpens", fn := fun _ => fun
  | [d] => { results := [.lit (.bool true)], args := [d] }
  | _ => none }
def journalOpensRow : OpenClaim := { program := "ytidppcaohkfnfaa", sum := "e9c7ecfa785c2e83c38e943269df1a0d47db04f63d9a10c069b0861947005cb3", func := "baize/baizelaw41.JournalOpens", spec := "journalOpens", unfollowed := true, recurses := true, plainKeys := false, apart := false }
def JournalOpensSaid : Prop := journalOpensRow.holds Try.pinned (OpenSpec.ofChange journalOpensSpec)

/-- ITS FALSE NEIGHBOUR: 'it returns false'. Refute it at one input. -/
def journalOpensWrong : ChangeSpec := { name := "journalOpens", fn := fun _ => fun
  | [d] => { results := [.lit (.bool false)], args := [d] }
  | _ => none }
def JournalOpensWrongFalsely : Prop := journalOpensRow.holds Try.pinned (OpenSpec.ofChange journalOpensWrong)

/-- 'baizelaw41.JournalCrash': WHATEVER THE INPUT: true; the input reads as it did. -/
def journalCrashSpec : ChangeSpec := { name := "journalCrash", fn := fun _ => fun
  | [d1, d2, d3] => { results := [.lit (.bool true)], args := [d1, d2, d3] }
  | _ => none }
def journalCrashRow : OpenClaim := { program := "ytidppcaohkfnfaa", sum := "e9c7ecfa785c2e83c38e943269df1a0d47db04f63d9a10c069b0861947005cb3", func := "baize/baizelaw41.JournalCrash", spec := "journalCrash", unfollowed := true, recurses := true, plainKeys := false, apart := false }
def JournalCrashSaid : Prop := journalCrashRow.holds Try.pinned (OpenSpec.ofChange journalCrashSpec)

/-- ITS FALSE NEIGHBOUR: 'it returns false'. Refute it at one input. -/
def journalCrashWrong : ChangeSpec := { name := "journalCrash", fn := fun _ => fun
  | [d1, d2, d3] => { results := [.lit (.bool false)], args := [d1, d2, d3] }
  | _ => none }
def JournalCrashWrongFalsely : Prop := journalCrashRow.holds Try.pinned (OpenSpec.ofChange journalCrashWrong)

/-- 'baizelaw41.JournalTwo': WHATEVER THE INPUT: true; the input reads as it did. -/
def journalTwoSpec : ChangeSpec := { name := "journalTwo", fn := fun _ => fun
  | [d1, d2] => { results := [.lit (.bool true)], args := [d1, d2] }
  | _ => none }
def journalTwoRow : OpenClaim := { program := "ytidppcaohkfnfaa", sum := "e9c7ecfa785c2e83c38e943269df1a0d47db04f63d9a10c069b0861947005cb3", func := "baize/baizelaw41.JournalTwo", spec := "journalTwo", unfollowed := true, recurses := true, plainKeys := false, apart := false }
def JournalTwoSaid : Prop := journalTwoRow.holds Try.pinned (OpenSpec.ofChange journalTwoSpec)

/-- ITS FALSE NEIGHBOUR: 'it returns false'. Refute it at one input. -/
def journalTwoWrong : ChangeSpec := { name := "journalTwo", fn := fun _ => fun
  | [d1, d2] => { results := [.lit (.bool false)], args := [d1, d2] }
  | _ => none }
def JournalTwoWrongFalsely : Prop := journalTwoRow.holds Try.pinned (OpenSpec.ofChange journalTwoWrong)

/-- 'baizelaw41.JournalApart': WHATEVER THE INPUT: true; the input reads as it did. -/
def journalApartSpec : ChangeSpec := { name := "journalApart", fn := fun _ => fun
  | [d1, d2] => { results := [.lit (.bool true)], args := [d1, d2] }
  | _ => none }
def journalApartRow : OpenClaim := { program := "ytidppcaohkfnfaa", sum := "e9c7ecfa785c2e83c38e943269df1a0d47db04f63d9a10c069b0861947005cb3", func := "baize/baizelaw41.JournalApart", spec := "journalApart", unfollowed := true, recurses := true, plainKeys := false, apart := false }
def JournalApartSaid : Prop := journalApartRow.holds Try.pinned (OpenSpec.ofChange journalApartSpec)

/-- ITS FALSE NEIGHBOUR: 'it returns false'. Refute it at one input. -/
def journalApartWrong : ChangeSpec := { name := "journalApart", fn := fun _ => fun
  | [d1, d2] => { results := [.lit (.bool false)], args := [d1, d2] }
  | _ => none }
def JournalApartWrongFalsely : Prop := journalApartRow.holds Try.pinned (OpenSpec.ofChange journalApartWrong)

/-- 'baizelaw41.JournalLast': WHATEVER THE INPUT: true; the input reads as it did. -/
def journalLastSpec : ChangeSpec := { name := "journalLast", fn := fun _ => fun
  | [d] => { results := [.lit (.bool true)], args := [d] }
  | _ => none }
def journalLastRow : OpenClaim := { program := "ytidppcaohkfnfaa", sum := "e9c7ecfa785c2e83c38e943269df1a0d47db04f63d9a10c069b0861947005cb3", func := "baize/baizelaw41.JournalLast", spec := "journalLast", unfollowed := true, recurses := true, plainKeys := false, apart := false }
def JournalLastSaid : Prop := journalLastRow.holds Try.pinned (OpenSpec.ofChange journalLastSpec)

/-- ITS FALSE NEIGHBOUR: 'it returns false'. Refute it at one input. -/
def journalLastWrong : ChangeSpec := { name := "journalLast", fn := fun _ => fun
  | [d] => { results := [.lit (.bool false)], args := [d] }
  | _ => none }
def JournalLastWrongFalsely : Prop := journalLastRow.holds Try.pinned (OpenSpec.ofChange journalLastWrong)

/-- 'baizelaw41.JournalWrites': WHATEVER THE INPUT: true; the input reads as it did. -/
def journalWritesSpec : ChangeSpec := { name := "journalWrites", fn := fun _ => fun
  | [d1, d2, d3] => { results := [.lit (.bool true)], args := [d1, d2, d3] }
  | _ => none }
def journalWritesRow : OpenClaim := { program := "ytidppcaohkfnfaa", sum := "e9c7ecfa785c2e83c38e943269df1a0d47db04f63d9a10c069b0861947005cb3", func := "baize/baizelaw41.JournalWrites", spec := "journalWrites", unfollowed := true, recurses := true, plainKeys := false, apart := false }
def JournalWritesSaid : Prop := journalWritesRow.holds Try.pinned (OpenSpec.ofChange journalWritesSpec)

/-- ITS FALSE NEIGHBOUR: 'it returns false'. Refute it at one input. -/
def journalWritesWrong : ChangeSpec := { name := "journalWrites", fn := fun _ => fun
  | [d1, d2, d3] => { results := [.lit (.bool false)], args := [d1, d2, d3] }
  | _ => none }
def JournalWritesWrongFalsely : Prop := journalWritesRow.holds Try.pinned (OpenSpec.ofChange journalWritesWrong)

/-- 'baizelaw41.JournalNil': WHATEVER THE INPUT: true; the input reads as it did. -/
def journalNilSpec : ChangeSpec := { name := "journalNil", fn := fun _ => fun
  | [d] => { results := [.lit (.bool true)], args := [d] }
  | _ => none }
def journalNilRow : OpenClaim := { program := "ytidppcaohkfnfaa", sum := "e9c7ecfa785c2e83c38e943269df1a0d47db04f63d9a10c069b0861947005cb3", func := "baize/baizelaw41.JournalNil", spec := "journalNil", unfollowed := true, recurses := true, plainKeys := false, apart := false }
def JournalNilSaid : Prop := journalNilRow.holds Try.pinned (OpenSpec.ofChange journalNilSpec)

/-- ITS FALSE NEIGHBOUR: 'it returns false'. Refute it at one input. -/
def journalNilWrong : ChangeSpec := { name := "journalNil", fn := fun _ => fun
  | [d] => { results := [.lit (.bool false)], args := [d] }
  | _ => none }
def JournalNilWrongFalsely : Prop := journalNilRow.holds Try.pinned (OpenSpec.ofChange journalNilWrong)

/- THE SECOND FORM. 'bulk': how many values and letters a reading holds, each counted each time it is reached (what is shared counts as often as it is met; a slice's spare places count too). A statement '..UptoSaid' is the law's where the arguments, and the package variables that the reading takes, are together of bulk at most 1048576: NARROWER than '..Said'. Prove '..Said' where nothing that the law and all that it calls make is longer than what came in: it says more and counts as full. Else prove '..UptoSaid'. A law counts once. -/
mutual
def uptoBulk {H : Type} : DataW H → Nat
  | .lit (.string bytes) => bytes.length + 1
  | .lit _ => 1
  | .nil => 1
  | .ptr d => uptoBulk d + 1
  | .slice elems spare => uptoBulkAll elems + uptoBulkAll spare + 1
  | .agg parts => uptoBulkAll parts + 1
  | .iface _ d => uptoBulk d + 1
  | .map entries => uptoBulkEntries entries + 1
  | .held _ => 1
def uptoBulkAll {H : Type} : List (DataW H) → Nat
  | [] => 0
  | d :: r => uptoBulk d + uptoBulkAll r
def uptoBulkEntries {H : Type} : List (Lit × DataW H) → Nat
  | [] => 0
  | x :: r => uptoBulkEntry x + uptoBulkEntries r
def uptoBulkEntry {H : Type} : Lit × DataW H → Nat
  | (.string bytes, d) => bytes.length + uptoBulk d + 1
  | (_, d) => uptoBulk d + 1
 end
def uptoSmall : (H : Type) → List (DataW H) → Bool := fun _ ds => decide (uptoBulkAll ds ≤ 1048576)
def OpenSpec.upto (s : _root_.Go.ChangeSpec) : _root_.Go.OpenSpec := { _root_.Go.OpenSpec.ofChange s with cond := some uptoSmall }

/-- 'baizelaw41.JournalSame', WHERE WHAT IT READS IS OF BULK AT MOST 1048576: true; the input reads as it did. -/
def journalSameUptoRow : OpenClaim := { program := "ytidppcaohkfnfaa", sum := "e9c7ecfa785c2e83c38e943269df1a0d47db04f63d9a10c069b0861947005cb3", func := "baize/baizelaw41.JournalSame", spec := "journalSame", unfollowed := true, recurses := true, plainKeys := false, apart := false, narrowed := true }
def JournalSameUptoSaid : Prop := journalSameUptoRow.holds Try.pinned (OpenSpec.upto journalSameSpec)

/-- 'baizelaw41.JournalOpens', WHERE WHAT IT READS IS OF BULK AT MOST 1048576: true; the input reads as it did. -/
def journalOpensUptoRow : OpenClaim := { program := "ytidppcaohkfnfaa", sum := "e9c7ecfa785c2e83c38e943269df1a0d47db04f63d9a10c069b0861947005cb3", func := "baize/baizelaw41.JournalOpens", spec := "journalOpens", unfollowed := true, recurses := true, plainKeys := false, apart := false, narrowed := true }
def JournalOpensUptoSaid : Prop := journalOpensUptoRow.holds Try.pinned (OpenSpec.upto journalOpensSpec)

/-- 'baizelaw41.JournalCrash', WHERE WHAT IT READS IS OF BULK AT MOST 1048576: true; the input reads as it did. -/
def journalCrashUptoRow : OpenClaim := { program := "ytidppcaohkfnfaa", sum := "e9c7ecfa785c2e83c38e943269df1a0d47db04f63d9a10c069b0861947005cb3", func := "baize/baizelaw41.JournalCrash", spec := "journalCrash", unfollowed := true, recurses := true, plainKeys := false, apart := false, narrowed := true }
def JournalCrashUptoSaid : Prop := journalCrashUptoRow.holds Try.pinned (OpenSpec.upto journalCrashSpec)

/-- 'baizelaw41.JournalTwo', WHERE WHAT IT READS IS OF BULK AT MOST 1048576: true; the input reads as it did. -/
def journalTwoUptoRow : OpenClaim := { program := "ytidppcaohkfnfaa", sum := "e9c7ecfa785c2e83c38e943269df1a0d47db04f63d9a10c069b0861947005cb3", func := "baize/baizelaw41.JournalTwo", spec := "journalTwo", unfollowed := true, recurses := true, plainKeys := false, apart := false, narrowed := true }
def JournalTwoUptoSaid : Prop := journalTwoUptoRow.holds Try.pinned (OpenSpec.upto journalTwoSpec)

/-- 'baizelaw41.JournalApart', WHERE WHAT IT READS IS OF BULK AT MOST 1048576: true; the input reads as it did. -/
def journalApartUptoRow : OpenClaim := { program := "ytidppcaohkfnfaa", sum := "e9c7ecfa785c2e83c38e943269df1a0d47db04f63d9a10c069b0861947005cb3", func := "baize/baizelaw41.JournalApart", spec := "journalApart", unfollowed := true, recurses := true, plainKeys := false, apart := false, narrowed := true }
def JournalApartUptoSaid : Prop := journalApartUptoRow.holds Try.pinned (OpenSpec.upto journalApartSpec)

/-- 'baizelaw41.JournalLast', WHERE WHAT IT READS IS OF BULK AT MOST 1048576: true; the input reads as it did. -/
def journalLastUptoRow : OpenClaim := { program := "ytidppcaohkfnfaa", sum := "e9c7ecfa785c2e83c38e943269df1a0d47db04f63d9a10c069b0861947005cb3", func := "baize/baizelaw41.JournalLast", spec := "journalLast", unfollowed := true, recurses := true, plainKeys := false, apart := false, narrowed := true }
def JournalLastUptoSaid : Prop := journalLastUptoRow.holds Try.pinned (OpenSpec.upto journalLastSpec)

/-- 'baizelaw41.JournalWrites', WHERE WHAT IT READS IS OF BULK AT MOST 1048576: true; the input reads as it did. -/
def journalWritesUptoRow : OpenClaim := { program := "ytidppcaohkfnfaa", sum := "e9c7ecfa785c2e83c38e943269df1a0d47db04f63d9a10c069b0861947005cb3", func := "baize/baizelaw41.JournalWrites", spec := "journalWrites", unfollowed := true, recurses := true, plainKeys := false, apart := false, narrowed := true }
def JournalWritesUptoSaid : Prop := journalWritesUptoRow.holds Try.pinned (OpenSpec.upto journalWritesSpec)

/-- 'baizelaw41.JournalNil', WHERE WHAT IT READS IS OF BULK AT MOST 1048576: true; the input reads as it did. -/
def journalNilUptoRow : OpenClaim := { program := "ytidppcaohkfnfaa", sum := "e9c7ecfa785c2e83c38e943269df1a0d47db04f63d9a10c069b0861947005cb3", func := "baize/baizelaw41.JournalNil", spec := "journalNil", unfollowed := true, recurses := true, plainKeys := false, apart := false, narrowed := true }
def JournalNilUptoSaid : Prop := journalNilUptoRow.holds Try.pinned (OpenSpec.upto journalNilSpec)

end Rows
end Go.Proofs.Ytidppcaohkfnfaa
