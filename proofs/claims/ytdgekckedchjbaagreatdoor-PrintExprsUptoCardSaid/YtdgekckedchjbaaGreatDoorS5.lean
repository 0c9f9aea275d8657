
/-
  The parser's plain. (Printed by wip/tools/gens5.py.)
-/
import Derived.Test.YtdgekckedchjbaaGreatDoorS5B
import Derived.Test.YtdgekckedchjbaaGreatDoorS5C
import Derived.Test.YtdgekckedchjbaaGreatDoorS5D
import Derived.Test.YtdgekckedchjbaaGreatDoorS5E
import Derived.Test.YtdgekckedchjbaaGreatDoorS5F
import Derived.Test.YtdgekckedchjbaaGreatDoorS5G
namespace Go.Proofs.YtdgekckedchjbaaGreatDoor
open Go.RowKit

theorem plain_any (g c : Nat) (A : Option Addr) (m : Nat → Nat) (ts : List Tk) (dp : Int) (d : Nat) (H : ∀ q, d = q + 1 → PlainC g c A m ts dp q ∧ JoinC g c A m ts dp q 5) : PlainC g c A m ts dp d := by
  intro deep i w hd h0 h
  obtain ⟨t, ht⟩ := ParS.at_some h.at_
  cases hb : openB t 0 with
  | false => exact plain_shut g c A m ts dp d deep i w hd h0 h t ht hb
  | true =>
    rcases d with _ | d
    · exact plain_deep0 g c A m ts dp deep i w hd h0 h t ht hb
    · obtain ⟨PC, JC⟩ := H d rfl
      by_cases h2 : t.kind = 2
      · exact plain_num g c A m ts dp d PC JC deep i w hd h0 h t ht hb h2
      · by_cases h1 : t.kind = 1
        · cases h91 : hasT [91] (ts.drop (i + 1)) with
          | false => exact plain_nam g c A m ts dp d PC JC deep i w hd h0 h t ht hb h1 h91
          | true => exact plain_idx g c A m ts dp d PC JC deep i w hd h0 h t ht hb h1 h91
        · rcases open_text (r := []) (by rw [← openB_T]; exact hb) h2 h1 with e | e | e
          · exact plain_par g c A m ts dp d PC JC deep i w hd h0 h t ht hb h2 h1 e
          · exact plain_neg g c A m ts dp d PC JC deep i w hd h0 h t ht hb h2 h1 e
          · exact plain_non g c A m ts dp d PC JC deep i w hd h0 h t ht hb h2 h1 e
end Go.Proofs.YtdgekckedchjbaaGreatDoor
