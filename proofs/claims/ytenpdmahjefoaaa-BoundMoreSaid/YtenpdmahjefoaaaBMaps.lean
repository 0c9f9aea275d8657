/-
  The tables of package bound.
-/
import Derived.Test.YtenpdmahjefoaaaProg
import Derived.Test.YtenpdmahjefoaaaMapLaws
import Derived.Carry
namespace Go.Proofs.Ytenpdmahjefoaaa
open Go.RowKit

/-- What an operation costs. -/
def tabE : Array MapEntry := #[{ key := .int .i64 0, val := .agg #[.int .i64 1, .bool false], born := 0 }, { key := .int .i64 1, val := .agg #[.int .i64 1, .bool false], born := 1 }, { key := .int .i64 2, val := .agg #[.int .i64 6, .bool true], born := 2 }]
/-- What a kind of statement costs. -/
def tabS : Array MapEntry := #[{ key := .int .i64 0, val := .agg #[.int .i64 3, .bool true], born := 0 }, { key := .int .i64 1, val := .agg #[.int .i64 6, .bool true], born := 1 }, { key := .int .i64 2, val := .agg #[.int .i64 3, .bool true], born := 2 }, { key := .int .i64 3, val := .agg #[.int .i64 3, .bool false], born := 3 }, { key := .int .i64 4, val := .agg #[.int .i64 2, .bool false], born := 4 }, { key := .int .i64 7, val := .agg #[.int .i64 2, .bool false], born := 5 }, { key := .int .i64 5, val := .agg #[.int .i64 4, .bool false], born := 6 }, { key := .int .i64 6, val := .agg #[.int .i64 3, .bool true], born := 7 }, { key := .int .i64 9, val := .agg #[.int .i64 3, .bool true], born := 8 }, { key := .int .i64 8, val := .agg #[.int .i64 8, .bool true], born := 9 }]

set_option maxHeartbeats 2000000 in
set_option maxRecDepth 100000 in
theorem ofExpr_any (w : World) :
    Calls Try.prog 23 #[] w fun e w' => e = .returned (.map (some w.heap.size)) ∧ MapIs w' w.heap.size tabE 3 ∧ Below w.heap.size w w' := by
  have hmm := @run_makeMap Try.prog
  go_enter Try.func23, Try.ntmps23
  go_wp2_with (first
      | (((with_reducible show wpList _ _ _ (⟨none, Op.insert _ _ _ (.tmp 2), _, _, _, _⟩ :: _) _ _); refine wpList_insert_known rfl _ _ _ w.heap.size #[] 0 0 _ rfl rfl Try.underlying44 Try.underlying3 (MapIs.new w) rfl rfl rfl rfl ?_; intro w1 m1 k1))
      | (((with_reducible show wpList _ _ _ (⟨none, Op.insert _ _ _ (.tmp 3), _, _, _, _⟩ :: _) _ _); refine wpList_insert_known rfl _ _ _ w.heap.size #[{ key := .int .i64 0, val := .agg #[.int .i64 1, .bool false], born := 0 }] 1 1 _ rfl rfl Try.underlying44 Try.underlying3 m1 rfl rfl rfl rfl ?_; intro w2 m2 k2))
      | (((with_reducible show wpList _ _ _ (⟨none, Op.insert _ _ _ (.tmp 4), _, _, _, _⟩ :: _) _ _); refine wpList_insert_known rfl _ _ _ w.heap.size #[{ key := .int .i64 0, val := .agg #[.int .i64 1, .bool false], born := 0 }, { key := .int .i64 1, val := .agg #[.int .i64 1, .bool false], born := 1 }] 2 2 _ rfl rfl Try.underlying44 Try.underlying3 m2 rfl rfl rfl rfl ?_; intro w3 m3 k3)))
  go_ret
  exact ⟨rfl, m3, ((Below.refl _ w).al _).trans ((((k1.trans k2).trans k3)).to_below (by simp) (fun z h1 h2 => by omega))⟩

set_option maxHeartbeats 2000000 in
set_option maxRecDepth 100000 in
theorem ofStmt_any (w : World) :
    Calls Try.prog 24 #[] w fun e w' => e = .returned (.map (some w.heap.size)) ∧ MapIs w' w.heap.size tabS 10 ∧ Below w.heap.size w w' := by
  have hmm := @run_makeMap Try.prog
  go_enter Try.func24, Try.ntmps24
  go_wp2_with (first
      | (((with_reducible show wpList _ _ _ (⟨none, Op.insert _ _ _ (.tmp 2), _, _, _, _⟩ :: _) _ _); refine wpList_insert_known rfl _ _ _ w.heap.size #[] 0 0 _ rfl rfl Try.underlying44 Try.underlying3 (MapIs.new w) rfl rfl rfl rfl ?_; intro w1 m1 k1))
      | (((with_reducible show wpList _ _ _ (⟨none, Op.insert _ _ _ (.tmp 3), _, _, _, _⟩ :: _) _ _); refine wpList_insert_known rfl _ _ _ w.heap.size #[{ key := .int .i64 0, val := .agg #[.int .i64 3, .bool true], born := 0 }] 1 1 _ rfl rfl Try.underlying44 Try.underlying3 m1 rfl rfl rfl rfl ?_; intro w2 m2 k2))
      | (((with_reducible show wpList _ _ _ (⟨none, Op.insert _ _ _ (.tmp 4), _, _, _, _⟩ :: _) _ _); refine wpList_insert_known rfl _ _ _ w.heap.size #[{ key := .int .i64 0, val := .agg #[.int .i64 3, .bool true], born := 0 }, { key := .int .i64 1, val := .agg #[.int .i64 6, .bool true], born := 1 }] 2 2 _ rfl rfl Try.underlying44 Try.underlying3 m2 rfl rfl rfl rfl ?_; intro w3 m3 k3))
      | (((with_reducible show wpList _ _ _ (⟨none, Op.insert _ _ _ (.tmp 5), _, _, _, _⟩ :: _) _ _); refine wpList_insert_known rfl _ _ _ w.heap.size #[{ key := .int .i64 0, val := .agg #[.int .i64 3, .bool true], born := 0 }, { key := .int .i64 1, val := .agg #[.int .i64 6, .bool true], born := 1 }, { key := .int .i64 2, val := .agg #[.int .i64 3, .bool true], born := 2 }] 3 3 _ rfl rfl Try.underlying44 Try.underlying3 m3 rfl rfl rfl rfl ?_; intro w4 m4 k4))
      | (((with_reducible show wpList _ _ _ (⟨none, Op.insert _ _ _ (.tmp 6), _, _, _, _⟩ :: _) _ _); refine wpList_insert_known rfl _ _ _ w.heap.size #[{ key := .int .i64 0, val := .agg #[.int .i64 3, .bool true], born := 0 }, { key := .int .i64 1, val := .agg #[.int .i64 6, .bool true], born := 1 }, { key := .int .i64 2, val := .agg #[.int .i64 3, .bool true], born := 2 }, { key := .int .i64 3, val := .agg #[.int .i64 3, .bool false], born := 3 }] 4 4 _ rfl rfl Try.underlying44 Try.underlying3 m4 rfl rfl rfl rfl ?_; intro w5 m5 k5))
      | (((with_reducible show wpList _ _ _ (⟨none, Op.insert _ _ _ (.tmp 7), _, _, _, _⟩ :: _) _ _); refine wpList_insert_known rfl _ _ _ w.heap.size #[{ key := .int .i64 0, val := .agg #[.int .i64 3, .bool true], born := 0 }, { key := .int .i64 1, val := .agg #[.int .i64 6, .bool true], born := 1 }, { key := .int .i64 2, val := .agg #[.int .i64 3, .bool true], born := 2 }, { key := .int .i64 3, val := .agg #[.int .i64 3, .bool false], born := 3 }, { key := .int .i64 4, val := .agg #[.int .i64 2, .bool false], born := 4 }] 5 7 _ rfl rfl Try.underlying44 Try.underlying3 m5 rfl rfl rfl rfl ?_; intro w6 m6 k6))
      | (((with_reducible show wpList _ _ _ (⟨none, Op.insert _ _ _ (.tmp 8), _, _, _, _⟩ :: _) _ _); refine wpList_insert_known rfl _ _ _ w.heap.size #[{ key := .int .i64 0, val := .agg #[.int .i64 3, .bool true], born := 0 }, { key := .int .i64 1, val := .agg #[.int .i64 6, .bool true], born := 1 }, { key := .int .i64 2, val := .agg #[.int .i64 3, .bool true], born := 2 }, { key := .int .i64 3, val := .agg #[.int .i64 3, .bool false], born := 3 }, { key := .int .i64 4, val := .agg #[.int .i64 2, .bool false], born := 4 }, { key := .int .i64 7, val := .agg #[.int .i64 2, .bool false], born := 5 }] 6 5 _ rfl rfl Try.underlying44 Try.underlying3 m6 rfl rfl rfl rfl ?_; intro w7 m7 k7))
      | (((with_reducible show wpList _ _ _ (⟨none, Op.insert _ _ _ (.tmp 9), _, _, _, _⟩ :: _) _ _); refine wpList_insert_known rfl _ _ _ w.heap.size #[{ key := .int .i64 0, val := .agg #[.int .i64 3, .bool true], born := 0 }, { key := .int .i64 1, val := .agg #[.int .i64 6, .bool true], born := 1 }, { key := .int .i64 2, val := .agg #[.int .i64 3, .bool true], born := 2 }, { key := .int .i64 3, val := .agg #[.int .i64 3, .bool false], born := 3 }, { key := .int .i64 4, val := .agg #[.int .i64 2, .bool false], born := 4 }, { key := .int .i64 7, val := .agg #[.int .i64 2, .bool false], born := 5 }, { key := .int .i64 5, val := .agg #[.int .i64 4, .bool false], born := 6 }] 7 6 _ rfl rfl Try.underlying44 Try.underlying3 m7 rfl rfl rfl rfl ?_; intro w8 m8 k8))
      | (((with_reducible show wpList _ _ _ (⟨none, Op.insert _ _ _ (.tmp 10), _, _, _, _⟩ :: _) _ _); refine wpList_insert_known rfl _ _ _ w.heap.size #[{ key := .int .i64 0, val := .agg #[.int .i64 3, .bool true], born := 0 }, { key := .int .i64 1, val := .agg #[.int .i64 6, .bool true], born := 1 }, { key := .int .i64 2, val := .agg #[.int .i64 3, .bool true], born := 2 }, { key := .int .i64 3, val := .agg #[.int .i64 3, .bool false], born := 3 }, { key := .int .i64 4, val := .agg #[.int .i64 2, .bool false], born := 4 }, { key := .int .i64 7, val := .agg #[.int .i64 2, .bool false], born := 5 }, { key := .int .i64 5, val := .agg #[.int .i64 4, .bool false], born := 6 }, { key := .int .i64 6, val := .agg #[.int .i64 3, .bool true], born := 7 }] 8 9 _ rfl rfl Try.underlying44 Try.underlying3 m8 rfl rfl rfl rfl ?_; intro w9 m9 k9))
      | (((with_reducible show wpList _ _ _ (⟨none, Op.insert _ _ _ (.tmp 11), _, _, _, _⟩ :: _) _ _); refine wpList_insert_known rfl _ _ _ w.heap.size #[{ key := .int .i64 0, val := .agg #[.int .i64 3, .bool true], born := 0 }, { key := .int .i64 1, val := .agg #[.int .i64 6, .bool true], born := 1 }, { key := .int .i64 2, val := .agg #[.int .i64 3, .bool true], born := 2 }, { key := .int .i64 3, val := .agg #[.int .i64 3, .bool false], born := 3 }, { key := .int .i64 4, val := .agg #[.int .i64 2, .bool false], born := 4 }, { key := .int .i64 7, val := .agg #[.int .i64 2, .bool false], born := 5 }, { key := .int .i64 5, val := .agg #[.int .i64 4, .bool false], born := 6 }, { key := .int .i64 6, val := .agg #[.int .i64 3, .bool true], born := 7 }, { key := .int .i64 9, val := .agg #[.int .i64 3, .bool true], born := 8 }] 9 8 _ rfl rfl Try.underlying44 Try.underlying3 m9 rfl rfl rfl rfl ?_; intro w10 m10 k10)))
  go_ret
  exact ⟨rfl, m10, ((Below.refl _ w).al _).trans (((((((((((k1.trans k2).trans k3).trans k4).trans k5).trans k6).trans k7).trans k8).trans k9).trans k10)).to_below (by simp) (fun z h1 h2 => by omega))⟩
end Go.Proofs.Ytenpdmahjefoaaa
