
/-
  The table of what joins. (Printed by wip/tools/gens7.py.)
-/
import Derived.Test.YtdmlnoeneoomfaaDoorS6
namespace Go.Proofs.YtdmlnoeneoomfaaDoor
open Go.RowKit

theorem lookup_some_mem {s : List UInt8} {v : Int} : ∀ {l : List (List UInt8 × Int)}, l.lookup s = some v → ∃ p ∈ l, p.1 = s
  | [], h => by simp at h
  | p :: l, h => by
    by_cases hp : s = p.1
    · exact ⟨p, List.mem_cons_self .., hp.symm⟩
    · rw [List.lookup, show (s == p.1) = false from by simp [hp]] at h
      obtain ⟨q, hq, e⟩ := lookup_some_mem h
      exact ⟨q, List.mem_cons_of_mem _ hq, e⟩
theorem wpList_dict_add {P : Program} {w : World} {ops : Array Oper} {rest : List Oper} {o : Oper} {a : Act} {Q : Exit → Act → World → Prop} (hgd : Region.wanted o (yielded ops a.tmps) = true) (m x y : Operand) {t k e : TypeId} (r : Nat) (l : List (List UInt8 × Int)) (s : List UInt8) (v : Int)
    (ho : o.op = .insert t m x y) (hd : o.dst = none) (ht : P.underlying t = some (.map k e)) (hk : P.underlying k = some .string) (hm : DictIs w r l) (em : a.eval m = .map (some r)) (ex : a.eval x = .string (str s)) (ey : a.eval y = .int .i64 v) (hs : s ∉ l.map Prod.fst)
    (h : ∀ w', DictIs w' r (l ++ [(s, v)]) → Kept (fun z => z = r) w w' → wpList P ops Q rest a w') : wpList P ops Q (o :: rest) a w := by
  obtain ⟨hn, es, c, hb, hl⟩ := hm
  have hf : Instr.findNow .string (.string (str s)) es.toList 0 = some none := by
    rcases DictIs.find hn hl s with ⟨_, h2⟩ | ⟨v2, _, h1, _⟩
    · exact h2
    · exfalso
      refine hs ?_
      have : ∃ p ∈ l, p.1 = s := lookup_some_mem h1
      obtain ⟨p, hp, rfl⟩ := this
      exact List.mem_map.2 ⟨p, hp, rfl⟩
  refine BigFrame.wpList_want hgd fun K hK => ?_
  have hr : (Instr.mapUpdate t (.map (some r)) (.string (str s)) (.int .i64 v)).run P w = .ok () { w with heap := w.heap.setIfInBounds r (.map (es.push { key := .string (str s), val := .int .i64 v, born := c }) (c + 1)) } := by
    unfold Instr.mapUpdate
    simp only [run_underlying ht, Sem.run_bind, Result.andThen_ok, Go.MapKept.run_getObj_map hb, Go.MapKept.run_checkKey (P := P) (w := w) hk (k := .string (str s)) trivial, Go.MapKept.run_findKey hk hf, Go.MapKept.run_setObj_map _ hb]
  have hh := Go.MapKept.heap_set (o' := .map (es.push { key := .string (str s), val := .int .i64 v, born := c }) (c + 1)) hb
  have hw := h { w with heap := w.heap.setIfInBounds r (.map (es.push { key := .string (str s), val := .int .i64 v, born := c }) (c + 1)) }
    ⟨by
      rw [List.map_append, List.nodup_append]
      exact ⟨hn, by simp, fun a ha b hb e => hs (by simp at hb; rw [← hb, ← e]; exact ha)⟩, _, _, hh.1, by simp [hl]⟩
    ⟨rfl, rfl, rfl, by simp, fun z _ hz => hh.2 z hz⟩
  unfold Oper.wp
  simp only [execOp, ho, em, ex, ey, hr, Sem.run_bind, Result.andThen_ok, Sem.run_pure, Oper.upon, hd]
  exact hK _ _ hw

theorem run_makeMap_none {P : Program} (t : TypeId) (w : World) : (Instr.makeMap t none).run P w = .ok (.map (some w.heap.size)) (w.alloc (.map #[] 0)) := by
  simp [Instr.makeMap]
def JoinsTo (w : World) (e : Ending) (w' : World) : Prop := ∃ m : Nat → Nat, e = .returned (.agg #[.map (some (m 0)), .map (some (m 1)), .map (some (m 2)), .map (some (m 3)), .map (some (m 4))]) ∧ Below w.heap.size w w' ∧ ∀ k, k < 5 → DictIs w' (m k) (lvlT k) ∧ w.heap.size ≤ m k
set_option maxHeartbeats 4000000 in
set_option maxRecDepth 100000 in
theorem joins_any (w : World) : Calls Tryd.prog 45 #[] w (JoinsTo w) := by
  have f0 : Below w.heap.size w (w.alloc (.cells #[.map none, .map none, .map none, .map none, .map none] 100)) := (Below.refl _ w).al _
  have x0 := Blk.new w 100 #[.map none, .map none, .map none, .map none, .map none]
  have F0 := Lib.hid f0
  have X0 := Lib.hid x0
  have z0 := f0.size
  have l0 := x0.lt
  clear f0 x0
  have hmk := fun W => run_makeMap_none (P := Tryd.prog) 99 W
  go_enter Tryd.func45, Tryd.ntmps45
  go_upto_region 1 with fail
  generalize w.alloc (.cells #[.map none, .map none, .map none, .map none, .map none] 100) = W0 at *
  go_wp2_with (first
    | ((with_reducible show wpList _ _ _ (⟨none, Op.insert _ (.tmp 1) _ _, _, _, _, _⟩ :: _) _ _); refine wpList_dict_add (by rfl) _ _ _ W0.heap.size [] [111, 114] 17 rfl rfl Tryd.underlying99 Tryd.underlying9 (DictIs.new W0) rfl rfl rfl (by decide) ?_; intro W0_0 D0_1 k0_0; have K1 := (((Kept.refl (fun z => z = W0.heap.size) W0).alloc (.map #[] 0)).then_ k0_0 (fun _ _ e => e)); have X1 := Lib.hid (X0.out.kept K1 (by omega)); have F1 := Lib.hid (F0.out.trans (K1.to_below (by omega) (fun q hq e => by omega))); have z1 := K1.size; have l1 := D0_1.lt; have E0_1 := Lib.hid D0_1)
    | ((with_reducible show wpList _ _ _ (⟨none, Op.insert _ (.tmp 3) _ _, _, _, _, _⟩ :: _) _ _); refine wpList_dict_add (by rfl) _ _ _ W0_0.heap.size [] [97, 110, 100] 16 rfl rfl Tryd.underlying99 Tryd.underlying9 (DictIs.new W0_0) rfl rfl rfl (by decide) ?_; intro W1_0 D1_1 k1_0; have K2 := (((Kept.refl (fun z => z = W0_0.heap.size) W0_0).alloc (.map #[] 0)).then_ k1_0 (fun _ _ e => e)); have X2 := Lib.hid (X1.out.kept K2 (by omega)); have F2 := Lib.hid (F1.out.trans (K2.to_below (by omega) (fun q hq e => by omega))); have z2 := K2.size; have l2 := D1_1.lt; have E0_2 := Lib.hid (E0_1.out.kept K2 (by omega)); have E1_2 := Lib.hid D1_1)
    | ((with_reducible show wpList _ _ _ (⟨none, Op.insert _ (.tmp 5) _ _, _, _, _, _⟩ :: _) _ _); refine wpList_dict_add (by rfl) _ _ _ W1_0.heap.size [] [61] 10 rfl rfl Tryd.underlying99 Tryd.underlying9 (DictIs.new W1_0) rfl rfl rfl (by decide) ?_; intro W2_0 D2_1 k2_0)
    | ((with_reducible show wpList _ _ _ (⟨none, Op.insert _ (.tmp 5) _ _, _, _, _, _⟩ :: _) _ _); refine wpList_dict_add (by rfl) _ _ _ W1_0.heap.size [([61], 10)] [33, 61] 11 rfl rfl Tryd.underlying99 Tryd.underlying9 D2_1 rfl rfl rfl (by decide) ?_; intro W2_1 D2_2 k2_1)
    | ((with_reducible show wpList _ _ _ (⟨none, Op.insert _ (.tmp 5) _ _, _, _, _, _⟩ :: _) _ _); refine wpList_dict_add (by rfl) _ _ _ W1_0.heap.size [([61], 10), ([33, 61], 11)] [60] 12 rfl rfl Tryd.underlying99 Tryd.underlying9 D2_2 rfl rfl rfl (by decide) ?_; intro W2_2 D2_3 k2_2)
    | ((with_reducible show wpList _ _ _ (⟨none, Op.insert _ (.tmp 5) _ _, _, _, _, _⟩ :: _) _ _); refine wpList_dict_add (by rfl) _ _ _ W1_0.heap.size [([61], 10), ([33, 61], 11), ([60], 12)] [60, 61] 13 rfl rfl Tryd.underlying99 Tryd.underlying9 D2_3 rfl rfl rfl (by decide) ?_; intro W2_3 D2_4 k2_3)
    | ((with_reducible show wpList _ _ _ (⟨none, Op.insert _ (.tmp 5) _ _, _, _, _, _⟩ :: _) _ _); refine wpList_dict_add (by rfl) _ _ _ W1_0.heap.size [([61], 10), ([33, 61], 11), ([60], 12), ([60, 61], 13)] [62] 14 rfl rfl Tryd.underlying99 Tryd.underlying9 D2_4 rfl rfl rfl (by decide) ?_; intro W2_4 D2_5 k2_4)
    | ((with_reducible show wpList _ _ _ (⟨none, Op.insert _ (.tmp 5) _ _, _, _, _, _⟩ :: _) _ _); refine wpList_dict_add (by rfl) _ _ _ W1_0.heap.size [([61], 10), ([33, 61], 11), ([60], 12), ([60, 61], 13), ([62], 14)] [62, 61] 15 rfl rfl Tryd.underlying99 Tryd.underlying9 D2_5 rfl rfl rfl (by decide) ?_; intro W2_5 D2_6 k2_5; have K3 := ((((((((Kept.refl (fun z => z = W1_0.heap.size) W1_0).alloc (.map #[] 0)).then_ k2_0 (fun _ _ e => e)).then_ k2_1 (fun _ _ e => e)).then_ k2_2 (fun _ _ e => e)).then_ k2_3 (fun _ _ e => e)).then_ k2_4 (fun _ _ e => e)).then_ k2_5 (fun _ _ e => e)); have X3 := Lib.hid (X2.out.kept K3 (by omega)); have F3 := Lib.hid (F2.out.trans (K3.to_below (by omega) (fun q hq e => by omega))); have z3 := K3.size; have l3 := D2_6.lt; have E0_3 := Lib.hid (E0_2.out.kept K3 (by omega)); have E1_3 := Lib.hid (E1_2.out.kept K3 (by omega)); have E2_3 := Lib.hid D2_6)
    | ((with_reducible show wpList _ _ _ (⟨none, Op.insert _ (.tmp 7) _ _, _, _, _, _⟩ :: _) _ _); refine wpList_dict_add (by rfl) _ _ _ W2_5.heap.size [] [43] 8 rfl rfl Tryd.underlying99 Tryd.underlying9 (DictIs.new W2_5) rfl rfl rfl (by decide) ?_; intro W3_0 D3_1 k3_0)
    | ((with_reducible show wpList _ _ _ (⟨none, Op.insert _ (.tmp 7) _ _, _, _, _, _⟩ :: _) _ _); refine wpList_dict_add (by rfl) _ _ _ W2_5.heap.size [([43], 8)] [45] 9 rfl rfl Tryd.underlying99 Tryd.underlying9 D3_1 rfl rfl rfl (by decide) ?_; intro W3_1 D3_2 k3_1; have K4 := ((((Kept.refl (fun z => z = W2_5.heap.size) W2_5).alloc (.map #[] 0)).then_ k3_0 (fun _ _ e => e)).then_ k3_1 (fun _ _ e => e)); have X4 := Lib.hid (X3.out.kept K4 (by omega)); have F4 := Lib.hid (F3.out.trans (K4.to_below (by omega) (fun q hq e => by omega))); have z4 := K4.size; have l4 := D3_2.lt; have E0_4 := Lib.hid (E0_3.out.kept K4 (by omega)); have E1_4 := Lib.hid (E1_3.out.kept K4 (by omega)); have E2_4 := Lib.hid (E2_3.out.kept K4 (by omega)); have E3_4 := Lib.hid D3_2)
    | ((with_reducible show wpList _ _ _ (⟨none, Op.insert _ (.tmp 9) _ _, _, _, _, _⟩ :: _) _ _); refine wpList_dict_add (by rfl) _ _ _ W3_1.heap.size [] [42] 5 rfl rfl Tryd.underlying99 Tryd.underlying9 (DictIs.new W3_1) rfl rfl rfl (by decide) ?_; intro W4_0 D4_1 k4_0)
    | ((with_reducible show wpList _ _ _ (⟨none, Op.insert _ (.tmp 9) _ _, _, _, _, _⟩ :: _) _ _); refine wpList_dict_add (by rfl) _ _ _ W3_1.heap.size [([42], 5)] [47] 6 rfl rfl Tryd.underlying99 Tryd.underlying9 D4_1 rfl rfl rfl (by decide) ?_; intro W4_1 D4_2 k4_1)
    | ((with_reducible show wpList _ _ _ (⟨none, Op.insert _ (.tmp 9) _ _, _, _, _, _⟩ :: _) _ _); refine wpList_dict_add (by rfl) _ _ _ W3_1.heap.size [([42], 5), ([47], 6)] [37] 7 rfl rfl Tryd.underlying99 Tryd.underlying9 D4_2 rfl rfl rfl (by decide) ?_; intro W4_2 D4_3 k4_2; have K5 := (((((Kept.refl (fun z => z = W3_1.heap.size) W3_1).alloc (.map #[] 0)).then_ k4_0 (fun _ _ e => e)).then_ k4_1 (fun _ _ e => e)).then_ k4_2 (fun _ _ e => e)); have X5 := Lib.hid (X4.out.kept K5 (by omega)); have F5 := Lib.hid (F4.out.trans (K5.to_below (by omega) (fun q hq e => by omega))); have z5 := K5.size; have l5 := D4_3.lt; have E0_5 := Lib.hid (E0_4.out.kept K5 (by omega)); have E1_5 := Lib.hid (E1_4.out.kept K5 (by omega)); have E2_5 := Lib.hid (E2_4.out.kept K5 (by omega)); have E3_5 := Lib.hid (E3_4.out.kept K5 (by omega)); have E4_5 := Lib.hid D4_3; have s0 : W4_2.cell? ⟨w.heap.size, 0, none⟩ = some (.map none) := X5.out.cell 0; have t0 := X5.out.frozen 0; have s1 : W4_2.cell? ⟨w.heap.size, 1, none⟩ = some (.map none) := X5.out.cell 1; have t1 := X5.out.frozen 1; have s2 : W4_2.cell? ⟨w.heap.size, 2, none⟩ = some (.map none) := X5.out.cell 2; have t2 := X5.out.frozen 2; have s3 : W4_2.cell? ⟨w.heap.size, 3, none⟩ = some (.map none) := X5.out.cell 3; have t3 := X5.out.frozen 3; have s4 : W4_2.cell? ⟨w.heap.size, 4, none⟩ = some (.map none) := X5.out.cell 4; have t4 := X5.out.frozen 4))
  have x5 := X5.out
  clear hmk
  clear s0 s1 s2 s3 s4
  have X9 := x5.put5 (.map (some W0.heap.size)) (.map (some W0_0.heap.size)) (.map (some W1_0.heap.size)) (.map (some W2_5.heap.size)) (.map (some W3_1.heap.size))
  have K9 := Kept.put5 W4_2 w.heap.size (.map (some W0.heap.size)) (.map (some W0_0.heap.size)) (.map (some W1_0.heap.size)) (.map (some W2_5.heap.size)) (.map (some W3_1.heap.size))
  generalize ((((W4_2.setCell ⟨w.heap.size, 0, none⟩ (.map (some W0.heap.size))).setCell ⟨w.heap.size, 1, none⟩ (.map (some W0_0.heap.size))).setCell ⟨w.heap.size, 2, none⟩ (.map (some W1_0.heap.size))).setCell ⟨w.heap.size, 3, none⟩ (.map (some W2_5.heap.size))).setCell ⟨w.heap.size, 4, none⟩ (.map (some W3_1.heap.size)) = W9 at *
  have s0 : W9.cell? ⟨w.heap.size, 0, none⟩ = some (.map (some W0.heap.size)) := X9.cell 0
  have s1 : W9.cell? ⟨w.heap.size, 1, none⟩ = some (.map (some W0_0.heap.size)) := X9.cell 1
  have s2 : W9.cell? ⟨w.heap.size, 2, none⟩ = some (.map (some W1_0.heap.size)) := X9.cell 2
  have s3 : W9.cell? ⟨w.heap.size, 3, none⟩ = some (.map (some W2_5.heap.size)) := X9.cell 3
  have s4 : W9.cell? ⟨w.heap.size, 4, none⟩ = some (.map (some W3_1.heap.size)) := X9.cell 4
  refine bodyPost_ret (v := .agg #[.map (some W0.heap.size), .map (some W0_0.heap.size), .map (some W1_0.heap.size), .map (some W2_5.heap.size), .map (some W3_1.heap.size)]) (by simp [results, Tryd.results45, go_sem, s0, s1, s2, s3, s4]) rfl ⟨fun k => if k = 0 then W0.heap.size else if k = 1 then W0_0.heap.size else if k = 2 then W1_0.heap.size else if k = 3 then W2_5.heap.size else W3_1.heap.size, rfl, F5.out.trans (K9.to_below (by omega) (fun q hq e => by omega)), ?_⟩
  intro k hk
  match k, hk with
  | 0, _ => exact ⟨E0_5.out.kept K9 (by first | omega | (simp; omega)), by first | omega | (simp; omega)⟩
  | 1, _ => exact ⟨E1_5.out.kept K9 (by first | omega | (simp; omega)), by first | omega | (simp; omega)⟩
  | 2, _ => exact ⟨E2_5.out.kept K9 (by first | omega | (simp; omega)), by first | omega | (simp; omega)⟩
  | 3, _ => exact ⟨E3_5.out.kept K9 (by first | omega | (simp; omega)), by first | omega | (simp; omega)⟩
  | 4, _ => exact ⟨E4_5.out.kept K9 (by first | omega | (simp; omega)), by first | omega | (simp; omega)⟩
  | k + 5, h => exact absurd h (by omega)
end Go.Proofs.YtdmlnoeneoomfaaDoor
