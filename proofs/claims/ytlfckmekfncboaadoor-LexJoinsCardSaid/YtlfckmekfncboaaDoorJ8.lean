/-
  LexJoins: To.
-/
import Derived.Test.YtlfckmekfncboaaDoorJ7
namespace Go.Proofs.YtlfckmekfncboaaDoor
open Go.RowKit

set_option maxHeartbeats 4000000 in
set_option maxRecDepth 100000 in
theorem to_any (ts : List Tk) (A : Option Addr) (n c : Nat) (w : World) (hr : Reads w w.heap.size 5 A n (tksCells ts)) (hn : n = ts.length) (hb : n ≤ 1000) :
    Calls Tryd.prog 21 #[.slice A n c] w fun e w' => ∃ v, e = .returned v ∧ OT w' w.heap.size v ts ∧ Below w.heap.size w w' := by
  have HR := Lib.hid hr
  have HN := Lib.hid hn
  clear hr hn
  go_enter Tryd.func21, Tryd.ntmps21
  go_wp2_with fail
  go_loopw [3, 4] (fun v i wr => ∃ k : Nat, k ≤ n ∧ i = .int .i64 k ∧ Hid (OT wr w.heap.size v (ts.take k)) ∧ Below w.heap.size w wr) (fun _ i _ => n - (intOf i).toNat)
  case atStart => exact ⟨0, by omega, rfl, World.ownsRow_nil _ _ _ _, Below.refl _ _⟩
  case round =>
    obtain ⟨k, hk, rfl, ho, hbw⟩ := hrel
    by_cases hlt : k < n
    · have hkt : k < ts.length := by rw [← HN.out]; exact hlt
      have cT := tksCells_cut ts k hkt
      have htk := List.take_succ_eq_append_getElem hkt
      obtain ⟨g, o, rfl, hg, hc⟩ := HR.out.chunk (by omega) hlt cT
      generalize ts[k] = x at *
      obtain ⟨xk, xt, xn, xl, xc⟩ := x
      obtain ⟨S, hS⟩ : ∃ S, str xt = S := ⟨_, rfl⟩
      have qB : ∀ W, Below w.heap.size w W → W.cell? ⟨g, o + k * 5, none⟩ = some (.int .i64 xk) ∧ W.cell? ⟨g, o + k * 5 + 1, none⟩ = some (.string S) ∧ W.cell? ⟨g, o + k * 5 + 2, none⟩ = some (.int .i64 xn) ∧ W.cell? ⟨g, o + k * 5 + 3, none⟩ = some (.int .i64 xl) ∧ W.cell? ⟨g, o + k * 5 + 4, none⟩ = some (.int .i64 xc) := fun W h => ⟨(h.cell (p := ⟨g, o + k * 5, none⟩) hg).trans (hc 0 _ rfl), ((h.cell (p := ⟨g, o + k * 5 + 1, none⟩) hg).trans (hc 1 _ rfl)).trans (by rw [← hS]), (h.cell (p := ⟨g, o + k * 5 + 2, none⟩) hg).trans (hc 2 _ rfl), (h.cell (p := ⟨g, o + k * 5 + 3, none⟩) hg).trans (hc 3 _ rfl), (h.cell (p := ⟨g, o + k * 5 + 4, none⟩) hg).trans (hc 4 _ rfl)⟩
      have HS := Lib.hid hS
      have HTK := Lib.hid htk
      clear hc cT hS htk
      obtain ⟨i0, hi0, hz0, hz1, hz2⟩ := info_parts info_tok
      obtain ⟨acc, hacc⟩ : ∃ a, ts.take k = a := ⟨_, rfl⟩
      have hal : acc.length = k := by rw [← hacc, List.length_take]; omega
      rw [hacc] at ho
      have HACC := Lib.hid hacc
      clear hacc
      unfold OT at ho
      rw [hal] at ho
      have hbl := own_block ho.out
      have hbz := hbw.size
      have z0 : (0 : Int) ≤ (k : Int) := by omega
      have z1 : (k : Int) < (n : Int) := by omega
      have qq := qB _ hbw.drew
      have qqa : ∀ o2, (wr.drew.alloc o2).cell? ⟨g, o + k * 5, none⟩ = some (.int .i64 xk) ∧ (wr.drew.alloc o2).cell? ⟨g, o + k * 5 + 1, none⟩ = some (.string S) ∧ (wr.drew.alloc o2).cell? ⟨g, o + k * 5 + 2, none⟩ = some (.int .i64 xn) ∧ (wr.drew.alloc o2).cell? ⟨g, o + k * 5 + 3, none⟩ = some (.int .i64 xl) ∧ (wr.drew.alloc o2).cell? ⟨g, o + k * 5 + 4, none⟩ = some (.int .i64 xc) := fun o2 => qB _ (hbw.drew.alloc hbz o2)
      have RD := Lib.hid (new_reads wr.drew 31 ⟨xk, xt, xn, xl, xc⟩)
      have ONE := Lib.hid (tkCells_one ⟨xk, xt, xn, xl, xc⟩)
      have own7 := Lib.hid (World.ownsRow.alloc (w := wr.drew) ho.out (.cells (tkCells ⟨xk, xt, xn, xl, xc⟩).toArray 31))
      unfold tkCells at RD ONE own7
      simp only [HS.out] at RD ONE own7
      go_wp2_with fail
      go_region_held3 (fun w' => w'.cell? ⟨g, o + k * 5, none⟩ = some (.int .i64 xk) ∧ w'.cell? ⟨g, o + k * 5 + 1, none⟩ = some (.string S) ∧ w'.cell? ⟨g, o + k * 5 + 2, none⟩ = some (.int .i64 xn) ∧ w'.cell? ⟨g, o + k * 5 + 3, none⟩ = some (.int .i64 xl) ∧ w'.cell? ⟨g, o + k * 5 + 4, none⟩ = some (.int .i64 xc)) (first | exact qq | exact qqa _ | exact q8)
        (first | (refine step_append_any _ (by rfl) (.tmp 11) (.tmp 39) _ (by rfl) w.heap.size 31 i0 _ 5 48 Tryd.underlying22 hi0 hz0 hz1 hz2 rfl (by omega) u3 k (tksCells acc) (by rfl) own7.out _ _ 1 1 [.int .i64 xk, .string S, .int .i64 xn, .int .i64 xl, .int .i64 xc] (by rfl) RD.out ONE.out (by unfold maxLen; omega) (by omega) (by simp; omega) ?_; intro v8 w8 o8 g8 at8; have b8 : Below w.heap.size w w8 := (hbw.drew.alloc hbz _).trans ((Kept.of_grown (S := fun k => w.heap.size ≤ k) g8 hbl).to_below (by simp; omega) (fun k hk => by omega)); have O8 := Lib.hid o8; have q8 := qB _ b8; clear o8 g8 at8))
      go_wp2_with fail
      go_roundw
      case rel =>
        refine ⟨k + 1, by omega, by go_num, ?_, b8⟩
        rw [Hid, HTK.out, HACC.out]
        unfold OT
        have e1 : (acc ++ [(⟨xk, xt, xn, xl, xc⟩ : Tk)]).length = k + 1 := by simp [hal]
        have e2 : tksCells (acc ++ [(⟨xk, xt, xn, xl, xc⟩ : Tk)]) = tksCells acc ++ [.int .i64 xk, .string S, .int .i64 xn, .int .i64 xl, .int .i64 xc] := by
          rw [← HS.out, tksCells_append]
          rfl
        rw [e1, e2]
        exact O8.out
      case measure => simp [intOf]; omega
    · have hfin : ts.take k = ts := List.take_of_length_le (by rw [← HN.out]; omega)
      have HF := Lib.hid hfin
      clear hfin
      go_wp2_with fail
      go_ret
      exact ⟨_, rfl, by have h := ho.out; rw [HF.out] at h; exact h, hbw⟩
end Go.Proofs.YtlfckmekfncboaaDoor
