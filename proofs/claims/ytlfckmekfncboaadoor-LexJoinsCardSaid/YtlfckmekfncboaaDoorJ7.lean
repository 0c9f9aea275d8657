/-
  LexJoins: Of, and To.
-/
import Derived.Test.YtlfckmekfncboaaDoorL15
import Derived.IntWalk
import Derived.Deep.RegionHeld3
namespace Go.Proofs.YtlfckmekfncboaaDoor
open Go.RowKit

/-- A slice of the document's tokens, of the call's own. -/
def OR (w : World) (base : Nat) (v : Value) (ts : List Tk) : Prop := w.ownsRow base 50 5 v ts.length (tksCells ts)
theorem info_T : (Tryd.prog.info? 50).map (fun i => (i.zero, i.size, i.bytes)) = some (some (.agg #[.int .i64 0, .string ByteArray.empty, .int .i64 0, .int .i64 0, .int .i64 0]), 5, 48) := by kernel_rfl
def Tk.cut (t : Tk) : Tk := ⟨t.kind, t.text.take 60, t.n, t.line, t.col⟩
theorem new_reads (W : World) (e : TypeId) (t : Tk) : Reads (W.alloc (.cells (tkCells t).toArray e)) (W.heap.size + 1) 5 (some ⟨W.heap.size, 0, none⟩) 1 (tkCells t) := by
  refine ⟨by simp [tkCells], fun _ => ⟨_, rfl, by simp, fun j u hu => ?_⟩⟩
  rw [Addr.add_lit, Nat.zero_add, (Blk.new W e (tkCells t).toArray).cell j]
  simpa using hu

theorem own_lt {w : World} {base size n : Nat} {e : TypeId} {v : Value} {xs : List Value} (h : w.ownsRow base e size v n xs) : ∀ k, v.ownBlock = some k → k < w.heap.size := by
  intro k hk
  rcases h.2 with ⟨rfl, h0⟩ | ⟨g, cap, cur, rfl, hg, hh, _⟩
  · simp [Value.ownBlock] at hk
  · simp only [Value.ownBlock, Option.some.injEq] at hk
    subst hk
    exact Blk.lt (t := e) (cs := cur) hh

set_option maxHeartbeats 4000000 in
set_option maxRecDepth 100000 in
theorem of_any (ts : List Tk) (A : Option Addr) (n c : Nat) (w : World) (hr : Reads w w.heap.size 5 A n (tksCells ts)) (hn : n = ts.length) (hb : n ≤ 9223372036854775807) (hx : ∀ t ∈ ts, t.text.length ≤ 9223372036854775807) :
    Calls Tryd.prog 19 #[.slice A n c, .int .i64 30] w fun e w' => ∃ v, e = .returned v ∧ OR w' w.heap.size v ((ts.take 30).map Tk.cut) ∧ Below w.heap.size w w' := by
  have HR := Lib.hid hr
  have HN := Lib.hid hn
  have HXL := Lib.hid hx
  clear hr hn hx
  go_enter Tryd.func19, Tryd.ntmps19
  go_wp2_with fail
  go_loopw [5, 6] (fun v i wr => ∃ k : Nat, k ≤ n ∧ k ≤ 30 ∧ i = .int .i64 k ∧ Hid (OR wr w.heap.size v ((ts.take k).map Tk.cut)) ∧ Below w.heap.size w wr) (fun _ i _ => n - (intOf i).toNat)
  case atStart => exact ⟨0, by omega, by omega, rfl, World.ownsRow_nil _ _ _ _, Below.refl _ _⟩
  case round =>
    obtain ⟨k, hk, hk30, rfl, ho, hbw⟩ := hrel
    by_cases hlt : k < n ∧ k < 30
    · obtain ⟨hltn, hlt30⟩ := hlt
      have hkt : k < ts.length := by rw [← HN.out]; exact hltn
      have cT := tksCells_cut ts k hkt
      have htk := List.take_succ_eq_append_getElem hkt
      obtain ⟨g, o, rfl, hg, hc⟩ := HR.out.chunk (by omega) hltn cT
      have hxl := HXL.out _ (List.getElem_mem hkt)
      generalize ts[k] = x at *
      obtain ⟨xk, xt, xn, xl, xc⟩ := x
      simp only at hxl
      have q0 := (hbw.cell (p := ⟨g, o + k * 5, none⟩) hg).trans (hc 0 _ rfl)
      have q1 := (hbw.cell (p := ⟨g, o + k * 5 + 1, none⟩) hg).trans (hc 1 _ rfl)
      have q2 := (hbw.cell (p := ⟨g, o + k * 5 + 2, none⟩) hg).trans (hc 2 _ rfl)
      have q3 := (hbw.cell (p := ⟨g, o + k * 5 + 3, none⟩) hg).trans (hc 3 _ rfl)
      have q4 := (hbw.cell (p := ⟨g, o + k * 5 + 4, none⟩) hg).trans (hc 4 _ rfl)
      obtain ⟨S, hS⟩ : ∃ S, str xt = S := ⟨_, rfl⟩
      obtain ⟨T, hT⟩ : ∃ S, str (xt.take 60) = S := ⟨_, rfl⟩
      have sS : S.size = xt.length := by rw [← hS, str_size]
      obtain ⟨mm, hmm⟩ : ∃ m, min S.size 60 = m := ⟨_, rfl⟩
      have hext : S.extract 0 mm = T := by
        rw [ext_str, ← hT, ← hS, str_list, ← hmm, ← hS, str_size]
        congr 1
        rw [List.take_eq_take_iff]
        omega
      have y0 : min (S.size : Int) 60 = (mm : Int) := by omega
      rw [hS] at q1
      have y1 : (mm : Int) ≤ (S.size : Int) := by omega
      have y3 : (0 : Int) ≤ (mm : Int) := by omega
      have HT := Lib.hid hT
      have HTK := Lib.hid htk
      clear hc cT hS hT htk sS hmm
      obtain ⟨i0, hi0, hz0, hz1, hz2⟩ := info_parts info_T
      obtain ⟨acc, hacc⟩ : ∃ a, (ts.take k).map Tk.cut = a := ⟨_, rfl⟩
      have hal : acc.length = k := by rw [← hacc, List.length_map, List.length_take]; omega
      rw [hacc] at ho
      have HACC := Lib.hid hacc
      clear hacc
      unfold OR at ho
      rw [hal] at ho
      have hbl := own_block ho.out
      have hbz := hbw.size
      have B1 := Blk.new wr 31 #[.int .i64 xk, .string S, .int .i64 xn, .int .i64 xl, .int .i64 xc]
      have f1 := hbw.al (.cells #[.int .i64 xk, .string S, .int .i64 xn, .int .i64 xl, .int .i64 xc] 31)
      have ho1 := Lib.hid (World.ownsRow.alloc ho.out (.cells #[.int .i64 xk, .string S, .int .i64 xn, .int .i64 xl, .int .i64 xc] 31))
      have hz1' : wr.heap.size < (wr.alloc (.cells #[.int .i64 xk, .string S, .int .i64 xn, .int .i64 xl, .int .i64 xc] 31)).heap.size := by simp
      go_upto_region 6 with fail
      generalize wr.alloc (.cells #[.int .i64 xk, .string S, .int .i64 xn, .int .i64 xl, .int .i64 xc] 31) = W1 at *
      have qq : W1.drew.cell? ⟨wr.heap.size, 0, none⟩ = some (.int .i64 xk) ∧ W1.drew.cell? ⟨wr.heap.size, 1, none⟩ = some (.string S) ∧ W1.drew.cell? ⟨wr.heap.size, 2, none⟩ = some (.int .i64 xn) ∧ W1.drew.cell? ⟨wr.heap.size, 3, none⟩ = some (.int .i64 xl) ∧ W1.drew.cell? ⟨wr.heap.size, 4, none⟩ = some (.int .i64 xc) := ⟨B1.cell 0, B1.cell 1, B1.cell 2, B1.cell 3, B1.cell 4⟩
      have qB : ∀ W, Blk W wr.heap.size 31 #[.int .i64 xk, .string S, .int .i64 xn, .int .i64 xl, .int .i64 xc] → W.cell? ⟨wr.heap.size, 0, none⟩ = some (.int .i64 xk) ∧ W.cell? ⟨wr.heap.size, 1, none⟩ = some (.string S) ∧ W.cell? ⟨wr.heap.size, 2, none⟩ = some (.int .i64 xn) ∧ W.cell? ⟨wr.heap.size, 3, none⟩ = some (.int .i64 xl) ∧ W.cell? ⟨wr.heap.size, 4, none⟩ = some (.int .i64 xc) := fun W h => ⟨h.cell 0, h.cell 1, h.cell 2, h.cell 3, h.cell 4⟩
      have qqa : ∀ o, (W1.drew.alloc o).cell? ⟨wr.heap.size, 0, none⟩ = some (.int .i64 xk) ∧ (W1.drew.alloc o).cell? ⟨wr.heap.size, 1, none⟩ = some (.string S) ∧ (W1.drew.alloc o).cell? ⟨wr.heap.size, 2, none⟩ = some (.int .i64 xn) ∧ (W1.drew.alloc o).cell? ⟨wr.heap.size, 3, none⟩ = some (.int .i64 xl) ∧ (W1.drew.alloc o).cell? ⟨wr.heap.size, 4, none⟩ = some (.int .i64 xc) := fun o => qB _ (B1.drew.alloc o)
      have HB1 := Lib.hid B1
      have hlt5 := own_lt ho.out
      clear B1 q0 q1 q2 q3 q4
      have RD := Lib.hid (new_reads W1.drew 50 ⟨xk, xt.take 60, xn, xl, xc⟩)
      have ONE := Lib.hid (tkCells_one ⟨xk, xt.take 60, xn, xl, xc⟩)
      have own7 := Lib.hid (World.ownsRow.alloc (w := W1.drew) ho1.out (.cells (tkCells ⟨xk, xt.take 60, xn, xl, xc⟩).toArray 50))
      unfold tkCells at RD ONE own7
      simp only [HT.out] at RD ONE own7
      go_region_held3 (fun w' => w'.cell? ⟨wr.heap.size, 0, none⟩ = some (.int .i64 xk) ∧ w'.cell? ⟨wr.heap.size, 1, none⟩ = some (.string S) ∧ w'.cell? ⟨wr.heap.size, 2, none⟩ = some (.int .i64 xn) ∧ w'.cell? ⟨wr.heap.size, 3, none⟩ = some (.int .i64 xl) ∧ w'.cell? ⟨wr.heap.size, 4, none⟩ = some (.int .i64 xc)) (first | exact qq | exact qqa _ | exact q8)
        (first | (refine step_append_any _ (by rfl) (.tmp 23) (.tmp 42) _ (by rfl) w.heap.size 50 i0 _ 5 48 Tryd.underlying42 hi0 hz0 hz1 hz2 rfl (by omega) u5 k (tksCells acc) (by rfl) own7.out _ _ 1 1 [.int .i64 xk, .string T, .int .i64 xn, .int .i64 xl, .int .i64 xc] (by rfl) RD.out ONE.out (by unfold maxLen; omega) (by omega) (by have := f1.size; simp; omega) ?_; intro v8 w8 o8 g8 at8; have b8 : Below w.heap.size w w8 := (f1.drew.al _).trans ((Kept.of_grown (S := fun k => w.heap.size ≤ k) g8 hbl).to_below (by have := f1.size; simp; omega) (fun k hk => by omega)); have O8 := Lib.hid o8; have q8 := qB _ (Blk.grown (HB1.out.drew.alloc _) g8 (fun e => by have := hlt5 _ e.symm; omega)); clear o8 g8 at8))
      go_wp2_with fail
      go_roundw
      case rel =>
        refine ⟨k + 1, by omega, by omega, by go_num, ?_, b8⟩
        rw [Hid, HTK.out, List.map_append, HACC.out]
        unfold OR
        have e1 : (acc ++ [(⟨xk, xt, xn, xl, xc⟩ : Tk)].map Tk.cut).length = k + 1 := by simp [hal]
        have e2 : tksCells (acc ++ [(⟨xk, xt, xn, xl, xc⟩ : Tk)].map Tk.cut) = tksCells acc ++ [.int .i64 xk, .string T, .int .i64 xn, .int .i64 xl, .int .i64 xc] := by
          rw [← HT.out, tksCells_append]
          rfl
        rw [e1, e2]
        exact O8.out
      case measure => simp [intOf]; omega
    · have hfin : (ts.take k).map Tk.cut = (ts.take 30).map Tk.cut := by
        rcases Nat.lt_or_ge k n with h | h
        · rw [show k = 30 by omega]
        · rw [List.take_of_length_le (by rw [← HN.out]; omega), List.take_of_length_le (by rw [← HN.out]; omega)]
      have HF := Lib.hid hfin
      clear hfin
      by_cases hkn : k < n
      · have z1 : ¬ (k : Int) < 30 := by omega
        clear hlt
        go_wp2_with fail
        go_ret
        exact ⟨_, rfl, by (first | rw [← List.map_take, ← HF.out] | rw [← HF.out]); exact ho.out, hbw⟩
      · clear hlt
        go_wp2_with fail
        go_ret
        exact ⟨_, rfl, by (first | rw [← List.map_take, ← HF.out] | rw [← HF.out]); exact ho.out, hbw⟩
end Go.Proofs.YtlfckmekfncboaaDoor
