/-
  LexJoins: lex.Join.
-/
import Derived.Test.YtlfckmekfncboaaDoorJ10
import Derived.Test.YtlfckmekfncboaaDoorJShelf
namespace Go.Proofs.YtlfckmekfncboaaDoor
open Go.RowKit

theorem info_str : (Tryd.prog.info? 9).map (fun i => (i.zero, i.size, i.bytes)) = some (some (.string ByteArray.empty), 1, 16) := by kernel_rfl
def strs (l : List (List UInt8)) : List Value := l.map fun x => .string (str x)
def madeS (n : Nat) : Obj := .cells (madeCells (Value.string ByteArray.empty).cells (n * 1)) 9
theorem run_make_strs (n : Nat) (hn : n ≤ 1000) (W : World) : (Instr.makeSlice 33 (.int .i64 0) (.int .i64 (n : Int))).run Tryd.prog W = .ok (.slice (some ⟨W.heap.size, 0, none⟩) 0 n) (W.alloc (madeS n)) := by
  obtain ⟨i, hi, hz0, hz1, hz2⟩ := info_parts info_str
  have hr := run_make (P := Tryd.prog) W 33 9 i _ Tryd.underlying33 hi hz0 .i64 .i64 0 n (by omega) (by omega) (by rw [hz2]; omega) (by omega)
  simp only [Int.toNat_natCast] at hr
  rw [hz1] at hr
  exact hr
theorem madeS_own (W : World) (n : Nat) (hn : n ≤ 1000) : (W.alloc (madeS n)).ownsRow W.heap.size 9 1 (.slice (some ⟨W.heap.size, 0, none⟩) 0 n) 0 [] :=
  ⟨rfl, .inr ⟨W.heap.size, n, _, rfl, Nat.le_refl _, heap_alloc_new W _, Nat.zero_le _, by unfold maxLen; omega, by simp [madeCells, Value.cells], by simp⟩⟩
theorem tok5 {W : World} {b : Nat} {t : TypeId} {xk xn xl xc : Int} {S : ByteArray} (h : Blk W b t #[.int .i64 xk, .string S, .int .i64 xn, .int .i64 xl, .int .i64 xc]) : W.cell? ⟨b, 0, none⟩ = some (.int .i64 xk) ∧ W.cell? ⟨b, 1, none⟩ = some (.string S) ∧ W.cell? ⟨b, 2, none⟩ = some (.int .i64 xn) ∧ W.cell? ⟨b, 3, none⟩ = some (.int .i64 xl) ∧ W.cell? ⟨b, 4, none⟩ = some (.int .i64 xc) := ⟨h.cell 0, h.cell 1, h.cell 2, h.cell 3, h.cell 4⟩
/-- What lex.Join gives. -/
def LPost (ts : List Tk) (w : World) (e : Ending) (w' : World) : Prop := e = .returned (.tuple #[.string (str (if okJ ts = true then Lib.join (texts ts) [32] else [])), .int .i64 (if okJ ts = true then 0 else 3)]) ∧ Below w.heap.size w w'
theorem LPost.no {ts : List Tk} {w w' : World} (h : okJ ts = false) (f : Below w.heap.size w w') : LPost ts w (.returned (.tuple #[.string ⟨#[]⟩, .int .i64 3])) w' := ⟨by rw [h, if_neg (by simp), if_neg (by simp)]; rfl, f⟩
theorem LPost.yes {ts : List Tk} {w w' : World} (h : okJ ts = true) (f : Below w.heap.size w w') : LPost ts w (.returned (.tuple #[.string (str (Lib.join (texts ts) [32])), .int .i64 0])) w' := ⟨by rw [h, if_pos rfl, if_pos rfl], f⟩

theorem own_below {w w' : World} {base B size n : Nat} {e : TypeId} {v : Value} {xs : List Value} (h : w.ownsRow base e size v n xs) (hb : Below B w w') (hB : w.heap.size ≤ B) : w'.ownsRow base e size v n xs := by
  refine ⟨h.1, ?_⟩
  rcases h.2 with h2 | ⟨g, cap, cur, hv, hg, hh, r⟩
  · exact .inl h2
  · have hlt : g < w.heap.size := Blk.lt (t := e) (cs := cur) hh
    exact .inr ⟨g, cap, cur, hv, hg, (hb.block g (by omega)).trans hh, r⟩
theorem texts_len (ts : List Tk) : (texts ts).length ≤ ts.length := by
  unfold texts
  rw [List.length_map]
  exact List.length_filter_le _ _
theorem str_reads (W : World) (S : ByteArray) : Reads (W.alloc (.cells #[.string S] 9)) (W.heap.size + 1) 1 (some ⟨W.heap.size, 0, none⟩) 1 [.string S] := by
  refine ⟨by simp, fun _ => ⟨_, rfl, by simp, fun j u hu => ?_⟩⟩
  rw [Addr.add_lit, Nat.zero_add, (Blk.new W 9 #[.string S]).cell j]
  simpa using hu

set_option maxHeartbeats 4000000 in
set_option maxRecDepth 100000 in
theorem lexJoin_any (ts : List Tk) (A : Option Addr) (n c : Nat) (w : World) (hT : Spaces w) (hr : Reads w w.heap.size 5 A n (tksCells ts)) (hn : n = ts.length) (hb : n ≤ 100) (hx : ∀ t ∈ ts, t.text.length ≤ 60) :
    Calls Tryd.prog 20 #[.slice A n c] w (LPost ts w) := by
  have HR := Lib.hid hr
  have HN := Lib.hid hn
  have HXL := Lib.hid hx
  clear hr hn hx
  go_enter Tryd.func20, Tryd.ntmps20
  go_wp2_with fail
  refine (start_any w hT).mono ?_
  rintro e w1 ⟨r1, r2, rfl, s1, s2, b1⟩
  have hmk := run_make_strs n (by omega)
  have Wp0 := Blk.new w1 54 #[.map (some r1), .map (some r2)]
  have bp := b1.al (.cells #[.map (some r1), .map (some r2)] 54)
  have s1p := s1.below ((Below.refl _ w1).al (.cells #[.map (some r1), .map (some r2)] 54))
  have s2p := s2.below ((Below.refl _ w1).al (.cells #[.map (some r1), .map (some r2)] 54))
  clear s1 s2 b1
  go_upto_region 2 with fail
  generalize w1.alloc (.cells #[.map (some r1), .map (some r2)] 54) = Wp at *
  have SCX : Hid (∀ W, Below Wp.heap.size Wp W → Blk W w1.heap.size 54 #[.map (some r1), .map (some r2)]) := fun W h => Wp0.below h Wp0.lt
  have S1 := Lib.hid s1p
  have S2 := Lib.hid s2p
  have ow := Lib.hid (madeS_own Wp n (by omega))
  have bm : Below Wp.heap.size Wp (Wp.alloc (madeS n)) := (Below.refl _ Wp).al _
  clear s1p s2p Wp0
  go_wp2_with fail
  clear hmk
  go_loopw [5, 14] (fun v i wr => ∃ k : Nat, k ≤ n ∧ i = .int .i64 k ∧ Hid (wr.ownsRow Wp.heap.size 9 1 v (texts (ts.take k)).length (strs (texts (ts.take k)))) ∧ Hid (∀ i (h : i < ts.length), i < k → rightS (ts[i]'h).kind (ts[i]'h).text (ts[i]'h).n = true ∧ ¬ ((ts[i]'h).kind = 0 ∧ i + 1 < ts.length)) ∧ Below Wp.heap.size Wp wr) (fun _ i _ => n - (intOf i).toNat)
  case atStart => exact ⟨0, by omega, rfl, ow, (fun i h h2 => absurd h2 (by omega)), bm⟩
  case round =>
    obtain ⟨k, hk, rfl, ho, hok, hbw⟩ := hrel
    have fw : Below w.heap.size w wr := bp.then_ hbw
    by_cases hlt : k < n
    · have hkt : k < ts.length := by rw [← HN.out]; exact hlt
      have cT := tksCells_cut ts k hkt
      have htk := List.take_succ_eq_append_getElem hkt
      obtain ⟨g, o, rfl, hg, hc⟩ := HR.out.chunk (by omega) hlt cT
      have hxl := HXL.out _ (List.getElem_mem hkt)
      have hsn := texts_snoc (ts.take k) ts[k]
      rw [← htk] at hsn
      have hok1 : ∀ b : Bool, rightS ts[k].kind ts[k].text ts[k].n = b → (b = true ∧ ¬ (ts[k].kind = 0 ∧ k + 1 < n) → Hid (∀ i (h : i < ts.length), i < k + 1 → rightS (ts[i]'h).kind (ts[i]'h).text (ts[i]'h).n = true ∧ ¬ ((ts[i]'h).kind = 0 ∧ i + 1 < ts.length))) ∧ (b = false ∨ (ts[k].kind = 0 ∧ k + 1 < n) → Hid (okJ ts = false)) := by
        intro b hb
        constructor
        · rintro ⟨h1, h2⟩ i h h3
          rcases Nat.lt_or_ge i k with h4 | h4
          · exact hok.out i h h4
          · obtain rfl : i = k := by omega
            exact ⟨by rw [hb, h1], by rw [← HN.out]; exact h2⟩
        · intro h
          rw [Hid]
          unfold okJ
          rw [decide_eq_false_iff_not]
          intro h5
          have h6 := h5 k hkt
          rw [hb, ← HN.out] at h6
          rcases h with h | h
          · rw [h] at h6; exact absurd h6.1 (by simp)
          · exact h6.2 h
      generalize ts[k] = x at *
      obtain ⟨xk, xt, xn, xl, xc⟩ := x
      simp only at hxl hok1 hsn
      obtain ⟨S, hS⟩ : ∃ S, str xt = S := ⟨_, rfl⟩
      have qB : wr.cell? ⟨g, o + k * 5, none⟩ = some (.int .i64 xk) ∧ wr.cell? ⟨g, o + k * 5 + 1, none⟩ = some (.string S) ∧ wr.cell? ⟨g, o + k * 5 + 2, none⟩ = some (.int .i64 xn) ∧ wr.cell? ⟨g, o + k * 5 + 3, none⟩ = some (.int .i64 xl) ∧ wr.cell? ⟨g, o + k * 5 + 4, none⟩ = some (.int .i64 xc) := ⟨(fw.cell (p := ⟨g, o + k * 5, none⟩) hg).trans (hc 0 _ rfl), ((fw.cell (p := ⟨g, o + k * 5 + 1, none⟩) hg).trans (hc 1 _ rfl)).trans (by rw [← hS]), (fw.cell (p := ⟨g, o + k * 5 + 2, none⟩) hg).trans (hc 2 _ rfl), (fw.cell (p := ⟨g, o + k * 5 + 3, none⟩) hg).trans (hc 3 _ rfl), (fw.cell (p := ⟨g, o + k * 5 + 4, none⟩) hg).trans (hc 4 _ rfl)⟩
      obtain ⟨b, hb'⟩ : ∃ b, rightS xk xt xn = b := ⟨_, rfl⟩
      obtain ⟨hgo, hstop⟩ := hok1 b hb'
      have HGO := Lib.hid hgo
      have HSTOP := Lib.hid hstop
      have RA : Hid (∀ W, Below Wp.heap.size Wp W → Calls Tryd.prog 31 #[.agg #[.map (some r1), .map (some r2)], .agg #[.int .i64 xk, .string S, .int .i64 xn, .int .i64 xl, .int .i64 xc]] W (Tells W b)) := fun W hW => by
        have := right_any r1 r2 xk xt xn xl xc W (S1.out.below hW) (S2.out.below hW) (by omega)
        rw [hS, hb'] at this
        exact this
      have z0 : (0 : Int) ≤ (k : Int) := by omega
      have z1 : (k : Int) < (n : Int) := by omega
      obtain ⟨q0, q1, q2, q3, q4⟩ := qB
      have BT := Blk.new wr 31 #[.int .i64 xk, .string S, .int .i64 xn, .int .i64 xl, .int .i64 xc]
      have hb1 : Below Wp.heap.size Wp (wr.alloc (.cells #[.int .i64 xk, .string S, .int .i64 xn, .int .i64 xl, .int .i64 xc] 31)) := hbw.alloc hbw.size _
      have ho1 := Lib.hid (World.ownsRow.alloc ho.out (.cells #[.int .i64 xk, .string S, .int .i64 xn, .int .i64 xl, .int .i64 xc] 31))
      have HSN := Lib.hid hsn
      have HS := Lib.hid hS
      obtain ⟨sa0, sa1⟩ : (wr.alloc (.cells #[.int .i64 xk, .string S, .int .i64 xn, .int .i64 xl, .int .i64 xc] 31)).cell? ⟨w1.heap.size, 0, none⟩ = some (.map (some r1)) ∧ (wr.alloc (.cells #[.int .i64 xk, .string S, .int .i64 xn, .int .i64 xl, .int .i64 xc] 31)).cell? ⟨w1.heap.size, 1, none⟩ = some (.map (some r2)) := ⟨(SCX.out _ hb1).cell 0, (SCX.out _ hb1).cell 1⟩
      clear hc cT htk hok hok1 hgo hstop hb' hxl hsn hS hkt
      go_upto_region 6 with fail
      generalize wr.alloc (.cells #[.int .i64 xk, .string S, .int .i64 xn, .int .i64 xl, .int .i64 xc] 31) = W1 at *
      obtain ⟨t0, t1, t2, t3, t4⟩ := tok5 BT
      clear q0 q1 q2 q3 q4
      cases b
      · have HF := HSTOP.out (.inl rfl)
        clear HGO HSTOP
        go_wp2_with (go_at_call 31; refine (RA.out _ hb1).mono ?_; rintro e w5 ⟨rfl, b5⟩; have hb5 := hb1.trans (b5.mono hb1.size); have B5 := BT.below b5 BT.lt; obtain ⟨p0, p1, p2, p3, p4⟩ := tok5 B5; have SC5 := SCX.out w5 hb5; have sc0 := SC5.cell 0; have sc1 := SC5.cell 1; clear SC5)
        go_ret2
        exact LPost.no HF.out (bp.then_ hb5)
      · by_cases hk0 : xk = 0
        · subst hk0
          by_cases hl1 : k + 1 < n
          · have z2 : (k : Int) < (n : Int) - 1 := by omega
            have HF := HSTOP.out (.inr ⟨rfl, hl1⟩)
            clear HGO HSTOP
            go_wp2_with (go_at_call 31; refine (RA.out _ hb1).mono ?_; rintro e w5 ⟨rfl, b5⟩; have hb5 := hb1.trans (b5.mono hb1.size); have B5 := BT.below b5 BT.lt; obtain ⟨p0, p1, p2, p3, p4⟩ := tok5 B5; have SC5 := SCX.out w5 hb5; have sc0 := SC5.cell 0; have sc1 := SC5.cell 1; clear SC5)
            go_ret2
            exact LPost.no HF.out (bp.then_ hb5)
          · have z2 : ¬ (k : Int) < (n : Int) - 1 := by omega
            have HN2 := HGO.out ⟨rfl, fun h => hl1 h.2⟩
            have HSN2 : Hid (texts (ts.take (k + 1)) = texts (ts.take k)) := by
              have := HSN.out
              rw [Hid]
              simpa using this
            clear HGO HSTOP HSN
            go_wp2_with (go_at_call 31; refine (RA.out _ hb1).mono ?_; rintro e w5 ⟨rfl, b5⟩; have hb5 := hb1.trans (b5.mono hb1.size); have B5 := BT.below b5 BT.lt; obtain ⟨p0, p1, p2, p3, p4⟩ := tok5 B5; have SC5 := SCX.out w5 hb5; have sc0 := SC5.cell 0; have sc1 := SC5.cell 1; clear SC5)
            go_roundw
            case rel => exact ⟨k + 1, by omega, by go_num, by rw [Hid, HSN2.out]; exact own_below ho1.out b5 (Nat.le_refl _), HN2, hb5⟩
            case measure => simp [intOf]; omega
        · have hk0b : (xk == 0) = false := by simpa using hk0
          have hk0c : (xk != 0) = true := by simpa using hk0
          have HN2 := HGO.out ⟨rfl, fun h => hk0 h.1⟩
          have HSN2 := Lib.hid (HSN.out.trans (if_neg hk0))
          clear HGO HSTOP HSN
          obtain ⟨i0, hi0, hz0, hz1, hz2⟩ := info_parts info_str
          have hbl := own_block ho.out
          have hml := texts_len (ts.take k)
          rw [List.length_take] at hml
          obtain ⟨m, hm⟩ : ∃ m, (texts (ts.take k)).length = m := ⟨_, rfl⟩
          rw [hm] at ho1 hml
          have HM := Lib.hid hm
          clear hm ho
          go_wp2_with (first | (go_at_call 31; refine (RA.out _ hb1).mono ?_; rintro e w5 ⟨rfl, b5⟩; have hb5 := hb1.trans (b5.mono hb1.size); have B5 := BT.below b5 BT.lt; obtain ⟨p0, p1, p2, p3, p4⟩ := tok5 B5; have SC5 := SCX.out w5 hb5; have sc0 := SC5.cell 0; have sc1 := SC5.cell 1; clear SC5; have own5 := Lib.hid (World.ownsRow.alloc (own_below ho1.out b5 (Nat.le_refl _)) (.cells #[.string S] 9)); have RD5 := Lib.hid (str_reads w5 S)) | (at_builtin; refine wpList_append_any _ (by rfl) (.tmp 38) (.tmp 41) 33 rfl Wp.heap.size 9 i0 _ 1 16 Tryd.underlying33 hi0 hz0 hz1 hz2 rfl (by omega) u5 m (strs (texts (ts.take k))) rfl own5.out _ _ 1 1 [.string S] rfl RD5.out (by simp [Value.oneCell']) (by unfold maxLen; omega) (by omega) (by have := hb5.size; simp; omega) ?_; intro v8 w8 o8 g8 at8; have b8 : Below Wp.heap.size Wp w8 := (hb5.alloc hb5.size _).trans ((Kept.of_grown (S := fun k => Wp.heap.size ≤ k) g8 hbl).to_below (by have := hb5.size; simp; omega) (fun k hk => by omega)); have O8 := Lib.hid o8; clear o8 g8 at8))
          go_roundw
          case rel =>
            refine ⟨k + 1, by omega, by go_num, ?_, HN2, b8⟩
            rw [Hid, HSN2.out, List.length_append, HM.out]
            have e : strs (texts (ts.take k) ++ [xt]) = strs (texts (ts.take k)) ++ [.string S] := by
              rw [← HS.out]
              simp [strs]
            rw [e]
            exact O8.out
          case measure => simp [intOf]; omega
    · obtain rfl : k = n := by omega
      have htk : ts.take k = ts := List.take_of_length_le (by rw [← HN.out]; omega)
      have hok2 : okJ ts = true := by
        unfold okJ
        rw [decide_eq_true_iff]
        exact fun i h => hok.out i h (by rw [HN.out]; exact h)
      rw [htk] at ho
      have hjl : (Lib.join (texts ts) [32]).length ≤ 6100 := by
        rw [← J_join hok2]
        have h1 := J_len ts HXL.out
        have h2 := HN.out
        omega
      have HF := Lib.hid hok2
      have hml := texts_len ts
      have hN2 := HN.out
      clear hok hok2 htk
      rcases ho.out.2 with ⟨rfl, h0⟩ | ⟨g, cap, cur, rfl, hg, hh, hcap, _, _, _⟩
      · have h00 : texts ts = [] := List.eq_nil_of_length_eq_zero h0
        clear h0 hml hjl
        go_wp2_with fail
        refine (Tryd.strings_Join_none _ _ _ _).mono ?_
        rintro e w9 ⟨rfl, rfl⟩
        go_wp2_with fail
        go_ret2
        have h := LPost.yes HF.out fw
        rw [h00] at h
        exact h
      · have hlt9 : g < wr.heap.size := Blk.lt (t := 9) (cs := cur) hh
        have hcells : ∀ (j : Nat) x, ((texts ts).map str)[j]? = some x → wr.cell? ⟨g, 0 + j, none⟩ = some (.string x) := by
          intro j x hx
          have h := World.ownsRow.cells ho.out (g := g) rfl j (.string x) (by
            unfold strs
            rw [List.getElem?_map] at hx ⊢
            cases hy : (texts ts)[j]? with
            | none => rw [hy] at hx; cases hx
            | some y =>
              rw [hy] at hx
              simp only [Option.map_some, Option.some.injEq] at hx ⊢
              rw [hx])
          rw [Addr.add_lit] at h
          exact h
        have e1 : ((texts ts).map str).map (·.data.toList) = texts ts := by
          rw [List.map_map]
          have : (fun s : ByteArray => s.data.toList) ∘ str = id := by
            funext y
            simp [str]
          rw [this, List.map_id]
        have hcall := Tryd.strings_Join g 0 cap ((texts ts).map str) ⟨#[32]⟩ wr hcells hlt9 (by rw [List.length_map]; omega) (by rw [List.length_map]; exact hcap) (by rw [e1]; exact Nat.le_trans hjl (by omega))
        rw [e1, List.length_map] at hcall
        have HC := Lib.hid hcall
        clear hcall hcells e1 hh hml hjl
        go_wp2_with fail
        refine HC.out.mono ?_
        rintro e w9 ⟨rfl, b9⟩
        go_wp2_with fail
        go_ret2
        exact LPost.yes HF.out (fw.then_ b9)
end Go.Proofs.YtlfckmekfncboaaDoor
