/-
  LexJoins: the document's Join.
-/
import Derived.Test.YtlfckmekfncboaaDoorJ6
import Derived.Test.YtlfckmekfncboaaDoorJ8
namespace Go.Proofs.YtlfckmekfncboaaDoor
open Go.RowKit

/-- May they be tokens of a text? -/
def okJ (ts : List Tk) : Bool := decide (∀ i (h : i < ts.length), rightS (ts[i]'h).kind (ts[i]'h).text (ts[i]'h).n = true ∧ ¬ ((ts[i]'h).kind = 0 ∧ i + 1 < ts.length))
/-- The text. -/
def J (ts : List Tk) : List UInt8 := (ts.foldl (fun (p : Nat × List UInt8) t => (p.1 + 1, p.2 ++ (if 0 < p.1 ∧ t.kind ≠ 0 then [32] else []) ++ t.text)) (0, [])).2
theorem J_fst (ts : List Tk) : (ts.foldl (fun (p : Nat × List UInt8) t => (p.1 + 1, p.2 ++ (if 0 < p.1 ∧ t.kind ≠ 0 then [32] else []) ++ t.text)) (0, [])).1 = ts.length := by
  have h : ∀ (l : List Tk) (q : Nat × List UInt8), (l.foldl (fun (p : Nat × List UInt8) t => (p.1 + 1, p.2 ++ (if 0 < p.1 ∧ t.kind ≠ 0 then [32] else []) ++ t.text)) q).1 = q.1 + l.length := by
    intro l
    induction l with
    | nil => intro q; rfl
    | cons t l ih => intro q; rw [List.foldl_cons, ih, List.length_cons]; simp only; omega
  rw [h]
  simp
theorem J_snoc (ts : List Tk) (t : Tk) : J (ts ++ [t]) = J ts ++ (if 0 < ts.length ∧ t.kind ≠ 0 then [32] else []) ++ t.text := by
  have h := J_fst ts
  unfold J
  rw [List.foldl_append]
  simp only [List.foldl_cons, List.foldl_nil]
  rw [h]
theorem J_len (ts : List Tk) (h : ∀ t ∈ ts, t.text.length ≤ 60) : (J ts).length ≤ 61 * ts.length := by
  have g : ∀ (l : List Tk) (q : Nat × List UInt8), (∀ t ∈ l, t.text.length ≤ 60) → (l.foldl (fun (p : Nat × List UInt8) t => (p.1 + 1, p.2 ++ (if 0 < p.1 ∧ t.kind ≠ 0 then [32] else []) ++ t.text)) q).2.length ≤ q.2.length + 61 * l.length := by
    intro l
    induction l with
    | nil => intro q _; simp
    | cons t l ih =>
      intro q hq
      have h1 := hq t (List.mem_cons_self ..)
      rw [List.foldl_cons]
      refine Nat.le_trans (ih _ (fun x hx => hq x (List.mem_cons_of_mem _ hx))) ?_
      simp only [List.length_append, List.length_cons]
      split
      · simp only [List.length_singleton]; omega
      · simp only [List.length_nil]; omega
  have := g ts (0, []) h
  simpa [J] using this

/-- What the document's Join gives. -/
def JPost (ts : List Tk) (w : World) (e : Ending) (w' : World) : Prop := e = .returned (.tuple #[.string (str (if okJ ts = true then J ts else [])), .bool (okJ ts)]) ∧ Below w.heap.size w w'
theorem JPost.no {ts : List Tk} {w w' : World} (h : okJ ts = false) (f : Below w.heap.size w w') : JPost ts w (.returned (.tuple #[.string ⟨#[]⟩, .bool false])) w' := ⟨by rw [h, if_neg (by simp)]; rfl, f⟩
theorem JPost.yes {ts : List Tk} {w w' : World} (h : okJ ts = true) (f : Below w.heap.size w w') : JPost ts w (.returned (.tuple #[.string (str (J ts)), .bool true])) w' := ⟨by rw [h, if_pos rfl], f⟩

set_option maxHeartbeats 4000000 in
set_option maxRecDepth 100000 in
theorem refJoin_any (ts : List Tk) (A : Option Addr) (n c : Nat) (w : World) (hr : Reads w w.heap.size 5 A n (tksCells ts)) (hn : n = ts.length) (hb : n ≤ 100) (hx : ∀ t ∈ ts, t.text.length ≤ 60) :
    Calls Tryd.prog 22 #[.slice A n c] w (JPost ts w) := by
  have HR := Lib.hid hr
  have HN := Lib.hid hn
  have HXL := Lib.hid hx
  clear hr hn hx
  go_enter Tryd.func22, Tryd.ntmps22
  go_wp2_with fail
  go_loopw [4, 5] (fun v i wr => ∃ k : Nat, k ≤ n ∧ i = .int .i64 k ∧ v = .string (str (J (ts.take k))) ∧ Hid (∀ i (h : i < ts.length), i < k → rightS (ts[i]'h).kind (ts[i]'h).text (ts[i]'h).n = true ∧ ¬ ((ts[i]'h).kind = 0 ∧ i + 1 < ts.length)) ∧ Below w.heap.size w wr) (fun _ i _ => n - (intOf i).toNat)
  case atStart => exact ⟨0, by omega, rfl, rfl, (fun i h h2 => absurd h2 (by omega)), Below.refl _ _⟩
  case round =>
    obtain ⟨k, hk, rfl, rfl, hok, hbw⟩ := hrel
    by_cases hlt : k < n
    · have hkt : k < ts.length := by rw [← HN.out]; exact hlt
      have cT := tksCells_cut ts k hkt
      have htk := List.take_succ_eq_append_getElem hkt
      obtain ⟨g, o, rfl, hg, hc⟩ := HR.out.chunk (by omega) hlt cT
      have hxl := HXL.out _ (List.getElem_mem hkt)
      have hJl := J_len (ts.take k) (fun t ht => HXL.out t (List.mem_of_mem_take ht))
      have hsn := J_snoc (ts.take k) ts[k]
      rw [← htk] at hsn
      have hok1 : ∀ b : Bool, rightS ts[k].kind ts[k].text ts[k].n = b → (b = true ∧ ¬ (ts[k].kind = 0 ∧ k + 1 < n) → Hid (∀ i (h : i < ts.length), i < k + 1 → rightS (ts[i]'h).kind (ts[i]'h).text (ts[i]'h).n = true ∧ ¬ ((ts[i]'h).kind = 0 ∧ i + 1 < ts.length))) ∧ (b = false ∨ (ts[k].kind = 0 ∧ k + 1 < n) → Hid (okJ ts = false)) := by
        intro b hb
        constructor
        · rintro ⟨h1, h2⟩ i h h3
          rcases Nat.lt_or_ge i k with h4 | h4
          · exact hok.out i h h4
          · obtain rfl : i = k := by omega
            exact ⟨by rw [hb, h1], by rw [← HN.out]; exact h2⟩
        · intro h
          rw [Hid]
          unfold okJ
          rw [decide_eq_false_iff_not]
          intro h5
          have h6 := h5 k hkt
          rw [hb, ← HN.out] at h6
          rcases h with h | h
          · rw [h] at h6; exact absurd h6.1 (by simp)
          · exact h6.2 h
      generalize ts[k] = x at *
      obtain ⟨xk, xt, xn, xl, xc⟩ := x
      simp only at hxl hok1 hsn
      obtain ⟨S, hS⟩ : ∃ S, str xt = S := ⟨_, rfl⟩
      have sS : S.size ≤ 60 := by rw [← hS, str_size]; exact hxl
      have qB : ∀ W, Below w.heap.size w W → W.cell? ⟨g, o + k * 5, none⟩ = some (.int .i64 xk) ∧ W.cell? ⟨g, o + k * 5 + 1, none⟩ = some (.string S) ∧ W.cell? ⟨g, o + k * 5 + 2, none⟩ = some (.int .i64 xn) ∧ W.cell? ⟨g, o + k * 5 + 3, none⟩ = some (.int .i64 xl) ∧ W.cell? ⟨g, o + k * 5 + 4, none⟩ = some (.int .i64 xc) := fun W h => ⟨(h.cell (p := ⟨g, o + k * 5, none⟩) hg).trans (hc 0 _ rfl), ((h.cell (p := ⟨g, o + k * 5 + 1, none⟩) hg).trans (hc 1 _ rfl)).trans (by rw [← hS]), (h.cell (p := ⟨g, o + k * 5 + 2, none⟩) hg).trans (hc 2 _ rfl), (h.cell (p := ⟨g, o + k * 5 + 3, none⟩) hg).trans (hc 3 _ rfl), (h.cell (p := ⟨g, o + k * 5 + 4, none⟩) hg).trans (hc 4 _ rfl)⟩
      obtain ⟨b, hb'⟩ : ∃ b, rightS xk xt xn = b := ⟨_, rfl⟩
      obtain ⟨hgo, hstop⟩ := hok1 b hb'
      have HGO := Lib.hid hgo
      have HSTOP := Lib.hid hstop
      have RA : Hid (∀ W, Calls Tryd.prog 33 #[.agg #[.int .i64 xk, .string S, .int .i64 xn, .int .i64 xl, .int .i64 xc]] W (Tells W b)) := fun W => by
        have := refRight_any xk xt xn xl xc W (by omega)
        rw [hS, hb'] at this
        exact this
      have z0 : (0 : Int) ≤ (k : Int) := by omega
      have z1 : (k : Int) < (n : Int) := by omega
      obtain ⟨q0, q1, q2, q3, q4⟩ := qB wr hbw
      have hJ1 : (J (ts.take k)).length ≤ 6100 := by rw [List.length_take] at hJl; omega
      obtain ⟨V, hV⟩ : ∃ V, str (J (ts.take k)) = V := ⟨_, rfl⟩
      obtain ⟨V2, hV2⟩ : ∃ V, str (J (ts.take (k + 1))) = V := ⟨_, rfl⟩
      have sV : V.size ≤ 6100 := by rw [← hV, str_size]; exact hJ1
      rw [hV]
      have hlen : (ts.take k).length = k := by rw [List.length_take]; omega
      rw [hlen] at hsn
      have HV2 := Lib.hid hV2
      clear hc cT htk hok hok1 hJl hJ1 hgo hstop hb' hxl hlen hkt
      cases b
      · have HF := HSTOP.out (.inl rfl)
        clear hsn hV hV2 hS HGO HSTOP
        go_wp2_with (go_at_call 33; refine (RA.out wr).mono ?_; rintro e w5 ⟨rfl, b5⟩; have f5 := hbw.then_ b5; obtain ⟨p0, p1, p2, p3, p4⟩ := qB w5 f5)
        go_ret2
        exact JPost.no HF.out f5
      · by_cases hk0 : xk = 0
        · subst hk0
          by_cases hl1 : k + 1 < n
          · have z2 : (k : Int) < (n : Int) - 1 := by omega
            have HF := HSTOP.out (.inr ⟨rfl, hl1⟩)
            clear hsn hV hV2 hS HGO HSTOP
            go_wp2_with (go_at_call 33; refine (RA.out wr).mono ?_; rintro e w5 ⟨rfl, b5⟩; have f5 := hbw.then_ b5; obtain ⟨p0, p1, p2, p3, p4⟩ := qB w5 f5)
            go_ret2
            exact JPost.no HF.out f5
          · have z2 : ¬ (k : Int) < (n : Int) - 1 := by omega
            have HN2 := HGO.out ⟨rfl, fun h => hl1 h.2⟩
            have hap : V ++ S = V2 := by
              rw [← hV, ← hS, ← hV2, hsn, if_neg (by simp), List.append_nil, str_append]
            have x1 : ¬ (9223372036854775807 < V.size + S.size) := by omega
            clear hsn hV hV2 hS HGO HSTOP
            by_cases hkz : (0 : Int) < (k : Int)
            · go_wp2_with (go_at_call 33; refine (RA.out wr).mono ?_; rintro e w5 ⟨rfl, b5⟩; have f5 := hbw.then_ b5; obtain ⟨p0, p1, p2, p3, p4⟩ := qB w5 f5)
              go_roundw
              case rel => exact ⟨k + 1, by omega, by go_num, by rw [HV2.out], HN2, f5⟩
              case measure => simp [intOf]; omega
            · go_wp2_with (go_at_call 33; refine (RA.out wr).mono ?_; rintro e w5 ⟨rfl, b5⟩; have f5 := hbw.then_ b5; obtain ⟨p0, p1, p2, p3, p4⟩ := qB w5 f5)
              go_roundw
              case rel => exact ⟨k + 1, by omega, by go_num, by rw [HV2.out], HN2, f5⟩
              case measure => simp [intOf]; omega
        · have hk0b : (xk == 0) = false := by simpa using hk0
          have hk0c : (xk != 0) = true := by simpa using hk0
          have HN2 := HGO.out ⟨rfl, fun h => hk0 h.1⟩
          by_cases hkz : k = 0
          · have z3 : ¬ (0 : Int) < (k : Int) := by omega
            have hap : V ++ S = V2 := by
              rw [← hV, ← hS, ← hV2, hsn, if_neg (fun h => by omega), List.append_nil, str_append]
            have x1 : ¬ (9223372036854775807 < V.size + S.size) := by omega
            clear hsn hV hV2 hS hkz HGO HSTOP
            go_wp2_with (go_at_call 33; refine (RA.out wr).mono ?_; rintro e w5 ⟨rfl, b5⟩; have f5 := hbw.then_ b5; obtain ⟨p0, p1, p2, p3, p4⟩ := qB w5 f5)
            go_roundw
            case rel => exact ⟨k + 1, by omega, by go_num, by rw [HV2.out], HN2, f5⟩
            case measure => simp [intOf]; omega
          · have z3 : (0 : Int) < (k : Int) := by omega
            obtain ⟨V1, hV1⟩ : ∃ V, str (J (ts.take k) ++ [32]) = V := ⟨_, rfl⟩
            have h1 : V ++ (⟨#[32]⟩ : ByteArray) = V1 := by rw [← hV, ← hV1]; exact str_append _ [32]
            have hap : V1 ++ S = V2 := by
              rw [← hV1, ← hS, ← hV2, hsn, if_pos ⟨by omega, hk0⟩, str_append]
            have sV1 : V1.size = V.size + 1 := by rw [← hV1, ← hV, str_size, str_size, List.length_append]; rfl
            have x1 : ¬ (9223372036854775807 < V1.size + S.size) := by omega
            have x2 : ¬ (9223372036854775807 < V.size + 1) := by omega
            clear hsn hV hV2 hS hV1 sV1 hkz HGO HSTOP
            go_wp2_with (go_at_call 33; refine (RA.out wr).mono ?_; rintro e w5 ⟨rfl, b5⟩; have f5 := hbw.then_ b5; obtain ⟨p0, p1, p2, p3, p4⟩ := qB w5 f5)
            go_roundw
            case rel => exact ⟨k + 1, by omega, by go_num, by rw [HV2.out], HN2, f5⟩
            case measure => simp [intOf]; omega
    · obtain rfl : k = n := by omega
      have htk : ts.take k = ts := List.take_of_length_le (by rw [← HN.out]; omega)
      have HF : Hid (okJ ts = true) := by
        rw [Hid]
        unfold okJ
        rw [decide_eq_true_iff]
        exact fun i h => hok.out i h (by rw [HN.out]; exact h)
      rw [htk]
      go_wp2_with fail
      go_ret2
      exact JPost.yes HF.out hbw
end Go.Proofs.YtlfckmekfncboaaDoor
