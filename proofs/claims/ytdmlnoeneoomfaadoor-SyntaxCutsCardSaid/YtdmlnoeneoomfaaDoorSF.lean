
/-
  lex.Join at many tokens; what is joined is read as it was. (Printed by wip/tools/gens30.py.) SyntaxLayout: the plain law, and the walk. (Printed by wip/tools/gens35.py.)
-/
import Derived.Test.YtdmlnoeneoomfaaDoorJA
import Derived.Test.YtdmlnoeneoomfaaDoorL14
import Derived.Test.YtdmlnoeneoomfaaDoorL15
import Derived.Test.YtdmlnoeneoomfaaDoorLY
import Derived.Test.YtdmlnoeneoomfaaDoorJShelf
import Derived.Test.YtdmlnoeneoomfaaDoorG1
import Derived.Lib.Join
import Derived.Test.YtdmlnoeneoomfaaDoorSE
import Derived.Test.YtdmlnoeneoomfaaDoorS11
import Derived.Deep.RegionHeld3
namespace Go.Proofs.YtdmlnoeneoomfaaDoor
open Go.RowKit

/-- May they be tokens of a text? -/
def okJ (ts : List Tk) : Bool := decide (∀ i (h : i < ts.length), rightS (ts[i]'h).kind (ts[i]'h).text (ts[i]'h).n = true ∧ ¬ ((ts[i]'h).kind = 0 ∧ i + 1 < ts.length))
def texts (ts : List Tk) : List (List UInt8) := (ts.filter fun t => decide (t.kind ≠ 0)).map Tk.text
theorem texts_snoc (ts : List Tk) (t : Tk) : texts (ts ++ [t]) = if t.kind = 0 then texts ts else texts ts ++ [t.text] := by
  unfold texts
  rw [List.filter_append]
  by_cases h : t.kind = 0 <;> simp [h]
theorem join_snoc (x : List UInt8) (r : List (List UInt8)) (y sep : List UInt8) : Lib.join (x :: r ++ [y]) sep = Lib.join (x :: r) sep ++ sep ++ y := by
  rw [List.cons_append, Lib.join_cons, Lib.join_cons]
  unfold Lib.joinTail
  simp [List.append_assoc]
theorem filter_us {us : List Tk} (h : ∀ u ∈ us, u.kind ≠ 0) : us.filter (fun t => decide (t.kind ≠ 0)) = us := List.filter_eq_self.2 (fun u hu => by simpa using h u hu)
/-- The texts, with a blank between two. -/
theorem join_bld {u : Tk} : ∀ (us : List Tk), Lib.join ((us ++ [u]).map Tk.text) [32] = bld (fun _ => [32]) 0 us ++ u.text := by
  have g : ∀ (us : List Tk) (i : Nat), Lib.join ((us ++ [u]).map Tk.text) [32] = bld (fun _ => [32]) i us ++ u.text := by
    intro us
    induction us with
    | nil => intro i; simp [bld, Lib.join_one]
    | cons a us ih =>
      intro i
      have h := ih (i + 1)
      cases us with
      | nil =>
        simp only [List.nil_append, List.cons_append, List.map_cons, List.map_nil, bld, List.append_nil]
        rw [Lib.join_cons]
        simp [Lib.joinTail]
      | cons b us =>
        simp only [List.cons_append, List.map_cons, bld] at h ⊢
        rw [Lib.join_cons] at h ⊢
        rw [List.append_assoc (a.text ++ [32]), ← h]
        simp [Lib.joinTail]
  exact fun us => g us 0
theorem lexS_join {us : List Tk} (hg : ∀ u ∈ us, Good u) : ∃ xs L C, lexS (Lib.join (us.map Tk.text) [32]) = .ok (xs ++ [⟨0, [], 0, L, C⟩]) ∧ xs.map Tk.bare = us.map Tk.bare := by
  rcases List.eq_nil_or_concat us with rfl | ⟨l, t, rfl⟩
  · exact ⟨[], 1, 1, rfl, rfl⟩
  · rw [List.concat_eq_append] at hg ⊢
    have hs : ∀ i : Nat, SepB ((fun _ => [32]) i) := fun _ => ⟨32, [], rfl, .inr (.inl rfl), .blank (.inr (.inl rfl)) .nil⟩
    obtain ⟨xs, L, C, h1, h2⟩ := lexF_bld (fun _ => [32]) hs (Tail.piece (hg t (by simp))) l 0 (fun u hu => hg u (List.mem_append_left _ hu)) _ 1 1 [] (Nat.lt_succ_self _)
    refine ⟨xs, L, C, ?_, h2⟩
    rw [join_bld]
    simpa [lexS] using h1
theorem pre_all {p : UInt8 → Bool} {c : UInt8} {l : List UInt8} (h : c ∈ l.take (preN p l)) : p c = true := by
  refine all_pre (l := l.take (preN p l)) ?_ c h
  rw [preN_take, List.length_take]
  have := preN_le p l
  omega
theorem dig_ge {c : UInt8} (h : digB c = true) : (48 : Int) ≤ (c.toNat : Int) := by
  unfold digB at h
  rw [decide_eq_true_iff] at h
  omega
theorem numF_big : ∀ (l : List UInt8) (a : Int), 0 ≤ a → (∀ c ∈ l, digB c = true) → (numF a l).2 = 0 → a * 10 ^ l.length ≤ 2147483647 ∨ l = []
  | [], _, _, _, _ => .inr rfl
  | c :: r, a, ha, hd, h => by
    left
    unfold numF at h
    split at h
    · simp at h
    · rename_i hle
      have hc : (48 : Int) ≤ (c.toNat : Int) := by
        have := hd c (List.mem_cons_self ..)
        exact dig_ge this
      rcases numF_big r _ (by omega) (fun x hx => hd x (List.mem_cons_of_mem _ hx)) h with h2 | h2
      · have h3 : a * 10 ≤ 10 * a + ((c.toNat : Int) - 48) := by omega
        have h4 : a * 10 * 10 ^ r.length ≤ (10 * a + ((c.toNat : Int) - 48)) * 10 ^ r.length := Int.mul_le_mul_of_nonneg_right h3 (Int.pow_nonneg (by omega))
        rw [List.length_cons, Int.pow_succ, Int.mul_comm (10 ^ r.length) 10, ← Int.mul_assoc]
        omega
      · subst h2
        simp only [List.length_singleton, Int.pow_succ, Int.pow_zero, Int.one_mul]
        omega
theorem num_len {l : List UInt8} (h : (numS l).2 = 0) : l.length ≤ 30 := by
  unfold numS at h
  split at h
  · simp at h
  · rename_i hc
    simp only [not_or] at hc
    obtain ⟨h1, h2, h3⟩ := hc
    cases l with
    | nil => simp
    | cons c r =>
      have hd : ∀ x ∈ c :: r, digB x = true := fun x hx => pre_all (p := digB) (l := c :: r) (by rw [Decidable.not_not.1 h2, List.take_length]; exact hx)
      unfold numF at h
      split at h
      · simp at h
      · rename_i hle
        cases r with
        | nil => simp
        | cons b r =>
          have hc48 : c ≠ 48 := fun e => h3 ⟨by simp, by rw [e]; rfl⟩
          have hge := dig_ge (hd c (List.mem_cons_self ..))
          have h49 : (49 : Int) ≤ (c.toNat : Int) := by
            rcases Nat.lt_or_ge c.toNat 49 with h4 | h4
            · exfalso
              apply hc48
              apply UInt8.toNat_inj.1
              show c.toNat = 48
              omega
            · omega
          rcases numF_big (b :: r) _ (by omega) (fun x hx => hd x (List.mem_cons_of_mem _ hx)) h with h5 | h5
          · rcases Nat.lt_or_ge (b :: r).length 30 with h6 | h6
            · simp only [List.length_cons] at h6 ⊢
              omega
            · exfalso
              have h7 : (10 : Int) ^ 30 ≤ 10 ^ (b :: r).length := by
                have : (10 : Nat) ^ 30 ≤ 10 ^ (b :: r).length := Nat.pow_le_pow_right (by omega) h6
                exact_mod_cast this
              have h8 : (1 : Int) * 10 ^ (b :: r).length ≤ (10 * 0 + ((c.toNat : Int) - 48)) * 10 ^ (b :: r).length := Int.mul_le_mul_of_nonneg_right (by omega) (Int.pow_nonneg (by omega))
              have h9 : (10 : Int) ^ 30 = 1000000000000000000000000000000 := by decide
              omega
          · simp at h5
theorem good_len {u : Tk} (h : Good u) : u.text.length ≤ 30 ∧ u.kind ≠ 0 ∧ rightS u.kind u.text u.n = true := by
  obtain ⟨h0, hp⟩ := h
  unfold pieceS at hp
  split at hp
  · rename_i hl
    split at hp
    · exact absurd (congrArg Pc.text hp) (fun e => h0 e.symm)
    · rename_i h30
      split at hp
      · rename_i hw
        injection hp with h1 h2 h3 _
        have hlen : u.text.length ≤ 30 := by rw [← h2, List.length_take]; omega
        rw [h2] at hw
        refine ⟨hlen, by rw [← h1]; decide, ?_⟩
        rw [← h1, ← h3]
        simp [rightS, hw]
      · rename_i hw
        injection hp with h1 h2 h3 _
        have hlen : u.text.length ≤ 30 := by rw [← h2, List.length_take]; omega
        refine ⟨hlen, by rw [← h1]; decide, ?_⟩
        rw [h2] at hw
        rw [← h1, ← h3]
        have hr : runS u.text = true := by
          unfold runS
          rw [decide_eq_true_iff]
          refine ⟨h0, hl, fun c hc => ?_⟩
          rw [← h2] at hc
          exact pre_all hc
        simp [rightS, nameS, hr, hlen, hw]
  · split at hp
    · rename_i hl hd
      split at hp
      · exact absurd (congrArg Pc.text hp) (fun e => h0 e.symm)
      · rename_i hn
        injection hp with h1 h2 h3 _
        rw [h2] at hn h3
        have hn : (numS u.text).2 = 0 := by simpa using hn
        refine ⟨num_len hn, by rw [← h1]; decide, ?_⟩
        rw [← h1]
        simp [rightS, hn, h3]
    · rename_i hl hd
      split at hp
      · rename_i hm
        injection hp with h1 h2 h3 _
        have hlen : u.text.length ≤ 30 := by rw [← h2, List.length_take]; omega
        refine ⟨hlen, by rw [← h1]; decide, ?_⟩
        have hm := hm.2
        rw [h2] at hm
        rw [← h1, ← h3]
        simp [rightS, hm]
      · split at hp
        · rename_i hm
          injection hp with h1 h2 h3 _
          have hlen : u.text.length ≤ 30 := by rw [← h2, List.length_take]; omega
          refine ⟨hlen, by rw [← h1]; decide, ?_⟩
          rw [h2] at hm
          rw [← h1, ← h3]
          simp [rightS, hm]
        · exact absurd (congrArg Pc.text hp) (fun e => h0 e.symm)
theorem join_len : ∀ (l : List (List UInt8)), (∀ x ∈ l, x.length ≤ 60) → (Lib.join l [32]).length ≤ 61 * l.length
  | [], _ => by simp [Lib.join_nil]
  | x :: l, h => by
    have hx := h x (List.mem_cons_self ..)
    have g : ∀ (l : List (List UInt8)), (∀ x ∈ l, x.length ≤ 60) → Lib.lens l ≤ 60 * l.length := by
      intro l
      induction l with
      | nil => intro _; simp [Lib.lens]
      | cons y l ih =>
        intro hl
        have h1 := ih (fun z hz => hl z (List.mem_cons_of_mem _ hz))
        have h2 := hl y (List.mem_cons_self ..)
        unfold Lib.lens at h1 ⊢
        simp only [List.map_cons, List.sum_cons, List.length_cons] at h1 ⊢
        omega
    have h3 := g l (fun z hz => h z (List.mem_cons_of_mem _ hz))
    rw [Lib.join_cons, List.length_append, Lib.joinTail_length]
    simp only [List.length_cons, List.length_nil]
    omega
theorem info_str : (Tryd.prog.info? 9).map (fun i => (i.zero, i.size, i.bytes)) = some (some (.string ByteArray.empty), 1, 16) := by kernel_rfl
def strs (l : List (List UInt8)) : List Value := l.map fun x => .string (str x)
def madeS (n : Nat) : Obj := .cells (madeCells (Value.string ByteArray.empty).cells (n * 1)) 9
theorem run_make_strs (n : Nat) (hn : n ≤ 100000) (W : World) : (Instr.makeSlice 44 (.int .i64 0) (.int .i64 (n : Int))).run Tryd.prog W = .ok (.slice (some ⟨W.heap.size, 0, none⟩) 0 n) (W.alloc (madeS n)) := by
  obtain ⟨i, hi, hz0, hz1, hz2⟩ := info_parts info_str
  have hr := run_make (P := Tryd.prog) W 44 9 i _ Tryd.underlying44 hi hz0 .i64 .i64 0 n (by omega) (by omega) (by rw [hz2]; omega) (by omega)
  simp only [Int.toNat_natCast] at hr
  rw [hz1] at hr
  exact hr
theorem madeS_own (W : World) (n : Nat) (hn : n ≤ 100000) : (W.alloc (madeS n)).ownsRow W.heap.size 9 1 (.slice (some ⟨W.heap.size, 0, none⟩) 0 n) 0 [] :=
  ⟨rfl, .inr ⟨W.heap.size, n, _, rfl, Nat.le_refl _, heap_alloc_new W _, Nat.zero_le _, by unfold maxLen; omega, by simp [madeCells, Value.cells], by simp⟩⟩
theorem tok5 {W : World} {b : Nat} {t : TypeId} {xk xn xl xc : Int} {S : ByteArray} (h : Blk W b t #[.int .i64 xk, .string S, .int .i64 xn, .int .i64 xl, .int .i64 xc]) : W.cell? ⟨b, 0, none⟩ = some (.int .i64 xk) ∧ W.cell? ⟨b, 1, none⟩ = some (.string S) ∧ W.cell? ⟨b, 2, none⟩ = some (.int .i64 xn) ∧ W.cell? ⟨b, 3, none⟩ = some (.int .i64 xl) ∧ W.cell? ⟨b, 4, none⟩ = some (.int .i64 xc) := ⟨h.cell 0, h.cell 1, h.cell 2, h.cell 3, h.cell 4⟩
/-- What lex.Join gives. -/
def LPost (ts : List Tk) (w : World) (e : Ending) (w' : World) : Prop := e = .returned (.tuple #[.string (str (if okJ ts = true then Lib.join (texts ts) [32] else [])), .int .i64 (if okJ ts = true then 0 else 3)]) ∧ Below w.heap.size w w'
theorem LPost.no {ts : List Tk} {w w' : World} (h : okJ ts = false) (f : Below w.heap.size w w') : LPost ts w (.returned (.tuple #[.string ⟨#[]⟩, .int .i64 3])) w' := ⟨by rw [h, if_neg (by simp), if_neg (by simp)]; rfl, f⟩
theorem LPost.yes {ts : List Tk} {w w' : World} (h : okJ ts = true) (f : Below w.heap.size w w') : LPost ts w (.returned (.tuple #[.string (str (Lib.join (texts ts) [32])), .int .i64 0])) w' := ⟨by rw [h, if_pos rfl, if_pos rfl], f⟩
theorem texts_len (ts : List Tk) : (texts ts).length ≤ ts.length := by
  unfold texts
  rw [List.length_map]
  exact List.length_filter_le _ _
theorem str_reads (W : World) (S : ByteArray) : Reads (W.alloc (.cells #[.string S] 9)) (W.heap.size + 1) 1 (some ⟨W.heap.size, 0, none⟩) 1 [.string S] := by
  refine ⟨by simp, fun _ => ⟨_, rfl, by simp, fun j u hu => ?_⟩⟩
  rw [Addr.add_lit, Nat.zero_add, (Blk.new W 9 #[.string S]).cell j]
  simpa using hu
set_option maxHeartbeats 4000000 in
set_option maxRecDepth 100000 in
theorem lexJoin_any (ts : List Tk) (A : Option Addr) (n c : Nat) (w : World) (hT : Spaces w) (hr : Reads w w.heap.size 5 A n (tksCells ts)) (hn : n = ts.length) (hb : n ≤ 70000) (hx : ∀ t ∈ ts, t.text.length ≤ 60) :
    Calls Tryd.prog 17 #[.slice A n c] w (LPost ts w) := by
  have HR := Lib.hid hr
  have HN := Lib.hid hn
  have HXL := Lib.hid hx
  clear hr hn hx
  go_enter Tryd.func17, Tryd.ntmps17
  go_wp2_with fail
  refine (start_any w hT).mono ?_
  rintro e w1 ⟨r1, r2, rfl, s1, s2, b1⟩
  have hmk := run_make_strs n (by omega)
  have Wp0 := Blk.new w1 82 #[.map (some r1), .map (some r2)]
  have bp := b1.al (.cells #[.map (some r1), .map (some r2)] 82)
  have s1p := s1.below ((Below.refl _ w1).al (.cells #[.map (some r1), .map (some r2)] 82))
  have s2p := s2.below ((Below.refl _ w1).al (.cells #[.map (some r1), .map (some r2)] 82))
  clear s1 s2 b1
  go_upto_region 2 with fail
  generalize w1.alloc (.cells #[.map (some r1), .map (some r2)] 82) = Wp at *
  have SCX : Hid (∀ W, Below Wp.heap.size Wp W → Blk W w1.heap.size 82 #[.map (some r1), .map (some r2)]) := fun W h => Wp0.below h Wp0.lt
  have S1 := Lib.hid s1p
  have S2 := Lib.hid s2p
  have ow := Lib.hid (madeS_own Wp n (by omega))
  have bm : Below Wp.heap.size Wp (Wp.alloc (madeS n)) := (Below.refl _ Wp).al _
  clear s1p s2p Wp0
  go_wp2_with fail
  clear hmk
  go_loopw [5, 14] (fun v i wr => ∃ k : Nat, k ≤ n ∧ i = .int .i64 k ∧ Hid (wr.ownsRow Wp.heap.size 9 1 v (texts (ts.take k)).length (strs (texts (ts.take k)))) ∧ Hid (∀ i (h : i < ts.length), i < k → rightS (ts[i]'h).kind (ts[i]'h).text (ts[i]'h).n = true ∧ ¬ ((ts[i]'h).kind = 0 ∧ i + 1 < ts.length)) ∧ Below Wp.heap.size Wp wr) (fun _ i _ => n - (intOf i).toNat)
  case atStart => exact ⟨0, by omega, rfl, ow, (fun i h h2 => absurd h2 (by omega)), bm⟩
  case round =>
    obtain ⟨k, hk, rfl, ho, hok, hbw⟩ := hrel
    have fw : Below w.heap.size w wr := bp.then_ hbw
    by_cases hlt : k < n
    · have hkt : k < ts.length := by rw [← HN.out]; exact hlt
      have cT := tksCells_cut ts k hkt
      have htk := List.take_succ_eq_append_getElem hkt
      obtain ⟨g, o, rfl, hg, hc⟩ := HR.out.chunk (by omega) hlt cT
      have hxl := HXL.out _ (List.getElem_mem hkt)
      have hsn := texts_snoc (ts.take k) ts[k]
      rw [← htk] at hsn
      have hok1 : ∀ b : Bool, rightS ts[k].kind ts[k].text ts[k].n = b → (b = true ∧ ¬ (ts[k].kind = 0 ∧ k + 1 < n) → Hid (∀ i (h : i < ts.length), i < k + 1 → rightS (ts[i]'h).kind (ts[i]'h).text (ts[i]'h).n = true ∧ ¬ ((ts[i]'h).kind = 0 ∧ i + 1 < ts.length))) ∧ (b = false ∨ (ts[k].kind = 0 ∧ k + 1 < n) → Hid (okJ ts = false)) := by
        intro b hb
        constructor
        · rintro ⟨h1, h2⟩ i h h3
          rcases Nat.lt_or_ge i k with h4 | h4
          · exact hok.out i h h4
          · obtain rfl : i = k := by omega
            exact ⟨by rw [hb, h1], by rw [← HN.out]; exact h2⟩
        · intro h
          rw [Hid]
          unfold okJ
          rw [decide_eq_false_iff_not]
          intro h5
          have h6 := h5 k hkt
          rw [hb, ← HN.out] at h6
          rcases h with h | h
          · rw [h] at h6; exact absurd h6.1 (by simp)
          · exact h6.2 h
      generalize ts[k] = x at *
      obtain ⟨xk, xt, xn, xl, xc⟩ := x
      simp only at hxl hok1 hsn
      obtain ⟨S, hS⟩ : ∃ S, str xt = S := ⟨_, rfl⟩
      have qB : wr.cell? ⟨g, o + k * 5, none⟩ = some (.int .i64 xk) ∧ wr.cell? ⟨g, o + k * 5 + 1, none⟩ = some (.string S) ∧ wr.cell? ⟨g, o + k * 5 + 2, none⟩ = some (.int .i64 xn) ∧ wr.cell? ⟨g, o + k * 5 + 3, none⟩ = some (.int .i64 xl) ∧ wr.cell? ⟨g, o + k * 5 + 4, none⟩ = some (.int .i64 xc) := ⟨(fw.cell (p := ⟨g, o + k * 5, none⟩) hg).trans (hc 0 _ rfl), ((fw.cell (p := ⟨g, o + k * 5 + 1, none⟩) hg).trans (hc 1 _ rfl)).trans (by rw [← hS]), (fw.cell (p := ⟨g, o + k * 5 + 2, none⟩) hg).trans (hc 2 _ rfl), (fw.cell (p := ⟨g, o + k * 5 + 3, none⟩) hg).trans (hc 3 _ rfl), (fw.cell (p := ⟨g, o + k * 5 + 4, none⟩) hg).trans (hc 4 _ rfl)⟩
      obtain ⟨b, hb'⟩ : ∃ b, rightS xk xt xn = b := ⟨_, rfl⟩
      obtain ⟨hgo, hstop⟩ := hok1 b hb'
      have HGO := Lib.hid hgo
      have HSTOP := Lib.hid hstop
      have RA : Hid (∀ W, Below Wp.heap.size Wp W → Calls Tryd.prog 36 #[.agg #[.map (some r1), .map (some r2)], .agg #[.int .i64 xk, .string S, .int .i64 xn, .int .i64 xl, .int .i64 xc]] W (Tells W b)) := fun W hW => by
        have := right_any r1 r2 xk xt xn xl xc W (S1.out.below hW) (S2.out.below hW) (by omega)
        rw [hS, hb'] at this
        exact this
      have z0 : (0 : Int) ≤ (k : Int) := by omega
      have z1 : (k : Int) < (n : Int) := by omega
      obtain ⟨q0, q1, q2, q3, q4⟩ := qB
      have BT := Blk.new wr 87 #[.int .i64 xk, .string S, .int .i64 xn, .int .i64 xl, .int .i64 xc]
      have hb1 : Below Wp.heap.size Wp (wr.alloc (.cells #[.int .i64 xk, .string S, .int .i64 xn, .int .i64 xl, .int .i64 xc] 87)) := hbw.alloc hbw.size _
      have ho1 := Lib.hid (World.ownsRow.alloc ho.out (.cells #[.int .i64 xk, .string S, .int .i64 xn, .int .i64 xl, .int .i64 xc] 87))
      have HSN := Lib.hid hsn
      have HS := Lib.hid hS
      obtain ⟨sa0, sa1⟩ : (wr.alloc (.cells #[.int .i64 xk, .string S, .int .i64 xn, .int .i64 xl, .int .i64 xc] 87)).cell? ⟨w1.heap.size, 0, none⟩ = some (.map (some r1)) ∧ (wr.alloc (.cells #[.int .i64 xk, .string S, .int .i64 xn, .int .i64 xl, .int .i64 xc] 87)).cell? ⟨w1.heap.size, 1, none⟩ = some (.map (some r2)) := ⟨(SCX.out _ hb1).cell 0, (SCX.out _ hb1).cell 1⟩
      clear hc cT htk hok hok1 hgo hstop hb' hxl hsn hS hkt
      go_upto_region 6 with fail
      generalize wr.alloc (.cells #[.int .i64 xk, .string S, .int .i64 xn, .int .i64 xl, .int .i64 xc] 87) = W1 at *
      obtain ⟨t0, t1, t2, t3, t4⟩ := tok5 BT
      clear q0 q1 q2 q3 q4
      cases b
      · have HF := HSTOP.out (.inl rfl)
        clear HGO HSTOP
        go_wp2_with (go_at_call 36; refine (RA.out _ hb1).mono ?_; rintro e w5 ⟨rfl, b5⟩; have hb5 := hb1.trans (b5.mono hb1.size); have B5 := BT.below b5 BT.lt; obtain ⟨p0, p1, p2, p3, p4⟩ := tok5 B5; have SC5 := SCX.out w5 hb5; have sc0 := SC5.cell 0; have sc1 := SC5.cell 1; clear SC5)
        go_ret2
        exact LPost.no HF.out (bp.then_ hb5)
      · by_cases hk0 : xk = 0
        · subst hk0
          by_cases hl1 : k + 1 < n
          · have z2 : (k : Int) < (n : Int) - 1 := by omega
            have HF := HSTOP.out (.inr ⟨rfl, hl1⟩)
            clear HGO HSTOP
            go_wp2_with (go_at_call 36; refine (RA.out _ hb1).mono ?_; rintro e w5 ⟨rfl, b5⟩; have hb5 := hb1.trans (b5.mono hb1.size); have B5 := BT.below b5 BT.lt; obtain ⟨p0, p1, p2, p3, p4⟩ := tok5 B5; have SC5 := SCX.out w5 hb5; have sc0 := SC5.cell 0; have sc1 := SC5.cell 1; clear SC5)
            go_ret2
            exact LPost.no HF.out (bp.then_ hb5)
          · have z2 : ¬ (k : Int) < (n : Int) - 1 := by omega
            have HN2 := HGO.out ⟨rfl, fun h => hl1 h.2⟩
            have HSN2 : Hid (texts (ts.take (k + 1)) = texts (ts.take k)) := by
              have := HSN.out
              rw [Hid]
              simpa using this
            clear HGO HSTOP HSN
            go_wp2_with (go_at_call 36; refine (RA.out _ hb1).mono ?_; rintro e w5 ⟨rfl, b5⟩; have hb5 := hb1.trans (b5.mono hb1.size); have B5 := BT.below b5 BT.lt; obtain ⟨p0, p1, p2, p3, p4⟩ := tok5 B5; have SC5 := SCX.out w5 hb5; have sc0 := SC5.cell 0; have sc1 := SC5.cell 1; clear SC5)
            go_roundw
            case rel => exact ⟨k + 1, by omega, by go_num, by rw [Hid, HSN2.out]; exact own_below ho1.out b5 (Nat.le_refl _), HN2, hb5⟩
            case measure => simp [intOf]; omega
        · have hk0b : (xk == 0) = false := by simpa using hk0
          have hk0c : (xk != 0) = true := by simpa using hk0
          have HN2 := HGO.out ⟨rfl, fun h => hk0 h.1⟩
          have HSN2 := Lib.hid (HSN.out.trans (if_neg hk0))
          clear HGO HSTOP HSN
          obtain ⟨i0, hi0, hz0, hz1, hz2⟩ := info_parts info_str
          have hbl := own_block ho.out
          have hml := texts_len (ts.take k)
          rw [List.length_take] at hml
          obtain ⟨m, hm⟩ : ∃ m, (texts (ts.take k)).length = m := ⟨_, rfl⟩
          rw [hm] at ho1 hml
          have HM := Lib.hid hm
          clear hm ho
          go_wp2_with (first | (go_at_call 36; refine (RA.out _ hb1).mono ?_; rintro e w5 ⟨rfl, b5⟩; have hb5 := hb1.trans (b5.mono hb1.size); have B5 := BT.below b5 BT.lt; obtain ⟨p0, p1, p2, p3, p4⟩ := tok5 B5; have SC5 := SCX.out w5 hb5; have sc0 := SC5.cell 0; have sc1 := SC5.cell 1; clear SC5; have own5 := Lib.hid (World.ownsRow.alloc (own_below ho1.out b5 (Nat.le_refl _)) (.cells #[.string S] 9)); have RD5 := Lib.hid (str_reads w5 S)) | (at_builtin; refine wpList_append_any _ (by rfl) (.tmp 38) (.tmp 41) 44 rfl Wp.heap.size 9 i0 _ 1 16 Tryd.underlying44 hi0 hz0 hz1 hz2 rfl (by omega) u5 m (strs (texts (ts.take k))) rfl own5.out _ _ 1 1 [.string S] rfl RD5.out (by simp [Value.oneCell']) (by unfold maxLen; omega) (by omega) (by have := hb5.size; simp; omega) ?_; intro v8 w8 o8 g8 at8; have b8 : Below Wp.heap.size Wp w8 := (hb5.alloc hb5.size _).trans ((Kept.of_grown (S := fun k => Wp.heap.size ≤ k) g8 hbl).to_below (by have := hb5.size; simp; omega) (fun k hk => by omega)); have O8 := Lib.hid o8; clear o8 g8 at8))
          go_roundw
          case rel =>
            refine ⟨k + 1, by omega, by go_num, ?_, HN2, b8⟩
            rw [Hid, HSN2.out, List.length_append, HM.out]
            have e : strs (texts (ts.take k) ++ [xt]) = strs (texts (ts.take k)) ++ [.string S] := by
              rw [← HS.out]
              simp [strs]
            rw [e]
            exact O8.out
          case measure => simp [intOf]; omega
    · obtain rfl : k = n := by omega
      have htk : ts.take k = ts := List.take_of_length_le (by rw [← HN.out]; omega)
      have hok2 : okJ ts = true := by
        unfold okJ
        rw [decide_eq_true_iff]
        exact fun i h => hok.out i h (by rw [HN.out]; exact h)
      rw [htk] at ho
      have hjl : (Lib.join (texts ts) [32]).length ≤ 6000000 := by
        have h1 := join_len (texts ts) (fun x hx => by
          unfold texts at hx
          obtain ⟨t, ht, rfl⟩ := List.mem_map.1 hx
          exact HXL.out t (List.mem_filter.1 ht).1)
        have h2 := HN.out
        have h3 := texts_len ts
        omega
      have HF := Lib.hid hok2
      have hml := texts_len ts
      have hN2 := HN.out
      clear hok hok2 htk
      rcases ho.out.2 with ⟨rfl, h0⟩ | ⟨g, cap, cur, rfl, hg, hh, hcap, _, _, _⟩
      · have h00 : texts ts = [] := List.eq_nil_of_length_eq_zero h0
        clear h0 hml hjl
        go_wp2_with fail
        refine (Tryd.strings_Join_none _ _ _ _).mono ?_
        rintro e w9 ⟨rfl, rfl⟩
        go_wp2_with fail
        go_ret2
        have h := LPost.yes HF.out fw
        rw [h00] at h
        exact h
      · have hlt9 : g < wr.heap.size := Blk.lt (t := 9) (cs := cur) hh
        have hcells : ∀ (j : Nat) x, ((texts ts).map str)[j]? = some x → wr.cell? ⟨g, 0 + j, none⟩ = some (.string x) := by
          intro j x hx
          have h := World.ownsRow.cells ho.out (g := g) rfl j (.string x) (by
            unfold strs
            rw [List.getElem?_map] at hx ⊢
            cases hy : (texts ts)[j]? with
            | none => rw [hy] at hx; cases hx
            | some y =>
              rw [hy] at hx
              simp only [Option.map_some, Option.some.injEq] at hx ⊢
              rw [hx])
          rw [Addr.add_lit] at h
          exact h
        have e1 : ((texts ts).map str).map (·.data.toList) = texts ts := by
          rw [List.map_map]
          have : (fun s : ByteArray => s.data.toList) ∘ str = id := by
            funext y
            simp [str]
          rw [this, List.map_id]
        have hcall := Tryd.strings_Join g 0 cap ((texts ts).map str) ⟨#[32]⟩ wr hcells hlt9 (by rw [List.length_map]; omega) (by rw [List.length_map]; exact hcap) (by rw [e1]; exact Nat.le_trans hjl (by omega))
        rw [e1, List.length_map] at hcall
        have HC := Lib.hid hcall
        clear hcall hcells e1 hh hml hjl
        go_wp2_with fail
        refine HC.out.mono ?_
        rintro e w9 ⟨rfl, b9⟩
        go_wp2_with fail
        go_ret2
        exact LPost.yes HF.out (fw.then_ b9)
end Go.Proofs.YtdmlnoeneoomfaaDoor
namespace Go.Proofs.YtdmlnoeneoomfaaDoor
open Go.RowKit

def zeroPg : Pg := ⟨[], 0, [], [], [], [], [], [], [], [], []⟩
def OutP.e : OutP → Int
  | .ok _ => 0
  | .bad _ _ E => E
def OutP.p : OutP → Pg
  | .ok x => x
  | .bad _ _ _ => zeroPg
theorem endP_z (p : PS Pg) : (endP (p.map Tk.z)).e = (endP p).e ∧ (endP (p.map Tk.z)).p = (endP p).p := by
  cases p with
  | ok x r =>
    cases r with
    | nil => exact ⟨rfl, rfl⟩
    | cons t r =>
      simp only [PS.map, List.map_cons, endP, Tk.z]
      split <;> exact ⟨rfl, rfl⟩
  | bad r e => cases r <;> exact ⟨rfl, rfl⟩
theorem bare_z {a b : List Tk} (h : a.map Tk.bare = b.map Tk.bare) : a.map Tk.z = b.map Tk.z := by
  have e : ∀ l : List Tk, l.map Tk.z = (l.map Tk.bare).map fun x => (⟨x.1, x.2.1, x.2.2, 0, 0⟩ : Tk) := fun l => by
    rw [List.map_map]
    rfl
  rw [e, e, h]
theorem progO_ok {l : List UInt8} {ts : List Tk} (h : lexS l = .ok ts) : progO l = endP (progP ts) := by
  unfold progO
  rw [h]
theorem okJ_lexS {l : List UInt8} {ts : List Tk} (h : lexS l = .ok ts) : okJ ts = true ∧ (∀ t ∈ ts, t.text.length ≤ 60) ∧ ∃ us L C, ts = us ++ [⟨0, [], 0, L, C⟩] ∧ (∀ u ∈ us, Good u) ∧ us.length ≤ l.length ∧ texts ts = us.map Tk.text := by
  obtain ⟨us, L, C, rfl, hg, -, hl⟩ := lexS_good h
  refine ⟨?_, ?_, us, L, C, rfl, hg, hl, ?_⟩
  · unfold okJ
    rw [decide_eq_true_iff]
    intro i hi
    rcases Nat.lt_or_ge i us.length with h1 | h1
    · rw [List.getElem_append_left h1]
      have := good_len (hg _ (List.getElem_mem h1))
      exact ⟨this.2.2, fun h => this.2.1 h.1⟩
    · have hi' : i = us.length := by simp at hi; omega
      subst hi'
      rw [List.getElem_append_right (Nat.le_refl _)]
      simp [rightS]
  · intro t ht
    rcases List.mem_append.1 ht with h1 | h1
    · have := (good_len (hg t h1)).1
      omega
    · simp only [List.mem_singleton] at h1
      subst h1
      simp
  · unfold texts
    rw [List.filter_append, filter_us (fun u hu => (good_len (hg u hu)).2.1)]
    simp
/-- What is joined has the same program. -/
theorem layout_law {l : List UInt8} {ts : List Tk} (h : lexS l = .ok ts) : (progO (Lib.join (texts ts) [32])).e = (progO l).e ∧ (progO (Lib.join (texts ts) [32])).p = (progO l).p := by
  obtain ⟨-, -, us, L, C, rfl, hg, -, ht⟩ := okJ_lexS h
  rw [ht]
  obtain ⟨xs, L', C', h1, h2⟩ := lexS_join hg
  rw [progO_ok h1, progO_ok h]
  have e1 : (xs ++ [(⟨0, [], 0, L', C'⟩ : Tk)]).map Tk.z = (us ++ [(⟨0, [], 0, L, C⟩ : Tk)]).map Tk.z := by
    rw [List.map_append, List.map_append, bare_z h2]
    rfl
  have h3 := endP_z (progP (xs ++ [⟨0, [], 0, L', C'⟩]))
  have h4 := endP_z (progP (us ++ [⟨0, [], 0, L, C⟩]))
  rw [← progP_z] at h3 h4
  rw [e1] at h3
  exact ⟨h3.1.symm.trans h4.1, h3.2.symm.trans h4.2⟩
theorem join_sum (l : List (List UInt8)) : (Lib.join l [32]).length ≤ Lib.lens l + l.length := by
  cases l with
  | nil => simp [Lib.join_nil]
  | cons x l =>
    rw [Lib.join_cons, List.length_append, Lib.joinTail_length]
    simp only [List.length_cons, List.length_nil, Lib.lens, List.map_cons, List.sum_cons]
    omega
theorem texts_sum {l : List UInt8} {ts : List Tk} (h : lexS l = .ok ts) : Lib.lens (texts ts) + (texts ts).length ≤ 2 * l.length := by
  obtain ⟨us, L, C, rfl, hg, hl, hl2⟩ := lexS_good h
  have ht : texts (us ++ [⟨0, [], 0, L, C⟩]) = us.map Tk.text := by
    unfold texts
    rw [List.filter_append, filter_us (fun u hu => (good_len (hg u hu)).2.1)]
    simp
  rw [ht, List.length_map]
  unfold Lib.lens
  rw [List.map_map]
  unfold textsLen at hl
  have : (us.map (List.length ∘ Tk.text)).sum = (us.map fun u => u.text.length).sum := rfl
  have h3 : (us.map ((fun x => x.length) ∘ Tk.text)).sum = (us.map fun u => u.text.length).sum := rfl
  omega
theorem out_pc {b : Nat} {oo : OutP} {cs : List Value} {L C E : Int} {w : World} (h : ExOutP b oo cs L C E w) : E = oo.e ∧ PC (fun z => b ≤ z) w cs oo.p := by
  cases oo with
  | ok x => exact ⟨h.1, h.2.2.2⟩
  | bad L' C' E' =>
    obtain ⟨-, -, rfl, -, rfl⟩ := h
    have hn : ∀ {α : Type} (s : Nat) (Q : Cel α), RowD (fun z => b ≤ z) s Q w [] (.slice none 0 0) := fun s Q => ⟨none, 0, 0, rfl, ElsG.none_ _ _ _ _ _ _⟩
    exact ⟨rfl, _, _, _, _, _, _, _, _, rfl, hn _ _, hn _ _, hn _ _, hn _ _, hn _ _, hn _ _, hn _ _, hn _ _⟩
theorem progO_err {l : List UInt8} {L C E : Int} (h : lexS l = .err L C E) : progO l = .bad L C E := by
  unfold progO
  rw [h]
set_option maxHeartbeats 8000000 in
set_option maxRecDepth 100000 in
theorem layout_walk (s : ByteArray) (w : World) (hT : Spaces w) (hs : s.size ≤ 9223372036854775807) : Calls Tryd.prog 6 #[.string s] w (Tells w true) := by
  have KN := Lib.hid (fun W hW => known_any W (hT.below (w' := W) hW))
  have K0 := Lib.hid (known_any w hT)
  have TKS := Lib.hid (fun W hW hs => tokens_any s W (hT.below (w' := W) hW) hs)
  have PA := Lib.hid (fun s W hW hs => Parse_any s W (hT.below (w' := W) hW) hs)
  have JN := Lib.hid (fun ts A n c W hW hr hn hb hx => lexJoin_any ts A n c W (hT.below (w' := W) hW) hr hn hb hx)
  clear hT
  by_cases hbig : 4000 < s.size
  · have g0 : decide ((4000 : Int) < (s.size : Int)) = true := by simp; omega
    go_enter Tryd.func6, Tryd.ntmps6
    go_wp2_with fail
    refine K0.out.mono ?_
    rintro e w1 ⟨rfl, b1⟩
    go_wp2_with fail
    refine (KN.out w1 b1).mono ?_
    rintro e w2 ⟨rfl, b2⟩
    go_wp2_with fail
    go_ret
    exact ⟨rfl, b1.trans (b2.mono b1.size)⟩
  · have g0 : decide ((4000 : Int) < (s.size : Int)) = false := by simp; omega
    have hsz : s.data.toList.length = s.size := by simp
    have HSZ := Lib.hid hsz
    clear hsz
    go_enter Tryd.func6, Tryd.ntmps6
    go_wp2_with fail
    refine K0.out.mono ?_
    rintro e w1 ⟨rfl, b1⟩
    have B1 := Lib.hid b1
    have TK1 := Lib.hid (TKS.out w1 b1 (by omega))
    clear b1
    go_upto_region 3 with fail
    go_wp2_with fail
    refine TK1.out.mono ?_
    intro e w2 hp
    obtain ⟨A, n, c, L, C, E, ts, rfl, hn, hot, hb2, hcase⟩ := tok_gen hp
    have z12 := B1.out.size
    have B2 := Lib.hid (B1.out.trans (hb2.mono z12))
    have HOT := Lib.hid hot
    have HN := Lib.hid hn
    have HC := Lib.hid hcase
    have B3 : Hid (Below w.heap.size w (w2.alloc (.cells #[.int .i64 L, .int .i64 C] 48))) := B2.out.alloc B2.out.size _
    have f23 : Below w2.heap.size w2 (w2.alloc (.cells #[.int .i64 L, .int .i64 C] 48)) := (Below.refl _ w2).al _
    have RD : Hid (Reads (w2.alloc (.cells #[.int .i64 L, .int .i64 C] 48)) (w2.alloc (.cells #[.int .i64 L, .int .i64 C] 48)).heap.size 5 A n (tksCells ts)) := ((HOT.out.reads HN.out |> (HN.out ▸ ·)) : Reads w2 w2.heap.size 5 A n (tksCells ts)).below f23 |>.more f23.size
    clear hp hot hn hcase hb2 TK1 f23
    by_cases hE : E = 0
    · subst hE
      obtain ⟨hlx, -⟩ := HC.out.resolve_right (fun h => (lexS_err h.1).1 rfl)
      obtain ⟨hok, hx, us, L', C', hts, hg, hul, -⟩ := okJ_lexS hlx
      have hlen : n ≤ 70000 := by
        have h1 := HN.out
        have h2 := HSZ.out
        rw [hts] at h1
        simp at h1
        omega
      have hjl : (Lib.join (texts ts) [32]).length ≤ 65536 := by
        have h1 := join_sum (texts ts)
        have h2 := texts_sum hlx
        have h3 := HSZ.out
        omega
      have JJ := Lib.hid (JN.out ts A n c _ B3.out RD.out HN.out hlen hx)
      have HOK := Lib.hid hok
      have HLAW := Lib.hid (layout_law hlx)
      have HJL := Lib.hid hjl
      clear hlx hok hx hts hg hul hjl HC HN HOT
      go_upto_region 7 with fail
      generalize w2.alloc (.cells #[.int .i64 L, .int .i64 C] 48) = W3 at *
      go_wp2_with fail
      refine JJ.out.mono ?_
      rintro e w4 ⟨rfl, b4⟩
      rw [HOK.out, if_pos rfl, if_pos rfl]
      obtain ⟨J, hJ⟩ : ∃ J, str (Lib.join (texts ts) [32]) = J := ⟨_, rfl⟩
      rw [hJ]
      have hJs : J.size ≤ 65536 := by rw [← hJ, str_size]; exact HJL.out
      have hJl : J.data.toList = Lib.join (texts ts) [32] := by rw [← hJ, str_list]
      have HJ2 := Lib.hid hJl
      have B4 := Lib.hid (B3.out.trans (b4.mono B3.out.size))
      have P1 := Lib.hid (PA.out s w4 B4.out (by omega))
      clear b4 hJ hJl JJ
      go_upto_region 8 with fail
      go_wp2_with fail
      refine P1.out.mono ?_
      rintro e w5 ⟨anm, ase, asi, aA1, an1, ac1, aA2, an2, ac2, aA3, an3, ac3, aA4, an4, ac4, aA5, an5, ac5, aA6, an6, ac6, aA7, an7, ac7, aA8, an8, ac8, La, Ca, Ea, rfl, b5, h5⟩
      have B5 := Lib.hid (B4.out.trans (b5.mono B4.out.size))
      obtain ⟨hea, hpa⟩ := out_pc h5
      obtain ⟨y5, -⟩ := two_new w5 54 27 #[.string anm, .int .i64 ase, .slice aA1 an1 ac1, .slice aA2 an2 ac2, .slice aA3 an3 ac3, .slice aA4 an4 ac4, .slice aA5 an5 ac5, .slice aA6 an6 ac6, .string asi, .slice aA7 an7 ac7, .slice aA8 an8 ac8] #[.int .i64 La, .int .i64 Ca]
      have B6 : Hid (Below w.heap.size w ((w5.alloc (.cells #[.string anm, .int .i64 ase, .slice aA1 an1 ac1, .slice aA2 an2 ac2, .slice aA3 an3 ac3, .slice aA4 an4 ac4, .slice aA5 an5 ac5, .slice aA6 an6 ac6, .string asi, .slice aA7 an7 ac7, .slice aA8 an8 ac8] 54)).alloc (.cells #[.int .i64 La, .int .i64 Ca] 27))) := (B5.out.alloc B5.out.size _).alloc (by have := B5.out.size; simp; omega) _
      have k56 : Kept (fun _ => False) w5 ((w5.alloc (.cells #[.string anm, .int .i64 ase, .slice aA1 an1 ac1, .slice aA2 an2 ac2, .slice aA3 an3 ac3, .slice aA4 an4 ac4, .slice aA5 an5 ac5, .slice aA6 an6 ac6, .string asi, .slice aA7 an7 ac7, .slice aA8 an8 ac8] 54)).alloc (.cells #[.int .i64 La, .int .i64 Ca] 27)) := ((Kept.refl (fun _ => False) w5).alloc _).alloc _
      have PC6 := Lib.hid (PC_kept _ (fun _ => True) _ w5 _ _ _ k56 (fun _ _ _ h => h) (fun _ _ _ => trivial) hpa)
      have Y6 := Lib.hid y5
      have HEA := Lib.hid hea
      have P2 := Lib.hid (PA.out J _ B6.out hJs)
      clear b5 h5 hea hpa y5 k56 P1
      go_upto_region 9 with fail
      generalize (w5.alloc (.cells #[.string anm, .int .i64 ase, .slice aA1 an1 ac1, .slice aA2 an2 ac2, .slice aA3 an3 ac3, .slice aA4 an4 ac4, .slice aA5 an5 ac5, .slice aA6 an6 ac6, .string asi, .slice aA7 an7 ac7, .slice aA8 an8 ac8] 54)).alloc (.cells #[.int .i64 La, .int .i64 Ca] 27) = W6 at *
      go_wp2_with fail
      refine P2.out.mono ?_
      rintro e w7 ⟨bnm, bse, bsi, bA1, bn1, bc1, bA2, bn2, bc2, bA3, bn3, bc3, bA4, bn4, bc4, bA5, bn5, bc5, bA6, bn6, bc6, bA7, bn7, bc7, bA8, bn8, bc8, Lb, Cb, Eb, rfl, b7, h7⟩
      have B7 := Lib.hid (B6.out.trans (b7.mono B6.out.size))
      obtain ⟨heb, hpb⟩ := out_pc h7
      obtain ⟨y7, -⟩ := two_new w7 54 27 #[.string bnm, .int .i64 bse, .slice bA1 bn1 bc1, .slice bA2 bn2 bc2, .slice bA3 bn3 bc3, .slice bA4 bn4 bc4, .slice bA5 bn5 bc5, .slice bA6 bn6 bc6, .string bsi, .slice bA7 bn7 bc7, .slice bA8 bn8 bc8] #[.int .i64 Lb, .int .i64 Cb]
      have B8 : Hid (Below w.heap.size w ((w7.alloc (.cells #[.string bnm, .int .i64 bse, .slice bA1 bn1 bc1, .slice bA2 bn2 bc2, .slice bA3 bn3 bc3, .slice bA4 bn4 bc4, .slice bA5 bn5 bc5, .slice bA6 bn6 bc6, .string bsi, .slice bA7 bn7 bc7, .slice bA8 bn8 bc8] 54)).alloc (.cells #[.int .i64 Lb, .int .i64 Cb] 27))) := (B7.out.alloc B7.out.size _).alloc (by have := B7.out.size; simp; omega) _
      have k78 : Kept (fun _ => False) w7 ((w7.alloc (.cells #[.string bnm, .int .i64 bse, .slice bA1 bn1 bc1, .slice bA2 bn2 bc2, .slice bA3 bn3 bc3, .slice bA4 bn4 bc4, .slice bA5 bn5 bc5, .slice bA6 bn6 bc6, .string bsi, .slice bA7 bn7 bc7, .slice bA8 bn8 bc8] 54)).alloc (.cells #[.int .i64 Lb, .int .i64 Cb] 27)) := ((Kept.refl (fun _ => False) w7).alloc _).alloc _
      have k68 : Kept (fun _ => False) W6 ((w7.alloc (.cells #[.string bnm, .int .i64 bse, .slice bA1 bn1 bc1, .slice bA2 bn2 bc2, .slice bA3 bn3 bc3, .slice bA4 bn4 bc4, .slice bA5 bn5 bc5, .slice bA6 bn6 bc6, .string bsi, .slice bA7 bn7 bc7, .slice bA8 bn8 bc8] 54)).alloc (.cells #[.int .i64 Lb, .int .i64 Cb] 27)) := (Kept.of_below b7).then_ k78 (fun _ _ h => h)
      have PCa := Lib.hid (PC_kept _ (fun _ => True) _ W6 _ _ _ k68 (fun _ _ _ h => h) (fun _ _ _ => trivial) PC6.out)
      have PCb := Lib.hid (PC_kept _ (fun _ => True) _ w7 _ _ _ k78 (fun _ _ _ h => h) (fun _ _ _ => trivial) hpb)
      have Ya := Lib.hid (Y6.out.kept k68 (fun h => h))
      have Yb := Lib.hid y7
      rw [HJ2.out] at heb PCb
      rw [HLAW.out.1] at heb
      rw [HLAW.out.2] at PCb
      have heq : Eb = Ea := heb.trans HEA.out.symm
      subst heq
      have z57 : w5.heap.size < w7.heap.size := by
        have h1 := Y6.out.lt
        have h2 := b7.size
        omega
      clear b7 h7 heb hpb y7 k78 k68 P2 PC6 Y6 HEA
      go_upto_region 10 with fail
      generalize (w7.alloc (.cells #[.string bnm, .int .i64 bse, .slice bA1 bn1 bc1, .slice bA2 bn2 bc2, .slice bA3 bn3 bc3, .slice bA4 bn4 bc4, .slice bA5 bn5 bc5, .slice bA6 bn6 bc6, .string bsi, .slice bA7 bn7 bc7, .slice bA8 bn8 bc8] 54)).alloc (.cells #[.int .i64 Lb, .int .i64 Cb] 27) = W8 at *
      generalize (progO s.data.toList).p = pg at *
      have FD : Hid (Below W8.heap.size W8 W8.drew) := (Below.refl _ W8).drew
      have hya := Ya.out.lt
      have hyb := Yb.out.lt
      have KQ : Hid (∀ W, Below W8.heap.size W8 W → W.cell? ⟨w5.heap.size, 0, none⟩ = some (.string anm) ∧ W.cell? ⟨w5.heap.size, 1, none⟩ = some (.int .i64 ase) ∧ W.cell? ⟨w5.heap.size, 2, none⟩ = some (.slice aA1 an1 ac1) ∧ W.cell? ⟨w5.heap.size, 3, none⟩ = some (.slice aA2 an2 ac2) ∧ W.cell? ⟨w5.heap.size, 4, none⟩ = some (.slice aA3 an3 ac3) ∧ W.cell? ⟨w5.heap.size, 5, none⟩ = some (.slice aA4 an4 ac4) ∧ W.cell? ⟨w5.heap.size, 6, none⟩ = some (.slice aA5 an5 ac5) ∧ W.cell? ⟨w5.heap.size, 7, none⟩ = some (.slice aA6 an6 ac6) ∧ W.cell? ⟨w5.heap.size, 8, none⟩ = some (.string asi) ∧ W.cell? ⟨w5.heap.size, 9, none⟩ = some (.slice aA7 an7 ac7) ∧ W.cell? ⟨w5.heap.size, 10, none⟩ = some (.slice aA8 an8 ac8) ∧ W.cell? ⟨w7.heap.size, 0, none⟩ = some (.string bnm) ∧ W.cell? ⟨w7.heap.size, 1, none⟩ = some (.int .i64 bse) ∧ W.cell? ⟨w7.heap.size, 2, none⟩ = some (.slice bA1 bn1 bc1) ∧ W.cell? ⟨w7.heap.size, 3, none⟩ = some (.slice bA2 bn2 bc2) ∧ W.cell? ⟨w7.heap.size, 4, none⟩ = some (.slice bA3 bn3 bc3) ∧ W.cell? ⟨w7.heap.size, 5, none⟩ = some (.slice bA4 bn4 bc4) ∧ W.cell? ⟨w7.heap.size, 6, none⟩ = some (.slice bA5 bn5 bc5) ∧ W.cell? ⟨w7.heap.size, 7, none⟩ = some (.slice bA6 bn6 bc6) ∧ W.cell? ⟨w7.heap.size, 8, none⟩ = some (.string bsi) ∧ W.cell? ⟨w7.heap.size, 9, none⟩ = some (.slice bA7 bn7 bc7) ∧ W.cell? ⟨w7.heap.size, 10, none⟩ = some (.slice bA8 bn8 bc8)) := fun W hW => ⟨(Ya.out.below hW hya).cell 0, (Ya.out.below hW hya).cell 1, (Ya.out.below hW hya).cell 2, (Ya.out.below hW hya).cell 3, (Ya.out.below hW hya).cell 4, (Ya.out.below hW hya).cell 5, (Ya.out.below hW hya).cell 6, (Ya.out.below hW hya).cell 7, (Ya.out.below hW hya).cell 8, (Ya.out.below hW hya).cell 9, (Ya.out.below hW hya).cell 10, (Yb.out.below hW hyb).cell 0, (Yb.out.below hW hyb).cell 1, (Yb.out.below hW hyb).cell 2, (Yb.out.below hW hyb).cell 3, (Yb.out.below hW hyb).cell 4, (Yb.out.below hW hyb).cell 5, (Yb.out.below hW hyb).cell 6, (Yb.out.below hW hyb).cell 7, (Yb.out.below hW hyb).cell 8, (Yb.out.below hW hyb).cell 9, (Yb.out.below hW hyb).cell 10⟩
      have CTa := Lib.hid (fun W (hW : Below W8.heap.size W8 W) => To_any (fun _ => True) anm ase asi aA1 an1 ac1 aA2 an2 ac2 aA3 an3 ac3 aA4 an4 ac4 aA5 an5 ac5 aA6 an6 ac6 aA7 an7 ac7 aA8 an8 ac8 pg W (PC_kept _ _ (fun _ => False) W8 W _ _ (Kept.of_below hW) (fun _ _ _ h => h) (fun _ _ h => h) PCa.out))
      have CTb := Lib.hid (fun W (hW : Below W8.heap.size W8 W) => To_any (fun _ => True) bnm bse bsi bA1 bn1 bc1 bA2 bn2 bc2 bA3 bn3 bc3 bA4 bn4 bc4 bA5 bn5 bc5 bA6 bn6 bc6 bA7 bn7 bc7 bA8 bn8 bc8 pg W (PC_kept _ _ (fun _ => False) W8 W _ _ (Kept.of_below hW) (fun _ _ _ h => h) (fun _ _ h => h) PCb.out))
      have qq := KQ.out _ FD.out
      go_region_held3 (fun w' => w'.cell? ⟨w5.heap.size, 0, none⟩ = some (.string anm) ∧ w'.cell? ⟨w5.heap.size, 1, none⟩ = some (.int .i64 ase) ∧ w'.cell? ⟨w5.heap.size, 2, none⟩ = some (.slice aA1 an1 ac1) ∧ w'.cell? ⟨w5.heap.size, 3, none⟩ = some (.slice aA2 an2 ac2) ∧ w'.cell? ⟨w5.heap.size, 4, none⟩ = some (.slice aA3 an3 ac3) ∧ w'.cell? ⟨w5.heap.size, 5, none⟩ = some (.slice aA4 an4 ac4) ∧ w'.cell? ⟨w5.heap.size, 6, none⟩ = some (.slice aA5 an5 ac5) ∧ w'.cell? ⟨w5.heap.size, 7, none⟩ = some (.slice aA6 an6 ac6) ∧ w'.cell? ⟨w5.heap.size, 8, none⟩ = some (.string asi) ∧ w'.cell? ⟨w5.heap.size, 9, none⟩ = some (.slice aA7 an7 ac7) ∧ w'.cell? ⟨w5.heap.size, 10, none⟩ = some (.slice aA8 an8 ac8) ∧ w'.cell? ⟨w7.heap.size, 0, none⟩ = some (.string bnm) ∧ w'.cell? ⟨w7.heap.size, 1, none⟩ = some (.int .i64 bse) ∧ w'.cell? ⟨w7.heap.size, 2, none⟩ = some (.slice bA1 bn1 bc1) ∧ w'.cell? ⟨w7.heap.size, 3, none⟩ = some (.slice bA2 bn2 bc2) ∧ w'.cell? ⟨w7.heap.size, 4, none⟩ = some (.slice bA3 bn3 bc3) ∧ w'.cell? ⟨w7.heap.size, 5, none⟩ = some (.slice bA4 bn4 bc4) ∧ w'.cell? ⟨w7.heap.size, 6, none⟩ = some (.slice bA5 bn5 bc5) ∧ w'.cell? ⟨w7.heap.size, 7, none⟩ = some (.slice bA6 bn6 bc6) ∧ w'.cell? ⟨w7.heap.size, 8, none⟩ = some (.string bsi) ∧ w'.cell? ⟨w7.heap.size, 9, none⟩ = some (.slice bA7 bn7 bc7) ∧ w'.cell? ⟨w7.heap.size, 10, none⟩ = some (.slice bA8 bn8 bc8)) (first | (with_reducible exact qq) | (with_reducible exact KQ.out _ F9.out) | (with_reducible exact KQ.out _ Fa.out) | (with_reducible exact KQ.out _ Fb.out))
        (first
        | (go_at_call 19; (with_reducible refine (CTa.out _ FD.out).mono ?_); rintro e w9 ⟨xnm, xse, xsi, xA1, xn1, xc1, xA2, xn2, xc2, xA3, xn3, xc3, xA4, xn4, xc4, xA5, xn5, xc5, xA6, xn6, xc6, xA7, xn7, xc7, xA8, xn8, xc8, rfl, b9, h9⟩; have F9 := Lib.hid (FD.out.trans (b9.mono FD.out.size)); have H9 := Lib.hid h9; clear b9 h9)
        | (go_at_call 19; (with_reducible refine (CTb.out _ F9.out).mono ?_); rintro e wa ⟨ynm, yse, ysi, yA1, yn1, yc1, yA2, yn2, yc2, yA3, yn3, yc3, yA4, yn4, yc4, yA5, yn5, yc5, yA6, yn6, yc6, yA7, yn7, yc7, yA8, yn8, yc8, rfl, ba, ha⟩; have Fa := Lib.hid (F9.out.trans (ba.mono F9.out.size)); have H9a := Lib.hid (H9.out.below ba); have Ha := Lib.hid ha; clear ba ha)
        | (go_at_call 18; (with_reducible refine (same_prog _ _ _ _ _ _ _ _ _ _ _ _ _ _ _ _ _ _ _ _ _ _ _ _ _ _ _ _ _ _ _ _ _ _ _ _ _ _ _ _ _ _ _ _ _ _ _ _ _ _ _ _ _ _ _ _ pg wa H9a.out Ha.out).mono ?_); rintro e wb ⟨rfl, bb⟩; have Fb := Lib.hid (Fa.out.trans (bb.mono Fa.out.size)); clear bb))
      have FW := Lib.hid (B8.out.trans (Fb.out.mono B8.out.size))
      go_wp2_with fail
      go_ret
      exact ⟨rfl, FW.out⟩
    · have hce := HC.out.resolve_left (fun h => hE h.2)
      have HPE : Hid (progO s.data.toList = .bad L C E) := progO_err hce.1
      have P1 := Lib.hid (PA.out s _ B3.out (by omega))
      have hE' : (E == 0) = false := by simp [hE]
      clear HC hce RD HOT HN
      go_upto_region 5 with fail
      generalize w2.alloc (.cells #[.int .i64 L, .int .i64 C] 48) = W3 at *
      go_wp2_with fail
      refine P1.out.mono ?_
      rintro e w5 ⟨anm, ase, asi, aA1, an1, ac1, aA2, an2, ac2, aA3, an3, ac3, aA4, an4, ac4, aA5, an5, ac5, aA6, an6, ac6, aA7, an7, ac7, aA8, an8, ac8, La, Ca, Ea, rfl, b5, h5⟩
      have B5 := Lib.hid (B3.out.trans (b5.mono B3.out.size))
      obtain ⟨hea, -⟩ := out_pc h5
      rw [HPE.out] at hea
      have HEA : Hid (Ea = E) := hea
      clear hea
      have B6 : Hid (Below w.heap.size w ((w5.alloc (.cells #[.string anm, .int .i64 ase, .slice aA1 an1 ac1, .slice aA2 an2 ac2, .slice aA3 an3 ac3, .slice aA4 an4 ac4, .slice aA5 an5 ac5, .slice aA6 an6 ac6, .string asi, .slice aA7 an7 ac7, .slice aA8 an8 ac8] 54)).alloc (.cells #[.int .i64 La, .int .i64 Ca] 27))) := (B5.out.alloc B5.out.size _).alloc (by have := B5.out.size; simp; omega) _
      clear b5 h5 P1 HPE
      go_upto_region 6 with fail
      have hea := HEA.out
      subst hea
      generalize (w5.alloc (.cells #[.string anm, .int .i64 ase, .slice aA1 an1 ac1, .slice aA2 an2 ac2, .slice aA3 an3 ac3, .slice aA4 an4 ac4, .slice aA5 an5 ac5, .slice aA6 an6 ac6, .string asi, .slice aA7 an7 ac7, .slice aA8 an8 ac8] 54)).alloc (.cells #[.int .i64 La, .int .i64 Ca] 27) = W6 at *
      go_wp2_with fail
      go_ret
      exact ⟨by simp, B6.out⟩
end Go.Proofs.YtdmlnoeneoomfaaDoor
