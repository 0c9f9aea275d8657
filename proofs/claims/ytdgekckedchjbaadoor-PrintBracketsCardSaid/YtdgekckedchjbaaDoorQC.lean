
/-
  The chapter's examples: known. Numbers in decimals, and what their texts are read as. LexNumbers: the walk. package lex: Same.
-/
import Derived.Test.YtdgekckedchjbaaDoorQB
import Derived.Laws.StructEq
import Derived.Laws.IdiomStrings
import Derived.Lib.AppendStr
namespace Go.Proofs.YtdgekckedchjbaaDoor
open Go.RowKit

theorem lex_k1 : lexS [120, 49, 60, 61, 51] = .ok [⟨1, [120, 49], 0, 1, 1⟩, ⟨4, [60, 61], 0, 1, 3⟩, ⟨2, [51], 3, 1, 5⟩, ⟨0, [], 0, 1, 6⟩] := by kernel_rfl
theorem lex_k2 : lexS [105, 102, 32, 48, 55] = .err 1 4 3 := by kernel_rfl

theorem tok_ok {l : List UInt8} {ts : List Tk} (h : lexS l = .ok ts) {w w' : World} {e : Ending} (hp : TokPost l w e w') : ∃ A c, e = .returned (.tuple #[.slice A ts.length c, .agg #[.int .i64 0, .int .i64 0], .int .i64 0]) ∧ OT w' w.heap.size (.slice A ts.length c) ts ∧ Below w.heap.size w w' := by
  unfold TokPost at hp
  rw [h] at hp
  exact hp
theorem tok_err {l : List UInt8} {line col er : Int} (h : lexS l = .err line col er) {w w' : World} {e : Ending} (hp : TokPost l w e w') : e = .returned (.tuple #[.slice none 0 0, .agg #[.int .i64 line, .int .i64 col], .int .i64 er]) ∧ Below w.heap.size w w' := by
  unfold TokPost at hp
  rw [h] at hp
  exact hp

/-- The tokens in memory. -/
theorem OT.addr {w : World} {base n c : Nat} {A : Option Addr} {ts : List Tk} (h : OT w base (.slice A n c) ts) (hn : 0 < n) : ∃ g, A = some ⟨g, 0, none⟩ ∧ base ≤ g ∧ g < w.heap.size ∧ n = ts.length ∧ n ≤ c ∧ c ≤ 9223372036854775807 ∧ ∀ j u, (tksCells ts)[j]? = some u → w.cell? ⟨g, j, none⟩ = some u := by
  have h' := h
  rcases h.2 with ⟨h0, _⟩ | ⟨g, cap, cur, hv, hg, hh, hnc, hcm, hcz, htk⟩
  · simp at h0
    omega
  · simp only [Value.slice.injEq] at hv
    obtain ⟨rfl, rfl, rfl⟩ := hv
    have hlt : g < w.heap.size := Blk.lt (t := 88) (cs := cur) hh
    refine ⟨g, rfl, hg, hlt, rfl, hnc, by unfold maxLen at hcm; omega, fun j u hu => ?_⟩
    have := World.ownsRow.cells h' (g := g) rfl j u hu
    rw [Addr.add_lit, Nat.zero_add] at this
    exact this

end Go.Proofs.YtdgekckedchjbaaDoor
namespace Go.Proofs.YtdgekckedchjbaaDoor
open Go.RowKit

theorem preN_all {p : UInt8 → Bool} {l : List UInt8} (h : ∀ c ∈ l, p c = true) : preN p l = l.length :=
  preN_eq (Nat.le_refl _) (fun j hj _ => h _ (List.getElem_mem hj)) (fun hj => absurd hj (by omega))
/-- The number of digits. -/
def valD (l : List UInt8) : Nat := l.foldl (fun a c => 10 * a + (c.toNat - 48)) 0
theorem foldD (l : List UInt8) : ∀ a : Nat, l.foldl (fun a c => 10 * a + (c.toNat - 48)) a = a * 10 ^ l.length + valD l := by
  induction l with
  | nil => intro a; simp [valD]
  | cons c l ih =>
    intro a
    unfold valD
    rw [List.foldl_cons, List.foldl_cons, ih, ih (10 * 0 + (c.toNat - 48)), List.length_cons, Nat.pow_succ]
    have e : (10 * a + (c.toNat - 48)) * 10 ^ l.length = a * (10 ^ l.length * 10) + (c.toNat - 48) * 10 ^ l.length := by
      rw [Nat.add_mul, Nat.mul_comm 10 a, Nat.mul_assoc, Nat.mul_comm 10 (10 ^ l.length)]
    rw [e]
    simp only [Nat.mul_zero, Nat.zero_add]
    omega
theorem valD_cons (c : UInt8) (l : List UInt8) : valD (c :: l) = (c.toNat - 48) * 10 ^ l.length + valD l := by
  have := foldD l (10 * 0 + (c.toNat - 48))
  unfold valD
  rw [List.foldl_cons, this]
  simp [valD]
theorem numF_val : ∀ (l : List UInt8) (a : Nat), (∀ c ∈ l, digB c = true) → numF a l = if a * 10 ^ l.length + valD l ≤ 2147483647 ∨ l = [] then (((a * 10 ^ l.length + valD l : Nat) : Int), 0) else (0, 2)
  | [], a, _ => by simp [numF, valD]
  | c :: l, a, h => by
    have hc := digB_t.1 (h c (List.mem_cons_self ..))
    have ih := numF_val l (10 * a + (c.toNat - 48)) (fun x hx => h x (List.mem_cons_of_mem _ hx))
    have hcast : (10 * (a : Int) + ((c.toNat : Int) - 48)) = ((10 * a + (c.toNat - 48) : Nat) : Int) := by omega
    have hval : a * 10 ^ (c :: l).length + valD (c :: l) = (10 * a + (c.toNat - 48)) * 10 ^ l.length + valD l := by
      rw [valD_cons, List.length_cons, Nat.pow_succ, Nat.add_mul, Nat.mul_comm 10 a, Nat.mul_assoc, Nat.mul_comm 10 (10 ^ l.length)]
      omega
    rw [hval]
    unfold numF
    rw [hcast]
    have hge : 10 * a + (c.toNat - 48) ≤ (10 * a + (c.toNat - 48)) * 10 ^ l.length + valD l := by
      have := Nat.le_mul_of_pos_right (10 * a + (c.toNat - 48)) (show 0 < 10 ^ l.length from Nat.pos_of_ne_zero (by simp))
      omega
    by_cases hb : ((10 * a + (c.toNat - 48) : Nat) : Int) > 2147483647
    · rw [if_pos hb, if_neg (by simp; omega)]
    · rw [if_neg hb, ih]
      by_cases hl : l = []
      · subst hl
        simp [valD]
        omega
      · simp [hl]
theorem numS_dig {l : List UInt8} (hd : ∀ c ∈ l, digB c = true) (h0 : l ≠ []) (h1 : 1 < l.length → l.head? ≠ some 48) : numS l = if valD l ≤ 2147483647 then ((valD l : Int), 0) else (0, 2) := by
  have hp : preN digB l = l.length := preN_all hd
  unfold numS
  rw [if_neg (by
    rintro (h | h | ⟨h, h'⟩)
    · exact h0 h
    · exact h hp
    · exact h1 h h')]
  have := numF_val l 0 hd
  simp only [Nat.zero_mul, Nat.zero_add, h0, or_false] at this
  exact this
theorem inn_dig {c : UInt8} (h : digB c = true) : innB c = true := by unfold innB; simp [h]
theorem dig_not {c : UInt8} (h : digB c = true) : letB c = false ∧ c ≠ 10 ∧ c ≠ 32 ∧ c ≠ 9 ∧ c ≠ 35 := by
  rw [digB_t] at h
  refine ⟨letB_f.2 (by omega), ?_, ?_, ?_, ?_⟩ <;> (rintro rfl; simp at h)
/-- A piece that begins with a digit, all of whose bytes are inner ones. -/
theorem piece_dig {c : UInt8} {l : List UInt8} (hc : digB c = true) (hi : ∀ x ∈ c :: l, innB x = true) : pieceS (c :: l) = if (numS (c :: l)).2 ≠ 0 then noPc (numS (c :: l)).2 else ⟨2, c :: l, (numS (c :: l)).1, 0⟩ := by
  have hp : preN innB (c :: l) = (c :: l).length := preN_all hi
  unfold pieceS
  rw [List.headD_cons, if_neg (by rw [(dig_not hc).1]; simp), if_pos hc, hp, List.take_of_length_le (Nat.le_refl _)]
theorem lex_dig (f : Nat) {c : UInt8} {l : List UInt8} (line col : Int) (acc : List Tk) (hc : digB c = true) (hi : ∀ x ∈ c :: l, innB x = true) :
    lexF (f + 2) (c :: l) line col acc = if (numS (c :: l)).2 ≠ 0 then .err line col (numS (c :: l)).2 else .ok (acc ++ [⟨2, c :: l, (numS (c :: l)).1, line, col⟩] ++ [⟨0, [], 0, line, col + (c :: l).length⟩]) := by
  obtain ⟨h1, h2, h3, h4, h5⟩ := dig_not hc
  rw [lexF_cons rfl, if_neg h2, if_neg (by rintro (h | h); exact h3 h; exact h4 h), if_neg h5, piece_dig hc hi]
  by_cases he : (numS (c :: l)).2 ≠ 0
  · rw [if_pos he, if_pos he, if_pos (by simpa [noPc] using he)]
    rfl
  · rw [if_neg he, if_neg he, if_neg (by simp)]
    simp only [List.drop_length]
    rfl
theorem lex_num1 {D : List UInt8} (hd : ∀ c ∈ D, digB c = true) (h0 : D ≠ []) : lexS (120 :: 32 :: D) = if (numS D).2 ≠ 0 then .err 1 3 (numS D).2 else .ok [⟨1, [120], 0, 1, 1⟩, ⟨2, D, (numS D).1, 1, 3⟩, ⟨0, [], 0, 1, 3 + D.length⟩] := by
  obtain ⟨c, l, rfl⟩ := List.exists_cons_of_ne_nil h0
  have hx : pieceS (120 :: 32 :: c :: l) = ⟨1, [120], 0, 0⟩ := by
    have hp : preN innB (120 :: 32 :: c :: l) = 1 := by
      unfold preN
      rw [List.takeWhile_cons_of_pos (by decide), List.takeWhile_cons_of_neg (by decide)]
      rfl
    unfold pieceS
    rw [hp, List.headD_cons, if_pos (by decide), if_neg (by omega), if_neg (by show ¬ ([120] : List UInt8) ∈ wordsL; decide)]
    rfl
  have e1 : lexS (120 :: 32 :: c :: l) = lexF (l.length + 2) (c :: l) 1 3 [⟨1, [120], 0, 1, 1⟩] := by
    unfold lexS
    rw [lexF_cons rfl, if_neg (by decide), if_neg (by decide), if_neg (by decide), hx]
    rw [if_neg (by decide)]
    show lexF (l.length + 3) (32 :: c :: l) 1 _ _ = _
    rw [lexF_cons rfl, if_neg (by decide), if_pos (by decide)]
    rfl
  rw [e1, lex_dig _ _ _ _ (hd c (List.mem_cons_self ..)) (fun x hx => inn_dig (hd x hx))]
  rfl
theorem lex_num2 {D : List UInt8} (hd : ∀ c ∈ D, digB c = true) (h0 : D ≠ []) : lexS (48 :: D) = .err 1 1 3 := by
  have hn : numS (48 :: D) = (0, 3) := by
    unfold numS
    rw [if_pos (.inr (.inr ⟨by have := List.length_pos_iff.2 h0; simp; omega, rfl⟩))]
  unfold lexS
  have hall : ∀ x ∈ (48 :: D : List UInt8), innB x = true := by
    intro x hx
    rcases List.mem_cons.1 hx with rfl | h
    · decide
    · exact inn_dig (hd x h)
  obtain ⟨f, hf⟩ : ∃ f, (48 :: D : List UInt8).length + 1 = f + 2 := ⟨D.length, by simp⟩
  rw [hf, lex_dig f 1 1 [] (by decide) hall, hn]
  rfl
theorem lex_num3 {D : List UInt8} (hd : ∀ c ∈ D, digB c = true) (h0 : D ≠ []) : lexS (D ++ [97]) = .err 1 1 3 := by
  obtain ⟨c, l, rfl⟩ := List.exists_cons_of_ne_nil h0
  have hn : numS (c :: l ++ [97]) = (0, 3) := by
    have hp : preN digB (c :: l ++ [97]) = (c :: l).length := preN_eq (by simp) (fun j hj h => by rw [List.getElem_append_left h]; exact hd _ (List.getElem_mem h)) (fun hj => by rw [List.getElem_append_right (Nat.le_refl _)]; simp; decide)
    unfold numS
    rw [if_pos (.inr (.inl (by rw [hp]; simp)))]
  unfold lexS
  have hall : ∀ x ∈ (c :: (l ++ [97]) : List UInt8), innB x = true := by
    intro x hx
    rw [← List.cons_append] at hx
    rcases List.mem_append.1 hx with h | h
    · exact inn_dig (hd x h)
    · simp at h
      subst h
      decide
  obtain ⟨f, hf⟩ : ∃ f, (c :: l ++ [97]).length + 1 = f + 2 := ⟨l.length + 1, by simp⟩
  rw [hf]
  have := lex_dig f 1 1 [] (hd c (List.mem_cons_self ..)) hall
  rw [List.cons_append] at hn ⊢
  rw [this, hn]
  rfl
end Go.Proofs.YtdgekckedchjbaaDoor
namespace Go.Proofs.YtdgekckedchjbaaDoor
open Go.RowKit

theorem str_append (a b : List UInt8) : str a ++ str b = str (a ++ b) := by
  apply ba_ext
  rw [str_list]
  simp [str]
theorem str_tl (l : List UInt8) : (str l).toList = l := by rw [tl_eq, str_list]
theorem str_size (l : List UInt8) : (str l).size = l.length := by rw [← size_list, str_list]

/-- string([]byte{x}). -/
theorem conv_one (W : World) (x : Int) (h0 : 0 ≤ x) (h1 : x ≤ 255) : (convert 50 9 (.slice (some ⟨W.heap.size, 0, none⟩) 1 1)).run Tryd.prog (W.alloc (.cells #[.int .u8 x] 5)) = .ok (.string (str [UInt8.ofNat x.toNat])) (W.alloc (.cells #[.int .u8 x] 5)) := by
  refine run_convert_bytes_back _ 50 9 5 ⟨W.heap.size, 0, none⟩ 1 [UInt8.ofNat x.toNat] Tryd.underlying50 Tryd.underlying5 Tryd.underlying9 ?_
  intro j hj
  match j, hj with
  | 0, _ =>
    have := (Blk.new W 5 #[.int .u8 x]).cell 0
    rw [Addr.add_lit]
    refine this.trans ?_
    simp [UInt8.toNat_ofNat']
    omega

/-- What the loop keeps: what is left, and the digits. -/
structure Dec (N m : Nat) (t : List UInt8) : Prop where
  dig : ∀ c ∈ t, digB c = true
  val : N = m * 10 ^ t.length + valD t
  head : t ≠ [] → m = 0 → t.length = 1 ∨ t.head? ≠ some 48
  few : t.length ≤ 11
theorem Dec.start (N : Nat) : Dec N N [] := ⟨by simp, by simp [valD], fun h => absurd rfl h, by simp⟩
theorem Dec.step {N m : Nat} {t : List UInt8} (h : Dec N m t) (hN : N < 100000000000) (hm : t = [] ∨ 0 < m) : Dec N (m / 10) (UInt8.ofNat (48 + m % 10) :: t) := by
  have hc : (UInt8.ofNat (48 + m % 10)).toNat = 48 + m % 10 := by rw [UInt8.toNat_ofNat']; omega
  have hv := h.val
  have hfew : t.length ≤ 10 := by
    rcases hm with rfl | hm
    · simp
    · rcases Nat.lt_or_ge t.length 11 with h1 | h1
      · omega
      · exfalso
        have h2 : 10 ^ 11 ≤ 10 ^ t.length := Nat.pow_le_pow_right (by omega) h1
        have h3 : 10 ^ t.length ≤ m * 10 ^ t.length := Nat.le_mul_of_pos_left _ hm
        have h4 : (10 : Nat) ^ 11 = 100000000000 := by decide
        omega
  refine ⟨?_, ?_, ?_, by simp; omega⟩
  · intro c hcm
    rcases List.mem_cons.1 hcm with rfl | h1
    · rw [digB_t, hc]; omega
    · exact h.dig c h1
  · rw [valD_cons, hc, List.length_cons, Nat.pow_succ, hv]
    have e : m = 10 * (m / 10) + m % 10 := by omega
    generalize 10 ^ t.length = p
    generalize valD t = v
    have e2 : m * p = (10 * (m / 10) + m % 10) * p := by rw [← e]
    rw [e2, Nat.add_mul]
    have e3 : 48 + m % 10 - 48 = m % 10 := by omega
    rw [e3, Nat.mul_comm p 10, ← Nat.mul_assoc, Nat.mul_comm (m / 10) 10]
    omega
  · intro _ hz
    rcases hm with rfl | hm
    · exact .inl (by simp)
    · right
      simp only [List.head?_cons, ne_eq, Option.some.injEq]
      intro he
      have := congrArg UInt8.toNat he
      rw [hc] at this
      simp at this
      omega

end Go.Proofs.YtdgekckedchjbaaDoor
namespace Go.Proofs.YtdgekckedchjbaaDoor
open Go.RowKit

theorem Reads.chunk {w : World} {B s n : Nat} {A : Option Addr} {xs cs : List Value} (h : Reads w B s A n xs) (hs : 0 < s) {k : Nat} (hk : k < n) (hcs : (xs.drop (k * s)).take s = cs) :
    ∃ b o, A = some ⟨b, o, none⟩ ∧ b < B ∧ ∀ j u, cs[j]? = some u → w.cell? ⟨b, o + k * s + j, none⟩ = some u := by
  obtain ⟨ad, rfl, hb, hc⟩ := h.2 (by omega)
  have hlen : k * s + s ≤ xs.length := by
    rw [h.1]
    have h1 : k * s + s = (k + 1) * s := by rw [Nat.add_mul, Nat.one_mul]
    rw [h1]
    exact Nat.mul_le_mul_right _ hk
  have h0 := hc 0 _ (List.getElem?_eq_getElem (by omega))
  obtain ⟨b, o, spot⟩ := ad
  have hspot : spot = none := by simpa [Addr.add] using World.cell?_spot h0
  subst hspot
  refine ⟨b, o, rfl, hb, fun j u hu => ?_⟩
  rw [← hcs, List.getElem?_take] at hu
  split at hu
  · rw [List.getElem?_drop] at hu
    have := hc _ u hu
    rw [Addr.add_lit] at this
    rw [Nat.add_assoc]
    exact this
  · cases hu
theorem tksCells_length (ts : List Tk) : (tksCells ts).length = ts.length * 5 := by
  induction ts with
  | nil => rfl
  | cons t ts ih =>
    have : (tksCells (t :: ts)).length = 5 + (tksCells ts).length := by simp [tksCells, tkCells]; omega
    rw [this, ih, List.length_cons]
    omega
theorem tksCells_cut : ∀ (ts : List Tk) (k : Nat) (h : k < ts.length), ((tksCells ts).drop (k * 5)).take 5 = tkCells (ts[k]'h)
  | t :: ts, 0, _ => by simp [tksCells, tkCells]
  | t :: ts, k + 1, h => by
    have e : tksCells (t :: ts) = tkCells t ++ tksCells ts := rfl
    have e2 : (tkCells t).length = 5 := rfl
    have e3 : (tkCells t ++ tksCells ts).drop ((k + 1) * 5) = (tksCells ts).drop (k * 5) := by
      rw [List.drop_append, List.drop_eq_nil_of_le (by rw [e2]; omega), e2, List.nil_append]
      congr 1
      omega
    rw [e, e3, List.getElem_cons_succ]
    exact tksCells_cut ts k (by simpa using h)

def Tk.bare (t : Tk) : Int × List UInt8 × Int := (t.kind, t.text, t.n)
def sameT (a b : List Tk) : Bool := decide (a.map Tk.bare = b.map Tk.bare)
theorem sameT_len {a b : List Tk} (h : a.length ≠ b.length) : sameT a b = false := by
  unfold sameT
  rw [decide_eq_false_iff_not]
  intro e
  exact h (by simpa using congrArg List.length e)

theorem take_bare {ta tb : List Tk} {k : Nat} (ha : k < ta.length) (hb : k < tb.length) : ((ta.take (k + 1)).map Tk.bare = (tb.take (k + 1)).map Tk.bare) ↔ ((ta.take k).map Tk.bare = (tb.take k).map Tk.bare ∧ (ta[k]'ha).bare = (tb[k]'hb).bare) := by
  rw [List.take_succ_eq_append_getElem ha, List.take_succ_eq_append_getElem hb, List.map_append, List.map_append]
  simp only [List.map_cons, List.map_nil]
  constructor
  · intro h
    have := List.append_inj h (by simp; omega)
    exact ⟨this.1, by simpa using this.2⟩
  · rintro ⟨h1, h2⟩
    rw [h1, h2]

end Go.Proofs.YtdgekckedchjbaaDoor
