
/-
  The chapter's examples: known. Numbers in decimals, and what their texts are read as. LexNumbers: the walk. package lex: Same.
-/
import Derived.Test.YtdgekckedchjbaaGreatDoorQB
import Derived.Laws.StructEq
import Derived.Laws.IdiomStrings
import Derived.Lib.AppendStr
namespace Go.Proofs.YtdgekckedchjbaaGreatDoor
open Go.RowKit

theorem tok_ok {l : List UInt8} {ts : List Tk} (h : lexS l = .ok ts) {w w' : World} {e : Ending} (hp : TokPost l w e w') : ∃ A c, e = .returned (.tuple #[.slice A ts.length c, .agg #[.int .i64 0, .int .i64 0], .int .i64 0]) ∧ OT w' w.heap.size (.slice A ts.length c) ts ∧ Below w.heap.size w w' := by
  unfold TokPost at hp
  rw [h] at hp
  exact hp
theorem tok_err {l : List UInt8} {line col er : Int} (h : lexS l = .err line col er) {w w' : World} {e : Ending} (hp : TokPost l w e w') : e = .returned (.tuple #[.slice none 0 0, .agg #[.int .i64 line, .int .i64 col], .int .i64 er]) ∧ Below w.heap.size w w' := by
  unfold TokPost at hp
  rw [h] at hp
  exact hp

/-- The tokens in memory. -/
theorem OT.addr {w : World} {base n c : Nat} {A : Option Addr} {ts : List Tk} (h : OT w base (.slice A n c) ts) (hn : 0 < n) : ∃ g, A = some ⟨g, 0, none⟩ ∧ base ≤ g ∧ g < w.heap.size ∧ n = ts.length ∧ n ≤ c ∧ c ≤ 9223372036854775807 ∧ ∀ j u, (tksCells ts)[j]? = some u → w.cell? ⟨g, j, none⟩ = some u := by
  have h' := h
  rcases h.2 with ⟨h0, _⟩ | ⟨g, cap, cur, hv, hg, hh, hnc, hcm, hcz, htk⟩
  · simp at h0
    omega
  · simp only [Value.slice.injEq] at hv
    obtain ⟨rfl, rfl, rfl⟩ := hv
    have hlt : g < w.heap.size := Blk.lt (t := 122) (cs := cur) hh
    refine ⟨g, rfl, hg, hlt, rfl, hnc, by unfold maxLen at hcm; omega, fun j u hu => ?_⟩
    have := World.ownsRow.cells h' (g := g) rfl j u hu
    rw [Addr.add_lit, Nat.zero_add] at this
    exact this

end Go.Proofs.YtdgekckedchjbaaGreatDoor
namespace Go.Proofs.YtdgekckedchjbaaGreatDoor
open Go.RowKit

theorem preN_all {p : UInt8 → Bool} {l : List UInt8} (h : ∀ c ∈ l, p c = true) : preN p l = l.length :=
  preN_eq (Nat.le_refl _) (fun j hj _ => h _ (List.getElem_mem hj)) (fun hj => absurd hj (by omega))
/-- The number of digits. -/
def valD (l : List UInt8) : Nat := l.foldl (fun a c => 10 * a + (c.toNat - 48)) 0
theorem foldD (l : List UInt8) : ∀ a : Nat, l.foldl (fun a c => 10 * a + (c.toNat - 48)) a = a * 10 ^ l.length + valD l := by
  induction l with
  | nil => intro a; simp [valD]
  | cons c l ih =>
    intro a
    unfold valD
    rw [List.foldl_cons, List.foldl_cons, ih, ih (10 * 0 + (c.toNat - 48)), List.length_cons, Nat.pow_succ]
    have e : (10 * a + (c.toNat - 48)) * 10 ^ l.length = a * (10 ^ l.length * 10) + (c.toNat - 48) * 10 ^ l.length := by
      rw [Nat.add_mul, Nat.mul_comm 10 a, Nat.mul_assoc, Nat.mul_comm 10 (10 ^ l.length)]
    rw [e]
    simp only [Nat.mul_zero, Nat.zero_add]
    omega
theorem valD_cons (c : UInt8) (l : List UInt8) : valD (c :: l) = (c.toNat - 48) * 10 ^ l.length + valD l := by
  have := foldD l (10 * 0 + (c.toNat - 48))
  unfold valD
  rw [List.foldl_cons, this]
  simp [valD]
end Go.Proofs.YtdgekckedchjbaaGreatDoor
namespace Go.Proofs.YtdgekckedchjbaaGreatDoor
open Go.RowKit

theorem str_append (a b : List UInt8) : str a ++ str b = str (a ++ b) := by
  apply ba_ext
  rw [str_list]
  simp [str]
theorem str_tl (l : List UInt8) : (str l).toList = l := by rw [tl_eq, str_list]
theorem str_size (l : List UInt8) : (str l).size = l.length := by rw [← size_list, str_list]

/-- string([]byte{x}). -/
theorem conv_one (W : World) (x : Int) (h0 : 0 ≤ x) (h1 : x ≤ 255) : (convert 64 9 (.slice (some ⟨W.heap.size, 0, none⟩) 1 1)).run Tryz.prog (W.alloc (.cells #[.int .u8 x] 5)) = .ok (.string (str [UInt8.ofNat x.toNat])) (W.alloc (.cells #[.int .u8 x] 5)) := by
  refine run_convert_bytes_back _ 64 9 5 ⟨W.heap.size, 0, none⟩ 1 [UInt8.ofNat x.toNat] Tryz.underlying64 Tryz.underlying5 Tryz.underlying9 ?_
  intro j hj
  match j, hj with
  | 0, _ =>
    have := (Blk.new W 5 #[.int .u8 x]).cell 0
    rw [Addr.add_lit]
    refine this.trans ?_
    simp [UInt8.toNat_ofNat']
    omega

/-- What the loop keeps: what is left, and the digits. -/
structure Dec (N m : Nat) (t : List UInt8) : Prop where
  dig : ∀ c ∈ t, digB c = true
  val : N = m * 10 ^ t.length + valD t
  head : t ≠ [] → m = 0 → t.length = 1 ∨ t.head? ≠ some 48
  few : t.length ≤ 11
theorem Dec.start (N : Nat) : Dec N N [] := ⟨by simp, by simp [valD], fun h => absurd rfl h, by simp⟩
theorem Dec.step {N m : Nat} {t : List UInt8} (h : Dec N m t) (hN : N < 100000000000) (hm : t = [] ∨ 0 < m) : Dec N (m / 10) (UInt8.ofNat (48 + m % 10) :: t) := by
  have hc : (UInt8.ofNat (48 + m % 10)).toNat = 48 + m % 10 := by rw [UInt8.toNat_ofNat']; omega
  have hv := h.val
  have hfew : t.length ≤ 10 := by
    rcases hm with rfl | hm
    · simp
    · rcases Nat.lt_or_ge t.length 11 with h1 | h1
      · omega
      · exfalso
        have h2 : 10 ^ 11 ≤ 10 ^ t.length := Nat.pow_le_pow_right (by omega) h1
        have h3 : 10 ^ t.length ≤ m * 10 ^ t.length := Nat.le_mul_of_pos_left _ hm
        have h4 : (10 : Nat) ^ 11 = 100000000000 := by decide
        omega
  refine ⟨?_, ?_, ?_, by simp; omega⟩
  · intro c hcm
    rcases List.mem_cons.1 hcm with rfl | h1
    · rw [digB_t, hc]; omega
    · exact h.dig c h1
  · rw [valD_cons, hc, List.length_cons, Nat.pow_succ, hv]
    have e : m = 10 * (m / 10) + m % 10 := by omega
    generalize 10 ^ t.length = p
    generalize valD t = v
    have e2 : m * p = (10 * (m / 10) + m % 10) * p := by rw [← e]
    rw [e2, Nat.add_mul]
    have e3 : 48 + m % 10 - 48 = m % 10 := by omega
    rw [e3, Nat.mul_comm p 10, ← Nat.mul_assoc, Nat.mul_comm (m / 10) 10]
    omega
  · intro _ hz
    rcases hm with rfl | hm
    · exact .inl (by simp)
    · right
      simp only [List.head?_cons, ne_eq, Option.some.injEq]
      intro he
      have := congrArg UInt8.toNat he
      rw [hc] at this
      simp at this
      omega

end Go.Proofs.YtdgekckedchjbaaGreatDoor
namespace Go.Proofs.YtdgekckedchjbaaGreatDoor
open Go.RowKit

theorem Reads.chunk {w : World} {B s n : Nat} {A : Option Addr} {xs cs : List Value} (h : Reads w B s A n xs) (hs : 0 < s) {k : Nat} (hk : k < n) (hcs : (xs.drop (k * s)).take s = cs) :
    ∃ b o, A = some ⟨b, o, none⟩ ∧ b < B ∧ ∀ j u, cs[j]? = some u → w.cell? ⟨b, o + k * s + j, none⟩ = some u := by
  obtain ⟨ad, rfl, hb, hc⟩ := h.2 (by omega)
  have hlen : k * s + s ≤ xs.length := by
    rw [h.1]
    have h1 : k * s + s = (k + 1) * s := by rw [Nat.add_mul, Nat.one_mul]
    rw [h1]
    exact Nat.mul_le_mul_right _ hk
  have h0 := hc 0 _ (List.getElem?_eq_getElem (by omega))
  obtain ⟨b, o, spot⟩ := ad
  have hspot : spot = none := by simpa [Addr.add] using World.cell?_spot h0
  subst hspot
  refine ⟨b, o, rfl, hb, fun j u hu => ?_⟩
  rw [← hcs, List.getElem?_take] at hu
  split at hu
  · rw [List.getElem?_drop] at hu
    have := hc _ u hu
    rw [Addr.add_lit] at this
    rw [Nat.add_assoc]
    exact this
  · cases hu
theorem tksCells_cut : ∀ (ts : List Tk) (k : Nat) (h : k < ts.length), ((tksCells ts).drop (k * 5)).take 5 = tkCells (ts[k]'h)
  | t :: ts, 0, _ => by simp [tksCells, tkCells]
  | t :: ts, k + 1, h => by
    have e : tksCells (t :: ts) = tkCells t ++ tksCells ts := rfl
    have e2 : (tkCells t).length = 5 := rfl
    have e3 : (tkCells t ++ tksCells ts).drop ((k + 1) * 5) = (tksCells ts).drop (k * 5) := by
      rw [List.drop_append, List.drop_eq_nil_of_le (by rw [e2]; omega), e2, List.nil_append]
      congr 1
      omega
    rw [e, e3, List.getElem_cons_succ]
    exact tksCells_cut ts k (by simpa using h)

def Tk.bare (t : Tk) : Int × List UInt8 × Int := (t.kind, t.text, t.n)
def sameT (a b : List Tk) : Bool := decide (a.map Tk.bare = b.map Tk.bare)
end Go.Proofs.YtdgekckedchjbaaGreatDoor
