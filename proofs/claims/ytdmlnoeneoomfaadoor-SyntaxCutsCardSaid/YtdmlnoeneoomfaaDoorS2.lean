
/-
  The parser in memory; which token comes next.
-/
import Derived.Test.YtdmlnoeneoomfaaDoorS1
import Derived.Test.YtdmlnoeneoomfaaDoorL14
import Derived.MapKept
import Derived.Laws.MakeOwn
import Derived.BigQuiet
import Derived.Deep.QuietTactic
namespace Go.Proofs.YtdmlnoeneoomfaaDoor
open Go.RowKit

/-- Block r is a map of just these texts to these numbers. -/
def DictIs (w : World) (r : Nat) (l : List (List UInt8 × Int)) : Prop :=
  (l.map Prod.fst).Nodup ∧ ∃ (es : Array MapEntry) (c : Nat), w.heap[r]? = some (.map es c) ∧ es.toList.map (fun e => (e.key, e.val)) = l.map fun s => (Value.string (str s.1), Value.int .i64 s.2)
section
variable {w w' : World} {r : Nat} {l : List (List UInt8 × Int)}
theorem str_inj {a b : List UInt8} (h : str a = str b) : a = b := by
  have := congrArg (fun s : ByteArray => s.data.toList) h
  simpa [str] using this
theorem DictIs.lt (h : DictIs w r l) : r < w.heap.size := by
  obtain ⟨_, es, c, h, _⟩ := h
  exact (Array.getElem?_eq_some_iff.1 h).1
theorem DictIs.kept {S : Nat → Prop} (h : DictIs w r l) (hk : Kept S w w') (hs : ¬ S r) : DictIs w' r l := by
  have hl := h.lt
  obtain ⟨hn, es, c, h, h2⟩ := h
  exact ⟨hn, es, c, (hk.block r hl hs).trans h, h2⟩
theorem DictIs.new (w : World) : DictIs (w.alloc (.map #[] 0)) w.heap.size [] := ⟨List.nodup_nil, #[], 0, heap_alloc_new w _, rfl⟩
theorem DictIs.keys {es : Array MapEntry} (h : es.toList.map (fun e => (e.key, e.val)) = l.map fun s => (Value.string (str s.1), Value.int .i64 s.2)) : ∀ x ∈ es.toList, Go.MapKept.IsKey .string x.key ∧ ∃ s ∈ l, x.key = .string (str s.1) ∧ x.val = .int .i64 s.2 := by
  intro x hx
  have : (x.key, x.val) ∈ l.map fun s => (Value.string (str s.1), Value.int .i64 s.2) := by rw [← h]; exact List.mem_map.2 ⟨x, hx, rfl⟩
  obtain ⟨s, hs, he⟩ := List.mem_map.1 this
  injection he with h1 h2
  exact ⟨by rw [← h1]; trivial, s, hs, h1.symm, h2.symm⟩
theorem lookup_mem {l : List (List UInt8 × Int)} (hn : (l.map Prod.fst).Nodup) {s : List UInt8 × Int} (hs : s ∈ l) : l.lookup s.1 = some s.2 := by
  induction l with
  | nil => simp at hs
  | cons a l ih =>
    rw [List.map_cons, List.nodup_cons] at hn
    rcases List.mem_cons.1 hs with rfl | h
    · simp [List.lookup]
    · have hne : s.1 ≠ a.1 := fun e => hn.1 (List.mem_map.2 ⟨s, h, e⟩)
      rw [List.lookup, show (s.1 == a.1) = false from by simp [hne]]
      exact ih hn.2 h
theorem lookup_none {l : List (List UInt8 × Int)} {k : List UInt8} (h : ∀ s ∈ l, s.1 ≠ k) : l.lookup k = none := by
  induction l with
  | nil => rfl
  | cons a l ih =>
    have h1 := h a (List.mem_cons_self ..)
    rw [List.lookup, show (k == a.1) = false from by simp; exact fun e => h1 e.symm]
    exact ih fun s hs => h s (List.mem_cons_of_mem _ hs)
theorem DictIs.find (hn : (l.map Prod.fst).Nodup) {es : Array MapEntry} (h : es.toList.map (fun e => (e.key, e.val)) = l.map fun s => (Value.string (str s.1), Value.int .i64 s.2)) (k : List UInt8) :
    (l.lookup k = none ∧ Instr.findNow .string (.string (str k)) es.toList 0 = some none) ∨ (∃ v j, l.lookup k = some v ∧ Instr.findNow .string (.string (str k)) es.toList 0 = some (some (j, .int .i64 v))) := by
  rcases Go.MapKept.findNow_spec (d := .string) (k := .string (str k)) trivial es.toList 0 (fun x hx => (DictIs.keys h x hx).1) with ⟨h1, h2⟩ | ⟨j, e, h1, h2, h3⟩
  · refine .inl ⟨lookup_none fun s hs hk => ?_, h1⟩
    have : (Value.string (str s.1), Value.int .i64 s.2) ∈ es.toList.map (fun e => (e.key, e.val)) := by rw [h]; exact List.mem_map.2 ⟨s, hs, rfl⟩
    obtain ⟨x, hx, he⟩ := List.mem_map.1 this
    injection he with h4 h5
    exact h2 x hx (by rw [h4, hk])
  · have he : e ∈ es.toList := List.mem_of_getElem? h2
    obtain ⟨_, s, hs, hk, hv⟩ := DictIs.keys h e he
    rw [h3] at hk
    injection hk with hk
    have := str_inj hk
    subst this
    exact .inr ⟨s.2, 0 + j, lookup_mem hn hs, by rw [h1, hv]⟩
variable {P : Program}
theorem DictIs.lookup (h : DictIs w r l) {t k e : TypeId} (ht : P.underlying t = some (.map k e)) (hk : P.underlying k = some .string) (hz : (zeroValue e).run P w = .ok (.int .i64 0) w) (s : List UInt8) :
    (Instr.lookup t (.map (some r)) (.string (str s)) true).run P w = .ok (.tuple #[.int .i64 ((l.lookup s).getD 0), .bool (l.lookup s).isSome]) w := by
  obtain ⟨hn, es, c, hm, hl⟩ := h
  unfold Instr.lookup
  rcases DictIs.find hn hl s with ⟨h1, h2⟩ | ⟨v, j, h1, h2⟩
  · rw [h1]
    simp [run_underlying ht, Go.MapKept.run_getObj_map hm, Go.MapKept.run_checkKey (P := P) (w := w) hk (k := .string (str s)) trivial, Go.MapKept.run_findKey hk h2, Result.andThen, hz]
  · rw [h1]
    simp [run_underlying ht, Go.MapKept.run_getObj_map hm, Go.MapKept.run_checkKey (P := P) (w := w) hk (k := .string (str s)) trivial, Go.MapKept.run_findKey hk h2, Result.andThen]
end

/-- What a parser reads, and its maps: none of it lies in its own block g. -/
structure ParS (w : World) (g : Nat) (A : Option Addr) (m : Nat → Nat) (ts : List Tk) : Prop where
  rd : Reads w w.heap.size 5 A ts.length (tksCells ts)
  far : ∀ a, A = some a → a.block ≠ g
  dict : ∀ k, k < 5 → DictIs w (m k) (lvlT k)
  mfar : ∀ k, k < 5 → m k ≠ g
  lim : ts.length ≤ 70000
  ends : ∃ us L C, ts = us ++ [⟨0, [], 0, L, C⟩]
def parCells (A : Option Addr) (n c : Nat) (m : Nat → Nat) (i : Nat) (dp er : Int) : Array Value :=
  #[.slice A n c, .int .i64 i, .int .i64 dp, .map (some (m 0)), .map (some (m 1)), .map (some (m 2)), .map (some (m 3)), .map (some (m 4)), .int .i64 er]
/-- A parser at token i. -/
structure Par (w : World) (g : Nat) (A : Option Addr) (c : Nat) (m : Nat → Nat) (ts : List Tk) (i : Nat) (dp er : Int) : Prop where
  st : ParS w g A m ts
  blk : Blk w g 103 (parCells A ts.length c m i dp er)
  at_ : i < ts.length
theorem Reads.keptfar {S : Nat → Prop} {w w' : World} {s n : Nat} {A : Option Addr} {xs : List Value} (h : Reads w w.heap.size s A n xs) (hk : Kept S w w') (hf : ∀ a, A = some a → ¬ S a.block) : Reads w' w'.heap.size s A n xs :=
  ⟨h.1, fun hn => by
    obtain ⟨ad, e, hb, hc⟩ := h.2 hn
    exact ⟨ad, e, Nat.lt_of_lt_of_le hb hk.size, fun j u hu => by
      have e1 : (ad.add j).block = ad.block := by first | rfl | (unfold Addr.add; split <;> rfl)
      exact (hk.cell (p := ad.add j) (by rw [e1]; exact hb) (by rw [e1]; exact hf ad e)).trans (hc j u hu)⟩⟩
section
variable {w w' : World} {g c : Nat} {A : Option Addr} {m : Nat → Nat} {ts : List Tk} {i : Nat} {dp er : Int}
theorem ParS.kept {S : Nat → Prop} (h : ParS w g A m ts) (hk : Kept S w w') (hs : ∀ k, k < w.heap.size → S k → k = g) : ParS w' g A m ts :=
  ⟨by
    have hk' : Kept (fun z => z = g) w w' := hk.mono hs
    exact Reads.keptfar h.rd hk' h.far, h.far, fun k hk' => (h.dict k hk').kept hk (fun e => h.mfar k hk' (hs _ (h.dict k hk').lt e)), h.mfar, h.lim, h.ends⟩
theorem Par.below (h : Par w g A c m ts i dp er) (hb : Below w.heap.size w w') : Par w' g A c m ts i dp er :=
  ⟨h.st.kept (Kept.of_below (S := fun _ => False) hb) (fun _ _ h => h.elim), h.blk.below hb h.blk.lt, h.at_⟩
theorem Par.drewN (h : Par w g A c m ts i dp er) (q : Nat) : Par (w.drewN q) g A c m ts i dp er := h.below (below_drewN (Below.refl _ _) q)
theorem ParS.tok (h : ParS w g A m ts) {t : Tk} (ht : ts[i]? = some t) : ∃ b o, A = some ⟨b, o, none⟩ ∧ b < w.heap.size ∧ b ≠ g ∧ w.cell? ⟨b, o + i * 5, none⟩ = some (.int .i64 t.kind) ∧ w.cell? ⟨b, o + i * 5 + 1, none⟩ = some (.string (str t.text)) ∧
    w.cell? ⟨b, o + i * 5 + 2, none⟩ = some (.int .i64 t.n) ∧ w.cell? ⟨b, o + i * 5 + 3, none⟩ = some (.int .i64 t.line) ∧ w.cell? ⟨b, o + i * 5 + 4, none⟩ = some (.int .i64 t.col) := by
  obtain ⟨hi, rfl⟩ := List.getElem?_eq_some_iff.1 ht
  obtain ⟨b, o, rfl, hb, hc⟩ := h.rd.chunk (by omega) hi (tksCells_cut ts i hi)
  exact ⟨b, o, rfl, hb, fun e => h.far _ rfl e, hc 0 _ rfl, hc 1 _ rfl, hc 2 _ rfl, hc 3 _ rfl, hc 4 _ rfl⟩
theorem drop_tok {t : Tk} (ht : ts[i]? = some t) : ts.drop i = t :: ts.drop (i + 1) := by
  obtain ⟨hi, rfl⟩ := List.getElem?_eq_some_iff.1 ht
  exact List.drop_eq_getElem_cons hi
end
theorem drewN_add (w : World) (n q : Nat) : (w.drewN n).drewN q = w.drewN (n + q) := by simp [World.drewN, Nat.add_assoc]
/-- It answers, and does nothing else. -/
def Still (w : World) (v : Value) (e : Ending) (w' : World) : Prop := e = .returned v ∧ ∃ q, w' = w.drewN q
theorem Still.in_ {P : Program} {f : FuncId} {args : Array Value} {w : World} {n : Nat} {v : Value} (h : Calls P f args (w.drewN n) (Still (w.drewN n) v)) : Calls P f args (w.drewN n) fun e w'' => e = .returned v ∧ ∃ q, w'' = w.drewN q :=
  h.mono fun _ _ ⟨he, q, hq⟩ => ⟨he, n + q, by rw [hq, drewN_add]⟩

def nextB (t : Tk) (er k : Int) : Bool := (er == 0) && (t.kind == k)
set_option maxHeartbeats 1000000 in
set_option maxRecDepth 100000 in
theorem next_any (g c : Nat) (A : Option Addr) (m : Nat → Nat) (ts : List Tk) (i : Nat) (dp er k : Int) (w : World) (h : Par w g A c m ts i dp er) (t : Tk) (ht : ts[i]? = some t) :
    Calls Tryd.prog 46 #[.pointer (some ⟨g, 0, none⟩), .int .i64 k] w (Still w (.bool (nextB t er k))) := by
  obtain ⟨b, o, rfl, hb, hbg, q0, q1, q2, q3, q4⟩ := h.st.tok ht
  have hi := h.at_
  obtain ⟨n, hn⟩ : ∃ n, ts.length = n := ⟨_, rfl⟩
  have B := h.blk
  rw [hn] at B hi
  have c0 : w.cell? ⟨g, 0, none⟩ = some (.slice (some ⟨b, o, none⟩) n c) := B.cell 0
  have c1 : w.cell? ⟨g, 1, none⟩ = some (.int .i64 i) := B.cell 1
  have c8 : w.cell? ⟨g, 8, none⟩ = some (.int .i64 er) := B.cell 8
  have g1 : (0 : Int) ≤ (i : Int) := by omega
  have g2 : (i : Int) < (n : Int) := by omega
  clear q1 q2 q3 q4 B h hn ht
  by_cases he : er = 0
  · subst he
    go_enter Tryd.func46, Tryd.ntmps46
    go_upto_region 1 with fail
    go_quiet (fail)
    go_wp2_with fail
    go_ret
    exact ⟨by simp [nextB], _, rfl⟩
  · have he' : (er == 0) = false := by simp [he]
    go_enter Tryd.func46, Tryd.ntmps46
    go_upto_region 1 with fail
    go_quiet (fail)
    go_wp2_with fail
    go_ret
    exact ⟨by simp [nextB, he'], _, rfl⟩

def hasB (t : Tk) (er : Int) (x : List UInt8) : Bool := (er == 0) && ((t.kind == 3) || (t.kind == 4)) && decide (t.text = x)
theorem hasB_T {t : Tk} {r : List Tk} {x : List UInt8} : hasB t 0 x = hasT x (t :: r) := by
  simp only [hasB, hasT, beq_self_eq_true, Bool.true_and]
  congr 1
theorem str_eqB (a b : List UInt8) : ((str a).toList == (str b).toList) = decide (a = b) := by
  rw [ByteArray.toList_eq, ByteArray.toList_eq, str_list, str_list]
  by_cases h : a = b <;> simp [h]
set_option maxHeartbeats 1000000 in
set_option maxRecDepth 100000 in
theorem has_any (g c : Nat) (A : Option Addr) (m : Nat → Nat) (ts : List Tk) (i : Nat) (dp er : Int) (x : List UInt8) (w : World) (h : Par w g A c m ts i dp er) (t : Tk) (ht : ts[i]? = some t) :
    Calls Tryd.prog 76 #[.pointer (some ⟨g, 0, none⟩), .string (str x)] w (Still w (.bool (hasB t er x))) := by
  have N3 := Lib.hid (fun q => Still.in_ (next_any g c A m ts i dp er 3 (w.drewN q) (h.drewN q) t ht))
  have N4 := Lib.hid (fun q => Still.in_ (next_any g c A m ts i dp er 4 (w.drewN q) (h.drewN q) t ht))
  obtain ⟨b, o, rfl, hb, hbg, q0, q1, q2, q3, q4⟩ := h.st.tok ht
  have hi := h.at_
  obtain ⟨n, hn⟩ : ∃ n, ts.length = n := ⟨_, rfl⟩
  have B := h.blk
  rw [hn] at B hi
  have c0 : w.cell? ⟨g, 0, none⟩ = some (.slice (some ⟨b, o, none⟩) n c) := B.cell 0
  have c1 : w.cell? ⟨g, 1, none⟩ = some (.int .i64 i) := B.cell 1
  have g1 : (0 : Int) ≤ (i : Int) := by omega
  have g2 : (i : Int) < (n : Int) := by omega
  have HB : Hid (hasB t er x = ((nextB t er 3 || nextB t er 4) && decide (t.text = x))) := by
    simp only [hasB, nextB, Hid]
    cases (er == 0) <;> simp
  have g3 : ((str t.text).toList == (str x).toList) = decide (t.text = x) := str_eqB _ _
  generalize decide (t.text = x) = bx at *
  generalize nextB t er 3 = b3 at *
  generalize nextB t er 4 = b4 at *
  generalize hasB t er x = res at *
  clear q0 q2 q3 q4 B h hn ht
  cases b3 <;> cases b4 <;>
  · go_enter Tryd.func76, Tryd.ntmps76
    go_upto_region 1 with fail
    go_quiet ((first
      | (go_at_call 46; with_reducible exact N3.out _)
      | (go_at_call 46; with_reducible exact N4.out _)))
    go_wp2_with fail
    go_ret
    exact ⟨by rw [HB.out]; simp, _, rfl⟩
end Go.Proofs.YtdmlnoeneoomfaaDoor
