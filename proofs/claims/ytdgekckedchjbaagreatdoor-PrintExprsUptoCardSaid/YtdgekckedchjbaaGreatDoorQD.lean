
/-
  The parser in memory; which token comes next. The parser: opens, wrong, skip, must, take. Trees in memory; what the parser's plain and join give. Trees of any shape in memory. No program is named here. How trees are written, in plain Lean: expressions of any shape, statements, programs. No program is named here.
-/
import Derived.Test.YtdgekckedchjbaaGreatDoorQB
import Derived.Test.YtdgekckedchjbaaGreatDoorQC
import Derived.MapKept
import Derived.Laws.MakeOwn
import Derived.BigQuiet
import Derived.Deep.QuietTactic
import Derived.Lib.ItoaNum
import Derived.Lib.Repeat
import Derived.Lib.Join
namespace Go.Proofs.YtdgekckedchjbaaGreatDoor
open Go.RowKit

/-- Block r is a map of just these texts to these numbers. -/
def DictIs (w : World) (r : Nat) (l : List (List UInt8 × Int)) : Prop :=
  (l.map Prod.fst).Nodup ∧ ∃ (es : Array MapEntry) (c : Nat), w.heap[r]? = some (.map es c) ∧ es.toList.map (fun e => (e.key, e.val)) = l.map fun s => (Value.string (str s.1), Value.int .i64 s.2)
section
variable {w w' : World} {r : Nat} {l : List (List UInt8 × Int)}
theorem str_inj {a b : List UInt8} (h : str a = str b) : a = b := by
  have := congrArg (fun s : ByteArray => s.data.toList) h
  simpa [str] using this
theorem DictIs.lt (h : DictIs w r l) : r < w.heap.size := by
  obtain ⟨_, es, c, h, _⟩ := h
  exact (Array.getElem?_eq_some_iff.1 h).1
theorem DictIs.kept {S : Nat → Prop} (h : DictIs w r l) (hk : Kept S w w') (hs : ¬ S r) : DictIs w' r l := by
  have hl := h.lt
  obtain ⟨hn, es, c, h, h2⟩ := h
  exact ⟨hn, es, c, (hk.block r hl hs).trans h, h2⟩
theorem DictIs.new (w : World) : DictIs (w.alloc (.map #[] 0)) w.heap.size [] := ⟨List.nodup_nil, #[], 0, heap_alloc_new w _, rfl⟩
theorem DictIs.keys {es : Array MapEntry} (h : es.toList.map (fun e => (e.key, e.val)) = l.map fun s => (Value.string (str s.1), Value.int .i64 s.2)) : ∀ x ∈ es.toList, Go.MapKept.IsKey .string x.key ∧ ∃ s ∈ l, x.key = .string (str s.1) ∧ x.val = .int .i64 s.2 := by
  intro x hx
  have : (x.key, x.val) ∈ l.map fun s => (Value.string (str s.1), Value.int .i64 s.2) := by rw [← h]; exact List.mem_map.2 ⟨x, hx, rfl⟩
  obtain ⟨s, hs, he⟩ := List.mem_map.1 this
  injection he with h1 h2
  exact ⟨by rw [← h1]; trivial, s, hs, h1.symm, h2.symm⟩
theorem lookup_mem {l : List (List UInt8 × Int)} (hn : (l.map Prod.fst).Nodup) {s : List UInt8 × Int} (hs : s ∈ l) : l.lookup s.1 = some s.2 := by
  induction l with
  | nil => simp at hs
  | cons a l ih =>
    rw [List.map_cons, List.nodup_cons] at hn
    rcases List.mem_cons.1 hs with rfl | h
    · simp [List.lookup]
    · have hne : s.1 ≠ a.1 := fun e => hn.1 (List.mem_map.2 ⟨s, h, e⟩)
      rw [List.lookup, show (s.1 == a.1) = false from by simp [hne]]
      exact ih hn.2 h
theorem lookup_none {l : List (List UInt8 × Int)} {k : List UInt8} (h : ∀ s ∈ l, s.1 ≠ k) : l.lookup k = none := by
  induction l with
  | nil => rfl
  | cons a l ih =>
    have h1 := h a (List.mem_cons_self ..)
    rw [List.lookup, show (k == a.1) = false from by simp; exact fun e => h1 e.symm]
    exact ih fun s hs => h s (List.mem_cons_of_mem _ hs)
theorem DictIs.find (hn : (l.map Prod.fst).Nodup) {es : Array MapEntry} (h : es.toList.map (fun e => (e.key, e.val)) = l.map fun s => (Value.string (str s.1), Value.int .i64 s.2)) (k : List UInt8) :
    (l.lookup k = none ∧ Instr.findNow .string (.string (str k)) es.toList 0 = some none) ∨ (∃ v j, l.lookup k = some v ∧ Instr.findNow .string (.string (str k)) es.toList 0 = some (some (j, .int .i64 v))) := by
  rcases Go.MapKept.findNow_spec (d := .string) (k := .string (str k)) trivial es.toList 0 (fun x hx => (DictIs.keys h x hx).1) with ⟨h1, h2⟩ | ⟨j, e, h1, h2, h3⟩
  · refine .inl ⟨lookup_none fun s hs hk => ?_, h1⟩
    have : (Value.string (str s.1), Value.int .i64 s.2) ∈ es.toList.map (fun e => (e.key, e.val)) := by rw [h]; exact List.mem_map.2 ⟨s, hs, rfl⟩
    obtain ⟨x, hx, he⟩ := List.mem_map.1 this
    injection he with h4 h5
    exact h2 x hx (by rw [h4, hk])
  · have he : e ∈ es.toList := List.mem_of_getElem? h2
    obtain ⟨_, s, hs, hk, hv⟩ := DictIs.keys h e he
    rw [h3] at hk
    injection hk with hk
    have := str_inj hk
    subst this
    exact .inr ⟨s.2, 0 + j, lookup_mem hn hs, by rw [h1, hv]⟩
variable {P : Program}
theorem DictIs.lookup (h : DictIs w r l) {t k e : TypeId} (ht : P.underlying t = some (.map k e)) (hk : P.underlying k = some .string) (hz : (zeroValue e).run P w = .ok (.int .i64 0) w) (s : List UInt8) :
    (Instr.lookup t (.map (some r)) (.string (str s)) true).run P w = .ok (.tuple #[.int .i64 ((l.lookup s).getD 0), .bool (l.lookup s).isSome]) w := by
  obtain ⟨hn, es, c, hm, hl⟩ := h
  unfold Instr.lookup
  rcases DictIs.find hn hl s with ⟨h1, h2⟩ | ⟨v, j, h1, h2⟩
  · rw [h1]
    simp [run_underlying ht, Go.MapKept.run_getObj_map hm, Go.MapKept.run_checkKey (P := P) (w := w) hk (k := .string (str s)) trivial, Go.MapKept.run_findKey hk h2, Result.andThen, hz]
  · rw [h1]
    simp [run_underlying ht, Go.MapKept.run_getObj_map hm, Go.MapKept.run_checkKey (P := P) (w := w) hk (k := .string (str s)) trivial, Go.MapKept.run_findKey hk h2, Result.andThen]
end

/-- What a parser reads, and its maps: none of it lies in its own block g. -/
structure ParS (w : World) (g : Nat) (A : Option Addr) (m : Nat → Nat) (ts : List Tk) : Prop where
  rd : Reads w w.heap.size 5 A ts.length (tksCells ts)
  far : ∀ a, A = some a → a.block ≠ g
  dict : ∀ k, k < 5 → DictIs w (m k) (lvlT k)
  mfar : ∀ k, k < 5 → m k ≠ g
  lim : ts.length ≤ 70000
  ends : ∃ us L C, ts = us ++ [⟨0, [], 0, L, C⟩]
def parCells (A : Option Addr) (n c : Nat) (m : Nat → Nat) (i : Nat) (dp er : Int) : Array Value :=
  #[.slice A n c, .int .i64 i, .int .i64 dp, .map (some (m 0)), .map (some (m 1)), .map (some (m 2)), .map (some (m 3)), .map (some (m 4)), .int .i64 er]
/-- A parser at token i. -/
structure Par (w : World) (g : Nat) (A : Option Addr) (c : Nat) (m : Nat → Nat) (ts : List Tk) (i : Nat) (dp er : Int) : Prop where
  st : ParS w g A m ts
  blk : Blk w g 119 (parCells A ts.length c m i dp er)
  at_ : i < ts.length
theorem Reads.keptfar {S : Nat → Prop} {w w' : World} {s n : Nat} {A : Option Addr} {xs : List Value} (h : Reads w w.heap.size s A n xs) (hk : Kept S w w') (hf : ∀ a, A = some a → ¬ S a.block) : Reads w' w'.heap.size s A n xs :=
  ⟨h.1, fun hn => by
    obtain ⟨ad, e, hb, hc⟩ := h.2 hn
    exact ⟨ad, e, Nat.lt_of_lt_of_le hb hk.size, fun j u hu => by
      have e1 : (ad.add j).block = ad.block := by first | rfl | (unfold Addr.add; split <;> rfl)
      exact (hk.cell (p := ad.add j) (by rw [e1]; exact hb) (by rw [e1]; exact hf ad e)).trans (hc j u hu)⟩⟩
section
variable {w w' : World} {g c : Nat} {A : Option Addr} {m : Nat → Nat} {ts : List Tk} {i : Nat} {dp er : Int}
theorem ParS.kept {S : Nat → Prop} (h : ParS w g A m ts) (hk : Kept S w w') (hs : ∀ k, k < w.heap.size → S k → k = g) : ParS w' g A m ts :=
  ⟨by
    have hk' : Kept (fun z => z = g) w w' := hk.mono hs
    exact Reads.keptfar h.rd hk' h.far, h.far, fun k hk' => (h.dict k hk').kept hk (fun e => h.mfar k hk' (hs _ (h.dict k hk').lt e)), h.mfar, h.lim, h.ends⟩
theorem Par.below (h : Par w g A c m ts i dp er) (hb : Below w.heap.size w w') : Par w' g A c m ts i dp er :=
  ⟨h.st.kept (Kept.of_below (S := fun _ => False) hb) (fun _ _ h => h.elim), h.blk.below hb h.blk.lt, h.at_⟩
theorem Par.drewN (h : Par w g A c m ts i dp er) (q : Nat) : Par (w.drewN q) g A c m ts i dp er := h.below (below_drewN (Below.refl _ _) q)
theorem ParS.tok (h : ParS w g A m ts) {t : Tk} (ht : ts[i]? = some t) : ∃ b o, A = some ⟨b, o, none⟩ ∧ b < w.heap.size ∧ b ≠ g ∧ w.cell? ⟨b, o + i * 5, none⟩ = some (.int .i64 t.kind) ∧ w.cell? ⟨b, o + i * 5 + 1, none⟩ = some (.string (str t.text)) ∧
    w.cell? ⟨b, o + i * 5 + 2, none⟩ = some (.int .i64 t.n) ∧ w.cell? ⟨b, o + i * 5 + 3, none⟩ = some (.int .i64 t.line) ∧ w.cell? ⟨b, o + i * 5 + 4, none⟩ = some (.int .i64 t.col) := by
  obtain ⟨hi, rfl⟩ := List.getElem?_eq_some_iff.1 ht
  obtain ⟨b, o, rfl, hb, hc⟩ := h.rd.chunk (by omega) hi (tksCells_cut ts i hi)
  exact ⟨b, o, rfl, hb, fun e => h.far _ rfl e, hc 0 _ rfl, hc 1 _ rfl, hc 2 _ rfl, hc 3 _ rfl, hc 4 _ rfl⟩
theorem drop_tok {t : Tk} (ht : ts[i]? = some t) : ts.drop i = t :: ts.drop (i + 1) := by
  obtain ⟨hi, rfl⟩ := List.getElem?_eq_some_iff.1 ht
  exact List.drop_eq_getElem_cons hi
end
theorem drewN_add (w : World) (n q : Nat) : (w.drewN n).drewN q = w.drewN (n + q) := by simp [World.drewN, Nat.add_assoc]
/-- It answers, and does nothing else. -/
def Still (w : World) (v : Value) (e : Ending) (w' : World) : Prop := e = .returned v ∧ ∃ q, w' = w.drewN q
theorem Still.in_ {P : Program} {f : FuncId} {args : Array Value} {w : World} {n : Nat} {v : Value} (h : Calls P f args (w.drewN n) (Still (w.drewN n) v)) : Calls P f args (w.drewN n) fun e w'' => e = .returned v ∧ ∃ q, w'' = w.drewN q :=
  h.mono fun _ _ ⟨he, q, hq⟩ => ⟨he, n + q, by rw [hq, drewN_add]⟩

def nextB (t : Tk) (er k : Int) : Bool := (er == 0) && (t.kind == k)
set_option maxHeartbeats 1000000 in
set_option maxRecDepth 100000 in
theorem next_any (g c : Nat) (A : Option Addr) (m : Nat → Nat) (ts : List Tk) (i : Nat) (dp er k : Int) (w : World) (h : Par w g A c m ts i dp er) (t : Tk) (ht : ts[i]? = some t) :
    Calls Tryz.prog 53 #[.pointer (some ⟨g, 0, none⟩), .int .i64 k] w (Still w (.bool (nextB t er k))) := by
  obtain ⟨b, o, rfl, hb, hbg, q0, q1, q2, q3, q4⟩ := h.st.tok ht
  have hi := h.at_
  obtain ⟨n, hn⟩ : ∃ n, ts.length = n := ⟨_, rfl⟩
  have B := h.blk
  rw [hn] at B hi
  have c0 : w.cell? ⟨g, 0, none⟩ = some (.slice (some ⟨b, o, none⟩) n c) := B.cell 0
  have c1 : w.cell? ⟨g, 1, none⟩ = some (.int .i64 i) := B.cell 1
  have c8 : w.cell? ⟨g, 8, none⟩ = some (.int .i64 er) := B.cell 8
  have g1 : (0 : Int) ≤ (i : Int) := by omega
  have g2 : (i : Int) < (n : Int) := by omega
  clear q1 q2 q3 q4 B h hn ht
  by_cases he : er = 0
  · subst he
    go_enter Tryz.func53, Tryz.ntmps53
    go_upto_region 1 with fail
    go_quiet (fail)
    go_wp2_with fail
    go_ret
    exact ⟨by simp [nextB], _, rfl⟩
  · have he' : (er == 0) = false := by simp [he]
    go_enter Tryz.func53, Tryz.ntmps53
    go_upto_region 1 with fail
    go_quiet (fail)
    go_wp2_with fail
    go_ret
    exact ⟨by simp [nextB, he'], _, rfl⟩

def hasB (t : Tk) (er : Int) (x : List UInt8) : Bool := (er == 0) && ((t.kind == 3) || (t.kind == 4)) && decide (t.text = x)
theorem hasB_T {t : Tk} {r : List Tk} {x : List UInt8} : hasB t 0 x = hasT x (t :: r) := by
  simp only [hasB, hasT, beq_self_eq_true, Bool.true_and]
  congr 1
theorem str_eqB (a b : List UInt8) : ((str a).toList == (str b).toList) = decide (a = b) := by
  rw [ByteArray.toList_eq, ByteArray.toList_eq, str_list, str_list]
  by_cases h : a = b <;> simp [h]
set_option maxHeartbeats 1000000 in
set_option maxRecDepth 100000 in
theorem has_any (g c : Nat) (A : Option Addr) (m : Nat → Nat) (ts : List Tk) (i : Nat) (dp er : Int) (x : List UInt8) (w : World) (h : Par w g A c m ts i dp er) (t : Tk) (ht : ts[i]? = some t) :
    Calls Tryz.prog 88 #[.pointer (some ⟨g, 0, none⟩), .string (str x)] w (Still w (.bool (hasB t er x))) := by
  have N3 := Lib.hid (fun q => Still.in_ (next_any g c A m ts i dp er 3 (w.drewN q) (h.drewN q) t ht))
  have N4 := Lib.hid (fun q => Still.in_ (next_any g c A m ts i dp er 4 (w.drewN q) (h.drewN q) t ht))
  obtain ⟨b, o, rfl, hb, hbg, q0, q1, q2, q3, q4⟩ := h.st.tok ht
  have hi := h.at_
  obtain ⟨n, hn⟩ : ∃ n, ts.length = n := ⟨_, rfl⟩
  have B := h.blk
  rw [hn] at B hi
  have c0 : w.cell? ⟨g, 0, none⟩ = some (.slice (some ⟨b, o, none⟩) n c) := B.cell 0
  have c1 : w.cell? ⟨g, 1, none⟩ = some (.int .i64 i) := B.cell 1
  have g1 : (0 : Int) ≤ (i : Int) := by omega
  have g2 : (i : Int) < (n : Int) := by omega
  have HB : Hid (hasB t er x = ((nextB t er 3 || nextB t er 4) && decide (t.text = x))) := by
    simp only [hasB, nextB, Hid]
    cases (er == 0) <;> simp
  have g3 : ((str t.text).toList == (str x).toList) = decide (t.text = x) := str_eqB _ _
  generalize decide (t.text = x) = bx at *
  generalize nextB t er 3 = b3 at *
  generalize nextB t er 4 = b4 at *
  generalize hasB t er x = res at *
  clear q0 q2 q3 q4 B h hn ht
  cases b3 <;> cases b4 <;>
  · go_enter Tryz.func88, Tryz.ntmps88
    go_upto_region 1 with fail
    go_quiet ((first
      | (go_at_call 53; with_reducible exact N3.out _)
      | (go_at_call 53; with_reducible exact N4.out _)))
    go_wp2_with fail
    go_ret
    exact ⟨by rw [HB.out]; simp, _, rfl⟩
end Go.Proofs.YtdgekckedchjbaaGreatDoor
namespace Go.Proofs.YtdgekckedchjbaaGreatDoor
open Go.RowKit

section
variable {w w' : World} {g c : Nat} {A : Option Addr} {m : Nat → Nat} {ts : List Tk} {i : Nat} {dp er : Int}
theorem ParS.more (h : ParS w g A m ts) {t : Tk} (ht : ts[i]? = some t) (hk : t.kind ≠ 0 ∨ t.text ≠ []) : i + 1 < ts.length := by
  obtain ⟨us, L, C, e⟩ := h.ends
  obtain ⟨hi, rfl⟩ := List.getElem?_eq_some_iff.1 ht
  rcases Nat.lt_or_ge (i + 1) ts.length with h1 | h1
  · exact h1
  · exfalso
    subst e
    rw [List.length_append, List.length_singleton] at hi h1
    have h2 : i = us.length := by omega
    subst h2
    simp at hk
theorem ParS.at_some (h : i < ts.length) : ∃ t, ts[i]? = some t := ⟨_, List.getElem?_eq_getElem h⟩
theorem Par.put (h : Par w g A c m ts i dp er) {i' : Nat} {er' : Int} (hi : i' < ts.length) (hb : Blk w' g 119 (parCells A ts.length c m i' dp er')) (hk : Kept (fun z => z = g) w w') : Par w' g A c m ts i' dp er' :=
  ⟨h.st.kept hk (fun _ _ e => e), hb, hi⟩
end

def openB (t : Tk) (er : Int) : Bool := nextB t er 2 || nextB t er 1 || hasB t er [40] || hasB t er [45] || hasB t er [110, 111, 116]
theorem openB_T {t : Tk} {r : List Tk} : openB t 0 = openT (t :: r) := by
  unfold openB openT
  rw [hasB_T (r := r), hasB_T (r := r), hasB_T (r := r)]
  simp only [nextB, beq_self_eq_true, Bool.true_and]
  rfl
set_option maxHeartbeats 1000000 in
set_option maxRecDepth 100000 in
theorem opens_any (g c : Nat) (A : Option Addr) (m : Nat → Nat) (ts : List Tk) (i : Nat) (dp er : Int) (w : World) (h : Par w g A c m ts i dp er) (t : Tk) (ht : ts[i]? = some t) :
    Calls Tryz.prog 140 #[.pointer (some ⟨g, 0, none⟩)] w (Still w (.bool (openB t er))) := by
  have N2 := Lib.hid (next_any g c A m ts i dp er 2 w h t ht)
  have N1 := Lib.hid (fun q => Still.in_ (next_any g c A m ts i dp er 1 (w.drewN q) (h.drewN q) t ht))
  have H1 : Hid (∀ q, Calls Tryz.prog 88 #[.pointer (some ⟨g, 0, none⟩), .string ⟨#[40]⟩] (w.drewN q) fun e w'' => e = .returned (.bool (hasB t er [40])) ∧ ∃ q, w'' = w.drewN q) := fun q => Still.in_ (has_any g c A m ts i dp er [40] (w.drewN q) (h.drewN q) t ht)
  have H2 : Hid (∀ q, Calls Tryz.prog 88 #[.pointer (some ⟨g, 0, none⟩), .string ⟨#[45]⟩] (w.drewN q) fun e w'' => e = .returned (.bool (hasB t er [45])) ∧ ∃ q, w'' = w.drewN q) := fun q => Still.in_ (has_any g c A m ts i dp er [45] (w.drewN q) (h.drewN q) t ht)
  have H3 : Hid (∀ q, Calls Tryz.prog 88 #[.pointer (some ⟨g, 0, none⟩), .string ⟨#[110, 111, 116]⟩] (w.drewN q) fun e w'' => e = .returned (.bool (hasB t er [110, 111, 116])) ∧ ∃ q, w'' = w.drewN q) := fun q => Still.in_ (has_any g c A m ts i dp er [110, 111, 116] (w.drewN q) (h.drewN q) t ht)
  have HB : Hid (openB t er = (nextB t er 2 || nextB t er 1 || hasB t er [40] || hasB t er [45] || hasB t er [110, 111, 116])) := rfl
  generalize openB t er = res at *
  generalize nextB t er 2 = b2 at *
  generalize nextB t er 1 = b1 at *
  generalize hasB t er [40] = c1 at *
  generalize hasB t er [45] = c2 at *
  generalize hasB t er [110, 111, 116] = c3 at *
  clear h ht
  go_enter Tryz.func140, Tryz.ntmps140
  go_wp2_with fail
  refine N2.out.mono ?_
  rintro e w1 ⟨rfl, q1, rfl⟩
  cases b2
  · go_wp2_with fail
    refine (N1.out q1).mono ?_
    rintro e w1 ⟨rfl, q2, rfl⟩
    cases b1
    · go_wp2_with fail
      refine (H1.out q2).mono ?_
      rintro e w1 ⟨rfl, q3, rfl⟩
      cases c1
      · go_wp2_with fail
        refine (H2.out q3).mono ?_
        rintro e w1 ⟨rfl, q4, rfl⟩
        cases c2
        · go_wp2_with fail
          refine (H3.out q4).mono ?_
          rintro e w1 ⟨rfl, q5, rfl⟩
          go_wp2_with fail
          go_ret
          exact ⟨by rw [HB.out]; rfl, _, rfl⟩
        · go_wp2_with fail
          go_ret
          exact ⟨by rw [HB.out]; rfl, _, rfl⟩
      · go_wp2_with fail
        go_ret
        exact ⟨by rw [HB.out]; rfl, _, rfl⟩
    · go_wp2_with fail
      go_ret
      exact ⟨by rw [HB.out]; rfl, _, rfl⟩
  · go_wp2_with fail
    go_ret
    exact ⟨by rw [HB.out]; rfl, _, rfl⟩

/-- A step of the parser that gives v: it stands at token i with error er. -/
def ParTo (w : World) (g c : Nat) (A : Option Addr) (m : Nat → Nat) (ts : List Tk) (dp : Int) (v : Value) (i : Nat) (er : Int) (e : Ending) (w' : World) : Prop :=
  e = .returned v ∧ Par w' g A c m ts i dp er ∧ Kept (fun z => z = g) w w'
def wrongE (t : Tk) (er : Int) : Int := if er = 0 then (if t.kind = 0 then 4 else 3) else er
set_option maxHeartbeats 1000000 in
set_option maxRecDepth 100000 in
theorem wrong_any (g c : Nat) (A : Option Addr) (m : Nat → Nat) (ts : List Tk) (i : Nat) (dp er : Int) (w : World) (h : Par w g A c m ts i dp er) (t : Tk) (ht : ts[i]? = some t) :
    Calls Tryz.prog 54 #[.pointer (some ⟨g, 0, none⟩)] w (ParTo w g c A m ts dp (.tuple #[]) i (wrongE t er)) := by
  obtain ⟨b, o, rfl, hb, hbg, q0, q1, q2, q3, q4⟩ := h.st.tok ht
  have hi := h.at_
  have PP := Lib.hid (fun (er' : Int) (w' : World) hb hk => h.put (w' := w') (i' := i) (er' := er') hi hb hk)
  have B := h.blk
  unfold parCells at B PP
  obtain ⟨n, hn⟩ : ∃ n, ts.length = n := ⟨_, rfl⟩
  rw [hn] at B hi PP
  have HW : Hid (wrongE t er = if er = 0 then (if t.kind = 0 then 4 else 3) else er) := rfl
  have HH := Lib.hid h
  have BB := Lib.hid B
  generalize wrongE t er = res at *
  have c0 : w.cell? ⟨g, 0, none⟩ = some (.slice (some ⟨b, o, none⟩) n c) := B.cell 0
  have c1 : w.cell? ⟨g, 1, none⟩ = some (.int .i64 i) := B.cell 1
  have c8 : w.cell? ⟨g, 8, none⟩ = some (.int .i64 er) := B.cell 8
  have f8 := B.frozen 8
  have g1 : (0 : Int) ≤ (i : Int) := by omega
  have g2 : (i : Int) < (n : Int) := by omega
  clear q1 q2 q3 q4 B h hn ht
  by_cases he : er = 0
  · subst he
    by_cases hk : t.kind = 0
    · have HR : Hid (res = 4) := by rw [Hid, HW.out, if_pos rfl, if_pos hk]
      rw [hk] at q0
      clear HW hk
      go_enter Tryz.func54, Tryz.ntmps54
      go_wp2_with fail
      go_quiet (fail)
      go_wp2_with fail
      go_end0
      exact ⟨rfl, by rw [HR.out]; exact PP.out _ _ ((BB.out.drewN nq).set_ 8 _) (((Kept.refl (fun z => z = g) w).drewN nq).setCell (p := ⟨g, 8, none⟩) (fun _ => rfl) _), ((Kept.refl (fun z => z = g) w).drewN nq).setCell (p := ⟨g, 8, none⟩) (fun _ => rfl) _⟩
    · have HR : Hid (res = 3) := by rw [Hid, HW.out, if_pos rfl, if_neg hk]
      have hk' : (t.kind == 0) = false := by simp [hk]
      clear HW
      go_enter Tryz.func54, Tryz.ntmps54
      go_wp2_with fail
      go_quiet (fail)
      go_wp2_with fail
      go_end0
      exact ⟨rfl, by rw [HR.out]; exact PP.out _ _ ((BB.out.drewN nq).set_ 8 _) (((Kept.refl (fun z => z = g) w).drewN nq).setCell (p := ⟨g, 8, none⟩) (fun _ => rfl) _), ((Kept.refl (fun z => z = g) w).drewN nq).setCell (p := ⟨g, 8, none⟩) (fun _ => rfl) _⟩
  · have HR : Hid (res = er) := by rw [Hid, HW.out, if_neg he]
    have he' : (er == 0) = false := by simp [he]
    clear HW
    go_enter Tryz.func54, Tryz.ntmps54
    go_wp2_with fail
    go_end0
    exact ⟨rfl, by rw [HR.out]; exact HH.out, Kept.refl _ _⟩

set_option maxHeartbeats 1000000 in
set_option maxRecDepth 100000 in
theorem skip_any (g c : Nat) (A : Option Addr) (m : Nat → Nat) (ts : List Tk) (i : Nat) (dp er : Int) (x : List UInt8) (w : World) (h : Par w g A c m ts i dp er) (t : Tk) (ht : ts[i]? = some t) :
    Calls Tryz.prog 86 #[.pointer (some ⟨g, 0, none⟩), .string (str x)] w (ParTo w g c A m ts dp (.bool (hasB t er x)) (if hasB t er x then i + 1 else i) er) := by
  have HX := Lib.hid (has_any g c A m ts i dp er x w h t ht)
  have HM : Hid (hasB t er x = true → i + 1 < ts.length) := fun hb => h.st.more ht (.inl fun h0 => by
    unfold hasB at hb
    rw [h0] at hb
    simp at hb)
  have B := h.blk
  have lim := h.st.lim
  have hi := h.at_
  have HH := Lib.hid h
  generalize hasB t er x = b at *
  have BB := Lib.hid B
  unfold parCells at B
  clear h ht
  cases b
  · go_enter Tryz.func86, Tryz.ntmps86
    go_wp2_with fail
    refine HX.out.mono ?_
    rintro e w1 ⟨rfl, q, rfl⟩
    go_wp2_with fail
    go_ret
    exact ⟨rfl, HH.out.drewN q, (Kept.refl _ w).drewN q⟩
  · have hm := HM.out rfl
    go_enter Tryz.func86, Tryz.ntmps86
    go_wp2_with fail
    refine HX.out.mono ?_
    rintro e w1 ⟨rfl, q, rfl⟩
    have c1 : (w.drewN q).cell? ⟨g, 1, none⟩ = some (.int .i64 i) := B.cell 1
    have f1 : (w.drewN q).frozen? ⟨g, 1, none⟩ = false := B.frozen 1
    go_wp2_with fail
    go_ret
    refine ⟨rfl, HH.out.put hm ?_ (((Kept.refl (fun z => z = g) w).drewN q).setCell (p := ⟨g, 1, none⟩) (fun _ => rfl) _), ((Kept.refl (fun z => z = g) w).drewN q).setCell (p := ⟨g, 1, none⟩) (fun _ => rfl) _⟩
    exact (BB.out.drewN q).set_ 1 _

def mustE (t : Tk) (er : Int) (x : List UInt8) : Int := if hasB t er x then er else wrongE t er
set_option maxHeartbeats 1000000 in
set_option maxRecDepth 100000 in
theorem must_any (g c : Nat) (A : Option Addr) (m : Nat → Nat) (ts : List Tk) (i : Nat) (dp er : Int) (x : List UInt8) (w : World) (h : Par w g A c m ts i dp er) (t : Tk) (ht : ts[i]? = some t) :
    Calls Tryz.prog 55 #[.pointer (some ⟨g, 0, none⟩), .string (str x)] w (ParTo w g c A m ts dp (.tuple #[]) (if hasB t er x then i + 1 else i) (mustE t er x)) := by
  have SK := Lib.hid (skip_any g c A m ts i dp er x w h t ht)
  have WR := Lib.hid (fun w' (h' : Par w' g A c m ts i dp er) => wrong_any g c A m ts i dp er w' h' t ht)
  unfold mustE
  generalize hasB t er x = b at *
  clear h ht
  cases b
  · go_enter Tryz.func55, Tryz.ntmps55
    go_wp2_with fail
    refine SK.out.mono ?_
    rintro e w1 ⟨rfl, p1, k1⟩
    go_wp2_with fail
    refine (WR.out w1 p1).mono ?_
    rintro e w2 ⟨rfl, p2, k2⟩
    go_wp2_with fail
    go_end0
    exact ⟨rfl, p2, k1.then_ k2 (fun _ _ e => e)⟩
  · go_enter Tryz.func55, Tryz.ntmps55
    go_wp2_with fail
    refine SK.out.mono ?_
    rintro e w1 ⟨rfl, p1, k1⟩
    go_wp2_with fail
    go_end0
    exact ⟨rfl, p1, k1⟩

theorem Blk.put5 {w : World} {g : Nat} {t : TypeId} {a b c d e : Value} (h : Blk w g t #[a, b, c, d, e]) (x0 x1 x2 x3 x4 : Value) :
    Blk (((((w.setCell ⟨g, 0, none⟩ x0).setCell ⟨g, 1, none⟩ x1).setCell ⟨g, 2, none⟩ x2).setCell ⟨g, 3, none⟩ x3).setCell ⟨g, 4, none⟩ x4) g t #[x0, x1, x2, x3, x4] := ((((h.set_ 0 x0).set_ 1 x1).set_ 2 x2).set_ 3 x3).set_ 4 x4
theorem Kept.put5 (w : World) (g : Nat) (x0 x1 x2 x3 x4 : Value) : Kept (fun k => k = g) w (((((w.setCell ⟨g, 0, none⟩ x0).setCell ⟨g, 1, none⟩ x1).setCell ⟨g, 2, none⟩ x2).setCell ⟨g, 3, none⟩ x3).setCell ⟨g, 4, none⟩ x4) :=
  (((((Kept.refl (fun k => k = g) w).setCell (p := ⟨g, 0, none⟩) (fun _ => rfl) _).setCell (p := ⟨g, 1, none⟩) (fun _ => rfl) _).setCell (p := ⟨g, 2, none⟩) (fun _ => rfl) _).setCell (p := ⟨g, 3, none⟩) (fun _ => rfl) _).setCell (p := ⟨g, 4, none⟩) (fun _ => rfl) _
def tkVal (t : Tk) : Value := .agg #[.int .i64 t.kind, .string (str t.text), .int .i64 t.n, .int .i64 t.line, .int .i64 t.col]
def noTk : Tk := ⟨0, [], 0, 0, 0⟩
set_option maxHeartbeats 1000000 in
set_option maxRecDepth 100000 in
theorem take_any (g c : Nat) (A : Option Addr) (m : Nat → Nat) (ts : List Tk) (i : Nat) (dp er k : Int) (w : World) (h : Par w g A c m ts i dp er) (t : Tk) (ht : ts[i]? = some t) (hk0 : k ≠ 0) :
    Calls Tryz.prog 87 #[.pointer (some ⟨g, 0, none⟩), .int .i64 k] w (ParTo w g c A m ts dp (tkVal (if nextB t er k then t else noTk)) (if nextB t er k then i + 1 else i) (if nextB t er k then er else wrongE t er)) := by
  have f0 : Below w.heap.size w (w.alloc (.cells #[.int .i64 0, .string ⟨#[]⟩, .int .i64 0, .int .i64 0, .int .i64 0] 122)) := (Below.refl _ w).al _
  have x0 := Blk.new w 122 #[.int .i64 0, .string ⟨#[]⟩, .int .i64 0, .int .i64 0, .int .i64 0]
  have h0 := h.below f0
  have hgl := h.blk.lt
  have HGL := Lib.hid hgl
  have HX := Lib.hid (next_any g c A m ts i dp er k _ h0 t ht)
  have WR := Lib.hid (fun w' (h' : Par w' g A c m ts i dp er) => wrong_any g c A m ts i dp er w' h' t ht)
  have HM : Hid (nextB t er k = true → i + 1 < ts.length) := fun hb => h.st.more ht (.inl fun h0 => by
    unfold nextB at hb
    rw [h0] at hb
    simp at hb
    exact hk0 hb.2.symm)
  have lim := h.st.lim
  have hi := h.at_
  have HH := Lib.hid h0
  have H0 := Lib.hid h
  have F0 := Lib.hid f0
  have X0 := Lib.hid x0
  generalize nextB t er k = b at *
  have z0 := f0.size
  clear h f0 x0
  cases b
  · go_enter Tryz.func87, Tryz.ntmps87
    go_wp2_with fail
    generalize w.alloc (.cells #[.int .i64 0, .string ⟨#[]⟩, .int .i64 0, .int .i64 0, .int .i64 0] 122) = W0 at *
    refine HX.out.mono ?_
    rintro e w1 ⟨rfl, q, rfl⟩
    go_wp2_with fail
    refine (WR.out _ (HH.out.drewN q)).mono ?_
    rintro e w2 ⟨rfl, p2, k2⟩
    have x2 := (X0.out.drewN q).kept k2 (by omega)
    have s0 : w2.cell? ⟨w.heap.size, 0, none⟩ = some (.int .i64 0) := x2.cell 0
    have s1 : w2.cell? ⟨w.heap.size, 1, none⟩ = some (.string ⟨#[]⟩) := x2.cell 1
    have s2 : w2.cell? ⟨w.heap.size, 2, none⟩ = some (.int .i64 0) := x2.cell 2
    have s3 : w2.cell? ⟨w.heap.size, 3, none⟩ = some (.int .i64 0) := x2.cell 3
    have s4 : w2.cell? ⟨w.heap.size, 4, none⟩ = some (.int .i64 0) := x2.cell 4
    have t0 := x2.frozen 0
    have t1 := x2.frozen 1
    have t2 := x2.frozen 2
    have t3 := x2.frozen 3
    have t4 := x2.frozen 4
    have P2 := Lib.hid p2
    have K2 := Lib.hid k2
    clear p2 k2 HX WR HM HH
    go_wp2_with fail
    have X9 := x2.put5 (.int .i64 0) (.string ⟨#[]⟩) (.int .i64 0) (.int .i64 0) (.int .i64 0)
    have K9 := Kept.put5 w2 w.heap.size (.int .i64 0) (.string ⟨#[]⟩) (.int .i64 0) (.int .i64 0) (.int .i64 0)
    generalize ((((w2.setCell ⟨w.heap.size, 0, none⟩ (.int .i64 0)).setCell ⟨w.heap.size, 1, none⟩ (.string ⟨#[]⟩)).setCell ⟨w.heap.size, 2, none⟩ (.int .i64 0)).setCell ⟨w.heap.size, 3, none⟩ (.int .i64 0)).setCell ⟨w.heap.size, 4, none⟩ (.int .i64 0) = W9 at *
    clear s0 s1 s2 s3 s4
    have s0 : W9.cell? ⟨w.heap.size, 0, none⟩ = some (.int .i64 0) := X9.cell 0
    have s1 : W9.cell? ⟨w.heap.size, 1, none⟩ = some (.string ⟨#[]⟩) := X9.cell 1
    have s2 : W9.cell? ⟨w.heap.size, 2, none⟩ = some (.int .i64 0) := X9.cell 2
    have s3 : W9.cell? ⟨w.heap.size, 3, none⟩ = some (.int .i64 0) := X9.cell 3
    have s4 : W9.cell? ⟨w.heap.size, 4, none⟩ = some (.int .i64 0) := X9.cell 4
    have KK : Kept (fun z => z = g) w W9 := (((Kept.of_below (S := fun z => z = g) F0.out).then_ ((Kept.refl (fun z => z = g) W0).drewN q) (fun _ _ e => e)).then_ K2.out (fun _ _ e => e)).then_ K9 (fun z hz e => by omega)
    refine bodyPost_ret (v := tkVal noTk) (by simp [results, Tryz.results87, go_sem, s0, s1, s2, s3, s4, tkVal, noTk, str]) rfl ⟨rfl, ?_, KK⟩
    exact H0.out.put hi (P2.out.blk.kept K9 (by omega)) KK
  · have hm := HM.out rfl
    obtain ⟨b, o, rfl, hb, hbg, q0, q1, q2, q3, q4⟩ := HH.out.st.tok ht
    go_enter Tryz.func87, Tryz.ntmps87
    go_wp2_with fail
    generalize w.alloc (.cells #[.int .i64 0, .string ⟨#[]⟩, .int .i64 0, .int .i64 0, .int .i64 0] 122) = W0 at *
    refine HX.out.mono ?_
    rintro e w1 ⟨rfl, q, rfl⟩
    have B := HH.out.blk
    unfold parCells at B
    obtain ⟨n, hn⟩ : ∃ n, ts.length = n := ⟨_, rfl⟩
    rw [hn] at B hi hm lim
    have c1 : (W0.drewN q).cell? ⟨g, 1, none⟩ = some (.int .i64 i) := B.cell 1
    have f1 : (W0.drewN q).frozen? ⟨g, 1, none⟩ = false := B.frozen 1
    have HNN := Lib.hid hn
    clear HX WR HM hn
    go_upto_region 5 with fail
    have KB := (((Kept.refl (fun z => z = g) W0).drewN q).setCell (p := ⟨g, 1, none⟩) (fun _ => rfl) (.int .i64 ((i : Int) + 1)))
    have B1 : Blk ((W0.drewN q).setCell ⟨g, 1, none⟩ (.int .i64 ((i : Int) + 1))) g 119 #[.slice (some ⟨b, o, none⟩) n c, .int .i64 ((i : Int) + 1), .int .i64 dp, .map (some (m 0)), .map (some (m 1)), .map (some (m 2)), .map (some (m 3)), .map (some (m 4)), .int .i64 er] := (B.drewN q).set_ 1 _
    generalize (W0.drewN q).setCell ⟨g, 1, none⟩ (.int .i64 ((i : Int) + 1)) = W1 at *
    have x2 := X0.out.kept KB (by have := HGL.out; omega)
    have d0 : W1.cell? ⟨g, 0, none⟩ = some (.slice (some ⟨b, o, none⟩) n c) := B1.cell 0
    have d1 : W1.cell? ⟨g, 1, none⟩ = some (.int .i64 ((i : Int) + 1)) := B1.cell 1
    have r0 := (KB.cell (p := ⟨b, o + i * 5, none⟩) hb hbg).trans q0
    have r1 := (KB.cell (p := ⟨b, o + i * 5 + 1, none⟩) hb hbg).trans q1
    have r2 := (KB.cell (p := ⟨b, o + i * 5 + 2, none⟩) hb hbg).trans q2
    have r3 := (KB.cell (p := ⟨b, o + i * 5 + 3, none⟩) hb hbg).trans q3
    have r4 := (KB.cell (p := ⟨b, o + i * 5 + 4, none⟩) hb hbg).trans q4
    have s0 : W1.cell? ⟨w.heap.size, 0, none⟩ = some (.int .i64 0) := x2.cell 0
    have s1 : W1.cell? ⟨w.heap.size, 1, none⟩ = some (.string ⟨#[]⟩) := x2.cell 1
    have s2 : W1.cell? ⟨w.heap.size, 2, none⟩ = some (.int .i64 0) := x2.cell 2
    have s3 : W1.cell? ⟨w.heap.size, 3, none⟩ = some (.int .i64 0) := x2.cell 3
    have s4 : W1.cell? ⟨w.heap.size, 4, none⟩ = some (.int .i64 0) := x2.cell 4
    have t0 := x2.frozen 0
    have t1 := x2.frozen 1
    have t2 := x2.frozen 2
    have t3 := x2.frozen 3
    have t4 := x2.frozen 4
    have g1 : (0 : Int) ≤ (i : Int) := by omega
    have g2 : (i : Int) < (n : Int) := by omega
    have g3 : (i : Int) + 1 - 1 = (i : Int) := by omega
    have g4 : IntKind.i64.wrap ((i : Int) + 1 - 1) = (i : Int) := by rw [g3]; exact IntWalk.i64_in _ ⟨by omega, by omega⟩
    clear q0 q1 q2 q3 q4 c1 f1
    go_region
    go_wp2_with fail
    have X9 := (x2.put5 (.int .i64 t.kind) (.string (str t.text)) (.int .i64 t.n) (.int .i64 t.line) (.int .i64 t.col)).drew
    have K9 := (Kept.put5 W1 w.heap.size (.int .i64 t.kind) (.string (str t.text)) (.int .i64 t.n) (.int .i64 t.line) (.int .i64 t.col)).drew
    generalize (((((W1.setCell ⟨w.heap.size, 0, none⟩ (.int .i64 t.kind)).setCell ⟨w.heap.size, 1, none⟩ (.string (str t.text))).setCell ⟨w.heap.size, 2, none⟩ (.int .i64 t.n)).setCell ⟨w.heap.size, 3, none⟩ (.int .i64 t.line)).setCell ⟨w.heap.size, 4, none⟩ (.int .i64 t.col)).drew = W9 at *
    clear s0 s1 s2 s3 s4
    have s0 : W9.cell? ⟨w.heap.size, 0, none⟩ = some (.int .i64 t.kind) := X9.cell 0
    have s1 : W9.cell? ⟨w.heap.size, 1, none⟩ = some (.string (str t.text)) := X9.cell 1
    have s2 : W9.cell? ⟨w.heap.size, 2, none⟩ = some (.int .i64 t.n) := X9.cell 2
    have s3 : W9.cell? ⟨w.heap.size, 3, none⟩ = some (.int .i64 t.line) := X9.cell 3
    have s4 : W9.cell? ⟨w.heap.size, 4, none⟩ = some (.int .i64 t.col) := X9.cell 4
    have KK : Kept (fun z => z = g) w W9 := ((Kept.of_below (S := fun z => z = g) F0.out).then_ KB (fun _ _ e => e)).then_ K9 (fun z hz e => by omega)
    refine bodyPost_ret (v := tkVal t) (by simp [results, Tryz.results87, go_sem, s0, s1, s2, s3, s4, tkVal]) rfl ⟨rfl, H0.out.put (by rw [HNN.out]; exact hm) ?_ KK, KK⟩
    unfold parCells
    rw [HNN.out]
    exact B1.kept K9 (by omega)
end Go.Proofs.YtdgekckedchjbaaGreatDoor
namespace Go.Proofs.YtdgekckedchjbaaGreatDoor
open Go.RowKit

/-- A tree's four cells; its parts lie in blocks D. -/
def TE (D : Nat → Prop) (w : World) : Ex → List Value → Prop
  | .num n, cs => cs = [.int .i64 0, .int .i64 n, .string ⟨#[]⟩, .slice none 0 0]
  | .nam s, cs => cs = [.int .i64 1, .int .i64 0, .string (str s), .slice none 0 0]
  | .idx s e, cs => ∃ b c1, cs = [.int .i64 2, .int .i64 0, .string (str s), .slice (some ⟨b, 0, none⟩) 1 1] ∧ D b ∧ Blk w b 40 (List.toArray c1) ∧ TE D w e c1
  | .neg e, cs => ∃ b c1, cs = [.int .i64 3, .int .i64 0, .string ⟨#[]⟩, .slice (some ⟨b, 0, none⟩) 1 1] ∧ D b ∧ Blk w b 40 (List.toArray c1) ∧ TE D w e c1
  | .non e, cs => ∃ b c1, cs = [.int .i64 4, .int .i64 0, .string ⟨#[]⟩, .slice (some ⟨b, 0, none⟩) 1 1] ∧ D b ∧ Blk w b 40 (List.toArray c1) ∧ TE D w e c1
  | .bin op e f, cs => ∃ b c1 c2, cs = [.int .i64 op, .int .i64 0, .string ⟨#[]⟩, .slice (some ⟨b, 0, none⟩) 2 2] ∧ D b ∧ Blk w b 40 (List.toArray (c1 ++ c2)) ∧ TE D w e c1 ∧ TE D w f c2
theorem TE.kept {D S : Nat → Prop} {w w' : World} (hk : Kept S w w') (hs : ∀ k, D k → ¬ S k) : ∀ (e : Ex) (cs : List Value), TE D w e cs → TE D w' e cs
  | .num _, _, h => h
  | .nam _, _, h => h
  | .idx _ e, _, ⟨b, c1, h1, h2, h3, h4⟩ => ⟨b, c1, h1, h2, h3.kept hk (hs b h2), TE.kept hk hs e c1 h4⟩
  | .neg e, _, ⟨b, c1, h1, h2, h3, h4⟩ => ⟨b, c1, h1, h2, h3.kept hk (hs b h2), TE.kept hk hs e c1 h4⟩
  | .non e, _, ⟨b, c1, h1, h2, h3, h4⟩ => ⟨b, c1, h1, h2, h3.kept hk (hs b h2), TE.kept hk hs e c1 h4⟩
  | .bin _ e f, _, ⟨b, c1, c2, h1, h2, h3, h4, h5⟩ => ⟨b, c1, c2, h1, h2, h3.kept hk (hs b h2), TE.kept hk hs e c1 h4, TE.kept hk hs f c2 h5⟩
theorem TE.mono {D E : Nat → Prop} {w : World} (hd : ∀ k, k < w.heap.size → D k → E k) : ∀ (e : Ex) (cs : List Value), TE D w e cs → TE E w e cs
  | .num _, _, h => h
  | .nam _, _, h => h
  | .idx _ e, _, ⟨b, c1, h1, h2, h3, h4⟩ => ⟨b, c1, h1, hd b h3.lt h2, h3, TE.mono hd e c1 h4⟩
  | .neg e, _, ⟨b, c1, h1, h2, h3, h4⟩ => ⟨b, c1, h1, hd b h3.lt h2, h3, TE.mono hd e c1 h4⟩
  | .non e, _, ⟨b, c1, h1, h2, h3, h4⟩ => ⟨b, c1, h1, hd b h3.lt h2, h3, TE.mono hd e c1 h4⟩
  | .bin _ e f, _, ⟨b, c1, c2, h1, h2, h3, h4, h5⟩ => ⟨b, c1, c2, h1, hd b h3.lt h2, h3, TE.mono hd e c1 h4, TE.mono hd f c2 h5⟩
def PR.thenMust (x : List UInt8) (k : Ex → Ex) : PR → PR
  | .bad r e => .bad r e
  | .ok y r => mustT x (k y) r
def PR.wrap (k : Ex → Ex) : PR → PR
  | .bad r e => .bad r e
  | .ok y r => .ok (k y) r
section
variable {d : Nat} {t : Tk} {r : List Tk}
theorem plainD_num (h : openT (t :: r) = true) (hk : t.kind = 2) : plainD (d + 1) (t :: r) = .ok (.num t.n) r := by
  simp only [plainD]
  rw [h, if_neg (by decide), if_pos hk]
theorem plainD_nam (h : openT (t :: r) = true) (hk : t.kind = 1) (hb : hasT [91] r = false) : plainD (d + 1) (t :: r) = .ok (.nam t.text) r := by
  simp only [plainD]
  rw [h, if_neg (by decide), if_neg (by rw [hk]; decide), if_pos hk, hb, if_neg (by decide)]
theorem plainD_idx (h : openT (t :: r) = true) (hk : t.kind = 1) (hb : hasT [91] r = true) : plainD (d + 1) (t :: r) = (joinL (plainD d) 5 r.tail).thenMust [93] (.idx t.text) := by
  simp only [plainD]
  rw [h, if_neg (by decide), if_neg (by rw [hk]; decide), if_pos hk, hb, if_pos rfl]
  cases joinL (plainD d) 5 r.tail <;> rfl
theorem plainD_par (h : openT (t :: r) = true) (h2 : t.kind ≠ 2) (h1 : t.kind ≠ 1) (hx : t.text = [40]) : plainD (d + 1) (t :: r) = (joinL (plainD d) 5 r).thenMust [41] id := by
  simp only [plainD]
  rw [h, if_neg (by decide), if_neg h2, if_neg h1, if_pos hx]
  cases joinL (plainD d) 5 r <;> rfl
theorem plainD_neg (h : openT (t :: r) = true) (h2 : t.kind ≠ 2) (h1 : t.kind ≠ 1) (h0 : t.text ≠ [40]) (hx : t.text = [45]) : plainD (d + 1) (t :: r) = (plainD d r).wrap .neg := by
  simp only [plainD]
  rw [h, if_neg (by decide), if_neg h2, if_neg h1, if_neg h0, if_pos hx]
  cases plainD d r <;> rfl
theorem plainD_non (h : openT (t :: r) = true) (h2 : t.kind ≠ 2) (h1 : t.kind ≠ 1) (h0 : t.text ≠ [40]) (hx : t.text ≠ [45]) : plainD (d + 1) (t :: r) = (plainD d r).wrap .non := by
  simp only [plainD]
  rw [h, if_neg (by decide), if_neg h2, if_neg h1, if_neg h0, if_neg hx]
  cases plainD d r <;> rfl
theorem plainD_deep (h : openT (t :: r) = true) : plainD 0 (t :: r) = .bad (t :: r) 25 := by
  simp only [plainD]
  rw [if_pos h]
end
/-- What a step that reads an expression leaves. -/
def ExAt (base g c : Nat) (A : Option Addr) (m : Nat → Nat) (ts : List Tk) (dp : Int) (cs : List Value) (w' : World) (p : PR) : Prop :=
  ∃ i er, i < ts.length ∧ Blk w' g 119 (parCells A ts.length c m i dp er) ∧ (match p with
    | .ok x r => r = ts.drop i ∧ er = 0 ∧ TE (fun k => base ≤ k) w' x cs
    | .bad r e => r = ts.drop i ∧ e = er ∧ er ≠ 0)
def ExTo (w : World) (g c : Nat) (A : Option Addr) (m : Nat → Nat) (ts : List Tk) (dp : Int) (p : PR) (e : Ending) (w' : World) : Prop :=
  ∃ (op N : Int) (nm : ByteArray) (B : Option Addr) (l k : Nat), e = .returned (.agg #[.int .i64 op, .int .i64 N, .string nm, .slice B l k]) ∧ Kept (fun z => z = g) w w' ∧
    ExAt w.heap.size g c A m ts dp [.int .i64 op, .int .i64 N, .string nm, .slice B l k] w' p
theorem ExAt.kept {base g c : Nat} {A : Option Addr} {m : Nat → Nat} {ts : List Tk} {dp : Int} {cs : List Value} {w w' : World} {p : PR} {S : Nat → Prop} (h : ExAt base g c A m ts dp cs w p) (hk : Kept S w w') (hg : ¬ S g) (hs : ∀ k, base ≤ k → ¬ S k) : ExAt base g c A m ts dp cs w' p := by
  obtain ⟨i, er, hi, hb, hp⟩ := h
  refine ⟨i, er, hi, hb.kept hk hg, ?_⟩
  cases p with
  | ok x r => exact ⟨hp.1, hp.2.1, hp.2.2.kept hk hs⟩
  | bad r e => exact hp
theorem wrongT_ne (r : List Tk) : wrongT r ≠ 0 := by
  cases r with
  | nil => simp [wrongT]
  | cons t r => simp only [wrongT]; split <;> decide
/-- What 'must' makes of it: k is done with the tree. -/
theorem ExAt.must {base base' g c : Nat} {A : Option Addr} {m : Nat → Nat} {ts : List Tk} {dp er : Int} {cs cs' : List Value} {w w' : World} {p : PR} {i : Nat} {t : Tk} {x : List UInt8} (k : Ex → Ex)
    (hp : match p with | .ok y r => r = ts.drop i ∧ er = 0 ∧ TE (fun z => base ≤ z) w y cs | .bad r e => r = ts.drop i ∧ e = er ∧ er ≠ 0) (ht : ts[i]? = some t)
    (hi : (if hasB t er x then i + 1 else i) < ts.length) (hb : Blk w' g 119 (parCells A ts.length c m (if hasB t er x then i + 1 else i) dp (mustE t er x)))
    (hk : ∀ y, TE (fun z => base ≤ z) w y cs → TE (fun z => base' ≤ z) w' (k y) cs') :
    ExAt base' g c A m ts dp cs' w' (p.thenMust x k) := by
  cases p with
  | ok y r =>
    obtain ⟨rfl, rfl, hT⟩ := hp
    have e1 : hasB t 0 x = hasT x (ts.drop i) := by rw [drop_tok ht]; exact hasB_T
    refine ⟨_, _, hi, hb, ?_⟩
    unfold mustE
    dsimp only [PR.thenMust, mustT]
    rw [e1]
    cases hasT x (ts.drop i) with
    | true =>
      rw [if_pos rfl, if_pos rfl, if_pos rfl]
      exact ⟨List.tail_drop .., rfl, hk y hT⟩
    | false =>
      have e2 : wrongE t 0 = wrongT (ts.drop i) := by rw [drop_tok ht]; rfl
      rw [if_neg (by decide), if_neg (by decide), if_neg (by decide), e2]
      exact ⟨rfl, rfl, wrongT_ne _⟩
  | bad r e =>
    obtain ⟨rfl, rfl, hne⟩ := hp
    have e0 : hasB t e x = false := by simp [hasB, hne]
    refine ⟨_, _, hi, hb, ?_⟩
    unfold mustE
    rw [e0]
    refine ⟨rfl, ?_, ?_⟩
    · simp [wrongE, hne]
    · simp [wrongE, hne]
theorem ExAt.wrap {base base' g c : Nat} {A : Option Addr} {m : Nat → Nat} {ts : List Tk} {dp er : Int} {cs cs' : List Value} {w w' : World} {p : PR} {i : Nat} (k : Ex → Ex)
    (hp : match p with | .ok y r => r = ts.drop i ∧ er = 0 ∧ TE (fun z => base ≤ z) w y cs | .bad r e => r = ts.drop i ∧ e = er ∧ er ≠ 0)
    (hi : i < ts.length) (hb : Blk w' g 119 (parCells A ts.length c m i dp er))
    (hk : ∀ y, TE (fun z => base ≤ z) w y cs → TE (fun z => base' ≤ z) w' (k y) cs') :
    ExAt base' g c A m ts dp cs' w' (p.wrap k) := by
  cases p with
  | ok y r => exact ⟨i, er, hi, hb, hp.1, hp.2.1, hk y hp.2.2⟩
  | bad r e => exact ⟨i, er, hi, hb, hp⟩
theorem ExAt.base_le {b b' g c : Nat} {A : Option Addr} {m : Nat → Nat} {ts : List Tk} {dp : Int} {cs : List Value} {w : World} {p : PR} (hb : b' ≤ b) (h : ExAt b g c A m ts dp cs w p) : ExAt b' g c A m ts dp cs w p := by
  obtain ⟨i, er, hi, hbk, hp⟩ := h
  refine ⟨i, er, hi, hbk, ?_⟩
  cases p with
  | ok x r => exact ⟨hp.1, hp.2.1, hp.2.2.mono (fun k _ h => Nat.le_trans hb h)⟩
  | bad r e => exact hp
theorem two_new (w : World) (t1 t2 : TypeId) (a b : Array Value) : Blk ((w.alloc (.cells a t1)).alloc (.cells b t2)) w.heap.size t1 a ∧ Blk ((w.alloc (.cells a t1)).alloc (.cells b t2)) (w.heap.size + 1) t2 b := by
  refine ⟨(Blk.new w t1 a).alloc _, ?_⟩
  have := Blk.new (w.alloc (.cells a t1)) t2 b
  rwa [show (w.alloc (.cells a t1)).heap.size = w.heap.size + 1 from by simp] at this
def PlainC (g c : Nat) (A : Option Addr) (m : Nat → Nat) (ts : List Tk) (dp : Int) (d : Nat) : Prop :=
  ∀ (deep : Int) (i : Nat) (w : World), deep + (d : Int) = 16 → 0 ≤ deep → Par w g A c m ts i dp 0 → Calls Tryz.prog 112 #[.pointer (some ⟨g, 0, none⟩), .int .i64 deep] w (ExTo w g c A m ts dp (plainD d (ts.drop i)))
def JoinC (g c : Nat) (A : Option Addr) (m : Nat → Nat) (ts : List Tk) (dp : Int) (d k : Nat) : Prop :=
  ∀ (deep lv : Int) (i : Nat) (w : World), deep + (d : Int) = 16 → 0 ≤ deep → lv + (k : Int) = 5 → Par w g A c m ts i dp 0 → Calls Tryz.prog 77 #[.pointer (some ⟨g, 0, none⟩), .int .i64 lv, .int .i64 deep] w (ExTo w g c A m ts dp (joinL (plainD d) k (ts.drop i)))
theorem Blk.put4 {w : World} {g : Nat} {t : TypeId} {a b c d : Value} (h : Blk w g t #[a, b, c, d]) (x0 x1 x2 x3 : Value) :
    Blk ((((w.setCell ⟨g, 0, none⟩ x0).setCell ⟨g, 1, none⟩ x1).setCell ⟨g, 2, none⟩ x2).setCell ⟨g, 3, none⟩ x3) g t #[x0, x1, x2, x3] := (((h.set_ 0 x0).set_ 1 x1).set_ 2 x2).set_ 3 x3
theorem Kept.put4 (w : World) (g : Nat) (x0 x1 x2 x3 : Value) : Kept (fun k => k = g) w ((((w.setCell ⟨g, 0, none⟩ x0).setCell ⟨g, 1, none⟩ x1).setCell ⟨g, 2, none⟩ x2).setCell ⟨g, 3, none⟩ x3) :=
  ((((Kept.refl (fun k => k = g) w).setCell (p := ⟨g, 0, none⟩) (fun _ => rfl) _).setCell (p := ⟨g, 1, none⟩) (fun _ => rfl) _).setCell (p := ⟨g, 2, none⟩) (fun _ => rfl) _).setCell (p := ⟨g, 3, none⟩) (fun _ => rfl) _
theorem plainD_shut {d : Nat} {t : Tk} {r : List Tk} (h : openT (t :: r) = false) : plainD d (t :: r) = .bad (t :: r) (wrongT (t :: r)) := by
  cases d <;> simp [plainD, h]
end Go.Proofs.YtdgekckedchjbaaGreatDoor
namespace Go.Proofs.YtdgekckedchjbaaGreatDoor
open Go.RowKit

/-- A tree of any shape. -/
inductive Gx where
  | mk (op n : Int) (nm : ByteArray) (l : List Gx)
/-- A slice of elements of s cells each, each as Q says; its block lies in D. -/
def ElsG {α : Type} (D : Nat → Prop) (w : World) (s M : Nat) (Q : List Value → α → Prop) (A : Option Addr) (len : Nat) (ks : List α) : Prop :=
  ∃ xs : List Value, Reads w w.heap.size s A len xs ∧ (0 < len → ∀ a, A = some a → D a.block) ∧ len ≤ M ∧ ks.length = len ∧ ∀ i (h : i < ks.length), Q ((xs.drop (i * s)).take s) (ks[i]'h)
theorem Reads.keptD {D S : Nat → Prop} {w w' : World} {s n : Nat} {A : Option Addr} {xs : List Value} (h : Reads w w.heap.size s A n xs) (hd : 0 < n → ∀ a, A = some a → D a.block) (hk : Kept S w w') (hs : ∀ k, k < w.heap.size → D k → ¬ S k) : Reads w' w'.heap.size s A n xs :=
  ⟨h.1, fun hn => by
    obtain ⟨ad, e, hb, hc⟩ := h.2 hn
    exact ⟨ad, e, Nat.lt_of_lt_of_le hb hk.size, fun j u hu => by
      have e1 : (ad.add j).block = ad.block := by first | rfl | (unfold Addr.add; split <;> rfl)
      exact (hk.cell (p := ad.add j) (by rw [e1]; exact hb) (by rw [e1]; exact hs _ hb (hd hn ad e))).trans (hc j u hu)⟩⟩
theorem Reads.blk_lt {w : World} {B s n : Nat} {a : Addr} {xs : List Value} (h : Reads w B s (some a) n xs) (hn : 0 < n) : a.block < B := by
  obtain ⟨ad, e, hb, _⟩ := h.2 hn
  cases e
  exact hb
theorem ElsG.kept {α : Type} {D E S : Nat → Prop} {w w' : World} {s M : Nat} {Q Q' : List Value → α → Prop} {A : Option Addr} {len : Nat} {ks : List α} (h : ElsG D w s M Q A len ks) (hk : Kept S w w') (hs : ∀ k, k < w.heap.size → D k → ¬ S k) (hE : ∀ k, k < w.heap.size → D k → E k) (hq : ∀ cs k, Q cs k → Q' cs k) : ElsG E w' s M Q' A len ks := by
  obtain ⟨xs, h1, h0, h2, h3, h4⟩ := h
  exact ⟨xs, h1.keptD h0 hk hs, fun hn a ha => hE _ (by subst ha; exact h1.blk_lt hn) (h0 hn a ha), h2, h3, fun i hi => hq _ _ (h4 i hi)⟩
theorem ElsG.none_ {α : Type} (D : Nat → Prop) (w : World) (s M : Nat) (Q : List Value → α → Prop) (A : Option Addr) : ElsG D w s M Q A 0 [] := ⟨[], Reads.none_, fun h => absurd h (by omega), by omega, rfl, fun i hi => by simp at hi⟩
/-- The cells of a tree, at most n deep, whose parts lie in D; no list is longer than M. -/
def GC (D : Nat → Prop) (w : World) (M : Nat) : Nat → List Value → Gx → Prop
  | 0, _, _ => False
  | n + 1, cs, .mk op N nm l => ∃ (A : Option Addr) (len cap : Nat), cs = [.int .i64 op, .int .i64 N, .string nm, .slice A len cap] ∧ ElsG D w 4 M (GC D w M n) A len l
theorem GC.kept {D E S : Nat → Prop} {w w' : World} {M : Nat} (hk : Kept S w w') (hs : ∀ k, k < w.heap.size → D k → ¬ S k) (hE : ∀ k, k < w.heap.size → D k → E k) : ∀ (n : Nat) (cs : List Value) (g : Gx), GC D w M n cs g → GC E w' M n cs g
  | 0, _, _, h => h
  | n + 1, cs, .mk op N nm l, h => by
    obtain ⟨A, len, cap, h1, h2⟩ := h
    exact ⟨A, len, cap, h1, h2.kept hk hs hE (GC.kept hk hs hE n)⟩
theorem GC.below {D : Nat → Prop} {w w' : World} {M n : Nat} {cs : List Value} {g : Gx} (h : GC D w M n cs g) (hb : Below w.heap.size w w') : GC D w' M n cs g := GC.kept (Kept.of_below (S := fun _ => False) hb) (fun _ _ _ h => h) (fun _ _ h => h) n cs g h
theorem ElsG.below {D : Nat → Prop} {w w' : World} {M n len : Nat} {A : Option Addr} {l : List Gx} (h : ElsG D w 4 M (GC D w M n) A len l) (hb : Below w.heap.size w w') : ElsG D w' 4 M (GC D w' M n) A len l := h.kept (Kept.of_below (S := fun _ => False) hb) (fun _ _ _ h => h) (fun _ _ h => h) (fun _ _ h => h.below hb)
theorem GC.deep {D : Nat → Prop} {w : World} {M : Nat} : ∀ (n : Nat) (cs : List Value) (g : Gx), GC D w M n cs g → GC D w M (n + 1) cs g
  | 0, _, _, h => absurd h id
  | n + 1, cs, .mk op N nm l, h => by
    obtain ⟨A, len, cap, h1, h2⟩ := h
    exact ⟨A, len, cap, h1, h2.kept (Kept.refl (fun _ => False) _) (fun _ _ _ h => h) (fun _ _ h => h) (GC.deep n)⟩
theorem GC.deeper {D : Nat → Prop} {w : World} {M n m : Nat} (hm : n ≤ m) {cs : List Value} {g : Gx} (h : GC D w M n cs g) : GC D w M m cs g := by
  obtain ⟨d, rfl⟩ : ∃ d, m = n + d := ⟨m - n, by omega⟩
  induction d with
  | zero => exact h
  | succ d ih => exact GC.deep _ _ _ (ih (by omega))
theorem GC.form {D : Nat → Prop} {w : World} {M n : Nat} {cs : List Value} {g : Gx} (h : GC D w M n cs g) : ∃ (op N : Int) (nm : ByteArray) (A : Option Addr) (len cap : Nat), cs = [.int .i64 op, .int .i64 N, .string nm, .slice A len cap] := by
  cases n with
  | zero => exact absurd h id
  | succ n =>
    obtain ⟨op, N, nm, l⟩ := g
    obtain ⟨A, len, cap, h1, _⟩ := h
    exact ⟨op, N, nm, A, len, cap, h1⟩
/-- A parsed tree as one of any shape. -/
def Ex.gx : Ex → Gx
  | .num n => .mk 0 n ⟨#[]⟩ []
  | .nam s => .mk 1 0 (str s) []
  | .idx s e => .mk 2 0 (str s) [e.gx]
  | .neg e => .mk 3 0 ⟨#[]⟩ [e.gx]
  | .non e => .mk 4 0 ⟨#[]⟩ [e.gx]
  | .bin op a b => .mk op 0 ⟨#[]⟩ [a.gx, b.gx]
def Ex.dep : Ex → Nat
  | .num _ => 1
  | .nam _ => 1
  | .idx _ e => e.dep + 1
  | .neg e => e.dep + 1
  | .non e => e.dep + 1
  | .bin _ a b => max a.dep b.dep + 1
theorem TE.len4 {D : Nat → Prop} {w : World} {e : Ex} {cs : List Value} (h : TE D w e cs) : cs.length = 4 := by
  cases e with
  | num n => rw [show cs = _ from h]; rfl
  | nam s => rw [show cs = _ from h]; rfl
  | idx s e => obtain ⟨_, _, rfl, _⟩ := h; rfl
  | neg e => obtain ⟨_, _, rfl, _⟩ := h; rfl
  | non e => obtain ⟨_, _, rfl, _⟩ := h; rfl
  | bin op a b => obtain ⟨_, _, _, rfl, _⟩ := h; rfl
theorem els_one {D : Nat → Prop} {w : World} {b M : Nat} {t : TypeId} {c1 : List Value} {g : Gx} {n : Nat} (hM : 1 ≤ M) (hb : Blk w b t (List.toArray c1)) (hD : D b) (hl : c1.length = 4) (h : GC D w M n c1 g) : ElsG D w 4 M (GC D w M n) (some ⟨b, 0, none⟩) 1 [g] := by
  refine ⟨c1, ⟨by rw [hl], fun _ => ⟨_, rfl, hb.lt, fun j u hu => ?_⟩⟩, fun _ a ha => by cases ha; exact hD, hM, rfl, fun i hi => ?_⟩
  · rw [Addr.add_lit, Nat.zero_add, hb.cell j]
    simpa using hu
  · obtain rfl : i = 0 := by simp at hi; exact hi
    rw [Nat.zero_mul, List.drop_zero, List.take_of_length_le (by omega)]
    exact h
theorem els_two {D : Nat → Prop} {w : World} {b M : Nat} {t : TypeId} {c1 c2 : List Value} {g1 g2 : Gx} {n : Nat} (hM : 2 ≤ M) (hb : Blk w b t (List.toArray (c1 ++ c2))) (hD : D b) (hl : c1.length = 4) (hl2 : c2.length = 4) (h : GC D w M n c1 g1) (h2 : GC D w M n c2 g2) : ElsG D w 4 M (GC D w M n) (some ⟨b, 0, none⟩) 2 [g1, g2] := by
  refine ⟨c1 ++ c2, ⟨by rw [List.length_append, hl, hl2], fun _ => ⟨_, rfl, hb.lt, fun j u hu => ?_⟩⟩, fun _ a ha => by cases ha; exact hD, hM, rfl, fun i hi => ?_⟩
  · rw [Addr.add_lit, Nat.zero_add, hb.cell j]
    simpa using hu
  · match i, hi with
    | 0, _ =>
      rw [Nat.zero_mul, List.drop_zero, List.take_append_of_le_length (by omega), List.take_of_length_le (by omega)]
      exact h
    | 1, _ =>
      rw [Nat.one_mul, List.drop_append_of_le_length (by omega), List.drop_of_length_le (by omega), List.nil_append, List.take_of_length_le (by omega)]
      exact h2
    | i + 2, h => simp at h; omega
theorem TE.gc {D : Nat → Prop} {w : World} {M : Nat} (hM : 2 ≤ M) : ∀ (e : Ex) (cs : List Value), TE D w e cs → GC D w M e.dep cs e.gx
  | .num n, cs, h => ⟨none, 0, 0, h, ElsG.none_ _ _ _ _ _ _⟩
  | .nam s, cs, h => ⟨none, 0, 0, h, ElsG.none_ _ _ _ _ _ _⟩
  | .idx s e, cs, ⟨b, c1, h1, h2, h3, h4⟩ => ⟨_, 1, 1, h1, els_one (by omega) h3 h2 h4.len4 (TE.gc hM e c1 h4)⟩
  | .neg e, cs, ⟨b, c1, h1, h2, h3, h4⟩ => ⟨_, 1, 1, h1, els_one (by omega) h3 h2 h4.len4 (TE.gc hM e c1 h4)⟩
  | .non e, cs, ⟨b, c1, h1, h2, h3, h4⟩ => ⟨_, 1, 1, h1, els_one (by omega) h3 h2 h4.len4 (TE.gc hM e c1 h4)⟩
  | .bin op e f, cs, ⟨b, c1, c2, h1, h2, h3, h4, h5⟩ => ⟨_, 2, 2, h1, els_two hM h3 h2 h4.len4 h5.len4 ((TE.gc hM e c1 h4).deeper (Nat.le_max_left _ _)) ((TE.gc hM f c2 h5).deeper (Nat.le_max_right _ _))⟩
/-- An owned row of trees: their parts lie beside it, behind base. -/
def OwnG (w : World) (base : Nat) (t : TypeId) (M n : Nat) (v : Value) (l : List Gx) : Prop := ∃ ys : List Value, w.ownsRow base t 4 v l.length ys ∧ ys.length = l.length * 4 ∧ ∀ i (h : i < l.length), GC (fun z => base ≤ z ∧ v.ownBlock ≠ some z) w M n ((ys.drop (i * 4)).take 4) (l[i]'h)
theorem chunk_old {ys cs : List Value} {k i : Nat} (h : ys.length = k * 4) (hi : i < k) : ((ys ++ cs).drop (i * 4)).take 4 = (ys.drop (i * 4)).take 4 := by
  have : i * 4 + 4 ≤ k * 4 := by omega
  rw [List.drop_append_of_le_length (by omega), List.take_append_of_le_length (by rw [List.length_drop]; omega)]
theorem chunk_new {ys cs : List Value} {k : Nat} (h : ys.length = k * 4) (hc : cs.length = 4) : ((ys ++ cs).drop (k * 4)).take 4 = cs := by
  rw [List.drop_append_of_le_length (by omega), List.drop_of_length_le (by omega), List.nil_append, List.take_of_length_le (by omega)]
theorem own_lt {w : World} {base size n : Nat} {e : TypeId} {v : Value} {xs : List Value} (h : w.ownsRow base e size v n xs) : ∀ k, v.ownBlock = some k → k < w.heap.size := by
  intro k hk
  rcases h.2 with ⟨rfl, h0⟩ | ⟨g, cap, cur, rfl, hg, hh, _⟩
  · simp [Value.ownBlock] at hk
  · simp only [Value.ownBlock, Option.some.injEq] at hk
    subst hk
    exact Blk.lt (t := e) (cs := cur) hh
theorem own_ge {w : World} {base size n : Nat} {e : TypeId} {v : Value} {xs : List Value} (h : w.ownsRow base e size v n xs) : ∀ k, v.ownBlock = some k → base ≤ k := by
  intro k hk
  rcases h.2 with ⟨rfl, h0⟩ | ⟨g, cap, cur, rfl, hg, hh, _⟩
  · simp [Value.ownBlock] at hk
  · simp only [Value.ownBlock, Option.some.injEq] at hk
    subst hk
    exact hg
theorem own_is {w : World} {base size n : Nat} {e : TypeId} {v : Value} {xs : List Value} (h : w.ownsRow base e size v n xs) : ∃ A c, v = .slice A n c ∧ ∀ a, 0 < n → A = some a → v.ownBlock = some a.block := by
  rcases h.2 with ⟨rfl, h0⟩ | ⟨g, cap, cur, rfl, hg, hh, _⟩
  · exact ⟨none, 0, by rw [h0], fun a hn => by omega⟩
  · exact ⟨_, _, rfl, fun a _ ha => by cases ha; rfl⟩
theorem own_below {w w' : World} {base B size n : Nat} {e : TypeId} {v : Value} {xs : List Value} (h : w.ownsRow base e size v n xs) (hb : Below B w w') (hB : w.heap.size ≤ B) : w'.ownsRow base e size v n xs := by
  refine ⟨h.1, ?_⟩
  rcases h.2 with h2 | ⟨g, cap, cur, hv, hg, hh, r⟩
  · exact .inl h2
  · have hlt : g < w.heap.size := Blk.lt (t := e) (cs := cur) hh
    exact .inr ⟨g, cap, cur, hv, hg, (hb.block g (by omega)).trans hh, r⟩
theorem OwnG.els {w : World} {base : Nat} {t : TypeId} {M n len cap : Nat} {A : Option Addr} {l : List Gx} (h : OwnG w base t M n (.slice A len cap) l) (hl : l.length = len) (hM : len ≤ M) : ElsG (fun z => base ≤ z) w 4 M (GC (fun z => base ≤ z) w M n) A len l := by
  obtain ⟨ys, h1, h2, h3⟩ := h
  subst hl
  refine ⟨ys, Reads.of_own h1, fun hn a ha => ?_, hM, rfl, fun i hi => GC.kept (Kept.refl (fun _ => False) w) (fun _ _ _ h => h) (fun _ _ h => h.1) _ _ _ (h3 i hi)⟩
  obtain ⟨A', c', hv, hb⟩ := own_is h1
  simp only [Value.slice.injEq] at hv
  obtain ⟨rfl, _, _⟩ := hv
  exact own_ge h1 _ (hb a hn ha)
theorem OwnG.nil (w : World) (base : Nat) (t : TypeId) (M n : Nat) : OwnG w base t M n (.slice none 0 0) [] := ⟨[], World.ownsRow_nil _ _ _ _, rfl, fun i hi => by simp at hi⟩
/-- One more. -/
theorem OwnG.push {w w' : World} {base : Nat} {t : TypeId} {M n : Nat} {v v' : Value} {l : List Gx} {g : Gx} {ys cs : List Value} {D : Nat → Prop} (ho : w'.ownsRow base t 4 v' (l.length + 1) (ys ++ cs)) (h2 : ys.length = l.length * 4) (hc : cs.length = 4)
    (hold : ∀ i (h : i < l.length), GC (fun z => base ≤ z ∧ v.ownBlock ≠ some z) w M n ((ys.drop (i * 4)).take 4) (l[i]'h)) (hk : Kept (fun z => v.ownBlock = some z) w w') (hv : ∀ k, k < w.heap.size → v.ownBlock ≠ some k → v'.ownBlock ≠ some k)
    (hnew : GC D w' M n cs g) (hD : ∀ k, k < w'.heap.size → D k → base ≤ k ∧ v'.ownBlock ≠ some k) : OwnG w' base t M n v' (l ++ [g]) := by
  refine ⟨ys ++ cs, by rw [List.length_append, List.length_singleton]; exact ho, by rw [List.length_append, hc, h2, List.length_append, List.length_singleton]; omega, fun i hi => ?_⟩
  rw [List.length_append, List.length_singleton] at hi
  rcases Nat.lt_or_ge i l.length with h | h
  · rw [List.getElem_append_left h, chunk_old h2 h]
    exact GC.kept hk (fun k _ hd e => hd.2 e) (fun k hk hd => ⟨hd.1, hv k hk hd.2⟩) n _ _ (hold i h)
  · obtain rfl : i = l.length := by omega
    rw [List.getElem_append_right (by omega), chunk_new h2 hc]
    have := GC.kept (Kept.refl (fun _ => False) w') (fun _ _ _ h => h) hD n _ _ hnew
    simpa using this
end Go.Proofs.YtdgekckedchjbaaGreatDoor
namespace Go.Proofs.YtdgekckedchjbaaGreatDoor
open Go.RowKit

/-- One text behind another, if there are both. -/
def ocat : Option (List UInt8) → Option (List UInt8) → Option (List UInt8)
  | some a, some b => some (a ++ b)
  | _, _ => none
def tightN (op : Int) : Int := if op < 5 then 6 else if op < 8 then 5 else if op < 10 then 4 else if op < 16 then 3 else if op = 16 then 2 else 1
def partsN (op : Int) : Nat := if op < 2 then 0 else if op < 5 then 1 else 2
def markN (op : Int) : List UInt8 :=
  if op < 3 then [] else if op = 3 then [45] else if op = 4 then [110, 111, 116] else if op = 5 then [42] else if op = 6 then [47] else if op = 7 then [37] else if op = 8 then [43] else if op = 9 then [45]
  else if op = 10 then [61] else if op = 11 then [33, 61] else if op = 12 then [60] else if op = 13 then [60, 61] else if op = 14 then [62] else if op = 15 then [62, 61] else if op = 16 then [97, 110, 100] else [111, 114]
/-- An operand that has to be so tight. -/
def operO (op t : Int) (s : Option (List UInt8)) : Option (List UInt8) := if tightN op < t then s.map fun s => [40, 32] ++ s ++ [32, 41] else s
def Gx.op : Gx → Int
  | .mk op _ _ _ => op
/-- How tight the left operand has to be. -/
def leftN (op : Int) : Int := if tightN op = 3 then tightN op + 1 else tightN op
/-- An expression's text, if it has one. -/
def rawE : Gx → Option (List UInt8)
  | .mk op N nm l =>
    if 0 ≤ op ∧ op < 18 ∧ l.length = partsN op then
      match l with
      | [] => if op = 0 then some (Lib.itoa N) else some nm.data.toList
      | [a] => if op = 2 then (rawE a).map fun s => nm.data.toList ++ [32, 91, 32] ++ s ++ [32, 93] else (operO a.op 6 (rawE a)).map fun s => markN op ++ [32] ++ s
      | [a, b] => ocat (operO a.op (leftN op) (rawE a)) (ocat (some ([32] ++ markN op ++ [32])) (operO b.op (tightN op + 1) (rawE b)))
      | _ => none
    else none
/-- A statement of any shape. -/
inductive Sx where
  | mk (kind : Int) (nm : List UInt8) (E : List Gx) (lo hi : Int) (L El : List Sx)
/-- A program of any shape. -/
structure Px where
  nm : List UInt8
  seats : Int
  stakes : List Int
  vars : List Va
  start : List Sx
  turn : List Sx
  params : List Va
  play : List Sx
  silent : List UInt8
  quiet : List Sx
  pays : List Sx
def partsS (k : Int) : Nat := if k = 1 ∨ k = 8 then 2 else if k = 3 ∨ k = 4 ∨ k = 5 ∨ k = 7 then 0 else 1
def blanks (deep : Nat) : List UInt8 := Lib.repeatL [32, 32] deep
/-- A line. -/
def lineB (deep : Nat) (ps : List (List UInt8)) : List UInt8 := blanks deep ++ Lib.join ps [32] ++ [10]
def rawEs : List Gx → Option (List (List UInt8))
  | [] => some []
  | g :: l => match rawE g, rawEs l with
    | some a, some b => some (a :: b)
    | _, _ => none
/-- What is paid, in parentheses if it begins with a -. -/
def payB (t : List UInt8) : List UInt8 := if t.head? = some 45 then [40, 32] ++ t ++ [32, 41] else t
mutual
/-- A statement's lines. -/
def rawS (deep : Nat) : Sx → Option (List UInt8)
  | .mk k nm E lo hi L El =>
    if 0 ≤ k ∧ k < 10 ∧ E.length = partsS k then
      match rawEs E with
      | none => none
      | some T =>
        if k = 0 then some (lineB deep [nm, [61], T.getD 0 []])
        else if k = 1 then some (lineB deep [nm, [91], T.getD 0 [], [93, 32, 61], T.getD 1 []])
        else if k = 2 then ocat (some (lineB deep [[105, 102], T.getD 0 [], [116, 104, 101, 110]])) (ocat (rawB (deep + 1) L)
          (ocat (if El.length = 0 then some [] else ocat (some (lineB deep [[101, 108, 115, 101]])) (rawB (deep + 1) El)) (some (lineB deep [[101, 110, 100]]))))
        else if k = 3 then ocat (some (lineB deep [[102, 111, 114], nm, Lib.itoa lo, Lib.itoa hi, [100, 111]])) (ocat (rawB (deep + 1) L) (some (lineB deep [[101, 110, 100]])))
        else if k = 4 then some (lineB deep [[114, 101, 102, 117, 115, 101]])
        else if k = 5 then some (lineB deep [[114, 111, 108, 108], nm, Lib.itoa lo])
        else if k = 6 then some (lineB deep [[115, 101, 97, 116], T.getD 0 []])
        else if k = 7 then some (lineB deep [[111, 118, 101, 114]])
        else if k = 8 then some (lineB deep [[112, 97, 121], T.getD 0 [], payB (T.getD 1 [])])
        else some (lineB deep [[114, 101, 115, 116], T.getD 0 []])
    else none
/-- The lines of statements. -/
def rawB (deep : Nat) : List Sx → Option (List UInt8)
  | [] => some []
  | s :: l => ocat (rawS deep s) (rawB deep l)
end
def varB (v : Va) : List UInt8 := lineB 0 ([[118, 97, 114], v.nm] ++ (if v.size = 0 then [] else [[91], Lib.itoa v.size, [93]]) ++ [Lib.itoa v.lo, Lib.itoa v.hi])
def partO (first : List (List UInt8)) (l : List Sx) : Option (List UInt8) := ocat (some (lineB 0 first)) (ocat (rawB 1 l) (some (lineB 0 [[101, 110, 100]])))
/-- The pieces of parameters. -/
def paramsB : List Va → List (List UInt8)
  | [] => []
  | [v] => [v.nm, Lib.itoa v.lo, Lib.itoa v.hi]
  | v :: l => [v.nm, Lib.itoa v.lo, Lib.itoa v.hi ++ [44]] ++ paramsB l
/-- A program's text. -/
def rawP (p : Px) : Option (List UInt8) :=
  ocat (some (lineB 0 [[103, 97, 109, 101], p.nm] ++ lineB 0 [[115, 101, 97, 116, 115], Lib.itoa p.seats] ++ lineB 0 ([115, 116, 97, 107, 101] :: p.stakes.map Lib.itoa) ++ (p.vars.map varB).flatten))
    (ocat (partO [[115, 116, 97, 114, 116]] p.start) (ocat (partO [[116, 117, 114, 110]] p.turn) (ocat (partO ([112, 108, 97, 121] :: paramsB p.params) p.play)
      (ocat (partO [[115, 105, 108, 101, 110, 116], p.silent] p.quiet) (partO [[112, 97, 121]] p.pays)))))

/-- How a writer goes on from the bytes l to l': what is written is o; bad: it has no text, or there is no room for it. -/
structure WOut (room : Nat) (l : List UInt8) (bad : Bool) (o : Option (List UInt8)) (l' : List UInt8) (bad' : Bool) : Prop where
  good : bad' = false → bad = false ∧ ∃ t, o = some t ∧ l' = l ++ t
  ill : bad' = true → bad = true ∨ o = none ∨ ∃ t, o = some t ∧ room < l.length + t.length
  len : l'.length ≤ room
section
variable {room : Nat} {l l1 l2 : List UInt8} {bad b1 b2 : Bool} {o o1 o2 : Option (List UInt8)}
theorem WOut.none_ (h : l.length ≤ room) : WOut room l bad (some []) l bad := ⟨fun e => ⟨e, [], rfl, by simp⟩, fun e => .inl e, h⟩
theorem WOut.fail (h : l.length ≤ room) : WOut room l bad none l true := ⟨fun e => by simp at e, fun _ => .inr (.inl rfl), h⟩
theorem WOut.was (h : l.length ≤ room) : WOut room l true o l true := ⟨fun e => by simp at e, fun _ => .inl rfl, h⟩
theorem WOut.then_ (h : WOut room l bad o1 l1 b1) (k : WOut room l1 b1 o2 l2 b2) : WOut room l bad (ocat o1 o2) l2 b2 := by
  refine ⟨fun e => ?_, fun e => ?_, k.len⟩
  · obtain ⟨e1, t2, rfl, rfl⟩ := k.good e
    obtain ⟨e0, t1, rfl, rfl⟩ := h.good e1
    exact ⟨e0, t1 ++ t2, rfl, by simp⟩
  · rcases k.ill e with e1 | rfl | ⟨t2, rfl, hl⟩
    · rcases h.ill e1 with e0 | rfl | ⟨t1, rfl, hl⟩
      · exact .inl e0
      · exact .inr (.inl (by cases o2 <;> rfl))
      · cases o2 with
        | none => exact .inr (.inl rfl)
        | some t2 => exact .inr (.inr ⟨t1 ++ t2, rfl, by simp; omega⟩)
    · exact .inr (.inl (by cases o1 <;> rfl))
    · cases b1 with
      | true =>
        rcases h.ill rfl with e0 | rfl | ⟨t1, rfl, hl⟩
        · exact .inl e0
        · exact .inr (.inl rfl)
        · exact .inr (.inr ⟨t1 ++ t2, rfl, by simp; omega⟩)
      | false =>
        obtain ⟨_, t1, rfl, rfl⟩ := h.good rfl
        exact .inr (.inr ⟨t1 ++ t2, rfl, by simp at hl ⊢; omega⟩)
theorem WOut.cong (h : WOut room l bad o1 l1 b1) (e : o1 = o2) : WOut room l bad o2 l1 b1 := e ▸ h
end
theorem ocat_assoc (a b c : Option (List UInt8)) : ocat (ocat a b) c = ocat a (ocat b c) := by cases a <;> cases b <;> cases c <;> simp [ocat]
theorem ocat_some (a b : List UInt8) : ocat (some a) (some b) = some (a ++ b) := rfl
end Go.Proofs.YtdgekckedchjbaaGreatDoor
