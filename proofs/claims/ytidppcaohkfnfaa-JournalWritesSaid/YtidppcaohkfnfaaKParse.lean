
/-
  Which bytes begin with an entry, in plain Lean: what the readings tell. No program is named here.
-/
import Derived.Test.YtidppcaohkfnfaaK7
import Derived.Test.YtidppcaohkfnfaaRound
namespace Go.Proofs.Ytidppcaohkfnfaa

theorem readNum_of {b r : List UInt8} {a most x : Nat} (hx : x ≤ most) (hU : x < 18446744073709551616) (h : b.drop a = num x ++ r) : readNum b a 0 most = (x, a + (num x).length, 0) := by
  have e : stepN (b.drop a) most = (x, (num x).length, 0) := by
    unfold stepN
    rw [h, lookL_num hU]
    simp only [ne_eq, not_true_eq_false, if_false]
    rw [if_neg (by omega)]
  unfold readNum after
  rw [e]
  simp
theorem readNum_inv {b : List UInt8} {a e most : Nat} (h : (readNum b a e most).2.2 = 0) :
    e = 0 ∧ (readNum b a e most).1 ≤ most ∧ ∃ r, b.drop a = num (readNum b a e most).1 ++ r ∧ (readNum b a e most).2.1 = a + (num (readNum b a e most).1).length := by
  by_cases he : e = 0
  · subst he
    refine ⟨rfl, ?_⟩
    obtain ⟨n, s, z, hl⟩ : ∃ n s z, lookL (b.drop a) = (n, s, z) := ⟨_, _, _, rfl⟩
    unfold readNum stepN after at h ⊢
    rw [hl] at h ⊢
    by_cases hz : z = 0
    · subst hz
      by_cases hm : most < n
      · simp [hm] at h
      · obtain ⟨h1, h2, h3, h4⟩ := num_of_lookL hl
        simp only [hm, ne_eq, not_true_eq_false, if_false] at h ⊢
        refine ⟨by omega, (b.drop a).drop s, ?_, ?_⟩
        · rw [h1, List.take_append_drop]
        · rw [h1, List.length_take, Nat.min_eq_left h4]
    · simp [hz] at h
  · unfold readNum at h
    rw [if_pos he] at h
    exact absurd h he
theorem readBytes_of {b r l : List UInt8} {a lim : Nat} (hx : l.length ≤ lim) (hU : l.length < 18446744073709551616) (h : b.drop a = lenB l ++ r) : readBytes b a 0 lim = (l, a + (lenB l).length, 0) := by
  have e : stepB (b.drop a) lim = (l, (lenB l).length, 0) := by
    have hd : b.drop a = num l.length ++ (l ++ r) := by rw [h, lenB, List.append_assoc]
    unfold stepB
    rw [hd, lookL_num hU]
    simp only [ne_eq, not_true_eq_false, if_false]
    rw [if_neg (by omega), if_neg (by simp only [List.length_append]; omega)]
    rw [List.drop_left, List.take_left]
    simp [lenB]
  unfold readBytes afterB
  rw [e]
  simp
theorem readBytes_inv {b : List UInt8} {a e lim : Nat} (h : (readBytes b a e lim).2.2 = 0) :
    e = 0 ∧ (readBytes b a e lim).1.length ≤ lim ∧ ∃ r, b.drop a = lenB (readBytes b a e lim).1 ++ r ∧ (readBytes b a e lim).2.1 = a + (lenB (readBytes b a e lim).1).length := by
  by_cases he : e = 0
  · subst he
    refine ⟨rfl, ?_⟩
    obtain ⟨n, s, z, hl⟩ : ∃ n s z, lookL (b.drop a) = (n, s, z) := ⟨_, _, _, rfl⟩
    unfold readBytes stepB afterB at h ⊢
    rw [hl] at h ⊢
    by_cases hz : z = 0
    · subst hz
      by_cases hm : lim < n
      · simp [hm] at h
      · by_cases hs : (b.drop a).length - s < n
        · simp only [hm, hs, ne_eq, not_true_eq_false, if_false, if_true] at h
          simp at h
        · obtain ⟨h1, h2, h3, h4⟩ := num_of_lookL hl
          simp only [hm, hs, ne_eq, not_true_eq_false, if_false] at h ⊢
          have e1 : (((b.drop a).drop s).take n).length = n := by rw [List.length_take, List.length_drop]; omega
          have e2 : (num n).length = s := by rw [h1, List.length_take, Nat.min_eq_left h4]
          refine ⟨by rw [e1]; omega, ((b.drop a).drop s).drop n, ?_, ?_⟩
          · unfold lenB
            rw [e1, List.append_assoc, List.take_append_drop, h1, List.take_append_drop]
          · unfold lenB
            rw [e1, List.length_append, e1, e2]
    · simp [hz] at h
  · unfold readBytes at h
    rw [if_pos he] at h
    exact absurd h he

def P1 (b : List UInt8) : Nat × Nat × Nat := readNum b 0 0 255
def P2 (b : List UInt8) : List UInt8 × Nat × Nat := readBytes b (P1 b).2.1 (P1 b).2.2 64
def P3 (b : List UInt8) : Nat × Nat × Nat := readNum b (P2 b).2.1 (P2 b).2.2 65536
def Q3 (b : List UInt8) : List UInt8 × Nat × Nat := readBytes b (P2 b).2.1 (P2 b).2.2 65536
theorem drop_of_drop {b x y r : List UInt8} {a : Nat} (h : b.drop a = x ++ (y ++ r)) : b.drop (a + x.length) = y ++ r := by
  rw [← List.drop_drop, h, List.drop_left]
theorem P2_of {b r key : List UInt8} {kd : Nat} (h : b = num kd ++ (lenB key ++ r)) (h1 : kd ≤ 255) (h2 : key.length ≤ 64) : P1 b = (kd, (num kd).length, 0) ∧ P2 b = (key, (num kd).length + (lenB key).length, 0) ∧ b.drop ((num kd).length + (lenB key).length) = r := by
  have e1 : P1 b = (kd, (num kd).length, 0) := by
    have := readNum_of (b := b) (a := 0) (most := 255) h1 (by omega) (by simpa using h)
    simpa [P1] using this
  have d1 : b.drop (num kd).length = lenB key ++ r := by rw [h, List.drop_left]
  have e2 : P2 b = (key, (num kd).length + (lenB key).length, 0) := by
    unfold P2
    rw [e1]
    exact readBytes_of h2 (by omega) d1
  refine ⟨e1, e2, ?_⟩
  rw [← List.drop_drop, d1, List.drop_left]
theorem P3_of {b r key : List UInt8} {kd sz : Nat} (h : b = num kd ++ (lenB key ++ (num sz ++ r))) (h1 : kd ≤ 255) (h2 : key.length ≤ 64) (h3 : sz ≤ 65536) : (P1 b).1 = kd ∧ (P2 b).1 = key ∧ P3 b = (sz, (num kd).length + (lenB key).length + (num sz).length, 0) := by
  obtain ⟨e1, e2, e3⟩ := P2_of h h1 h2
  refine ⟨by rw [e1], by rw [e2], ?_⟩
  unfold P3
  rw [e2]
  exact readNum_of h3 (by omega) e3
theorem Q3_of {b r key body : List UInt8} {kd : Nat} (h : b = num kd ++ (lenB key ++ (lenB body ++ r))) (h1 : kd ≤ 255) (h2 : key.length ≤ 64) (h3 : body.length ≤ 65536) : (P1 b).1 = kd ∧ (P2 b).1 = key ∧ Q3 b = (body, (num kd).length + (lenB key).length + (lenB body).length, 0) := by
  obtain ⟨e1, e2, e3⟩ := P2_of h h1 h2
  refine ⟨by rw [e1], by rw [e2], ?_⟩
  unfold Q3
  rw [e2]
  exact readBytes_of h3 (by omega) e3
theorem P2_inv {b : List UInt8} (h : (P2 b).2.2 = 0) : (P1 b).1 ≤ 255 ∧ (P2 b).1.length ≤ 64 ∧ ∃ r, b = num (P1 b).1 ++ (lenB (P2 b).1 ++ r) ∧ (P2 b).2.1 = (num (P1 b).1).length + (lenB (P2 b).1).length ∧ b.drop (P2 b).2.1 = r := by
  obtain ⟨h1, h2, r, h3, h4⟩ := readBytes_inv h
  obtain ⟨_, h5, r', h6, h7⟩ := readNum_inv h1
  have h6' : b = num (P1 b).1 ++ r' := by
    have h := h6
    rw [List.drop_zero] at h
    exact h
  have h7' : (P1 b).2.1 = (num (P1 b).1).length := by
    have : (P1 b).2.1 = 0 + (num (P1 b).1).length := h7
    omega
  have h3' : b.drop (P1 b).2.1 = lenB (P2 b).1 ++ r := h3
  have h4' : (P2 b).2.1 = (P1 b).2.1 + (lenB (P2 b).1).length := h4
  have hr : r' = lenB (P2 b).1 ++ r := by
    rw [h7'] at h3'
    have hx : ∀ x y : List UInt8, b = x ++ y → b.drop x.length = y := fun x y h => by rw [h, List.drop_left]
    have := hx _ _ h6'
    rw [← this, h3']
  refine ⟨h5, h2, r, by rw [← hr]; exact h6', by rw [h4', h7'], ?_⟩
  rw [h4', ← List.drop_drop, h3', List.drop_left]
theorem P3_inv {b : List UInt8} (h : (P3 b).2.2 = 0) : (P1 b).1 ≤ 255 ∧ (P2 b).1.length ≤ 64 ∧ (P3 b).1 ≤ 65536 ∧ ∃ r, b = num (P1 b).1 ++ (lenB (P2 b).1 ++ (num (P3 b).1 ++ r)) ∧ (P3 b).2.1 = (num (P1 b).1).length + (lenB (P2 b).1).length + (num (P3 b).1).length := by
  obtain ⟨h1, h2, r, h3, h4⟩ := readNum_inv h
  obtain ⟨h5, h6, r', h7, h8, h9⟩ := P2_inv h1
  have h3' : b.drop (P2 b).2.1 = num (P3 b).1 ++ r := h3
  have h4' : (P3 b).2.1 = (P2 b).2.1 + (num (P3 b).1).length := h4
  refine ⟨h5, h6, h2, r, ?_, by rw [h4', h8]⟩
  rw [← h3', h9]
  exact h7
theorem Q3_inv {b : List UInt8} (h : (Q3 b).2.2 = 0) : (P1 b).1 ≤ 255 ∧ (P2 b).1.length ≤ 64 ∧ (Q3 b).1.length ≤ 65536 ∧ ∃ r, b = num (P1 b).1 ++ (lenB (P2 b).1 ++ (lenB (Q3 b).1 ++ r)) ∧ (Q3 b).2.1 = (num (P1 b).1).length + (lenB (P2 b).1).length + (lenB (Q3 b).1).length := by
  obtain ⟨h1, h2, r, h3, h4⟩ := readBytes_inv h
  obtain ⟨h5, h6, r', h7, h8, h9⟩ := P2_inv h1
  have h3' : b.drop (P2 b).2.1 = lenB (Q3 b).1 ++ r := h3
  have h4' : (Q3 b).2.1 = (P2 b).2.1 + (lenB (Q3 b).1).length := h4
  refine ⟨h5, h6, h2, r, ?_, by rw [h4', h8]⟩
  rw [← h3', h9]
  exact h7

/-- Bytes that begin with an entry. -/
def Begins (b : List UInt8) (e : En) : Prop := e.Right ∧ ∃ r, b = entryB D8 e ++ r
theorem Begins.inj {b : List UInt8} {e f : En} (h : Begins b e) (k : Begins b f) : e = f := by
  obtain ⟨h1, r, h2⟩ := h
  obtain ⟨k1, s, k2⟩ := k
  exact (entryB_inj D8_length h1.1 k1.1 (h2.symm.trans k2)).1
/-- The bytes ahead of the body. -/
def front (b : List UInt8) : List UInt8 := b.take (min b.length 70)
theorem num_two {n : Nat} (h : n ≤ 255) : (num n).length ≤ 2 := num_le 1 n (by omega)
theorem num_one {n : Nat} (h : n ≤ 64) : (num n).length ≤ 1 := num_le 0 n (by omega)
theorem num_three {n : Nat} (h : n ≤ 65536) : (num n).length ≤ 3 := num_le 2 n (by omega)
theorem headB_eq (e : En) : headB e = num e.kind.toNat ++ (lenB e.key ++ (num e.body.length ++ e.body)) := rfl
theorem prog_yes {b : List UInt8} {e : En} (h : Begins b e) : ∃ a, ((P1 (front b)).1 : Int) = e.kind ∧ (P2 (front b)).1 = e.key ∧ P3 (front b) = (e.body.length, a, 0) ∧ a + e.body.length + 8 = (entryB D8 e).length ∧ a + e.body.length + 8 ≤ b.length ∧ b.take (a + e.body.length) = headB e ∧ (b.drop (a + e.body.length)).take 8 = D8 (headB e) ∧ (b.drop a).take e.body.length = e.body := by
  obtain ⟨⟨h1, h2, h3, h4⟩, r, hb⟩ := h
  have n1 := num_two (n := e.kind.toNat) (by omega)
  have n2 := num_one (n := e.key.length) h3
  have n3 := num_three (n := e.body.length) h4
  have hlen : (num e.kind.toNat ++ (lenB e.key ++ num e.body.length)).length ≤ 70 := by
    unfold lenB
    simp only [List.length_append]
    omega
  have hb2 : b = (num e.kind.toNat ++ (lenB e.key ++ num e.body.length)) ++ (e.body ++ (D8 (headB e) ++ r)) := by
    rw [hb, entryB, headB_eq]
    simp only [List.append_assoc]
  have hf : front b = num e.kind.toNat ++ (lenB e.key ++ (num e.body.length ++ (e.body ++ (D8 (headB e) ++ r)).take (min b.length 70 - (num e.kind.toNat ++ (lenB e.key ++ num e.body.length)).length))) := by
    have hm : (num e.kind.toNat ++ (lenB e.key ++ num e.body.length)).length ≤ min b.length 70 := by
      have : b.length = (num e.kind.toNat ++ (lenB e.key ++ num e.body.length)).length + (e.body ++ (D8 (headB e) ++ r)).length := by
        conv => lhs; rw [hb2]
        rw [List.length_append]
      omega
    unfold front
    conv => lhs; arg 2; rw [hb2]
    rw [List.take_append, List.take_of_length_le hm]
    simp only [List.append_assoc]
  obtain ⟨e1, e2, e3⟩ := P3_of hf (by omega) h3 h4
  have ha : ((num e.kind.toNat).length + (lenB e.key).length + (num e.body.length).length) = (num e.kind.toNat ++ (lenB e.key ++ num e.body.length)).length := by simp only [List.length_append]; omega
  have hh : headB e = (num e.kind.toNat ++ (lenB e.key ++ num e.body.length)) ++ e.body := by
    rw [headB_eq]
    simp only [List.append_assoc]
  have hhl : (num e.kind.toNat).length + (lenB e.key).length + (num e.body.length).length + e.body.length = (headB e).length := by rw [hh]; simp only [List.length_append]; omega
  have hb3 : b = headB e ++ (D8 (headB e) ++ r) := by rw [hb, entryB, List.append_assoc]
  refine ⟨_, by rw [e1]; omega, e2, e3, ?_, ?_, ?_, ?_, ?_⟩
  · rw [hhl, entryB, List.length_append, D8_length]
  · have : b.length = (headB e).length + (8 + r.length) := by
      conv => lhs; rw [hb3]
      rw [List.length_append, List.length_append, D8_length]
    omega
  · rw [hhl, hb3, List.take_left]
  · rw [hhl, hb3, List.drop_left]
    exact List.take_left' (D8_length _)
  · rw [ha, hb2, List.drop_left, List.take_left]
theorem prog_inv {b : List UInt8} (h : (P3 (front b)).2.2 = 0) (h2 : (P3 (front b)).2.1 + (P3 (front b)).1 + 8 ≤ b.length) (h3 : (b.drop ((P3 (front b)).2.1 + (P3 (front b)).1)).take 8 = D8 (b.take ((P3 (front b)).2.1 + (P3 (front b)).1))) :
    Begins b ⟨((P1 (front b)).1 : Nat), (P2 (front b)).1, (b.drop (P3 (front b)).2.1).take (P3 (front b)).1⟩ ∧ (entryB D8 ⟨((P1 (front b)).1 : Nat), (P2 (front b)).1, (b.drop (P3 (front b)).2.1).take (P3 (front b)).1⟩).length = (P3 (front b)).2.1 + (P3 (front b)).1 + 8 := by
  obtain ⟨k1, k2, k3, r, k4, k5⟩ := P3_inv h
  generalize (P1 (front b)).1 = kd at *
  generalize (P2 (front b)).1 = key at *
  generalize (P3 (front b)).1 = sz at *
  generalize (P3 (front b)).2.1 = a at *
  have hfr : b = front b ++ b.drop (min b.length 70) := (List.take_append_drop _ _).symm
  have hb : b = (num kd ++ (lenB key ++ num sz)) ++ (r ++ b.drop (min b.length 70)) := by
    conv => lhs; rw [hfr, k4]
    simp only [List.append_assoc]
  have ha : a = (num kd ++ (lenB key ++ num sz)).length := by rw [k5]; simp only [List.length_append]; omega
  have hbl : ((b.drop a).take sz).length = sz := by rw [List.length_take, List.length_drop]; omega
  have hhead : headB ⟨(kd : Int), key, (b.drop a).take sz⟩ = b.take (a + sz) := by
    rw [headB_eq]
    simp only [Int.toNat_natCast, hbl]
    have e1 : b.take a = num kd ++ (lenB key ++ num sz) := by
      rw [ha]
      conv => lhs; arg 2; rw [hb]
      rw [List.take_left]
    have e2 : b.take (a + sz) = b.take a ++ (b.drop a).take sz := List.take_add
    rw [e2, e1]
    simp only [List.append_assoc]
  have hent : entryB D8 ⟨(kd : Int), key, (b.drop a).take sz⟩ = b.take (a + sz + 8) := by
    rw [entryB, hhead, ← h3, ← List.take_add]
  refine ⟨⟨⟨Int.natCast_nonneg _, by simp only; omega, k2, by rw [hbl]; exact k3⟩, b.drop (a + sz + 8), ?_⟩, ?_⟩
  · rw [hent, List.take_append_drop]
  · rw [hent, List.length_take]
    omega
theorem doc_yes {b : List UInt8} {e : En} (h : Begins b e) : ∃ a, ((P1 b).1 : Int) = e.kind ∧ (P2 b).1 = e.key ∧ Q3 b = (e.body, a, 0) ∧ a + 8 = (entryB D8 e).length ∧ a + 8 ≤ b.length ∧ b.take (a + 8) = entryB D8 e := by
  obtain ⟨⟨h1, h2, h3, h4⟩, r, hb⟩ := h
  have hb2 : b = num e.kind.toNat ++ (lenB e.key ++ (lenB e.body ++ (D8 (headB e) ++ r))) := by
    rw [hb, entryB, headB_eq]
    simp only [lenB, List.append_assoc]
  obtain ⟨e1, e2, e3⟩ := Q3_of hb2 (by omega) h3 h4
  have hh : (num e.kind.toNat).length + (lenB e.key).length + (lenB e.body).length = (headB e).length := by
    rw [headB_eq]
    simp only [lenB, List.length_append]
    omega
  have hl : (entryB D8 e).length = (headB e).length + 8 := by rw [entryB, List.length_append, D8_length]
  refine ⟨_, by rw [e1]; omega, e2, e3, by rw [hh, hl], ?_, ?_⟩
  · have : b.length = (entryB D8 e).length + r.length := by
      conv => lhs; rw [hb]
      rw [List.length_append]
    omega
  · rw [hh, ← hl, hb, List.take_left]
theorem doc_inv {b : List UInt8} (h : (Q3 b).2.2 = 0) : En.Right ⟨((P1 b).1 : Nat), (P2 b).1, (Q3 b).1⟩ ∧ (b.take ((Q3 b).2.1 + 8) = entryB D8 ⟨((P1 b).1 : Nat), (P2 b).1, (Q3 b).1⟩ → Begins b ⟨((P1 b).1 : Nat), (P2 b).1, (Q3 b).1⟩) := by
  obtain ⟨k1, k2, k3, r, k4, k5⟩ := Q3_inv h
  have hr : En.Right ⟨((P1 b).1 : Nat), (P2 b).1, (Q3 b).1⟩ := ⟨Int.natCast_nonneg _, by simp only; omega, k2, k3⟩
  refine ⟨hr, fun he => ⟨hr, b.drop ((Q3 b).2.1 + 8), ?_⟩⟩
  rw [← he, List.take_append_drop]

/-- The entries with which bytes begin, and what is left. -/
def Opens (b : List UInt8) (es : List En) (r : List UInt8) : Prop := b = allB D8 es ++ r ∧ (∀ e ∈ es, e.Right) ∧ ∀ e, ¬ Begins r e
theorem opens_inj : ∀ {es fs : List En} {b r s : List UInt8}, Opens b es r → Opens b fs s → es = fs ∧ r = s
  | [], [], b, r, s, h, k => by
    have h1 := h.1
    have k1 := k.1
    exact ⟨rfl, by rw [h1] at k1; simpa [allB] using k1⟩
  | [], f :: fs, b, r, s, h, k => by
    have h1 := h.1
    have k1 := k.1
    refine absurd ⟨k.2.1 f (List.mem_cons_self ..), allB D8 fs ++ s, ?_⟩ (h.2.2 f)
    rw [h1] at k1
    simpa [allB] using k1
  | e :: es, [], b, r, s, h, k => by
    have h1 := h.1
    have k1 := k.1
    refine absurd ⟨h.2.1 e (List.mem_cons_self ..), allB D8 es ++ r, ?_⟩ (k.2.2 e)
    rw [k1] at h1
    simpa [allB] using h1
  | e :: es, f :: fs, b, r, s, h, k => by
    have h1 : b = entryB D8 e ++ (allB D8 es ++ r) := by rw [h.1]; simp [allB]
    have k1 : b = entryB D8 f ++ (allB D8 fs ++ s) := by rw [k.1]; simp [allB]
    obtain ⟨rfl, h2⟩ := entryB_inj D8_length (h.2.1 e (List.mem_cons_self ..)).1 (k.2.1 f (List.mem_cons_self ..)).1 (h1.symm.trans k1)
    obtain ⟨rfl, h3⟩ := opens_inj (b := allB D8 es ++ r) ⟨rfl, fun x hx => h.2.1 x (List.mem_cons_of_mem _ hx), h.2.2⟩ ⟨h2, fun x hx => k.2.1 x (List.mem_cons_of_mem _ hx), k.2.2⟩
    exact ⟨rfl, h3⟩
end Go.Proofs.Ytidppcaohkfnfaa
