/-
  LexTwo: the walk.
-/
import Derived.Test.YtlfckmekfncboaaDoorL11
import Derived.Test.YtlfckmekfncboaaDoorL13
import Derived.Test.YtlfckmekfncboaaDoorL14
namespace Go.Proofs.YtlfckmekfncboaaDoor
open Go.RowKit

theorem lexF_err : ∀ (f : Nat) (l : List UInt8) (line col : Int) (acc : List Tk) (L C E : Int), l.length < f → lexF f l line col acc = .err L C E → E ≠ 0 ∧ line ≤ L ∧ L ≤ line + l.length
  | 0, _, _, _, _, _, _, _, h, _ => absurd h (by omega)
  | f + 1, [], line, col, acc, L, C, E, _, h => by simp [lexF] at h
  | f + 1, c :: r, line, col, acc, L, C, E, hf, h => by
    have hf' : r.length < f := by simp at hf; omega
    rw [lexF_cons rfl] at h
    rw [List.length_cons]
    by_cases h1 : c = 10
    · rw [if_pos h1] at h
      have := lexF_err f r _ _ acc L C E hf' h
      exact ⟨this.1, by omega, by omega⟩
    · rw [if_neg h1] at h
      by_cases h2 : c = 32 ∨ c = 9
      · rw [if_pos h2] at h
        have := lexF_err f r _ _ acc L C E hf' h
        exact ⟨this.1, by omega, by omega⟩
      · rw [if_neg h2] at h
        by_cases h3 : c = 35
        · have hp : 1 ≤ preN nlB (c :: r) := preN_pos (by subst h3; rfl)
          rw [if_pos h3] at h
          have := lexF_err f _ _ _ acc L C E (by simp; omega) h
          simp only [List.length_drop, List.length_cons] at this
          exact ⟨this.1, by omega, by omega⟩
        · rw [if_neg h3] at h
          by_cases h4 : (pieceS (c :: r)).err ≠ 0
          · rw [if_pos h4] at h
            simp only [Res.err.injEq] at h
            obtain ⟨rfl, rfl, rfl⟩ := h
            exact ⟨h4, by omega, by omega⟩
          · rw [if_neg h4] at h
            have hp := (pieceS_len (by simpa using h4) (by simp : c :: r ≠ [])).1
            have := lexF_err f _ _ _ _ L C E (by simp; omega) h
            simp only [List.length_drop, List.length_cons] at this
            exact ⟨this.1, by omega, by omega⟩
theorem lexS_err {l : List UInt8} {L C E : Int} (h : lexS l = .err L C E) : E ≠ 0 ∧ 1 ≤ L ∧ L ≤ 1 + l.length := lexF_err _ l 1 1 [] L C E (by omega) h
/-- What lex.Tokens gives, in one form. -/
theorem tok_gen {l : List UInt8} {w w' : World} {e : Ending} (hp : TokPost l w e w') : ∃ A n c L C E ts, e = .returned (.tuple #[.slice A n c, .agg #[.int .i64 L, .int .i64 C], .int .i64 E]) ∧ n = ts.length ∧ OT w' w.heap.size (.slice A n c) ts ∧ Below w.heap.size w w' ∧ ((lexS l = .ok ts ∧ E = 0) ∨ (lexS l = .err L C E ∧ ts = [])) := by
  cases hlx : lexS l with
  | ok ts =>
    obtain ⟨A, c, he, ho, hb⟩ := tok_ok hlx hp
    exact ⟨A, _, c, 0, 0, 0, ts, he, rfl, ho, hb, .inl ⟨rfl, rfl⟩⟩
  | err L C E =>
    obtain ⟨he, hb⟩ := tok_err hlx hp
    exact ⟨none, 0, 0, L, C, E, [], he, rfl, OT.nil _ _, hb, .inr ⟨rfl, rfl⟩⟩

theorem own_block {w : World} {base size n : Nat} {e : TypeId} {v : Value} {xs : List Value} (h : w.ownsRow base e size v n xs) : ∀ k, v.ownBlock = some k → base ≤ k := by
  intro k hk
  rcases h.2 with ⟨rfl, h0⟩ | ⟨g, cap, cur, rfl, hg, hh, _⟩
  · simp [Value.ownBlock] at hk
  · simp only [Value.ownBlock, Option.some.injEq] at hk
    subst hk
    exact hg
theorem tksCells_append (a b : List Tk) : tksCells (a ++ b) = tksCells a ++ tksCells b := by simp [tksCells]
theorem same_at (ta tb : List Tk) (A B : Option Addr) (n m c d : Nat) (w : World) (hn : ta.length = n) (hm : tb.length = m) (ha : Reads w w.heap.size 5 A n (tksCells ta)) (hb : Reads w w.heap.size 5 B m (tksCells tb)) (na : n ≤ 9223372036854775807) :
    Calls Tryd.prog 18 #[.slice A n c, .slice B m d] w (Tells w (sameT ta tb)) := by
  subst hn hm
  exact same_any ta tb A B c d w ha hb na
theorem sameT_down (us vs : List Tk) (k : Int) : sameT (us ++ vs.map (Tk.down k)) (us ++ vs) = true := by
  unfold sameT
  rw [decide_eq_true_iff, List.map_append, List.map_append, List.map_map]
  rfl
theorem OT.reads {w : World} {base n c : Nat} {A : Option Addr} {ts : List Tk} (h : OT w base (.slice A n c) ts) (hn : n = ts.length) : Reads w w.heap.size 5 A n (tksCells ts) := by
  subst hn
  exact Reads.of_own h
theorem Reads.upto_us {w : World} {B k : Nat} {A : Option Addr} {us : List Tk} {x : Tk} (h : Reads w B 5 A (k + 1) (tksCells (us ++ [x]))) (hk : us.length = k) : Reads w B 5 A k (tksCells us) := by
  have := h.upto (k := k) (by omega)
  rw [tksCells_snoc, List.take_left' (by rw [tksCells_length, hk])] at this
  exact this
theorem tksCells_one (ts : List Tk) : ∀ u ∈ tksCells ts, u.oneCell' = true := by
  intro u hu
  simp only [tksCells, List.mem_flatMap] at hu
  obtain ⟨t, _, h⟩ := hu
  exact tkCells_one t u h
theorem Reads.below_ {w w' : World} {size n : Nat} {A : Option Addr} {xs : List Value} {B : Nat} (h : Reads w B size A n xs) (hb : Below w.heap.size w w') (hB : B ≤ w.heap.size) : Reads w' B size A n xs := h.keep fun _ hp => hb.cell (by omega)

set_option maxHeartbeats 4000000 in
set_option maxRecDepth 100000 in
theorem lexTwo_walk (s t : ByteArray) (w : World) (hs : s.size ≤ 9223372036854775807) (ht : t.size ≤ 9223372036854775807) (hT : Spaces w) :
    Calls Tryd.prog 8 #[.string s, .string t] w (Tells w true) := by
  have HT := Lib.hid hT
  clear hT
  go_enter Tryd.func8, Tryd.ntmps8
  have y1 : min s.size 200 ≤ s.size := by omega
  have y2 : min t.size 200 ≤ t.size := by omega
  have y3 : (0 : Int) ≤ (min s.size 200 : Nat) := by omega
  have y4 : (0 : Int) ≤ (min t.size 200 : Nat) := by omega
  go_wp2_with fail
  go_region
  go_wp2_with fail
  obtain ⟨X, hX, hXl⟩ : ∃ X, s.extract 0 (min (s.size : Int) 200).toNat = str X ∧ X.length ≤ 200 := ⟨_, ext_str s _, by simp; omega⟩
  obtain ⟨Y, hY, hYl⟩ : ∃ X, t.extract 0 (min (t.size : Int) 200).toNat = str X ∧ X.length ≤ 200 := ⟨_, ext_str t _, by simp; omega⟩
  rw [hX, hY]
  clear hX hY y1 y2 y3 y4
  obtain ⟨S, hS⟩ : ∃ S, str X = S := ⟨_, rfl⟩
  obtain ⟨T, hT⟩ : ∃ S, str Y = S := ⟨_, rfl⟩
  have sS : S.size = X.length := by rw [← hS, str_size]
  have sT : T.size = Y.length := by rw [← hT, str_size]
  have lS : S.data.toList = X := by rw [← hS, str_list]
  have lT : T.data.toList = Y := by rw [← hT, str_list]
  obtain ⟨V, hV⟩ : ∃ V, S ++ (⟨#[10]⟩ : ByteArray) = V := ⟨_, rfl⟩
  obtain ⟨U, hU⟩ : ∃ U, V ++ T = U := ⟨_, rfl⟩
  have hVs : V = str (X ++ [10]) := by rw [← hV, ← hS]; exact str_append X [10]
  have hUs : U = str (X ++ 10 :: Y) := by rw [← hU, hVs, ← hT, str_append, List.append_assoc]; rfl
  have sV : V.size = X.length + 1 := by rw [hVs, str_size]; simp
  have sU : U.size = X.length + 1 + Y.length := by rw [hUs, str_size]; simp; omega
  have lU : U.data.toList = X ++ 10 :: Y := by rw [hUs, str_list]
  rw [hS, hT]
  have HS := Lib.hid hS
  have HLS := Lib.hid lS
  have HLT := Lib.hid lT
  have HLU := Lib.hid lU
  have v1 : ¬ (9223372036854775807 < S.size + 1) := by omega
  have v2 : ¬ (9223372036854775807 < V.size + T.size) := by omega
  clear hS hT lS lT lU hVs hUs hs ht
  have LT := Lib.hid (lexS_two X Y)
  refine (tokens_any S w.drew (HT.out.below (Below.refl _ w).drew) (by omega)).mono ?_
  intro e w1 hp
  obtain ⟨A1, n1, c1, L1, C1, E1, t1, rfl, hn1, o1, b1, r1⟩ := tok_gen hp
  rw [HLS.out] at r1
  have f1 : Below w.heap.size w w1 := (Below.refl _ w).drew.then_ b1
  have O1 := Lib.hid o1
  have P1 := Lib.hid (Blk.new w1 24 #[.int .i64 L1, .int .i64 C1])
  have R1 := Lib.hid r1
  have N1 := Lib.hid hn1
  clear hp o1 r1 b1 hn1
  go_wp2_with fail
  refine (tokens_any T _ (HT.out.below (f1.al _)) (by omega)).mono ?_
  intro e w3 hp
  obtain ⟨A2, n2, c2, L2, C2, E2, t2, rfl, hn2, o2, b2, r2⟩ := tok_gen hp
  rw [HLT.out] at r2
  have f2 : Below w.heap.size w w3 := (f1.al _).then_ b2
  have O1 := Lib.hid ((O1.out.below_ ((Below.refl _ w1).al _)).below_ b2)
  have P1 := Lib.hid (Blk.below P1.out b2 (Blk.lt P1.out))
  have O2 := Lib.hid o2
  have P2 := Lib.hid (Blk.new w3 24 #[.int .i64 L2, .int .i64 C2])
  have R2 := Lib.hid r2
  have N2 := Lib.hid hn2
  clear hp o2 r2 b2 hn2
  go_wp2_with fail
  refine (tokens_any U _ (HT.out.below (f2.al _)) (by omega)).mono ?_
  intro e w5 hp
  obtain ⟨A3, n3, c3, L3, C3, E3, t3, rfl, hn3, o3, b3, r3⟩ := tok_gen hp
  rw [HLU.out] at r3
  have f3 : Below w.heap.size w w5 := (f2.al _).then_ b3
  have O1 := Lib.hid ((O1.out.below_ ((Below.refl _ w3).al _)).below_ b3)
  have O2 := Lib.hid ((O2.out.below_ ((Below.refl _ w3).al _)).below_ b3)
  have P1 := Lib.hid (Blk.below (Blk.alloc P1.out _) b3 (Blk.lt (Blk.alloc P1.out _)))
  have P2 := Lib.hid (Blk.below P2.out b3 (Blk.lt P2.out))
  have O3 := Lib.hid o3
  have R3 := Lib.hid r3
  have N3 := Lib.hid hn3
  clear hp o3 r3 b3 hn3
  go_wp2_with fail
  have g3 : Below w.heap.size w (w5.alloc (.cells #[.int .i64 L3, .int .i64 C3] 24)) := f3.al _
  have O1 := Lib.hid (O1.out.below_ ((Below.refl _ w5).al (.cells #[.int .i64 L3, .int .i64 C3] 24)))
  have O2 := Lib.hid (O2.out.below_ ((Below.refl _ w5).al (.cells #[.int .i64 L3, .int .i64 C3] 24)))
  have O3 := Lib.hid (O3.out.below_ ((Below.refl _ w5).al (.cells #[.int .i64 L3, .int .i64 C3] 24)))
  have P1 := Lib.hid (Blk.alloc P1.out (.cells #[.int .i64 L3, .int .i64 C3] 24))
  have P2 := Lib.hid (Blk.alloc P2.out (.cells #[.int .i64 L3, .int .i64 C3] 24))
  have P3 := Lib.hid (Blk.new w5 24 #[.int .i64 L3, .int .i64 C3])
  generalize w5.alloc (.cells #[.int .i64 L3, .int .i64 C3] 24) = W at *
  obtain ⟨G1, hG1⟩ : ∃ G, w1.heap.size = G := ⟨_, rfl⟩
  obtain ⟨G3, hG3⟩ : ∃ G, w3.heap.size = G := ⟨_, rfl⟩
  obtain ⟨G5, hG5⟩ : ∃ G, w5.heap.size = G := ⟨_, rfl⟩
  rw [hG1, hG3, hG5]
  rw [hG1] at P1
  rw [hG3] at P2
  rw [hG5] at P3
  clear f1 f2 f3
  go_loopw [14, 15] (fun m i wr => ∃ k : Nat, k ≤ S.size ∧ i = .int .i64 k ∧ m = .int .i64 (1 + ((X.take k).count 10 : Nat)) ∧ wr = W) (fun _ i _ => S.size - (intOf i).toNat)
  case atStart => exact ⟨0, by omega, rfl, by simp, rfl⟩
  case round =>
    obtain ⟨k, hkl, rfl, rfl, rfl⟩ := hrel
    by_cases hlt : k < S.size
    · have hkX : k < X.length := by omega
      obtain ⟨c, hc⟩ : ∃ c : UInt8, S[k] = c := ⟨_, rfl⟩
      have hXc : X[k] = c := by
        have h1 := at_list S hlt
        rw [HLS.out, List.getElem?_eq_getElem hkX, hc] at h1
        exact Option.some.inj h1
      have hcnt : (X.take k).count 10 ≤ k := Nat.le_trans List.count_le_length (by rw [List.length_take]; omega)
      have htk : (X.take (k + 1)).count 10 = (X.take k).count 10 + if c = 10 then 1 else 0 := by
        rw [List.take_succ_eq_append_getElem hkX, List.count_append, hXc]
        by_cases h : c = 10 <;> simp [h]
      have HTK := Lib.hid htk
      generalize (X.take k).count 10 = q at hcnt HTK
      clear htk hXc
      by_cases h10 : c = 10
      · have e1 : (c.toNat : Int) = 10 := by rw [h10]; rfl
        have HC := Lib.hid h10
        clear h10
        go_wp2_with fail
        go_roundw
        case rel => exact ⟨k + 1, by omega, by go_num, by rw [HTK.out, if_pos HC.out]; go_num, trivial⟩
        case measure => simp [intOf]; omega
      · have e1 : ¬ (c.toNat : Int) = 10 := fun h => h10 (UInt8.toNat_inj.1 (by have h2 : c.toNat = 10 := by omega
                                                                                rw [h2]; rfl))
        have HC := Lib.hid h10
        clear h10
        go_wp2_with fail
        go_roundw
        case rel => exact ⟨k + 1, by omega, by go_num, by rw [HTK.out, if_neg HC.out]; go_num, trivial⟩
        case measure => simp [intOf]; omega
    · obtain rfl : k = S.size := by omega
      have htk : X.take S.size = X := List.take_of_length_le (by omega)
      have hcnt : X.count 10 ≤ 200 := Nat.le_trans List.count_le_length hXl
      have hlt := LT.out
      rw [htk]
      clear htk
      generalize X.count 10 = q at hcnt hlt
      rcases R1.out with ⟨ok1, rfl⟩ | ⟨er1, rfl⟩
      · rcases R2.out with ⟨ok2, rfl⟩ | ⟨er2, rfl⟩
        · obtain ⟨us, eL, eC, rfl, hul⟩ := lexS_ok ok1
          obtain ⟨vs, fL, fC, rfl, hvl⟩ := lexS_ok ok2
          rw [ok1] at hlt
          simp only [ok2, Res.from_, List.dropLast_concat] at hlt
          obtain ⟨rfl, rfl⟩ : us ++ (vs ++ [(⟨0, [], 0, fL, fC⟩ : Tk)]).map (Tk.down (1 + (q : Int))) = t3 ∧ E3 = 0 := by
            rcases R3.out with ⟨h, h'⟩ | ⟨h, _⟩
            · rw [hlt] at h
              simp only [Res.ok.injEq] at h
              exact ⟨h, h'⟩
            · rw [hlt] at h; cases h
          clear hlt ok1 ok2 R1 R2 R3
          obtain ⟨k1, hk1⟩ : ∃ k, us.length = k := ⟨_, rfl⟩
          obtain ⟨k2, hk2⟩ : ∃ k, vs.length = k := ⟨_, rfl⟩
          obtain rfl : n1 = k1 + 1 := by rw [N1.out, List.length_append, hk1]; rfl
          obtain rfl : n2 = k2 + 1 := by rw [N2.out, List.length_append, hk2]; rfl
          obtain rfl : n3 = k1 + (k2 + 1) := by rw [N3.out, List.length_append, List.length_map, List.length_append, hk1, hk2, List.length_singleton]
          have hk1l : k1 ≤ 200 := by omega
          have hk2l : k2 ≤ 200 := by omega
          have H1 := Lib.hid hk1
          have H2 := Lib.hid hk2
          clear N1 N2 N3 P1 P2 P3
          obtain ⟨g1, rfl, _, _, hnl, hc1, hc1', _⟩ := O1.out.addr (by omega)
          clear hnl
          have z1 : (0 : Int) ≤ (k1 : Int) := by omega
          have z2 : k1 ≤ c1 := by omega
          have H3 := Lib.hid (show (us ++ (vs ++ [(⟨0, [], 0, fL, fC⟩ : Tk)]).map (Tk.down (1 + (q : Int)))).length = k1 + (k2 + 1) by simp [hk1, hk2])
          have H4 := Lib.hid (show (us ++ (vs ++ [(⟨0, [], 0, fL, fC⟩ : Tk)])).length = k1 + (k2 + 1) by simp [hk1, hk2])
          obtain ⟨i0, hi0, hz0, hz1, hz2⟩ := info_parts info_tok
          clear hk1 hk2
          go_wp2_with (first | (go_at_call 11; refine (known_any _ (HT.out.below g3)).mono ?_; rintro e w7 ⟨rfl, b7⟩; have f7 := g3.then_ b7; have O1 := Lib.hid (O1.out.below_ b7); have O2 := Lib.hid (O2.out.below_ b7); have O3 := Lib.hid (O3.out.below_ b7); have RD1 := Lib.hid (Reads.upto_us (O1.out.reads (by rw [List.length_append, H1.out]; rfl)) H1.out); have RD2 := Lib.hid (O2.out.reads (by rw [List.length_append, H2.out]; rfl)); have RD3 := Lib.hid (O3.out.reads H3.out.symm); have own0 := Lib.hid (own_empty (size := 5) (Blk.new w7 31 #[]) (Nat.le_refl _)); clear b7) | (at_builtin; refine wpList_append_any _ (by rfl) (.tmp 101) (.tmp 106) 22 rfl w7.heap.size 31 i0 _ 5 48 Tryd.underlying22 hi0 hz0 hz1 hz2 rfl (by omega) (.slice (some ⟨w7.heap.size, 0, none⟩) 0 0) 0 [] rfl own0.out _ _ k1 c1 (tksCells us) rfl (RD1.out.alloc (Nat.le_refl _) _) (tksCells_one us) (by unfold maxLen; omega) (by omega) (by simp) ?_; intro v8 w8 o8 g8 at8; obtain ⟨A8, c8, rfl⟩ := own_slice o8; rw [Nat.zero_add, List.nil_append] at o8; rw [Nat.zero_add]; have b8 : Below w7.heap.size w7 w8 := ((Below.refl _ w7).al _).trans ((Kept.of_grown (S := fun k => k = w7.heap.size) g8 (by intro k e; simp [Value.ownBlock] at e; exact e.symm)).to_below (by simp) (fun k hk => by omega)); have RD2 := Lib.hid (RD2.out.below b8); have RD3 := Lib.hid (RD3.out.below b8); have own8 := Lib.hid o8; clear o8 g8 at8) | (at_builtin; refine wpList_append_any _ (by rfl) (.tmp 107) (.tmp 108) 22 rfl w7.heap.size 31 i0 _ 5 48 Tryd.underlying22 hi0 hz0 hz1 hz2 rfl (by omega) (.slice A8 k1 c8) k1 (tksCells us) rfl own8.out _ _ (k2 + 1) c2 (tksCells (vs ++ [(⟨0, [], 0, fL, fC⟩ : Tk)])) rfl RD2.out (tksCells_one _) (by unfold maxLen; omega) (by omega) b8.size ?_; intro v9 w9 o9 g9 at9; obtain ⟨A9, c9, rfl⟩ := own_slice o9; have b9 : Below w7.heap.size w7 w9 := b8.trans ((Kept.of_grown (S := fun k => w7.heap.size ≤ k) g9 (own_block own8.out)).to_below b8.size (fun k hk => by omega)); have RD3 := Lib.hid ((RD3.out.keep fun _ hp => (b9.cell hp).trans (b8.cell hp).symm).more b9.size); have RD9 := Lib.hid (Reads.of_own o9); clear o9 g9 at9) | (go_at_call 18; refine (same_at (us ++ (vs ++ [(⟨0, [], 0, fL, fC⟩ : Tk)]).map (Tk.down (1 + (q : Int)))) (us ++ (vs ++ [(⟨0, [], 0, fL, fC⟩ : Tk)])) A3 A9 _ _ c3 c9 w9 H3.out H4.out RD3.out (by rw [tksCells_append]; exact RD9.out) (by omega)).mono ?_; rw [sameT_down]; rintro e w10 ⟨rfl, b10⟩; have f10 := (f7.then_ b9).then_ b10))
          go_ret
          exact ⟨rfl, f10⟩
        · obtain ⟨z2, z3, z4⟩ := lexS_err er2
          rw [ok1] at hlt
          simp only [er2, Res.from_] at hlt
          obtain ⟨rfl, rfl, rfl, rfl⟩ : L3 = L2 + (1 + (q : Int)) ∧ C2 = C3 ∧ E2 = E3 ∧ t3 = [] := by
            rcases R3.out with ⟨h, _⟩ | ⟨h, h'⟩
            · rw [hlt] at h; cases h
            · rw [hlt] at h
              simp only [Res.err.injEq] at h
              exact ⟨h.1.symm, h.2.1, h.2.2, h'⟩
          clear hlt
          go_wp2_with (go_at_call 11; refine (known_any _ (HT.out.below g3)).mono ?_; rintro e w7 ⟨rfl, b7⟩; have f7 := g3.then_ b7; have S2 := P2.out.below b7 (Blk.lt P2.out); have S3 := P3.out.below b7 (Blk.lt P3.out); have q1 : w7.cell? ⟨G3, 0, none⟩ = some (.int .i64 L2) := S2.cell 0; have q2 : w7.cell? ⟨G3, 1, none⟩ = some (.int .i64 C2) := S2.cell 1; have q3 : w7.cell? ⟨G5, 0, none⟩ = some (.int .i64 (L2 + (1 + (q : Int)))) := S3.cell 0; have q4 : w7.cell? ⟨G5, 1, none⟩ = some (.int .i64 C2) := S3.cell 1; clear S2 S3)
          go_ret
          exact ⟨rfl, f7⟩
      · obtain ⟨z2, z3, z4⟩ := lexS_err er1
        rw [er1] at hlt
        obtain ⟨rfl, rfl, rfl, rfl⟩ : L1 = L3 ∧ C1 = C3 ∧ E1 = E3 ∧ t3 = [] := by
          rcases R3.out with ⟨h, _⟩ | ⟨h, h'⟩
          · rw [hlt] at h; cases h
          · rw [hlt] at h
            simp only [Res.err.injEq] at h
            exact ⟨h.1, h.2.1, h.2.2, h'⟩
        clear hlt
        go_wp2_with (go_at_call 11; refine (known_any _ (HT.out.below g3)).mono ?_; rintro e w7 ⟨rfl, b7⟩; have f7 := g3.then_ b7; have S2 := P1.out.below b7 (Blk.lt P1.out); have S3 := P3.out.below b7 (Blk.lt P3.out); have q1 : w7.cell? ⟨G1, 0, none⟩ = some (.int .i64 L1) := S2.cell 0; have q2 : w7.cell? ⟨G1, 1, none⟩ = some (.int .i64 C1) := S2.cell 1; have q3 : w7.cell? ⟨G5, 0, none⟩ = some (.int .i64 L1) := S3.cell 0; have q4 : w7.cell? ⟨G5, 1, none⟩ = some (.int .i64 C1) := S3.cell 1; clear S2 S3)
        go_ret
        exact ⟨rfl, f7⟩
end Go.Proofs.YtlfckmekfncboaaDoor
