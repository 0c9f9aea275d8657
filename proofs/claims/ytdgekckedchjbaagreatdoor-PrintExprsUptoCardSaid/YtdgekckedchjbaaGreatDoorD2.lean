
/-
  The document's lexer: its tokens are the program's.
-/
import Derived.Test.YtdgekckedchjbaaGreatDoorD1
import Derived.Test.YtdgekckedchjbaaGreatDoorQT
import Derived.Test.YtdgekckedchjbaaGreatDoorQQ
namespace Go.Proofs.YtdgekckedchjbaaGreatDoor
open Go.RowKit

theorem info_rtok : (Tryz.prog.info? 108).map (fun i => (i.zero, i.size, i.bytes)) = some (some (.agg #[.int .i64 0, .string ByteArray.empty, .int .i64 0, .int .i64 0, .int .i64 0]), 5, 48) := by kernel_rfl
theorem endS_pos {l : List UInt8} (h : l ≠ []) : 1 ≤ endS l ∧ endS l ≤ l.length := by
  obtain ⟨c, r, rfl⟩ := List.exists_cons_of_ne_nil h
  unfold endS
  rw [List.headD_cons]
  split
  · rename_i hc
    exact ⟨preN_pos (by unfold innB; rcases hc with h | h <;> simp [h]), preN_le _ _⟩
  · split
    · rename_i h2
      exact ⟨by omega, by omega⟩
    · exact ⟨by omega, by simp⟩
theorem headD_take {l : List UInt8} {n : Nat} (hn : 1 ≤ n) : (l.take n).headD 0 = l.headD 0 := by
  obtain ⟨m, rfl⟩ : ∃ m, n = m + 1 := ⟨n - 1, by omega⟩
  cases l <;> rfl
theorem let_dig {c : UInt8} (h : letB c = true) : digB c = false := by
  cases hd : digB c with
  | false => rfl
  | true =>
    have h1 := digB_t.1 hd
    unfold letB at h
    simp at h
    omega
/-- The document's piece is the program's. -/
theorem pcs_law {l : List UInt8} (h : l ≠ []) : (refPc (l.take (endS l))).err = (pieceS l).err ∧ ((pieceS l).err = 0 → refPc (l.take (endS l)) = pieceS l ∧ (pieceS l).text = l.take (endS l)) := by
  obtain ⟨p1, p2⟩ := endS_pos h
  have hh := headD_take (l := l) p1
  have hlen : (l.take (endS l)).length = endS l := by rw [List.length_take]; omega
  unfold refPc
  rw [hh, hlen]
  unfold pieceS
  by_cases h1 : letB (l.headD 0) = true
  · have he : endS l = preN innB l := by unfold endS; rw [if_pos (.inl h1)]
    rw [he, if_neg (by rw [let_dig h1]; decide), if_neg (by rw [h1]; decide), if_pos h1]
    by_cases h2 : 30 < preN innB l
    · rw [if_pos h2]
      exact ⟨rfl, fun h => absurd h (by decide)⟩
    · rw [if_neg h2]
      by_cases h3 : l.take (preN innB l) ∈ wordsL
      · rw [if_pos h3]
        exact ⟨rfl, fun _ => ⟨rfl, rfl⟩⟩
      · rw [if_neg h3]
        exact ⟨rfl, fun _ => ⟨rfl, rfl⟩⟩
  · by_cases h2 : digB (l.headD 0) = true
    · have he : endS l = preN innB l := by unfold endS; rw [if_pos (.inr h2)]
      rw [he, if_pos h2, if_neg h1, if_pos h2]
      by_cases h3 : (numS (l.take (preN innB l))).2 ≠ 0
      · rw [if_pos h3]
        exact ⟨rfl, fun h => absurd h h3⟩
      · rw [if_neg h3]
        have h4 : (numS (l.take (preN innB l))).2 = 0 := Classical.not_not.1 h3
        exact ⟨h4, fun _ => ⟨by rw [h4], rfl⟩⟩
    · rw [if_neg h2, if_pos (by cases hb : letB (l.headD 0) with | false => rfl | true => exact absurd hb h1), if_neg h1, if_neg h2]
      by_cases h3 : 1 < l.length ∧ l.take 2 ∈ marksL
      · have he : endS l = 2 := by unfold endS; rw [if_neg (by rintro (h | h); exact h1 h; exact h2 h), if_pos h3]
        rw [he, if_pos h3.2, if_pos (show 2 ≤ l.length ∧ l.take 2 ∈ marksL from ⟨by omega, h3.2⟩)]
        exact ⟨rfl, fun _ => ⟨rfl, rfl⟩⟩
      · have he : endS l = 1 := by unfold endS; rw [if_neg (by rintro (h | h); exact h1 h; exact h2 h), if_neg h3]
        rw [he, if_neg (show ¬ (2 ≤ l.length ∧ l.take 2 ∈ marksL) from fun h => h3 ⟨by omega, h.2⟩)]
        by_cases h4 : l.take 1 ∈ marksL
        · rw [if_pos h4]
          exact ⟨rfl, fun _ => ⟨rfl, rfl⟩⟩
        · rw [if_neg h4]
          exact ⟨rfl, fun h => absurd h (by decide)⟩
/-- What the document's Tokens gives. -/
def RTo (w : World) (o : Res) (e : Ending) (w' : World) : Prop := Below w.heap.size w w' ∧ match o with
  | .ok ts => ∃ (A : Option Addr) (c : Nat), e = .returned (.tuple #[.slice A ts.length c, .int .i64 0, .int .i64 0, .int .i64 0]) ∧ w'.ownsRow w.heap.size 108 5 (.slice A ts.length c) ts.length (tksCells ts)
  | .err l c er => e = .returned (.tuple #[.slice none 0 0, .int .i64 l, .int .i64 c, .int .i64 er])
theorem RTo.ok {w w' : World} {o : Res} {ts : List Tk} {A : Option Addr} {n c : Nat} (h : o = .ok ts) (hb : Below w.heap.size w w') (hn : n = ts.length) (ho : w'.ownsRow w.heap.size 108 5 (.slice A n c) n (tksCells ts)) :
    RTo w o (.returned (.tuple #[.slice A n c, .int .i64 0, .int .i64 0, .int .i64 0])) w' := by
  subst h hn
  exact ⟨hb, A, c, rfl, ho⟩
theorem RTo.err {w w' : World} {o : Res} {l c er : Int} (h : o = .err l c er) (hb : Below w.heap.size w w') : RTo w o (.returned (.tuple #[.slice none 0 0, .int .i64 l, .int .i64 c, .int .i64 er])) w' := by
  subst h
  exact ⟨hb, rfl⟩
theorem reads5 (W : World) (t : TypeId) (a b c d e : Value) : Reads (W.alloc (.cells #[a, b, c, d, e] t)) (W.heap.size + 1) 5 (some ⟨W.heap.size, 0, none⟩) 1 [a, b, c, d, e] := by
  refine ⟨rfl, fun _ => ⟨_, rfl, by simp, fun j u hu => ?_⟩⟩
  rw [Addr.add_lit, Nat.zero_add, (Blk.new W t #[a, b, c, d, e]).cell j]
  simpa using hu
theorem one5 (t : Tk) : ∀ u ∈ tkCells t, u.oneCell' = true := by
  intro u hu
  simp only [tkCells, List.mem_cons, List.not_mem_nil, or_false] at hu
  rcases hu with rfl | rfl | rfl | rfl | rfl <;> rfl
theorem byte_ne {c : UInt8} {n : Nat} (hn : n < 256) (h : ¬ c = UInt8.ofNat n) : ((((c.toNat : Nat) : Int)) == (n : Int)) = false := by
  have : ¬ ((c.toNat : Nat) : Int) = n := fun h1 => h (UInt8.toNat_inj.1 (by rw [UInt8.toNat_ofNat']; omega))
  simpa using this
set_option maxHeartbeats 8000000 in
set_option maxRecDepth 100000 in
theorem refTokens_any (s : ByteArray) (w : World) (hs : s.size ≤ 65536) :
    Calls Tryz.prog 46 #[.string s] w (RTo w (lexS s.data.toList)) := by
  obtain ⟨X, hX⟩ : ∃ X, s.data.toList = X := ⟨_, rfl⟩
  have hlen : X.length = s.size := by rw [← hX, size_list]
  rw [hX]
  have HX := Lib.hid hX
  have HL := Lib.hid hlen
  obtain ⟨o, ho⟩ : ∃ o, lexS X = o := ⟨_, rfl⟩
  have h0 : Hid (lexF (X.length + 1) (X.drop 0) 1 ((0 : Nat) - (0 : Nat) + 1) [] = o) := ho
  rw [ho]
  clear hX hlen ho
  have O0 : Hid (w.ownsRow w.heap.size 108 5 (.slice none 0 0) ([] : List Tk).length (tksCells [])) := World.ownsRow_nil _ _ _ _
  go_enter Tryz.func46, Tryz.ntmps46
  go_wp2_with fail
  go_loopw [6, 7, 8, 9] (fun v lv fv av wr => ∃ (k fr f : Nat) (line : Int) (acc : List Tk), k ≤ s.size ∧ fr ≤ k ∧ av = .int .i64 k ∧ fv = .int .i64 fr ∧ lv = .int .i64 line ∧ 1 ≤ line ∧ line ≤ k + 1 ∧ Hid (wr.ownsRow w.heap.size 108 5 v acc.length (tksCells acc)) ∧ acc.length ≤ k ∧ Hid (lexF f (X.drop k) line ((k : Int) - (fr : Int) + 1) acc = o) ∧ s.size - k < f ∧ Hid (Below w.heap.size w wr)) (fun _ _ _ av _ => s.size - (intOf av).toNat)
  case atStart => exact ⟨0, 0, X.length + 1, 1, [], by omega, by omega, rfl, rfl, rfl, by omega, by omega, O0, by simp, h0, by rw [HL.out]; omega, Below.refl _ _⟩
  case round =>
    obtain ⟨k, fr, f, line, acc, hk, hfr, rfl, rfl, rfl, hl1, hl2, hoA, hac, hlx, hf, hbw⟩ := hrel
    obtain ⟨wo, rfl⟩ : ∃ x, x = wr := ⟨_, rfl⟩
    obtain ⟨f, rfl⟩ : ∃ g, f = g + 1 := ⟨f - 1, by omega⟩
    have wl : IntKind.i64.wrap (line + 1) = line + 1 := IntWalk.i64_in _ ⟨by omega, by omega⟩
    have wk : IntKind.i64.wrap ((k : Int) + 1) = (k : Int) + 1 := IntWalk.i64_in _ ⟨by omega, by omega⟩
    have wc : IntKind.i64.wrap ((k : Int) - (fr : Int)) = (k : Int) - (fr : Int) := IntWalk.i64_in _ ⟨by omega, by omega⟩
    have wd : IntKind.i64.wrap ((k : Int) - (fr : Int) + 1) = (k : Int) - (fr : Int) + 1 := IntWalk.i64_in _ ⟨by omega, by omega⟩
    by_cases hlt : k < s.size
    · have hkX : k < X.length := by rw [HL.out]; exact hlt
      obtain ⟨c, hc⟩ : ∃ c : UInt8, s[k] = c := ⟨_, rfl⟩
      have hd : X.drop k = c :: X.drop (k + 1) := by
        have h1 := at_list s hlt
        rw [HX.out, List.getElem?_eq_getElem hkX, hc] at h1
        rw [List.drop_eq_getElem_cons hkX, Option.some.inj h1]
      have HD := Lib.hid hd
      have hst := hlx.out
      rw [hd, lexF_cons rfl] at hst
      clear hd hlx
      by_cases c10 : c = 10
      · have HS : Hid (lexF f (X.drop (k + 1)) (line + 1) (((k + 1 : Nat) : Int) - ((k + 1 : Nat) : Int) + 1) acc = o) := by
          rw [Hid, Int.sub_self]
          rw [if_pos c10] at hst
          exact hst
        have e10 : ((c.toNat : Nat) : Int) = 10 := by rw [c10]; rfl
        clear hst c10
        go_wp2_with fail
        go_roundw
        case rel => exact ⟨k + 1, k + 1, f, line + 1, acc, by omega, by omega, by go_num, by go_num, rfl, by omega, by omega, hoA, by omega, HS, by omega, hbw⟩
        case measure => simp [intOf]; omega
      rw [if_neg c10] at hst
      have b10 : ((((c.toNat : Nat) : Int)) == 10) = false := byte_ne (n := 10) (by decide) c10
      by_cases c32 : c = 32 ∨ c = 9
      · have HS : Hid (lexF f (X.drop (k + 1)) line (((k + 1 : Nat) : Int) - (fr : Int) + 1) acc = o) := by
          rw [if_pos c32] at hst
          rw [Hid, ← hst]
          congr 1
          omega
        clear hst c10
        rcases c32 with c32 | c9
        · have e32 : ((c.toNat : Nat) : Int) = 32 := by rw [c32]; rfl
          clear c32
          go_wp2_with fail
          go_roundw
          case rel => exact ⟨k + 1, fr, f, line, acc, by omega, by omega, by go_num, rfl, rfl, by omega, by omega, hoA, by omega, HS, by omega, hbw⟩
          case measure => simp [intOf]; omega
        · have e9 : ((c.toNat : Nat) : Int) = 9 := by rw [c9]; rfl
          have b32 : ((((c.toNat : Nat) : Int)) == 32) = false := byte_ne (c := c) (n := 32) (by decide) (by rw [c9]; decide)
          clear c9
          go_wp2_with fail
          go_roundw
          case rel => exact ⟨k + 1, fr, f, line, acc, by omega, by omega, by go_num, rfl, rfl, by omega, by omega, hoA, by omega, HS, by omega, hbw⟩
          case measure => simp [intOf]; omega
      rw [if_neg c32] at hst
      have b32 : ((((c.toNat : Nat) : Int)) == 32) = false := byte_ne (c := c) (n := 32) (by decide) (fun h => c32 (.inl h))
      have b9 : ((((c.toNat : Nat) : Int)) == 9) = false := byte_ne (c := c) (n := 9) (by decide) (fun h => c32 (.inr h))
      clear c10 c32
      by_cases c35 : c = 35
      · rw [if_pos c35] at hst
        have HST := Lib.hid hst
        have e35 : ((c.toNat : Nat) : Int) = 35 := by rw [c35]; rfl
        clear hst c35
        go_wp2_with fail
        go_loopw [9] (fun av wq => ∃ q : Nat, k ≤ q ∧ q ≤ s.size ∧ av = .int .i64 q ∧ Hid (∀ j (hj : j < (X.drop k).length), j < q - k → nlB ((X.drop k)[j]'hj) = true) ∧ wq = wo) (fun av _ => s.size - (intOf av).toNat)
        case atStart => exact ⟨k, by omega, by omega, rfl, (fun j hj h => absurd h (by omega)), rfl⟩
        case round =>
          obtain ⟨q, hkq, hq, rfl, hp, rfl⟩ := hrel
          have wq' : IntKind.i64.wrap ((q : Int) + 1) = (q : Int) + 1 := IntWalk.i64_in _ ⟨by omega, by omega⟩
          have hgo : preN nlB (X.drop k) = q - k → k < q → Hid (lexF f (X.drop q) line ((q : Int) - (fr : Int) + 1) acc = o) := fun h1 h2 => by
            have h3 := HST.out
            rw [← HD.out, h1, List.drop_drop, show k + (q - k) = q by omega] at h3
            rw [Hid, ← h3]
            congr 1
            omega
          have HGO := Lib.hid hgo
          clear hgo
          by_cases hlt2 : q < s.size
          · obtain ⟨d, hdq⟩ : ∃ d : UInt8, s[q] = d := ⟨_, rfl⟩
            have hqX : q - k < (X.drop k).length := by rw [List.length_drop, HL.out]; omega
            have hXd : (X.drop k)[q - k]'hqX = d := by
              have h1 := at_list s hlt2
              have h2 : (X.drop k)[q - k]? = X[q]? := by rw [List.getElem?_drop, show k + (q - k) = q by omega]
              rw [HX.out, hdq] at h1
              rw [h1, List.getElem?_eq_getElem hqX] at h2
              exact Option.some.inj h2
            have HXD := Lib.hid hXd
            clear hXd
            by_cases d10 : d = 10
            · have hne : k < q := by
                rcases Nat.lt_or_ge k q with h | h
                · exact h
                · exfalso
                  have : k = q := by omega
                  subst this
                  rw [hc] at hdq
                  rw [← hdq] at d10
                  rw [d10] at e35
                  exact absurd e35 (by decide)
              have HN := HGO.out (preN_eq (by omega) hp.out (fun hj => by rw [HXD.out, d10]; rfl)) hne
              have e10 : ((d.toNat : Nat) : Int) = 10 := by rw [d10]; rfl
              clear d10
              go_wp2_with fail
              go_roundw
              case rel => exact ⟨q, fr, f, line, acc, by omega, by omega, rfl, rfl, rfl, by omega, by omega, hoA, by omega, HN, by omega, hbw⟩
              case measure => simp [intOf]; omega
            · have b10' : ((((d.toNat : Nat) : Int)) == 10) = false := byte_ne (c := d) (n := 10) (by decide) d10
              have HP2 : Hid (∀ j (hj : j < (X.drop k).length), j < q + 1 - k → nlB ((X.drop k)[j]'hj) = true) := fun j hj h => by
                rcases Nat.lt_or_ge j (q - k) with h1 | h1
                · exact hp.out j hj h1
                · obtain rfl : j = q - k := by omega
                  rw [HXD.out]
                  unfold nlB
                  rw [decide_eq_true_iff]
                  intro e
                  exact d10 (UInt8.toNat_inj.1 (by rw [e]; rfl))
              clear d10
              go_wp2_with fail
              go_roundw
              case rel => exact ⟨q + 1, by omega, by omega, by go_num, HP2, by trivial⟩
              case measure => simp [intOf]; omega
          · obtain rfl : q = s.size := by omega
            have HN := HGO.out (preN_eq (by rw [List.length_drop, HL.out]; omega) hp.out (fun hj => by rw [List.length_drop, HL.out] at hj; omega)) hlt
            go_wp2_with fail
            go_roundw
            case rel => exact ⟨s.size, fr, f, line, acc, by omega, by omega, rfl, rfl, rfl, by omega, by omega, hoA, by omega, HN, by omega, hbw⟩
            case measure => simp [intOf]; omega
      rw [if_neg c35] at hst
      have b35 : ((((c.toNat : Nat) : Int)) == 35) = false := byte_ne (c := c) (n := 35) (by decide) c35
      rw [← HD.out] at hst
      have hne : X.drop k ≠ [] := by rw [HD.out]; simp
      obtain ⟨p1, p2⟩ := endS_pos hne
      obtain ⟨l1, l2⟩ := pcs_law hne
      rw [List.length_drop, HL.out] at p2
      obtain ⟨n, hn⟩ : ∃ n, endS (X.drop k) = n := ⟨_, rfl⟩
      obtain ⟨x, hx⟩ : ∃ x, (X.drop k).take n = x := ⟨_, rfl⟩
      rw [hn] at p1 p2 l1 l2
      rw [hx] at l1 l2
      have hxl : x.length = n := by rw [← hx, List.length_take, List.length_drop, HL.out]; omega
      have hex : s.extract k (k + n) = str x := by
        apply ba_ext
        rw [str_list, ← hx, ← HX.out]
        simp [List.take_drop]
      have E1 := Lib.hid (refEndAt_any s k wo hlt hs)
      rw [HX.out, hn] at E1
      have wn : (0 : Int) ≤ (k : Int) := by omega
      have wn2 : (k : Int) ≤ ((k + n : Nat) : Int) := by omega
      have wn3 : ((k + n : Nat) : Int) ≤ (s.size : Int) := by omega
      have HST := Lib.hid hst
      have L1 := Lib.hid l1
      have L2 := Lib.hid l2
      have HXL := Lib.hid hxl
      have hbz := hbw.out.size
      have P1 := Lib.hid (fun W => refPiece_any x W (by intro e; rw [e] at hxl; simp at hxl; omega) (by rw [hxl]; omega))
      clear hst c35 hne hx hn l1 l2 hxl
      go_wp2_with fail
      refine E1.out.mono ?_
      rintro e w1 ⟨rfl, b1⟩
      go_wp2_with fail
      refine (P1.out w1).mono ?_
      rintro e w2 ⟨rfl, b2⟩
      have F2 := Lib.hid (hbw.out.trans ((b1.trans (b2.mono b1.size)).mono hbz))
      have B12 := Lib.hid (b1.trans (b2.mono b1.size))
      clear b1 b2 E1 P1
      unfold pcV
      obtain ⟨⟨pk, pt, pn, pe⟩, hp⟩ : ∃ p, refPc x = p := ⟨_, rfl⟩
      rw [hp] at L1 L2 ⊢
      obtain ⟨ql, hql⟩ : ∃ q, pieceS (X.drop k) = q := ⟨_, rfl⟩
      rw [hql] at L1 L2 HST
      have l1 : pe = ql.err := L1.out
      by_cases hz : ql.err = 0
      · obtain ⟨h3, h4⟩ := L2.out hz
        subst h3
        simp only at hz h4
        subst hz h4
        have hst := HST.out
        rw [if_neg (by simp)] at hst
        simp only at hst
        rw [HXL.out] at hst
        have HS : Hid (lexF f (X.drop (k + n)) line (((k + n : Nat) : Int) - (fr : Int) + 1) (acc ++ [⟨pk, pt, pn, line, (k : Int) - (fr : Int) + 1⟩]) = o) := by
          rw [Hid, ← hst, List.drop_drop]
          congr 1
          omega
        obtain ⟨i0, hi0, hz0, hz1, hz2⟩ := info_parts info_rtok
        obtain ⟨m, hm⟩ : ∃ m, acc.length = m := ⟨_, rfl⟩
        have hO := hoA.out
        rw [hm] at hO hac
        have HM := Lib.hid hm
        have hbl := own_block hO
        have hblt := own_lt hO
        have O2 := Lib.hid (own_below hO B12.out (Nat.le_refl _))
        have HBL := Lib.hid hbl
        have HBT := Lib.hid hblt
        have f2z := F2.out.size
        have b12z := B12.out.size
        clear hst hql l1 L1 L2 HST hp hO hm hbl hblt
        go_upto_region 20 with fail
        have y3 := Blk.new w2 108 #[.int .i64 pk, .string (str pt), .int .i64 pn, .int .i64 line, .int .i64 ((k : Int) - (fr : Int) + 1)]
        have F3 := Lib.hid (F2.out.alloc F2.out.size (.cells #[.int .i64 pk, .string (str pt), .int .i64 pn, .int .i64 line, .int .i64 ((k : Int) - (fr : Int) + 1)] 108))
        have O3 := Lib.hid (World.ownsRow.alloc O2.out (.cells #[.int .i64 pk, .string (str pt), .int .i64 pn, .int .i64 line, .int .i64 ((k : Int) - (fr : Int) + 1)] 108))
        generalize w2.alloc (.cells #[.int .i64 pk, .string (str pt), .int .i64 pn, .int .i64 line, .int .i64 ((k : Int) - (fr : Int) + 1)] 108) = W3 at *
        have s0 := y3.cell 0
        have s1 := y3.cell 1
        have s2 := y3.cell 2
        have s3 := y3.cell 3
        have s4 := y3.cell 4
        have own7 := Lib.hid (World.ownsRow.alloc O3.out (.cells #[.int .i64 pk, .string (str pt), .int .i64 pn, .int .i64 line, .int .i64 ((k : Int) - (fr : Int) + 1)] 108))
        have RD := Lib.hid (reads5 W3 108 (.int .i64 pk) (.string (str pt)) (.int .i64 pn) (.int .i64 line) (.int .i64 ((k : Int) - (fr : Int) + 1)))
        have ONE := Lib.hid (one5 ⟨pk, pt, pn, line, (k : Int) - (fr : Int) + 1⟩)
        have f3z := F3.out.size
        clear y3 O2 O3
        go_wp2_with (first | (at_builtin; refine wpList_append_any _ (by rfl) (.tmp 82) (.tmp 84) 100 rfl w.heap.size 108 i0 _ 5 48 Tryz.underlying100 hi0 hz0 hz1 hz2 rfl (by omega) u6 m (tksCells acc) rfl own7.out _ _ 1 1 (tkCells ⟨pk, pt, pn, line, (k : Int) - (fr : Int) + 1⟩) rfl RD.out ONE.out (by unfold maxLen; omega) (by omega) (by simp; omega) ?_; intro v8 w8 o8 g8 at8; have b8 : Below w.heap.size w w8 := (F3.out.alloc f3z _).trans ((Kept.of_grown (S := fun k => w.heap.size ≤ k) g8 HBL.out).to_below (by simp; omega) (fun k hk => by omega)); have O8 := Lib.hid o8; have B8 := Lib.hid b8; clear o8 g8 at8 b8))
        go_roundw
        case rel => exact ⟨k + n, fr, f, line, acc ++ [⟨pk, pt, pn, line, (k : Int) - (fr : Int) + 1⟩], by omega, by omega, by go_num, rfl, rfl, by omega, by omega, (by
          have h := O8.out
          rw [← tksCells_snoc] at h
          rw [Hid, List.length_append, HM.out]
          exact h), by rw [List.length_append, HM.out]; simp; omega, HS, by omega, B8.out⟩
        case measure => simp [intOf]; omega
      · have hst := HST.out
        rw [if_pos hz] at hst
        have HS := Lib.hid hst
        have hpe : ¬ pe = 0 := by rw [l1]; exact hz
        have hpb : ((pe : Int) == 0) = false := by simpa using hpe
        rw [← l1] at HS
        clear hst hql l1 L1 L2 HST hp hz
        go_wp2_with fail
        refine bodyPost_ret (v := .tuple #[.slice none 0 0, .int .i64 line, .int .i64 ((k : Int) - (fr : Int) + 1), .int .i64 pe]) (by simp [results, Tryz.results46, go_sem]) rfl ?_
        exact RTo.err HS.out.symm (F2.out.alloc F2.out.size _)
    · obtain rfl : k = s.size := by omega
      have hd : X.drop s.size = [] := List.drop_eq_nil_of_le (by rw [HL.out]; exact Nat.le_refl _)
      have hst := hlx.out
      rw [hd, lexF] at hst
      have HST := Lib.hid hst
      obtain ⟨i0, hi0, hz0, hz1, hz2⟩ := info_parts info_rtok
      obtain ⟨m, hm⟩ : ∃ m, acc.length = m := ⟨_, rfl⟩
      have hO := hoA.out
      rw [hm] at hO hac
      have HM := Lib.hid hm
      have HBL := Lib.hid (own_block hO)
      have own7 := Lib.hid (World.ownsRow.alloc hO (.cells #[.int .i64 0, .string ⟨#[]⟩, .int .i64 0, .int .i64 line, .int .i64 ((s.size : Int) - (fr : Int) + 1)] 108))
      have RD := Lib.hid (reads5 wo 108 (.int .i64 0) (.string ⟨#[]⟩) (.int .i64 0) (.int .i64 line) (.int .i64 ((s.size : Int) - (fr : Int) + 1)))
      have ONE := Lib.hid (one5 ⟨0, [], 0, line, (s.size : Int) - (fr : Int) + 1⟩)
      have hbz := hbw.out.size
      clear hst hd hlx hO hm
      go_wp2_with (first | (at_builtin; refine wpList_append_any _ (by rfl) (.tmp 87) (.tmp 94) 100 rfl w.heap.size 108 i0 _ 5 48 Tryz.underlying100 hi0 hz0 hz1 hz2 rfl (by omega) u6 m (tksCells acc) rfl own7.out _ _ 1 1 (tkCells ⟨0, [], 0, line, (s.size : Int) - (fr : Int) + 1⟩) rfl RD.out ONE.out (by unfold maxLen; omega) (by omega) (by simp; omega) ?_; intro v8 w8 o8 g8 at8; have b8 : Below w.heap.size w w8 := (hbw.out.alloc hbz _).trans ((Kept.of_grown (S := fun k => w.heap.size ≤ k) g8 HBL.out).to_below (by simp; omega) (fun k hk => by omega)); have O8 := Lib.hid o8; have B8 := Lib.hid b8; clear o8 g8 at8 b8))
      obtain ⟨A8, c8, rfl⟩ := own_slice O8.out
      refine bodyPost_ret (v := .tuple #[.slice A8 (m + 1) c8, .int .i64 0, .int .i64 0, .int .i64 0]) (by simp [results, Tryz.results46, go_sem]) rfl ?_
      refine RTo.ok (ts := acc ++ [⟨0, [], 0, line, (s.size : Int) - (fr : Int) + 1⟩]) HST.out.symm B8.out (by rw [List.length_append, HM.out]; rfl) ?_
      rw [tksCells_snoc]
      exact O8.out
end Go.Proofs.YtdgekckedchjbaaGreatDoor
