
/-
  Journals: the chapter's example.
-/
import Derived.Test.YtidppcaohkfnfaaK14
namespace Go.Proofs.Ytidppcaohkfnfaa
open Go.RowKit

/-- The example's entry. -/
def exE : En := ⟨3, [97], [7, 8]⟩
theorem exE_right : exE.Right := by decide
theorem exE_head : headB exE = [3, 1, 97, 2, 7, 8] := by decide
theorem exE_len : (entryB D8 exE).length = 14 := by rw [entryB, List.length_append, D8_length, exE_head]; rfl
theorem exE_take : (entryB D8 exE).take 6 = [3, 1, 97, 2, 7, 8] := by rw [entryB, exE_head]; rfl
theorem entryB_long (e : En) : 11 ≤ (entryB D8 e).length := by
  have h1 := num_pos e.kind.toNat
  have h2 := num_pos e.key.length
  have h3 := num_pos e.body.length
  unfold entryB headB lenB
  simp only [List.length_append, D8_length]
  omega
theorem short_begins {r : List UInt8} (h : r.length < 11) (e : En) : ¬ Begins r e := by
  rintro ⟨_, s, rfl⟩
  have := entryB_long e
  rw [List.length_append] at h
  omega
theorem exE_opens : Opens (entryB D8 exE ++ [3]) [exE] [3] := by
  refine ⟨by rw [allB_one], fun e he => ?_, short_begins (by decide)⟩
  obtain rfl := List.mem_singleton.1 he
  exact exE_right

theorem RIn.lit (w : World) (l : List UInt8) (cs : Array Value) (h : cs.toList = B8 l) (t : TypeId) (n : Nat) (hn : n = l.length) : RIn (fun k => k = w.heap.size) (w.alloc (.cells cs t)) (some ⟨w.heap.size, 0, none⟩) n l := by
  have hr := RB.lit w l cs h t n hn
  refine ⟨hn, fun hp => ?_⟩
  obtain ⟨ad, e, hb, hc⟩ := hr.2 hp
  injection e with e
  subst e
  exact ⟨_, rfl, rfl, hb, hc⟩

theorem jlen_any (S : Nat → Prop) (g : Nat) (es : List En) (w : World) (h : Jn w S g es) :
    Calls Try.prog 24 #[.pointer (some ⟨g, 0, none⟩)] w fun e w' => e = .returned (.int .i64 es.length) ∧ w = w' := by
  obtain ⟨r, v, ms, h1, rfl⟩ := h
  refine (len_any S g r v ms w h1).mono ?_
  rintro e w' ⟨rfl, rfl⟩
  exact ⟨by rw [List.length_map], rfl⟩

set_option maxHeartbeats 2000000 in
set_option maxRecDepth 100000 in
theorem known_any (w : World) : Calls Try.prog 14 #[] w (Tells w true) := by
  go_enter Try.func14, Try.ntmps14
  go_wp2_with fail
  refine (new_any w).mono ?_
  intro e w1 hnew
  obtain ⟨S, g, rfl, j1, hS, b1⟩ := Jn.of_new hnew
  clear hnew
  have b2 : Below w1.heap.size w1 (w1.alloc (.cells #[.int .u8 7, .int .u8 8] 5)) := (Below.refl _ w1).al _
  have mok : Me.Ok (fun k => k = w1.heap.size) (w1.alloc (.cells #[.int .u8 7, .int .u8 8] 5)) ⟨3, ⟨#[97]⟩, some ⟨w1.heap.size, 0, none⟩, 2, 2, [7, 8]⟩ :=
    ⟨by simp only; decide, by simp only; decide, by simp only; decide, by simp only; decide, by simp only; decide, RIn.lit w1 [7, 8] _ rfl _ 2 rfl⟩
  have mri : Me.Right ⟨3, ⟨#[97]⟩, some ⟨w1.heap.size, 0, none⟩, 2, 2, [7, 8]⟩ := ⟨by simp only; decide, by simp only; decide, by simp only; decide, by simp only; decide⟩
  have ADD := Lib.hid (add_yes S _ g [] _ _ (j1.below b2) mok mri (by decide) (fun k hk hs => by have := j1.lt k hs; omega))
  clear mok mri
  go_wp2_with fail
  refine ADD.out.mono ?_
  rintro e w2 ⟨v2, S2, B2, rfl, j2, s1, s2, o2, hB2, k2⟩
  have F2 : Below w.heap.size w w2 := (b1.then_ b2).trans (k2.to_below (by have := b1.size; have := b2.size; omega) (fun q hq e => by have := hS q e; omega))
  have hen : Me.en ⟨3, ⟨#[97]⟩, some ⟨w1.heap.size, 0, none⟩, 2, 2, [7, 8]⟩ = exE := rfl
  rw [hen] at j2 o2
  rw [List.nil_append] at j2
  have J2 := Lib.hid j2
  obtain ⟨A2, n2, c2, rfl, hn2, hm2, r2⟩ := o2.got
  obtain rfl : n2 = 14 := r2.len.trans exE_len
  have R2 := Lib.hid r2
  have r6 := r2.upto (k := 6) (by decide)
  rw [exE_take] at r6
  have R6 := Lib.hid r6
  unfold maxLen at hm2
  have g1 : (6 : Int) ≤ (c2 : Int) := by omega
  have g2 : (14 : Int) ≤ (c2 : Int) := by omega
  clear ADD j1 b1 b2 hS s1 s2 k2 j2 r2 r6 hen o2
  go_wp2_with fail
  have b3 : Below w2.heap.size w2 (w2.alloc (.cells #[.int .u8 3, .int .u8 1, .int .u8 97, .int .u8 2, .int .u8 7, .int .u8 8] 5)) := (Below.refl _ w2).al _
  refine (same_true A2 _ 6 c2 6 6 [3, 1, 97, 2, 7, 8] [3, 1, 97, 2, 7, 8] _ (R6.out.below b3) (RB.lit w2 [3, 1, 97, 2, 7, 8] _ rfl _ 6 rfl) (by decide) rfl).mono ?_
  rintro e w3 ⟨rfl, b3'⟩
  have f3 := b3.then_ b3'
  have r3 := Lib.hid (R2.out.below f3)
  have J3 := Lib.hid (J2.out.below f3)
  have F3 := F2.then_ f3
  obtain ⟨L, hL⟩ : ∃ L, entryB D8 exE = L := ⟨_, rfl⟩
  have hLl : L.length = 14 := by rw [← hL]; exact exE_len
  rw [hL] at r3
  have HL := Lib.hid hL
  clear b3 b3' f3 R6 R2 J2 hL F2
  go_wp2_with (at_builtin; first | (refine wpList_app8 _ rfl (.tmp 32) (.tmp 33) rfl w3.heap.size _ [] rfl (OB.made w3 _ (Nat.le_refl _)) A2 14 c2 L rfl (r3.out.alloc _) (by simp) (by simp) ?_; intro v4 w4 o4 b4; obtain ⟨A4, n4, c4, rfl, -, -, r4⟩ := o4.got) | (refine wpList_app8 _ rfl (.tmp 34) (.tmp 35) rfl w3.heap.size _ ([] ++ L) rfl (o4.alloc _) _ 1 1 [3] rfl (RB.lit w4 [3] _ rfl _ 1 rfl) (by simp; omega) (by have := b4.size; simp at this ⊢; omega) ?_; intro v5 w5 o5 b5; obtain ⟨A5, n5, c5, rfl, hn5, hc5, r5⟩ := o5.got))
  have b35 : Below w3.heap.size w3 w5 := ((((Below.refl _ w3).al _).trans b4).alloc (by have := b4.size; simp at this; omega) _).trans b5
  have hn15 : n5 = 15 := by have := r5.len; simp only [List.length_append, List.length_nil, List.length_cons, hLl] at this; exact this
  have hb5 : [] ++ L ++ [3] = entryB D8 exE ++ [3] := by rw [HL.out, List.nil_append]
  rw [hb5] at r5
  have J5 := Lib.hid (J3.out.below b35)
  have F5 := F3.then_ b35
  refine (open_any' A5 n5 c5 _ w5 r5 hn5 (by unfold maxLen at hc5; exact hc5) (by omega)).mono ?_
  rintro e w6 ⟨S6, g6, es, r, rfl, j6, hS6, ho6, b6⟩
  obtain ⟨rfl, rfl⟩ := opens_inj ho6 exE_opens
  have e14 : (allB D8 [exE]).length = 14 := by rw [allB_one]; exact exE_len
  rw [e14]
  have e26 : tornE [3] = 26 := torn_some (by decide)
  rw [e26]
  have J6 := Lib.hid j6
  have J5' := Lib.hid (J5.out.below b6)
  have F6 := F5.then_ b6
  clear j6 ho6 e14 e26 hS6 hb5 hn15 r5 J3 F3 r3 b35 b4 b5 o4 o5 r4 F5 J5
  go_wp2_with fail
  refine (jlen_any S6 g6 [exE] w6 J6.out).mono ?_
  rintro e w7 ⟨rfl, rfl⟩
  go_wp2_with fail
  refine (jsame_any S6 S2 g6 g [exE] [exE] w6 J6.out J5'.out (by decide)).mono ?_
  rintro e w7 ⟨rfl, b7⟩
  rw [decide_eq_true rfl]
  go_wp2_with fail
  go_ret
  exact ⟨rfl, F6.then_ b7⟩
end Go.Proofs.Ytidppcaohkfnfaa
