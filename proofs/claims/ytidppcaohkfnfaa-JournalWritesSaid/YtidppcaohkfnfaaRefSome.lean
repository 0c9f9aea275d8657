
/-
  The reference of layer 1, what it reads: Unfold, End, Some.
-/
import Derived.Test.YtidppcaohkfnfaaRefRead
namespace Go.Proofs.Ytidppcaohkfnfaa
open Go.RowKit

theorem rblk1 {w w1 : World} {C D : Array Value} (b1 : Below ((w.alloc (.cells C 96)).alloc (.cells D 96)).heap.size ((w.alloc (.cells C 96)).alloc (.cells D 96)) w1) : Blk w1 w.heap.size 96 C :=
  ((Blk.new w 96 C).alloc _).below b1 (by simp; omega)

theorem RIn.none_ {D : Nat → Prop} {w : World} {A : Option Addr} : RIn D w A 0 [] := ⟨rfl, fun h => absurd h (by omega)⟩

/-- What Some of the reference gives. -/
def GotS (A : Option Addr) (n c : Nat) (r : List UInt8 × Nat × Nat) (w : World) (e : Ending) (w' : World) : Prop :=
  ∃ A' m' c', e = .returned (.tuple #[rV A n c r.2.1 r.2.2, .slice A' m' c']) ∧ RIn (fun k => w.heap.size ≤ k) w' A' m' r.1 ∧ Below w.heap.size w w'

theorem readBytes_err (b : List UInt8) (at_ err lim : Nat) (h : err ≠ 0) : readBytes b at_ err lim = ([], at_, err) := by unfold readBytes; rw [if_pos h]
theorem readBytes_go (b : List UInt8) (at_ lim : Nat) {x s e : Nat} (h : lookL (b.drop at_) = (x, s, e)) :
    readBytes b at_ 0 lim = if e ≠ 0 then ([], at_, e) else if lim < x then ([], at_, 2) else if b.length - (at_ + s) < x then ([], at_, 4) else ((b.drop (at_ + s)).take x, at_ + s + x, 0) := by
  unfold readBytes stepB afterB
  rw [if_neg (by simp), h, List.length_drop, List.drop_drop, Nat.sub_sub]
  by_cases he : e = 0
  · subst he
    by_cases hm : lim < x
    · simp [hm]
    · by_cases hs : b.length - (at_ + s) < x
      · simp [hm, hs]
      · simp [hm, hs, Nat.add_assoc]
  · simp [he]

set_option maxHeartbeats 4000000 in
set_option maxRecDepth 100000 in
theorem refSome_any (A : Option Addr) (n c at_ err : Nat) (lim : Nat) (most : Int) (hlim : lim = most.toNat) (hmost : most ≤ 9223372036854775807) (b : List UInt8) (w : World) (hr : RB w A n b) (hc : n ≤ c) (hn : n ≤ 140737488355328) (hat : at_ ≤ n) :
    Calls Try.prog 57 #[rV A n c at_ err, .int .i64 most] w (GotS A n c (readBytes b at_ err lim) w) := by
  by_cases he : err = 0
  · subst he
    obtain ⟨x, s, er, hlk⟩ : ∃ x s er, lookL (b.drop at_) = (x, s, er) := ⟨_, _, _, rfl⟩
    have HR := Lib.hid (readBytes_go b at_ lim hlk)
    have hx : U64 x := by have := lookL_lt (b.drop at_); rw [hlk] at this; exact this
    have HQ : Hid (readNum b at_ 0 maxU = if er ≠ 0 then (0, at_, er) else (x, at_ + s, 0)) := by
      rw [Hid, readNum_go b at_ maxU hlk]
      by_cases h0 : er = 0
      · subst h0; simp only [ne_eq, not_true_eq_false, if_false]; rw [if_neg (by unfold U64 at hx; unfold maxU; omega)]
      · simp [h0]
    have hsz : s ≤ n - at_ := by have h1 := lookL_size (b.drop at_); have h2 := hr.len; rw [hlk, List.length_drop] at h1; simp only at h1; omega
    have hbl := Lib.hid hr.len
    clear hlk
    have HC := Lib.hid (refRead_any A n c at_ 0 maxU 18446744073709551615 rfl b ((w.alloc (.cells #[.slice A n c, .int .i64 at_, .int .i64 0] 96)).alloc (.cells #[.slice none 0 0, .int .i64 0, .int .i64 0] 96)) (hr.below (((Below.refl _ w).al _).al _)) hc hn hat)
    rcases Nat.eq_zero_or_pos er with her | her
    · subst her
      rw [HQ.out, if_neg (by simp)] at HC
      have HC : Hid (Calls Try.prog 56 #[rV A n c at_ 0, .int .u64 18446744073709551615] ((w.alloc (.cells #[.slice A n c, .int .i64 at_, .int .i64 0] 96)).alloc (.cells #[.slice none 0 0, .int .i64 0, .int .i64 0] 96))
        fun e w' => e = .returned (.tuple #[rV A n c (at_ + s) 0, .int .u64 x]) ∧ Below ((w.alloc (.cells #[.slice A n c, .int .i64 at_, .int .i64 0] 96)).alloc (.cells #[.slice none 0 0, .int .i64 0, .int .i64 0] 96)).heap.size ((w.alloc (.cells #[.slice A n c, .int .i64 at_, .int .i64 0] 96)).alloc (.cells #[.slice none 0 0, .int .i64 0, .int .i64 0] 96)) w') := HC.out
      clear HQ
      rw [if_neg (by simp)] at HR
      rw [← hbl.out] at HR
      rcases Int.lt_or_le most 0 with hneg | hneg
      · have hl0 : lim = 0 := by omega
        clear hlim
        subst hl0
        by_cases hm : 0 < x
        · have HN : Hid (readBytes b at_ 0 0 = ([], at_, 2)) := by rw [Hid, HR.out, if_pos hm]
          clear HR
          generalize readBytes b at_ 0 0 = rn at HN
          unfold rV
          go_enter Try.func57, Try.ntmps57
          go_wp2_with fail
          refine HC.out.mono ?_
          rintro e w1 ⟨rfl, b1⟩
          have blk1 := rblk1 b1
          have blk2 := rblk b1
          have j0 : w1.cell? ⟨w.heap.size, 0, none⟩ = some (.slice A n c) := blk1.cell 0
          have j1 : w1.cell? ⟨w.heap.size, 1, none⟩ = some (.int .i64 at_) := blk1.cell 1
          have j2 : w1.cell? ⟨w.heap.size, 2, none⟩ = some (.int .i64 0) := blk1.cell 2
          have k0 : w1.cell? ⟨w.heap.size + 1, 0, none⟩ = some (.slice none 0 0) := blk2.cell 0
          have k1 : w1.cell? ⟨w.heap.size + 1, 1, none⟩ = some (.int .i64 0) := blk2.cell 1
          have k2 : w1.cell? ⟨w.heap.size + 1, 2, none⟩ = some (.int .i64 0) := blk2.cell 2
          have f0 := blk2.frozen 0
          have f1 := blk2.frozen 1
          have f2 := blk2.frozen 2
          have bw := (((Below.refl _ w).al (.cells #[.slice A n c, .int .i64 at_, .int .i64 0] 96)).al (.cells #[.slice none 0 0, .int .i64 0, .int .i64 0] 96)).then_ b1
          have sz : w.heap.size + 1 < w1.heap.size := blk2.lt
          have sz0 : w.heap.size < w1.heap.size := blk1.lt
          unfold rV
          go_wp2_with fail
          refine (refFail_any A n c at_ 0 2 _).mono ?_
          rintro e w2 ⟨rfl, b2⟩
          have b2' : Below w1.heap.size w1 w2 := ((Below.refl _ w1).al _).then_ b2
          have q0 := (b2'.cell (p := ⟨w.heap.size + 1, 0, none⟩) sz).trans k0
          have q1 := (b2'.cell (p := ⟨w.heap.size + 1, 1, none⟩) sz).trans k1
          have q2 := (b2'.cell (p := ⟨w.heap.size + 1, 2, none⟩) sz).trans k2
          have z0 := (b2'.frozen (p := ⟨w.heap.size + 1, 0, none⟩) sz).trans f0
          have z1 := (b2'.frozen (p := ⟨w.heap.size + 1, 1, none⟩) sz).trans f1
          have z2 := (b2'.frozen (p := ⟨w.heap.size + 1, 2, none⟩) sz).trans f2
          unfold rV
          go_wp2_with fail
          rw [HN.out]
          refine bodyPost_ret (v := .tuple #[.agg #[.slice A n c, .int .i64 at_, .int .i64 2], .slice none 0 0]) (by simp [results, Try.results57, go_sem, q0, q1, q2]) rfl ⟨none, 0, 0, rfl, RIn.none_, ?_⟩
          exact (((bw.then_ b2').setCell (by simp) _).setCell (by simp) _).setCell (by simp) _
        · obtain rfl : x = 0 := by omega
          have HN : Hid (readBytes b at_ 0 0 = ((b.drop (at_ + s)).take 0, at_ + s + 0, 0)) := by rw [Hid, HR.out, if_neg hm, if_neg (by omega)]
          clear HR
          generalize readBytes b at_ 0 0 = rn at HN
          obtain ⟨p, hp⟩ : ∃ p, p = at_ + s := ⟨_, rfl⟩
          rw [← hp] at HC HN
          have hp1 : at_ ≤ p := by omega
          have hp2 : p + 0 ≤ n := by omega
          have hp3 : (p : Int) + (0 : Int) ≤ (n : Int) := by omega
          clear hp hsz
          have rc := (hr.upto (k := p + 0) (by omega)).cut (k := p) (cap := c) (by omega) (by omega)
          have et : (b.take (p + 0)).drop p = (b.drop p).take 0 := by rw [List.drop_take, Nat.add_sub_cancel_left]
          rw [et] at rc
          clear et
          rcases Nat.lt_or_ge p c with hca | hca
          · rw [if_neg (by omega)] at rc
            have rc' := rc
            rw [Nat.add_zero, Nat.sub_self] at rc'
            clear rc
            unfold rV
            go_enter Try.func57, Try.ntmps57
            go_wp2_with fail
            refine HC.out.mono ?_
            rintro e w1 ⟨rfl, b1⟩
            have blk1 := rblk1 b1
            have blk2 := rblk b1
            have j0 : w1.cell? ⟨w.heap.size, 0, none⟩ = some (.slice A n c) := blk1.cell 0
            have j1 : w1.cell? ⟨w.heap.size, 1, none⟩ = some (.int .i64 at_) := blk1.cell 1
            have j2 : w1.cell? ⟨w.heap.size, 2, none⟩ = some (.int .i64 0) := blk1.cell 2
            have k0 : w1.cell? ⟨w.heap.size + 1, 0, none⟩ = some (.slice none 0 0) := blk2.cell 0
            have k1 : w1.cell? ⟨w.heap.size + 1, 1, none⟩ = some (.int .i64 0) := blk2.cell 1
            have k2 : w1.cell? ⟨w.heap.size + 1, 2, none⟩ = some (.int .i64 0) := blk2.cell 2
            have f0 := blk2.frozen 0
            have f1 := blk2.frozen 1
            have f2 := blk2.frozen 2
            have bw := (((Below.refl _ w).al (.cells #[.slice A n c, .int .i64 at_, .int .i64 0] 96)).al (.cells #[.slice none 0 0, .int .i64 0, .int .i64 0] 96)).then_ b1
            have sz : w.heap.size + 1 < w1.heap.size := blk2.lt
            have sz0 : w.heap.size < w1.heap.size := blk1.lt
            have r2 := (rc'.below bw).alloc (.cells #[.slice A n c, .int .i64 (p : Int), .int .i64 0] 96)
            have om : OB ((w1.alloc (.cells #[.slice A n c, .int .i64 (p : Int), .int .i64 0] 96)).alloc (.cells #[] 5)) (w1.heap.size + 1) (.slice (some ⟨w1.heap.size + 1, 0, none⟩) 0 0) [] := by
              have := OB.made (w1.alloc (.cells #[.slice A n c, .int .i64 (p : Int), .int .i64 0] 96)) (w1.heap.size + 1) (by simp)
              simpa using this
            unfold rV
            go_wp2_with (at_builtin; refine wpList_app8 _ rfl (.tmp 44) (.tmp 54) rfl (w1.heap.size + 1) _ [] rfl om _ _ _ ((b.drop p).take 0) rfl (r2.alloc _) (by first | omega | (simp <;> omega)) (by first | omega | (simp <;> omega)) ?_; intro v3 w3 o3 b3; have y := (Blk.alloc (Blk.new w1 96 #[.slice A n c, .int .i64 (p : Int), .int .i64 0]) (.cells #[] 5)).below b3 (Nat.lt_succ_self _); have y2 := ((blk2.alloc (.cells #[.slice A n c, .int .i64 (p : Int), .int .i64 0] 96)).alloc (.cells #[] 5)).below b3 (by omega); have y0 : w3.cell? ⟨w1.heap.size, 0, none⟩ = some (.slice A n c) := y.cell 0; have y1 : w3.cell? ⟨w1.heap.size, 1, none⟩ = some (.int .i64 (p : Int)) := y.cell 1; have yy2 : w3.cell? ⟨w1.heap.size, 2, none⟩ = some (.int .i64 0) := y.cell 2; have yf := y.frozen 1; have q0 : w3.cell? ⟨w.heap.size + 1, 0, none⟩ = some (.slice none 0 0) := y2.cell 0; have q1 : w3.cell? ⟨w.heap.size + 1, 1, none⟩ = some (.int .i64 0) := y2.cell 1; have q2 : w3.cell? ⟨w.heap.size + 1, 2, none⟩ = some (.int .i64 0) := y2.cell 2; have z0 := y2.frozen 0; have z1 := y2.frozen 1; have z2 := y2.frozen 2; have ne1 : (w.heap.size + 1 == w1.heap.size) = false := (by simp; omega); have ne2 : ¬ (w1.heap.size = w.heap.size + 1) := (by omega))
            obtain ⟨A9, m9, c9, rfl, -, -, r9⟩ := o3.got
            have bw3 : Below w.heap.size w w3 := ((bw.al (.cells #[.slice A n c, .int .i64 (p : Int), .int .i64 0] 96)).al (.cells #[] 5)).trans (b3.mono (by omega))
            rw [HN.out]
            refine bodyPost_ret (v := .tuple #[.agg #[.slice A n c, .int .i64 ((p : Nat) : Int), .int .i64 0], .slice A9 m9 c9]) (by simp [results, Try.results57, go_sem, q0, q1, q2]) rfl ⟨A9, m9, c9, ?_, ?_, ?_⟩
            · rfl
            · exact (o3.rin.kept (((((Kept.refl (fun k => k ≤ w1.heap.size) w3).setCell (p := ⟨w1.heap.size, 1, none⟩) (fun _ => Nat.le_refl _) _).setCell (p := ⟨w.heap.size + 1, 0, none⟩) (fun _ => Nat.le_of_lt sz) _).setCell (p := ⟨w.heap.size + 1, 1, none⟩) (fun _ => Nat.le_of_lt sz) _).setCell (p := ⟨w.heap.size + 1, 2, none⟩) (fun _ => Nat.le_of_lt sz) _) (fun k h1 h2 => by omega)).mono (fun k _ h => by omega)
            · exact (((bw3.setCell (p := ⟨w1.heap.size, 1, none⟩) (Nat.le_of_lt sz0) _).setCell (by simp) _).setCell (by simp) _).setCell (by simp) _
          · obtain rfl : p = c := by omega
            clear rc
            have rc' : RB w A 0 ((b.drop p).take 0) := RB.none_
            unfold rV
            go_enter Try.func57, Try.ntmps57
            go_wp2_with fail
            refine HC.out.mono ?_
            rintro e w1 ⟨rfl, b1⟩
            have blk1 := rblk1 b1
            have blk2 := rblk b1
            have j0 : w1.cell? ⟨w.heap.size, 0, none⟩ = some (.slice A n p) := blk1.cell 0
            have j1 : w1.cell? ⟨w.heap.size, 1, none⟩ = some (.int .i64 at_) := blk1.cell 1
            have j2 : w1.cell? ⟨w.heap.size, 2, none⟩ = some (.int .i64 0) := blk1.cell 2
            have k0 : w1.cell? ⟨w.heap.size + 1, 0, none⟩ = some (.slice none 0 0) := blk2.cell 0
            have k1 : w1.cell? ⟨w.heap.size + 1, 1, none⟩ = some (.int .i64 0) := blk2.cell 1
            have k2 : w1.cell? ⟨w.heap.size + 1, 2, none⟩ = some (.int .i64 0) := blk2.cell 2
            have f0 := blk2.frozen 0
            have f1 := blk2.frozen 1
            have f2 := blk2.frozen 2
            have bw := (((Below.refl _ w).al (.cells #[.slice A n p, .int .i64 at_, .int .i64 0] 96)).al (.cells #[.slice none 0 0, .int .i64 0, .int .i64 0] 96)).then_ b1
            have sz : w.heap.size + 1 < w1.heap.size := blk2.lt
            have sz0 : w.heap.size < w1.heap.size := blk1.lt
            have r2 := (rc'.below bw).alloc (.cells #[.slice A n p, .int .i64 (p : Int), .int .i64 0] 96)
            have om : OB ((w1.alloc (.cells #[.slice A n p, .int .i64 (p : Int), .int .i64 0] 96)).alloc (.cells #[] 5)) (w1.heap.size + 1) (.slice (some ⟨w1.heap.size + 1, 0, none⟩) 0 0) [] := by
              have := OB.made (w1.alloc (.cells #[.slice A n p, .int .i64 (p : Int), .int .i64 0] 96)) (w1.heap.size + 1) (by simp)
              simpa using this
            unfold rV
            go_wp2_with (at_builtin; refine wpList_app8 _ rfl (.tmp 44) (.tmp 54) rfl (w1.heap.size + 1) _ [] rfl om _ _ _ ((b.drop p).take 0) rfl (r2.alloc _) (by first | omega | (simp <;> omega)) (by first | omega | (simp <;> omega)) ?_; intro v3 w3 o3 b3; have y := (Blk.alloc (Blk.new w1 96 #[.slice A n p, .int .i64 (p : Int), .int .i64 0]) (.cells #[] 5)).below b3 (Nat.lt_succ_self _); have y2 := ((blk2.alloc (.cells #[.slice A n p, .int .i64 (p : Int), .int .i64 0] 96)).alloc (.cells #[] 5)).below b3 (by omega); have y0 : w3.cell? ⟨w1.heap.size, 0, none⟩ = some (.slice A n p) := y.cell 0; have y1 : w3.cell? ⟨w1.heap.size, 1, none⟩ = some (.int .i64 (p : Int)) := y.cell 1; have yy2 : w3.cell? ⟨w1.heap.size, 2, none⟩ = some (.int .i64 0) := y.cell 2; have yf := y.frozen 1; have q0 : w3.cell? ⟨w.heap.size + 1, 0, none⟩ = some (.slice none 0 0) := y2.cell 0; have q1 : w3.cell? ⟨w.heap.size + 1, 1, none⟩ = some (.int .i64 0) := y2.cell 1; have q2 : w3.cell? ⟨w.heap.size + 1, 2, none⟩ = some (.int .i64 0) := y2.cell 2; have z0 := y2.frozen 0; have z1 := y2.frozen 1; have z2 := y2.frozen 2; have ne1 : (w.heap.size + 1 == w1.heap.size) = false := (by simp; omega); have ne2 : ¬ (w1.heap.size = w.heap.size + 1) := (by omega))
            obtain ⟨A9, m9, c9, rfl, -, -, r9⟩ := o3.got
            have bw3 : Below w.heap.size w w3 := ((bw.al (.cells #[.slice A n p, .int .i64 (p : Int), .int .i64 0] 96)).al (.cells #[] 5)).trans (b3.mono (by omega))
            rw [HN.out]
            refine bodyPost_ret (v := .tuple #[.agg #[.slice A n p, .int .i64 ((p : Nat) : Int), .int .i64 0], .slice A9 m9 c9]) (by simp [results, Try.results57, go_sem, q0, q1, q2]) rfl ⟨A9, m9, c9, ?_, ?_, ?_⟩
            · rfl
            · exact (o3.rin.kept (((((Kept.refl (fun k => k ≤ w1.heap.size) w3).setCell (p := ⟨w1.heap.size, 1, none⟩) (fun _ => Nat.le_refl _) _).setCell (p := ⟨w.heap.size + 1, 0, none⟩) (fun _ => Nat.le_of_lt sz) _).setCell (p := ⟨w.heap.size + 1, 1, none⟩) (fun _ => Nat.le_of_lt sz) _).setCell (p := ⟨w.heap.size + 1, 2, none⟩) (fun _ => Nat.le_of_lt sz) _) (fun k h1 h2 => by omega)).mono (fun k _ h => by omega)
            · exact (((bw3.setCell (p := ⟨w1.heap.size, 1, none⟩) (Nat.le_of_lt sz0) _).setCell (by simp) _).setCell (by simp) _).setCell (by simp) _
      · have hl0 : most = (lim : Int) := by omega
        clear hlim
        subst hl0
        by_cases hm : lim < x
        · have HN : Hid (readBytes b at_ 0 lim = ([], at_, 2)) := by rw [Hid, HR.out, if_pos hm]
          clear HR
          generalize readBytes b at_ 0 lim = rn at HN
          unfold rV
          go_enter Try.func57, Try.ntmps57
          go_wp2_with fail
          refine HC.out.mono ?_
          rintro e w1 ⟨rfl, b1⟩
          have blk1 := rblk1 b1
          have blk2 := rblk b1
          have j0 : w1.cell? ⟨w.heap.size, 0, none⟩ = some (.slice A n c) := blk1.cell 0
          have j1 : w1.cell? ⟨w.heap.size, 1, none⟩ = some (.int .i64 at_) := blk1.cell 1
          have j2 : w1.cell? ⟨w.heap.size, 2, none⟩ = some (.int .i64 0) := blk1.cell 2
          have k0 : w1.cell? ⟨w.heap.size + 1, 0, none⟩ = some (.slice none 0 0) := blk2.cell 0
          have k1 : w1.cell? ⟨w.heap.size + 1, 1, none⟩ = some (.int .i64 0) := blk2.cell 1
          have k2 : w1.cell? ⟨w.heap.size + 1, 2, none⟩ = some (.int .i64 0) := blk2.cell 2
          have f0 := blk2.frozen 0
          have f1 := blk2.frozen 1
          have f2 := blk2.frozen 2
          have bw := (((Below.refl _ w).al (.cells #[.slice A n c, .int .i64 at_, .int .i64 0] 96)).al (.cells #[.slice none 0 0, .int .i64 0, .int .i64 0] 96)).then_ b1
          have sz : w.heap.size + 1 < w1.heap.size := blk2.lt
          have sz0 : w.heap.size < w1.heap.size := blk1.lt
          unfold rV
          go_wp2_with fail
          refine (refFail_any A n c at_ 0 2 _).mono ?_
          rintro e w2 ⟨rfl, b2⟩
          have b2' : Below w1.heap.size w1 w2 := ((Below.refl _ w1).al _).then_ b2
          have q0 := (b2'.cell (p := ⟨w.heap.size + 1, 0, none⟩) sz).trans k0
          have q1 := (b2'.cell (p := ⟨w.heap.size + 1, 1, none⟩) sz).trans k1
          have q2 := (b2'.cell (p := ⟨w.heap.size + 1, 2, none⟩) sz).trans k2
          have z0 := (b2'.frozen (p := ⟨w.heap.size + 1, 0, none⟩) sz).trans f0
          have z1 := (b2'.frozen (p := ⟨w.heap.size + 1, 1, none⟩) sz).trans f1
          have z2 := (b2'.frozen (p := ⟨w.heap.size + 1, 2, none⟩) sz).trans f2
          unfold rV
          go_wp2_with fail
          rw [HN.out]
          refine bodyPost_ret (v := .tuple #[.agg #[.slice A n c, .int .i64 at_, .int .i64 2], .slice none 0 0]) (by simp [results, Try.results57, go_sem, q0, q1, q2]) rfl ⟨none, 0, 0, rfl, RIn.none_, ?_⟩
          exact (((bw.then_ b2').setCell (by simp) _).setCell (by simp) _).setCell (by simp) _
        · by_cases hs : n - (at_ + s) < x
          · have HN : Hid (readBytes b at_ 0 lim = ([], at_, 4)) := by rw [Hid, HR.out, if_neg hm, if_pos hs]
            clear HR
            generalize readBytes b at_ 0 lim = rn at HN
            have hs' : (n : Int) - ((at_ : Int) + (s : Int)) < (x : Int) := by omega
            unfold rV
            go_enter Try.func57, Try.ntmps57
            go_wp2_with fail
            refine HC.out.mono ?_
            rintro e w1 ⟨rfl, b1⟩
            have blk1 := rblk1 b1
            have blk2 := rblk b1
            have j0 : w1.cell? ⟨w.heap.size, 0, none⟩ = some (.slice A n c) := blk1.cell 0
            have j1 : w1.cell? ⟨w.heap.size, 1, none⟩ = some (.int .i64 at_) := blk1.cell 1
            have j2 : w1.cell? ⟨w.heap.size, 2, none⟩ = some (.int .i64 0) := blk1.cell 2
            have k0 : w1.cell? ⟨w.heap.size + 1, 0, none⟩ = some (.slice none 0 0) := blk2.cell 0
            have k1 : w1.cell? ⟨w.heap.size + 1, 1, none⟩ = some (.int .i64 0) := blk2.cell 1
            have k2 : w1.cell? ⟨w.heap.size + 1, 2, none⟩ = some (.int .i64 0) := blk2.cell 2
            have f0 := blk2.frozen 0
            have f1 := blk2.frozen 1
            have f2 := blk2.frozen 2
            have bw := (((Below.refl _ w).al (.cells #[.slice A n c, .int .i64 at_, .int .i64 0] 96)).al (.cells #[.slice none 0 0, .int .i64 0, .int .i64 0] 96)).then_ b1
            have sz : w.heap.size + 1 < w1.heap.size := blk2.lt
            have sz0 : w.heap.size < w1.heap.size := blk1.lt
            unfold rV
            go_wp2_with fail
            refine (refFail_any A n c at_ 0 4 _).mono ?_
            rintro e w2 ⟨rfl, b2⟩
            have b2' : Below w1.heap.size w1 w2 := ((Below.refl _ w1).al _).then_ b2
            have q0 := (b2'.cell (p := ⟨w.heap.size + 1, 0, none⟩) sz).trans k0
            have q1 := (b2'.cell (p := ⟨w.heap.size + 1, 1, none⟩) sz).trans k1
            have q2 := (b2'.cell (p := ⟨w.heap.size + 1, 2, none⟩) sz).trans k2
            have z0 := (b2'.frozen (p := ⟨w.heap.size + 1, 0, none⟩) sz).trans f0
            have z1 := (b2'.frozen (p := ⟨w.heap.size + 1, 1, none⟩) sz).trans f1
            have z2 := (b2'.frozen (p := ⟨w.heap.size + 1, 2, none⟩) sz).trans f2
            unfold rV
            go_wp2_with fail
            rw [HN.out]
            refine bodyPost_ret (v := .tuple #[.agg #[.slice A n c, .int .i64 at_, .int .i64 4], .slice none 0 0]) (by simp [results, Try.results57, go_sem, q0, q1, q2]) rfl ⟨none, 0, 0, rfl, RIn.none_, ?_⟩
            exact (((bw.then_ b2').setCell (by simp) _).setCell (by simp) _).setCell (by simp) _
          · have HN : Hid (readBytes b at_ 0 lim = ((b.drop (at_ + s)).take x, at_ + s + x, 0)) := by rw [Hid, HR.out, if_neg hm, if_neg hs]
            clear HR
            generalize readBytes b at_ 0 lim = rn at HN
            have hs' : (x : Int) ≤ (n : Int) - ((at_ : Int) + (s : Int)) := by omega
            have hx47 : (x : Int) ≤ 140737488355328 := by omega
            obtain ⟨p, hp⟩ : ∃ p, p = at_ + s := ⟨_, rfl⟩
            rw [← hp] at HC HN
            have hp1 : at_ ≤ p := by omega
            have hp2 : p + x ≤ n := by omega
            have hp3 : (p : Int) + (x : Int) ≤ (n : Int) := by omega
            have hp4 : (x : Int) ≤ (n : Int) - (p : Int) := by omega
            clear hs hs'
            clear hp hsz
            have rc := (hr.upto (k := p + x) (by omega)).cut (k := p) (cap := c) (by omega) (by omega)
            have et : (b.take (p + x)).drop p = (b.drop p).take x := by rw [List.drop_take, Nat.add_sub_cancel_left]
            rw [et] at rc
            clear et
            rcases Nat.lt_or_ge p c with hca | hca
            · rw [if_neg (by omega)] at rc
              have rc' := rc
              clear rc
              unfold rV
              go_enter Try.func57, Try.ntmps57
              go_wp2_with fail
              refine HC.out.mono ?_
              rintro e w1 ⟨rfl, b1⟩
              have blk1 := rblk1 b1
              have blk2 := rblk b1
              have j0 : w1.cell? ⟨w.heap.size, 0, none⟩ = some (.slice A n c) := blk1.cell 0
              have j1 : w1.cell? ⟨w.heap.size, 1, none⟩ = some (.int .i64 at_) := blk1.cell 1
              have j2 : w1.cell? ⟨w.heap.size, 2, none⟩ = some (.int .i64 0) := blk1.cell 2
              have k0 : w1.cell? ⟨w.heap.size + 1, 0, none⟩ = some (.slice none 0 0) := blk2.cell 0
              have k1 : w1.cell? ⟨w.heap.size + 1, 1, none⟩ = some (.int .i64 0) := blk2.cell 1
              have k2 : w1.cell? ⟨w.heap.size + 1, 2, none⟩ = some (.int .i64 0) := blk2.cell 2
              have f0 := blk2.frozen 0
              have f1 := blk2.frozen 1
              have f2 := blk2.frozen 2
              have bw := (((Below.refl _ w).al (.cells #[.slice A n c, .int .i64 at_, .int .i64 0] 96)).al (.cells #[.slice none 0 0, .int .i64 0, .int .i64 0] 96)).then_ b1
              have sz : w.heap.size + 1 < w1.heap.size := blk2.lt
              have sz0 : w.heap.size < w1.heap.size := blk1.lt
              have r2 := (rc'.below bw).alloc (.cells #[.slice A n c, .int .i64 (p : Int), .int .i64 0] 96)
              have om : OB ((w1.alloc (.cells #[.slice A n c, .int .i64 (p : Int), .int .i64 0] 96)).alloc (.cells #[] 5)) (w1.heap.size + 1) (.slice (some ⟨w1.heap.size + 1, 0, none⟩) 0 0) [] := by
                have := OB.made (w1.alloc (.cells #[.slice A n c, .int .i64 (p : Int), .int .i64 0] 96)) (w1.heap.size + 1) (by simp)
                simpa using this
              unfold rV
              go_wp2_with (at_builtin; refine wpList_app8 _ rfl (.tmp 44) (.tmp 54) rfl (w1.heap.size + 1) _ [] rfl om _ _ _ ((b.drop p).take x) rfl (r2.alloc _) (by first | omega | (simp <;> omega)) (by first | omega | (simp <;> omega)) ?_; intro v3 w3 o3 b3; have y := (Blk.alloc (Blk.new w1 96 #[.slice A n c, .int .i64 (p : Int), .int .i64 0]) (.cells #[] 5)).below b3 (Nat.lt_succ_self _); have y2 := ((blk2.alloc (.cells #[.slice A n c, .int .i64 (p : Int), .int .i64 0] 96)).alloc (.cells #[] 5)).below b3 (by omega); have y0 : w3.cell? ⟨w1.heap.size, 0, none⟩ = some (.slice A n c) := y.cell 0; have y1 : w3.cell? ⟨w1.heap.size, 1, none⟩ = some (.int .i64 (p : Int)) := y.cell 1; have yy2 : w3.cell? ⟨w1.heap.size, 2, none⟩ = some (.int .i64 0) := y.cell 2; have yf := y.frozen 1; have q0 : w3.cell? ⟨w.heap.size + 1, 0, none⟩ = some (.slice none 0 0) := y2.cell 0; have q1 : w3.cell? ⟨w.heap.size + 1, 1, none⟩ = some (.int .i64 0) := y2.cell 1; have q2 : w3.cell? ⟨w.heap.size + 1, 2, none⟩ = some (.int .i64 0) := y2.cell 2; have z0 := y2.frozen 0; have z1 := y2.frozen 1; have z2 := y2.frozen 2; have ne1 : (w.heap.size + 1 == w1.heap.size) = false := (by simp; omega); have ne2 : ¬ (w1.heap.size = w.heap.size + 1) := (by omega))
              obtain ⟨A9, m9, c9, rfl, -, -, r9⟩ := o3.got
              have bw3 : Below w.heap.size w w3 := ((bw.al (.cells #[.slice A n c, .int .i64 (p : Int), .int .i64 0] 96)).al (.cells #[] 5)).trans (b3.mono (by omega))
              rw [HN.out]
              refine bodyPost_ret (v := .tuple #[.agg #[.slice A n c, .int .i64 ((p : Int) + (x : Int)), .int .i64 0], .slice A9 m9 c9]) (by simp [results, Try.results57, go_sem, q0, q1, q2]) rfl ⟨A9, m9, c9, ?_, ?_, ?_⟩
              · (unfold rV; rw [Int.natCast_add]; rfl)
              · exact (o3.rin.kept (((((Kept.refl (fun k => k ≤ w1.heap.size) w3).setCell (p := ⟨w1.heap.size, 1, none⟩) (fun _ => Nat.le_refl _) _).setCell (p := ⟨w.heap.size + 1, 0, none⟩) (fun _ => Nat.le_of_lt sz) _).setCell (p := ⟨w.heap.size + 1, 1, none⟩) (fun _ => Nat.le_of_lt sz) _).setCell (p := ⟨w.heap.size + 1, 2, none⟩) (fun _ => Nat.le_of_lt sz) _) (fun k h1 h2 => by omega)).mono (fun k _ h => by omega)
              · exact (((bw3.setCell (p := ⟨w1.heap.size, 1, none⟩) (Nat.le_of_lt sz0) _).setCell (by simp) _).setCell (by simp) _).setCell (by simp) _
            · obtain rfl : p = c := by omega
              obtain rfl : x = 0 := by omega
              clear rc
              have rc' : RB w A 0 ((b.drop p).take 0) := RB.none_
              unfold rV
              go_enter Try.func57, Try.ntmps57
              go_wp2_with fail
              refine HC.out.mono ?_
              rintro e w1 ⟨rfl, b1⟩
              have blk1 := rblk1 b1
              have blk2 := rblk b1
              have j0 : w1.cell? ⟨w.heap.size, 0, none⟩ = some (.slice A n p) := blk1.cell 0
              have j1 : w1.cell? ⟨w.heap.size, 1, none⟩ = some (.int .i64 at_) := blk1.cell 1
              have j2 : w1.cell? ⟨w.heap.size, 2, none⟩ = some (.int .i64 0) := blk1.cell 2
              have k0 : w1.cell? ⟨w.heap.size + 1, 0, none⟩ = some (.slice none 0 0) := blk2.cell 0
              have k1 : w1.cell? ⟨w.heap.size + 1, 1, none⟩ = some (.int .i64 0) := blk2.cell 1
              have k2 : w1.cell? ⟨w.heap.size + 1, 2, none⟩ = some (.int .i64 0) := blk2.cell 2
              have f0 := blk2.frozen 0
              have f1 := blk2.frozen 1
              have f2 := blk2.frozen 2
              have bw := (((Below.refl _ w).al (.cells #[.slice A n p, .int .i64 at_, .int .i64 0] 96)).al (.cells #[.slice none 0 0, .int .i64 0, .int .i64 0] 96)).then_ b1
              have sz : w.heap.size + 1 < w1.heap.size := blk2.lt
              have sz0 : w.heap.size < w1.heap.size := blk1.lt
              have r2 := (rc'.below bw).alloc (.cells #[.slice A n p, .int .i64 (p : Int), .int .i64 0] 96)
              have om : OB ((w1.alloc (.cells #[.slice A n p, .int .i64 (p : Int), .int .i64 0] 96)).alloc (.cells #[] 5)) (w1.heap.size + 1) (.slice (some ⟨w1.heap.size + 1, 0, none⟩) 0 0) [] := by
                have := OB.made (w1.alloc (.cells #[.slice A n p, .int .i64 (p : Int), .int .i64 0] 96)) (w1.heap.size + 1) (by simp)
                simpa using this
              unfold rV
              go_wp2_with (at_builtin; refine wpList_app8 _ rfl (.tmp 44) (.tmp 54) rfl (w1.heap.size + 1) _ [] rfl om _ _ _ ((b.drop p).take 0) rfl (r2.alloc _) (by first | omega | (simp <;> omega)) (by first | omega | (simp <;> omega)) ?_; intro v3 w3 o3 b3; have y := (Blk.alloc (Blk.new w1 96 #[.slice A n p, .int .i64 (p : Int), .int .i64 0]) (.cells #[] 5)).below b3 (Nat.lt_succ_self _); have y2 := ((blk2.alloc (.cells #[.slice A n p, .int .i64 (p : Int), .int .i64 0] 96)).alloc (.cells #[] 5)).below b3 (by omega); have y0 : w3.cell? ⟨w1.heap.size, 0, none⟩ = some (.slice A n p) := y.cell 0; have y1 : w3.cell? ⟨w1.heap.size, 1, none⟩ = some (.int .i64 (p : Int)) := y.cell 1; have yy2 : w3.cell? ⟨w1.heap.size, 2, none⟩ = some (.int .i64 0) := y.cell 2; have yf := y.frozen 1; have q0 : w3.cell? ⟨w.heap.size + 1, 0, none⟩ = some (.slice none 0 0) := y2.cell 0; have q1 : w3.cell? ⟨w.heap.size + 1, 1, none⟩ = some (.int .i64 0) := y2.cell 1; have q2 : w3.cell? ⟨w.heap.size + 1, 2, none⟩ = some (.int .i64 0) := y2.cell 2; have z0 := y2.frozen 0; have z1 := y2.frozen 1; have z2 := y2.frozen 2; have ne1 : (w.heap.size + 1 == w1.heap.size) = false := (by simp; omega); have ne2 : ¬ (w1.heap.size = w.heap.size + 1) := (by omega))
              obtain ⟨A9, m9, c9, rfl, -, -, r9⟩ := o3.got
              have bw3 : Below w.heap.size w w3 := ((bw.al (.cells #[.slice A n p, .int .i64 (p : Int), .int .i64 0] 96)).al (.cells #[] 5)).trans (b3.mono (by omega))
              rw [HN.out]
              refine bodyPost_ret (v := .tuple #[.agg #[.slice A n p, .int .i64 ((p : Nat) : Int), .int .i64 0], .slice A9 m9 c9]) (by simp [results, Try.results57, go_sem, q0, q1, q2]) rfl ⟨A9, m9, c9, ?_, ?_, ?_⟩
              · rfl
              · exact (o3.rin.kept (((((Kept.refl (fun k => k ≤ w1.heap.size) w3).setCell (p := ⟨w1.heap.size, 1, none⟩) (fun _ => Nat.le_refl _) _).setCell (p := ⟨w.heap.size + 1, 0, none⟩) (fun _ => Nat.le_of_lt sz) _).setCell (p := ⟨w.heap.size + 1, 1, none⟩) (fun _ => Nat.le_of_lt sz) _).setCell (p := ⟨w.heap.size + 1, 2, none⟩) (fun _ => Nat.le_of_lt sz) _) (fun k h1 h2 => by omega)).mono (fun k _ h => by omega)
              · exact (((bw3.setCell (p := ⟨w1.heap.size, 1, none⟩) (Nat.le_of_lt sz0) _).setCell (by simp) _).setCell (by simp) _).setCell (by simp) _
    · rw [HQ.out, if_pos (by omega)] at HC
      have te : ((er : Int) != 0) = true := by simp; omega
      have HN : Hid (readBytes b at_ 0 lim = ([], at_, er)) := by rw [Hid, HR.out, if_pos (by omega)]
      clear HR HQ
      generalize readBytes b at_ 0 lim = rn at HN
      clear hlim
      unfold rV
      go_enter Try.func57, Try.ntmps57
      go_wp2_with fail
      refine HC.out.mono ?_
      rintro e w1 ⟨rfl, b1⟩
      have blk1 := rblk1 b1
      have blk2 := rblk b1
      have j0 : w1.cell? ⟨w.heap.size, 0, none⟩ = some (.slice A n c) := blk1.cell 0
      have j1 : w1.cell? ⟨w.heap.size, 1, none⟩ = some (.int .i64 at_) := blk1.cell 1
      have j2 : w1.cell? ⟨w.heap.size, 2, none⟩ = some (.int .i64 0) := blk1.cell 2
      have k0 : w1.cell? ⟨w.heap.size + 1, 0, none⟩ = some (.slice none 0 0) := blk2.cell 0
      have k1 : w1.cell? ⟨w.heap.size + 1, 1, none⟩ = some (.int .i64 0) := blk2.cell 1
      have k2 : w1.cell? ⟨w.heap.size + 1, 2, none⟩ = some (.int .i64 0) := blk2.cell 2
      have f0 := blk2.frozen 0
      have f1 := blk2.frozen 1
      have f2 := blk2.frozen 2
      have bw := (((Below.refl _ w).al (.cells #[.slice A n c, .int .i64 at_, .int .i64 0] 96)).al (.cells #[.slice none 0 0, .int .i64 0, .int .i64 0] 96)).then_ b1
      have sz : w.heap.size + 1 < w1.heap.size := blk2.lt
      have sz0 : w.heap.size < w1.heap.size := blk1.lt
      unfold rV
      go_wp2_with fail
      refine (refFail_any A n c at_ 0 er _).mono ?_
      rintro e w2 ⟨rfl, b2⟩
      have b2' : Below w1.heap.size w1 w2 := ((Below.refl _ w1).al _).then_ b2
      have q0 := (b2'.cell (p := ⟨w.heap.size + 1, 0, none⟩) sz).trans k0
      have q1 := (b2'.cell (p := ⟨w.heap.size + 1, 1, none⟩) sz).trans k1
      have q2 := (b2'.cell (p := ⟨w.heap.size + 1, 2, none⟩) sz).trans k2
      have z0 := (b2'.frozen (p := ⟨w.heap.size + 1, 0, none⟩) sz).trans f0
      have z1 := (b2'.frozen (p := ⟨w.heap.size + 1, 1, none⟩) sz).trans f1
      have z2 := (b2'.frozen (p := ⟨w.heap.size + 1, 2, none⟩) sz).trans f2
      unfold rV
      go_wp2_with fail
      rw [HN.out]
      refine bodyPost_ret (v := .tuple #[.agg #[.slice A n c, .int .i64 at_, .int .i64 (er : Int)], .slice none 0 0]) (by simp [results, Try.results57, go_sem, q0, q1, q2]) rfl ⟨none, 0, 0, rfl, RIn.none_, ?_⟩
      exact (((bw.then_ b2').setCell (by simp) _).setCell (by simp) _).setCell (by simp) _
  · have HN := Lib.hid (readBytes_err b at_ err lim he)
    have t : ((err : Int) != 0) = true := by simp; omega
    generalize readBytes b at_ err lim = rn at HN
    clear hlim
    unfold rV
    go_enter Try.func57, Try.ntmps57
    go_wp2_with fail
    rw [HN.out]
    refine bodyPost_ret (v := .tuple #[.agg #[.slice A n c, .int .i64 at_, .int .i64 err], .slice none 0 0]) (by simp [results, Try.results57, go_sem]) rfl ⟨none, 0, 0, rfl, RIn.none_, ?_⟩
    exact ((Below.refl _ w).al _).al _
end Go.Proofs.Ytidppcaohkfnfaa
