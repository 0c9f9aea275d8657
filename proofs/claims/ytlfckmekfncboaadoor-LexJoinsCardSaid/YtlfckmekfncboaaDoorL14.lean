/-
  package lex: Same.
-/
import Derived.Test.YtlfckmekfncboaaDoorL10
import Derived.Laws.StructEq
namespace Go.Proofs.YtlfckmekfncboaaDoor
open Go.RowKit

theorem Reads.chunk {w : World} {B s n : Nat} {A : Option Addr} {xs cs : List Value} (h : Reads w B s A n xs) (hs : 0 < s) {k : Nat} (hk : k < n) (hcs : (xs.drop (k * s)).take s = cs) :
    ∃ b o, A = some ⟨b, o, none⟩ ∧ b < B ∧ ∀ j u, cs[j]? = some u → w.cell? ⟨b, o + k * s + j, none⟩ = some u := by
  obtain ⟨ad, rfl, hb, hc⟩ := h.2 (by omega)
  have hlen : k * s + s ≤ xs.length := by
    rw [h.1]
    have h1 : k * s + s = (k + 1) * s := by rw [Nat.add_mul, Nat.one_mul]
    rw [h1]
    exact Nat.mul_le_mul_right _ hk
  have h0 := hc 0 _ (List.getElem?_eq_getElem (by omega))
  obtain ⟨b, o, spot⟩ := ad
  have hspot : spot = none := by simpa [Addr.add] using World.cell?_spot h0
  subst hspot
  refine ⟨b, o, rfl, hb, fun j u hu => ?_⟩
  rw [← hcs, List.getElem?_take] at hu
  split at hu
  · rw [List.getElem?_drop] at hu
    have := hc _ u hu
    rw [Addr.add_lit] at this
    rw [Nat.add_assoc]
    exact this
  · cases hu
theorem tksCells_length (ts : List Tk) : (tksCells ts).length = ts.length * 5 := by
  induction ts with
  | nil => rfl
  | cons t ts ih =>
    have : (tksCells (t :: ts)).length = 5 + (tksCells ts).length := by simp [tksCells, tkCells]; omega
    rw [this, ih, List.length_cons]
    omega
theorem tksCells_cut : ∀ (ts : List Tk) (k : Nat) (h : k < ts.length), ((tksCells ts).drop (k * 5)).take 5 = tkCells (ts[k]'h)
  | t :: ts, 0, _ => by simp [tksCells, tkCells]
  | t :: ts, k + 1, h => by
    have e : tksCells (t :: ts) = tkCells t ++ tksCells ts := rfl
    have e2 : (tkCells t).length = 5 := rfl
    have e3 : (tkCells t ++ tksCells ts).drop ((k + 1) * 5) = (tksCells ts).drop (k * 5) := by
      rw [List.drop_append, List.drop_eq_nil_of_le (by rw [e2]; omega), e2, List.nil_append]
      congr 1
      omega
    rw [e, e3, List.getElem_cons_succ]
    exact tksCells_cut ts k (by simpa using h)

def Tk.bare (t : Tk) : Int × List UInt8 × Int := (t.kind, t.text, t.n)
def sameT (a b : List Tk) : Bool := decide (a.map Tk.bare = b.map Tk.bare)
theorem sameT_len {a b : List Tk} (h : a.length ≠ b.length) : sameT a b = false := by
  unfold sameT
  rw [decide_eq_false_iff_not]
  intro e
  exact h (by simpa using congrArg List.length e)

theorem take_bare {ta tb : List Tk} {k : Nat} (ha : k < ta.length) (hb : k < tb.length) : ((ta.take (k + 1)).map Tk.bare = (tb.take (k + 1)).map Tk.bare) ↔ ((ta.take k).map Tk.bare = (tb.take k).map Tk.bare ∧ (ta[k]'ha).bare = (tb[k]'hb).bare) := by
  rw [List.take_succ_eq_append_getElem ha, List.take_succ_eq_append_getElem hb, List.map_append, List.map_append]
  simp only [List.map_cons, List.map_nil]
  constructor
  · intro h
    have := List.append_inj h (by simp; omega)
    exact ⟨this.1, by simpa using this.2⟩
  · rintro ⟨h1, h2⟩
    rw [h1, h2]

set_option maxHeartbeats 2000000 in
set_option maxRecDepth 100000 in
theorem same_any (ta tb : List Tk) (A B : Option Addr) (c d : Nat) (w : World) (ha : Reads w w.heap.size 5 A ta.length (tksCells ta)) (hb : Reads w w.heap.size 5 B tb.length (tksCells tb)) (na : ta.length ≤ 9223372036854775807) :
    Calls Tryd.prog 18 #[.slice A ta.length c, .slice B tb.length d] w (Tells w (sameT ta tb)) := by
  obtain ⟨n, hn⟩ : ∃ n, ta.length = n := ⟨_, rfl⟩
  obtain ⟨m, hm⟩ : ∃ m, tb.length = m := ⟨_, rfl⟩
  rw [hn] at ha na
  rw [hm] at hb
  rw [hn, hm]
  have HA := Lib.hid ha
  have HB := Lib.hid hb
  have HN := Lib.hid hn
  have HM := Lib.hid hm
  clear ha hb hn hm
  go_enter Tryd.func18, Tryd.ntmps18
  by_cases hl : n = m
  · subst hl
    go_wp2_with fail
    go_loopw [15] (fun i wr => ∃ k : Nat, k ≤ n ∧ i = .int .i64 k ∧ Hid ((ta.take k).map Tk.bare = (tb.take k).map Tk.bare) ∧ Below w.heap.size w wr) (fun i _ => n - (intOf i).toNat)
    case atStart => exact ⟨0, by omega, rfl, (by rw [Hid]; simp), Below.refl _ _⟩
    case round =>
      obtain ⟨k, hkl, rfl, hs, hbw⟩ := hrel
      by_cases hlt : k < n
      · have cA := tksCells_cut ta k (by rw [HN.out]; exact hlt)
        have cB := tksCells_cut tb k (by rw [HM.out]; exact hlt)
        generalize hx : ta[k]'(by rw [HN.out]; exact hlt) = x at cA
        generalize hy : tb[k]'(by rw [HM.out]; exact hlt) = y at cB
        obtain ⟨b1, o1, rfl, hb1, hc1⟩ := HA.out.chunk (by omega) hlt cA
        obtain ⟨b2, o2, rfl, hb2, hc2⟩ := HB.out.chunk (by omega) hlt cB
        have HX := Lib.hid hx
        have HY := Lib.hid hy
        obtain ⟨xk, xt, xn, xl, xc⟩ := x
        obtain ⟨yk, yt, yn, yl, yc⟩ := y
        have q0 := (hbw.cell (p := ⟨b1, o1 + k * 5, none⟩) hb1).trans (hc1 0 _ rfl)
        have q1 := (hbw.cell (p := ⟨b1, o1 + k * 5 + 1, none⟩) hb1).trans (hc1 1 _ rfl)
        have q2 := (hbw.cell (p := ⟨b1, o1 + k * 5 + 2, none⟩) hb1).trans (hc1 2 _ rfl)
        have q3 := (hbw.cell (p := ⟨b1, o1 + k * 5 + 3, none⟩) hb1).trans (hc1 3 _ rfl)
        have q4 := (hbw.cell (p := ⟨b1, o1 + k * 5 + 4, none⟩) hb1).trans (hc1 4 _ rfl)
        have r0 := (hbw.cell (p := ⟨b2, o2 + k * 5, none⟩) hb2).trans (hc2 0 _ rfl)
        have r1 := (hbw.cell (p := ⟨b2, o2 + k * 5 + 1, none⟩) hb2).trans (hc2 1 _ rfl)
        have r2 := (hbw.cell (p := ⟨b2, o2 + k * 5 + 2, none⟩) hb2).trans (hc2 2 _ rfl)
        have r3 := (hbw.cell (p := ⟨b2, o2 + k * 5 + 3, none⟩) hb2).trans (hc2 3 _ rfl)
        have r4 := (hbw.cell (p := ⟨b2, o2 + k * 5 + 4, none⟩) hb2).trans (hc2 4 _ rfl)
        obtain ⟨S, hS⟩ : ∃ S, str xt = S := ⟨_, rfl⟩
        obtain ⟨T, hT⟩ : ∃ T, str yt = T := ⟨_, rfl⟩
        have hSl : S.toList = xt := by rw [← hS, str_tl]
        have hTl : T.toList = yt := by rw [← hT, str_tl]
        rw [hS] at q1
        rw [hT] at r1
        have wsz := hbw.size
        have hb1' : b1 < wr.heap.size := by omega
        have hb2' : b2 < wr.heap.size := by omega
        clear hc1 hc2 cA cB hx hy hS hT
        have hstep := take_bare (ta := ta) (tb := tb) (k := k) (by rw [HN.out]; exact hlt) (by rw [HM.out]; exact hlt)
        rw [HX.out, HY.out] at hstep
        have HST := Lib.hid hstep
        clear hstep
        by_cases he : xk = yk ∧ xt = yt ∧ xn = yn
        · have hnext : Hid ((ta.take (k + 1)).map Tk.bare = (tb.take (k + 1)).map Tk.bare) := HST.out.2 ⟨hs.out, by unfold Tk.bare; simp [he]⟩
          obtain ⟨rfl, h2, rfl⟩ := he
          have e1 : S.toList = T.toList := by rw [hSl, hTl, h2]
          clear hSl hTl h2
          go_wp2_with fail
          go_roundw
          case rel => exact ⟨k + 1, by omega, by go_num, hnext, (hbw.al _).al _⟩
          case measure => simp [intOf]; omega
        · have hF : Hid (sameT ta tb = false) := by
            rw [Hid]
            unfold sameT
            rw [decide_eq_false_iff_not]
            intro e
            have := (HST.out.1 (by rw [List.map_take, List.map_take, e])).2
            unfold Tk.bare at this
            simp only [Prod.mk.injEq] at this
            exact he this
          by_cases h1 : xk = yk
          · subst h1
            by_cases h2 : xt = yt
            · have h3 : ¬ xn = yn := fun h3 => he ⟨rfl, h2, h3⟩
              have e1 : S.toList = T.toList := by rw [hSl, hTl, h2]
              clear he hSl hTl h2
              go_wp2_with fail
              go_ret
              exact ⟨by rw [hF.out]; rfl, (hbw.al _).al _⟩
            · have e1 : ¬ S.toList = T.toList := by rw [hSl, hTl]; exact h2
              clear he hSl hTl h2
              go_wp2_with fail
              go_ret
              exact ⟨by rw [hF.out]; rfl, (hbw.al _).al _⟩
          · clear he hSl hTl
            go_wp2_with fail
            go_ret
            exact ⟨by rw [hF.out]; rfl, (hbw.al _).al _⟩
      · obtain rfl : k = n := by omega
        have hF : Hid (sameT ta tb = true) := by
          rw [Hid]
          unfold sameT
          rw [decide_eq_true_iff]
          have := hs.out
          rw [List.take_of_length_le (by rw [HN.out]; omega), List.take_of_length_le (by rw [HM.out]; omega)] at this
          exact this
        go_wp2_with fail
        go_ret
        exact ⟨by rw [hF.out]; rfl, hbw⟩
  · have e1 : ¬ ((n : Int) = m) := by omega
    go_wp2_with fail
    go_ret
    exact ⟨by rw [sameT_len (by rw [HN.out, HM.out]; exact hl)]; rfl, Below.refl _ _⟩
end Go.Proofs.YtlfckmekfncboaaDoor
