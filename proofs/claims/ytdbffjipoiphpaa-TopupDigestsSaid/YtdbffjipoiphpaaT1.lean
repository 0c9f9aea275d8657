/-
  package topup: amounts, sums, errors.
-/
import Derived.Test.YtdbffjipoiphpaaTShelf
import Derived.Test.YtdbffjipoiphpaaKept
import Derived.WalkMore
import Derived.Deep.DeepCutAuto
import Derived.Deep.RegionHeld3
namespace Go.Proofs.Ytdbffjipoiphpaa
open Go.RowKit

/-- May it be an amount? -/
def rightB (n : Int) : Bool := decide (0 ≤ n) && decide (n ≤ 1125899906842624)
theorem rightB_iff {n : Int} : rightB n = true ↔ 0 ≤ n ∧ n ≤ 1125899906842624 := by simp [rightB]
theorem rightB_not {n : Int} : rightB n = false ↔ ¬ (0 ≤ n ∧ n ≤ 1125899906842624) := by
  rw [← rightB_iff]; simp

set_option maxRecDepth 100000 in
theorem right_yes (n : Int) (w : World) (h : rightB n = true) : Calls Try.prog 28 #[.int .i64 n] w fun e w' => e = .returned (.bool true) ∧ w = w' := by
  obtain ⟨h1, h2⟩ := rightB_iff.1 h
  clear h
  go_enter Try.func28, Try.ntmps28
  go_wp2
  go_ret
  exact ⟨rfl, rfl⟩
set_option maxRecDepth 100000 in
theorem right_no (n : Int) (w : World) (h : rightB n = false) : Calls Try.prog 28 #[.int .i64 n] w fun e w' => e = .returned (.bool false) ∧ w = w' := by
  have h' := rightB_not.1 h
  clear h
  by_cases h0 : 0 ≤ n
  · have h1 : ¬ n ≤ 1125899906842624 := fun h => h' ⟨h0, h⟩
    clear h'
    go_enter Try.func28, Try.ntmps28
    go_wp2
    go_ret
    exact ⟨rfl, rfl⟩
  · clear h'
    go_enter Try.func28, Try.ntmps28
    go_wp2
    go_ret
    exact ⟨rfl, rfl⟩

/-- A slice of integers. -/
def RI (w : World) (A : Option Addr) (n : Nat) (xs : List Int) : Prop := RV w A n (xs.map (Value.int .i64))
section
variable {w w' : World} {n : Nat} {A : Option Addr} {xs : List Int}
theorem RI.len (h : RI w A n xs) : n = xs.length := by have := RV.len h; simpa using this
theorem RI.below (h : RI w A n xs) (hb : Below w.heap.size w w') : RI w' A n xs := RV.below h hb
theorem RI.at_ {k : Nat} (h : RI w A n xs) (hk : k < n) : ∃ b o, A = some ⟨b, o, none⟩ ∧ b < w.heap.size ∧ ∃ hl : k < xs.length, w.cell? ⟨b, o + k, none⟩ = some (.int .i64 (xs[k]'hl)) := by
  obtain ⟨b, o, h1, h2, h3, h4⟩ := RV.at_ h hk
  have hl : k < xs.length := by simpa using h3
  exact ⟨b, o, h1, h2, hl, by simpa using h4⟩
end

/-- Amounts, as far as they are right. -/
def totR (a : Int) : List Int → Int × Bool
  | [] => (a, true)
  | x :: xs => if rightB x then totR (a + x) xs else (a, false)

set_option maxHeartbeats 400000 in
set_option maxRecDepth 100000 in
theorem total_any (A : Option Addr) (n c : Nat) (xs : List Int) (w : World) (hr : RI w A n xs) (hn : n ≤ 16) :
    Calls Try.prog 27 #[.slice A n c] w fun e w' => e = .returned (.tuple #[.int .i64 (totR 0 xs).1, .bool (totR 0 xs).2]) ∧ w = w' := by
  have HL := Lib.hid hr.len
  have HR := Lib.hid hr
  clear hr
  go_enter Try.func27, Try.ntmps27
  go_wp2
  go_step3
  go_wp2
  go_step3
  go_wp2
  go_loop [4, 5, 10] (fun a b i => ∃ (k : Nat) (s : Int), k ≤ n ∧ i = .int .i64 k ∧ a = .int .i64 s ∧ b = .bool true ∧ 0 ≤ s ∧ s ≤ k * 1125899906842624 ∧ Hid (totR 0 xs = totR s (xs.drop k))) (fun _ _ i => n - (intOf i).toNat)
  case atStart => exact ⟨0, 0, by omega, rfl, rfl, rfl, by omega, by omega, rfl⟩
  case round =>
    obtain ⟨k, s, hk, rfl, rfl, rfl, hs0, hs1, HT⟩ := hrel
    by_cases hlt : k < n
    · obtain ⟨b, o, rfl, hb, hl, hc⟩ := HR.out.at_ hlt
      have hd : xs.drop k = xs[k] :: xs.drop (k + 1) := List.drop_eq_getElem_cons hl
      rw [hd] at HT
      clear hd
      generalize xs[k] = x at *
      cases hx : rightB x
      · have HE : Hid (totR 0 xs = (s, false)) := by rw [Hid, HT.out, totR, hx]; rfl
        go_wp2_with fail
        refine (right_no x w hx).mono ?_
        rintro e w' ⟨rfl, rfl⟩
        clear hx
        go_wp2_with fail
        try rw [Exit.noGoto_ret]
        go_ret2
        rw [HE.out]
        exact ⟨rfl, rfl⟩
      · have HE : Hid (totR 0 xs = totR (s + x) (xs.drop (k + 1))) := by rw [Hid, HT.out, totR, if_pos hx]
        have hb2 := rightB_iff.1 hx
        go_wp2_with fail
        refine (right_yes x w hx).mono ?_
        rintro e w' ⟨rfl, rfl⟩
        clear hx
        obtain ⟨hx0, hx1⟩ := hb2
        go_wp2_with fail
        go_round
        case rel => exact ⟨k + 1, s + x, by omega, by go_num, rfl, rfl, by omega, by omega, HE⟩
        case measure => simp [intOf]; omega
    · have HE : Hid (totR 0 xs = (s, true)) := by rw [Hid, HT.out, List.drop_of_length_le (by rw [← HL.out]; omega), totR]
      go_wp2_with fail
      try rw [Exit.noGoto_ret]
      go_ret2
      rw [HE.out]
      exact ⟨rfl, rfl⟩

/-- An error, if something isn't so. -/
def un (b : Bool) (n : Int) : Int := if b then 0 else n
set_option maxRecDepth 100000 in
theorem unless_any (b : Bool) (n : Int) (w : World) : Calls Try.prog 37 #[.bool b, .int .i64 n] w fun e w' => e = .returned (.int .i64 (un b n)) ∧ w = w' := by
  cases b
  · go_enter Try.func37, Try.ntmps37
    go_wp2
    go_ret
    exact ⟨rfl, rfl⟩
  · go_enter Try.func37, Try.ntmps37
    go_wp2
    go_ret
    exact ⟨rfl, rfl⟩

theorem run_call_plain {P : Program} {f : FuncId} {fn : Func} (hf : P.funcs[f]? = some fn) (hn : (fn.name == "runtime.NumGoroutine") = false) (hb : fn.body.isNone = false) (args : Array Value) (W : World) : (callFunc f args).run P W = .ok (.enter f args) W := by
  have hn' : fn.name ≠ "runtime.NumGoroutine" := by simpa using hn
  have hb' : fn.body ≠ none := fun h => by simp [h] at hb
  simp [callFunc, hf, hn', hb']
/-- The first that isn't 0. -/
def firstOf : List Int → Int
  | [] => 0
  | x :: xs => if x = 0 then firstOf xs else x

set_option maxHeartbeats 400000 in
set_option maxRecDepth 100000 in
theorem first_any (fs : List (FuncId × Array Value)) (rs : List Int) (g n c : Nat) (t : TypeId) (inv : World → Prop) (w : World) (hn : fs.length = n) (hl : rs.length = n) (hn8 : n ≤ 16) (hinv : inv w)
    (hb : ∀ W, inv W → Blk W g t (fs.map fun f => Value.func (.func f.1) #[] f.2).toArray)
    (hrun : ∀ i (h1 : i < fs.length), ∀ W, (callFunc (fs[i]).1 (fs[i]).2).run Try.prog W = .ok (.enter (fs[i]).1 (fs[i]).2) W)
    (hf : ∀ i (h1 : i < fs.length) (h2 : i < rs.length), (∀ j (h : j < rs.length), j < i → rs[j] = 0) → ∀ W, inv W → Calls Try.prog (fs[i]).1 (fs[i]).2 W fun e W' => e = .returned (.int .i64 rs[i]) ∧ inv W') :
    Calls Try.prog 35 #[.slice (some ⟨g, 0, none⟩) n c] w fun e w' => e = .returned (.int .i64 (firstOf rs)) ∧ inv w' := by
  have HN := Lib.hid hn
  have HL := Lib.hid hl
  have HI := Lib.hid hinv
  have HB := Lib.hid hb
  have HF := Lib.hid hf
  have HU := Lib.hid hrun
  clear hn hl hinv hb hf hrun
  go_enter Try.func35, Try.ntmps35
  go_wp2
  go_loopw [8] (fun i wr => ∃ k : Nat, k ≤ n ∧ i = .int .i64 k ∧ Hid (inv wr) ∧ Hid (∀ j (h : j < rs.length), j < k → rs[j] = 0) ∧ Hid (firstOf rs = firstOf (rs.drop k))) (fun i _ => n - (intOf i).toNat)
  case atStart => exact ⟨0, by omega, rfl, HI, fun j _ h => absurd h (by omega), rfl⟩
  case round =>
    obtain ⟨k, hk, rfl, HV, HZ, HD⟩ := hrel
    by_cases hlt : k < n
    · have h1 : k < fs.length := by rw [HN.out]; exact hlt
      have h2 : k < rs.length := by rw [HL.out]; exact hlt
      have hc : wr.cell? ⟨g, k, none⟩ = some (.func (.func (fs[k]).1) #[] (fs[k]).2) := by rw [(HB.out wr HV.out).cell k]; simp [h1]
      have hcall := HF.out k h1 h2 HZ.out wr HV.out
      have HC := Lib.hid hcall
      have hru := HU.out k h1 wr
      clear hcall
      have hd : rs.drop k = rs[k] :: rs.drop (k + 1) := List.drop_eq_getElem_cons h2
      rw [hd] at HD
      clear hd
      generalize hfk : fs[k] = f at *
      obtain ⟨fid, caps⟩ := f
      obtain ⟨r, hrk⟩ : ∃ r, r = rs[k] := ⟨_, rfl⟩
      rw [← hrk] at HC HD
      clear hfk
      have HRK := Lib.hid hrk
      clear hrk
      go_wp2_with fail
      clear hru
      refine HC.out.mono ?_
      rintro e w1 ⟨rfl, hv1⟩
      have HV1 := Lib.hid hv1
      clear hv1
      by_cases hr0 : r = 0
      · subst hr0
        have HZ' : Hid (∀ j (h : j < rs.length), j < k + 1 → rs[j] = 0) := fun j h hj => by
          rcases Nat.lt_or_ge j k with h3 | h3
          · exact HZ.out j h h3
          · obtain rfl : j = k := by omega
            exact HRK.out.symm
        have HD' : Hid (firstOf rs = firstOf (rs.drop (k + 1))) := by rw [Hid, HD.out, firstOf, if_pos rfl]
        go_wp2_with fail
        go_roundw
        case rel => exact ⟨k + 1, by omega, by go_num, HV1, HZ', HD'⟩
        case measure => simp [intOf]; omega
      · have ht : (r != 0) = true := by rw [bne_iff_ne]; exact hr0
        have HD' : Hid (firstOf rs = r) := by rw [Hid, HD.out, firstOf, if_neg hr0]
        clear hr0
        go_wp2_with fail
        go_ret
        rw [HD'.out]
        exact ⟨rfl, HV1.out⟩
    · have HD' : Hid (firstOf rs = 0) := by rw [Hid, HD.out, List.drop_of_length_le (by rw [HL.out]; omega), firstOf]
      go_wp2_with fail
      go_ret
      rw [HD'.out]
      exact ⟨rfl, HV.out⟩
end Go.Proofs.Ytdbffjipoiphpaa
