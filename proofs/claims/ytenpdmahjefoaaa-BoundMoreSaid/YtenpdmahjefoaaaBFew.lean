/-
  The law's own counting: it returns some number.
-/
import Derived.Test.YtenpdmahjefoaaaBTop
import Derived.IntWalk
namespace Go.Proofs.Ytenpdmahjefoaaa
open Go.RowKit

theorem held3 {w wr : World} {B bb o : Nat} {cs : List Value} {a b c : Value} (hcells : ∀ j u, cs[j]? = some u → w.cell? ⟨bb, o + j, none⟩ = some u) (ha : cs[2]? = some a) (hb : cs[5]? = some b) (hc : cs[6]? = some c) (hbel : Below B w wr) (hB : bb < B) :
    wr.drew.cell? ⟨bb, o + 2, none⟩ = some a ∧ wr.drew.cell? ⟨bb, o + 5, none⟩ = some b ∧ wr.drew.cell? ⟨bb, o + 6, none⟩ = some c :=
  ⟨(hbel.cell (p := ⟨bb, o + 2, none⟩) hB).trans (hcells 2 _ ha), (hbel.cell (p := ⟨bb, o + 5, none⟩) hB).trans (hcells 5 _ hb), (hbel.cell (p := ⟨bb, o + 6, none⟩) hB).trans (hcells 6 _ hc)⟩
theorem held3' {w wr : World} {bb p q r : Nat} {a b c : Option Value} (hbel : Below w.heap.size w wr) (h : w.cell? ⟨bb, p, none⟩ = a ∧ w.cell? ⟨bb, q, none⟩ = b ∧ w.cell? ⟨bb, r, none⟩ = c) (hB : bb < w.heap.size) :
    wr.cell? ⟨bb, p, none⟩ = a ∧ wr.cell? ⟨bb, q, none⟩ = b ∧ wr.cell? ⟨bb, r, none⟩ = c :=
  ⟨(hbel.cell (p := ⟨bb, p, none⟩) hB).trans h.1, (hbel.cell (p := ⟨bb, q, none⟩) hB).trans h.2.1, (hbel.cell (p := ⟨bb, r, none⟩) hB).trans h.2.2⟩

/-- Some number is returned, nothing that was there has turned. -/
def SomeInt (w : World) (e : Ending) (w' : World) : Prop := ∃ v : Int, e = .returned (.int .i64 v) ∧ Below w.heap.size w w'
def SomeBool (w : World) (e : Ending) (w' : World) : Prop := ∃ v : Bool, e = .returned (.bool v) ∧ Below w.heap.size w w'
def CountOk (n : Nat) : Prop := ∀ (A : Option Addr) (len cap : Nat) (ks : List Nat) (deep most : Int) (w : World), Els w w.heap.size 4 (EC w w.heap.size n) A len ks → 0 ≤ deep → deep ≤ 12 →
  Calls Try.prog 21 #[.slice A len cap, .int .i64 deep, .int .i64 most] w (SomeInt w)

set_option maxHeartbeats 2000000 in
set_option maxRecDepth 100000 in
theorem count_step (n : Nat) (ih : ∀ m, m < n → CountOk m) : CountOk n := by
  intro A len cap ks deep most w h hd0 hd
  obtain ⟨xs, hrd, hl, hk, hc⟩ := h
  have HK := Lib.hid hk
  have HC := Lib.hid hc
  have HRD := Lib.hid hrd
  have IH := Lib.hid ih
  clear hk hc hrd ih
  go_enter Try.func21, Try.ntmps21
  go_wp2_with fail
  go_loopw [7, 8] (fun c i wr => ∃ (k : Nat) (v : Int), k ≤ len ∧ i = .int .i64 k ∧ c = .int .i64 v ∧ Below w.heap.size w wr) (fun _ i _ => len - (intOf i).toNat)
  case atStart => exact ⟨0, len, by omega, rfl, rfl, Below.refl _ _⟩
  case round =>
    obtain ⟨k, v, hkl, rfl, rfl, hb⟩ := hrel
    by_cases hgo : k < len ∧ v < most ∧ 0 < deep
    · obtain ⟨hlt, hvm, hdp⟩ := hgo
      have ec := HC.out k (by rw [HK.out]; exact hlt)
      cases n with
      | zero => exact absurd ec id
      | succ n =>
        obtain ⟨op, N, nm, A', len', cap', ks', hcs, hels, _⟩ := ec
        obtain ⟨bb, oo, rfl, hbb, hcells⟩ := HRD.out.chunk (by omega) hlt hcs
        have q3 := (hb.cell (p := ⟨bb, oo + k * 4 + 3, none⟩) hbb).trans (hcells 3 _ rfl)
        have HCE := Lib.hid hcs
        clear hcs hcells
        go_wp2_with fail
        refine (IH.out n (by omega) A' len' cap' ks' (deep - 1) most _ (hels.keep hb hb.size (EC.keep hb hb.size n)) (by omega) (by omega)).mono ?_
        rintro e w1 ⟨v1, rfl, b1⟩
        go_wp2_with fail
        go_roundw
        case rel => exact ⟨k + 1, _, by omega, by go_num, rfl, hb.then_ b1⟩
        case measure => simp [intOf]; omega
    · by_cases hlt : k < len
      · by_cases hvm : v < most
        · have hdp : deep = 0 := by omega
          subst hdp
          go_wp2_with fail
          all_goals (go_ret; exact ⟨_, rfl, hb⟩)
        · go_wp2_with fail
          all_goals (go_ret; exact ⟨_, rfl, hb⟩)
      · go_wp2_with fail
        all_goals (go_ret; exact ⟨_, rfl, hb⟩)
theorem count_any (n : Nat) : CountOk n := by
  induction n using Nat.strongRecOn with
  | ind n ih => exact count_step n ih

def CountsOk (n : Nat) : Prop := ∀ (A : Option Addr) (len cap : Nat) (ks : List Nat) (deep most : Int) (w : World), Els w w.heap.size 7 (SC w w.heap.size n) A len ks → 0 ≤ deep → deep ≤ 12 →
  Calls Try.prog 18 #[.slice A len cap, .int .i64 deep, .int .i64 most] w (SomeInt w)

set_option maxHeartbeats 400000 in
set_option maxRecDepth 100000 in
theorem counts_step (n : Nat) (ih : ∀ m, m < n → CountsOk m) : CountsOk n := by
  intro A len cap ks deep most w h hd0 hd
  obtain ⟨xs, hrd, hl, hk, hc⟩ := h
  have HK := Lib.hid hk
  have HC := Lib.hid hc
  have HRD := Lib.hid hrd
  have IH := Lib.hid ih
  clear hk hc hrd ih
  by_cases hdz : deep = 0 ∧ 0 < len
  · obtain ⟨rfl, hl0⟩ := hdz
    go_enter Try.func18, Try.ntmps18
    go_wp2_with fail
    go_ret
    exact ⟨_, rfl, Below.refl _ _⟩
  by_cases hl0 : len = 0
  · subst hl0
    by_cases hd1 : deep = 0
    · subst hd1
      go_enter Try.func18, Try.ntmps18
      go_wp2_with fail
      go_loopw [7, 8] (fun c i wr => c = .int .i64 0 ∧ i = .int .i64 0 ∧ wr = w) (fun _ _ _ => 0)
      case atStart => exact ⟨rfl, rfl, rfl⟩
      case round =>
        obtain ⟨rfl, rfl, rfl⟩ := hrel
        go_wp2_with fail
        go_ret
        exact ⟨0, rfl, Below.refl _ _⟩
    · have hd2 : (deep == 0) = false := by simpa using hd1
      go_enter Try.func18, Try.ntmps18
      go_wp2_with fail
      go_loopw [7, 8] (fun c i wr => c = .int .i64 0 ∧ i = .int .i64 0 ∧ wr = w) (fun _ _ _ => 0)
      case atStart => exact ⟨rfl, rfl, rfl⟩
      case round =>
        obtain ⟨rfl, rfl, rfl⟩ := hrel
        go_wp2_with fail
        go_ret
        exact ⟨0, rfl, Below.refl _ _⟩
  have hdp : 0 < deep := by omega
  have hd2 : (deep == 0) = false := by simp; omega
  clear hdz
  go_enter Try.func18, Try.ntmps18
  go_wp2_with fail
  go_loopw [7, 8] (fun c i wr => ∃ (k : Nat) (v : Int), k ≤ len ∧ i = .int .i64 k ∧ c = .int .i64 v ∧ Below w.heap.size w wr) (fun _ i _ => len - (intOf i).toNat)
  case atStart => exact ⟨0, len, by omega, rfl, rfl, Below.refl _ _⟩
  case round =>
    obtain ⟨k, v, hkl, rfl, rfl, hb⟩ := hrel
    by_cases hlt : k < len
    · by_cases hvm : v < most
      · have ec := HC.out k (by rw [HK.out]; exact hlt)
        cases n with
        | zero => exact absurd ec id
        | succ n =>
          obtain ⟨kind, lo, hi, nm, A0, A1, A2, l0, l1, l2, c0, c1, c2, es, ls, fs, hcs, _, h0, h1, h2, _⟩ := ec
          obtain ⟨bb, oo, rfl, hbb, hcells⟩ := HRD.out.chunk (by omega) hlt hcs
          have q := held3 hcells rfl rfl rfl hb hbb
          have HCE := Lib.hid hcs
          clear hcs hcells
          go_wp2_with fail
          have hd1 : IntKind.i64.wrap (deep - 1) = deep - 1 := IntWalk.i64_in _ (by omega)
          have hki : (0 : Int) ≤ (k : Int) := by omega
          have hkj : (k : Int) < (len : Int) := by omega
          go_region_held3 (fun w' => w'.cell? ⟨bb, oo + k * 7 + 2, none⟩ = some (.slice A0 l0 c0) ∧ w'.cell? ⟨bb, oo + k * 7 + 5, none⟩ = some (.slice A1 l1 c1) ∧ w'.cell? ⟨bb, oo + k * 7 + 6, none⟩ = some (.slice A2 l2 c2))
            (first | exact q | exact q1 | exact q2 | exact q3)
            (first
              | (go_at_call 21; refine (count_any n A0 l0 c0 es _ most _ (h0.keep hb.drew hb.drew.size (EC.keep hb.drew hb.drew.size n)) (by omega) (by omega)).mono ?_; rintro e w1 ⟨v1, rfl, b1⟩; have f1 := hb.drew.then_ b1; have q1 := held3' b1 q (by have := hb.size; exact (by show bb < wr.heap.size; omega)))
              | (go_at_call_of 18 (Value.slice A1 l1 c1); refine (IH.out n (by omega) A1 l1 c1 ls _ most _ (h1.keep f1 f1.size (SC.keep f1 f1.size n)) (by omega) (by omega)).mono ?_; rintro e w2 ⟨v2, rfl, b2⟩; have f2 := f1.then_ b2; have q2 := held3' b2 q1 (by have := f1.size; omega))
              | (go_at_call_of 18 (Value.slice A2 l2 c2); refine (IH.out n (by omega) A2 l2 c2 fs _ most _ (h2.keep f2 f2.size (SC.keep f2 f2.size n)) (by omega) (by omega)).mono ?_; rintro e w3 ⟨v3, rfl, b3⟩; have f3 := f2.then_ b3; have q3 := held3' b3 q2 (by have := f2.size; omega)))
          go_wp2_with fail
          go_roundw
          case rel => exact ⟨k + 1, _, by omega, by go_num, rfl, f3⟩
          case measure => simp [intOf]; omega
      · go_wp2_with fail
        all_goals (go_ret; exact ⟨_, rfl, hb⟩)
    · go_wp2_with fail
      all_goals (go_ret; exact ⟨_, rfl, hb⟩)
theorem counts_any (n : Nat) : CountsOk n := by
  induction n using Nat.strongRecOn with
  | ind n ih => exact counts_step n ih

set_option maxRecDepth 100000 in
theorem few_any (n : Nat) (A : Option Addr) (len cap : Nat) (ks : List Nat) (w : World) (h : Els w w.heap.size 7 (SC w w.heap.size n) A len ks) :
    Calls Try.prog 11 #[.slice A len cap] w (SomeBool w) := by
  go_enter Try.func11, Try.ntmps11
  go_wp2_with fail
  refine (counts_any n A len cap ks 12 300 _ h (by omega) (by omega)).mono ?_
  rintro e w1 ⟨v, rfl, b1⟩
  go_wp2_with fail
  all_goals (go_ret; exact ⟨_, rfl, b1⟩)
set_option maxRecDepth 100000 in
theorem fewExpr_any (n : Nat) (op N : Int) (nm : ByteArray) (A : Option Addr) (len cap : Nat) (k : Nat) (w : World) (h : EC w w.heap.size n [.int .i64 op, .int .i64 N, .string nm, .slice A len cap] k) :
    Calls Try.prog 13 #[.agg #[.int .i64 op, .int .i64 N, .string nm, .slice A len cap]] w (SomeBool w) := by
  go_enter Try.func13, Try.ntmps13
  go_wp2_with fail
  obtain ⟨s0, s1, s3⟩ := blks2 (Below.refl ((w.alloc (Obj.cells #[Value.int .i64 op, .int .i64 N, .string nm, .slice A len cap] 35)).alloc (Obj.cells #[Value.int .i64 op, .int .i64 N, .string nm, .slice A len cap] 35)).heap.size _)
  have hels := Els.of_blk (ks := [k]) (Q := EC _ _ n) (n := 1) (s := 4) s1 s1.lt rfl (by omega) rfl (fun i hi => by
    match i, hi with
    | 0, _ => exact EC.keep s3 s3.size _ _ _ h)
  refine (count_any n _ _ _ _ 12 300 _ hels (by omega) (by omega)).mono ?_
  rintro e w1 ⟨v, rfl, b1⟩
  go_wp2_with fail
  all_goals (go_ret; exact ⟨_, rfl, s3.then_ b1⟩)
end Go.Proofs.Ytenpdmahjefoaaa
