/-
  package bound: stmt: 'if'; stmt, block, start, Block, Expr.
-/
import Derived.Test.YtenpdmahjefoaaaBStmt2
namespace Go.Proofs.Ytenpdmahjefoaaa
open Go.RowKit

theorem held4 {w' : World} {g0 g1 : Nat} {t0 t1 : TypeId} {a b c d e f g h i : Value} (hx : Blk w' g0 t0 #[a, b]) (hy : Blk w' g1 t1 #[c, d, e, f, g, h, i]) :
    w'.cell? ⟨g0, 0, none⟩ = some a ∧ w'.cell? ⟨g0, 1, none⟩ = some b ∧ w'.cell? ⟨g1, 5, none⟩ = some h ∧ w'.cell? ⟨g1, 6, none⟩ = some i := ⟨hx.cell 0, hx.cell 1, hy.cell 5, hy.cell 6⟩

set_option maxHeartbeats 2000000 in
set_option maxRecDepth 100000 in
/-- An 'if'. -/
theorem stmt_if (n : Nat) (lo hi : Int) (nm : ByteArray) (A0 A1 A2 : Option Addr) (l0 l1 l2 c0 c1 c2 : Nat) (es ls fs : List Nat) (r1 r2 : Nat) (w : World) (hm : MapIs w r1 tabE 3) (hm2 : MapIs w r2 tabS 10)
    (HB : BlockOk n) (he : Els w w.heap.size 4 (EC w w.heap.size n) A0 l0 es) (hel : Els w w.heap.size 7 (SC w w.heap.size n) A1 l1 ls) (hfl : Els w w.heap.size 7 (SC w w.heap.size n) A2 l2 fs) :
    Calls Try.prog 26 #[ctr r1 r2, .agg (scells 2 lo hi nm A0 A1 A2 l0 l1 l2 c0 c1 c2)] w
      fun e w' => e = .returned (.int .i64 (capT (3 + es.sum + max (capT ls.sum) (capT fs.sum)) : Nat)) ∧ Below w.heap.size w w' := by
  have HB' := Lib.hid HB
  clear HB
  have hlk : ∀ o1 o2, (Instr.lookup 44 (.map (some r2)) (.int .i64 2) true).run Try.prog ((w.alloc o1).alloc o2) = .ok (.tuple #[.agg #[.int .i64 3, .bool true], .bool true]) ((w.alloc o1).alloc o2) :=
    fun o1 o2 => run_lookup_known Try.underlying44 Try.underlying3 (hm2.below (((Below.refl _ _).al o1).al o2)) (i := 2) rfl
  unfold ctr scells
  go_enter Try.func26, Try.ntmps26
  go_wp2_with fail
  clear hlk
  refine (sum_any _ _).mono ?_
  rintro e w1 ⟨b, rfl, hb1, hlb, hbel1⟩
  obtain ⟨hx, hy, hz, hbw⟩ := blks3 hbel1
  simp at hlb
  clear hbel1
  have x0 : w1.cell? ⟨w.heap.size, 0, none⟩ = some (.map (some r1)) := hx.cell 0
  have x1 : w1.cell? ⟨w.heap.size, 1, none⟩ = some (.map (some r2)) := hx.cell 1
  have y2 : w1.cell? ⟨w.heap.size + 1, 2, none⟩ = some (.slice A0 l0 c0) := hy.cell 2
  have z1 : w1.cell? ⟨w.heap.size + 1 + 1, 1, none⟩ = some (.bool true) := hz.cell 1
  go_wp2_with fail
  have hb1' : Blk w1 b 3 #[.int .i64 (capT 3 : Int)] := hb1
  refine (all_any n (expr_any n) r1 r2 b 3 w.heap.size A0 l0 c0 es _ (hm.below hbw) hb1' (by omega) (he.keep hbw (Nat.le_refl _) (EC.keep hbw (Nat.le_refl _) n))).mono ?_
  rintro e w2 ⟨rfl, hb2, hk2⟩
  have hx2 : Blk w2 w.heap.size 46 #[.map (some r1), .map (some r2)] := (hk2.block _ hx.lt (by omega)).trans hx
  have hy2 : Blk w2 (w.heap.size + 1) 28 #[.int .i64 2, .string nm, .slice A0 l0 c0, .int .i64 lo, .int .i64 hi, .slice A1 l1 c1, .slice A2 l2 c2] := (hk2.block _ hy.lt (by omega)).trans hy
  have hbw2 : Below w.heap.size w w2 := hbw.trans (hk2.to_below hbw.size (fun k hk => by omega))
  clear x0 x1 y2 z1 hx hy hz hb1 hb1'
  have y0' : w2.cell? ⟨w.heap.size + 1, 0, none⟩ = some (.int .i64 2) := hy2.cell 0
  go_wp2_with fail
  have q := held4 hx2.drew hy2.drew
  have hcl := capT_le ls.sum
  have hcf := capT_le fs.sum
  obtain ⟨cl, HCL⟩ : ∃ cl, Hid (capT ls.sum = cl) := ⟨_, rfl⟩
  obtain ⟨cf, HCF⟩ : ∃ cl, Hid (capT fs.sum = cl) := ⟨_, rfl⟩
  rw [HCL.out] at hcl
  rw [HCF.out] at hcf
  go_region_held3 (fun w' => w'.cell? ⟨w.heap.size, 0, none⟩ = some (.map (some r1)) ∧ w'.cell? ⟨w.heap.size, 1, none⟩ = some (.map (some r2)) ∧ w'.cell? ⟨w.heap.size + 1, 5, none⟩ = some (.slice A1 l1 c1) ∧ w'.cell? ⟨w.heap.size + 1, 6, none⟩ = some (.slice A2 l2 c2))
    (first | exact q | exact q3 | exact q4 | exact q5)
    (first
      | (go_at_call_of 20 (Value.slice A1 l1 c1); refine (HB'.out A1 l1 c1 ls r1 r2 _ (hel.keep (hbw2.drew) hbw2.size (SC.keep (hbw2.drew) hbw2.size n)) (hm.below hbw2.drew) (hm2.below hbw2.drew)).mono ?_; rintro e w3 ⟨rfl, b3⟩; rw [HCL.out]; have f3 := hbw2.drew.trans (b3.mono hbw2.drew.size); have hx3 := hx2.drew.below b3 hx2.lt; have hy3 := hy2.drew.below b3 hy2.lt; have hb3 := hb2.drew.below b3 hb2.lt; have q3 := held4 hx3 hy3)
      | (go_at_call_of 20 (Value.slice A2 l2 c2); refine (HB'.out A2 l2 c2 fs r1 r2 _ (hfl.keep f3 f3.size (SC.keep f3 f3.size n)) (hm.below f3) (hm2.below f3)).mono ?_; rintro e w4 ⟨rfl, b4⟩; rw [HCF.out]; have f4 := f3.trans (b4.mono f3.size); have hx4 := hx3.below b4 hx3.lt; have hy4 := hy3.below b4 hy3.lt; have hb4 := hb3.below b4 hb3.lt; have q4 := held4 hx4 hy4)
      | (go_at_call 28; rw [show (if cl < cf then (cf : Int) else (cl : Int)) = ((max cl cf : Nat) : Int) from (by split <;> omega)]; refine (sum1_any _ (max cl cf) b _ hb4 (capT_le _) (by omega)).mono ?_; rintro e w5 ⟨rfl, hb5, hk5⟩; have q5 := held4 ((hk5.block _ hx4.lt (by omega)).trans hx4) ((hk5.block _ hy4.lt (by omega)).trans hy4)))
  go_wp2_with fail
  refine (sum1_any _ 0 b _ hb5 (capT_le _) (by omega)).mono ?_
  rintro e w6 ⟨rfl, hb6, hk6⟩
  go_wp2_with fail
  go_ret
  have E : capT (capT (capT (3 + es.sum) + max cl cf) + 0) = capT (3 + es.sum + max (capT ls.sum) (capT fs.sum)) := by rw [HCL.out, HCF.out, Nat.add_zero, capT_cap, capT_add]
  exact ⟨by rw [← E]; rfl, f4.trans ((hk5.trans hk6).to_below f4.size (fun k hk => by omega))⟩

theorem findS_none (op : Int) (h : ∀ c : Int, 0 ≤ c → c ≤ 9 → op ≠ c) : Instr.findNow (.int .i64) (.int .i64 op) tabS.toList 0 = some none := by
  simp [tabS, Instr.findNow, same_not op 0 (h 0 (by omega) (by omega)), same_not op 1 (h 1 (by omega) (by omega)), same_not op 2 (h 2 (by omega) (by omega)), same_not op 3 (h 3 (by omega) (by omega)), same_not op 4 (h 4 (by omega) (by omega)),
    same_not op 5 (h 5 (by omega) (by omega)), same_not op 6 (h 6 (by omega) (by omega)), same_not op 7 (h 7 (by omega) (by omega)), same_not op 8 (h 8 (by omega) (by omega)), same_not op 9 (h 9 (by omega) (by omega))]

theorem stmt_step (n : Nat) (HB : BlockOk n) : StmtOk (n + 1) := by
  intro cs k r1 r2 w h hm hm2
  obtain ⟨kind, lo, hi, nm, A0, A1, A2, l0, l1, l2, c0, c1, c2, es, ls, fs, rfl, hr, h0, h1, h2, rfl⟩ := h
  by_cases k2 : kind = 2
  · subst k2
    exact stmt_if n lo hi nm A0 A1 A2 l0 l1 l2 c0 c1 c2 es ls fs r1 r2 w hm hm2 HB h0 h1 h2
  by_cases k3 : kind = 3
  · subst k3
    exact stmt_for n lo hi nm A0 A1 A2 l0 l1 l2 c0 c1 c2 ls r1 r2 w hm hm2 HB h1 hr
  have e2 : (kind == 2) = false := by simpa using k2
  have e3 : (kind == 3) = false := by simpa using k3
  have hk : costS kind lo hi es ls fs = capT (ownS kind + (if partS kind then es.sum else 0)) := by rw [costS, if_neg k2, if_neg k3, Nat.add_zero]
  rw [hk]
  have hkn : ∀ (i own : Nat) (parts : Bool), Instr.findNow (.int .i64) (.int .i64 kind) tabS.toList 0 = some (some (i, .agg #[.int .i64 own, .bool parts])) → own ≤ 100 → ownS kind = own → partS kind = parts →
      Calls Try.prog 26 #[ctr r1 r2, .agg [Value.int .i64 kind, .string nm, .slice A0 l0 c0, .int .i64 lo, .int .i64 hi, .slice A1 l1 c1, .slice A2 l2 c2].toArray] w fun e w' => e = .returned (.int .i64 ((capT (ownS kind + (if partS kind then es.sum else 0)) : Nat) : Int)) ∧ Below w.heap.size w w' := by
    intro i own parts hf ho h3 h4
    rw [h3, h4]
    exact stmt_known n kind lo hi nm A0 A1 A2 l0 l1 l2 c0 c1 c2 i own parts es r1 r2 w hm hm2 h0 e2 e3 hf ho
  by_cases q0 : kind = 0
  · subst q0; exact hkn 0 3 true rfl (by omega) rfl rfl
  by_cases q1 : kind = 1
  · subst q1; exact hkn 1 6 true rfl (by omega) rfl rfl
  by_cases q4 : kind = 4
  · subst q4; exact hkn 4 2 false rfl (by omega) rfl rfl
  by_cases q5 : kind = 5
  · subst q5; exact hkn 6 4 false rfl (by omega) rfl rfl
  by_cases q6 : kind = 6
  · subst q6; exact hkn 7 3 true rfl (by omega) rfl rfl
  by_cases q7 : kind = 7
  · subst q7; exact hkn 5 2 false rfl (by omega) rfl rfl
  by_cases q8 : kind = 8
  · subst q8; exact hkn 9 8 true rfl (by omega) rfl rfl
  by_cases q9 : kind = 9
  · subst q9; exact hkn 8 3 true rfl (by omega) rfl rfl
  have e : capT (ownS kind + (if partS kind then es.sum else 0)) = 1 := by simp [ownS, partS, k2, k3, q0, q1, q4, q5, q6, q7, q8, q9, capT]
  rw [e]
  exact stmt_missing kind lo hi nm A0 A1 A2 l0 l1 l2 c0 c1 c2 r1 r2 w hm2 e2 e3 (findS_none kind (fun c h1 h2 => by omega))

theorem stmt_any : ∀ n, StmtOk n := by
  intro n
  induction n with
  | zero => intro cs k r1 r2 w h _ _; exact absurd h id
  | succ n ih => exact stmt_step n (block_step n ih)
theorem block_any (n : Nat) : BlockOk n := block_step n (stmt_any n)
end Go.Proofs.Ytenpdmahjefoaaa
