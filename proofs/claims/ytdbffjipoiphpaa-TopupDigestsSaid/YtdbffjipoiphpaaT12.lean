/-
  package topup: Ask, walked.
-/
import Derived.Test.YtdbffjipoiphpaaT11
import Derived.Laws.EntriesVeiled
namespace Go.Proofs.Ytdbffjipoiphpaa
open Go.RowKit

theorem blks3 {w w1 : World} {t0 t1 t2 : TypeId} {c0 c1 c2 : Array Value} (hb : Below (((w.alloc (.cells c0 t0)).alloc (.cells c1 t1)).alloc (.cells c2 t2)).heap.size (((w.alloc (.cells c0 t0)).alloc (.cells c1 t1)).alloc (.cells c2 t2)) w1) :
    Blk w1 w.heap.size t0 c0 ∧ Blk w1 (w.heap.size + 1) t1 c1 ∧ Blk w1 (w.heap.size + 1 + 1) t2 c2 ∧ Below w.heap.size w w1 := by
  refine ⟨Blk.below (((Blk.new w t0 c0).alloc _).alloc _) hb (by simp; omega), ?_, ?_, ((((Below.refl _ w).al _).al _).al _).then_ hb⟩
  · have := Blk.below ((Blk.new (w.alloc (.cells c0 t0)) t1 c1).alloc (.cells c2 t2)) hb (by simp)
    simpa using this
  · have := Blk.below (Blk.new ((w.alloc (.cells c0 t0)).alloc (.cells c1 t1)) t2 c2) hb (by simp)
    simpa using this

theorem askBlks (w : World) (g : Nat) (h : Int) (t0 t1 t2 t3 t4 t5 t6 t7 num till : Int) (A : Option Addr) (n c : Nat) (adds : List Int) :
    Blk (((((((w.alloc (.cells #[.pointer (some ⟨g, 0, none⟩)] 24)).alloc (.cells #[.int .i64 h] 3)).alloc (.cells #[.int .u8 t0, .int .u8 t1, .int .u8 t2, .int .u8 t3, .int .u8 t4, .int .u8 t5, .int .u8 t6, .int .u8 t7, .int .i64 num, .slice A n c, .int .i64 till] 33)).alloc (.cells #[.int .i64 (totR 0 adds).1] 3)).alloc (.cells #[.bool (totR 0 adds).2] 4)).alloc (.cells #[.func (.func 33) #[] #[.pointer (some ⟨w.heap.size, 0, none⟩), .pointer (some ⟨w.heap.size + 1, 0, none⟩)]] 28)).alloc (.cells ((askF w.heap.size (w.heap.size + 1) (w.heap.size + 1 + 1) (w.heap.size + 1 + 1 + 1) (w.heap.size + 1 + 1 + 1 + 1) (w.heap.size + 1 + 1 + 1 + 1 + 1)).map fun f => Value.func (.func f.1) #[] f.2).toArray 81)) w.heap.size 24 #[.pointer (some ⟨g, 0, none⟩)] ∧ Blk (((((((w.alloc (.cells #[.pointer (some ⟨g, 0, none⟩)] 24)).alloc (.cells #[.int .i64 h] 3)).alloc (.cells #[.int .u8 t0, .int .u8 t1, .int .u8 t2, .int .u8 t3, .int .u8 t4, .int .u8 t5, .int .u8 t6, .int .u8 t7, .int .i64 num, .slice A n c, .int .i64 till] 33)).alloc (.cells #[.int .i64 (totR 0 adds).1] 3)).alloc (.cells #[.bool (totR 0 adds).2] 4)).alloc (.cells #[.func (.func 33) #[] #[.pointer (some ⟨w.heap.size, 0, none⟩), .pointer (some ⟨w.heap.size + 1, 0, none⟩)]] 28)).alloc (.cells ((askF w.heap.size (w.heap.size + 1) (w.heap.size + 1 + 1) (w.heap.size + 1 + 1 + 1) (w.heap.size + 1 + 1 + 1 + 1) (w.heap.size + 1 + 1 + 1 + 1 + 1)).map fun f => Value.func (.func f.1) #[] f.2).toArray 81)) (w.heap.size + 1) 3 #[.int .i64 h] ∧ Blk (((((((w.alloc (.cells #[.pointer (some ⟨g, 0, none⟩)] 24)).alloc (.cells #[.int .i64 h] 3)).alloc (.cells #[.int .u8 t0, .int .u8 t1, .int .u8 t2, .int .u8 t3, .int .u8 t4, .int .u8 t5, .int .u8 t6, .int .u8 t7, .int .i64 num, .slice A n c, .int .i64 till] 33)).alloc (.cells #[.int .i64 (totR 0 adds).1] 3)).alloc (.cells #[.bool (totR 0 adds).2] 4)).alloc (.cells #[.func (.func 33) #[] #[.pointer (some ⟨w.heap.size, 0, none⟩), .pointer (some ⟨w.heap.size + 1, 0, none⟩)]] 28)).alloc (.cells ((askF w.heap.size (w.heap.size + 1) (w.heap.size + 1 + 1) (w.heap.size + 1 + 1 + 1) (w.heap.size + 1 + 1 + 1 + 1) (w.heap.size + 1 + 1 + 1 + 1 + 1)).map fun f => Value.func (.func f.1) #[] f.2).toArray 81)) (w.heap.size + 1 + 1) 33 #[.int .u8 t0, .int .u8 t1, .int .u8 t2, .int .u8 t3, .int .u8 t4, .int .u8 t5, .int .u8 t6, .int .u8 t7, .int .i64 num, .slice A n c, .int .i64 till] ∧
    Blk (((((((w.alloc (.cells #[.pointer (some ⟨g, 0, none⟩)] 24)).alloc (.cells #[.int .i64 h] 3)).alloc (.cells #[.int .u8 t0, .int .u8 t1, .int .u8 t2, .int .u8 t3, .int .u8 t4, .int .u8 t5, .int .u8 t6, .int .u8 t7, .int .i64 num, .slice A n c, .int .i64 till] 33)).alloc (.cells #[.int .i64 (totR 0 adds).1] 3)).alloc (.cells #[.bool (totR 0 adds).2] 4)).alloc (.cells #[.func (.func 33) #[] #[.pointer (some ⟨w.heap.size, 0, none⟩), .pointer (some ⟨w.heap.size + 1, 0, none⟩)]] 28)).alloc (.cells ((askF w.heap.size (w.heap.size + 1) (w.heap.size + 1 + 1) (w.heap.size + 1 + 1 + 1) (w.heap.size + 1 + 1 + 1 + 1) (w.heap.size + 1 + 1 + 1 + 1 + 1)).map fun f => Value.func (.func f.1) #[] f.2).toArray 81)) (w.heap.size + 1 + 1 + 1) 3 #[.int .i64 (totR 0 adds).1] ∧ Blk (((((((w.alloc (.cells #[.pointer (some ⟨g, 0, none⟩)] 24)).alloc (.cells #[.int .i64 h] 3)).alloc (.cells #[.int .u8 t0, .int .u8 t1, .int .u8 t2, .int .u8 t3, .int .u8 t4, .int .u8 t5, .int .u8 t6, .int .u8 t7, .int .i64 num, .slice A n c, .int .i64 till] 33)).alloc (.cells #[.int .i64 (totR 0 adds).1] 3)).alloc (.cells #[.bool (totR 0 adds).2] 4)).alloc (.cells #[.func (.func 33) #[] #[.pointer (some ⟨w.heap.size, 0, none⟩), .pointer (some ⟨w.heap.size + 1, 0, none⟩)]] 28)).alloc (.cells ((askF w.heap.size (w.heap.size + 1) (w.heap.size + 1 + 1) (w.heap.size + 1 + 1 + 1) (w.heap.size + 1 + 1 + 1 + 1) (w.heap.size + 1 + 1 + 1 + 1 + 1)).map fun f => Value.func (.func f.1) #[] f.2).toArray 81)) (w.heap.size + 1 + 1 + 1 + 1) 4 #[.bool (totR 0 adds).2] ∧
    Blk (((((((w.alloc (.cells #[.pointer (some ⟨g, 0, none⟩)] 24)).alloc (.cells #[.int .i64 h] 3)).alloc (.cells #[.int .u8 t0, .int .u8 t1, .int .u8 t2, .int .u8 t3, .int .u8 t4, .int .u8 t5, .int .u8 t6, .int .u8 t7, .int .i64 num, .slice A n c, .int .i64 till] 33)).alloc (.cells #[.int .i64 (totR 0 adds).1] 3)).alloc (.cells #[.bool (totR 0 adds).2] 4)).alloc (.cells #[.func (.func 33) #[] #[.pointer (some ⟨w.heap.size, 0, none⟩), .pointer (some ⟨w.heap.size + 1, 0, none⟩)]] 28)).alloc (.cells ((askF w.heap.size (w.heap.size + 1) (w.heap.size + 1 + 1) (w.heap.size + 1 + 1 + 1) (w.heap.size + 1 + 1 + 1 + 1) (w.heap.size + 1 + 1 + 1 + 1 + 1)).map fun f => Value.func (.func f.1) #[] f.2).toArray 81)) (w.heap.size + 1 + 1 + 1 + 1 + 1) 28 #[.func (.func 33) #[] #[.pointer (some ⟨w.heap.size, 0, none⟩), .pointer (some ⟨w.heap.size + 1, 0, none⟩)]] ∧
    Blk (((((((w.alloc (.cells #[.pointer (some ⟨g, 0, none⟩)] 24)).alloc (.cells #[.int .i64 h] 3)).alloc (.cells #[.int .u8 t0, .int .u8 t1, .int .u8 t2, .int .u8 t3, .int .u8 t4, .int .u8 t5, .int .u8 t6, .int .u8 t7, .int .i64 num, .slice A n c, .int .i64 till] 33)).alloc (.cells #[.int .i64 (totR 0 adds).1] 3)).alloc (.cells #[.bool (totR 0 adds).2] 4)).alloc (.cells #[.func (.func 33) #[] #[.pointer (some ⟨w.heap.size, 0, none⟩), .pointer (some ⟨w.heap.size + 1, 0, none⟩)]] 28)).alloc (.cells ((askF w.heap.size (w.heap.size + 1) (w.heap.size + 1 + 1) (w.heap.size + 1 + 1 + 1) (w.heap.size + 1 + 1 + 1 + 1) (w.heap.size + 1 + 1 + 1 + 1 + 1)).map fun f => Value.func (.func f.1) #[] f.2).toArray 81)) (w.heap.size + 1 + 1 + 1 + 1 + 1 + 1) 81 ((askF w.heap.size (w.heap.size + 1) (w.heap.size + 1 + 1) (w.heap.size + 1 + 1 + 1) (w.heap.size + 1 + 1 + 1 + 1) (w.heap.size + 1 + 1 + 1 + 1 + 1)).map fun f => Value.func (.func f.1) #[] f.2).toArray ∧
    Below w.heap.size w (((((((w.alloc (.cells #[.pointer (some ⟨g, 0, none⟩)] 24)).alloc (.cells #[.int .i64 h] 3)).alloc (.cells #[.int .u8 t0, .int .u8 t1, .int .u8 t2, .int .u8 t3, .int .u8 t4, .int .u8 t5, .int .u8 t6, .int .u8 t7, .int .i64 num, .slice A n c, .int .i64 till] 33)).alloc (.cells #[.int .i64 (totR 0 adds).1] 3)).alloc (.cells #[.bool (totR 0 adds).2] 4)).alloc (.cells #[.func (.func 33) #[] #[.pointer (some ⟨w.heap.size, 0, none⟩), .pointer (some ⟨w.heap.size + 1, 0, none⟩)]] 28)).alloc (.cells ((askF w.heap.size (w.heap.size + 1) (w.heap.size + 1 + 1) (w.heap.size + 1 + 1 + 1) (w.heap.size + 1 + 1 + 1 + 1) (w.heap.size + 1 + 1 + 1 + 1 + 1)).map fun f => Value.func (.func f.1) #[] f.2).toArray 81)) := by
  obtain ⟨a0, a1, a2, f⟩ := blks3 (Below.refl (((w.alloc (.cells #[.pointer (some ⟨g, 0, none⟩)] 24)).alloc (.cells #[.int .i64 h] 3)).alloc (.cells #[.int .u8 t0, .int .u8 t1, .int .u8 t2, .int .u8 t3, .int .u8 t4, .int .u8 t5, .int .u8 t6, .int .u8 t7, .int .i64 num, .slice A n c, .int .i64 till] 33)).heap.size _)
  have hs : (((w.alloc (.cells #[.pointer (some ⟨g, 0, none⟩)] 24)).alloc (.cells #[.int .i64 h] 3)).alloc (.cells #[.int .u8 t0, .int .u8 t1, .int .u8 t2, .int .u8 t3, .int .u8 t4, .int .u8 t5, .int .u8 t6, .int .u8 t7, .int .i64 num, .slice A n c, .int .i64 till] 33)).heap.size = w.heap.size + 1 + 1 + 1 := by simp
  generalize ((w.alloc (.cells #[.pointer (some ⟨g, 0, none⟩)] 24)).alloc (.cells #[.int .i64 h] 3)).alloc (.cells #[.int .u8 t0, .int .u8 t1, .int .u8 t2, .int .u8 t3, .int .u8 t4, .int .u8 t5, .int .u8 t6, .int .u8 t7, .int .i64 num, .slice A n c, .int .i64 till] 33) = X at *
  obtain ⟨d0, d1, d2, d3, f'⟩ := blks4 (Below.refl (((((X).alloc (.cells #[.int .i64 (totR 0 adds).1] 3)).alloc (.cells #[.bool (totR 0 adds).2] 4)).alloc (.cells #[.func (.func 33) #[] #[.pointer (some ⟨w.heap.size, 0, none⟩), .pointer (some ⟨w.heap.size + 1, 0, none⟩)]] 28)).alloc (.cells ((askF w.heap.size (w.heap.size + 1) (w.heap.size + 1 + 1) (w.heap.size + 1 + 1 + 1) (w.heap.size + 1 + 1 + 1 + 1) (w.heap.size + 1 + 1 + 1 + 1 + 1)).map fun f => Value.func (.func f.1) #[] f.2).toArray 81)).heap.size _)
  rw [hs] at d0 d1 d2 d3
  exact ⟨a0.below f' a0.lt, a1.below f' a1.lt, a2.below f' a2.lt, d0, d1, d2, d3, f.then_ f'⟩

set_option maxHeartbeats 1000000 in
set_option maxRecDepth 100000 in
theorem ask_no (S : Nat → Prop) (g gs cs : Nat) (wp : Option Addr) (b : Bk) (h : Int) (t0 t1 t2 t3 t4 t5 t6 t7 num till : Int) (A : Option Addr) (n c : Nat) (adds : List Int) (w : World) (hB : BAt w S g gs cs wp b) (hr : RI w A n adds) (hn : n ≤ 16) (hE : askE b h num adds till ≠ 0) :
    Calls Try.prog 13 #[.pointer (some ⟨g, 0, none⟩), .int .i64 h, .agg #[.int .u8 t0, .int .u8 t1, .int .u8 t2, .int .u8 t3, .int .u8 t4, .int .u8 t5, .int .u8 t6, .int .u8 t7, .int .i64 num, .slice A n c, .int .i64 till]] w fun e w' => e = .returned (.int .i64 (askE b h num adds till)) ∧ Below w.heap.size w w' := by
  have ht : (askE b h num adds till != 0) = true := by rw [bne_iff_ne]; exact hE
  clear hE
  go_enter Try.func13, Try.ntmps13
  go_wp2_with fail
  have fr : Below w.heap.size w (((w.alloc (.cells #[.pointer (some ⟨g, 0, none⟩)] 24)).alloc (.cells #[.int .i64 h] 3)).alloc (.cells #[.int .u8 t0, .int .u8 t1, .int .u8 t2, .int .u8 t3, .int .u8 t4, .int .u8 t5, .int .u8 t6, .int .u8 t7, .int .i64 num, .slice A n c, .int .i64 till] 33)) := (((Below.refl _ w).al _).al _).al _
  refine (total_any A n c adds _ (hr.below fr) hn).mono ?_
  rintro e w' ⟨rfl, rfl⟩
  clear fr
  go_wp2_with fail
  obtain ⟨p3, p4, p5, p7, p8, p9, p10, f0⟩ := askBlks w g h t0 t1 t2 t3 t4 t5 t6 t7 num till A n c adds
  refine (askAsk S g gs cs wp b h num till A n c adds _ _ _ _ _ _ _ _ _ (hB.below f0) hr.len hn p3 p4 p5 rfl rfl rfl p7 p8 p9 p10).mono ?_
  rintro e w1 ⟨rfl, b1⟩
  have f1 := f0.then_ b1
  clear f0 b1 p3 p4 p5 p7 p8 p9 p10
  go_wp2_with fail
  go_ret
  exact ⟨rfl, f1⟩

/-- Who has laid theirs from the start, so far. -/
def laidTo (adds : List Int) (k : Nat) : List Bool := (adds.take k).map (fun a => a == 0) ++ List.replicate (8 - k) false
theorem laidTo_len (adds : List Int) (hn : adds.length ≤ 8) (k : Nat) (hk : k ≤ adds.length) : (laidTo adds k).length = 8 := by simp [laidTo]; omega
theorem laidTo_succ (adds : List Int) (hn : adds.length ≤ 8) (k : Nat) (hk : k < adds.length) : (laidTo adds k).set k (adds[k] == 0) = laidTo adds (k + 1) := by
  unfold laidTo
  have hz : ((adds.take k).map (fun a => a == 0)).length = k := by simp; omega
  rw [List.set_append_right _ _ (by omega), hz, Nat.sub_self, show 8 - k = (8 - (k + 1)) + 1 from by omega, List.replicate_succ, List.set_cons_zero, List.take_succ_eq_append_getElem hk, List.map_append]
  simp
/-- The raise that waits then. -/
def askW (tab : List Int) (num : Int) (adds : List Int) (till : Int) : Wt := ⟨tab, num, adds, till, laidTo adds adds.length⟩
def askB (b : Bk) (tab : List Int) (num : Int) (adds : List Int) (till : Int) : Bk := { b with last := num, wt := some (askW tab num adds till) }
end Go.Proofs.Ytdbffjipoiphpaa
