/-
  TopupSums: what is held is what was laid: the walk.
-/
import Derived.Test.YtdbffjipoiphpaaT18
import Derived.Test.YtdbffjipoiphpaaTrod
namespace Go.Proofs.Ytdbffjipoiphpaa
open Go.RowKit

/-- The k-th element of a slice of elements of s cells. -/
theorem Reads.chunk {w : World} {B s n : Nat} {A : Option Addr} {xs cs : List Value} (h : Reads w B s A n xs) (hs : 0 < s) {k : Nat} (hk : k < n) (hcs : (xs.drop (k * s)).take s = cs) :
    ∃ b o, A = some ⟨b, o, none⟩ ∧ b < B ∧ ∀ j u, cs[j]? = some u → w.cell? ⟨b, o + k * s + j, none⟩ = some u := by
  obtain ⟨ad, rfl, hb, hc⟩ := h.2 (by omega)
  have hlen : k * s + s ≤ xs.length := by
    rw [h.1]
    have h1 : k * s + s = (k + 1) * s := by rw [Nat.add_mul, Nat.one_mul]
    rw [h1]
    exact Nat.mul_le_mul_right _ hk
  have h0 := hc 0 _ (List.getElem?_eq_getElem (by omega))
  obtain ⟨b, o, spot⟩ := ad
  have hspot : spot = none := by simpa [Addr.add] using World.cell?_spot h0
  subst hspot
  refine ⟨b, o, rfl, hb, fun j u hu => ?_⟩
  rw [← hcs, List.getElem?_take] at hu
  split at hu
  · rw [List.getElem?_drop] at hu
    have := hc _ u hu
    rw [Addr.add_lit] at this
    rw [Nat.add_assoc]
    exact this
  · cases hu

/-- The cells of an act. -/
def ActC (w : World) (B : Nat) (cs : List Value) : Prop := ∃ (kind h seat N t0 t1 t2 t3 t4 t5 t6 t7 num till : Int) (A : Option Addr) (n c : Nat) (adds : List Int),
  cs = [.int .i64 kind, .int .i64 h, .int .i64 seat, .int .i64 N, .int .u8 t0, .int .u8 t1, .int .u8 t2, .int .u8 t3, .int .u8 t4, .int .u8 t5, .int .u8 t6, .int .u8 t7, .int .i64 num, .slice A n c, .int .i64 till] ∧ n ≤ c ∧ Reads w B 1 A n (adds.map (Value.int .i64))
/-- Open, whatever the bank. -/
def OpenAny (w : World) (e : Ending) (w' : World) : Prop := ∃ (r0 r1 r2 r3 r4 r5 r6 r7 num till : Int) (A AL : Option Addr) (n c nl cl : Nat) (adds : List Int) (q : Bool),
  e = .returned (.tuple #[.agg #[.int .u8 r0, .int .u8 r1, .int .u8 r2, .int .u8 r3, .int .u8 r4, .int .u8 r5, .int .u8 r6, .int .u8 r7, .int .i64 num, .slice A n c, .int .i64 till], .slice AL nl cl, .bool q]) ∧ RI w' A n adds ∧ n ≤ 8 ∧ Below w.heap.size w w'
theorem open_any (S : Nat → Prop) (g gs cs : Nat) (wp : Option Addr) (b : Bk) (w : World) (hB : BAt w S g gs cs wp b) : Calls Try.prog 12 #[.pointer (some ⟨g, 0, none⟩)] w (OpenAny w) := by
  cases hw : b.wt with
  | none => exact (open_none S g gs cs wp b w hB hw).mono fun e w' ⟨he, hb⟩ => ⟨0, 0, 0, 0, 0, 0, 0, 0, 0, 0, none, none, 0, 0, 0, 0, [], false, he, Reads.none_, by omega, hb⟩
  | some x =>
    obtain ⟨gw, ga, ca, _, hxw, _⟩ := hB.some_ x hw
    obtain ⟨t0, t1, t2, t3, t4, t5, t6, t7, ht⟩ := eight hxw.tab
    refine (open_some S g gs cs wp b x w hB hw).mono ?_
    rintro e w' ⟨ga', ca', gl, rfl, ia, il, _, _, _, hb⟩
    refine ⟨t0, t1, t2, t3, t4, t5, t6, t7, x.num, x.till, some ⟨ga', 0, none⟩, some ⟨gl, 0, none⟩, x.adds.length, ca', b.stakes.length, b.stakes.length, x.adds, true, ?_, ia.ri, hxw.few, hb⟩
    unfold rcells
    rw [ht]
    rfl
end Go.Proofs.Ytdbffjipoiphpaa
