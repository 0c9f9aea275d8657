
/-
  The document's Expr: an expression's text, or none.
-/
import Derived.Test.YtdgekckedchjbaaGreatDoorDA
import Derived.Test.YtdgekckedchjbaaGreatDoorD9
import Derived.Test.YtdgekckedchjbaaGreatDoorD7
import Derived.Test.YtdgekckedchjbaaGreatDoorQR
namespace Go.Proofs.YtdgekckedchjbaaGreatDoor
open Go.RowKit

/-- What the document's Expr gives. -/
def XprTo (w : World) (x : Gx) (e : Ending) (w' : World) : Prop := Below w.heap.size w w' ∧ ((∃ t, ExprIs x t ∧ e = .returned (.tuple #[.string (str t), .bool true])) ∨ ((∀ t, ¬ ExprIs x t) ∧ e = .returned (.tuple #[.string ⟨#[]⟩, .bool false])))
theorem str_data (s : ByteArray) : str s.data.toList = s := by
  apply ba_ext
  rw [str_list]
set_option maxHeartbeats 4000000 in
set_option maxRecDepth 100000 in
theorem refExpr_any (n : Nat) (op N : Int) (nm : ByteArray) (A : Option Addr) (len cap : Nat) (x : Gx) (w : World) (hG : GC (fun _ => True) w 2513169434843 n [.int .i64 op, .int .i64 N, .string nm, .slice A len cap] x) (hF : FitG n x) (hW : x.wgt ≤ 1048576) :
    Calls Tryz.prog 13 #[.agg #[.int .i64 op, .int .i64 N, .string nm, .slice A len cap]] w (XprTo w x) := by
  have X1 := Lib.hid (Blk.new w 24 #[.int .i64 op, .int .i64 N, .string nm, .slice A len cap])
  have F1 := Lib.hid ((Below.refl _ w).al (.cells #[.int .i64 op, .int .i64 N, .string nm, .slice A len cap] 24))
  have G1 := Lib.hid (hG.below F1.out)
  have RW := Lib.hid (raw_all n op N nm A len cap x _ G1.out hF hW)
  have hm : 40 * x.wgt ≤ 41943040 := by omega
  generalize 40 * x.wgt = m at *
  clear hG hF hW
  go_enter Tryz.func13, Tryz.ntmps13
  go_upto_region 1 with fail
  generalize w.alloc (.cells #[.int .i64 op, .int .i64 N, .string nm, .slice A len cap] 24) = W1 at *
  have v0 := X1.out.cell 0
  have v1 := X1.out.cell 1
  have v2 := X1.out.cell 2
  have v3 := X1.out.cell 3
  go_wp2_with fail
  refine RW.out.mono ?_
  rintro e w2 ⟨s, b, rfl, b2, hs, hb⟩
  have X2 := Lib.hid (X1.out.below b2 X1.out.lt)
  have F2 := Lib.hid (F1.out.trans (b2.mono F1.out.size))
  have G2 := Lib.hid (G1.out.below b2)
  have HB := Lib.hid hb
  clear v0 v1 v2 v3 hb b2 RW
  cases b
  · have HN : Hid (∀ t, ¬ ExprIs x t) := fun t ht => by
      rcases HB.out with ⟨h, _⟩ | ⟨_, h⟩
      · cases h
      · rw [ht.1] at h
        cases h
    go_wp2_with fail
    refine bodyPost_ret (v := .tuple #[.string ⟨#[]⟩, .bool false]) (by simp [results, Tryz.results13, go_sem]) rfl ⟨F2.out, .inr ⟨HN.out, rfl⟩⟩
  have HR : Hid (rawE x = some s.data.toList) := by
    rcases HB.out with ⟨_, h⟩ | ⟨h, _⟩
    · exact h
    · cases h
  clear HB
  have EX := Lib.hid (refExpression_any s w2 (by omega))
  go_wp2_with fail
  refine EX.out.mono ?_
  rintro e w3 ⟨op3, N3, nm3, B3, l3, k3, L3, C3, E3, rfl, b3, h3⟩
  have f4 : Below w3.heap.size w3 (w3.alloc (.cells #[.int .i64 op3, .int .i64 N3, .string nm3, .slice B3 l3 k3] 24)) := (Below.refl _ w3).al _
  have Y4 := Lib.hid (Blk.new w3 24 #[.int .i64 op3, .int .i64 N3, .string nm3, .slice B3 l3 k3])
  have X4 := Lib.hid ((X2.out.below b3 X2.out.lt).below f4 (Nat.lt_of_lt_of_le X2.out.lt b3.size))
  have F3 : Below w.heap.size w w3 := F2.out.trans (b3.mono F2.out.size)
  have F4 := Lib.hid (F3.trans (f4.mono F3.size))
  have G4 := Lib.hid ((G2.out.below b3).below f4)
  rcases h3 with ⟨rfl, h5, y, hy, hg⟩ | ⟨hE, hno⟩
  rotate_left
  · have hE2 : ((E3 : Int) == 0) = false := by simp [hE]
    have HN : Hid (∀ t, ¬ ExprIs x t) := fun t ht => hno (by
      have h := ht.1
      rw [HR.out] at h
      have h := Option.some.inj h
      subst h
      obtain ⟨y, h1, _⟩ := ht.2.2
      exact ⟨by rw [← size_list]; exact ht.2.1, y, h1⟩)
    clear hno b3 f4 F3
    go_wp2_with fail
    refine bodyPost_ret (v := .tuple #[.string ⟨#[]⟩, .bool false]) (by simp [results, Tryz.results13, go_sem]) rfl ⟨F4.out, .inr ⟨HN.out, rfl⟩⟩
  have HG := Lib.hid (hg.below f4)
  have HY := Lib.hid hy
  have HS := Lib.hid h5
  clear hg hy h5 b3 f4 F3 EX
  go_upto_region 5 with fail
  generalize w3.alloc (.cells #[.int .i64 op3, .int .i64 N3, .string nm3, .slice B3 l3 k3] 24) = W4 at *
  have v0 := X4.out.cell 0
  have v1 := X4.out.cell 1
  have v2 := X4.out.cell 2
  have v3 := X4.out.cell 3
  have u0 := Y4.out.cell 0
  have u1 := Y4.out.cell 1
  have u2 := Y4.out.cell 2
  have u3 := Y4.out.cell 3
  have SM := Lib.hid (refSame_any HG.out G4.out)
  go_wp2_with fail
  refine SM.out.mono ?_
  rintro e w5 ⟨b, rfl, hb, b5⟩
  have F5 := Lib.hid (F4.out.trans (b5.mono F4.out.size))
  have HB := Lib.hid hb
  clear v0 v1 v2 v3 u0 u1 u2 u3 hb b5 SM
  cases b
  · have HN : Hid (∀ t, ¬ ExprIs x t) := fun t ht => by
      have h := ht.1
      rw [HR.out] at h
      have h := Option.some.inj h
      subst h
      obtain ⟨z, h1, h2⟩ := ht.2.2
      rw [HY.out] at h1
      injection h1 with h1
      subst h1
      exact absurd (HB.out.2 h2) (by decide)
    go_wp2_with fail
    refine bodyPost_ret (v := .tuple #[.string ⟨#[]⟩, .bool false]) (by simp [results, Tryz.results13, go_sem]) rfl ⟨F5.out, .inr ⟨HN.out, rfl⟩⟩
  · have HX : Hid (ExprIs x s.data.toList) := ⟨HR.out, by rw [size_list]; exact HS.out, y, HY.out, HB.out.1 rfl⟩
    go_wp2_with fail
    refine bodyPost_ret (v := .tuple #[.string s, .bool true]) (by simp [results, Tryz.results13, go_sem]) rfl ⟨F5.out, .inl ⟨_, HX.out, by rw [str_data]⟩⟩
end Go.Proofs.YtdgekckedchjbaaGreatDoor
