
/-
  The law SyntaxJoins.
-/
import Derived.Test.YtdmlnoeneoomfaaDoorS11
import Derived.Deep.RegionHeld3
import Derived.Deep.DeepCutAuto
namespace Go.Proofs.YtdmlnoeneoomfaaDoor
open Go.RowKit

def mkJ : Nat → List UInt8
  | 0 => [111, 114]
  | 1 => [97, 110, 100]
  | 2 => [43]
  | 3 => [45]
  | 4 => [42]
  | 5 => [47]
  | _ => [37]
def tgJ : Nat → Int
  | 0 => 0
  | 1 => 1
  | 2 => 2
  | 3 => 2
  | _ => 3
def opJ : Nat → Int
  | 0 => 17
  | 1 => 16
  | 2 => 8
  | 3 => 9
  | 4 => 5
  | 5 => 6
  | _ => 7
def treeJ (i j : Nat) : Ex := if tgJ i < tgJ j then .bin (opJ i) (.nam [120]) (.bin (opJ j) (.nam [121]) (.nam [122])) else .bin (opJ j) (.bin (opJ i) (.nam [120]) (.nam [121])) (.nam [122])
def textJ (i j : Nat) : List UInt8 := [120, 32] ++ mkJ i ++ [32, 121, 32] ++ mkJ j ++ [32, 122]
theorem seven {P : Nat → Prop} (h : P 0 ∧ P 1 ∧ P 2 ∧ P 3 ∧ P 4 ∧ P 5 ∧ P 6) : ∀ i, i < 7 → P i
  | 0, _ => h.1
  | 1, _ => h.2.1
  | 2, _ => h.2.2.1
  | 3, _ => h.2.2.2.1
  | 4, _ => h.2.2.2.2.1
  | 5, _ => h.2.2.2.2.2.1
  | 6, _ => h.2.2.2.2.2.2
  | _ + 7, h => absurd h (by omega)
theorem joins_law : ∀ i, i < 7 → ∀ j, j < 7 → exprO (textJ i j) = .ok (treeJ i j) := by
  refine seven ⟨?_, ?_, ?_, ?_, ?_, ?_, ?_⟩ <;> refine seven ⟨?_, ?_, ?_, ?_, ?_, ?_, ?_⟩ <;> kernel_rfl
set_option maxHeartbeats 8000000 in
set_option maxRecDepth 100000 in
theorem joins_walk (a b : Nat) (w : World) (hT : Spaces w) (ha : a < 256) (hb : b < 256) : Calls Tryd.prog 5 #[.int .u8 (a : Int), .int .u8 (b : Int)] w (Tells w true) := by
  have KN := Lib.hid (fun W hW => known_any W (hT.below (w' := W) hW))
  have EX := Lib.hid (fun s W hW hs => Expression_any s W (hT.below (w' := W) hW) hs)
  obtain ⟨i, hi⟩ : ∃ i, a % 7 = i := ⟨_, rfl⟩
  obtain ⟨j, hj⟩ : ∃ j, b % 7 = j := ⟨_, rfl⟩
  have hi7 : i < 7 := by omega
  have hj7 : j < 7 := by omega
  have r1 : ((a : Int)).tmod 7 = (i : Int) := by rw [Int.tmod_eq_emod_of_nonneg (by omega)]; omega
  have r2 : ((b : Int)).tmod 7 = (j : Int) := by rw [Int.tmod_eq_emod_of_nonneg (by omega)]; omega
  have q1 : IntKind.i64.wrap (a : Int) = (a : Int) := IntWalk.i64_in _ ⟨by omega, by omega⟩
  have q2 : IntKind.i64.wrap (b : Int) = (b : Int) := IntWalk.i64_in _ ⟨by omega, by omega⟩
  have q3 : IntKind.i64.wrap (i : Int) = (i : Int) := IntWalk.i64_in _ ⟨by omega, by omega⟩
  have q4 : IntKind.i64.wrap (j : Int) = (j : Int) := IntWalk.i64_in _ ⟨by omega, by omega⟩
  clear hi hj hT
  go_enter Tryd.func5, Tryd.ntmps5
  go_upto_region 4 with fail
  go_quiet (fail)
  have f3 : Below w.heap.size w ((((w.alloc (.cells #[.string ⟨#[111, 114]⟩, .string ⟨#[97, 110, 100]⟩, .string ⟨#[43]⟩, .string ⟨#[45]⟩, .string ⟨#[42]⟩, .string ⟨#[47]⟩, .string ⟨#[37]⟩] 9)).alloc (.cells #[.int .i64 0, .int .i64 1, .int .i64 2, .int .i64 2, .int .i64 3, .int .i64 3, .int .i64 3] 3)).alloc (.cells #[.int .i64 17, .int .i64 16, .int .i64 8, .int .i64 9, .int .i64 5, .int .i64 6, .int .i64 7] 3)).drewN nq) := below_drewN ((((Below.refl _ w).al _).alloc (by simp) _).alloc (by simp; omega) _) nq
  obtain ⟨x1, x2, x3⟩ := three_new w 9 3 3 #[.string ⟨#[111, 114]⟩, .string ⟨#[97, 110, 100]⟩, .string ⟨#[43]⟩, .string ⟨#[45]⟩, .string ⟨#[42]⟩, .string ⟨#[47]⟩, .string ⟨#[37]⟩] #[.int .i64 0, .int .i64 1, .int .i64 2, .int .i64 2, .int .i64 3, .int .i64 3, .int .i64 3] #[.int .i64 17, .int .i64 16, .int .i64 8, .int .i64 9, .int .i64 5, .int .i64 6, .int .i64 7]
  have x1 := x1.drewN nq
  have x2 := x2.drewN nq
  have x3 := x3.drewN nq
  go_upto_region 5 with fail
  generalize (((w.alloc (.cells #[.string ⟨#[111, 114]⟩, .string ⟨#[97, 110, 100]⟩, .string ⟨#[43]⟩, .string ⟨#[45]⟩, .string ⟨#[42]⟩, .string ⟨#[47]⟩, .string ⟨#[37]⟩] 9)).alloc (.cells #[.int .i64 0, .int .i64 1, .int .i64 2, .int .i64 2, .int .i64 3, .int .i64 3, .int .i64 3] 3)).alloc (.cells #[.int .i64 17, .int .i64 16, .int .i64 8, .int .i64 9, .int .i64 5, .int .i64 6, .int .i64 7] 3)).drewN nq = W3 at *
  have eM : ∀ i, i < 7 → (#[.string ⟨#[111, 114]⟩, .string ⟨#[97, 110, 100]⟩, .string ⟨#[43]⟩, .string ⟨#[45]⟩, .string ⟨#[42]⟩, .string ⟨#[47]⟩, .string ⟨#[37]⟩] : Array Value)[i]? = some (.string (str (mkJ i))) := seven ⟨rfl, rfl, rfl, rfl, rfl, rfl, rfl⟩
  have eT : ∀ i, i < 7 → (#[.int .i64 0, .int .i64 1, .int .i64 2, .int .i64 2, .int .i64 3, .int .i64 3, .int .i64 3] : Array Value)[i]? = some (.int .i64 (tgJ i)) := seven ⟨rfl, rfl, rfl, rfl, rfl, rfl, rfl⟩
  have eO : ∀ i, i < 7 → (#[.int .i64 17, .int .i64 16, .int .i64 8, .int .i64 9, .int .i64 5, .int .i64 6, .int .i64 7] : Array Value)[i]? = some (.int .i64 (opJ i)) := seven ⟨rfl, rfl, rfl, rfl, rfl, rfl, rfl⟩
  have hm : ∀ i, i < 7 → (str (mkJ i)).size ≤ 3 := seven ⟨by decide, by decide, by decide, by decide, by decide, by decide, by decide⟩
  have k1 := hm i hi7
  have k2 := hm j hj7
  have EX2 : Hid (∀ W, Below w.heap.size w W → Calls Tryd.prog 9 #[.string (⟨#[120, 32]⟩ ++ str (mkJ i) ++ ⟨#[32, 121, 32]⟩ ++ str (mkJ j) ++ ⟨#[32, 122]⟩)] W (ExprTo W (.ok (treeJ i j)))) := fun W hW => by
    have h1 := EX.out (⟨#[120, 32]⟩ ++ str (mkJ i) ++ ⟨#[32, 121, 32]⟩ ++ str (mkJ j) ++ ⟨#[32, 122]⟩) W hW (by simp only [ByteArray.size_append]; have e1 : (⟨#[120, 32]⟩ : ByteArray).size = 2 := rfl; have e2 : (⟨#[32, 121, 32]⟩ : ByteArray).size = 3 := rfl; have e3 : (⟨#[32, 122]⟩ : ByteArray).size = 2 := rfl; omega)
    have h2 : (⟨#[120, 32]⟩ ++ str (mkJ i) ++ ⟨#[32, 121, 32]⟩ ++ str (mkJ j) ++ ⟨#[32, 122]⟩ : ByteArray).data.toList = textJ i j := by simp [textJ, str, ByteArray.data_append]
    rw [h2, joins_law i hi7 j hj7] at h1
    exact h1
  have m1 : W3.cell? ⟨w.heap.size, i, none⟩ = some (.string (str (mkJ i))) := (x1.cell i).trans (eM i hi7)
  have m2 : W3.cell? ⟨w.heap.size, j, none⟩ = some (.string (str (mkJ j))) := (x1.cell j).trans (eM j hj7)
  have KQ : Hid (∀ W, Below W3.heap.size W3 W → W.cell? ⟨w.heap.size, i, none⟩ = some (.string (str (mkJ i))) ∧ W.cell? ⟨w.heap.size, j, none⟩ = some (.string (str (mkJ j)))) := fun W hW => ⟨((x1.below hW x1.lt).cell i).trans (eM i hi7), ((x1.below hW x1.lt).cell j).trans (eM j hj7)⟩
  have XT := Lib.hid x2
  have XO := Lib.hid x3
  have tI := eT i hi7
  have tJ := eT j hj7
  have oI := eO i hi7
  have oJ := eO j hj7
  have F3 := Lib.hid f3
  have HTI := Lib.hid tI
  have HTJ := Lib.hid tJ
  have HOI := Lib.hid oI
  have HOJ := Lib.hid oJ
  obtain ⟨tree, htree⟩ : ∃ t, treeJ i j = t := ⟨_, rfl⟩
  rw [htree] at EX2
  have HTR := Lib.hid htree
  generalize str (mkJ i) = mi at *
  generalize str (mkJ j) = mj at *
  have b1 : ¬ (9223372036854775807 < 2 + mi.size) := by omega
  have b2 : ¬ (9223372036854775807 < 2 + mi.size + 3) := by omega
  have b3 : ¬ (9223372036854775807 < 2 + mi.size + 3 + mj.size) := by omega
  have b4 : ¬ (9223372036854775807 < 2 + mi.size + 3 + mj.size + 2) := by omega
  have g1 : (0 : Int) ≤ (i : Int) := by omega
  have g2 : (i : Int) < 7 := by omega
  have g3 : (0 : Int) ≤ (j : Int) := by omega
  have g4 : (j : Int) < 7 := by omega
  have FD := Lib.hid f3.drew
  clear eM eT eO hm x1 x2 x3 tI tJ oI oJ f3 htree r1 r2 q1 q2 q3 q4 EX
  have FF0 : Hid (Below W3.heap.size W3 W3.drew) := (Below.refl W3.heap.size W3).drew
  have FC0 : Hid (Calls Tryd.prog 9 #[.string (⟨#[120, 32]⟩ ++ mi ++ ⟨#[32, 121, 32]⟩ ++ mj ++ ⟨#[32, 122]⟩)] (W3.drew) (ExprTo (W3.drew) (.ok tree))) := EX2.out _ (F3.out.trans (FF0.out.mono F3.out.size))
  have FF1 : Hid (Below W3.heap.size W3 (W3.alloc (.cells #[.int .i64 0, .int .i64 0, .string ⟨#[]⟩, .slice none 0 0] 25)).drew) := ((Below.refl _ W3).al (.cells #[.int .i64 0, .int .i64 0, .string ⟨#[]⟩, .slice none 0 0] 25)).drew
  have FC1 : Hid (Calls Tryd.prog 9 #[.string (⟨#[120, 32]⟩ ++ mi ++ ⟨#[32, 121, 32]⟩ ++ mj ++ ⟨#[32, 122]⟩)] ((W3.alloc (.cells #[.int .i64 0, .int .i64 0, .string ⟨#[]⟩, .slice none 0 0] 25)).drew) (ExprTo ((W3.alloc (.cells #[.int .i64 0, .int .i64 0, .string ⟨#[]⟩, .slice none 0 0] 25)).drew) (.ok tree))) := EX2.out _ (F3.out.trans (FF1.out.mono F3.out.size))
  have N1E := Lib.hid (Blk.new W3 25 #[.int .i64 0, .int .i64 0, .string ⟨#[]⟩, .slice none 0 0])
  have FF2 : Hid (Below W3.heap.size W3 (W3.alloc (.cells #[.int .i64 0, .int .i64 0] 27)).drew) := ((Below.refl _ W3).al (.cells #[.int .i64 0, .int .i64 0] 27)).drew
  have FC2 : Hid (Calls Tryd.prog 9 #[.string (⟨#[120, 32]⟩ ++ mi ++ ⟨#[32, 121, 32]⟩ ++ mj ++ ⟨#[32, 122]⟩)] ((W3.alloc (.cells #[.int .i64 0, .int .i64 0] 27)).drew) (ExprTo ((W3.alloc (.cells #[.int .i64 0, .int .i64 0] 27)).drew) (.ok tree))) := EX2.out _ (F3.out.trans (FF2.out.mono F3.out.size))
  have N2P := Lib.hid (Blk.new W3 27 #[.int .i64 0, .int .i64 0])
  have FF3 : Hid (Below W3.heap.size W3 ((W3.alloc (.cells #[.int .i64 0, .int .i64 0, .string ⟨#[]⟩, .slice none 0 0] 25)).alloc (.cells #[.int .i64 0, .int .i64 0] 27)).drew) := (((Below.refl _ W3).al (.cells #[.int .i64 0, .int .i64 0, .string ⟨#[]⟩, .slice none 0 0] 25)).alloc (by simp) (.cells #[.int .i64 0, .int .i64 0] 27)).drew
  have FC3 : Hid (Calls Tryd.prog 9 #[.string (⟨#[120, 32]⟩ ++ mi ++ ⟨#[32, 121, 32]⟩ ++ mj ++ ⟨#[32, 122]⟩)] (((W3.alloc (.cells #[.int .i64 0, .int .i64 0, .string ⟨#[]⟩, .slice none 0 0] 25)).alloc (.cells #[.int .i64 0, .int .i64 0] 27)).drew) (ExprTo (((W3.alloc (.cells #[.int .i64 0, .int .i64 0, .string ⟨#[]⟩, .slice none 0 0] 25)).alloc (.cells #[.int .i64 0, .int .i64 0] 27)).drew) (.ok tree))) := EX2.out _ (F3.out.trans (FF3.out.mono F3.out.size))
  have N3E := Lib.hid ((two_new W3 25 27 #[.int .i64 0, .int .i64 0, .string ⟨#[]⟩, .slice none 0 0] #[.int .i64 0, .int .i64 0]).1)
  have N3P := Lib.hid ((two_new W3 25 27 #[.int .i64 0, .int .i64 0, .string ⟨#[]⟩, .slice none 0 0] #[.int .i64 0, .int .i64 0]).2)
  have FF4 : Hid (Below W3.heap.size W3 ((W3.alloc (.cells #[.int .i64 0, .int .i64 0] 27)).alloc (.cells #[.int .i64 0, .int .i64 0, .string ⟨#[]⟩, .slice none 0 0] 25)).drew) := (((Below.refl _ W3).al (.cells #[.int .i64 0, .int .i64 0] 27)).alloc (by simp) (.cells #[.int .i64 0, .int .i64 0, .string ⟨#[]⟩, .slice none 0 0] 25)).drew
  have FC4 : Hid (Calls Tryd.prog 9 #[.string (⟨#[120, 32]⟩ ++ mi ++ ⟨#[32, 121, 32]⟩ ++ mj ++ ⟨#[32, 122]⟩)] (((W3.alloc (.cells #[.int .i64 0, .int .i64 0] 27)).alloc (.cells #[.int .i64 0, .int .i64 0, .string ⟨#[]⟩, .slice none 0 0] 25)).drew) (ExprTo (((W3.alloc (.cells #[.int .i64 0, .int .i64 0] 27)).alloc (.cells #[.int .i64 0, .int .i64 0, .string ⟨#[]⟩, .slice none 0 0] 25)).drew) (.ok tree))) := EX2.out _ (F3.out.trans (FF4.out.mono F3.out.size))
  have N4P := Lib.hid ((two_new W3 27 25 #[.int .i64 0, .int .i64 0] #[.int .i64 0, .int .i64 0, .string ⟨#[]⟩, .slice none 0 0]).1)
  have N4E := Lib.hid ((two_new W3 27 25 #[.int .i64 0, .int .i64 0] #[.int .i64 0, .int .i64 0, .string ⟨#[]⟩, .slice none 0 0]).2)
  clear FD
  go_cut [10, 12] (fun v10 v12 wc => ∃ (g10 : Nat) (op N : Int) (nm : ByteArray) (B : Option Addr) (l k : Nat) (E : Int), v10 = .pointer (some ⟨g10, 0, none⟩) ∧ v12 = .int .i64 E ∧ Hid (Blk wc g10 25 #[.int .i64 op, .int .i64 N, .string nm, .slice B l k]) ∧ Hid (∃ base L C, ExOut base (.ok tree) [.int .i64 op, .int .i64 N, .string nm, .slice B l k] L C E wc) ∧ Hid (Below W3.heap.size W3 wc))
  case first =>
    refine wp_region_held_drew (S := fun w' => w'.cell? ⟨w.heap.size, i, none⟩ = some (.string mi) ∧ w'.cell? ⟨w.heap.size, j, none⟩ = some (.string mj)) (by kernel_rfl) (KQ.out _ FF0.out) (fun hHeld => ?_)
    refine wpAnyH_take (i := 0) (oi := _) (v := ?_) rfl (by kernel_rfl) (by kernel_rfl) (by kernel_rfl) (fun _ _ _ h => h) (Or.inl ⟨by rfl, ?_⟩) (by assumption) ?_
    rotate_left
    · intro w hSw
      (try dsimp only at hSw)
      go_simp
      (try with_reducible rfl)
    try simp only [Act.put, List.setIfInBounds_toArray, List.set_cons_zero, List.set_cons_succ, List.getElem_toArray, List.getElem_cons_zero]
    refine wpAnyH_take (i := 1) (oi := _) (v := ?_) rfl (by kernel_rfl) (by kernel_rfl) (by kernel_rfl) (fun _ _ _ h => h) (Or.inl ⟨by rfl, ?_⟩) (by assumption) ?_
    rotate_left
    · intro w hSw
      (try dsimp only at hSw)
      go_simp
      (try with_reducible rfl)
    try simp only [Act.put, List.setIfInBounds_toArray, List.set_cons_zero, List.set_cons_succ, List.getElem_toArray, List.getElem_cons_succ, List.getElem_cons_zero]
    refine wpAnyH_take (i := 2) (oi := _) (v := ?_) rfl (by kernel_rfl) (by kernel_rfl) (by kernel_rfl) (fun _ _ _ h => h) (Or.inl ⟨by rfl, ?_⟩) (by assumption) ?_
    rotate_left
    · intro w hSw
      (try dsimp only at hSw)
      go_simp
      (try with_reducible rfl)
    try simp only [Act.put, List.setIfInBounds_toArray, List.set_cons_zero, List.set_cons_succ, List.getElem_toArray, List.getElem_cons_succ, List.getElem_cons_zero]
    refine wpAnyH_take (i := 3) (oi := _) (v := ?_) rfl (by kernel_rfl) (by kernel_rfl) (by kernel_rfl) (fun _ _ _ h => h) (Or.inl ⟨by rfl, ?_⟩) (by assumption) ?_
    rotate_left
    · intro w hSw
      (try dsimp only at hSw)
      go_simp
      (try with_reducible rfl)
    try simp only [Act.put, List.setIfInBounds_toArray, List.set_cons_zero, List.set_cons_succ, List.getElem_toArray, List.getElem_cons_succ, List.getElem_cons_zero]
    refine wpAnyH_take (i := 4) (oi := _) (v := ?_) rfl (by kernel_rfl) (by kernel_rfl) (by kernel_rfl) (fun _ _ _ h => h) (Or.inl ⟨by rfl, ?_⟩) (by assumption) ?_
    rotate_left
    · intro w hSw
      (try dsimp only at hSw)
      go_simp
      (try with_reducible rfl)
    try simp only [Act.put, List.setIfInBounds_toArray, List.set_cons_zero, List.set_cons_succ, List.getElem_toArray, List.getElem_cons_succ, List.getElem_cons_zero]
    refine wpAnyH_take (i := 5) (oi := _) (v := ?_) rfl (by kernel_rfl) (by kernel_rfl) (by kernel_rfl) (fun _ _ _ h => h) (Or.inl ⟨by rfl, ?_⟩) (by assumption) ?_
    rotate_left
    · intro w hSw
      (try dsimp only at hSw)
      go_simp
      (try with_reducible rfl)
    try simp only [Act.put, List.setIfInBounds_toArray, List.set_cons_zero, List.set_cons_succ, List.getElem_toArray, List.getElem_cons_succ, List.getElem_cons_zero]
    refine wpAnyH_take (i := 6) (oi := _) (v := ?_) rfl (by kernel_rfl) (by kernel_rfl) (by kernel_rfl) (fun _ _ _ h => h) (Or.inl ⟨by rfl, ?_⟩) (by assumption) ?_
    rotate_left
    · intro w hSw
      (try dsimp only at hSw)
      go_simp
      (try with_reducible rfl)
    try simp only [Act.put, List.setIfInBounds_toArray, List.set_cons_zero, List.set_cons_succ, List.getElem_toArray, List.getElem_cons_succ, List.getElem_cons_zero]
    refine wpAnyH_take (i := 7) (oi := _) (v := ?_) rfl (by kernel_rfl) (by kernel_rfl) (by kernel_rfl) (fun _ _ _ h => h) (Or.inl ⟨by rfl, ?_⟩) (by assumption) ?_
    rotate_left
    · intro w hSw
      (try dsimp only at hSw)
      go_simp
      (try with_reducible rfl)
    try simp only [Act.put, List.setIfInBounds_toArray, List.set_cons_zero, List.set_cons_succ, List.getElem_toArray, List.getElem_cons_succ, List.getElem_cons_zero]
    refine wpAnyH_take (i := 8) (oi := _) (v := ?_) rfl (by kernel_rfl) (by kernel_rfl) (by kernel_rfl) (fun _ _ _ h => h) (Or.inl ⟨by rfl, ?_⟩) (by assumption) ?_
    rotate_left
    · intro w hSw
      (try dsimp only at hSw)
      go_simp
      (try with_reducible rfl)
    try simp only [Act.put, List.setIfInBounds_toArray, List.set_cons_zero, List.set_cons_succ, List.getElem_toArray, List.getElem_cons_succ, List.getElem_cons_zero]
    refine wpAnyH_take (i := 9) (oi := _) (v := ?_) rfl (by kernel_rfl) (by kernel_rfl) (by kernel_rfl) (fun _ _ _ h => h) (Or.inl ⟨by rfl, ?_⟩) (by assumption) ?_
    rotate_left
    · intro w hSw
      (try dsimp only at hSw)
      go_simp
      (try with_reducible rfl)
    try simp only [Act.put, List.setIfInBounds_toArray, List.set_cons_zero, List.set_cons_succ, List.getElem_toArray, List.getElem_cons_succ, List.getElem_cons_zero]
    refine wpAnyH_take (i := 10) (oi := _) (v := ?_) rfl (by kernel_rfl) (by kernel_rfl) (by kernel_rfl) (fun _ _ _ h => h) (Or.inl ⟨by rfl, ?_⟩) (by assumption) ?_
    rotate_left
    · intro w hSw
      (try dsimp only at hSw)
      go_simp
      (try with_reducible rfl)
    try simp only [Act.put, List.setIfInBounds_toArray, List.set_cons_zero, List.set_cons_succ, List.getElem_toArray, List.getElem_cons_succ, List.getElem_cons_zero]
    refine wpAnyH_take (i := 11) (oi := _) (v := ?_) rfl (by kernel_rfl) (by kernel_rfl) (by kernel_rfl) (fun _ _ _ h => h) (Or.inl ⟨by rfl, ?_⟩) (by assumption) ?_
    rotate_left
    · intro w hSw
      (try dsimp only at hSw)
      go_simp
      (try with_reducible rfl)
    try simp only [Act.put, List.setIfInBounds_toArray, List.set_cons_zero, List.set_cons_succ, List.getElem_toArray, List.getElem_cons_succ, List.getElem_cons_zero]
    refine wpAnyH_ready (rs := [12, 17, 18]) (by kernel_rfl) (by simp) ?_
    refine AllReadyH.cons (o := _) rfl (fun K hK => ?_) (AllReadyH.cons (o := _) rfl (fun K hK => ?_) (AllReadyH.cons (o := _) rfl (fun K hK => ?_) AllReadyH.nil))
    · skip
      go_simp
      go_at_call 9
      (with_reducible refine FC0.out.mono ?_)
      rintro e w6 ⟨op, N, nm, B, l, k, L, C, E, rfl, b6, h6⟩
      have bb := FF0.out.trans (b6.mono FF0.out.size)
      have zz := bb.size
      have zb := b6.size
      refine hK.out _ _ (KQ.out _ bb) (fun hHeld => ?_)
      clear hK K
      try simp only [Act.put, List.setIfInBounds_toArray, List.set_cons_zero, List.set_cons_succ, List.getElem_toArray, List.getElem_cons_succ, List.getElem_cons_zero]
      have zp : (W3.drew).heap.size = W3.heap.size + 0 := by first | rfl | (change (W3).heap.size = _; simp) | simp
      refine wpAnyH_take (i := 13) (oi := _) (v := ?_) rfl (by kernel_rfl) (by kernel_rfl) (by kernel_rfl) (fun _ _ _ h => h) (Or.inl ⟨by rfl, ?_⟩) (by assumption) ?_
      rotate_left
      · intro w hSw
        (try dsimp only at hSw)
        go_simp
        (try with_reducible rfl)
      try simp only [Act.put, List.setIfInBounds_toArray, List.set_cons_zero, List.set_cons_succ, List.getElem_toArray, List.getElem_cons_succ, List.getElem_cons_zero]
      refine wpAnyH_take (i := 14) (oi := _) (v := ?_) rfl (by kernel_rfl) (by kernel_rfl) (by kernel_rfl) (fun _ _ _ h => h) (Or.inl ⟨by rfl, ?_⟩) (by assumption) ?_
      rotate_left
      · intro w hSw
        (try dsimp only at hSw)
        go_simp
        (try with_reducible rfl)
      try simp only [Act.put, List.setIfInBounds_toArray, List.set_cons_zero, List.set_cons_succ, List.getElem_toArray, List.getElem_cons_succ, List.getElem_cons_zero]
      refine wpAnyH_take (i := 15) (oi := _) (v := ?_) rfl (by kernel_rfl) (by kernel_rfl) (by kernel_rfl) (fun _ _ _ h => h) (Or.inl ⟨by rfl, ?_⟩) (by assumption) ?_
      rotate_left
      · intro w hSw
        (try dsimp only at hSw)
        go_simp
        (try with_reducible rfl)
      try simp only [Act.put, List.setIfInBounds_toArray, List.set_cons_zero, List.set_cons_succ, List.getElem_toArray, List.getElem_cons_succ, List.getElem_cons_zero]
      refine wpAnyH_take (i := 16) (oi := _) (v := ?_) rfl (by kernel_rfl) (by kernel_rfl) (by kernel_rfl) (fun _ _ _ h => h) (Or.inl ⟨by rfl, ?_⟩) (by assumption) ?_
      rotate_left
      · intro w hSw
        (try dsimp only at hSw)
        go_simp
        (try with_reducible rfl)
      try simp only [Act.put, List.setIfInBounds_toArray, List.set_cons_zero, List.set_cons_succ, List.getElem_toArray, List.getElem_cons_succ, List.getElem_cons_zero]
      refine wpAnyH_ready (rs := [17, 18]) (by kernel_rfl) (by simp) ?_
      refine AllReadyH.cons (o := _) rfl (fun K hK => ?_) (AllReadyH.cons (o := _) rfl (fun K hK => ?_) AllReadyH.nil)
      · skip
        go_simp
        refine hK.out _ _ (KQ.out _ (bb.alloc zz (.cells #[.int .i64 0, .int .i64 0, .string ⟨#[]⟩, .slice none 0 0] 25))) (fun hHeld => ?_)
        clear hK K
        try simp only [Act.put, List.setIfInBounds_toArray, List.set_cons_zero, List.set_cons_succ, List.getElem_toArray, List.getElem_cons_succ, List.getElem_cons_zero]
        refine wpAnyH_ready (rs := [18]) (by kernel_rfl) (by simp) ?_
        refine AllReadyH.cons (o := _) rfl (fun K hK => ?_) AllReadyH.nil
        go_simp
        refine hK.out _ _ (KQ.out _ ((bb.alloc zz (.cells #[.int .i64 0, .int .i64 0, .string ⟨#[]⟩, .slice none 0 0] 25)).alloc (by simp; omega) (.cells #[.int .i64 0, .int .i64 0] 27))) (fun hHeld => ?_)
        clear hK K
        try simp only [Act.put, List.setIfInBounds_toArray, List.set_cons_zero, List.set_cons_succ, List.getElem_toArray, List.getElem_cons_succ, List.getElem_cons_zero]
        have hE : Blk ((w6.alloc (.cells #[.int .i64 0, .int .i64 0, .string ⟨#[]⟩, .slice none 0 0] 25)).alloc (.cells #[.int .i64 0, .int .i64 0] 27)) w6.heap.size 25 #[.int .i64 0, .int .i64 0, .string ⟨#[]⟩, .slice none 0 0] := (two_new w6 25 27 #[.int .i64 0, .int .i64 0, .string ⟨#[]⟩, .slice none 0 0] #[.int .i64 0, .int .i64 0]).1
        have hP : Blk ((w6.alloc (.cells #[.int .i64 0, .int .i64 0, .string ⟨#[]⟩, .slice none 0 0] 25)).alloc (.cells #[.int .i64 0, .int .i64 0] 27)) (w6.heap.size + 1) 27 #[.int .i64 0, .int .i64 0] := (two_new w6 25 27 #[.int .i64 0, .int .i64 0, .string ⟨#[]⟩, .slice none 0 0] #[.int .i64 0, .int .i64 0]).2
        have K6 : Kept (fun _ => False) w6 ((w6.alloc (.cells #[.int .i64 0, .int .i64 0, .string ⟨#[]⟩, .slice none 0 0] 25)).alloc (.cells #[.int .i64 0, .int .i64 0] 27)) := ((Kept.refl _ w6).alloc _).alloc _
        have FP : Below W3.heap.size W3 ((w6.alloc (.cells #[.int .i64 0, .int .i64 0, .string ⟨#[]⟩, .slice none 0 0] 25)).alloc (.cells #[.int .i64 0, .int .i64 0] 27)) := ((bb.alloc zz (.cells #[.int .i64 0, .int .i64 0, .string ⟨#[]⟩, .slice none 0 0] 25)).alloc (by simp; omega) (.cells #[.int .i64 0, .int .i64 0] 27))
        generalize ((w6.alloc (.cells #[.int .i64 0, .int .i64 0, .string ⟨#[]⟩, .slice none 0 0] 25)).alloc (.cells #[.int .i64 0, .int .i64 0] 27)) = Wp at *
        have v0 : Wp.cell? ⟨w6.heap.size, 0, none⟩ = some (.int .i64 0) := hE.cell 0
        have v1 : Wp.cell? ⟨w6.heap.size, 1, none⟩ = some (.int .i64 0) := hE.cell 1
        have v2 : Wp.cell? ⟨w6.heap.size, 2, none⟩ = some (.string ⟨#[]⟩) := hE.cell 2
        have v3 : Wp.cell? ⟨w6.heap.size, 3, none⟩ = some (.slice none 0 0) := hE.cell 3
        have y0 := hE.frozen 0
        have y1 := hE.frozen 1
        have y2 := hE.frozen 2
        have y3 := hE.frozen 3
        have hlE : W3.heap.size ≤ w6.heap.size := by omega
        have hlP : W3.heap.size ≤ (w6.heap.size + 1) := by omega
        refine wpAnyH_ready (rs := [19]) (by kernel_rfl) (by simp) ?_
        refine AllReadyH.cons (o := _) rfl (fun K hK => ?_) AllReadyH.nil
        go_simp
        refine hK.out _ _ (KQ.out _ ((((FP.setCell (p := ⟨w6.heap.size, 0, none⟩) hlE (.int .i64 op)).setCell (p := ⟨w6.heap.size, 1, none⟩) hlE (.int .i64 N)).setCell (p := ⟨w6.heap.size, 2, none⟩) hlE (.string nm)).setCell (p := ⟨w6.heap.size, 3, none⟩) hlE (.slice B l k))) (fun hHeld => ?_)
        clear hK K
        try simp only [Act.put, List.setIfInBounds_toArray, List.set_cons_zero, List.set_cons_succ, List.getElem_toArray, List.getElem_cons_succ, List.getElem_cons_zero]
        have K8 := Kept.put4 Wp w6.heap.size (.int .i64 op) (.int .i64 N) (.string nm) (.slice B l k)
        have E8 := hE.put4 (.int .i64 op) (.int .i64 N) (.string nm) (.slice B l k)
        have P8 := hP.kept K8 (by omega)
        have F8 : Below W3.heap.size W3 _ := FP.trans (K8.to_below (by have := FP.size; omega) (fun q hq e => by omega))
        clear v0 v1 v2 v3 y0 y1 y2 y3
        generalize (((Wp.setCell ⟨w6.heap.size, 0, none⟩ (.int .i64 op)).setCell ⟨w6.heap.size, 1, none⟩ (.int .i64 N)).setCell ⟨w6.heap.size, 2, none⟩ (.string nm)).setCell ⟨w6.heap.size, 3, none⟩ (.slice B l k) = W8 at *
        have v0 : W8.cell? ⟨(w6.heap.size + 1), 0, none⟩ = some (.int .i64 0) := P8.cell 0
        have v1 : W8.cell? ⟨(w6.heap.size + 1), 1, none⟩ = some (.int .i64 0) := P8.cell 1
        have y0 := P8.frozen 0
        have y1 := P8.frozen 1
        refine wpAnyH_ready (rs := [20]) (by kernel_rfl) (by simp) ?_
        refine AllReadyH.cons (o := _) rfl (fun K hK => ?_) AllReadyH.nil
        go_simp
        refine hK.out _ _ (KQ.out _ ((F8.setCell (p := ⟨(w6.heap.size + 1), 0, none⟩) hlP (.int .i64 L)).setCell (p := ⟨(w6.heap.size + 1), 1, none⟩) hlP (.int .i64 C))) (fun hHeld => ?_)
        clear hK K
        try simp only [Act.put, List.setIfInBounds_toArray, List.set_cons_zero, List.set_cons_succ, List.getElem_toArray, List.getElem_cons_succ, List.getElem_cons_zero]
        have K9 := Kept.put2 W8 (w6.heap.size + 1) (.int .i64 L) (.int .i64 C)
        have E9 := E8.kept K9 (by omega)
        have F9 : Below W3.heap.size W3 _ := F8.trans (K9.to_below (by have := F8.size; omega) (fun q hq e => by omega))
        have K69 : Kept (fun z => z = w6.heap.size ∨ z = (w6.heap.size + 1)) w6 _ := ((K6.mono (T := fun z => z = w6.heap.size ∨ z = (w6.heap.size + 1)) (fun _ _ h => h.elim)).then_ K8 (fun _ _ e => .inl e)).then_ K9 (fun _ _ e => .inr e)
        have T9 := h6.kept K69 (fun z hz hb e => by rcases e with e | e <;> omega)
        clear v0 v1 y0 y1
        generalize (W8.setCell ⟨(w6.heap.size + 1), 0, none⟩ (.int .i64 L)).setCell ⟨(w6.heap.size + 1), 1, none⟩ (.int .i64 C) = W9 at *
        refine wpAnyH_take (i := 21) (oi := _) (v := ?_) rfl (by kernel_rfl) (by kernel_rfl) (by kernel_rfl) (fun _ _ _ h => h) (Or.inl ⟨by rfl, ?_⟩) (by assumption) ?_
        rotate_left
        · intro w hSw
          (try dsimp only at hSw)
          go_simp
          (try with_reducible rfl)
        try simp only [Act.put, List.setIfInBounds_toArray, List.set_cons_zero, List.set_cons_succ, List.getElem_toArray, List.getElem_cons_succ, List.getElem_cons_zero]
        refine wpAnyH_done (by kernel_rfl) ?_ _
        go_goals
        go_wp2_with fail
        go_meet
        case rel => exact ⟨_, _, _, _, _, _, _, E, rfl, rfl, E9, ⟨_, _, _, T9⟩, F9⟩
      · skip
        go_simp
        refine hK.out _ _ (KQ.out _ (bb.alloc zz (.cells #[.int .i64 0, .int .i64 0] 27))) (fun hHeld => ?_)
        clear hK K
        try simp only [Act.put, List.setIfInBounds_toArray, List.set_cons_zero, List.set_cons_succ, List.getElem_toArray, List.getElem_cons_succ, List.getElem_cons_zero]
        refine wpAnyH_ready (rs := [17]) (by kernel_rfl) (by simp) ?_
        refine AllReadyH.cons (o := _) rfl (fun K hK => ?_) AllReadyH.nil
        go_simp
        refine hK.out _ _ (KQ.out _ ((bb.alloc zz (.cells #[.int .i64 0, .int .i64 0] 27)).alloc (by simp; omega) (.cells #[.int .i64 0, .int .i64 0, .string ⟨#[]⟩, .slice none 0 0] 25))) (fun hHeld => ?_)
        clear hK K
        try simp only [Act.put, List.setIfInBounds_toArray, List.set_cons_zero, List.set_cons_succ, List.getElem_toArray, List.getElem_cons_succ, List.getElem_cons_zero]
        have hE : Blk ((w6.alloc (.cells #[.int .i64 0, .int .i64 0] 27)).alloc (.cells #[.int .i64 0, .int .i64 0, .string ⟨#[]⟩, .slice none 0 0] 25)) (w6.heap.size + 1) 25 #[.int .i64 0, .int .i64 0, .string ⟨#[]⟩, .slice none 0 0] := (two_new w6 27 25 #[.int .i64 0, .int .i64 0] #[.int .i64 0, .int .i64 0, .string ⟨#[]⟩, .slice none 0 0]).2
        have hP : Blk ((w6.alloc (.cells #[.int .i64 0, .int .i64 0] 27)).alloc (.cells #[.int .i64 0, .int .i64 0, .string ⟨#[]⟩, .slice none 0 0] 25)) w6.heap.size 27 #[.int .i64 0, .int .i64 0] := (two_new w6 27 25 #[.int .i64 0, .int .i64 0] #[.int .i64 0, .int .i64 0, .string ⟨#[]⟩, .slice none 0 0]).1
        have K6 : Kept (fun _ => False) w6 ((w6.alloc (.cells #[.int .i64 0, .int .i64 0] 27)).alloc (.cells #[.int .i64 0, .int .i64 0, .string ⟨#[]⟩, .slice none 0 0] 25)) := ((Kept.refl _ w6).alloc _).alloc _
        have FP : Below W3.heap.size W3 ((w6.alloc (.cells #[.int .i64 0, .int .i64 0] 27)).alloc (.cells #[.int .i64 0, .int .i64 0, .string ⟨#[]⟩, .slice none 0 0] 25)) := ((bb.alloc zz (.cells #[.int .i64 0, .int .i64 0] 27)).alloc (by simp; omega) (.cells #[.int .i64 0, .int .i64 0, .string ⟨#[]⟩, .slice none 0 0] 25))
        generalize ((w6.alloc (.cells #[.int .i64 0, .int .i64 0] 27)).alloc (.cells #[.int .i64 0, .int .i64 0, .string ⟨#[]⟩, .slice none 0 0] 25)) = Wp at *
        have v0 : Wp.cell? ⟨(w6.heap.size + 1), 0, none⟩ = some (.int .i64 0) := hE.cell 0
        have v1 : Wp.cell? ⟨(w6.heap.size + 1), 1, none⟩ = some (.int .i64 0) := hE.cell 1
        have v2 : Wp.cell? ⟨(w6.heap.size + 1), 2, none⟩ = some (.string ⟨#[]⟩) := hE.cell 2
        have v3 : Wp.cell? ⟨(w6.heap.size + 1), 3, none⟩ = some (.slice none 0 0) := hE.cell 3
        have y0 := hE.frozen 0
        have y1 := hE.frozen 1
        have y2 := hE.frozen 2
        have y3 := hE.frozen 3
        have hlE : W3.heap.size ≤ (w6.heap.size + 1) := by omega
        have hlP : W3.heap.size ≤ w6.heap.size := by omega
        refine wpAnyH_ready (rs := [19]) (by kernel_rfl) (by simp) ?_
        refine AllReadyH.cons (o := _) rfl (fun K hK => ?_) AllReadyH.nil
        go_simp
        refine hK.out _ _ (KQ.out _ ((((FP.setCell (p := ⟨(w6.heap.size + 1), 0, none⟩) hlE (.int .i64 op)).setCell (p := ⟨(w6.heap.size + 1), 1, none⟩) hlE (.int .i64 N)).setCell (p := ⟨(w6.heap.size + 1), 2, none⟩) hlE (.string nm)).setCell (p := ⟨(w6.heap.size + 1), 3, none⟩) hlE (.slice B l k))) (fun hHeld => ?_)
        clear hK K
        try simp only [Act.put, List.setIfInBounds_toArray, List.set_cons_zero, List.set_cons_succ, List.getElem_toArray, List.getElem_cons_succ, List.getElem_cons_zero]
        have K8 := Kept.put4 Wp (w6.heap.size + 1) (.int .i64 op) (.int .i64 N) (.string nm) (.slice B l k)
        have E8 := hE.put4 (.int .i64 op) (.int .i64 N) (.string nm) (.slice B l k)
        have P8 := hP.kept K8 (by omega)
        have F8 : Below W3.heap.size W3 _ := FP.trans (K8.to_below (by have := FP.size; omega) (fun q hq e => by omega))
        clear v0 v1 v2 v3 y0 y1 y2 y3
        generalize (((Wp.setCell ⟨(w6.heap.size + 1), 0, none⟩ (.int .i64 op)).setCell ⟨(w6.heap.size + 1), 1, none⟩ (.int .i64 N)).setCell ⟨(w6.heap.size + 1), 2, none⟩ (.string nm)).setCell ⟨(w6.heap.size + 1), 3, none⟩ (.slice B l k) = W8 at *
        have v0 : W8.cell? ⟨w6.heap.size, 0, none⟩ = some (.int .i64 0) := P8.cell 0
        have v1 : W8.cell? ⟨w6.heap.size, 1, none⟩ = some (.int .i64 0) := P8.cell 1
        have y0 := P8.frozen 0
        have y1 := P8.frozen 1
        refine wpAnyH_ready (rs := [20]) (by kernel_rfl) (by simp) ?_
        refine AllReadyH.cons (o := _) rfl (fun K hK => ?_) AllReadyH.nil
        go_simp
        refine hK.out _ _ (KQ.out _ ((F8.setCell (p := ⟨w6.heap.size, 0, none⟩) hlP (.int .i64 L)).setCell (p := ⟨w6.heap.size, 1, none⟩) hlP (.int .i64 C))) (fun hHeld => ?_)
        clear hK K
        try simp only [Act.put, List.setIfInBounds_toArray, List.set_cons_zero, List.set_cons_succ, List.getElem_toArray, List.getElem_cons_succ, List.getElem_cons_zero]
        have K9 := Kept.put2 W8 w6.heap.size (.int .i64 L) (.int .i64 C)
        have E9 := E8.kept K9 (by omega)
        have F9 : Below W3.heap.size W3 _ := F8.trans (K9.to_below (by have := F8.size; omega) (fun q hq e => by omega))
        have K69 : Kept (fun z => z = (w6.heap.size + 1) ∨ z = w6.heap.size) w6 _ := ((K6.mono (T := fun z => z = (w6.heap.size + 1) ∨ z = w6.heap.size) (fun _ _ h => h.elim)).then_ K8 (fun _ _ e => .inl e)).then_ K9 (fun _ _ e => .inr e)
        have T9 := h6.kept K69 (fun z hz hb e => by rcases e with e | e <;> omega)
        clear v0 v1 y0 y1
        generalize (W8.setCell ⟨w6.heap.size, 0, none⟩ (.int .i64 L)).setCell ⟨w6.heap.size, 1, none⟩ (.int .i64 C) = W9 at *
        refine wpAnyH_take (i := 21) (oi := _) (v := ?_) rfl (by kernel_rfl) (by kernel_rfl) (by kernel_rfl) (fun _ _ _ h => h) (Or.inl ⟨by rfl, ?_⟩) (by assumption) ?_
        rotate_left
        · intro w hSw
          (try dsimp only at hSw)
          go_simp
          (try with_reducible rfl)
        try simp only [Act.put, List.setIfInBounds_toArray, List.set_cons_zero, List.set_cons_succ, List.getElem_toArray, List.getElem_cons_succ, List.getElem_cons_zero]
        refine wpAnyH_done (by kernel_rfl) ?_ _
        go_goals
        go_wp2_with fail
        go_meet
        case rel => exact ⟨_, _, _, _, _, _, _, E, rfl, rfl, E9, ⟨_, _, _, T9⟩, F9⟩
    · skip
      go_simp
      refine hK.out _ _ (KQ.out _ FF1.out) (fun hHeld => ?_)
      clear hK K
      try simp only [Act.put, List.setIfInBounds_toArray, List.set_cons_zero, List.set_cons_succ, List.getElem_toArray, List.getElem_cons_succ, List.getElem_cons_zero]
      refine wpAnyH_ready (rs := [12, 18]) (by kernel_rfl) (by simp) ?_
      refine AllReadyH.cons (o := _) rfl (fun K hK => ?_) (AllReadyH.cons (o := _) rfl (fun K hK => ?_) AllReadyH.nil)
      · skip
        go_simp
        go_at_call 9
        (with_reducible refine FC1.out.mono ?_)
        rintro e w6 ⟨op, N, nm, B, l, k, L, C, E, rfl, b6, h6⟩
        have bb := FF1.out.trans (b6.mono FF1.out.size)
        have zz := bb.size
        have zb := b6.size
        have nE := (N1E.out.drew).below b6 (N1E.out.drew).lt
        refine hK.out _ _ (KQ.out _ bb) (fun hHeld => ?_)
        clear hK K
        try simp only [Act.put, List.setIfInBounds_toArray, List.set_cons_zero, List.set_cons_succ, List.getElem_toArray, List.getElem_cons_succ, List.getElem_cons_zero]
        have zp : ((W3.alloc (.cells #[.int .i64 0, .int .i64 0, .string ⟨#[]⟩, .slice none 0 0] 25)).drew).heap.size = W3.heap.size + 1 := by first | rfl | (change ((W3.alloc (.cells #[.int .i64 0, .int .i64 0, .string ⟨#[]⟩, .slice none 0 0] 25))).heap.size = _; simp) | simp
        refine wpAnyH_take (i := 13) (oi := _) (v := ?_) rfl (by kernel_rfl) (by kernel_rfl) (by kernel_rfl) (fun _ _ _ h => h) (Or.inl ⟨by rfl, ?_⟩) (by assumption) ?_
        rotate_left
        · intro w hSw
          (try dsimp only at hSw)
          go_simp
          (try with_reducible rfl)
        try simp only [Act.put, List.setIfInBounds_toArray, List.set_cons_zero, List.set_cons_succ, List.getElem_toArray, List.getElem_cons_succ, List.getElem_cons_zero]
        refine wpAnyH_take (i := 14) (oi := _) (v := ?_) rfl (by kernel_rfl) (by kernel_rfl) (by kernel_rfl) (fun _ _ _ h => h) (Or.inl ⟨by rfl, ?_⟩) (by assumption) ?_
        rotate_left
        · intro w hSw
          (try dsimp only at hSw)
          go_simp
          (try with_reducible rfl)
        try simp only [Act.put, List.setIfInBounds_toArray, List.set_cons_zero, List.set_cons_succ, List.getElem_toArray, List.getElem_cons_succ, List.getElem_cons_zero]
        refine wpAnyH_take (i := 15) (oi := _) (v := ?_) rfl (by kernel_rfl) (by kernel_rfl) (by kernel_rfl) (fun _ _ _ h => h) (Or.inl ⟨by rfl, ?_⟩) (by assumption) ?_
        rotate_left
        · intro w hSw
          (try dsimp only at hSw)
          go_simp
          (try with_reducible rfl)
        try simp only [Act.put, List.setIfInBounds_toArray, List.set_cons_zero, List.set_cons_succ, List.getElem_toArray, List.getElem_cons_succ, List.getElem_cons_zero]
        refine wpAnyH_take (i := 16) (oi := _) (v := ?_) rfl (by kernel_rfl) (by kernel_rfl) (by kernel_rfl) (fun _ _ _ h => h) (Or.inl ⟨by rfl, ?_⟩) (by assumption) ?_
        rotate_left
        · intro w hSw
          (try dsimp only at hSw)
          go_simp
          (try with_reducible rfl)
        try simp only [Act.put, List.setIfInBounds_toArray, List.set_cons_zero, List.set_cons_succ, List.getElem_toArray, List.getElem_cons_succ, List.getElem_cons_zero]
        refine wpAnyH_ready (rs := [18]) (by kernel_rfl) (by simp) ?_
        refine AllReadyH.cons (o := _) rfl (fun K hK => ?_) AllReadyH.nil
        go_simp
        refine hK.out _ _ (KQ.out _ (bb.alloc zz (.cells #[.int .i64 0, .int .i64 0] 27))) (fun hHeld => ?_)
        clear hK K
        try simp only [Act.put, List.setIfInBounds_toArray, List.set_cons_zero, List.set_cons_succ, List.getElem_toArray, List.getElem_cons_succ, List.getElem_cons_zero]
        have hE : Blk (w6.alloc (.cells #[.int .i64 0, .int .i64 0] 27)) W3.heap.size 25 #[.int .i64 0, .int .i64 0, .string ⟨#[]⟩, .slice none 0 0] := (nE.alloc _)
        have hP : Blk (w6.alloc (.cells #[.int .i64 0, .int .i64 0] 27)) w6.heap.size 27 #[.int .i64 0, .int .i64 0] := (Blk.new w6 27 #[.int .i64 0, .int .i64 0])
        have K6 : Kept (fun _ => False) w6 (w6.alloc (.cells #[.int .i64 0, .int .i64 0] 27)) := (Kept.refl _ w6).alloc _
        have FP : Below W3.heap.size W3 (w6.alloc (.cells #[.int .i64 0, .int .i64 0] 27)) := (bb.alloc zz (.cells #[.int .i64 0, .int .i64 0] 27))
        generalize (w6.alloc (.cells #[.int .i64 0, .int .i64 0] 27)) = Wp at *
        have v0 : Wp.cell? ⟨W3.heap.size, 0, none⟩ = some (.int .i64 0) := hE.cell 0
        have v1 : Wp.cell? ⟨W3.heap.size, 1, none⟩ = some (.int .i64 0) := hE.cell 1
        have v2 : Wp.cell? ⟨W3.heap.size, 2, none⟩ = some (.string ⟨#[]⟩) := hE.cell 2
        have v3 : Wp.cell? ⟨W3.heap.size, 3, none⟩ = some (.slice none 0 0) := hE.cell 3
        have y0 := hE.frozen 0
        have y1 := hE.frozen 1
        have y2 := hE.frozen 2
        have y3 := hE.frozen 3
        have hlE : W3.heap.size ≤ W3.heap.size := by omega
        have hlP : W3.heap.size ≤ w6.heap.size := by omega
        refine wpAnyH_ready (rs := [19]) (by kernel_rfl) (by simp) ?_
        refine AllReadyH.cons (o := _) rfl (fun K hK => ?_) AllReadyH.nil
        go_simp
        refine hK.out _ _ (KQ.out _ ((((FP.setCell (p := ⟨W3.heap.size, 0, none⟩) hlE (.int .i64 op)).setCell (p := ⟨W3.heap.size, 1, none⟩) hlE (.int .i64 N)).setCell (p := ⟨W3.heap.size, 2, none⟩) hlE (.string nm)).setCell (p := ⟨W3.heap.size, 3, none⟩) hlE (.slice B l k))) (fun hHeld => ?_)
        clear hK K
        try simp only [Act.put, List.setIfInBounds_toArray, List.set_cons_zero, List.set_cons_succ, List.getElem_toArray, List.getElem_cons_succ, List.getElem_cons_zero]
        have K8 := Kept.put4 Wp W3.heap.size (.int .i64 op) (.int .i64 N) (.string nm) (.slice B l k)
        have E8 := hE.put4 (.int .i64 op) (.int .i64 N) (.string nm) (.slice B l k)
        have P8 := hP.kept K8 (by omega)
        have F8 : Below W3.heap.size W3 _ := FP.trans (K8.to_below (by have := FP.size; omega) (fun q hq e => by omega))
        clear v0 v1 v2 v3 y0 y1 y2 y3
        generalize (((Wp.setCell ⟨W3.heap.size, 0, none⟩ (.int .i64 op)).setCell ⟨W3.heap.size, 1, none⟩ (.int .i64 N)).setCell ⟨W3.heap.size, 2, none⟩ (.string nm)).setCell ⟨W3.heap.size, 3, none⟩ (.slice B l k) = W8 at *
        have v0 : W8.cell? ⟨w6.heap.size, 0, none⟩ = some (.int .i64 0) := P8.cell 0
        have v1 : W8.cell? ⟨w6.heap.size, 1, none⟩ = some (.int .i64 0) := P8.cell 1
        have y0 := P8.frozen 0
        have y1 := P8.frozen 1
        refine wpAnyH_ready (rs := [20]) (by kernel_rfl) (by simp) ?_
        refine AllReadyH.cons (o := _) rfl (fun K hK => ?_) AllReadyH.nil
        go_simp
        refine hK.out _ _ (KQ.out _ ((F8.setCell (p := ⟨w6.heap.size, 0, none⟩) hlP (.int .i64 L)).setCell (p := ⟨w6.heap.size, 1, none⟩) hlP (.int .i64 C))) (fun hHeld => ?_)
        clear hK K
        try simp only [Act.put, List.setIfInBounds_toArray, List.set_cons_zero, List.set_cons_succ, List.getElem_toArray, List.getElem_cons_succ, List.getElem_cons_zero]
        have K9 := Kept.put2 W8 w6.heap.size (.int .i64 L) (.int .i64 C)
        have E9 := E8.kept K9 (by omega)
        have F9 : Below W3.heap.size W3 _ := F8.trans (K9.to_below (by have := F8.size; omega) (fun q hq e => by omega))
        have K69 : Kept (fun z => z = W3.heap.size ∨ z = w6.heap.size) w6 _ := ((K6.mono (T := fun z => z = W3.heap.size ∨ z = w6.heap.size) (fun _ _ h => h.elim)).then_ K8 (fun _ _ e => .inl e)).then_ K9 (fun _ _ e => .inr e)
        have T9 := h6.kept K69 (fun z hz hb e => by rcases e with e | e <;> omega)
        clear v0 v1 y0 y1
        generalize (W8.setCell ⟨w6.heap.size, 0, none⟩ (.int .i64 L)).setCell ⟨w6.heap.size, 1, none⟩ (.int .i64 C) = W9 at *
        refine wpAnyH_take (i := 21) (oi := _) (v := ?_) rfl (by kernel_rfl) (by kernel_rfl) (by kernel_rfl) (fun _ _ _ h => h) (Or.inl ⟨by rfl, ?_⟩) (by assumption) ?_
        rotate_left
        · intro w hSw
          (try dsimp only at hSw)
          go_simp
          (try with_reducible rfl)
        try simp only [Act.put, List.setIfInBounds_toArray, List.set_cons_zero, List.set_cons_succ, List.getElem_toArray, List.getElem_cons_succ, List.getElem_cons_zero]
        refine wpAnyH_done (by kernel_rfl) ?_ _
        go_goals
        go_wp2_with fail
        go_meet
        case rel => exact ⟨_, _, _, _, _, _, _, E, rfl, rfl, E9, ⟨_, _, _, T9⟩, F9⟩
      · skip
        go_simp
        refine hK.out _ _ (KQ.out _ FF3.out) (fun hHeld => ?_)
        clear hK K
        try simp only [Act.put, List.setIfInBounds_toArray, List.set_cons_zero, List.set_cons_succ, List.getElem_toArray, List.getElem_cons_succ, List.getElem_cons_zero]
        refine wpAnyH_ready (rs := [12]) (by kernel_rfl) (by simp) ?_
        refine AllReadyH.cons (o := _) rfl (fun K hK => ?_) AllReadyH.nil
        go_simp
        go_at_call 9
        (with_reducible refine FC3.out.mono ?_)
        rintro e w6 ⟨op, N, nm, B, l, k, L, C, E, rfl, b6, h6⟩
        have bb := FF3.out.trans (b6.mono FF3.out.size)
        have zz := bb.size
        have zb := b6.size
        have nE := (N3E.out.drew).below b6 (N3E.out.drew).lt
        have nP := (N3P.out.drew).below b6 (N3P.out.drew).lt
        refine hK.out _ _ (KQ.out _ bb) (fun hHeld => ?_)
        clear hK K
        try simp only [Act.put, List.setIfInBounds_toArray, List.set_cons_zero, List.set_cons_succ, List.getElem_toArray, List.getElem_cons_succ, List.getElem_cons_zero]
        have zp : (((W3.alloc (.cells #[.int .i64 0, .int .i64 0, .string ⟨#[]⟩, .slice none 0 0] 25)).alloc (.cells #[.int .i64 0, .int .i64 0] 27)).drew).heap.size = W3.heap.size + 2 := by first | rfl | (change (((W3.alloc (.cells #[.int .i64 0, .int .i64 0, .string ⟨#[]⟩, .slice none 0 0] 25)).alloc (.cells #[.int .i64 0, .int .i64 0] 27))).heap.size = _; simp) | simp
        refine wpAnyH_take (i := 13) (oi := _) (v := ?_) rfl (by kernel_rfl) (by kernel_rfl) (by kernel_rfl) (fun _ _ _ h => h) (Or.inl ⟨by rfl, ?_⟩) (by assumption) ?_
        rotate_left
        · intro w hSw
          (try dsimp only at hSw)
          go_simp
          (try with_reducible rfl)
        try simp only [Act.put, List.setIfInBounds_toArray, List.set_cons_zero, List.set_cons_succ, List.getElem_toArray, List.getElem_cons_succ, List.getElem_cons_zero]
        refine wpAnyH_take (i := 14) (oi := _) (v := ?_) rfl (by kernel_rfl) (by kernel_rfl) (by kernel_rfl) (fun _ _ _ h => h) (Or.inl ⟨by rfl, ?_⟩) (by assumption) ?_
        rotate_left
        · intro w hSw
          (try dsimp only at hSw)
          go_simp
          (try with_reducible rfl)
        try simp only [Act.put, List.setIfInBounds_toArray, List.set_cons_zero, List.set_cons_succ, List.getElem_toArray, List.getElem_cons_succ, List.getElem_cons_zero]
        refine wpAnyH_take (i := 15) (oi := _) (v := ?_) rfl (by kernel_rfl) (by kernel_rfl) (by kernel_rfl) (fun _ _ _ h => h) (Or.inl ⟨by rfl, ?_⟩) (by assumption) ?_
        rotate_left
        · intro w hSw
          (try dsimp only at hSw)
          go_simp
          (try with_reducible rfl)
        try simp only [Act.put, List.setIfInBounds_toArray, List.set_cons_zero, List.set_cons_succ, List.getElem_toArray, List.getElem_cons_succ, List.getElem_cons_zero]
        refine wpAnyH_take (i := 16) (oi := _) (v := ?_) rfl (by kernel_rfl) (by kernel_rfl) (by kernel_rfl) (fun _ _ _ h => h) (Or.inl ⟨by rfl, ?_⟩) (by assumption) ?_
        rotate_left
        · intro w hSw
          (try dsimp only at hSw)
          go_simp
          (try with_reducible rfl)
        try simp only [Act.put, List.setIfInBounds_toArray, List.set_cons_zero, List.set_cons_succ, List.getElem_toArray, List.getElem_cons_succ, List.getElem_cons_zero]
        have hE : Blk w6 W3.heap.size 25 #[.int .i64 0, .int .i64 0, .string ⟨#[]⟩, .slice none 0 0] := nE
        have hP : Blk w6 (W3.heap.size + 1) 27 #[.int .i64 0, .int .i64 0] := nP
        have K6 : Kept (fun _ => False) w6 w6 := Kept.refl _ w6
        have FP : Below W3.heap.size W3 w6 := bb
        have v0 : w6.cell? ⟨W3.heap.size, 0, none⟩ = some (.int .i64 0) := hE.cell 0
        have v1 : w6.cell? ⟨W3.heap.size, 1, none⟩ = some (.int .i64 0) := hE.cell 1
        have v2 : w6.cell? ⟨W3.heap.size, 2, none⟩ = some (.string ⟨#[]⟩) := hE.cell 2
        have v3 : w6.cell? ⟨W3.heap.size, 3, none⟩ = some (.slice none 0 0) := hE.cell 3
        have y0 := hE.frozen 0
        have y1 := hE.frozen 1
        have y2 := hE.frozen 2
        have y3 := hE.frozen 3
        have hlE : W3.heap.size ≤ W3.heap.size := by omega
        have hlP : W3.heap.size ≤ (W3.heap.size + 1) := by omega
        refine wpAnyH_ready (rs := [19]) (by kernel_rfl) (by simp) ?_
        refine AllReadyH.cons (o := _) rfl (fun K hK => ?_) AllReadyH.nil
        go_simp
        refine hK.out _ _ (KQ.out _ ((((FP.setCell (p := ⟨W3.heap.size, 0, none⟩) hlE (.int .i64 op)).setCell (p := ⟨W3.heap.size, 1, none⟩) hlE (.int .i64 N)).setCell (p := ⟨W3.heap.size, 2, none⟩) hlE (.string nm)).setCell (p := ⟨W3.heap.size, 3, none⟩) hlE (.slice B l k))) (fun hHeld => ?_)
        clear hK K
        try simp only [Act.put, List.setIfInBounds_toArray, List.set_cons_zero, List.set_cons_succ, List.getElem_toArray, List.getElem_cons_succ, List.getElem_cons_zero]
        have K8 := Kept.put4 w6 W3.heap.size (.int .i64 op) (.int .i64 N) (.string nm) (.slice B l k)
        have E8 := hE.put4 (.int .i64 op) (.int .i64 N) (.string nm) (.slice B l k)
        have P8 := hP.kept K8 (by omega)
        have F8 : Below W3.heap.size W3 _ := FP.trans (K8.to_below (by have := FP.size; omega) (fun q hq e => by omega))
        clear v0 v1 v2 v3 y0 y1 y2 y3
        generalize (((w6.setCell ⟨W3.heap.size, 0, none⟩ (.int .i64 op)).setCell ⟨W3.heap.size, 1, none⟩ (.int .i64 N)).setCell ⟨W3.heap.size, 2, none⟩ (.string nm)).setCell ⟨W3.heap.size, 3, none⟩ (.slice B l k) = W8 at *
        have v0 : W8.cell? ⟨(W3.heap.size + 1), 0, none⟩ = some (.int .i64 0) := P8.cell 0
        have v1 : W8.cell? ⟨(W3.heap.size + 1), 1, none⟩ = some (.int .i64 0) := P8.cell 1
        have y0 := P8.frozen 0
        have y1 := P8.frozen 1
        refine wpAnyH_ready (rs := [20]) (by kernel_rfl) (by simp) ?_
        refine AllReadyH.cons (o := _) rfl (fun K hK => ?_) AllReadyH.nil
        go_simp
        refine hK.out _ _ (KQ.out _ ((F8.setCell (p := ⟨(W3.heap.size + 1), 0, none⟩) hlP (.int .i64 L)).setCell (p := ⟨(W3.heap.size + 1), 1, none⟩) hlP (.int .i64 C))) (fun hHeld => ?_)
        clear hK K
        try simp only [Act.put, List.setIfInBounds_toArray, List.set_cons_zero, List.set_cons_succ, List.getElem_toArray, List.getElem_cons_succ, List.getElem_cons_zero]
        have K9 := Kept.put2 W8 (W3.heap.size + 1) (.int .i64 L) (.int .i64 C)
        have E9 := E8.kept K9 (by omega)
        have F9 : Below W3.heap.size W3 _ := F8.trans (K9.to_below (by have := F8.size; omega) (fun q hq e => by omega))
        have K69 : Kept (fun z => z = W3.heap.size ∨ z = (W3.heap.size + 1)) w6 _ := ((K6.mono (T := fun z => z = W3.heap.size ∨ z = (W3.heap.size + 1)) (fun _ _ h => h.elim)).then_ K8 (fun _ _ e => .inl e)).then_ K9 (fun _ _ e => .inr e)
        have T9 := h6.kept K69 (fun z hz hb e => by rcases e with e | e <;> omega)
        clear v0 v1 y0 y1
        generalize (W8.setCell ⟨(W3.heap.size + 1), 0, none⟩ (.int .i64 L)).setCell ⟨(W3.heap.size + 1), 1, none⟩ (.int .i64 C) = W9 at *
        refine wpAnyH_take (i := 21) (oi := _) (v := ?_) rfl (by kernel_rfl) (by kernel_rfl) (by kernel_rfl) (fun _ _ _ h => h) (Or.inl ⟨by rfl, ?_⟩) (by assumption) ?_
        rotate_left
        · intro w hSw
          (try dsimp only at hSw)
          go_simp
          (try with_reducible rfl)
        try simp only [Act.put, List.setIfInBounds_toArray, List.set_cons_zero, List.set_cons_succ, List.getElem_toArray, List.getElem_cons_succ, List.getElem_cons_zero]
        refine wpAnyH_done (by kernel_rfl) ?_ _
        go_goals
        go_wp2_with fail
        go_meet
        case rel => exact ⟨_, _, _, _, _, _, _, E, rfl, rfl, E9, ⟨_, _, _, T9⟩, F9⟩
    · skip
      go_simp
      refine hK.out _ _ (KQ.out _ FF2.out) (fun hHeld => ?_)
      clear hK K
      try simp only [Act.put, List.setIfInBounds_toArray, List.set_cons_zero, List.set_cons_succ, List.getElem_toArray, List.getElem_cons_succ, List.getElem_cons_zero]
      refine wpAnyH_ready (rs := [12, 17]) (by kernel_rfl) (by simp) ?_
      refine AllReadyH.cons (o := _) rfl (fun K hK => ?_) (AllReadyH.cons (o := _) rfl (fun K hK => ?_) AllReadyH.nil)
      · skip
        go_simp
        go_at_call 9
        (with_reducible refine FC2.out.mono ?_)
        rintro e w6 ⟨op, N, nm, B, l, k, L, C, E, rfl, b6, h6⟩
        have bb := FF2.out.trans (b6.mono FF2.out.size)
        have zz := bb.size
        have zb := b6.size
        have nP := (N2P.out.drew).below b6 (N2P.out.drew).lt
        refine hK.out _ _ (KQ.out _ bb) (fun hHeld => ?_)
        clear hK K
        try simp only [Act.put, List.setIfInBounds_toArray, List.set_cons_zero, List.set_cons_succ, List.getElem_toArray, List.getElem_cons_succ, List.getElem_cons_zero]
        have zp : ((W3.alloc (.cells #[.int .i64 0, .int .i64 0] 27)).drew).heap.size = W3.heap.size + 1 := by first | rfl | (change ((W3.alloc (.cells #[.int .i64 0, .int .i64 0] 27))).heap.size = _; simp) | simp
        refine wpAnyH_take (i := 13) (oi := _) (v := ?_) rfl (by kernel_rfl) (by kernel_rfl) (by kernel_rfl) (fun _ _ _ h => h) (Or.inl ⟨by rfl, ?_⟩) (by assumption) ?_
        rotate_left
        · intro w hSw
          (try dsimp only at hSw)
          go_simp
          (try with_reducible rfl)
        try simp only [Act.put, List.setIfInBounds_toArray, List.set_cons_zero, List.set_cons_succ, List.getElem_toArray, List.getElem_cons_succ, List.getElem_cons_zero]
        refine wpAnyH_take (i := 14) (oi := _) (v := ?_) rfl (by kernel_rfl) (by kernel_rfl) (by kernel_rfl) (fun _ _ _ h => h) (Or.inl ⟨by rfl, ?_⟩) (by assumption) ?_
        rotate_left
        · intro w hSw
          (try dsimp only at hSw)
          go_simp
          (try with_reducible rfl)
        try simp only [Act.put, List.setIfInBounds_toArray, List.set_cons_zero, List.set_cons_succ, List.getElem_toArray, List.getElem_cons_succ, List.getElem_cons_zero]
        refine wpAnyH_take (i := 15) (oi := _) (v := ?_) rfl (by kernel_rfl) (by kernel_rfl) (by kernel_rfl) (fun _ _ _ h => h) (Or.inl ⟨by rfl, ?_⟩) (by assumption) ?_
        rotate_left
        · intro w hSw
          (try dsimp only at hSw)
          go_simp
          (try with_reducible rfl)
        try simp only [Act.put, List.setIfInBounds_toArray, List.set_cons_zero, List.set_cons_succ, List.getElem_toArray, List.getElem_cons_succ, List.getElem_cons_zero]
        refine wpAnyH_take (i := 16) (oi := _) (v := ?_) rfl (by kernel_rfl) (by kernel_rfl) (by kernel_rfl) (fun _ _ _ h => h) (Or.inl ⟨by rfl, ?_⟩) (by assumption) ?_
        rotate_left
        · intro w hSw
          (try dsimp only at hSw)
          go_simp
          (try with_reducible rfl)
        try simp only [Act.put, List.setIfInBounds_toArray, List.set_cons_zero, List.set_cons_succ, List.getElem_toArray, List.getElem_cons_succ, List.getElem_cons_zero]
        refine wpAnyH_ready (rs := [17]) (by kernel_rfl) (by simp) ?_
        refine AllReadyH.cons (o := _) rfl (fun K hK => ?_) AllReadyH.nil
        go_simp
        refine hK.out _ _ (KQ.out _ (bb.alloc zz (.cells #[.int .i64 0, .int .i64 0, .string ⟨#[]⟩, .slice none 0 0] 25))) (fun hHeld => ?_)
        clear hK K
        try simp only [Act.put, List.setIfInBounds_toArray, List.set_cons_zero, List.set_cons_succ, List.getElem_toArray, List.getElem_cons_succ, List.getElem_cons_zero]
        have hE : Blk (w6.alloc (.cells #[.int .i64 0, .int .i64 0, .string ⟨#[]⟩, .slice none 0 0] 25)) w6.heap.size 25 #[.int .i64 0, .int .i64 0, .string ⟨#[]⟩, .slice none 0 0] := (Blk.new w6 25 #[.int .i64 0, .int .i64 0, .string ⟨#[]⟩, .slice none 0 0])
        have hP : Blk (w6.alloc (.cells #[.int .i64 0, .int .i64 0, .string ⟨#[]⟩, .slice none 0 0] 25)) W3.heap.size 27 #[.int .i64 0, .int .i64 0] := (nP.alloc _)
        have K6 : Kept (fun _ => False) w6 (w6.alloc (.cells #[.int .i64 0, .int .i64 0, .string ⟨#[]⟩, .slice none 0 0] 25)) := (Kept.refl _ w6).alloc _
        have FP : Below W3.heap.size W3 (w6.alloc (.cells #[.int .i64 0, .int .i64 0, .string ⟨#[]⟩, .slice none 0 0] 25)) := (bb.alloc zz (.cells #[.int .i64 0, .int .i64 0, .string ⟨#[]⟩, .slice none 0 0] 25))
        generalize (w6.alloc (.cells #[.int .i64 0, .int .i64 0, .string ⟨#[]⟩, .slice none 0 0] 25)) = Wp at *
        have v0 : Wp.cell? ⟨w6.heap.size, 0, none⟩ = some (.int .i64 0) := hE.cell 0
        have v1 : Wp.cell? ⟨w6.heap.size, 1, none⟩ = some (.int .i64 0) := hE.cell 1
        have v2 : Wp.cell? ⟨w6.heap.size, 2, none⟩ = some (.string ⟨#[]⟩) := hE.cell 2
        have v3 : Wp.cell? ⟨w6.heap.size, 3, none⟩ = some (.slice none 0 0) := hE.cell 3
        have y0 := hE.frozen 0
        have y1 := hE.frozen 1
        have y2 := hE.frozen 2
        have y3 := hE.frozen 3
        have hlE : W3.heap.size ≤ w6.heap.size := by omega
        have hlP : W3.heap.size ≤ W3.heap.size := by omega
        refine wpAnyH_ready (rs := [19]) (by kernel_rfl) (by simp) ?_
        refine AllReadyH.cons (o := _) rfl (fun K hK => ?_) AllReadyH.nil
        go_simp
        refine hK.out _ _ (KQ.out _ ((((FP.setCell (p := ⟨w6.heap.size, 0, none⟩) hlE (.int .i64 op)).setCell (p := ⟨w6.heap.size, 1, none⟩) hlE (.int .i64 N)).setCell (p := ⟨w6.heap.size, 2, none⟩) hlE (.string nm)).setCell (p := ⟨w6.heap.size, 3, none⟩) hlE (.slice B l k))) (fun hHeld => ?_)
        clear hK K
        try simp only [Act.put, List.setIfInBounds_toArray, List.set_cons_zero, List.set_cons_succ, List.getElem_toArray, List.getElem_cons_succ, List.getElem_cons_zero]
        have K8 := Kept.put4 Wp w6.heap.size (.int .i64 op) (.int .i64 N) (.string nm) (.slice B l k)
        have E8 := hE.put4 (.int .i64 op) (.int .i64 N) (.string nm) (.slice B l k)
        have P8 := hP.kept K8 (by omega)
        have F8 : Below W3.heap.size W3 _ := FP.trans (K8.to_below (by have := FP.size; omega) (fun q hq e => by omega))
        clear v0 v1 v2 v3 y0 y1 y2 y3
        generalize (((Wp.setCell ⟨w6.heap.size, 0, none⟩ (.int .i64 op)).setCell ⟨w6.heap.size, 1, none⟩ (.int .i64 N)).setCell ⟨w6.heap.size, 2, none⟩ (.string nm)).setCell ⟨w6.heap.size, 3, none⟩ (.slice B l k) = W8 at *
        have v0 : W8.cell? ⟨W3.heap.size, 0, none⟩ = some (.int .i64 0) := P8.cell 0
        have v1 : W8.cell? ⟨W3.heap.size, 1, none⟩ = some (.int .i64 0) := P8.cell 1
        have y0 := P8.frozen 0
        have y1 := P8.frozen 1
        refine wpAnyH_ready (rs := [20]) (by kernel_rfl) (by simp) ?_
        refine AllReadyH.cons (o := _) rfl (fun K hK => ?_) AllReadyH.nil
        go_simp
        refine hK.out _ _ (KQ.out _ ((F8.setCell (p := ⟨W3.heap.size, 0, none⟩) hlP (.int .i64 L)).setCell (p := ⟨W3.heap.size, 1, none⟩) hlP (.int .i64 C))) (fun hHeld => ?_)
        clear hK K
        try simp only [Act.put, List.setIfInBounds_toArray, List.set_cons_zero, List.set_cons_succ, List.getElem_toArray, List.getElem_cons_succ, List.getElem_cons_zero]
        have K9 := Kept.put2 W8 W3.heap.size (.int .i64 L) (.int .i64 C)
        have E9 := E8.kept K9 (by omega)
        have F9 : Below W3.heap.size W3 _ := F8.trans (K9.to_below (by have := F8.size; omega) (fun q hq e => by omega))
        have K69 : Kept (fun z => z = w6.heap.size ∨ z = W3.heap.size) w6 _ := ((K6.mono (T := fun z => z = w6.heap.size ∨ z = W3.heap.size) (fun _ _ h => h.elim)).then_ K8 (fun _ _ e => .inl e)).then_ K9 (fun _ _ e => .inr e)
        have T9 := h6.kept K69 (fun z hz hb e => by rcases e with e | e <;> omega)
        clear v0 v1 y0 y1
        generalize (W8.setCell ⟨W3.heap.size, 0, none⟩ (.int .i64 L)).setCell ⟨W3.heap.size, 1, none⟩ (.int .i64 C) = W9 at *
        refine wpAnyH_take (i := 21) (oi := _) (v := ?_) rfl (by kernel_rfl) (by kernel_rfl) (by kernel_rfl) (fun _ _ _ h => h) (Or.inl ⟨by rfl, ?_⟩) (by assumption) ?_
        rotate_left
        · intro w hSw
          (try dsimp only at hSw)
          go_simp
          (try with_reducible rfl)
        try simp only [Act.put, List.setIfInBounds_toArray, List.set_cons_zero, List.set_cons_succ, List.getElem_toArray, List.getElem_cons_succ, List.getElem_cons_zero]
        refine wpAnyH_done (by kernel_rfl) ?_ _
        go_goals
        go_wp2_with fail
        go_meet
        case rel => exact ⟨_, _, _, _, _, _, _, E, rfl, rfl, E9, ⟨_, _, _, T9⟩, F9⟩
      · skip
        go_simp
        refine hK.out _ _ (KQ.out _ FF4.out) (fun hHeld => ?_)
        clear hK K
        try simp only [Act.put, List.setIfInBounds_toArray, List.set_cons_zero, List.set_cons_succ, List.getElem_toArray, List.getElem_cons_succ, List.getElem_cons_zero]
        refine wpAnyH_ready (rs := [12]) (by kernel_rfl) (by simp) ?_
        refine AllReadyH.cons (o := _) rfl (fun K hK => ?_) AllReadyH.nil
        go_simp
        go_at_call 9
        (with_reducible refine FC4.out.mono ?_)
        rintro e w6 ⟨op, N, nm, B, l, k, L, C, E, rfl, b6, h6⟩
        have bb := FF4.out.trans (b6.mono FF4.out.size)
        have zz := bb.size
        have zb := b6.size
        have nP := (N4P.out.drew).below b6 (N4P.out.drew).lt
        have nE := (N4E.out.drew).below b6 (N4E.out.drew).lt
        refine hK.out _ _ (KQ.out _ bb) (fun hHeld => ?_)
        clear hK K
        try simp only [Act.put, List.setIfInBounds_toArray, List.set_cons_zero, List.set_cons_succ, List.getElem_toArray, List.getElem_cons_succ, List.getElem_cons_zero]
        have zp : (((W3.alloc (.cells #[.int .i64 0, .int .i64 0] 27)).alloc (.cells #[.int .i64 0, .int .i64 0, .string ⟨#[]⟩, .slice none 0 0] 25)).drew).heap.size = W3.heap.size + 2 := by first | rfl | (change (((W3.alloc (.cells #[.int .i64 0, .int .i64 0] 27)).alloc (.cells #[.int .i64 0, .int .i64 0, .string ⟨#[]⟩, .slice none 0 0] 25))).heap.size = _; simp) | simp
        refine wpAnyH_take (i := 13) (oi := _) (v := ?_) rfl (by kernel_rfl) (by kernel_rfl) (by kernel_rfl) (fun _ _ _ h => h) (Or.inl ⟨by rfl, ?_⟩) (by assumption) ?_
        rotate_left
        · intro w hSw
          (try dsimp only at hSw)
          go_simp
          (try with_reducible rfl)
        try simp only [Act.put, List.setIfInBounds_toArray, List.set_cons_zero, List.set_cons_succ, List.getElem_toArray, List.getElem_cons_succ, List.getElem_cons_zero]
        refine wpAnyH_take (i := 14) (oi := _) (v := ?_) rfl (by kernel_rfl) (by kernel_rfl) (by kernel_rfl) (fun _ _ _ h => h) (Or.inl ⟨by rfl, ?_⟩) (by assumption) ?_
        rotate_left
        · intro w hSw
          (try dsimp only at hSw)
          go_simp
          (try with_reducible rfl)
        try simp only [Act.put, List.setIfInBounds_toArray, List.set_cons_zero, List.set_cons_succ, List.getElem_toArray, List.getElem_cons_succ, List.getElem_cons_zero]
        refine wpAnyH_take (i := 15) (oi := _) (v := ?_) rfl (by kernel_rfl) (by kernel_rfl) (by kernel_rfl) (fun _ _ _ h => h) (Or.inl ⟨by rfl, ?_⟩) (by assumption) ?_
        rotate_left
        · intro w hSw
          (try dsimp only at hSw)
          go_simp
          (try with_reducible rfl)
        try simp only [Act.put, List.setIfInBounds_toArray, List.set_cons_zero, List.set_cons_succ, List.getElem_toArray, List.getElem_cons_succ, List.getElem_cons_zero]
        refine wpAnyH_take (i := 16) (oi := _) (v := ?_) rfl (by kernel_rfl) (by kernel_rfl) (by kernel_rfl) (fun _ _ _ h => h) (Or.inl ⟨by rfl, ?_⟩) (by assumption) ?_
        rotate_left
        · intro w hSw
          (try dsimp only at hSw)
          go_simp
          (try with_reducible rfl)
        try simp only [Act.put, List.setIfInBounds_toArray, List.set_cons_zero, List.set_cons_succ, List.getElem_toArray, List.getElem_cons_succ, List.getElem_cons_zero]
        have hE : Blk w6 (W3.heap.size + 1) 25 #[.int .i64 0, .int .i64 0, .string ⟨#[]⟩, .slice none 0 0] := nE
        have hP : Blk w6 W3.heap.size 27 #[.int .i64 0, .int .i64 0] := nP
        have K6 : Kept (fun _ => False) w6 w6 := Kept.refl _ w6
        have FP : Below W3.heap.size W3 w6 := bb
        have v0 : w6.cell? ⟨(W3.heap.size + 1), 0, none⟩ = some (.int .i64 0) := hE.cell 0
        have v1 : w6.cell? ⟨(W3.heap.size + 1), 1, none⟩ = some (.int .i64 0) := hE.cell 1
        have v2 : w6.cell? ⟨(W3.heap.size + 1), 2, none⟩ = some (.string ⟨#[]⟩) := hE.cell 2
        have v3 : w6.cell? ⟨(W3.heap.size + 1), 3, none⟩ = some (.slice none 0 0) := hE.cell 3
        have y0 := hE.frozen 0
        have y1 := hE.frozen 1
        have y2 := hE.frozen 2
        have y3 := hE.frozen 3
        have hlE : W3.heap.size ≤ (W3.heap.size + 1) := by omega
        have hlP : W3.heap.size ≤ W3.heap.size := by omega
        refine wpAnyH_ready (rs := [19]) (by kernel_rfl) (by simp) ?_
        refine AllReadyH.cons (o := _) rfl (fun K hK => ?_) AllReadyH.nil
        go_simp
        refine hK.out _ _ (KQ.out _ ((((FP.setCell (p := ⟨(W3.heap.size + 1), 0, none⟩) hlE (.int .i64 op)).setCell (p := ⟨(W3.heap.size + 1), 1, none⟩) hlE (.int .i64 N)).setCell (p := ⟨(W3.heap.size + 1), 2, none⟩) hlE (.string nm)).setCell (p := ⟨(W3.heap.size + 1), 3, none⟩) hlE (.slice B l k))) (fun hHeld => ?_)
        clear hK K
        try simp only [Act.put, List.setIfInBounds_toArray, List.set_cons_zero, List.set_cons_succ, List.getElem_toArray, List.getElem_cons_succ, List.getElem_cons_zero]
        have K8 := Kept.put4 w6 (W3.heap.size + 1) (.int .i64 op) (.int .i64 N) (.string nm) (.slice B l k)
        have E8 := hE.put4 (.int .i64 op) (.int .i64 N) (.string nm) (.slice B l k)
        have P8 := hP.kept K8 (by omega)
        have F8 : Below W3.heap.size W3 _ := FP.trans (K8.to_below (by have := FP.size; omega) (fun q hq e => by omega))
        clear v0 v1 v2 v3 y0 y1 y2 y3
        generalize (((w6.setCell ⟨(W3.heap.size + 1), 0, none⟩ (.int .i64 op)).setCell ⟨(W3.heap.size + 1), 1, none⟩ (.int .i64 N)).setCell ⟨(W3.heap.size + 1), 2, none⟩ (.string nm)).setCell ⟨(W3.heap.size + 1), 3, none⟩ (.slice B l k) = W8 at *
        have v0 : W8.cell? ⟨W3.heap.size, 0, none⟩ = some (.int .i64 0) := P8.cell 0
        have v1 : W8.cell? ⟨W3.heap.size, 1, none⟩ = some (.int .i64 0) := P8.cell 1
        have y0 := P8.frozen 0
        have y1 := P8.frozen 1
        refine wpAnyH_ready (rs := [20]) (by kernel_rfl) (by simp) ?_
        refine AllReadyH.cons (o := _) rfl (fun K hK => ?_) AllReadyH.nil
        go_simp
        refine hK.out _ _ (KQ.out _ ((F8.setCell (p := ⟨W3.heap.size, 0, none⟩) hlP (.int .i64 L)).setCell (p := ⟨W3.heap.size, 1, none⟩) hlP (.int .i64 C))) (fun hHeld => ?_)
        clear hK K
        try simp only [Act.put, List.setIfInBounds_toArray, List.set_cons_zero, List.set_cons_succ, List.getElem_toArray, List.getElem_cons_succ, List.getElem_cons_zero]
        have K9 := Kept.put2 W8 W3.heap.size (.int .i64 L) (.int .i64 C)
        have E9 := E8.kept K9 (by omega)
        have F9 : Below W3.heap.size W3 _ := F8.trans (K9.to_below (by have := F8.size; omega) (fun q hq e => by omega))
        have K69 : Kept (fun z => z = (W3.heap.size + 1) ∨ z = W3.heap.size) w6 _ := ((K6.mono (T := fun z => z = (W3.heap.size + 1) ∨ z = W3.heap.size) (fun _ _ h => h.elim)).then_ K8 (fun _ _ e => .inl e)).then_ K9 (fun _ _ e => .inr e)
        have T9 := h6.kept K69 (fun z hz hb e => by rcases e with e | e <;> omega)
        clear v0 v1 y0 y1
        generalize (W8.setCell ⟨W3.heap.size, 0, none⟩ (.int .i64 L)).setCell ⟨W3.heap.size, 1, none⟩ (.int .i64 C) = W9 at *
        refine wpAnyH_take (i := 21) (oi := _) (v := ?_) rfl (by kernel_rfl) (by kernel_rfl) (by kernel_rfl) (fun _ _ _ h => h) (Or.inl ⟨by rfl, ?_⟩) (by assumption) ?_
        rotate_left
        · intro w hSw
          (try dsimp only at hSw)
          go_simp
          (try with_reducible rfl)
        try simp only [Act.put, List.setIfInBounds_toArray, List.set_cons_zero, List.set_cons_succ, List.getElem_toArray, List.getElem_cons_succ, List.getElem_cons_zero]
        refine wpAnyH_done (by kernel_rfl) ?_ _
        go_goals
        go_wp2_with fail
        go_meet
        case rel => exact ⟨_, _, _, _, _, _, _, E, rfl, rfl, E9, ⟨_, _, _, T9⟩, F9⟩
  case rest =>
    obtain ⟨g10, op, N, nm, B, l, k, E, rfl, rfl, X10, HX, F10⟩ := hcut
    obtain ⟨base, L0, C0, hx0⟩ := HX.out
    obtain ⟨rfl, rfl, rfl, hT0⟩ := hx0
    have KN2 := Lib.hid (KN.out wc (F3.out.trans (F10.out.mono F3.out.size)))
    have FW := Lib.hid (F3.out.trans (F10.out.mono F3.out.size))
    rw [← HTR.out] at hT0
    unfold treeJ at hT0
    clear KN HX EX2 KQ FF0 FF1 FF2 FF3 FF4 FC0 FC1 FC2 FC3 FC4 N1E N2P N3E N3P N4P N4E m1 m2 b1 b2 b3 b4
    by_cases hlt : tgJ i < tgJ j
    · rw [if_pos hlt] at hT0
      obtain ⟨e1, c1, c2, hcs, -, hk1, hc1, ⟨e2, d1, d2, hc2, -, hk2, hd1, hd2⟩⟩ := hT0
      injection hcs with q1 hcs
      injection hcs with q2 hcs
      injection hcs with q3 hcs
      injection hcs with q4 hcs
      injection q1 with _ q1
      injection q2 with _ q2
      injection q3 with q3
      injection q4 with q4 q5 q6
      subst q1 q2 q3 q4 q5 q6
      have hc1' : c1 = [.int .i64 1, .int .i64 0, .string ⟨#[120]⟩, .slice none 0 0] := hc1
      have hd1' : d1 = [.int .i64 1, .int .i64 0, .string ⟨#[121]⟩, .slice none 0 0] := hd1
      have hd2' : d2 = [.int .i64 1, .int .i64 0, .string ⟨#[122]⟩, .slice none 0 0] := hd2
      subst hc1' hd1' hd2' hc2
      have U1 := Lib.hid hk1
      have U2 := Lib.hid hk2
      clear hc1 hd1 hd2 hcs hk1 hk2
      have hd0 : decide (tgJ i < tgJ j) = true := by simp [hlt]
      go_wp2_with fail
      refine KN2.out.mono ?_
      rintro e wd ⟨rfl, bd⟩
      have x10 := X10.out.below bd X10.out.lt
      have u1 := U1.out.below bd U1.out.lt
      have u2 := U2.out.below bd U2.out.lt
      have zc := F10.out.size
      have bd' := F10.out.trans (bd.mono zc)
      have xt := XT.out.below bd' XT.out.lt
      have xo := XO.out.below bd' XO.out.lt
      have s0 : wd.cell? ⟨g10, 0, none⟩ = some (.int .i64 (opJ i)) := x10.cell 0
      have s3 : wd.cell? ⟨g10, 3, none⟩ = some (.slice (some ⟨e1, 0, none⟩) 2 2) := x10.cell 3
      have v2 : wd.cell? ⟨e1, 2, none⟩ = some (.string ⟨#[120]⟩) := u1.cell 2
      have v4 : wd.cell? ⟨e1, 4, none⟩ = some (.int .i64 (opJ j)) := u1.cell 4
      have v7 : wd.cell? ⟨e1, 4 + 3, none⟩ = some (.slice (some ⟨e2, 0, none⟩) 2 2) := u1.cell 7
      have v7' : wd.cell? ⟨e1, 7, none⟩ = some (.slice (some ⟨e2, 0, none⟩) 2 2) := u1.cell 7
      have y2 : wd.cell? ⟨e2, 2, none⟩ = some (.string ⟨#[121]⟩) := u2.cell 2
      have ti : wd.cell? ⟨w.heap.size + 1, i, none⟩ = some (.int .i64 (tgJ i)) := (xt.cell i).trans HTI.out
      have tj : wd.cell? ⟨w.heap.size + 1, j, none⟩ = some (.int .i64 (tgJ j)) := (xt.cell j).trans HTJ.out
      have oi : wd.cell? ⟨w.heap.size + 2, i, none⟩ = some (.int .i64 (opJ i)) := (xo.cell i).trans HOI.out
      have oj : wd.cell? ⟨w.heap.size + 2, j, none⟩ = some (.int .i64 (opJ j)) := (xo.cell j).trans HOJ.out
      have oi' : wd.cell? ⟨w.heap.size + 1 + 1, i, none⟩ = some (.int .i64 (opJ i)) := oi
      have oj' : wd.cell? ⟨w.heap.size + 1 + 1, j, none⟩ = some (.int .i64 (opJ j)) := oj
      have BD := Lib.hid bd
      clear x10 u1 u2 xt xo bd bd' hlt
      go_upto_region 8 with fail
      go_quiet (fail)
      go_upto_region 9 with fail
      go_quiet (fail)
      go_wp2_with fail
      go_ret
      exact ⟨rfl, below_drewN (below_drewN (FW.out.trans (BD.out.mono FW.out.size)) _) _⟩
    · rw [if_neg hlt] at hT0
      obtain ⟨e1, c2, c1, hcs, -, hk1, ⟨e2, d1, d2, hc2, -, hk2, hd1, hd2⟩, hc1⟩ := hT0
      injection hcs with q1 hcs
      injection hcs with q2 hcs
      injection hcs with q3 hcs
      injection hcs with q4 hcs
      injection q1 with _ q1
      injection q2 with _ q2
      injection q3 with q3
      injection q4 with q4 q5 q6
      subst q1 q2 q3 q4 q5 q6
      have hc1' : c1 = [.int .i64 1, .int .i64 0, .string ⟨#[122]⟩, .slice none 0 0] := hc1
      have hd1' : d1 = [.int .i64 1, .int .i64 0, .string ⟨#[120]⟩, .slice none 0 0] := hd1
      have hd2' : d2 = [.int .i64 1, .int .i64 0, .string ⟨#[121]⟩, .slice none 0 0] := hd2
      subst hc1' hd1' hd2' hc2
      have U1 := Lib.hid hk1
      have U2 := Lib.hid hk2
      clear hc1 hd1 hd2 hcs hk1 hk2
      have hd0 : decide (tgJ i < tgJ j) = false := by simp only [decide_eq_false_iff_not]; exact hlt
      go_wp2_with fail
      refine KN2.out.mono ?_
      rintro e wd ⟨rfl, bd⟩
      have x10 := X10.out.below bd X10.out.lt
      have u1 := U1.out.below bd U1.out.lt
      have u2 := U2.out.below bd U2.out.lt
      have zc := F10.out.size
      have bd' := F10.out.trans (bd.mono zc)
      have xt := XT.out.below bd' XT.out.lt
      have xo := XO.out.below bd' XO.out.lt
      have s0 : wd.cell? ⟨g10, 0, none⟩ = some (.int .i64 (opJ j)) := x10.cell 0
      have s3 : wd.cell? ⟨g10, 3, none⟩ = some (.slice (some ⟨e1, 0, none⟩) 2 2) := x10.cell 3
      have v0 : wd.cell? ⟨e1, 0, none⟩ = some (.int .i64 (opJ i)) := u1.cell 0
      have v3 : wd.cell? ⟨e1, 3, none⟩ = some (.slice (some ⟨e2, 0, none⟩) 2 2) := u1.cell 3
      have v6 : wd.cell? ⟨e1, 4 + 2, none⟩ = some (.string ⟨#[122]⟩) := u1.cell 6
      have v6' : wd.cell? ⟨e1, 6, none⟩ = some (.string ⟨#[122]⟩) := u1.cell 6
      have y6 : wd.cell? ⟨e2, 4 + 2, none⟩ = some (.string ⟨#[121]⟩) := u2.cell 6
      have y6' : wd.cell? ⟨e2, 6, none⟩ = some (.string ⟨#[121]⟩) := u2.cell 6
      have ti : wd.cell? ⟨w.heap.size + 1, i, none⟩ = some (.int .i64 (tgJ i)) := (xt.cell i).trans HTI.out
      have tj : wd.cell? ⟨w.heap.size + 1, j, none⟩ = some (.int .i64 (tgJ j)) := (xt.cell j).trans HTJ.out
      have oi : wd.cell? ⟨w.heap.size + 2, i, none⟩ = some (.int .i64 (opJ i)) := (xo.cell i).trans HOI.out
      have oj : wd.cell? ⟨w.heap.size + 2, j, none⟩ = some (.int .i64 (opJ j)) := (xo.cell j).trans HOJ.out
      have oi' : wd.cell? ⟨w.heap.size + 1 + 1, i, none⟩ = some (.int .i64 (opJ i)) := oi
      have oj' : wd.cell? ⟨w.heap.size + 1 + 1, j, none⟩ = some (.int .i64 (opJ j)) := oj
      have BD := Lib.hid bd
      clear x10 u1 u2 xt xo bd bd' hlt
      go_upto_region 8 with fail
      go_quiet (fail)
      go_upto_region 10 with fail
      go_quiet (fail)
      go_wp2_with fail
      go_ret
      exact ⟨rfl, below_drewN (below_drewN (FW.out.trans (BD.out.mono FW.out.size)) _) _⟩
end Go.Proofs.YtdmlnoeneoomfaaDoor
