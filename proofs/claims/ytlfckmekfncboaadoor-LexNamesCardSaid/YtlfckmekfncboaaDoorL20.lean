/-
  LexNames: the walk.
-/
import Derived.Test.YtlfckmekfncboaaDoorL15
import Derived.Test.YtlfckmekfncboaaDoorL19
import Derived.Test.YtlfckmekfncboaaDoorL21
namespace Go.Proofs.YtlfckmekfncboaaDoor
open Go.RowKit

/-- The words in memory. -/
def WordsAt (w : World) (g : Nat) : Prop := ∀ j X, wordsL[j]? = some X → w.cell? ⟨g, j, none⟩ = some (.string (str X))
theorem WordsAt.new (w : World) : WordsAt (w.alloc (textsO wordsB)) w.heap.size := by
  intro j X hX
  have h := (Blk.new w 9 (wordsB.map Value.string).toArray).cell j
  refine h.trans ?_
  simp [wordsB, hX]
theorem WordsAt.below {w w' : World} {g B : Nat} (h : WordsAt w g) (hb : Below B w w') (hg : g < B) : WordsAt w' g := fun j X hX => (hb.cell (p := ⟨g, j, none⟩) hg).trans (h j X hX)
theorem words_no : ∀ X ∈ wordsL, nameS X = false ∧ X.length ≤ 100 := by decide +kernel
theorem words_count : wordsL.length = 23 := by decide +kernel

set_option maxHeartbeats 4000000 in
set_option maxRecDepth 100000 in
theorem lexNames_walk (s : ByteArray) (w : World) (hT : Spaces w) :
    Calls Tryd.prog 6 #[.string s] w (Tells w true) := by
  have HT := Lib.hid hT
  clear hT
  go_enter Tryd.func6, Tryd.ntmps6
  have y1 : min s.size 60 ≤ s.size := by omega
  have y3 : (0 : Int) ≤ (min s.size 60 : Nat) := by omega
  go_wp2_with fail
  obtain ⟨X, hX, hXl⟩ : ∃ X, s.extract 0 (min (s.size : Int) 60).toNat = str X ∧ X.length ≤ 60 := ⟨_, ext_str s _, by simp; omega⟩
  rw [hX]
  clear hX y1 y3
  obtain ⟨S, hS⟩ : ∃ S, str X = S := ⟨_, rfl⟩
  have sS : S.size = X.length := by rw [← hS, str_size]
  have lS : S.data.toList = X := by rw [← hS, str_list]
  have tS : S.toList = X := by rw [tl_eq, lS]
  rw [hS]
  have HLS := Lib.hid lS
  clear hS lS
  refine (tokens_any S w (HT.out.below (Below.refl _ w)) (by omega)).mono ?_
  intro e w1 hp
  obtain ⟨A1, n1, c1, L1, C1, E1, t1, rfl, hn1, o1, b1, r1⟩ := tok_gen hp
  rw [HLS.out] at r1
  have O1 := Lib.hid o1
  have R1 := Lib.hid r1
  have N1 := Lib.hid hn1
  clear hp o1 r1 hn1
  go_upto_region 3 with fail
  go_cut [6] (fun v wc => v = .bool (nameS X) ∧ Below w.heap.size w wc)
  case first =>
    have F1 := Lib.hid (b1.al (.cells #[.int .i64 L1, .int .i64 C1] 24))
    have O2 := Lib.hid (O1.out.below_ ((Below.refl _ w1).al (.cells #[.int .i64 L1, .int .i64 C1] 24)))
    clear O1
    rcases R1.out with ⟨ok1, rfl⟩ | ⟨er1, rfl⟩
    · by_cases h2 : n1 = 2
      · subst h2
        obtain ⟨a, b, rfl⟩ : ∃ a b, t1 = [a, b] := by
          have := N1.out
          match t1, this with
          | [a, b], _ => exact ⟨a, b, rfl⟩
        have HO : Hid (nameS X = decide (a.kind = 1 ∧ a.text = X)) := by
          rw [Hid, ← oneS_eq]
          unfold oneS
          rw [ok1]
        obtain ⟨g, rfl, _, hgl, _, hc1, hc2, cells⟩ := O2.out.addr (by omega)
        have m0 : (w1.alloc (.cells #[.int .i64 L1, .int .i64 C1] 24)).cell? ⟨g, 0, none⟩ = some (.int .i64 a.kind) := cells 0 _ rfl
        have m1 : (w1.alloc (.cells #[.int .i64 L1, .int .i64 C1] 24)).cell? ⟨g, 1, none⟩ = some (.string (str a.text)) := cells 1 _ rfl
        obtain ⟨T, hT⟩ : ∃ T, str a.text = T := ⟨_, rfl⟩
        have tT : T.toList = a.text := by rw [← hT, str_tl]
        rw [hT] at m1
        obtain ⟨ak, hak⟩ : ∃ k, a.kind = k := ⟨_, rfl⟩
        obtain ⟨at_, hat⟩ : ∃ k, a.text = k := ⟨_, rfl⟩
        rw [hak] at m0 HO
        rw [hat] at tT HO
        clear cells ok1 hT hak hat O2
        by_cases hk : ak = 1
        · by_cases ht : at_ = X
          · have e1 : T.toList = S.toList := by rw [tT, tS, ht]
            have e2 : (T.toList == S.toList) = true := by rw [e1]; simp
            have HQ : Hid (nameS X = true) := by rw [Hid, HO.out]; simp [hk, ht]
            clear tT tS ht
            go_wp2_with fail
            go_meet
            exact ⟨by rw [HQ.out], F1.out⟩
          · have e1 : ¬ T.toList = S.toList := by rw [tT, tS]; exact ht
            have e2 : (T.toList == S.toList) = false := by simpa using e1
            have HQ : Hid (nameS X = false) := by rw [Hid, HO.out]; simp [ht]
            clear tT tS ht
            go_wp2_with fail
            go_meet
            exact ⟨by rw [HQ.out], F1.out⟩
        · have HQ : Hid (nameS X = false) := by rw [Hid, HO.out]; simp [hk]
          clear tT tS
          go_wp2_with fail
          go_meet
          exact ⟨by rw [HQ.out], F1.out⟩
      · have z1 : ¬ ((n1 : Int) = 2) := by omega
        have HQ : Hid (nameS X = false) := by
          rw [Hid, ← oneS_eq]
          unfold oneS
          rw [ok1]
          match t1, N1.out with
          | [], _ => rfl
          | [_], _ => rfl
          | [_, _], h => exact absurd h h2
          | _ :: _ :: _ :: _, _ => rfl
        clear ok1 O2
        go_wp2_with fail
        go_meet
        exact ⟨by rw [HQ.out], F1.out⟩
    · obtain ⟨z2, _, _⟩ := lexS_err er1
      have HQ : Hid (nameS X = false) := by
        rw [Hid, ← oneS_eq]
        unfold oneS
        rw [er1]
      clear er1 O2
      go_wp2_with fail
      go_meet
      exact ⟨by rw [HQ.out], F1.out⟩
  case rest =>
    obtain ⟨rfl, f3⟩ := hcut
    rename_i wc
    clear O1 R1 N1 b1
    go_wp2_with fail
    refine (words_any wc (HT.out.below f3)).mono ?_
    rintro e w' ⟨rfl, hw4⟩
    have WA := Lib.hid (WordsAt.new wc)
    have f4 := f3.al (textsO wordsB)
    have hgw4 : wc.heap.size < (wc.alloc (textsO wordsB)).heap.size := by simp
    rw [← hw4] at WA f4 hgw4
    obtain ⟨gw, hgw⟩ : ∃ g, wc.heap.size = g := ⟨_, rfl⟩
    rw [hgw] at WA hgw4
    rw [hgw]
    clear hw4 f3
    go_wp2_with fail
    refine (refWords_any w').mono ?_
    rintro e w5 ⟨rfl, hw5⟩
    have b5 := (Below.refl w'.heap.size w').al (textsO wordsB)
    rw [← hw5] at b5
    clear hw5
    go_wp2_with fail
    go_loopw [8] (fun i wr => ∃ k : Nat, k ≤ 23 ∧ i = .int .i64 k ∧ Below w'.heap.size w' wr) (fun i _ => 23 - (intOf i).toNat)
    case atStart => exact ⟨0, by omega, rfl, b5⟩
    case round =>
      obtain ⟨k, hk, rfl, hb⟩ := hrel
      have fr := f4.then_ hb
      by_cases hlt : k < 23
      · obtain ⟨X2, hX2⟩ : ∃ X2, wordsL[k]? = some X2 := ⟨_, List.getElem?_eq_getElem (by rw [words_count]; exact hlt)⟩
        obtain ⟨hno, hln⟩ := words_no X2 (List.mem_of_getElem? hX2)
        have c4 := (WA.out.below hb hgw4) k X2 hX2
        have hgw : gw < wr.heap.size := Nat.lt_of_lt_of_le hgw4 hb.size
        obtain ⟨S2, hS2⟩ : ∃ S, str X2 = S := ⟨_, rfl⟩
        rw [hS2] at c4
        have hS9 : S2.size ≤ 9223372036854775807 := by rw [← hS2, str_size]; omega
        have HNO : Hid (nameS S2.data.toList = false) := by rw [Hid, ← hS2, str_list]; exact hno
        have z0 : (0 : Int) ≤ (k : Int) := by omega
        have z1 : (k : Int) < 23 := by omega
        have q : wr.drew.cell? ⟨gw, k, none⟩ = some (.string S2) := c4
        clear hno hln c4
        go_wp2_with fail
        refine wp_region_held_drew (S := fun w' => w'.cell? ⟨gw, k, none⟩ = some (.string S2)) (by kernel_rfl) q (fun hHeld => ?_)
        refine wpAnyH_take (i := 0) (oi := _) (v := ?_) rfl (by kernel_rfl) (by kernel_rfl) (by kernel_rfl) (fun _ _ _ h => h) (Or.inl ⟨by rfl, ?_⟩) (by assumption) ?_
        rotate_left
        · intro w hSw
          (try dsimp only at hSw)
          go_simp
          (try with_reducible rfl)
        try simp only [Act.put, List.setIfInBounds_toArray, List.set_cons_zero, List.set_cons_succ, List.getElem_toArray, List.getElem_cons_zero]
        refine wpAnyH_take (i := 1) (oi := _) (v := ?_) rfl (by kernel_rfl) (by kernel_rfl) (by kernel_rfl) (fun _ _ _ h => h) (Or.inl ⟨by rfl, ?_⟩) (by assumption) ?_
        rotate_left
        · intro w hSw
          (try dsimp only at hSw)
          go_simp
          (try with_reducible rfl)
        try simp only [Act.put, List.setIfInBounds_toArray, List.set_cons_zero, List.set_cons_succ, List.getElem_toArray, List.getElem_cons_succ, List.getElem_cons_zero]
        refine wpAnyH_take (i := 2) (oi := _) (v := ?_) rfl (by kernel_rfl) (by kernel_rfl) (by kernel_rfl) (fun _ _ _ h => h) (Or.inl ⟨by rfl, ?_⟩) (by assumption) ?_
        rotate_left
        · intro w hSw
          (try dsimp only at hSw)
          go_simp
          (try with_reducible rfl)
        try simp only [Act.put, List.setIfInBounds_toArray, List.set_cons_zero, List.set_cons_succ, List.getElem_toArray, List.getElem_cons_succ, List.getElem_cons_zero]
        refine wpAnyH_take (i := 3) (oi := _) (v := ?_) rfl (by kernel_rfl) (by kernel_rfl) (by kernel_rfl) (fun _ _ _ h => h) (Or.inl ⟨by rfl, ?_⟩) (by assumption) ?_
        rotate_left
        · intro w hSw
          (try dsimp only at hSw)
          go_simp
          (try with_reducible rfl)
        try simp only [Act.put, List.setIfInBounds_toArray, List.set_cons_zero, List.set_cons_succ, List.getElem_toArray, List.getElem_cons_succ, List.getElem_cons_zero]
        refine wpAnyH_take (i := 5) (oi := _) (v := ?_) rfl (by kernel_rfl) (by kernel_rfl) (by kernel_rfl) (fun _ _ _ h => h) (Or.inl ⟨by rfl, ?_⟩) (by assumption) ?_
        rotate_left
        · intro w hSw
          (try dsimp only at hSw)
          go_simp
          (try with_reducible rfl)
        try simp only [Act.put, List.setIfInBounds_toArray, List.set_cons_zero, List.set_cons_succ, List.getElem_toArray, List.getElem_cons_succ, List.getElem_cons_zero]
        refine wpAnyH_ready (rs := [4]) (by kernel_rfl) (by simp) ?_
        refine AllReadyH.cons (o := _) rfl (fun K hK => ?_) AllReadyH.nil
        go_simp
        go_at_call 15
        refine (refWords_any _).mono ?_
        rintro e w5 ⟨rfl, hw5⟩
        have b5 := (Below.refl _ wr.drew).al (textsO wordsB)
        have m5 := (WordsAt.new wr.drew) k X2 hX2
        rw [hS2] at m5
        rw [← hw5] at b5 m5
        clear hw5
        have m6 : w5.cell? ⟨wr.heap.size, k, none⟩ = some (.string S2) := m5
        clear m5
        have f5 := fr.drew.then_ b5
        have q5 : w5.cell? ⟨gw, k, none⟩ = some (.string S2) := (b5.cell (p := ⟨gw, k, none⟩) hgw).trans q
        have l5 : gw < w5.heap.size := Nat.lt_of_lt_of_le hgw b5.size
        refine hK.out _ _ q5 (fun hHeld => ?_)
        clear hK K
        try simp only [Act.put, List.setIfInBounds_toArray, List.set_cons_zero, List.set_cons_succ, List.getElem_toArray, List.getElem_cons_succ, List.getElem_cons_zero]
        refine wpAnyH_take (i := 6) (oi := _) (v := ?_) rfl (by kernel_rfl) (by kernel_rfl) (by kernel_rfl) (fun _ _ _ h => h) (Or.inl ⟨by rfl, ?_⟩) (by assumption) ?_
        rotate_left
        · intro w hSw
          (try dsimp only at hSw)
          go_simp
          (try with_reducible rfl)
        try simp only [Act.put, List.setIfInBounds_toArray, List.set_cons_zero, List.set_cons_succ, List.getElem_toArray, List.getElem_cons_succ, List.getElem_cons_zero]
        refine wpAnyH_ready (rs := [7]) (by kernel_rfl) (by simp) ?_
        refine AllReadyH.cons (o := _) rfl (fun K hK => ?_) AllReadyH.nil
        go_simp
        refine hK.out _ _ q5 (fun hHeld => ?_)
        clear hK K
        try simp only [Act.put, List.setIfInBounds_toArray, List.set_cons_zero, List.set_cons_succ, List.getElem_toArray, List.getElem_cons_succ, List.getElem_cons_zero]
        refine wpAnyH_take (i := 8) (oi := _) (v := ?_) rfl (by kernel_rfl) (by kernel_rfl) (by kernel_rfl) (fun _ _ _ h => h) (Or.inl ⟨by rfl, ?_⟩) (by assumption) ?_
        rotate_left
        · intro w hSw
          (try dsimp only at hSw)
          go_simp
          (try with_reducible rfl)
        try simp only [Act.put, List.setIfInBounds_toArray, List.set_cons_zero, List.set_cons_succ, List.getElem_toArray, List.getElem_cons_succ, List.getElem_cons_zero]
        refine wpAnyH_take (i := 9) (oi := _) (v := ?_) rfl (by kernel_rfl) (by kernel_rfl) (by kernel_rfl) (fun _ _ _ h => h) (Or.inl ⟨by rfl, ?_⟩) (by assumption) ?_
        rotate_left
        · intro w hSw
          (try dsimp only at hSw)
          go_simp
          (try with_reducible rfl)
        try simp only [Act.put, List.setIfInBounds_toArray, List.set_cons_zero, List.set_cons_succ, List.getElem_toArray, List.getElem_cons_succ, List.getElem_cons_zero]
        refine wpAnyH_take (i := 10) (oi := _) (v := ?_) rfl (by kernel_rfl) (by kernel_rfl) (by kernel_rfl) (fun _ _ _ h => h) (Or.inl ⟨by rfl, ?_⟩) (by assumption) ?_
        rotate_left
        · intro w hSw
          (try dsimp only at hSw)
          go_simp
          (try with_reducible rfl)
        try simp only [Act.put, List.setIfInBounds_toArray, List.set_cons_zero, List.set_cons_succ, List.getElem_toArray, List.getElem_cons_succ, List.getElem_cons_zero]
        refine wpAnyH_take (i := 11) (oi := _) (v := ?_) rfl (by kernel_rfl) (by kernel_rfl) (by kernel_rfl) (fun _ _ _ h => h) (Or.inl ⟨by rfl, ?_⟩) (by assumption) ?_
        rotate_left
        · intro w hSw
          (try dsimp only at hSw)
          go_simp
          (try with_reducible rfl)
        try simp only [Act.put, List.setIfInBounds_toArray, List.set_cons_zero, List.set_cons_succ, List.getElem_toArray, List.getElem_cons_succ, List.getElem_cons_zero]
        refine wpAnyH_take (i := 12) (oi := _) (v := ?_) rfl (by kernel_rfl) (by kernel_rfl) (by kernel_rfl) (fun _ _ _ h => h) (Or.inl ⟨by rfl, ?_⟩) (by assumption) ?_
        rotate_left
        · intro w hSw
          (try dsimp only at hSw)
          go_simp
          (try with_reducible rfl)
        try simp only [Act.put, List.setIfInBounds_toArray, List.set_cons_zero, List.set_cons_succ, List.getElem_toArray, List.getElem_cons_succ, List.getElem_cons_zero]
        refine wpAnyH_take (i := 13) (oi := _) (v := ?_) rfl (by kernel_rfl) (by kernel_rfl) (by kernel_rfl) (fun _ _ _ h => h) (Or.inl ⟨by rfl, ?_⟩) (by assumption) ?_
        rotate_left
        · intro w hSw
          (try dsimp only at hSw)
          go_simp
          (try with_reducible rfl)
        try simp only [Act.put, List.setIfInBounds_toArray, List.set_cons_zero, List.set_cons_succ, List.getElem_toArray, List.getElem_cons_succ, List.getElem_cons_zero]
        refine wpAnyH_ready (rs := [14]) (by kernel_rfl) (by simp) ?_
        refine AllReadyH.cons (o := _) rfl (fun K hK => ?_) AllReadyH.nil
        go_simp
        go_at_call 16
        refine (isName_any _ _ (HT.out.below f5) hS9).mono ?_
        rintro e w9 ⟨rfl, b9⟩
        rw [HNO.out]
        have q9 : w9.cell? ⟨gw, k, none⟩ = some (.string S2) := (b9.cell (p := ⟨gw, k, none⟩) l5).trans q5
        have f9 := f5.then_ b9
        refine hK.out _ _ q9 (fun hHeld => ?_)
        clear hK K
        try simp only [Act.put, List.setIfInBounds_toArray, List.set_cons_zero, List.set_cons_succ, List.getElem_toArray, List.getElem_cons_succ, List.getElem_cons_zero]
        refine wpAnyH_take (i := 15) (oi := _) (v := ?_) rfl (by kernel_rfl) (by kernel_rfl) (by kernel_rfl) (fun _ _ _ h => h) (Or.inl ⟨by rfl, ?_⟩) (by assumption) ?_
        rotate_left
        · intro w hSw
          (try dsimp only at hSw)
          go_simp
          (try with_reducible rfl)
        try simp only [Act.put, List.setIfInBounds_toArray, List.set_cons_zero, List.set_cons_succ, List.getElem_toArray, List.getElem_cons_succ, List.getElem_cons_zero]
        refine wpAnyH_done (by kernel_rfl) ?_ _
        go_goals
        go_wp2_with fail
        go_roundw
        case rel => exact ⟨k + 1, by omega, by go_num, hb.drew.then_ (b5.then_ b9)⟩
        case measure => simp [intOf]; omega
      · obtain rfl : k = 23 := by omega
        have NX : Hid (nameS S.data.toList = nameS X) := by rw [Hid, HLS.out]
        obtain ⟨nb, hnb⟩ : ∃ b, nameS X = b := ⟨_, rfl⟩
        rw [hnb] at NX
        rw [hnb]
        clear hnb tS
        go_wp2_with (first | (go_at_call 11; refine (known_any _ (HT.out.below fr)).mono ?_; rintro e w7 ⟨rfl, b7⟩; have f7 := fr.then_ b7) | (go_at_call 16; refine (isName_any _ _ (HT.out.below f7) (by omega)).mono ?_; rintro e w8 ⟨rfl, b8⟩; rw [NX.out]; have f8 := f7.then_ b8) | (go_at_call 17; refine (refIsName_any _ w8 (by omega)).mono ?_; rintro e w9 ⟨rfl, b9⟩; rw [NX.out]; have f9 := f8.then_ b9) | (go_at_call 17; refine (refIsName_any _ w9 (by omega)).mono ?_; rintro e w10 ⟨rfl, b10⟩; rw [NX.out]; have f10 := f9.then_ b10))
        go_ret
        exact ⟨by simp, f10⟩
end Go.Proofs.YtlfckmekfncboaaDoor
