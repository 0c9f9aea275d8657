/-
  LexJoins: the walk.
-/
import Derived.Test.YtlfckmekfncboaaDoorJ11
namespace Go.Proofs.YtlfckmekfncboaaDoor
open Go.RowKit

theorem OR.reads {w : World} {base n c : Nat} {A : Option Addr} {ts : List Tk} (h : OR w base (.slice A n c) ts) (hn : n = ts.length) : Reads w w.heap.size 5 A n (tksCells ts) := by
  subst hn
  exact Reads.of_own h
theorem sameT_of {a b : List Tk} (h : a.map Tk.bare = b.map Tk.bare) : sameT a b = true := decide_eq_true h
theorem sameT_end2 {xs us : List Tk} {L C L2 C2 : Int} (h : xs.map Tk.bare = us.map Tk.bare) : sameT (xs ++ [⟨0, [], 0, L, C⟩]) (us ++ [⟨0, [], 0, L2, C2⟩]) = true := by
  unfold sameT
  rw [decide_eq_true_iff, List.map_append, List.map_append, h]
  rfl
theorem texts_of {us ms : List Tk} (hu : ∀ u ∈ us, u.kind ≠ 0) (h : ms = us ∨ ∃ l c, ms = us ++ [⟨0, [], 0, l, c⟩]) : texts ms = us.map Tk.text := by
  rcases h with rfl | ⟨l, c, rfl⟩
  · unfold texts
    rw [filter_us hu]
  · rw [texts_snoc, if_pos rfl]
    unfold texts
    rw [filter_us hu]

/-- What To gives. -/
def ToPost (ms : List Tk) (n : Nat) (w : World) (e : Ending) (w' : World) : Prop := ∃ A c, e = .returned (.slice A n c) ∧ Reads w' w'.heap.size 5 A n (tksCells ms) ∧ Below w.heap.size w w'
theorem to_at (ms : List Tk) (A : Option Addr) (n c : Nat) (w : World) (hr : Reads w w.heap.size 5 A n (tksCells ms)) (hn : ms.length = n) (hb : n ≤ 1000) : Calls Tryd.prog 21 #[.slice A n c] w (ToPost ms n w) := by
  refine (to_any ms A n c w hr hn.symm hb).mono ?_
  rintro e w' ⟨v, rfl, o, b⟩
  obtain ⟨A4, c4, rfl⟩ := own_slice o
  refine ⟨A4, c4, by rw [hn], ?_, b⟩
  have h := OT.reads o rfl
  rw [hn] at h
  exact h
theorem both (ms : List Tk) : ∃ (V : ByteArray) (ev : Int) (bv : Bool), (∀ w e w', LPost ms w e w' → e = .returned (.tuple #[.string V, .int .i64 ev]) ∧ Below w.heap.size w w') ∧ (∀ w e w', JPost ms w e w' → e = .returned (.tuple #[.string V, .bool bv]) ∧ Below w.heap.size w w') ∧
    ((V = ⟨#[]⟩ ∧ ev = 3 ∧ bv = false) ∨ (okJ ms = true ∧ V = str (Lib.join (texts ms) [32]) ∧ ev = 0 ∧ bv = true)) := by
  cases h : okJ ms
  · refine ⟨⟨#[]⟩, 3, false, ?_, ?_, .inl ⟨rfl, rfl, rfl⟩⟩
    · rintro w e w' ⟨rfl, b⟩
      exact ⟨by rw [h, if_neg (by simp), if_neg (by simp)]; rfl, b⟩
    · rintro w e w' ⟨rfl, b⟩
      exact ⟨by rw [h, if_neg (by simp)]; rfl, b⟩
  · refine ⟨str (Lib.join (texts ms) [32]), 0, true, ?_, ?_, .inr ⟨rfl, rfl, rfl, rfl⟩⟩
    · rintro w e w' ⟨rfl, b⟩
      exact ⟨by rw [h, if_pos rfl, if_pos rfl], b⟩
    · rintro w e w' ⟨rfl, b⟩
      exact ⟨by rw [h, if_pos rfl, J_join h], b⟩

set_option maxHeartbeats 4000000 in
set_option maxRecDepth 100000 in
theorem lexJoins_walk (tt : List Tk) (A : Option Addr) (n c : Nat) (w : World) (hT : Spaces w) (hr : Reads w w.heap.size 5 A n (tksCells tt)) (hn : n = tt.length) (hb : n ≤ 9223372036854775807) (hx : ∀ t ∈ tt, t.text.length ≤ 9223372036854775807) :
    Calls Tryd.prog 9 #[.slice A n c] w (Tells w true) := by
  have HT := Lib.hid hT
  have HR0 := Lib.hid hr
  have HN0 := Lib.hid hn
  have HX0 := Lib.hid hx
  clear hT hr hn hx
  go_enter Tryd.func9, Tryd.ntmps9
  go_wp2_with fail
  refine (of_any tt A n c w HR0.out HN0.out hb HX0.out).mono ?_
  rintro e w1 ⟨v1, rfl, o1, b1⟩
  have hl60 : ∀ t ∈ (tt.take 30).map Tk.cut, t.text.length ≤ 60 := by
    intro t ht
    obtain ⟨u, _, rfl⟩ := List.mem_map.1 ht
    show (u.text.take 60).length ≤ 60
    rw [List.length_take]
    omega
  have hl30 : ((tt.take 30).map Tk.cut).length ≤ 30 := by rw [List.length_map, List.length_take]; omega
  generalize (tt.take 30).map Tk.cut = ms at *
  obtain ⟨A1, c1, rfl⟩ := own_slice o1
  obtain ⟨n1, hn1⟩ : ∃ n, ms.length = n := ⟨_, rfl⟩
  rw [hn1] at hl30 o1 ⊢
  obtain ⟨V, ev, bv, hL, hJ, hcs⟩ := both ms
  have HLP := Lib.hid hL
  have HJP := Lib.hid hJ
  have HCS := Lib.hid hcs
  clear hL hJ hcs
  have HL1 := Lib.hid hn1
  have H60 := Lib.hid hl60
  have R1 := Lib.hid (o1.reads hn1.symm)
  clear hb o1 hl60 hn1 HR0 HN0 HX0
  go_wp2_with fail
  refine (to_any ms A1 n1 c1 w1 R1.out HL1.out.symm (by omega)).mono ?_
  rintro e w2 ⟨v2, rfl, o2, b2⟩
  obtain ⟨A2, c2, rfl⟩ := own_slice o2
  rw [HL1.out]
  have f2 := b1.then_ b2
  have R2 := Lib.hid (o2.reads rfl)
  have LR := Lib.hid b2.size
  have R1 := Lib.hid (R1.out.below_ b2 (Nat.le_refl _))
  clear o2 b2 b1
  go_wp2_with fail
  refine (lexJoin_any ms A2 n1 c2 w2 (HT.out.below f2) (by have h := R2.out; rw [HL1.out] at h; exact h) HL1.out.symm (by omega) H60.out).mono ?_
  intro e w3 hp3
  obtain ⟨rfl, b3⟩ := HLP.out _ _ _ hp3
  clear hp3
  have f3 := f2.then_ b3
  have R1 := Lib.hid (R1.out.below_ b3 LR.out)
  have LR := Lib.hid (Nat.le_trans LR.out b3.size)
  clear R2 b3 f2
  go_wp2_with fail
  refine (refJoin_any ms A1 n1 c1 w3 (R1.out.more LR.out) HL1.out.symm (by omega) H60.out).mono ?_
  intro e w4 hp4
  obtain ⟨rfl, b4⟩ := HJP.out _ _ _ hp4
  clear hp4
  have f4 := f3.then_ b4
  have R1 := Lib.hid (R1.out.below_ b4 LR.out)
  have LR := Lib.hid (Nat.le_trans LR.out b4.size)
  clear b4 f3
  clear HLP HJP
  rcases HCS.out with ⟨rfl, rfl, rfl⟩ | ⟨hok, rfl, rfl, rfl⟩
  · clear HCS
    go_wp2_with fail
    refine (known_any _ (HT.out.below f4)).mono ?_
    rintro e w7 ⟨rfl, b7⟩
    go_wp2_with fail
    go_ret
    exact ⟨rfl, f4.then_ b7⟩
  · have hJ := J_join hok
    clear HCS
    obtain ⟨us, hu, hms⟩ := okJ_parts hok
    have htx := texts_of (fun u h => (hu u h).1) hms
    have hg : ∀ u ∈ us, Good u := fun u h => right_good (hu u h).1 (hu u h).2
    have hjl : (Lib.join (texts ms) [32]).length ≤ 6100 := by
      rw [← hJ]
      have h1 := J_len ms H60.out
      have h2 := HL1.out
      omega
    rw [htx] at hjl ⊢
    obtain ⟨U, hU⟩ : ∃ U, str (Lib.join (us.map Tk.text) [32]) = U := ⟨_, rfl⟩
    have sU : U.size ≤ 6100 := by rw [← hU, str_size]; exact hjl
    have lU : U.data.toList = Lib.join (us.map Tk.text) [32] := by rw [← hU, str_list]
    rw [hU]
    have HLU := Lib.hid lU
    have HG := Lib.hid hg
    have HU := Lib.hid hu
    have HMS := Lib.hid hms
    clear hJ hok hu hms htx hg hjl hU lU
    go_wp2_with fail
    refine (tokens_any U w4 (HT.out.below f4) (by omega)).mono ?_
    intro e w5 hp
    obtain ⟨xs, xL, xC, hx, hxb⟩ := lexS_join HG.out
    obtain ⟨A3, c3, rfl, o3, b5⟩ := tok_ok (by rw [HLU.out]; exact hx) hp
    have HXB := Lib.hid hxb
    obtain ⟨n3, hn3⟩ : ∃ n, (xs ++ [(⟨0, [], 0, xL, xC⟩ : Tk)]).length = n := ⟨_, rfl⟩
    have hxl : xs.length = us.length := by have := congrArg List.length hxb; simpa using this
    rw [hn3] at o3
    rw [hn3]
    have HN3 := Lib.hid hn3
    have HXLN := Lib.hid hxl
    have f6 := (f4.then_ b5).al (.cells #[.int .i64 0, .int .i64 0] 24)
    have O3 := Lib.hid (o3.below_ ((Below.refl _ w5).al (.cells #[.int .i64 0, .int .i64 0] 24)))
    have hb6 : Below w4.heap.size w4 (w5.alloc (.cells #[.int .i64 0, .int .i64 0] 24)) := b5.al _
    have R1 := Lib.hid (R1.out.below_ hb6 LR.out)
    have LR := Lib.hid (Nat.le_trans LR.out hb6.size)
    have hn3e : n3 = us.length + 1 := by rw [← hn3, List.length_append, hxl]; rfl
    have hn3p : 0 < n3 := by omega
    have HN3E := Lib.hid hn3e
    clear hp hx hxb hn3 hxl o3 b5 hb6 hn3e
    go_upto_region 9 with fail
    generalize w5.alloc (.cells #[.int .i64 0, .int .i64 0] 24) = W6 at *
    obtain ⟨g3, rfl, _, _, hq, hc3, hc3', _⟩ := O3.out.addr (by omega)
    clear hq
    rcases HMS.out with rfl | ⟨eL, eC, rfl⟩
    · rcases List.eq_nil_or_concat ms with rfl | ⟨l, t, hlt⟩
      · have h10 : n1 = 0 := HL1.out.symm
        subst h10
        have h31 : n3 = 1 := HN3E.out
        subst h31
        have hxs : xs = [] := List.eq_nil_of_length_eq_zero HXLN.out
        subst hxs
        have K3 : Hid (∀ w7, Below W6.heap.size W6 w7 → Reads w7 w7.heap.size 5 (some ⟨g3, 0, none⟩) 0 (tksCells [])) := fun w7 b7 => Reads.none_
        have z1 : (0 : Int) ≤ (c3 : Int) := by omega
        have K5 : Hid (∀ w7, Below W6.heap.size W6 w7 → Calls Tryd.prog 21 #[.slice A1 (0) c1] w7 (ToPost ([] : List Tk) (0) w7)) := fun w7 b7 => to_at ([] : List Tk) A1 (0) c1 w7 ((R1.out.below_ b7 LR.out).more (Nat.le_trans LR.out b7.size)) HL1.out (by omega)
        have K6 : Hid (∀ w8 A4 c4, Below W6.heap.size W6 w8 → Reads w8 w8.heap.size 5 A4 (0) (tksCells ([] : List Tk)) → Calls Tryd.prog 18 #[.slice (some ⟨g3, 0, none⟩) (0) c3, .slice A4 (0) c4] w8 (Tells w8 true)) := fun w8 A4 c4 b8 rb => by
          have h := same_at ([] : List Tk) ([] : List Tk) (some ⟨g3, 0, none⟩) A4 (0) (0) c3 c4 w8 rfl HL1.out (K3.out w8 b8) rb (by omega)
          rw [sameT_of rfl] at h
          exact h
        clear K3 R1
        go_wp2_with (first | (go_at_call 11; refine (known_any _ (HT.out.below f6)).mono ?_; rintro e w7 ⟨rfl, b7⟩; have f7 := f6.then_ b7) | (go_at_call 21; refine (K5.out w7 b7).mono ?_; rintro e w8 ⟨A4, c4, rfl, rb, b8⟩; have f8 := f7.then_ b8; have RB := Lib.hid rb; clear rb) | (go_at_call 18; refine (K6.out w8 A4 c4 (b7.then_ b8) RB.out).mono ?_; rintro e w10 ⟨rfl, b10⟩; have f10 := f8.then_ b10))
        go_ret
        exact ⟨rfl, f10⟩
      · rw [List.concat_eq_append] at hlt
        obtain ⟨j, hj⟩ : ∃ j, l.length = j := ⟨_, rfl⟩
        have h1j : n1 = j + 1 := by rw [← HL1.out, hlt, List.length_append, hj]; rfl
        subst h1j
        have h31 : n3 = j + 1 + 1 := by rw [HN3E.out, HL1.out]
        subst h31
        have htk : t.kind ≠ 0 := (HU.out t (by rw [hlt]; simp)).1
        have hjm : j < ms.length := by rw [HL1.out]; omega
        have cT := tksCells_cut ms j hjm
        have hmj : ms[j] = t := by
          subst hlt
          subst hj
          simp
        rw [hmj] at cT
        obtain ⟨g, o, rfl, hgl, hcc⟩ := R1.out.chunk (by omega) (by omega : j < j + 1) cT
        have q0 := hcc 0 _ rfl
        simp only [Nat.add_zero] at q0
        obtain ⟨tk, htk'⟩ : ∃ k, t.kind = k := ⟨_, rfl⟩
        rw [htk'] at q0 htk
        have e1 : (tk != 0) = true := by simpa using htk
        have K3 : Hid (∀ w7, Below W6.heap.size W6 w7 → Reads w7 w7.heap.size 5 (some ⟨g3, 0, none⟩) (j + 1) (tksCells xs)) := fun w7 b7 => Reads.upto_us ((O3.out.below_ b7).reads HN3.out.symm) (by rw [HXLN.out, HL1.out])
        have HXJ := Lib.hid (show xs.length = j + 1 by rw [HXLN.out, HL1.out])
        have z1 : (j : Int) + 1 ≤ (c3 : Int) := by omega
        have z4 : j + 1 ≤ c3 := by omega
        have z2 : (0 : Int) ≤ (j : Int) := by omega
        have z3 : (0 : Int) ≤ (j : Int) + 1 := by omega
        clear hcc cT hmj hjm hlt hj htk'
        have K5 : Hid (∀ w7, Below W6.heap.size W6 w7 → Calls Tryd.prog 21 #[.slice (some ⟨g, o, none⟩) (j + 1) c1] w7 (ToPost ms (j + 1) w7)) := fun w7 b7 => to_at ms (some ⟨g, o, none⟩) (j + 1) c1 w7 ((R1.out.below_ b7 LR.out).more (Nat.le_trans LR.out b7.size)) HL1.out (by omega)
        have K6 : Hid (∀ w8 A4 c4, Below W6.heap.size W6 w8 → Reads w8 w8.heap.size 5 A4 (j + 1) (tksCells ms) → Calls Tryd.prog 18 #[.slice (some ⟨g3, 0, none⟩) (j + 1) c3, .slice A4 (j + 1) c4] w8 (Tells w8 true)) := fun w8 A4 c4 b8 rb => by
          have h := same_at xs ms (some ⟨g3, 0, none⟩) A4 (j + 1) (j + 1) c3 c4 w8 HXJ.out HL1.out (K3.out w8 b8) rb (by omega)
          rw [sameT_of HXB.out] at h
          exact h
        clear K3 R1
        go_wp2_with (first | (go_at_call 11; refine (known_any _ (HT.out.below f6)).mono ?_; rintro e w7 ⟨rfl, b7⟩; have f7 := f6.then_ b7) | (go_at_call 21; refine (K5.out w7 b7).mono ?_; rintro e w8 ⟨A4, c4, rfl, rb, b8⟩; have f8 := f7.then_ b8; have RB := Lib.hid rb; clear rb) | (go_at_call 18; refine (K6.out w8 A4 c4 (b7.then_ b8) RB.out).mono ?_; rintro e w10 ⟨rfl, b10⟩; have f10 := f8.then_ b10))
        go_ret
        exact ⟨rfl, f10⟩
    · obtain ⟨j, hj⟩ : ∃ j, us.length = j := ⟨_, rfl⟩
      have h1j : n1 = j + 1 := by rw [← HL1.out, List.length_append, hj]; rfl
      subst h1j
      have h31 : n3 = j + 1 := by rw [HN3E.out, hj]
      subst h31
      have cT := tksCells_cut (us ++ [(⟨0, [], 0, eL, eC⟩ : Tk)]) j (by rw [HL1.out]; omega)
      have hmj : (us ++ [(⟨0, [], 0, eL, eC⟩ : Tk)])[j]'(by rw [HL1.out]; omega) = ⟨0, [], 0, eL, eC⟩ := by
        subst hj
        simp
      rw [hmj] at cT
      obtain ⟨g, o, rfl, hgl, hcc⟩ := R1.out.chunk (by omega) (by omega : j < j + 1) cT
      have q0 := hcc 0 _ rfl
      simp only [Nat.add_zero] at q0
      have K3 : Hid (∀ w7, Below W6.heap.size W6 w7 → Reads w7 w7.heap.size 5 (some ⟨g3, 0, none⟩) (j + 1) (tksCells (xs ++ [⟨0, [], 0, xL, xC⟩]))) := fun w7 b7 => (O3.out.below_ b7).reads HN3.out.symm
      have z2 : (0 : Int) ≤ (j : Int) := by omega
      clear hcc cT hmj hj
      have K5 : Hid (∀ w7, Below W6.heap.size W6 w7 → Calls Tryd.prog 21 #[.slice (some ⟨g, o, none⟩) (j + 1) c1] w7 (ToPost (us ++ [(⟨0, [], 0, eL, eC⟩ : Tk)]) (j + 1) w7)) := fun w7 b7 => to_at (us ++ [(⟨0, [], 0, eL, eC⟩ : Tk)]) (some ⟨g, o, none⟩) (j + 1) c1 w7 ((R1.out.below_ b7 LR.out).more (Nat.le_trans LR.out b7.size)) HL1.out (by omega)
      have K6 : Hid (∀ w8 A4 c4, Below W6.heap.size W6 w8 → Reads w8 w8.heap.size 5 A4 (j + 1) (tksCells (us ++ [(⟨0, [], 0, eL, eC⟩ : Tk)])) → Calls Tryd.prog 18 #[.slice (some ⟨g3, 0, none⟩) (j + 1) c3, .slice A4 (j + 1) c4] w8 (Tells w8 true)) := fun w8 A4 c4 b8 rb => by
        have h := same_at (xs ++ [(⟨0, [], 0, xL, xC⟩ : Tk)]) (us ++ [(⟨0, [], 0, eL, eC⟩ : Tk)]) (some ⟨g3, 0, none⟩) A4 (j + 1) (j + 1) c3 c4 w8 HN3.out HL1.out (K3.out w8 b8) rb (by omega)
        rw [sameT_end2 HXB.out] at h
        exact h
      clear K3 R1
      go_wp2_with (first | (go_at_call 11; refine (known_any _ (HT.out.below f6)).mono ?_; rintro e w7 ⟨rfl, b7⟩; have f7 := f6.then_ b7) | (go_at_call 21; refine (K5.out w7 b7).mono ?_; rintro e w8 ⟨A4, c4, rfl, rb, b8⟩; have f8 := f7.then_ b8; have RB := Lib.hid rb; clear rb) | (go_at_call 18; refine (K6.out w8 A4 c4 (b7.then_ b8) RB.out).mono ?_; rintro e w10 ⟨rfl, b10⟩; have f10 := f8.then_ b10))
      go_ret
      exact ⟨rfl, f10⟩
end Go.Proofs.YtlfckmekfncboaaDoor
