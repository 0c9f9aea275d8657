
/-
  Journals: the document's Right, Same and Bytes.
-/
import Derived.Test.YtidppcaohkfnfaaK3
import Derived.Test.YtidppcaohkfnfaaSame
import Derived.Deep.RegionHeld3
import Derived.Deep.RegionLaw
import Derived.Deep.DeepCutAuto
namespace Go.Proofs.Ytidppcaohkfnfaa
open Go.RowKit

set_option maxHeartbeats 1000000 in
set_option maxRecDepth 100000 in
theorem right_yes (m : Me) (w : World) (hr : m.Right) : Calls Try.prog 35 #[m.val] w (Tells w true) := by
  obtain ⟨k, s, A, n, c, l⟩ := m
  obtain ⟨h1, h2, h3, h4⟩ := hr
  simp only at h1 h2 h3 h4
  unfold Me.val
  have g3 : (s.size : Int) ≤ 64 := by omega
  have g4 : (n : Int) ≤ 65536 := by omega
  have g1 : (k ≥ 0) := h1
  go_enter Try.func35, Try.ntmps35
  go_wp2_with fail
  go_ret
  exact ⟨rfl, (Below.refl _ w).al _⟩
set_option maxHeartbeats 1000000 in
set_option maxRecDepth 100000 in
theorem right_no (m : Me) (w : World) (hr : ¬ m.Right) : Calls Try.prog 35 #[m.val] w (Tells w false) := by
  obtain ⟨k, s, A, n, c, l⟩ := m
  have hr' : ¬ (0 ≤ k ∧ k ≤ 255 ∧ s.size ≤ 64 ∧ n ≤ 65536) := hr
  clear hr
  unfold Me.val
  by_cases h1 : 0 ≤ k
  · by_cases h2 : k ≤ 255
    · by_cases h3 : s.size ≤ 64
      · have h4 : ¬ n ≤ 65536 := fun h4 => hr' ⟨h1, h2, h3, h4⟩
        have g3 : (s.size : Int) ≤ 64 := by omega
        have g4 : ¬ (n : Int) ≤ 65536 := by omega
        clear hr'
        go_enter Try.func35, Try.ntmps35
        go_wp2_with fail
        go_ret
        exact ⟨rfl, (Below.refl _ w).al _⟩
      · have g3 : ¬ (s.size : Int) ≤ 64 := by omega
        clear hr'
        go_enter Try.func35, Try.ntmps35
        go_wp2_with fail
        go_ret
        exact ⟨rfl, (Below.refl _ w).al _⟩
    · clear hr'
      go_enter Try.func35, Try.ntmps35
      go_wp2_with fail
      go_ret
      exact ⟨rfl, (Below.refl _ w).al _⟩
  · clear hr'
    go_enter Try.func35, Try.ntmps35
    go_wp2_with fail
    go_ret
    exact ⟨rfl, (Below.refl _ w).al _⟩

/-- Are two entries the same? -/
def sameE (a b : En) : Bool := decide (a.kind = b.kind) && (decide (a.key = b.key) && decide (a.body = b.body))
theorem sameE_iff {a b : En} : sameE a b = true ↔ a = b := by
  cases a
  cases b
  simp [sameE]
theorem str_eq_iff {s t : ByteArray} : s.data.toList = t.data.toList ↔ s = t := by
  obtain ⟨⟨x⟩⟩ := s
  obtain ⟨⟨y⟩⟩ := t
  simp
theorem tl_inj {s t : ByteArray} (h : s.toList = t.toList) : s = t := str_eq_iff.1 (by rw [← ByteArray.toList_eq, ← ByteArray.toList_eq]; exact h)
set_option maxHeartbeats 1000000 in
set_option maxRecDepth 100000 in
theorem esame_any (D E : Nat → Prop) (a b : Me) (w : World) (ha : a.Ok D w) (hb : b.Ok E w) (na : a.n ≤ 140737488355328) (nb : b.n ≤ 140737488355328) :
    Calls Try.prog 13 #[a.val, b.val] w (Tells w (sameE a.en b.en)) := by
  obtain ⟨k, s, A, n, c, l⟩ := a
  obtain ⟨k', s', A', n', c', l'⟩ := b
  have ra := ha.rb
  have rb := hb.rb
  simp only at ra rb na nb
  clear ha hb
  have HE : Hid (sameE (Me.en ⟨k, s, A, n, c, l⟩) (Me.en ⟨k', s', A', n', c', l'⟩) = (decide (k = k') && (decide (s.data.toList = s'.data.toList) && decide (l = l')))) := rfl
  generalize sameE (Me.en ⟨k, s, A, n, c, l⟩) (Me.en ⟨k', s', A', n', c', l'⟩) = res at HE ⊢
  unfold Me.val
  by_cases h1 : k = k'
  · subst h1
    by_cases h2 : s = s'
    · subst h2
      go_enter Try.func13, Try.ntmps13
      go_wp2_with fail
      have f0 : Below w.heap.size w ((w.alloc (.cells #[.int .i64 k, .string s, .slice A n c] 31)).alloc (.cells #[.int .i64 k, .string s, .slice A' n' c'] 31)) := ((Below.refl _ w).al _).al _
      refine (same_any A A' n c n' c' l l' _ (ra.below f0) (rb.below f0) na nb).mono ?_
      rintro e w1 ⟨rfl, q, rfl⟩
      have F1 := below_drewN f0 q
      go_wp2_with fail
      go_ret
      refine ⟨?_, F1⟩
      rw [HE.out]
      simp
    · have h2' : ¬ s.data.toList = s'.data.toList := fun e => h2 (str_eq_iff.1 e)
      have HR : Hid (res = false) := by rw [Hid, HE.out]; simp [h2']
      have h3 : ¬ s.toList = s'.toList := fun e => h2 (tl_inj e)
      clear HE h2 h2'
      go_enter Try.func13, Try.ntmps13
      go_wp2_with fail
      go_ret
      exact ⟨by rw [HR.out]; rfl, ((Below.refl _ w).al _).al _⟩
  · have HR : Hid (res = false) := by rw [Hid, HE.out]; simp [h1]
    clear HE
    go_enter Try.func13, Try.ntmps13
    go_wp2_with fail
    go_ret
    exact ⟨by rw [HR.out]; rfl, ((Below.refl _ w).al _).al _⟩

/-- What '[]byte(s)' makes. -/
def cvCap (s : ByteArray) (W : World) : Nat := grownCap W s.size 0 5
def cvObj (s : ByteArray) (W : World) : Obj := .cells (bytesRow s (grownCap W s.size 0 5)) 5 ((bytesRow s (grownCap W s.size 0 5)).size, (bytesRow s (grownCap W s.size 0 5)).size + 1)
theorem run_conv8 (s : ByteArray) (W : World) : (convert 9 29 (.string s)).run Try.prog W = .ok (.slice (some ⟨W.heap.size, 0, none⟩) s.size (cvCap s W)) (W.alloc (cvObj s W)).drew :=
  run_bytes_of_string (P := Try.prog) W 9 29 5 s Try.underlying9 Try.underlying29 Try.underlying5
theorem rb_conv8 (s : ByteArray) (W : World) : RB (W.alloc (cvObj s W)).drew (some ⟨W.heap.size, 0, none⟩) s.size s.data.toList := by
  have hs : s.size = s.data.toList.length := (Array.length_toList (xs := s.data)).symm
  unfold cvObj
  have h := RB.row W.drew s.data.toList (bytesRow s (grownCap W s.size 0 5)) 5 ((bytesRow s (grownCap W s.size 0 5)).size, (bytesRow s (grownCap W s.size 0 5)).size + 1) (fun j hj => by
    rw [bytesRow_at s _ j (by simpa using hj)]
    simp)
  rw [← hs] at h
  exact h

/-- 'append(v, x...)', v of the call's own, x any slice of bytes; which row has turned. -/
theorem wpList_app8g (w : World) {ops : Array Oper} {rest : List Oper} {o : Oper} {a : Act} {Q : Exit → Act → World → Prop} (hgd : Region.wanted o (yielded ops a.tmps) = true) (s x : Operand)
    (ho : o.op = .call { callee := .builtin .append, args := #[s, x], argTypes := #[29, 29] })
    (base : Nat) (v : Value) (l : List UInt8) (hs : a.eval s = v) (hown : OB w base v l)
    (A : Option Addr) (m c : Nat) (l' : List UInt8) (hx : a.eval x = .slice A m c) (hr : RB w A m l')
    (hb : l.length + m ≤ 140737488355328) (hbase : base ≤ w.heap.size)
    (h : ∀ v' w', OB w' base v' (l ++ l') → w.grownBy w' v.ownBlock → (v'.ownBlock = v.ownBlock ∨ v'.ownBlock = some w.heap.size) → wpList Try.prog ops Q rest (a.put o.dst v') w') : wpList Try.prog ops Q (o :: rest) a w := by
  obtain ⟨i, hi, hz0, hz1, hz2⟩ := info_parts u8_info
  have hm := hr.len
  refine wpList_append_any w hgd s x 29 ho base 5 i (.int .u8 0) 1 1 Try.underlying29 hi hz0 hz1 hz2 rfl (by decide) v l.length (B8 l) hs hown w.heap.size A m c (B8 l') hx hr (B8_one _) (by simp only [maxLen]; omega) (by omega) hbase ?_
  intro v' w' h1 h2 h3
  refine h v' w' ?_ h2 h3
  unfold OB
  rw [List.length_append, B8_append, ← hm]
  exact h1

set_option maxHeartbeats 2000000 in
set_option maxRecDepth 100000 in
theorem refEBytes_any (D : Nat → Prop) (m : Me) (w : World) (hm : m.Ok D w) (hn : m.n ≤ 65536) (hk : 0 ≤ m.kind) (hs : m.key.size ≤ 1000) :
    Calls Try.prog 27 #[m.val] w (Got w.heap.size w (entryB D8 m.en)) := by
  obtain ⟨k, s, A, n, c, l⟩ := m
  obtain ⟨h1, h2, h3, h4, h5, h6⟩ := hm
  unfold Me.val
  simp only at h1 h2 h3 h4 h5 h6 hn hk hs
  have rb := h6.rb
  clear h6
  obtain ⟨kn, rfl⟩ : ∃ q : Nat, k = (q : Int) := ⟨k.toNat, by omega⟩
  have HB : Hid (headB (Me.en ⟨(kn : Int), s, A, n, c, l⟩) = num kn ++ (num s.data.toList.length ++ s.data.toList) ++ (num l.length ++ l)) := by
    rw [Hid, headB]
    simp only [Me.en, lenB, Int.toNat_natCast, List.append_assoc]
  have hkl : (num kn).length ≤ 10 := num_le10 (by omega)
  have hsd : s.data.toList.length = s.size := Array.length_toList
  have hsl : (num s.data.toList.length).length ≤ 10 := num_le10 (by omega)
  have hll : n = l.length := rb.len
  have HL := Lib.hid hll
  have hnl : (num l.length).length ≤ 10 := num_le10 (by omega)
  have q1l : (num kn ++ (num s.data.toList.length ++ s.data.toList)).length ≤ 1020 := by
    simp only [List.length_append]
    omega
  have q2l : (num kn ++ (num s.data.toList.length ++ s.data.toList) ++ (num l.length ++ l)).length ≤ 70000 := by
    have e1 : (num kn ++ (num s.data.toList.length ++ s.data.toList) ++ (num l.length ++ l)).length = (num kn ++ (num s.data.toList.length ++ s.data.toList)).length + ((num l.length).length + l.length) := by simp only [List.length_append]
    omega
  rw [← HB.out] at q2l
  clear hll
  go_enter Try.func27, Try.ntmps27
  go_upto_region 1 with fail
  have f0 : Below w.heap.size w (w.alloc (.cells #[.int .i64 kn, .string s, .slice A n c] 31)) := (Below.refl _ w).al _
  have b0 := Blk.new w 31 #[.int .i64 kn, .string s, .slice A n c]
  generalize w.alloc (.cells #[.int .i64 kn, .string s, .slice A n c] 31) = W0 at *
  have HK : ∀ W, Below W0.drew.heap.size W0.drew W → W.cell? ⟨w.heap.size, 0, none⟩ = some (.int .i64 kn) ∧ W.cell? ⟨w.heap.size, 1, none⟩ = some (.string s) := fun W hW => by
    have B := b0.drew.below hW b0.lt
    exact ⟨B.cell 0, B.cell 1⟩
  have hal : ∀ (W : World) (o : Obj) (i : Nat), w.heap.size < W.heap.size → (W.alloc o).cell? ⟨w.heap.size, i, none⟩ = W.cell? ⟨w.heap.size, i, none⟩ := fun W o i h => World.cell?_alloc_lt W o _ h
  have hl0 := b0.lt
  have rr : Below W0.drew.heap.size W0.drew W0.drew := Below.refl _ _
  have k0 : W0.cell? ⟨w.heap.size, 0, none⟩ = some (.int .i64 kn) := b0.cell 0
  have k1 : W0.cell? ⟨w.heap.size, 1, none⟩ = some (.string s) := b0.cell 1
  have hw := wrap_u64_in (kn : Int) (by omega) (by omega)
  have hcv := run_conv8 s
  have HS := Lib.hid hsd
  have HQ1 := Lib.hid q1l
  clear hsd q1l
  have HKh := Lib.hid HK
  go_cut [3] (fun v wc => OB wc W0.heap.size v (num kn ++ (num s.data.toList.length ++ s.data.toList)) ∧ Below W0.drew.heap.size W0.drew wc)
  case first =>
    clear HKh HL HB hnl q2l h4 h5
    go_region_law (first
        | (refine step_app8 _ (by rfl) (.tmp 9) (.tmp 13) (by rfl) W0.heap.size _ (num kn) (by rfl) ?_ _ _ _ (num s.data.toList.length ++ s.data.toList) (by rfl) ?_ ?_ ?_ ?_; (exact ho1); (exact r3); (have hr3 := r3.len; have q1l := HQ1.out; simp only [List.length_append] at q1l hr3; omega); (exact rr.size); intro v4 w4 ho4 hb4; have rr := rr.trans hb4)
        | (go_simp; go_at_call 43; refine (refNum_any kn _ (by unfold U64; omega)).mono ?_; rintro e w1 ⟨v1, rfl, ho1, hb1⟩; (first | (have ho1 := OB.mono (b := W0.heap.size) ho1 rr.size; have rr := rr.then_ hb1; (try have r3 := r3.below hb1)) | ((first | have rA := (rb_conv8 s _).below hb1 | have rA := (rb_conv8 s W0.drew).below hb1); have ho1 := OB.mono (b := W0.heap.size) ho1 (rr.al _).drew.size; have rr := (rr.al _).drew.then_ hb1)); obtain ⟨k0, k1⟩ := HK _ rr; have hl0 := Nat.lt_of_lt_of_le b0.lt rr.size)
        | (go_simp; go_at_call 44; (first | refine (refBytes_any _ _ _ s.data.toList _ rA (by have := HS.out; omega)).mono ?_ | refine (refBytes_any _ _ _ s.data.toList _ (rb_conv8 s _) (by have := HS.out; omega)).mono ?_ | refine (refBytes_any _ _ _ s.data.toList _ (rb_conv8 s W0.drew) (by have := HS.out; omega)).mono ?_); rintro e w3 ⟨v3, rfl, ho3, hb3⟩; obtain ⟨A3, n3, c3, rfl, -, -, r3⟩ := ho3.got; (first | (have rr := rr.then_ hb3) | (have rr := (rr.al _).drew.then_ hb3)); (try (first | have ho1 := ho1.below hb3 (Nat.le_refl _) | have ho1 := ho1.below (((Below.refl _ _).al _).drew.then_ hb3) (Nat.le_refl _))); obtain ⟨k0, k1⟩ := HK _ rr; have hl0 := Nat.lt_of_lt_of_le b0.lt rr.size))
    all_goals
      go_wp2_with fail
      go_meet
      exact ⟨ho4, rr⟩
  case rest =>
    obtain ⟨ho4, rr⟩ := hcut
    have q1l := HQ1.out
    have B4 := b0.drew.below rr b0.lt
    have zr : W0.heap.size ≤ wc.heap.size := rr.size
    have F4 : Below w.heap.size w wc := (f0.drew).then_ rr
    have k2 : wc.cell? ⟨w.heap.size, 2, none⟩ = some (.slice A n c) := B4.cell 2
    clear k0 k1 hw hcv hal HKh HK HS rr
    go_wp2_with fail
    refine (refBytes_any A n c l _ (rb.below F4) (by omega)).mono ?_
    rintro e w5 ⟨v5, rfl, ho5, hb5⟩
    obtain ⟨A5, n5, c5, rfl, -, -, r5⟩ := ho5.got
    have ho6 := ho4.below hb5 (Nat.le_refl _)
    have F5 := F4.then_ hb5
    have z5 := hb5.size
    have z0 := f0.size
    have z4 := F4.size
    go_wp2_with (at_builtin; refine wpList_app8 _ rfl (.tmp 15) (.tmp 18) rfl W0.heap.size _ (num kn ++ (num s.data.toList.length ++ s.data.toList)) rfl ho6 A5 n5 c5 (num l.length ++ l) rfl r5 (by have h1 := r5.len; have h2 := HL.out; simp only [List.length_append] at h1 q1l ⊢; omega) (by omega) ?_; intro v7 w7 ho7 hb7)
    have F7 : Below w.heap.size w w7 := F5.trans (hb7.mono z0)
    have z7 := hb7.size
    rw [← HB.out] at ho7
    have HQ : Hid (entryB D8 (Me.en ⟨(kn : Int), s, A, n, c, l⟩) = headB (Me.en ⟨(kn : Int), s, A, n, c, l⟩) ++ D8 (headB (Me.en ⟨(kn : Int), s, A, n, c, l⟩))) := rfl
    generalize entryB D8 (Me.en ⟨(kn : Int), s, A, n, c, l⟩) = eb at *
    generalize headB (Me.en ⟨(kn : Int), s, A, n, c, l⟩) = hb at *
    obtain ⟨A7, n7, c7, rfl, -, -, r7⟩ := ho7.got
    clear HB ho4 ho5 ho6 r5 B4 k2 F4 F5 hb5 hb7
    refine (refHashOf_any A7 n7 c7 hb w7 r7 (by have := r7.len; omega)).mono ?_
    rintro e w8 ⟨rfl, hb8⟩
    have ho8 := ho7.below hb8 (Nat.le_refl _)
    have F8 := F7.then_ hb8
    have z8 := hb8.size
    have HOB : Hid (∀ g, Value.ownBlock (.slice A7 n7 c7) = some g → g ≠ w8.heap.size) := fun g hg => by have := (ho8.block g hg).2; omega
    have HD := Lib.hid (B8_D8 hb)
    unfold dv
    go_wp2_with fail
    have G8 : Blk (w8.alloc (.cells #[.int .u8 (hashOf hb 0), .int .u8 (hashOf hb 1), .int .u8 (hashOf hb 2), .int .u8 (hashOf hb 3), .int .u8 (hashOf hb 4), .int .u8 (hashOf hb 5), .int .u8 (hashOf hb 6), .int .u8 (hashOf hb 7)] 82)) w8.heap.size 82 (B8 (D8 hb)).toArray := by
      rw [HD.out]
      exact Blk.new _ _ _
    have F9 := F8.al (.cells #[.int .u8 (hashOf hb 0), .int .u8 (hashOf hb 1), .int .u8 (hashOf hb 2), .int .u8 (hashOf hb 3), .int .u8 (hashOf hb 4), .int .u8 (hashOf hb 5), .int .u8 (hashOf hb 6), .int .u8 (hashOf hb 7)] 82)
    have ho9 := ho8.alloc (.cells #[.int .u8 (hashOf hb 0), .int .u8 (hashOf hb 1), .int .u8 (hashOf hb 2), .int .u8 (hashOf hb 3), .int .u8 (hashOf hb 4), .int .u8 (hashOf hb 5), .int .u8 (hashOf hb 6), .int .u8 (hashOf hb 7)] 82)
    generalize w8.alloc (.cells #[.int .u8 (hashOf hb 0), .int .u8 (hashOf hb 1), .int .u8 (hashOf hb 2), .int .u8 (hashOf hb 3), .int .u8 (hashOf hb 4), .int .u8 (hashOf hb 5), .int .u8 (hashOf hb 6), .int .u8 (hashOf hb 7)] 82) = W9 at *
    have HG8 := Lib.hid G8
    have HO9 := Lib.hid ho9
    have zw0 : w.heap.size ≤ W0.heap.size := z0
    have zg : W0.heap.size ≤ w8.heap.size := by omega
    clear G8 ho8 ho9 hb8 F8 F7 ho7 r7 HD
    go_loopw [3, 5] (fun v i wr => ∃ k : Nat, k ≤ 8 ∧ i = .int .i64 k ∧ Hid (∀ g, v.ownBlock = some g → g ≠ w8.heap.size) ∧ Hid (OB wr W0.heap.size v (hb ++ (D8 hb).take k)) ∧ Hid (Blk wr w8.heap.size 82 (B8 (D8 hb)).toArray) ∧ Below w.heap.size w wr) (fun _ i _ => 8 - (intOf i).toNat)
    case atStart => exact ⟨0, by omega, rfl, HOB, by rw [Hid, List.take_zero, List.append_nil]; exact HO9.out, HG8, F9⟩
    case round =>
      clear HO9 HG8 F9 HOB
      obtain ⟨k, hk, rfl, HV, ho, hg, hbw⟩ := hrel
      by_cases hlt : k < 8
      · have hkl : k < (D8 hb).length := by rw [D8_length]; exact hlt
        have q := hg.out.cell k
        rw [List.getElem?_toArray, B8_at hkl] at q
        have HT := Lib.hid (List.take_succ_eq_append_getElem hkl)
        have hg8 := hg.out.lt
        have hsz := hbw.size
        generalize (D8 hb)[k] = x at *
        have g1 : (0 : Int) ≤ (k : Int) := by omega
        have g2 : (k : Int) < 8 := by omega
        have hl8 : (hb ++ (D8 hb).take k).length ≤ 70008 := by rw [List.length_append, List.length_take, D8_length]; omega
        go_wp2_with (at_builtin; refine wpList_app8g _ rfl (.tmp 26) (.tmp 30) rfl W0.heap.size _ (hb ++ (D8 hb).take k) rfl (ho.out.alloc _) _ 1 1 [x] rfl (RB.one wr rfl _) (by omega) (by simp; omega) ?_; intro v2 w2 ho2 hg2 hv2)
        have hb2 := (ho.out.alloc _).grown hg2 (by simp; omega)
        have HO2 : Hid (OB w2 W0.heap.size v2 (hb ++ (D8 hb).take (k + 1))) := by rw [Hid, HT.out, ← List.append_assoc]; exact ho2
        have HG2 : Hid (Blk w2 w8.heap.size 82 (B8 (D8 hb)).toArray) := (hg.out.alloc _).grown hg2 (fun e => HV.out _ e.symm rfl)
        have HV2 : Hid (∀ g, v2.ownBlock = some g → g ≠ w8.heap.size) := fun g h => by
          rcases hv2 with e | e
          · exact HV.out g (e ▸ h)
          · rw [e] at h
            simp at h
            omega
        clear ho2 hg2 hv2
        go_wp2_with fail
        go_roundw
        case rel => exact ⟨k + 1, by omega, by go_num, HV2, HO2, HG2, (hbw.al _).trans (hb2.mono zw0)⟩
        case measure => simp [intOf]; omega
      · obtain rfl : k = 8 := by omega
        have h8 : (D8 hb).take 8 = D8 hb := List.take_of_length_le (by rw [D8_length]; omega)
        rw [h8, ← HQ.out] at ho
        go_wp2_with fail
        go_ret
        exact ⟨_, rfl, ho.out.mono zw0, hbw⟩
end Go.Proofs.Ytidppcaohkfnfaa
