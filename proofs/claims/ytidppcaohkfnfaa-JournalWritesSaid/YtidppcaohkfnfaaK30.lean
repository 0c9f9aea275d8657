
/-
  Journals: Keys.
-/
import Derived.Test.YtidppcaohkfnfaaK29
import Derived.Test.YtidppcaohkfnfaaL4
namespace Go.Proofs.Ytidppcaohkfnfaa
open Go.RowKit

def tlB (s : ByteArray) : List UInt8 := s.data.toList
theorem inL_tl {l : List ByteArray} {s : ByteArray} : s ∈ l ↔ tlB s ∈ l.map tlB := by
  rw [List.mem_map]
  constructor
  · intro h; exact ⟨s, h, rfl⟩
  · rintro ⟨a, ha, he⟩
    have : a = s := str_eq_iff.1 he
    rwa [← this]
theorem keysE_congr (k : Int) : ∀ (l : List En) (s t : List (List UInt8)), (∀ x, x ∈ s ↔ x ∈ t) → keysE k s l = keysE k t l
  | [], _, _, _ => rfl
  | e :: r, s, t, h => by
    simp only [keysE]
    by_cases hc : e.kind = k ∧ ¬ e.key ∈ s
    · rw [if_pos hc, if_pos ⟨hc.1, by rw [← h]; exact hc.2⟩, keysE_congr k r (e.key :: s) (e.key :: t) (fun x => by rw [List.mem_cons, List.mem_cons, h])]
    · rw [if_neg hc, if_neg (by rw [← h]; exact hc), keysE_congr k r s t h]
theorem keysE_step {k : Int} {es : List En} {ms : List Me} (h : ms.map Me.en = es) {i : Nat} (hi : i < ms.length) (ks : List ByteArray) :
    ks.map tlB ++ keysE k (ks.map tlB) (es.drop i) = if (ms[i]'hi).kind = k ∧ ¬ tlB (ms[i]'hi).key ∈ ks.map tlB then (ks ++ [(ms[i]'hi).key]).map tlB ++ keysE k ((ks ++ [(ms[i]'hi).key]).map tlB) (es.drop (i + 1)) else ks.map tlB ++ keysE k (ks.map tlB) (es.drop (i + 1)) := by
  have hk2 : i < es.length := by rw [← h, List.length_map]; exact hi
  have e1 : es.drop i = es[i] :: es.drop (i + 1) := List.drop_eq_getElem_cons hk2
  have e2 : es[i] = (ms[i]'hi).en := by subst h; simp
  rw [e1, e2]
  generalize ms[i] = m
  simp only [keysE]
  have e3 : m.en.key = tlB m.key := rfl
  have e4 : m.en.kind = m.kind := rfl
  rw [e3, e4]
  by_cases hc : m.kind = k ∧ ¬ tlB m.key ∈ ks.map tlB
  · rw [if_pos hc, if_pos hc, List.map_append, List.append_assoc]
    congr 1
    show tlB m.key :: _ = tlB m.key :: _
    congr 1
    exact keysE_congr k _ _ _ (fun x => by simp [or_comm])
  · rw [if_neg hc, if_neg hc]
theorem keysE_le (k : Int) : ∀ (l : List En) (s : List (List UInt8)), (keysE k s l).length ≤ l.length
  | [], _ => by simp [keysE]
  | e :: r, s => by
    have h1 := keysE_le k r s
    have h2 := keysE_le k r (e.key :: s)
    simp only [keysE]
    split <;> simp only [List.length_cons] <;> omega
theorem info_string : (Try.prog.info? 9).map (fun i => (i.zero, i.size, i.bytes)) = some (some (.string ByteArray.empty), 1, 16) := by kernel_rfl
theorem run_makeMap_sb (w : World) : (Instr.makeMap 84 none).run Try.prog w = .ok (.map (some w.heap.size)) (w.alloc (.map #[] 0)) := rfl
theorem str_one : ∀ s : ByteArray, ∀ u ∈ [Value.string s], u.oneCell' = true := by
  intro s u hu
  obtain rfl := List.mem_singleton.1 hu
  rfl
theorem new_string (W : World) (s : ByteArray) (e : TypeId) : Reads (W.alloc (.cells #[.string s] e)) (W.heap.size + 1) 1 (some ⟨W.heap.size, 0, none⟩) 1 [.string s] := by
  refine ⟨by simp, fun _ => ⟨_, rfl, by simp, fun j u hu => ?_⟩⟩
  rw [Addr.add_lit, Nat.zero_add, (Blk.new W e #[.string s]).cell j]
  simpa using hu
/-- What Keys gives. -/
def KeysGot (w : World) (k : Int) (es : List En) (e : Ending) (w' : World) : Prop :=
  ∃ (v : Value) (ks : List ByteArray), e = .returned v ∧ w'.ownsRow w.heap.size 9 1 v ks.length (ks.map Value.string) ∧ ks.map tlB = keysE k [] es ∧ Below w.heap.size w w'

set_option maxHeartbeats 2000000 in
set_option maxRecDepth 100000 in
theorem jkeys_any (S : Nat → Prop) (g : Nat) (es : List En) (kd : Int) (w : World) (h : Jn w S g es) (hn : es.length ≤ 70000) :
    Calls Try.prog 29 #[.pointer (some ⟨g, 0, none⟩), .int .i64 kd] w (KeysGot w kd es) := by
  obtain ⟨r, v, ms, hj, hes⟩ := h
  obtain ⟨A, c, rfl⟩ := hj.slice
  obtain ⟨n, hln⟩ : ∃ n, ms.length = n := ⟨_, rfl⟩
  have hln2 : es.length = n := by rw [← hes, List.length_map, hln]
  rw [hln2] at hn
  have gl := hj.blk.lt
  have hmk := fun W => run_makeMap_sb W
  obtain ⟨-, hc, hm, hrd⟩ := hj.reads
  have h0 : (w.alloc (.map #[] 0)).cell? ⟨g, 0, none⟩ = some (.slice A ms.length c) := (hj.below ((Below.refl _ w).al (.map #[] 0))).blk.cell 0
  rw [hln] at h0 hc hrd
  have HJ := Lib.hid hj
  have HR := Lib.hid hrd
  have HN := Lib.hid hln
  have HN2 := Lib.hid hln2
  have HES := Lib.hid hes
  unfold maxLen at hm
  clear hj hrd hln hln2 hes
  obtain ⟨i0, hi0, hz0, hz1, hz2⟩ := info_parts info_string
  have hzb : ∀ W, (zeroValue 4).run Try.prog W = .ok (.bool false) W := fun W => by kernel_rfl
  go_enter Try.func29, Try.ntmps29
  go_wp2_with fail
  clear hmk
  go_loopg [5, 17] n (fun gk v i wr => ∃ (k : Nat) (ks : List ByteArray), gk = n - k ∧ k ≤ n ∧ i = .int .i64 k ∧ Hid (SetIs wr w.heap.size ks) ∧ Hid (wr.ownsRow w.heap.size 9 1 v ks.length (ks.map Value.string)) ∧ Hid (∀ q, v.ownBlock = some q → q ≠ w.heap.size) ∧
    Hid (ks.map tlB ++ keysE kd (ks.map tlB) (es.drop k) = keysE kd [] es) ∧ Hid (ks.length ≤ k) ∧ Hid (Below w.heap.size w wr))
  case atStart => exact ⟨0, [], by omega, by omega, rfl, SetIs.new w, World.ownsRow_nil _ _ _ _, fun q hq => by simp [Value.ownBlock] at hq, rfl, Nat.le_refl _, (Below.refl _ w).al _⟩
  case round =>
    clear h0
    obtain ⟨k, ks, hgk, hk, rfl, hst, ho, hvr, hks, hkl, hB⟩ := hrel
    have HGK := Lib.hid hgk
    clear hgk
    by_cases hlt : k < n
    · have hkm : k < ms.length := by rw [HN.out]; exact hlt
      have cT := meCells_cut ms k hkm
      obtain ⟨b, o, rfl, hb, hcl⟩ := HR.out.chunk (by omega) hlt cT
      have HST := keysE_step (k := kd) HES.out hkm ks
      generalize ms[k] = m at *
      have q0 : wr.cell? ⟨b, o + k * 3, none⟩ = some (.int .i64 m.kind) := (hB.out.cell (p := ⟨b, o + k * 3, none⟩) hb).trans (hcl 0 _ rfl)
      have q1 : wr.cell? ⟨b, o + k * 3 + 1, none⟩ = some (.string m.key) := (hB.out.cell (p := ⟨b, o + k * 3 + 1, none⟩) hb).trans (hcl 1 _ rfl)
      have q2 : wr.cell? ⟨b, o + k * 3 + 2, none⟩ = some (.slice m.A m.n m.c) := (hB.out.cell (p := ⟨b, o + k * 3 + 2, none⟩) hb).trans (hcl 2 _ rfl)
      have g1 : (0 : Int) ≤ (k : Int) := by omega
      have g2 : (k : Int) < (n : Int) := by omega
      have f1 : Below wr.heap.size wr (wr.alloc (.cells #[.int .i64 m.kind, .string m.key, .slice m.A m.n m.c] 45)) := (Below.refl _ wr).al _
      have b1 := Blk.new wr 45 #[.int .i64 m.kind, .string m.key, .slice m.A m.n m.c]
      have S1 := Lib.hid (hst.out.below f1)
      have O1 := Lib.hid (own_other ho.out (Kept.of_below (S := fun _ => False) f1) (fun _ _ h => h))
      have FB := Lib.hid (hB.out.then_ f1)
      have hsz := f1.size
      have hbz := hB.out.size
      have hrl := hst.out.lt
      rw [hks.out] at HST
      clear hcl cT hst ho hks hB f1
      go_upto_region 8 with fail
      generalize wr.alloc (.cells #[.int .i64 m.kind, .string m.key, .slice m.A m.n m.c] 45) = W1 at *
      have p0 : W1.cell? ⟨wr.heap.size, 0, none⟩ = some (.int .i64 m.kind) := b1.cell 0
      have p1 : W1.cell? ⟨wr.heap.size, 1, none⟩ = some (.string m.key) := b1.cell 1
      have p2 : W1.cell? ⟨wr.heap.size, 2, none⟩ = some (.slice m.A m.n m.c) := b1.cell 2
      have hb1 := b1.lt
      clear q0 q1 q2
      by_cases hkd : m.kind = kd
      · have hlk := S1.out.lookup Try.underlying84 Try.underlying9 (hzb W1) m.key
        have g3 : (m.kind == kd) = true := by simp [hkd]
        by_cases hin : m.key ∈ ks
        · rw [inL_iff.2 hin] at hlk
          rw [if_neg (fun h => h.2 (inL_tl.1 hin))] at HST
          have HS2 := Lib.hid HST.symm
          have hkd' := Lib.hid hkd
          clear hkd HST
          go_wp2_with fail
          go_roundg (n - (k + 1))
          case measure => have := HGK.out; omega
          case rel => exact ⟨k + 1, ks, rfl, by omega, by go_num, S1, O1, hvr, HS2, Nat.le_succ_of_le hkl.out, FB⟩
        · rw [inL_not.2 hin] at hlk
          rw [if_pos ⟨hkd, fun h => hin (inL_tl.2 h)⟩] at HST
          have HS2 := Lib.hid HST.symm
          have hkd' := Lib.hid hkd
          clear hkd HST
          have HIN : Hid (m.key ∉ ks) := hin
          clear hin
          go_upto_region 9 with fail
          clear hlk
          go_upto_region 10 with ((with_reducible show wpList _ _ _ (⟨none, Op.mapUpdate _ (.tmp 32) (.tmp 34) _, _, _, _, _⟩ :: _) _ _); refine wpList_set_add (by rfl) (.tmp 32) (.tmp 34) _ w.heap.size ks m.key rfl rfl Try.underlying84 Try.underlying9 S1.out rfl rfl rfl HIN.out ?_; intro w2 s2 k2)
          have b2 := b1.kept k2 (by omega)
          have p1 : w2.cell? ⟨wr.heap.size, 1, none⟩ = some (.string m.key) := b2.cell 1
          have hb2 := b2.lt
          have S2 := Lib.hid s2
          have O2 := Lib.hid (own_other O1.out k2 (fun q hq e => hvr.out q hq e))
          have F2 : Hid (Below w.heap.size w w2) := FB.out.trans (k2.to_below FB.out.size (fun q hq e => by omega))
          have o6 := Lib.hid (World.ownsRow.alloc (w := w2) O2.out (.cells #[.string m.key] 9))
          have RD := Lib.hid (new_string w2 m.key 9)
          have ONE := Lib.hid (str_one m.key)
          have hkl' := hkl.out
          have z2 := k2.size
          clear s2 k2 b1 b2 p0 p2
          go_wp2_with (at_builtin; refine wpList_append_any _ rfl (.tmp 35) (.tmp 38) 57 rfl w.heap.size 9 i0 _ 1 16 Try.underlying57 hi0 hz0 hz1 hz2 rfl (by omega) _ ks.length _ rfl o6.out _ _ 1 1 [.string m.key] rfl RD.out ONE.out (by unfold maxLen; omega) (by omega) (by simp; omega) ?_; intro v8 w8 o8 g8 at8)
          have K8 : Kept (fun z => Value.ownBlock u5 = some z) w2 w8 := (Kept.of_below (S := fun z => Value.ownBlock u5 = some z) ((Below.refl _ w2).al (.cells #[.string m.key] 9))).then_ (Kept.of_grown (S := fun z => Value.ownBlock u5 = some z) g8 (fun q e => e)) (fun _ _ h => h)
          have hub := own_base o6.out
          have S8 : Hid (SetIs w8 w.heap.size (ks ++ [m.key])) := S2.out.kept K8 (fun e => hvr.out _ e rfl)
          have O8 : Hid (w8.ownsRow w.heap.size 9 1 v8 (ks ++ [m.key]).length ((ks ++ [m.key]).map Value.string)) := by
            rw [Hid, List.length_append, List.map_append]
            exact o8
          have V8 : Hid (∀ q, v8.ownBlock = some q → q ≠ w.heap.size) := fun q hq e => by
            rcases at8 with h | h
            · exact hvr.out q (h ▸ hq) e
            · rw [h] at hq
              injection hq with hq
              have h2 : w2.heap.size + 1 = q := by simpa using hq
              omega
          have F8 : Hid (Below w.heap.size w w8) := F2.out.trans (K8.to_below (by omega) (fun q hq e => by have := hub q e; omega))
          have L8 : Hid ((ks ++ [m.key]).length ≤ k + 1) := by rw [Hid, List.length_append, List.length_singleton]; omega
          clear o8 g8 at8 K8 RD ONE o6 hub p1
          go_wp2_with fail
          go_roundg (n - (k + 1))
          case measure => have := HGK.out; omega
          case rel => exact ⟨k + 1, ks ++ [m.key], rfl, by omega, by go_num, S8, O8, V8, HS2, L8, F8⟩
      · rw [if_neg (fun h => hkd h.1)] at HST
        have HS2 := Lib.hid HST.symm
        have g3 : (m.kind == kd) = false := by simp [hkd]
        clear HST
        go_wp2_with fail
        go_roundg (n - (k + 1))
        case measure => have := HGK.out; omega
        case rel => exact ⟨k + 1, ks, rfl, by omega, by go_num, S1, O1, hvr, HS2, Nat.le_succ_of_le hkl.out, FB⟩
    · obtain rfl : k = n := by omega
      have h3 := hks.out
      rw [List.drop_of_length_le (by rw [HN2.out]; exact Nat.le_refl _)] at h3
      have h4 : Hid (ks.map tlB = keysE kd [] es) := by rw [Hid, ← h3]; exact (List.append_nil _).symm
      clear h3 hks
      go_wp2_with fail
      go_ret
      exact ⟨_, ks, rfl, ho.out, h4.out, hB.out⟩
end Go.Proofs.Ytidppcaohkfnfaa
