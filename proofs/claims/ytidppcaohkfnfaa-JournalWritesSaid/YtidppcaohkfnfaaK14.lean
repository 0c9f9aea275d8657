
/-
  Journals: the law's Filled.
-/
import Derived.Test.YtidppcaohkfnfaaK13
namespace Go.Proofs.Ytidppcaohkfnfaa
open Go.RowKit

instance : DecidablePred En.Right := fun e => by unfold En.Right; infer_instance
/-- The entries that may be written down. -/
def fill (ms : List Me) : List En := (ms.map Me.en).filter fun e => decide e.Right
theorem fill_append (a b : List Me) : fill (a ++ b) = fill a ++ fill b := by simp [fill]
theorem fill_one {m : Me} (h : m.en.Right) : fill [m] = [m.en] := by simp [fill, h]
theorem fill_none {m : Me} (h : ¬ m.en.Right) : fill [m] = [] := by simp [fill, h]
theorem fill_len (ms : List Me) : (fill ms).length ≤ ms.length := by
  have := List.length_filter_le (fun e : En => decide e.Right) (ms.map Me.en)
  rw [List.length_map] at this
  exact this
theorem info_E : (Try.prog.info? 31).map (fun i => (i.zero, i.size, i.bytes)) = some (some (.agg #[.int .i64 0, .string ByteArray.empty, .slice none 0 0]), 3, 48) := by kernel_rfl
/-- What Filled gives. -/
def FillGot (w : World) (D : Nat → Prop) (ms : List Me) (e : Ending) (w' : World) : Prop :=
  ∃ S g v ns, e = .returned (.tuple #[.pointer (some ⟨g, 0, none⟩), v, .bool true]) ∧ Jn w' S g (fill ms) ∧ w'.ownsRow w.heap.size 31 3 v ns.length (meCells ns) ∧ ns.map Me.en = fill ms ∧ (∀ m ∈ ns, m.Ok D w') ∧
    (∀ k, S k → w.heap.size ≤ k) ∧ (∀ k, v.ownBlock = some k → ¬ S k) ∧ Below w.heap.size w w'

set_option maxHeartbeats 2000000 in
set_option maxRecDepth 100000 in
theorem filled_any (D : Nat → Prop) (A : Option Addr) (n c : Nat) (ms : List Me) (w : World) (hr : Reads w w.heap.size 3 A n (meCells ms)) (hn : n = ms.length) (hc : n ≤ c) (hok : ∀ m ∈ ms, m.Ok D w) (hm : n ≤ 100) (hD : ∀ k, D k → k < w.heap.size) (hsm : ∀ m ∈ ms, m.n ≤ 65536 ∧ m.key.size ≤ 1000) :
    Calls Try.prog 11 #[.slice A n c] w (FillGot w D ms) := by
  have HR := Lib.hid hr
  have HN := Lib.hid hn
  have HOK := Lib.hid hok
  have HSM := Lib.hid hsm
  have HD := Lib.hid hD
  clear hr hn hok hsm hD
  obtain ⟨i0, hi0, hz0, hz1, hz2⟩ := info_parts info_E
  go_enter Try.func11, Try.ntmps11
  go_wp2_with fail
  refine (new_any w).mono ?_
  intro e w1 hnew
  obtain ⟨S, g, rfl, j1, hS, b1⟩ := Jn.of_new hnew
  have J1 := Lib.hid j1
  have HS := Lib.hid hS
  clear hnew j1 hS
  go_wp2_with fail
  go_loopg [6, 7] n (fun gk v i wr => ∃ (k : Nat) (S : Nat → Prop) (ns : List Me), gk = n - k ∧ k ≤ n ∧ i = .int .i64 k ∧ Hid (Jn wr S g (fill (ms.take k))) ∧ Hid (wr.ownsRow w.heap.size 31 3 v ns.length (meCells ns)) ∧ Hid (ns.map Me.en = fill (ms.take k)) ∧ Hid (∀ m ∈ ns, m.Ok D wr) ∧
    Hid (∀ k, S k → w.heap.size ≤ k) ∧ Hid (∀ k, v.ownBlock = some k → ¬ S k) ∧ Below w.heap.size w wr)
  case atStart => exact ⟨0, S, [], by omega, by omega, rfl, J1, World.ownsRow_nil _ _ _ _, rfl, fun m hm => by simp at hm, HS, fun k hk => by simp [Value.ownBlock] at hk, b1⟩
  case round =>
    clear J1 HS b1 S
    obtain ⟨k, S, ns, hgk, hk, rfl, hj, ho, hns, hnok, hS, hvS, hbw⟩ := hrel
    have HGK := Lib.hid hgk
    clear hgk
    by_cases hlt : k < n
    · have hkl : k < ms.length := by rw [← HN.out]; exact hlt
      have cT := meCells_cut ms k hkl
      obtain ⟨b, o, rfl, hb, hcl⟩ := HR.out.chunk (by omega) hlt cT
      have okm := (HOK.out _ (List.getElem_mem hkl)).below hbw
      have smm := HSM.out _ (List.getElem_mem hkl)
      have HTK : Hid (fill (ms.take (k + 1)) = fill (ms.take k) ++ fill [ms[k]]) := by
        rw [Hid, List.take_succ_eq_append_getElem hkl, fill_append]
      have HEL : Hid ((fill (ms.take k)).length ≤ 100) := by
        have h1 := fill_len (ms.take k)
        rw [List.length_take] at h1
        rw [Hid]
        omega
      generalize fill (ms.take k) = es at *
      generalize ms[k] = m at *
      clear cT
      have q0 : wr.cell? ⟨b, o + k * 3, none⟩ = some (.int .i64 m.kind) := (hbw.cell (p := ⟨b, o + k * 3, none⟩) hb).trans (hcl 0 _ rfl)
      have q1 : wr.cell? ⟨b, o + k * 3 + 1, none⟩ = some (.string m.key) := (hbw.cell (p := ⟨b, o + k * 3 + 1, none⟩) hb).trans (hcl 1 _ rfl)
      have q2 : wr.cell? ⟨b, o + k * 3 + 2, none⟩ = some (.slice m.A m.n m.c) := (hbw.cell (p := ⟨b, o + k * 3 + 2, none⟩) hb).trans (hcl 2 _ rfl)
      have hsz := hbw.size
      have g1 : (0 : Int) ≤ (k : Int) := by omega
      have g2 : (k : Int) < (n : Int) := by omega
      have hb' : b < wr.heap.size := by omega
      have f1 : Below wr.heap.size wr (wr.alloc (.cells #[.int .i64 m.kind, .string m.key, .slice m.A m.n m.c] 31)) := (Below.refl _ wr).al _
      have b1 := Blk.new wr 31 #[.int .i64 m.kind, .string m.key, .slice m.A m.n m.c]
      have J1 := Lib.hid (hj.out.below f1)
      have ok1 := Lib.hid (okm.below f1)
      have hlS := hj.out.lt
      have nS : ¬ S wr.heap.size := fun h => by have := hlS _ h; omega
      have NS := Lib.hid nS
      have hDS : Hid (∀ q, D q → ¬ S q) := fun q hd hs => by
        have h1 := HD.out q hd
        have h2 := hS.out q hs
        omega
      clear hcl okm hlS nS
      go_upto_region 9 with fail
      generalize wr.alloc (.cells #[.int .i64 m.kind, .string m.key, .slice m.A m.n m.c] 31) = W1 at *
      have p0 : W1.cell? ⟨b, o + k * 3, none⟩ = some (.int .i64 m.kind) := (f1.cell (p := ⟨b, o + k * 3, none⟩) hb').trans q0
      have p1 : W1.cell? ⟨b, o + k * 3 + 1, none⟩ = some (.string m.key) := (f1.cell (p := ⟨b, o + k * 3 + 1, none⟩) hb').trans q1
      have p2 : W1.cell? ⟨b, o + k * 3 + 2, none⟩ = some (.slice m.A m.n m.c) := (f1.cell (p := ⟨b, o + k * 3 + 2, none⟩) hb').trans q2
      clear q0 q1 q2
      by_cases hri : m.Right
      · have HRI := Lib.hid hri
        have ADD := Lib.hid (add_yes S D g es m W1 J1.out ok1.out hri (Nat.lt_of_le_of_lt HEL.out (by omega)) hDS.out)
        clear hri
        go_wp2_with fail
        refine ADD.out.mono ?_
        rintro e w2 ⟨v2, S2, B2, rfl, j2, s1, s2, o2, hB2, k2⟩
        obtain ⟨A2, n2, c2, rfl, -, -, r2⟩ := o2.got
        have z1 := f1.size
        have z2 := k2.size
        have bl1 := b1.lt
        have x2 := b1.kept k2 NS.out
        have F2 : Below w.heap.size w w2 := (hbw.trans (f1.mono hbw.size)).trans (k2.to_below (by omega) (fun q hq e => by have := hS.out q e; omega))
        have ho1 := ho.out
        have ho2 : w2.ownsRow w.heap.size 31 3 u6 ns.length (meCells ns) := own_other (own_other ho1 (Kept.of_below (S := fun _ => False) f1) (fun _ _ h => h)) k2 (fun q hq => hvS.out q hq)
        have HO2 := Lib.hid ho2
        have OK2 := Lib.hid (ok1.out.kept k2 hDS.out)
        have NOK2 : Hid (∀ x ∈ ns, x.Ok D w2) := fun x hx => ((hnok.out x hx).below f1).kept k2 hDS.out
        have HV2 : Hid (∀ q, u6.ownBlock = some q → ¬ S2 q) := fun q hq h => by
          have hql := own_blk ho1 q hq
          rcases s1 q h with h | h
          · exact hvS.out q hq h
          · omega
        have HS2 : Hid (∀ q, S2 q → w.heap.size ≤ q) := fun q h => by
          rcases s1 q h with h | h
          · exact hS.out q h
          · omega
        have HJ2 := Lib.hid j2
        have HR2 := Lib.hid r2
        have HF2 := Lib.hid F2
        have HEN : Hid (m.en.Right) := (Me.right_en ok1.out).2 HRI.out
        have HEL2 := Lib.hid (entryB_len HEN.out)
        have y0 : w2.cell? ⟨wr.heap.size, 0, none⟩ = some (.int .i64 m.kind) := x2.cell 0
        have y1 : w2.cell? ⟨wr.heap.size, 1, none⟩ = some (.string m.key) := x2.cell 1
        have y2 : w2.cell? ⟨wr.heap.size, 2, none⟩ = some (.slice m.A m.n m.c) := x2.cell 2
        have HX2 := Lib.hid x2
        clear ADD p0 p1 p2 s1 s2 o2 k2 x2 ho1 ho2 j2 r2 F2 ho hj hnok hS hvS
        go_wp2_with fail
        refine (right_yes m w2 HRI.out).mono ?_
        rintro e w3 ⟨rfl, b3⟩
        have x3 := HX2.out.below b3 HX2.out.lt
        have y0 : w3.cell? ⟨wr.heap.size, 0, none⟩ = some (.int .i64 m.kind) := x3.cell 0
        have y1 : w3.cell? ⟨wr.heap.size, 1, none⟩ = some (.string m.key) := x3.cell 1
        have y2 : w3.cell? ⟨wr.heap.size, 2, none⟩ = some (.slice m.A m.n m.c) := x3.cell 2
        have HX3 := Lib.hid x3
        clear x3
        go_wp2_with fail
        refine (refEBytes_any D m w3 (OK2.out.below b3) smm.1 HRI.out.1 smm.2).mono ?_
        rintro e w4 ⟨v4, rfl, o4, b4⟩
        obtain ⟨A4, n4, c4, rfl, -, -, r4⟩ := o4.got
        have f4 := b3.then_ b4
        have hn2 : n2 ≤ 140737488355328 := by have := HR2.out.len; have := HEL2.out; omega
        have HR4 := Lib.hid r4
        have x4 := HX3.out.below b4 HX3.out.lt
        have HX4 := Lib.hid x4
        clear r4 o4 b4 x4 y0 y1 y2
        go_wp2_with fail
        refine (same_true A2 A4 n2 c2 n4 c4 _ _ w4 (HR2.out.below f4) HR4.out hn2 rfl).mono ?_
        rintro e w5 ⟨rfl, b5⟩
        have f5 := f4.then_ b5
        have x5 := HX4.out.below b5 HX4.out.lt
        have y0 : w5.cell? ⟨wr.heap.size, 0, none⟩ = some (.int .i64 m.kind) := x5.cell 0
        have y1 : w5.cell? ⟨wr.heap.size, 1, none⟩ = some (.string m.key) := x5.cell 1
        have y2 : w5.cell? ⟨wr.heap.size, 2, none⟩ = some (.slice m.A m.n m.c) := x5.cell 2
        have RD := Lib.hid (new_entry w5 31 m)
        have ONE := Lib.hid m.one
        have o6 := Lib.hid (World.ownsRow.alloc (w := w5) (own_other HO2.out (Kept.of_below (S := fun _ => False) f5) (fun _ _ h => h)) (.cells m.cells.toArray 31))
        have hnl : ns.length ≤ 100 := by
          have h1 := congrArg List.length hns.out
          rw [List.length_map] at h1
          have h2 := HEL.out
          omega
        unfold Me.cells at RD ONE o6
        have z5 := f5.size
        clear x5 b3 f4
        go_wp2_with (at_builtin; refine wpList_append_any _ rfl (.tmp 52) (.tmp 54) 24 rfl w.heap.size 31 i0 _ 3 48 Try.underlying24 hi0 hz0 hz1 hz2 rfl (by omega) _ ns.length _ rfl o6.out _ _ 1 1 [.int .i64 m.kind, .string m.key, .slice m.A m.n m.c] rfl RD.out ONE.out (by unfold maxLen; omega) (by omega) (by simp; omega) ?_; intro v8 w8 o8 g8 at8)
        have hal : Below wr.heap.size w5 (w5.alloc (.cells #[.int .i64 m.kind, .string m.key, .slice m.A m.n m.c] 31)) := (Below.refl _ w5).alloc (by omega) _
        have K8 : Kept (fun z => u6.ownBlock = some z) w5 w8 := (Kept.of_below (S := fun z => u6.ownBlock = some z) ((Below.refl _ w5).al (.cells #[.int .i64 m.kind, .string m.key, .slice m.A m.n m.c] 31))).then_ (Kept.of_grown (S := fun z => u6.ownBlock = some z) g8 (fun q e => e)) (fun _ _ h => h)
        have hub := own_base o6.out
        have hb8 : Below w.heap.size w w8 := ((HF2.out.then_ f5)).trans (K8.to_below (by omega) (fun q hq e => by have := hub q e; omega))
        have HJ8 : Hid (Jn w8 S2 g (es ++ [m.en])) := (HJ2.out.below f5).kept K8 (fun q hq e => HV2.out q e hq)
        have HES : Hid (fill (ms.take (k + 1)) = es ++ [m.en]) := by rw [Hid, HTK.out, fill_one HEN.out]
        have HO8 : Hid (w8.ownsRow w.heap.size 31 3 v8 (ns ++ [m]).length (meCells (ns ++ [m]))) := by
          have e2 : meCells [m] = [.int .i64 m.kind, .string m.key, .slice m.A m.n m.c] := by simp [meCells, Me.cells]
          rw [Hid, List.length_append, meCells_append, e2]
          exact o8
        have HNS8 : Hid ((ns ++ [m]).map Me.en = fill (ms.take (k + 1))) := by rw [Hid, HES.out, List.map_append, hns.out]; rfl
        have HDK : ∀ q, D q → ¬ u6.ownBlock = some q := fun q hd e => by
          have h1 := HD.out q hd
          have h2 := hub q e
          omega
        have HNO8 : Hid (∀ x ∈ ns ++ [m], x.Ok D w8) := fun x hx => by
          rcases List.mem_append.1 hx with hx | hx
          · exact ((NOK2.out x hx).below f5).kept K8 HDK
          · obtain rfl := List.mem_singleton.1 hx
            exact (OK2.out.below f5).kept K8 HDK
        have HV8 : Hid (∀ q, v8.ownBlock = some q → ¬ S2 q) := fun q hq h => by
          rcases at8 with e | e
          · exact HV2.out q (e ▸ hq) h
          · rw [e] at hq
            injection hq with hq
            have h1 := HJ2.out.lt q h
            have h2 : w5.heap.size + 1 = q := by simpa using hq
            omega
        have HJ9 : Hid (Jn w8 S2 g (fill (ms.take (k + 1)))) := by rw [Hid, HES.out]; exact HJ8.out
        clear o8 g8 at8 K8 hal RD ONE o6 y0 y1 y2 hub HDK
        go_wp2_with fail
        go_roundg (n - (k + 1))
        case measure => have := HGK.out; omega
        case rel => exact ⟨k + 1, S2, ns ++ [m], rfl, by omega, by go_num, HJ9, HO8, HNS8, HNO8, HS2, HV8, hb8⟩
      · have HRI := Lib.hid hri
        have ADD := Lib.hid (add_no g m W1 hri)
        clear hri
        go_wp2_with fail
        refine ADD.out.mono ?_
        rintro e w2 ⟨rfl, b2⟩
        have bl1 := b1.lt
        have x2 := b1.below b2 bl1
        have y0 : w2.cell? ⟨wr.heap.size, 0, none⟩ = some (.int .i64 m.kind) := x2.cell 0
        have y1 : w2.cell? ⟨wr.heap.size, 1, none⟩ = some (.string m.key) := x2.cell 1
        have y2 : w2.cell? ⟨wr.heap.size, 2, none⟩ = some (.slice m.A m.n m.c) := x2.cell 2
        clear x2 p0 p1 p2 ADD
        go_wp2_with fail
        refine (right_no m w2 HRI.out).mono ?_
        rintro e w3 ⟨rfl, b3⟩
        have f3 := (f1.then_ b2).then_ b3
        have HES : Hid (fill (ms.take (k + 1)) = es) := by rw [Hid, HTK.out, fill_none (fun h => HRI.out ((Me.right_en ok1.out).1 h)), List.append_nil]
        have HJ3 : Hid (Jn w3 S g (fill (ms.take (k + 1)))) := by rw [Hid, HES.out]; exact hj.out.below f3
        have HO3 := Lib.hid (own_other ho.out (Kept.of_below (S := fun _ => False) f3) (fun _ _ h => h))
        have HN3 : Hid (ns.map Me.en = fill (ms.take (k + 1))) := by rw [Hid, HES.out]; exact hns.out
        have HNO3 : Hid (∀ x ∈ ns, x.Ok D w3) := fun x hx => (hnok.out x hx).below f3
        have hb3 := hbw.then_ f3
        clear ho hj y0 y1 y2
        go_wp2_with fail
        go_roundg (n - (k + 1))
        case measure => have := HGK.out; omega
        case rel => exact ⟨k + 1, S, ns, rfl, by omega, by go_num, HJ3, HO3, HN3, HNO3, hS, hvS, hb3⟩
    · obtain rfl : k = n := by omega
      have HT : Hid (ms.take k = ms) := List.take_of_length_le (by rw [← HN.out]; exact Nat.le_refl _)
      have hj' := hj.out
      have hn' := hns.out
      rw [HT.out] at hj' hn'
      have HJ := Lib.hid hj'
      have HNS := Lib.hid hn'
      have ho' := ho
      clear hj' hn' hj hns HT
      go_wp2_with fail
      refine bodyPost_ret (v := .tuple #[.pointer (some ⟨g, 0, none⟩), u6, .bool true]) (by simp [results, Try.results11, go_sem]) rfl ⟨S, g, u6, ns, rfl, HJ.out, ho'.out, HNS.out, hnok.out, hS.out, hvS.out, hbw⟩
end Go.Proofs.Ytidppcaohkfnfaa
