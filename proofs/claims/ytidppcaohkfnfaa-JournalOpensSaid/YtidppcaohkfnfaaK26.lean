
/-
  The document's Open: the whole entries.
-/
import Derived.Test.YtidppcaohkfnfaaK25
import Derived.Deep.LoopGhost
namespace Go.Proofs.Ytidppcaohkfnfaa
open Go.RowKit

/-- What the document's Open gives. -/
def ROpenGot (w : World) (b : List UInt8) (e : Ending) (w' : World) : Prop :=
  ∃ v ns r, e = .returned (.tuple #[v, .int .i64 ((allB D8 (ns.map Me.en)).length : Int)]) ∧ w'.ownsRow w.heap.size 31 3 v ns.length (meCells ns) ∧ (∀ m ∈ ns, m.Ok (fun k => w.heap.size ≤ k) w' ∧ m.Right) ∧ Opens b (ns.map Me.en) r ∧ Below w.heap.size w w'

set_option maxHeartbeats 4000000 in
set_option maxRecDepth 100000 in
theorem refOpen_any (A : Option Addr) (n c : Nat) (b : List UInt8) (w : World) (ha : RB w A n b) (hc : n ≤ c) (hcm : c ≤ 9223372036854775807) (hn : n ≤ 60000) :
    Calls Try.prog 19 #[.slice A n c] w (ROpenGot w b) := by
  have HA := Lib.hid ha
  have HL := Lib.hid ha.len
  clear ha
  obtain ⟨i0, hi0, hz0, hz1, hz2⟩ := info_parts info_E
  go_enter Try.func19, Try.ntmps19
  go_wp2_with fail
  go_loopg [4, 5] (b.length + 1) (fun gk v pv wr => ∃ (ns : List Me) (D : Nat → Prop) (p : Nat), gk = b.length + 1 - p ∧ p ≤ b.length ∧ pv = .int .i64 p ∧ Hid (ns.length ≤ p) ∧ Hid (b = allB D8 (ns.map Me.en) ++ b.drop p ∧ p = (allB D8 (ns.map Me.en)).length) ∧ Hid (wr.ownsRow w.heap.size 31 3 v ns.length (meCells ns)) ∧
    Hid (∀ m ∈ ns, m.Ok D wr ∧ m.Right) ∧ Hid (∀ k, D k → w.heap.size ≤ k ∧ k < wr.heap.size) ∧ Hid (∀ k, v.ownBlock = some k → ¬ D k) ∧ Hid (Below w.heap.size w wr))
  case atStart => exact ⟨[], fun _ => False, 0, by omega, Nat.zero_le _, rfl, Nat.le_refl _, ⟨by simp [allB], rfl⟩, World.ownsRow_nil _ _ _ _, fun m hm => by simp at hm, fun k hk => hk.elim, fun k _ hk => hk, Below.refl _ _⟩
  case round =>
    obtain ⟨ns, D, p, hgk, hp, rfl, hel, hb, ho, hok, hD, hvD, hB⟩ := hrel
    have HGK := Lib.hid hgk
    clear hgk
    have hbase := Lib.hid (own_base ho.out)
    have hvD' := Lib.hid hvD.out
    clear hvD
    obtain ⟨A1, c1, rfl, hn1, hc1, r1⟩ := own_form ho.out
    have hp' := hp
    rw [← HL.out] at hp
    obtain ⟨nl, hnl⟩ : ∃ q, ns.length = q := ⟨_, rfl⟩
    have HNL := Lib.hid hnl
    have g0 : (nl : Int) < 65536 := by have := hel.out; omega
    have g1 : (0 : Int) ≤ (p : Int) := by omega
    have g2 : (p : Int) ≤ (n : Int) := by omega
    have g3 : (n : Int) ≤ (c : Int) := by omega
    rw [hnl] at ho hn1 hvD' hbase ⊢
    have rb := (HA.out.below hB.out).cut (k := p) (cap := c) hp hc
    have FI : Hid (∀ A' n' c', RB wr A' n' (b.drop p) → n' ≤ c' → c' ≤ 9223372036854775807 → n' ≤ 100000 → Calls Try.prog 41 #[.slice A' n' c'] wr (FirstGot wr (b.drop p))) := fun A' n' c' h1 h2 h3 h4 => refFirst_any A' n' c' _ wr h1 h2 h3 h4
    clear hnl r1
    have hle := hel.out
    have hnb : Hid (n = b.length) := HL.out
    rcases Nat.eq_or_lt_of_le (show p ≤ c by omega) with hcp | hcp
    · have hpn : n = p := by omega
      rw [if_pos hcp.symm, hpn, Nat.sub_self] at rb
      have RB0 := Lib.hid rb
      clear rb HA
      obtain rfl : p = c := hcp
      obtain rfl : p = n := hpn.symm
      clear hpn
      go_wp2_with fail
      refine (FI.out _ _ _ RB0.out (Nat.le_refl _) (by omega) (by omega)).mono ?_
      rintro e w2 ⟨b2, hfg⟩
      have z2 := b2.size
      have hBz := hB.out.size
      have B2 := Lib.hid (hB.out.then_ b2)
      have HO2 := Lib.hid (own_other ho.out (Kept.of_below (S := fun _ => False) b2) (fun _ _ h => h))
      have HK2 : Hid (∀ m ∈ ns, m.Ok D w2 ∧ m.Right) := fun m hm => ⟨(hok.out m hm).1.below b2, (hok.out m hm).2⟩
      have hub := Lib.hid (own_blk ho.out)
      clear ho hok hB b2 RB0 FI
      rcases hfg with ⟨m, rfl, hbg, ok2, rim⟩ | ⟨rfl, hno⟩
      · obtain ⟨L, hL⟩ : ∃ L, (entryB D8 m.en).length = L := ⟨_, rfl⟩
        have hLp : 1 ≤ L := by
          have := entryB_pos (D := D8) m.en
          rcases Nat.eq_zero_or_pos L with h | h
          · exact absurd (List.eq_nil_of_length_eq_zero (hL.trans h)) this
          · exact h
        have hb3 : b = allB D8 ((ns ++ [m]).map Me.en) ++ b.drop (p + L) ∧ p + L = (allB D8 ((ns ++ [m]).map Me.en)).length ∧ p + L ≤ b.length := by
          obtain ⟨h1, h2⟩ := hb.out
          obtain ⟨hxr, r', hb'⟩ := hbg
          have e1 : b.drop (p + L) = r' := by rw [← List.drop_drop, hb', ← hL, List.drop_left]
          rw [List.map_append, List.map_singleton]
          refine ⟨?_, ?_, ?_⟩
          · rw [e1, allB_append, allB_one, List.append_assoc, ← hb']
            exact h1
          · rw [allB_append, allB_one, List.length_append, hL, ← h2]
          · have := congrArg List.length hb'
            rw [List.length_drop, List.length_append, hL] at this
            omega
        have hLn : p + L ≤ b.length := hb3.2.2
        have hLb : p + L ≤ 60000 := by have := HL.out; omega
        have HB3 := Lib.hid hb3
        have OK2 := Lib.hid ok2
        have RIM := Lib.hid rim
        rw [hL]
        have f3 : Below w2.heap.size w2 (w2.alloc (.cells #[.int .i64 m.kind, .string m.key, .slice m.A m.n m.c] 31)) := (Below.refl _ w2).al _
        have x3 := Blk.new w2 31 #[.int .i64 m.kind, .string m.key, .slice m.A m.n m.c]
        have z3 : (w2.alloc (.cells #[.int .i64 m.kind, .string m.key, .slice m.A m.n m.c] 31)).heap.size = w2.heap.size + 1 := by simp
        have g4 : ((L : Int) == 0) = false := by simp; omega
        have g5 : ¬ L = 0 := by omega
        unfold Me.val
        clear hL hbg hb3 ok2 rim hb
        go_upto_region 5 with fail
        generalize w2.alloc (.cells #[.int .i64 m.kind, .string m.key, .slice m.A m.n m.c] 31) = W3 at *
        have Z3 : Hid (W3.heap.size = w2.heap.size + 1) := z3
        have z3' : w2.heap.size ≤ W3.heap.size := by omega
        clear z3
        have y0 : W3.cell? ⟨w2.heap.size, 0, none⟩ = some (.int .i64 m.kind) := x3.cell 0
        have y1 : W3.cell? ⟨w2.heap.size, 1, none⟩ = some (.string m.key) := x3.cell 1
        have y2 : W3.cell? ⟨w2.heap.size, 2, none⟩ = some (.slice m.A m.n m.c) := x3.cell 2
        have RD := Lib.hid (new_entry W3 31 m)
        have ONE := Lib.hid m.one
        have o6 := Lib.hid (World.ownsRow.alloc (w := W3) (own_other HO2.out (Kept.of_below (S := fun _ => False) f3) (fun _ _ h => h)) (.cells m.cells.toArray 31))
        unfold Me.cells at RD ONE o6
        go_upto_if 19 with fail
        go_upto_region 6 with fail
        go_wp2_with (at_builtin; refine wpList_append_any _ rfl (.tmp 20) (.tmp 22) 24 rfl w.heap.size 31 i0 _ 3 48 Try.underlying24 hi0 hz0 hz1 hz2 rfl (by omega) _ nl _ rfl o6.out _ _ 1 1 [.int .i64 m.kind, .string m.key, .slice m.A m.n m.c] rfl RD.out ONE.out (by unfold maxLen; omega) (by omega) (by simp; omega) ?_; intro v8 w8 o8 g8 at8)
        have K8 : Kept (fun z => Value.ownBlock (.slice A1 nl c1) = some z) W3 w8 := (Kept.of_below (S := fun z => Value.ownBlock (.slice A1 nl c1) = some z) ((Below.refl _ W3).al (.cells #[.int .i64 m.kind, .string m.key, .slice m.A m.n m.c] 31))).then_ (Kept.of_grown (S := fun z => Value.ownBlock (.slice A1 nl c1) = some z) g8 (fun q e => e)) (fun _ _ h => h)
        have HO8 : Hid (w8.ownsRow w.heap.size 31 3 v8 (ns ++ [m]).length (meCells (ns ++ [m]))) := by
          have e2 : meCells [m] = [.int .i64 m.kind, .string m.key, .slice m.A m.n m.c] := by simp [meCells, Me.cells]
          rw [Hid, List.length_append, HNL.out, meCells_append, e2]
          exact o8
        have HK8 : Hid (∀ x ∈ ns ++ [m], x.Ok (fun k => D k ∨ (wr.heap.size ≤ k ∧ k < w2.heap.size)) w8 ∧ x.Right) := fun x hx => by
          rcases List.mem_append.1 hx with hx | hx
          · obtain ⟨h1, h2⟩ := HK2.out x hx
            exact ⟨((h1.below f3).kept K8 (fun q hq e => hvD'.out q e hq)).mono (fun k _ hk => .inl hk), h2⟩
          · obtain rfl := List.mem_singleton.1 hx
            have h1 := OK2.out.mono (E := fun k => wr.heap.size ≤ k ∧ k < w2.heap.size) (fun k h1 h2 => ⟨h2, h1⟩)
            exact ⟨((h1.below f3).kept K8 (fun q hq e => by have := hub.out q e; omega)).mono (fun k _ hk => .inr hk), RIM.out⟩
        have hB8 : Below w.heap.size w w8 := (B2.out.then_ f3).trans (K8.to_below (by omega) (fun q hq e => by have := hbase.out q e; omega))
        have HB8 := Lib.hid hB8
        have z8 := K8.size
        have HD8 : Hid (∀ k, (D k ∨ (wr.heap.size ≤ k ∧ k < w2.heap.size)) → w.heap.size ≤ k ∧ k < w8.heap.size) := fun k hk => by
          rcases hk with hk | hk
          · have := hD.out k hk
            exact ⟨this.1, by omega⟩
          · exact ⟨by omega, by omega⟩
        have HV8 : Hid (∀ k, v8.ownBlock = some k → ¬ (D k ∨ (wr.heap.size ≤ k ∧ k < w2.heap.size))) := fun k hk hd => by
          rcases at8 with e | e
          · rw [e] at hk
            have h1 := hub.out k hk
            rcases hd with hd | hd
            · exact hvD'.out k hk hd
            · omega
          · rw [e] at hk
            injection hk with hk
            have h2 : W3.heap.size + 1 = k := by simpa using hk
            have h3 := Z3.out
            rcases hd with hd | hd
            · have := hD.out k hd
              omega
            · omega
        have HEL : Hid ((ns ++ [m]).length ≤ p + L) := by have e := HNL.out; rw [Hid, List.length_append, List.length_singleton]; omega
        have HB4 : Hid (b = allB D8 ((ns ++ [m]).map Me.en) ++ b.drop (p + L) ∧ p + L = (allB D8 ((ns ++ [m]).map Me.en)).length) := ⟨HB3.out.1, HB3.out.2.1⟩
        clear o8 g8 at8 K8 RD ONE o6 y0 y1 y2 hub hB8 HK2 OK2 B2 HO2 hD hvD' hbase
        go_wp2_with fail
        go_roundg (b.length + 1 - (p + L))
        case measure => have := HGK.out; omega
        case rel => exact ⟨ns ++ [m], _, p + L, rfl, hLn, by go_num, HEL, HB4, HO8, HK8, HD8, HV8, HB8⟩
      · have HNO := Lib.hid hno
        clear hno
        unfold zeroE
        go_wp2_with fail
        refine bodyPost_ret (v := .tuple #[.slice A1 nl c1, .int .i64 (p : Int)]) (by simp [results, Try.results19, go_sem]) rfl ⟨.slice A1 nl c1, ns, b.drop p, ?_, ?_, fun m hm => ⟨?_, (HK2.out m hm).2⟩, ⟨hb.out.1, fun e he => ?_, HNO.out⟩, ?_⟩
        · rw [← hb.out.2]
        · have := own_other HO2.out (Kept.of_below (S := fun _ => False) ((Below.refl _ w2).al (.cells #[.int .i64 0, .string ⟨#[]⟩, .slice none 0 0] 31))) (fun _ _ h => h)
          rw [HNL.out]
          exact this
        · exact ((HK2.out m hm).1.below ((Below.refl _ w2).al _)).mono (fun k _ hk => (hD.out k hk).1)
        · obtain ⟨m, hm, rfl⟩ := List.mem_map.1 he
          exact (Me.right_en (HK2.out m hm).1).2 (HK2.out m hm).2
        · exact B2.out.al _
    · have hcp' : ¬ c = p := by omega
      rw [if_neg hcp'] at rb
      have RB0 := Lib.hid rb
      clear rb
      go_wp2_with fail
      refine (FI.out _ _ _ RB0.out (by omega) (by omega) (by omega)).mono ?_
      rintro e w2 ⟨b2, hfg⟩
      have z2 := b2.size
      have hBz := hB.out.size
      have B2 := Lib.hid (hB.out.then_ b2)
      have HO2 := Lib.hid (own_other ho.out (Kept.of_below (S := fun _ => False) b2) (fun _ _ h => h))
      have HK2 : Hid (∀ m ∈ ns, m.Ok D w2 ∧ m.Right) := fun m hm => ⟨(hok.out m hm).1.below b2, (hok.out m hm).2⟩
      have hub := Lib.hid (own_blk ho.out)
      clear ho hok hB b2 RB0 FI
      rcases hfg with ⟨m, rfl, hbg, ok2, rim⟩ | ⟨rfl, hno⟩
      · obtain ⟨L, hL⟩ : ∃ L, (entryB D8 m.en).length = L := ⟨_, rfl⟩
        have hLp : 1 ≤ L := by
          have := entryB_pos (D := D8) m.en
          rcases Nat.eq_zero_or_pos L with h | h
          · exact absurd (List.eq_nil_of_length_eq_zero (hL.trans h)) this
          · exact h
        have hb3 : b = allB D8 ((ns ++ [m]).map Me.en) ++ b.drop (p + L) ∧ p + L = (allB D8 ((ns ++ [m]).map Me.en)).length ∧ p + L ≤ b.length := by
          obtain ⟨h1, h2⟩ := hb.out
          obtain ⟨hxr, r', hb'⟩ := hbg
          have e1 : b.drop (p + L) = r' := by rw [← List.drop_drop, hb', ← hL, List.drop_left]
          rw [List.map_append, List.map_singleton]
          refine ⟨?_, ?_, ?_⟩
          · rw [e1, allB_append, allB_one, List.append_assoc, ← hb']
            exact h1
          · rw [allB_append, allB_one, List.length_append, hL, ← h2]
          · have := congrArg List.length hb'
            rw [List.length_drop, List.length_append, hL] at this
            omega
        have hLn : p + L ≤ b.length := hb3.2.2
        have hLb : p + L ≤ 60000 := by have := HL.out; omega
        have HB3 := Lib.hid hb3
        have OK2 := Lib.hid ok2
        have RIM := Lib.hid rim
        rw [hL]
        have f3 : Below w2.heap.size w2 (w2.alloc (.cells #[.int .i64 m.kind, .string m.key, .slice m.A m.n m.c] 31)) := (Below.refl _ w2).al _
        have x3 := Blk.new w2 31 #[.int .i64 m.kind, .string m.key, .slice m.A m.n m.c]
        have z3 : (w2.alloc (.cells #[.int .i64 m.kind, .string m.key, .slice m.A m.n m.c] 31)).heap.size = w2.heap.size + 1 := by simp
        have g4 : ((L : Int) == 0) = false := by simp; omega
        have g5 : ¬ L = 0 := by omega
        unfold Me.val
        clear hL hbg hb3 ok2 rim hb
        go_upto_region 5 with fail
        generalize w2.alloc (.cells #[.int .i64 m.kind, .string m.key, .slice m.A m.n m.c] 31) = W3 at *
        have Z3 : Hid (W3.heap.size = w2.heap.size + 1) := z3
        have z3' : w2.heap.size ≤ W3.heap.size := by omega
        clear z3
        have y0 : W3.cell? ⟨w2.heap.size, 0, none⟩ = some (.int .i64 m.kind) := x3.cell 0
        have y1 : W3.cell? ⟨w2.heap.size, 1, none⟩ = some (.string m.key) := x3.cell 1
        have y2 : W3.cell? ⟨w2.heap.size, 2, none⟩ = some (.slice m.A m.n m.c) := x3.cell 2
        have RD := Lib.hid (new_entry W3 31 m)
        have ONE := Lib.hid m.one
        have o6 := Lib.hid (World.ownsRow.alloc (w := W3) (own_other HO2.out (Kept.of_below (S := fun _ => False) f3) (fun _ _ h => h)) (.cells m.cells.toArray 31))
        unfold Me.cells at RD ONE o6
        go_upto_if 19 with fail
        go_upto_region 6 with fail
        go_wp2_with (at_builtin; refine wpList_append_any _ rfl (.tmp 20) (.tmp 22) 24 rfl w.heap.size 31 i0 _ 3 48 Try.underlying24 hi0 hz0 hz1 hz2 rfl (by omega) _ nl _ rfl o6.out _ _ 1 1 [.int .i64 m.kind, .string m.key, .slice m.A m.n m.c] rfl RD.out ONE.out (by unfold maxLen; omega) (by omega) (by simp; omega) ?_; intro v8 w8 o8 g8 at8)
        have K8 : Kept (fun z => Value.ownBlock (.slice A1 nl c1) = some z) W3 w8 := (Kept.of_below (S := fun z => Value.ownBlock (.slice A1 nl c1) = some z) ((Below.refl _ W3).al (.cells #[.int .i64 m.kind, .string m.key, .slice m.A m.n m.c] 31))).then_ (Kept.of_grown (S := fun z => Value.ownBlock (.slice A1 nl c1) = some z) g8 (fun q e => e)) (fun _ _ h => h)
        have HO8 : Hid (w8.ownsRow w.heap.size 31 3 v8 (ns ++ [m]).length (meCells (ns ++ [m]))) := by
          have e2 : meCells [m] = [.int .i64 m.kind, .string m.key, .slice m.A m.n m.c] := by simp [meCells, Me.cells]
          rw [Hid, List.length_append, HNL.out, meCells_append, e2]
          exact o8
        have HK8 : Hid (∀ x ∈ ns ++ [m], x.Ok (fun k => D k ∨ (wr.heap.size ≤ k ∧ k < w2.heap.size)) w8 ∧ x.Right) := fun x hx => by
          rcases List.mem_append.1 hx with hx | hx
          · obtain ⟨h1, h2⟩ := HK2.out x hx
            exact ⟨((h1.below f3).kept K8 (fun q hq e => hvD'.out q e hq)).mono (fun k _ hk => .inl hk), h2⟩
          · obtain rfl := List.mem_singleton.1 hx
            have h1 := OK2.out.mono (E := fun k => wr.heap.size ≤ k ∧ k < w2.heap.size) (fun k h1 h2 => ⟨h2, h1⟩)
            exact ⟨((h1.below f3).kept K8 (fun q hq e => by have := hub.out q e; omega)).mono (fun k _ hk => .inr hk), RIM.out⟩
        have hB8 : Below w.heap.size w w8 := (B2.out.then_ f3).trans (K8.to_below (by omega) (fun q hq e => by have := hbase.out q e; omega))
        have HB8 := Lib.hid hB8
        have z8 := K8.size
        have HD8 : Hid (∀ k, (D k ∨ (wr.heap.size ≤ k ∧ k < w2.heap.size)) → w.heap.size ≤ k ∧ k < w8.heap.size) := fun k hk => by
          rcases hk with hk | hk
          · have := hD.out k hk
            exact ⟨this.1, by omega⟩
          · exact ⟨by omega, by omega⟩
        have HV8 : Hid (∀ k, v8.ownBlock = some k → ¬ (D k ∨ (wr.heap.size ≤ k ∧ k < w2.heap.size))) := fun k hk hd => by
          rcases at8 with e | e
          · rw [e] at hk
            have h1 := hub.out k hk
            rcases hd with hd | hd
            · exact hvD'.out k hk hd
            · omega
          · rw [e] at hk
            injection hk with hk
            have h2 : W3.heap.size + 1 = k := by simpa using hk
            have h3 := Z3.out
            rcases hd with hd | hd
            · have := hD.out k hd
              omega
            · omega
        have HEL : Hid ((ns ++ [m]).length ≤ p + L) := by have e := HNL.out; rw [Hid, List.length_append, List.length_singleton]; omega
        have HB4 : Hid (b = allB D8 ((ns ++ [m]).map Me.en) ++ b.drop (p + L) ∧ p + L = (allB D8 ((ns ++ [m]).map Me.en)).length) := ⟨HB3.out.1, HB3.out.2.1⟩
        clear o8 g8 at8 K8 RD ONE o6 y0 y1 y2 hub hB8 HK2 OK2 B2 HO2 hD hvD' hbase
        go_wp2_with fail
        go_roundg (b.length + 1 - (p + L))
        case measure => have := HGK.out; omega
        case rel => exact ⟨ns ++ [m], _, p + L, rfl, hLn, by go_num, HEL, HB4, HO8, HK8, HD8, HV8, HB8⟩
      · have HNO := Lib.hid hno
        clear hno
        unfold zeroE
        go_wp2_with fail
        refine bodyPost_ret (v := .tuple #[.slice A1 nl c1, .int .i64 (p : Int)]) (by simp [results, Try.results19, go_sem]) rfl ⟨.slice A1 nl c1, ns, b.drop p, ?_, ?_, fun m hm => ⟨?_, (HK2.out m hm).2⟩, ⟨hb.out.1, fun e he => ?_, HNO.out⟩, ?_⟩
        · rw [← hb.out.2]
        · have := own_other HO2.out (Kept.of_below (S := fun _ => False) ((Below.refl _ w2).al (.cells #[.int .i64 0, .string ⟨#[]⟩, .slice none 0 0] 31))) (fun _ _ h => h)
          rw [HNL.out]
          exact this
        · exact ((HK2.out m hm).1.below ((Below.refl _ w2).al _)).mono (fun k _ hk => (hD.out k hk).1)
        · obtain ⟨m, hm, rfl⟩ := List.mem_map.1 he
          exact (Me.right_en (HK2.out m hm).1).2 (HK2.out m hm).2
        · exact B2.out.al _
end Go.Proofs.Ytidppcaohkfnfaa
