
/-
  The document's Last, Cut, All and Keys; the law's texts.
-/
import Derived.Test.YtidppcaohkfnfaaK30
namespace Go.Proofs.Ytidppcaohkfnfaa
open Go.RowKit

def AtPl (m : Me) (k : Int) (s : ByteArray) : Prop := m.kind = k ∧ m.key = s
theorem atPl_iff {m : Me} {k : Int} {s : ByteArray} : AtPl m k s ↔ m.en.pl = (k, tlB s) := by
  unfold AtPl En.pl
  rw [Prod.mk.injEq]
  exact and_congr Iff.rfl (str_eq_iff (s := m.key) (t := s)).symm
/-- r is the place of the last entry of a place. -/
def LastAt (ms : List Me) (k : Int) (s : ByteArray) (r : Int) : Prop :=
  (r = -1 ∧ ∀ j (h : j < ms.length), ¬ AtPl (ms[j]'h) k s) ∨ ∃ j, ∃ h : j < ms.length, r = (j : Int) ∧ AtPl (ms[j]'h) k s ∧ ∀ i (h : i < ms.length), j < i → ¬ AtPl (ms[i]'h) k s
theorem lastE_none_of {ms : List Me} {k : Int} {s : ByteArray} (h : ∀ j (h : j < ms.length), ¬ AtPl (ms[j]'h) k s) : lastE (ms.map Me.en) (k, tlB s) = none := by
  unfold lastE
  rw [List.find?_eq_none]
  intro e he
  rw [List.mem_reverse] at he
  obtain ⟨m, hm, rfl⟩ := List.mem_map.1 he
  obtain ⟨j, hj, rfl⟩ := List.getElem_of_mem hm
  simp only [decide_eq_true_eq]
  exact fun e => h j hj (atPl_iff.2 e)
theorem lastE_app (a b : List En) (p : Int × List UInt8) : lastE (a ++ b) p = (lastE b p).or (lastE a p) := by
  unfold lastE
  rw [List.reverse_append, List.find?_append]
theorem lastE_some_of {ms : List Me} {k : Int} {s : ByteArray} {j : Nat} (h : j < ms.length) (ha : AtPl (ms[j]'h) k s) (hn : ∀ i (h : i < ms.length), j < i → ¬ AtPl (ms[i]'h) k s) :
    lastE (ms.map Me.en) (k, tlB s) = some (ms[j]'h).en := by
  have e3 : lastE ((ms.drop (j + 1)).map Me.en) (k, tlB s) = none := lastE_none_of (fun i hi => by
    rw [List.getElem_drop]
    exact hn _ _ (by omega))
  have e1 : ms.map Me.en = (ms.take j ++ [ms[j]'h]).map Me.en ++ (ms.drop (j + 1)).map Me.en := by
    rw [← List.map_append, ← List.take_succ_eq_append_getElem h, List.take_append_drop]
  rw [e1, lastE_app, e3, Option.none_or, List.map_append, List.map_singleton, lastE_snoc, if_pos (atPl_iff.1 ha)]
theorem cutE_step {ms : List Me} {i : Nat} (hi : i < ms.length) {r : Int} (hr : LastAt ms (ms[i]'hi).kind (ms[i]'hi).key r) :
    cutE ((ms.map Me.en).drop i) = if r = (i : Int) then (ms[i]'hi).en :: cutE ((ms.map Me.en).drop (i + 1)) else cutE ((ms.map Me.en).drop (i + 1)) := by
  have h2 : i < (ms.map Me.en).length := by rw [List.length_map]; exact hi
  have e1 : (ms.map Me.en).drop i = (ms[i]'hi).en :: (ms.map Me.en).drop (i + 1) := by
    rw [List.drop_eq_getElem_cons h2, List.getElem_map]
  have hself : AtPl (ms[i]'hi) (ms[i]'hi).kind (ms[i]'hi).key := ⟨rfl, rfl⟩
  have hpl : ∀ m : Me, AtPl m (ms[i]'hi).kind (ms[i]'hi).key ↔ m.en.pl = (ms[i]'hi).en.pl := fun m => atPl_iff
  rw [e1]
  simp only [cutE]
  rcases hr with ⟨rfl, hno⟩ | ⟨j, hj, rfl, ha, hn⟩
  · exact absurd hself (hno i hi)
  · by_cases hji : (j : Int) = (i : Int)
    · obtain rfl : j = i := by omega
      rw [if_pos rfl, if_neg]
      intro hany
      obtain ⟨e, he, hp⟩ := List.any_eq_true.1 hany
      rw [← List.map_drop] at he
      obtain ⟨m, hm, rfl⟩ := List.mem_map.1 he
      obtain ⟨q, hq, rfl⟩ := List.getElem_of_mem hm
      rw [List.getElem_drop] at hp
      exact hn _ _ (by omega) ((hpl _).2 (of_decide_eq_true hp))
    · rw [if_neg hji, if_pos]
      have hlt : i < j := by
        rcases Nat.lt_or_ge i j with h | h
        · exact h
        · exact absurd hself (hn i hi (by omega))
      refine List.any_eq_true.2 ⟨(ms[j]'hj).en, ?_, by simpa using (hpl _).1 ha⟩
      rw [← List.map_drop]
      refine List.mem_map.2 ⟨ms[j]'hj, ?_, rfl⟩
      refine List.mem_of_getElem? (i := j - (i + 1)) ?_
      rw [List.getElem?_drop, show i + 1 + (j - (i + 1)) = j from by omega, List.getElem?_eq_getElem hj]

set_option maxHeartbeats 2000000 in
set_option maxRecDepth 100000 in
theorem refLast_any (ms : List Me) (A : Option Addr) (n c : Nat) (kd : Int) (s : ByteArray) (w : World) (ha : Reads w w.heap.size 3 A n (meCells ms)) (hn : n = ms.length) (nn : n ≤ 1000000) :
    Calls Try.prog 30 #[.slice A n c, .int .i64 kd, .string s] w (fun e w' => ∃ r, e = .returned (.int .i64 r) ∧ LastAt ms kd s r ∧ w = w') := by
  have HN := Lib.hid hn
  have HA := Lib.hid ha
  clear hn ha
  go_enter Try.func30, Try.ntmps30
  go_wp2_with fail
  go_loopg [7] n (fun gk i wr => ∃ (k : Nat) (z : Int), gk = k ∧ k ≤ n ∧ i = .int .i64 z ∧ z = (k : Int) - 1 ∧ Hid (∀ j (h : j < ms.length), k ≤ j → ¬ AtPl (ms[j]'h) kd s) ∧ Hid (w = wr))
  case atStart => exact ⟨n, (n : Int) - 1, rfl, Nat.le_refl _, rfl, rfl, fun j h h2 => absurd h2 (by have := HN.out; omega), rfl⟩
  case round =>
    obtain ⟨k, z, hgk, hk, rfl, hz, hall, hw⟩ := hrel
    obtain rfl := hw.out
    have HGK := Lib.hid hgk
    clear hgk hw
    rcases Nat.eq_zero_or_pos k with hk0 | hk0
    · obtain rfl : z = -1 := by omega
      have HR : Hid (LastAt ms kd s (-1)) := .inl ⟨rfl, fun j h => hall.out j h (by omega)⟩
      clear hz hall
      go_wp2_with fail
      go_ret
      exact ⟨-1, rfl, HR.out, rfl⟩
    · obtain ⟨j, rfl⟩ : ∃ j, k = j + 1 := ⟨k - 1, by omega⟩
      obtain rfl : z = (j : Int) := by omega
      have hjm : j < ms.length := by have := HN.out; omega
      have cT := meCells_cut ms j hjm
      obtain ⟨b, o, rfl, hb, hcl⟩ := HA.out.chunk (by omega) (by omega) cT
      have HY : Hid (AtPl (ms[j]'hjm) kd s → LastAt ms kd s (j : Int)) := fun h => .inr ⟨j, hjm, rfl, h, fun i h1 h2 => hall.out i h1 (by omega)⟩
      have HX : Hid (¬ AtPl (ms[j]'hjm) kd s → ∀ i (h : i < ms.length), j ≤ i → ¬ AtPl (ms[i]'h) kd s) := fun h i h1 h2 => by
        rcases Nat.eq_or_lt_of_le h2 with h3 | h3
        · subst h3
          exact h
        · exact hall.out i h1 (by omega)
      generalize ms[j] = m at *
      have q0 : w.cell? ⟨b, o + j * 3, none⟩ = some (.int .i64 m.kind) := hcl 0 _ rfl
      have q1 : w.cell? ⟨b, o + j * 3 + 1, none⟩ = some (.string m.key) := hcl 1 _ rfl
      have g1 : (0 : Int) ≤ (j : Int) := by omega
      have g2 : (j : Int) < (n : Int) := by omega
      clear hcl cT hall hz hk0
      by_cases h1 : m.kind = kd
      · by_cases h2 : m.key = s
        · have HR := Lib.hid (HY.out ⟨h1, h2⟩)
          clear HX HY
          subst h2
          subst h1
          go_wp2_with fail
          go_ret
          exact ⟨_, rfl, HR.out, rfl⟩
        · have HR := Lib.hid (HX.out (fun h => h2 h.2))
          have h3 : (m.key.toList == s.toList) = false := by simpa using fun e => h2 (tl_inj e)
          clear HX HY h2
          subst h1
          go_wp2_with fail
          go_roundg j
          case measure => have := HGK.out; omega
          case rel => exact ⟨j, (j : Int) - 1, rfl, by omega, by go_num, rfl, HR, rfl⟩
      · have HR := Lib.hid (HX.out (fun h => h1 h.1))
        have h3 : (m.kind == kd) = false := by simp [h1]
        clear HX HY
        go_wp2_with fail
        go_roundg j
        case measure => have := HGK.out; omega
        case rel => exact ⟨j, (j : Int) - 1, rfl, by omega, by go_num, rfl, HR, rfl⟩

/-- What the document's Cut gives. -/
def RCutGot (w : World) (ms : List Me) (e : Ending) (w' : World) : Prop :=
  ∃ v ns, e = .returned v ∧ w'.ownsRow w.heap.size 31 3 v ns.length (meCells ns) ∧ ns.map Me.en = cutE (ms.map Me.en) ∧ (∀ m ∈ ns, m ∈ ms) ∧ Below w.heap.size w w'

set_option maxHeartbeats 4000000 in
set_option maxRecDepth 100000 in
theorem refCut_any (ms : List Me) (A : Option Addr) (n c : Nat) (w : World) (ha : Reads w w.heap.size 3 A n (meCells ms)) (hn : n = ms.length) (nn : n ≤ 60000) :
    Calls Try.prog 31 #[.slice A n c] w (RCutGot w ms) := by
  have HN := Lib.hid hn
  have HA := Lib.hid ha
  clear hn ha
  obtain ⟨i0, hi0, hz0, hz1, hz2⟩ := info_parts info_E
  go_enter Try.func31, Try.ntmps31
  go_wp2_with fail
  go_loopg [3, 4] n (fun gk v i wr => ∃ (k : Nat) (ns : List Me), gk = n - k ∧ k ≤ n ∧ i = .int .i64 k ∧ Hid (wr.ownsRow w.heap.size 31 3 v ns.length (meCells ns)) ∧ Hid (ns.map Me.en ++ cutE ((ms.map Me.en).drop k) = cutE (ms.map Me.en)) ∧ Hid (ns.length ≤ k) ∧ Hid (∀ m ∈ ns, m ∈ ms) ∧ Hid (Below w.heap.size w wr))
  case atStart => exact ⟨0, [], by omega, by omega, rfl, World.ownsRow_nil _ _ _ _, rfl, Nat.le_refl _, fun m hm => by simp at hm, Below.refl _ _⟩
  case round =>
    obtain ⟨k, ns, hgk, hk, rfl, ho, hct, hkl, hmm, hB⟩ := hrel
    have HGK := Lib.hid hgk
    clear hgk
    by_cases hlt : k < n
    · have hkm : k < ms.length := by have := HN.out; omega
      have cT := meCells_cut ms k hkm
      have RL := Lib.hid (fun W (hW : Below w.heap.size w W) => refLast_any ms A n c (ms[k]'hkm).kind (ms[k]'hkm).key W ((HA.out.below hW).more hW.size) HN.out (by omega))
      obtain ⟨b, o, rfl, hb, hcl⟩ := HA.out.chunk (by omega) hlt cT
      have HST := Lib.hid (fun r (hr : LastAt ms (ms[k]'hkm).kind (ms[k]'hkm).key r) => cutE_step hkm hr)
      have HMM : Hid (ms[k]'hkm ∈ ms) := List.getElem_mem hkm
      generalize ms[k] = m at *
      have q0 : wr.drew.cell? ⟨b, o + k * 3, none⟩ = some (.int .i64 m.kind) := (hB.out.cell (p := ⟨b, o + k * 3, none⟩) hb).trans (hcl 0 _ rfl)
      have q1 : wr.drew.cell? ⟨b, o + k * 3 + 1, none⟩ = some (.string m.key) := (hB.out.cell (p := ⟨b, o + k * 3 + 1, none⟩) hb).trans (hcl 1 _ rfl)
      have q2 : wr.drew.cell? ⟨b, o + k * 3 + 2, none⟩ = some (.slice m.A m.n m.c) := (hB.out.cell (p := ⟨b, o + k * 3 + 2, none⟩) hb).trans (hcl 2 _ rfl)
      have g1 : (0 : Int) ≤ (k : Int) := by omega
      have g2 : (k : Int) < (n : Int) := by omega
      have RL2 := Lib.hid (RL.out wr.drew hB.out.drew)
      have QQ := Lib.hid (And.intro q0 q1)
      clear hcl cT RL q0 q1
      go_upto_region 5 with fail
      go_region_held3 (fun W => W.cell? ⟨b, o + k * 3, none⟩ = some (.int .i64 m.kind) ∧ W.cell? ⟨b, o + k * 3 + 1, none⟩ = some (.string m.key))
        (with_reducible exact QQ.out)
        (first | (go_at_call 30; (with_reducible refine RL2.out.mono ?_); rintro e w8 ⟨r, rfl, hla, rfl⟩; have HLA := Lib.hid hla; clear hla))
      have HB2 := Lib.hid hB.out.drew
      have HO2 := Lib.hid (own_other ho.out (Kept.of_below (S := fun _ => False) (Below.refl wr.heap.size wr).drew) (fun _ _ h => h))
      generalize wr.drew = wd at *
      have hst := HST.out r HLA.out
      clear HST HLA RL2 QQ
      by_cases hr : r = (k : Int)
      · subst hr
        rw [if_pos rfl] at hst
        obtain ⟨A1, c1, rfl, hn1, hc1, r1⟩ := own_form HO2.out
        have hb1 := Lib.hid (own_base HO2.out)
        have hub := Lib.hid (own_blk HO2.out)
        have HO := Lib.hid (World.ownsRow.alloc (w := wd) HO2.out (.cells m.cells.toArray 31))
        have RD := Lib.hid (new_entry wd 31 m)
        have ONE := Lib.hid m.one
        unfold Me.cells at RD ONE HO
        obtain ⟨nl, hnl⟩ : ∃ q, ns.length = q := ⟨_, rfl⟩
        have HNL := Lib.hid hnl
        have hkl' := hkl.out
        have hbz := HB2.out.size
        rw [hnl] at HO hkl' hn1 hb1 hub ⊢
        have HS2 : Hid ((ns ++ [m]).map Me.en ++ cutE ((ms.map Me.en).drop (k + 1)) = cutE (ms.map Me.en)) := by
          rw [Hid, List.map_append, List.append_assoc]
          have h1 := hct.out
          rw [hst] at h1
          exact h1
        clear hst hct r1 ho hnl
        go_upto_region 6 with fail
        go_wp2_with (at_builtin; refine wpList_append_any _ rfl (.tmp 25) (.tmp 30) 24 rfl w.heap.size 31 i0 _ 3 48 Try.underlying24 hi0 hz0 hz1 hz2 rfl (by omega) _ nl _ rfl HO.out _ _ 1 1 [.int .i64 m.kind, .string m.key, .slice m.A m.n m.c] rfl RD.out ONE.out (by unfold maxLen; omega) (by omega) (by simp; omega) ?_; intro v8 w8 o8 g8 at8)
        have K8 : Kept (fun z => Value.ownBlock (.slice A1 nl c1) = some z) wd w8 := (Kept.of_below (S := fun z => Value.ownBlock (.slice A1 nl c1) = some z) ((Below.refl _ wd).al (.cells #[.int .i64 m.kind, .string m.key, .slice m.A m.n m.c] 31))).then_ (Kept.of_grown (S := fun z => Value.ownBlock (.slice A1 nl c1) = some z) g8 (fun q e => e)) (fun _ _ h => h)
        have HO8 : Hid (w8.ownsRow w.heap.size 31 3 v8 (ns ++ [m]).length (meCells (ns ++ [m]))) := by
          have e2 : meCells [m] = [.int .i64 m.kind, .string m.key, .slice m.A m.n m.c] := by simp [meCells, Me.cells]
          rw [Hid, List.length_append, HNL.out, meCells_append, e2]
          exact o8
        have HM8 : Hid (∀ x ∈ ns ++ [m], x ∈ ms) := fun x hx => by
          rcases List.mem_append.1 hx with hx | hx
          · exact hmm.out x hx
          · obtain rfl := List.mem_singleton.1 hx
            exact HMM.out
        have HB8 : Hid (Below w.heap.size w w8) := HB2.out.trans (K8.to_below HB2.out.size (fun q hq e => by have := hb1.out q e; omega))
        have HL8 : Hid ((ns ++ [m]).length ≤ k + 1) := by have e := HNL.out; rw [Hid, List.length_append, List.length_singleton]; omega
        clear o8 g8 at8 K8 RD ONE HO hub
        go_wp2_with fail
        go_roundg (n - (k + 1))
        case measure => have := HGK.out; omega
        case rel => exact ⟨k + 1, ns ++ [m], rfl, by omega, by go_num, HO8, HS2, HL8, HM8, HB8⟩
      · rw [if_neg hr] at hst
        have HS2 := hct
        rw [hst] at HS2
        have h3 : (r == (k : Int)) = false := by simp [hr]
        clear hst hct
        go_wp2_with fail
        go_roundg (n - (k + 1))
        case measure => have := HGK.out; omega
        case rel => exact ⟨k + 1, ns, rfl, by omega, by go_num, HO2, HS2, Nat.le_succ_of_le hkl.out, hmm, HB2⟩
    · obtain rfl : k = n := by omega
      have h3 := hct.out
      rw [List.drop_of_length_le (by rw [List.length_map, ← HN.out]; exact Nat.le_refl _)] at h3
      have h4 : Hid (ns.map Me.en = cutE (ms.map Me.en)) := by rw [Hid, ← h3]; exact (List.append_nil _).symm
      clear h3 hct
      go_wp2_with fail
      go_ret
      exact ⟨_, ns, rfl, ho.out, h4.out, hmm.out, hB.out⟩

theorem Reads.str {w : World} {B n : Nat} {A : Option Addr} {ks : List ByteArray} (h : Reads w B 1 A n (ks.map Value.string)) (hn : n = ks.length) {k : Nat} (hk : k < ks.length) :
    ∃ b o, A = some ⟨b, o, none⟩ ∧ b < B ∧ w.cell? ⟨b, o + k, none⟩ = some (.string (ks[k]'hk)) := by
  have hcs : (((ks.map Value.string).drop (k * 1)).take 1) = [.string (ks[k]'hk)] := by
    rw [Nat.mul_one, List.drop_eq_getElem_cons (by simpa using hk)]
    simp
  obtain ⟨b, o, rfl, hb, hc⟩ := h.chunk (by omega) (k := k) (by omega) hcs
  refine ⟨b, o, rfl, hb, ?_⟩
  have := hc 0 _ rfl
  rw [Nat.mul_one, Nat.add_zero] at this
  exact this

set_option maxHeartbeats 2000000 in
set_option maxRecDepth 100000 in
theorem refAll_any (D : Nat → Prop) (ms : List Me) (A : Option Addr) (n c : Nat) (w : World) (ha : Reads w w.heap.size 3 A n (meCells ms)) (hn : n = ms.length) (nn : n ≤ 60000) (hok : ∀ m ∈ ms, m.Ok D w ∧ m.Right) :
    Calls Try.prog 32 #[.slice A n c] w (Got w.heap.size w (allB D8 (ms.map Me.en))) := by
  obtain ⟨es, hes⟩ : ∃ es, ms.map Me.en = es := ⟨_, rfl⟩
  rw [hes]
  have HRI : Hid (∀ e ∈ es, e.Right) := fun e he => by
    rw [← hes] at he
    obtain ⟨m, hm, rfl⟩ := List.mem_map.1 he
    exact (Me.right_en (hok m hm).1).2 (hok m hm).2
  have HN := Lib.hid hn
  have HN2 : Hid (es.length = n) := by rw [Hid, ← hes, List.length_map, hn]
  have HES := Lib.hid hes
  have HR := Lib.hid ha
  have HOK := Lib.hid hok
  clear ha hn hok hes
  go_enter Try.func32, Try.ntmps32
  go_wp2_with fail
  go_loopw [3, 4] (fun b i wr => ∃ k : Nat, k ≤ n ∧ i = .int .i64 k ∧ Hid (OB wr w.heap.size b (allB D8 (es.take k))) ∧ Below w.heap.size w wr) (fun _ i _ => n - (intOf i).toNat)
  case atStart => exact ⟨0, by omega, rfl, OB.nil _ _, Below.refl _ _⟩
  case round =>
    obtain ⟨k, hk, rfl, ho, hbw⟩ := hrel
    by_cases hlt : k < n
    · have hkm : k < ms.length := by have := HN.out; omega
      have hke : k < es.length := by rw [HN2.out]; exact hlt
      have cT := meCells_cut ms k hkm
      obtain ⟨b, o, rfl, hb, hcl⟩ := HR.out.chunk (by omega) hlt cT
      obtain ⟨okm, rim⟩ := HOK.out _ (List.getElem_mem hkm)
      have hen : es[k] = (ms[k]).en := by
        have := HES.out
        subst this
        simp
      have HTK : Hid (allB D8 (es.take (k + 1)) = allB D8 (es.take k) ++ entryB D8 (ms[k]).en) := by
        rw [Hid, List.take_succ_eq_append_getElem hke, allB_append, allB_one, hen]
      have hal := allB_len (l := es.take k) (fun x hx => HRI.out x (List.mem_of_mem_take hx))
      have hel := entryB_len ((Me.right_en okm).2 rim)
      rw [List.length_take] at hal
      generalize ms[k] = m at *
      clear hen cT
      obtain ⟨mk, mks, mA, mn, mc, mb⟩ := m
      have q0 : wr.cell? ⟨b, o + k * 3, none⟩ = some (.int .i64 mk) := (hbw.cell (p := ⟨b, o + k * 3, none⟩) hb).trans (hcl 0 _ rfl)
      have q1 : wr.cell? ⟨b, o + k * 3 + 1, none⟩ = some (.string mks) := (hbw.cell (p := ⟨b, o + k * 3 + 1, none⟩) hb).trans (hcl 1 _ rfl)
      have q2 : wr.cell? ⟨b, o + k * 3 + 2, none⟩ = some (.slice mA mn mc) := (hbw.cell (p := ⟨b, o + k * 3 + 2, none⟩) hb).trans (hcl 2 _ rfl)
      have ok1 := okm.below hbw
      have hsz := hbw.size
      obtain ⟨r1, r2, r3, r4⟩ := rim
      simp only at r1 r2 r3 r4
      have g1 : (0 : Int) ≤ (k : Int) := by omega
      have g2 : (k : Int) < (n : Int) := by omega
      have HE := Lib.hid hel
      clear hcl okm hel
      go_wp2_with fail
      refine (refEBytes_any _ ⟨mk, mks, mA, mn, mc, mb⟩ _ ok1 (by simp only; omega) (by simp only; omega) (by simp only; omega)).mono ?_
      rintro e w2 ⟨v2, rfl, ho2, hb2⟩
      obtain ⟨A2, n2, c2, rfl, -, -, rb2⟩ := ho2.got
      have ho1 := ho.out.below hb2 (Nat.le_refl _)
      have hn2 : n2 ≤ 66000 := by rw [rb2.len]; exact HE.out
      have HO1 := Lib.hid ho1
      have HR2 := Lib.hid rb2
      have hsz2 := hb2.size
      clear ho1 rb2 ho2 ok1 q0 q1 q2 ho
      go_wp2_with (at_builtin; refine wpList_app8 _ rfl (.tmp 11) (.tmp 16) rfl w.heap.size _ (allB D8 (es.take k)) rfl HO1.out A2 n2 c2 _ rfl HR2.out (by omega) (by omega) ?_; intro v3 w3 ho3 hb3)
      have HO3 : Hid (OB w3 w.heap.size v3 (allB D8 (es.take (k + 1)))) := by rw [Hid, HTK.out]; exact ho3
      clear ho3
      go_wp2_with fail
      go_roundw
      case rel => exact ⟨k + 1, by omega, by go_num, HO3, (hbw.then_ hb2).trans hb3⟩
      case measure => simp [intOf]; omega
    · obtain rfl : k = n := by omega
      have h3 := ho.out
      rw [List.take_of_length_le (by rw [HN2.out]; omega)] at h3
      have H3 := Lib.hid h3
      clear h3 ho
      go_wp2_with fail
      go_ret
      exact ⟨_, rfl, H3.out, hbw⟩

set_option maxHeartbeats 2000000 in
set_option maxRecDepth 100000 in
theorem texts_any (ks ls : List ByteArray) (A B : Option Addr) (n c m d : Nat) (w : World) (ha : Reads w w.heap.size 1 A n (ks.map Value.string)) (hn : n = ks.length) (hb : Reads w w.heap.size 1 B m (ls.map Value.string)) (hm : m = ls.length) (he : ks = ls) (nn : n ≤ 1000000) :
    Calls Try.prog 33 #[.slice A n c, .slice B m d] w (Tells w true) := by
  obtain rfl : n = m := by rw [hn, hm, he]
  subst he
  have HN := Lib.hid hn
  have HA := Lib.hid ha
  have HB := Lib.hid hb
  clear ha hb hn hm
  go_enter Try.func33, Try.ntmps33
  go_wp2_with fail
  go_loopg [5] n (fun gk i wr => ∃ k : Nat, gk = n - k ∧ k ≤ n ∧ i = .int .i64 k ∧ Hid (Below w.heap.size w wr))
  case atStart => exact ⟨0, rfl, Nat.zero_le _, rfl, Below.refl _ _⟩
  case round =>
    obtain ⟨k, hgk, hk, rfl, hB⟩ := hrel
    have HGK := Lib.hid hgk
    clear hgk
    by_cases hlt : k < n
    · have hkm : k < ks.length := by have := HN.out; omega
      obtain ⟨b, o, rfl, hb, hcl⟩ := HA.out.str HN.out hkm
      obtain ⟨b2, o2, rfl, hb2, hcl2⟩ := HB.out.str HN.out hkm
      generalize ks[k] = x at *
      have q0 : wr.cell? ⟨b, o + k, none⟩ = some (.string x) := (hB.out.cell (p := ⟨b, o + k, none⟩) hb).trans hcl
      have q1 : wr.cell? ⟨b2, o2 + k, none⟩ = some (.string x) := (hB.out.cell (p := ⟨b2, o2 + k, none⟩) hb2).trans hcl2
      have g1 : (0 : Int) ≤ (k : Int) := by omega
      have g2 : (k : Int) < (n : Int) := by omega
      have HB2 := Lib.hid (fun q => below_drewN hB.out q)
      have h9 : (x.toList == x.toList) = true := by simp
      have h8 : (x.toList != x.toList) = false := by simp
      clear hcl hcl2
      go_upto_region 6 with fail
      go_quiet (fail)
      go_wp2_with fail
      go_roundg (n - (k + 1))
      case measure => have := HGK.out; omega
      case rel => exact ⟨k + 1, rfl, by omega, by go_num, HB2.out _⟩
    · obtain rfl : k = n := by omega
      go_wp2_with fail
      go_ret
      exact ⟨rfl, hB.out⟩

set_option maxHeartbeats 4000000 in
set_option maxRecDepth 100000 in
theorem refKeys_any (ms : List Me) (es : List En) (A : Option Addr) (n c : Nat) (kd : Int) (w : World) (ha : Reads w w.heap.size 3 A n (meCells ms)) (hn : n = ms.length) (nn : n ≤ 60000) (hes : ms.map Me.en = es) :
    Calls Try.prog 34 #[.slice A n c, .int .i64 kd] w (KeysGot w kd es) := by
  have HN := Lib.hid hn
  have HN2 : Hid (es.length = n) := by rw [Hid, ← hes, List.length_map, hn]
  have HES := Lib.hid hes
  have HA := Lib.hid ha
  clear ha hn hes
  obtain ⟨i0, hi0, hz0, hz1, hz2⟩ := info_parts info_string
  go_enter Try.func34, Try.ntmps34
  go_wp2_with fail
  go_loopg [5, 6] n (fun gk v i wr => ∃ (k : Nat) (ks : List ByteArray), gk = n - k ∧ k ≤ n ∧ i = .int .i64 k ∧ Hid (wr.ownsRow w.heap.size 9 1 v ks.length (ks.map Value.string)) ∧ Hid (ks.map tlB ++ keysE kd (ks.map tlB) (es.drop k) = keysE kd [] es) ∧
    Hid (∀ x, x ∈ ks ↔ ∃ j, ∃ h : j < ms.length, j < k ∧ AtPl (ms[j]'h) kd x) ∧ Hid (ks.length ≤ k) ∧ Hid (Below w.heap.size w wr))
  case atStart => exact ⟨0, [], by omega, by omega, rfl, World.ownsRow_nil _ _ _ _, rfl, fun x => ⟨fun h => by simp at h, fun ⟨j, _, h, _⟩ => absurd h (Nat.not_lt_zero _)⟩, Nat.le_refl _, Below.refl _ _⟩
  case round =>
    obtain ⟨k, ks, hgk, hk, rfl, ho, hks, hin, hkl, hB⟩ := hrel
    have HGK := Lib.hid hgk
    clear hgk
    by_cases hlt : k < n
    · have hkm : k < ms.length := by have := HN.out; omega
      have cT := meCells_cut ms k hkm
      obtain ⟨b, o, rfl, hb, hcl⟩ := HA.out.chunk (by omega) hlt cT
      have HST := keysE_step (k := kd) HES.out hkm ks
      have HIN2 : Hid (∀ x, (∃ j, ∃ h : j < ms.length, j < k + 1 ∧ AtPl (ms[j]'h) kd x) ↔ (∃ j, ∃ h : j < ms.length, j < k ∧ AtPl (ms[j]'h) kd x) ∨ AtPl (ms[k]'hkm) kd x) := fun x => by
        constructor
        · rintro ⟨j, h, hj, ha⟩
          rcases Nat.lt_or_ge j k with h2 | h2
          · exact .inl ⟨j, h, h2, ha⟩
          · obtain rfl : j = k := by omega
            exact .inr ha
        · rintro (⟨j, h, hj, ha⟩ | ha)
          · exact ⟨j, h, by omega, ha⟩
          · exact ⟨k, hkm, by omega, ha⟩
      generalize ms[k] = m at *
      rw [hks.out] at HST
      have HST := Lib.hid HST
      have Q1 : Hid (∀ W, Below wr.heap.size wr W → W.cell? ⟨b, o + k * 3 + 1, none⟩ = some (.string m.key)) := fun W hW => ((hB.out.then_ hW).cell (p := ⟨b, o + k * 3 + 1, none⟩) hb).trans (hcl 1 _ rfl)
      have q0 : wr.cell? ⟨b, o + k * 3, none⟩ = some (.int .i64 m.kind) := (hB.out.cell (p := ⟨b, o + k * 3, none⟩) hb).trans (hcl 0 _ rfl)
      have g1 : (0 : Int) ≤ (k : Int) := by omega
      have g2 : (k : Int) < (n : Int) := by omega
      have HBB : Hid (b < w.heap.size) := hb
      obtain ⟨t0, ht0⟩ : ∃ t0, (m.kind == kd) = t0 := ⟨_, rfl⟩
      have HT0 : Hid (t0 = true ↔ m.kind = kd) := by rw [Hid, ← ht0]; exact beq_iff_eq
      clear hcl cT hb hks
      go_wp2_with fail
      clear ht0 q0
      obtain ⟨W1, rfl⟩ : ∃ x, x = wr := ⟨_, rfl⟩
      go_loopg [7, 8] k (fun gk2 tv jv W3 => ∃ (p : Nat) (t : Bool), gk2 = k - p ∧ p ≤ k ∧ tv = .bool t ∧ jv = .int .i64 p ∧ Hid (t = true ↔ (m.kind = kd ∧ ∀ j (h : j < ms.length), j < p → ¬ AtPl (ms[j]'h) kd m.key)) ∧ Hid (Below W1.heap.size W1 W3))
      case atStart => exact ⟨0, t0, by omega, by omega, rfl, rfl, ⟨fun h => ⟨HT0.out.1 h, fun _ _ h => absurd h (Nat.not_lt_zero _)⟩, fun h => HT0.out.2 h.1⟩, Below.refl _ _⟩
      case round =>
        obtain ⟨p, t, hgk2, hp, rfl, rfl, ht, hB3⟩ := hrel
        have HGK2 := Lib.hid hgk2
        clear hgk2
        by_cases hlp : p < k
        · have hpm : p < ms.length := by omega
          have cT := meCells_cut ms p hpm
          obtain ⟨b', o', e', -, hcl⟩ := HA.out.chunk (by omega) (show p < n by omega) cT
          injection e' with e'
          injection e' with e1 e2
          subst e1 e2
          have HT2 : Hid (∀ t', (t' = true ↔ (t = true ∧ ¬ AtPl (ms[p]'hpm) kd m.key)) → (t' = true ↔ (m.kind = kd ∧ ∀ j (h : j < ms.length), j < p + 1 → ¬ AtPl (ms[j]'h) kd m.key))) := fun t' h => by
            rw [h, ht.out]
            constructor
            · rintro ⟨⟨h1, h2⟩, h3⟩
              refine ⟨h1, fun j hj hjp => ?_⟩
              rcases Nat.lt_or_ge j p with h4 | h4
              · exact h2 j hj h4
              · obtain rfl : j = p := by omega
                exact h3
            · rintro ⟨h1, h2⟩
              exact ⟨⟨h1, fun j hj hjp => h2 j hj (by omega)⟩, h2 p hpm (by omega)⟩
          generalize ms[p] = x at *
          have hbw := hB.out.then_ hB3.out
          have q0 : wr.cell? ⟨b, o + p * 3, none⟩ = some (.int .i64 x.kind) := (hbw.cell (p := ⟨b, o + p * 3, none⟩) HBB.out).trans (hcl 0 _ rfl)
          have q1 : wr.cell? ⟨b, o + p * 3 + 1, none⟩ = some (.string x.key) := (hbw.cell (p := ⟨b, o + p * 3 + 1, none⟩) HBB.out).trans (hcl 1 _ rfl)
          have q2 : wr.cell? ⟨b, o + k * 3 + 1, none⟩ = some (.string m.key) := Q1.out _ hB3.out
          have HB4 := Lib.hid (fun q => below_drewN hB3.out q)
          have g3 : (0 : Int) ≤ (p : Int) := by omega
          have g4 : (p : Int) < (n : Int) := by omega
          clear hcl cT hbw ht
          cases t
          · have HT3 := Lib.hid (HT2.out false (by simp))
            clear HT2
            go_upto_region 9 with fail
            go_quiet (fail)
            go_wp2_with fail
            go_roundg (k - (p + 1))
            case measure => have := HGK2.out; omega
            case rel => exact ⟨p + 1, false, rfl, by omega, rfl, by go_num, HT3, HB4.out _⟩
          · by_cases h1 : x.kind = kd
            · by_cases h2 : x.key = m.key
              · have HT3 := Lib.hid (HT2.out false (by simp [AtPl, h1, h2]))
                have h3 : (x.kind == kd) = true := by simp [h1]
                have h4 : (x.key.toList == m.key.toList) = true := by simp [h2]
                have h5 : x.key.toList = m.key.toList := by rw [h2]
                clear HT2 h1 h2
                go_upto_region 9 with fail
                go_quiet (fail)
                go_wp2_with fail
                go_roundg (k - (p + 1))
                case measure => have := HGK2.out; omega
                case rel => exact ⟨p + 1, false, rfl, by omega, rfl, by go_num, HT3, HB4.out _⟩
              · have HT3 := Lib.hid (HT2.out true (by simp [AtPl, h1, h2]))
                have h3 : (x.kind == kd) = true := by simp [h1]
                have h4 : (x.key.toList == m.key.toList) = false := by simpa using fun e => h2 (tl_inj e)
                clear HT2 h1 h2
                go_upto_region 9 with fail
                go_quiet (fail)
                go_wp2_with fail
                go_roundg (k - (p + 1))
                case measure => have := HGK2.out; omega
                case rel => exact ⟨p + 1, true, rfl, by omega, rfl, by go_num, by simpa [Hid] using HT3.out, HB4.out _⟩
            · have HT3 := Lib.hid (HT2.out true (by simp [AtPl, h1]))
              have h3 : (x.kind == kd) = false := by simp [h1]
              clear HT2 h1
              go_upto_region 9 with fail
              go_quiet (fail)
              go_wp2_with fail
              go_roundg (k - (p + 1))
              case measure => have := HGK2.out; omega
              case rel => exact ⟨p + 1, true, rfl, by omega, rfl, by go_num, by simpa [Hid] using HT3.out, HB4.out _⟩
        · obtain rfl : p = k := by omega
          have HBA := Lib.hid (hB.out.then_ hB3.out)
          have HO3 := Lib.hid (own_other ho.out (Kept.of_below (S := fun _ => False) hB3.out) (fun _ _ h => h))
          have hkey : Hid (m.key ∈ ks ↔ ∃ j, ∃ h : j < ms.length, j < p ∧ AtPl (ms[j]'h) kd m.key) := hin.out m.key
          cases t
          · have hst := HST.out
            have hno : ¬ (m.kind = kd ∧ ¬ tlB m.key ∈ ks.map tlB) := fun h => by
              have h1 := ht.out.2 ⟨h.1, fun j hj hjp ha => h.2 (inL_tl.1 (hkey.out.2 ⟨j, hj, hjp, ha⟩))⟩
              cases h1
            rw [if_neg hno] at hst
            have HS2 := Lib.hid hst.symm
            have HI2 : Hid (∀ x, x ∈ ks ↔ ∃ j, ∃ h : j < ms.length, j < p + 1 ∧ AtPl (ms[j]'h) kd x) := fun x => by
              rw [HIN2.out x, ← hin.out x]
              refine ⟨.inl, ?_⟩
              rintro (h | h)
              · exact h
              · have h1 : tlB m.key ∈ ks.map tlB := Decidable.byContradiction fun h3 => hno ⟨h.1, h3⟩
                have h2 := inL_tl.2 h1
                rw [h.2] at h2
                exact h2
            clear hst hno HST HIN2 hin ht ho
            go_wp2_with fail
            go_roundg (n - (p + 1))
            case measure => have := HGK.out; omega
            case rel => exact ⟨p + 1, ks, rfl, by omega, by go_num, HO3, HS2, HI2, Nat.le_succ_of_le hkl.out, HBA⟩
          · obtain ⟨hk1, hk2⟩ := ht.out.1 rfl
            have hst := HST.out
            rw [if_pos ⟨hk1, fun h => by obtain ⟨j, hj, hjp, ha⟩ := hkey.out.1 (inL_tl.2 h); exact hk2 j hj hjp ha⟩] at hst
            have HS2 := Lib.hid hst.symm
            have HI2 : Hid (∀ x, x ∈ ks ++ [m.key] ↔ ∃ j, ∃ h : j < ms.length, j < p + 1 ∧ AtPl (ms[j]'h) kd x) := fun x => by
              rw [HIN2.out x, ← hin.out x, List.mem_append, List.mem_singleton]
              exact or_congr Iff.rfl ⟨fun h => ⟨hk1, h.symm⟩, fun h => h.2.symm⟩
            have q2 : wr.cell? ⟨b, o + p * 3 + 1, none⟩ = some (.string m.key) := Q1.out _ hB3.out
            obtain ⟨A1, c1, rfl, hn1, hc1, r1⟩ := own_form HO3.out
            have hb1 := Lib.hid (own_base HO3.out)
            have HO := Lib.hid (World.ownsRow.alloc (w := wr) HO3.out (.cells #[.string m.key] 9))
            have RD := Lib.hid (new_string wr m.key 9)
            have ONE := Lib.hid (str_one m.key)
            obtain ⟨nl, hnl⟩ : ∃ q, ks.length = q := ⟨_, rfl⟩
            have HNL := Lib.hid hnl
            have hkl' := hkl.out
            have hbz := HBA.out.size
            rw [hnl] at HO hkl' hn1 hb1 ⊢
            clear hst HST HIN2 hin ht ho hk1 hk2 r1 hnl HO3
            go_upto_region 11 with fail
            go_wp2_with (at_builtin; refine wpList_append_any _ rfl (.tmp 52) (.tmp 58) 57 rfl w.heap.size 9 i0 _ 1 16 Try.underlying57 hi0 hz0 hz1 hz2 rfl (by omega) _ nl _ rfl HO.out _ _ 1 1 [.string m.key] rfl RD.out ONE.out (by unfold maxLen; omega) (by omega) (by simp; omega) ?_; intro v8 w8 o8 g8 at8)
            have K8 : Kept (fun z => Value.ownBlock (.slice A1 nl c1) = some z) wr w8 := (Kept.of_below (S := fun z => Value.ownBlock (.slice A1 nl c1) = some z) ((Below.refl _ wr).al (.cells #[.string m.key] 9))).then_ (Kept.of_grown (S := fun z => Value.ownBlock (.slice A1 nl c1) = some z) g8 (fun q e => e)) (fun _ _ h => h)
            have O8 : Hid (w8.ownsRow w.heap.size 9 1 v8 (ks ++ [m.key]).length ((ks ++ [m.key]).map Value.string)) := by
              rw [Hid, List.length_append, List.map_append, HNL.out]
              exact o8
            have F8 : Hid (Below w.heap.size w w8) := HBA.out.trans (K8.to_below (by omega) (fun q hq e => by have := hb1.out q e; omega))
            have L8 : Hid ((ks ++ [m.key]).length ≤ p + 1) := by have e := HNL.out; rw [Hid, List.length_append, List.length_singleton]; omega
            clear o8 g8 at8 K8 RD ONE HO q2
            go_wp2_with fail
            go_roundg (n - (p + 1))
            case measure => have := HGK.out; omega
            case rel => exact ⟨p + 1, ks ++ [m.key], rfl, by omega, by go_num, O8, HS2, HI2, L8, F8⟩
    · obtain rfl : k = n := by omega
      have h3 := hks.out
      rw [List.drop_of_length_le (by rw [HN2.out]; exact Nat.le_refl _)] at h3
      have h4 : Hid (ks.map tlB = keysE kd [] es) := by rw [Hid, ← h3]; exact (List.append_nil _).symm
      clear h3 hks
      go_wp2_with fail
      go_ret
      exact ⟨_, ks, rfl, ho.out, h4.out, hB.out⟩
end Go.Proofs.Ytidppcaohkfnfaa
