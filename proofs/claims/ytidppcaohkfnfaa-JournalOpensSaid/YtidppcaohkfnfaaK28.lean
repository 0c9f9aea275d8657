
/-
  JournalOpens: the law's walk.
-/
import Derived.Test.YtidppcaohkfnfaaK27
namespace Go.Proofs.Ytidppcaohkfnfaa
open Go.RowKit

theorem allB_ge : ∀ es : List En, es.length ≤ (allB D8 es).length
  | [] => by simp [allB]
  | e :: es => by
    have h1 := allB_ge es
    have h2 := entryB_long e
    have h3 : (allB D8 (e :: es)).length = (entryB D8 e).length + (allB D8 es).length := by simp [allB]
    rw [List.length_cons]
    omega

set_option maxHeartbeats 4000000 in
set_option maxRecDepth 100000 in
theorem journalOpens_walk (A : Option Addr) (n0 c : Nat) (l : List UInt8) (w : World) (ha : RB w A n0 l) (hc : n0 ≤ c) (hcm : c ≤ 9223372036854775807) :
    Calls Try.prog 4 #[.slice A n0 c] w (Tells w true) := by
  obtain ⟨n, hn⟩ : ∃ n, n = min n0 600 := ⟨_, rfl⟩
  have y0 : min (n0 : Int) 600 = (n : Int) := by omega
  have y1 : (n : Int) ≤ (c : Int) := by omega
  have y2 : (0 : Int) ≤ (n : Int) := by omega
  have hnc : n ≤ c := by omega
  have hn6 : n ≤ 600 := by omega
  have hb := ha.upto (k := n) (by omega)
  generalize l.take n = b at hb
  have HN := Lib.hid hn
  have HBL := Lib.hid hb.len
  have HB := Lib.hid hb
  have OP := Lib.hid (open_any' A n c b w hb hnc hcm (by omega))
  clear ha hn hb
  go_enter Try.func4, Try.ntmps4
  go_wp2_with fail
  refine OP.out.mono ?_
  rintro e w1 ⟨S, g, es, r, rfl, j1, hS, ho1, b1⟩
  have HO := Lib.hid ho1
  obtain ⟨k, hk⟩ : ∃ k, (allB D8 es).length = k := ⟨_, rfl⟩
  have hkn : k ≤ n := by
    have := congrArg List.length ho1.1
    rw [List.length_append, hk, ← HBL.out] at this
    omega
  have hrn : r = [] ↔ k = n := by
    have := congrArg List.length ho1.1
    rw [List.length_append, hk, ← HBL.out] at this
    constructor
    · rintro rfl
      simpa using this.symm
    · intro h
      exact List.eq_nil_of_length_eq_zero (by omega)
  have htk : b.take k = allB D8 es := by
    rw [ho1.1, ← hk, List.take_left]
  have hel : es.length ≤ k := by rw [← hk]; exact allB_ge es
  rw [hk]
  have HK := Lib.hid hk
  have HTK := Lib.hid htk
  have HJ1 := Lib.hid j1
  have RO := Lib.hid (refOpen_any A n c b w1 (HB.out.below b1) hnc hcm (by omega))
  have F1 := Lib.hid b1
  clear OP j1 hS ho1 b1 hk htk
  go_wp2_with fail
  refine RO.out.mono ?_
  rintro e w2 ⟨v, ns, r2, rfl, ho2, hok2, hop2, b2⟩
  obtain ⟨hes, -⟩ := opens_inj hop2 HO.out
  obtain ⟨A2, c2, rfl, hn2, hc2, r2⟩ := own_form ho2
  rw [hes, HK.out]
  have HES := Lib.hid hes
  have HOK2 := Lib.hid hok2
  have HR2 := Lib.hid r2
  have HJ2 := Lib.hid (HJ1.out.below b2)
  have F2 := Lib.hid (F1.out.then_ b2)
  have RB2 := Lib.hid (HB.out.below F2.out)
  obtain ⟨q, hq⟩ : ∃ q, ns.length = q := ⟨_, rfl⟩
  rw [hq] at hn2 ⊢
  have HQ := Lib.hid hq
  have hql : q ≤ 600 := by
    have := congrArg List.length hes
    rw [List.length_map] at this
    omega
  clear ho2 hok2 hop2 hes r2 b2 HJ1 F1 HB RO hq
  have rr : Below w2.heap.size w2 w2.drew := (Below.refl _ w2).drew
  have CK : Hid (∀ W, Below w2.heap.size w2 W → Jn W S g es) := fun W h => HJ2.out.below h
  have CB : Hid (∀ W, Below w2.heap.size w2 W → RB W A k (allB D8 es)) := fun W h => by
    have := (RB2.out.below h).upto (k := k) hkn
    rw [HTK.out] at this
    exact this
  have CR : Hid (∀ W, Below w2.heap.size w2 W → Reads W W.heap.size 3 A2 q (meCells ns)) := fun W h => by
    have h1 := HR2.out
    rw [HQ.out] at h1
    exact (h1.below h).more h.size
  have CO : Hid (∀ W, Below w2.heap.size w2 W → ∀ x ∈ ns, x.Ok (fun k => w1.heap.size ≤ k) W ∧ x.n ≤ 140737488355328) := fun W h x hx => ⟨(HOK2.out x hx).1.below h, by have := (HOK2.out x hx).2.2.2.2; omega⟩
  have hel2 : es.length ≤ 600 := by omega
  have hkc : (k : Int) ≤ (c : Int) := by omega
  have hk0 : (0 : Int) ≤ (k : Int) := by omega
  have TT : Hid (k ≤ 600 ∧ (allB D8 es).length = k) := ⟨by omega, HK.out⟩
  obtain ⟨tn, htn⟩ : ∃ tn, tornE r = tn := ⟨_, rfl⟩
  rw [htn]
  have HTN : Hid ((tn = 0 ∧ k = n) ∨ (tn = 26 ∧ ¬ k = n)) := by
    rw [Hid, ← htn]
    by_cases h : r = []
    · exact .inl ⟨by rw [h, torn_nil], hrn.1 h⟩
    · exact .inr ⟨torn_some h, fun e => h (hrn.2 e)⟩
  clear hrn htn hel HJ2 HR2 HOK2 RB2 HK HTK
  rcases HTN.out with ⟨rfl, hkn'⟩ | ⟨rfl, hkn'⟩
  · obtain rfl : k = n := hkn'
    clear HTN
    go_upto_region 6 with fail
    go_region_held3 (fun _ => True)
      (trivial)
      (first
      | (go_at_call 14; refine (known_any _).mono ?_; rintro e w5 ⟨rfl, b5⟩; have rr := rr.then_ b5)
      | (go_at_call 21; refine (all_any S g es _ (CK.out _ rr) (by omega)).mono ?_; rintro e w6 ⟨ls, rfl, har, hls, b6⟩; have rr := rr.then_ b6)
      | (go_at_call 20; refine (lsame_any _ _ ls ns _ A2 ls.length _ q c2 _ har.reads rfl (CR.out _ rr) HQ.out.symm (fun x hx => ⟨(har.own x hx).2.1, by have := (har.own x hx).2.2.2.2.2; omega⟩) (CO.out _ rr) (by have h1 := congrArg List.length hls; rw [List.length_map] at h1; omega)).mono ?_; rintro e w7 ⟨rfl, b7⟩; have rr := rr.then_ b7; rw [decide_eq_true (hls.trans HES.out.symm)])
      | (go_at_call 17; refine (jbytes_any S g es _ (CK.out _ rr) (by omega)).mono ?_; rintro e w8 ⟨v8, rfl, o8, b8⟩; have rr := rr.then_ b8; obtain ⟨A8, n8, c8, rfl, hc8, hm8, r8⟩ := o8.got)
      | (go_at_call 16; refine (same_true A8 A n8 c8 k c _ _ _ r8 (CB.out _ rr) (by have h1 := r8.len; have h2 := TT.out; omega) rfl).mono ?_; rintro e w9 ⟨rfl, b9⟩; have rr := rr.then_ b9))
    all_goals
      go_wp2_with fail
      go_ret
      exact ⟨rfl, F2.out.then_ rr⟩
  · have g1 : ¬ (k : Int) = (n : Int) := by omega
    have g2 : ((k : Int) == (n : Int)) = false := by simp; omega
    clear HTN
    go_upto_region 6 with fail
    go_region_held3 (fun _ => True)
      (trivial)
      (first
      | (go_at_call 14; refine (known_any _).mono ?_; rintro e w5 ⟨rfl, b5⟩; have rr := rr.then_ b5)
      | (go_at_call 21; refine (all_any S g es _ (CK.out _ rr) (by omega)).mono ?_; rintro e w6 ⟨ls, rfl, har, hls, b6⟩; have rr := rr.then_ b6)
      | (go_at_call 20; refine (lsame_any _ _ ls ns _ A2 ls.length _ q c2 _ har.reads rfl (CR.out _ rr) HQ.out.symm (fun x hx => ⟨(har.own x hx).2.1, by have := (har.own x hx).2.2.2.2.2; omega⟩) (CO.out _ rr) (by have h1 := congrArg List.length hls; rw [List.length_map] at h1; omega)).mono ?_; rintro e w7 ⟨rfl, b7⟩; have rr := rr.then_ b7; rw [decide_eq_true (hls.trans HES.out.symm)])
      | (go_at_call 17; refine (jbytes_any S g es _ (CK.out _ rr) (by omega)).mono ?_; rintro e w8 ⟨v8, rfl, o8, b8⟩; have rr := rr.then_ b8; obtain ⟨A8, n8, c8, rfl, hc8, hm8, r8⟩ := o8.got)
      | (go_at_call 16; refine (same_true A8 A n8 c8 k c _ _ _ r8 (CB.out _ rr) (by have h1 := r8.len; have h2 := TT.out; omega) rfl).mono ?_; rintro e w9 ⟨rfl, b9⟩; have rr := rr.then_ b9))
    all_goals
      go_wp2_with fail
      go_ret
      exact ⟨rfl, F2.out.then_ rr⟩
end Go.Proofs.Ytidppcaohkfnfaa
