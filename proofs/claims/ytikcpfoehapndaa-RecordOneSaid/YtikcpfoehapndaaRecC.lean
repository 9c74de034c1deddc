/-
  Layer 3: whether a batch may be: contracts.
-/
import Derived.Test.YtikcpfoehapndaaRecB
import Derived.Test.YtikcpfoehapndaaRecM
set_option linter.unusedVariables false
set_option linter.unusedSimpArgs false
namespace Go.Proofs.Ytikcpfoehapndaa
open Go.RowKit
attribute [local go_sem] ByteArray.extract_mk ByteArray.mk_append_mk

set_option maxHeartbeats 1000000 in
set_option maxRecDepth 100000 in
theorem all3_any (p e s : Int) (v : Value) (l : List Rec) (w : World) (hl : RecsIn w v l) (hbd : RecsBd l) :
    RetB Try.prog 17 #[.agg #[.int .i64 p, .int .i64 e, .int .i64 s, v]] w (.int .i64 (rall p e s l)) := by
  refine RetB.intro fun R hR => ?_
  have n1 := fun w => number3_any p w
  have n2 := fun w => number3_any e w
  have n3 := fun w => number3_any s w
  obtain ⟨a, cap, hv⟩ := hl.form
  have hlen : l.length ≤ 9223372036854775807 := by have := hbd.1; unfold maxLen at this; omega
  by_cases h0 : (numB p && numB e && numB s) = true
  · simp only [Bool.and_eq_true] at h0
    obtain ⟨⟨h01, h02⟩, h03⟩ := h0
    have hr : rall p e s l = if l = [] then 30 else if 16 < l.length then 2 else rchecks l := by unfold rall; rw [if_neg (by simp [h01, h02, h03])]
    rw [h01] at n1
    rw [h02] at n2
    rw [h03] at n3
    rw [hr] at hR
    clear hr h01 h02 h03
    by_cases h1 : l = []
    · subst h1
      rw [if_pos rfl] at hR
      subst hv
      go_enter Try.func17, Try.ntmps17
      go_wp2_with fail
      refine (n1 _).use ?_
      go_wp2_with fail
      refine (n2 _).use ?_
      go_wp2_with fail
      refine (n3 _).use ?_
      go_wp2_with fail
      exact finB hR (below_all (Below.refl _ _)) rfl
    · rw [if_neg h1] at hR
      by_cases h2 : 16 < l.length
      · rw [if_pos h2] at hR
        subst hv
        have h3 : ((l.length : Int) == 0) = false := by simp; omega
        go_enter Try.func17, Try.ntmps17
        go_wp2_with fail
        refine (n1 _).use ?_
        go_wp2_with fail
        refine (n2 _).use ?_
        go_wp2_with fail
        refine (n3 _).use ?_
        go_wp2_with fail
        exact finB hR (below_all (Below.refl _ _)) rfl
      · rw [if_neg h2] at hR
        rcases hl with ⟨rfl, _⟩ | ⟨b, off, cap, rfl, _, hlt, hc⟩
        · exact absurd rfl h1
        clear hv
        have h3 : ((l.length : Int) == 0) = false := by simp; omega
        have h4 : l.length ≤ 16 := by omega
        have HC := Lib.hid hc
        have HB := Lib.hid hbd
        clear hc hbd h1 h2
        go_enter Try.func17, Try.ntmps17
        go_wp2_with fail
        refine (n1 _).use ?_
        go_wp2_with fail
        refine (n2 _).use ?_
        go_wp2_with fail
        refine (n3 _).use ?_
        go_wp2_with fail
        go_loopw [4, 5, 36] (fun (v4 v5 v36 : Value) (wr : World) => ∃ k : Nat, k ≤ l.length ∧ v36 = .int .i64 (k : Int) ∧ Hid (rchecks (l.drop k) = rchecks l) ∧ Below w.heap.size w wr) (fun (v4 v5 v36 : Value) (wr : World) => (l.length - intOf v36).toNat)
        case atStart => exact ⟨0, by omega, rfl, rfl, below_all (Below.refl _ _)⟩
        case round =>
          obtain ⟨k, hk, rfl, hch, hnx⟩ := hrel
          by_cases hkl : k < l.length
          · have hbk := HB.out.2 _ (List.getElem_mem hkl)
            obtain ⟨c0, c1, c2, c3⟩ := (HC.out k hkl).keep fun j => hnx.cell (p := ⟨b, j, none⟩) hlt
            have hltr : b < wr.heap.size := Nat.lt_of_lt_of_le hlt hnx.size
            have hcc := fun w => check_any l[k].hk l[k].tb l[k].key l[k].val w hbk.1 hbk.2
            have hok : rcheck l[k].hk l[k].key l[k].tb l[k].val = l[k].ok := rfl
            rw [hok] at hcc
            have hst := fun h => Lib.hid (rchecks_step hkl h)
            have hsp := fun h => Lib.hid (rchecks_stop hkl h)
            clear hok hbk
            generalize l[k] = r at *
            obtain ⟨o, ho⟩ : ∃ o, r.ok = o := ⟨_, rfl⟩
            rw [ho] at hcc hst hsp
            clear ho
            by_cases h5 : o = 0
            · subst h5
              have hst0 := hst rfl
              have hcc : ∀ w, RetB Try.prog 15 _ w (.int .i64 0) := hcc
              clear hsp hst
              go_wp2_with (go_at_call 15; refine (hcc _).use ?_; intro w1 hb1)
              go_roundw
              case rel => exact ⟨k + 1, by omega, by go_num, Lib.hid (hst0.out.trans hch.out), below_any (Nat.le_refl _) (below_all hnx) hb1⟩
              case measure => simp [intOf]; omega
            · have hsp0 := hsp h5
              clear hst hsp
              have h6 : ((o : Int) != 0) = true := by simpa using h5
              have h7 : ((o : Int) == 0) = false := by simpa using h5
              clear h5
              go_wp2_with (go_at_call 15; refine (hcc _).use ?_; intro w1 hb1)
              exact finB hR (below_any (Nat.le_refl _) (below_all hnx) hb1) (veq_int (by rw [← hch.out, hsp0.out]))
          · have hle : l.length ≤ k := by omega
            have hend := Lib.hid (rchecks_end hle)
            go_wp2
            exact finB hR hnx (veq_int (by rw [← hch.out, hend.out]; rfl))
  · have hr : rall p e s l = 1 := by unfold rall; rw [if_pos (by simpa using h0)]
    rw [hr] at hR
    clear hr hl hbd
    subst hv
    by_cases h01 : numB p = true
    · rw [h01] at n1
      by_cases h02 : numB e = true
      · rw [h02] at n2
        have h03 : numB s = false := by simpa [h01, h02] using h0
        rw [h03] at n3
        clear h0 h01 h02 h03
        go_enter Try.func17, Try.ntmps17
        go_wp2_with fail
        refine (n1 _).use ?_
        go_wp2_with fail
        refine (n2 _).use ?_
        go_wp2_with fail
        refine (n3 _).use ?_
        go_wp2_with fail
        exact finB hR (below_all (Below.refl _ _)) rfl
      · have h02 : numB e = false := by simpa using h02
        rw [h02] at n2
        clear h0 h01 h02
        go_enter Try.func17, Try.ntmps17
        go_wp2_with fail
        refine (n1 _).use ?_
        go_wp2_with fail
        refine (n2 _).use ?_
        go_wp2_with fail
        exact finB hR (below_all (Below.refl _ _)) rfl
    · have h01 : numB p = false := by simpa using h01
      rw [h01] at n1
      clear h0 h01
      go_enter Try.func17, Try.ntmps17
      go_wp2_with fail
      refine (n1 _).use ?_
      go_wp2_with fail
      exact finB hR (below_all (Below.refl _ _)) rfl
set_option maxHeartbeats 1000000 in
set_option maxRecDepth 100000 in
theorem rall3_any (p e s : Int) (v : Value) (l : List Rec) (w : World) (hl : RecsIn w v l) (hbd : RecsBd l) :
    RetB Try.prog 18 #[.agg #[.int .i64 p, .int .i64 e, .int .i64 s, v]] w (.int .i64 (rall p e s l)) := by
  refine RetB.intro fun R hR => ?_
  have n1 := fun w => rnum_any p w
  have n2 := fun w => rnum_any e w
  have n3 := fun w => rnum_any s w
  obtain ⟨a, cap, hv⟩ := hl.form
  have hlen : l.length ≤ 9223372036854775807 := by have := hbd.1; unfold maxLen at this; omega
  by_cases h0 : (numB p && numB e && numB s) = true
  · simp only [Bool.and_eq_true] at h0
    obtain ⟨⟨h01, h02⟩, h03⟩ := h0
    have hr : rall p e s l = if l = [] then 30 else if 16 < l.length then 2 else rchecks l := by unfold rall; rw [if_neg (by simp [h01, h02, h03])]
    rw [h01] at n1
    rw [h02] at n2
    rw [h03] at n3
    rw [hr] at hR
    clear hr h01 h02 h03
    by_cases h1 : l = []
    · subst h1
      rw [if_pos rfl] at hR
      subst hv
      go_enter Try.func18, Try.ntmps18
      go_wp2_with fail
      refine (n1 _).use ?_
      go_wp2_with fail
      refine (n2 _).use ?_
      go_wp2_with fail
      refine (n3 _).use ?_
      go_wp2_with fail
      exact finB hR (below_all (Below.refl _ _)) rfl
    · rw [if_neg h1] at hR
      by_cases h2 : 16 < l.length
      · rw [if_pos h2] at hR
        subst hv
        have h3 : ((l.length : Int) == 0) = false := by simp; omega
        go_enter Try.func18, Try.ntmps18
        go_wp2_with fail
        refine (n1 _).use ?_
        go_wp2_with fail
        refine (n2 _).use ?_
        go_wp2_with fail
        refine (n3 _).use ?_
        go_wp2_with fail
        exact finB hR (below_all (Below.refl _ _)) rfl
      · rw [if_neg h2] at hR
        rcases hl with ⟨rfl, _⟩ | ⟨b, off, cap, rfl, _, hlt, hc⟩
        · exact absurd rfl h1
        clear hv
        have h3 : ((l.length : Int) == 0) = false := by simp; omega
        have h4 : l.length ≤ 16 := by omega
        have HC := Lib.hid hc
        have HB := Lib.hid hbd
        clear hc hbd h1 h2
        go_enter Try.func18, Try.ntmps18
        go_wp2_with fail
        refine (n1 _).use ?_
        go_wp2_with fail
        refine (n2 _).use ?_
        go_wp2_with fail
        refine (n3 _).use ?_
        go_wp2_with fail
        go_loopw [3, 4] (fun (v3 v4 : Value) (wr : World) => ∃ k : Nat, k ≤ l.length ∧ v3 = .int .i64 (k : Int) ∧ Hid (rchecks (l.drop k) = rchecks l) ∧ Below w.heap.size w wr ∧ Blk wr w.heap.size #[.int .i64 p, .int .i64 e, .int .i64 s, .slice (some ⟨b, off, none⟩) l.length cap] 26) (fun (v3 v4 : Value) (wr : World) => (l.length - intOf v3).toNat)
        case atStart => exact ⟨0, by omega, rfl, rfl, below_all (Below.refl _ _), Blk.new _ _ _⟩
        case round =>
          obtain ⟨k, hk, rfl, hch, hnx, hbx⟩ := hrel
          obtain ⟨hz, x0, x1, x2, x3⟩ := hbx.c4
          by_cases hkl : k < l.length
          · have hbk := HB.out.2 _ (List.getElem_mem hkl)
            obtain ⟨c0, c1, c2, c3⟩ := (HC.out k hkl).keep fun j => hnx.cell (p := ⟨b, j, none⟩) hlt
            have hltr : b < wr.heap.size := Nat.lt_of_lt_of_le hlt hnx.size
            have hcc := fun w => r3check_any l[k].hk l[k].tb l[k].key l[k].val w hbk.1 hbk.2
            have hok : rcheck l[k].hk l[k].key l[k].tb l[k].val = l[k].ok := rfl
            rw [hok] at hcc
            have hst := fun h => Lib.hid (rchecks_step hkl h)
            have hsp := fun h => Lib.hid (rchecks_stop hkl h)
            clear hok hbk
            generalize l[k] = r at *
            obtain ⟨o, ho⟩ : ∃ o, r.ok = o := ⟨_, rfl⟩
            rw [ho] at hcc hst hsp
            clear ho
            by_cases h5 : o = 0
            · subst h5
              have hst0 := hst rfl
              have hcc : ∀ w, RetB Try.prog 16 _ w (.int .i64 0) := hcc
              clear hsp hst
              go_wp2_with (go_at_call 16; refine (hcc _).use ?_; intro w1 hb1)
              go_roundw
              case rel => exact ⟨k + 1, by omega, by go_num, Lib.hid (hst0.out.trans hch.out), below_any (Nat.le_refl _) hnx hb1, hbx.below hb1⟩
              case measure => simp [intOf]; omega
            · have hsp0 := hsp h5
              clear hst hsp
              have h6 : ((o : Int) != 0) = true := by simpa using h5
              have h7 : ((o : Int) == 0) = false := by simpa using h5
              clear h5
              go_wp2_with (go_at_call 16; refine (hcc _).use ?_; intro w1 hb1)
              exact finB hR (below_any (Nat.le_refl _) hnx hb1) (veq_int (by rw [← hch.out, hsp0.out]))
          · have hle : l.length ≤ k := by omega
            have hend := Lib.hid (rchecks_end hle)
            go_wp2
            exact finB hR hnx (veq_int (by rw [← hch.out, hend.out]; rfl))
  · have hr : rall p e s l = 1 := by unfold rall; rw [if_pos (by simpa using h0)]
    rw [hr] at hR
    clear hr hl hbd
    subst hv
    by_cases h01 : numB p = true
    · rw [h01] at n1
      by_cases h02 : numB e = true
      · rw [h02] at n2
        have h03 : numB s = false := by simpa [h01, h02] using h0
        rw [h03] at n3
        clear h0 h01 h02 h03
        go_enter Try.func18, Try.ntmps18
        go_wp2_with fail
        refine (n1 _).use ?_
        go_wp2_with fail
        refine (n2 _).use ?_
        go_wp2_with fail
        refine (n3 _).use ?_
        go_wp2_with fail
        exact finB hR (below_all (Below.refl _ _)) rfl
      · have h02 : numB e = false := by simpa using h02
        rw [h02] at n2
        clear h0 h01 h02
        go_enter Try.func18, Try.ntmps18
        go_wp2_with fail
        refine (n1 _).use ?_
        go_wp2_with fail
        refine (n2 _).use ?_
        go_wp2_with fail
        exact finB hR (below_all (Below.refl _ _)) rfl
    · have h01 : numB p = false := by simpa using h01
      rw [h01] at n1
      clear h0 h01
      go_enter Try.func18, Try.ntmps18
      go_wp2_with fail
      refine (n1 _).use ?_
      go_wp2_with fail
      exact finB hR (below_all (Below.refl _ _)) rfl
end Go.Proofs.Ytikcpfoehapndaa
