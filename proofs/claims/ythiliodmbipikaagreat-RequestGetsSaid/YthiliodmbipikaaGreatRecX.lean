import Derived.Test.YthiliodmbipikaaGreatRecA
import Derived.Test.YthiliodmbipikaaGreatRecP1
import Derived.Laws.StructEq
import Derived.Deep.RegionHeld3
import Derived.Deep.QuietTactic
import Derived.BigQuiet
/-
  Several texts in one: RecB, RecC, RecD.
-/
set_option linter.unusedVariables false
set_option linter.unusedSimpArgs false
namespace Go.Proofs.YthiliodmbipikaaGreat
open Go.RowKit
attribute [local go_sem] ByteArray.extract_mk ByteArray.mk_append_mk

set_option maxHeartbeats 1000000 in
set_option maxRecDepth 100000 in
theorem r3text_any (hk tb : Bool) (k v : List UInt8) (w : World) (h1 : k.length ≤ 1000) (h2 : v.length ≤ 1000) :
    RetB Tryz.prog 71 #[.agg #[.bool hk, .string (S k), .bool tb, .string (S v)]] w (.string (S (rtext hk k tb v))) := by
  refine RetB.intro fun R hR => ?_
  have p1 := fun w => rtext_any k w (by omega)
  have p2 := fun w => rtext_any v w (by omega)
  have l1 : (vtxt k).length ≤ 1010 := by have := vput_le k.length; unfold vtxt; rw [List.length_append]; omega
  have l2 : (vtxt v).length ≤ 1010 := by have := vput_le v.length; unfold vtxt; rw [List.length_append]; omega
  unfold rtext at hR
  generalize vtxt k = xk at *
  generalize vtxt v = xv at *
  have e0 : ∀ (c : UInt8) (l : List UInt8), Value.string { data := #[c] ++ l.toArray } = Value.string (S (c :: l)) := fun c l => by simp
  cases tb
  · cases hk
    · go_enter Tryz.func71, Tryz.ntmps71
      go_wp2_with (go_at_call 58; refine (p2 _).use ?_; intro w2 hb2)
      exact finB hR (below_any (Nat.le_refl _) (below_all (Below.refl _ _)) hb2) rfl
    · have ep : ∀ l : List UInt8, ({ data := #[1] ++ l.toArray } : ByteArray) = S (1 :: l) := fun l => by simp
      have hsz : ¬ 9223372036854775807 < 1 + xk.length := by omega
      have hsz2 : ¬ 9223372036854775807 < xk.length + 1 + xv.length := by omega
      go_enter Tryz.func71, Tryz.ntmps71
      go_wp2_with fail
      go_region_held3 (fun w' => w'.cell? ⟨w.heap.size, 1, none⟩ = some (.string (S k)) ∧ w'.cell? ⟨w.heap.size, 3, none⟩ = some (.string (S v))) (go_keep) (first | (go_at_call_of 58 (Value.string (S k)); refine (p1 _).use ?_; intro w2 hb2; have hz2 : w.heap.size < w2.heap.size := Nat.lt_of_lt_of_le (by simp) hb2.size; obtain ⟨hc2, hf2⟩ := bcell hb2) | (go_at_call_of 58 (Value.string (S v)); refine (p2 _).use ?_; intro w3 hb3; obtain ⟨hc3, hf3⟩ := bcell hb3))
      go_wp2
      exact finB hR (below_any (Nat.le_refl _) (below_any (Nat.le_refl _) (below_all (Below.refl _ _)).drew hb2) hb3) rfl
  · go_enter Tryz.func71, Tryz.ntmps71
    go_wp2_with (go_at_call 58; refine (p1 _).use ?_; intro w2 hb2)
    exact finB hR (below_any (Nat.le_refl _) (below_all (Below.refl _ _)) hb2) rfl

theorem put3_eq {hk tb : Bool} {k v : List UInt8} (h : rcheck hk k tb v = 0) : rput hk k tb v = (rtext hk k tb v, 0) := by unfold rput; rw [if_pos h]
theorem put3_ne {hk tb : Bool} {k v : List UInt8} (h : rcheck hk k tb v ≠ 0) : rput hk k tb v = ([], rcheck hk k tb v) := by unfold rput; rw [if_neg h]

set_option maxRecDepth 100000 in
theorem put3_any (hk tb : Bool) (k v : List UInt8) (w : World) (h1 : k.length ≤ maxLen) (h2 : v.length ≤ maxLen) :
    RetB Tryz.prog 38 #[.agg #[.bool hk, .string (S k), .bool tb, .string (S v)]] w (.tuple #[.string (S (rput hk k tb v).1), .int .i64 (rput hk k tb v).2]) := by
  refine RetB.intro fun R hR => ?_
  have cC := fun w => check_any hk tb k v w h1 h2
  by_cases h : rcheck hk k tb v = 0
  · obtain ⟨q1, _, _, q2, q3⟩ := rcheck_ok h
    rw [put3_eq h] at hR
    have cT := fun w => text3_any hk tb k v w q1 (by omega) (by omega)
    have cC : ∀ w, RetB Tryz.prog 63 _ w (.int .i64 0) := fun w => (cC w).cast (by rw [h]; rfl)
    generalize rtext hk k tb v = x at *
    clear h q1
    go_enter Tryz.func38, Tryz.ntmps38
    go_wp2_with fail
    refine (cC _).use ?_
    intro w1 hb1
    have B1 := (Blk.new w _ _).below hb1
    obtain ⟨hz1, c10, c11, c12, c13⟩ := B1.c4
    go_wp2_with fail
    refine (cT _).use ?_
    intro w2 hb2
    go_wp2_with fail
    exact finB hR (below_any (Nat.le_refl _) (below_any (Nat.le_refl _) (below_all (Below.refl _ _)) hb1) hb2) rfl
  · rw [put3_ne h] at hR
    obtain ⟨e, he⟩ : ∃ e, rcheck hk k tb v = e := ⟨_, rfl⟩
    rw [he] at cC hR h
    clear he
    have he : ((e : Int) == 0) = false := by simpa using h
    have he2 : ((e : Int) != 0) = true := by simpa using h
    go_enter Tryz.func38, Tryz.ntmps38
    go_wp2_with fail
    refine (cC _).use ?_
    intro w1 hb1
    go_wp2_with fail
    exact finB hR (below_any (Nat.le_refl _) (below_all (Below.refl _ _)) hb1) rfl

end Go.Proofs.YthiliodmbipikaaGreat

set_option linter.unusedVariables false
set_option linter.unusedSimpArgs false
namespace Go.Proofs.YthiliodmbipikaaGreat
open Go.RowKit
attribute [local go_sem] ByteArray.extract_mk ByteArray.mk_append_mk

set_option maxHeartbeats 1000000 in
set_option maxRecDepth 100000 in
theorem all3_any (p e s : Int) (v : Value) (l : List Rec) (w : World) (hl : RecsIn w v l) (hbd : RecsBd l) :
    RetB Tryz.prog 110 #[.agg #[.int .i64 p, .int .i64 e, .int .i64 s, v]] w (.int .i64 (rall p e s l)) := by
  refine RetB.intro fun R hR => ?_
  have n1 := fun w => number3_any p w
  have n2 := fun w => number3_any e w
  have n3 := fun w => number3_any s w
  obtain ⟨a, cap, hv⟩ := hl.form
  have hlen : l.length ≤ 9223372036854775807 := by have := hbd.1; unfold maxLen at this; omega
  by_cases h0 : (numB p && numB e && numB s) = true
  · simp only [Bool.and_eq_true] at h0
    obtain ⟨⟨h01, h02⟩, h03⟩ := h0
    have hr : rall p e s l = if l = [] then 30 else if 16 < l.length then 2 else rchecks l := by unfold rall; rw [if_neg (by simp [h01, h02, h03])]
    rw [h01] at n1
    rw [h02] at n2
    rw [h03] at n3
    rw [hr] at hR
    clear hr h01 h02 h03
    by_cases h1 : l = []
    · subst h1
      rw [if_pos rfl] at hR
      subst hv
      go_enter Tryz.func110, Tryz.ntmps110
      go_wp2_with fail
      refine (n1 _).use ?_
      go_wp2_with fail
      refine (n2 _).use ?_
      go_wp2_with fail
      refine (n3 _).use ?_
      go_wp2_with fail
      exact finB hR (below_all (Below.refl _ _)) rfl
    · rw [if_neg h1] at hR
      by_cases h2 : 16 < l.length
      · rw [if_pos h2] at hR
        subst hv
        have h3 : ((l.length : Int) == 0) = false := by simp; omega
        go_enter Tryz.func110, Tryz.ntmps110
        go_wp2_with fail
        refine (n1 _).use ?_
        go_wp2_with fail
        refine (n2 _).use ?_
        go_wp2_with fail
        refine (n3 _).use ?_
        go_wp2_with fail
        exact finB hR (below_all (Below.refl _ _)) rfl
      · rw [if_neg h2] at hR
        rcases hl with ⟨rfl, _⟩ | ⟨b, off, cap, rfl, _, hlt, hc⟩
        · exact absurd rfl h1
        clear hv
        have h3 : ((l.length : Int) == 0) = false := by simp; omega
        have h4 : l.length ≤ 16 := by omega
        have HC := Lib.hid hc
        have HB := Lib.hid hbd
        clear hc hbd h1 h2
        go_enter Tryz.func110, Tryz.ntmps110
        go_wp2_with fail
        refine (n1 _).use ?_
        go_wp2_with fail
        refine (n2 _).use ?_
        go_wp2_with fail
        refine (n3 _).use ?_
        go_wp2_with fail
        go_loopw [4, 5, 36] (fun (v4 v5 v36 : Value) (wr : World) => ∃ k : Nat, k ≤ l.length ∧ v36 = .int .i64 (k : Int) ∧ Hid (rchecks (l.drop k) = rchecks l) ∧ Below w.heap.size w wr) (fun (v4 v5 v36 : Value) (wr : World) => (l.length - intOf v36).toNat)
        case atStart => exact ⟨0, by omega, rfl, rfl, below_all (Below.refl _ _)⟩
        case round =>
          obtain ⟨k, hk, rfl, hch, hnx⟩ := hrel
          by_cases hkl : k < l.length
          · have hbk := HB.out.2 _ (List.getElem_mem hkl)
            obtain ⟨c0, c1, c2, c3⟩ := (HC.out k hkl).keep fun j => hnx.cell (p := ⟨b, j, none⟩) hlt
            have hltr : b < wr.heap.size := Nat.lt_of_lt_of_le hlt hnx.size
            have hcc := fun w => check_any l[k].hk l[k].tb l[k].key l[k].val w hbk.1 hbk.2
            have hok : rcheck l[k].hk l[k].key l[k].tb l[k].val = l[k].ok := rfl
            rw [hok] at hcc
            have hst := fun h => Lib.hid (rchecks_step hkl h)
            have hsp := fun h => Lib.hid (rchecks_stop hkl h)
            clear hok hbk
            generalize l[k] = r at *
            obtain ⟨o, ho⟩ : ∃ o, r.ok = o := ⟨_, rfl⟩
            rw [ho] at hcc hst hsp
            clear ho
            by_cases h5 : o = 0
            · subst h5
              have hst0 := hst rfl
              have hcc : ∀ w, RetB Tryz.prog 63 _ w (.int .i64 0) := hcc
              clear hsp hst
              go_wp2_with (go_at_call 63; refine (hcc _).use ?_; intro w1 hb1)
              go_roundw
              case rel => exact ⟨k + 1, by omega, by go_num, Lib.hid (hst0.out.trans hch.out), below_any (Nat.le_refl _) (below_all hnx) hb1⟩
              case measure => simp [intOf]; omega
            · have hsp0 := hsp h5
              clear hst hsp
              have h6 : ((o : Int) != 0) = true := by simpa using h5
              have h7 : ((o : Int) == 0) = false := by simpa using h5
              clear h5
              go_wp2_with (go_at_call 63; refine (hcc _).use ?_; intro w1 hb1)
              exact finB hR (below_any (Nat.le_refl _) (below_all hnx) hb1) (veq_int (by rw [← hch.out, hsp0.out]))
          · have hle : l.length ≤ k := by omega
            have hend := Lib.hid (rchecks_end hle)
            go_wp2
            exact finB hR hnx (veq_int (by rw [← hch.out, hend.out]; rfl))
  · have hr : rall p e s l = 1 := by unfold rall; rw [if_pos (by simpa using h0)]
    rw [hr] at hR
    clear hr hl hbd
    subst hv
    by_cases h01 : numB p = true
    · rw [h01] at n1
      by_cases h02 : numB e = true
      · rw [h02] at n2
        have h03 : numB s = false := by simpa [h01, h02] using h0
        rw [h03] at n3
        clear h0 h01 h02 h03
        go_enter Tryz.func110, Tryz.ntmps110
        go_wp2_with fail
        refine (n1 _).use ?_
        go_wp2_with fail
        refine (n2 _).use ?_
        go_wp2_with fail
        refine (n3 _).use ?_
        go_wp2_with fail
        exact finB hR (below_all (Below.refl _ _)) rfl
      · have h02 : numB e = false := by simpa using h02
        rw [h02] at n2
        clear h0 h01 h02
        go_enter Tryz.func110, Tryz.ntmps110
        go_wp2_with fail
        refine (n1 _).use ?_
        go_wp2_with fail
        refine (n2 _).use ?_
        go_wp2_with fail
        exact finB hR (below_all (Below.refl _ _)) rfl
    · have h01 : numB p = false := by simpa using h01
      rw [h01] at n1
      clear h0 h01
      go_enter Tryz.func110, Tryz.ntmps110
      go_wp2_with fail
      refine (n1 _).use ?_
      go_wp2_with fail
      exact finB hR (below_all (Below.refl _ _)) rfl
set_option maxHeartbeats 1000000 in
set_option maxRecDepth 100000 in
theorem rall3_any (p e s : Int) (v : Value) (l : List Rec) (w : World) (hl : RecsIn w v l) (hbd : RecsBd l) :
    RetB Tryz.prog 56 #[.agg #[.int .i64 p, .int .i64 e, .int .i64 s, v]] w (.int .i64 (rall p e s l)) := by
  refine RetB.intro fun R hR => ?_
  have n1 := fun w => rnum_any p w
  have n2 := fun w => rnum_any e w
  have n3 := fun w => rnum_any s w
  obtain ⟨a, cap, hv⟩ := hl.form
  have hlen : l.length ≤ 9223372036854775807 := by have := hbd.1; unfold maxLen at this; omega
  by_cases h0 : (numB p && numB e && numB s) = true
  · simp only [Bool.and_eq_true] at h0
    obtain ⟨⟨h01, h02⟩, h03⟩ := h0
    have hr : rall p e s l = if l = [] then 30 else if 16 < l.length then 2 else rchecks l := by unfold rall; rw [if_neg (by simp [h01, h02, h03])]
    rw [h01] at n1
    rw [h02] at n2
    rw [h03] at n3
    rw [hr] at hR
    clear hr h01 h02 h03
    by_cases h1 : l = []
    · subst h1
      rw [if_pos rfl] at hR
      subst hv
      go_enter Tryz.func56, Tryz.ntmps56
      go_wp2_with fail
      refine (n1 _).use ?_
      go_wp2_with fail
      refine (n2 _).use ?_
      go_wp2_with fail
      refine (n3 _).use ?_
      go_wp2_with fail
      exact finB hR (below_all (Below.refl _ _)) rfl
    · rw [if_neg h1] at hR
      by_cases h2 : 16 < l.length
      · rw [if_pos h2] at hR
        subst hv
        have h3 : ((l.length : Int) == 0) = false := by simp; omega
        go_enter Tryz.func56, Tryz.ntmps56
        go_wp2_with fail
        refine (n1 _).use ?_
        go_wp2_with fail
        refine (n2 _).use ?_
        go_wp2_with fail
        refine (n3 _).use ?_
        go_wp2_with fail
        exact finB hR (below_all (Below.refl _ _)) rfl
      · rw [if_neg h2] at hR
        rcases hl with ⟨rfl, _⟩ | ⟨b, off, cap, rfl, _, hlt, hc⟩
        · exact absurd rfl h1
        clear hv
        have h3 : ((l.length : Int) == 0) = false := by simp; omega
        have h4 : l.length ≤ 16 := by omega
        have HC := Lib.hid hc
        have HB := Lib.hid hbd
        clear hc hbd h1 h2
        go_enter Tryz.func56, Tryz.ntmps56
        go_wp2_with fail
        refine (n1 _).use ?_
        go_wp2_with fail
        refine (n2 _).use ?_
        go_wp2_with fail
        refine (n3 _).use ?_
        go_wp2_with fail
        go_loopw [3, 4] (fun (v3 v4 : Value) (wr : World) => ∃ k : Nat, k ≤ l.length ∧ v3 = .int .i64 (k : Int) ∧ Hid (rchecks (l.drop k) = rchecks l) ∧ Below w.heap.size w wr ∧ Blk wr w.heap.size #[.int .i64 p, .int .i64 e, .int .i64 s, .slice (some ⟨b, off, none⟩) l.length cap] 26) (fun (v3 v4 : Value) (wr : World) => (l.length - intOf v3).toNat)
        case atStart => exact ⟨0, by omega, rfl, rfl, below_all (Below.refl _ _), Blk.new _ _ _⟩
        case round =>
          obtain ⟨k, hk, rfl, hch, hnx, hbx⟩ := hrel
          obtain ⟨hz, x0, x1, x2, x3⟩ := hbx.c4
          by_cases hkl : k < l.length
          · have hbk := HB.out.2 _ (List.getElem_mem hkl)
            obtain ⟨c0, c1, c2, c3⟩ := (HC.out k hkl).keep fun j => hnx.cell (p := ⟨b, j, none⟩) hlt
            have hltr : b < wr.heap.size := Nat.lt_of_lt_of_le hlt hnx.size
            have hcc := fun w => r3check_any l[k].hk l[k].tb l[k].key l[k].val w hbk.1 hbk.2
            have hok : rcheck l[k].hk l[k].key l[k].tb l[k].val = l[k].ok := rfl
            rw [hok] at hcc
            have hst := fun h => Lib.hid (rchecks_step hkl h)
            have hsp := fun h => Lib.hid (rchecks_stop hkl h)
            clear hok hbk
            generalize l[k] = r at *
            obtain ⟨o, ho⟩ : ∃ o, r.ok = o := ⟨_, rfl⟩
            rw [ho] at hcc hst hsp
            clear ho
            by_cases h5 : o = 0
            · subst h5
              have hst0 := hst rfl
              have hcc : ∀ w, RetB Tryz.prog 70 _ w (.int .i64 0) := hcc
              clear hsp hst
              go_wp2_with (go_at_call 70; refine (hcc _).use ?_; intro w1 hb1)
              go_roundw
              case rel => exact ⟨k + 1, by omega, by go_num, Lib.hid (hst0.out.trans hch.out), below_any (Nat.le_refl _) hnx hb1, hbx.below hb1⟩
              case measure => simp [intOf]; omega
            · have hsp0 := hsp h5
              clear hst hsp
              have h6 : ((o : Int) != 0) = true := by simpa using h5
              have h7 : ((o : Int) == 0) = false := by simpa using h5
              clear h5
              go_wp2_with (go_at_call 70; refine (hcc _).use ?_; intro w1 hb1)
              exact finB hR (below_any (Nat.le_refl _) hnx hb1) (veq_int (by rw [← hch.out, hsp0.out]))
          · have hle : l.length ≤ k := by omega
            have hend := Lib.hid (rchecks_end hle)
            go_wp2
            exact finB hR hnx (veq_int (by rw [← hch.out, hend.out]; rfl))
  · have hr : rall p e s l = 1 := by unfold rall; rw [if_pos (by simpa using h0)]
    rw [hr] at hR
    clear hr hl hbd
    subst hv
    by_cases h01 : numB p = true
    · rw [h01] at n1
      by_cases h02 : numB e = true
      · rw [h02] at n2
        have h03 : numB s = false := by simpa [h01, h02] using h0
        rw [h03] at n3
        clear h0 h01 h02 h03
        go_enter Tryz.func56, Tryz.ntmps56
        go_wp2_with fail
        refine (n1 _).use ?_
        go_wp2_with fail
        refine (n2 _).use ?_
        go_wp2_with fail
        refine (n3 _).use ?_
        go_wp2_with fail
        exact finB hR (below_all (Below.refl _ _)) rfl
      · have h02 : numB e = false := by simpa using h02
        rw [h02] at n2
        clear h0 h01 h02
        go_enter Tryz.func56, Tryz.ntmps56
        go_wp2_with fail
        refine (n1 _).use ?_
        go_wp2_with fail
        refine (n2 _).use ?_
        go_wp2_with fail
        exact finB hR (below_all (Below.refl _ _)) rfl
    · have h01 : numB p = false := by simpa using h01
      rw [h01] at n1
      clear h0 h01
      go_enter Tryz.func56, Tryz.ntmps56
      go_wp2_with fail
      refine (n1 _).use ?_
      go_wp2_with fail
      exact finB hR (below_all (Below.refl _ _)) rfl
end Go.Proofs.YthiliodmbipikaaGreat

set_option linter.unusedVariables false
set_option linter.unusedSimpArgs false
namespace Go.Proofs.YthiliodmbipikaaGreat
open Go.RowKit
attribute [local go_sem] ByteArray.extract_mk ByteArray.mk_append_mk

theorem eql_rec (r s : Rec) (w : World) : (binOp .eql 35 (.agg #[.bool r.hk, .string (S r.key), .bool r.tb, .string (S r.val)]) (.agg #[.bool s.hk, .string (S s.key), .bool s.tb, .string (S s.val)])).run Tryz.prog w = .ok (.bool (decide (r = s))) w := by
  have hS : Tryz.prog.underlying 35 = some (.struct (Tryz.prog.fieldsOf 35)) := by kernel_rfl
  have hp : Tryz.prog.stoodInHeld 35 = false := by kernel_rfl
  have u1 := Tryz.underlying4
  have a1 := Tryz.isAgg4
  have z1 := Tryz.sizeOf4
  have u2 := Tryz.underlying9
  have a2 := Tryz.isAgg9
  have z2 := Tryz.sizeOf9
  rw [run_eql_struct, show (10000 : Nat) = 9999 + 1 from rfl, run_equalIn_agg w 9999 35 _ _ hS hp]
  simp only [Program.fieldsOf, Tryz.underlying35]
  go_simp
  obtain ⟨rk, rkey, rt, rv⟩ := r
  obtain ⟨sk, skey, st, sv⟩ := s
  simp only [Rec.mk.injEq, ByteArray.toList_mk]
  by_cases h1 : rk = sk <;> by_cases h2 : rkey = skey <;> by_cases h3 : rt = st <;> by_cases h4 : rv = sv <;> simp [h1, h2, h3, h4]
theorem neq_rec (r s : Rec) (w : World) : (binOp .neq 35 (.agg #[.bool r.hk, .string (S r.key), .bool r.tb, .string (S r.val)]) (.agg #[.bool s.hk, .string (S s.key), .bool s.tb, .string (S s.val)])).run Tryz.prog w = .ok (.bool (!decide (r = s))) w := by
  have h := eql_rec r s w
  rw [run_eql_struct] at h
  rw [run_neq_struct]
  generalize (Op.equalIn 10000 35 _ _).run Tryz.prog w = x at *
  cases x with
  | ok b w2 => simp only [Result.andThen_ok, Result.ok.injEq, Value.bool.injEq] at h ⊢; exact ⟨by rw [h.1], h.2⟩
  | halt x w2 => simp [Result.andThen] at h

set_option maxHeartbeats 1000000 in
set_option maxRecDepth 100000 in
theorem records_any (v1 v2 : Value) (l m : List Rec) (w : World) (h1 : RecsIn w v1 l) (h2 : RecsIn w v2 m) (b1 : l.length ≤ maxLen) (b2 : m.length ≤ maxLen) :
    RetB Tryz.prog 36 #[v1, v2] w (.bool (decide (l = m))) := by
  refine RetB.intro fun R hR => ?_
  unfold maxLen at b1 b2
  by_cases hlen : l.length = m.length
  · by_cases h0 : l = []
    · subst h0
      obtain rfl : m = [] := List.eq_nil_of_length_eq_zero hlen.symm
      obtain ⟨a1, c1, rfl⟩ := h1.form
      obtain ⟨a2, c2, rfl⟩ := h2.form
      go_enter Tryz.func36, Tryz.ntmps36
      go_wp2
      refine wp_loop_rounds 1 ?_
      rw [rounds_succ]
      go_wp2
      exact finB hR (Below.refl _ _) rfl
    · rcases h1 with ⟨rfl, _⟩ | ⟨x1, o1, c1, rfl, _, lt1, hc1⟩
      · exact absurd rfl h0
      rcases h2 with ⟨rfl, _⟩ | ⟨x2, o2, c2, rfl, _, lt2, hc2⟩
      · exact absurd (List.eq_nil_of_length_eq_zero hlen) h0
      have hg : Tryz.prog.eqGuardType Tryz.prog.depth 35 = false := by kernel_rfl
      have HL := Lib.hid hlen
      have HC1 := Lib.hid hc1
      have HC2 := Lib.hid hc2
      have q1 : ((l.length : Int) == (m.length : Int)) = true := by simp [hlen]
      have q2 : ((l.length : Int) != (m.length : Int)) = false := by simp [hlen]
      clear hc1 hc2 h0 hlen
      go_enter Tryz.func36, Tryz.ntmps36
      go_wp2
      go_loopw [5] (fun (v5 : Value) (wr : World) => ∃ k : Nat, k ≤ l.length ∧ v5 = .int .i64 (k : Int) ∧ Hid (l.take k = m.take k) ∧ Below w.heap.size w wr) (fun (v5 : Value) (wr : World) => (l.length - intOf v5).toNat)
      case atStart => exact ⟨0, by omega, rfl, rfl, Below.refl _ _⟩
      case round =>
        obtain ⟨k, hk, rfl, hch, hnx⟩ := hrel
        by_cases hkl : k < l.length
        · have hkm : k < m.length := by rw [← HL.out]; exact hkl
          obtain ⟨c10, c11, c12, c13⟩ := (HC1.out k hkl).keep fun j => hnx.cell (p := ⟨x1, j, none⟩) lt1
          obtain ⟨c20, c21, c22, c23⟩ := (HC2.out k hkm).keep fun j => hnx.cell (p := ⟨x2, j, none⟩) lt2
          have hq := neq_rec l[k] m[k]
          have hs : ∀ _ : l[k] = m[k], Hid (l.take (k + 1) = m.take (k + 1)) := fun h => by rw [List.take_succ_eq_append_getElem hkl, List.take_succ_eq_append_getElem hkm, hch.out, h]; rfl
          have hn : ∀ _ : ¬ l[k] = m[k], Hid (¬ l = m) := fun h => Lib.hid fun e => h (by subst e; rfl)
          have i1 : (0 : Int) ≤ (k : Int) := by omega
          have i2 : (k : Int) < (l.length : Int) := by omega
          have i3 : (k : Int) < (m.length : Int) := by omega
          generalize l[k] = r at *
          generalize m[k] = s at *
          by_cases hrs : r = s
          · have hs0 := hs hrs
            have hq0 : ∀ w, _ = Result.ok (Value.bool false) w := fun w => (hq w).trans (by rw [decide_eq_true hrs]; rfl)
            clear hs hn hq hrs
            go_wp2
            go_quiet (fail)
            go_wp2
            go_roundw
            case rel => exact ⟨k + 1, by omega, by go_num, hs0, belowN hnx _⟩
            case measure => simp [intOf]; omega
          · have hn0 := hn hrs
            have hq0 : ∀ w, _ = Result.ok (Value.bool true) w := fun w => (hq w).trans (by rw [decide_eq_false hrs]; rfl)
            clear hs hn hq hrs
            go_wp2
            go_quiet (fail)
            go_wp2
            exact finB hR (belowN hnx _) (veq_bool (decide_eq_false hn0.out).symm)
        · have hle : l.length ≤ k := by omega
          have he : l = m := by
            have h := hch.out
            rwa [List.take_of_length_le hle, List.take_of_length_le (by rw [← HL.out]; exact hle)] at h
          have HE := Lib.hid he
          clear he
          go_wp2
          exact finB hR hnx (veq_bool (decide_eq_true HE.out).symm)
  · have hne : ¬ l = m := fun h => hlen (by rw [h])
    rw [decide_eq_false hne] at hR
    obtain ⟨a1, c1, rfl⟩ := h1.form
    obtain ⟨a2, c2, rfl⟩ := h2.form
    have q1 : ((l.length : Int) == (m.length : Int)) = false := by simp; omega
    have q2 : ((l.length : Int) != (m.length : Int)) = true := by simp; omega
    clear hlen hne h1 h2
    go_enter Tryz.func36, Tryz.ntmps36
    go_wp2
    exact finB hR (Below.refl _ _) rfl

set_option maxRecDepth 100000 in
theorem same3_any (p e s p' e' s' : Int) (v v' : Value) (l m : List Rec) (w : World) (h1 : RecsIn w v l) (h2 : RecsIn w v' m) (b1 : l.length ≤ maxLen) (b2 : m.length ≤ maxLen) :
    RetB Tryz.prog 15 #[.agg #[.int .i64 p, .int .i64 e, .int .i64 s, v], .agg #[.int .i64 p', .int .i64 e', .int .i64 s', v']] w (.bool (decide (p = p' ∧ e = e' ∧ s = s' ∧ l = m))) := by
  refine RetB.intro fun R hR => ?_
  obtain ⟨a1, c1, hv⟩ := h1.form
  obtain ⟨a2, c2, hv'⟩ := h2.form
  by_cases g1 : p = p'
  · subst g1
    by_cases g2 : e = e'
    · subst g2
      by_cases g3 : s = s'
      · subst g3
        have hc : ∀ W : World, Below w.heap.size w W → RetB Tryz.prog 36 #[v, v'] W (.bool (decide (l = m))) := fun W hW => records_any v v' l m W (h1.below hW) (h2.below hW) b1 b2
        simp only [true_and] at hR
        generalize decide (l = m) = b at *
        clear h1 h2
        subst hv
        subst hv'
        go_enter Tryz.func15, Tryz.ntmps15
        go_wp2_with fail
        refine (hc _ (below_all (below_all (Below.refl _ _)))).use ?_
        intro w1 hb1
        go_wp2_with fail
        exact finB hR (below_any (Nat.le_refl _) (below_all (below_all (Below.refl _ _))) hb1) rfl
      · have q : ((s : Int) == s') = false := by simpa using g3
        rw [decide_eq_false (by simp [g3])] at hR
        subst hv
        subst hv'
        clear g3 h1 h2
        go_enter Tryz.func15, Tryz.ntmps15
        go_wp2
        exact finB hR (below_all (below_all (Below.refl _ _))) rfl
    · have q : ((e : Int) == e') = false := by simpa using g2
      rw [decide_eq_false (by simp [g2])] at hR
      subst hv
      subst hv'
      clear g2 h1 h2
      go_enter Tryz.func15, Tryz.ntmps15
      go_wp2
      exact finB hR (below_all (below_all (Below.refl _ _))) rfl
  · have q : ((p : Int) == p') = false := by simpa using g1
    rw [decide_eq_false (by simp [g1])] at hR
    subst hv
    subst hv'
    clear g1 h1 h2
    go_enter Tryz.func15, Tryz.ntmps15
    go_wp2
    exact finB hR (below_all (below_all (Below.refl _ _))) rfl
end Go.Proofs.YthiliodmbipikaaGreat
