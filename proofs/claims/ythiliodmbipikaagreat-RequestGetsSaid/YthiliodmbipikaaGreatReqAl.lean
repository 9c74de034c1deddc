/-
  Layer 4: two replies: are they alike? The document's answers.
-/
import Derived.Test.YthiliodmbipikaaGreatReqS1
import Derived.Test.YthiliodmbipikaaGreatReqE
import Derived.Test.YthiliodmbipikaaGreatSegN
set_option linter.unusedVariables false
set_option linter.unusedSimpArgs false
namespace Go.Proofs.YthiliodmbipikaaGreat
open Go.RowKit
attribute [local go_sem] ByteArray.extract_mk ByteArray.mk_append_mk

theorem neq_part (r s : Prt) (w : World) : (binOp .neq 23 (.agg #[.string (S r.1), .int .i64 r.2]) (.agg #[.string (S s.1), .int .i64 s.2])).run Tryz.prog w = .ok (.bool (!decide (r = s))) w := by
  have h := eql_part r.1 s.1 r.2 s.2 w
  have he : (r.1 = s.1 ∧ r.2 = s.2) = (r = s) := by
    obtain ⟨a, b⟩ := r
    obtain ⟨c, d⟩ := s
    simp
  simp only [he] at h
  rw [run_eql_struct] at h
  rw [run_neq_struct]
  generalize (Op.equalIn 10000 23 _ _).run Tryz.prog w = x at *
  cases x with
  | ok b w2 => simp only [Result.andThen_ok, Result.ok.injEq, Value.bool.injEq] at h ⊢; exact ⟨by rw [h.1], h.2⟩
  | halt x w2 => simp [Result.andThen] at h
set_option maxHeartbeats 1000000 in
set_option maxRecDepth 100000 in
theorem eqFnds4 (v1 v2 : Value) (l m : List Fnd) (w : World) (h1 : FndsIn w v1 l) (h2 : FndsIn w v2 m) (b1 : l.length ≤ 1000000) (b2 : m.length ≤ 1000000) :
    RetB Tryz.prog 47 #[v1, v2] w (.bool (decide (l = m))) := by
  refine RetB.intro fun R hR => ?_
  by_cases hlen : l.length = m.length
  · by_cases h0 : l = []
    · subst h0
      obtain rfl : m = [] := List.eq_nil_of_length_eq_zero hlen.symm
      obtain ⟨a1, c1, rfl⟩ := h1.form
      obtain ⟨a2, c2, rfl⟩ := h2.form
      have hg : Tryz.prog.eqGuardType Tryz.prog.depth 95 = false := by kernel_rfl
      go_enter Tryz.func47, Tryz.ntmps47
      go_wp2
      refine wp_loop_rounds 1 ?_
      rw [rounds_succ]
      go_wp2
      exact finB hR (Below.refl _ _) rfl
    · rcases h1 with ⟨rfl, _⟩ | ⟨x1, o1, c1, rfl, _, _, lt1, hc1⟩
      · exact absurd rfl h0
      rcases h2 with ⟨rfl, _⟩ | ⟨x2, o2, c2, rfl, _, _, lt2, hc2⟩
      · exact absurd (List.eq_nil_of_length_eq_zero hlen) h0
      have hg : Tryz.prog.eqGuardType Tryz.prog.depth 95 = false := by kernel_rfl
      have HL := Lib.hid hlen
      have HC1 := Lib.hid hc1
      have HC2 := Lib.hid hc2
      have q1 : ((l.length : Int) == (m.length : Int)) = true := by simp [hlen]
      have q2 : ((l.length : Int) != (m.length : Int)) = false := by simp [hlen]
      clear hc1 hc2 h0 hlen
      have hg : Tryz.prog.eqGuardType Tryz.prog.depth 95 = false := by kernel_rfl
      go_enter Tryz.func47, Tryz.ntmps47
      go_wp2
      go_loopw [5, 13] (fun (v5 v13 : Value) (wr : World) => ∃ k : Nat, k ≤ l.length ∧ v13 = .int .i64 (k : Int) ∧ Hid (l.take k = m.take k) ∧ Below w.heap.size w wr) (fun (v5 v13 : Value) (wr : World) => (l.length - intOf v13).toNat)
      case atStart => exact ⟨0, by omega, rfl, rfl, Below.refl _ _⟩
      case round =>
        obtain ⟨k, hk, rfl, hch, hnx⟩ := hrel
        by_cases hkl : k < l.length
        · have hkm : k < m.length := by rw [← HL.out]; exact hkl
          obtain ⟨c10, c11, c12, c13, c14⟩ := (HC1.out k hkl).keep fun j => hnx.cell (p := ⟨x1, j, none⟩) lt1
          obtain ⟨c20, c21, c22, c23, c24⟩ := (HC2.out k hkm).keep fun j => hnx.cell (p := ⟨x2, j, none⟩) lt2
          have hq := neq_fnd l[k] m[k]
          unfold Fnd.val at hq
          have hs : ∀ _ : l[k] = m[k], Hid (l.take (k + 1) = m.take (k + 1)) := fun h => by rw [List.take_succ_eq_append_getElem hkl, List.take_succ_eq_append_getElem hkm, hch.out, h]; rfl
          have hn : ∀ _ : ¬ l[k] = m[k], Hid (¬ l = m) := fun h => Lib.hid fun e => h (by subst e; rfl)
          have i1 : (0 : Int) ≤ (k : Int) := by omega
          have i2 : (k : Int) < (l.length : Int) := by omega
          have i3 : (k : Int) < (m.length : Int) := by omega
          generalize l[k] = r at *
          generalize m[k] = s at *
          by_cases hrs : r = s
          · have hs0 := hs hrs
            have hq0 : ∀ w, _ = Result.ok (Value.bool false) w := fun w => (hq w).trans (by rw [decide_eq_true hrs]; rfl)
            clear hs hn hq hrs
            go_wp2
            go_quiet (fail)
            go_wp2
            go_roundw
            case rel => exact ⟨k + 1, by omega, by go_num, hs0, belowN hnx _⟩
            case measure => simp [intOf]; omega
          · have hn0 := hn hrs
            have hq0 : ∀ w, _ = Result.ok (Value.bool true) w := fun w => (hq w).trans (by rw [decide_eq_false hrs]; rfl)
            clear hs hn hq hrs
            go_wp2
            go_quiet (fail)
            go_wp2
            exact finB hR (belowN hnx _) (veq_bool (decide_eq_false hn0.out).symm)
        · have hle : l.length ≤ k := by omega
          have he : l = m := by
            have h := hch.out
            rwa [List.take_of_length_le hle, List.take_of_length_le (by rw [← HL.out]; exact hle)] at h
          have HE := Lib.hid he
          clear he
          go_wp2
          exact finB hR hnx (veq_bool (decide_eq_true HE.out).symm)
  · have hne : ¬ l = m := fun h => hlen (by rw [h])
    rw [decide_eq_false hne] at hR
    obtain ⟨a1, c1, rfl⟩ := h1.form
    obtain ⟨a2, c2, rfl⟩ := h2.form
    have q1 : ((l.length : Int) == (m.length : Int)) = false := by simp; omega
    have q2 : ((l.length : Int) != (m.length : Int)) = true := by simp; omega
    clear hlen hne h1 h2
    go_enter Tryz.func47, Tryz.ntmps47
    go_wp2
    exact finB hR (Below.refl _ _) rfl

set_option maxHeartbeats 1000000 in
set_option maxRecDepth 100000 in
theorem dFnds4 (v1 v2 : Value) (l m : List Fnd) (w : World) (h1 : FndsIn w v1 l) (h2 : FndsIn w v2 m) (b1 : l.length ≤ 1000000) (b2 : m.length ≤ 1000000) :
    RetB Tryz.prog 41 #[v1, v2] w (.bool (decide (l = m))) := by
  refine RetB.intro fun R hR => ?_
  by_cases hlen : l.length = m.length
  · by_cases h0 : l = []
    · subst h0
      obtain rfl : m = [] := List.eq_nil_of_length_eq_zero hlen.symm
      obtain ⟨a1, c1, rfl⟩ := h1.form
      obtain ⟨a2, c2, rfl⟩ := h2.form
      have hg : Tryz.prog.eqGuardType Tryz.prog.depth 95 = false := by kernel_rfl
      go_enter Tryz.func41, Tryz.ntmps41
      go_wp2
      refine wp_loop_rounds 1 ?_
      rw [rounds_succ]
      go_wp2
      exact finB hR (Below.refl _ _) rfl
    · rcases h1 with ⟨rfl, _⟩ | ⟨x1, o1, c1, rfl, _, _, lt1, hc1⟩
      · exact absurd rfl h0
      rcases h2 with ⟨rfl, _⟩ | ⟨x2, o2, c2, rfl, _, _, lt2, hc2⟩
      · exact absurd (List.eq_nil_of_length_eq_zero hlen) h0
      have hg : Tryz.prog.eqGuardType Tryz.prog.depth 95 = false := by kernel_rfl
      have HL := Lib.hid hlen
      have HC1 := Lib.hid hc1
      have HC2 := Lib.hid hc2
      have q1 : ((l.length : Int) == (m.length : Int)) = true := by simp [hlen]
      have q2 : ((l.length : Int) != (m.length : Int)) = false := by simp [hlen]
      clear hc1 hc2 h0 hlen
      have hg : Tryz.prog.eqGuardType Tryz.prog.depth 95 = false := by kernel_rfl
      go_enter Tryz.func41, Tryz.ntmps41
      go_wp2
      go_loopw [5] (fun (v5 : Value) (wr : World) => ∃ k : Nat, k ≤ l.length ∧ v5 = .int .i64 (k : Int) ∧ Hid (l.take k = m.take k) ∧ Below w.heap.size w wr) (fun (v5 : Value) (wr : World) => (l.length - intOf v5).toNat)
      case atStart => exact ⟨0, by omega, rfl, rfl, Below.refl _ _⟩
      case round =>
        obtain ⟨k, hk, rfl, hch, hnx⟩ := hrel
        by_cases hkl : k < l.length
        · have hkm : k < m.length := by rw [← HL.out]; exact hkl
          obtain ⟨c10, c11, c12, c13, c14⟩ := (HC1.out k hkl).keep fun j => hnx.cell (p := ⟨x1, j, none⟩) lt1
          obtain ⟨c20, c21, c22, c23, c24⟩ := (HC2.out k hkm).keep fun j => hnx.cell (p := ⟨x2, j, none⟩) lt2
          have hq := neq_fnd l[k] m[k]
          unfold Fnd.val at hq
          have hs : ∀ _ : l[k] = m[k], Hid (l.take (k + 1) = m.take (k + 1)) := fun h => by rw [List.take_succ_eq_append_getElem hkl, List.take_succ_eq_append_getElem hkm, hch.out, h]; rfl
          have hn : ∀ _ : ¬ l[k] = m[k], Hid (¬ l = m) := fun h => Lib.hid fun e => h (by subst e; rfl)
          have i1 : (0 : Int) ≤ (k : Int) := by omega
          have i2 : (k : Int) < (l.length : Int) := by omega
          have i3 : (k : Int) < (m.length : Int) := by omega
          generalize l[k] = r at *
          generalize m[k] = s at *
          by_cases hrs : r = s
          · have hs0 := hs hrs
            have hq0 : ∀ w, _ = Result.ok (Value.bool false) w := fun w => (hq w).trans (by rw [decide_eq_true hrs]; rfl)
            clear hs hn hq hrs
            go_wp2
            go_quiet (fail)
            go_wp2
            go_roundw
            case rel => exact ⟨k + 1, by omega, by go_num, hs0, belowN hnx _⟩
            case measure => simp [intOf]; omega
          · have hn0 := hn hrs
            have hq0 : ∀ w, _ = Result.ok (Value.bool true) w := fun w => (hq w).trans (by rw [decide_eq_false hrs]; rfl)
            clear hs hn hq hrs
            go_wp2
            go_quiet (fail)
            go_wp2
            exact finB hR (belowN hnx _) (veq_bool (decide_eq_false hn0.out).symm)
        · have hle : l.length ≤ k := by omega
          have he : l = m := by
            have h := hch.out
            rwa [List.take_of_length_le hle, List.take_of_length_le (by rw [← HL.out]; exact hle)] at h
          have HE := Lib.hid he
          clear he
          go_wp2
          exact finB hR hnx (veq_bool (decide_eq_true HE.out).symm)
  · have hne : ¬ l = m := fun h => hlen (by rw [h])
    rw [decide_eq_false hne] at hR
    obtain ⟨a1, c1, rfl⟩ := h1.form
    obtain ⟨a2, c2, rfl⟩ := h2.form
    have q1 : ((l.length : Int) == (m.length : Int)) = false := by simp; omega
    have q2 : ((l.length : Int) != (m.length : Int)) = true := by simp; omega
    clear hlen hne h1 h2
    go_enter Tryz.func41, Tryz.ntmps41
    go_wp2
    exact finB hR (Below.refl _ _) rfl

set_option maxHeartbeats 1000000 in
set_option maxRecDepth 100000 in
theorem eqParts4 (v1 v2 : Value) (l m : List Prt) (w : World) (h1 : PartsIn w v1 l) (h2 : PartsIn w v2 m) (b1 : l.length ≤ 1000000) (b2 : m.length ≤ 1000000) :
    RetB Tryz.prog 48 #[v1, v2] w (.bool (decide (l = m))) := by
  refine RetB.intro fun R hR => ?_
  by_cases hlen : l.length = m.length
  · by_cases h0 : l = []
    · subst h0
      obtain rfl : m = [] := List.eq_nil_of_length_eq_zero hlen.symm
      obtain ⟨a1, c1, rfl⟩ := h1.form
      obtain ⟨a2, c2, rfl⟩ := h2.form
      go_enter Tryz.func48, Tryz.ntmps48
      go_wp2
      refine wp_loop_rounds 1 ?_
      rw [rounds_succ]
      go_wp2
      exact finB hR (Below.refl _ _) rfl
    · rcases h1 with ⟨rfl, _⟩ | ⟨x1, o1, c1, rfl, _, lt1, hc1⟩
      · exact absurd rfl h0
      rcases h2 with ⟨rfl, _⟩ | ⟨x2, o2, c2, rfl, _, lt2, hc2⟩
      · exact absurd (List.eq_nil_of_length_eq_zero hlen) h0
      have hg : Tryz.prog.eqGuardType Tryz.prog.depth 23 = false := by kernel_rfl
      have HL := Lib.hid hlen
      have HC1 := Lib.hid hc1
      have HC2 := Lib.hid hc2
      have q1 : ((l.length : Int) == (m.length : Int)) = true := by simp [hlen]
      have q2 : ((l.length : Int) != (m.length : Int)) = false := by simp [hlen]
      clear hc1 hc2 h0 hlen
      go_enter Tryz.func48, Tryz.ntmps48
      go_wp2
      go_loopw [5, 13] (fun (v5 v13 : Value) (wr : World) => ∃ k : Nat, k ≤ l.length ∧ v13 = .int .i64 (k : Int) ∧ Hid (l.take k = m.take k) ∧ Below w.heap.size w wr) (fun (v5 v13 : Value) (wr : World) => (l.length - intOf v13).toNat)
      case atStart => exact ⟨0, by omega, rfl, rfl, Below.refl _ _⟩
      case round =>
        obtain ⟨k, hk, rfl, hch, hnx⟩ := hrel
        by_cases hkl : k < l.length
        · have hkm : k < m.length := by rw [← HL.out]; exact hkl
          obtain ⟨c10, c11⟩ := (HC1.out k hkl).keep fun j => hnx.cell (p := ⟨x1, j, none⟩) lt1
          obtain ⟨c20, c21⟩ := (HC2.out k hkm).keep fun j => hnx.cell (p := ⟨x2, j, none⟩) lt2
          have hq := neq_part l[k] m[k]
          have hs : ∀ _ : l[k] = m[k], Hid (l.take (k + 1) = m.take (k + 1)) := fun h => by rw [List.take_succ_eq_append_getElem hkl, List.take_succ_eq_append_getElem hkm, hch.out, h]; rfl
          have hn : ∀ _ : ¬ l[k] = m[k], Hid (¬ l = m) := fun h => Lib.hid fun e => h (by subst e; rfl)
          have i1 : (0 : Int) ≤ (k : Int) := by omega
          have i2 : (k : Int) < (l.length : Int) := by omega
          have i3 : (k : Int) < (m.length : Int) := by omega
          generalize l[k] = r at *
          generalize m[k] = s at *
          by_cases hrs : r = s
          · have hs0 := hs hrs
            have hq0 : ∀ w, _ = Result.ok (Value.bool false) w := fun w => (hq w).trans (by rw [decide_eq_true hrs]; rfl)
            clear hs hn hq hrs
            go_wp2
            go_quiet (fail)
            go_wp2
            go_roundw
            case rel => exact ⟨k + 1, by omega, by go_num, hs0, belowN hnx _⟩
            case measure => simp [intOf]; omega
          · have hn0 := hn hrs
            have hq0 : ∀ w, _ = Result.ok (Value.bool true) w := fun w => (hq w).trans (by rw [decide_eq_false hrs]; rfl)
            clear hs hn hq hrs
            go_wp2
            go_quiet (fail)
            go_wp2
            exact finB hR (belowN hnx _) (veq_bool (decide_eq_false hn0.out).symm)
        · have hle : l.length ≤ k := by omega
          have he : l = m := by
            have h := hch.out
            rwa [List.take_of_length_le hle, List.take_of_length_le (by rw [← HL.out]; exact hle)] at h
          have HE := Lib.hid he
          clear he
          go_wp2
          exact finB hR hnx (veq_bool (decide_eq_true HE.out).symm)
  · have hne : ¬ l = m := fun h => hlen (by rw [h])
    rw [decide_eq_false hne] at hR
    obtain ⟨a1, c1, rfl⟩ := h1.form
    obtain ⟨a2, c2, rfl⟩ := h2.form
    have q1 : ((l.length : Int) == (m.length : Int)) = false := by simp; omega
    have q2 : ((l.length : Int) != (m.length : Int)) = true := by simp; omega
    clear hlen hne h1 h2
    go_enter Tryz.func48, Tryz.ntmps48
    go_wp2
    exact finB hR (Below.refl _ _) rfl
set_option maxHeartbeats 1000000 in
set_option maxRecDepth 100000 in
theorem dParts4 (v1 v2 : Value) (l m : List Prt) (w : World) (h1 : PartsIn w v1 l) (h2 : PartsIn w v2 m) (b1 : l.length ≤ 1000000) (b2 : m.length ≤ 1000000) :
    RetB Tryz.prog 42 #[v1, v2] w (.bool (decide (l = m))) := by
  refine RetB.intro fun R hR => ?_
  by_cases hlen : l.length = m.length
  · by_cases h0 : l = []
    · subst h0
      obtain rfl : m = [] := List.eq_nil_of_length_eq_zero hlen.symm
      obtain ⟨a1, c1, rfl⟩ := h1.form
      obtain ⟨a2, c2, rfl⟩ := h2.form
      go_enter Tryz.func42, Tryz.ntmps42
      go_wp2
      refine wp_loop_rounds 1 ?_
      rw [rounds_succ]
      go_wp2
      exact finB hR (Below.refl _ _) rfl
    · rcases h1 with ⟨rfl, _⟩ | ⟨x1, o1, c1, rfl, _, lt1, hc1⟩
      · exact absurd rfl h0
      rcases h2 with ⟨rfl, _⟩ | ⟨x2, o2, c2, rfl, _, lt2, hc2⟩
      · exact absurd (List.eq_nil_of_length_eq_zero hlen) h0
      have hg : Tryz.prog.eqGuardType Tryz.prog.depth 23 = false := by kernel_rfl
      have HL := Lib.hid hlen
      have HC1 := Lib.hid hc1
      have HC2 := Lib.hid hc2
      have q1 : ((l.length : Int) == (m.length : Int)) = true := by simp [hlen]
      have q2 : ((l.length : Int) != (m.length : Int)) = false := by simp [hlen]
      clear hc1 hc2 h0 hlen
      go_enter Tryz.func42, Tryz.ntmps42
      go_wp2
      go_loopw [5] (fun (v5 : Value) (wr : World) => ∃ k : Nat, k ≤ l.length ∧ v5 = .int .i64 (k : Int) ∧ Hid (l.take k = m.take k) ∧ Below w.heap.size w wr) (fun (v5 : Value) (wr : World) => (l.length - intOf v5).toNat)
      case atStart => exact ⟨0, by omega, rfl, rfl, Below.refl _ _⟩
      case round =>
        obtain ⟨k, hk, rfl, hch, hnx⟩ := hrel
        by_cases hkl : k < l.length
        · have hkm : k < m.length := by rw [← HL.out]; exact hkl
          obtain ⟨c10, c11⟩ := (HC1.out k hkl).keep fun j => hnx.cell (p := ⟨x1, j, none⟩) lt1
          obtain ⟨c20, c21⟩ := (HC2.out k hkm).keep fun j => hnx.cell (p := ⟨x2, j, none⟩) lt2
          have hq := neq_part l[k] m[k]
          have hs : ∀ _ : l[k] = m[k], Hid (l.take (k + 1) = m.take (k + 1)) := fun h => by rw [List.take_succ_eq_append_getElem hkl, List.take_succ_eq_append_getElem hkm, hch.out, h]; rfl
          have hn : ∀ _ : ¬ l[k] = m[k], Hid (¬ l = m) := fun h => Lib.hid fun e => h (by subst e; rfl)
          have i1 : (0 : Int) ≤ (k : Int) := by omega
          have i2 : (k : Int) < (l.length : Int) := by omega
          have i3 : (k : Int) < (m.length : Int) := by omega
          generalize l[k] = r at *
          generalize m[k] = s at *
          by_cases hrs : r = s
          · have hs0 := hs hrs
            have hq0 : ∀ w, _ = Result.ok (Value.bool false) w := fun w => (hq w).trans (by rw [decide_eq_true hrs]; rfl)
            clear hs hn hq hrs
            go_wp2
            go_quiet (fail)
            go_wp2
            go_roundw
            case rel => exact ⟨k + 1, by omega, by go_num, hs0, belowN hnx _⟩
            case measure => simp [intOf]; omega
          · have hn0 := hn hrs
            have hq0 : ∀ w, _ = Result.ok (Value.bool true) w := fun w => (hq w).trans (by rw [decide_eq_false hrs]; rfl)
            clear hs hn hq hrs
            go_wp2
            go_quiet (fail)
            go_wp2
            exact finB hR (belowN hnx _) (veq_bool (decide_eq_false hn0.out).symm)
        · have hle : l.length ≤ k := by omega
          have he : l = m := by
            have h := hch.out
            rwa [List.take_of_length_le hle, List.take_of_length_le (by rw [← HL.out]; exact hle)] at h
          have HE := Lib.hid he
          clear he
          go_wp2
          exact finB hR hnx (veq_bool (decide_eq_true HE.out).symm)
  · have hne : ¬ l = m := fun h => hlen (by rw [h])
    rw [decide_eq_false hne] at hR
    obtain ⟨a1, c1, rfl⟩ := h1.form
    obtain ⟨a2, c2, rfl⟩ := h2.form
    have q1 : ((l.length : Int) == (m.length : Int)) = false := by simp; omega
    have q2 : ((l.length : Int) != (m.length : Int)) = true := by simp; omega
    clear hlen hne h1 h2
    go_enter Tryz.func42, Tryz.ntmps42
    go_wp2
    exact finB hR (Below.refl _ _) rfl
set_option maxHeartbeats 1000000 in
set_option maxRecDepth 100000 in
theorem dTexts4 (v1 v2 : Value) (l m : List (List UInt8)) (w : World) (h1 : TopsIn w v1 l) (h2 : TopsIn w v2 m) (b1 : l.length ≤ 1000000) (b2 : m.length ≤ 1000000) :
    RetB Tryz.prog 16 #[v1, v2] w (.bool (decide (l = m))) := by
  refine RetB.intro fun R hR => ?_
  by_cases hlen : l.length = m.length
  · by_cases h0 : l = []
    · subst h0
      obtain rfl : m = [] := List.eq_nil_of_length_eq_zero hlen.symm
      obtain ⟨a1, c1, rfl⟩ := h1.form
      obtain ⟨a2, c2, rfl⟩ := h2.form
      go_enter Tryz.func16, Tryz.ntmps16
      go_wp2
      refine wp_loop_rounds 1 ?_
      rw [rounds_succ]
      go_wp2
      exact finB hR (Below.refl _ _) rfl
    · rcases h1 with ⟨rfl, _⟩ | ⟨x1, o1, c1, rfl, _, lt1, hc1⟩
      · exact absurd rfl h0
      rcases h2 with ⟨rfl, _⟩ | ⟨x2, o2, c2, rfl, _, lt2, hc2⟩
      · exact absurd (List.eq_nil_of_length_eq_zero hlen) h0
      have HL := Lib.hid hlen
      have HC1 := Lib.hid hc1
      have HC2 := Lib.hid hc2
      have q1 : ((l.length : Int) == (m.length : Int)) = true := by simp [hlen]
      have q2 : ((l.length : Int) != (m.length : Int)) = false := by simp [hlen]
      clear hc1 hc2 h0 hlen
      go_enter Tryz.func16, Tryz.ntmps16
      go_wp2
      go_loopw [5] (fun (v5 : Value) (wr : World) => ∃ k : Nat, k ≤ l.length ∧ v5 = .int .i64 (k : Int) ∧ Hid (l.take k = m.take k) ∧ Below w.heap.size w wr) (fun (v5 : Value) (wr : World) => (l.length - intOf v5).toNat)
      case atStart => exact ⟨0, by omega, rfl, rfl, Below.refl _ _⟩
      case round =>
        obtain ⟨k, hk, rfl, hch, hnx⟩ := hrel
        by_cases hkl : k < l.length
        · have hkm : k < m.length := by rw [← HL.out]; exact hkl
          have d1 := (hnx.cell (p := ⟨x1, o1 + k, none⟩) lt1).trans (HC1.out k hkl)
          have d2 := (hnx.cell (p := ⟨x2, o2 + k, none⟩) lt2).trans (HC2.out k hkm)
          have hs : ∀ _ : l[k] = m[k], Hid (l.take (k + 1) = m.take (k + 1)) := fun h => by rw [List.take_succ_eq_append_getElem hkl, List.take_succ_eq_append_getElem hkm, hch.out, h]; rfl
          have hn : ∀ _ : ¬ l[k] = m[k], Hid (¬ l = m) := fun h => Lib.hid fun e => h (by subst e; rfl)
          have i1 : (0 : Int) ≤ (k : Int) := by omega
          have i2 : (k : Int) < (l.length : Int) := by omega
          have i3 : (k : Int) < (m.length : Int) := by omega
          generalize l[k] = r at *
          generalize m[k] = s at *
          by_cases hrs : r = s
          · have hs0 := hs hrs
            have hq0 : (r != s) = false := by simp [hrs]
            have hq1 : (r == s) = true := by simp [hrs]
            clear hs hn hrs
            go_wp2
            go_quiet (fail)
            go_wp2
            go_roundw
            case rel => exact ⟨k + 1, by omega, by go_num, hs0, belowN hnx _⟩
            case measure => simp [intOf]; omega
          · have hn0 := hn hrs
            have hq0 : (r != s) = true := by simpa using hrs
            have hq1 : (r == s) = false := by simpa using hrs
            clear hs hn hrs
            go_wp2
            go_quiet (fail)
            go_wp2
            exact finB hR (belowN hnx _) (veq_bool (decide_eq_false hn0.out).symm)
        · have hle : l.length ≤ k := by omega
          have he : l = m := by
            have h := hch.out
            rwa [List.take_of_length_le hle, List.take_of_length_le (by rw [← HL.out]; exact hle)] at h
          have HE := Lib.hid he
          clear he
          go_wp2
          exact finB hR hnx (veq_bool (decide_eq_true HE.out).symm)
  · have hne : ¬ l = m := fun h => hlen (by rw [h])
    rw [decide_eq_false hne] at hR
    obtain ⟨a1, c1, rfl⟩ := h1.form
    obtain ⟨a2, c2, rfl⟩ := h2.form
    have q1 : ((l.length : Int) == (m.length : Int)) = false := by simp; omega
    have q2 : ((l.length : Int) != (m.length : Int)) = true := by simp; omega
    clear hlen hne h1 h2
    go_enter Tryz.func16, Tryz.ntmps16
    go_wp2
    exact finB hR (Below.refl _ _) rfl
set_option maxHeartbeats 4000000 in
set_option maxRecDepth 100000 in
theorem alike4 (c d : Rep) (fv pv fv' pv' : Value) (w : World) (h1 : RepIn w c fv pv) (h1' : RepIn w d fv' pv') (b1 : c.found.length ≤ 1000000 ∧ d.found.length ≤ 1000000) (b2 : c.parts.length ≤ 1000000 ∧ d.parts.length ≤ 1000000) :
    RetB Tryz.prog 23 #[.agg (c.arr fv pv), .agg (d.arr fv' pv')] w (.bool (decide (c = d))) := by
  refine RetB.intro fun R hR => ?_
  obtain ⟨e, off, n, gen, found, parts⟩ := c
  obtain ⟨e', off', n', gen', found', parts'⟩ := d
  dsimp only [Rep.arr] at *
  obtain ⟨h1, h2⟩ := h1
  obtain ⟨h1', h2'⟩ := h1'
  dsimp only at *
  obtain ⟨ra, rc, rfl⟩ := h1.form
  obtain ⟨ta, tc, rfl⟩ := h2.form
  obtain ⟨ra', rc', rfl⟩ := h1'.form
  obtain ⟨ta', tc', rfl⟩ := h2'.form
  have cF := Lib.hid (fun W (hW : Below w.heap.size w W) => eqFnds4 _ _ found found' W (h1.below hW) (h1'.below hW) b1.1 b1.2)
  have cT := Lib.hid (fun W (hW : Below w.heap.size w W) => eqParts4 _ _ parts parts' W (h2.below hW) (h2'.below hW) b2.1 b2.2)
  simp only [Rep.mk.injEq] at hR
  clear h1 h2 h1' h2'
  by_cases g : e = e'
  case' neg =>
    rw [decide_eq_false (by rintro ⟨e0, e1, e2, e3, e4, e5⟩; exact g (by first | assumption | exact ⟨e1, e2⟩ | exact ⟨e5, e6, e7, e8⟩))] at hR
    have q : (e == e') = false := by simpa using g
    clear g cF cT
    go_enter Tryz.func23, Tryz.ntmps23
    go_wp2_with fail
    exact finB hR (below_all (below_all (Below.refl _ _))) rfl
  case' pos =>
    subst g
    by_cases g : off = off'
    case' neg =>
      rw [decide_eq_false (by rintro ⟨e0, e1, e2, e3, e4, e5⟩; exact g (by first | assumption | exact ⟨e1, e2⟩ | exact ⟨e5, e6, e7, e8⟩))] at hR
      have q : (off == off') = false := by simpa using g
      clear g cF cT
      go_enter Tryz.func23, Tryz.ntmps23
      go_wp2_with fail
      exact finB hR (below_all (below_all (Below.refl _ _))) rfl
    case' pos =>
      subst g
      by_cases g : n = n'
      case' neg =>
        rw [decide_eq_false (by rintro ⟨e0, e1, e2, e3, e4, e5⟩; exact g (by first | assumption | exact ⟨e1, e2⟩ | exact ⟨e5, e6, e7, e8⟩))] at hR
        have q : (n == n') = false := by simpa using g
        clear g cF cT
        go_enter Tryz.func23, Tryz.ntmps23
        go_wp2_with fail
        exact finB hR (below_all (below_all (Below.refl _ _))) rfl
      case' pos =>
        subst g
        by_cases g : gen = gen'
        case' neg =>
          rw [decide_eq_false (by rintro ⟨e0, e1, e2, e3, e4, e5⟩; exact g (by first | assumption | exact ⟨e1, e2⟩ | exact ⟨e5, e6, e7, e8⟩))] at hR
          have q : (gen == gen') = false := by simpa using g
          clear g cF cT
          go_enter Tryz.func23, Tryz.ntmps23
          go_wp2_with fail
          exact finB hR (below_all (below_all (Below.refl _ _))) rfl
        case' pos =>
          subst g
          by_cases g : found = found'
          case' neg =>
            rw [decide_eq_false (by rintro ⟨e0, e1, e2, e3, e4, e5⟩; exact g (by first | assumption | exact ⟨e1, e2⟩ | exact ⟨e5, e6, e7, e8⟩))] at hR
            rw [decide_eq_false g] at cF
            clear g cT
            go_enter Tryz.func23, Tryz.ntmps23
            go_wp2_with fail
            refine (cF.out _ (below_all (below_all (Below.refl _ _)))).use ?_
            intro w2 b2
            have B2 := below_any (Nat.le_refl _) (below_all (below_all (Below.refl _ _))) b2
            have x00 := b2.cell (p := ⟨w.heap.size, 5, none⟩) (by simp; omega)
            have y00 := b2.cell (p := ⟨w.heap.size + 1, 5, none⟩) (by simp)
            go_wp2_with fail
            exact finB hR B2 rfl
          case' pos =>
            subst g
            by_cases g : parts = parts'
            case' neg =>
              rw [decide_eq_false (by rintro ⟨e0, e1, e2, e3, e4, e5⟩; exact g (by first | assumption | exact ⟨e1, e2⟩ | exact ⟨e5, e6, e7, e8⟩))] at hR
              rw [decide_eq_true rfl] at cF
              rw [decide_eq_false g] at cT
              clear g
              go_enter Tryz.func23, Tryz.ntmps23
              go_wp2_with fail
              refine (cF.out _ (below_all (below_all (Below.refl _ _)))).use ?_
              intro w2 b2
              have B2 := below_any (Nat.le_refl _) (below_all (below_all (Below.refl _ _))) b2
              have x00 := b2.cell (p := ⟨w.heap.size, 5, none⟩) (by simp; omega)
              have y00 := b2.cell (p := ⟨w.heap.size + 1, 5, none⟩) (by simp)
              go_wp2_with fail
              refine (cT.out _ B2).use ?_
              intro w3 b3
              have B3 := below_any (Nat.le_refl _) B2 b3
              go_wp2_with fail
              exact finB hR B3 rfl
            case' pos =>
              subst g
              rw [decide_eq_true ⟨rfl, rfl, rfl, rfl, rfl, rfl⟩] at hR
              rw [decide_eq_true rfl] at cF
              rw [decide_eq_true rfl] at cT
              go_enter Tryz.func23, Tryz.ntmps23
              go_wp2_with fail
              refine (cF.out _ (below_all (below_all (Below.refl _ _)))).use ?_
              intro w2 b2
              have B2 := below_any (Nat.le_refl _) (below_all (below_all (Below.refl _ _))) b2
              have x00 := b2.cell (p := ⟨w.heap.size, 5, none⟩) (by simp; omega)
              have y00 := b2.cell (p := ⟨w.heap.size + 1, 5, none⟩) (by simp)
              go_wp2_with fail
              refine (cT.out _ B2).use ?_
              intro w3 b3
              have B3 := below_any (Nat.le_refl _) B2 b3
              go_wp2_with fail
              exact finB hR B3 rfl
set_option maxHeartbeats 4000000 in
set_option maxRecDepth 100000 in
theorem dalike4 (c d : Rep) (fv pv fv' pv' : Value) (w : World) (h1 : RepIn w c fv pv) (h1' : RepIn w d fv' pv') (b1 : c.found.length ≤ 1000000 ∧ d.found.length ≤ 1000000) (b2 : c.parts.length ≤ 1000000 ∧ d.parts.length ≤ 1000000) :
    RetB Tryz.prog 19 #[.agg (c.arr fv pv), .agg (d.arr fv' pv')] w (.bool (decide (c = d))) := by
  refine RetB.intro fun R hR => ?_
  obtain ⟨e, off, n, gen, found, parts⟩ := c
  obtain ⟨e', off', n', gen', found', parts'⟩ := d
  dsimp only [Rep.arr] at *
  obtain ⟨h1, h2⟩ := h1
  obtain ⟨h1', h2'⟩ := h1'
  dsimp only at *
  obtain ⟨ra, rc, rfl⟩ := h1.form
  obtain ⟨ta, tc, rfl⟩ := h2.form
  obtain ⟨ra', rc', rfl⟩ := h1'.form
  obtain ⟨ta', tc', rfl⟩ := h2'.form
  have cF := Lib.hid (fun W (hW : Below w.heap.size w W) => dFnds4 _ _ found found' W (h1.below hW) (h1'.below hW) b1.1 b1.2)
  have cT := Lib.hid (fun W (hW : Below w.heap.size w W) => dParts4 _ _ parts parts' W (h2.below hW) (h2'.below hW) b2.1 b2.2)
  simp only [Rep.mk.injEq] at hR
  clear h1 h2 h1' h2'
  by_cases g : e = e'
  case' neg =>
    rw [decide_eq_false (by rintro ⟨e0, e1, e2, e3, e4, e5⟩; exact g (by first | assumption | exact ⟨e1, e2⟩ | exact ⟨e5, e6, e7, e8⟩))] at hR
    have q : (e == e') = false := by simpa using g
    clear g cF cT
    go_enter Tryz.func19, Tryz.ntmps19
    go_wp2_with fail
    exact finB hR (below_all (below_all (Below.refl _ _))) rfl
  case' pos =>
    subst g
    by_cases g : off = off'
    case' neg =>
      rw [decide_eq_false (by rintro ⟨e0, e1, e2, e3, e4, e5⟩; exact g (by first | assumption | exact ⟨e1, e2⟩ | exact ⟨e5, e6, e7, e8⟩))] at hR
      have q : (off == off') = false := by simpa using g
      clear g cF cT
      go_enter Tryz.func19, Tryz.ntmps19
      go_wp2_with fail
      exact finB hR (below_all (below_all (Below.refl _ _))) rfl
    case' pos =>
      subst g
      by_cases g : n = n'
      case' neg =>
        rw [decide_eq_false (by rintro ⟨e0, e1, e2, e3, e4, e5⟩; exact g (by first | assumption | exact ⟨e1, e2⟩ | exact ⟨e5, e6, e7, e8⟩))] at hR
        have q : (n == n') = false := by simpa using g
        clear g cF cT
        go_enter Tryz.func19, Tryz.ntmps19
        go_wp2_with fail
        exact finB hR (below_all (below_all (Below.refl _ _))) rfl
      case' pos =>
        subst g
        by_cases g : gen = gen'
        case' neg =>
          rw [decide_eq_false (by rintro ⟨e0, e1, e2, e3, e4, e5⟩; exact g (by first | assumption | exact ⟨e1, e2⟩ | exact ⟨e5, e6, e7, e8⟩))] at hR
          have q : (gen == gen') = false := by simpa using g
          clear g cF cT
          go_enter Tryz.func19, Tryz.ntmps19
          go_wp2_with fail
          exact finB hR (below_all (below_all (Below.refl _ _))) rfl
        case' pos =>
          subst g
          by_cases g : found = found'
          case' neg =>
            rw [decide_eq_false (by rintro ⟨e0, e1, e2, e3, e4, e5⟩; exact g (by first | assumption | exact ⟨e1, e2⟩ | exact ⟨e5, e6, e7, e8⟩))] at hR
            rw [decide_eq_false g] at cF
            clear g cT
            go_enter Tryz.func19, Tryz.ntmps19
            go_wp2_with fail
            refine (cF.out _ (below_all (below_all (Below.refl _ _)))).use ?_
            intro w2 b2
            have B2 := below_any (Nat.le_refl _) (below_all (below_all (Below.refl _ _))) b2
            have x00 := b2.cell (p := ⟨w.heap.size, 5, none⟩) (by simp; omega)
            have y00 := b2.cell (p := ⟨w.heap.size + 1, 5, none⟩) (by simp)
            go_wp2_with fail
            exact finB hR B2 rfl
          case' pos =>
            subst g
            by_cases g : parts = parts'
            case' neg =>
              rw [decide_eq_false (by rintro ⟨e0, e1, e2, e3, e4, e5⟩; exact g (by first | assumption | exact ⟨e1, e2⟩ | exact ⟨e5, e6, e7, e8⟩))] at hR
              rw [decide_eq_true rfl] at cF
              rw [decide_eq_false g] at cT
              clear g
              go_enter Tryz.func19, Tryz.ntmps19
              go_wp2_with fail
              refine (cF.out _ (below_all (below_all (Below.refl _ _)))).use ?_
              intro w2 b2
              have B2 := below_any (Nat.le_refl _) (below_all (below_all (Below.refl _ _))) b2
              have x00 := b2.cell (p := ⟨w.heap.size, 5, none⟩) (by simp; omega)
              have y00 := b2.cell (p := ⟨w.heap.size + 1, 5, none⟩) (by simp)
              go_wp2_with fail
              refine (cT.out _ B2).use ?_
              intro w3 b3
              have B3 := below_any (Nat.le_refl _) B2 b3
              go_wp2_with fail
              exact finB hR B3 rfl
            case' pos =>
              subst g
              rw [decide_eq_true ⟨rfl, rfl, rfl, rfl, rfl, rfl⟩] at hR
              rw [decide_eq_true rfl] at cF
              rw [decide_eq_true rfl] at cT
              go_enter Tryz.func19, Tryz.ntmps19
              go_wp2_with fail
              refine (cF.out _ (below_all (below_all (Below.refl _ _)))).use ?_
              intro w2 b2
              have B2 := below_any (Nat.le_refl _) (below_all (below_all (Below.refl _ _))) b2
              have x00 := b2.cell (p := ⟨w.heap.size, 5, none⟩) (by simp; omega)
              have y00 := b2.cell (p := ⟨w.heap.size + 1, 5, none⟩) (by simp)
              go_wp2_with fail
              refine (cT.out _ B2).use ?_
              intro w3 b3
              have B3 := below_any (Nat.le_refl _) B2 b3
              go_wp2_with fail
              exact finB hR B3 rfl
set_option maxHeartbeats 4000000 in
set_option maxRecDepth 100000 in
theorem dsame4 (c d : Cmd) (rv tv rv' tv' : Value) (w : World) (h1 : RecsIn w rv c.recs) (h2 : TopsIn w tv c.tops) (h1' : RecsIn w rv' d.recs) (h2' : TopsIn w tv' d.tops) (b1 : c.recs.length ≤ maxLen ∧ d.recs.length ≤ maxLen) (b2 : c.tops.length ≤ 1000000 ∧ d.tops.length ≤ 1000000) :
    RetB Tryz.prog 6 #[.agg (c.arr rv tv), .agg (d.arr rv' tv')] w (.bool (decide (c = d))) := by
  refine RetB.intro fun R hR => ?_
  obtain ⟨kind, topic, pn, n, off, bp, be, bq, recs, group, member, gen, robin, tops⟩ := c
  obtain ⟨kind', topic', pn', n', off', bp', be', bq', recs', group', member', gen', robin', tops'⟩ := d
  dsimp only [Cmd.arr] at *
  obtain ⟨ra, rc, rfl⟩ := h1.form
  obtain ⟨ta, tc, rfl⟩ := h2.form
  obtain ⟨ra', rc', rfl⟩ := h1'.form
  obtain ⟨ta', tc', rfl⟩ := h2'.form
  have cB := Lib.hid (fun W (hW : Below w.heap.size w W) => same3_any bp be bq bp' be' bq' _ _ recs recs' W (h1.below hW) (h1'.below hW) b1.1 b1.2)
  have cT := Lib.hid (fun W (hW : Below w.heap.size w W) => dTexts4 _ _ tops tops' W (h2.below hW) (h2'.below hW) b2.1 b2.2)
  simp only [Cmd.mk.injEq] at hR
  clear h1 h2 h1' h2'
  by_cases g : kind = kind'
  case' neg =>
    rw [decide_eq_false (by rintro ⟨e0, e1, e2, e3, e4, e5, e6, e7, e8, e9, e10, e11, e12, e13⟩; exact g (by first | assumption | exact ⟨e1, e2⟩ | exact ⟨e5, e6, e7, e8⟩))] at hR
    have q : (kind == kind') = false := by simpa using g
    clear g cB cT
    go_enter Tryz.func6, Tryz.ntmps6
    go_wp2_with fail
    exact finB hR (below_all (below_all (Below.refl _ _))) rfl
  case' pos =>
    subst g
    by_cases g : topic = topic' ∧ pn = pn'
    case' neg =>
      rw [decide_eq_false (by rintro ⟨e0, e1, e2, e3, e4, e5, e6, e7, e8, e9, e10, e11, e12, e13⟩; exact g (by first | assumption | exact ⟨e1, e2⟩ | exact ⟨e5, e6, e7, e8⟩))] at hR
      have q := eql_part topic topic' pn pn'
      rw [decide_eq_false g] at q
      clear g cB cT
      go_enter Tryz.func6, Tryz.ntmps6
      go_wp2_with fail
      exact finB hR (below_all (below_all (Below.refl _ _))) rfl
    case' pos =>
      obtain ⟨rfl, rfl⟩ := g
      by_cases g : n = n'
      case' neg =>
        rw [decide_eq_false (by rintro ⟨e0, e1, e2, e3, e4, e5, e6, e7, e8, e9, e10, e11, e12, e13⟩; exact g (by first | assumption | exact ⟨e1, e2⟩ | exact ⟨e5, e6, e7, e8⟩))] at hR
        have eP := eql_part topic topic pn pn
        rw [decide_eq_true ⟨rfl, rfl⟩] at eP
        have q : (n == n') = false := by simpa using g
        clear g cB cT
        go_enter Tryz.func6, Tryz.ntmps6
        go_wp2_with fail
        exact finB hR (below_all (below_all (Below.refl _ _))) rfl
      case' pos =>
        subst g
        by_cases g : off = off'
        case' neg =>
          rw [decide_eq_false (by rintro ⟨e0, e1, e2, e3, e4, e5, e6, e7, e8, e9, e10, e11, e12, e13⟩; exact g (by first | assumption | exact ⟨e1, e2⟩ | exact ⟨e5, e6, e7, e8⟩))] at hR
          have eP := eql_part topic topic pn pn
          rw [decide_eq_true ⟨rfl, rfl⟩] at eP
          have q : (off == off') = false := by simpa using g
          clear g cB cT
          go_enter Tryz.func6, Tryz.ntmps6
          go_wp2_with fail
          exact finB hR (below_all (below_all (Below.refl _ _))) rfl
        case' pos =>
          subst g
          by_cases g : bp = bp' ∧ be = be' ∧ bq = bq' ∧ recs = recs'
          case' neg =>
            rw [decide_eq_false (by rintro ⟨e0, e1, e2, e3, e4, e5, e6, e7, e8, e9, e10, e11, e12, e13⟩; exact g (by first | assumption | exact ⟨e1, e2⟩ | exact ⟨e5, e6, e7, e8⟩))] at hR
            have eP := eql_part topic topic pn pn
            rw [decide_eq_true ⟨rfl, rfl⟩] at eP
            rw [decide_eq_false g] at cB
            clear g cT
            go_enter Tryz.func6, Tryz.ntmps6
            go_wp2_with fail
            refine (cB.out _ (below_all (below_all (Below.refl _ _)))).use ?_
            intro w2 b2
            have B2 := below_any (Nat.le_refl _) (below_all (below_all (Below.refl _ _))) b2
            have x00 := b2.cell (p := ⟨w.heap.size, 9, none⟩) (by simp; omega)
            have y00 := b2.cell (p := ⟨w.heap.size + 1, 9, none⟩) (by simp)
            have x01 := b2.cell (p := ⟨w.heap.size, 10, none⟩) (by simp; omega)
            have y01 := b2.cell (p := ⟨w.heap.size + 1, 10, none⟩) (by simp)
            have x02 := b2.cell (p := ⟨w.heap.size, 11, none⟩) (by simp; omega)
            have y02 := b2.cell (p := ⟨w.heap.size + 1, 11, none⟩) (by simp)
            have x03 := b2.cell (p := ⟨w.heap.size, 12, none⟩) (by simp; omega)
            have y03 := b2.cell (p := ⟨w.heap.size + 1, 12, none⟩) (by simp)
            have x04 := b2.cell (p := ⟨w.heap.size, 13, none⟩) (by simp; omega)
            have y04 := b2.cell (p := ⟨w.heap.size + 1, 13, none⟩) (by simp)
            go_wp2_with fail
            exact finB hR B2 rfl
          case' pos =>
            obtain ⟨rfl, rfl, rfl, rfl⟩ := g
            by_cases g : group = group'
            case' neg =>
              rw [decide_eq_false (by rintro ⟨e0, e1, e2, e3, e4, e5, e6, e7, e8, e9, e10, e11, e12, e13⟩; exact g (by first | assumption | exact ⟨e1, e2⟩ | exact ⟨e5, e6, e7, e8⟩))] at hR
              have eP := eql_part topic topic pn pn
              rw [decide_eq_true ⟨rfl, rfl⟩] at eP
              rw [decide_eq_true ⟨rfl, rfl, rfl, rfl⟩] at cB
              have q : (group == group') = false := by simpa using g
              clear g cT
              go_enter Tryz.func6, Tryz.ntmps6
              go_wp2_with fail
              refine (cB.out _ (below_all (below_all (Below.refl _ _)))).use ?_
              intro w2 b2
              have B2 := below_any (Nat.le_refl _) (below_all (below_all (Below.refl _ _))) b2
              have x00 := b2.cell (p := ⟨w.heap.size, 9, none⟩) (by simp; omega)
              have y00 := b2.cell (p := ⟨w.heap.size + 1, 9, none⟩) (by simp)
              have x01 := b2.cell (p := ⟨w.heap.size, 10, none⟩) (by simp; omega)
              have y01 := b2.cell (p := ⟨w.heap.size + 1, 10, none⟩) (by simp)
              have x02 := b2.cell (p := ⟨w.heap.size, 11, none⟩) (by simp; omega)
              have y02 := b2.cell (p := ⟨w.heap.size + 1, 11, none⟩) (by simp)
              have x03 := b2.cell (p := ⟨w.heap.size, 12, none⟩) (by simp; omega)
              have y03 := b2.cell (p := ⟨w.heap.size + 1, 12, none⟩) (by simp)
              have x04 := b2.cell (p := ⟨w.heap.size, 13, none⟩) (by simp; omega)
              have y04 := b2.cell (p := ⟨w.heap.size + 1, 13, none⟩) (by simp)
              go_wp2_with fail
              exact finB hR B2 rfl
            case' pos =>
              subst g
              by_cases g : member = member'
              case' neg =>
                rw [decide_eq_false (by rintro ⟨e0, e1, e2, e3, e4, e5, e6, e7, e8, e9, e10, e11, e12, e13⟩; exact g (by first | assumption | exact ⟨e1, e2⟩ | exact ⟨e5, e6, e7, e8⟩))] at hR
                have eP := eql_part topic topic pn pn
                rw [decide_eq_true ⟨rfl, rfl⟩] at eP
                rw [decide_eq_true ⟨rfl, rfl, rfl, rfl⟩] at cB
                have q : (member == member') = false := by simpa using g
                clear g cT
                go_enter Tryz.func6, Tryz.ntmps6
                go_wp2_with fail
                refine (cB.out _ (below_all (below_all (Below.refl _ _)))).use ?_
                intro w2 b2
                have B2 := below_any (Nat.le_refl _) (below_all (below_all (Below.refl _ _))) b2
                have x00 := b2.cell (p := ⟨w.heap.size, 9, none⟩) (by simp; omega)
                have y00 := b2.cell (p := ⟨w.heap.size + 1, 9, none⟩) (by simp)
                have x01 := b2.cell (p := ⟨w.heap.size, 10, none⟩) (by simp; omega)
                have y01 := b2.cell (p := ⟨w.heap.size + 1, 10, none⟩) (by simp)
                have x02 := b2.cell (p := ⟨w.heap.size, 11, none⟩) (by simp; omega)
                have y02 := b2.cell (p := ⟨w.heap.size + 1, 11, none⟩) (by simp)
                have x03 := b2.cell (p := ⟨w.heap.size, 12, none⟩) (by simp; omega)
                have y03 := b2.cell (p := ⟨w.heap.size + 1, 12, none⟩) (by simp)
                have x04 := b2.cell (p := ⟨w.heap.size, 13, none⟩) (by simp; omega)
                have y04 := b2.cell (p := ⟨w.heap.size + 1, 13, none⟩) (by simp)
                go_wp2_with fail
                exact finB hR B2 rfl
              case' pos =>
                subst g
                by_cases g : gen = gen'
                case' neg =>
                  rw [decide_eq_false (by rintro ⟨e0, e1, e2, e3, e4, e5, e6, e7, e8, e9, e10, e11, e12, e13⟩; exact g (by first | assumption | exact ⟨e1, e2⟩ | exact ⟨e5, e6, e7, e8⟩))] at hR
                  have eP := eql_part topic topic pn pn
                  rw [decide_eq_true ⟨rfl, rfl⟩] at eP
                  rw [decide_eq_true ⟨rfl, rfl, rfl, rfl⟩] at cB
                  have q : (gen == gen') = false := by simpa using g
                  clear g cT
                  go_enter Tryz.func6, Tryz.ntmps6
                  go_wp2_with fail
                  refine (cB.out _ (below_all (below_all (Below.refl _ _)))).use ?_
                  intro w2 b2
                  have B2 := below_any (Nat.le_refl _) (below_all (below_all (Below.refl _ _))) b2
                  have x00 := b2.cell (p := ⟨w.heap.size, 9, none⟩) (by simp; omega)
                  have y00 := b2.cell (p := ⟨w.heap.size + 1, 9, none⟩) (by simp)
                  have x01 := b2.cell (p := ⟨w.heap.size, 10, none⟩) (by simp; omega)
                  have y01 := b2.cell (p := ⟨w.heap.size + 1, 10, none⟩) (by simp)
                  have x02 := b2.cell (p := ⟨w.heap.size, 11, none⟩) (by simp; omega)
                  have y02 := b2.cell (p := ⟨w.heap.size + 1, 11, none⟩) (by simp)
                  have x03 := b2.cell (p := ⟨w.heap.size, 12, none⟩) (by simp; omega)
                  have y03 := b2.cell (p := ⟨w.heap.size + 1, 12, none⟩) (by simp)
                  have x04 := b2.cell (p := ⟨w.heap.size, 13, none⟩) (by simp; omega)
                  have y04 := b2.cell (p := ⟨w.heap.size + 1, 13, none⟩) (by simp)
                  go_wp2_with fail
                  exact finB hR B2 rfl
                case' pos =>
                  subst g
                  by_cases g : robin = robin'
                  case' neg =>
                    rw [decide_eq_false (by rintro ⟨e0, e1, e2, e3, e4, e5, e6, e7, e8, e9, e10, e11, e12, e13⟩; exact g (by first | assumption | exact ⟨e1, e2⟩ | exact ⟨e5, e6, e7, e8⟩))] at hR
                    have eP := eql_part topic topic pn pn
                    rw [decide_eq_true ⟨rfl, rfl⟩] at eP
                    rw [decide_eq_true ⟨rfl, rfl, rfl, rfl⟩] at cB
                    have q : (robin == robin') = false := by simpa using g
                    clear g cT
                    go_enter Tryz.func6, Tryz.ntmps6
                    go_wp2_with fail
                    refine (cB.out _ (below_all (below_all (Below.refl _ _)))).use ?_
                    intro w2 b2
                    have B2 := below_any (Nat.le_refl _) (below_all (below_all (Below.refl _ _))) b2
                    have x00 := b2.cell (p := ⟨w.heap.size, 9, none⟩) (by simp; omega)
                    have y00 := b2.cell (p := ⟨w.heap.size + 1, 9, none⟩) (by simp)
                    have x01 := b2.cell (p := ⟨w.heap.size, 10, none⟩) (by simp; omega)
                    have y01 := b2.cell (p := ⟨w.heap.size + 1, 10, none⟩) (by simp)
                    have x02 := b2.cell (p := ⟨w.heap.size, 11, none⟩) (by simp; omega)
                    have y02 := b2.cell (p := ⟨w.heap.size + 1, 11, none⟩) (by simp)
                    have x03 := b2.cell (p := ⟨w.heap.size, 12, none⟩) (by simp; omega)
                    have y03 := b2.cell (p := ⟨w.heap.size + 1, 12, none⟩) (by simp)
                    have x04 := b2.cell (p := ⟨w.heap.size, 13, none⟩) (by simp; omega)
                    have y04 := b2.cell (p := ⟨w.heap.size + 1, 13, none⟩) (by simp)
                    go_wp2_with fail
                    exact finB hR B2 rfl
                  case' pos =>
                    subst g
                    by_cases g : tops = tops'
                    case' neg =>
                      rw [decide_eq_false (by rintro ⟨e0, e1, e2, e3, e4, e5, e6, e7, e8, e9, e10, e11, e12, e13⟩; exact g (by first | assumption | exact ⟨e1, e2⟩ | exact ⟨e5, e6, e7, e8⟩))] at hR
                      have eP := eql_part topic topic pn pn
                      rw [decide_eq_true ⟨rfl, rfl⟩] at eP
                      rw [decide_eq_true ⟨rfl, rfl, rfl, rfl⟩] at cB
                      rw [decide_eq_false g] at cT
                      clear g
                      go_enter Tryz.func6, Tryz.ntmps6
                      go_wp2_with fail
                      refine (cB.out _ (below_all (below_all (Below.refl _ _)))).use ?_
                      intro w2 b2
                      have B2 := below_any (Nat.le_refl _) (below_all (below_all (Below.refl _ _))) b2
                      have x00 := b2.cell (p := ⟨w.heap.size, 9, none⟩) (by simp; omega)
                      have y00 := b2.cell (p := ⟨w.heap.size + 1, 9, none⟩) (by simp)
                      have x01 := b2.cell (p := ⟨w.heap.size, 10, none⟩) (by simp; omega)
                      have y01 := b2.cell (p := ⟨w.heap.size + 1, 10, none⟩) (by simp)
                      have x02 := b2.cell (p := ⟨w.heap.size, 11, none⟩) (by simp; omega)
                      have y02 := b2.cell (p := ⟨w.heap.size + 1, 11, none⟩) (by simp)
                      have x03 := b2.cell (p := ⟨w.heap.size, 12, none⟩) (by simp; omega)
                      have y03 := b2.cell (p := ⟨w.heap.size + 1, 12, none⟩) (by simp)
                      have x04 := b2.cell (p := ⟨w.heap.size, 13, none⟩) (by simp; omega)
                      have y04 := b2.cell (p := ⟨w.heap.size + 1, 13, none⟩) (by simp)
                      go_wp2_with fail
                      refine (cT.out _ B2).use ?_
                      intro w3 b3
                      have B3 := below_any (Nat.le_refl _) B2 b3
                      go_wp2_with fail
                      exact finB hR B3 rfl
                    case' pos =>
                      subst g
                      rw [decide_eq_true ⟨rfl, rfl, rfl, rfl, rfl, rfl, rfl, rfl, rfl, rfl, rfl, rfl, rfl, rfl⟩] at hR
                      have eP := eql_part topic topic pn pn
                      rw [decide_eq_true ⟨rfl, rfl⟩] at eP
                      rw [decide_eq_true ⟨rfl, rfl, rfl, rfl⟩] at cB
                      rw [decide_eq_true rfl] at cT
                      go_enter Tryz.func6, Tryz.ntmps6
                      go_wp2_with fail
                      refine (cB.out _ (below_all (below_all (Below.refl _ _)))).use ?_
                      intro w2 b2
                      have B2 := below_any (Nat.le_refl _) (below_all (below_all (Below.refl _ _))) b2
                      have x00 := b2.cell (p := ⟨w.heap.size, 9, none⟩) (by simp; omega)
                      have y00 := b2.cell (p := ⟨w.heap.size + 1, 9, none⟩) (by simp)
                      have x01 := b2.cell (p := ⟨w.heap.size, 10, none⟩) (by simp; omega)
                      have y01 := b2.cell (p := ⟨w.heap.size + 1, 10, none⟩) (by simp)
                      have x02 := b2.cell (p := ⟨w.heap.size, 11, none⟩) (by simp; omega)
                      have y02 := b2.cell (p := ⟨w.heap.size + 1, 11, none⟩) (by simp)
                      have x03 := b2.cell (p := ⟨w.heap.size, 12, none⟩) (by simp; omega)
                      have y03 := b2.cell (p := ⟨w.heap.size + 1, 12, none⟩) (by simp)
                      have x04 := b2.cell (p := ⟨w.heap.size, 13, none⟩) (by simp; omega)
                      have y04 := b2.cell (p := ⟨w.heap.size + 1, 13, none⟩) (by simp)
                      go_wp2_with fail
                      refine (cT.out _ B2).use ?_
                      intro w3 b3
                      have B3 := below_any (Nat.le_refl _) B2 b3
                      go_wp2_with fail
                      exact finB hR B3 rfl
end Go.Proofs.YthiliodmbipikaaGreat
