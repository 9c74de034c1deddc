import Derived.Test.YthiliodmbipikaaGreatSeg1
import Derived.Test.YthiliodmbipikaaGreatRecX
/-
  Layer 5: the same numbers? the same records?
-/
set_option linter.unusedVariables false
set_option linter.unusedSimpArgs false
namespace Go.Proofs.YthiliodmbipikaaGreat
open Go.RowKit
attribute [local go_sem] ByteArray.extract_mk ByteArray.mk_append_mk

theorem eql_fnd (r s : Fnd) (w : World) : (binOp .eql 95 r.val s.val).run Tryz.prog w = .ok (.bool (decide (r = s))) w := by
  have hS : Tryz.prog.underlying 95 = some (.struct (Tryz.prog.fieldsOf 95)) := by kernel_rfl
  have hp : Tryz.prog.stoodInHeld 95 = false := by kernel_rfl
  have u0 := Tryz.underlying3
  have a0 := Tryz.isAgg3
  have z0 := Tryz.sizeOf3
  have u1 := Tryz.underlying4
  have a1 := Tryz.isAgg4
  have z1 := Tryz.sizeOf4
  have u2 := Tryz.underlying9
  have a2 := Tryz.isAgg9
  have z2 := Tryz.sizeOf9
  have a3 := Tryz.isAgg35
  have z3 := Tryz.sizeOf35
  unfold Fnd.val
  rw [run_eql_struct, show (10000 : Nat) = 9999 + 1 from rfl, run_equalIn_agg w 9999 95 _ _ hS hp]
  simp only [Program.fieldsOf, Tryz.underlying95]
  go_simp
  obtain ⟨ro, rk, rkey, rt, rv⟩ := r
  obtain ⟨so, sk, skey, st, sv⟩ := s
  simp only [Fnd.mk.injEq, Rec.mk.injEq]
  by_cases h0 : ro = so <;> by_cases h1 : rk = sk <;> by_cases h2 : rkey = skey <;> by_cases h3 : rt = st <;> by_cases h4 : rv = sv <;> simp [h0, h1, h2, h3, h4]
theorem neq_fnd (r s : Fnd) (w : World) : (binOp .neq 95 r.val s.val).run Tryz.prog w = .ok (.bool (!decide (r = s))) w := by
  have h := eql_fnd r s w
  unfold Fnd.val at h ⊢
  rw [run_eql_struct] at h
  rw [run_neq_struct]
  generalize (Op.equalIn 10000 95 _ _).run Tryz.prog w = x at *
  cases x with
  | ok b w2 => simp only [Result.andThen_ok, Result.ok.injEq, Value.bool.injEq] at h ⊢; exact ⟨by rw [h.1], h.2⟩
  | halt x w2 => simp [Result.andThen] at h

set_option maxHeartbeats 1000000 in
set_option maxRecDepth 100000 in
theorem found5 (v1 v2 : Value) (l m : List Fnd) (w : World) (h1 : FndsIn w v1 l) (h2 : FndsIn w v2 m) (b1 : l.length ≤ 100000) (b2 : m.length ≤ 100000) :
    RetB Tryz.prog 41 #[v1, v2] w (.bool (decide (l = m))) := by
  refine RetB.intro fun R hR => ?_
  by_cases hlen : l.length = m.length
  · by_cases h0 : l = []
    · subst h0
      obtain rfl : m = [] := List.eq_nil_of_length_eq_zero hlen.symm
      obtain ⟨a1, c1, rfl⟩ := h1.form
      obtain ⟨a2, c2, rfl⟩ := h2.form
      have hg : Tryz.prog.eqGuardType Tryz.prog.depth 95 = false := by kernel_rfl
      go_enter Tryz.func41, Tryz.ntmps41
      go_wp2
      refine wp_loop_rounds 1 ?_
      rw [rounds_succ]
      go_wp2
      exact finB hR (Below.refl _ _) rfl
    · rcases h1 with ⟨rfl, _⟩ | ⟨x1, o1, c1, rfl, _, _, lt1, hc1⟩
      · exact absurd rfl h0
      rcases h2 with ⟨rfl, _⟩ | ⟨x2, o2, c2, rfl, _, _, lt2, hc2⟩
      · exact absurd (List.eq_nil_of_length_eq_zero hlen) h0
      have HL := Lib.hid hlen
      have HC1 := Lib.hid hc1
      have HC2 := Lib.hid hc2
      have q1 : ((l.length : Int) == (m.length : Int)) = true := by simp [hlen]
      have q2 : ((l.length : Int) != (m.length : Int)) = false := by simp [hlen]
      clear hc1 hc2 h0 hlen
      have hg : Tryz.prog.eqGuardType Tryz.prog.depth 95 = false := by kernel_rfl
      go_enter Tryz.func41, Tryz.ntmps41
      go_wp2
      go_loopw [5] (fun (v5 : Value) (wr : World) => ∃ k : Nat, k ≤ l.length ∧ v5 = .int .i64 (k : Int) ∧ Hid (l.take k = m.take k) ∧ Below w.heap.size w wr) (fun (v5 : Value) (wr : World) => (l.length - intOf v5).toNat)
      case atStart => exact ⟨0, by omega, rfl, rfl, Below.refl _ _⟩
      case round =>
        obtain ⟨k, hk, rfl, hch, hnx⟩ := hrel
        by_cases hkl : k < l.length
        · have hkm : k < m.length := by rw [← HL.out]; exact hkl
          obtain ⟨c10, c11, c12, c13, c14⟩ := (HC1.out k hkl).keep fun j => hnx.cell (p := ⟨x1, j, none⟩) lt1
          obtain ⟨c20, c21, c22, c23, c24⟩ := (HC2.out k hkm).keep fun j => hnx.cell (p := ⟨x2, j, none⟩) lt2
          have hq := neq_fnd l[k] m[k]
          unfold Fnd.val at hq
          have hs : ∀ _ : l[k] = m[k], Hid (l.take (k + 1) = m.take (k + 1)) := fun h => by rw [List.take_succ_eq_append_getElem hkl, List.take_succ_eq_append_getElem hkm, hch.out, h]; rfl
          have hn : ∀ _ : ¬ l[k] = m[k], Hid (¬ l = m) := fun h => Lib.hid fun e => h (by subst e; rfl)
          have i1 : (0 : Int) ≤ (k : Int) := by omega
          have i2 : (k : Int) < (l.length : Int) := by omega
          have i3 : (k : Int) < (m.length : Int) := by omega
          generalize l[k] = r at *
          generalize m[k] = s at *
          by_cases hrs : r = s
          · have hs0 := hs hrs
            have hq0 : ∀ w, _ = Result.ok (Value.bool false) w := fun w => (hq w).trans (by rw [decide_eq_true hrs]; rfl)
            clear hs hn hq hrs
            go_wp2
            go_quiet (fail)
            go_wp2
            go_roundw
            case rel => exact ⟨k + 1, by omega, by go_num, hs0, belowN hnx _⟩
            case measure => simp [intOf]; omega
          · have hn0 := hn hrs
            have hq0 : ∀ w, _ = Result.ok (Value.bool true) w := fun w => (hq w).trans (by rw [decide_eq_false hrs]; rfl)
            clear hs hn hq hrs
            go_wp2
            go_quiet (fail)
            go_wp2
            exact finB hR (belowN hnx _) (veq_bool (decide_eq_false hn0.out).symm)
        · have hle : l.length ≤ k := by omega
          have he : l = m := by
            have h := hch.out
            rwa [List.take_of_length_le hle, List.take_of_length_le (by rw [← HL.out]; exact hle)] at h
          have HE := Lib.hid he
          clear he
          go_wp2
          exact finB hR hnx (veq_bool (decide_eq_true HE.out).symm)
  · have hne : ¬ l = m := fun h => hlen (by rw [h])
    rw [decide_eq_false hne] at hR
    obtain ⟨a1, c1, rfl⟩ := h1.form
    obtain ⟨a2, c2, rfl⟩ := h2.form
    have q1 : ((l.length : Int) == (m.length : Int)) = false := by simp; omega
    have q2 : ((l.length : Int) != (m.length : Int)) = true := by simp; omega
    clear hlen hne h1 h2
    go_enter Tryz.func41, Tryz.ntmps41
    go_wp2
    exact finB hR (Below.refl _ _) rfl

end Go.Proofs.YthiliodmbipikaaGreat
