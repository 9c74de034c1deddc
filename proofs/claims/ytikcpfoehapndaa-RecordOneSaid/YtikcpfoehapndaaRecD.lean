/-
  Layer 3: whether records, and batches, are the same: contracts.
-/
import Derived.Test.YtikcpfoehapndaaRecC
import Derived.Laws.StructEq
import Derived.Deep.RegionHeld3
import Derived.Deep.QuietTactic
import Derived.BigQuiet
set_option linter.unusedVariables false
set_option linter.unusedSimpArgs false
namespace Go.Proofs.Ytikcpfoehapndaa
open Go.RowKit
attribute [local go_sem] ByteArray.extract_mk ByteArray.mk_append_mk

theorem eql_rec (r s : Rec) (w : World) : (binOp .eql 23 (.agg #[.bool r.hk, .string (S r.key), .bool r.tb, .string (S r.val)]) (.agg #[.bool s.hk, .string (S s.key), .bool s.tb, .string (S s.val)])).run Try.prog w = .ok (.bool (decide (r = s))) w := by
  have hS : Try.prog.underlying 23 = some (.struct (Try.prog.fieldsOf 23)) := by kernel_rfl
  have hp : Try.prog.stoodInHeld 23 = false := by kernel_rfl
  have u1 := Try.underlying4
  have a1 := Try.isAgg4
  have z1 := Try.sizeOf4
  have u2 := Try.underlying9
  have a2 := Try.isAgg9
  have z2 := Try.sizeOf9
  rw [run_eql_struct, show (10000 : Nat) = 9999 + 1 from rfl, run_equalIn_agg w 9999 23 _ _ hS hp]
  simp only [Program.fieldsOf, Try.underlying23]
  go_simp
  obtain ⟨rk, rkey, rt, rv⟩ := r
  obtain ⟨sk, skey, st, sv⟩ := s
  simp only [Rec.mk.injEq, ByteArray.toList_mk]
  by_cases h1 : rk = sk <;> by_cases h2 : rkey = skey <;> by_cases h3 : rt = st <;> by_cases h4 : rv = sv <;> simp [h1, h2, h3, h4]
theorem neq_rec (r s : Rec) (w : World) : (binOp .neq 23 (.agg #[.bool r.hk, .string (S r.key), .bool r.tb, .string (S r.val)]) (.agg #[.bool s.hk, .string (S s.key), .bool s.tb, .string (S s.val)])).run Try.prog w = .ok (.bool (!decide (r = s))) w := by
  have h := eql_rec r s w
  rw [run_eql_struct] at h
  rw [run_neq_struct]
  generalize (Op.equalIn 10000 23 _ _).run Try.prog w = x at *
  cases x with
  | ok b w2 => simp only [Result.andThen_ok, Result.ok.injEq, Value.bool.injEq] at h ⊢; exact ⟨by rw [h.1], h.2⟩
  | halt x w2 => simp [Result.andThen] at h

set_option maxHeartbeats 1000000 in
set_option maxRecDepth 100000 in
theorem records_any (v1 v2 : Value) (l m : List Rec) (w : World) (h1 : RecsIn w v1 l) (h2 : RecsIn w v2 m) (b1 : l.length ≤ maxLen) (b2 : m.length ≤ maxLen) :
    RetB Try.prog 34 #[v1, v2] w (.bool (decide (l = m))) := by
  refine RetB.intro fun R hR => ?_
  unfold maxLen at b1 b2
  by_cases hlen : l.length = m.length
  · by_cases h0 : l = []
    · subst h0
      obtain rfl : m = [] := List.eq_nil_of_length_eq_zero hlen.symm
      obtain ⟨a1, c1, rfl⟩ := h1.form
      obtain ⟨a2, c2, rfl⟩ := h2.form
      go_enter Try.func34, Try.ntmps34
      go_wp2
      refine wp_loop_rounds 1 ?_
      rw [rounds_succ]
      go_wp2
      exact finB hR (Below.refl _ _) rfl
    · rcases h1 with ⟨rfl, _⟩ | ⟨x1, o1, c1, rfl, _, lt1, hc1⟩
      · exact absurd rfl h0
      rcases h2 with ⟨rfl, _⟩ | ⟨x2, o2, c2, rfl, _, lt2, hc2⟩
      · exact absurd (List.eq_nil_of_length_eq_zero hlen) h0
      have hg : Try.prog.eqGuardType Try.prog.depth 23 = false := by kernel_rfl
      have HL := Lib.hid hlen
      have HC1 := Lib.hid hc1
      have HC2 := Lib.hid hc2
      have q1 : ((l.length : Int) == (m.length : Int)) = true := by simp [hlen]
      have q2 : ((l.length : Int) != (m.length : Int)) = false := by simp [hlen]
      clear hc1 hc2 h0 hlen
      go_enter Try.func34, Try.ntmps34
      go_wp2
      go_loopw [5] (fun (v5 : Value) (wr : World) => ∃ k : Nat, k ≤ l.length ∧ v5 = .int .i64 (k : Int) ∧ Hid (l.take k = m.take k) ∧ Below w.heap.size w wr) (fun (v5 : Value) (wr : World) => (l.length - intOf v5).toNat)
      case atStart => exact ⟨0, by omega, rfl, rfl, Below.refl _ _⟩
      case round =>
        obtain ⟨k, hk, rfl, hch, hnx⟩ := hrel
        by_cases hkl : k < l.length
        · have hkm : k < m.length := by rw [← HL.out]; exact hkl
          obtain ⟨c10, c11, c12, c13⟩ := (HC1.out k hkl).keep fun j => hnx.cell (p := ⟨x1, j, none⟩) lt1
          obtain ⟨c20, c21, c22, c23⟩ := (HC2.out k hkm).keep fun j => hnx.cell (p := ⟨x2, j, none⟩) lt2
          have hq := neq_rec l[k] m[k]
          have hs : ∀ _ : l[k] = m[k], Hid (l.take (k + 1) = m.take (k + 1)) := fun h => by rw [List.take_succ_eq_append_getElem hkl, List.take_succ_eq_append_getElem hkm, hch.out, h]; rfl
          have hn : ∀ _ : ¬ l[k] = m[k], Hid (¬ l = m) := fun h => Lib.hid fun e => h (by subst e; rfl)
          have i1 : (0 : Int) ≤ (k : Int) := by omega
          have i2 : (k : Int) < (l.length : Int) := by omega
          have i3 : (k : Int) < (m.length : Int) := by omega
          generalize l[k] = r at *
          generalize m[k] = s at *
          by_cases hrs : r = s
          · have hs0 := hs hrs
            have hq0 : ∀ w, _ = Result.ok (Value.bool false) w := fun w => (hq w).trans (by rw [decide_eq_true hrs]; rfl)
            clear hs hn hq hrs
            go_wp2
            go_quiet (fail)
            go_wp2
            go_roundw
            case rel => exact ⟨k + 1, by omega, by go_num, hs0, belowN hnx _⟩
            case measure => simp [intOf]; omega
          · have hn0 := hn hrs
            have hq0 : ∀ w, _ = Result.ok (Value.bool true) w := fun w => (hq w).trans (by rw [decide_eq_false hrs]; rfl)
            clear hs hn hq hrs
            go_wp2
            go_quiet (fail)
            go_wp2
            exact finB hR (belowN hnx _) (veq_bool (decide_eq_false hn0.out).symm)
        · have hle : l.length ≤ k := by omega
          have he : l = m := by
            have h := hch.out
            rwa [List.take_of_length_le hle, List.take_of_length_le (by rw [← HL.out]; exact hle)] at h
          have HE := Lib.hid he
          clear he
          go_wp2
          exact finB hR hnx (veq_bool (decide_eq_true HE.out).symm)
  · have hne : ¬ l = m := fun h => hlen (by rw [h])
    rw [decide_eq_false hne] at hR
    obtain ⟨a1, c1, rfl⟩ := h1.form
    obtain ⟨a2, c2, rfl⟩ := h2.form
    have q1 : ((l.length : Int) == (m.length : Int)) = false := by simp; omega
    have q2 : ((l.length : Int) != (m.length : Int)) = true := by simp; omega
    clear hlen hne h1 h2
    go_enter Try.func34, Try.ntmps34
    go_wp2
    exact finB hR (Below.refl _ _) rfl

set_option maxRecDepth 100000 in
theorem same3_any (p e s p' e' s' : Int) (v v' : Value) (l m : List Rec) (w : World) (h1 : RecsIn w v l) (h2 : RecsIn w v' m) (b1 : l.length ≤ maxLen) (b2 : m.length ≤ maxLen) :
    RetB Try.prog 20 #[.agg #[.int .i64 p, .int .i64 e, .int .i64 s, v], .agg #[.int .i64 p', .int .i64 e', .int .i64 s', v']] w (.bool (decide (p = p' ∧ e = e' ∧ s = s' ∧ l = m))) := by
  refine RetB.intro fun R hR => ?_
  obtain ⟨a1, c1, hv⟩ := h1.form
  obtain ⟨a2, c2, hv'⟩ := h2.form
  by_cases g1 : p = p'
  · subst g1
    by_cases g2 : e = e'
    · subst g2
      by_cases g3 : s = s'
      · subst g3
        have hc : ∀ W : World, Below w.heap.size w W → RetB Try.prog 34 #[v, v'] W (.bool (decide (l = m))) := fun W hW => records_any v v' l m W (h1.below hW) (h2.below hW) b1 b2
        simp only [true_and] at hR
        generalize decide (l = m) = b at *
        clear h1 h2
        subst hv
        subst hv'
        go_enter Try.func20, Try.ntmps20
        go_wp2_with fail
        refine (hc _ (below_all (below_all (Below.refl _ _)))).use ?_
        intro w1 hb1
        go_wp2_with fail
        exact finB hR (below_any (Nat.le_refl _) (below_all (below_all (Below.refl _ _))) hb1) rfl
      · have q : ((s : Int) == s') = false := by simpa using g3
        rw [decide_eq_false (by simp [g3])] at hR
        subst hv
        subst hv'
        clear g3 h1 h2
        go_enter Try.func20, Try.ntmps20
        go_wp2
        exact finB hR (below_all (below_all (Below.refl _ _))) rfl
    · have q : ((e : Int) == e') = false := by simpa using g2
      rw [decide_eq_false (by simp [g2])] at hR
      subst hv
      subst hv'
      clear g2 h1 h2
      go_enter Try.func20, Try.ntmps20
      go_wp2
      exact finB hR (below_all (below_all (Below.refl _ _))) rfl
  · have q : ((p : Int) == p') = false := by simpa using g1
    rw [decide_eq_false (by simp [g1])] at hR
    subst hv
    subst hv'
    clear g1 h1 h2
    go_enter Try.func20, Try.ntmps20
    go_wp2
    exact finB hR (below_all (below_all (Below.refl _ _))) rfl
end Go.Proofs.Ytikcpfoehapndaa
