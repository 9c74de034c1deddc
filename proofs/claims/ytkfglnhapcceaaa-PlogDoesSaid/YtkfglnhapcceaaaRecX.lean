import Derived.Test.YtkfglnhapcceaaaRecA
import Derived.Test.YtkfglnhapcceaaaRecP1
import Derived.Laws.StructEq
import Derived.Deep.RegionHeld3
import Derived.Deep.QuietTactic
import Derived.BigQuiet
/-
  Several texts in one: RecB, RecC, RecD.
-/
set_option linter.unusedVariables false
set_option linter.unusedSimpArgs false
namespace Go.Proofs.Ytkfglnhapcceaaa
open Go.RowKit
attribute [local go_sem] ByteArray.extract_mk ByteArray.mk_append_mk

set_option maxHeartbeats 1000000 in
set_option maxRecDepth 100000 in
theorem r3text_any (hk tb : Bool) (k v : List UInt8) (w : World) (h1 : k.length ≤ 1000) (h2 : v.length ≤ 1000) :
    RetB Try.prog 62 #[.agg #[.bool hk, .string (S k), .bool tb, .string (S v)]] w (.string (S (rtext hk k tb v))) := by
  refine RetB.intro fun R hR => ?_
  have p1 := fun w => rtext_any k w (by omega)
  have p2 := fun w => rtext_any v w (by omega)
  have l1 : (vtxt k).length ≤ 1010 := by have := vput_le k.length; unfold vtxt; rw [List.length_append]; omega
  have l2 : (vtxt v).length ≤ 1010 := by have := vput_le v.length; unfold vtxt; rw [List.length_append]; omega
  unfold rtext at hR
  generalize vtxt k = xk at *
  generalize vtxt v = xv at *
  have e0 : ∀ (c : UInt8) (l : List UInt8), Value.string { data := #[c] ++ l.toArray } = Value.string (S (c :: l)) := fun c l => by simp
  cases tb
  · cases hk
    · go_enter Try.func62, Try.ntmps62
      go_wp2_with (go_at_call 69; refine (p2 _).use ?_; intro w2 hb2)
      exact finB hR (below_any (Nat.le_refl _) (below_all (Below.refl _ _)) hb2) rfl
    · have ep : ∀ l : List UInt8, ({ data := #[1] ++ l.toArray } : ByteArray) = S (1 :: l) := fun l => by simp
      have hsz : ¬ 9223372036854775807 < 1 + xk.length := by omega
      have hsz2 : ¬ 9223372036854775807 < xk.length + 1 + xv.length := by omega
      go_enter Try.func62, Try.ntmps62
      go_wp2_with fail
      go_region_held3 (fun w' => w'.cell? ⟨w.heap.size, 1, none⟩ = some (.string (S k)) ∧ w'.cell? ⟨w.heap.size, 3, none⟩ = some (.string (S v))) (go_keep) (first | (go_at_call_of 69 (Value.string (S k)); refine (p1 _).use ?_; intro w2 hb2; have hz2 : w.heap.size < w2.heap.size := Nat.lt_of_lt_of_le (by simp) hb2.size; obtain ⟨hc2, hf2⟩ := bcell hb2) | (go_at_call_of 69 (Value.string (S v)); refine (p2 _).use ?_; intro w3 hb3; obtain ⟨hc3, hf3⟩ := bcell hb3))
      go_wp2
      exact finB hR (below_any (Nat.le_refl _) (below_any (Nat.le_refl _) (below_all (Below.refl _ _)).drew hb2) hb3) rfl
  · go_enter Try.func62, Try.ntmps62
    go_wp2_with (go_at_call 69; refine (p1 _).use ?_; intro w2 hb2)
    exact finB hR (below_any (Nat.le_refl _) (below_all (Below.refl _ _)) hb2) rfl

theorem put3_eq {hk tb : Bool} {k v : List UInt8} (h : rcheck hk k tb v = 0) : rput hk k tb v = (rtext hk k tb v, 0) := by unfold rput; rw [if_pos h]
theorem put3_ne {hk tb : Bool} {k v : List UInt8} (h : rcheck hk k tb v ≠ 0) : rput hk k tb v = ([], rcheck hk k tb v) := by unfold rput; rw [if_neg h]

set_option maxRecDepth 100000 in
theorem size3_any (hk tb : Bool) (k v : List UInt8) (w : World) (h1 : k.length ≤ maxLen) (h2 : v.length ≤ maxLen) :
    RetB Try.prog 68 #[.agg #[.bool hk, .string (S k), .bool tb, .string (S v)]] w (.int .i64 (rput hk k tb v).1.length) := by
  refine RetB.intro fun R hR => ?_
  have cC := fun w => check_any hk tb k v w h1 h2
  by_cases h : rcheck hk k tb v = 0
  · obtain ⟨q1, _, _, q2, q3⟩ := rcheck_ok h
    rw [put3_eq h] at hR
    have cT := fun w => text3_any hk tb k v w q1 (by omega) (by omega)
    have cC : ∀ w, RetB Try.prog 37 _ w (.int .i64 0) := fun w => (cC w).cast (by rw [h]; rfl)
    generalize rtext hk k tb v = x at *
    clear h q1
    go_enter Try.func68, Try.ntmps68
    go_wp2_with fail
    refine (cC _).use ?_
    intro w1 hb1
    have B1 := (Blk.new w _ _).below hb1
    obtain ⟨hz1, c10, c11, c12, c13⟩ := B1.c4
    go_wp2_with fail
    refine (cT _).use ?_
    intro w2 hb2
    go_wp2_with fail
    exact finB hR (below_any (Nat.le_refl _) (below_any (Nat.le_refl _) (below_all (Below.refl _ _)) hb1) hb2) rfl
  · rw [put3_ne h] at hR
    obtain ⟨e, he⟩ : ∃ e, rcheck hk k tb v = e := ⟨_, rfl⟩
    rw [he] at cC h
    clear he
    have he : ((e : Int) == 0) = false := by simpa using h
    have he2 : ((e : Int) != 0) = true := by simpa using h
    go_enter Try.func68, Try.ntmps68
    go_wp2_with fail
    refine (cC _).use ?_
    intro w1 hb1
    go_wp2_with fail
    exact finB hR (below_any (Nat.le_refl _) (below_all (Below.refl _ _)) hb1) rfl

set_option maxRecDepth 100000 in
theorem cut3_any (hk tb : Bool) (k v : List UInt8) (w : World) (h1 : k.length ≤ maxLen) (h2 : v.length ≤ maxLen) :
    RetB Try.prog 56 #[.agg #[.bool hk, .string (S k), .bool tb, .string (S v)]] w (.agg #[.bool hk, .string (S (k.take 80)), .bool tb, .string (S (v.take 600))]) := by
  refine RetB.intro fun R hR => ?_
  unfold maxLen at h1 h2
  have q1 : ((min (k.length : Int) 80).toNat) = min k.length 80 := by omega
  have q2 : ((min (v.length : Int) 600).toNat) = min v.length 600 := by omega
  rcases Nat.lt_or_ge 80 k.length with a1 | a1 <;> rcases Nat.lt_or_ge 600 v.length with a2 | a2
  all_goals
    try rw [List.take_of_length_le a1] at hR
    try rw [List.take_of_length_le a2] at hR
    go_enter Try.func56, Try.ntmps56
    go_wp2
    refine bodyPost_ret ?_ rfl (finB hR (below_all (below_all (Below.refl _ _))) rfl)
    simp [results, Try.results56, go_sem]
end Go.Proofs.Ytkfglnhapcceaaa

set_option linter.unusedVariables false
set_option linter.unusedSimpArgs false
namespace Go.Proofs.Ytkfglnhapcceaaa
open Go.RowKit
end Go.Proofs.Ytkfglnhapcceaaa

set_option linter.unusedVariables false
set_option linter.unusedSimpArgs false
namespace Go.Proofs.Ytkfglnhapcceaaa
open Go.RowKit
attribute [local go_sem] ByteArray.extract_mk ByteArray.mk_append_mk

theorem eql_rec (r s : Rec) (w : World) : (binOp .eql 29 (.agg #[.bool r.hk, .string (S r.key), .bool r.tb, .string (S r.val)]) (.agg #[.bool s.hk, .string (S s.key), .bool s.tb, .string (S s.val)])).run Try.prog w = .ok (.bool (decide (r = s))) w := by
  have hS : Try.prog.underlying 29 = some (.struct (Try.prog.fieldsOf 29)) := by kernel_rfl
  have hp : Try.prog.stoodInHeld 29 = false := by kernel_rfl
  have u1 := Try.underlying4
  have a1 := Try.isAgg4
  have z1 := Try.sizeOf4
  have u2 := Try.underlying9
  have a2 := Try.isAgg9
  have z2 := Try.sizeOf9
  rw [run_eql_struct, show (10000 : Nat) = 9999 + 1 from rfl, run_equalIn_agg w 9999 29 _ _ hS hp]
  simp only [Program.fieldsOf, Try.underlying29]
  go_simp
  obtain ⟨rk, rkey, rt, rv⟩ := r
  obtain ⟨sk, skey, st, sv⟩ := s
  simp only [Rec.mk.injEq, ByteArray.toList_mk]
  by_cases h1 : rk = sk <;> by_cases h2 : rkey = skey <;> by_cases h3 : rt = st <;> by_cases h4 : rv = sv <;> simp [h1, h2, h3, h4]
theorem neq_rec (r s : Rec) (w : World) : (binOp .neq 29 (.agg #[.bool r.hk, .string (S r.key), .bool r.tb, .string (S r.val)]) (.agg #[.bool s.hk, .string (S s.key), .bool s.tb, .string (S s.val)])).run Try.prog w = .ok (.bool (!decide (r = s))) w := by
  have h := eql_rec r s w
  rw [run_eql_struct] at h
  rw [run_neq_struct]
  generalize (Op.equalIn 10000 29 _ _).run Try.prog w = x at *
  cases x with
  | ok b w2 => simp only [Result.andThen_ok, Result.ok.injEq, Value.bool.injEq] at h ⊢; exact ⟨by rw [h.1], h.2⟩
  | halt x w2 => simp [Result.andThen] at h

end Go.Proofs.Ytkfglnhapcceaaa
