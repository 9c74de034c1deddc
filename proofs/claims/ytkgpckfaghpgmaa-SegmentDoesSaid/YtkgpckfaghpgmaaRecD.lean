/-
  Layer 3: whether records, and batches, are the same: contracts.
-/
import Derived.Test.YtkgpckfaghpgmaaRecC
import Derived.Laws.StructEq
import Derived.Deep.RegionHeld3
import Derived.Deep.QuietTactic
import Derived.BigQuiet
set_option linter.unusedVariables false
set_option linter.unusedSimpArgs false
namespace Go.Proofs.Ytkgpckfaghpgmaa
open Go.RowKit
attribute [local go_sem] ByteArray.extract_mk ByteArray.mk_append_mk

theorem eql_rec (r s : Rec) (w : World) : (binOp .eql 24 (.agg #[.bool r.hk, .string (S r.key), .bool r.tb, .string (S r.val)]) (.agg #[.bool s.hk, .string (S s.key), .bool s.tb, .string (S s.val)])).run Try.prog w = .ok (.bool (decide (r = s))) w := by
  have hS : Try.prog.underlying 24 = some (.struct (Try.prog.fieldsOf 24)) := by kernel_rfl
  have hp : Try.prog.stoodInHeld 24 = false := by kernel_rfl
  have u1 := Try.underlying4
  have a1 := Try.isAgg4
  have z1 := Try.sizeOf4
  have u2 := Try.underlying9
  have a2 := Try.isAgg9
  have z2 := Try.sizeOf9
  rw [run_eql_struct, show (10000 : Nat) = 9999 + 1 from rfl, run_equalIn_agg w 9999 24 _ _ hS hp]
  simp only [Program.fieldsOf, Try.underlying24]
  go_simp
  obtain ⟨rk, rkey, rt, rv⟩ := r
  obtain ⟨sk, skey, st, sv⟩ := s
  simp only [Rec.mk.injEq, ByteArray.toList_mk]
  by_cases h1 : rk = sk <;> by_cases h2 : rkey = skey <;> by_cases h3 : rt = st <;> by_cases h4 : rv = sv <;> simp [h1, h2, h3, h4]
theorem neq_rec (r s : Rec) (w : World) : (binOp .neq 24 (.agg #[.bool r.hk, .string (S r.key), .bool r.tb, .string (S r.val)]) (.agg #[.bool s.hk, .string (S s.key), .bool s.tb, .string (S s.val)])).run Try.prog w = .ok (.bool (!decide (r = s))) w := by
  have h := eql_rec r s w
  rw [run_eql_struct] at h
  rw [run_neq_struct]
  generalize (Op.equalIn 10000 24 _ _).run Try.prog w = x at *
  cases x with
  | ok b w2 => simp only [Result.andThen_ok, Result.ok.injEq, Value.bool.injEq] at h ⊢; exact ⟨by rw [h.1], h.2⟩
  | halt x w2 => simp [Result.andThen] at h

end Go.Proofs.Ytkgpckfaghpgmaa
