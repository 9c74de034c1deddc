/-
  Layer 3, plain: records and their bytes, as lists of bytes. No program in sight.
-/
import Derived.Test.YtkgpckfaghpgmaaVarQ
set_option linter.unusedVariables false
set_option linter.unusedSimpArgs false
namespace Go.Proofs.Ytkgpckfaghpgmaa
open Go.RowKit

theorem vputF_le0 : ∀ f n, (vputF f n).length ≤ f + 1
  | 0, n => by simp [vputF]
  | f + 1, n => by
    unfold vputF
    split
    · simp
    · have := vputF_le0 f (n / 128); simp; omega
theorem vputF_le' (n : Nat) : (vput n).length ≤ 10 := vputF_le0 9 n
/-- A record: has it a key, its key, is it a tomb, its value. -/
structure Rec where
  hk : Bool
  key : List UInt8
  tb : Bool
  val : List UInt8
deriving DecidableEq

/-- May a record be? -/
def rcheck (hk : Bool) (k : List UInt8) (tb : Bool) (v : List UInt8) : Nat :=
  if (!hk && !k.isEmpty) || (tb && (!hk || !v.isEmpty)) then 30 else if 64 < k.length ∨ 512 < v.length then 2 else 0
/-- The bytes of a record that may be. -/
def rtext (hk : Bool) (k : List UInt8) (tb : Bool) (v : List UInt8) : List UInt8 :=
  if tb then 3 :: vtxt k else if hk then 1 :: (vtxt k ++ vtxt v) else 0 :: vtxt v
/-- May a number be? -/
def numB (n : Int) : Bool := decide (0 ≤ n) && decide (n ≤ 1099511627776)

theorem rcheck_ok {hk tb : Bool} {k v : List UInt8} (h : rcheck hk k tb v = 0) : (tb = true → hk = true) ∧ (hk = false → k = []) ∧ (tb = true → v = []) ∧ k.length ≤ 64 ∧ v.length ≤ 512 := by
  unfold rcheck at h
  split at h
  · cases h
  · rename_i h1
    split at h
    · cases h
    · rename_i h2
      refine ⟨?_, ?_, ?_, by omega, by omega⟩ <;> revert h1 <;> cases hk <;> cases tb <;> cases k <;> cases v <;> simp
theorem rcheck_cases (hk tb : Bool) (k v : List UInt8) : rcheck hk k tb v = 0 ∨ rcheck hk k tb v = 30 ∨ rcheck hk k tb v = 2 := by
  unfold rcheck; split
  · simp
  · split <;> simp

/-- A record's bytes, or what is wrong. -/
def rput (hk : Bool) (k : List UInt8) (tb : Bool) (v : List UInt8) : List UInt8 × Nat := if rcheck hk k tb v = 0 then (rtext hk k tb v, 0) else ([], rcheck hk k tb v)
theorem rtext_le {hk tb : Bool} {k v : List UInt8} (h1 : k.length ≤ 1000) (h2 : v.length ≤ 1000) : (rtext hk k tb v).length ≤ 2021 := by
  have a := vputF_le' k.length
  have b := vputF_le' v.length
  unfold rtext vtxt
  split
  · simp; omega
  · split <;> simp <;> omega
def Rec.ok (r : Rec) : Nat := rcheck r.hk r.key r.tb r.val
def Rec.text (r : Rec) : List UInt8 := rtext r.hk r.key r.tb r.val
end Go.Proofs.Ytkgpckfaghpgmaa
