import Derived.Test.YtohplhahghilaaaFix5
/-
  Layer 5: records v appended one by one.
-/
set_option linter.unusedVariables false
set_option linter.unusedSimpArgs false
namespace Go.Proofs.Ytohplhahghilaaa
open Go.RowKit

/-- So many records v, one behind the other. -/
def vs (q : Int) (k : Nat) : List Fnd := fnds q (List.replicate k rv)
theorem vs_len (q : Int) (k : Nat) : (vs q k).length = k := by unfold vs; rw [fnds_len, List.length_replicate]
theorem vs_succ (q : Int) (k : Nat) : vs q (k + 1) = vs q k ++ [⟨q + k, rv⟩] := by
  unfold vs
  rw [List.replicate_succ', fnds_snoc, List.length_replicate]
theorem vs_get (q : Int) : ∀ k i, (h : i < (vs q k).length) → (vs q k)[i] = ⟨q + i, rv⟩
  | 0, i, h => by rw [vs_len] at h; omega
  | k + 1, i, h => by
    have e := vs_succ q k
    by_cases hi : i < k
    · have := vs_get q k i (by rw [vs_len]; exact hi)
      simp only [e]
      rw [List.getElem_append_left (by rw [vs_len]; exact hi)]
      exact this
    · have : i = k := by rw [vs_len] at h; omega
      subst this
      simp only [e]
      rw [List.getElem_append_right (by rw [vs_len]; omega)]
      simp [vs_len]
theorem vs_rising (q : Int) (k : Nat) : Rising (vs q k) := fun i j hi hj => by
  rw [vs_get q k i (by omega), vs_get q k j hj]
  show q + (i : Int) < q + (j : Int)
  omega
end Go.Proofs.Ytohplhahghilaaa
