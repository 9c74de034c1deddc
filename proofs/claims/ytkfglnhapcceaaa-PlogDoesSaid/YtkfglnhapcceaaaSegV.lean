import Derived.Test.YtkfglnhapcceaaaFix5
/-
  Layer 5: records v appended one by one.
-/
set_option linter.unusedVariables false
set_option linter.unusedSimpArgs false
namespace Go.Proofs.Ytkfglnhapcceaaa
open Go.RowKit

/-- So many records v, one behind the other. -/
def vs (q : Int) (k : Nat) : List Fnd := fnds q (List.replicate k rv)
theorem vs_len (q : Int) (k : Nat) : (vs q k).length = k := by unfold vs; rw [fnds_len, List.length_replicate]
theorem vs_succ (q : Int) (k : Nat) : vs q (k + 1) = vs q k ++ [⟨q + k, rv⟩] := by
  unfold vs
  rw [List.replicate_succ', fnds_snoc, List.length_replicate]
theorem vs_get (q : Int) : ∀ k i, (h : i < (vs q k).length) → (vs q k)[i] = ⟨q + i, rv⟩
  | 0, i, h => by rw [vs_len] at h; omega
  | k + 1, i, h => by
    have e := vs_succ q k
    by_cases hi : i < k
    · have := vs_get q k i (by rw [vs_len]; exact hi)
      simp only [e]
      rw [List.getElem_append_left (by rw [vs_len]; exact hi)]
      exact this
    · have : i = k := by rw [vs_len] at h; omega
      subst this
      simp only [e]
      rw [List.getElem_append_right (by rw [vs_len]; omega)]
      simp [vs_len]
theorem append_v (p : Nat) (bs : List Nat) (base q : Int) (k : Nat) (v : Value) (w : World) (h : SegAt w p bs base (q + k) (vs q k)) (hl : RecsIn w v [rv]) (ha : Away bs v) (hk : k < 64) (hq : 0 ≤ q ∧ q ≤ 100000) :
    SegCall 41 #[.pointer (some ⟨p, 0, none⟩), v] w p bs (.tuple #[.int .i64 (q + k), .int .i64 0]) base (q + (k + 1 : Nat)) (vs q (k + 1)) := by
  have := append5_ok p bs base (q + k) (vs q k) v [rv] w h hl ha (bd_small _ (by decide +kernel)) (by omega) (by
    unfold aerr
    rw [if_neg (by decide +kernel), if_neg (by rw [vs_len]; simp; omega)])
  rw [show fnds (q + k) [rv] = [⟨q + k, rv⟩] from rfl, ← vs_succ] at this
  rw [show q + ((k + 1 : Nat) : Int) = q + (k : Int) + (([rv] : List Rec).length : Nat) by simp; omega]
  exact this
theorem vs_rising (q : Int) (k : Nat) : Rising (vs q k) := fun i j hi hj => by
  rw [vs_get q k i (by omega), vs_get q k j hj]
  show q + (i : Int) < q + (j : Int)
  omega
end Go.Proofs.Ytkfglnhapcceaaa
