import Derived.Test.YtohplhahghilaaaChkF
/-
  Layer 7, plain: a text's chunks are its bytes; each may be.
-/
set_option linter.unusedVariables false
set_option linter.unusedSimpArgs false
namespace Go.Proofs.Ytohplhahghilaaa
open Go.RowKit

theorem splitN_pos (len size : Nat) : 1 ≤ splitN len size := by unfold splitN; omega
theorem split_in {len size k : Nat} (h1 : 1 ≤ size) (hk : k < splitN len size) : k * size < len ∨ (len = 0 ∧ k = 0) := by
  by_cases h0 : len = 0
  · right
    refine ⟨h0, ?_⟩
    unfold splitN at hk
    have : (len + size - 1) / size = 0 := Nat.div_eq_of_lt (by omega)
    omega
  · left
    by_cases hk0 : k = 0
    · subst hk0; omega
    · unfold splitN at hk
      have hq : k < (len + size - 1) / size := by omega
      have h4 := Nat.div_mul_le_self (len + size - 1) size
      have h5 := Nat.mul_le_mul_right size (show k + 1 ≤ (len + size - 1) / size by omega)
      rw [Nat.add_mul] at h5
      omega
theorem split_end {len size : Nat} (h1 : 1 ≤ size) : len ≤ splitN len size * size := by
  unfold splitN
  have h := Nat.lt_div_mul_add (a := len + size - 1) (b := size) (by omega)
  have h5 := Nat.mul_le_mul_right size (Nat.le_max_right 1 ((len + size - 1) / size))
  omega
theorem split_uniq {len size k : Nat} (h1 : 1 ≤ size) (hk : k < splitN len size) (h : len ≤ (k + 1) * size) : k + 1 = splitN len size := by
  by_cases e : k + 1 < splitN len size
  · rcases split_in h1 e with h2 | h2 <;> omega
  · omega
theorem piece_len (s : List UInt8) (size k : Nat) (h : k * size ≤ s.length) : (piece s size k).length = min s.length ((k + 1) * size) - k * size := by
  unfold piece
  rw [List.length_take, List.length_drop]
  omega
theorem chunkOf_right {s : List UInt8} {size k : Nat} (h1 : 1 ≤ size) (h2 : size ≤ 4096) (h3 : splitN s.length size ≤ 4096) (hk : k < splitN s.length size) : (chunkOf s size k).right = true := by
  have hp := splitN_pos s.length size
  have hl := piece_len s size k (split_lo h1 hk)
  have e : (k + 1) * size = k * size + size := by rw [Nat.add_mul, Nat.one_mul]
  rw [Chk.right_iff]
  unfold chunkOf
  simp only
  refine ⟨by omega, by omega, by omega, by omega, ?_, by omega⟩
  rcases split_in h1 hk with h | ⟨h, rfl⟩
  · left
    intro e0
    rw [e0] at hl
    simp at hl
    omega
  · right
    have h6 : splitN s.length size = 1 := by
      unfold splitN
      have : (s.length + size - 1) / size = 0 := Nat.div_eq_of_lt (by omega)
      omega
    rw [h6]; rfl
theorem pieces_take (s : List UInt8) (size : Nat) : ∀ k, (List.range k).flatMap (piece s size) = s.take (k * size)
  | 0 => by simp
  | k + 1 => by
    rw [List.range_succ, List.flatMap_append, pieces_take s size k]
    simp only [List.flatMap_cons, List.flatMap_nil, List.append_nil]
    unfold piece
    have e : (k + 1) * size = k * size + size := by rw [Nat.add_mul, Nat.one_mul]
    rw [e, List.take_add]
    congr 1
    by_cases h : k * size + size ≤ s.length
    · congr 1; omega
    · rw [List.take_of_length_le (by rw [List.length_drop]; omega), List.take_of_length_le (by rw [List.length_drop]; omega)]
theorem pieces_all (s : List UInt8) {size : Nat} (h1 : 1 ≤ size) : (List.range (splitN s.length size)).flatMap (piece s size) = s := by
  rw [pieces_take, List.take_of_length_le (split_end h1)]
theorem chunksOf_at (s : List UInt8) (size : Nat) {k : Nat} (hk : k < (chunksOf s size).length) : (chunksOf s size)[k] = chunkOf s size k := by
  simp [chunksOf]
end Go.Proofs.Ytohplhahghilaaa
