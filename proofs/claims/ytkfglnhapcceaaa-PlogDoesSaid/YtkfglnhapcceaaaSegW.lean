import Derived.Test.YtkfglnhapcceaaaSeg1
/-
  Layer 5, plain: what is read, as a filter.
-/
set_option linter.unusedVariables false
set_option linter.unusedSimpArgs false
namespace Go.Proofs.Ytkfglnhapcceaaa
open Go.RowKit

/-- The document's reading: from an offset on, so many at most. -/
def readsR (fr n : Int) (l : List Fnd) : List Fnd := (l.filter fun f => decide (fr ≤ f.off)).take n.toNat
theorem readsR_snoc (fr n : Int) (l : List Fnd) (f : Fnd) : readsR fr n (l ++ [f]) = if fr ≤ f.off ∧ ((readsR fr n l).length : Int) < n then readsR fr n l ++ [f] else readsR fr n l := by
  unfold readsR
  rw [List.filter_append]
  by_cases h1 : fr ≤ f.off
  · have hf : [f].filter (fun f => decide (fr ≤ f.off)) = [f] := by simp [h1]
    rw [hf]
    by_cases h2 : (((l.filter fun f => decide (fr ≤ f.off)).take n.toNat).length : Int) < n
    · rw [if_pos ⟨h1, h2⟩]
      rw [List.length_take] at h2
      have h3 : (l.filter fun f => decide (fr ≤ f.off)).length < n.toNat := by omega
      rw [List.take_of_length_le (by simp; omega), List.take_of_length_le (by omega)]
    · rw [if_neg (by rintro ⟨_, h⟩; exact h2 h)]
      rw [List.length_take] at h2
      rw [List.take_append_of_le_length (by omega)]
  · have hf : [f].filter (fun f => decide (fr ≤ f.off)) = [] := by simp [h1]
    rw [hf, List.append_nil, if_neg (by rintro ⟨h, _⟩; exact h1 h)]
theorem readsR_take (fr n : Int) (l : List Fnd) {k : Nat} (hk : k < l.length) : readsR fr n (l.take (k + 1)) = if fr ≤ l[k].off ∧ ((readsR fr n (l.take k)).length : Int) < n then readsR fr n (l.take k) ++ [l[k]] else readsR fr n (l.take k) := by
  rw [List.take_succ_eq_append_getElem hk, readsR_snoc]
theorem readsR_len (fr n : Int) (l : List Fnd) : (readsR fr n l).length ≤ l.length := by
  unfold readsR
  rw [List.length_take]
  have := List.length_filter_le (fun f => decide (fr ≤ f.off)) l
  omega
theorem filter_drop {fr : Int} : ∀ {l : List Fnd}, (∀ i j, (hi : i < j) → (hj : j < l.length) → (l[i]'(by omega)).off < l[j].off) → l.filter (fun f => decide (fr ≤ f.off)) = l.drop (place fr l)
  | [], _ => rfl
  | f :: l, h => by
    have ih := filter_drop (fr := fr) (l := l) fun i j hi hj => by
      have := h (i + 1) (j + 1) (by omega) (by simpa using hj)
      simpa using this
    by_cases h1 : fr ≤ f.off
    · have hp : place fr (f :: l) = 0 := place_eq (by omega) (fun j h => by omega) (fun _ => by simp; omega)
      rw [hp, List.drop_zero, List.filter_cons, if_pos (by simpa using h1)]
      congr 1
      refine List.filter_eq_self.2 fun g hg => ?_
      obtain ⟨i, hi, rfl⟩ := List.getElem_of_mem hg
      have := h 0 (i + 1) (by omega) (by simpa using hi)
      simp at this ⊢
      omega
    · have hp : place fr (f :: l) = place fr l + 1 := by
        unfold place
        rw [List.takeWhile_cons, if_pos (by simp; omega), List.length_cons]
      rw [hp, List.drop_succ_cons, List.filter_cons, if_neg (by simpa using h1), ih]
theorem readsR_eq {fr n : Int} {l : List Fnd} (h : Rising l) : readsR fr n l = reads fr n l := by
  unfold readsR reads
  rw [filter_drop h]
  generalize l.drop (place fr l) = m
  by_cases h1 : n ≤ m.length
  · rw [show (max 0 (min n (m.length : Int))).toNat = n.toNat by omega]
  · rw [show (max 0 (min n (m.length : Int))).toNat = m.length by omega, List.take_length, List.take_of_length_le (by omega)]

end Go.Proofs.Ytkfglnhapcceaaa
