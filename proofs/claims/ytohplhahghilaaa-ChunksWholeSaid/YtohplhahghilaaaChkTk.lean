import Derived.Test.YtohplhahghilaaaChkV
import Derived.Test.YtohplhahghilaaaChkO
/-
  Layer 7, plain: which chunks of a text were taken.
-/
set_option linter.unusedVariables false
set_option linter.unusedSimpArgs false
namespace Go.Proofs.Ytohplhahghilaaa
open Go.RowKit

/-- What was taken are chunks of this text, those that are ticked. -/
structure Taken (t : List UInt8) (k N : Nat) (L : List (Int × List UInt8)) (hs : List Bool) : Prop where
  len : hs.length = N
  look : ∀ i : Nat, i < N → mfind L (i : Int) = if hs.getD i false then some (piece t k i) else none
  cnt : L.length = hs.count true
  bod : ∀ p ∈ L, p.2.length ≤ 4096
theorem Taken.nil (t : List UInt8) (k N : Nat) : Taken t k N [] (List.replicate N false) :=
  ⟨by simp, fun i hi => by
    have : (List.replicate N false).getD i false = false := by rw [List.getD_eq_getElem?_getD]; simp [hi]
    rw [this]; rfl, by simp [List.count_replicate], by simp⟩
theorem count_set_true : ∀ (hs : List Bool) (i : Nat), i < hs.length → (hs.set i true).count true = hs.count true + if hs.getD i false then 0 else 1
  | [], i, h => by simp at h
  | b :: hs, 0, _ => by cases b <;> simp
  | b :: hs, i + 1, h => by
    have ih := count_set_true hs i (by simpa using h)
    simp only [List.set_cons_succ, List.count_cons, List.getD_cons_succ] at ih ⊢
    omega
theorem count_both : ∀ hs : List Bool, hs.count true + hs.count false = hs.length
  | [] => rfl
  | b :: hs => by
    have := count_both hs
    cases b <;> simp <;> omega
section
variable {t : List UInt8} {k N : Nat} {L : List (Int × List UInt8)} {hs : List Bool}
theorem Taken.put (h : Taken t k N L hs) {i : Nat} (hi : i < N) (hk : (piece t k i).length ≤ 4096) : Taken t k N (mput L (i : Int) (piece t k i)) (hs.set i true) := by
  have hl := h.look i hi
  have hc := count_set_true hs i (by rw [h.len]; exact hi)
  have hset : ∀ j : Nat, j < N → (hs.set i true).getD j false = if i = j then true else hs.getD j false := fun j hj => by
    rw [List.getD_eq_getElem?_getD, List.getElem?_set, List.getD_eq_getElem?_getD]
    by_cases e : i = j
    · subst e; simp [h.len, hi]
    · simp [e]
  cases hb : hs.getD i false with
  | true =>
    rw [hb] at hl hc
    simp only [if_true] at hl hc
    have e : mput L (i : Int) (piece t k i) = L := by unfold mput; rw [hl]; rfl
    rw [e]
    refine ⟨by rw [List.length_set, h.len], fun j hj => ?_, by rw [hc, h.cnt]; rfl, h.bod⟩
    rw [hset j hj, h.look j hj]
    by_cases e : i = j
    · subst e; rw [hb]; simp
    · simp [e]
  | false =>
    rw [hb] at hl hc
    simp only [Bool.false_eq_true, if_false] at hl hc
    have e : mput L (i : Int) (piece t k i) = L ++ [((i : Int), piece t k i)] := by unfold mput; rw [hl]; rfl
    rw [e]
    refine ⟨by rw [List.length_set, h.len], fun j hj => ?_, by rw [hc, List.length_append, h.cnt]; rfl, fun p hp => ?_⟩
    · rw [hset j hj, mfind_snoc, h.look j hj]
      by_cases e : i = j
      · subst e; rw [hb]; simp
      · have e2 : ¬ ((i : Int) = (j : Int)) := by omega
        cases hs.getD j false <;> simp [e, e2]
    · rcases List.mem_append.1 hp with hp | hp
      · exact h.bod p hp
      · simp only [List.mem_singleton] at hp
        subst hp
        exact hk
theorem Taken.miss (h : Taken t k N L hs) : ∀ j, j ≤ N → (jmiss L j).length = (hs.take j).count false
  | 0, _ => by simp [jmiss]
  | j + 1, hj => by
    have ih := h.miss j (by omega)
    have hlt : j < hs.length := by rw [h.len]; omega
    rw [jmiss_step, List.length_append, ih, List.take_succ_eq_append_getElem hlt, List.count_append, h.look j (by omega)]
    have e : hs.getD j false = hs[j] := by rw [List.getD_eq_getElem?_getD, List.getElem?_eq_getElem hlt]; rfl
    rw [e]
    cases hs[j] <;> simp
theorem Taken.miss_all (h : Taken t k N L hs) : (jmiss L N).length = hs.count false := by
  rw [h.miss N (Nat.le_refl _), List.take_of_length_le (by rw [h.len]; exact Nat.le_refl _)]
theorem Taken.all (h : Taken t k N L hs) (hf : N ≤ L.length) : ∀ i, i < N → hs.getD i false = true := by
  have h1 := count_both hs
  have h2 := h.cnt
  have h3 := h.len
  have h0 : hs.count false = 0 := by omega
  intro i hi
  rw [List.getD_eq_getElem?_getD, List.getElem?_eq_getElem (by omega)]
  have hm : hs[i]'(by omega) ∈ hs := List.getElem_mem _
  have := List.count_eq_zero.1 h0
  cases e : hs[i]'(by omega) with
  | true => rfl
  | false => rw [e] at hm; exact absurd hm this
theorem Taken.text (h : Taken t k N L hs) (hf : N ≤ L.length) (hN : splitN t.length k = N) (hk : 1 ≤ k) : jtext L N = t := by
  have h1 : ∀ j, j ≤ N → jtext L j = (List.range j).flatMap (piece t k) := by
    intro j
    induction j with
    | zero => intro _; rfl
    | succ j ih =>
      intro hj
      rw [jtext_step, ih (by omega), List.range_succ, List.flatMap_append, h.look j (by omega), h.all hf j (by omega)]
      simp
  rw [h1 N (Nat.le_refl _), ← hN, pieces_all t hk]
theorem Taken.none (h : Taken t k N L hs) (hL : L = []) (i : Nat) (hi : i < N) : hs.getD i false = false := by
  have := h.look i hi
  subst hL
  cases hb : hs.getD i false with
  | false => rfl
  | true => rw [hb] at this; simp [mfind] at this
theorem Taken.right (h : Taken t k N L hs) {d : Nat} {n : Int} {i : Nat} (hi : i < N) (hn : L = [] ∨ n = N) (hr : (⟨i, N, d, piece t k i⟩ : Chk).right = true) :
    jtake d n L ⟨i, N, d, piece t k i⟩ = (0, (N : Int), mput L (i : Int) (piece t k i)) := by
  unfold jtake
  rw [if_neg (by rw [hr]; simp), if_neg]
  rintro (h1 | ⟨h1, h2⟩ | ⟨x, h1, h2⟩)
  · exact h1 rfl
  · rcases hn with hn | hn
    · exact h1 hn
    · exact h2 hn.symm
  · rw [h.look i hi] at h1
    cases hb : hs.getD i false with
    | false => rw [hb] at h1; simp at h1
    | true => rw [hb] at h1; simp at h1; exact h2 h1.symm
end
theorem mput_ne (L : List (Int × List UInt8)) (k : Int) (b : List UInt8) : mput L k b ≠ [] := by
  unfold mput
  split
  · rename_i h
    intro e
    subst e
    simp [mfind] at h
  · simp
end Go.Proofs.Ytohplhahghilaaa
