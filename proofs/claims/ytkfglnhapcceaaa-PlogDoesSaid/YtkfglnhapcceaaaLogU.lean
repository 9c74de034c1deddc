import Derived.Test.YtkfglnhapcceaaaLogT
/-
  Layer 6, plain: what appends do.
-/
set_option linter.unusedVariables false
set_option linter.unusedSimpArgs false
namespace Go.Proofs.Ytkfglnhapcceaaa
open Go.RowKit

section
variable {room : Int} {D : List Sd} {rs : List Rec}
theorem dapp_len : (dapp room D rs).length ≤ D.length + 1 := by
  unfold dapp
  split
  · omega
  · split
    · omega
    · split
      · simp
      · rw [List.length_append, List.length_dropLast, List.length_singleton]; omega
theorem dstart_append {A B : List Sd} (h : A ≠ []) : dstart (A ++ B) = dstart A := by
  cases A with
  | nil => exact absurd rfl h
  | cons s A => rfl
theorem dapp_start (hne : D ≠ []) : dstart (dapp room D rs) = dstart D := by
  obtain ⟨A, s, rfl⟩ : ∃ A s, D = A ++ [s] := ⟨D.dropLast, D.getLast hne, (List.dropLast_concat_getLast hne).symm⟩
  by_cases he : aerr6 room (A ++ [s]) rs = 0
  · by_cases hr : rs ≠ [] ∧ room < s.l.length + rs.length
    · rw [dapp_roll he hr, dstart_append (by simp)]
    · rw [dapp_in he hr]
      cases A <;> simp [dstart]
  · rw [dapp_no he]
theorem dapp_end (hne : D ≠ []) (he : aerr6 room D rs = 0) : dend (dapp room D rs) = dend D + rs.length := by
  obtain ⟨A, s, rfl⟩ : ∃ A s, D = A ++ [s] := ⟨D.dropLast, D.getLast hne, (List.dropLast_concat_getLast hne).symm⟩
  rw [dend_snoc]
  by_cases hr : rs ≠ [] ∧ room < s.l.length + rs.length
  · rw [dapp_roll he hr, dend_snoc]
  · rw [dapp_in he hr, dend_snoc]
theorem dapp_all (hne : D ≠ []) (he : aerr6 room D rs = 0) : dall (dapp room D rs) = dall D ++ fnds (dend D) rs := by
  obtain ⟨A, s, rfl⟩ : ∃ A s, D = A ++ [s] := ⟨D.dropLast, D.getLast hne, (List.dropLast_concat_getLast hne).symm⟩
  rw [dend_snoc]
  by_cases hr : rs ≠ [] ∧ room < s.l.length + rs.length
  · rw [dapp_roll he hr]; simp [dall]
  · rw [dapp_in he hr]; simp [dall]
/-- The segment that a batch stands in. -/
theorem dapp_open (hg : Good room D) (he : aerr6 room D rs = 0) : ∃ B t, dapp room D rs = B ++ [t] ∧ t.base ≤ dend D ∧ t.next = dend D + rs.length ∧ (t.l.length : Int) ≤ room := by
  obtain ⟨B, t, h⟩ := (hg.app he).split
  have h1 := dapp_end hg.2.2.1 he
  have h2 := (gscan_mem (hg.app he).2.2.2 t (by rw [h]; simp)).2
  rw [h, dend_snoc] at h1
  refine ⟨B, t, h, ?_, h1, h2⟩
  obtain ⟨A, s, rfl⟩ := hg.split
  have hs := hg.mem (s := s) (by simp)
  rw [dend_snoc]
  by_cases hr : rs ≠ [] ∧ room < s.l.length + rs.length
  · rw [dapp_roll he hr] at h
    have := List.append_inj_right' h rfl
    simp only [List.cons.injEq, and_true] at this
    rw [← this]
    exact Int.le_refl _
  · rw [dapp_in he hr] at h
    have := List.append_inj_right' h rfl
    simp only [List.cons.injEq, and_true] at this
    rw [← this]
    exact hs.2.1
theorem aerr_ok (h1 : ∀ r ∈ rs, r.ok = 0) (h2 : (rs.length : Int) ≤ room) (h3 : dend D + rs.length ≤ 1099511627776) : aerr6 room D rs = 0 := by
  unfold aerr6
  rw [rchecks_ok.2 h1, if_neg (by simp), if_neg (by omega), if_neg (by omega)]
theorem Good.prev (h : Good room D) : ∀ k, k ≤ D.length → gscan room (prevOf D k) (D.drop k) = 0
  | 0, _ => h.2.2.2
  | k + 1, hk => by
    have ih := Good.prev h k (by omega)
    rw [List.drop_eq_getElem_cons (show k < D.length by omega), gscan_cons0] at ih
    rw [prevOf_succ (show k < D.length by omega)]
    exact ih.2.2.2
theorem Good.next (h : Good room D) {j : Nat} (hj : j + 1 < D.length) : D[j + 1].base = D[j].next := by
  have := h.prev (j + 1) (by omega)
  rw [List.drop_eq_getElem_cons hj, gscan_cons0, prevOf_succ (show j < D.length by omega)] at this
  rcases this.2.2.1 with h | h
  · cases h
  · simpa using h.symm
theorem Good.end_bd (h : Good room D) : 0 ≤ dstart D ∧ dstart D ≤ dend D ∧ dend D ≤ 1099511627776 := by
  have key : ∀ (E : List Sd) (p : Option Int) (s : Sd), gscan room p (s :: E) = 0 → 0 ≤ s.base ∧ s.base ≤ dend (s :: E) ∧ dend (s :: E) ≤ 1099511627776 := by
    intro E
    induction E with
    | nil =>
      intro p s hg
      have := lerr_iff.1 (gscan_cons0.1 hg).1
      exact ⟨this.1, this.2.1, this.2.2.1⟩
    | cons t E ih =>
      intro p s hg
      have h1 := gscan_cons0.1 hg
      have h2 := ih _ t h1.2.2.2
      have h3 := lerr_iff.1 h1.1
      have h4 := (gscan_cons0.1 h1.2.2.2).2.2.1
      have h5 : s.next = t.base := by
        rcases h4 with h | h
        · cases h
        · simpa using h
      have h6 : dend (s :: t :: E) = dend (t :: E) := by simp [dend, List.getLast?_cons_cons]
      rw [h6]
      omega
  cases D with
  | nil => exact absurd rfl h.2.2.1
  | cons s E => exact key E none s h.2.2.2
end
end Go.Proofs.Ytkfglnhapcceaaa
