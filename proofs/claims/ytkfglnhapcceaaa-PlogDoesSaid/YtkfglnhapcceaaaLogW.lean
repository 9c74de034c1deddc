import Derived.Test.YtkfglnhapcceaaaLogU
import Derived.Test.YtkfglnhapcceaaaSegY
/-
  Layer 6, plain: where a log begins and ends; what is read.
-/
set_option linter.unusedVariables false
set_option linter.unusedSimpArgs false
namespace Go.Proofs.Ytkfglnhapcceaaa
open Go.RowKit

section
variable {room : Int} {D E : List Sd}
theorem cuts_len : ∀ {D E : List Sd}, Cuts D E → E.length = D.length
  | [], [], _ => rfl
  | [], _ :: _, h => h.elim
  | _ :: _, [], h => h.elim
  | s :: D, t :: E, h => by simp [cuts_len h.2]
theorem cuts_start (h : Cuts D E) : dstart E = dstart D := by
  cases D with
  | nil => cases E with
    | nil => rfl
    | cons t E => exact h.elim
  | cons s D => cases E with
    | nil => exact h.elim
    | cons t E => simpa [dstart] using h.1.1
theorem cuts_end : ∀ {D E : List Sd}, Cuts D E → dend E = dend D
  | [], [], _ => rfl
  | [], _ :: _, h => h.elim
  | _ :: _, [], h => h.elim
  | [s], [t], h => by simpa [dend] using h.1.2.1
  | [s], _ :: _ :: _, h => h.2.elim
  | _ :: _ :: _, [t], h => h.2.elim
  | s :: s2 :: D, t :: t2 :: E, h => by
    have := cuts_end (D := s2 :: D) (E := t2 :: E) h.2
    simpa [dend, List.getLast?_cons_cons] using this
theorem dend_drop {k : Nat} (h : k < D.length) : dend (D.drop k) = dend D := by
  unfold dend
  rw [List.getLast?_drop, if_neg (by omega)]
theorem dstart_drop (hg : Good room D) {k : Nat} (h : k < D.length) : dstart D ≤ dstart (D.drop k) := by
  have key : ∀ k, k < D.length → dstart D ≤ dstart (D.drop k) := by
    intro k
    induction k with
    | zero => intro _; simp
    | succ k ih =>
      intro hk
      have h1 := ih (by omega)
      have h2 := hg.next hk
      have h3 := (hg.mem (List.getElem_mem (show k < D.length by omega))).2.1
      rw [List.drop_eq_getElem_cons (show k < D.length by omega)] at h1
      rw [List.drop_eq_getElem_cons hk]
      simp only [dstart, List.head?_cons, Option.map_some, Option.getD_some] at h1 ⊢
      omega
  exact key k h
theorem nret_lt (hne : D ≠ []) (b : Int) : nret b D < D.length := by
  have := nret_le b D
  have := List.length_pos_iff.2 hne
  omega
/-- All records lie between, and rise. -/
theorem dall_rise (hg : Good room D) : Rise (dall D) ∧ ∀ f ∈ dall D, dstart D ≤ f.off ∧ f.off < dend D ∧ f.r.ok = 0 := by
  have key : ∀ (E : List Sd) (p : Option Int) (s : Sd), gscan room p (s :: E) = 0 → Rise (dall (s :: E)) ∧ ∀ f ∈ dall (s :: E), s.base ≤ f.off ∧ f.off < dend (s :: E) ∧ f.r.ok = 0 := by
    intro E
    induction E with
    | nil =>
      intro p s h
      have := lerr_iff.1 (gscan_cons0.1 h).1
      simpa [dall, dend] using this.2.2.2.2
    | cons t E ih =>
      intro p s h
      have h1 := gscan_cons0.1 h
      have h2 := ih _ t h1.2.2.2
      have h3 := lerr_iff.1 h1.1
      have h5 : s.next = t.base := by
        rcases (gscan_cons0.1 h1.2.2.2).2.2.1 with h | h
        · cases h
        · simpa using h
      have h6 : dend (s :: t :: E) = dend (t :: E) := by simp [dend, List.getLast?_cons_cons]
      have h7 : dall (s :: t :: E) = s.l ++ dall (t :: E) := by simp [dall]
      have h8 : t.base ≤ dend (t :: E) := by
        have := Good.end_bd (room := room) (D := t :: E)
        have hz := gscan_none h1.2.2.2
        have key2 : ∀ (E : List Sd) (p : Option Int) (s : Sd), gscan room p (s :: E) = 0 → s.base ≤ dend (s :: E) := by
          intro E
          induction E with
          | nil => intro p s h; exact (lerr_iff.1 (gscan_cons0.1 h).1).2.1
          | cons u E ih =>
            intro p s h
            have g1 := gscan_cons0.1 h
            have g2 := ih _ u g1.2.2.2
            have g3 := lerr_iff.1 g1.1
            have g5 : s.next = u.base := by
              rcases (gscan_cons0.1 g1.2.2.2).2.2.1 with h | h
              · cases h
              · simpa using h
            have g6 : dend (s :: u :: E) = dend (u :: E) := by simp [dend, List.getLast?_cons_cons]
            rw [g6]; omega
        exact key2 E none t hz
      rw [h6, h7]
      refine ⟨List.pairwise_append.2 ⟨h3.2.2.2.2.1, h2.1, fun a ha b hb => ?_⟩, fun f hf => ?_⟩
      · have := h3.2.2.2.2.2 a ha
        have := h2.2 b hb
        omega
      · rcases List.mem_append.1 hf with hf | hf
        · have := h3.2.2.2.2.2 f hf
          exact ⟨this.1, by omega, this.2.2⟩
        · have := h2.2 f hf
          exact ⟨by omega, this.2⟩
  cases D with
  | nil => exact absurd rfl hg.2.2.1
  | cons s E => exact key E none s hg.2.2.2
theorem rerr_in {fr : Int} (h1 : dstart D ≤ fr) (h2 : fr ≤ dend D) : rerr fr D = 0 := by
  unfold rerr
  rw [if_neg (by omega), if_neg (by omega)]
/-- What was appended is read at once. -/
theorem dread_app {rs : List Rec} (hg : Good room D) (he : aerr6 room D rs = 0) : rerr (dend D) (dapp room D rs) = 0 ∧ dread (dend D) rs.length (dapp room D rs) = fnds (dend D) rs := by
  have h1 := dapp_start (room := room) (rs := rs) hg.2.2.1
  have h2 := dapp_end hg.2.2.1 he
  have h3 := hg.end_bd
  have hr : rerr (dend D) (dapp room D rs) = 0 := rerr_in (by rw [h1]; exact h3.2.1) (by rw [h2]; omega)
  refine ⟨hr, ?_⟩
  unfold dread
  rw [if_pos hr, dapp_all hg.2.2.1 he]
  unfold readsR
  have h4 : (dall D).filter (fun f => decide (dend D ≤ f.off)) = [] := List.filter_eq_nil_iff.2 fun f hf => by have := ((dall_rise hg).2 f hf).2.1; simp; omega
  have h5 : (fnds (dend D) rs).filter (fun f => decide (dend D ≤ f.off)) = fnds (dend D) rs := List.filter_eq_self.2 fun f hf => by have := ((fnds_all rs (dend D)).2 f hf).1; simp; omega
  rw [List.filter_append, h4, h5, List.nil_append, List.take_of_length_le (by rw [fnds_len]; simp)]
theorem fnds_get : ∀ (rs : List Rec) (n : Int) (j : Nat) (h : j < (fnds n rs).length), (fnds n rs)[j] = ⟨n + j, rs[j]'(by rwa [fnds_len] at h)⟩
  | [], _, _, h => by simp [fnds] at h
  | r :: rs, n, 0, _ => by simp [fnds]
  | r :: rs, n, j + 1, h => by
    have := fnds_get rs (n + 1) j (by simpa [fnds] using h)
    simp only [fnds, List.getElem_cons_succ, this]
    congr 1
    omega
end
theorem cutR_bd {l : List Rec} : ∀ r ∈ cut70 l, RecBd r := fun r hr => by
  obtain ⟨x, _, rfl⟩ := List.mem_map.1 hr
  unfold RecBd cutR maxLen
  simp only [List.length_take]
  omega
theorem cut70_bd (l : List Rec) : RecsBd (cut70 l) ∧ (cut70 l).length ≤ 70 := by
  have : (cut70 l).length ≤ 70 := by unfold cut70; rw [List.length_map, List.length_take]; omega
  exact ⟨⟨by unfold maxLen; omega, cutR_bd⟩, this⟩
end Go.Proofs.Ytkfglnhapcceaaa
