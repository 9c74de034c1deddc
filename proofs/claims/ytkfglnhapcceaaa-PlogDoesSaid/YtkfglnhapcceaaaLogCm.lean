import Derived.Test.YtkfglnhapcceaaaLogX
/-
  Layer 6, plain: which records a compaction leaves.
-/
set_option linter.unusedVariables false
set_option linter.unusedSimpArgs false
namespace Go.Proofs.Ytkfglnhapcceaaa
open Go.RowKit

/-- Comes this record's key again? -/
def again (f : Fnd) (L : List Fnd) : Bool := L.any fun g => f.r.hk && g.r.hk && decide (f.r.key = g.r.key)
/-- The records that a compaction leaves, where the open segment begins at an offset. -/
def kf (opn : Int) : List Fnd → List Fnd
  | [] => []
  | f :: L => if (!again f L || decide (opn ≤ f.off)) = true then f :: kf opn L else kf opn L
theorem kf_sub (opn : Int) : ∀ L, (kf opn L).Sublist L
  | [] => .slnil
  | f :: L => by
    unfold kf
    split
    · exact (kf_sub opn L).cons_cons f
    · exact (kf_sub opn L).cons f
theorem again_sub {f : Fnd} {K L : List Fnd} (h : K.Sublist L) (ha : again f L = false) : again f K = false := by
  unfold again at ha ⊢
  rw [List.any_eq_false] at ha ⊢
  exact fun g hg => ha g (h.subset hg)
theorem kf_kf (opn : Int) : ∀ L, kf opn (kf opn L) = kf opn L
  | [] => rfl
  | f :: L => by
    by_cases h : (!again f L || decide (opn ≤ f.off)) = true
    · have e : kf opn (f :: L) = f :: kf opn L := by rw [kf, if_pos h]
      rw [e]
      have h2 : (!again f (kf opn L) || decide (opn ≤ f.off)) = true := by
        rw [Bool.or_eq_true] at h ⊢
        rcases h with h | h
        · left
          rw [Bool.not_eq_true'] at h ⊢
          exact again_sub (kf_sub opn L) h
        · exact .inr h
      rw [kf, if_pos h2, kf_kf opn L]
    · have e : kf opn (f :: L) = kf opn L := by rw [kf, if_neg h]
      rw [e, kf_kf opn L]
/-- One segment, from behind. -/
def c0 (opn : Bool) (later : List (List UInt8)) (l : List Fnd) : List Int × List (List UInt8) := cAt opn later l 0
theorem c0_cons (opn : Bool) (later : List (List UInt8)) (f : Fnd) (l : List Fnd) : c0 opn later (f :: l) = cstep opn (c0 opn later l) f := by
  unfold c0 cAt
  rw [List.drop_zero, List.drop_zero, List.reverse_cons, List.foldl_append]
  rfl
theorem c0_keys (opn : Bool) (later : List (List UInt8)) (k : List UInt8) : ∀ l, k ∈ (c0 opn later l).2 ↔ k ∈ later ∨ ∃ g ∈ l, g.r.hk = true ∧ g.r.key = k
  | [] => by simp [c0, cAt]
  | f :: l => by
    rw [c0_cons]
    have ih := c0_keys opn later k l
    simp only [cstep]
    by_cases h : f.r.hk = true
    · rw [if_pos h, List.mem_append, ih]
      constructor
      · rintro ((h1 | ⟨g, h1, h2⟩) | h1)
        · exact .inl h1
        · exact .inr ⟨g, by simp [h1], h2⟩
        · exact .inr ⟨f, by simp, h, (List.mem_singleton.1 h1).symm⟩
      · rintro (h1 | ⟨g, h1, h2, h3⟩)
        · exact .inl (.inl h1)
        · rcases List.mem_cons.1 h1 with rfl | h1
          · exact .inr (by simp [h3])
          · exact .inl (.inr ⟨g, h1, h2, h3⟩)
    · rw [if_neg h, ih]
      constructor
      · rintro (h1 | ⟨g, h1, h2⟩)
        · exact .inl h1
        · exact .inr ⟨g, by simp [h1], h2⟩
      · rintro (h1 | ⟨g, h1, h2, h3⟩)
        · exact .inl h1
        · rcases List.mem_cons.1 h1 with rfl | h1
          · exact absurd h2 h
          · exact .inr ⟨g, h1, h2, h3⟩
theorem c0_offs (opn : Bool) (later : List (List UInt8)) (l : List Fnd) : ∀ n ∈ (c0 opn later l).1, ∃ f ∈ l, n = f.off := cAt_mem opn later l 0
theorem keeps_congr {ks ks' : List Int} {l : List Fnd} (h : ∀ f ∈ l, (f.off ∈ ks ↔ f.off ∈ ks')) : keeps ks l = keeps ks' l := by
  unfold keeps
  apply List.filter_congr
  intro f hf
  simp [h f hf]
/-- The kept records of a segment, and of all that stands behind it. -/
theorem keeps_kf (opn : Bool) (o : Int) (later : List (List UInt8)) (M : List Fnd) (hl : ∀ k, k ∈ later ↔ ∃ g ∈ M, g.r.hk = true ∧ g.r.key = k) :
    ∀ l, Rise l → (∀ f ∈ l, opn = decide (o ≤ f.off)) → keeps (c0 opn later l).1 l ++ kf o M = kf o (l ++ M)
  | [], _, _ => rfl
  | f :: l, hr, ho => by
    have hr := List.pairwise_cons.1 hr
    have ih := keeps_kf opn o later M hl l hr.2 (fun g hg => ho g (by simp [hg]))
    have hf := ho f (by simp)
    have hne : ∀ g ∈ l, g.off ≠ f.off := fun g hg => by have := hr.1 g hg; omega
    have hag : again f (l ++ M) = (f.r.hk && decide (f.r.key ∈ (c0 opn later l).2)) := by
      unfold again
      rw [Bool.eq_iff_iff]
      simp only [List.any_eq_true, Bool.and_eq_true, decide_eq_true_eq, c0_keys, hl, List.mem_append]
      constructor
      · rintro ⟨g, h1, ⟨h2, h3⟩, h4⟩
        refine ⟨h2, ?_⟩
        rcases h1 with h1 | h1
        · exact .inr ⟨g, h1, h3, h4.symm⟩
        · exact .inl ⟨g, h1, h3, h4.symm⟩
      · rintro ⟨h2, ⟨g, h1, h3, h4⟩ | ⟨g, h1, h3, h4⟩⟩
        · exact ⟨g, .inr h1, ⟨h2, h3⟩, h4.symm⟩
        · exact ⟨g, .inl h1, ⟨h2, h3⟩, h4.symm⟩
    have hcond : (!again f (l ++ M) || decide (o ≤ f.off)) = (!f.r.hk || !decide (f.r.key ∈ (c0 opn later l).2) || opn) := by
      rw [hag, ← hf]
      cases f.r.hk <;> cases decide (f.r.key ∈ (c0 opn later l).2) <;> cases opn <;> rfl
    have hnf : f.off ∉ (c0 opn later l).1 := fun h => by
      obtain ⟨g, hg, e⟩ := c0_offs opn later l _ h
      exact hne g hg e.symm
    rw [List.cons_append, kf, hcond, c0_cons]
    simp only [cstep]
    by_cases hk : (!f.r.hk || !decide (f.r.key ∈ (c0 opn later l).2) || opn) = true
    · rw [if_pos hk, if_pos hk, ← ih]
      have e1 : keeps ((c0 opn later l).1 ++ [f.off]) (f :: l) = f :: keeps ((c0 opn later l).1 ++ [f.off]) l := by
        unfold keeps
        rw [List.filter_cons, if_pos (by simp)]
      rw [e1, keeps_congr (ks' := (c0 opn later l).1) (fun g hg => by
        rw [List.mem_append, List.mem_singleton]
        exact ⟨fun h => h.elim id (fun e => absurd e (hne g hg)), .inl⟩)]
      rfl
    · rw [if_neg hk, if_neg hk, ← ih]
      have e1 : keeps (c0 opn later l).1 (f :: l) = keeps (c0 opn later l).1 l := by
        unfold keeps
        rw [List.filter_cons, if_neg (by simpa using hnf)]
      rw [e1]
/-- Where the open segment begins. -/
def dopen (D : List Sd) : Int := (D.getLast?.map Sd.base).getD 0
theorem dall_cons (s : Sd) (D : List Sd) : dall (s :: D) = s.l ++ dall D := by simp [dall]
theorem cdone_kf {room : Int} {D : List Sd} (hg : Good room D) : ∀ j, j ≤ D.length → dall (cdone D (D.length - j)).1 = kf (dopen D) (dall (D.drop (D.length - j))) ∧ (∀ k, k ∈ (cdone D (D.length - j)).2.1 ↔ ∃ g ∈ dall (D.drop (D.length - j)), g.r.hk = true ∧ g.r.key = k) ∧
    (cdone D (D.length - j)).2.2 = ((dall (D.drop (D.length - j))).length : Int) - (dall (cdone D (D.length - j)).1).length
  | 0, _ => by rw [Nat.sub_zero, cdone_end, List.drop_length]; exact ⟨rfl, by simp [dall], by simp [dall]⟩
  | j + 1, h => by
    obtain ⟨h1, h2, h3⟩ := cdone_kf hg j (by omega)
    have e : D.length - (j + 1) + 1 = D.length - j := by omega
    have hlt : D.length - (j + 1) < D.length := by omega
    have hlen := cdone_len D j (by omega)
    rw [cdone_step D hlt, e, List.drop_eq_getElem_cons hlt, e]
    have hs := hg.mem (List.getElem_mem hlt)
    have hopn : ∀ f ∈ D[D.length - (j + 1)].l, (cdone D (D.length - j)).1.isEmpty = decide (dopen D ≤ f.off) := fun f hf => by
      have hf2 := hs.2.2.2.2.2 f hf
      by_cases hj : j = 0
      · subst hj
        have e1 : (cdone D (D.length - 0)).1 = [] := List.eq_nil_of_length_eq_zero hlen
        have e2 : dopen D = D[D.length - (0 + 1)].base := by
          unfold dopen
          rw [List.getLast?_eq_getElem?, List.getElem?_eq_getElem (by omega)]
          rfl
        rw [e1, e2, List.isEmpty_nil]
        symm
        rw [decide_eq_true_eq]
        exact hf2.1
      · have e1 : (cdone D (D.length - j)).1.isEmpty = false := by
          cases hc : (cdone D (D.length - j)).1 with
          | nil => rw [hc] at hlen; simp at hlen; omega
          | cons _ _ => rfl
        rw [e1]
        symm
        rw [decide_eq_false_iff_not]
        have e2 : dopen D = D[D.length - 1].base := by
          unfold dopen
          rw [List.getLast?_eq_getElem?, List.getElem?_eq_getElem (by omega)]
          rfl
        have key : ∀ b, ∀ a, (ha : a < b) → ∀ hb : b < D.length, (D[a]'(by omega)).next ≤ D[b].base := by
          intro b
          induction b with
          | zero => intro a ha; omega
          | succ b ih =>
            intro a ha hb
            have h5 := hg.next hb
            by_cases e3 : a = b
            · subst e3; omega
            · have h6 := ih a (by omega) (by omega)
              have h7 := (hg.mem (List.getElem_mem (show b < D.length by omega))).2.1
              omega
        have ha9 : D.length - (j + 1) < D.length - 1 := by omega
        have hb9 : D.length - 1 < D.length := by omega
        have h8 := key (D.length - 1) (D.length - (j + 1)) ha9 hb9
        rw [e2]
        omega
    have hk := keeps_kf (cdone D (D.length - j)).1.isEmpty (dopen D) (cdone D (D.length - j)).2.1 (dall (D.drop (D.length - j))) h2 _ hs.2.2.2.2.1 hopn
    generalize D[D.length - (j + 1)] = s at *
    generalize hst : cdone D (D.length - j) = st at *
    have e5 : dall (cD st s).1 = keeps (c0 st.1.isEmpty st.2.1 s.l).1 s.l ++ dall st.1 := dall_cons _ _
    refine ⟨?_, fun k => ?_, ?_⟩
    · rw [e5, h1, hk, dall_cons]
    · show k ∈ (c0 st.1.isEmpty st.2.1 s.l).2 ↔ _
      rw [c0_keys, h2, dall_cons]
      constructor
      · rintro (⟨g, h5, h6⟩ | ⟨g, h5, h6⟩)
        · exact ⟨g, List.mem_append_right _ h5, h6⟩
        · exact ⟨g, List.mem_append_left _ h5, h6⟩
      · rintro ⟨g, h5, h6⟩
        rcases List.mem_append.1 h5 with h5 | h5
        · exact .inr ⟨g, h5, h6⟩
        · exact .inl ⟨g, h5, h6⟩
    · rw [e5, dall_cons, List.length_append, List.length_append]
      show st.2.2 + ((s.l.length : Int) - (keeps (c0 st.1.isEmpty st.2.1 s.l).1 s.l).length) = _
      omega
theorem dcmp_kf {room : Int} {D : List Sd} (hg : Good room D) : dall (dcmp D) = kf (dopen D) (dall D) := by
  have := (cdone_kf hg D.length (Nat.le_refl _)).1
  rwa [Nat.sub_self, List.drop_zero] at this
theorem ncmp_len {room : Int} {D : List Sd} (hg : Good room D) : ncmp D = ((dall D).length : Int) - (dall (dcmp D)).length := by
  have := (cdone_kf hg D.length (Nat.le_refl _)).2.2
  rwa [Nat.sub_self, List.drop_zero] at this
theorem cuts_open : ∀ {D E : List Sd}, Cuts D E → dopen E = dopen D
  | [], [], _ => rfl
  | [], _ :: _, h => h.elim
  | _ :: _, [], h => h.elim
  | [s], [t], h => by simpa [dopen] using h.1.1
  | [s], _ :: _ :: _, h => h.2.elim
  | _ :: _ :: _, [t], h => h.2.elim
  | s :: s2 :: D, t :: t2 :: E, h => by
    have := cuts_open (D := s2 :: D) (E := t2 :: E) h.2
    simpa [dopen, List.getLast?_cons_cons] using this
theorem ncmp_again {room : Int} {D : List Sd} (hg : Good room D) : ncmp (dcmp D) = 0 ∧ dall (dcmp (dcmp D)) = dall (dcmp D) := by
  have h1 := dcmp_kf hg.cmp
  rw [cuts_open (dcmp_cut D), dcmp_kf hg, kf_kf] at h1
  have h2 := ncmp_len hg.cmp
  rw [h1, dcmp_kf hg] at h2
  exact ⟨by omega, by rw [h1, dcmp_kf hg]⟩
end Go.Proofs.Ytkfglnhapcceaaa
