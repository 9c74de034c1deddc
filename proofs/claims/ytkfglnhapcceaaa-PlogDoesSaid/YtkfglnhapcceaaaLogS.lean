import Derived.Test.YtkfglnhapcceaaaLogK
import Derived.Test.YtkfglnhapcceaaaLogH
/-
  Layer 6, plain: logs that may be; each call leaves one.
-/
set_option linter.unusedVariables false
set_option linter.unusedSimpArgs false
namespace Go.Proofs.Ytkfglnhapcceaaa
open Go.RowKit

abbrev Rise (l : List Fnd) : Prop := l.Pairwise fun f g => f.off < g.off
theorem rise_rising {l : List Fnd} (h : Rise l) : Rising l := fun i j hi hj => List.pairwise_iff_getElem.1 h i j (by omega) hj hi
theorem order_iff : ∀ {l : List Fnd} {last next : Int}, inOrder last next l = true ↔ Rise l ∧ ∀ f ∈ l, last < f.off ∧ f.off < next
  | [], _, _ => by simp [inOrder]
  | f :: l, last, next => by
    have ih := order_iff (l := l) (last := f.off) (next := next)
    simp only [inOrder, Bool.and_eq_true, decide_eq_true_eq, ih, List.pairwise_cons, List.mem_cons]
    constructor
    · rintro ⟨⟨h1, h2⟩, h3, h4⟩
      refine ⟨⟨fun g hg => (h4 g hg).1, h3⟩, fun g hg => ?_⟩
      rcases hg with rfl | hg
      · exact ⟨h1, h2⟩
      · have := h4 g hg; omega
    · rintro ⟨⟨h1, h2⟩, h3⟩
      exact ⟨h3 f (.inl rfl), h2, fun g hg => ⟨h1 g hg, (h3 g (.inr hg)).2⟩⟩
theorem lerr_iff {base next : Int} {l : List Fnd} : lerr base next l = 0 ↔ 0 ≤ base ∧ base ≤ next ∧ next ≤ 1099511627776 ∧ l.length ≤ 64 ∧ Rise l ∧ ∀ f ∈ l, base ≤ f.off ∧ f.off < next ∧ f.r.ok = 0 := by
  have hrc : rchecks (l.map Fnd.r) = 0 ↔ ∀ f ∈ l, f.r.ok = 0 := by
    rw [rchecks_ok]
    exact ⟨fun h f hf => h _ (List.mem_map_of_mem hf), fun h r hr => by obtain ⟨f, hf, rfl⟩ := List.mem_map.1 hr; exact h f hf⟩
  unfold lerr
  by_cases h1 : (!numB base || !numB next || decide (next < base) || decide (64 < l.length)) = true
  · rw [if_pos h1]
    constructor
    · intro h; omega
    · rintro ⟨a, b, c, d, _⟩
      simp [numB] at h1
      omega
  · rw [if_neg h1]
    have h2 : 0 ≤ base ∧ base ≤ next ∧ next ≤ 1099511627776 ∧ l.length ≤ 64 := by
      simp [numB] at h1
      omega
    by_cases h3 : inOrder (base - 1) next l = false
    · rw [if_pos h3]
      constructor
      · intro h; omega
      · rintro ⟨_, _, _, _, e, f⟩
        have : inOrder (base - 1) next l = true := order_iff.2 ⟨e, fun g hg => by have := f g hg; omega⟩
        rw [this] at h3; cases h3
    · rw [if_neg h3, hrc]
      have h4 := order_iff.1 (by simpa using h3 : inOrder (base - 1) next l = true)
      constructor
      · intro h
        exact ⟨h2.1, h2.2.1, h2.2.2.1, h2.2.2.2, h4.1, fun f hf => ⟨by have := (h4.2 f hf).1; omega, (h4.2 f hf).2, h f hf⟩⟩
      · rintro ⟨_, _, _, _, _, h⟩ f hf
        exact (h f hf).2.2
theorem fnds_all : ∀ (rs : List Rec) (n : Int), Rise (fnds n rs) ∧ ∀ f ∈ fnds n rs, n ≤ f.off ∧ f.off < n + rs.length ∧ f.r ∈ rs
  | [], n => by simp [fnds]
  | r :: rs, n => by
    obtain ⟨h1, h2⟩ := fnds_all rs (n + 1)
    simp only [fnds, List.pairwise_cons, List.mem_cons, List.length_cons]
    refine ⟨⟨fun g hg => by have := (h2 g hg).1; show n < g.off; omega, h1⟩, fun f hf => ?_⟩
    rcases hf with rfl | hf
    · exact ⟨by show n ≤ n; omega, by show n < _; omega, .inl rfl⟩
    · have := h2 f hf
      exact ⟨by omega, by omega, .inr this.2.2⟩
/-- Where segments end. -/
def lastP : Option Int → List Sd → Option Int
  | p, [] => p
  | _, s :: D => lastP (some s.next) D
theorem lastP_snoc : ∀ (D : List Sd) (p : Option Int) (s : Sd), lastP p (D ++ [s]) = some s.next
  | [], _, _ => rfl
  | _ :: D, _, s => lastP_snoc D _ s
theorem gscan_cons0 {room : Int} {p : Option Int} {s : Sd} {D : List Sd} : gscan room p (s :: D) = 0 ↔ lerr s.base s.next s.l = 0 ∧ (s.l.length : Int) ≤ room ∧ (p = none ∨ p = some s.base) ∧ gscan room (some s.next) D = 0 := by
  have e : gscan room p (s :: D) = (if lerr s.base s.next s.l ≠ 0 then lerr s.base s.next s.l else if room < s.l.length ∨ (p ≠ none ∧ p ≠ some s.base) then 1 else gscan room (some s.next) D) := rfl
  rw [e]
  by_cases h1 : lerr s.base s.next s.l = 0
  · rw [if_neg (by simp [h1])]
    by_cases h2 : room < s.l.length ∨ (p ≠ none ∧ p ≠ some s.base)
    · rw [if_pos h2]
      constructor
      · intro h; omega
      · rintro ⟨_, a, b, _⟩
        rcases h2 with h2 | ⟨h2, h3⟩
        · omega
        · rcases b with b | b
          · exact absurd b h2
          · exact absurd b h3
    · rw [if_neg h2]
      have h3 : (s.l.length : Int) ≤ room := by
        have : ¬ room < s.l.length := fun h => h2 (.inl h)
        omega
      have h4 : p = none ∨ p = some s.base := by
        by_cases hp : p = none
        · exact .inl hp
        · by_cases hq : p = some s.base
          · exact .inr hq
          · exact absurd (.inr ⟨hp, hq⟩) h2
      exact ⟨fun h => ⟨h1, h3, h4, h⟩, fun h => h.2.2.2⟩
  · rw [if_pos h1]
    exact ⟨fun h => absurd h h1, fun h => absurd h.1 h1⟩
theorem gscan_app0 {room : Int} : ∀ {A : List Sd} {p : Option Int} {B : List Sd}, gscan room p (A ++ B) = 0 ↔ gscan room p A = 0 ∧ gscan room (lastP p A) B = 0
  | [], p, B => by simp [gscan, lastP]
  | s :: A, p, B => by
    rw [List.cons_append, gscan_cons0, gscan_cons0, gscan_app0 (A := A)]
    simp only [lastP, and_assoc]
theorem gscan_none {room : Int} : ∀ {D : List Sd} {p : Option Int}, gscan room p D = 0 → gscan room none D = 0
  | [], _, _ => rfl
  | s :: D, p, h => by
    rw [gscan_cons0] at h ⊢
    exact ⟨h.1, h.2.1, .inl rfl, h.2.2.2⟩
theorem gscan_mem {room : Int} : ∀ {D : List Sd} {p : Option Int}, gscan room p D = 0 → ∀ s ∈ D, lerr s.base s.next s.l = 0 ∧ (s.l.length : Int) ≤ room
  | [], _, _, s, hs => by simp at hs
  | t :: D, p, h, s, hs => by
    rw [gscan_cons0] at h
    rcases List.mem_cons.1 hs with rfl | hs
    · exact ⟨h.1, h.2.1⟩
    · exact gscan_mem h.2.2.2 s hs
/-- A log that may be. -/
def Good (room : Int) (D : List Sd) : Prop := 1 ≤ room ∧ room ≤ 64 ∧ D ≠ [] ∧ gscan room none D = 0
instance (room : Int) (D : List Sd) : Decidable (Good room D) := by unfold Good; infer_instance
theorem good_gerr {room : Int} {D : List Sd} : gerr room D = 0 ↔ Good room D := by
  unfold gerr Good
  by_cases h : ¬ (1 ≤ room ∧ room ≤ 64) ∨ D = []
  · rw [if_pos h]
    constructor
    · intro h; omega
    · rintro ⟨a, b, c, _⟩
      rcases h with h | h
      · exact absurd ⟨a, b⟩ h
      · exact absurd h c
  · rw [if_neg h]
    have h1 : 1 ≤ room ∧ room ≤ 64 := by
      by_cases h2 : 1 ≤ room ∧ room ≤ 64
      · exact h2
      · exact absurd (.inl h2) h
    exact ⟨fun e => ⟨h1.1, h1.2, fun e2 => h (.inr e2), e⟩, fun e => e.2.2.2⟩
section
variable {room : Int} {D : List Sd}
theorem Good.mem (h : Good room D) {s : Sd} (hs : s ∈ D) : 0 ≤ s.base ∧ s.base ≤ s.next ∧ s.next ≤ 1099511627776 ∧ s.l.length ≤ 64 ∧ Rise s.l ∧ ∀ f ∈ s.l, s.base ≤ f.off ∧ f.off < s.next ∧ f.r.ok = 0 := lerr_iff.1 (gscan_mem h.2.2.2 s hs).1
theorem ok_bd {r : Rec} (h : r.ok = 0) : RecBd r := by
  unfold Rec.ok rcheck at h
  unfold RecBd maxLen
  split at h
  · omega
  · split at h
    · omega
    · omega
theorem Good.bd (h : Good room D) {s : Sd} (hs : s ∈ D) : ∀ f ∈ s.l, RecBd f.r := fun f hf => ok_bd ((h.mem hs).2.2.2.2.2 f hf).2.2
theorem Good.rising (h : Good room D) {s : Sd} (hs : s ∈ D) : Rising s.l := rise_rising (h.mem hs).2.2.2.2.1
theorem Good.wf (h : Good room D) {s : Sd} (hs : s ∈ D) : ∀ f ∈ s.l, (Lit.int .i64 f.off).wf = true := fun f hf => by
  obtain ⟨a, b, c, d, e, k⟩ := h.mem hs
  have := k f hf
  exact WalkArith.wf_i64 (by omega)
theorem Good.split (h : Good room D) : ∃ A s, D = A ++ [s] := ⟨D.dropLast, D.getLast h.2.2.1, (List.dropLast_concat_getLast h.2.2.1).symm⟩
theorem Good.retain (h : Good room D) (b : Int) : Good room (D.drop (nret b D)) := by
  refine ⟨h.1, h.2.1, ?_, ?_⟩
  · have h1 := nret_le b D
    have h2 := List.length_pos_iff.2 h.2.2.1
    intro e
    have := congrArg List.length e
    rw [List.length_drop, List.length_nil] at this
    omega
  · have := h.2.2.2
    rw [← List.take_append_drop (nret b D) D, gscan_app0] at this
    exact gscan_none this.2
theorem Good.app {rs : List Rec} (h : Good room D) (he : aerr6 room D rs = 0) : Good room (dapp room D rs) := by
  obtain ⟨A, s, rfl⟩ := h.split
  have hs := h.mem (s := s) (by simp)
  have hg := h.2.2.2
  rw [gscan_app0, gscan_cons0] at hg
  obtain ⟨g1, g2, g3, g4, _⟩ := hg
  have he2 := he
  unfold aerr6 at he2
  rw [dend_snoc] at he2
  have hrc : rchecks rs = 0 := by
    by_cases h0 : rchecks rs = 0
    · exact h0
    · rw [if_pos h0] at he2; exact absurd he2 h0
  rw [if_neg (by simp [hrc])] at he2
  have hro : ¬ room < (rs.length : Int) := by intro h0; rw [if_pos h0] at he2; omega
  rw [if_neg hro] at he2
  have hmx : ¬ 1099511627776 < s.next + (rs.length : Int) := by intro h0; rw [if_pos h0] at he2; omega
  obtain ⟨f1, f2⟩ := fnds_all rs s.next
  have hfl := fnds_len rs s.next
  have hok := rchecks_ok.1 hrc
  have hr2 := h.2.1
  by_cases hr : rs ≠ [] ∧ room < s.l.length + rs.length
  · rw [dapp_roll he hr]
    refine ⟨h.1, h.2.1, by simp, ?_⟩
    rw [gscan_app0]
    refine ⟨h.2.2.2, ?_⟩
    rw [lastP_snoc, gscan_cons0]
    refine ⟨lerr_iff.2 ⟨by show 0 ≤ s.next; omega, by show s.next ≤ s.next + _; omega, by show s.next + _ ≤ _; omega, by show (fnds _ _).length ≤ 64; omega, f1, fun f hf => ?_⟩, by show ((fnds _ _).length : Int) ≤ room; omega, .inr rfl, rfl⟩
    have := f2 f hf
    exact ⟨this.1, this.2.1, hok _ this.2.2⟩
  · rw [dapp_in he hr]
    have hlen : (s.l.length : Int) + rs.length ≤ room := by
      by_cases h0 : rs = []
      · rw [h0]; simp; exact g3
      · have : ¬ room < (s.l.length : Int) + rs.length := fun h1 => hr ⟨h0, h1⟩
        omega
    refine ⟨h.1, h.2.1, by simp, ?_⟩
    rw [gscan_app0]
    refine ⟨g1, ?_⟩
    rw [gscan_cons0]
    refine ⟨lerr_iff.2 ⟨hs.1, by show s.base ≤ s.next + _; omega, by show s.next + _ ≤ _; omega, by show (s.l ++ fnds _ _).length ≤ 64; rw [List.length_append]; omega, ?_, fun f hf => ?_⟩, by show ((s.l ++ fnds _ _).length : Int) ≤ room; rw [List.length_append, hfl]; omega, g4, rfl⟩
    · refine List.pairwise_append.2 ⟨hs.2.2.2.2.1, f1, fun a ha b hb => ?_⟩
      have h1 := hs.2.2.2.2.2 a ha
      have h2 := f2 b hb
      omega
    · rcases List.mem_append.1 hf with hf | hf
      · have := hs.2.2.2.2.2 f hf
        exact ⟨this.1, by show f.off < s.next + _; omega, this.2.2⟩
      · have := f2 f hf
        exact ⟨by show s.base ≤ f.off; omega, this.2.1, hok _ this.2.2⟩
end
theorem keeps_sub (ks : List Int) (l : List Fnd) : (keeps ks l).Sublist l := List.filter_sublist
/-- What stands after a compaction, segment by segment. -/
def Cut (s t : Sd) : Prop := t.base = s.base ∧ t.next = s.next ∧ ∃ ks, t.l = keeps ks s.l
def Cuts : List Sd → List Sd → Prop
  | [], [] => True
  | s :: D, t :: E => Cut s t ∧ Cuts D E
  | _, _ => False
theorem gscan_cut {room : Int} : ∀ {D E : List Sd} {p : Option Int}, Cuts D E → gscan room p D = 0 → gscan room p E = 0
  | [], [], _, _, _ => rfl
  | [], _ :: _, _, h, _ => h.elim
  | _ :: _, [], _, h, _ => h.elim
  | s :: D, t :: E, p, ⟨⟨h1, h2, ks, h3⟩, h4⟩, hg => by
    rw [gscan_cons0] at hg ⊢
    have hk := keeps_sub ks s.l
    have hs := lerr_iff.1 hg.1
    refine ⟨?_, by rw [h3]; have := hk.length_le; omega, by rw [h1]; exact hg.2.2.1, by rw [h2]; exact gscan_cut h4 hg.2.2.2⟩
    rw [h1, h2, h3]
    exact lerr_iff.2 ⟨hs.1, hs.2.1, hs.2.2.1, by have := hk.length_le; omega, hs.2.2.2.2.1.sublist hk, fun f hf => hs.2.2.2.2.2 f (hk.subset hf)⟩
theorem cdone_cut (D : List Sd) : ∀ j, j ≤ D.length → Cuts (D.drop (D.length - j)) (cdone D (D.length - j)).1
  | 0, _ => by rw [Nat.sub_zero, cdone_end, List.drop_length]; trivial
  | j + 1, h => by
    have ih := cdone_cut D j (by omega)
    have e : D.length - (j + 1) + 1 = D.length - j := by omega
    have hlt : D.length - (j + 1) < D.length := by omega
    rw [cdone_step D hlt, e, List.drop_eq_getElem_cons hlt, e]
    exact ⟨⟨rfl, rfl, _, rfl⟩, ih⟩
/-- The log compacted. -/
def dcmp (D : List Sd) : List Sd := (cdone D 0).1
theorem dcmp_cut (D : List Sd) : Cuts D (dcmp D) := by
  have := cdone_cut D D.length (Nat.le_refl _)
  rwa [Nat.sub_self, List.drop_zero] at this
theorem Good.cmp {room : Int} {D : List Sd} (h : Good room D) : Good room (dcmp D) := by
  refine ⟨h.1, h.2.1, fun e => ?_, gscan_cut (dcmp_cut D) h.2.2.2⟩
  have h1 := dcmp_cut D
  rw [e] at h1
  cases D with
  | nil => exact h.2.2.1 rfl
  | cons s D => exact h1
end Go.Proofs.Ytkfglnhapcceaaa
