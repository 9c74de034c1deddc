import Derived.Test.YtohplhahghilaaaChkE
import Derived.Test.YtohplhahghilaaaRecP1
/-
  Layer 7, plain: what a segment's bytes are read as.
-/
set_option linter.unusedVariables false
set_option linter.unusedSimpArgs false
namespace Go.Proofs.Ytohplhahghilaaa
open Go.RowKit

theorem cnum_at {s : List UInt8} {a b : Int} {n : Nat} (h : At s a (vput n) b) (hn : n ≤ 1099511627776) : cnum s a false = (n, b, false) := by
  have := at_vget h (by omega)
  unfold cnum
  rw [this, if_neg (by simp; omega)]
theorem crec_at {s : List UInt8} {a b : Int} {r : Rec} (h : At s a r.text b) (hr : r.ok = 0) : crec s a false = (r, b, false) := by
  have h1 := mget_of (at_rec h hr)
  rw [if_pos rfl] at h1
  unfold crec
  rw [h1, if_neg (by simp)]
/-- Where the k-th record of a segment's bytes begins. -/
def fpos (base next : Int) (l : List Fnd) (k : Nat) : Int := ((nbytes [base.toNat, next.toNat, l.length]).length : Int) + ((ftext base (l.take k)).length : Int)
theorem stext_nb (base next : Int) (l : List Fnd) : stext base next l = nbytes [base.toNat, next.toNat, l.length] ++ ftext base l := by simp [stext, nbytes]
theorem at_all (s : List UInt8) : At s 0 s s.length := ⟨[], [], by simp, by simp, by simp⟩
theorem head_at {base next : Int} {l : List Fnd} {s : List UInt8} (h : lerr base next l = 0) (hs : stext base next l = s) :
    ∃ p1 p2, cnum s 0 false = (base.toNat, p1, false) ∧ cnum s p1 false = (next.toNat, p2, false) ∧ cnum s p2 false = (l.length, fpos base next l 0, false) := by
  obtain ⟨b1, b2, n1, n2, bn, h64, _, _⟩ := lerr_ok h
  have h0 := at_all s
  have h0' : At s 0 (vput base.toNat ++ (vput next.toNat ++ (vput l.length ++ ftext base l))) s.length := by rw [← hs] at h0 ⊢; simpa [stext, List.append_assoc] using h0
  obtain ⟨a1, a2⟩ := h0'.split
  obtain ⟨a3, a4⟩ := a2.split
  obtain ⟨a5, a6⟩ := a4.split
  refine ⟨_, _, cnum_at a1 (by omega), cnum_at a3 (by omega), ?_⟩
  rw [cnum_at a5 (by omega)]
  simp [fpos, nbytes, ftext, Int.add_assoc]
theorem ftext_split (base : Int) (l : List Fnd) {k : Nat} (hk : k < l.length) : ∃ r, ftext base l = ftext base (l.take k) ++ (vput (l[k].off - leastOf base l k).toNat ++ (l[k].r.text ++ r)) := by
  have h : ∀ (l : List Fnd) (base : Int) (k : Nat) (hk : k < l.length), ∃ r, ftext base l = ftext base (l.take k) ++ (vput (l[k].off - leastOf base l k).toNat ++ (l[k].r.text ++ r)) := by
    intro l
    induction l with
    | nil => intro _ k hk; simp at hk
    | cons f l ih =>
      intro base k hk
      cases k with
      | zero => exact ⟨ftext (f.off + 1) l, by simp [ftext, leastOf, leastEnd]⟩
      | succ k =>
        obtain ⟨r, hr⟩ := ih (f.off + 1) k (by simpa using hk)
        refine ⟨r, ?_⟩
        rw [ftext, hr]
        simp [ftext, leastOf, leastEnd]
  exact h l base k hk
theorem step_at {base next : Int} {l : List Fnd} {s : List UInt8} (h : lerr base next l = 0) (hs : stext base next l = s) {k : Nat} (hk : k < l.length) :
    ∃ q, cnum s (fpos base next l k) false = ((l[k].off - leastOf base l k).toNat, q, false) ∧ crec s q false = (l[k].r, fpos base next l (k + 1), false) := by
  obtain ⟨b1, b2, n1, n2, bn, h64, ho, hall⟩ := lerr_ok h
  obtain ⟨o1, o2, o3⟩ := order_at l base next ho k hk
  obtain ⟨r, hr⟩ := ftext_split base l hk
  have e : (nbytes [base.toNat, next.toNat, l.length] ++ ftext base (l.take k)) ++ (vput (l[k].off - leastOf base l k).toNat ++ (l[k].r.text ++ r)) = s := by rw [List.append_assoc, ← hr, ← stext_nb, hs]
  have h0 : At s 0 ((nbytes [base.toNat, next.toNat, l.length] ++ ftext base (l.take k)) ++ (vput (l[k].off - leastOf base l k).toNat ++ (l[k].r.text ++ r))) s.length := by rw [e]; exact at_all s
  obtain ⟨a1, a2⟩ := h0.split
  obtain ⟨a3, a4⟩ := a2.split
  obtain ⟨a5, a6⟩ := a4.split
  have hp : (0 : Int) + ((nbytes [base.toNat, next.toNat, l.length] ++ ftext base (l.take k)).length : Int) = fpos base next l k := by unfold fpos; rw [List.length_append]; omega
  rw [hp] at a3 a5
  refine ⟨_, cnum_at a3 (by omega), ?_⟩
  rw [crec_at a5 (hall _ (List.getElem_mem hk))]
  have hq : fpos base next l (k + 1) = fpos base next l k + ((vput (l[k].off - leastOf base l k).toNat).length : Int) + (l[k].r.text.length : Int) := by
    unfold fpos
    rw [ftext_take base l hk]
    simp only [List.length_append]
    omega
  rw [hq]

/-- Two segments with the same bytes are one. -/
theorem stext_inj {base next base' next' : Int} {l l' : List Fnd} (h : lerr base next l = 0) (h' : lerr base' next' l' = 0) (e : stext base next l = stext base' next' l') : base = base' ∧ next = next' ∧ l = l' := by
  obtain ⟨b1, b2, n1, n2, bn, h64, ho, hall⟩ := lerr_ok h
  obtain ⟨b1', b2', n1', n2', bn', h64', ho', hall'⟩ := lerr_ok h'
  obtain ⟨p1, p2, c1, c2, c3⟩ := head_at h e
  obtain ⟨p1', p2', c1', c2', c3'⟩ := head_at h' rfl
  rw [c1] at c1'
  simp only [Prod.mk.injEq, and_true] at c1'
  obtain ⟨e1, rfl⟩ := c1'
  rw [c2] at c2'
  simp only [Prod.mk.injEq, and_true] at c2'
  obtain ⟨e2, rfl⟩ := c2'
  rw [c3] at c3'
  simp only [Prod.mk.injEq, and_true] at c3'
  obtain ⟨e3, e4⟩ := c3'
  have eb : base = base' := by omega
  have en : next = next' := by omega
  subst eb en
  refine ⟨rfl, rfl, ?_⟩
  have hk : ∀ k, k ≤ l.length → l.take k = l'.take k ∧ fpos base next l k = fpos base next l' k := by
    intro k
    induction k with
    | zero => intro _; exact ⟨by simp, e4⟩
    | succ k ih =>
      intro hk
      obtain ⟨i1, i2⟩ := ih (by omega)
      have hk1 : k < l.length := by omega
      have hk2 : k < l'.length := by omega
      obtain ⟨q, s1, s2⟩ := step_at h e hk1
      obtain ⟨q', s1', s2'⟩ := step_at h' rfl hk2
      obtain ⟨o1, o2, o3⟩ := order_at l base next ho k hk1
      obtain ⟨o1', o2', o3'⟩ := order_at l' base next ho' k hk2
      have hlo : leastOf base l k = leastOf base l' k := by unfold leastOf; rw [i1]
      rw [i2, s1'] at s1
      simp only [Prod.mk.injEq, and_true] at s1
      obtain ⟨e5, rfl⟩ := s1
      rw [s2'] at s2
      simp only [Prod.mk.injEq, and_true] at s2
      obtain ⟨e6, e7⟩ := s2
      have eo : l[k].off = l'[k].off := by omega
      have ef : l[k] = l'[k] := by
        cases hx : l[k]; cases hy : l'[k]
        rw [hx, hy] at eo e6
        simp only at eo e6
        rw [eo, e6]
      exact ⟨by rw [List.take_succ_eq_append_getElem hk1, List.take_succ_eq_append_getElem hk2, i1, ef], e7.symm⟩
  have := (hk l.length (Nat.le_refl _)).1
  rw [List.take_length, e3, List.take_length] at this
  exact this

/-- What a parsing has come to: if the bytes are a segment's, all is right so far. -/
def PGood (s : List UInt8) (base next : Int) (many : Nat) (l : List Fnd) (least p : Int) (bad : Bool) : Prop :=
  ∀ b' n' l', lerr b' n' l' = 0 → stext b' n' l' = s → base = b' ∧ next = n' ∧ many = l'.length ∧ bad = false ∧ l.length ≤ l'.length ∧ l = l'.take l.length ∧ least = leastOf b' l' l.length ∧ p = fpos b' n' l' l.length
theorem PGood.start {s : List UInt8} {x1 x2 x3 : Nat} {p1 p2 p3 : Int} {b1 b2 b3 : Bool} (h1 : cnum s 0 false = (x1, p1, b1)) (h2 : cnum s p1 b1 = (x2, p2, b2)) (h3 : cnum s p2 b2 = (x3, p3, b3)) : PGood s x1 x2 x3 [] x1 p3 b3 := by
  intro b' n' l' h hs
  obtain ⟨q1, q2, c1, c2, c3⟩ := head_at h hs
  obtain ⟨u1, u2, u3, u4, u5, _⟩ := lerr_ok h
  rw [c1] at h1
  simp only [Prod.mk.injEq] at h1
  obtain ⟨rfl, rfl, rfl⟩ := h1
  rw [c2] at h2
  simp only [Prod.mk.injEq] at h2
  obtain ⟨rfl, rfl, rfl⟩ := h2
  rw [c3] at h3
  simp only [Prod.mk.injEq] at h3
  obtain ⟨rfl, rfl, rfl⟩ := h3
  exact ⟨by omega, by omega, rfl, rfl, by simp, by simp, by rw [List.length_nil, leastOf_zero]; omega, rfl⟩
theorem PGood.step {s : List UInt8} {base next : Int} {many : Nat} {l : List Fnd} {least p : Int} {bad : Bool} (h : PGood s base next many l least p bad) (hl : l.length < many) {d : Nat} {q p' : Int} {b1 b2 : Bool} {r : Rec}
    (h1 : cnum s p bad = (d, q, b1)) (h2 : crec s q b1 = (r, p', b2)) : PGood s base next many (l ++ [⟨least + d, r⟩]) (least + d + 1) p' b2 := by
  intro b' n' l' hg hs
  obtain ⟨rfl, rfl, rfl, rfl, e1, e2, e3, e4⟩ := h b' n' l' hg hs
  obtain ⟨q', s1, s2⟩ := step_at hg hs hl
  obtain ⟨_, _, _, _, _, _, ho, _⟩ := lerr_ok hg
  obtain ⟨o1, o2, o3⟩ := order_at l' base next ho l.length hl
  rw [e4, s1] at h1
  simp only [Prod.mk.injEq] at h1
  obtain ⟨rfl, rfl, rfl⟩ := h1
  rw [s2] at h2
  simp only [Prod.mk.injEq] at h2
  obtain ⟨rfl, rfl, rfl⟩ := h2
  have ho2 : least + ((l'[l.length].off - leastOf base l' l.length).toNat : Int) = l'[l.length].off := by omega
  refine ⟨rfl, rfl, rfl, rfl, by simp; omega, ?_, ?_, ?_⟩
  · rw [ho2, List.length_append, List.length_singleton, List.take_succ_eq_append_getElem hl, ← e2]
  · rw [ho2, List.length_append, List.length_singleton, leastOf_step base l' hl]
  · rw [List.length_append, List.length_singleton]
theorem PGood.stop {s : List UInt8} {base next : Int} {many : Nat} {l : List Fnd} {least p : Int} {bad : Bool} (h : PGood s base next many l least p bad) (hl : many ≤ l.length ∨ bad = true) {b' n' : Int} {l' : List Fnd} (hg : lerr b' n' l' = 0) (hs : stext b' n' l' = s) :
    bad = false ∧ base = b' ∧ next = n' ∧ l = l' := by
  obtain ⟨rfl, rfl, rfl, rfl, e1, e2, e3, e4⟩ := h b' n' l' hg hs
  refine ⟨rfl, rfl, rfl, ?_⟩
  have : l.length = l'.length := by
    rcases hl with h | h
    · omega
    · simp at h
  rw [e2, this, List.take_length]
theorem cnum_bd {s : List UInt8} {p : Int} {bad : Bool} {n : Nat} {q : Int} {b : Bool} (h : cnum s p bad = (n, q, b)) : n ≤ 1099511627776 ∧ (b = false → bad = false ∧ 0 ≤ p ∧ p < q ∧ q ≤ s.length) := by
  unfold cnum at h
  obtain ⟨v1, v2, v3, v4⟩ := vget_bd s p
  split at h
  · simp only [Prod.mk.injEq] at h
    obtain ⟨rfl, rfl, rfl⟩ := h
    exact ⟨by omega, by simp⟩
  · rename_i hn
    simp only [Prod.mk.injEq] at h
    obtain ⟨rfl, rfl, rfl⟩ := h
    simp only [not_or, Decidable.not_not, Bool.not_eq_true] at hn
    exact ⟨by omega, fun _ => ⟨hn.1, v2 hn.2.1⟩⟩
theorem crec_bd {s : List UInt8} {p : Int} {bad : Bool} {r : Rec} {q : Int} {b : Bool} (h : crec s p bad = (r, q, b)) : RecBd r ∧ (b = false → bad = false ∧ p ≤ q ∧ q ≤ s.length) := by
  unfold crec at h
  split at h
  · simp only [Prod.mk.injEq] at h
    obtain ⟨rfl, rfl, rfl⟩ := h
    exact ⟨⟨by simp [r0], by simp [r0]⟩, by simp⟩
  · rename_i hn
    simp only [not_or, Decidable.not_not, Bool.not_eq_true] at hn
    obtain ⟨h1, h2⟩ := hn
    have h3 : mrec s p 0 = ((mget s p).1, (mget s p).2.1, 0) := by
      by_cases h4 : (mrec s p 0).2.2 = 0
      · have e : mget s p = ((mrec s p 0).1, (mrec s p 0).2.1, 0) := by unfold mget; rw [if_pos h4]
        rw [e]
        exact Prod.ext rfl (Prod.ext rfl h4)
      · unfold mget at h2
        rw [if_neg h4] at h2
        exact absurd h2 h4
    obtain ⟨a1, a2⟩ := rec_at h3
    simp only [Prod.mk.injEq] at h
    obtain ⟨rfl, rfl, rfl⟩ := h
    obtain ⟨t1, t2, t3, t4, t5⟩ := rcheck_ok a2
    have hr := a1.range
    exact ⟨⟨by unfold maxLen; omega, by unfold maxLen; omega⟩, fun _ => ⟨h1, by omega, by omega⟩⟩
end Go.Proofs.Ytohplhahghilaaa
