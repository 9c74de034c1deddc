/-
  Layer 3, plain: the reference's way to read a batch comes to the same.
-/
import Derived.Test.YtikcpfoehapndaaRecO
set_option linter.unusedVariables false
set_option linter.unusedSimpArgs false
namespace Go.Proofs.Ytikcpfoehapndaa
open Go.RowKit

def bigs (l : List Nat) : Bool := (l.take 3).any fun n => decide (1099511627776 < n)
def mins (l : List Nat) : List Nat := (l.map fun n => min n 1099511627776) ++ List.replicate (4 - l.length) 0
/-- The numbers so far, all of them right. -/
def NRel (s : List UInt8) (at_ : Int) (k : Nat) (to : Int) (l : List Nat) : Prop := l.length = k ∧ (∀ n ∈ l, n < 18446744073709551616) ∧ nst s at_ k = (to, 0, bigs l, mins l)
theorem NRel.start (s : List UInt8) (at_ : Int) : NRel s at_ 0 at_ [] := ⟨rfl, by simp, rfl⟩
theorem NRel.step {s : List UInt8} {at_ : Int} {k : Nat} {to : Int} {l : List Nat} (h : NRel s at_ k to l) (hk : k < 4) {n : Nat} {to' : Int} (hv : vget s to = (n, to', 0)) (hn : n < 18446744073709551616) : NRel s at_ (k + 1) to' (l ++ [n]) := by
  obtain ⟨h1, h2, h3⟩ := h
  refine ⟨by simp [h1], by simpa using fun m hm => hm.elim (h2 m) (fun e => e ▸ hn), ?_⟩
  rw [nst, h3]
  have hm : mnum s to 0 = (n, to', 0) := by unfold mnum; rw [if_pos rfl, hv]
  simp only [hm]
  subst h1
  match l, hk with
  | [], _ => simp [bigs, mins]
  | [a], _ => simp [bigs, mins]
  | [a, b], _ => simp [bigs, mins, Bool.or_assoc]
  | [a, b, c], _ => simp [bigs, mins]
theorem nst_stays {s : List UInt8} {at_ : Int} {k : Nat} {e : Int} (he : e ≠ 0) (h : (nst s at_ k).2.1 = e) : ∀ j, (nst s at_ (k + j)).2.1 = e
  | 0 => h
  | j + 1 => by
    have ih := nst_stays he h j
    rw [← Nat.add_assoc, nst]
    simp only [ih]
    unfold mnum
    rw [if_neg he]
theorem mparse_bad {s : List UInt8} {at_ : Int} (h : (nst s at_ 4).2.1 ≠ 0) : mparse s at_ = ((0, 0, 0, []), 0, (nst s at_ 4).2.1) := by
  have hn : nerr (nst s at_ 4) = (nst s at_ 4).2.1 := by unfold nerr; rw [if_pos h]
  unfold mparse
  simp only [hn, ne_eq, h, not_false_eq_true, if_true]
theorem NRel.fail {s : List UInt8} {at_ : Int} {k : Nat} {to : Int} {l : List Nat} (h : NRel s at_ k to l) (hk : k < 4) {n : Nat} {to' e : Int} (hv : vget s to = (n, to', e)) (he : e ≠ 0) : mparse s at_ = ((0, 0, 0, []), 0, e) := by
  obtain ⟨h1, h2, h3⟩ := h
  have h4 : (nst s at_ (k + 1)).2.1 = e := by
    rw [nst, h3]; simp only [mnum, if_true, hv]
  have h5 := nst_stays he h4 (4 - (k + 1))
  rw [show k + 1 + (4 - (k + 1)) = 4 by omega] at h5
  rw [mparse_bad (by rw [h5]; exact he), h5]
/-- What the reference says of four numbers. -/
theorem NRel.done {s : List UInt8} {at_ to : Int} {y0 y1 y2 y3 : Nat} (h : NRel s at_ 4 to [y0, y1, y2, y3]) :
    mparse s at_ = if 1099511627776 < y0 ∨ 1099511627776 < y1 ∨ 1099511627776 < y2 then ((0, 0, 0, []), 0, 1) else if y3 = 0 then ((0, 0, 0, []), 0, 30) else if 16 < y3 then ((0, 0, 0, []), 0, 2) else
      if (mrecs s y3 to).2.2 ≠ 0 then ((0, 0, 0, []), 0, (mrecs s y3 to).2.2) else (((y0 : Int), (y1 : Int), (y2 : Int), (mrecs s y3 to).1), (mrecs s y3 to).2.1, 0) := by
  obtain ⟨_, _, h3⟩ := h
  unfold mparse
  simp only [h3]
  unfold nerr
  simp only [bigs, mins, ne_eq, not_true_eq_false, if_false]
  by_cases b0 : 1099511627776 < y0 ∨ 1099511627776 < y1 ∨ 1099511627776 < y2
  · have hb : ([y0, y1, y2, y3].take 3).any (fun n => decide (1099511627776 < n)) = true := by simpa using b0
    simp [hb, b0]
  · have hb : ([y0, y1, y2, y3].take 3).any (fun n => decide (1099511627776 < n)) = false := by simpa using b0
    have m0 : min y0 1099511627776 = y0 := by omega
    have m1 : min y1 1099511627776 = y1 := by omega
    have m2 : min y2 1099511627776 = y2 := by omega
    by_cases b1 : y3 = 0
    · subst b1; simp [hb, b0]
    · by_cases b2 : 16 < y3
      · have : ¬ min y3 1099511627776 = 0 := by omega
        have : 16 < min y3 1099511627776 := by omega
        simp [hb, b0, b1, b2, *]
      · have m3 : min y3 1099511627776 = y3 := by omega
        simp [hb, b0, b1, b2, m0, m1, m2, m3]
/-- What the reference has still to do. -/
def GRel (s : List UInt8) (n : Nat) (a0 : Int) (j : Nat) (l : List Rec) (a : Int) : Prop := l.length = j ∧ mrecs s n a0 = (l ++ (mrecs s (n - j) a).1, (mrecs s (n - j) a).2)
theorem GRel.start (s : List UInt8) (n : Nat) (a0 : Int) : GRel s n a0 0 [] a0 := ⟨rfl, by simp⟩
theorem GRel.step {s : List UInt8} {n : Nat} {a0 : Int} {j : Nat} {l : List Rec} {a : Int} (h : GRel s n a0 j l a) (hj : j < n) {r : Rec} {a' : Int} (hm : mget s a = (r, a', 0)) : GRel s n a0 (j + 1) (l ++ [r]) a' := by
  obtain ⟨h1, h2⟩ := h
  have hr : mrec s a 0 = (r, a', 0) := by
    unfold mget at hm
    split at hm
    · rename_i h0
      simp only [Prod.mk.injEq] at hm
      rw [← hm.1, ← hm.2.1]; exact Prod.ext rfl (Prod.ext rfl h0)
    · rename_i h0
      simp only [Prod.mk.injEq] at hm
      exact absurd hm.2.2 h0
  refine ⟨by simp [h1], ?_⟩
  rw [h2, show n - j = (n - (j + 1)) + 1 by omega, mrecs]
  simp [hr]
theorem GRel.fail {s : List UInt8} {n : Nat} {a0 : Int} {j : Nat} {l : List Rec} {a : Int} (h : GRel s n a0 j l a) (hj : j < n) {r : Rec} {a' e : Int} (hm : mget s a = (r, a', e)) (he : e ≠ 0) : (mrecs s n a0).2.2 = e := by
  obtain ⟨h1, h2⟩ := h
  have hr : (mrec s a 0).2.2 = e := by
    unfold mget at hm
    split at hm
    · simp only [Prod.mk.injEq] at hm; exact absurd hm.2.2.symm he
    · simp only [Prod.mk.injEq] at hm; exact hm.2.2
  rw [h2, show n - j = (n - (j + 1)) + 1 by omega, mrecs]
  simp [hr, he]
theorem GRel.stop {s : List UInt8} {n : Nat} {a0 : Int} {l : List Rec} {a : Int} (h : GRel s n a0 n l a) : mrecs s n a0 = (l, a, 0) := by
  rw [h.2, Nat.sub_self]; simp [mrecs]
end Go.Proofs.Ytikcpfoehapndaa
