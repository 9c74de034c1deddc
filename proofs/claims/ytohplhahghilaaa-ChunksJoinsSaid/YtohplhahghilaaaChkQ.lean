import Derived.Test.YtohplhahghilaaaChkD
import Derived.Test.YtohplhahghilaaaChkG
/-
  Layer 7, plain: a chunk's bytes are read as it, and what is read has these bytes.
-/
set_option linter.unusedVariables false
set_option linter.unusedSimpArgs false
namespace Go.Proofs.Ytohplhahghilaaa
open Go.RowKit

theorem at_frame {s a : List UInt8} {p q : Int} {most : Int} (h : At s p (crcFrame a) q) (hl : a.length < 18446744073709551616) (hm : (a.length : Int) ≤ most) : crcCut s p most = (a, q, 0) := by
  obtain ⟨A, B, rfl, rfl, rfl⟩ := h
  rw [crcCut_frame A a B most hl hm]
  simp
theorem cget_text {c : Chk} (hr : c.right = true) (hd : c.d < 18446744073709551616) : cget c.text = (c, 0) := by
  obtain ⟨h1, h2, h3, h4, h5, h6⟩ := Chk.right_iff.1 hr
  have h0 := at_all c.text
  have h0' : At c.text 0 (vput c.i.toNat ++ (vput c.n.toNat ++ (vput c.d ++ crcFrame c.b))) c.text.length := by
    have e : vput c.i.toNat ++ (vput c.n.toNat ++ (vput c.d ++ crcFrame c.b)) = c.text := by simp [Chk.text]
    rw [e]; exact h0
  obtain ⟨a1, a2⟩ := h0'.split
  obtain ⟨a3, a4⟩ := a2.split
  obtain ⟨a5, a6⟩ := a4.split
  have e1 := cnum_at a1 (by omega)
  have e2 := cnum_at a3 (by omega)
  have e3 := at_vget a5 hd
  have e4 := at_frame (most := 4096) a6 (by omega) (by omega)
  unfold cget
  simp only [e1, e2, e3, e4]
  have hi : ((c.i.toNat : Nat) : Int) = c.i := by omega
  have hn : ((c.n.toNat : Nat) : Int) = c.n := by omega
  rw [hi, hn]
  simp [hr]
theorem cnum_get {s : List UInt8} {p q : Int} {n : Nat} {bad : Bool} (h : cnum s p bad = (n, q, false)) : bad = false ∧ n ≤ 1099511627776 ∧ At s p (vput n) q := by
  unfold cnum at h
  split at h
  · simp at h
  · rename_i hn
    simp only [not_or, Decidable.not_not, Bool.not_eq_true] at hn
    simp only [Prod.mk.injEq] at h
    obtain ⟨rfl, rfl, _⟩ := h
    exact ⟨hn.1, by omega, (vget_at (Prod.ext rfl (Prod.ext rfl hn.2.1))).1⟩
theorem cut_at {s t : List UInt8} {p q most : Int} (h : crcCut s p most = (t, q, 0)) : At s p (crcFrame t) q ∧ (t.length : Int) ≤ most := by
  obtain ⟨x, to, e, hv⟩ : ∃ x to e, vtext s p most = (x, to, e) := ⟨_, _, _, rfl⟩
  unfold crcCut at h
  rw [hv] at h
  simp only at h
  split at h
  · rename_i h0
    simp only [Prod.mk.injEq] at h
    exact absurd h.2.2 h0
  · rename_i h0
    obtain rfl : e = 0 := by simpa using h0
    split at h
    · simp at h
    · rename_i h1
      split at h
      · simp at h
      · rename_i h2
        simp only [Prod.mk.injEq, and_true] at h
        obtain ⟨rfl, rfl⟩ := h
        obtain ⟨a1, a2⟩ := vtext_at hv
        refine ⟨?_, a2⟩
        obtain ⟨r1, r2, r3⟩ := a1.range
        have a3 := At.of (s := s) (a := to.toNat) 4 (by omega)
        have h2 : (s.drop to.toNat).take 4 = four (crcSum x) := by simpa using h2
        rw [h2] at a3
        have e1 : ((to.toNat : Nat) : Int) = to := by omega
        have e2 : ((to.toNat + 4 : Nat) : Int) = to + 4 := by omega
        rw [e1, e2] at a3
        exact a1.trans a3
theorem cget_back {s : List UInt8} {c : Chk} (h : cget s = (c, 0)) : c.right = true ∧ c.text = s ∧ c.d < 18446744073709551616 := by
  unfold cget at h
  split at h
  · simp at h
  · rename_i h1
    simp only at h
    split at h
    · simp at h
    · rename_i h2
      obtain ⟨n1, p1, b1, e1⟩ : ∃ n p b, cnum s 0 false = (n, p, b) := ⟨_, _, _, rfl⟩
      rw [e1] at h h1 h2
      simp only at h h1 h2
      obtain ⟨n2, p2, b2, e2⟩ : ∃ n p b, cnum s p1 b1 = (n, p, b) := ⟨_, _, _, rfl⟩
      rw [e2] at h h1 h2
      simp only at h h1 h2
      obtain ⟨d, p3, e, e3⟩ : ∃ n p b, vget s p2 = (n, p, b) := ⟨_, _, _, rfl⟩
      rw [e3] at h h1 h2
      simp only at h h1 h2
      obtain ⟨bd, p4, e', e4⟩ : ∃ n p b, crcCut s p3 4096 = (n, p, b) := ⟨_, _, _, rfl⟩
      rw [e4] at h h2
      simp only [not_or, Decidable.not_not, Bool.not_eq_true, Bool.not_eq_false] at h h1 h2
      obtain ⟨rfl, rfl⟩ := h1
      obtain ⟨rfl, h3, h4⟩ := h2
      obtain ⟨rfl, _, a2⟩ := cnum_get e2
      obtain ⟨_, _, a1⟩ := cnum_get e1
      have a3 := (vget_at e3).1
      obtain ⟨a4, _⟩ := cut_at e4
      simp only [Prod.mk.injEq, and_true] at h
      subst h
      refine ⟨h4, ?_, by have := (vget_bd s p2).1; rw [e3] at this; exact this⟩
      have a := ((a1.trans a2).trans a3).trans a4
      rw [h3] at a
      obtain ⟨A, B, e5, e6, e7⟩ := a
      have hA : A = [] := List.eq_nil_of_length_eq_zero (by omega)
      subst hA
      have hB : B = [] := List.eq_nil_of_length_eq_zero (by have := congrArg List.length e5; simp at this; simp at e7; omega)
      subst hB
      rw [List.nil_append, List.append_nil] at e5
      rw [e5]
      simp [Chk.text]
/-- Two chunks with the same bytes are one. -/
theorem ctext_inj {a b : Chk} (ha : a.right = true) (hb : b.right = true) (hda : a.d < 18446744073709551616) (hdb : b.d < 18446744073709551616) (e : a.text = b.text) : a = b := by
  have h1 := cget_text ha hda
  rw [e, cget_text hb hdb] at h1
  simpa using h1.symm
end Go.Proofs.Ytohplhahghilaaa
