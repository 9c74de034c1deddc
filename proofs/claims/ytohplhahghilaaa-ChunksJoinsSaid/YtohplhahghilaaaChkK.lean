import Derived.Test.YtohplhahghilaaaChkY
/-
  Layer 7: a chunk taken: contracts.
-/
set_option linter.unusedVariables false
set_option linter.unusedSimpArgs false
namespace Go.Proofs.Ytohplhahghilaaa
open Go.RowKit Go.Maps Go.ChangeMaps Go.MapKept
attribute [local go_sem] ByteArray.extract_mk ByteArray.mk_append_mk

set_option maxHeartbeats 2000000 in
set_option maxRecDepth 100000 in
theorem take7_other (p m d : Nat) (n : Int) (L : List (Int × List UInt8)) (c : Chk) (w : World) (h : JAt w p m d n L) (hL : L.length < maxLen) (hr : c.right = true) (hx : c.d ≠ d ∨ (L ≠ [] ∧ c.n ≠ n) ∨ (∃ x, mfind L c.i = some x ∧ x ≠ c.b)) :
    JCall 29 #[.pointer (some ⟨p, 0, none⟩), c.val] w p m d (.int .i64 71) n L := by
  refine JCall.intro fun R hR => ?_
  have cr := right7 c
  obtain ⟨i, cn, cd, b⟩ := c
  unfold Chk.val at cr ⊢
  rw [hr] at cr
  obtain ⟨t1, t2, t3, t4, _, hb6⟩ := Chk.right_iff.1 hr
  simp only at t1 t2 t3 t4 hx
  have hwf : (Lit.int .i64 i).wf = true := wf_i64 (by omega) (by omega)
  have B0 := Blk.new w #[.int .i64 i, .int .i64 cn, .int .u64 (cd : Nat), .string (S b)] 38
  have G0 := below_all (o := .cells #[.int .i64 i, .int .i64 cn, .int .u64 (cd : Nat), .string (S b)] 38) (Below.refl w.heap.size w)
  clear hr
  go_enter Try.func29, Try.ntmps29
  go_wp2_with fail
  refine (cr _).use ?_
  intro w1 b1
  have B1 := B0.below b1
  have G1 := below_any (Nat.le_refl _) G0 b1
  have J1 := h.below G1
  have hne := J1.ne
  clear B0 G0 b1 cr
  obtain ⟨k0, x0, x1, x2, x3⟩ := B1.c4
  obtain ⟨j0, y0, y1, y2⟩ := J1.1.c3
  have hlk := fun q => (show SMap (w1.drewN q) m L from J1.2).look_ok i hwf
  have hln := fun q ty => (show SMap (w1.drewN q) m L from J1.2).len ty
  have HF : Hid (Below w.heap.size w w1 ∧ JAt w1 p m d n L ∧ p ≠ m ∧ Blk w1 w.heap.size #[.int .i64 i, .int .i64 cn, .int .u64 (cd : Nat), .string (S b)] 38 ∧ i < 5000) := Lib.hid ⟨G1, J1, hne, B1, by omega⟩
  have HL := Lib.hid hL
  clear G1 J1 hne B1 t1 t2 t3 t4 h hL
  by_cases c1 : cd = d
  · subst c1
    have q1 : ((cd : Int) != (cd : Int)) = false := by simp
    have hx : (L ≠ [] ∧ cn ≠ n) ∨ (∃ x, mfind L i = some x ∧ x ≠ b) := by simpa using hx
    have hne0 : L ≠ [] := by
      rcases hx with h | ⟨x, h1, _⟩
      · exact h.1
      · intro e; rw [e] at h1; simp [mfind] at h1
    have q2 : ((0 : Int) < (L.length : Int)) = True := eq_true (by have := List.length_pos_iff.2 hne0; omega)
    have q3 : (0 < L.length) = True := eq_true (List.length_pos_iff.2 hne0)
    by_cases c3 : cn = n
    · subst c3
      have q4 : (cn != cn) = false := by simp
      obtain ⟨x, h1, h2⟩ : ∃ x, mfind L i = some x ∧ x ≠ b := by
        rcases hx with h | h
        · exact absurd rfl h.2
        · exact h
      have q5 : (x != b) = true := by simpa using h2
      have q6 : (x == b) = false := by simpa using h2
      clear hx hne0 h2
      rw [h1] at hlk
      go_wp2_with fail
      go_quiet (fail)
      revert nq; intro nz
      go_wp2_with fail
      go_quiet (fail)
      go_wp2_with fail
      exact hR.out _ (HF.out.2.1.below (belowN (belowN (Below.refl _ _) _) _)) ((Kept.ofBelow HF.out.1 _).trans (Kept.ofBelow (belowN (belowN (Below.refl w1.heap.size w1) _) _) []) (by simp))
    · have q4 : (cn != n) = true := by simpa using c3
      have q5 : (cn = n) = False := eq_false c3
      clear hx hne0 c3
      cases hm : mfind L i with
      | none =>
        rw [hm] at hlk
        go_wp2_with fail
        go_quiet (fail)
        revert nq; intro nz
        go_wp2_with fail
        go_quiet (fail)
        go_wp2_with fail
        exact hR.out _ (HF.out.2.1.below (belowN (belowN (Below.refl _ _) _) _)) ((Kept.ofBelow HF.out.1 _).trans (Kept.ofBelow (belowN (belowN (Below.refl w1.heap.size w1) _) _) []) (by simp))
      | some x =>
        rw [hm] at hlk
        go_wp2_with fail
        go_quiet (fail)
        revert nq; intro nz
        go_wp2_with fail
        go_quiet (fail)
        go_wp2_with fail
        exact hR.out _ (HF.out.2.1.below (belowN (belowN (Below.refl _ _) _) _)) ((Kept.ofBelow HF.out.1 _).trans (Kept.ofBelow (belowN (belowN (Below.refl w1.heap.size w1) _) _) []) (by simp))
  · have q1 : ((cd : Int) != (d : Int)) = true := by simp; omega
    have q2 : ((cd : Int) = (d : Int)) = False := eq_false (by omega)
    clear hx c1
    cases hm : mfind L i with
    | none =>
      rw [hm] at hlk
      go_wp2_with fail
      go_quiet (fail)
      revert nq; intro nz
      go_wp2_with fail
      go_quiet (fail)
      go_wp2_with fail
      exact hR.out _ (HF.out.2.1.below (belowN (belowN (Below.refl _ _) _) _)) ((Kept.ofBelow HF.out.1 _).trans (Kept.ofBelow (belowN (belowN (Below.refl w1.heap.size w1) _) _) []) (by simp))
    | some x =>
      rw [hm] at hlk
      go_wp2_with fail
      go_quiet (fail)
      revert nq; intro nz
      go_wp2_with fail
      go_quiet (fail)
      go_wp2_with fail
      exact hR.out _ (HF.out.2.1.below (belowN (belowN (Below.refl _ _) _) _)) ((Kept.ofBelow HF.out.1 _).trans (Kept.ofBelow (belowN (belowN (Below.refl w1.heap.size w1) _) _) []) (by simp))
end Go.Proofs.Ytohplhahghilaaa
