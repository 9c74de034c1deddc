import Derived.Test.YtohplhahghilaaaChkV
import Derived.Test.YtohplhahghilaaaChkD
import Derived.Test.YtohplhahghilaaaChkQ
/-
  Layer 7, the document's: may a chunk be, its bytes, a number, the chunk of bytes: contracts.
-/
set_option linter.unusedVariables false
set_option linter.unusedSimpArgs false
namespace Go.Proofs.Ytohplhahghilaaa
open Go.RowKit
attribute [local go_sem] ByteArray.extract_mk ByteArray.mk_append_mk

set_option maxHeartbeats 1000000 in
set_option maxRecDepth 100000 in
theorem rright7 (c : Chk) (w : World) : RetB Try.prog 54 #[c.val] w (.bool c.right) := by
  refine RetB.intro fun R hR => ?_
  obtain ⟨i, n, d, b⟩ := c
  unfold Chk.val
  by_cases h1 : n < 1
  · have HQ : Hid (false = (⟨i, n, d, b⟩ : Chk).right) := Lib.hid (by symm; rw [Bool.eq_false_iff]; intro hh; have := Chk.right_iff.1 hh; simp only at this; omega)
    go_enter Try.func54, Try.ntmps54
    go_wp2_with fail
    exact finB hR (below_all (Below.refl _ _)) (veq_bool HQ.out)
  by_cases h2 : 4096 < n
  · have HQ : Hid (false = (⟨i, n, d, b⟩ : Chk).right) := Lib.hid (by symm; rw [Bool.eq_false_iff]; intro hh; have := Chk.right_iff.1 hh; simp only at this; omega)
    go_enter Try.func54, Try.ntmps54
    go_wp2_with fail
    exact finB hR (below_all (Below.refl _ _)) (veq_bool HQ.out)
  by_cases h3 : i < 0
  · have HQ : Hid (false = (⟨i, n, d, b⟩ : Chk).right) := Lib.hid (by symm; rw [Bool.eq_false_iff]; intro hh; have := Chk.right_iff.1 hh; simp only at this; omega)
    go_enter Try.func54, Try.ntmps54
    go_wp2_with fail
    exact finB hR (below_all (Below.refl _ _)) (veq_bool HQ.out)
  by_cases h4 : n ≤ i
  · have HQ : Hid (false = (⟨i, n, d, b⟩ : Chk).right) := Lib.hid (by symm; rw [Bool.eq_false_iff]; intro hh; have := Chk.right_iff.1 hh; simp only at this; omega)
    go_enter Try.func54, Try.ntmps54
    go_wp2_with fail
    exact finB hR (below_all (Below.refl _ _)) (veq_bool HQ.out)
  by_cases h5 : (4096 : Int) < (b.length : Int)
  · have HQ : Hid (false = (⟨i, n, d, b⟩ : Chk).right) := Lib.hid (by symm; rw [Bool.eq_false_iff]; intro hh; have := Chk.right_iff.1 hh; simp only at this; omega)
    go_enter Try.func54, Try.ntmps54
    go_wp2_with fail
    exact finB hR (below_all (Below.refl _ _)) (veq_bool HQ.out)
  by_cases h6 : b = []
  · subst h6
    by_cases h7 : n = 1
    · subst h7
      have HQ : Hid (true = (⟨i, 1, d, []⟩ : Chk).right) := Lib.hid (by symm; rw [Chk.right_iff]; simp only; simp; omega)
      go_enter Try.func54, Try.ntmps54
      go_wp2_with fail
      exact finB hR (below_all (Below.refl _ _)) (veq_bool HQ.out)
    · have t7 : (n == 1) = false := by simpa using h7
      have HQ : Hid (false = (⟨i, n, d, []⟩ : Chk).right) := Lib.hid (by symm; rw [Bool.eq_false_iff]; intro hh; have := Chk.right_iff.1 hh; simp at this; omega)
      go_enter Try.func54, Try.ntmps54
      go_wp2_with fail
      exact finB hR (below_all (Below.refl _ _)) (veq_bool HQ.out)
  · have t6 : (0 : Int) < (b.length : Int) := by have := List.length_pos_iff.2 h6; omega
    have t6' : (0 < b.length) = True := eq_true (List.length_pos_iff.2 h6)
    have HQ : Hid (true = (⟨i, n, d, b⟩ : Chk).right) := Lib.hid (by symm; rw [Chk.right_iff]; simp only; exact ⟨by omega, by omega, by omega, by omega, .inl h6, by omega⟩)
    go_enter Try.func54, Try.ntmps54
    go_wp2_with fail
    exact finB hR (below_all (Below.refl _ _)) (veq_bool HQ.out)
set_option maxHeartbeats 2000000 in
set_option maxRecDepth 100000 in
theorem rput7_ok (c : Chk) (w : World) (hr : c.right = true) (hd : c.d < 18446744073709551616) : RetB Try.prog 22 #[c.val] w (.tuple #[.string (S c.text), .int .i64 0]) := by
  refine RetB.intro fun R hR => ?_
  have cr := rright7 c
  rw [hr] at cr
  obtain ⟨h1, h2, h3, h4, h5, h6⟩ := Chk.right_iff.1 hr
  obtain ⟨i, n, d, b⟩ := c
  simp only at h1 h2 h3 h4 h5 h6 hd
  obtain ⟨i, rfl⟩ := Int.eq_ofNat_of_zero_le h3
  obtain ⟨n, rfl⟩ := Int.eq_ofNat_of_zero_le (show 0 ≤ n by omega)
  have p1 : i < 18446744073709551616 := by omega
  have p2 : n < 18446744073709551616 := by omega
  have q1 : IntKind.u64.wrap (i : Int) = i := by rw [IntKind.wrap_u64]; omega
  have q2 : IntKind.u64.wrap (n : Int) = n := by rw [IntKind.wrap_u64]; omega
  have v1 := vput_le i
  have v2 := vput_le n
  have v3 := vput_le d
  have v4 := crcFrame_le b
  have cF := fun w => rframe_any b w (by omega)
  have ht : (⟨i, n, d, b⟩ : Chk).text = vput i ++ (vput n ++ (vput d ++ crcFrame b)) := by simp [Chk.text, List.append_assoc]
  rw [ht] at hR
  clear ht hr h1 h2 h3 h4 h5
  unfold Chk.val at cr ⊢
  generalize crcFrame b = fr at *
  have g1 : ¬ 9223372036854775807 < (vput i).length + (vput n).length := by omega
  have g2 : ¬ 9223372036854775807 < (vput i).length + (vput n).length + (vput d).length := by omega
  have g3 : ¬ 9223372036854775807 < (vput i).length + ((vput n).length + (vput d).length) + fr.length := by omega
  have B0 := Blk.new w #[.int .i64 (i : Int), .int .i64 (n : Int), .int .u64 (d : Int), .string (S b)] 38
  have G0 := below_all (o := .cells #[.int .i64 (i : Int), .int .i64 (n : Int), .int .u64 (d : Int), .string (S b)] 38) (Below.refl _ w)
  go_enter Try.func22, Try.ntmps22
  go_wp2_with fail
  refine (cr _).use ?_
  intro w1 b1
  have B1 := B0.below b1
  have G1 := below_any (Nat.le_refl _) G0 b1
  clear B0 G0 b1 cr
  obtain ⟨hz1, x0, x1, x2, x3⟩ := B1.c4
  go_wp2_with fail
  have B1d : Blk w1.drew w.heap.size _ _ := B1
  go_region_held3 (fun w' => w'.cell? ⟨w.heap.size, 0, none⟩ = some (.int .i64 (i : Int)) ∧ w'.cell? ⟨w.heap.size, 1, none⟩ = some (.int .i64 (n : Int)) ∧ w'.cell? ⟨w.heap.size, 2, none⟩ = some (.int .u64 (d : Int)) ∧ w'.cell? ⟨w.heap.size, 3, none⟩ = some (.string (S b)) ∧ w.heap.size < w'.heap.size) (go_keep) (first | (go_at_call 42; refine (rput_eq _ _ (by assumption)).use ?_; intro w2 hb2; have B2 := Blk.below (by assumption) hb2; obtain ⟨hz2, y0, y1, y2, y3⟩ := B2.c4) | (go_at_call 55; refine (cF _).use ?_; intro w2 hb2; have B2 := Blk.below (by assumption) hb2; obtain ⟨hz2, y0, y1, y2, y3⟩ := B2.c4))
  go_wp2_with fail
  exact finB hR (by repeat (first | assumption | exact Below.refl _ _ | refine below_all ?_ | refine below_any (Nat.le_refl _) ?_ (by assumption) | refine Below.drew ?_)) rfl
set_option maxHeartbeats 1000000 in
theorem rput7_no (c : Chk) (w : World) (hr : c.right = false) : RetB Try.prog 22 #[c.val] w (.tuple #[.string (S []), .int .i64 70]) := by
  refine RetB.intro fun R hR => ?_
  have cr := rright7 c
  rw [hr] at cr
  unfold Chk.val at cr ⊢
  go_enter Try.func22, Try.ntmps22
  go_wp2_with fail
  refine (cr _).use ?_
  intro w1 b1
  go_wp2_with fail
  exact finB hR (below_any (Nat.le_refl _) (below_all (Below.refl _ _)) b1) rfl

/-- A number at a place, as the document's answer reads it. -/
def rnum (s : List UInt8) (p : Int) : Int × Int := if (vget s p).2.2 ≠ 0 ∨ 1099511627776 < (vget s p).1 then (-1, 0) else ((vget s p).1, (vget s p).2.1)
set_option maxHeartbeats 1000000 in
theorem rnum7 (s : List UInt8) (p : Int) (w : World) (hs : s.length ≤ maxLen) : Ret Try.prog 46 #[.string (S s), .int .i64 p] w (.tuple #[.int .i64 (rnum s p).1, .int .i64 (rnum s p).2]) := by
  refine Ret.intro fun R hR => ?_
  have cv := rget_any s p w hs
  unfold rnum at hR
  obtain ⟨n, t, e, h⟩ : ∃ n t e, vget s p = (n, t, e) := ⟨_, _, _, rfl⟩
  rw [h] at cv hR
  clear h
  simp only at cv hR
  go_enter Try.func46, Try.ntmps46
  go_wp2_with fail
  refine cv.use ?_
  by_cases he : e = 0
  · subst he
    by_cases hn : 1099511627776 < n
    · have h1 : (1099511627776 : Int) < (n : Int) := by omega
      rw [if_pos (.inr hn)] at hR
      go_wp2_with fail
      exact fin hR rfl
    · have h1 : ¬ (1099511627776 : Int) < (n : Int) := by omega
      have h2 : IntKind.i64.wrap (n : Int) = n := by rw [IntKind.wrap_i64]; omega
      rw [if_neg (by simp; omega)] at hR
      go_wp2_with fail
      exact fin hR rfl
  · have h1 : (e != 0) = true := by simpa using he
    rw [if_pos (.inl he)] at hR
    go_wp2_with fail
    exact fin hR rfl

/-- The chunk of bytes, as the document's answer reads it. -/
def rget (s : List UInt8) : Chk × Nat :=
  let a := rnum s 0
  let b := rnum s a.2
  let g := vget s b.2
  if a.1 < 0 ∨ b.1 < 0 ∨ g.2.2 ≠ 0 then (c0, 70) else
  let k := crcCut s g.2.1 4096
  let c : Chk := ⟨a.1, b.1, g.1, k.1⟩
  if k.2.2 ≠ 0 ∨ c.right = false ∨ c.text ≠ s then (c0, 70) else (c, 0)
theorem rget_cget (s : List UInt8) : rget s = cget s := by
  unfold rget
  simp only
  by_cases h1 : (vget s 0).2.2 ≠ 0 ∨ 1099511627776 < (vget s 0).1
  · have e1 : rnum s 0 = (-1, 0) := by unfold rnum; rw [if_pos h1]
    have e2 : cnum s 0 false = (0, 0, true) := by unfold cnum; rw [if_pos (.inr h1)]
    have e3 : ∀ p, (cnum s p true).2.2 = true := fun p => by unfold cnum; rw [if_pos (.inl rfl)]
    rw [e1, if_pos (.inl (by decide))]
    unfold cget
    rw [e2, if_pos (.inl (e3 _))]
  · have e1 : rnum s 0 = (((vget s 0).1 : Int), (vget s 0).2.1) := by unfold rnum; rw [if_neg h1]
    have e2 : cnum s 0 false = ((vget s 0).1, (vget s 0).2.1, false) := by unfold cnum; rw [if_neg (by simpa using h1)]
    obtain ⟨n1, p1, x1, hv1⟩ : ∃ n t e, vget s 0 = (n, t, e) := ⟨_, _, _, rfl⟩
    rw [hv1] at e1 e2
    simp only at e1 e2
    rw [e1]
    simp only
    by_cases h2 : (vget s p1).2.2 ≠ 0 ∨ 1099511627776 < (vget s p1).1
    · have e3 : rnum s p1 = (-1, 0) := by unfold rnum; rw [if_pos h2]
      have e4 : cnum s p1 false = (0, p1, true) := by unfold cnum; rw [if_pos (.inr h2)]
      rw [e3, if_pos (.inr (.inl (by decide)))]
      unfold cget
      rw [e2]
      simp only
      rw [e4, if_pos (.inl rfl)]
    · have e3 : rnum s p1 = (((vget s p1).1 : Int), (vget s p1).2.1) := by unfold rnum; rw [if_neg h2]
      have e4 : cnum s p1 false = ((vget s p1).1, (vget s p1).2.1, false) := by unfold cnum; rw [if_neg (by simpa using h2)]
      obtain ⟨n2, p2, x2, hv2⟩ : ∃ n t e, vget s p1 = (n, t, e) := ⟨_, _, _, rfl⟩
      rw [hv2] at e3 e4
      simp only at e3 e4
      rw [e3]
      simp only
      by_cases h3 : (vget s p2).2.2 ≠ 0
      · rw [if_pos (.inr (.inr h3))]
        unfold cget
        rw [e2]
        simp only
        rw [e4]
        simp only
        rw [if_pos (.inr h3)]
      · rw [if_neg (fun h => by rcases h with h | h | h; omega; omega; exact h3 h)]
        have ec : cget s = if (crcCut s (vget s p2).2.1 4096).2.2 ≠ 0 ∨ (crcCut s (vget s p2).2.1 4096).2.1 ≠ s.length ∨ (⟨n1, n2, (vget s p2).1, (crcCut s (vget s p2).2.1 4096).1⟩ : Chk).right = false then (c0, 70) else (⟨n1, n2, (vget s p2).1, (crcCut s (vget s p2).2.1 4096).1⟩, 0) := by
          unfold cget
          rw [e2]
          simp only
          rw [e4]
          simp only
          rw [if_neg (by simpa using h3)]
        have hd := (vget_bd s p2).1
        obtain ⟨d, p3, x3, hv3⟩ : ∃ n t e, vget s p2 = (n, t, e) := ⟨_, _, _, rfl⟩
        rw [hv3] at ec hd ⊢
        simp only at ec hd ⊢
        obtain ⟨bd, p4, x4, hc4⟩ : ∃ n t e, crcCut s p3 4096 = (n, t, e) := ⟨_, _, _, rfl⟩
        rw [hc4] at ec ⊢
        simp only at ec ⊢
        by_cases h4 : x4 ≠ 0
        · rw [ec, if_pos (.inl h4), if_pos (.inl h4)]
        · by_cases h5 : (⟨n1, n2, d, bd⟩ : Chk).right = false
          · rw [ec, if_pos (.inr (.inl h5)), if_pos (.inr (.inr h5))]
          · have h5' : (⟨n1, n2, d, bd⟩ : Chk).right = true := by simpa using h5
            by_cases h6 : p4 = s.length
            · rw [if_neg (by simp; simp at h4; exact ⟨h4, h6, h5'⟩)] at ec
              obtain ⟨_, ht, _⟩ := cget_back ec
              rw [ec, if_neg (by simp; simp at h4; exact ⟨h4, h5', ht⟩)]
            · rw [if_pos (.inr (.inl h6))] at ec
              rw [ec, if_pos (.inr (.inr fun ht => by
                have := cget_text (c := ⟨n1, n2, d, bd⟩) h5' hd
                rw [ht, ec] at this
                simp at this))]
end Go.Proofs.Ytohplhahghilaaa
