import Derived.Test.YtohplhahghilaaaChkW
/-
  Layer 7, the document's: the chunk of bytes: the contract.
-/
set_option linter.unusedVariables false
set_option linter.unusedSimpArgs false
namespace Go.Proofs.Ytohplhahghilaaa
open Go.RowKit
attribute [local go_sem] ByteArray.extract_mk ByteArray.mk_append_mk

set_option maxHeartbeats 4000000 in
set_option maxRecDepth 100000 in
theorem rget7 (s : List UInt8) (w : World) (hs : s.length ≤ 1000000000) : RetB Try.prog 24 #[.string (S s)] w (.tuple #[(rget s).1.val, .int .i64 ((rget s).2 : Nat)]) := by
  refine RetB.intro fun R hR => ?_
  unfold rget at hR
  have hm : s.length ≤ maxLen := by unfold maxLen; omega
  obtain ⟨i, p1, e1⟩ : ∃ n p, rnum s 0 = (n, p) := ⟨_, _, rfl⟩
  obtain ⟨n, p2, e2⟩ : ∃ n p, rnum s p1 = (n, p) := ⟨_, _, rfl⟩
  obtain ⟨d, p3, e, e3⟩ : ∃ n p b, vget s p2 = (n, p, b) := ⟨_, _, _, rfl⟩
  obtain ⟨bd, p4, e', e4⟩ : ∃ n p b, crcCut s p3 4096 = (n, p, b) := ⟨_, _, _, rfl⟩
  have cn1 := fun w => rnum7 s 0 w hm
  have cn2 := fun w => rnum7 s p1 w hm
  have cv3 := fun w => rget_any s p2 w hm
  have cc4 := fun w => rcut_any s p3 4096 w (by omega) (by omega)
  have hd := (vget_bd s p2).1
  rw [e1] at cn1
  rw [e2] at cn2
  rw [e3] at cv3 hd
  rw [e4] at cc4
  simp only [e1] at hR
  simp only [e2] at hR
  simp only [e3] at hR
  simp only [e4] at hR
  simp only at cn1 cn2 cv3 cc4 hd
  clear e1 e2 e3 e4 hm
  have A0 := Blk.new w #[.int .i64 0, .int .i64 0, .int .u64 0, .string (S [])] 38
  have G0 := below_all (o := .cells #[.int .i64 0, .int .i64 0, .int .u64 0, .string (S [])] 38) (Below.refl w.heap.size w)
  obtain ⟨y0, y1, y2, y3, y4⟩ := A0.c4
  have f2 := fun j => Blk.frozen A0 j
  go_enter Try.func24, Try.ntmps24
  go_wp2_with fail
  refine (cn1 _).use ?_
  go_wp2_with fail
  refine (cn2 _).use ?_
  go_wp2_with fail
  refine (cv3 _).use ?_
  clear cn1 cn2 cv3
  have bad : (i < 0 ∨ n < 0 ∨ e ≠ 0) → ∀ w', Below w.heap.size w w' → R (.returned (.tuple #[.agg #[.int .i64 0, .int .i64 0, .int .u64 0, .string (S [])], .int .i64 70])) w' := fun h w' hb => by
    have := hR.out w' hb
    rw [if_pos h] at this
    exact this
  by_cases h1 : i < 0
  · have HB := Lib.hid (bad (.inl h1))
    clear bad hR
    go_wp2_with fail
    refine bodyPost_ret (results_cell2 rfl _ _ w.heap.size 38 #[.int .i64 0, .int .i64 0, .int .u64 0, .string (S [])] (0, 0) _ _ rfl rfl ?c1 Try.underlying38 rfl (by kernel_rfl)) rfl ?_
    case c1 => exact A0
    exact HB.out _ G0
  by_cases h2 : n < 0
  · have HB := Lib.hid (bad (.inr (.inl h2)))
    clear bad hR
    go_wp2_with fail
    refine bodyPost_ret (results_cell2 rfl _ _ w.heap.size 38 #[.int .i64 0, .int .i64 0, .int .u64 0, .string (S [])] (0, 0) _ _ rfl rfl ?c1 Try.underlying38 rfl (by kernel_rfl)) rfl ?_
    case c1 => exact A0
    exact HB.out _ G0
  by_cases h3 : e = 0
  rotate_left
  · have h4 : (e != 0) = true := by simpa using h3
    have HB := Lib.hid (bad (.inr (.inr h3)))
    clear bad hR h3
    go_wp2_with fail
    refine bodyPost_ret (results_cell2 rfl _ _ w.heap.size 38 #[.int .i64 0, .int .i64 0, .int .u64 0, .string (S [])] (0, 0) _ _ rfl rfl ?c1 Try.underlying38 rfl (by kernel_rfl)) rfl ?_
    case c1 => exact A0
    exact HB.out _ G0
  subst h3
  rw [if_neg (by simp; omega)] at hR
  clear bad
  go_wp2_with fail
  refine (cc4 _).use ?_
  intro w3 b3
  have A3 := A0.below b3
  have G3 := below_any (Nat.le_refl _) G0 b3
  have A4 := A3.alloc (.cells #[.int .i64 i, .int .i64 n, .int .u64 (d : Nat), .string (S bd)] 38)
  have G4 := below_all (o := .cells #[.int .i64 i, .int .i64 n, .int .u64 (d : Nat), .string (S bd)] 38) G3
  have C4 := Blk.new w3 #[.int .i64 i, .int .i64 n, .int .u64 (d : Nat), .string (S bd)] 38
  clear A0 G0 y0 y1 y2 y3 y4 f2 b3 A3 G3 cc4
  have bad : (e' ≠ 0 ∨ (⟨i, n, d, bd⟩ : Chk).right = false ∨ (⟨i, n, d, bd⟩ : Chk).text ≠ s) → ∀ w', Below w.heap.size w w' → R (.returned (.tuple #[.agg #[.int .i64 0, .int .i64 0, .int .u64 0, .string (S [])], .int .i64 70])) w' := fun h w' hb => by
    have := hR.out w' hb
    rw [if_pos h] at this
    exact this
  cases hr : (⟨i, n, d, bd⟩ : Chk).right with
  | false =>
    have CP := Lib.hid (fun w => rput7_no ⟨i, n, d, bd⟩ w hr)
    unfold Chk.val at CP
    have HB := Lib.hid (bad (.inr (.inl hr)))
    clear bad hR hr
    go_wp2_with fail
    refine (CP.out _).use ?_
    intro w4 b4
    have A5 := A4.below b4
    have G5 := below_any (Nat.le_refl _) G4 b4
    obtain ⟨y0, y1, y2, y3, y4⟩ := A5.c4
    have f2 := fun j => Blk.frozen A5 j
    clear A4 G4 C4 b4
    by_cases he : e' = 0
    · have q := (show (e' != 0) = false by simpa using he)
      clear he
      go_wp2_with fail
      refine bodyPost_ret (results_cell2 rfl _ _ w.heap.size 38 #[.int .i64 0, .int .i64 0, .int .u64 0, .string (S [])] (0, 0) _ _ rfl rfl ?c1 Try.underlying38 rfl (by kernel_rfl)) rfl ?_
      case c1 => exact (((A5.set 0 (.int .i64 0)).set 1 (.int .i64 0)).set 2 (.int .u64 0)).set 3 (.string (S []))
      exact HB.out _ ((((G5.setCell (p := ⟨w.heap.size, 0, none⟩) (Nat.le_refl _) _).setCell (p := ⟨w.heap.size, 1, none⟩) (Nat.le_refl _) _).setCell (p := ⟨w.heap.size, 2, none⟩) (Nat.le_refl _) _).setCell (p := ⟨w.heap.size, 3, none⟩) (Nat.le_refl _) _)
    · have q := (show (e' != 0) = true by simpa using he)
      clear he
      go_wp2_with fail
      refine bodyPost_ret (results_cell2 rfl _ _ w.heap.size 38 #[.int .i64 0, .int .i64 0, .int .u64 0, .string (S [])] (0, 0) _ _ rfl rfl ?c1 Try.underlying38 rfl (by kernel_rfl)) rfl ?_
      case c1 => exact (((A5.set 0 (.int .i64 0)).set 1 (.int .i64 0)).set 2 (.int .u64 0)).set 3 (.string (S []))
      exact HB.out _ ((((G5.setCell (p := ⟨w.heap.size, 0, none⟩) (Nat.le_refl _) _).setCell (p := ⟨w.heap.size, 1, none⟩) (Nat.le_refl _) _).setCell (p := ⟨w.heap.size, 2, none⟩) (Nat.le_refl _) _).setCell (p := ⟨w.heap.size, 3, none⟩) (Nat.le_refl _) _)
  | true =>
    have CP := Lib.hid (fun w => rput7_ok ⟨i, n, d, bd⟩ w hr hd)
    unfold Chk.val at CP
    obtain ⟨tx, htx⟩ : ∃ tx, (⟨i, n, d, bd⟩ : Chk).text = tx := ⟨_, rfl⟩
    rw [htx] at CP bad hR
    rw [hr] at hR
    by_cases he : e' = 0
    · have q := (show (e' != 0) = false by simpa using he)
      by_cases hx : tx = s
      · have q2 : (tx == s) = true := by simpa using hx
        rw [if_neg (by simp [he, hx])] at hR
        have HB := Lib.hid (show ∀ w', Below w.heap.size w w' → R (.returned (.tuple #[.agg #[.int .i64 i, .int .i64 n, .int .u64 (d : Nat), .string (S bd)], .int .i64 0])) w' from hR.out)
        clear bad hR hr he hx htx
        go_wp2_with fail
        refine (CP.out _).use ?_
        intro w4 b4
        have A5 := A4.below b4
        have C5 := C4.below b4
        have G5 := below_any (Nat.le_refl _) G4 b4
        obtain ⟨y0, y1, y2, y3, y4⟩ := A5.c4
        obtain ⟨x0, x1, x2, x3, x4⟩ := C5.c4
        have f2 := fun j => Blk.frozen A5 j
        clear A4 G4 C4 b4
        go_wp2_with fail
        refine bodyPost_ret (results_cell2 rfl _ _ w.heap.size 38 #[.int .i64 i, .int .i64 n, .int .u64 (d : Nat), .string (S bd)] (0, 0) _ _ rfl rfl ?c1 Try.underlying38 rfl (by kernel_rfl)) rfl ?_
        case c1 => exact (((A5.set 0 _).set 1 _).set 2 _).set 3 _
        exact HB.out _ ((((G5.setCell (p := ⟨w.heap.size, 0, none⟩) (Nat.le_refl _) _).setCell (p := ⟨w.heap.size, 1, none⟩) (Nat.le_refl _) _).setCell (p := ⟨w.heap.size, 2, none⟩) (Nat.le_refl _) _).setCell (p := ⟨w.heap.size, 3, none⟩) (Nat.le_refl _) _)
      · have q2 : (tx == s) = false := by simpa using hx
        have HB := Lib.hid (bad (.inr (.inr hx)))
        clear bad hR hr he hx htx
        go_wp2_with fail
        refine (CP.out _).use ?_
        intro w4 b4
        have A5 := A4.below b4
        have G5 := below_any (Nat.le_refl _) G4 b4
        obtain ⟨y0, y1, y2, y3, y4⟩ := A5.c4
        have f2 := fun j => Blk.frozen A5 j
        clear A4 G4 C4 b4
        go_wp2_with fail
        refine bodyPost_ret (results_cell2 rfl _ _ w.heap.size 38 #[.int .i64 0, .int .i64 0, .int .u64 0, .string (S [])] (0, 0) _ _ rfl rfl ?c1 Try.underlying38 rfl (by kernel_rfl)) rfl ?_
        case c1 => exact (((A5.set 0 (.int .i64 0)).set 1 (.int .i64 0)).set 2 (.int .u64 0)).set 3 (.string (S []))
        exact HB.out _ ((((G5.setCell (p := ⟨w.heap.size, 0, none⟩) (Nat.le_refl _) _).setCell (p := ⟨w.heap.size, 1, none⟩) (Nat.le_refl _) _).setCell (p := ⟨w.heap.size, 2, none⟩) (Nat.le_refl _) _).setCell (p := ⟨w.heap.size, 3, none⟩) (Nat.le_refl _) _)
    · have q := (show (e' != 0) = true by simpa using he)
      have HB := Lib.hid (bad (.inl he))
      clear bad hR hr he htx
      go_wp2_with fail
      refine (CP.out _).use ?_
      intro w4 b4
      have A5 := A4.below b4
      have G5 := below_any (Nat.le_refl _) G4 b4
      obtain ⟨y0, y1, y2, y3, y4⟩ := A5.c4
      have f2 := fun j => Blk.frozen A5 j
      clear A4 G4 C4 b4
      go_wp2_with fail
      refine bodyPost_ret (results_cell2 rfl _ _ w.heap.size 38 #[.int .i64 0, .int .i64 0, .int .u64 0, .string (S [])] (0, 0) _ _ rfl rfl ?c1 Try.underlying38 rfl (by kernel_rfl)) rfl ?_
      case c1 => exact (((A5.set 0 (.int .i64 0)).set 1 (.int .i64 0)).set 2 (.int .u64 0)).set 3 (.string (S []))
      exact HB.out _ ((((G5.setCell (p := ⟨w.heap.size, 0, none⟩) (Nat.le_refl _) _).setCell (p := ⟨w.heap.size, 1, none⟩) (Nat.le_refl _) _).setCell (p := ⟨w.heap.size, 2, none⟩) (Nat.le_refl _) _).setCell (p := ⟨w.heap.size, 3, none⟩) (Nat.le_refl _) _)
end Go.Proofs.Ytohplhahghilaaa
