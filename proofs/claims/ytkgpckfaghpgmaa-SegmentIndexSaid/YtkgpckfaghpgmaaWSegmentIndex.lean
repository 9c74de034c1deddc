/-
  The walk of SegmentIndex.
-/
import Derived.Test.YtkgpckfaghpgmaaSegV
set_option linter.unusedVariables false
set_option linter.unusedSimpArgs false
namespace Go.Proofs.Ytkgpckfaghpgmaa.segmentIndex
open Go.RowKit
attribute [local go_sem] ByteArray.extract_mk ByteArray.mk_append_mk

set_option maxHeartbeats 4000000 in
set_option maxRecDepth 100000 in
theorem walk0 {w : World} (a : Option Addr) (n cap : Nat) (i : Int) (hn : n ≤ 9223372036854775807) :
    RetB Try.prog 5 #[.slice a n cap, .int .i64 i] w (.bool true) := by
  refine RetB.intro fun R hR => ?_
  obtain ⟨q, hq, hq2⟩ : ∃ q : Nat, bits .and .i64 i 65535 = (q : Int) ∧ q < 65536 := ⟨_, and_low i 65535 16 rfl (by omega), Nat.mod_lt _ (by decide)⟩
  have c1 := fun w => new5_ok (q : Int) w (by unfold numB; simp; omega)
  have cv := fun w => v5 w
  go_enter Try.func5, Try.ntmps5
  go_wp2_with fail
  refine (c1 _).use ?_
  intro p b1 w1 S1 B1 N1
  clear c1
  go_wp2_with fail
  go_loopw [7, 8, 9] (fun (v7 v8 v9 : Value) (W : World) => ∃ (k : Nat) (cs : List Nat), v7 = .int .i64 (k : Int) ∧ k ≤ n ∧ k ≤ 64 ∧ SegAt W p cs q ((q : Int) + (k : Int)) (vs q k) ∧ Below w.heap.size w W ∧ ∀ x ∈ cs, w.heap.size ≤ x) (fun (v7 v8 v9 : Value) (W : World) => (n - intOf v7).toNat)
  case atStart => exact ⟨0, b1, rfl, by omega, by omega, by simpa [vs, fnds] using S1, B1, N1⟩
  case round =>
    obtain ⟨k, cs, rfl, hk, hk2, hS, hnx, hcs⟩ := hrel
    by_cases hkn : k < n ∧ k < 64
    · obtain ⟨hkn, hk64⟩ := hkn
      go_wp2_with fail
      refine (cv _).use ?_
      intro w2 B2
      have S2 := hS.below B2
      have hs2 := S2.lt
      have hr2 := recs_lit (w := w2) [rv] #[.bool false, .string (S []), .bool false, .string (S [118])] rfl (by decide)
      have ca := Lib.hid (append_v p cs q q k _ _ (S2.below (below_all (Below.refl _ _))) hr2 (away_new hs2) hk64 (by omega))
      have G3 := below_all (o := .cells #[.bool false, .string (S []), .bool false, .string (S [118])] 24) (below_any (Nat.le_refl _) hnx B2)
      have e1 : IntKind.i64.wrap ((q : Int) + (k : Int)) = (q : Int) + (k : Int) := by rw [IntKind.wrap_i64]; omega
      clear S2 hs2 hr2 hS
      go_wp2_with fail
      refine ca.out.use ?_
      intro cs2 w3 S3 K3 N3
      have G4 := Kept.below G3 K3 hcs G3.size
      have M3 : ∀ x ∈ cs2, w.heap.size ≤ x := fun x hx => (N3 x hx).elim (hcs x) fun h => Nat.le_trans G3.size h
      go_wp2_with fail
      go_roundw
      case rel => exact ⟨k + 1, cs2, by go_num, by omega, by omega, S3, G4, M3⟩
      case measure => simp [intOf]; omega
    · have cI := Lib.hid (fun w hS => index5 p cs q ((q : Int) + (k : Int)) (vs q k) w hS (by rw [vs_len]; omega))
      have cA := Lib.hid (fun w hS => all5 p cs q ((q : Int) + (k : Int)) (vs q k) w hS (by rw [vs_len]; omega))
      have cL := Lib.hid (fun w hS => len5 p cs q ((q : Int) + (k : Int)) (vs q k) w hS)
      have hx1 : (idx (vs q k)).length = (k + 7) / 8 := by rw [(idx_shape _).1, vs_len]
      have hx2 : ∀ j, (h : j < (idx (vs q k)).length) → (idx (vs q k))[j] = q + (8 * j : Nat) := fun j h => by
        rw [(idx_shape (vs q k)).2 j h (by rw [vs_len]; omega), vs_get]
      have HX := Lib.hid hx2
      have hvl := vs_len q k
      have HVG := Lib.hid (vs_get q k)
      clear hx2
      generalize vs q k = L at *
      generalize idx L = xs at *
      have hvl2 : (L.length : Int) = k := by omega
      have HVL := Lib.hid hvl
      have HXL := Lib.hid hx1
      clear hvl hx1
      have xsl : xs.length ≤ 9 := by rw [HXL.out]; omega
      have e1 : IntKind.i64.wrap ((L.length : Int) + 7) = (L.length : Int) + 7 := by rw [IntKind.wrap_i64]; omega
      have e2 : ((L.length : Int) + 7) / 8 = (xs.length : Int) := by rw [HXL.out, hvl2]; omega
      have e3 : (xs.length : Int) = ((L.length : Int) + 7) / 8 := e2.symm
      have e4 : IntKind.i64.wrap (xs.length : Int) = (xs.length : Int) := by rw [IntKind.wrap_i64]; omega
      have hLl : L.length ≤ 64 := by rw [HVL.out]; omega
      clear hvl2 e3
      rcases (show ¬ (k < n) ∨ (k < n ∧ ¬ (k < 64)) by omega) with hkt | ⟨hkt, hkt2⟩
      all_goals go_wp2_with fail
      all_goals refine (cI.out _ hS).use ?_
      all_goals intro vi w2 O2 B2
      all_goals (have S2 := hS.below B2)
      all_goals (have I2 := nums_own O2)
      all_goals (have G2 := below_any (Nat.le_refl _) hnx B2)
      all_goals go_wp2_with fail
      all_goals refine (cA.out _ S2).use ?_
      all_goals intro va w3 O3 B3
      all_goals (have S3 := S2.below B3)
      all_goals (have I3 := I2.below B3)
      all_goals (have J3 := fnds_own O3)
      all_goals (have G3 := below_any (Nat.le_refl _) G2 B3)
      all_goals obtain ⟨ia, ic, rfl⟩ := own_form O2
      all_goals obtain ⟨fa, fc, rfl⟩ := own_form O3
      all_goals clear S2 I2 G2 O2 O3 B2 B3 hS hnx cI cA
      all_goals go_wp2_with fail
      all_goals clear e1 e2 e4
      all_goals (go_loopw [12] (fun (v12 : Value) (W : World) => ∃ (j : Nat), v12 = .int .i64 (j : Int) ∧ j ≤ xs.length ∧ Below w3.heap.size w3 W) (fun (v12 : Value) (W : World) => (xs.length - intOf v12).toNat))
      case atStart => exact ⟨0, rfl, by omega, Below.refl _ _⟩
      case atStart => exact ⟨0, rfl, by omega, Below.refl _ _⟩
      all_goals
        obtain ⟨j, rfl, hj, hny⟩ := hrel
        by_cases hjl : j < xs.length
        · have hL8 : 8 * j < L.length := by rw [HVL.out]; have := HXL.out; omega
          rcases I3.below hny with ⟨h, _⟩ | ⟨b, off, cap2, hsl, _, _, hlt, hc⟩
          · rw [h] at hjl; simp at hjl
          simp only [Value.slice.injEq, true_and] at hsl
          obtain ⟨rfl, rfl⟩ := hsl
          have hci := hc j hjl
          rw [HX.out j hjl] at hci
          rcases J3.below hny with ⟨h, _⟩ | ⟨b', off', cap3, hsl, _, _, hlt', hc'⟩
          · rw [h] at hL8; simp at hL8
          simp only [Value.slice.injEq, true_and] at hsl
          obtain ⟨rfl, rfl⟩ := hsl
          obtain ⟨m, hm⟩ : ∃ m, 8 * j = m := ⟨_, rfl⟩
          have e5 : IntKind.i64.wrap (8 * (j : Int)) = (m : Int) := by rw [IntKind.wrap_i64]; omega
          rw [hm] at hL8 hci
          obtain ⟨y0, y1, y2, y3, y4⟩ := hc' m hL8
          rw [HVG.out m hL8] at y0
          have y0 : wr.cell? ⟨b', off' + m * 5, none⟩ = some (.int .i64 ((q : Int) + (m : Int))) := y0
          have i1 : (0 : Int) ≤ (j : Int) := by omega
          have i2 : (j : Int) < (xs.length : Int) := by omega
          have i3 : (0 : Int) ≤ (m : Int) := by omega
          have i4 : (m : Int) < (L.length : Int) := by omega
          clear hc hc' y1 y2 y3 y4 hm
          go_wp2_with fail
          go_quiet (fail)
          go_wp2_with fail
          go_roundw
          case rel => exact ⟨j + 1, by go_num, by omega, belowN hny _⟩
          case measure => simp [intOf]; omega
        · obtain rfl : j = xs.length := by omega
          have cF := Lib.hid (cL.out _ (S3.below hny))
          go_wp2_with fail
          refine cF.out.use ?_
          go_wp2_with fail
          refine (fixed5 _).use ?_
          intro w5 B5
          go_wp2_with fail
          exact finB hR (below_any (Nat.le_refl _) (below_any (Nat.le_refl _) G3 hny) B5) rfl
theorem walk {w : World} (v : Value) (l : List Rec) (i : Int) (hl : RecsIn w v l) (hb : RecsBd l) (hi : -9223372036854775808 ≤ i ∧ i ≤ 9223372036854775807) :
    RetB Try.prog 5 #[v, .int .i64 i] w (.bool true) := by
  obtain ⟨a, cap, rfl⟩ := hl.form
  exact walk0 a l.length cap i (by have := hb.1; unfold maxLen at this; omega)
end Go.Proofs.Ytkgpckfaghpgmaa.segmentIndex
