/-
  Layer 3: the reader reads a batch's numbers: contract.
-/
import Derived.Test.YtikcpfoehapndaaRecH
import Derived.Test.YtikcpfoehapndaaRecO
set_option linter.unusedVariables false
set_option linter.unusedSimpArgs false
namespace Go.Proofs.Ytikcpfoehapndaa
open Go.RowKit
attribute [local go_sem] ByteArray.extract_mk ByteArray.mk_append_mk

def natCells (l : List Nat) : Array Value := (l.map fun n => Value.int .i64 (n : Nat)).toArray
theorem natCells_set (l : List Nat) (k n : Nat) : (natCells l).setIfInBounds k (.int .i64 (n : Nat)) = natCells (l.set k n) := by
  unfold natCells; simp [List.map_set]

set_option maxHeartbeats 2000000 in
set_option maxRecDepth 100000 in
theorem rd_numbers (s : List UInt8) (at_ : Int) (b : Nat) (w : World) (hr : Rd w b s at_ 0) (hl : s.length ≤ maxLen) :
    RdCall 38 #[.pointer (some ⟨b, 0, none⟩)] w b s (.agg (natCells (nst s at_ 4).2.2.2)) (nst s at_ 4).1 (nerr (nst s at_ 4)) := by
  refine RdCall.intro fun R hR => ?_
  have hlt : b < w.heap.size := Blk.lt hr
  have cN := fun a e w (hr : Rd w b s a e) => rd_number s a e b w hr hl
  have CN := Lib.hid cN
  have HR := Lib.hid hr
  clear cN hl hr
  go_enter Try.func38, Try.ntmps38
  go_wp2_with fail
  go_loopw [4, 5, 6, 7] (fun (v4 v5 v6 v7 : Value) (W : World) => ∃ k : Nat, k ≤ 4 ∧ v7 = .int .i64 (k : Int) ∧ v4 = .bool (nst s at_ k).2.2.1 ∧ Rd W b s (nst s at_ k).1 (nst s at_ k).2.1 ∧ Blk W (w.heap.size + 1) (natCells (nst s at_ k).2.2.2) 68 ∧ Blk W w.heap.size #[.int .i64 0, .int .i64 0, .int .i64 0, .int .i64 0] 68 ∧ w.grownBy W (some b)) (fun (v4 v5 v6 v7 : Value) (W : World) => (4 - intOf v7).toNat)
  case atStart =>
    refine ⟨0, by omega, rfl, rfl, Blk.alloc (Blk.alloc HR.out _) _, ?_, (Blk.new w _ _).alloc _, grown_alloc (grown_alloc (grown_refl _ _) _) _⟩
    have h := Blk.new (w.alloc (.cells #[.int .i64 0, .int .i64 0, .int .i64 0, .int .i64 0] 68)) #[.int .i64 0, .int .i64 0, .int .i64 0, .int .i64 0] 68
    rw [World.size_alloc] at h
    exact h
  case round =>
    obtain ⟨k, hk, rfl, rfl, r1, A1, A0, g1⟩ := hrel
    have hll := nst_len s at_ k
    by_cases hk4 : k < 4
    · have hnx : nst s at_ (k + 1) = _ := nst.eq_2 s at_ k
      obtain ⟨⟨a, e, bg, l⟩, hp⟩ : ∃ p, nst s at_ k = p := ⟨_, rfl⟩
      rw [hp] at r1 A1 hll hnx ⊢
      simp only at r1 A1 hll hnx ⊢
      obtain ⟨⟨n, a2, e2⟩, hm⟩ : ∃ m, mnum s a e = m := ⟨_, rfl⟩
      have cN := fun w => CN.out a e w
      rw [hm] at cN hnx
      simp only at cN hnx
      have CN2 := Lib.hid cN
      have HNX := Lib.hid hnx
      clear cN hm hp hnx
      have hb0 : b < wr.heap.size := Blk.lt r1
      have hkl : k < l.length := by omega
      have n1 : some (w.heap.size + 1) ≠ some b := by simp; omega
      have n0 : some w.heap.size ≠ some b := by simp; omega
      have hend : ∀ (W : World) (u : Bool) (z : Nat), u = (bg || (decide (k < 3) && decide (1099511627776 < n))) → z = min n 1099511627776 → Rd W b s a2 e2 → Blk W (w.heap.size + 1) (natCells (l.set k z)) 68 → Blk W w.heap.size #[.int .i64 0, .int .i64 0, .int .i64 0, .int .i64 0] 68 → w.grownBy W (some b) →
          ∃ k' : Nat, k' ≤ 4 ∧ Value.int .i64 ((k : Int) + 1) = .int .i64 (k' : Int) ∧ Value.bool u = .bool (nst s at_ k').2.2.1 ∧ Rd W b s (nst s at_ k').1 (nst s at_ k').2.1 ∧ Blk W (w.heap.size + 1) (natCells (nst s at_ k').2.2.2) 68 ∧ Blk W w.heap.size #[.int .i64 0, .int .i64 0, .int .i64 0, .int .i64 0] 68 ∧ w.grownBy W (some b) := by
        intro W u z hu hz q1 q2 q3 q4
        refine ⟨k + 1, by omega, by go_num, ?_⟩
        rw [HNX.out, ← hu, ← hz]
        exact ⟨rfl, q1, q2, q3, q4⟩
      have HE := Lib.hid hend
      clear hend HNX hll
      by_cases hn : 1099511627776 < n
      · have q1 : (1099511627776 : Int) < n := by omega
        have q2 : min (n : Int) 1099511627776 = 1099511627776 := by omega
        cases bg
        · by_cases hk3 : k < 3
          · have q4 : (k : Int) < 3 := by omega
            go_wp2_with fail
            refine (CN2.out _ r1).use ?_
            intro w2 r2 g2
            have A2 := A1.grown g2 n1
            have A02 := A0.grown g2 n0
            have ck := A2.cell k
            have ck2 : (natCells l)[k]? = some (.int .i64 (l[k] : Nat)) := by unfold natCells; simp [hkl]
            rw [ck2] at ck
            have fk := Blk.frozen A2 k
            have lt2 := Blk.lt A2
            go_wp2_with fail
            go_roundw
            case rel => exact HE.out _ _ 1099511627776 (by simp [hk3, hn] <;> omega) (by omega) (Blk.setOther r2 (by simp; omega) _) (natCells_set l k 1099511627776 ▸ A2.set k _) (A02.setOther (by simp) _) (grown_own (g1.trans g2) (by omega) _ _)
            case measure => simp [intOf]; omega
          · have q4 : ¬ (k : Int) < 3 := by omega
            go_wp2_with fail
            refine (CN2.out _ r1).use ?_
            intro w2 r2 g2
            have A2 := A1.grown g2 n1
            have A02 := A0.grown g2 n0
            have ck := A2.cell k
            have ck2 : (natCells l)[k]? = some (.int .i64 (l[k] : Nat)) := by unfold natCells; simp [hkl]
            rw [ck2] at ck
            have fk := Blk.frozen A2 k
            have lt2 := Blk.lt A2
            go_wp2_with fail
            go_roundw
            case rel => exact HE.out _ _ 1099511627776 (by simp [hk3]) (by omega) (Blk.setOther r2 (by simp; omega) _) (natCells_set l k 1099511627776 ▸ A2.set k _) (A02.setOther (by simp) _) (grown_own (g1.trans g2) (by omega) _ _)
            case measure => simp [intOf]; omega
        · go_wp2_with fail
          refine (CN2.out _ r1).use ?_
          intro w2 r2 g2
          have A2 := A1.grown g2 n1
          have A02 := A0.grown g2 n0
          have ck := A2.cell k
          have ck2 : (natCells l)[k]? = some (.int .i64 (l[k] : Nat)) := by unfold natCells; simp [hkl]
          rw [ck2] at ck
          have fk := Blk.frozen A2 k
          have lt2 := Blk.lt A2
          go_wp2_with fail
          go_roundw
          case rel => exact HE.out _ _ 1099511627776 (by simp) (by omega) (Blk.setOther r2 (by simp; omega) _) (natCells_set l k 1099511627776 ▸ A2.set k _) (A02.setOther (by simp) _) (grown_own (g1.trans g2) (by omega) _ _)
          case measure => simp [intOf]; omega
      · have q1 : (n : Int) ≤ 1099511627776 := by omega
        have q2 : min (n : Int) 1099511627776 = n := by omega
        cases bg
        · by_cases hk3 : k < 3
          · have q4 : (k : Int) < 3 := by omega
            go_wp2_with fail
            refine (CN2.out _ r1).use ?_
            intro w2 r2 g2
            have A2 := A1.grown g2 n1
            have A02 := A0.grown g2 n0
            have ck := A2.cell k
            have ck2 : (natCells l)[k]? = some (.int .i64 (l[k] : Nat)) := by unfold natCells; simp [hkl]
            rw [ck2] at ck
            have fk := Blk.frozen A2 k
            have lt2 := Blk.lt A2
            go_wp2_with fail
            go_roundw
            case rel => exact HE.out _ _ n (by simp [hk3, hn] <;> omega) (by omega) (Blk.setOther r2 (by simp; omega) _) (natCells_set l k n ▸ A2.set k _) (A02.setOther (by simp) _) (grown_own (g1.trans g2) (by omega) _ _)
            case measure => simp [intOf]; omega
          · have q4 : ¬ (k : Int) < 3 := by omega
            go_wp2_with fail
            refine (CN2.out _ r1).use ?_
            intro w2 r2 g2
            have A2 := A1.grown g2 n1
            have A02 := A0.grown g2 n0
            have ck := A2.cell k
            have ck2 : (natCells l)[k]? = some (.int .i64 (l[k] : Nat)) := by unfold natCells; simp [hkl]
            rw [ck2] at ck
            have fk := Blk.frozen A2 k
            have lt2 := Blk.lt A2
            go_wp2_with fail
            go_roundw
            case rel => exact HE.out _ _ n (by simp [hk3]) (by omega) (Blk.setOther r2 (by simp; omega) _) (natCells_set l k n ▸ A2.set k _) (A02.setOther (by simp) _) (grown_own (g1.trans g2) (by omega) _ _)
            case measure => simp [intOf]; omega
        · go_wp2_with fail
          refine (CN2.out _ r1).use ?_
          intro w2 r2 g2
          have A2 := A1.grown g2 n1
          have A02 := A0.grown g2 n0
          have ck := A2.cell k
          have ck2 : (natCells l)[k]? = some (.int .i64 (l[k] : Nat)) := by unfold natCells; simp [hkl]
          rw [ck2] at ck
          have fk := Blk.frozen A2 k
          have lt2 := Blk.lt A2
          go_wp2_with fail
          go_roundw
          case rel => exact HE.out _ _ n (by simp) (by omega) (Blk.setOther r2 (by simp; omega) _) (natCells_set l k n ▸ A2.set k _) (A02.setOther (by simp) _) (grown_own (g1.trans g2) (by omega) _ _)
          case measure => simp [intOf]; omega
    · have hk6 : k = 4 := by omega
      have hk5 : (k : Int) = 4 := by omega
      rw [hk6] at r1 A1 hll
      obtain ⟨⟨a, e, bg, l⟩, hp⟩ : ∃ p, nst s at_ 4 = p := ⟨_, rfl⟩
      have hb5 : (nst s at_ k).2.2.1 = bg := by rw [hk6, hp]
      rw [hp] at r1 A1 hll hR
      rw [hb5]
      simp only at r1 A1 hll hR
      match l, hll with
      | [x0, x1, x2, x3], _ =>
        unfold nerr at hR
        simp only [List.getD_eq_getElem?_getD, List.getElem?_cons_succ, List.getElem?_cons_zero, Option.getD_some] at hR
        have A1 : Blk wr (w.heap.size + 1) #[.int .i64 x0, .int .i64 x1, .int .i64 x2, .int .i64 x3] 68 := A1
        obtain ⟨lt1, c0, c1, c2, c3⟩ := A1.c4
        obtain ⟨lt0, y0, y1, y2, y3⟩ := A0.c4
        have f0 := fun i => Blk.frozen A0 i
        obtain ⟨ltb, rr0, rr1, rr2⟩ := Blk.c3 r1
        have fb := fun i => Blk.frozen r1 i
        have nb1 : b ≠ w.heap.size := by omega
        have nb2 : b ≠ w.heap.size + 1 := by omega
        clear hp hb5 hk6
        by_cases he : e = 0
        · subst he
          rw [if_neg (by simp)] at hR
          cases bg
          · rw [if_neg (by simp)] at hR
            by_cases h3 : x3 = 0
            · rw [if_pos h3] at hR
              have q : ((x3 : Int) == 0) = true := by simp [h3]
              clear h3
              go_wp2_with fail
              have A4 := ((((A0.setOther (a := ⟨b, 2, none⟩) (by simp; omega) (.int .i64 30)).set 0 (.int .i64 x0)).set 1 (.int .i64 x1)).set 2 (.int .i64 x2)).set 3 (.int .i64 x3)
              refine bodyPost_ret (results_cell_row rfl _ _ w.heap.size 68 #[.int .i64 x0, .int .i64 x1, .int .i64 x2, .int .i64 x3] (0, 0) (.array 4 3) rfl A4 Try.underlying68 rfl (by kernel_rfl)) rfl ?_
              exact finR hR (((((Blk.set r1 2 (.int .i64 30) : Blk _ b _ _).setOther (by simp; omega) _).setOther (by simp; omega) _).setOther (by simp; omega) _).setOther (by simp; omega) _) (grown_own (grown_own (grown_own (grown_own (grown_set g1 _ _) (Nat.le_refl _) _ _) (Nat.le_refl _) _ _) (Nat.le_refl _) _ _) (Nat.le_refl _) _ _) rfl
            · rw [if_neg h3] at hR
              have q : ((x3 : Int) == 0) = false := by simp [h3]
              clear h3
              by_cases h4 : 16 < x3
              · rw [if_pos h4] at hR
                have h5 : (16 : Int) < x3 := by omega
                go_wp2_with fail
                have A4 := ((((A0.setOther (a := ⟨b, 2, none⟩) (by simp; omega) (.int .i64 2)).set 0 (.int .i64 x0)).set 1 (.int .i64 x1)).set 2 (.int .i64 x2)).set 3 (.int .i64 x3)
                refine bodyPost_ret (results_cell_row rfl _ _ w.heap.size 68 #[.int .i64 x0, .int .i64 x1, .int .i64 x2, .int .i64 x3] (0, 0) (.array 4 3) rfl A4 Try.underlying68 rfl (by kernel_rfl)) rfl ?_
                exact finR hR (((((Blk.set r1 2 (.int .i64 2) : Blk _ b _ _).setOther (by simp; omega) _).setOther (by simp; omega) _).setOther (by simp; omega) _).setOther (by simp; omega) _) (grown_own (grown_own (grown_own (grown_own (grown_set g1 _ _) (Nat.le_refl _) _ _) (Nat.le_refl _) _ _) (Nat.le_refl _) _ _) (Nat.le_refl _) _ _) rfl
              · rw [if_neg h4] at hR
                have h5 : (x3 : Int) ≤ 16 := by omega
                go_wp2_with fail
                have A4 := ((((A0).set 0 (.int .i64 x0)).set 1 (.int .i64 x1)).set 2 (.int .i64 x2)).set 3 (.int .i64 x3)
                refine bodyPost_ret (results_cell_row rfl _ _ w.heap.size 68 #[.int .i64 x0, .int .i64 x1, .int .i64 x2, .int .i64 x3] (0, 0) (.array 4 3) rfl A4 Try.underlying68 rfl (by kernel_rfl)) rfl ?_
                exact finR hR (((((r1 : Blk _ b _ _).setOther (by simp; omega) _).setOther (by simp; omega) _).setOther (by simp; omega) _).setOther (by simp; omega) _) (grown_own (grown_own (grown_own (grown_own g1 (Nat.le_refl _) _ _) (Nat.le_refl _) _ _) (Nat.le_refl _) _ _) (Nat.le_refl _) _ _) rfl
          · rw [if_pos rfl] at hR
            go_wp2_with fail
            have A4 := ((((A0.setOther (a := ⟨b, 2, none⟩) (by simp; omega) (.int .i64 1)).set 0 (.int .i64 x0)).set 1 (.int .i64 x1)).set 2 (.int .i64 x2)).set 3 (.int .i64 x3)
            refine bodyPost_ret (results_cell_row rfl _ _ w.heap.size 68 #[.int .i64 x0, .int .i64 x1, .int .i64 x2, .int .i64 x3] (0, 0) (.array 4 3) rfl A4 Try.underlying68 rfl (by kernel_rfl)) rfl ?_
            exact finR hR (((((Blk.set r1 2 (.int .i64 1) : Blk _ b _ _).setOther (by simp; omega) _).setOther (by simp; omega) _).setOther (by simp; omega) _).setOther (by simp; omega) _) (grown_own (grown_own (grown_own (grown_own (grown_set g1 _ _) (Nat.le_refl _) _ _) (Nat.le_refl _) _ _) (Nat.le_refl _) _ _) (Nat.le_refl _) _ _) rfl
        · rw [if_pos he] at hR
          have q1 : ((e : Int) == 0) = false := by simpa using he
          have q2 : ((e : Int) != 0) = true := by simpa using he
          clear he
          go_wp2_with fail
          have A4 := ((((A0).set 0 (.int .i64 x0)).set 1 (.int .i64 x1)).set 2 (.int .i64 x2)).set 3 (.int .i64 x3)
          refine bodyPost_ret (results_cell_row rfl _ _ w.heap.size 68 #[.int .i64 x0, .int .i64 x1, .int .i64 x2, .int .i64 x3] (0, 0) (.array 4 3) rfl A4 Try.underlying68 rfl (by kernel_rfl)) rfl ?_
          exact finR hR (((((r1 : Blk _ b _ _).setOther (by simp; omega) _).setOther (by simp; omega) _).setOther (by simp; omega) _).setOther (by simp; omega) _) (grown_own (grown_own (grown_own (grown_own g1 (Nat.le_refl _) _ _) (Nat.le_refl _) _ _) (Nat.le_refl _) _ _) (Nat.le_refl _) _ _) rfl
end Go.Proofs.Ytikcpfoehapndaa
