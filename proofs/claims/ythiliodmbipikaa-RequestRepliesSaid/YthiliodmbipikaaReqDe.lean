/-
  Layer 4, the document: a reply's bytes.
-/
import Derived.Test.YthiliodmbipikaaReqDr
import Derived.Test.YthiliodmbipikaaReqDp
import Derived.Test.YthiliodmbipikaaReqZ
set_option linter.unusedVariables false
set_option linter.unusedSimpArgs false
namespace Go.Proofs.Ythiliodmbipikaa
open Go.RowKit
attribute [local go_sem] ByteArray.extract_mk ByteArray.mk_append_mk

theorem FndAt.below {w W : World} {b o : Nat} {f : Fnd} (h : FndAt w b o f) (hb : b < w.heap.size) (hW : Below w.heap.size w W) : FndAt W b o f := h.keep fun j => World.cell?_of_block (hW.block b hb)
theorem PartAt.below {w W : World} {b o : Nat} {f : Prt} (h : PartAt w b o f) (hb : b < w.heap.size) (hW : Below w.heap.size w W) : PartAt W b o f := h.keep fun j => World.cell?_of_block (hW.block b hb)
set_option maxHeartbeats 4000000 in
set_option maxRecDepth 100000 in
theorem dreply4 (r : Rep) (fv pv : Value) (w : World) (hi : RepIn w r fv pv) (hb : RepBd r) :
    RetB Try.prog 23 #[.agg (r.arr fv pv)] w (.tuple #[.string (S (repPut r).1), .int .i64 ((repPut r).2 : Nat)]) := by
  refine RetB.intro fun R hR => ?_
  obtain ⟨fa, fc, hfv⟩ := hi.found.form
  obtain ⟨pa, pc, hpv⟩ := hi.parts.form
  subst hfv hpv
  obtain ⟨W0, hW0, B0, q0, sz0⟩ := start1c w (r.arr (.slice fa r.found.length fc) (.slice pa r.parts.length pc)) 38
  have BB := Lib.hid B0
  have QQ := Lib.hid q0
  have HF := Lib.hid (fun W (hW : Below w.heap.size w W) => hi.found.below hW)
  have HP := Lib.hid (fun W (hW : Below w.heap.size w W) => hi.parts.below hW)
  have cK := Lib.hid (right4 r _ _ W0 (hi.below B0) hb)
  obtain ⟨kx, x0, x1, x2, x3, x4, x5⟩ := arr6_cells q0
  clear B0 q0 sz0 hi
  dsimp only [Rep.arr] at hW0 cK ⊢
  by_cases h0 : repCheck r = 0
  case neg =>
    have e0 : repPut r = ([], repCheck r) := by unfold repPut; rw [if_neg h0]
    rw [e0] at hR
    dsimp only at hR
    have t0 : ((repCheck r : Nat) : Int) ≠ 0 := by omega
    generalize ((repCheck r : Nat) : Int) = E at *
    have t1 : (E = 0) = False := eq_false t0
    have t2 : (E != 0) = true := by simpa using t0
    clear e0 t0
    go_enter Try.func23, Try.ntmps23
    go_wp2_with fail
    try rw [hW0]
    clear hW0
    refine cK.out.use ?_
    intro w1 b1
    go_wp2_with fail
    exact finB hR (below_any (Nat.le_refl _) BB.out b1) rfl
  case pos =>
    have ok := repCheck_ok h0
    have e0 : repPut r = (repText r, 0) := by unfold repPut; rw [if_pos h0]
    rw [e0] at hR
    dsimp only at hR
    rw [h0] at cK
    clear e0 h0 hb
    obtain ⟨e, off, n, gen, found, parts⟩ := r
    obtain ⟨o1, o2, o3, o4, o5, o6⟩ := ok
    dsimp only at *
    obtain ⟨e, rfl, b1⟩ := numB_ex o1
    obtain ⟨off, rfl, b2⟩ := numB_ex o2
    obtain ⟨n, rfl, b3⟩ := numB_ex o3
    obtain ⟨gen, rfl, b4⟩ := numB_ex o4
    have HO5 := Lib.hid o5
    have HO6 := Lib.hid o6
    have l5 := o5.1
    have l6 := o6.1
    clear o1 o2 o3 o4 o5 o6
    have n1 := Lib.hid (fun w => rnum_put e w (by omega))
    have n2 := Lib.hid (fun w => rnum_put off w (by omega))
    have n3 := Lib.hid (fun w => rnum_put n w (by omega))
    have n4 := Lib.hid (fun w => rnum_put gen w (by omega))
    have n5 := Lib.hid (fun w => rnum_put found.length w (by omega))
    have n6 := Lib.hid (fun w => rnum_put parts.length w (by omega))
    have v1 := vput_le e
    have v2 := vput_le off
    have v3 := vput_le n
    have v4 := vput_le gen
    have v5 := vput_le found.length
    have v6 := vput_le parts.length
    have htx : repText ⟨(e : Nat), (off : Nat), (n : Nat), (gen : Nat), found, parts⟩ = (vput e ++ (vput off ++ (vput n ++ (vput gen ++ vput found.length)))) ++ (found.flatMap fndText ++ (vput parts.length ++ parts.flatMap prtText)) := by
      simp only [repText, Int.toNat_natCast, List.append_assoc]
    rw [htx] at hR
    have g1 : ¬ 9223372036854775807 < (vput e).length + (vput off).length := by omega
    have g2 : ¬ 9223372036854775807 < (vput e).length + (vput off).length + (vput n).length := by omega
    have g3 : ¬ 9223372036854775807 < (vput e).length + ((vput off).length + (vput n).length) + (vput gen).length := by omega
    have g4 : ¬ 9223372036854775807 < (vput e).length + ((vput off).length + ((vput n).length + (vput gen).length)) + (vput found.length).length := by omega
    clear htx
    go_enter Try.func23, Try.ntmps23
    go_wp2_with fail
    try rw [hW0]
    clear hW0
    refine (cK.out.cast (v' := .int .i64 0) rfl).use ?_
    intro w1 c1
    have P10 : Below w.heap.size w w1.drew := (below_any (Nat.le_refl _) BB.out c1).drew
    have Q10 := Lib.hid (Blk.drew (QQ.out.below c1))
    have HS := Lib.hid (fun W (hW : Below w1.heap.size w1 W) => (QQ.out.below c1).below hW)
    have hw1 := BB.out.trans (c1.mono BB.out.size)
    clear c1 x0 x1 x2 x3 x4 x5 kx BB QQ cK
    go_upto_region 4 with fail
    have P10 : Below w1.heap.size w1 w1.drew := (Below.refl _ _).drew
    refine wp_region_held_drew (S := (fun w' => Blk w' w.heap.size #[.int .i64 (e : Nat), .int .i64 (off : Nat), .int .i64 (n : Nat), .int .i64 (gen : Nat), .slice fa found.length fc, .slice pa parts.length pc] 38)) (by kernel_rfl) (HS.out _ P10) (fun hHeld => ?_)
    refine wpAnyH_take (i := 0) (v := ?_) rfl (by kernel_rfl) (by kernel_rfl) (by kernel_rfl) (fun _ _ _ h => h) (Or.inl ⟨by rfl, ?_⟩) hHeld ?_
    rotate_left
    · (intro w hSw; (try dsimp only at hSw); have hc0 := hSw.cell 0; have hc1 := hSw.cell 1; have hc2 := hSw.cell 2; have hc3 := hSw.cell 3; have hc4 := hSw.cell 4; have hc5 := hSw.cell 5; simp only [List.getElem?_toArray, List.getElem?_cons_succ, List.getElem?_cons_zero] at hc0 hc1 hc2 hc3 hc4 hc5; go_simp; try with_reducible rfl)
    try simp only [List.getElem_toArray, List.getElem_cons_zero, List.getElem_cons_succ, Act.put, List.setIfInBounds_toArray, List.set_cons_zero, List.set_cons_succ]
    refine wpAnyH_take (i := 1) (v := ?_) rfl (by kernel_rfl) (by kernel_rfl) (by kernel_rfl) (fun _ _ _ h => h) (Or.inl ⟨by rfl, ?_⟩) hHeld ?_
    rotate_left
    · (intro w hSw; (try dsimp only at hSw); have hc0 := hSw.cell 0; have hc1 := hSw.cell 1; have hc2 := hSw.cell 2; have hc3 := hSw.cell 3; have hc4 := hSw.cell 4; have hc5 := hSw.cell 5; simp only [List.getElem?_toArray, List.getElem?_cons_succ, List.getElem?_cons_zero] at hc0 hc1 hc2 hc3 hc4 hc5; go_simp; try with_reducible rfl)
    try simp only [List.getElem_toArray, List.getElem_cons_zero, List.getElem_cons_succ, Act.put, List.setIfInBounds_toArray, List.set_cons_zero, List.set_cons_succ]
    refine wpAnyH_take (i := 3) (v := ?_) rfl (by kernel_rfl) (by kernel_rfl) (by kernel_rfl) (fun _ _ _ h => h) (Or.inl ⟨by rfl, ?_⟩) hHeld ?_
    rotate_left
    · (intro w hSw; (try dsimp only at hSw); have hc0 := hSw.cell 0; have hc1 := hSw.cell 1; have hc2 := hSw.cell 2; have hc3 := hSw.cell 3; have hc4 := hSw.cell 4; have hc5 := hSw.cell 5; simp only [List.getElem?_toArray, List.getElem?_cons_succ, List.getElem?_cons_zero] at hc0 hc1 hc2 hc3 hc4 hc5; go_simp; try with_reducible rfl)
    try simp only [List.getElem_toArray, List.getElem_cons_zero, List.getElem_cons_succ, Act.put, List.setIfInBounds_toArray, List.set_cons_zero, List.set_cons_succ]
    refine wpAnyH_take (i := 4) (v := ?_) rfl (by kernel_rfl) (by kernel_rfl) (by kernel_rfl) (fun _ _ _ h => h) (Or.inl ⟨by rfl, ?_⟩) hHeld ?_
    rotate_left
    · (intro w hSw; (try dsimp only at hSw); have hc0 := hSw.cell 0; have hc1 := hSw.cell 1; have hc2 := hSw.cell 2; have hc3 := hSw.cell 3; have hc4 := hSw.cell 4; have hc5 := hSw.cell 5; simp only [List.getElem?_toArray, List.getElem?_cons_succ, List.getElem?_cons_zero] at hc0 hc1 hc2 hc3 hc4 hc5; go_simp; try with_reducible rfl)
    try simp only [List.getElem_toArray, List.getElem_cons_zero, List.getElem_cons_succ, Act.put, List.setIfInBounds_toArray, List.set_cons_zero, List.set_cons_succ]
    refine wpAnyH_take (i := 7) (v := ?_) rfl (by kernel_rfl) (by kernel_rfl) (by kernel_rfl) (fun _ _ _ h => h) (Or.inl ⟨by rfl, ?_⟩) hHeld ?_
    rotate_left
    · (intro w hSw; (try dsimp only at hSw); have hc0 := hSw.cell 0; have hc1 := hSw.cell 1; have hc2 := hSw.cell 2; have hc3 := hSw.cell 3; have hc4 := hSw.cell 4; have hc5 := hSw.cell 5; simp only [List.getElem?_toArray, List.getElem?_cons_succ, List.getElem?_cons_zero] at hc0 hc1 hc2 hc3 hc4 hc5; go_simp; try with_reducible rfl)
    try simp only [List.getElem_toArray, List.getElem_cons_zero, List.getElem_cons_succ, Act.put, List.setIfInBounds_toArray, List.set_cons_zero, List.set_cons_succ]
    refine wpAnyH_take (i := 8) (v := ?_) rfl (by kernel_rfl) (by kernel_rfl) (by kernel_rfl) (fun _ _ _ h => h) (Or.inl ⟨by rfl, ?_⟩) hHeld ?_
    rotate_left
    · (intro w hSw; (try dsimp only at hSw); have hc0 := hSw.cell 0; have hc1 := hSw.cell 1; have hc2 := hSw.cell 2; have hc3 := hSw.cell 3; have hc4 := hSw.cell 4; have hc5 := hSw.cell 5; simp only [List.getElem?_toArray, List.getElem?_cons_succ, List.getElem?_cons_zero] at hc0 hc1 hc2 hc3 hc4 hc5; go_simp; try with_reducible rfl)
    try simp only [List.getElem_toArray, List.getElem_cons_zero, List.getElem_cons_succ, Act.put, List.setIfInBounds_toArray, List.set_cons_zero, List.set_cons_succ]
    refine wpAnyH_take (i := 11) (v := ?_) rfl (by kernel_rfl) (by kernel_rfl) (by kernel_rfl) (fun _ _ _ h => h) (Or.inl ⟨by rfl, ?_⟩) hHeld ?_
    rotate_left
    · (intro w hSw; (try dsimp only at hSw); have hc0 := hSw.cell 0; have hc1 := hSw.cell 1; have hc2 := hSw.cell 2; have hc3 := hSw.cell 3; have hc4 := hSw.cell 4; have hc5 := hSw.cell 5; simp only [List.getElem?_toArray, List.getElem?_cons_succ, List.getElem?_cons_zero] at hc0 hc1 hc2 hc3 hc4 hc5; go_simp; try with_reducible rfl)
    try simp only [List.getElem_toArray, List.getElem_cons_zero, List.getElem_cons_succ, Act.put, List.setIfInBounds_toArray, List.set_cons_zero, List.set_cons_succ]
    refine wpAnyH_take (i := 12) (v := ?_) rfl (by kernel_rfl) (by kernel_rfl) (by kernel_rfl) (fun _ _ _ h => h) (Or.inl ⟨by rfl, ?_⟩) hHeld ?_
    rotate_left
    · (intro w hSw; (try dsimp only at hSw); have hc0 := hSw.cell 0; have hc1 := hSw.cell 1; have hc2 := hSw.cell 2; have hc3 := hSw.cell 3; have hc4 := hSw.cell 4; have hc5 := hSw.cell 5; simp only [List.getElem?_toArray, List.getElem?_cons_succ, List.getElem?_cons_zero] at hc0 hc1 hc2 hc3 hc4 hc5; go_simp; try with_reducible rfl)
    try simp only [List.getElem_toArray, List.getElem_cons_zero, List.getElem_cons_succ, Act.put, List.setIfInBounds_toArray, List.set_cons_zero, List.set_cons_succ]
    refine wpAnyH_take (i := 15) (v := ?_) rfl (by kernel_rfl) (by kernel_rfl) (by kernel_rfl) (fun _ _ _ h => h) (Or.inl ⟨by rfl, ?_⟩) hHeld ?_
    rotate_left
    · (intro w hSw; (try dsimp only at hSw); have hc0 := hSw.cell 0; have hc1 := hSw.cell 1; have hc2 := hSw.cell 2; have hc3 := hSw.cell 3; have hc4 := hSw.cell 4; have hc5 := hSw.cell 5; simp only [List.getElem?_toArray, List.getElem?_cons_succ, List.getElem?_cons_zero] at hc0 hc1 hc2 hc3 hc4 hc5; go_simp; try with_reducible rfl)
    try simp only [List.getElem_toArray, List.getElem_cons_zero, List.getElem_cons_succ, Act.put, List.setIfInBounds_toArray, List.set_cons_zero, List.set_cons_succ]
    refine wpAnyH_take (i := 16) (v := ?_) rfl (by kernel_rfl) (by kernel_rfl) (by kernel_rfl) (fun _ _ _ h => h) (Or.inl ⟨by rfl, ?_⟩) hHeld ?_
    rotate_left
    · (intro w hSw; (try dsimp only at hSw); have hc0 := hSw.cell 0; have hc1 := hSw.cell 1; have hc2 := hSw.cell 2; have hc3 := hSw.cell 3; have hc4 := hSw.cell 4; have hc5 := hSw.cell 5; simp only [List.getElem?_toArray, List.getElem?_cons_succ, List.getElem?_cons_zero] at hc0 hc1 hc2 hc3 hc4 hc5; go_simp; try with_reducible rfl)
    try simp only [List.getElem_toArray, List.getElem_cons_zero, List.getElem_cons_succ, Act.put, List.setIfInBounds_toArray, List.set_cons_zero, List.set_cons_succ]
    refine wpAnyH_take (i := 17) (v := ?_) rfl (by kernel_rfl) (by kernel_rfl) (by kernel_rfl) (fun _ _ _ h => h) (Or.inl ⟨by rfl, ?_⟩) hHeld ?_
    rotate_left
    · (intro w hSw; (try dsimp only at hSw); have hc0 := hSw.cell 0; have hc1 := hSw.cell 1; have hc2 := hSw.cell 2; have hc3 := hSw.cell 3; have hc4 := hSw.cell 4; have hc5 := hSw.cell 5; simp only [List.getElem?_toArray, List.getElem?_cons_succ, List.getElem?_cons_zero] at hc0 hc1 hc2 hc3 hc4 hc5; go_simp; try with_reducible rfl)
    try simp only [List.getElem_toArray, List.getElem_cons_zero, List.getElem_cons_succ, Act.put, List.setIfInBounds_toArray, List.set_cons_zero, List.set_cons_succ]
    refine wpAnyH_ready (rs := [2]) (by kernel_rfl) (by simp) ?_
    refine AllReadyH.cons rfl (fun K hK => ?_) AllReadyH.nil
    go_simp
    refine (n1.out _).use ?_
    intro v10 e10
    have P11 := below_any (Nat.le_refl _) P10 e10
    go_wp2_with fail
    refine hK.out _ _ (HS.out _ P11) (fun hHeld => ?_)
    clear hK K
    try simp only [List.getElem_toArray, List.getElem_cons_zero, List.getElem_cons_succ, Act.put, List.setIfInBounds_toArray, List.set_cons_zero, List.set_cons_succ]
    refine wpAnyH_ready (rs := [5]) (by kernel_rfl) (by simp) ?_
    refine AllReadyH.cons rfl (fun K hK => ?_) AllReadyH.nil
    go_simp
    refine (n2.out _).use ?_
    intro v11 e11
    have P12 := below_any (Nat.le_refl _) P11 e11
    go_wp2_with fail
    refine hK.out _ _ (HS.out _ P12) (fun hHeld => ?_)
    clear hK K
    try simp only [List.getElem_toArray, List.getElem_cons_zero, List.getElem_cons_succ, Act.put, List.setIfInBounds_toArray, List.set_cons_zero, List.set_cons_succ]
    refine wpAnyH_take (i := 6) (v := ?_) rfl (by kernel_rfl) (by kernel_rfl) (by kernel_rfl) (fun _ _ _ h => h) (Or.inl ⟨by rfl, ?_⟩) hHeld ?_
    rotate_left
    · (intro w hSw; (try dsimp only at hSw); have hc0 := hSw.cell 0; have hc1 := hSw.cell 1; have hc2 := hSw.cell 2; have hc3 := hSw.cell 3; have hc4 := hSw.cell 4; have hc5 := hSw.cell 5; simp only [List.getElem?_toArray, List.getElem?_cons_succ, List.getElem?_cons_zero] at hc0 hc1 hc2 hc3 hc4 hc5; go_simp; try with_reducible rfl)
    try simp only [List.getElem_toArray, List.getElem_cons_zero, List.getElem_cons_succ, Act.put, List.setIfInBounds_toArray, List.set_cons_zero, List.set_cons_succ]
    refine wpAnyH_ready (rs := [9]) (by kernel_rfl) (by simp) ?_
    refine AllReadyH.cons rfl (fun K hK => ?_) AllReadyH.nil
    go_simp
    refine (n3.out _).use ?_
    intro v12 e12
    have P13 := below_any (Nat.le_refl _) P12 e12
    go_wp2_with fail
    refine hK.out _ _ (HS.out _ P13) (fun hHeld => ?_)
    clear hK K
    try simp only [List.getElem_toArray, List.getElem_cons_zero, List.getElem_cons_succ, Act.put, List.setIfInBounds_toArray, List.set_cons_zero, List.set_cons_succ]
    refine wpAnyH_take (i := 10) (v := ?_) rfl (by kernel_rfl) (by kernel_rfl) (by kernel_rfl) (fun _ _ _ h => h) (Or.inl ⟨by rfl, ?_⟩) hHeld ?_
    rotate_left
    · (intro w hSw; (try dsimp only at hSw); have hc0 := hSw.cell 0; have hc1 := hSw.cell 1; have hc2 := hSw.cell 2; have hc3 := hSw.cell 3; have hc4 := hSw.cell 4; have hc5 := hSw.cell 5; simp only [List.getElem?_toArray, List.getElem?_cons_succ, List.getElem?_cons_zero] at hc0 hc1 hc2 hc3 hc4 hc5; go_simp; try with_reducible rfl)
    try simp only [List.getElem_toArray, List.getElem_cons_zero, List.getElem_cons_succ, Act.put, List.setIfInBounds_toArray, List.set_cons_zero, List.set_cons_succ]
    refine wpAnyH_ready (rs := [13]) (by kernel_rfl) (by simp) ?_
    refine AllReadyH.cons rfl (fun K hK => ?_) AllReadyH.nil
    go_simp
    refine (n4.out _).use ?_
    intro v13 e13
    have P14 := below_any (Nat.le_refl _) P13 e13
    go_wp2_with fail
    refine hK.out _ _ (HS.out _ P14) (fun hHeld => ?_)
    clear hK K
    try simp only [List.getElem_toArray, List.getElem_cons_zero, List.getElem_cons_succ, Act.put, List.setIfInBounds_toArray, List.set_cons_zero, List.set_cons_succ]
    refine wpAnyH_take (i := 14) (v := ?_) rfl (by kernel_rfl) (by kernel_rfl) (by kernel_rfl) (fun _ _ _ h => h) (Or.inl ⟨by rfl, ?_⟩) hHeld ?_
    rotate_left
    · (intro w hSw; (try dsimp only at hSw); have hc0 := hSw.cell 0; have hc1 := hSw.cell 1; have hc2 := hSw.cell 2; have hc3 := hSw.cell 3; have hc4 := hSw.cell 4; have hc5 := hSw.cell 5; simp only [List.getElem?_toArray, List.getElem?_cons_succ, List.getElem?_cons_zero] at hc0 hc1 hc2 hc3 hc4 hc5; go_simp; try with_reducible rfl)
    try simp only [List.getElem_toArray, List.getElem_cons_zero, List.getElem_cons_succ, Act.put, List.setIfInBounds_toArray, List.set_cons_zero, List.set_cons_succ]
    refine wpAnyH_ready (rs := [18]) (by kernel_rfl) (by simp) ?_
    refine AllReadyH.cons rfl (fun K hK => ?_) AllReadyH.nil
    go_simp
    refine (n5.out _).use ?_
    intro v14 e14
    have P15 := below_any (Nat.le_refl _) P14 e14
    go_wp2_with fail
    refine hK.out _ _ (HS.out _ P15) (fun hHeld => ?_)
    clear hK K
    try simp only [List.getElem_toArray, List.getElem_cons_zero, List.getElem_cons_succ, Act.put, List.setIfInBounds_toArray, List.set_cons_zero, List.set_cons_succ]
    refine wpAnyH_take (i := 19) (v := ?_) rfl (by kernel_rfl) (by kernel_rfl) (by kernel_rfl) (fun _ _ _ h => h) (Or.inl ⟨by rfl, ?_⟩) hHeld ?_
    rotate_left
    · (intro w hSw; (try dsimp only at hSw); have hc0 := hSw.cell 0; have hc1 := hSw.cell 1; have hc2 := hSw.cell 2; have hc3 := hSw.cell 3; have hc4 := hSw.cell 4; have hc5 := hSw.cell 5; simp only [List.getElem?_toArray, List.getElem?_cons_succ, List.getElem?_cons_zero] at hc0 hc1 hc2 hc3 hc4 hc5; go_simp; try with_reducible rfl)
    try simp only [List.getElem_toArray, List.getElem_cons_zero, List.getElem_cons_succ, Act.put, List.setIfInBounds_toArray, List.set_cons_zero, List.set_cons_succ]
    refine wpAnyH_take (i := 20) (v := ?_) rfl (by kernel_rfl) (by kernel_rfl) (by kernel_rfl) (fun _ _ _ h => h) (Or.inl ⟨by rfl, ?_⟩) hHeld ?_
    rotate_left
    · (intro w hSw; (try dsimp only at hSw); have hc0 := hSw.cell 0; have hc1 := hSw.cell 1; have hc2 := hSw.cell 2; have hc3 := hSw.cell 3; have hc4 := hSw.cell 4; have hc5 := hSw.cell 5; simp only [List.getElem?_toArray, List.getElem?_cons_succ, List.getElem?_cons_zero] at hc0 hc1 hc2 hc3 hc4 hc5; go_simp; try with_reducible rfl)
    try simp only [List.getElem_toArray, List.getElem_cons_zero, List.getElem_cons_succ, Act.put, List.setIfInBounds_toArray, List.set_cons_zero, List.set_cons_succ]
    refine wpAnyH_done (by kernel_rfl) ?_ _
    have Q15 := HS.out _ P15
    have B15 := below_any (Nat.le_refl _) hw1 P15
    obtain ⟨hd, hhd⟩ : ∃ hd, vput e ++ (vput off ++ (vput n ++ (vput gen ++ vput found.length))) = hd := ⟨_, rfl⟩
    have lhd : hd.length ≤ 50 := by
      rw [← hhd]; simp only [List.length_append]; omega
    rw [hhd] at hR
    clear g1 g2 g3 g4 v1 v2 v3 v4 v5 n1 n2 n3 n4 n5 P10 P11 P12 P13 P14 P15 e10 e11 e12 e13 e14 HS Q10 hw1
    obtain ⟨kx, x0, x1, x2, x3, x4, x5⟩ := arr6_cells Q15
    go_wp2_with fail
    clear kx x0 x1 x2 x3 x4 x5
    go_loopw [5, 6] (fun (v5 v6 : Value) (wr : World) => ∃ (k : Nat) (t : List UInt8), k ≤ found.length ∧ v6 = .int .i64 (k : Int) ∧ v5 = .string (S t) ∧ Hid (t = hd ++ (found.take k).flatMap fndText) ∧ Below w.heap.size w wr ∧ Blk wr w.heap.size #[.int .i64 (e : Nat), .int .i64 (off : Nat), .int .i64 (n : Nat), .int .i64 (gen : Nat), .slice fa found.length fc, .slice pa parts.length pc] 38) (fun (v5 v6 : Value) (wr : World) => (found.length - intOf v6).toNat)
    case atStart => exact ⟨0, hd, by omega, rfl, by rw [← hhd], Lib.hid (by simp), B15, Q15⟩
    case round =>
      clear B15 Q15 hhd
      obtain ⟨k, t, hk, rfl, rfl, hT, hB, hQ⟩ := hrel
      have HB := Lib.hid hB
      have HQ := Lib.hid hQ
      obtain ⟨kx, x0, x1, x2, x3, x4, x5⟩ := arr6_cells hQ
      clear hB hQ
      have htl : t.length ≤ 50 + 2100 * 64 := by
        have h1 := flatMap_le fndText 2100 (found.take k) (fun f hf => fndText_le (HO5.out.2 f (List.mem_of_mem_take hf)).2)
        rw [hT.out, List.length_append]
        rw [List.length_take] at h1
        have : 2100 * min k found.length ≤ 2100 * 64 := Nat.mul_le_mul_left _ (by omega)
        omega
      by_cases hkl : k < found.length
      · obtain ⟨b, o, hae, hbl, hc⟩ : ∃ b o, fa = some ⟨b, o, none⟩ ∧ b < wr.heap.size ∧ FndAt wr b (o + k * 5) found[k] := by
          rcases HF.out _ HB.out with ⟨h0, _⟩ | ⟨b, o, cap, he, _, _, hl, hc⟩
          · subst h0; simp at hkl
          · simp only [Value.slice.injEq] at he
            exact ⟨b, o, he.1, hl, hc k hkl⟩
        subst hae
        have hsn := flatMap_snoc found k hkl fndText
        obtain ⟨hno, hrk⟩ := HO5.out.2 found[k] (List.getElem_mem hkl)
        have hle := fndText_le hrk
        generalize found[k] = f at *
        obtain ⟨fo, fk, fkey, ft, fval⟩ := f
        dsimp only at hno
        obtain ⟨fo, rfl, hfo⟩ := numB_ex hno
        have n1 := Lib.hid (fun w => rnum_put fo w hfo)
        obtain ⟨hr1, hr2⟩ := rok_bd hrk
        have hr3 := rcheck_ok hrk
        dsimp only at hr1 hr2 hr3
        have n2 := Lib.hid (fun w => r3text_any fk ft fkey fval w (by omega) (by omega))
        have hft : fndText ⟨(fo : Nat), ⟨fk, fkey, ft, fval⟩⟩ = vput fo ++ rtext fk fkey ft fval := by simp [fndText, Rec.text]
        rw [hft] at hsn hle
        rw [List.length_append] at hle
        generalize rtext fk fkey ft fval = tx at *
        have hn : Hid (t ++ (vput fo ++ tx) = hd ++ (found.take (k + 1)).flatMap fndText) := Lib.hid (by rw [hsn, hT.out, List.append_assoc])
        have g1 : ¬ 9223372036854775807 < (vput fo).length + tx.length := by omega
        have g2 : ¬ 9223372036854775807 < t.length + ((vput fo).length + tx.length) := by omega
        have i1 : (0 : Int) ≤ (k : Int) := by omega
        have i2 : (k : Int) < (found.length : Int) := by omega
        have HS := Lib.hid (fun W (hW : Below wr.heap.size wr W) => And.intro ((hW.cell (p := ⟨w.heap.size, 4, none⟩) kx).trans x4) (hc.below hbl hW))
        clear hsn hft hle hT hno hrk hr1 hr2 hr3 hfo hc htl
        go_upto_region 8 with fail
        have P10 : Below wr.heap.size wr wr.drew := (Below.refl _ _).drew
        refine wp_region_held_drew (S := (fun w' => w'.cell? ⟨w.heap.size, 4, none⟩ = some (.slice (some ⟨b, o, none⟩) found.length fc) ∧ FndAt w' b (o + k * 5) ⟨(fo : Nat), ⟨fk, fkey, ft, fval⟩⟩)) (by kernel_rfl) (HS.out _ P10) (fun hHeld => ?_)
        refine wpAnyH_take (i := 0) (v := ?_) rfl (by kernel_rfl) (by kernel_rfl) (by kernel_rfl) (fun _ _ _ h => h) (Or.inl ⟨by rfl, ?_⟩) hHeld ?_
        rotate_left
        · (intro w hSw; (try dsimp only at hSw); obtain ⟨hs0, hs1, hs2, hs3, hs4, hs5⟩ := hSw; dsimp only at hs1 hs2 hs3 hs4 hs5; go_simp; try with_reducible rfl)
        try simp only [List.getElem_toArray, List.getElem_cons_zero, List.getElem_cons_succ, Act.put, List.setIfInBounds_toArray, List.set_cons_zero, List.set_cons_succ]
        refine wpAnyH_take (i := 1) (v := ?_) rfl (by kernel_rfl) (by kernel_rfl) (by kernel_rfl) (fun _ _ _ h => h) (Or.inl ⟨by rfl, ?_⟩) hHeld ?_
        rotate_left
        · (intro w hSw; (try dsimp only at hSw); obtain ⟨hs0, hs1, hs2, hs3, hs4, hs5⟩ := hSw; dsimp only at hs1 hs2 hs3 hs4 hs5; go_simp; try with_reducible rfl)
        try simp only [List.getElem_toArray, List.getElem_cons_zero, List.getElem_cons_succ, Act.put, List.setIfInBounds_toArray, List.set_cons_zero, List.set_cons_succ]
        refine wpAnyH_take (i := 2) (v := ?_) rfl (by kernel_rfl) (by kernel_rfl) (by kernel_rfl) (fun _ _ _ h => h) (Or.inl ⟨by rfl, ?_⟩) hHeld ?_
        rotate_left
        · (intro w hSw; (try dsimp only at hSw); obtain ⟨hs0, hs1, hs2, hs3, hs4, hs5⟩ := hSw; dsimp only at hs1 hs2 hs3 hs4 hs5; go_simp; try with_reducible rfl)
        try simp only [List.getElem_toArray, List.getElem_cons_zero, List.getElem_cons_succ, Act.put, List.setIfInBounds_toArray, List.set_cons_zero, List.set_cons_succ]
        refine wpAnyH_take (i := 3) (v := ?_) rfl (by kernel_rfl) (by kernel_rfl) (by kernel_rfl) (fun _ _ _ h => h) (Or.inl ⟨by rfl, ?_⟩) hHeld ?_
        rotate_left
        · (intro w hSw; (try dsimp only at hSw); obtain ⟨hs0, hs1, hs2, hs3, hs4, hs5⟩ := hSw; dsimp only at hs1 hs2 hs3 hs4 hs5; go_simp; try with_reducible rfl)
        try simp only [List.getElem_toArray, List.getElem_cons_zero, List.getElem_cons_succ, Act.put, List.setIfInBounds_toArray, List.set_cons_zero, List.set_cons_succ]
        refine wpAnyH_take (i := 4) (v := ?_) rfl (by kernel_rfl) (by kernel_rfl) (by kernel_rfl) (fun _ _ _ h => h) (Or.inl ⟨by rfl, ?_⟩) hHeld ?_
        rotate_left
        · (intro w hSw; (try dsimp only at hSw); obtain ⟨hs0, hs1, hs2, hs3, hs4, hs5⟩ := hSw; dsimp only at hs1 hs2 hs3 hs4 hs5; go_simp; try with_reducible rfl)
        try simp only [List.getElem_toArray, List.getElem_cons_zero, List.getElem_cons_succ, Act.put, List.setIfInBounds_toArray, List.set_cons_zero, List.set_cons_succ]
        refine wpAnyH_take (i := 5) (v := ?_) rfl (by kernel_rfl) (by kernel_rfl) (by kernel_rfl) (fun _ _ _ h => h) (Or.inl ⟨by rfl, ?_⟩) hHeld ?_
        rotate_left
        · (intro w hSw; (try dsimp only at hSw); obtain ⟨hs0, hs1, hs2, hs3, hs4, hs5⟩ := hSw; dsimp only at hs1 hs2 hs3 hs4 hs5; go_simp; try with_reducible rfl)
        try simp only [List.getElem_toArray, List.getElem_cons_zero, List.getElem_cons_succ, Act.put, List.setIfInBounds_toArray, List.set_cons_zero, List.set_cons_succ]
        refine wpAnyH_take (i := 6) (v := ?_) rfl (by kernel_rfl) (by kernel_rfl) (by kernel_rfl) (fun _ _ _ h => h) (Or.inl ⟨by rfl, ?_⟩) hHeld ?_
        rotate_left
        · (intro w hSw; (try dsimp only at hSw); obtain ⟨hs0, hs1, hs2, hs3, hs4, hs5⟩ := hSw; dsimp only at hs1 hs2 hs3 hs4 hs5; go_simp; try with_reducible rfl)
        try simp only [List.getElem_toArray, List.getElem_cons_zero, List.getElem_cons_succ, Act.put, List.setIfInBounds_toArray, List.set_cons_zero, List.set_cons_succ]
        refine wpAnyH_take (i := 8) (v := ?_) rfl (by kernel_rfl) (by kernel_rfl) (by kernel_rfl) (fun _ _ _ h => h) (Or.inl ⟨by rfl, ?_⟩) hHeld ?_
        rotate_left
        · (intro w hSw; (try dsimp only at hSw); obtain ⟨hs0, hs1, hs2, hs3, hs4, hs5⟩ := hSw; dsimp only at hs1 hs2 hs3 hs4 hs5; go_simp; try with_reducible rfl)
        try simp only [List.getElem_toArray, List.getElem_cons_zero, List.getElem_cons_succ, Act.put, List.setIfInBounds_toArray, List.set_cons_zero, List.set_cons_succ]
        refine wpAnyH_take (i := 9) (v := ?_) rfl (by kernel_rfl) (by kernel_rfl) (by kernel_rfl) (fun _ _ _ h => h) (Or.inl ⟨by rfl, ?_⟩) hHeld ?_
        rotate_left
        · (intro w hSw; (try dsimp only at hSw); obtain ⟨hs0, hs1, hs2, hs3, hs4, hs5⟩ := hSw; dsimp only at hs1 hs2 hs3 hs4 hs5; go_simp; try with_reducible rfl)
        try simp only [List.getElem_toArray, List.getElem_cons_zero, List.getElem_cons_succ, Act.put, List.setIfInBounds_toArray, List.set_cons_zero, List.set_cons_succ]
        refine wpAnyH_take (i := 10) (v := ?_) rfl (by kernel_rfl) (by kernel_rfl) (by kernel_rfl) (fun _ _ _ h => h) (Or.inl ⟨by rfl, ?_⟩) hHeld ?_
        rotate_left
        · (intro w hSw; (try dsimp only at hSw); obtain ⟨hs0, hs1, hs2, hs3, hs4, hs5⟩ := hSw; dsimp only at hs1 hs2 hs3 hs4 hs5; go_simp; try with_reducible rfl)
        try simp only [List.getElem_toArray, List.getElem_cons_zero, List.getElem_cons_succ, Act.put, List.setIfInBounds_toArray, List.set_cons_zero, List.set_cons_succ]
        refine wpAnyH_take (i := 11) (v := ?_) rfl (by kernel_rfl) (by kernel_rfl) (by kernel_rfl) (fun _ _ _ h => h) (Or.inl ⟨by rfl, ?_⟩) hHeld ?_
        rotate_left
        · (intro w hSw; (try dsimp only at hSw); obtain ⟨hs0, hs1, hs2, hs3, hs4, hs5⟩ := hSw; dsimp only at hs1 hs2 hs3 hs4 hs5; go_simp; try with_reducible rfl)
        try simp only [List.getElem_toArray, List.getElem_cons_zero, List.getElem_cons_succ, Act.put, List.setIfInBounds_toArray, List.set_cons_zero, List.set_cons_succ]
        refine wpAnyH_take (i := 12) (v := ?_) rfl (by kernel_rfl) (by kernel_rfl) (by kernel_rfl) (fun _ _ _ h => h) (Or.inl ⟨by rfl, ?_⟩) hHeld ?_
        rotate_left
        · (intro w hSw; (try dsimp only at hSw); obtain ⟨hs0, hs1, hs2, hs3, hs4, hs5⟩ := hSw; dsimp only at hs1 hs2 hs3 hs4 hs5; go_simp; try with_reducible rfl)
        try simp only [List.getElem_toArray, List.getElem_cons_zero, List.getElem_cons_succ, Act.put, List.setIfInBounds_toArray, List.set_cons_zero, List.set_cons_succ]
        refine wpAnyH_take (i := 13) (v := ?_) rfl (by kernel_rfl) (by kernel_rfl) (by kernel_rfl) (fun _ _ _ h => h) (Or.inl ⟨by rfl, ?_⟩) hHeld ?_
        rotate_left
        · (intro w hSw; (try dsimp only at hSw); obtain ⟨hs0, hs1, hs2, hs3, hs4, hs5⟩ := hSw; dsimp only at hs1 hs2 hs3 hs4 hs5; go_simp; try with_reducible rfl)
        try simp only [List.getElem_toArray, List.getElem_cons_zero, List.getElem_cons_succ, Act.put, List.setIfInBounds_toArray, List.set_cons_zero, List.set_cons_succ]
        refine wpAnyH_ready (rs := [7]) (by kernel_rfl) (by simp) ?_
        refine AllReadyH.cons rfl (fun K hK => ?_) AllReadyH.nil
        go_simp
        refine (n1.out _).use ?_
        intro v10 e10
        have P11 := below_any (Nat.le_refl _) P10 e10
        go_wp2_with fail
        refine hK.out _ _ (HS.out _ P11) (fun hHeld => ?_)
        clear hK K
        try simp only [List.getElem_toArray, List.getElem_cons_zero, List.getElem_cons_succ, Act.put, List.setIfInBounds_toArray, List.set_cons_zero, List.set_cons_succ]
        refine wpAnyH_ready (rs := [14]) (by kernel_rfl) (by simp) ?_
        refine AllReadyH.cons rfl (fun K hK => ?_) AllReadyH.nil
        go_simp
        refine (n2.out _).use ?_
        intro v11 e11
        have P12 := below_any (Nat.le_refl _) P11 e11
        go_wp2_with fail
        refine hK.out _ _ (HS.out _ P12) (fun hHeld => ?_)
        clear hK K
        try simp only [List.getElem_toArray, List.getElem_cons_zero, List.getElem_cons_succ, Act.put, List.setIfInBounds_toArray, List.set_cons_zero, List.set_cons_succ]
        refine wpAnyH_take (i := 15) (v := ?_) rfl (by kernel_rfl) (by kernel_rfl) (by kernel_rfl) (fun _ _ _ h => h) (Or.inl ⟨by rfl, ?_⟩) hHeld ?_
        rotate_left
        · (intro w hSw; (try dsimp only at hSw); obtain ⟨hs0, hs1, hs2, hs3, hs4, hs5⟩ := hSw; dsimp only at hs1 hs2 hs3 hs4 hs5; go_simp; try with_reducible rfl)
        try simp only [List.getElem_toArray, List.getElem_cons_zero, List.getElem_cons_succ, Act.put, List.setIfInBounds_toArray, List.set_cons_zero, List.set_cons_succ]
        refine wpAnyH_take (i := 16) (v := ?_) rfl (by kernel_rfl) (by kernel_rfl) (by kernel_rfl) (fun _ _ _ h => h) (Or.inl ⟨by rfl, ?_⟩) hHeld ?_
        rotate_left
        · (intro w hSw; (try dsimp only at hSw); obtain ⟨hs0, hs1, hs2, hs3, hs4, hs5⟩ := hSw; dsimp only at hs1 hs2 hs3 hs4 hs5; go_simp; try with_reducible rfl)
        try simp only [List.getElem_toArray, List.getElem_cons_zero, List.getElem_cons_succ, Act.put, List.setIfInBounds_toArray, List.set_cons_zero, List.set_cons_succ]
        refine wpAnyH_take (i := 17) (v := ?_) rfl (by kernel_rfl) (by kernel_rfl) (by kernel_rfl) (fun _ _ _ h => h) (Or.inl ⟨by rfl, ?_⟩) hHeld ?_
        rotate_left
        · (intro w hSw; (try dsimp only at hSw); obtain ⟨hs0, hs1, hs2, hs3, hs4, hs5⟩ := hSw; dsimp only at hs1 hs2 hs3 hs4 hs5; go_simp; try with_reducible rfl)
        try simp only [List.getElem_toArray, List.getElem_cons_zero, List.getElem_cons_succ, Act.put, List.setIfInBounds_toArray, List.set_cons_zero, List.set_cons_succ]
        refine wpAnyH_done (by kernel_rfl) ?_ _
        go_wp2_with fail
        go_roundw
        case rel => exact ⟨k + 1, _, by omega, by go_num, rfl, hn, below_any (Nat.le_refl _) HB.out P12, HQ.out.below P12⟩
        case measure => simp [intOf]; omega
      · have hle : found.length ≤ k := by omega
        have hT2 : Hid (t = hd ++ found.flatMap fndText) := Lib.hid (by have h := hT.out; rwa [List.take_of_length_le hle] at h)
        have g1 : ¬ 9223372036854775807 < t.length + (vput parts.length).length := by omega
        clear hT
        go_wp2_with fail
        refine (n6.out _).use ?_
        intro w2 c2
        have B2 := below_any (Nat.le_refl _) HB.out c2
        have Q2 := HQ.out.below c2
        clear c2 kx x0 x1 x2 x3 x4 x5 HB HQ n6
        obtain ⟨kx, x0, x1, x2, x3, x4, x5⟩ := arr6_cells Q2
        obtain ⟨h2, hh2⟩ : ∃ h2, t ++ vput parts.length = h2 := ⟨_, rfl⟩
        have hR2 := Lib.hid (fun (W : World) (hW : Below w.heap.size w W) => (show R (.returned (.tuple #[.string (S (h2 ++ parts.flatMap prtText)), .int .i64 (0 : Nat)])) W from by
          have h := hR.out W hW
          rw [← hh2, hT2.out]
          simpa only [List.append_assoc] using h))
        have lh2 : h2.length ≤ 200 + 2100 * 64 := by rw [← hh2, List.length_append]; omega
        clear hR hT2 htl
        go_wp2_with fail
        try rw [hh2]
        clear hh2 g1 kx x0 x1 x2 x3 x4 x5
        go_loopw [5, 7] (fun (v5 v7 : Value) (wr : World) => ∃ (k : Nat) (t : List UInt8), k ≤ parts.length ∧ v7 = .int .i64 (k : Int) ∧ v5 = .string (S t) ∧ Hid (t = h2 ++ (parts.take k).flatMap prtText) ∧ Below w.heap.size w wr ∧ Blk wr w.heap.size #[.int .i64 (e : Nat), .int .i64 (off : Nat), .int .i64 (n : Nat), .int .i64 (gen : Nat), .slice fa found.length fc, .slice pa parts.length pc] 38) (fun (v5 v7 : Value) (wr : World) => (parts.length - intOf v7).toNat)
        case atStart => exact ⟨0, h2, by omega, rfl, rfl, Lib.hid (by simp), B2, Q2⟩
        case round =>
          clear B2 Q2
          obtain ⟨k2, t, hk, rfl, rfl, hT, hB, hQ⟩ := hrel
          have HB := Lib.hid hB
          have HQ := Lib.hid hQ
          obtain ⟨kx, x0, x1, x2, x3, x4, x5⟩ := arr6_cells hQ
          clear hB hQ
          have htl : t.length ≤ 200 + 2100 * 64 + 100 * 64 := by
            have h1 := flatMap_le prtText 100 (parts.take k2) (fun f hf => prtText_le (HO6.out.2 f (List.mem_of_mem_take hf)).2)
            rw [hT.out, List.length_append]
            rw [List.length_take] at h1
            have : 100 * min k2 parts.length ≤ 100 * 64 := Nat.mul_le_mul_left _ (by omega)
            omega
          by_cases hkl : k2 < parts.length
          · obtain ⟨b, o, hae, hbl, hc⟩ : ∃ b o, pa = some ⟨b, o, none⟩ ∧ b < wr.heap.size ∧ PartAt wr b (o + k2 * 2) parts[k2] := by
              rcases HP.out _ HB.out with ⟨h0, _⟩ | ⟨b, o, cap, he, _, hl, hc⟩
              · subst h0; simp at hkl
              · simp only [Value.slice.injEq] at he
                exact ⟨b, o, he.1, hl, hc k2 hkl⟩
            subst hae
            have hsn := flatMap_snoc parts k2 hkl prtText
            obtain ⟨hno, hrk⟩ := HO6.out.2 parts[k2] (List.getElem_mem hkl)
            have hle := prtText_le hrk
            generalize parts[k2] = f at *
            obtain ⟨pt, pn⟩ := f
            dsimp only at hno hrk
            obtain ⟨pn, rfl, hfo⟩ := numB_ex hno
            have hl16 := isName_le hrk
            have n1 := Lib.hid (fun w => rtext_any pt w (by omega))
            have n2 := Lib.hid (fun w => rnum_put pn w hfo)
            have hft : prtText (pt, ((pn : Nat) : Int)) = vtxt pt ++ vput pn := by simp [prtText]
            rw [hft] at hsn hle
            rw [List.length_append] at hle
            have hn : Hid (t ++ (vtxt pt ++ vput pn) = h2 ++ (parts.take (k2 + 1)).flatMap prtText) := Lib.hid (by rw [hsn, hT.out, List.append_assoc])
            have g1 : ¬ 9223372036854775807 < (vtxt pt).length + (vput pn).length := by omega
            have g2 : ¬ 9223372036854775807 < t.length + ((vtxt pt).length + (vput pn).length) := by omega
            have i1 : (0 : Int) ≤ (k2 : Int) := by omega
            have i2 : (k2 : Int) < (parts.length : Int) := by omega
            have HS := Lib.hid (fun W (hW : Below wr.heap.size wr W) => And.intro ((hW.cell (p := ⟨w.heap.size, 5, none⟩) kx).trans x5) (hc.below hbl hW))
            clear hsn hft hle hT hno hrk hl16 hfo hc htl
            go_upto_region 13 with fail
            have P10 : Below wr.heap.size wr wr.drew := (Below.refl _ _).drew
            refine wp_region_held_drew (S := (fun w' => w'.cell? ⟨w.heap.size, 5, none⟩ = some (.slice (some ⟨b, o, none⟩) parts.length pc) ∧ PartAt w' b (o + k2 * 2) (pt, ((pn : Nat) : Int)))) (by kernel_rfl) (HS.out _ P10) (fun hHeld => ?_)
            refine wpAnyH_take (i := 0) (v := ?_) rfl (by kernel_rfl) (by kernel_rfl) (by kernel_rfl) (fun _ _ _ h => h) (Or.inl ⟨by rfl, ?_⟩) hHeld ?_
            rotate_left
            · (intro w hSw; (try dsimp only at hSw); obtain ⟨hs0, hs1, hs2⟩ := hSw; dsimp only at hs1 hs2; go_simp; try with_reducible rfl)
            try simp only [List.getElem_toArray, List.getElem_cons_zero, List.getElem_cons_succ, Act.put, List.setIfInBounds_toArray, List.set_cons_zero, List.set_cons_succ]
            refine wpAnyH_take (i := 1) (v := ?_) rfl (by kernel_rfl) (by kernel_rfl) (by kernel_rfl) (fun _ _ _ h => h) (Or.inl ⟨by rfl, ?_⟩) hHeld ?_
            rotate_left
            · (intro w hSw; (try dsimp only at hSw); obtain ⟨hs0, hs1, hs2⟩ := hSw; dsimp only at hs1 hs2; go_simp; try with_reducible rfl)
            try simp only [List.getElem_toArray, List.getElem_cons_zero, List.getElem_cons_succ, Act.put, List.setIfInBounds_toArray, List.set_cons_zero, List.set_cons_succ]
            refine wpAnyH_take (i := 2) (v := ?_) rfl (by kernel_rfl) (by kernel_rfl) (by kernel_rfl) (fun _ _ _ h => h) (Or.inl ⟨by rfl, ?_⟩) hHeld ?_
            rotate_left
            · (intro w hSw; (try dsimp only at hSw); obtain ⟨hs0, hs1, hs2⟩ := hSw; dsimp only at hs1 hs2; go_simp; try with_reducible rfl)
            try simp only [List.getElem_toArray, List.getElem_cons_zero, List.getElem_cons_succ, Act.put, List.setIfInBounds_toArray, List.set_cons_zero, List.set_cons_succ]
            refine wpAnyH_take (i := 3) (v := ?_) rfl (by kernel_rfl) (by kernel_rfl) (by kernel_rfl) (fun _ _ _ h => h) (Or.inl ⟨by rfl, ?_⟩) hHeld ?_
            rotate_left
            · (intro w hSw; (try dsimp only at hSw); obtain ⟨hs0, hs1, hs2⟩ := hSw; dsimp only at hs1 hs2; go_simp; try with_reducible rfl)
            try simp only [List.getElem_toArray, List.getElem_cons_zero, List.getElem_cons_succ, Act.put, List.setIfInBounds_toArray, List.set_cons_zero, List.set_cons_succ]
            refine wpAnyH_take (i := 4) (v := ?_) rfl (by kernel_rfl) (by kernel_rfl) (by kernel_rfl) (fun _ _ _ h => h) (Or.inl ⟨by rfl, ?_⟩) hHeld ?_
            rotate_left
            · (intro w hSw; (try dsimp only at hSw); obtain ⟨hs0, hs1, hs2⟩ := hSw; dsimp only at hs1 hs2; go_simp; try with_reducible rfl)
            try simp only [List.getElem_toArray, List.getElem_cons_zero, List.getElem_cons_succ, Act.put, List.setIfInBounds_toArray, List.set_cons_zero, List.set_cons_succ]
            refine wpAnyH_take (i := 5) (v := ?_) rfl (by kernel_rfl) (by kernel_rfl) (by kernel_rfl) (fun _ _ _ h => h) (Or.inl ⟨by rfl, ?_⟩) hHeld ?_
            rotate_left
            · (intro w hSw; (try dsimp only at hSw); obtain ⟨hs0, hs1, hs2⟩ := hSw; dsimp only at hs1 hs2; go_simp; try with_reducible rfl)
            try simp only [List.getElem_toArray, List.getElem_cons_zero, List.getElem_cons_succ, Act.put, List.setIfInBounds_toArray, List.set_cons_zero, List.set_cons_succ]
            refine wpAnyH_take (i := 6) (v := ?_) rfl (by kernel_rfl) (by kernel_rfl) (by kernel_rfl) (fun _ _ _ h => h) (Or.inl ⟨by rfl, ?_⟩) hHeld ?_
            rotate_left
            · (intro w hSw; (try dsimp only at hSw); obtain ⟨hs0, hs1, hs2⟩ := hSw; dsimp only at hs1 hs2; go_simp; try with_reducible rfl)
            try simp only [List.getElem_toArray, List.getElem_cons_zero, List.getElem_cons_succ, Act.put, List.setIfInBounds_toArray, List.set_cons_zero, List.set_cons_succ]
            refine wpAnyH_take (i := 8) (v := ?_) rfl (by kernel_rfl) (by kernel_rfl) (by kernel_rfl) (fun _ _ _ h => h) (Or.inl ⟨by rfl, ?_⟩) hHeld ?_
            rotate_left
            · (intro w hSw; (try dsimp only at hSw); obtain ⟨hs0, hs1, hs2⟩ := hSw; dsimp only at hs1 hs2; go_simp; try with_reducible rfl)
            try simp only [List.getElem_toArray, List.getElem_cons_zero, List.getElem_cons_succ, Act.put, List.setIfInBounds_toArray, List.set_cons_zero, List.set_cons_succ]
            refine wpAnyH_take (i := 9) (v := ?_) rfl (by kernel_rfl) (by kernel_rfl) (by kernel_rfl) (fun _ _ _ h => h) (Or.inl ⟨by rfl, ?_⟩) hHeld ?_
            rotate_left
            · (intro w hSw; (try dsimp only at hSw); obtain ⟨hs0, hs1, hs2⟩ := hSw; dsimp only at hs1 hs2; go_simp; try with_reducible rfl)
            try simp only [List.getElem_toArray, List.getElem_cons_zero, List.getElem_cons_succ, Act.put, List.setIfInBounds_toArray, List.set_cons_zero, List.set_cons_succ]
            refine wpAnyH_take (i := 10) (v := ?_) rfl (by kernel_rfl) (by kernel_rfl) (by kernel_rfl) (fun _ _ _ h => h) (Or.inl ⟨by rfl, ?_⟩) hHeld ?_
            rotate_left
            · (intro w hSw; (try dsimp only at hSw); obtain ⟨hs0, hs1, hs2⟩ := hSw; dsimp only at hs1 hs2; go_simp; try with_reducible rfl)
            try simp only [List.getElem_toArray, List.getElem_cons_zero, List.getElem_cons_succ, Act.put, List.setIfInBounds_toArray, List.set_cons_zero, List.set_cons_succ]
            refine wpAnyH_take (i := 11) (v := ?_) rfl (by kernel_rfl) (by kernel_rfl) (by kernel_rfl) (fun _ _ _ h => h) (Or.inl ⟨by rfl, ?_⟩) hHeld ?_
            rotate_left
            · (intro w hSw; (try dsimp only at hSw); obtain ⟨hs0, hs1, hs2⟩ := hSw; dsimp only at hs1 hs2; go_simp; try with_reducible rfl)
            try simp only [List.getElem_toArray, List.getElem_cons_zero, List.getElem_cons_succ, Act.put, List.setIfInBounds_toArray, List.set_cons_zero, List.set_cons_succ]
            refine wpAnyH_take (i := 12) (v := ?_) rfl (by kernel_rfl) (by kernel_rfl) (by kernel_rfl) (fun _ _ _ h => h) (Or.inl ⟨by rfl, ?_⟩) hHeld ?_
            rotate_left
            · (intro w hSw; (try dsimp only at hSw); obtain ⟨hs0, hs1, hs2⟩ := hSw; dsimp only at hs1 hs2; go_simp; try with_reducible rfl)
            try simp only [List.getElem_toArray, List.getElem_cons_zero, List.getElem_cons_succ, Act.put, List.setIfInBounds_toArray, List.set_cons_zero, List.set_cons_succ]
            refine wpAnyH_take (i := 13) (v := ?_) rfl (by kernel_rfl) (by kernel_rfl) (by kernel_rfl) (fun _ _ _ h => h) (Or.inl ⟨by rfl, ?_⟩) hHeld ?_
            rotate_left
            · (intro w hSw; (try dsimp only at hSw); obtain ⟨hs0, hs1, hs2⟩ := hSw; dsimp only at hs1 hs2; go_simp; try with_reducible rfl)
            try simp only [List.getElem_toArray, List.getElem_cons_zero, List.getElem_cons_succ, Act.put, List.setIfInBounds_toArray, List.set_cons_zero, List.set_cons_succ]
            refine wpAnyH_ready (rs := [7]) (by kernel_rfl) (by simp) ?_
            refine AllReadyH.cons rfl (fun K hK => ?_) AllReadyH.nil
            go_simp
            refine (n1.out _).use ?_
            intro v10 e10
            have P11 := below_any (Nat.le_refl _) P10 e10
            go_wp2_with fail
            refine hK.out _ _ (HS.out _ P11) (fun hHeld => ?_)
            clear hK K
            try simp only [List.getElem_toArray, List.getElem_cons_zero, List.getElem_cons_succ, Act.put, List.setIfInBounds_toArray, List.set_cons_zero, List.set_cons_succ]
            refine wpAnyH_ready (rs := [14]) (by kernel_rfl) (by simp) ?_
            refine AllReadyH.cons rfl (fun K hK => ?_) AllReadyH.nil
            go_simp
            refine (n2.out _).use ?_
            intro v11 e11
            have P12 := below_any (Nat.le_refl _) P11 e11
            go_wp2_with fail
            refine hK.out _ _ (HS.out _ P12) (fun hHeld => ?_)
            clear hK K
            try simp only [List.getElem_toArray, List.getElem_cons_zero, List.getElem_cons_succ, Act.put, List.setIfInBounds_toArray, List.set_cons_zero, List.set_cons_succ]
            refine wpAnyH_take (i := 15) (v := ?_) rfl (by kernel_rfl) (by kernel_rfl) (by kernel_rfl) (fun _ _ _ h => h) (Or.inl ⟨by rfl, ?_⟩) hHeld ?_
            rotate_left
            · (intro w hSw; (try dsimp only at hSw); obtain ⟨hs0, hs1, hs2⟩ := hSw; dsimp only at hs1 hs2; go_simp; try with_reducible rfl)
            try simp only [List.getElem_toArray, List.getElem_cons_zero, List.getElem_cons_succ, Act.put, List.setIfInBounds_toArray, List.set_cons_zero, List.set_cons_succ]
            refine wpAnyH_take (i := 16) (v := ?_) rfl (by kernel_rfl) (by kernel_rfl) (by kernel_rfl) (fun _ _ _ h => h) (Or.inl ⟨by rfl, ?_⟩) hHeld ?_
            rotate_left
            · (intro w hSw; (try dsimp only at hSw); obtain ⟨hs0, hs1, hs2⟩ := hSw; dsimp only at hs1 hs2; go_simp; try with_reducible rfl)
            try simp only [List.getElem_toArray, List.getElem_cons_zero, List.getElem_cons_succ, Act.put, List.setIfInBounds_toArray, List.set_cons_zero, List.set_cons_succ]
            refine wpAnyH_take (i := 17) (v := ?_) rfl (by kernel_rfl) (by kernel_rfl) (by kernel_rfl) (fun _ _ _ h => h) (Or.inl ⟨by rfl, ?_⟩) hHeld ?_
            rotate_left
            · (intro w hSw; (try dsimp only at hSw); obtain ⟨hs0, hs1, hs2⟩ := hSw; dsimp only at hs1 hs2; go_simp; try with_reducible rfl)
            try simp only [List.getElem_toArray, List.getElem_cons_zero, List.getElem_cons_succ, Act.put, List.setIfInBounds_toArray, List.set_cons_zero, List.set_cons_succ]
            refine wpAnyH_done (by kernel_rfl) ?_ _
            go_wp2_with fail
            go_roundw
            case rel => exact ⟨k2 + 1, _, by omega, by go_num, rfl, hn, below_any (Nat.le_refl _) HB.out P12, HQ.out.below P12⟩
            case measure => simp [intOf]; omega
          · have hle : parts.length ≤ k2 := by omega
            have hT2 : Hid (t = h2 ++ parts.flatMap prtText) := Lib.hid (by have h := hT.out; rwa [List.take_of_length_le hle] at h)
            clear hT
            go_wp2_with fail
            refine Eq.mp (congrArg (fun x => R (.returned (.tuple #[.string (S x), .int .i64 (0 : Nat)])) _) hT2.out.symm) (hR2.out _ HB.out)
end Go.Proofs.Ythiliodmbipikaa
