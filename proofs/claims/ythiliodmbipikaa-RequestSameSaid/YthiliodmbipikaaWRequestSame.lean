/-
  The walk of RequestSame.
-/
import Derived.Test.YthiliodmbipikaaReqLw
set_option linter.unusedVariables false
set_option linter.unusedSimpArgs false
namespace Go.Proofs.Ythiliodmbipikaa.requestSame
open Go.RowKit
attribute [local go_sem] ByteArray.extract_mk ByteArray.mk_append_mk

set_option maxHeartbeats 8000000 in
set_option maxRecDepth 100000 in
theorem walk {w : World} (c : Cmd) (rv tv : Value) (d : Cmd) (rv1 tv1 : Value) (r : Rep) (fv pv : Value) (hc : CmdArg w c rv tv) (hd : CmdArg w d rv1 tv1) (hr : RepArg w r fv pv) :
    RetB Try.prog 4 #[.agg (c.arr rv tv), .agg (d.arr rv1 tv1), .agg (r.arr fv pv)] w (.bool true) := by
  refine RetB.intro fun R hR => ?_
  have cC := Lib.hid (fun W (hW : Below w.heap.size w W) => cut4 c rv tv W (hc.below hW))
  have cD := Lib.hid (fun W (hW : Below w.heap.size w W) => cut4 d rv1 tv1 W (hd.below hW))
  have cR := Lib.hid (fun W (hW : Below w.heap.size w W) => cutr4 r fv pv W (hr.below hW))
  have hg := bd_i64 hr.gen
  obtain ⟨W0, hW0, B0, X0, Y0, Z0, sz0⟩ := start3 w (c.arr rv tv) (d.arr rv1 tv1) (r.arr fv pv) 29 29 38
  have XX := Lib.hid X0
  have YY := Lib.hid Y0
  have ZZ := Lib.hid Z0
  have SZ := Lib.hid sz0
  have BB := Lib.hid B0
  clear X0 Y0 Z0 sz0 B0 hc hd hr
  dsimp only [Cmd.arr, Rep.arr] at hW0 cC cD cR ⊢
  go_enter Try.func4, Try.ntmps4
  obtain ⟨HX0, kx0, x0, x1, x2, x3, x4, x5, x6, x7, x8, x9, x10, x11, x12, x13⟩ := arr_cells XX.out
  go_wp2_with fail
  try rw [hW0]
  clear hW0 HX0 kx0 x0 x1 x2 x3 x4 x5 x6 x7 x8 x9 x10 x11 x12 x13
  refine (cC.out _ BB.out).use ?_
  intro w1 rv2 tv2 g1
  have bd1 := Lib.hid (cutC_bd c)
  have G1 := Lib.hid g1
  clear g1 cC
  generalize cutC c = c' at bd1 G1 ⊢
  have X1 := XX.out.below G1.out.bel
  obtain ⟨HX1, kx1, x0, x1, x2, x3, x4, x5, x6, x7, x8, x9, x10, x11, x12, x13⟩ := arr_cells X1
  have fx1 : ∀ i, w1.frozen? ⟨w.heap.size, i, none⟩ = false := fun i => Blk.frozen X1 i
  have Y1 := YY.out.below G1.out.bel
  obtain ⟨W1, hW1, s1, k1⟩ := setOp X1 c' rv2 tv2
  have O1 := Lib.hid (OpB.store X1 G1.out.cin (B := w.heap.size + 1 + 1 + 1) (by omega) (fun x hx => by have := G1.out.own1 x hx; have := SZ.out; omega) (fun x hx => by have := G1.out.own2 x hx; have := SZ.out; omega) ⟨s1, k1⟩)
  have Y1' := Lib.hid (Y1.keptR k1 (by simp <;> omega))
  obtain ⟨HY1, ky1, y0, y1, y2, y3, y4, y5, y6, y7, y8, y9, y10, y11, y12, y13⟩ := arr_cells Y1'.out
  have Z1' := Lib.hid ((ZZ.out.below G1.out.bel).keptR k1 (by simp <;> omega))
  have P1 := Lib.hid (k1.toBelow (below_any (Nat.le_refl _) BB.out G1.out.bel) (by simp <;> omega))
  have SZ1 : Hid (w.heap.size + 1 + 1 + 1 ≤ W1.heap.size) := Lib.hid (by have h1 := SZ.out; have h2 := G1.out.bel.size; have h3 := k1.size; omega)
  obtain ⟨ra2, rc2, hrv⟩ := G1.out.cin.recs.form
  obtain ⟨ta2, tc2, htv⟩ := G1.out.cin.tops.form
  subst hrv htv
  clear X1 Y1 s1 k1 HX1 HY1 XX YY ZZ SZ BB G1
  dsimp only [Cmd.arr] at hW1 ⊢
  go_wp2_with fail
  try rw [hW1]
  clear x0 x1 x2 x3 x4 x5 x6 x7 x8 x9 x10 x11 x12 x13 y0 y1 y2 y3 y4 y5 y6 y7 y8 y9 y10 y11 y12 y13 kx1 ky1 fx1 hW1
  refine (cD.out _ P1.out).use ?_
  intro w2 rv3 tv3 g2
  have bd2 := Lib.hid (cutC_bd d)
  have G2 := Lib.hid g2
  clear g2 cD
  generalize cutC d = d' at bd2 G2 ⊢
  have Y2 := Y1'.out.below G2.out.bel
  obtain ⟨HY2, ky2, y0, y1, y2, y3, y4, y5, y6, y7, y8, y9, y10, y11, y12, y13⟩ := arr_cells Y2
  have fy2 : ∀ i, w2.frozen? ⟨w.heap.size + 1, i, none⟩ = false := fun i => Blk.frozen Y2 i
  have Z2 := Z1'.out.below G2.out.bel
  obtain ⟨W2, hW2, s2, k2⟩ := setOp Y2 d' rv3 tv3
  have O2 := Lib.hid ((O1.out.below G2.out.bel).keptR k2 (by simp <;> omega) (by simp <;> omega))
  have Q2 := Lib.hid (OpB.store Y2 G2.out.cin (B := w.heap.size + 1 + 1 + 1) (by omega) (fun x hx => by have := G2.out.own1 x hx; have := SZ1.out; omega) (fun x hx => by have := G2.out.own2 x hx; have := SZ1.out; omega) ⟨s2, k2⟩)
  have Z2' := Lib.hid (Z2.keptR k2 (by simp <;> omega))
  obtain ⟨kz2, z0, z1, z2, z3, z4, z5⟩ := arr6_cells Z2'.out
  have P2 := Lib.hid (k2.toBelow (below_any (Nat.le_refl _) P1.out G2.out.bel) (by simp <;> omega))
  have SZ2 : Hid (w.heap.size + 1 + 1 + 1 ≤ W2.heap.size) := Lib.hid (by have h1 := SZ1.out; have h2 := G2.out.bel.size; have h3 := k2.size; omega)
  obtain ⟨ra3, rc3, hrv⟩ := G2.out.cin.recs.form
  obtain ⟨ta3, tc3, htv⟩ := G2.out.cin.tops.form
  subst hrv htv
  clear Y2 Z2 s2 k2 HY2 SZ1 P1 O1 Y1' Z1' G2
  dsimp only [Cmd.arr] at hW2 ⊢
  go_wp2_with fail
  try rw [hW2]
  clear y0 y1 y2 y3 y4 y5 y6 y7 y8 y9 y10 y11 y12 y13 z0 z1 z2 z3 z4 z5 ky2 kz2 fy2 hW2
  refine (cR.out _ P2.out).use ?_
  intro w3 fv4 pv4 g3
  have bd3 := Lib.hid (cutRep_bd r)
  have hne := Lib.hid (show IntKind.i64.wrap ((cutRep r).gen + 1) ≠ (cutRep r).gen from i64_next hg)
  have G3 := Lib.hid g3
  clear g3 cR hg
  generalize cutRep r = r' at bd3 hne G3 ⊢
  have Z3 := Z2'.out.below G3.out.bel
  obtain ⟨kz3, z0, z1, z2, z3, z4, z5⟩ := arr6_cells Z3
  have fz3 : ∀ i, w3.frozen? ⟨w.heap.size + 1 + 1, i, none⟩ = false := fun i => Blk.frozen Z3 i
  obtain ⟨W3, hW3, s3, k3⟩ := setRep Z3 r' fv4 pv4
  have O3 := Lib.hid ((O2.out.below G3.out.bel).keptR k3 (by simp <;> omega) (by simp <;> omega))
  have Q3 := Lib.hid ((Q2.out.below G3.out.bel).keptR k3 (by simp <;> omega) (by simp <;> omega))
  have R3 := Lib.hid (RepB.store G3.out.rin (B := w.heap.size + 1 + 1 + 1) (by omega) (fun x hx => by have := G3.out.own1 x hx; have := SZ2.out; omega) (fun x hx => by have := G3.out.own2 x hx; have := SZ2.out; omega) ⟨s3, k3⟩)
  have P3 := Lib.hid (k3.toBelow (below_any (Nat.le_refl _) P2.out G3.out.bel) (by simp <;> omega))
  obtain ⟨fa4, fc4, hfv⟩ := G3.out.rin.found.form
  obtain ⟨pa4, pc4, hpv⟩ := G3.out.rin.parts.form
  subst hfv hpv
  clear Z3 s3 k3 SZ2 P2 O2 Q2 Z2' G3
  dsimp only [Rep.arr] at hW3 ⊢
  obtain ⟨G, hG⟩ : ∃ G, IntKind.i64.wrap (r'.gen + 1) = G := ⟨_, rfl⟩
  obtain ⟨W4, hW4, B4, V4, sz4⟩ := start1 W3 (({ r' with gen := G } : Rep).arr (.slice fa4 r'.found.length fc4) (.slice pa4 r'.parts.length pc4)) 38
  have VV := Lib.hid V4
  have O4 := Lib.hid (O3.out.below B4)
  have Q4 := Lib.hid (Q3.out.below B4)
  have R4 := Lib.hid (R3.out.below B4)
  have P4 := Lib.hid (below_any (Nat.le_refl _) P3.out B4)
  clear B4 V4 sz4
  have R3b := R3.out.blk
  dsimp only [Rep.arr] at R3b hW4
  obtain ⟨kr3, r0, r1, r2, r3, r4, r5⟩ := arr6_cells R3b
  clear R3b
  go_upto_region 6 with fail
  try rw [hW4]
  clear hW4 r0 r1 r2 r3 r4 r5 kr3 z0 z1 z2 z3 z4 z5 kz3 fz3 hW3 P3 O3 Q3 R3
  have hnq : r' ≠ ({ r' with gen := G } : Rep) := fun h => hne.out (by rw [hG]; exact (congrArg Rep.gen h).symm)
  have HX := Lib.hid (fun (X : Bool) (hX : decide (c' = d') = X) => (show decide (d' = c') = X by rw [← hX]; exact decide_eq_decide.2 eq_comm))
  have lc : c'.recs.length ≤ maxLen := bd1.out.recs.1
  have ld : d'.recs.length ≤ maxLen := bd2.out.recs.1
  have tc : c'.tops.length ≤ 1000000 := bd1.out.tops.1
  have td : d'.tops.length ≤ 1000000 := bd2.out.tops.1
  have rf : r'.found.length ≤ 1000000 := bd3.out.found.1
  have rp : r'.parts.length ≤ 1000000 := bd3.out.parts.1
  obtain ⟨X, hX⟩ : ∃ X, decide (c' = d') = X := ⟨_, rfl⟩
  have hX2 := HX.out X hX
  have cS1 := Lib.hid (fun W (hW : Below W4.heap.size W4 W) => (same4 c' c' (.slice ra2 c'.recs.length rc2) (.slice ta2 c'.tops.length tc2) (.slice ra2 c'.recs.length rc2) (.slice ta2 c'.tops.length tc2) W (O4.out.below hW).cin.recs (O4.out.below hW).cin.tops (O4.out.below hW).cin.recs (O4.out.below hW).cin.tops ⟨lc, lc⟩ ⟨tc, tc⟩).cast (congrArg Value.bool (decide_eq_true rfl)))
  have cS2 := Lib.hid (fun W (hW : Below W4.heap.size W4 W) => (same4 c' d' (.slice ra2 c'.recs.length rc2) (.slice ta2 c'.tops.length tc2) (.slice ra3 d'.recs.length rc3) (.slice ta3 d'.tops.length tc3) W (O4.out.below hW).cin.recs (O4.out.below hW).cin.tops (Q4.out.below hW).cin.recs (Q4.out.below hW).cin.tops ⟨lc, ld⟩ ⟨tc, td⟩).cast (congrArg Value.bool hX))
  have cS3 := Lib.hid (fun W (hW : Below W4.heap.size W4 W) => (same4 d' c' (.slice ra3 d'.recs.length rc3) (.slice ta3 d'.tops.length tc3) (.slice ra2 c'.recs.length rc2) (.slice ta2 c'.tops.length tc2) W (Q4.out.below hW).cin.recs (Q4.out.below hW).cin.tops (O4.out.below hW).cin.recs (O4.out.below hW).cin.tops ⟨ld, lc⟩ ⟨td, tc⟩).cast (congrArg Value.bool hX2))
  have cA1 := Lib.hid (fun W (hW : Below W4.heap.size W4 W) => (alike4 r' r' (.slice fa4 r'.found.length fc4) (.slice pa4 r'.parts.length pc4) (.slice fa4 r'.found.length fc4) (.slice pa4 r'.parts.length pc4) W (R4.out.below hW).rin (R4.out.below hW).rin ⟨rf, rf⟩ ⟨rp, rp⟩).cast (congrArg Value.bool (decide_eq_true rfl)))
  have cA2 := Lib.hid (fun W (hW : Below W4.heap.size W4 W) => (alike4 r' { r' with gen := G } (.slice fa4 r'.found.length fc4) (.slice pa4 r'.parts.length pc4) (.slice fa4 r'.found.length fc4) (.slice pa4 r'.parts.length pc4) W (R4.out.below hW).rin ⟨(R4.out.below hW).rin.found, (R4.out.below hW).rin.parts⟩ ⟨rf, rf⟩ ⟨rp, rp⟩).cast (congrArg Value.bool (decide_eq_false hnq)))
  have HF := Lib.hid (fun W => fixed4 W)
  have HS := Lib.hid (fun W (hW : Below W4.heap.size W4 W) => And.intro (O4.out.blk.below hW) (And.intro (Q4.out.blk.below hW) (And.intro (R4.out.blk.below hW) (VV.out.below hW))))
  have P0 : Below W4.heap.size W4 W4.drew := (Below.refl _ _).drew
  clear hX hX2 HX hnq hne lc ld tc td rf rp bd1 bd2 bd3 O4 Q4 R4 VV
  refine wp_region_held_drew (S := (fun w' => Blk w' w.heap.size (c'.arr (.slice ra2 c'.recs.length rc2) (.slice ta2 c'.tops.length tc2)) 29 ∧ Blk w' (w.heap.size + 1) (d'.arr (.slice ra3 d'.recs.length rc3) (.slice ta3 d'.tops.length tc3)) 29 ∧ Blk w' (w.heap.size + 1 + 1) (r'.arr (.slice fa4 r'.found.length fc4) (.slice pa4 r'.parts.length pc4)) 38 ∧ Blk w' W3.heap.size (({ r' with gen := G } : Rep).arr (.slice fa4 r'.found.length fc4) (.slice pa4 r'.parts.length pc4)) 38)) (by kernel_rfl) (HS.out _ P0) (fun hHeld => ?_)
  refine wpAnyH_take (i := 0) (v := _) rfl (by kernel_rfl) (by kernel_rfl) (by kernel_rfl) (fun _ _ _ h => h) (Or.inl ⟨by rfl, fun w hSw => load_blk hSw.1 rfl rfl Try.underlying29 rfl (by kernel_rfl)⟩) hHeld ?_
  try simp only [List.getElem_toArray, List.getElem_cons_zero, List.getElem_cons_succ, Act.put, List.setIfInBounds_toArray, List.set_cons_zero, List.set_cons_succ]
  refine wpAnyH_take (i := 1) (v := _) rfl (by kernel_rfl) (by kernel_rfl) (by kernel_rfl) (fun _ _ _ h => h) (Or.inl ⟨by rfl, fun w hSw => load_blk hSw.1 rfl rfl Try.underlying29 rfl (by kernel_rfl)⟩) hHeld ?_
  try simp only [List.getElem_toArray, List.getElem_cons_zero, List.getElem_cons_succ, Act.put, List.setIfInBounds_toArray, List.set_cons_zero, List.set_cons_succ]
  refine wpAnyH_ready (rs := [2]) (by kernel_rfl) (by simp) ?_
  refine AllReadyH.cons rfl (fun K hK => ?_) AllReadyH.nil
  go_simp
  refine (cS1.out _ P0).use ?_
  intro w10 b10
  have P1 := below_any (Nat.le_refl _) P0 b10
  go_wp2_with fail
  refine hK.out _ _ (HS.out _ P1) (fun hHeld => ?_)
  clear hK K
  try simp only [List.getElem_toArray, List.getElem_cons_zero, List.getElem_cons_succ, Act.put, List.setIfInBounds_toArray, List.set_cons_zero, List.set_cons_succ]
  refine wpAnyH_take (i := 3) (v := ?_) rfl (by kernel_rfl) (by kernel_rfl) (by kernel_rfl) (fun _ _ _ h => h) (Or.inl ⟨by rfl, ?_⟩) hHeld ?_
  rotate_left
  · (intro w hSw; (try dsimp only at hSw); go_simp; try with_reducible rfl)
  try simp only [List.getElem_toArray, List.getElem_cons_zero, List.getElem_cons_succ, Act.put, List.setIfInBounds_toArray, List.set_cons_zero, List.set_cons_succ]
  refine wpAnyH_take (i := 4) (v := _) rfl (by kernel_rfl) (by kernel_rfl) (by kernel_rfl) (fun _ _ _ h => h) (Or.inl ⟨by rfl, fun w hSw => load_blk hSw.1 rfl rfl Try.underlying29 rfl (by kernel_rfl)⟩) hHeld ?_
  try simp only [List.getElem_toArray, List.getElem_cons_zero, List.getElem_cons_succ, Act.put, List.setIfInBounds_toArray, List.set_cons_zero, List.set_cons_succ]
  refine wpAnyH_take (i := 5) (v := _) rfl (by kernel_rfl) (by kernel_rfl) (by kernel_rfl) (fun _ _ _ h => h) (Or.inl ⟨by rfl, fun w hSw => load_blk hSw.2.1 rfl rfl Try.underlying29 rfl (by kernel_rfl)⟩) hHeld ?_
  try simp only [List.getElem_toArray, List.getElem_cons_zero, List.getElem_cons_succ, Act.put, List.setIfInBounds_toArray, List.set_cons_zero, List.set_cons_succ]
  refine wpAnyH_take (i := 7) (v := _) rfl (by kernel_rfl) (by kernel_rfl) (by kernel_rfl) (fun _ _ _ h => h) (Or.inl ⟨by rfl, fun w hSw => load_blk hSw.2.1 rfl rfl Try.underlying29 rfl (by kernel_rfl)⟩) hHeld ?_
  try simp only [List.getElem_toArray, List.getElem_cons_zero, List.getElem_cons_succ, Act.put, List.setIfInBounds_toArray, List.set_cons_zero, List.set_cons_succ]
  refine wpAnyH_take (i := 8) (v := _) rfl (by kernel_rfl) (by kernel_rfl) (by kernel_rfl) (fun _ _ _ h => h) (Or.inl ⟨by rfl, fun w hSw => load_blk hSw.1 rfl rfl Try.underlying29 rfl (by kernel_rfl)⟩) hHeld ?_
  try simp only [List.getElem_toArray, List.getElem_cons_zero, List.getElem_cons_succ, Act.put, List.setIfInBounds_toArray, List.set_cons_zero, List.set_cons_succ]
  refine wpAnyH_ready (rs := [6]) (by kernel_rfl) (by simp) ?_
  refine AllReadyH.cons rfl (fun K hK => ?_) AllReadyH.nil
  go_simp
  refine (cS2.out _ P1).use ?_
  intro w11 b11
  have P2 := below_any (Nat.le_refl _) P1 b11
  go_wp2_with fail
  refine hK.out _ _ (HS.out _ P2) (fun hHeld => ?_)
  clear hK K
  try simp only [List.getElem_toArray, List.getElem_cons_zero, List.getElem_cons_succ, Act.put, List.setIfInBounds_toArray, List.set_cons_zero, List.set_cons_succ]
  refine wpAnyH_ready (rs := [9]) (by kernel_rfl) (by simp) ?_
  refine AllReadyH.cons rfl (fun K hK => ?_) AllReadyH.nil
  go_simp
  refine (cS3.out _ P2).use ?_
  intro w12 b12
  have P3 := below_any (Nat.le_refl _) P2 b12
  go_wp2_with fail
  refine hK.out _ _ (HS.out _ P3) (fun hHeld => ?_)
  clear hK K
  try simp only [List.getElem_toArray, List.getElem_cons_zero, List.getElem_cons_succ, Act.put, List.setIfInBounds_toArray, List.set_cons_zero, List.set_cons_succ]
  refine wpAnyH_take (i := 10) (v := ?_) rfl (by kernel_rfl) (by kernel_rfl) (by kernel_rfl) (fun _ _ _ h => h) (Or.inl ⟨by rfl, ?_⟩) hHeld ?_
  rotate_left
  · (intro w hSw; (try dsimp only at hSw); go_simp; try with_reducible rfl)
  try simp only [List.getElem_toArray, List.getElem_cons_zero, List.getElem_cons_succ, Act.put, List.setIfInBounds_toArray, List.set_cons_zero, List.set_cons_succ]
  refine wpAnyH_take (i := 11) (v := ?_) rfl (by kernel_rfl) (by kernel_rfl) (by kernel_rfl) (fun _ _ _ h => h) (Or.inl ⟨by rfl, ?_⟩) hHeld ?_
  rotate_left
  · (intro w hSw; (try dsimp only at hSw); go_simp; try with_reducible rfl)
  try simp only [List.getElem_toArray, List.getElem_cons_zero, List.getElem_cons_succ, Act.put, List.setIfInBounds_toArray, List.set_cons_zero, List.set_cons_succ]
  refine wpAnyH_take (i := 12) (v := ?_) rfl (by kernel_rfl) (by kernel_rfl) (by kernel_rfl) (fun _ _ _ h => h) (Or.inl ⟨by rfl, ?_⟩) hHeld ?_
  rotate_left
  · (intro w hSw; (try dsimp only at hSw); go_simp; try with_reducible rfl)
  try simp only [List.getElem_toArray, List.getElem_cons_zero, List.getElem_cons_succ, Act.put, List.setIfInBounds_toArray, List.set_cons_zero, List.set_cons_succ]
  refine wpAnyH_take (i := 13) (v := _) rfl (by kernel_rfl) (by kernel_rfl) (by kernel_rfl) (fun _ _ _ h => h) (Or.inl ⟨by rfl, fun w hSw => load_blk hSw.2.2.1 rfl rfl Try.underlying38 rfl (by kernel_rfl)⟩) hHeld ?_
  try simp only [List.getElem_toArray, List.getElem_cons_zero, List.getElem_cons_succ, Act.put, List.setIfInBounds_toArray, List.set_cons_zero, List.set_cons_succ]
  refine wpAnyH_take (i := 14) (v := _) rfl (by kernel_rfl) (by kernel_rfl) (by kernel_rfl) (fun _ _ _ h => h) (Or.inl ⟨by rfl, fun w hSw => load_blk hSw.2.2.1 rfl rfl Try.underlying38 rfl (by kernel_rfl)⟩) hHeld ?_
  try simp only [List.getElem_toArray, List.getElem_cons_zero, List.getElem_cons_succ, Act.put, List.setIfInBounds_toArray, List.set_cons_zero, List.set_cons_succ]
  refine wpAnyH_ready (rs := [15]) (by kernel_rfl) (by simp) ?_
  refine AllReadyH.cons rfl (fun K hK => ?_) AllReadyH.nil
  go_simp
  refine (cA1.out _ P3).use ?_
  intro w13 b13
  have P4' := below_any (Nat.le_refl _) P3 b13
  go_wp2_with fail
  refine hK.out _ _ (HS.out _ P4') (fun hHeld => ?_)
  clear hK K
  try simp only [List.getElem_toArray, List.getElem_cons_zero, List.getElem_cons_succ, Act.put, List.setIfInBounds_toArray, List.set_cons_zero, List.set_cons_succ]
  refine wpAnyH_take (i := 16) (v := ?_) rfl (by kernel_rfl) (by kernel_rfl) (by kernel_rfl) (fun _ _ _ h => h) (Or.inl ⟨by rfl, ?_⟩) hHeld ?_
  rotate_left
  · (intro w hSw; (try dsimp only at hSw); go_simp; try with_reducible rfl)
  try simp only [List.getElem_toArray, List.getElem_cons_zero, List.getElem_cons_succ, Act.put, List.setIfInBounds_toArray, List.set_cons_zero, List.set_cons_succ]
  refine wpAnyH_take (i := 17) (v := ?_) rfl (by kernel_rfl) (by kernel_rfl) (by kernel_rfl) (fun _ _ _ h => h) (Or.inl ⟨by rfl, ?_⟩) hHeld ?_
  rotate_left
  · (intro w hSw; (try dsimp only at hSw); go_simp; try with_reducible rfl)
  try simp only [List.getElem_toArray, List.getElem_cons_zero, List.getElem_cons_succ, Act.put, List.setIfInBounds_toArray, List.set_cons_zero, List.set_cons_succ]
  refine wpAnyH_take (i := 18) (v := _) rfl (by kernel_rfl) (by kernel_rfl) (by kernel_rfl) (fun _ _ _ h => h) (Or.inl ⟨by rfl, fun w hSw => load_blk hSw.2.2.1 rfl rfl Try.underlying38 rfl (by kernel_rfl)⟩) hHeld ?_
  try simp only [List.getElem_toArray, List.getElem_cons_zero, List.getElem_cons_succ, Act.put, List.setIfInBounds_toArray, List.set_cons_zero, List.set_cons_succ]
  refine wpAnyH_take (i := 19) (v := _) rfl (by kernel_rfl) (by kernel_rfl) (by kernel_rfl) (fun _ _ _ h => h) (Or.inl ⟨by rfl, fun w hSw => load_blk hSw.2.2.2 rfl rfl Try.underlying38 rfl (by kernel_rfl)⟩) hHeld ?_
  try simp only [List.getElem_toArray, List.getElem_cons_zero, List.getElem_cons_succ, Act.put, List.setIfInBounds_toArray, List.set_cons_zero, List.set_cons_succ]
  refine wpAnyH_ready (rs := [20]) (by kernel_rfl) (by simp) ?_
  refine AllReadyH.cons rfl (fun K hK => ?_) AllReadyH.nil
  go_simp
  refine (cA2.out _ P4').use ?_
  intro w14 b14
  have P5 := below_any (Nat.le_refl _) P4' b14
  go_wp2_with fail
  refine hK.out _ _ (HS.out _ P5) (fun hHeld => ?_)
  clear hK K
  try simp only [List.getElem_toArray, List.getElem_cons_zero, List.getElem_cons_succ, Act.put, List.setIfInBounds_toArray, List.set_cons_zero, List.set_cons_succ]
  refine wpAnyH_take (i := 21) (v := ?_) rfl (by kernel_rfl) (by kernel_rfl) (by kernel_rfl) (fun _ _ _ h => h) (Or.inl ⟨by rfl, ?_⟩) hHeld ?_
  rotate_left
  · (intro w hSw; (try dsimp only at hSw); go_simp; try with_reducible rfl)
  try simp only [List.getElem_toArray, List.getElem_cons_zero, List.getElem_cons_succ, Act.put, List.setIfInBounds_toArray, List.set_cons_zero, List.set_cons_succ]
  refine wpAnyH_take (i := 22) (v := ?_) rfl (by kernel_rfl) (by kernel_rfl) (by kernel_rfl) (fun _ _ _ h => h) (Or.inl ⟨by rfl, ?_⟩) hHeld ?_
  rotate_left
  · (intro w hSw; (try dsimp only at hSw); go_simp; try with_reducible rfl)
  try simp only [List.getElem_toArray, List.getElem_cons_zero, List.getElem_cons_succ, Act.put, List.setIfInBounds_toArray, List.set_cons_zero, List.set_cons_succ]
  refine wpAnyH_take (i := 23) (v := ?_) rfl (by kernel_rfl) (by kernel_rfl) (by kernel_rfl) (fun _ _ _ h => h) (Or.inl ⟨by rfl, ?_⟩) hHeld ?_
  rotate_left
  · (intro w hSw; (try dsimp only at hSw); go_simp; try with_reducible rfl)
  try simp only [List.getElem_toArray, List.getElem_cons_zero, List.getElem_cons_succ, Act.put, List.setIfInBounds_toArray, List.set_cons_zero, List.set_cons_succ]
  refine wpAnyH_ready (rs := [24]) (by kernel_rfl) (by simp) ?_
  refine AllReadyH.cons rfl (fun K hK => ?_) AllReadyH.nil
  go_simp
  refine (HF.out _).use ?_
  intro w15 b15
  have P6 := below_any (Nat.le_refl _) P5 b15
  go_wp2_with fail
  refine hK.out _ _ (HS.out _ P6) (fun hHeld => ?_)
  clear hK K
  try simp only [List.getElem_toArray, List.getElem_cons_zero, List.getElem_cons_succ, Act.put, List.setIfInBounds_toArray, List.set_cons_zero, List.set_cons_succ]
  refine wpAnyH_take (i := 25) (v := ?_) rfl (by kernel_rfl) (by kernel_rfl) (by kernel_rfl) (fun _ _ _ h => h) (Or.inl ⟨by rfl, ?_⟩) hHeld ?_
  rotate_left
  · (intro w hSw; (try dsimp only at hSw); go_simp; try with_reducible rfl)
  try simp only [List.getElem_toArray, List.getElem_cons_zero, List.getElem_cons_succ, Act.put, List.setIfInBounds_toArray, List.set_cons_zero, List.set_cons_succ]
  refine wpAnyH_take (i := 26) (v := ?_) rfl (by kernel_rfl) (by kernel_rfl) (by kernel_rfl) (fun _ _ _ h => h) (Or.inl ⟨by rfl, ?_⟩) hHeld ?_
  rotate_left
  · (intro w hSw; (try dsimp only at hSw); go_simp; try with_reducible rfl)
  try simp only [List.getElem_toArray, List.getElem_cons_zero, List.getElem_cons_succ, Act.put, List.setIfInBounds_toArray, List.set_cons_zero, List.set_cons_succ]
  refine wpAnyH_done (by kernel_rfl) ?_ _
  go_wp2_with fail
  exact finB hR (below_any (Nat.le_refl _) P4.out P6) rfl
end Go.Proofs.Ythiliodmbipikaa.requestSame
