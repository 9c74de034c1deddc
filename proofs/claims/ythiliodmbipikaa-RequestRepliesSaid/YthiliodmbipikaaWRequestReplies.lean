/-
  The walk of RequestReplies.
-/
import Derived.Test.YthiliodmbipikaaReqLw
import Derived.Test.YthiliodmbipikaaReqDf
set_option linter.unusedVariables false
set_option linter.unusedSimpArgs false
namespace Go.Proofs.Ythiliodmbipikaa.requestReplies
open Go.RowKit
attribute [local go_sem] ByteArray.extract_mk ByteArray.mk_append_mk

set_option maxHeartbeats 8000000 in
set_option maxRecDepth 100000 in
theorem walk {w : World} (r : Rep) (fv pv : Value) (p : Rep) (fv1 pv1 : Value) (s : List UInt8) (hr : RepArg w r fv pv) (hp : RepArg w p fv1 pv1) (hs : s.length ≤ maxLen) :
    RetB Try.prog 6 #[.agg (r.arr fv pv), .agg (p.arr fv1 pv1), .string (S s)] w (.bool true) := by
  refine RetB.intro fun R hR => ?_
  unfold maxLen at hs
  have q1 : ((min (s.length : Int) 1500).toNat) = min s.length 1500 := by omega
  obtain ⟨u, hu⟩ : ∃ l, s.take (min s.length 1500) = l := ⟨_, rfl⟩
  have lu : u.length ≤ 1500 := by rw [← hu, List.length_take]; omega
  have cR := Lib.hid (fun W (hW : Below w.heap.size w W) => cutr4 r fv pv W (hr.below hW))
  have cQ := Lib.hid (fun W (hW : Below w.heap.size w W) => cutr4 p fv1 pv1 W (hp.below hW))
  have HF := Lib.hid (fun W => fixed4 W)
  obtain ⟨W0, hW0, B0, X0, Y0, sz0⟩ := start2 w (r.arr fv pv) (p.arr fv1 pv1) 38 38
  have XX := Lib.hid X0
  have YY := Lib.hid Y0
  have SZ := Lib.hid sz0
  have BB := Lib.hid B0
  clear X0 Y0 sz0 B0 hr hp
  dsimp only [Rep.arr] at hW0 cR cQ ⊢
  obtain ⟨kx0, x0, x1, x2, x3, x4, x5⟩ := arr6_cells XX.out
  go_enter Try.func6, Try.ntmps6
  go_wp2_with fail
  try rw [hW0]
  clear hW0 kx0 x0 x1 x2 x3 x4 x5
  refine (cR.out _ BB.out).use ?_
  intro w1 fv2 pv2 g1
  have bd1 := Lib.hid (cutRep_bd r)
  have G1 := Lib.hid g1
  clear g1 cR
  generalize cutRep r = r' at bd1 G1 ⊢
  have X1 := XX.out.below G1.out.bel
  obtain ⟨kx1, x0, x1, x2, x3, x4, x5⟩ := arr6_cells X1
  have fx1 : ∀ i, w1.frozen? ⟨w.heap.size, i, none⟩ = false := fun i => Blk.frozen X1 i
  have Y1 := YY.out.below G1.out.bel
  obtain ⟨W1, hW1, s1, k1⟩ := setRep X1 r' fv2 pv2
  have O1 := Lib.hid (RepB.store G1.out.rin (B := w.heap.size + 1 + 1) (by omega) (fun x hx => by have := G1.out.own1 x hx; have := SZ.out; omega) (fun x hx => by have := G1.out.own2 x hx; have := SZ.out; omega) ⟨s1, k1⟩)
  have Y1' := Lib.hid (Y1.keptR k1 (by simp <;> omega))
  obtain ⟨ky1, y0, y1, y2, y3, y4, y5⟩ := arr6_cells Y1'.out
  have P1 := Lib.hid (k1.toBelow (below_any (Nat.le_refl _) BB.out G1.out.bel) (by simp <;> omega))
  have SZ1 : Hid (w.heap.size + 1 + 1 ≤ W1.heap.size) := Lib.hid (by have h1 := SZ.out; have h2 := G1.out.bel.size; have h3 := k1.size; omega)
  obtain ⟨fa2, fc2, hfv⟩ := G1.out.rin.found.form
  obtain ⟨pa2, pc2, hpv⟩ := G1.out.rin.parts.form
  subst hfv hpv
  clear X1 Y1 s1 k1 XX YY SZ BB G1
  dsimp only [Rep.arr] at hW1 ⊢
  go_wp2_with fail
  try rw [hW1]
  clear x0 x1 x2 x3 x4 x5 y0 y1 y2 y3 y4 y5 kx1 ky1 fx1 hW1
  refine (cQ.out _ P1.out).use ?_
  intro w2 fv3 pv3 g2
  have bd2 := Lib.hid (cutRep_bd p)
  have G2 := Lib.hid g2
  clear g2 cQ
  generalize cutRep p = p' at bd2 G2 ⊢
  have Y2 := Y1'.out.below G2.out.bel
  obtain ⟨ky2, y0, y1, y2, y3, y4, y5⟩ := arr6_cells Y2
  have fy2 : ∀ i, w2.frozen? ⟨w.heap.size + 1, i, none⟩ = false := fun i => Blk.frozen Y2 i
  obtain ⟨W2, hW2, s2, k2⟩ := setRep Y2 p' fv3 pv3
  have O2 := Lib.hid ((O1.out.below G2.out.bel).keptR k2 (by simp <;> omega) (by simp <;> omega))
  have Q2 := Lib.hid (RepB.store G2.out.rin (B := w.heap.size + 1 + 1) (by omega) (fun x hx => by have := G2.out.own1 x hx; have := SZ1.out; omega) (fun x hx => by have := G2.out.own2 x hx; have := SZ1.out; omega) ⟨s2, k2⟩)
  have P2 := Lib.hid (k2.toBelow (below_any (Nat.le_refl _) P1.out G2.out.bel) (by simp <;> omega))
  obtain ⟨fa3, fc3, hfv⟩ := G2.out.rin.found.form
  obtain ⟨pa3, pc3, hpv⟩ := G2.out.rin.parts.form
  subst hfv hpv
  clear Y2 s2 k2 SZ1 P1 O1 Y1' G2
  have cP1 := Lib.hid (reply4 r' _ _ W2 O2.out.rin bd1.out)
  have cP2 := Lib.hid (fun W (hW : Below W2.heap.size W2 W) => dreply4 r' _ _ W (O2.out.below hW).rin bd1.out)
  obtain ⟨A, EA, hAE⟩ : ∃ A EA, repPut r' = (A, EA) := ⟨_, _, rfl⟩
  rw [hAE] at cP1 cP2
  clear hAE
  have O2b := O2.out.blk
  dsimp only [Rep.arr] at hW2 cP1 cP2 O2b ⊢
  obtain ⟨ko2, x0, x1, x2, x3, x4, x5⟩ := arr6_cells O2b
  clear O2b
  go_wp2_with fail
  try rw [hW2]
  refine cP1.out.use ?_
  intro w4 b4
  obtain ⟨ko4, z0, z1, z2, z3, z4, z5⟩ := arr6_cells (O2.out.blk.below b4)
  clear hW2 x0 x1 x2 x3 x4 x5 y0 y1 y2 y3 y4 y5 fy2 ky2 ko2
  go_wp2_with fail
  refine (cP2.out _ b4).use ?_
  intro w5 b5
  have B5 := Lib.hid (below_any (Nat.le_refl _) b4 b5)
  clear z0 z1 z2 z3 z4 z5 ko4 cP1 cP2 b4 b5
  go_wp2_with fail
  refine (parse4 u _ (by omega)).use ?_
  intro w6 x fv6 pv6 n6 g6
  obtain ⟨fa6, fc6, hfv⟩ := g6.rin.found.form
  obtain ⟨pa6, pc6, hpv⟩ := g6.rin.parts.form
  have G6 := Lib.hid g6
  subst hfv hpv
  clear g6
  obtain ⟨W6, hW6, B6, V6, sz6⟩ := start1 w6 (x.arr (.slice fa6 x.found.length fc6) (.slice pa6 x.parts.length pc6)) 38
  have VV6 := Lib.hid V6
  have BB6 := Lib.hid (below_any (Nat.le_refl _) (below_any (Nat.le_refl _) B5.out G6.out.bel) B6)
  have I6 := Lib.hid (G6.out.rin.below B6)
  have T6 := Lib.hid (And.intro G6.out.got G6.out.bd)
  clear V6 B6 sz6 G6 B5
  dsimp only [Rep.arr] at hW6 ⊢
  go_wp2_with fail
  try rw [hW6]
  clear hW6
  refine (dparse4 u _ (by omega)).use ?_
  intro w7 x7 fv7 pv7 n7 g7
  obtain ⟨hn7, hx7⟩ := T6.out.1.eq g7.got
  subst n7 x7
  obtain ⟨fa7, fc7, hfv⟩ := g7.rin.found.form
  obtain ⟨pa7, pc7, hpv⟩ := g7.rin.parts.form
  have G7 := Lib.hid g7
  subst hfv hpv
  clear g7
  obtain ⟨W7, hW7, B7, V7, sz7⟩ := start1 w7 (x.arr (.slice fa7 x.found.length fc7) (.slice pa7 x.parts.length pc7)) 38
  have VV7 := Lib.hid V7
  have B67 := Lib.hid (below_any (Nat.le_refl _) G7.out.bel B7)
  have BB7 := Lib.hid (below_any (Nat.le_refl _) BB6.out B67.out)
  have I7 := Lib.hid (G7.out.rin.below B7)
  have J6 := Lib.hid (I6.out.below B67.out)
  have U6 := Lib.hid (VV6.out.below B67.out)
  have O7 := Lib.hid (O2.out.below BB7.out)
  have Q7 := Lib.hid (Q2.out.below BB7.out)
  have P7 := Lib.hid (below_any (Nat.le_refl _) P2.out BB7.out)
  clear V7 B7 sz7 G7 BB6 BB7 B67 I6 VV6 O2 Q2 P2
  dsimp only [Rep.arr] at hW7 ⊢
  go_upto_region 8 with fail
  try rw [hW7]
  clear hW7
  have lf := bd1.out.found.1
  have lp := bd1.out.parts.1
  have mf := bd2.out.found.1
  have mp := bd2.out.parts.1
  have xf := T6.out.2.found.1
  have xp := T6.out.2.parts.1
  obtain ⟨X, hX⟩ : ∃ X, decide (r' = p') = X := ⟨_, rfl⟩
  have cA1 := Lib.hid (fun W (hW : Below W7.heap.size W7 W) => (dalike4 x x (.slice fa6 x.found.length fc6) (.slice pa6 x.parts.length pc6) (.slice fa7 x.found.length fc7) (.slice pa7 x.parts.length pc7) W (J6.out.below hW) (I7.out.below hW) ⟨xf, xf⟩ ⟨xp, xp⟩).cast (congrArg Value.bool (decide_eq_true rfl)))
  have cA2 := Lib.hid (fun W (hW : Below W7.heap.size W7 W) => (alike4 r' p' (.slice fa2 r'.found.length fc2) (.slice pa2 r'.parts.length pc2) (.slice fa3 p'.found.length fc3) (.slice pa3 p'.parts.length pc3) W (O7.out.below hW).rin (Q7.out.below hW).rin ⟨lf, mf⟩ ⟨lp, mp⟩).cast (congrArg Value.bool hX))
  have cA3 := Lib.hid (fun W (hW : Below W7.heap.size W7 W) => (dalike4 r' p' (.slice fa2 r'.found.length fc2) (.slice pa2 r'.parts.length pc2) (.slice fa3 p'.found.length fc3) (.slice pa3 p'.parts.length pc3) W (O7.out.below hW).rin (Q7.out.below hW).rin ⟨lf, mf⟩ ⟨lp, mp⟩).cast (congrArg Value.bool hX))
  have HS := Lib.hid (fun W (hW : Below W7.heap.size W7 W) => And.intro (O7.out.blk.below hW) (And.intro (Q7.out.blk.below hW) (And.intro (U6.out.below hW) (VV7.out.below hW))))
  have P10 : Below W7.heap.size W7 W7.drew := (Below.refl _ _).drew
  clear lf lp mf mp xf xp hX O7 Q7 U6 VV7 T6 bd1 bd2 I7 J6
  refine wp_region_held_drew (S := (fun w' => Blk w' w.heap.size (r'.arr (.slice fa2 r'.found.length fc2) (.slice pa2 r'.parts.length pc2)) 38 ∧ Blk w' (w.heap.size + 1) (p'.arr (.slice fa3 p'.found.length fc3) (.slice pa3 p'.parts.length pc3)) 38 ∧ Blk w' w6.heap.size (x.arr (.slice fa6 x.found.length fc6) (.slice pa6 x.parts.length pc6)) 38 ∧ Blk w' w7.heap.size (x.arr (.slice fa7 x.found.length fc7) (.slice pa7 x.parts.length pc7)) 38)) (by kernel_rfl) (HS.out _ P10) (fun hHeld => ?_)
  refine wpAnyH_take (i := 0) (v := ?_) rfl (by kernel_rfl) (by kernel_rfl) (by kernel_rfl) (fun _ _ _ h => h) (Or.inl ⟨by rfl, ?_⟩) hHeld ?_
  rotate_left
  · (intro w hSw; (try dsimp only at hSw); go_simp; try with_reducible rfl)
  try simp only [List.getElem_toArray, List.getElem_cons_zero, List.getElem_cons_succ, Act.put, List.setIfInBounds_toArray, List.set_cons_zero, List.set_cons_succ]
  refine wpAnyH_take (i := 1) (v := ?_) rfl (by kernel_rfl) (by kernel_rfl) (by kernel_rfl) (fun _ _ _ h => h) (Or.inl ⟨by rfl, ?_⟩) hHeld ?_
  rotate_left
  · (intro w hSw; (try dsimp only at hSw); go_simp; try with_reducible rfl)
  try simp only [List.getElem_toArray, List.getElem_cons_zero, List.getElem_cons_succ, Act.put, List.setIfInBounds_toArray, List.set_cons_zero, List.set_cons_succ]
  refine wpAnyH_take (i := 2) (v := ?_) rfl (by kernel_rfl) (by kernel_rfl) (by kernel_rfl) (fun _ _ _ h => h) (Or.inl ⟨by rfl, ?_⟩) hHeld ?_
  rotate_left
  · (intro w hSw; (try dsimp only at hSw); go_simp; try with_reducible rfl)
  try simp only [List.getElem_toArray, List.getElem_cons_zero, List.getElem_cons_succ, Act.put, List.setIfInBounds_toArray, List.set_cons_zero, List.set_cons_succ]
  refine wpAnyH_take (i := 3) (v := ?_) rfl (by kernel_rfl) (by kernel_rfl) (by kernel_rfl) (fun _ _ _ h => h) (Or.inl ⟨by rfl, ?_⟩) hHeld ?_
  rotate_left
  · (intro w hSw; (try dsimp only at hSw); go_simp; try with_reducible rfl)
  try simp only [List.getElem_toArray, List.getElem_cons_zero, List.getElem_cons_succ, Act.put, List.setIfInBounds_toArray, List.set_cons_zero, List.set_cons_succ]
  refine wpAnyH_take (i := 4) (v := ?_) rfl (by kernel_rfl) (by kernel_rfl) (by kernel_rfl) (fun _ _ _ h => h) (Or.inl ⟨by rfl, ?_⟩) hHeld ?_
  rotate_left
  · (intro w hSw; (try dsimp only at hSw); go_simp; try with_reducible rfl)
  try simp only [List.getElem_toArray, List.getElem_cons_zero, List.getElem_cons_succ, Act.put, List.setIfInBounds_toArray, List.set_cons_zero, List.set_cons_succ]
  refine wpAnyH_take (i := 5) (v := ?_) rfl (by kernel_rfl) (by kernel_rfl) (by kernel_rfl) (fun _ _ _ h => h) (Or.inl ⟨by rfl, ?_⟩) hHeld ?_
  rotate_left
  · (intro w hSw; (try dsimp only at hSw); go_simp; try with_reducible rfl)
  try simp only [List.getElem_toArray, List.getElem_cons_zero, List.getElem_cons_succ, Act.put, List.setIfInBounds_toArray, List.set_cons_zero, List.set_cons_succ]
  refine wpAnyH_take (i := 6) (v := ?_) rfl (by kernel_rfl) (by kernel_rfl) (by kernel_rfl) (fun _ _ _ h => h) (Or.inl ⟨by rfl, ?_⟩) hHeld ?_
  rotate_left
  · (intro w hSw; (try dsimp only at hSw); go_simp; try with_reducible rfl)
  try simp only [List.getElem_toArray, List.getElem_cons_zero, List.getElem_cons_succ, Act.put, List.setIfInBounds_toArray, List.set_cons_zero, List.set_cons_succ]
  refine wpAnyH_take (i := 7) (v := ?_) rfl (by kernel_rfl) (by kernel_rfl) (by kernel_rfl) (fun _ _ _ h => h) (Or.inl ⟨by rfl, ?_⟩) hHeld ?_
  rotate_left
  · (intro w hSw; (try dsimp only at hSw); go_simp; try with_reducible rfl)
  try simp only [List.getElem_toArray, List.getElem_cons_zero, List.getElem_cons_succ, Act.put, List.setIfInBounds_toArray, List.set_cons_zero, List.set_cons_succ]
  refine wpAnyH_take (i := 8) (v := ?_) rfl (by kernel_rfl) (by kernel_rfl) (by kernel_rfl) (fun _ _ _ h => h) (Or.inl ⟨by rfl, ?_⟩) hHeld ?_
  rotate_left
  · (intro w hSw; (try dsimp only at hSw); go_simp; try with_reducible rfl)
  try simp only [List.getElem_toArray, List.getElem_cons_zero, List.getElem_cons_succ, Act.put, List.setIfInBounds_toArray, List.set_cons_zero, List.set_cons_succ]
  refine wpAnyH_take (i := 9) (v := _) rfl (by kernel_rfl) (by kernel_rfl) (by kernel_rfl) (fun _ _ _ h => h) (Or.inl ⟨by rfl, fun w hSw => load_blk hSw.2.2.1 rfl rfl Try.underlying38 rfl (by kernel_rfl)⟩) hHeld ?_
  try simp only [List.getElem_toArray, List.getElem_cons_zero, List.getElem_cons_succ, Act.put, List.setIfInBounds_toArray, List.set_cons_zero, List.set_cons_succ]
  refine wpAnyH_take (i := 10) (v := _) rfl (by kernel_rfl) (by kernel_rfl) (by kernel_rfl) (fun _ _ _ h => h) (Or.inl ⟨by rfl, fun w hSw => load_blk hSw.2.2.2 rfl rfl Try.underlying38 rfl (by kernel_rfl)⟩) hHeld ?_
  try simp only [List.getElem_toArray, List.getElem_cons_zero, List.getElem_cons_succ, Act.put, List.setIfInBounds_toArray, List.set_cons_zero, List.set_cons_succ]
  refine wpAnyH_ready (rs := [11]) (by kernel_rfl) (by simp) ?_
  refine AllReadyH.cons rfl (fun K hK => ?_) AllReadyH.nil
  go_simp
  refine (cA1.out _ P10).use ?_
  intro v10 e10
  have P11 := below_any (Nat.le_refl _) P10 e10
  go_wp2_with fail
  refine hK.out _ _ (HS.out _ P11) (fun hHeld => ?_)
  clear hK K
  try simp only [List.getElem_toArray, List.getElem_cons_zero, List.getElem_cons_succ, Act.put, List.setIfInBounds_toArray, List.set_cons_zero, List.set_cons_succ]
  refine wpAnyH_take (i := 12) (v := ?_) rfl (by kernel_rfl) (by kernel_rfl) (by kernel_rfl) (fun _ _ _ h => h) (Or.inl ⟨by rfl, ?_⟩) hHeld ?_
  rotate_left
  · (intro w hSw; (try dsimp only at hSw); go_simp; try with_reducible rfl)
  try simp only [List.getElem_toArray, List.getElem_cons_zero, List.getElem_cons_succ, Act.put, List.setIfInBounds_toArray, List.set_cons_zero, List.set_cons_succ]
  refine wpAnyH_take (i := 13) (v := ?_) rfl (by kernel_rfl) (by kernel_rfl) (by kernel_rfl) (fun _ _ _ h => h) (Or.inl ⟨by rfl, ?_⟩) hHeld ?_
  rotate_left
  · (intro w hSw; (try dsimp only at hSw); go_simp; try with_reducible rfl)
  try simp only [List.getElem_toArray, List.getElem_cons_zero, List.getElem_cons_succ, Act.put, List.setIfInBounds_toArray, List.set_cons_zero, List.set_cons_succ]
  refine wpAnyH_take (i := 14) (v := ?_) rfl (by kernel_rfl) (by kernel_rfl) (by kernel_rfl) (fun _ _ _ h => h) (Or.inl ⟨by rfl, ?_⟩) hHeld ?_
  rotate_left
  · (intro w hSw; (try dsimp only at hSw); go_simp; try with_reducible rfl)
  try simp only [List.getElem_toArray, List.getElem_cons_zero, List.getElem_cons_succ, Act.put, List.setIfInBounds_toArray, List.set_cons_zero, List.set_cons_succ]
  refine wpAnyH_take (i := 15) (v := ?_) rfl (by kernel_rfl) (by kernel_rfl) (by kernel_rfl) (fun _ _ _ h => h) (Or.inl ⟨by rfl, ?_⟩) hHeld ?_
  rotate_left
  · (intro w hSw; (try dsimp only at hSw); go_simp; try with_reducible rfl)
  try simp only [List.getElem_toArray, List.getElem_cons_zero, List.getElem_cons_succ, Act.put, List.setIfInBounds_toArray, List.set_cons_zero, List.set_cons_succ]
  refine wpAnyH_take (i := 16) (v := ?_) rfl (by kernel_rfl) (by kernel_rfl) (by kernel_rfl) (fun _ _ _ h => h) (Or.inl ⟨by rfl, ?_⟩) hHeld ?_
  rotate_left
  · (intro w hSw; (try dsimp only at hSw); go_simp; try with_reducible rfl)
  try simp only [List.getElem_toArray, List.getElem_cons_zero, List.getElem_cons_succ, Act.put, List.setIfInBounds_toArray, List.set_cons_zero, List.set_cons_succ]
  refine wpAnyH_take (i := 17) (v := ?_) rfl (by kernel_rfl) (by kernel_rfl) (by kernel_rfl) (fun _ _ _ h => h) (Or.inl ⟨by rfl, ?_⟩) hHeld ?_
  rotate_left
  · (intro w hSw; (try dsimp only at hSw); go_simp; try with_reducible rfl)
  try simp only [List.getElem_toArray, List.getElem_cons_zero, List.getElem_cons_succ, Act.put, List.setIfInBounds_toArray, List.set_cons_zero, List.set_cons_succ]
  refine wpAnyH_take (i := 18) (v := ?_) rfl (by kernel_rfl) (by kernel_rfl) (by kernel_rfl) (fun _ _ _ h => h) (Or.inl ⟨by rfl, ?_⟩) hHeld ?_
  rotate_left
  · (intro w hSw; (try dsimp only at hSw); go_simp; try with_reducible rfl)
  try simp only [List.getElem_toArray, List.getElem_cons_zero, List.getElem_cons_succ, Act.put, List.setIfInBounds_toArray, List.set_cons_zero, List.set_cons_succ]
  refine wpAnyH_take (i := 19) (v := _) rfl (by kernel_rfl) (by kernel_rfl) (by kernel_rfl) (fun _ _ _ h => h) (Or.inl ⟨by rfl, fun w hSw => load_blk hSw.1 rfl rfl Try.underlying38 rfl (by kernel_rfl)⟩) hHeld ?_
  try simp only [List.getElem_toArray, List.getElem_cons_zero, List.getElem_cons_succ, Act.put, List.setIfInBounds_toArray, List.set_cons_zero, List.set_cons_succ]
  refine wpAnyH_take (i := 20) (v := _) rfl (by kernel_rfl) (by kernel_rfl) (by kernel_rfl) (fun _ _ _ h => h) (Or.inl ⟨by rfl, fun w hSw => load_blk hSw.2.1 rfl rfl Try.underlying38 rfl (by kernel_rfl)⟩) hHeld ?_
  try simp only [List.getElem_toArray, List.getElem_cons_zero, List.getElem_cons_succ, Act.put, List.setIfInBounds_toArray, List.set_cons_zero, List.set_cons_succ]
  refine wpAnyH_take (i := 22) (v := _) rfl (by kernel_rfl) (by kernel_rfl) (by kernel_rfl) (fun _ _ _ h => h) (Or.inl ⟨by rfl, fun w hSw => load_blk hSw.1 rfl rfl Try.underlying38 rfl (by kernel_rfl)⟩) hHeld ?_
  try simp only [List.getElem_toArray, List.getElem_cons_zero, List.getElem_cons_succ, Act.put, List.setIfInBounds_toArray, List.set_cons_zero, List.set_cons_succ]
  refine wpAnyH_take (i := 23) (v := _) rfl (by kernel_rfl) (by kernel_rfl) (by kernel_rfl) (fun _ _ _ h => h) (Or.inl ⟨by rfl, fun w hSw => load_blk hSw.2.1 rfl rfl Try.underlying38 rfl (by kernel_rfl)⟩) hHeld ?_
  try simp only [List.getElem_toArray, List.getElem_cons_zero, List.getElem_cons_succ, Act.put, List.setIfInBounds_toArray, List.set_cons_zero, List.set_cons_succ]
  refine wpAnyH_ready (rs := [21]) (by kernel_rfl) (by simp) ?_
  refine AllReadyH.cons rfl (fun K hK => ?_) AllReadyH.nil
  go_simp
  refine (cA2.out _ P11).use ?_
  intro v11 e11
  have P12 := below_any (Nat.le_refl _) P11 e11
  go_wp2_with fail
  refine hK.out _ _ (HS.out _ P12) (fun hHeld => ?_)
  clear hK K
  try simp only [List.getElem_toArray, List.getElem_cons_zero, List.getElem_cons_succ, Act.put, List.setIfInBounds_toArray, List.set_cons_zero, List.set_cons_succ]
  refine wpAnyH_ready (rs := [24]) (by kernel_rfl) (by simp) ?_
  refine AllReadyH.cons rfl (fun K hK => ?_) AllReadyH.nil
  go_simp
  refine (cA3.out _ P12).use ?_
  intro v12 e12
  have P13 := below_any (Nat.le_refl _) P12 e12
  go_wp2_with fail
  refine hK.out _ _ (HS.out _ P13) (fun hHeld => ?_)
  clear hK K
  try simp only [List.getElem_toArray, List.getElem_cons_zero, List.getElem_cons_succ, Act.put, List.setIfInBounds_toArray, List.set_cons_zero, List.set_cons_succ]
  refine wpAnyH_take (i := 25) (v := ?_) rfl (by kernel_rfl) (by kernel_rfl) (by kernel_rfl) (fun _ _ _ h => h) (Or.inl ⟨by rfl, ?_⟩) hHeld ?_
  rotate_left
  · (intro w hSw; (try dsimp only at hSw); go_simp; try with_reducible rfl)
  try simp only [List.getElem_toArray, List.getElem_cons_zero, List.getElem_cons_succ, Act.put, List.setIfInBounds_toArray, List.set_cons_zero, List.set_cons_succ]
  refine wpAnyH_take (i := 26) (v := ?_) rfl (by kernel_rfl) (by kernel_rfl) (by kernel_rfl) (fun _ _ _ h => h) (Or.inl ⟨by rfl, ?_⟩) hHeld ?_
  rotate_left
  · (intro w hSw; (try dsimp only at hSw); go_simp; try with_reducible rfl)
  try simp only [List.getElem_toArray, List.getElem_cons_zero, List.getElem_cons_succ, Act.put, List.setIfInBounds_toArray, List.set_cons_zero, List.set_cons_succ]
  refine wpAnyH_take (i := 27) (v := ?_) rfl (by kernel_rfl) (by kernel_rfl) (by kernel_rfl) (fun _ _ _ h => h) (Or.inl ⟨by rfl, ?_⟩) hHeld ?_
  rotate_left
  · (intro w hSw; (try dsimp only at hSw); go_simp; try with_reducible rfl)
  try simp only [List.getElem_toArray, List.getElem_cons_zero, List.getElem_cons_succ, Act.put, List.setIfInBounds_toArray, List.set_cons_zero, List.set_cons_succ]
  refine wpAnyH_ready (rs := [28]) (by kernel_rfl) (by simp) ?_
  refine AllReadyH.cons rfl (fun K hK => ?_) AllReadyH.nil
  go_simp
  refine (HF.out _).use ?_
  intro v13 e13
  have P14 := below_any (Nat.le_refl _) P13 e13
  go_wp2_with fail
  refine hK.out _ _ (HS.out _ P14) (fun hHeld => ?_)
  clear hK K
  try simp only [List.getElem_toArray, List.getElem_cons_zero, List.getElem_cons_succ, Act.put, List.setIfInBounds_toArray, List.set_cons_zero, List.set_cons_succ]
  refine wpAnyH_take (i := 29) (v := ?_) rfl (by kernel_rfl) (by kernel_rfl) (by kernel_rfl) (fun _ _ _ h => h) (Or.inl ⟨by rfl, ?_⟩) hHeld ?_
  rotate_left
  · (intro w hSw; (try dsimp only at hSw); go_simp; try with_reducible rfl)
  try simp only [List.getElem_toArray, List.getElem_cons_zero, List.getElem_cons_succ, Act.put, List.setIfInBounds_toArray, List.set_cons_zero, List.set_cons_succ]
  refine wpAnyH_take (i := 30) (v := ?_) rfl (by kernel_rfl) (by kernel_rfl) (by kernel_rfl) (fun _ _ _ h => h) (Or.inl ⟨by rfl, ?_⟩) hHeld ?_
  rotate_left
  · (intro w hSw; (try dsimp only at hSw); go_simp; try with_reducible rfl)
  try simp only [List.getElem_toArray, List.getElem_cons_zero, List.getElem_cons_succ, Act.put, List.setIfInBounds_toArray, List.set_cons_zero, List.set_cons_succ]
  refine wpAnyH_done (by kernel_rfl) ?_ _
  go_wp2_with fail
  exact finB hR (below_any (Nat.le_refl _) P7.out P14) rfl
end Go.Proofs.Ythiliodmbipikaa.requestReplies
