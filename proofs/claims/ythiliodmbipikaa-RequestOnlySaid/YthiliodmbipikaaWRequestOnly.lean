/-
  The walk of RequestOnly.
-/
import Derived.Test.YthiliodmbipikaaReqLw
import Derived.Test.YthiliodmbipikaaReqLo
set_option linter.unusedVariables false
set_option linter.unusedSimpArgs false
namespace Go.Proofs.Ythiliodmbipikaa.requestOnly
open Go.RowKit
attribute [local go_sem] ByteArray.extract_mk ByteArray.mk_append_mk

set_option maxHeartbeats 8000000 in
set_option maxRecDepth 100000 in
theorem walk {w : World} (c : Cmd) (rv tv : Value) (hc : CmdArg w c rv tv) :
    RetB Try.prog 9 #[.agg (c.arr rv tv)] w (.bool true) := by
  refine RetB.intro fun R hR => ?_
  have cC := Lib.hid (fun W (hW : Below w.heap.size w W) => cut4 c rv tv W (hc.below hW))
  obtain ⟨W0, hW0, B0, X0, sz0⟩ := start1 w (c.arr rv tv) 29
  have XX := Lib.hid X0
  have SZ := Lib.hid sz0
  have BB := Lib.hid B0
  clear X0 sz0 B0
  have hgen := bd_i64 hc.gen
  have HGEN := Lib.hid hgen
  clear hc hgen
  dsimp only [Cmd.arr] at hW0 cC ⊢
  obtain ⟨HX0, kx0, a0, a1, a2, a3, a4, a5, a6, a7, a8, a9, a10, a11, a12, a13⟩ := arr_cells XX.out
  go_enter Try.func9, Try.ntmps9
  go_wp2_with fail
  try rw [hW0]
  clear hW0 HX0 kx0 a0 a1 a2 a3 a4 a5 a6 a7 a8 a9 a10 a11 a12 a13
  refine (cC.out _ BB.out).use ?_
  intro w1 rv2 tv2 g1
  have bd1 := Lib.hid (cutC_bd c)
  have G1 := Lib.hid g1
  have HG2 : Hid (-9223372036854775808 ≤ (cutC c).gen ∧ (cutC c).gen ≤ 9223372036854775807) := HGEN
  clear g1 cC HGEN
  generalize cutC c = c' at bd1 G1 HG2 ⊢
  have X1 := XX.out.below G1.out.bel
  obtain ⟨HX1, kx1, x0, x1, x2, x3, x4, x5, x6, x7, x8, x9, x10, x11, x12, x13⟩ := arr_cells X1
  have fx1 : ∀ i, w1.frozen? ⟨w.heap.size, i, none⟩ = false := fun i => Blk.frozen X1 i
  obtain ⟨W1, hW1, s1, k1⟩ := setOp X1 c' rv2 tv2
  have O1 := Lib.hid (OpB.store X1 G1.out.cin (B := w.heap.size + 1) (by omega) (fun x hx => by have := G1.out.own1 x hx; have := SZ.out; omega) (fun x hx => by have := G1.out.own2 x hx; have := SZ.out; omega) ⟨s1, k1⟩)
  have P1 := Lib.hid (k1.toBelow (below_any (Nat.le_refl _) BB.out G1.out.bel) (by simp <;> omega))
  have SZ1 : Hid (w.heap.size + 1 ≤ W1.heap.size) := Lib.hid (by have h1 := SZ.out; have h2 := G1.out.bel.size; have h3 := k1.size; omega)
  obtain ⟨ra2, rc2, hrv⟩ := G1.out.cin.recs.form
  obtain ⟨ta2, tc2, htv⟩ := G1.out.cin.tops.form
  subst hrv htv
  clear X1 s1 k1 HX1 XX SZ BB G1
  have cK := Lib.hid (fun W (hW : Below W1.heap.size W1 W) => check4 c' _ _ W (O1.out.below hW).cin bd1.out (fun b hb => ((O1.out.below hW).o1 b hb).2) (fun b hb => ((O1.out.below hW).o2 b hb).2))
  have HF := Lib.hid (fun W => fixed4 W)
  dsimp only [Cmd.arr] at hW1 cK ⊢
  have O1c := O1.out.blk
  dsimp only [Cmd.arr] at O1c
  obtain ⟨HO1c, ko, y0, y1, y2, y3, y4, y5, y6, y7, y8, y9, y10, y11, y12, y13⟩ := arr_cells O1c
  by_cases h0 : ccheck c' = 0
  case neg =>
    have t0 : ((ccheck c' : Nat) : Int) ≠ 0 := by omega
    generalize ((ccheck c' : Nat) : Int) = E at *
    have t1 : (E = 0) = False := eq_false t0
    go_upto_region 2 with fail
    try rw [hW1]
    go_wp2_with fail
    refine (cK.out _ (Below.refl _ _)).use ?_
    intro w2 b2
    go_wp2_with fail
    refine (HF.out _).use ?_
    intro w3 b3
    go_wp2_with fail
    exact finB hR (below_any (Nat.le_refl _) (below_any (Nat.le_refl _) P1.out b2) b3) rfl
  case pos =>
    go_upto_region 2 with fail
    try rw [hW1]
    go_wp2_with fail
    refine ((cK.out _ (Below.refl _ _)).cast (v' := .int .i64 0) (by rw [h0]; rfl)).use ?_
    intro w2 b2
    clear hW1 x0 x1 x2 x3 x4 x5 x6 x7 x8 x9 x10 x11 x12 x13 y0 y1 y2 y3 y4 y5 y6 y7 y8 y9 y10 y11 y12 y13 HO1c ko
    have O2 := Lib.hid (O1.out.below b2)
    have P2 := Lib.hid (below_any (Nat.le_refl _) P1.out b2)
    clear b2 cK O1 P1 SZ1
    go_upto_region 4 with fail
    have HS := Lib.hid (fun W (hW : Below w2.heap.size w2 W) => (O2.out.below hW).blk)
    obtain ⟨NB, N0, N1, N2⟩ := three_new w2 #[.int .i64 0, .string (S []), .int .i64 0, .int .i64 0, .int .i64 0, .int .i64 0, .int .i64 0, .int .i64 0, .slice none 0 0, .string (S []), .string (S []), .int .i64 0, .bool false, .slice none 0 0] 29
    go_cut [3, 4, 5] (fun v3 v4 v5 wx => ∃ x3 x4 x5 : Nat, v3 = .pointer (some ⟨x3, 0, none⟩) ∧ v4 = .pointer (some ⟨x4, 0, none⟩) ∧ v5 = .pointer (some ⟨x5, 0, none⟩) ∧ x3 ≠ x4 ∧ x3 ≠ x5 ∧ x4 ≠ x5 ∧ w2.heap.size ≤ x3 ∧ w2.heap.size ≤ x4 ∧ w2.heap.size ≤ x5 ∧ Below w2.heap.size w2 wx ∧ Blk wx x3 (c'.arr (.slice ra2 c'.recs.length rc2) (.slice ta2 c'.tops.length tc2)) 29 ∧ Blk wx x4 (c'.arr (.slice ra2 c'.recs.length rc2) (.slice ta2 c'.tops.length tc2)) 29 ∧ Blk wx x5 (c'.arr (.slice ra2 c'.recs.length rc2) (.slice ta2 c'.tops.length tc2)) 29)
    case' first =>
      refine wp_region_held_drew (S := (fun w' => Blk w' w.heap.size (c'.arr (.slice ra2 c'.recs.length rc2) (.slice ta2 c'.tops.length tc2)) 29)) (by kernel_rfl) (HS.out _ (Below.refl _ _).drew) (fun hHeld => ?_)
      refine wpAnyH_take (i := 0) (v := _) rfl (by kernel_rfl) (by kernel_rfl) (by kernel_rfl) (fun _ _ _ h => h) (Or.inl ⟨by rfl, fun w hSw => load_blk hSw rfl rfl Try.underlying29 rfl (by kernel_rfl)⟩) hHeld ?_
      try simp only [List.getElem_toArray, List.getElem_cons_zero, List.getElem_cons_succ, Act.put, List.setIfInBounds_toArray, List.set_cons_zero, List.set_cons_succ]
      refine wpAnyH_take (i := 1) (v := _) rfl (by kernel_rfl) (by kernel_rfl) (by kernel_rfl) (fun _ _ _ h => h) (Or.inl ⟨by rfl, fun w hSw => load_blk hSw rfl rfl Try.underlying29 rfl (by kernel_rfl)⟩) hHeld ?_
      try simp only [List.getElem_toArray, List.getElem_cons_zero, List.getElem_cons_succ, Act.put, List.setIfInBounds_toArray, List.set_cons_zero, List.set_cons_succ]
      refine wpAnyH_take (i := 2) (v := _) rfl (by kernel_rfl) (by kernel_rfl) (by kernel_rfl) (fun _ _ _ h => h) (Or.inl ⟨by rfl, fun w hSw => load_blk hSw rfl rfl Try.underlying29 rfl (by kernel_rfl)⟩) hHeld ?_
      try simp only [List.getElem_toArray, List.getElem_cons_zero, List.getElem_cons_succ, Act.put, List.setIfInBounds_toArray, List.set_cons_zero, List.set_cons_succ]
      refine wpAnyH_ready (rs := [3, 4, 5]) (by kernel_rfl) (by simp) ?_
      refine (AllReadyH.cons rfl (fun K hK => ?_) (AllReadyH.cons rfl (fun K hK => ?_) (AllReadyH.cons rfl (fun K hK => ?_) AllReadyH.nil)))
      · go_simp
        refine hK.out _ _ (HS.out _ (by repeat (first | exact Below.refl _ _ | refine Below.drew ?_ | refine below_all ?_))) (fun hHeld => ?_)
        clear hK K
        try simp only [List.getElem_toArray, List.getElem_cons_zero, List.getElem_cons_succ, Act.put, List.setIfInBounds_toArray, List.set_cons_zero, List.set_cons_succ]
        refine wpAnyH_ready (rs := [4, 5]) (by kernel_rfl) (by simp) ?_
        refine (AllReadyH.cons rfl (fun K hK => ?_) (AllReadyH.cons rfl (fun K hK => ?_) AllReadyH.nil))
        · go_simp
          refine hK.out _ _ (HS.out _ (by repeat (first | exact Below.refl _ _ | refine Below.drew ?_ | refine below_all ?_))) (fun hHeld => ?_)
          clear hK K
          try simp only [List.getElem_toArray, List.getElem_cons_zero, List.getElem_cons_succ, Act.put, List.setIfInBounds_toArray, List.set_cons_zero, List.set_cons_succ]
          refine wpAnyH_ready (rs := [5]) (by kernel_rfl) (by simp) ?_
          refine (AllReadyH.cons rfl (fun K hK => ?_) AllReadyH.nil)
          · go_simp
            refine hK.out _ _ (HS.out _ (by repeat (first | exact Below.refl _ _ | refine Below.drew ?_ | refine below_all ?_))) (fun hHeld => ?_)
            clear hK K
            try simp only [List.getElem_toArray, List.getElem_cons_zero, List.getElem_cons_succ, Act.put, List.setIfInBounds_toArray, List.set_cons_zero, List.set_cons_succ]
            obtain ⟨⟨b1, r4⟩, ⟨b2, r5⟩, b3, f3, f4, f5⟩ := stores3 NB N0 N1 N2 (by omega) (by omega) (by omega) (by omega) (by omega) (by omega) (c'.arr (.slice ra2 c'.recs.length rc2) (.slice ta2 c'.tops.length tc2))
            refine wpAnyH_ready (rs := [6]) (by kernel_rfl) (by simp) ?_
            refine AllReadyH.cons rfl (fun K hK => ?_) AllReadyH.nil
            rw [if_pos (by rfl)]
            refine wp_store_row 29 _ _ rfl (w2.heap.size) (c'.arr (.slice ra2 c'.recs.length rc2) (.slice ta2 c'.tops.length tc2)) rfl rfl 29 #[.int .i64 0, .string (S []), .int .i64 0, .int .i64 0, .int .i64 0, .int .i64 0, .int .i64 0, .int .i64 0, .slice none 0 0, .string (S []), .string (S []), .int .i64 0, .bool false, .slice none 0 0] N0 (by kernel_rfl) rfl (arr_one _ _ _ _ _ _ _) ?_
            refine hK.out _ _ (HS.out _ b1) (fun hHeld => ?_)
            clear hK K
            try simp only [List.getElem_toArray, List.getElem_cons_zero, List.getElem_cons_succ, Act.put, List.setIfInBounds_toArray, List.set_cons_zero, List.set_cons_succ]
            refine wpAnyH_ready (rs := [7]) (by kernel_rfl) (by simp) ?_
            refine AllReadyH.cons rfl (fun K hK => ?_) AllReadyH.nil
            rw [if_pos (by rfl)]
            refine wp_store_row 29 _ _ rfl (w2.heap.size + 1) (c'.arr (.slice ra2 c'.recs.length rc2) (.slice ta2 c'.tops.length tc2)) rfl rfl 29 #[.int .i64 0, .string (S []), .int .i64 0, .int .i64 0, .int .i64 0, .int .i64 0, .int .i64 0, .int .i64 0, .slice none 0 0, .string (S []), .string (S []), .int .i64 0, .bool false, .slice none 0 0] r4 (by kernel_rfl) rfl (arr_one _ _ _ _ _ _ _) ?_
            refine hK.out _ _ (HS.out _ b2) (fun hHeld => ?_)
            clear hK K
            try simp only [List.getElem_toArray, List.getElem_cons_zero, List.getElem_cons_succ, Act.put, List.setIfInBounds_toArray, List.set_cons_zero, List.set_cons_succ]
            refine wpAnyH_ready (rs := [8]) (by kernel_rfl) (by simp) ?_
            refine AllReadyH.cons rfl (fun K hK => ?_) AllReadyH.nil
            rw [if_pos (by rfl)]
            refine wp_store_row 29 _ _ rfl (w2.heap.size + 1 + 1) (c'.arr (.slice ra2 c'.recs.length rc2) (.slice ta2 c'.tops.length tc2)) rfl rfl 29 #[.int .i64 0, .string (S []), .int .i64 0, .int .i64 0, .int .i64 0, .int .i64 0, .int .i64 0, .int .i64 0, .slice none 0 0, .string (S []), .string (S []), .int .i64 0, .bool false, .slice none 0 0] r5 (by kernel_rfl) rfl (arr_one _ _ _ _ _ _ _) ?_
            refine hK.out _ _ (HS.out _ b3) (fun hHeld => ?_)
            clear hK K
            try simp only [List.getElem_toArray, List.getElem_cons_zero, List.getElem_cons_succ, Act.put, List.setIfInBounds_toArray, List.set_cons_zero, List.set_cons_succ]
            refine wpAnyH_done (by kernel_rfl) ?_ _
            go_wp2_with fail
            go_meet
            exact ⟨_, _, _, rfl, rfl, rfl, by omega, by omega, by omega, by omega, by omega, by omega, b3, f3, f4, f5⟩
        · go_simp
          refine hK.out _ _ (HS.out _ (by repeat (first | exact Below.refl _ _ | refine Below.drew ?_ | refine below_all ?_))) (fun hHeld => ?_)
          clear hK K
          try simp only [List.getElem_toArray, List.getElem_cons_zero, List.getElem_cons_succ, Act.put, List.setIfInBounds_toArray, List.set_cons_zero, List.set_cons_succ]
          refine wpAnyH_ready (rs := [4]) (by kernel_rfl) (by simp) ?_
          refine (AllReadyH.cons rfl (fun K hK => ?_) AllReadyH.nil)
          · go_simp
            refine hK.out _ _ (HS.out _ (by repeat (first | exact Below.refl _ _ | refine Below.drew ?_ | refine below_all ?_))) (fun hHeld => ?_)
            clear hK K
            try simp only [List.getElem_toArray, List.getElem_cons_zero, List.getElem_cons_succ, Act.put, List.setIfInBounds_toArray, List.set_cons_zero, List.set_cons_succ]
            obtain ⟨⟨b1, r4⟩, ⟨b2, r5⟩, b3, f3, f4, f5⟩ := stores3 NB N0 N2 N1 (by omega) (by omega) (by omega) (by omega) (by omega) (by omega) (c'.arr (.slice ra2 c'.recs.length rc2) (.slice ta2 c'.tops.length tc2))
            refine wpAnyH_ready (rs := [6]) (by kernel_rfl) (by simp) ?_
            refine AllReadyH.cons rfl (fun K hK => ?_) AllReadyH.nil
            rw [if_pos (by rfl)]
            refine wp_store_row 29 _ _ rfl (w2.heap.size) (c'.arr (.slice ra2 c'.recs.length rc2) (.slice ta2 c'.tops.length tc2)) rfl rfl 29 #[.int .i64 0, .string (S []), .int .i64 0, .int .i64 0, .int .i64 0, .int .i64 0, .int .i64 0, .int .i64 0, .slice none 0 0, .string (S []), .string (S []), .int .i64 0, .bool false, .slice none 0 0] N0 (by kernel_rfl) rfl (arr_one _ _ _ _ _ _ _) ?_
            refine hK.out _ _ (HS.out _ b1) (fun hHeld => ?_)
            clear hK K
            try simp only [List.getElem_toArray, List.getElem_cons_zero, List.getElem_cons_succ, Act.put, List.setIfInBounds_toArray, List.set_cons_zero, List.set_cons_succ]
            refine wpAnyH_ready (rs := [7]) (by kernel_rfl) (by simp) ?_
            refine AllReadyH.cons rfl (fun K hK => ?_) AllReadyH.nil
            rw [if_pos (by rfl)]
            refine wp_store_row 29 _ _ rfl (w2.heap.size + 1 + 1) (c'.arr (.slice ra2 c'.recs.length rc2) (.slice ta2 c'.tops.length tc2)) rfl rfl 29 #[.int .i64 0, .string (S []), .int .i64 0, .int .i64 0, .int .i64 0, .int .i64 0, .int .i64 0, .int .i64 0, .slice none 0 0, .string (S []), .string (S []), .int .i64 0, .bool false, .slice none 0 0] r4 (by kernel_rfl) rfl (arr_one _ _ _ _ _ _ _) ?_
            refine hK.out _ _ (HS.out _ b2) (fun hHeld => ?_)
            clear hK K
            try simp only [List.getElem_toArray, List.getElem_cons_zero, List.getElem_cons_succ, Act.put, List.setIfInBounds_toArray, List.set_cons_zero, List.set_cons_succ]
            refine wpAnyH_ready (rs := [8]) (by kernel_rfl) (by simp) ?_
            refine AllReadyH.cons rfl (fun K hK => ?_) AllReadyH.nil
            rw [if_pos (by rfl)]
            refine wp_store_row 29 _ _ rfl (w2.heap.size + 1) (c'.arr (.slice ra2 c'.recs.length rc2) (.slice ta2 c'.tops.length tc2)) rfl rfl 29 #[.int .i64 0, .string (S []), .int .i64 0, .int .i64 0, .int .i64 0, .int .i64 0, .int .i64 0, .int .i64 0, .slice none 0 0, .string (S []), .string (S []), .int .i64 0, .bool false, .slice none 0 0] r5 (by kernel_rfl) rfl (arr_one _ _ _ _ _ _ _) ?_
            refine hK.out _ _ (HS.out _ b3) (fun hHeld => ?_)
            clear hK K
            try simp only [List.getElem_toArray, List.getElem_cons_zero, List.getElem_cons_succ, Act.put, List.setIfInBounds_toArray, List.set_cons_zero, List.set_cons_succ]
            refine wpAnyH_done (by kernel_rfl) ?_ _
            go_wp2_with fail
            go_meet
            exact ⟨_, _, _, rfl, rfl, rfl, by omega, by omega, by omega, by omega, by omega, by omega, b3, f3, f4, f5⟩
      · go_simp
        refine hK.out _ _ (HS.out _ (by repeat (first | exact Below.refl _ _ | refine Below.drew ?_ | refine below_all ?_))) (fun hHeld => ?_)
        clear hK K
        try simp only [List.getElem_toArray, List.getElem_cons_zero, List.getElem_cons_succ, Act.put, List.setIfInBounds_toArray, List.set_cons_zero, List.set_cons_succ]
        refine wpAnyH_ready (rs := [3, 5]) (by kernel_rfl) (by simp) ?_
        refine (AllReadyH.cons rfl (fun K hK => ?_) (AllReadyH.cons rfl (fun K hK => ?_) AllReadyH.nil))
        · go_simp
          refine hK.out _ _ (HS.out _ (by repeat (first | exact Below.refl _ _ | refine Below.drew ?_ | refine below_all ?_))) (fun hHeld => ?_)
          clear hK K
          try simp only [List.getElem_toArray, List.getElem_cons_zero, List.getElem_cons_succ, Act.put, List.setIfInBounds_toArray, List.set_cons_zero, List.set_cons_succ]
          refine wpAnyH_ready (rs := [5]) (by kernel_rfl) (by simp) ?_
          refine (AllReadyH.cons rfl (fun K hK => ?_) AllReadyH.nil)
          · go_simp
            refine hK.out _ _ (HS.out _ (by repeat (first | exact Below.refl _ _ | refine Below.drew ?_ | refine below_all ?_))) (fun hHeld => ?_)
            clear hK K
            try simp only [List.getElem_toArray, List.getElem_cons_zero, List.getElem_cons_succ, Act.put, List.setIfInBounds_toArray, List.set_cons_zero, List.set_cons_succ]
            obtain ⟨⟨b1, r4⟩, ⟨b2, r5⟩, b3, f3, f4, f5⟩ := stores3 NB N1 N0 N2 (by omega) (by omega) (by omega) (by omega) (by omega) (by omega) (c'.arr (.slice ra2 c'.recs.length rc2) (.slice ta2 c'.tops.length tc2))
            refine wpAnyH_ready (rs := [6]) (by kernel_rfl) (by simp) ?_
            refine AllReadyH.cons rfl (fun K hK => ?_) AllReadyH.nil
            rw [if_pos (by rfl)]
            refine wp_store_row 29 _ _ rfl (w2.heap.size + 1) (c'.arr (.slice ra2 c'.recs.length rc2) (.slice ta2 c'.tops.length tc2)) rfl rfl 29 #[.int .i64 0, .string (S []), .int .i64 0, .int .i64 0, .int .i64 0, .int .i64 0, .int .i64 0, .int .i64 0, .slice none 0 0, .string (S []), .string (S []), .int .i64 0, .bool false, .slice none 0 0] N1 (by kernel_rfl) rfl (arr_one _ _ _ _ _ _ _) ?_
            refine hK.out _ _ (HS.out _ b1) (fun hHeld => ?_)
            clear hK K
            try simp only [List.getElem_toArray, List.getElem_cons_zero, List.getElem_cons_succ, Act.put, List.setIfInBounds_toArray, List.set_cons_zero, List.set_cons_succ]
            refine wpAnyH_ready (rs := [7]) (by kernel_rfl) (by simp) ?_
            refine AllReadyH.cons rfl (fun K hK => ?_) AllReadyH.nil
            rw [if_pos (by rfl)]
            refine wp_store_row 29 _ _ rfl (w2.heap.size) (c'.arr (.slice ra2 c'.recs.length rc2) (.slice ta2 c'.tops.length tc2)) rfl rfl 29 #[.int .i64 0, .string (S []), .int .i64 0, .int .i64 0, .int .i64 0, .int .i64 0, .int .i64 0, .int .i64 0, .slice none 0 0, .string (S []), .string (S []), .int .i64 0, .bool false, .slice none 0 0] r4 (by kernel_rfl) rfl (arr_one _ _ _ _ _ _ _) ?_
            refine hK.out _ _ (HS.out _ b2) (fun hHeld => ?_)
            clear hK K
            try simp only [List.getElem_toArray, List.getElem_cons_zero, List.getElem_cons_succ, Act.put, List.setIfInBounds_toArray, List.set_cons_zero, List.set_cons_succ]
            refine wpAnyH_ready (rs := [8]) (by kernel_rfl) (by simp) ?_
            refine AllReadyH.cons rfl (fun K hK => ?_) AllReadyH.nil
            rw [if_pos (by rfl)]
            refine wp_store_row 29 _ _ rfl (w2.heap.size + 1 + 1) (c'.arr (.slice ra2 c'.recs.length rc2) (.slice ta2 c'.tops.length tc2)) rfl rfl 29 #[.int .i64 0, .string (S []), .int .i64 0, .int .i64 0, .int .i64 0, .int .i64 0, .int .i64 0, .int .i64 0, .slice none 0 0, .string (S []), .string (S []), .int .i64 0, .bool false, .slice none 0 0] r5 (by kernel_rfl) rfl (arr_one _ _ _ _ _ _ _) ?_
            refine hK.out _ _ (HS.out _ b3) (fun hHeld => ?_)
            clear hK K
            try simp only [List.getElem_toArray, List.getElem_cons_zero, List.getElem_cons_succ, Act.put, List.setIfInBounds_toArray, List.set_cons_zero, List.set_cons_succ]
            refine wpAnyH_done (by kernel_rfl) ?_ _
            go_wp2_with fail
            go_meet
            exact ⟨_, _, _, rfl, rfl, rfl, by omega, by omega, by omega, by omega, by omega, by omega, b3, f3, f4, f5⟩
        · go_simp
          refine hK.out _ _ (HS.out _ (by repeat (first | exact Below.refl _ _ | refine Below.drew ?_ | refine below_all ?_))) (fun hHeld => ?_)
          clear hK K
          try simp only [List.getElem_toArray, List.getElem_cons_zero, List.getElem_cons_succ, Act.put, List.setIfInBounds_toArray, List.set_cons_zero, List.set_cons_succ]
          refine wpAnyH_ready (rs := [3]) (by kernel_rfl) (by simp) ?_
          refine (AllReadyH.cons rfl (fun K hK => ?_) AllReadyH.nil)
          · go_simp
            refine hK.out _ _ (HS.out _ (by repeat (first | exact Below.refl _ _ | refine Below.drew ?_ | refine below_all ?_))) (fun hHeld => ?_)
            clear hK K
            try simp only [List.getElem_toArray, List.getElem_cons_zero, List.getElem_cons_succ, Act.put, List.setIfInBounds_toArray, List.set_cons_zero, List.set_cons_succ]
            obtain ⟨⟨b1, r4⟩, ⟨b2, r5⟩, b3, f3, f4, f5⟩ := stores3 NB N2 N0 N1 (by omega) (by omega) (by omega) (by omega) (by omega) (by omega) (c'.arr (.slice ra2 c'.recs.length rc2) (.slice ta2 c'.tops.length tc2))
            refine wpAnyH_ready (rs := [6]) (by kernel_rfl) (by simp) ?_
            refine AllReadyH.cons rfl (fun K hK => ?_) AllReadyH.nil
            rw [if_pos (by rfl)]
            refine wp_store_row 29 _ _ rfl (w2.heap.size + 1 + 1) (c'.arr (.slice ra2 c'.recs.length rc2) (.slice ta2 c'.tops.length tc2)) rfl rfl 29 #[.int .i64 0, .string (S []), .int .i64 0, .int .i64 0, .int .i64 0, .int .i64 0, .int .i64 0, .int .i64 0, .slice none 0 0, .string (S []), .string (S []), .int .i64 0, .bool false, .slice none 0 0] N2 (by kernel_rfl) rfl (arr_one _ _ _ _ _ _ _) ?_
            refine hK.out _ _ (HS.out _ b1) (fun hHeld => ?_)
            clear hK K
            try simp only [List.getElem_toArray, List.getElem_cons_zero, List.getElem_cons_succ, Act.put, List.setIfInBounds_toArray, List.set_cons_zero, List.set_cons_succ]
            refine wpAnyH_ready (rs := [7]) (by kernel_rfl) (by simp) ?_
            refine AllReadyH.cons rfl (fun K hK => ?_) AllReadyH.nil
            rw [if_pos (by rfl)]
            refine wp_store_row 29 _ _ rfl (w2.heap.size) (c'.arr (.slice ra2 c'.recs.length rc2) (.slice ta2 c'.tops.length tc2)) rfl rfl 29 #[.int .i64 0, .string (S []), .int .i64 0, .int .i64 0, .int .i64 0, .int .i64 0, .int .i64 0, .int .i64 0, .slice none 0 0, .string (S []), .string (S []), .int .i64 0, .bool false, .slice none 0 0] r4 (by kernel_rfl) rfl (arr_one _ _ _ _ _ _ _) ?_
            refine hK.out _ _ (HS.out _ b2) (fun hHeld => ?_)
            clear hK K
            try simp only [List.getElem_toArray, List.getElem_cons_zero, List.getElem_cons_succ, Act.put, List.setIfInBounds_toArray, List.set_cons_zero, List.set_cons_succ]
            refine wpAnyH_ready (rs := [8]) (by kernel_rfl) (by simp) ?_
            refine AllReadyH.cons rfl (fun K hK => ?_) AllReadyH.nil
            rw [if_pos (by rfl)]
            refine wp_store_row 29 _ _ rfl (w2.heap.size + 1) (c'.arr (.slice ra2 c'.recs.length rc2) (.slice ta2 c'.tops.length tc2)) rfl rfl 29 #[.int .i64 0, .string (S []), .int .i64 0, .int .i64 0, .int .i64 0, .int .i64 0, .int .i64 0, .int .i64 0, .slice none 0 0, .string (S []), .string (S []), .int .i64 0, .bool false, .slice none 0 0] r5 (by kernel_rfl) rfl (arr_one _ _ _ _ _ _ _) ?_
            refine hK.out _ _ (HS.out _ b3) (fun hHeld => ?_)
            clear hK K
            try simp only [List.getElem_toArray, List.getElem_cons_zero, List.getElem_cons_succ, Act.put, List.setIfInBounds_toArray, List.set_cons_zero, List.set_cons_succ]
            refine wpAnyH_done (by kernel_rfl) ?_ _
            go_wp2_with fail
            go_meet
            exact ⟨_, _, _, rfl, rfl, rfl, by omega, by omega, by omega, by omega, by omega, by omega, b3, f3, f4, f5⟩
      · go_simp
        refine hK.out _ _ (HS.out _ (by repeat (first | exact Below.refl _ _ | refine Below.drew ?_ | refine below_all ?_))) (fun hHeld => ?_)
        clear hK K
        try simp only [List.getElem_toArray, List.getElem_cons_zero, List.getElem_cons_succ, Act.put, List.setIfInBounds_toArray, List.set_cons_zero, List.set_cons_succ]
        refine wpAnyH_ready (rs := [3, 4]) (by kernel_rfl) (by simp) ?_
        refine (AllReadyH.cons rfl (fun K hK => ?_) (AllReadyH.cons rfl (fun K hK => ?_) AllReadyH.nil))
        · go_simp
          refine hK.out _ _ (HS.out _ (by repeat (first | exact Below.refl _ _ | refine Below.drew ?_ | refine below_all ?_))) (fun hHeld => ?_)
          clear hK K
          try simp only [List.getElem_toArray, List.getElem_cons_zero, List.getElem_cons_succ, Act.put, List.setIfInBounds_toArray, List.set_cons_zero, List.set_cons_succ]
          refine wpAnyH_ready (rs := [4]) (by kernel_rfl) (by simp) ?_
          refine (AllReadyH.cons rfl (fun K hK => ?_) AllReadyH.nil)
          · go_simp
            refine hK.out _ _ (HS.out _ (by repeat (first | exact Below.refl _ _ | refine Below.drew ?_ | refine below_all ?_))) (fun hHeld => ?_)
            clear hK K
            try simp only [List.getElem_toArray, List.getElem_cons_zero, List.getElem_cons_succ, Act.put, List.setIfInBounds_toArray, List.set_cons_zero, List.set_cons_succ]
            obtain ⟨⟨b1, r4⟩, ⟨b2, r5⟩, b3, f3, f4, f5⟩ := stores3 NB N1 N2 N0 (by omega) (by omega) (by omega) (by omega) (by omega) (by omega) (c'.arr (.slice ra2 c'.recs.length rc2) (.slice ta2 c'.tops.length tc2))
            refine wpAnyH_ready (rs := [6]) (by kernel_rfl) (by simp) ?_
            refine AllReadyH.cons rfl (fun K hK => ?_) AllReadyH.nil
            rw [if_pos (by rfl)]
            refine wp_store_row 29 _ _ rfl (w2.heap.size + 1) (c'.arr (.slice ra2 c'.recs.length rc2) (.slice ta2 c'.tops.length tc2)) rfl rfl 29 #[.int .i64 0, .string (S []), .int .i64 0, .int .i64 0, .int .i64 0, .int .i64 0, .int .i64 0, .int .i64 0, .slice none 0 0, .string (S []), .string (S []), .int .i64 0, .bool false, .slice none 0 0] N1 (by kernel_rfl) rfl (arr_one _ _ _ _ _ _ _) ?_
            refine hK.out _ _ (HS.out _ b1) (fun hHeld => ?_)
            clear hK K
            try simp only [List.getElem_toArray, List.getElem_cons_zero, List.getElem_cons_succ, Act.put, List.setIfInBounds_toArray, List.set_cons_zero, List.set_cons_succ]
            refine wpAnyH_ready (rs := [7]) (by kernel_rfl) (by simp) ?_
            refine AllReadyH.cons rfl (fun K hK => ?_) AllReadyH.nil
            rw [if_pos (by rfl)]
            refine wp_store_row 29 _ _ rfl (w2.heap.size + 1 + 1) (c'.arr (.slice ra2 c'.recs.length rc2) (.slice ta2 c'.tops.length tc2)) rfl rfl 29 #[.int .i64 0, .string (S []), .int .i64 0, .int .i64 0, .int .i64 0, .int .i64 0, .int .i64 0, .int .i64 0, .slice none 0 0, .string (S []), .string (S []), .int .i64 0, .bool false, .slice none 0 0] r4 (by kernel_rfl) rfl (arr_one _ _ _ _ _ _ _) ?_
            refine hK.out _ _ (HS.out _ b2) (fun hHeld => ?_)
            clear hK K
            try simp only [List.getElem_toArray, List.getElem_cons_zero, List.getElem_cons_succ, Act.put, List.setIfInBounds_toArray, List.set_cons_zero, List.set_cons_succ]
            refine wpAnyH_ready (rs := [8]) (by kernel_rfl) (by simp) ?_
            refine AllReadyH.cons rfl (fun K hK => ?_) AllReadyH.nil
            rw [if_pos (by rfl)]
            refine wp_store_row 29 _ _ rfl (w2.heap.size) (c'.arr (.slice ra2 c'.recs.length rc2) (.slice ta2 c'.tops.length tc2)) rfl rfl 29 #[.int .i64 0, .string (S []), .int .i64 0, .int .i64 0, .int .i64 0, .int .i64 0, .int .i64 0, .int .i64 0, .slice none 0 0, .string (S []), .string (S []), .int .i64 0, .bool false, .slice none 0 0] r5 (by kernel_rfl) rfl (arr_one _ _ _ _ _ _ _) ?_
            refine hK.out _ _ (HS.out _ b3) (fun hHeld => ?_)
            clear hK K
            try simp only [List.getElem_toArray, List.getElem_cons_zero, List.getElem_cons_succ, Act.put, List.setIfInBounds_toArray, List.set_cons_zero, List.set_cons_succ]
            refine wpAnyH_done (by kernel_rfl) ?_ _
            go_wp2_with fail
            go_meet
            exact ⟨_, _, _, rfl, rfl, rfl, by omega, by omega, by omega, by omega, by omega, by omega, b3, f3, f4, f5⟩
        · go_simp
          refine hK.out _ _ (HS.out _ (by repeat (first | exact Below.refl _ _ | refine Below.drew ?_ | refine below_all ?_))) (fun hHeld => ?_)
          clear hK K
          try simp only [List.getElem_toArray, List.getElem_cons_zero, List.getElem_cons_succ, Act.put, List.setIfInBounds_toArray, List.set_cons_zero, List.set_cons_succ]
          refine wpAnyH_ready (rs := [3]) (by kernel_rfl) (by simp) ?_
          refine (AllReadyH.cons rfl (fun K hK => ?_) AllReadyH.nil)
          · go_simp
            refine hK.out _ _ (HS.out _ (by repeat (first | exact Below.refl _ _ | refine Below.drew ?_ | refine below_all ?_))) (fun hHeld => ?_)
            clear hK K
            try simp only [List.getElem_toArray, List.getElem_cons_zero, List.getElem_cons_succ, Act.put, List.setIfInBounds_toArray, List.set_cons_zero, List.set_cons_succ]
            obtain ⟨⟨b1, r4⟩, ⟨b2, r5⟩, b3, f3, f4, f5⟩ := stores3 NB N2 N1 N0 (by omega) (by omega) (by omega) (by omega) (by omega) (by omega) (c'.arr (.slice ra2 c'.recs.length rc2) (.slice ta2 c'.tops.length tc2))
            refine wpAnyH_ready (rs := [6]) (by kernel_rfl) (by simp) ?_
            refine AllReadyH.cons rfl (fun K hK => ?_) AllReadyH.nil
            rw [if_pos (by rfl)]
            refine wp_store_row 29 _ _ rfl (w2.heap.size + 1 + 1) (c'.arr (.slice ra2 c'.recs.length rc2) (.slice ta2 c'.tops.length tc2)) rfl rfl 29 #[.int .i64 0, .string (S []), .int .i64 0, .int .i64 0, .int .i64 0, .int .i64 0, .int .i64 0, .int .i64 0, .slice none 0 0, .string (S []), .string (S []), .int .i64 0, .bool false, .slice none 0 0] N2 (by kernel_rfl) rfl (arr_one _ _ _ _ _ _ _) ?_
            refine hK.out _ _ (HS.out _ b1) (fun hHeld => ?_)
            clear hK K
            try simp only [List.getElem_toArray, List.getElem_cons_zero, List.getElem_cons_succ, Act.put, List.setIfInBounds_toArray, List.set_cons_zero, List.set_cons_succ]
            refine wpAnyH_ready (rs := [7]) (by kernel_rfl) (by simp) ?_
            refine AllReadyH.cons rfl (fun K hK => ?_) AllReadyH.nil
            rw [if_pos (by rfl)]
            refine wp_store_row 29 _ _ rfl (w2.heap.size + 1) (c'.arr (.slice ra2 c'.recs.length rc2) (.slice ta2 c'.tops.length tc2)) rfl rfl 29 #[.int .i64 0, .string (S []), .int .i64 0, .int .i64 0, .int .i64 0, .int .i64 0, .int .i64 0, .int .i64 0, .slice none 0 0, .string (S []), .string (S []), .int .i64 0, .bool false, .slice none 0 0] r4 (by kernel_rfl) rfl (arr_one _ _ _ _ _ _ _) ?_
            refine hK.out _ _ (HS.out _ b2) (fun hHeld => ?_)
            clear hK K
            try simp only [List.getElem_toArray, List.getElem_cons_zero, List.getElem_cons_succ, Act.put, List.setIfInBounds_toArray, List.set_cons_zero, List.set_cons_succ]
            refine wpAnyH_ready (rs := [8]) (by kernel_rfl) (by simp) ?_
            refine AllReadyH.cons rfl (fun K hK => ?_) AllReadyH.nil
            rw [if_pos (by rfl)]
            refine wp_store_row 29 _ _ rfl (w2.heap.size) (c'.arr (.slice ra2 c'.recs.length rc2) (.slice ta2 c'.tops.length tc2)) rfl rfl 29 #[.int .i64 0, .string (S []), .int .i64 0, .int .i64 0, .int .i64 0, .int .i64 0, .int .i64 0, .int .i64 0, .slice none 0 0, .string (S []), .string (S []), .int .i64 0, .bool false, .slice none 0 0] r5 (by kernel_rfl) rfl (arr_one _ _ _ _ _ _ _) ?_
            refine hK.out _ _ (HS.out _ b3) (fun hHeld => ?_)
            clear hK K
            try simp only [List.getElem_toArray, List.getElem_cons_zero, List.getElem_cons_succ, Act.put, List.setIfInBounds_toArray, List.set_cons_zero, List.set_cons_succ]
            refine wpAnyH_done (by kernel_rfl) ?_ _
            go_wp2_with fail
            go_meet
            exact ⟨_, _, _, rfl, rfl, rfl, by omega, by omega, by omega, by omega, by omega, by omega, b3, f3, f4, f5⟩
    obtain ⟨x3, x4, x5, rfl, rfl, rfl, n1, n2, n3, l3, l4, l5, BC, h3, h4, h5⟩ := hcut
    obtain ⟨G, hG⟩ : ∃ G, IntKind.i64.wrap (c'.gen + 1) = G := ⟨_, rfl⟩
    obtain ⟨V, hV, BV, k3, k4, k5⟩ := turn3 BC h3 h4 h5 n1 n2 n3 l3 l4 l5 13 G true
    have OV := Lib.hid (O2.out.below BV)
    have PV := Lib.hid (below_any (Nat.le_refl _) P2.out BV)
    have K3 := Lib.hid k3
    have K4 := Lib.hid k4
    have K5 := Lib.hid k5
    have g3 : ∀ i, wc.frozen? ⟨x3, i, none⟩ = false := fun i => Blk.frozen h3 i
    have g4 : ∀ i, wc.frozen? ⟨x4, i, none⟩ = false := fun i => Blk.frozen h4 i
    have g5 : ∀ i, wc.frozen? ⟨x5, i, none⟩ = false := fun i => Blk.frozen h5 i
    have m1 : x4 ≠ x3 := Ne.symm n1
    have m2 : x5 ≠ x3 := Ne.symm n2
    have m3 : x5 ≠ x4 := Ne.symm n3
    have OC := (O2.out.below BC).blk
    have hlt := OC.lt
    have e3 : w.heap.size ≠ x3 := by have := O2.out.blk.lt; omega
    have e4 : w.heap.size ≠ x4 := by have := O2.out.blk.lt; omega
    have e5 : w.heap.size ≠ x5 := by have := O2.out.blk.lt; omega
    have ke3 : x3 < wc.heap.size := h3.lt
    have ke4 : x4 < wc.heap.size := h4.lt
    have ke5 : x5 < wc.heap.size := h5.lt
    have y3 := h3.cell 0
    have y4 := h4.cell 11
    have y5 := h5.cell 12
    have y6 := OC.cell 11
    dsimp only [Cmd.arr] at y3 y4 y5 y6 OC
    simp only [List.getElem?_toArray, List.getElem?_cons_succ, List.getElem?_cons_zero] at y3 y4 y5 y6
    have HBV := Lib.hid BV
    clear k3 k4 k5 h3 h4 h5 BC OC BV
    go_upto_region 8 with fail
    try rw [hV]
    clear hV g3 g4 g5 m1 m2 m3 n1 n2 n3 l3 l4 l5 e3 e4 e5 ke3 ke4 ke5 y3 y4 y5 y6 hlt N0 N1 N2 NB HBV
    have OVb := OV.out.blk
    have K3b := K3.out
    dsimp only [Cmd.arr] at OVb K3b
    obtain ⟨HOV, kov, y0, y1, y2, y3, y4, y5, y6, y7, y8, y9, y10, y11, y12, y13⟩ := arr_cells OVb
    obtain ⟨HK3, k3l, z0, z1, z2, z3, z4, z5, z6, z7, z8, z9, z10, z11, z12, z13⟩ := arr_cells K3b
    clear HOV HK3 OVb K3b
    have ok := ccheck_ok h0
    have hkk := ok.kind
    have bdA : Hid (CmdBd { c' with kind := 13 }) := Lib.hid ⟨bd1.out.topic, bd1.out.group, bd1.out.member, bd1.out.recs, bd1.out.tops⟩
    have bdB : Hid (CmdBd { c' with gen := G }) := Lib.hid ⟨bd1.out.topic, bd1.out.group, bd1.out.member, bd1.out.recs, bd1.out.tops⟩
    have bdC : Hid (CmdBd { c' with robin := true }) := Lib.hid ⟨bd1.out.topic, bd1.out.group, bd1.out.member, bd1.out.recs, bd1.out.tops⟩
    have cA := Lib.hid ((check4 { c' with kind := 13 } (.slice ra2 c'.recs.length rc2) (.slice ta2 c'.tops.length tc2) V ⟨OV.out.cin.recs, OV.out.cin.tops⟩ bdA.out (fun b hb => (OV.out.o1 b hb).2) (fun b hb => (OV.out.o2 b hb).2)).cast (v' := .int .i64 41) (by rw [check_kind13]; rfl))
    have cB := Lib.hid (fun W (hW : Below V.heap.size V W) => check4 { c' with gen := G } (.slice ra2 c'.recs.length rc2) (.slice ta2 c'.tops.length tc2) W ⟨(OV.out.below hW).cin.recs, (OV.out.below hW).cin.tops⟩ bdB.out (fun b hb => ((OV.out.below hW).o1 b hb).2) (fun b hb => ((OV.out.below hW).o2 b hb).2))
    obtain ⟨E, hE⟩ : ∃ E, ccheck { c' with robin := true } = E := ⟨_, rfl⟩
    have hE2 : E = if c'.kind = 6 then 0 else 40 := by rw [← hE]; exact only_robin h0
    have cC := Lib.hid (fun W (hW : Below V.heap.size V W) => (check4 { c' with robin := true } (.slice ra2 c'.recs.length rc2) (.slice ta2 c'.tops.length tc2) W ⟨(OV.out.below hW).cin.recs, (OV.out.below hW).cin.tops⟩ bdC.out (fun b hb => ((OV.out.below hW).o1 b hb).2) (fun b hb => ((OV.out.below hW).o2 b hb).2)).cast (v' := .int .i64 E) (by rw [hE]))
    have HB40 : Hid (¬ (7 ≤ c'.kind ∧ c'.kind ≤ 10) → ccheck { c' with gen := G } = 40) := Lib.hid (fun h => by
      obtain ⟨h1, h2⟩ := only_gen h0 h
      have h3 : G = 1 := by rw [← hG, h1]; decide
      rw [h3]; exact h2)
    clear hE hG ok h0 bdA bdB bdC bd1 HG2
    dsimp only [Cmd.arr] at cA cB
    have HSV := Lib.hid (fun W (hW : Below V.heap.size V W) => And.intro (OV.out.below hW).blk (K5.out.below hW))
    by_cases g1 : 7 ≤ c'.kind
    · have r1 : ((7 : Int) ≤ c'.kind) = True := eq_true g1
      by_cases g2 : c'.kind ≤ 10
      · have r2 : (c'.kind ≤ 10) = True := eq_true g2
        rw [if_neg (by omega)] at hE2
        subst hE2
        have s1 : (c'.kind = 6) = False := eq_false (by omega)
        have s2 : (c'.kind == 6) = false := beq_eq_false_iff_ne.2 (by omega)
        clear HB40 cB
        go_wp2_with fail
        refine cA.out.use ?_
        intro w5 b5
        have P5 := Lib.hid b5
        have P6 := b5
        clear y0 y1 y2 y3 y4 y5 y6 y7 y8 y9 y10 y11 y12 y13 z0 z1 z2 z3 z4 z5 z6 z7 z8 z9 z10 z11 z12 z13
        go_upto_region 11 with fail
        have Q0 := P6.drew
        refine wp_region_held_drew (S := (fun w' => Blk w' w.heap.size (c'.arr (.slice ra2 c'.recs.length rc2) (.slice ta2 c'.tops.length tc2)) 29 ∧ Blk w' x5 (({ c' with robin := true } : Cmd).arr (.slice ra2 c'.recs.length rc2) (.slice ta2 c'.tops.length tc2)) 29)) (by kernel_rfl) (HSV.out _ Q0) (fun hHeld => ?_)
        refine wpAnyH_take (i := 0) (v := ?_) rfl (by kernel_rfl) (by kernel_rfl) (by kernel_rfl) (fun _ _ _ h => h) (Or.inl ⟨by rfl, ?_⟩) hHeld ?_
        rotate_left
        · (intro w hSw; (try dsimp only at hSw); have hc0 := hSw.1.cell 0; dsimp only [Cmd.arr] at hc0; simp only [List.getElem?_toArray, List.getElem?_cons_zero] at hc0; go_simp; try with_reducible rfl)
        try simp only [List.getElem_toArray, List.getElem_cons_zero, List.getElem_cons_succ, Act.put, List.setIfInBounds_toArray, List.set_cons_zero, List.set_cons_succ]
        refine wpAnyH_take (i := 1) (v := ?_) rfl (by kernel_rfl) (by kernel_rfl) (by kernel_rfl) (fun _ _ _ h => h) (Or.inl ⟨by rfl, ?_⟩) hHeld ?_
        rotate_left
        · (intro w hSw; (try dsimp only at hSw); have hc0 := hSw.1.cell 0; dsimp only [Cmd.arr] at hc0; simp only [List.getElem?_toArray, List.getElem?_cons_zero] at hc0; go_simp; try with_reducible rfl)
        try simp only [List.getElem_toArray, List.getElem_cons_zero, List.getElem_cons_succ, Act.put, List.setIfInBounds_toArray, List.set_cons_zero, List.set_cons_succ]
        refine wpAnyH_take (i := 2) (v := ?_) rfl (by kernel_rfl) (by kernel_rfl) (by kernel_rfl) (fun _ _ _ h => h) (Or.inl ⟨by rfl, ?_⟩) hHeld ?_
        rotate_left
        · (intro w hSw; (try dsimp only at hSw); have hc0 := hSw.1.cell 0; dsimp only [Cmd.arr] at hc0; simp only [List.getElem?_toArray, List.getElem?_cons_zero] at hc0; go_simp; try with_reducible rfl)
        try simp only [List.getElem_toArray, List.getElem_cons_zero, List.getElem_cons_succ, Act.put, List.setIfInBounds_toArray, List.set_cons_zero, List.set_cons_succ]
        refine wpAnyH_take (i := 3) (v := _) rfl (by kernel_rfl) (by kernel_rfl) (by kernel_rfl) (fun _ _ _ h => h) (Or.inl ⟨by rfl, fun w hSw => load_blk hSw.2 rfl rfl Try.underlying29 rfl (by kernel_rfl)⟩) hHeld ?_
        try simp only [List.getElem_toArray, List.getElem_cons_zero, List.getElem_cons_succ, Act.put, List.setIfInBounds_toArray, List.set_cons_zero, List.set_cons_succ]
        refine wpAnyH_ready (rs := [4]) (by kernel_rfl) (by simp) ?_
        refine AllReadyH.cons rfl (fun K hK => ?_) AllReadyH.nil
        go_simp
        refine (cC.out _ Q0).use ?_
        intro w7 b7
        have Q1 := below_any (Nat.le_refl _) Q0 b7
        go_wp2_with fail
        refine hK.out _ _ (HSV.out _ Q1) (fun hHeld => ?_)
        clear hK K
        try simp only [List.getElem_toArray, List.getElem_cons_zero, List.getElem_cons_succ, Act.put, List.setIfInBounds_toArray, List.set_cons_zero, List.set_cons_succ]
        refine wpAnyH_take (i := 5) (v := ?_) rfl (by kernel_rfl) (by kernel_rfl) (by kernel_rfl) (fun _ _ _ h => h) (Or.inl ⟨by rfl, ?_⟩) hHeld ?_
        rotate_left
        · (intro w hSw; (try dsimp only at hSw); have hc0 := hSw.1.cell 0; dsimp only [Cmd.arr] at hc0; simp only [List.getElem?_toArray, List.getElem?_cons_zero] at hc0; go_simp; try with_reducible rfl)
        try simp only [List.getElem_toArray, List.getElem_cons_zero, List.getElem_cons_succ, Act.put, List.setIfInBounds_toArray, List.set_cons_zero, List.set_cons_succ]
        refine wpAnyH_take (i := 6) (v := ?_) rfl (by kernel_rfl) (by kernel_rfl) (by kernel_rfl) (fun _ _ _ h => h) (Or.inl ⟨by rfl, ?_⟩) hHeld ?_
        rotate_left
        · (intro w hSw; (try dsimp only at hSw); have hc0 := hSw.1.cell 0; dsimp only [Cmd.arr] at hc0; simp only [List.getElem?_toArray, List.getElem?_cons_zero] at hc0; go_simp; try with_reducible rfl)
        try simp only [List.getElem_toArray, List.getElem_cons_zero, List.getElem_cons_succ, Act.put, List.setIfInBounds_toArray, List.set_cons_zero, List.set_cons_succ]
        refine wpAnyH_take (i := 7) (v := ?_) rfl (by kernel_rfl) (by kernel_rfl) (by kernel_rfl) (fun _ _ _ h => h) (Or.inl ⟨by rfl, ?_⟩) hHeld ?_
        rotate_left
        · (intro w hSw; (try dsimp only at hSw); have hc0 := hSw.1.cell 0; dsimp only [Cmd.arr] at hc0; simp only [List.getElem?_toArray, List.getElem?_cons_zero] at hc0; go_simp; try with_reducible rfl)
        try simp only [List.getElem_toArray, List.getElem_cons_zero, List.getElem_cons_succ, Act.put, List.setIfInBounds_toArray, List.set_cons_zero, List.set_cons_succ]
        refine wpAnyH_ready (rs := [8]) (by kernel_rfl) (by simp) ?_
        refine AllReadyH.cons rfl (fun K hK => ?_) AllReadyH.nil
        go_simp
        refine (HF.out _).use ?_
        intro w8 b8
        have Q2 := below_any (Nat.le_refl _) Q1 b8
        go_wp2_with fail
        refine hK.out _ _ (HSV.out _ Q2) (fun hHeld => ?_)
        clear hK K
        try simp only [List.getElem_toArray, List.getElem_cons_zero, List.getElem_cons_succ, Act.put, List.setIfInBounds_toArray, List.set_cons_zero, List.set_cons_succ]
        refine wpAnyH_take (i := 9) (v := ?_) rfl (by kernel_rfl) (by kernel_rfl) (by kernel_rfl) (fun _ _ _ h => h) (Or.inl ⟨by rfl, ?_⟩) hHeld ?_
        rotate_left
        · (intro w hSw; (try dsimp only at hSw); have hc0 := hSw.1.cell 0; dsimp only [Cmd.arr] at hc0; simp only [List.getElem?_toArray, List.getElem?_cons_zero] at hc0; go_simp; try with_reducible rfl)
        try simp only [List.getElem_toArray, List.getElem_cons_zero, List.getElem_cons_succ, Act.put, List.setIfInBounds_toArray, List.set_cons_zero, List.set_cons_succ]
        refine wpAnyH_take (i := 10) (v := ?_) rfl (by kernel_rfl) (by kernel_rfl) (by kernel_rfl) (fun _ _ _ h => h) (Or.inl ⟨by rfl, ?_⟩) hHeld ?_
        rotate_left
        · (intro w hSw; (try dsimp only at hSw); have hc0 := hSw.1.cell 0; dsimp only [Cmd.arr] at hc0; simp only [List.getElem?_toArray, List.getElem?_cons_zero] at hc0; go_simp; try with_reducible rfl)
        try simp only [List.getElem_toArray, List.getElem_cons_zero, List.getElem_cons_succ, Act.put, List.setIfInBounds_toArray, List.set_cons_zero, List.set_cons_succ]
        refine wpAnyH_done (by kernel_rfl) ?_ _
        go_wp2_with fail
        exact finB hR (below_any (Nat.le_refl _) PV.out Q2) rfl
      · have r2 : (c'.kind ≤ 10) = False := eq_false g2
        rw [if_neg (by omega)] at hE2
        subst hE2
        have s1 : (c'.kind = 6) = False := eq_false (by omega)
        have s2 : (c'.kind == 6) = false := beq_eq_false_iff_ne.2 (by omega)
        have cB1 := Lib.hid (fun W hW => (cB.out W hW).cast (v' := .int .i64 40) (by rw [HB40.out (by omega)]; rfl))
        clear HB40 cB
        go_wp2_with fail
        refine cA.out.use ?_
        intro w5 b5
        have P5 := Lib.hid b5
        have K4b := K4.out.below b5
        dsimp only [Cmd.arr] at K4b
        obtain ⟨HK4, k4l, v0, v1, v2, v3, v4, v5, v6, v7, v8, v9, v10, v11, v12, v13⟩ := arr_cells K4b
        clear HK4 K4b
        clear y0 y1 y2 y3 y4 y5 y6 y7 y8 y9 y10 y11 y12 y13 z0 z1 z2 z3 z4 z5 z6 z7 z8 z9 z10 z11 z12 z13
        go_wp2_with fail
        refine (cB1.out _ P5.out).use ?_
        intro w6 b6
        have P6 := below_any (Nat.le_refl _) P5.out b6
        clear v0 v1 v2 v3 v4 v5 v6 v7 v8 v9 v10 v11 v12 v13
        go_upto_region 11 with fail
        have Q0 := P6.drew
        refine wp_region_held_drew (S := (fun w' => Blk w' w.heap.size (c'.arr (.slice ra2 c'.recs.length rc2) (.slice ta2 c'.tops.length tc2)) 29 ∧ Blk w' x5 (({ c' with robin := true } : Cmd).arr (.slice ra2 c'.recs.length rc2) (.slice ta2 c'.tops.length tc2)) 29)) (by kernel_rfl) (HSV.out _ Q0) (fun hHeld => ?_)
        refine wpAnyH_take (i := 0) (v := ?_) rfl (by kernel_rfl) (by kernel_rfl) (by kernel_rfl) (fun _ _ _ h => h) (Or.inl ⟨by rfl, ?_⟩) hHeld ?_
        rotate_left
        · (intro w hSw; (try dsimp only at hSw); have hc0 := hSw.1.cell 0; dsimp only [Cmd.arr] at hc0; simp only [List.getElem?_toArray, List.getElem?_cons_zero] at hc0; go_simp; try with_reducible rfl)
        try simp only [List.getElem_toArray, List.getElem_cons_zero, List.getElem_cons_succ, Act.put, List.setIfInBounds_toArray, List.set_cons_zero, List.set_cons_succ]
        refine wpAnyH_take (i := 1) (v := ?_) rfl (by kernel_rfl) (by kernel_rfl) (by kernel_rfl) (fun _ _ _ h => h) (Or.inl ⟨by rfl, ?_⟩) hHeld ?_
        rotate_left
        · (intro w hSw; (try dsimp only at hSw); have hc0 := hSw.1.cell 0; dsimp only [Cmd.arr] at hc0; simp only [List.getElem?_toArray, List.getElem?_cons_zero] at hc0; go_simp; try with_reducible rfl)
        try simp only [List.getElem_toArray, List.getElem_cons_zero, List.getElem_cons_succ, Act.put, List.setIfInBounds_toArray, List.set_cons_zero, List.set_cons_succ]
        refine wpAnyH_take (i := 2) (v := ?_) rfl (by kernel_rfl) (by kernel_rfl) (by kernel_rfl) (fun _ _ _ h => h) (Or.inl ⟨by rfl, ?_⟩) hHeld ?_
        rotate_left
        · (intro w hSw; (try dsimp only at hSw); have hc0 := hSw.1.cell 0; dsimp only [Cmd.arr] at hc0; simp only [List.getElem?_toArray, List.getElem?_cons_zero] at hc0; go_simp; try with_reducible rfl)
        try simp only [List.getElem_toArray, List.getElem_cons_zero, List.getElem_cons_succ, Act.put, List.setIfInBounds_toArray, List.set_cons_zero, List.set_cons_succ]
        refine wpAnyH_take (i := 3) (v := _) rfl (by kernel_rfl) (by kernel_rfl) (by kernel_rfl) (fun _ _ _ h => h) (Or.inl ⟨by rfl, fun w hSw => load_blk hSw.2 rfl rfl Try.underlying29 rfl (by kernel_rfl)⟩) hHeld ?_
        try simp only [List.getElem_toArray, List.getElem_cons_zero, List.getElem_cons_succ, Act.put, List.setIfInBounds_toArray, List.set_cons_zero, List.set_cons_succ]
        refine wpAnyH_ready (rs := [4]) (by kernel_rfl) (by simp) ?_
        refine AllReadyH.cons rfl (fun K hK => ?_) AllReadyH.nil
        go_simp
        refine (cC.out _ Q0).use ?_
        intro w7 b7
        have Q1 := below_any (Nat.le_refl _) Q0 b7
        go_wp2_with fail
        refine hK.out _ _ (HSV.out _ Q1) (fun hHeld => ?_)
        clear hK K
        try simp only [List.getElem_toArray, List.getElem_cons_zero, List.getElem_cons_succ, Act.put, List.setIfInBounds_toArray, List.set_cons_zero, List.set_cons_succ]
        refine wpAnyH_take (i := 5) (v := ?_) rfl (by kernel_rfl) (by kernel_rfl) (by kernel_rfl) (fun _ _ _ h => h) (Or.inl ⟨by rfl, ?_⟩) hHeld ?_
        rotate_left
        · (intro w hSw; (try dsimp only at hSw); have hc0 := hSw.1.cell 0; dsimp only [Cmd.arr] at hc0; simp only [List.getElem?_toArray, List.getElem?_cons_zero] at hc0; go_simp; try with_reducible rfl)
        try simp only [List.getElem_toArray, List.getElem_cons_zero, List.getElem_cons_succ, Act.put, List.setIfInBounds_toArray, List.set_cons_zero, List.set_cons_succ]
        refine wpAnyH_take (i := 6) (v := ?_) rfl (by kernel_rfl) (by kernel_rfl) (by kernel_rfl) (fun _ _ _ h => h) (Or.inl ⟨by rfl, ?_⟩) hHeld ?_
        rotate_left
        · (intro w hSw; (try dsimp only at hSw); have hc0 := hSw.1.cell 0; dsimp only [Cmd.arr] at hc0; simp only [List.getElem?_toArray, List.getElem?_cons_zero] at hc0; go_simp; try with_reducible rfl)
        try simp only [List.getElem_toArray, List.getElem_cons_zero, List.getElem_cons_succ, Act.put, List.setIfInBounds_toArray, List.set_cons_zero, List.set_cons_succ]
        refine wpAnyH_take (i := 7) (v := ?_) rfl (by kernel_rfl) (by kernel_rfl) (by kernel_rfl) (fun _ _ _ h => h) (Or.inl ⟨by rfl, ?_⟩) hHeld ?_
        rotate_left
        · (intro w hSw; (try dsimp only at hSw); have hc0 := hSw.1.cell 0; dsimp only [Cmd.arr] at hc0; simp only [List.getElem?_toArray, List.getElem?_cons_zero] at hc0; go_simp; try with_reducible rfl)
        try simp only [List.getElem_toArray, List.getElem_cons_zero, List.getElem_cons_succ, Act.put, List.setIfInBounds_toArray, List.set_cons_zero, List.set_cons_succ]
        refine wpAnyH_ready (rs := [8]) (by kernel_rfl) (by simp) ?_
        refine AllReadyH.cons rfl (fun K hK => ?_) AllReadyH.nil
        go_simp
        refine (HF.out _).use ?_
        intro w8 b8
        have Q2 := below_any (Nat.le_refl _) Q1 b8
        go_wp2_with fail
        refine hK.out _ _ (HSV.out _ Q2) (fun hHeld => ?_)
        clear hK K
        try simp only [List.getElem_toArray, List.getElem_cons_zero, List.getElem_cons_succ, Act.put, List.setIfInBounds_toArray, List.set_cons_zero, List.set_cons_succ]
        refine wpAnyH_take (i := 9) (v := ?_) rfl (by kernel_rfl) (by kernel_rfl) (by kernel_rfl) (fun _ _ _ h => h) (Or.inl ⟨by rfl, ?_⟩) hHeld ?_
        rotate_left
        · (intro w hSw; (try dsimp only at hSw); have hc0 := hSw.1.cell 0; dsimp only [Cmd.arr] at hc0; simp only [List.getElem?_toArray, List.getElem?_cons_zero] at hc0; go_simp; try with_reducible rfl)
        try simp only [List.getElem_toArray, List.getElem_cons_zero, List.getElem_cons_succ, Act.put, List.setIfInBounds_toArray, List.set_cons_zero, List.set_cons_succ]
        refine wpAnyH_take (i := 10) (v := ?_) rfl (by kernel_rfl) (by kernel_rfl) (by kernel_rfl) (fun _ _ _ h => h) (Or.inl ⟨by rfl, ?_⟩) hHeld ?_
        rotate_left
        · (intro w hSw; (try dsimp only at hSw); have hc0 := hSw.1.cell 0; dsimp only [Cmd.arr] at hc0; simp only [List.getElem?_toArray, List.getElem?_cons_zero] at hc0; go_simp; try with_reducible rfl)
        try simp only [List.getElem_toArray, List.getElem_cons_zero, List.getElem_cons_succ, Act.put, List.setIfInBounds_toArray, List.set_cons_zero, List.set_cons_succ]
        refine wpAnyH_done (by kernel_rfl) ?_ _
        go_wp2_with fail
        exact finB hR (below_any (Nat.le_refl _) PV.out Q2) rfl
    · have r1 : ((7 : Int) ≤ c'.kind) = False := eq_false g1
      by_cases g2 : c'.kind = 6
      · skip
        rw [if_pos (by omega)] at hE2
        subst hE2
        have s1 : (c'.kind = 6) = True := eq_true (by omega)
        have s2 : (c'.kind == 6) = true := beq_iff_eq.2 (by omega)
        have cB1 := Lib.hid (fun W hW => (cB.out W hW).cast (v' := .int .i64 40) (by rw [HB40.out (by omega)]; rfl))
        clear g2
        clear HB40 cB
        go_wp2_with fail
        refine cA.out.use ?_
        intro w5 b5
        have P5 := Lib.hid b5
        have K4b := K4.out.below b5
        dsimp only [Cmd.arr] at K4b
        obtain ⟨HK4, k4l, v0, v1, v2, v3, v4, v5, v6, v7, v8, v9, v10, v11, v12, v13⟩ := arr_cells K4b
        clear HK4 K4b
        clear y0 y1 y2 y3 y4 y5 y6 y7 y8 y9 y10 y11 y12 y13 z0 z1 z2 z3 z4 z5 z6 z7 z8 z9 z10 z11 z12 z13
        go_wp2_with fail
        refine (cB1.out _ P5.out).use ?_
        intro w6 b6
        have P6 := below_any (Nat.le_refl _) P5.out b6
        clear v0 v1 v2 v3 v4 v5 v6 v7 v8 v9 v10 v11 v12 v13
        go_upto_region 11 with fail
        have Q0 := P6.drew
        refine wp_region_held_drew (S := (fun w' => Blk w' w.heap.size (c'.arr (.slice ra2 c'.recs.length rc2) (.slice ta2 c'.tops.length tc2)) 29 ∧ Blk w' x5 (({ c' with robin := true } : Cmd).arr (.slice ra2 c'.recs.length rc2) (.slice ta2 c'.tops.length tc2)) 29)) (by kernel_rfl) (HSV.out _ Q0) (fun hHeld => ?_)
        refine wpAnyH_take (i := 0) (v := ?_) rfl (by kernel_rfl) (by kernel_rfl) (by kernel_rfl) (fun _ _ _ h => h) (Or.inl ⟨by rfl, ?_⟩) hHeld ?_
        rotate_left
        · (intro w hSw; (try dsimp only at hSw); have hc0 := hSw.1.cell 0; dsimp only [Cmd.arr] at hc0; simp only [List.getElem?_toArray, List.getElem?_cons_zero] at hc0; go_simp; try with_reducible rfl)
        try simp only [List.getElem_toArray, List.getElem_cons_zero, List.getElem_cons_succ, Act.put, List.setIfInBounds_toArray, List.set_cons_zero, List.set_cons_succ]
        refine wpAnyH_take (i := 1) (v := ?_) rfl (by kernel_rfl) (by kernel_rfl) (by kernel_rfl) (fun _ _ _ h => h) (Or.inl ⟨by rfl, ?_⟩) hHeld ?_
        rotate_left
        · (intro w hSw; (try dsimp only at hSw); have hc0 := hSw.1.cell 0; dsimp only [Cmd.arr] at hc0; simp only [List.getElem?_toArray, List.getElem?_cons_zero] at hc0; go_simp; try with_reducible rfl)
        try simp only [List.getElem_toArray, List.getElem_cons_zero, List.getElem_cons_succ, Act.put, List.setIfInBounds_toArray, List.set_cons_zero, List.set_cons_succ]
        refine wpAnyH_take (i := 2) (v := ?_) rfl (by kernel_rfl) (by kernel_rfl) (by kernel_rfl) (fun _ _ _ h => h) (Or.inl ⟨by rfl, ?_⟩) hHeld ?_
        rotate_left
        · (intro w hSw; (try dsimp only at hSw); have hc0 := hSw.1.cell 0; dsimp only [Cmd.arr] at hc0; simp only [List.getElem?_toArray, List.getElem?_cons_zero] at hc0; go_simp; try with_reducible rfl)
        try simp only [List.getElem_toArray, List.getElem_cons_zero, List.getElem_cons_succ, Act.put, List.setIfInBounds_toArray, List.set_cons_zero, List.set_cons_succ]
        refine wpAnyH_take (i := 3) (v := _) rfl (by kernel_rfl) (by kernel_rfl) (by kernel_rfl) (fun _ _ _ h => h) (Or.inl ⟨by rfl, fun w hSw => load_blk hSw.2 rfl rfl Try.underlying29 rfl (by kernel_rfl)⟩) hHeld ?_
        try simp only [List.getElem_toArray, List.getElem_cons_zero, List.getElem_cons_succ, Act.put, List.setIfInBounds_toArray, List.set_cons_zero, List.set_cons_succ]
        refine wpAnyH_ready (rs := [4]) (by kernel_rfl) (by simp) ?_
        refine AllReadyH.cons rfl (fun K hK => ?_) AllReadyH.nil
        go_simp
        refine (cC.out _ Q0).use ?_
        intro w7 b7
        have Q1 := below_any (Nat.le_refl _) Q0 b7
        go_wp2_with fail
        refine hK.out _ _ (HSV.out _ Q1) (fun hHeld => ?_)
        clear hK K
        try simp only [List.getElem_toArray, List.getElem_cons_zero, List.getElem_cons_succ, Act.put, List.setIfInBounds_toArray, List.set_cons_zero, List.set_cons_succ]
        refine wpAnyH_take (i := 5) (v := ?_) rfl (by kernel_rfl) (by kernel_rfl) (by kernel_rfl) (fun _ _ _ h => h) (Or.inl ⟨by rfl, ?_⟩) hHeld ?_
        rotate_left
        · (intro w hSw; (try dsimp only at hSw); have hc0 := hSw.1.cell 0; dsimp only [Cmd.arr] at hc0; simp only [List.getElem?_toArray, List.getElem?_cons_zero] at hc0; go_simp; try with_reducible rfl)
        try simp only [List.getElem_toArray, List.getElem_cons_zero, List.getElem_cons_succ, Act.put, List.setIfInBounds_toArray, List.set_cons_zero, List.set_cons_succ]
        refine wpAnyH_take (i := 6) (v := ?_) rfl (by kernel_rfl) (by kernel_rfl) (by kernel_rfl) (fun _ _ _ h => h) (Or.inl ⟨by rfl, ?_⟩) hHeld ?_
        rotate_left
        · (intro w hSw; (try dsimp only at hSw); have hc0 := hSw.1.cell 0; dsimp only [Cmd.arr] at hc0; simp only [List.getElem?_toArray, List.getElem?_cons_zero] at hc0; go_simp; try with_reducible rfl)
        try simp only [List.getElem_toArray, List.getElem_cons_zero, List.getElem_cons_succ, Act.put, List.setIfInBounds_toArray, List.set_cons_zero, List.set_cons_succ]
        refine wpAnyH_take (i := 7) (v := ?_) rfl (by kernel_rfl) (by kernel_rfl) (by kernel_rfl) (fun _ _ _ h => h) (Or.inl ⟨by rfl, ?_⟩) hHeld ?_
        rotate_left
        · (intro w hSw; (try dsimp only at hSw); have hc0 := hSw.1.cell 0; dsimp only [Cmd.arr] at hc0; simp only [List.getElem?_toArray, List.getElem?_cons_zero] at hc0; go_simp; try with_reducible rfl)
        try simp only [List.getElem_toArray, List.getElem_cons_zero, List.getElem_cons_succ, Act.put, List.setIfInBounds_toArray, List.set_cons_zero, List.set_cons_succ]
        refine wpAnyH_ready (rs := [8]) (by kernel_rfl) (by simp) ?_
        refine AllReadyH.cons rfl (fun K hK => ?_) AllReadyH.nil
        go_simp
        refine (HF.out _).use ?_
        intro w8 b8
        have Q2 := below_any (Nat.le_refl _) Q1 b8
        go_wp2_with fail
        refine hK.out _ _ (HSV.out _ Q2) (fun hHeld => ?_)
        clear hK K
        try simp only [List.getElem_toArray, List.getElem_cons_zero, List.getElem_cons_succ, Act.put, List.setIfInBounds_toArray, List.set_cons_zero, List.set_cons_succ]
        refine wpAnyH_take (i := 9) (v := ?_) rfl (by kernel_rfl) (by kernel_rfl) (by kernel_rfl) (fun _ _ _ h => h) (Or.inl ⟨by rfl, ?_⟩) hHeld ?_
        rotate_left
        · (intro w hSw; (try dsimp only at hSw); have hc0 := hSw.1.cell 0; dsimp only [Cmd.arr] at hc0; simp only [List.getElem?_toArray, List.getElem?_cons_zero] at hc0; go_simp; try with_reducible rfl)
        try simp only [List.getElem_toArray, List.getElem_cons_zero, List.getElem_cons_succ, Act.put, List.setIfInBounds_toArray, List.set_cons_zero, List.set_cons_succ]
        refine wpAnyH_take (i := 10) (v := ?_) rfl (by kernel_rfl) (by kernel_rfl) (by kernel_rfl) (fun _ _ _ h => h) (Or.inl ⟨by rfl, ?_⟩) hHeld ?_
        rotate_left
        · (intro w hSw; (try dsimp only at hSw); have hc0 := hSw.1.cell 0; dsimp only [Cmd.arr] at hc0; simp only [List.getElem?_toArray, List.getElem?_cons_zero] at hc0; go_simp; try with_reducible rfl)
        try simp only [List.getElem_toArray, List.getElem_cons_zero, List.getElem_cons_succ, Act.put, List.setIfInBounds_toArray, List.set_cons_zero, List.set_cons_succ]
        refine wpAnyH_done (by kernel_rfl) ?_ _
        go_wp2_with fail
        exact finB hR (below_any (Nat.le_refl _) PV.out Q2) rfl
      · skip
        rw [if_neg (by omega)] at hE2
        subst hE2
        have s1 : (c'.kind = 6) = False := eq_false (by omega)
        have s2 : (c'.kind == 6) = false := beq_eq_false_iff_ne.2 (by omega)
        have cB1 := Lib.hid (fun W hW => (cB.out W hW).cast (v' := .int .i64 40) (by rw [HB40.out (by omega)]; rfl))
        clear HB40 cB
        go_wp2_with fail
        refine cA.out.use ?_
        intro w5 b5
        have P5 := Lib.hid b5
        have K4b := K4.out.below b5
        dsimp only [Cmd.arr] at K4b
        obtain ⟨HK4, k4l, v0, v1, v2, v3, v4, v5, v6, v7, v8, v9, v10, v11, v12, v13⟩ := arr_cells K4b
        clear HK4 K4b
        clear y0 y1 y2 y3 y4 y5 y6 y7 y8 y9 y10 y11 y12 y13 z0 z1 z2 z3 z4 z5 z6 z7 z8 z9 z10 z11 z12 z13
        go_wp2_with fail
        refine (cB1.out _ P5.out).use ?_
        intro w6 b6
        have P6 := below_any (Nat.le_refl _) P5.out b6
        clear v0 v1 v2 v3 v4 v5 v6 v7 v8 v9 v10 v11 v12 v13
        go_upto_region 11 with fail
        have Q0 := P6.drew
        refine wp_region_held_drew (S := (fun w' => Blk w' w.heap.size (c'.arr (.slice ra2 c'.recs.length rc2) (.slice ta2 c'.tops.length tc2)) 29 ∧ Blk w' x5 (({ c' with robin := true } : Cmd).arr (.slice ra2 c'.recs.length rc2) (.slice ta2 c'.tops.length tc2)) 29)) (by kernel_rfl) (HSV.out _ Q0) (fun hHeld => ?_)
        refine wpAnyH_take (i := 0) (v := ?_) rfl (by kernel_rfl) (by kernel_rfl) (by kernel_rfl) (fun _ _ _ h => h) (Or.inl ⟨by rfl, ?_⟩) hHeld ?_
        rotate_left
        · (intro w hSw; (try dsimp only at hSw); have hc0 := hSw.1.cell 0; dsimp only [Cmd.arr] at hc0; simp only [List.getElem?_toArray, List.getElem?_cons_zero] at hc0; go_simp; try with_reducible rfl)
        try simp only [List.getElem_toArray, List.getElem_cons_zero, List.getElem_cons_succ, Act.put, List.setIfInBounds_toArray, List.set_cons_zero, List.set_cons_succ]
        refine wpAnyH_take (i := 1) (v := ?_) rfl (by kernel_rfl) (by kernel_rfl) (by kernel_rfl) (fun _ _ _ h => h) (Or.inl ⟨by rfl, ?_⟩) hHeld ?_
        rotate_left
        · (intro w hSw; (try dsimp only at hSw); have hc0 := hSw.1.cell 0; dsimp only [Cmd.arr] at hc0; simp only [List.getElem?_toArray, List.getElem?_cons_zero] at hc0; go_simp; try with_reducible rfl)
        try simp only [List.getElem_toArray, List.getElem_cons_zero, List.getElem_cons_succ, Act.put, List.setIfInBounds_toArray, List.set_cons_zero, List.set_cons_succ]
        refine wpAnyH_take (i := 2) (v := ?_) rfl (by kernel_rfl) (by kernel_rfl) (by kernel_rfl) (fun _ _ _ h => h) (Or.inl ⟨by rfl, ?_⟩) hHeld ?_
        rotate_left
        · (intro w hSw; (try dsimp only at hSw); have hc0 := hSw.1.cell 0; dsimp only [Cmd.arr] at hc0; simp only [List.getElem?_toArray, List.getElem?_cons_zero] at hc0; go_simp; try with_reducible rfl)
        try simp only [List.getElem_toArray, List.getElem_cons_zero, List.getElem_cons_succ, Act.put, List.setIfInBounds_toArray, List.set_cons_zero, List.set_cons_succ]
        refine wpAnyH_take (i := 3) (v := _) rfl (by kernel_rfl) (by kernel_rfl) (by kernel_rfl) (fun _ _ _ h => h) (Or.inl ⟨by rfl, fun w hSw => load_blk hSw.2 rfl rfl Try.underlying29 rfl (by kernel_rfl)⟩) hHeld ?_
        try simp only [List.getElem_toArray, List.getElem_cons_zero, List.getElem_cons_succ, Act.put, List.setIfInBounds_toArray, List.set_cons_zero, List.set_cons_succ]
        refine wpAnyH_ready (rs := [4]) (by kernel_rfl) (by simp) ?_
        refine AllReadyH.cons rfl (fun K hK => ?_) AllReadyH.nil
        go_simp
        refine (cC.out _ Q0).use ?_
        intro w7 b7
        have Q1 := below_any (Nat.le_refl _) Q0 b7
        go_wp2_with fail
        refine hK.out _ _ (HSV.out _ Q1) (fun hHeld => ?_)
        clear hK K
        try simp only [List.getElem_toArray, List.getElem_cons_zero, List.getElem_cons_succ, Act.put, List.setIfInBounds_toArray, List.set_cons_zero, List.set_cons_succ]
        refine wpAnyH_take (i := 5) (v := ?_) rfl (by kernel_rfl) (by kernel_rfl) (by kernel_rfl) (fun _ _ _ h => h) (Or.inl ⟨by rfl, ?_⟩) hHeld ?_
        rotate_left
        · (intro w hSw; (try dsimp only at hSw); have hc0 := hSw.1.cell 0; dsimp only [Cmd.arr] at hc0; simp only [List.getElem?_toArray, List.getElem?_cons_zero] at hc0; go_simp; try with_reducible rfl)
        try simp only [List.getElem_toArray, List.getElem_cons_zero, List.getElem_cons_succ, Act.put, List.setIfInBounds_toArray, List.set_cons_zero, List.set_cons_succ]
        refine wpAnyH_take (i := 6) (v := ?_) rfl (by kernel_rfl) (by kernel_rfl) (by kernel_rfl) (fun _ _ _ h => h) (Or.inl ⟨by rfl, ?_⟩) hHeld ?_
        rotate_left
        · (intro w hSw; (try dsimp only at hSw); have hc0 := hSw.1.cell 0; dsimp only [Cmd.arr] at hc0; simp only [List.getElem?_toArray, List.getElem?_cons_zero] at hc0; go_simp; try with_reducible rfl)
        try simp only [List.getElem_toArray, List.getElem_cons_zero, List.getElem_cons_succ, Act.put, List.setIfInBounds_toArray, List.set_cons_zero, List.set_cons_succ]
        refine wpAnyH_take (i := 7) (v := ?_) rfl (by kernel_rfl) (by kernel_rfl) (by kernel_rfl) (fun _ _ _ h => h) (Or.inl ⟨by rfl, ?_⟩) hHeld ?_
        rotate_left
        · (intro w hSw; (try dsimp only at hSw); have hc0 := hSw.1.cell 0; dsimp only [Cmd.arr] at hc0; simp only [List.getElem?_toArray, List.getElem?_cons_zero] at hc0; go_simp; try with_reducible rfl)
        try simp only [List.getElem_toArray, List.getElem_cons_zero, List.getElem_cons_succ, Act.put, List.setIfInBounds_toArray, List.set_cons_zero, List.set_cons_succ]
        refine wpAnyH_ready (rs := [8]) (by kernel_rfl) (by simp) ?_
        refine AllReadyH.cons rfl (fun K hK => ?_) AllReadyH.nil
        go_simp
        refine (HF.out _).use ?_
        intro w8 b8
        have Q2 := below_any (Nat.le_refl _) Q1 b8
        go_wp2_with fail
        refine hK.out _ _ (HSV.out _ Q2) (fun hHeld => ?_)
        clear hK K
        try simp only [List.getElem_toArray, List.getElem_cons_zero, List.getElem_cons_succ, Act.put, List.setIfInBounds_toArray, List.set_cons_zero, List.set_cons_succ]
        refine wpAnyH_take (i := 9) (v := ?_) rfl (by kernel_rfl) (by kernel_rfl) (by kernel_rfl) (fun _ _ _ h => h) (Or.inl ⟨by rfl, ?_⟩) hHeld ?_
        rotate_left
        · (intro w hSw; (try dsimp only at hSw); have hc0 := hSw.1.cell 0; dsimp only [Cmd.arr] at hc0; simp only [List.getElem?_toArray, List.getElem?_cons_zero] at hc0; go_simp; try with_reducible rfl)
        try simp only [List.getElem_toArray, List.getElem_cons_zero, List.getElem_cons_succ, Act.put, List.setIfInBounds_toArray, List.set_cons_zero, List.set_cons_succ]
        refine wpAnyH_take (i := 10) (v := ?_) rfl (by kernel_rfl) (by kernel_rfl) (by kernel_rfl) (fun _ _ _ h => h) (Or.inl ⟨by rfl, ?_⟩) hHeld ?_
        rotate_left
        · (intro w hSw; (try dsimp only at hSw); have hc0 := hSw.1.cell 0; dsimp only [Cmd.arr] at hc0; simp only [List.getElem?_toArray, List.getElem?_cons_zero] at hc0; go_simp; try with_reducible rfl)
        try simp only [List.getElem_toArray, List.getElem_cons_zero, List.getElem_cons_succ, Act.put, List.setIfInBounds_toArray, List.set_cons_zero, List.set_cons_succ]
        refine wpAnyH_done (by kernel_rfl) ?_ _
        go_wp2_with fail
        exact finB hR (below_any (Nat.le_refl _) PV.out Q2) rfl
end Go.Proofs.Ythiliodmbipikaa.requestOnly
