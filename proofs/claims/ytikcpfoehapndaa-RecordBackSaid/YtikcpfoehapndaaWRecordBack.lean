/-
  The walk of RecordBack.
-/
import Derived.Test.YtikcpfoehapndaaFix3
import Derived.Test.YtikcpfoehapndaaRecS
import Derived.Test.YtikcpfoehapndaaRecU
import Derived.Deep.RegionHeld3
set_option linter.unusedVariables false
set_option linter.unusedSimpArgs false
namespace Go.Proofs.Ytikcpfoehapndaa.recordBack
open Go.RowKit
attribute [local go_sem] ByteArray.extract_mk ByteArray.mk_append_mk

theorem cutRs_bd {l : List Rec} (h : RecsBd l) : RecsBd (cutRs l) := by
  refine ⟨by unfold cutRs; rw [List.length_map, List.length_take]; have := h.1; omega, fun r hr => ?_⟩
  unfold cutRs at hr
  simp only [List.mem_map] at hr
  obtain ⟨r', _, rfl⟩ := hr
  exact ⟨by simp only [cutR, List.length_take]; unfold maxLen; omega, by simp only [cutR, List.length_take]; unfold maxLen; omega⟩
theorem ok_bd {p q r : Int} {l : List Rec} (h : rall p q r l = 0) : RecsBd l := by
  obtain ⟨_, _, _, _, h5, h6⟩ := rall_ok h
  refine ⟨by unfold maxLen; omega, fun r hr => ?_⟩
  obtain ⟨_, _, _, h1, h2⟩ := rcheck_ok (h6 r hr)
  exact ⟨by unfold maxLen; omega, by unfold maxLen; omega⟩
theorem bytes_le {p q r : Int} {l : List Rec} (h : rall p q r l = 0) : (rbatch p q r l).1.length ≤ 40000 := by
  obtain ⟨_, _, _, _, h5, h6⟩ := rall_ok h
  unfold rbatch
  rw [if_pos h]
  have a := rbytes_le h6
  have b := nbytes_le [p.toNat, q.toNat, r.toNat, l.length]
  simp only [List.length_append, List.length_cons, List.length_nil] at b ⊢
  omega

set_option maxHeartbeats 4000000 in
set_option maxRecDepth 100000 in
theorem walk {w : World} (p q r : Int) (v : Value) (l : List Rec) (s ah : List UInt8) (hl : RecsIn w v l) (hbd : RecsBd l) (hs : s.length ≤ maxLen) (ha : ah.length ≤ maxLen) :
    RetB Try.prog 5 #[.agg #[.int .i64 p, .int .i64 q, .int .i64 r, v], .string (S s), .string (S ah)] w (.bool true) := by
  refine RetB.intro fun R hR => ?_
  unfold maxLen at hs ha
  have q1 : ((min (s.length : Int) 1500).toNat) = min s.length 1500 := by omega
  have q2 : ((min (ah.length : Int) 100).toNat) = min ah.length 100 := by omega
  obtain ⟨u, hu⟩ : ∃ l, s.take (min s.length 1500) = l := ⟨_, rfl⟩
  obtain ⟨A, hA⟩ : ∃ l, ah.take (min ah.length 100) = l := ⟨_, rfl⟩
  have lu : u.length ≤ 1500 := by rw [← hu, List.length_take]; omega
  have lA : A.length ≤ 100 := by rw [← hA, List.length_take]; omega
  have cB0 := fun w hl => bound_any p q r v l w hl hbd
  obtain ⟨m, hm⟩ : ∃ m, cutRs l = m := ⟨_, rfl⟩
  have bm : RecsBd m := hm ▸ cutRs_bd hbd
  rw [hm] at cB0
  obtain ⟨ao, cp, rfl⟩ := hl.form
  clear hm
  have CB0 := Lib.hid cB0
  have HL := Lib.hid hl
  have BM := Lib.hid bm
  clear cB0 hbd hl bm
  obtain ⟨⟨⟨p', q', r', m'⟩, b, x⟩, hq⟩ : ∃ y, mparse u 0 = y := ⟨_, rfl⟩
  have cP := fun w => parse3_eq hq w (by unfold maxLen; omega)
  have CP := Lib.hid cP
  have HQ := Lib.hid hq
  clear cP hq
  go_enter Try.func5, Try.ntmps5
  go_wp2_with fail
  have T1 := Blk.new w #[.int .i64 p, .int .i64 q, .int .i64 r, .slice ao l.length cp] 26
  have G1 : Below w.heap.size w _ := below_all (o := .cells #[.int .i64 p, .int .i64 q, .int .i64 r, .slice ao l.length cp] 26) (Below.refl _ _)
  refine (CB0.out _ (HL.out.alloc _)).use ?_
  intro v3 w3 o3 b3
  have T3 := T1.below b3
  have G3 := below_any (Nat.le_refl _) G1 b3
  clear T1 G1 b3
  obtain ⟨a3, p3, rfl⟩ := (recs_own o3).form
  have f3 := fun i => Blk.frozen T3 i
  obtain ⟨z2, d0, d1, d2, d3⟩ := T3.c4
  go_wp2_with fail
  have T4 := (((T3.set 0 (.int .i64 p)).set 1 (.int .i64 q)).set 2 (.int .i64 r)).set 3 (.slice a3 m.length p3)
  have G4 := (((G3.setCell (p := ⟨w.heap.size, 0, none⟩) (Nat.le_refl _) (.int .i64 p)).setCell (p := ⟨w.heap.size, 1, none⟩) (Nat.le_refl _) (.int .i64 q)).setCell (p := ⟨w.heap.size, 2, none⟩) (Nat.le_refl _) (.int .i64 r)).setCell (p := ⟨w.heap.size, 3, none⟩) (Nat.le_refl _) (.slice a3 m.length p3)
  have o4 := recs_own (o3.kept (row := some (w.heap.size)) (grown_set (grown_set (grown_set (grown_set (grown_refl w3 _) 0 (.int .i64 p)) 1 (.int .i64 q)) 2 (.int .i64 r)) 3 (.slice a3 m.length p3)) (.inr (Ne.symm (own_ne o3 T3 (by decide)))))
  clear f3 z2 d0 d1 d2 d3 T3 G3 o3
  generalize (((w3.setCell ⟨w.heap.size, 0, none⟩ (.int .i64 p)).setCell ⟨w.heap.size, 1, none⟩ (.int .i64 q)).setCell ⟨w.heap.size, 2, none⟩ (.int .i64 r)).setCell ⟨w.heap.size, 3, none⟩ (.slice a3 m.length p3) = W4 at T4 G4 o4 ⊢
  have T4 : Blk W4 w.heap.size #[.int .i64 p, .int .i64 q, .int .i64 r, .slice a3 m.length p3] 26 := T4
  clear CB0 HL hu hA q1 q2
  obtain ⟨k, hk⟩ : ∃ k, rall p q r m = k := ⟨_, rfl⟩
  obtain ⟨t, ht⟩ : ∃ t, (rbatch p q r m).1 = t := ⟨_, rfl⟩
  have ht2 : (rbatch p q r m).2 = k := by rw [← hk]; unfold rbatch; split <;> simp_all
  have cB := batch3_any p q r (.slice a3 m.length p3) m W4 o4 BM.out
  rw [ht, ht2] at cB
  have e9 : (([] : List UInt8) = []) := rfl
  by_cases h0 : k = 0
  · subst h0
    have hx := parse_put A u hk
    have lt := bytes_le hk
    rw [ht] at hx lt
    have cX := fun w => parse3_eq hx w (by simp only [List.length_append]; unfold maxLen; omega)
    have CX := Lib.hid cX
    clear cX hx hk ht ht2
    have cB : RetB Try.prog 13 _ W4 (.tuple #[.string (S t), .int .i64 0]) := cB
    refine cB.use ?_
    intro w5 b5
    have T5 := T4.below b5
    have O5 := Lib.hid (o4.below b5)
    have G5 := below_any (Nat.le_refl _) G4 b5
    clear cB T4 o4 G4 b5 e9
    go_wp2_with fail
    refine (CX.out _).use ?_
    intro v6 w6 o6 b6
    have T6 := T5.below b6
    have O6 := Lib.hid (O5.out.below b6)
    have G6 := below_any (Nat.le_refl _) G5 b6
    have o6 : w6.ownsRow w5.heap.size 23 4 v6 m.length (m.flatMap Rec.cells) := o6
    obtain ⟨a6, p6, rfl⟩ := (recs_own o6).form
    have R6 := Lib.hid (recs_own o6)
    obtain ⟨zz, c0, c1, c2, c3⟩ := T6.c4
    have zz2 : w.heap.size ≠ w6.heap.size := by omega
    clear T5 O5 G5 b6 o6
    go_wp2_with fail
    have cS := (same3_any p q r p q r (.slice a3 m.length p3) (.slice a6 m.length p6) m m _ (O6.out.alloc (.cells #[.int .i64 p, .int .i64 q, .int .i64 r, .slice a6 m.length p6] 26)) (R6.out.alloc (.cells #[.int .i64 p, .int .i64 q, .int .i64 r, .slice a6 m.length p6] 26)) BM.out.1 BM.out.1).cast (v' := .bool true) (by simp)
    have G7 := below_all (o := .cells #[.int .i64 p, .int .i64 q, .int .i64 r, .slice a6 m.length p6] 26) G6
    refine cS.use ?_
    intro w8 b8
    have GG := below_any (Nat.le_refl _) G7 b8
    clear cS O6 R6 G6 G7 b8 zz c0 c1 c2 c3 zz2 BM lA ha T6
    go_wp2_with fail
    refine (CP.out _).use ?_
    intro v9 w9 oa b9
    have ob : w9.ownsRow w8.heap.size 23 4 v9 m'.length (m'.flatMap Rec.cells) := oa
    clear oa
    have o9 := recs_own ob
    clear ob
    have G9 := below_any (Nat.le_refl _) GG b9
    by_cases hx0 : x = 0
    · subst hx0
      obtain ⟨g1, g2⟩ := parse_at HQ.out ⟨by omega, by omega⟩
      obtain ⟨g3, g4, g5⟩ := g2.range
      obtain ⟨B, g6, g7⟩ := g2.zero
      obtain ⟨y, hy⟩ : ∃ y, (rbatch p' q' r' m').1 = y := ⟨_, rfl⟩
      have hy2 : (rbatch p' q' r' m').2 = 0 := by unfold rbatch; rw [if_pos g1]
      rw [hy] at g6 g7
      have g8 : u.take y.length = y := by rw [g6, List.take_left]
      have g9 : y.length ≤ u.length := by rw [g6, List.length_append]; omega
      subst g7
      have BQ := Lib.hid (ok_bd g1)
      obtain ⟨a9, p9, rfl⟩ := o9.form
      have T9 := Blk.new w9 #[.int .i64 p', .int .i64 q', .int .i64 r', .slice a9 m'.length p9] 26
      have cY := batch3_any p' q' r' (.slice a9 m'.length p9) m' _ (o9.alloc (.cells #[.int .i64 p', .int .i64 q', .int .i64 r', .slice a9 m'.length p9] 26)) BQ.out
      have G10 := below_all (o := .cells #[.int .i64 p', .int .i64 q', .int .i64 r', .slice a9 m'.length p9] 26) G9
      rw [hy, hy2] at cY
      have cY : RetB Try.prog 13 _ _ (.tuple #[.string (S y), .int .i64 0]) := cY
      have CY := Lib.hid cY
      clear cY g1 g2 g3 g4 g5 g6 hy hy2 BQ G9 b9 GG CP HQ o9
      obtain ⟨zz, c0, c1, c2, c3⟩ := T9.c4
      go_wp2_with fail
      refine CY.out.use ?_
      intro w11 b11
      have G11 := below_any (Nat.le_refl _) G10 b11
      clear CY zz c0 c1 c2 c3 T9 b11 G10
      go_wp2_with fail
      refine (fixed3 _).use ?_
      intro w12 b12
      go_wp2_with fail
      exact finB hR (below_any (Nat.le_refl _) G11 b12) rfl
    · have hm := mparse_err (s := u) (a := 0) (by rw [HQ.out]; exact hx0)
      rw [HQ.out] at hm
      simp only [Prod.mk.injEq] at hm
      obtain ⟨⟨rfl, rfl, rfl, rfl⟩, rfl, _⟩ := hm
      have hx1 : (x == 0) = false := by simpa using hx0
      have hx2 : (x != 0) = true := by simpa using hx0
      obtain ⟨a9, p9, rfl⟩ := o9.form
      have T9 := Blk.new w9 #[.int .i64 0, .int .i64 0, .int .i64 0, .slice a9 0 p9] 26
      have G10 := below_all (o := .cells #[.int .i64 0, .int .i64 0, .int .i64 0, .slice a9 0 p9] 26) G9
      clear o9 G9 b9 GG CP HQ hx0
      obtain ⟨zz, c0, c1, c2, c3⟩ := T9.c4
      go_wp2_with fail
      refine (fixed3 _).use ?_
      intro w12 b12
      go_wp2_with fail
      exact finB hR (below_any (Nat.le_refl _) G10 b12) rfl
  · have hr : t = [] := by rw [← ht]; unfold rbatch; rw [if_neg (by omega)]
    subst hr
    have hk1 : ((k : Int) == 0) = false := by simp; omega
    refine cB.use ?_
    intro w5 b5
    have GG := below_any (Nat.le_refl _) G4 b5
    clear cB T4 o4 G4 b5 e9 BM lA ha hk ht ht2
    go_wp2_with fail
    refine (CP.out _).use ?_
    intro v9 w9 oa b9
    have ob : w9.ownsRow w5.heap.size 23 4 v9 m'.length (m'.flatMap Rec.cells) := oa
    clear oa
    have o9 := recs_own ob
    clear ob
    have G9 := below_any (Nat.le_refl _) GG b9
    by_cases hx0 : x = 0
    · subst hx0
      obtain ⟨g1, g2⟩ := parse_at HQ.out ⟨by omega, by omega⟩
      obtain ⟨g3, g4, g5⟩ := g2.range
      obtain ⟨B, g6, g7⟩ := g2.zero
      obtain ⟨y, hy⟩ : ∃ y, (rbatch p' q' r' m').1 = y := ⟨_, rfl⟩
      have hy2 : (rbatch p' q' r' m').2 = 0 := by unfold rbatch; rw [if_pos g1]
      rw [hy] at g6 g7
      have g8 : u.take y.length = y := by rw [g6, List.take_left]
      have g9 : y.length ≤ u.length := by rw [g6, List.length_append]; omega
      subst g7
      have BQ := Lib.hid (ok_bd g1)
      obtain ⟨a9, p9, rfl⟩ := o9.form
      have T9 := Blk.new w9 #[.int .i64 p', .int .i64 q', .int .i64 r', .slice a9 m'.length p9] 26
      have cY := batch3_any p' q' r' (.slice a9 m'.length p9) m' _ (o9.alloc (.cells #[.int .i64 p', .int .i64 q', .int .i64 r', .slice a9 m'.length p9] 26)) BQ.out
      have G10 := below_all (o := .cells #[.int .i64 p', .int .i64 q', .int .i64 r', .slice a9 m'.length p9] 26) G9
      rw [hy, hy2] at cY
      have cY : RetB Try.prog 13 _ _ (.tuple #[.string (S y), .int .i64 0]) := cY
      have CY := Lib.hid cY
      clear cY g1 g2 g3 g4 g5 g6 hy hy2 BQ G9 b9 GG CP HQ o9
      obtain ⟨zz, c0, c1, c2, c3⟩ := T9.c4
      go_wp2_with fail
      refine CY.out.use ?_
      intro w11 b11
      have G11 := below_any (Nat.le_refl _) G10 b11
      clear CY zz c0 c1 c2 c3 T9 b11 G10
      go_wp2_with fail
      refine (fixed3 _).use ?_
      intro w12 b12
      go_wp2_with fail
      exact finB hR (below_any (Nat.le_refl _) G11 b12) rfl
    · have hm := mparse_err (s := u) (a := 0) (by rw [HQ.out]; exact hx0)
      rw [HQ.out] at hm
      simp only [Prod.mk.injEq] at hm
      obtain ⟨⟨rfl, rfl, rfl, rfl⟩, rfl, _⟩ := hm
      have hx1 : (x == 0) = false := by simpa using hx0
      have hx2 : (x != 0) = true := by simpa using hx0
      obtain ⟨a9, p9, rfl⟩ := o9.form
      have T9 := Blk.new w9 #[.int .i64 0, .int .i64 0, .int .i64 0, .slice a9 0 p9] 26
      have G10 := below_all (o := .cells #[.int .i64 0, .int .i64 0, .int .i64 0, .slice a9 0 p9] 26) G9
      clear o9 G9 b9 GG CP HQ hx0
      obtain ⟨zz, c0, c1, c2, c3⟩ := T9.c4
      go_wp2_with fail
      refine (fixed3 _).use ?_
      intro w12 b12
      go_wp2_with fail
      exact finB hR (below_any (Nat.le_refl _) G10 b12) rfl
end Go.Proofs.Ytikcpfoehapndaa.recordBack
