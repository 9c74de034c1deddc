/-
  The walk of RecordPuts.
-/
import Derived.Test.YtikcpfoehapndaaFix3
import Derived.Test.YtikcpfoehapndaaRecS
set_option linter.unusedVariables false
set_option linter.unusedSimpArgs false
namespace Go.Proofs.Ytikcpfoehapndaa.recordPuts
open Go.RowKit
attribute [local go_sem] ByteArray.extract_mk ByteArray.mk_append_mk

theorem cutRs_bd {l : List Rec} (h : RecsBd l) : RecsBd (cutRs l) := by
  refine ⟨by unfold cutRs; rw [List.length_map, List.length_take]; have := h.1; omega, fun r hr => ?_⟩
  unfold cutRs at hr
  simp only [List.mem_map] at hr
  obtain ⟨r', _, rfl⟩ := hr
  exact ⟨by simp only [cutR, List.length_take]; unfold maxLen; omega, by simp only [cutR, List.length_take]; unfold maxLen; omega⟩

set_option maxHeartbeats 4000000 in
set_option maxRecDepth 100000 in
theorem walk {w : World} (r : Rec) (p q s : Int) (v : Value) (l : List Rec) (hr : RecBd r) (hl : RecsIn w v l) (hbd : RecsBd l) :
    RetB Try.prog 3 #[.agg #[.bool r.hk, .string (S r.key), .bool r.tb, .string (S r.val)], .agg #[.int .i64 p, .int .i64 q, .int .i64 s, v]] w (.bool true) := by
  refine RetB.intro fun R hR => ?_
  obtain ⟨hk, k0, tb, x0⟩ := r
  have cC := fun w => cut3_any hk tb k0 x0 w hr.1 hr.2
  obtain ⟨k, hkk⟩ : ∃ k, k0.take 80 = k := ⟨_, rfl⟩
  obtain ⟨x, hxx⟩ : ∃ x, x0.take 600 = x := ⟨_, rfl⟩
  have lk : k.length ≤ maxLen := by rw [← hkk, List.length_take]; unfold maxLen; omega
  have lx : x.length ≤ maxLen := by rw [← hxx, List.length_take]; unfold maxLen; omega
  rw [hkk, hxx] at cC
  clear hkk hxx hr
  have cB0 := fun w hl => bound_any p q s v l w hl hbd
  obtain ⟨m, hm⟩ : ∃ m, cutRs l = m := ⟨_, rfl⟩
  have bm : RecsBd m := hm ▸ cutRs_bd hbd
  rw [hm] at cB0
  have mm : cutRs m = m := by rw [← hm]; simp [cutRs, List.map_take, List.take_take, cutR, Function.comp_def]; rfl
  obtain ⟨ao, cp, rfl⟩ := hl.form
  clear hm
  have CB0 := Lib.hid cB0
  have MM := Lib.hid mm
  have HL := Lib.hid hl
  have BM := Lib.hid bm
  clear cB0 hbd mm hl bm
  go_enter Try.func3, Try.ntmps3
  go_wp2_with fail
  refine (cC _).use ?_
  intro w1 b1
  have R1 := ((Blk.new w _ _).alloc _).below b1
  have T1 : Blk w1 (w.heap.size + 1) #[.int .i64 p, .int .i64 q, .int .i64 s, .slice ao l.length cp] 26 := by
    have h := Blk.new (w.alloc (.cells #[.bool hk, .string (S k0), .bool tb, .string (S x0)] 23)) #[.int .i64 p, .int .i64 q, .int .i64 s, .slice ao l.length cp] 26
    rw [World.size_alloc] at h
    exact h.below b1
  have G1 : Below w.heap.size w w1 := below_any (Nat.le_refl _) (below_all (below_all (Below.refl _ _))) b1
  clear b1
  obtain ⟨z1, c0, c1, c2, c3⟩ := R1.c4
  have f1 := fun i => Blk.frozen R1 i
  obtain ⟨z2, d0, d1, d2, d3⟩ := T1.c4
  go_wp2_with fail
  have R2 := (((R1.set 0 (.bool hk)).set 1 (.string (S k))).set 2 (.bool tb)).set 3 (.string (S x))
  have T2 := (((T1.setOther (a := ⟨w.heap.size, 0, none⟩) (by simp) (.bool hk)).setOther (a := ⟨w.heap.size, 1, none⟩) (by simp) (.string (S k))).setOther (a := ⟨w.heap.size, 2, none⟩) (by simp) (.bool tb)).setOther (a := ⟨w.heap.size, 3, none⟩) (by simp) (.string (S x))
  have G2 := (((G1.setCell (p := ⟨w.heap.size, 0, none⟩) (Nat.le_refl _) (.bool hk)).setCell (p := ⟨w.heap.size, 1, none⟩) (Nat.le_refl _) (.string (S k))).setCell (p := ⟨w.heap.size, 2, none⟩) (Nat.le_refl _) (.bool tb)).setCell (p := ⟨w.heap.size, 3, none⟩) (Nat.le_refl _) (.string (S x))
  clear z1 c0 c1 c2 c3 f1 z2 d0 d1 d2 d3 R1 T1 G1
  generalize (((w1.setCell ⟨w.heap.size, 0, none⟩ (.bool hk)).setCell ⟨w.heap.size, 1, none⟩ (.string (S k))).setCell ⟨w.heap.size, 2, none⟩ (.bool tb)).setCell ⟨w.heap.size, 3, none⟩ (.string (S x)) = W2 at R2 T2 G2 ⊢
  have R2 : Blk W2 w.heap.size #[.bool hk, .string (S k), .bool tb, .string (S x)] 23 := R2
  refine (CB0.out _ (HL.out.below G2)).use ?_
  intro v3 w3 o3 b3
  have G3 := below_any (Nat.le_refl _) G2 b3
  have R3 := R2.below b3
  have T3 := T2.below b3
  clear R2 T2 b3
  obtain ⟨a3, p3, rfl⟩ := (recs_own o3).form
  have f3 := fun i => Blk.frozen T3 i
  obtain ⟨z2, d0, d1, d2, d3⟩ := T3.c4
  go_wp2_with fail
  have R4 := (((R3.setOther (a := ⟨w.heap.size + 1, 0, none⟩) (by simp) (.int .i64 p)).setOther (a := ⟨w.heap.size + 1, 1, none⟩) (by simp) (.int .i64 q)).setOther (a := ⟨w.heap.size + 1, 2, none⟩) (by simp) (.int .i64 s)).setOther (a := ⟨w.heap.size + 1, 3, none⟩) (by simp) (.slice a3 m.length p3)
  have T4 := (((T3.set 0 (.int .i64 p)).set 1 (.int .i64 q)).set 2 (.int .i64 s)).set 3 (.slice a3 m.length p3)
  have G4 := (((G3.setCell (p := ⟨w.heap.size + 1, 0, none⟩) (by simp) (.int .i64 p)).setCell (p := ⟨w.heap.size + 1, 1, none⟩) (by simp) (.int .i64 q)).setCell (p := ⟨w.heap.size + 1, 2, none⟩) (by simp) (.int .i64 s)).setCell (p := ⟨w.heap.size + 1, 3, none⟩) (by simp) (.slice a3 m.length p3)
  have o4 := recs_own (o3.kept (row := some (w.heap.size + 1)) (grown_set (grown_set (grown_set (grown_set (grown_refl w3 _) 0 (.int .i64 p)) 1 (.int .i64 q)) 2 (.int .i64 s)) 3 (.slice a3 m.length p3)) (.inr (Ne.symm (own_ne o3 T3 (by decide)))))
  clear f3 z2 d0 d1 d2 d3 R3 T3 G3 o3
  generalize (((w3.setCell ⟨w.heap.size + 1, 0, none⟩ (.int .i64 p)).setCell ⟨w.heap.size + 1, 1, none⟩ (.int .i64 q)).setCell ⟨w.heap.size + 1, 2, none⟩ (.int .i64 s)).setCell ⟨w.heap.size + 1, 3, none⟩ (.slice a3 m.length p3) = W4 at R4 T4 G4 o4 ⊢
  have T4 : Blk W4 (w.heap.size + 1) #[.int .i64 p, .int .i64 q, .int .i64 s, .slice a3 m.length p3] 26 := T4
  have cB1 := fun w hl => bound_any p q s (.slice a3 m.length p3) m w hl BM.out
  rw [MM.out] at cB1
  refine (cB1 _ o4).use ?_
  intro v5 w5 o5 b5
  have G5 := below_any (Nat.le_refl _) G4 b5
  have R5 := (R4.below b5).alloc (.cells #[.int .i64 p, .int .i64 q, .int .i64 s, v5] 26)
  have T5 := (T4.below b5).alloc (.cells #[.int .i64 p, .int .i64 q, .int .i64 s, v5] 26)
  have U5 := Blk.new w5 #[.int .i64 p, .int .i64 q, .int .i64 s, v5] 26
  have o51 := (o4.below b5).alloc (.cells #[.int .i64 p, .int .i64 q, .int .i64 s, v5] 26)
  have o52 := recs_own (o5.alloc (.cells #[.int .i64 p, .int .i64 q, .int .i64 s, v5] 26))
  have G51 := below_all (o := .cells #[.int .i64 p, .int .i64 q, .int .i64 s, v5] 26) G5
  obtain ⟨a5, p5, rfl⟩ := o52.form
  obtain ⟨hzz, c0, c1, c2, c3⟩ := (R4.below b5).c4
  clear R4 T4 G4 o4 b5 o5 cB1 CB0 HL cC
  go_wp2_with fail
  clear hzz c0 c1 c2 c3
  generalize w5.alloc (.cells #[.int .i64 p, .int .i64 q, .int .i64 s, .slice a5 m.length p5] 26) = W5 at R5 T5 U5 o51 o52 G51 ⊢
  obtain ⟨z5, hz5⟩ : ∃ z, w5.heap.size = z := ⟨_, rfl⟩
  rw [hz5] at U5 ⊢
  clear hz5 G5 MM
  obtain ⟨⟨pt, pe⟩, hpt⟩ : ∃ y, rput hk k tb x = y := ⟨_, rfl⟩
  have cP := fun w => put3_any hk tb k x w lk lx
  have cR := fun w => rput3_any hk tb k x w lk lx
  have cZ := fun w => size3_any hk tb k x w lk lx
  rw [hpt] at cP cR cZ
  obtain ⟨⟨bt, be⟩, hbt⟩ : ∃ y, rbatch p q s m = y := ⟨_, rfl⟩
  have cB := fun w hl => batch3_any p q s (.slice a3 m.length p3) m w hl BM.out
  have cD := fun w hl => rbatch3_any p q s (.slice a3 m.length p3) m w hl BM.out
  rw [hbt] at cB cD
  have cA := fun w hl => all3_any p q s (.slice a3 m.length p3) m w hl BM.out
  have cE := fun w hl => rall3_any p q s (.slice a3 m.length p3) m w hl BM.out
  have cS := fun w h1 h2 => (same3_any p q s p q s (.slice a3 m.length p3) (.slice a5 m.length p5) m m w h1 h2 BM.out.1 BM.out.1).cast (v' := .bool true) (by simp)
  have cK := fun w => check_any hk tb k x w lk lx
  have cL := fun w => r3check_any hk tb k x w lk lx
  generalize rcheck hk k tb x = kc at *
  generalize rall p q s m = kb at *
  clear hpt hbt BM lk lx
  simp only at cP cR cZ cB cD
  have HB := Lib.hid cB
  have HD := Lib.hid cD
  have HA := Lib.hid cA
  have HE := Lib.hid cE
  have HS := Lib.hid cS
  clear cB cD cA cE cS
  refine (cP _).use ?_
  intro w6 b6
  have R6 := R5.below b6
  have T6 := T5.below b6
  have U6 := U5.below b6
  have oa6 := o51.below b6
  have ob6 := o52.below b6
  have G6 := below_any (Nat.le_refl _) G51 b6
  clear R5 T5 U5 o51 o52 G51 b6
  obtain ⟨_, c0, c1, c2, c3⟩ := R6.c4
  go_wp2_with fail
  refine (cR _).use ?_
  intro w7 b7
  have R7 := R6.below b7
  have T7 := T6.below b7
  have U7 := U6.below b7
  have oa7 := oa6.below b7
  have ob7 := ob6.below b7
  have G7 := below_any (Nat.le_refl _) G6 b7
  clear R6 T6 U6 oa6 ob6 G6 b7 c0 c1 c2 c3
  obtain ⟨_, c0, c1, c2, c3⟩ := T7.c4
  go_wp2_with fail
  refine (HB.out _ oa7).use ?_
  intro w8 b8
  have R8 := R7.below b8
  have T8 := T7.below b8
  have U8 := U7.below b8
  have oa8 := oa7.below b8
  have ob8 := ob7.below b8
  have G8 := below_any (Nat.le_refl _) G7 b8
  clear R7 T7 U7 oa7 ob7 G7 b8 c0 c1 c2 c3
  obtain ⟨_, c0, c1, c2, c3⟩ := T8.c4
  go_wp2_with fail
  refine (HD.out _ oa8).use ?_
  intro w9 b9
  have R9 := R8.below b9
  have T9 := T8.below b9
  have U9 := U8.below b9
  have oa9 := oa8.below b9
  have ob9 := ob8.below b9
  have G9 := below_any (Nat.le_refl _) G8 b9
  clear R8 T8 U8 oa8 ob8 G8 b9 c0 c1 c2 c3
  go_wp2_with fail
  have P0 : Below w9.heap.size w9 w9.drew := (Below.refl _ _).drew
  obtain ⟨_, x0, x1, x2, x3⟩ := R9.c4
  obtain ⟨_, y0, y1, y2, y3⟩ := T9.c4
  obtain ⟨_, u0, u1, u2, u3⟩ := U9.c4
  go_region_held3 (fun w' => w'.cell? ⟨w.heap.size, 0, none⟩ = some (.bool hk) ∧ w'.cell? ⟨w.heap.size, 1, none⟩ = some (.string (S k)) ∧ w'.cell? ⟨w.heap.size, 2, none⟩ = some (.bool tb) ∧ w'.cell? ⟨w.heap.size, 3, none⟩ = some (.string (S x)) ∧ w'.cell? ⟨w.heap.size + 1, 0, none⟩ = some (.int .i64 p) ∧ w'.cell? ⟨w.heap.size + 1, 1, none⟩ = some (.int .i64 q) ∧ w'.cell? ⟨w.heap.size + 1, 2, none⟩ = some (.int .i64 s) ∧ w'.cell? ⟨w.heap.size + 1, 3, none⟩ = some (.slice a3 m.length p3) ∧ w'.cell? ⟨z5, 0, none⟩ = some (.int .i64 p) ∧ w'.cell? ⟨z5, 1, none⟩ = some (.int .i64 q) ∧ w'.cell? ⟨z5, 2, none⟩ = some (.int .i64 s) ∧ w'.cell? ⟨z5, 3, none⟩ = some (.slice a5 m.length p5)) (go_keep) (first | (go_at_call 15; refine (cK _).use ?_; intro W hb; have P := below_any (Nat.le_refl _) (by assumption) hb; obtain ⟨_, xx0, xx1, xx2, xx3⟩ := (R9.below P).c4; obtain ⟨_, yy0, yy1, yy2, yy3⟩ := (T9.below P).c4; obtain ⟨_, uu0, uu1, uu2, uu3⟩ := (U9.below P).c4) | (go_at_call 16; refine (cL _).use ?_; intro W hb; have P := below_any (Nat.le_refl _) (by assumption) hb; obtain ⟨_, xx0, xx1, xx2, xx3⟩ := (R9.below P).c4; obtain ⟨_, yy0, yy1, yy2, yy3⟩ := (T9.below P).c4; obtain ⟨_, uu0, uu1, uu2, uu3⟩ := (U9.below P).c4) | (go_at_call 17; refine (HA.out _ (oa9.below (by assumption))).use ?_; intro W hb; have P := below_any (Nat.le_refl _) (by assumption) hb; obtain ⟨_, xx0, xx1, xx2, xx3⟩ := (R9.below P).c4; obtain ⟨_, yy0, yy1, yy2, yy3⟩ := (T9.below P).c4; obtain ⟨_, uu0, uu1, uu2, uu3⟩ := (U9.below P).c4) | (go_at_call 18; refine (HE.out _ (oa9.below (by assumption))).use ?_; intro W hb; have P := below_any (Nat.le_refl _) (by assumption) hb; obtain ⟨_, xx0, xx1, xx2, xx3⟩ := (R9.below P).c4; obtain ⟨_, yy0, yy1, yy2, yy3⟩ := (T9.below P).c4; obtain ⟨_, uu0, uu1, uu2, uu3⟩ := (U9.below P).c4) | (go_at_call 19; refine (cZ _).use ?_; intro W hb; have P := below_any (Nat.le_refl _) (by assumption) hb; obtain ⟨_, xx0, xx1, xx2, xx3⟩ := (R9.below P).c4; obtain ⟨_, yy0, yy1, yy2, yy3⟩ := (T9.below P).c4; obtain ⟨_, uu0, uu1, uu2, uu3⟩ := (U9.below P).c4) | (go_at_call 20; refine (HS.out _ (oa9.below (by assumption)) (ob9.below (by assumption))).use ?_; intro W hb; have P := below_any (Nat.le_refl _) (by assumption) hb; obtain ⟨_, xx0, xx1, xx2, xx3⟩ := (R9.below P).c4; obtain ⟨_, yy0, yy1, yy2, yy3⟩ := (T9.below P).c4; obtain ⟨_, uu0, uu1, uu2, uu3⟩ := (U9.below P).c4) | (go_at_call 21; refine (fixed3 _).use ?_; intro W hb; have P := below_any (Nat.le_refl _) (by assumption) hb; obtain ⟨_, xx0, xx1, xx2, xx3⟩ := (R9.below P).c4; obtain ⟨_, yy0, yy1, yy2, yy3⟩ := (T9.below P).c4; obtain ⟨_, uu0, uu1, uu2, uu3⟩ := (U9.below P).c4))
  go_wp2_with fail
  exact finB hR (below_any (Nat.le_refl _) G9 (by assumption)) rfl
end Go.Proofs.Ytikcpfoehapndaa.recordPuts
