/-
  The walk of RecordKinds.
-/
import Derived.Test.YtikcpfoehapndaaFix3
import Derived.Deep.RegionHeld3
set_option linter.unusedVariables false
set_option linter.unusedSimpArgs false
namespace Go.Proofs.Ytikcpfoehapndaa.recordKinds
open Go.RowKit
attribute [local go_sem] ByteArray.extract_mk ByteArray.mk_append_mk

@[local go_sem] theorem szd (W : World) : W.drew.heap.size = W.heap.size := rfl
theorem k1 {hk tb : Bool} {k x v : List UInt8} (h : rcheck hk k tb x = 0) (hv : v.length ≤ 512) : rcheck hk k false v = 0 := by
  obtain ⟨h1, h2, h3, h4, h5⟩ := rcheck_ok h
  unfold rcheck
  rw [if_neg (by cases hk <;> simp_all), if_neg (by omega)]
theorem k2 {hk tb : Bool} {k x : List UInt8} (h : rcheck hk k tb x = 0) : rcheck hk k true [] = if hk then 0 else 30 := by
  obtain ⟨h1, h2, h3, h4, h5⟩ := rcheck_ok h
  unfold rcheck
  cases hk
  · simp
  · rw [if_neg (by simp), if_neg (by simp; omega)]; rfl
theorem kp {W : World} {b : Nat} {x0 x1 x2 x3 : Value} {T : TypeId} (h : Blk W b #[x0, x1, x2, x3] T) : W.cell? ⟨b, 0, none⟩ = some x0 ∧ W.cell? ⟨b, 1, none⟩ = some x1 ∧ W.cell? ⟨b, 2, none⟩ = some x2 ∧ W.cell? ⟨b, 3, none⟩ = some x3 := h.c4.2
theorem three (w3 : World) (c1 c2 c3 : Array Value) (T : TypeId) : Blk (((w3.alloc (.cells c1 T)).alloc (.cells c2 T)).alloc (.cells c3 T)).drew w3.heap.size c1 T ∧ Blk (((w3.alloc (.cells c1 T)).alloc (.cells c2 T)).alloc (.cells c3 T)).drew (w3.heap.size + 1) c2 T ∧ Blk (((w3.alloc (.cells c1 T)).alloc (.cells c2 T)).alloc (.cells c3 T)).drew (w3.heap.size + 1 + 1) c3 T := by
  refine ⟨((Blk.new w3 c1 T).alloc _).alloc _, ?_, ?_⟩
  · have h := (Blk.new (w3.alloc (.cells c1 T)) c2 T).alloc (.cells c3 T)
    rw [World.size_alloc] at h
    exact h
  · have h := Blk.new ((w3.alloc (.cells c1 T)).alloc (.cells c2 T)) c3 T
    rw [World.size_alloc, World.size_alloc] at h
    exact h
set_option maxHeartbeats 4000000 in
set_option maxRecDepth 100000 in
theorem walk {w : World} (r : Rec) (v : List UInt8) (hr : RecBd r) (hv : v.length ≤ maxLen) :
    RetB Try.prog 8 #[.agg #[.bool r.hk, .string (S r.key), .bool r.tb, .string (S r.val)], .string (S v)] w (.bool true) := by
  refine RetB.intro fun R hR => ?_
  obtain ⟨hk, k0, tb, x0⟩ := r
  have cC := fun w => cut3_any hk tb k0 x0 w hr.1 hr.2
  obtain ⟨k, hkk⟩ : ∃ k, k0.take 80 = k := ⟨_, rfl⟩
  obtain ⟨x, hxx⟩ : ∃ x, x0.take 600 = x := ⟨_, rfl⟩
  have lk : k.length ≤ maxLen := by rw [← hkk, List.length_take]; have := hr.1; simp at this; omega
  have lx : x.length ≤ maxLen := by rw [← hxx, List.length_take]; have := hr.2; simp at this; omega
  rw [hkk, hxx] at cC
  clear hkk hxx hr
  have cK := fun w => check_any hk tb k x w lk lx
  have cZ := fun w => size3_any hk tb k x w lk lx
  unfold maxLen at hv
  have q1 : ((min (v.length : Int) 512).toNat) = min v.length 512 := by omega
  obtain ⟨u, hu⟩ : ∃ u, v.take (min v.length 512) = u := ⟨_, rfl⟩
  have lu : u.length ≤ 512 := by rw [← hu, List.length_take]; omega
  obtain ⟨c, hc⟩ : ∃ c, rcheck hk k tb x = c := ⟨_, rfl⟩
  rw [hc] at cK
  by_cases h0 : c = 0
  · subst h0
    have cK : ∀ w, RetB Try.prog 15 _ w (.int .i64 0) := cK
    go_enter Try.func8, Try.ntmps8
    go_wp2_with fail
    refine (cC _).use ?_
    intro w1 b1
    have B1 := (Blk.new w _ _).below b1
    obtain ⟨z1, c0, c1, c2, c3⟩ := B1.c4
    have f1 := fun i => Blk.frozen B1 i
    go_wp2_with fail
    have B2 := (((B1.set 0 (.bool hk)).set 1 (.string (S k))).set 2 (.bool tb)).set 3 (.string (S x))
    have G2 := ((((below_any (Nat.le_refl _) (below_all (Below.refl _ _)) b1).setCell (p := ⟨w.heap.size, 0, none⟩) (Nat.le_refl _) (.bool hk)).setCell (p := ⟨w.heap.size, 1, none⟩) (Nat.le_refl _) (.string (S k))).setCell (p := ⟨w.heap.size, 2, none⟩) (Nat.le_refl _) (.bool tb)).setCell (p := ⟨w.heap.size, 3, none⟩) (Nat.le_refl _) (.string (S x))
    clear z1 c0 c1 c2 c3 f1 B1 b1
    generalize (((w1.setCell ⟨w.heap.size, 0, none⟩ (.bool hk)).setCell ⟨w.heap.size, 1, none⟩ (.string (S k))).setCell ⟨w.heap.size, 2, none⟩ (.bool tb)).setCell ⟨w.heap.size, 3, none⟩ (.string (S x)) = W2 at B2 G2 ⊢
    have B2 : Blk W2 w.heap.size #[.bool hk, .string (S k), .bool tb, .string (S x)] 23 := B2
    clear hu q1
    refine (cK _).use ?_
    intro w3 b3
    have B3 := B2.below b3
    have G3 := below_any (Nat.le_refl _) G2 b3
    obtain ⟨z1, c0, c1, c2, c3⟩ := B3.c4
    clear B2 G2 b3
    have z2 : w.heap.size < w3.heap.size + 1 := by omega
    have z3 : w.heap.size < w3.heap.size + 1 + 1 := by omega
    have e1 : w.heap.size ≠ w3.heap.size := by omega
    have e2 : w.heap.size ≠ w3.heap.size + 1 := by omega
    have e3 : w.heap.size ≠ w3.heap.size + 1 + 1 := by omega
    have cA := fun w => (check_any hk false k u w lk (by unfold maxLen; omega)).cast (v' := .int .i64 0) (by rw [k1 hc (by omega)]; rfl)
    have cB := fun w => check_any hk true k [] w lk (by decide)
    rw [k2 hc] at cB
    have cD := fun w => (check_any false true [] [] w (by decide) (by decide)).cast (v' := .int .i64 30) rfl
    clear hc cK cC cZ
    have hend : ∀ W, Below w.heap.size w W → RetB Try.prog 21 #[] W (.bool true) := fun W _ => fixed3 W
    go_wp2_with fail
    rename_i K hK0
    have hK : ∀ (ba bb bc : Nat) (W : World), w.heap.size < ba → w.heap.size < bb → w.heap.size < bc → ba ≠ bb → ba ≠ bc → bb ≠ bc → Below w.heap.size w W → Blk W w.heap.size #[.bool hk, .string (S k), .bool tb, .string (S x)] 23 → Blk W ba #[.bool hk, .string (S k), .bool tb, .string (S x)] 23 → Blk W bb #[.bool hk, .string (S k), .bool tb, .string (S x)] 23 → Blk W bc #[.bool hk, .string (S k), .bool tb, .string (S x)] 23 → K { tmps := #[Value.agg #[Value.bool hk, Value.string (S k0), Value.bool tb, Value.string (S x0)], Value.string (S u), Value.pointer (some ({ block := w.heap.size, off := 0 } : Addr)), undef, Value.bool false, Value.pointer (some ({ block := ba, off := 0 } : Addr)), Value.pointer (some ({ block := bb, off := 0 } : Addr)), Value.pointer (some ({ block := bc, off := 0 } : Addr)), undef, Value.agg #[Value.bool hk, Value.string (S k0), Value.bool tb, Value.string (S x0)], Value.agg #[Value.bool hk, Value.string (S k), Value.bool tb, Value.string (S x)], Value.string (S v), Value.string (S v), Value.int IntKind.i64 (v.length : Int), Value.int IntKind.i64 (min (v.length : Int) 512), Value.string (S u), Value.agg #[Value.bool hk, Value.string (S k), Value.bool tb, Value.string (S x)], Value.int IntKind.i64 0, Value.bool false, undef, undef, undef, undef, undef, undef, Value.agg #[Value.bool hk, Value.string (S k), Value.bool tb, Value.string (S x)], Value.agg #[Value.bool hk, Value.string (S k), Value.bool tb, Value.string (S x)], Value.agg #[Value.bool hk, Value.string (S k), Value.bool tb, Value.string (S x)], undef, undef, undef, undef, undef, undef, undef, undef, undef, undef, undef, undef, undef, undef, undef, undef, undef, undef, undef, undef, undef, undef, undef, undef, undef, undef, undef, undef, undef],  defers := [] } W := by
      intro ba bb bc W ha hb hc hab hac hbc G BR BA BB BC
      apply hK0
      clear hK0
      obtain ⟨la, a0, a1, a2, a3⟩ := BA.c4
      obtain ⟨lb, b0, b1, b2, b3⟩ := BB.c4
      obtain ⟨lc, d0, d1, d2, d3⟩ := BC.c4
      obtain ⟨lr, r0, r1, r2, r3⟩ := BR.c4
      have fa := fun i => BA.frozen i
      have fb := fun i => BB.frozen i
      have fc := fun i => BC.frozen i
      have na1 : w.heap.size ≠ ba := by omega
      have na2 : w.heap.size ≠ bb := by omega
      have na3 : w.heap.size ≠ bc := by omega
      cases hk
      · have cB : ∀ w, RetB Try.prog 15 _ w (.int .i64 30) := cB
        go_wp2_with fail
        have A2 := ((((((((BA).set 2 (.bool false)).set 3 (.string (S u))).setOther (a := ⟨bb, 2, none⟩) hab (.bool true)).setOther (a := ⟨bb, 3, none⟩) hab (.string (S []))).setOther (a := ⟨bc, 0, none⟩) hac (.bool false)).setOther (a := ⟨bc, 1, none⟩) hac (.string (S []))).setOther (a := ⟨bc, 2, none⟩) hac (.bool true)).setOther (a := ⟨bc, 3, none⟩) hac (.string (S []))
        have B2 := ((((((((BB).setOther (a := ⟨ba, 2, none⟩) hab.symm (.bool false)).setOther (a := ⟨ba, 3, none⟩) hab.symm (.string (S u))).set 2 (.bool true)).set 3 (.string (S []))).setOther (a := ⟨bc, 0, none⟩) hbc (.bool false)).setOther (a := ⟨bc, 1, none⟩) hbc (.string (S []))).setOther (a := ⟨bc, 2, none⟩) hbc (.bool true)).setOther (a := ⟨bc, 3, none⟩) hbc (.string (S []))
        have C2 := ((((((((BC).setOther (a := ⟨ba, 2, none⟩) hac.symm (.bool false)).setOther (a := ⟨ba, 3, none⟩) hac.symm (.string (S u))).setOther (a := ⟨bb, 2, none⟩) hbc.symm (.bool true)).setOther (a := ⟨bb, 3, none⟩) hbc.symm (.string (S []))).set 0 (.bool false)).set 1 (.string (S []))).set 2 (.bool true)).set 3 (.string (S []))
        have R2 := ((((((((BR).setOther (a := ⟨ba, 2, none⟩) na1 (.bool false)).setOther (a := ⟨ba, 3, none⟩) na1 (.string (S u))).setOther (a := ⟨bb, 2, none⟩) na2 (.bool true)).setOther (a := ⟨bb, 3, none⟩) na2 (.string (S []))).setOther (a := ⟨bc, 0, none⟩) na3 (.bool false)).setOther (a := ⟨bc, 1, none⟩) na3 (.string (S []))).setOther (a := ⟨bc, 2, none⟩) na3 (.bool true)).setOther (a := ⟨bc, 3, none⟩) na3 (.string (S []))
        have G2 := ((((((((G).setCell (p := ⟨ba, 2, none⟩) (Nat.le_of_lt ha) (.bool false)).setCell (p := ⟨ba, 3, none⟩) (Nat.le_of_lt ha) (.string (S u))).setCell (p := ⟨bb, 2, none⟩) (Nat.le_of_lt hb) (.bool true)).setCell (p := ⟨bb, 3, none⟩) (Nat.le_of_lt hb) (.string (S []))).setCell (p := ⟨bc, 0, none⟩) (Nat.le_of_lt hc) (.bool false)).setCell (p := ⟨bc, 1, none⟩) (Nat.le_of_lt hc) (.string (S []))).setCell (p := ⟨bc, 2, none⟩) (Nat.le_of_lt hc) (.bool true)).setCell (p := ⟨bc, 3, none⟩) (Nat.le_of_lt hc) (.string (S []))
        clear la a0 a1 a2 a3 lb b0 b1 b2 b3 lc d0 d1 d2 d3 lr r0 r1 r2 r3 fa fb fc BA BB BC BR G
        change Calls _ _ _ ((((((((W.setCell ⟨ba, 2, none⟩ (.bool false)).setCell ⟨ba, 3, none⟩ (.string (S u))).setCell ⟨bb, 2, none⟩ (.bool true)).setCell ⟨bb, 3, none⟩ (.string (S []))).setCell ⟨bc, 0, none⟩ (.bool false)).setCell ⟨bc, 1, none⟩ (.string (S []))).setCell ⟨bc, 2, none⟩ (.bool true)).setCell ⟨bc, 3, none⟩ (.string (S []))) _
        generalize ((((((((W.setCell ⟨ba, 2, none⟩ (.bool false)).setCell ⟨ba, 3, none⟩ (.string (S u))).setCell ⟨bb, 2, none⟩ (.bool true)).setCell ⟨bb, 3, none⟩ (.string (S []))).setCell ⟨bc, 0, none⟩ (.bool false)).setCell ⟨bc, 1, none⟩ (.string (S []))).setCell ⟨bc, 2, none⟩ (.bool true)).setCell ⟨bc, 3, none⟩ (.string (S []))) = W2 at A2 B2 C2 R2 G2 ⊢
        have A2 : Blk W2 ba #[.bool false, .string (S k), .bool false, .string (S u)] 23 := A2
        have B2 : Blk W2 bb #[.bool false, .string (S k), .bool true, .string (S [])] 23 := B2
        have C2 : Blk W2 bc #[.bool false, .string (S []), .bool true, .string (S [])] 23 := C2
        refine (cA _).use ?_
        intro w4 b4
        have B4 := B2.below b4
        have C4 := C2.below b4
        have G4 := below_any (Nat.le_refl _) G2 b4
        obtain ⟨lb, b0, b1, b2, b3⟩ := B4.c4
        clear A2 B2 C2 G2 R2 b4
        go_wp2_with fail
        refine (cB _).use ?_
        intro w5 b5
        have C5 := C4.below b5
        have G5 := below_any (Nat.le_refl _) G4 b5
        obtain ⟨lc, d0, d1, d2, d3⟩ := C5.c4
        clear lb b0 b1 b2 b3 B4 C4 G4 b5
        go_wp2_with fail
        refine (cD _).use ?_
        intro w6 b6
        have G6 := below_any (Nat.le_refl _) G5 b6
        clear lc d0 d1 d2 d3 C5 G5 b6
        go_wp2_with fail
        refine (fixed3 _).use ?_
        intro w7 b7
        have G7 := below_any (Nat.le_refl _) G6 b7
        go_wp2_with fail
        exact finB hR G7 rfl
      · have cB : ∀ w, RetB Try.prog 15 _ w (.int .i64 0) := cB
        go_wp2_with fail
        have A2 := ((((((((BA).set 2 (.bool false)).set 3 (.string (S u))).setOther (a := ⟨bb, 2, none⟩) hab (.bool true)).setOther (a := ⟨bb, 3, none⟩) hab (.string (S []))).setOther (a := ⟨bc, 0, none⟩) hac (.bool false)).setOther (a := ⟨bc, 1, none⟩) hac (.string (S []))).setOther (a := ⟨bc, 2, none⟩) hac (.bool true)).setOther (a := ⟨bc, 3, none⟩) hac (.string (S []))
        have B2 := ((((((((BB).setOther (a := ⟨ba, 2, none⟩) hab.symm (.bool false)).setOther (a := ⟨ba, 3, none⟩) hab.symm (.string (S u))).set 2 (.bool true)).set 3 (.string (S []))).setOther (a := ⟨bc, 0, none⟩) hbc (.bool false)).setOther (a := ⟨bc, 1, none⟩) hbc (.string (S []))).setOther (a := ⟨bc, 2, none⟩) hbc (.bool true)).setOther (a := ⟨bc, 3, none⟩) hbc (.string (S []))
        have C2 := ((((((((BC).setOther (a := ⟨ba, 2, none⟩) hac.symm (.bool false)).setOther (a := ⟨ba, 3, none⟩) hac.symm (.string (S u))).setOther (a := ⟨bb, 2, none⟩) hbc.symm (.bool true)).setOther (a := ⟨bb, 3, none⟩) hbc.symm (.string (S []))).set 0 (.bool false)).set 1 (.string (S []))).set 2 (.bool true)).set 3 (.string (S []))
        have R2 := ((((((((BR).setOther (a := ⟨ba, 2, none⟩) na1 (.bool false)).setOther (a := ⟨ba, 3, none⟩) na1 (.string (S u))).setOther (a := ⟨bb, 2, none⟩) na2 (.bool true)).setOther (a := ⟨bb, 3, none⟩) na2 (.string (S []))).setOther (a := ⟨bc, 0, none⟩) na3 (.bool false)).setOther (a := ⟨bc, 1, none⟩) na3 (.string (S []))).setOther (a := ⟨bc, 2, none⟩) na3 (.bool true)).setOther (a := ⟨bc, 3, none⟩) na3 (.string (S []))
        have G2 := ((((((((G).setCell (p := ⟨ba, 2, none⟩) (Nat.le_of_lt ha) (.bool false)).setCell (p := ⟨ba, 3, none⟩) (Nat.le_of_lt ha) (.string (S u))).setCell (p := ⟨bb, 2, none⟩) (Nat.le_of_lt hb) (.bool true)).setCell (p := ⟨bb, 3, none⟩) (Nat.le_of_lt hb) (.string (S []))).setCell (p := ⟨bc, 0, none⟩) (Nat.le_of_lt hc) (.bool false)).setCell (p := ⟨bc, 1, none⟩) (Nat.le_of_lt hc) (.string (S []))).setCell (p := ⟨bc, 2, none⟩) (Nat.le_of_lt hc) (.bool true)).setCell (p := ⟨bc, 3, none⟩) (Nat.le_of_lt hc) (.string (S []))
        clear la a0 a1 a2 a3 lb b0 b1 b2 b3 lc d0 d1 d2 d3 lr r0 r1 r2 r3 fa fb fc BA BB BC BR G
        change Calls _ _ _ ((((((((W.setCell ⟨ba, 2, none⟩ (.bool false)).setCell ⟨ba, 3, none⟩ (.string (S u))).setCell ⟨bb, 2, none⟩ (.bool true)).setCell ⟨bb, 3, none⟩ (.string (S []))).setCell ⟨bc, 0, none⟩ (.bool false)).setCell ⟨bc, 1, none⟩ (.string (S []))).setCell ⟨bc, 2, none⟩ (.bool true)).setCell ⟨bc, 3, none⟩ (.string (S []))) _
        generalize ((((((((W.setCell ⟨ba, 2, none⟩ (.bool false)).setCell ⟨ba, 3, none⟩ (.string (S u))).setCell ⟨bb, 2, none⟩ (.bool true)).setCell ⟨bb, 3, none⟩ (.string (S []))).setCell ⟨bc, 0, none⟩ (.bool false)).setCell ⟨bc, 1, none⟩ (.string (S []))).setCell ⟨bc, 2, none⟩ (.bool true)).setCell ⟨bc, 3, none⟩ (.string (S []))) = W2 at A2 B2 C2 R2 G2 ⊢
        have A2 : Blk W2 ba #[.bool true, .string (S k), .bool false, .string (S u)] 23 := A2
        have B2 : Blk W2 bb #[.bool true, .string (S k), .bool true, .string (S [])] 23 := B2
        have C2 : Blk W2 bc #[.bool false, .string (S []), .bool true, .string (S [])] 23 := C2
        refine (cA _).use ?_
        intro w4 b4
        have B4 := B2.below b4
        have C4 := C2.below b4
        have G4 := below_any (Nat.le_refl _) G2 b4
        obtain ⟨lb, b0, b1, b2, b3⟩ := B4.c4
        clear A2 B2 C2 G2 R2 b4
        go_wp2_with fail
        refine (cB _).use ?_
        intro w5 b5
        have C5 := C4.below b5
        have G5 := below_any (Nat.le_refl _) G4 b5
        obtain ⟨lc, d0, d1, d2, d3⟩ := C5.c4
        clear lb b0 b1 b2 b3 B4 C4 G4 b5
        go_wp2_with fail
        refine (cD _).use ?_
        intro w6 b6
        have G6 := below_any (Nat.le_refl _) G5 b6
        clear lc d0 d1 d2 d3 C5 G5 b6
        go_wp2_with fail
        refine (fixed3 _).use ?_
        intro w7 b7
        have G7 := below_any (Nat.le_refl _) G6 b7
        go_wp2_with fail
        exact finB hR G7 rfl
    clear hK0
    have T3 := three w3 #[.bool hk, .string (S k), .bool tb, .string (S x)] #[.bool hk, .string (S k), .bool tb, .string (S x)] #[.bool hk, .string (S k), .bool tb, .string (S x)] 23
    have R3 := (((B3.alloc (.cells #[.bool hk, .string (S k), .bool tb, .string (S x)] 23)).alloc (.cells #[.bool hk, .string (S k), .bool tb, .string (S x)] 23)).alloc (.cells #[.bool hk, .string (S k), .bool tb, .string (S x)] 23)).drew
    have G5 := (below_all (o := .cells #[.bool hk, .string (S k), .bool tb, .string (S x)] 23) (below_all (o := .cells #[.bool hk, .string (S k), .bool tb, .string (S x)] 23) (below_all (o := .cells #[.bool hk, .string (S k), .bool tb, .string (S x)] 23) G3))).drew
    go_region_held3 (fun w' => w'.cell? ⟨w.heap.size, 0, none⟩ = some (.bool hk) ∧ w'.cell? ⟨w.heap.size, 1, none⟩ = some (.string (S k)) ∧ w'.cell? ⟨w.heap.size, 2, none⟩ = some (.bool tb) ∧ w'.cell? ⟨w.heap.size, 3, none⟩ = some (.string (S x))) (first | exact kp (T := 23) (by repeat (first | exact B3 | refine Blk.drew ?_ | refine Blk.alloc ?_ _))) (fail)
    all_goals
      refine hK _ _ _ _ ?_ ?_ ?_ ?_ ?_ ?_ ?_ ?_ ?_ ?_ ?_
      all_goals with_reducible first | exact T3.1 | exact T3.2.1 | exact T3.2.2 | exact R3 | exact G5 | omega
  · go_enter Try.func8, Try.ntmps8
    go_wp2_with fail
    clear hu q1
    refine (cC _).use ?_
    intro w1 b1
    have B1 := (Blk.new w _ _).below b1
    obtain ⟨z1, c0, c1, c2, c3⟩ := B1.c4
    have f1 := fun i => Blk.frozen B1 i
    go_wp2_with fail
    have B2 := (((B1.set 0 (.bool hk)).set 1 (.string (S k))).set 2 (.bool tb)).set 3 (.string (S x))
    have G2 := ((((below_any (Nat.le_refl _) (below_all (Below.refl _ _)) b1).setCell (p := ⟨w.heap.size, 0, none⟩) (Nat.le_refl _) (.bool hk)).setCell (p := ⟨w.heap.size, 1, none⟩) (Nat.le_refl _) (.string (S k))).setCell (p := ⟨w.heap.size, 2, none⟩) (Nat.le_refl _) (.bool tb)).setCell (p := ⟨w.heap.size, 3, none⟩) (Nat.le_refl _) (.string (S x))
    clear z1 c0 c1 c2 c3 f1 B1 b1
    generalize (((w1.setCell ⟨w.heap.size, 0, none⟩ (.bool hk)).setCell ⟨w.heap.size, 1, none⟩ (.string (S k))).setCell ⟨w.heap.size, 2, none⟩ (.bool tb)).setCell ⟨w.heap.size, 3, none⟩ (.string (S x)) = W2 at B2 G2 ⊢
    have B2 : Blk W2 w.heap.size #[.bool hk, .string (S k), .bool tb, .string (S x)] 23 := B2
    refine (cK _).use ?_
    intro w3 b3
    have B3 := B2.below b3
    have G3 := below_any (Nat.le_refl _) G2 b3
    obtain ⟨z1, c0, c1, c2, c3⟩ := B3.c4
    have hcn : ((c : Int) == 0) = false := by simp; omega
    have cZ := fun w => (cZ w).cast (v' := .int .i64 0) (by unfold rput; rw [if_neg (by omega)]; rfl)
    go_wp2_with fail
    refine (cZ _).use ?_
    intro w4 b4
    have G4 := below_any (Nat.le_refl _) G3 b4
    go_wp2_with fail
    refine (fixed3 _).use ?_
    intro w5 b5
    have G5 := below_any (Nat.le_refl _) G4 b5
    go_wp2_with fail
    exact finB hR G5 rfl
end Go.Proofs.Ytikcpfoehapndaa.recordKinds
