/-
  The walk of RecordGets.
-/
import Derived.Test.YtikcpfoehapndaaFix3
set_option linter.unusedVariables false
set_option linter.unusedSimpArgs false
namespace Go.Proofs.Ytikcpfoehapndaa.recordGets
open Go.RowKit
attribute [local go_sem] ByteArray.extract_mk ByteArray.mk_append_mk

theorem rget3_eqn {s : List UInt8} {at_ : Int} {r : Rec} {to e : Int} (h : mget s at_ = (r, to, e)) (hl : s.length ≤ maxLen) (w : World) :
    RetB Try.prog 23 #[.string (S s), .int .i64 at_] w (.tuple #[.agg #[.bool r.hk, .string (S r.key), .bool r.tb, .string (S r.val)], .int .i64 to, .int .i64 e]) := (rget3_any s at_ w hl).cast (by rw [h]; rfl)
theorem rparse3_eq {s : List UInt8} {at_ : Int} {m : (Int × Int × Int × List Rec) × Int × Int} (h : mparse s at_ = m) (w : World) (hl : s.length ≤ maxLen) : ParseCall 25 #[.string (S s), .int .i64 at_] w m := h ▸ rparse3_any s at_ w hl

theorem mrecs_len (s : List UInt8) : ∀ (n : Nat) (a : Int), (mrecs s n a).1.length ≤ n
  | 0, a => by simp [mrecs]
  | n + 1, a => by
    rw [mrecs]
    simp only
    split
    · have := mrecs_len s n (mrec s a 0).2.1; simp; omega
    · simp
theorem mparse_len (s : List UInt8) (p : Int) : (mparse s p).1.2.2.2.length ≤ 16 := by
  unfold mparse
  simp only
  split
  · simp
  · rename_i h
    split
    · simp
    · have h2 := mrecs_len s ((nst s p 4).2.2.2.getD 3 0) (nst s p 4).1
      have h3 : (nst s p 4).2.2.2.getD 3 0 ≤ 16 := by
        simp only [ne_eq, Decidable.not_not] at h
        unfold nerr at h
        split at h
        · rename_i h4; exact absurd h h4
        · split at h
          · cases h
          · split at h
            · cases h
            · split at h
              · cases h
              · omega
      simp only
      omega

set_option maxHeartbeats 4000000 in
set_option maxRecDepth 100000 in
theorem walk {w : World} (s : List UInt8) (p : Int) (hs : s.length ≤ maxLen) (hp : -9223372036854775808 ≤ p ∧ p ≤ 9223372036854775807) :
    RetB Try.prog 4 #[.string (S s), .int .i64 p] w (.bool true) := by
  refine RetB.intro fun R hR => ?_
  unfold maxLen at hs
  have q1 : ((min (s.length : Int) 1500).toNat) = min s.length 1500 := by omega
  obtain ⟨u, hu⟩ : ∃ u, s.take (min s.length 1500) = u := ⟨_, rfl⟩
  have lu : u.length ≤ 1500 := by rw [← hu, List.length_take]; omega
  have lu2 : u.length ≤ maxLen := by unfold maxLen; omega
  obtain ⟨⟨r, to, e⟩, hm⟩ : ∃ y, mget u p = y := ⟨_, rfl⟩
  have cG := fun w => get3_eqn hm lu2 w
  have cH := fun w => rget3_eqn hm lu2 w
  obtain ⟨⟨⟨a, b, c, l⟩, x, y⟩, hq⟩ : ∃ y, mparse u p = y := ⟨_, rfl⟩
  have cP := fun w => parse3_eq hq w lu2
  have cQ := fun w => rparse3_eq hq w lu2
  have hne : ∀ w, _ = Result.ok (Value.bool false) w := fun w => (neq_rec r r w).trans (by simp)
  have hg : Try.prog.eqGuardType Try.prog.depth 23 = false := by kernel_rfl
  have hlb : l.length ≤ 16 := by have h := mparse_len u p; rw [hq] at h; exact h
  have CP := Lib.hid cP
  have CQ := Lib.hid cQ
  clear cP cQ hm hq lu2 hp
  go_enter Try.func4, Try.ntmps4
  go_wp2_with fail
  clear hu q1
  refine (cG _).use ?_
  intro w1 b1
  have B1 := below_all (o := .cells #[.bool r.hk, .string (S r.key), .bool r.tb, .string (S r.val)] 23) b1
  have R1 := Blk.new w1 #[.bool r.hk, .string (S r.key), .bool r.tb, .string (S r.val)] 23
  go_wp2_with fail
  refine (cH _).use ?_
  intro w2 b2
  have R2 := R1.below b2
  have B2 := below_any (Nat.le_refl _) B1 b2
  obtain ⟨zz, c0, c1, c2, c3⟩ := R2.c4
  clear R1 B1 b1 b2
  go_wp2_with fail
  have B3 := below_all (o := .cells #[.bool r.hk, .string (S r.key), .bool r.tb, .string (S r.val)] 23) B2
  clear zz c0 c1 c2 c3 hne R2 B2
  go_loopw [11, 12, 13, 14, 15, 16, 17, 18] (fun (v11 v12 v13 v14 v15 v16 v17 v18 : Value) (W : World) => ∃ k : Nat, k ≤ 2 ∧ v11 = .int .i64 (k : Int) ∧ Below w.heap.size w W) (fun (v11 v12 v13 v14 v15 v16 v17 v18 : Value) (W : World) => (2 - intOf v11).toNat)
  case atStart => exact ⟨0, by omega, rfl, B3⟩
  case round =>
    obtain ⟨k, hk, rfl, hnx⟩ := hrel
    by_cases hk2 : k < 2
    · obtain ⟨wo, rfl⟩ : ∃ wo : World, wo = wr := ⟨_, rfl⟩
      go_wp2_with fail
      refine (CP.out _).use ?_
      intro v4 w4 o4 b4
      have o4 : w4.ownsRow wo.heap.size 23 4 v4 l.length (l.flatMap Rec.cells) := o4
      obtain ⟨a4, p4, rfl⟩ := (recs_own o4).form
      have B4 := below_all (o := .cells #[.int .i64 a, .int .i64 b, .int .i64 c, .slice a4 l.length p4] 26) (below_any (Nat.le_refl _) hnx b4)
      have T4 := Blk.new w4 #[.int .i64 a, .int .i64 b, .int .i64 c, .slice a4 l.length p4] 26
      have o5 := o4.alloc (.cells #[.int .i64 a, .int .i64 b, .int .i64 c, .slice a4 l.length p4] 26)
      have hsz := b4.size
      clear o4 b4
      go_wp2_with fail
      refine (CQ.out _).use ?_
      intro v6 w6 o6 b6
      have o6 := recs_own o6
      obtain ⟨a6, p6, rfl⟩ := o6.form
      have B6 := below_all (o := .cells #[.int .i64 a, .int .i64 b, .int .i64 c, .slice a6 l.length p6] 26) (below_any (Nat.le_refl _) B4 b6)
      have T6 := T4.below b6
      have o7 := o5.kept (row := none) ⟨b6.os, b6.tape, b6.output, b6.size, fun i hi _ => b6.block i hi⟩ (by cases hv : (Value.slice a4 l.length p4).ownBlock <;> simp)
      obtain ⟨zz, c0, c1, c2, c3⟩ := T6.c4
      clear T4 o5 B4 b6
      have U6 := T6.alloc (.cells #[.int .i64 a, .int .i64 b, .int .i64 c, .slice a6 l.length p6] 26)
      have o8 := o7.alloc (.cells #[.int .i64 a, .int .i64 b, .int .i64 c, .slice a6 l.length p6] 26)
      have cS := (same3_any a b c a b c (.slice a4 l.length p4) (.slice a6 l.length p6) l l _ (recs_own o8) (o6.alloc (.cells #[.int .i64 a, .int .i64 b, .int .i64 c, .slice a6 l.length p6] 26)) (by unfold maxLen; omega) (by unfold maxLen; omega)).cast (v' := .bool true) (by simp)
      have CS := Lib.hid cS
      have O8 := Lib.hid o8
      clear cS o6 o7 o8
      go_wp2_with fail
      refine CS.out.use ?_
      intro w9 b9
      have T9 := U6.below b9
      have B9 := below_any (Nat.le_refl _) B6 b9
      have o9 := O8.out.kept (row := none) ⟨b9.os, b9.tape, b9.output, b9.size, fun i hi _ => b9.block i hi⟩ (by cases hv : (Value.slice a4 l.length p4).ownBlock <;> simp)
      clear CS O8 b9 U6 B6 zz c0 c1 c2 c3
      go_wp2_with fail
      have hend : ∀ W, Below w.heap.size w W → ∃ k' : Nat, k' ≤ 2 ∧ Value.int .i64 ((k : Int) + 1) = .int .i64 (k' : Int) ∧ Below w.heap.size w W := fun W h => ⟨k + 1, by omega, by go_num, h⟩
      have HE := Lib.hid hend
      clear hend
      by_cases hl0 : l.length = 0
      · obtain ⟨_, c0, c1, c2, c3⟩ := T9.c4
        refine wp_loop_rounds 1 ?_
        rw [rounds_succ]
        go_wp2
        go_roundw
        case rel => exact HE.out _ B9
        case measure => simp [intOf]; omega
      · rcases id o9.2 with ⟨_, h0⟩ | ⟨g, cap, cur, hsl, hbg, hgg, hnc, _, hcs, _⟩
        · exact absurd h0 hl0
        simp only [Value.slice.injEq, true_and] at hsl
        obtain ⟨rfl, rfl⟩ := hsl
        have hwo := hnx.size
        have D9 : Blk w9 g cur 23 := hgg
        have hN : l.length * 4 ≤ cur.size := by omega
        obtain ⟨N, hNN⟩ : ∃ N, cur.size = N := ⟨_, rfl⟩
        rw [hNN] at hN
        have D9' : ∃ cu : Array Value, Blk w9 g cu 23 ∧ cu.size = N := ⟨cur, D9, hNN⟩
        clear hgg hcs hNN o9 D9 hl0
        go_loopw [18] (fun (v18 : Value) (W : World) => ∃ j : Nat, j ≤ l.length ∧ v18 = .int .i64 (j : Int) ∧ Blk W w4.heap.size #[.int .i64 a, .int .i64 b, .int .i64 c, .slice (some ⟨g, 0, none⟩) l.length p4] 26 ∧ (∃ cu : Array Value, Blk W g cu 23 ∧ cu.size = N) ∧ Below w.heap.size w W) (fun (v18 : Value) (W : World) => (l.length - intOf v18).toNat)
        case atStart => exact ⟨0, by omega, rfl, T9, D9', B9⟩
        case round =>
          obtain ⟨j, hj, rfl, T10, ⟨cu, D10, hcu⟩, B10⟩ := hrel
          obtain ⟨_, c0, c1, c2, c3⟩ := T10.c4
          by_cases hjl : j < l.length
          · have ck := D10.cell (j * 4 + 1)
            have hix : j * 4 + 1 < cu.size := by omega
            rw [Array.getElem?_eq_getElem hix] at ck
            have fk := D10.frozen (j * 4 + 1)
            have lg := D10.lt
            generalize cu[j * 4 + 1] = old at ck
            have hgz : w4.heap.size ≠ g := blk_ne T10 D10 (by decide)
            go_wp2_with fail
            go_roundw
            case rel => exact ⟨j + 1, by omega, by go_num, T10.setOther (by simpa using hgz) _, ⟨_, D10.set _ _, by simpa using hcu⟩, B10.setCell (p := ⟨g, j * 4 + 1, none⟩) (by simp; omega) _⟩
            case measure => simp [intOf]; omega
          · go_wp2_with fail
            go_roundw
            case rel => exact HE.out _ B10
            case measure => simp [intOf]; omega
    · have hk5 : ¬ (k : Int) < 2 := by omega
      go_wp2_with fail
      refine (fixed3 _).use ?_
      intro w4 b4
      go_wp2_with fail
      exact finB hR (below_any (Nat.le_refl _) hnx b4) rfl
end Go.Proofs.Ytikcpfoehapndaa.recordGets
