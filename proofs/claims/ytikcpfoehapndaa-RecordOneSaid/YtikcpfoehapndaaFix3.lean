/-
  Layer 3: the calls whose answers the document fixes come out as it says.
-/
import Derived.Test.YtikcpfoehapndaaRecR
import Derived.Test.YtikcpfoehapndaaRecF
set_option linter.unusedVariables false
set_option linter.unusedSimpArgs false
namespace Go.Proofs.Ytikcpfoehapndaa
open Go.RowKit
attribute [local go_sem] ByteArray.extract_mk ByteArray.mk_append_mk

def t3 : Rec := ⟨true, [97], true, []⟩
def v3 : Rec := ⟨false, [], false, [118]⟩
theorem tomb_eq (w : World) : (binOp .eql 23 (.agg #[.bool true, .string (S [97]), .bool true, .string (S [])]) (.agg #[.bool true, .string (S [97]), .bool true, .string (S [])])).run Try.prog w = .ok (.bool true) w := (eql_rec t3 t3 w).trans (by simp)
theorem batch3_eq {p e s : Int} {l : List Rec} {x : List UInt8} {n : Nat} (h : rbatch p e s l = (x, n)) (v : Value) (w : World) (hl : RecsIn w v l) (hbd : RecsBd l) :
    RetB Try.prog 13 #[.agg #[.int .i64 p, .int .i64 e, .int .i64 s, v]] w (.tuple #[.string (S x), .int .i64 n]) := (batch3_any p e s v l w hl hbd).cast (by rw [h])
theorem parse3_eq {s : List UInt8} {at_ : Int} {m : (Int × Int × Int × List Rec) × Int × Int} (h : mparse s at_ = m) (w : World) (hl : s.length ≤ maxLen) : ParseCall 24 #[.string (S s), .int .i64 at_] w m := h ▸ parse3_any s at_ w hl

theorem put3_eqn {hk tb : Bool} {k v x : List UInt8} {n : Nat} (h : rput hk k tb v = (x, n)) (h1 : k.length ≤ maxLen) (h2 : v.length ≤ maxLen) (w : World) :
    RetB Try.prog 11 #[.agg #[.bool hk, .string (S k), .bool tb, .string (S v)]] w (.tuple #[.string (S x), .int .i64 n]) := (put3_any hk tb k v w h1 h2).cast (by rw [h])
theorem get3_eqn {s : List UInt8} {at_ : Int} {r : Rec} {to e : Int} (h : mget s at_ = (r, to, e)) (hl : s.length ≤ maxLen) (w : World) :
    RetB Try.prog 22 #[.string (S s), .int .i64 at_] w (.tuple #[.agg #[.bool r.hk, .string (S r.key), .bool r.tb, .string (S r.val)], .int .i64 to, .int .i64 e]) := (get3_any s at_ w hl).cast (by rw [h])
theorem size3_eqn {hk tb : Bool} {k v : List UInt8} {n : Nat} (h : (rput hk k tb v).1.length = n) (h1 : k.length ≤ maxLen) (h2 : v.length ≤ maxLen) (w : World) :
    RetB Try.prog 19 #[.agg #[.bool hk, .string (S k), .bool tb, .string (S v)]] w (.int .i64 n) := (size3_any hk tb k v w h1 h2).cast (by rw [h])
theorem check3_eqn {hk tb : Bool} {k v : List UInt8} {n : Nat} (h : rcheck hk k tb v = n) (h1 : k.length ≤ maxLen) (h2 : v.length ≤ maxLen) (w : World) :
    RetB Try.prog 15 #[.agg #[.bool hk, .string (S k), .bool tb, .string (S v)]] w (.int .i64 n) := (check_any hk tb k v w h1 h2).cast (by rw [h])
theorem recs_two {w : World} {b cap : Nat} {r1 r2 : Rec} (h : Blk w b #[.bool r1.hk, .string (S r1.key), .bool r1.tb, .string (S r1.val), .bool r2.hk, .string (S r2.key), .bool r2.tb, .string (S r2.val)] 23) : RecsIn w (.slice (some ⟨b, 0, none⟩) 2 cap) [r1, r2] := by
  refine .inr ⟨b, 0, cap, rfl, by simp, h.lt, fun i hi => ?_⟩
  match i, hi with
  | 0, _ => exact ⟨h.cell 0, h.cell 1, h.cell 2, h.cell 3⟩
  | 1, _ => exact ⟨h.cell 4, h.cell 5, h.cell 6, h.cell 7⟩

set_option maxHeartbeats 4000000 in
set_option maxRecDepth 100000 in
theorem fixed3 (w : World) : RetB Try.prog 21 #[] w (.bool true) := by
  refine RetB.intro fun R hR => ?_
  have h1 := fun w => put3_eqn (show rput true [97] false [98] = ([1, 1, 97, 1, 98], 0) by decide +kernel) (by decide) (by decide) w
  have h2 := fun w => put3_eqn (show rput true [97] true [] = ([3, 1, 97], 0) by decide +kernel) (by decide) (by decide) w
  have h3 := fun w => get3_eqn (show mget [120, 3, 1, 97, 121] 1 = (⟨true, [97], true, []⟩, 4, 0) by decide +kernel) (by decide) w
  have h4 := fun w => get3_eqn (show mget [2] 0 = (⟨false, [], false, []⟩, 0, 30) by decide +kernel) (by decide) w
  have h5 := @batch3_eq 1 2 300 [t3, v3] [1, 2, 172, 2, 2, 3, 1, 97, 0, 1, 118] 0 (by decide +kernel)
  have h6 := fun w => @parse3_eq [1, 2, 172, 2, 2, 3, 1, 97, 0, 1, 118, 120] 0 ((1, 2, 300, [t3, v3]), 11, 0) (by decide +kernel) w (by decide)
  have h7 := @batch3_eq 0 0 0 [] [] 30 (by decide +kernel) (.slice none 0 0)
  have h8 := fun w => size3_eqn (show (rput true [97] true []).1.length = 3 by decide +kernel) (by decide) (by decide) w
  have h9 := fun w => check3_eqn (show rcheck false [97] false [] = 30 by decide +kernel) (by decide) (by decide) w
  have bd : RecsBd [t3, v3] := ⟨by decide, by intro r hr; simp at hr; rcases hr with rfl | rfl <;> exact ⟨by decide, by decide⟩⟩
  have H5 := Lib.hid h5
  have H6 := Lib.hid h6
  have H7 := Lib.hid h7
  clear h5 h6 h7
  go_enter Try.func21, Try.ntmps21
  go_wp2_with fail
  refine (h1 _).use ?_
  intro w1 b1
  go_wp2_with fail
  refine (tomb3_any _).use ?_
  intro w2 b2
  go_wp2_with fail
  refine (h2 _).use ?_
  intro w3 b3
  go_wp2_with fail
  refine (h3 _).use ?_
  intro w4 b4
  go_wp2_with fail
  refine (h4 _).use ?_
  intro w5 b5
  go_wp2_with fail
  refine (tomb3_any _).use ?_
  intro w6 b6
  go_wp2_with fail
  have A6 := recs_two (cap := 2) (r1 := t3) (r2 := v3) (Blk.new w6 _ _)
  refine (H5.out _ _ (A6.alloc _) bd).use ?_
  intro w7 b7
  have A7 := (A6.alloc (.cells #[.int .i64 1, .int .i64 2, .int .i64 300, .slice (some ⟨w6.heap.size, 0, none⟩) 2 2] 26)).below b7
  go_wp2_with fail
  refine (H6.out _).use ?_
  intro v8 w8 r8 b8
  have r8 : RecsIn w8 v8 [t3, v3] := recs_own r8
  obtain ⟨a8, c8, rfl⟩ := r8.form
  have R8 := Lib.hid r8
  clear r8
  have A8 := A7.below b8
  go_wp2_with fail
  refine (H7.out _ (.inl ⟨rfl, _, _, rfl⟩) ⟨by decide, by simp⟩).use ?_
  intro w9 b9
  go_wp2_with fail
  have hg : Try.prog.eqGuardType Try.prog.depth 23 = false := by kernel_rfl
  have tq := tomb_eq
  have BR := (((((((((Blk.new w4 _ _).below b5).alloc _).below b6).alloc _).alloc _).below b7).below b8).alloc _).below b9
  have BB : Blk w9 (w6.heap.size + 1) #[.int .i64 1, .int .i64 2, .int .i64 300, .slice (some ⟨w6.heap.size, 0, none⟩) 2 2] 26 := by
    have h := Blk.new (w6.alloc (.cells #[.bool true, .string (S [97]), .bool true, .string (S []), .bool false, .string (S []), .bool false, .string (S [118])] 23)) #[.int .i64 1, .int .i64 2, .int .i64 300, .slice (some ⟨w6.heap.size, 0, none⟩) 2 2] 26
    rw [World.size_alloc] at h
    exact (((h.below b7).below b8).alloc _).below b9
  have BC := (Blk.new w8 _ _).below b9
  have RB := (A8.alloc (.cells #[.int .i64 1, .int .i64 2, .int .i64 300, .slice a8 2 c8] 26)).below b9
  have RC := (R8.out.alloc (.cells #[.int .i64 1, .int .i64 2, .int .i64 300, .slice a8 2 c8] 26)).below b9
  have G9 : Below w.heap.size w w9 := by repeat (first | assumption | exact Below.refl _ _ | refine below_all ?_ | refine below_any (Nat.le_refl _) ?_ (by assumption))
  clear b1 b2 b3 b4 b5 b6 b7 b8 b9 A6 A7 A8 R8
  obtain ⟨z4, hz4⟩ : ∃ z, w4.heap.size = z := ⟨_, rfl⟩
  obtain ⟨z5, hz5⟩ : ∃ z, w5.heap.size = z := ⟨_, rfl⟩
  obtain ⟨z6, hz6⟩ : ∃ z, w6.heap.size = z := ⟨_, rfl⟩
  obtain ⟨z8, hz8⟩ : ∃ z, w8.heap.size = z := ⟨_, rfl⟩
  rw [hz4] at BR ⊢
  rw [hz6] at BB RB ⊢
  rw [hz8] at BC ⊢
  rw [hz5]
  clear hz4 hz5 hz6 hz8
  have BR : Blk w9 z4 #[.bool true, .string (S [97]), .bool true, .string (S [])] 23 := BR
  have BC : Blk w9 z8 #[.int .i64 1, .int .i64 2, .int .i64 300, .slice a8 2 c8] 26 := BC
  have cS : ∀ W : World, Below w9.heap.size w9 W → RetB Try.prog 20 #[.agg #[.int .i64 1, .int .i64 2, .int .i64 300, .slice (some ⟨z6, 0, none⟩) 2 2], .agg #[.int .i64 1, .int .i64 2, .int .i64 300, .slice a8 2 c8]] W (.bool true) := fun W hW =>
    (same3_any 1 2 300 1 2 300 _ _ _ _ W (RB.below hW) (RC.below hW) (by decide) (by decide)).cast (by simp)
  clear h1 h2 h3 h4 RB RC H5 H6 H7 bd
  have P0 : Below w9.heap.size w9 w9.drew := (Below.refl _ _).drew
  have CS := Lib.hid cS
  clear cS
  simp only [List.append]
  obtain ⟨_, x0, x1, x2, x3⟩ := BR.c4
  obtain ⟨_, y0, y1, y2, y3⟩ := BB.c4
  obtain ⟨_, u0, u1, u2, u3⟩ := BC.c4
  go_region_held3 (fun w' => w'.cell? ⟨z4, 0, none⟩ = some (.bool true) ∧ w'.cell? ⟨z4, 1, none⟩ = some (.string (S [97])) ∧ w'.cell? ⟨z4, 2, none⟩ = some (.bool true) ∧ w'.cell? ⟨z4, 3, none⟩ = some (.string (S [])) ∧ w'.cell? ⟨z6 + 1, 0, none⟩ = some (.int .i64 1) ∧ w'.cell? ⟨z6 + 1, 1, none⟩ = some (.int .i64 2) ∧ w'.cell? ⟨z6 + 1, 2, none⟩ = some (.int .i64 300) ∧ w'.cell? ⟨z6 + 1, 3, none⟩ = some (.slice (some ⟨z6, 0, none⟩) 2 2) ∧ w'.cell? ⟨z8, 0, none⟩ = some (.int .i64 1) ∧ w'.cell? ⟨z8, 1, none⟩ = some (.int .i64 2) ∧ w'.cell? ⟨z8, 2, none⟩ = some (.int .i64 300) ∧ w'.cell? ⟨z8, 3, none⟩ = some (.slice a8 2 c8)) (go_keep) (first | (go_at_call 35; refine (tomb3_any _).use ?_; intro W hb; have P := below_any (Nat.le_refl _) (by assumption) hb; obtain ⟨_, xx0, xx1, xx2, xx3⟩ := (BR.below P).c4; obtain ⟨_, yy0, yy1, yy2, yy3⟩ := (BB.below P).c4; obtain ⟨_, uu0, uu1, uu2, uu3⟩ := (BC.below P).c4) | (go_at_call 20; refine (CS.out _ (by assumption)).use ?_; intro W hb; have P := below_any (Nat.le_refl _) (by assumption) hb; obtain ⟨_, xx0, xx1, xx2, xx3⟩ := (BR.below P).c4; obtain ⟨_, yy0, yy1, yy2, yy3⟩ := (BB.below P).c4; obtain ⟨_, uu0, uu1, uu2, uu3⟩ := (BC.below P).c4) | (go_at_call 19; refine (h8 _).use ?_; intro W hb; have P := below_any (Nat.le_refl _) (by assumption) hb; obtain ⟨_, xx0, xx1, xx2, xx3⟩ := (BR.below P).c4; obtain ⟨_, yy0, yy1, yy2, yy3⟩ := (BB.below P).c4; obtain ⟨_, uu0, uu1, uu2, uu3⟩ := (BC.below P).c4) | (go_at_call 15; refine (h9 _).use ?_; intro W hb; have P := below_any (Nat.le_refl _) (by assumption) hb; obtain ⟨_, xx0, xx1, xx2, xx3⟩ := (BR.below P).c4; obtain ⟨_, yy0, yy1, yy2, yy3⟩ := (BB.below P).c4; obtain ⟨_, uu0, uu1, uu2, uu3⟩ := (BC.below P).c4))
  go_wp2_with fail
  exact finB hR (below_any (Nat.le_refl _) G9 (by assumption)) rfl
end Go.Proofs.Ytikcpfoehapndaa
