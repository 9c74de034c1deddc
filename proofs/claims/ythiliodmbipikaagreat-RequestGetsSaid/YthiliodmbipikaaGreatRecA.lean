/-
  Layer 3: contracts of one record's functions.
-/
import Derived.Test.YthiliodmbipikaaGreatBase
import Derived.Test.YthiliodmbipikaaGreatVarX
import Derived.Outline
set_option linter.unusedVariables false
set_option linter.unusedSimpArgs false
namespace Go.Proofs.YthiliodmbipikaaGreat
open Go.RowKit
attribute [local go_sem] ByteArray.extract_mk ByteArray.mk_append_mk

theorem number3_any (n : Int) (w : World) : Ret Tryz.prog 111 #[.int .i64 n] w (.bool (numB n)) := by
  refine Ret.intro fun R hR => ?_
  unfold numB at hR
  by_cases h1 : 0 ≤ n
  · by_cases h2 : n ≤ 1099511627776
    · go_enter Tryz.func111, Tryz.ntmps111
      go_wp2
      exact fin hR (by simp [h1, h2])
    · go_enter Tryz.func111, Tryz.ntmps111
      go_wp2
      exact fin hR (by simp [h1, h2])
  · go_enter Tryz.func111, Tryz.ntmps111
    go_wp2
    exact fin hR (by rw [decide_eq_false (by omega)]; rfl)
theorem rnum_any (n : Int) (w : World) : Ret Tryz.prog 55 #[.int .i64 n] w (.bool (numB n)) := by
  refine Ret.intro fun R hR => ?_
  unfold numB at hR
  by_cases h1 : 0 ≤ n
  · by_cases h2 : n ≤ 1099511627776
    · go_enter Tryz.func55, Tryz.ntmps55
      go_wp2
      exact fin hR (by simp [h1, h2])
    · go_enter Tryz.func55, Tryz.ntmps55
      go_wp2
      exact fin hR (by simp [h1, h2])
  · go_enter Tryz.func55, Tryz.ntmps55
    go_wp2
    exact fin hR (by rw [decide_eq_false (by omega)]; rfl)

theorem rcheck_30 {hk tb : Bool} {k v : List UInt8} (h : ((!hk && !k.isEmpty) || (tb && (!hk || !v.isEmpty))) = true) : (rcheck hk k tb v : Int) = 30 := by
  unfold rcheck; rw [if_pos h]; rfl
theorem rcheck_2 {hk tb : Bool} {k v : List UInt8} (h : ((!hk && !k.isEmpty) || (tb && (!hk || !v.isEmpty))) = false) (h2 : (64 : Int) < k.length ∨ (512 : Int) < v.length) : (rcheck hk k tb v : Int) = 2 := by
  unfold rcheck; rw [if_neg (by simp [h]), if_pos (by omega)]; rfl
theorem rcheck_0 {hk tb : Bool} {k v : List UInt8} (h : ((!hk && !k.isEmpty) || (tb && (!hk || !v.isEmpty))) = false) (h2 : (k.length : Int) ≤ 64) (h3 : (v.length : Int) ≤ 512) : (rcheck hk k tb v : Int) = 0 := by
  unfold rcheck; rw [if_neg (by simp [h]), if_neg (by omega)]; rfl

set_option maxHeartbeats 1000000 in
set_option maxRecDepth 100000 in
theorem check_any (hk tb : Bool) (k v : List UInt8) (w : World) (h1 : k.length ≤ maxLen) (h2 : v.length ≤ maxLen) :
    RetB Tryz.prog 63 #[.agg #[.bool hk, .string (S k), .bool tb, .string (S v)]] w (.int .i64 (rcheck hk k tb v)) := by
  refine RetB.intro fun R hR => ?_
  unfold maxLen at h1 h2
  cases hk <;> cases tb
  all_goals
    go_enter Tryz.func63, Tryz.ntmps63
    go_wp2
    all_goals (refine finB hR ((Below.refl _ w).alloc (Nat.le_refl _) _) ?_)
    all_goals first | exact veq_int (rcheck_30 (by simp_all)).symm | exact veq_int (rcheck_2 (by simp_all) (by omega)).symm | exact veq_int (rcheck_0 (by simp_all) (by omega) (by omega)).symm | (exfalso; simp_all; done)

set_option maxHeartbeats 1000000 in
set_option maxRecDepth 100000 in
theorem r3check_any (hk tb : Bool) (k v : List UInt8) (w : World) (h1 : k.length ≤ maxLen) (h2 : v.length ≤ maxLen) :
    RetB Tryz.prog 70 #[.agg #[.bool hk, .string (S k), .bool tb, .string (S v)]] w (.int .i64 (rcheck hk k tb v)) := by
  refine RetB.intro fun R hR => ?_
  unfold maxLen at h1 h2
  obtain ⟨b1, hb1⟩ : ∃ b, k.isEmpty = b := ⟨_, rfl⟩
  obtain ⟨b2, hb2⟩ : ∃ b, v.isEmpty = b := ⟨_, rfl⟩
  have k1 : b1 = false → 0 < k.length := fun h => by subst h; cases k <;> simp_all
  have v1 : b2 = false → 0 < v.length := fun h => by subst h; cases v <;> simp_all
  have k2 : b1 = true → k = [] := fun h => by subst h; cases k <;> simp_all
  have v2 : b2 = true → v = [] := fun h => by subst h; cases v <;> simp_all
  have HR := rcheck_30 (hk := hk) (tb := tb) (k := k) (v := v)
  have H2 := rcheck_2 (hk := hk) (tb := tb) (k := k) (v := v)
  have H0 := rcheck_0 (hk := hk) (tb := tb) (k := k) (v := v)
  rw [hb1, hb2] at HR H2 H0
  clear hb1 hb2
  cases hk <;> cases tb <;> cases b1 <;> cases b2
  all_goals
    simp only [Bool.not_true, Bool.not_false, Bool.true_and, Bool.false_and, Bool.or_true, Bool.or_false, Bool.true_or, Bool.false_or, Bool.and_true, Bool.and_false, forall_const, true_implies, Bool.true_eq_false, Bool.false_eq_true, reduceCtorEq, false_implies] at HR H2 H0 k1 v1 k2 v2
    try subst k2
    try subst v2
    have HR := Lib.hid HR
    have H2 := Lib.hid H2
    have H0 := Lib.hid H0
  all_goals first
    | (go_enter Tryz.func70, Tryz.ntmps70
       go_wp2
       exact finB hR ((Below.refl _ w).alloc (Nat.le_refl _) _) (veq_int HR.out.symm))
    | (by_cases h3 : (64 : Int) < k.length
       · have h3' := Lib.hid (show (64 : Int) < k.length from h3)
         go_enter Tryz.func70, Tryz.ntmps70
         go_wp2
         exact finB hR ((Below.refl _ w).alloc (Nat.le_refl _) _) (veq_int (H2.out (.inl h3'.out)).symm)
       · by_cases h4 : (512 : Int) < v.length
         · have h4' := Lib.hid (show (512 : Int) < v.length from h4)
           go_enter Tryz.func70, Tryz.ntmps70
           go_wp2
           exact finB hR ((Below.refl _ w).alloc (Nat.le_refl _) _) (veq_int (H2.out (.inr h4'.out)).symm)
         · have h3' := Lib.hid (show (k.length : Int) ≤ 64 by omega)
           have h4' := Lib.hid (show (v.length : Int) ≤ 512 by omega)
           go_enter Tryz.func70, Tryz.ntmps70
           go_wp2
           exact finB hR ((Below.refl _ w).alloc (Nat.le_refl _) _) (veq_int (H0.out h3'.out h4'.out).symm))
    | (by_cases h4 : (512 : Int) < v.length
       · have h4' := Lib.hid (show (512 : Int) < v.length from h4)
         go_enter Tryz.func70, Tryz.ntmps70
         go_wp2
         exact finB hR ((Below.refl _ w).alloc (Nat.le_refl _) _) (veq_int (H2.out (.inr h4'.out)).symm)
       · have h4' := Lib.hid (show (v.length : Int) ≤ 512 by omega)
         go_enter Tryz.func70, Tryz.ntmps70
         go_wp2
         exact finB hR ((Below.refl _ w).alloc (Nat.le_refl _) _) (veq_int (H0.out (by simp) h4'.out).symm))
    | (by_cases h3 : (64 : Int) < k.length
       · have h3' := Lib.hid (show (64 : Int) < k.length from h3)
         go_enter Tryz.func70, Tryz.ntmps70
         go_wp2
         exact finB hR ((Below.refl _ w).alloc (Nat.le_refl _) _) (veq_int (H2.out (.inl h3'.out)).symm)
       · have h3' := Lib.hid (show (k.length : Int) ≤ 64 by omega)
         go_enter Tryz.func70, Tryz.ntmps70
         go_wp2
         exact finB hR ((Below.refl _ w).alloc (Nat.le_refl _) _) (veq_int (H0.out h3'.out (by simp)).symm))
    | (go_enter Tryz.func70, Tryz.ntmps70
       go_wp2
       exact finB hR ((Below.refl _ w).alloc (Nat.le_refl _) _) (veq_int (H0.out (by simp) (by simp)).symm))

set_option maxRecDepth 100000 in
theorem kind3_any (hk tb : Bool) (k v : List UInt8) (w : World) : RetB Tryz.prog 73 #[.agg #[.bool hk, .string (S k), .bool tb, .string (S v)]] w (.int .u8 (if tb then 3 else if hk then 1 else 0)) := by
  refine RetB.intro fun R hR => ?_
  cases hk <;> cases tb
  all_goals
    go_enter Tryz.func73, Tryz.ntmps73
    go_wp2
    exact finB hR ((Below.refl _ w).alloc (Nat.le_refl _) _) rfl

set_option maxHeartbeats 1000000 in
set_option maxRecDepth 100000 in
theorem text3_any (hk tb : Bool) (k v : List UInt8) (w : World) (h : tb = true → hk = true) (h1 : k.length ≤ 1000) (h2 : v.length ≤ 1000) :
    RetB Tryz.prog 64 #[.agg #[.bool hk, .string (S k), .bool tb, .string (S v)]] w (.string (S (rtext hk k tb v))) := by
  refine RetB.intro fun R hR => ?_
  have cK := fun w => kind3_any hk tb k v w
  have p1 := fun w => puttext_any k w (by omega)
  have p2 := fun w => puttext_any v w (by omega)
  have l1 : (vtxt k).length ≤ 1010 := by have := vput_le k.length; unfold vtxt; rw [List.length_append]; omega
  have l2 : (vtxt v).length ≤ 1010 := by have := vput_le v.length; unfold vtxt; rw [List.length_append]; omega
  unfold rtext at hR
  generalize vtxt k = xk at *
  generalize vtxt v = xv at *
  have cA := fun (x : Nat) (w : World) => conv1 (P := Tryz.prog) Tryz.underlying86 Tryz.underlying5 Tryz.underlying9 (w.alloc (.cells #[.int .u8 (x : Int)] 5)) w.heap.size 1 x (by simp)
  simp only [strOfNums_one] at cA
  cases hk <;> cases tb
  · have cK : ∀ w, RetB Tryz.prog 73 _ w (.int .u8 0) := fun w => (cK w).cast rfl
    have c0 : ∀ w : World, (convert 86 9 (.slice (some ⟨w.heap.size, 0, none⟩) 1 1)).run Tryz.prog (w.alloc (.cells #[.int .u8 0] 5)) = .ok (.string (S [0])) (w.alloc (.cells #[.int .u8 0] 5)) := cA 0
    clear cA
    go_enter Tryz.func64, Tryz.ntmps64
    go_wp2_with (first | (go_at_call 73; refine (cK _).use ?_; intro w1 hb1; have B1 := (Blk.new w _ _).below hb1; obtain ⟨hz1, c10, c11, c12, c13⟩ := B1.c4) | (go_at_call 74; refine (p2 _).use ?_; intro w2 hb2))
    exact finB hR (below_any (Nat.le_refl _) (below_all (below_any (Nat.le_refl _) (below_all (Below.refl _ _)) hb1)) hb2) rfl
  · exact absurd (h rfl) (by decide)
  · have cK : ∀ w, RetB Tryz.prog 73 _ w (.int .u8 1) := fun w => (cK w).cast rfl
    have c0 : ∀ w : World, (convert 86 9 (.slice (some ⟨w.heap.size, 0, none⟩) 1 1)).run Tryz.prog (w.alloc (.cells #[.int .u8 1] 5)) = .ok (.string (S [1])) (w.alloc (.cells #[.int .u8 1] 5)) := cA 1
    clear cA
    go_enter Tryz.func64, Tryz.ntmps64
    go_wp2_with fail
    refine (cK _).use ?_
    intro w1 hb1
    have B1 := (Blk.new w _ _).below hb1
    obtain ⟨hz1, c10, c11, c12, c13⟩ := B1.c4
    go_wp2_with fail
    refine (p1 _).use ?_
    intro w2 hb2
    have B2 := (B1.alloc _).below hb2
    obtain ⟨hz2, c20, c21, c22, c23⟩ := B2.c4
    go_wp2_with fail
    refine (p2 _).use ?_
    intro w3 hb3
    go_wp2_with fail
    exact finB hR (below_any (Nat.le_refl _) (below_any (Nat.le_refl _) (below_all (below_any (Nat.le_refl _) (below_all (Below.refl _ _)) hb1)) hb2) hb3) rfl
  · have cK : ∀ w, RetB Tryz.prog 73 _ w (.int .u8 3) := fun w => (cK w).cast rfl
    have c0 : ∀ w : World, (convert 86 9 (.slice (some ⟨w.heap.size, 0, none⟩) 1 1)).run Tryz.prog (w.alloc (.cells #[.int .u8 3] 5)) = .ok (.string (S [3])) (w.alloc (.cells #[.int .u8 3] 5)) := cA 3
    clear cA
    go_enter Tryz.func64, Tryz.ntmps64
    go_wp2_with (first | (go_at_call 73; refine (cK _).use ?_; intro w1 hb1; have B1 := (Blk.new w _ _).below hb1; obtain ⟨hz1, c10, c11, c12, c13⟩ := B1.c4) | (go_at_call 74; refine (p1 _).use ?_; intro w2 hb2; have B2 := (B1.alloc _).below hb2; obtain ⟨hz2, c20, c21, c22, c23⟩ := B2.c4))
    exact finB hR (below_any (Nat.le_refl _) (below_all (below_any (Nat.le_refl _) (below_all (Below.refl _ _)) hb1)) hb2) rfl
end Go.Proofs.YthiliodmbipikaaGreat
