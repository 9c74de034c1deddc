/-
  The walk of VarintSigns.
-/
import Derived.Test.YtdgeljfiobmkcaaFix1
import Derived.Test.YtdgeljfiobmkcaaVarQ
set_option linter.unusedVariables false
set_option linter.unusedSimpArgs false
namespace Go.Proofs.Ytdgeljfiobmkcaa.varintSigns
open Go.RowKit
attribute [local go_sem] ByteArray.extract_mk ByteArray.mk_append_mk

set_option maxHeartbeats 1000000 in
set_option maxRecDepth 100000 in
theorem walk (n : Int) (m : Nat) (hn : -9223372036854775808 ≤ n ∧ n ≤ 9223372036854775807) (hm : 0 ≤ (m : Int) ∧ (m : Int) < 18446744073709551616) (w : World) :
    RetB Try.prog 7 #[.int .i64 n, .int .u64 m] w (.bool true) := by
  refine RetB.intro fun R hR => ?_
  have hm' : m < 18446744073709551616 := by omega
  obtain ⟨hz0, hz1⟩ := zig_bd n hn.1 hn.2
  have c1 := fun w => zig_any n w hn.1 hn.2
  obtain ⟨z, hz⟩ := Int.eq_ofNat_of_zero_le hz0
  have hback := zag_zig n hn.1 hn.2
  have hpar : z % 2 = 1 ↔ n < 0 := by unfold zig at hz; split at hz <;> omega
  have hsm : z < 128 ↔ (-64 ≤ n ∧ n < 64) := by unfold zig at hz; split at hz <;> omega
  rw [hz] at hback hz1 c1
  rw [Int.toNat_natCast] at hback
  have c2 := fun w => (zag_any z w (by omega)).cast (veq_int hback)
  have c3 := fun w => zag_any m w hm'
  obtain ⟨hg0, hg1⟩ := zag_bd m hm'
  have c4 := fun w => (zig_any (zag m) w hg0 hg1).cast (veq_int (zig_zag m))
  have c5 := fun w => size_any z w (by omega)
  have hone := vput_one z
  have hzn : 0 ≤ (z : Int) := by omega
  generalize hy : (vput z).length = y at *
  generalize zag m = v at *
  clear hy hz hz0 hback
  have Hone := Lib.hid hone
  have Hsm := Lib.hid hsm
  have Hpar := Lib.hid hpar
  clear hone hsm hpar
  by_cases h0 : n < 0
  · have q1 : (z : Int) % 2 = 1 := by have := Hpar.out.2 h0; omega
    by_cases h1 : -64 ≤ n
    · have q2 : (y : Int) = 1 := by have := Hone.out.2 (Hsm.out.2 ⟨h1, by omega⟩); omega
      have h2 : n < 64 := by omega
      go_enter Try.func7, Try.ntmps7
      go_wp2_with fail
      refine (c1 _).use ?_
      go_wp2_with fail
      refine (c2 _).use ?_
      go_wp2_with fail
      refine (c3 _).use ?_
      go_wp2_with fail
      refine (c4 _).use ?_
      go_wp2_with fail
      refine (c5 _).use ?_
      go_wp2_with fail
      refine (fixed1 _).use ?_
      intro w2 hb2
      go_wp2_with fail
      exact finB hR hb2 (veq_bool (by simp; try omega))
    · have q2 : ((y : Int) == 1) = false := by
        rw [beq_eq_false_iff_ne]; intro h; have := (Hsm.out.1 (Hone.out.1 (by omega))).1; omega
      have h1' : n < -64 := by omega
      have hd : decide (-64 ≤ n) = false := decide_eq_false h1
      clear h1
      go_enter Try.func7, Try.ntmps7
      go_wp2_with fail
      refine (c1 _).use ?_
      go_wp2_with fail
      refine (c2 _).use ?_
      go_wp2_with fail
      refine (c3 _).use ?_
      go_wp2_with fail
      refine (c4 _).use ?_
      go_wp2_with fail
      refine (c5 _).use ?_
      go_wp2_with fail
      refine (fixed1 _).use ?_
      intro w2 hb2
      go_wp2_with fail
      exact finB hR hb2 (veq_bool (by simp; try omega))
  · have q1 : ((z : Int) % 2 == 1) = false := by
      rw [beq_eq_false_iff_ne]; intro h; have := Hpar.out.1 (by omega); omega
    have h1 : -64 ≤ n := by omega
    by_cases h2 : n < 64
    · have q2 : (y : Int) = 1 := by have := Hone.out.2 (Hsm.out.2 ⟨h1, by omega⟩); omega
      go_enter Try.func7, Try.ntmps7
      go_wp2_with fail
      refine (c1 _).use ?_
      go_wp2_with fail
      refine (c2 _).use ?_
      go_wp2_with fail
      refine (c3 _).use ?_
      go_wp2_with fail
      refine (c4 _).use ?_
      go_wp2_with fail
      refine (c5 _).use ?_
      go_wp2_with fail
      refine (fixed1 _).use ?_
      intro w2 hb2
      go_wp2_with fail
      exact finB hR hb2 (veq_bool (by simp; try omega))
    · have q2 : ((y : Int) == 1) = false := by
        rw [beq_eq_false_iff_ne]; intro h; have := (Hsm.out.1 (Hone.out.1 (by omega))).2; omega
      go_enter Try.func7, Try.ntmps7
      go_wp2_with fail
      refine (c1 _).use ?_
      go_wp2_with fail
      refine (c2 _).use ?_
      go_wp2_with fail
      refine (c3 _).use ?_
      go_wp2_with fail
      refine (c4 _).use ?_
      go_wp2_with fail
      refine (c5 _).use ?_
      go_wp2_with fail
      refine (fixed1 _).use ?_
      intro w2 hb2
      go_wp2_with fail
      exact finB hR hb2 (veq_bool (by simp; try omega))
end Go.Proofs.Ytdgeljfiobmkcaa.varintSigns
