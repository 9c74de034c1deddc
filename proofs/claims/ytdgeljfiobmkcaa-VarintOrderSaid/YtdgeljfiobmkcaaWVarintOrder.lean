/-
  The walk of VarintOrder.
-/
import Derived.Test.YtdgeljfiobmkcaaFix1
import Derived.Test.YtdgeljfiobmkcaaVarQ
set_option linter.unusedVariables false
set_option linter.unusedSimpArgs false
namespace Go.Proofs.Ytdgeljfiobmkcaa.varintOrder
open Go.RowKit
attribute [local go_sem] ByteArray.extract_mk ByteArray.mk_append_mk

set_option maxHeartbeats 1000000 in
set_option maxRecDepth 100000 in
theorem walk (a b : Nat) (cut : Int) (ha : 0 ≤ (a : Int) ∧ (a : Int) < 18446744073709551616) (hb : 0 ≤ (b : Int) ∧ (b : Int) < 18446744073709551616) (hc : -9223372036854775808 ≤ cut ∧ cut ≤ 9223372036854775807) (w : World) :
    RetB Try.prog 6 #[.int .u64 a, .int .u64 b, .int .i64 cut] w (.bool true) := by
  refine RetB.intro fun R hR => ?_
  have ha' : a < 18446744073709551616 := by omega
  have hb' : b < 18446744073709551616 := by omega
  have c1 := fun w => size_any a w ha'
  have c2 := fun w => size_any b w hb'
  have c3 := fun w => put_any a w ha'
  have m1 := fun h => @vput_mono a b hb' h
  have m2 := fun h => @vput_mono b a ha' h
  have p1 := vput_pos a
  have p2 := vput_le a
  have hcut := fun c => vget_cut a c ha'
  obtain ⟨q, hq⟩ : ∃ q : Nat, bits .and .i64 cut 65535 = (q : Int) := ⟨_, and_low cut 65535 16 rfl (by omega)⟩
  have hmod : q % (vput a).length < (vput a).length := Nat.mod_lt _ p1
  have c4 := fun w => vget_eq (hcut _ hmod) w (by rw [List.length_take]; unfold maxLen; omega)
  have e1 : (q : Int).tmod (((vput a).length : Nat) : Int) = ((q % (vput a).length : Nat) : Int) := by
    rw [Int.tmod_eq_emod_of_nonneg (by omega)]; rfl
  have e2 : (q : Int) % (((vput a).length : Nat) : Int) = ((q % (vput a).length : Nat) : Int) := rfl
  generalize hk : q % (vput a).length = k at *
  have hk := Lib.hid hk
  generalize hx : vput a = x at *
  generalize hy : vput b = y at *
  clear hx hy hcut
  by_cases hab : a ≤ b
  · have m1 := m1 hab
    by_cases hba : b ≤ a
    · have m2 := m2 hba
      go_enter Try.func6, Try.ntmps6
      go_wp2_with fail
      refine (c1 _).use ?_
      go_wp2_with fail
      refine (c2 _).use ?_
      go_wp2_with fail
      refine (c3 _).use ?_
      intro w1 hb1
      go_wp2_with fail
      refine (c4 _).use ?_
      go_wp2_with fail
      refine (fixed1 _).use ?_
      intro w2 hb2
      go_wp2_with fail
      exact finB hR (below_any (Nat.le_refl _) hb1 hb2) rfl
    · clear m2
      go_enter Try.func6, Try.ntmps6
      go_wp2_with fail
      refine (c1 _).use ?_
      go_wp2_with fail
      refine (c2 _).use ?_
      go_wp2_with fail
      refine (c3 _).use ?_
      intro w1 hb1
      go_wp2_with fail
      refine (c4 _).use ?_
      go_wp2_with fail
      refine (fixed1 _).use ?_
      intro w2 hb2
      go_wp2_with fail
      exact finB hR (below_any (Nat.le_refl _) hb1 hb2) rfl
  · have m2 := m2 (by omega)
    have hba : b ≤ a := by omega
    clear m1
    go_enter Try.func6, Try.ntmps6
    go_wp2_with fail
    refine (c1 _).use ?_
    go_wp2_with fail
    refine (c2 _).use ?_
    go_wp2_with fail
    refine (c3 _).use ?_
    intro w1 hb1
    go_wp2_with fail
    refine (c4 _).use ?_
    go_wp2_with fail
    refine (fixed1 _).use ?_
    intro w2 hb2
    go_wp2_with fail
    exact finB hR (below_any (Nat.le_refl _) hb1 hb2) rfl
end Go.Proofs.Ytdgeljfiobmkcaa.varintOrder
