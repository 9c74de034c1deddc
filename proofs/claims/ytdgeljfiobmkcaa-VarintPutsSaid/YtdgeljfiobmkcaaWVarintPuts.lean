/-
  The walk of VarintPuts.
-/
import Derived.Test.YtdgeljfiobmkcaaFix1
import Derived.Test.YtdgeljfiobmkcaaVarQ
set_option linter.unusedVariables false
set_option linter.unusedSimpArgs false
namespace Go.Proofs.Ytdgeljfiobmkcaa.varintPuts
open Go.RowKit
attribute [local go_sem] ByteArray.extract_mk ByteArray.mk_append_mk

set_option maxHeartbeats 1000000 in
set_option maxRecDepth 100000 in
theorem walk (n : Nat) (hn : 0 ≤ (n : Int) ∧ (n : Int) < 18446744073709551616) (w : World) :
    RetB Try.prog 3 #[.int .u64 n] w (.bool true) := by
  refine RetB.intro fun R hR => ?_
  have hn' : n < 18446744073709551616 := by omega
  obtain ⟨z, hz, hz1, hz2⟩ : ∃ z, wrap64 (n : Int) = z ∧ -9223372036854775808 ≤ z ∧ z ≤ 9223372036854775807 := ⟨_, rfl, by unfold wrap64; omega, by unfold wrap64; omega⟩
  have c1 := fun w => put_any n w hn'
  have c2 := fun w => rput_eq n w hn'
  have c3 := fun w => size_any n w hn'
  have c4 := fun w => zig_any z w hz1 hz2
  have c5 := fun w => rzig_any z w hz1 hz2
  have c6 := fun w => zag_any n w hn'
  have c7 := fun w => rzag_any n w hn'
  generalize vput n = x at *
  generalize zig z = y at *
  generalize zag n = v at *
  go_enter Try.func3, Try.ntmps3
  go_wp2_with fail
  refine (c1 _).use ?_
  intro w1 hb1
  go_wp2_with fail
  refine (c2 _).use ?_
  intro w2 hb2
  go_wp2_with fail
  refine (c3 _).use ?_
  go_wp2_with fail
  refine (c4 _).use ?_
  go_wp2_with fail
  refine (c5 _).use ?_
  go_wp2_with fail
  refine (c6 _).use ?_
  go_wp2_with fail
  refine (c7 _).use ?_
  go_wp2_with fail
  refine (fixed1 _).use ?_
  intro w3 hb3
  go_wp2_with fail
  exact finB hR (below_any (Nat.le_refl _) (below_any (Nat.le_refl _) hb1 hb2) hb3) rfl
end Go.Proofs.Ytdgeljfiobmkcaa.varintPuts
