/-
  The walk of VarintGets.
-/
import Derived.Test.YtdgeljfiobmkcaaFix1
set_option linter.unusedVariables false
set_option linter.unusedSimpArgs false
namespace Go.Proofs.Ytdgeljfiobmkcaa.varintGets
open Go.RowKit
attribute [local go_sem] ByteArray.extract_mk ByteArray.mk_append_mk

set_option maxHeartbeats 1000000 in
set_option maxRecDepth 100000 in
theorem walk (s : List UInt8) (p most : Int) (hs : s.length ≤ maxLen) (hp : -9223372036854775808 ≤ p ∧ p ≤ 9223372036854775807) (hm : -9223372036854775808 ≤ most ∧ most ≤ 9223372036854775807) (w : World) :
    RetB Try.prog 4 #[.string (S s), .int .i64 p, .int .i64 most] w (.bool true) := by
  refine RetB.intro fun R hR => ?_
  have hs' := hs
  unfold maxLen at hs'
  have q1 : ((min (s.length : Int) 1000).toNat) = min s.length 1000 := by omega
  obtain ⟨l, hl⟩ : ∃ l, s.take (min s.length 1000) = l := ⟨_, rfl⟩
  have hll : l.length ≤ maxLen := by rw [← hl, List.length_take]; unfold maxLen; omega
  obtain ⟨n, t, e, hg⟩ : ∃ n t e, vget l p = (n, t, e) := ⟨_, _, _, rfl⟩
  obtain ⟨x, t', e', hg'⟩ : ∃ x t e, vtext l p most = (x, t, e) := ⟨_, _, _, rfl⟩
  have c1 := fun w => vget_eq hg w hll
  have c2 := fun w => rvget_eq hg w hll
  have c3 := fun w => vtext_eq hg' w hll hm.2
  have c4 := fun w => rvtext_eq hg' w hll hm.2
  clear hg hg' hll
  go_enter Try.func4, Try.ntmps4
  go_wp2_with fail
  refine (c1 _).use ?_
  go_wp2_with fail
  refine (c2 _).use ?_
  go_wp2_with fail
  refine (c3 _).use ?_
  go_wp2_with fail
  refine (c4 _).use ?_
  go_wp2_with fail
  refine (fixed1 _).use ?_
  intro w1 hb1
  go_wp2_with fail
  exact finB hR hb1 rfl
end Go.Proofs.Ytdgeljfiobmkcaa.varintGets
