/-
  The walk of CrcCuts.
-/
import Derived.Test.YtdgeljfiobmkcaaCrcQ
set_option linter.unusedVariables false
set_option linter.unusedSimpArgs false
namespace Go.Proofs.Ytdgeljfiobmkcaa.crcCuts
open Go.RowKit
attribute [local go_sem] ByteArray.extract_mk ByteArray.mk_append_mk

set_option maxHeartbeats 1000000 in
set_option maxRecDepth 100000 in
theorem walk (s : List UInt8) (p most : Int) (hs : s.length ≤ maxLen) (hp : -9223372036854775808 ≤ p ∧ p ≤ 9223372036854775807) (hm : -9223372036854775808 ≤ most ∧ most ≤ 9223372036854775807) (w : World) :
    RetB Try.prog 12 #[.string (S s), .int .i64 p, .int .i64 most] w (.bool true) := by
  refine RetB.intro fun R hR => ?_
  have hs' := hs
  unfold maxLen at hs'
  have q1 : ((min (s.length : Int) 600).toNat) = min s.length 600 := by omega
  obtain ⟨l, hl⟩ : ∃ l, s.take (min s.length 600) = l := ⟨_, rfl⟩
  have hll : l.length ≤ 9000000000000000000 := by rw [← hl, List.length_take]; omega
  obtain ⟨x, t, e, hg⟩ : ∃ x t e, crcCut l p most = (x, t, e) := ⟨_, _, _, rfl⟩
  have c1 := fun w => cut_eq hg w hll hm.2
  have c2 := fun w => rcut_eq hg w hll hm.2
  have c3 := fun w => frame_any l w hll
  have c4 := fun w => rframe_any l w hll
  generalize crcFrame l = f at *
  clear hg hll
  go_enter Try.func12, Try.ntmps12
  go_wp2_with fail
  refine (c1 _).use ?_
  intro w1 b1
  go_wp2_with fail
  refine (c2 _).use ?_
  intro w2 b2
  go_wp2_with fail
  refine (c3 _).use ?_
  intro w3 b3
  go_wp2_with fail
  refine (c4 _).use ?_
  intro w4 b4
  go_wp2_with fail
  refine (fixed2 _).use ?_
  intro w5 b5
  go_wp2_with fail
  exact finB hR (below_any (Nat.le_refl _) (below_any (Nat.le_refl _) (below_any (Nat.le_refl _) (below_any (Nat.le_refl _) b1 b2) b3) b4) b5) rfl
end Go.Proofs.Ytdgeljfiobmkcaa.crcCuts
