/-
  The walk of CrcSums.
-/
import Derived.Test.YtdgeljfiobmkcaaCrcQ
set_option linter.unusedVariables false
set_option linter.unusedSimpArgs false
namespace Go.Proofs.Ytdgeljfiobmkcaa.crcSums
open Go.RowKit
attribute [local go_sem] ByteArray.extract_mk ByteArray.mk_append_mk

set_option maxHeartbeats 1000000 in
set_option maxRecDepth 100000 in
theorem walk (s : List UInt8) (m : Nat) (hs : s.length ≤ maxLen) (hm : 0 ≤ (m : Int) ∧ (m : Int) < 4294967296) (w : World) :
    RetB Try.prog 11 #[.string (S s), .int .u32 m] w (.bool true) := by
  refine RetB.intro fun R hR => ?_
  have hs' := hs
  unfold maxLen at hs'
  have q1 : ((min (s.length : Int) 600).toNat) = min s.length 600 := by omega
  obtain ⟨l, hl⟩ : ∃ l, s.take (min s.length 600) = l := ⟨_, rfl⟩
  have hll : l.length ≤ maxLen := by rw [← hl, List.length_take]; unfold maxLen; omega
  obtain ⟨x, hx⟩ : ∃ x : Int, (crcSum l : Int) = x := ⟨_, rfl⟩
  obtain ⟨y, hy⟩ : ∃ y : Int, (crcMore m l : Int) = y := ⟨_, rfl⟩
  have c1 := fun w => sum_eq hx w hll
  have c2 := fun w => rsum_eq hx w hll
  have c3 := fun w => (more_any m l w (by omega) hll).cast (v' := .int .u32 y) (by rw [hy])
  have c4 := fun w => (rmore_any m l w (by omega) hll).cast (v' := .int .u32 y) (by rw [hy])
  clear hx hy hll
  go_enter Try.func11, Try.ntmps11
  go_wp2_with fail
  refine (c1 _).use ?_
  intro w1 b1
  go_wp2_with fail
  refine (c2 _).use ?_
  go_wp2_with fail
  refine (c3 _).use ?_
  intro w2 b2
  go_wp2_with fail
  refine (c4 _).use ?_
  go_wp2_with fail
  refine (fixed2 _).use ?_
  intro w3 b3
  go_wp2_with fail
  exact finB hR (below_any (Nat.le_refl _) (below_any (Nat.le_refl _) b1 b2) b3) rfl
end Go.Proofs.Ytdgeljfiobmkcaa.crcSums
