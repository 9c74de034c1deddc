/-
  The walk of VarintPlaces.
-/
import Derived.Test.YtdgeljfiobmkcaaFix1
import Derived.Test.YtdgeljfiobmkcaaVarQ
set_option linter.unusedVariables false
set_option linter.unusedSimpArgs false
namespace Go.Proofs.Ytdgeljfiobmkcaa.varintPlaces
open Go.RowKit
attribute [local go_sem] ByteArray.extract_mk ByteArray.mk_append_mk

set_option maxHeartbeats 1000000 in
set_option maxRecDepth 100000 in
theorem walk (s : List UInt8) (k : Int) (hs : s.length ≤ maxLen) (hk : -9223372036854775808 ≤ k ∧ k ≤ 9223372036854775807) (w : World) :
    RetB Try.prog 10 #[.string (S s), .int .i64 k] w (.bool true) := by
  refine RetB.intro fun R hR => ?_
  have hs' := hs
  unfold maxLen at hs'
  have q1 : ((min (s.length : Int) 100).toNat) = min s.length 100 := by omega
  obtain ⟨l, hl⟩ : ∃ l, s.take (min s.length 100) = l := ⟨_, rfl⟩
  have hll : l.length ≤ 100 := by rw [← hl, List.length_take]; omega
  have hlm : l.length ≤ maxLen := by unfold maxLen; omega
  obtain ⟨q, hq, hqb⟩ : ∃ q : Nat, bits .and .i64 k 65535 = (q : Int) ∧ q < 65536 := ⟨_, and_low k 65535 16 rfl (by omega), Nat.mod_lt _ (by decide)⟩
  have c1 := fun w => vget_eq (vget_out (l := l) (p := (l.length : Int) + (1 + (q : Int))) (by omega)) w hlm
  have c2 := fun w => vget_eq (vget_out (l := l) (p := -(1 + (q : Int))) (by omega)) w hlm
  have c3 := fun w => vtext_eq (l := l) (p := -(1 + (q : Int))) (most := 9) (x := []) (t := 0) (e := 1) (by unfold vtext; rw [vget_out (by omega)]; rfl) w hlm (by decide)
  have c4 := fun w => vget_eq (l := l) (p := (l.length : Int)) (n := 0) (t := 0) (e := 10) (by unfold vget; rw [if_pos ⟨by omega, by omega⟩, Int.toNat_natCast, List.drop_length]; rfl) w hlm
  clear hlm
  go_enter Try.func10, Try.ntmps10
  go_wp2_with fail
  refine (c1 _).use ?_
  go_wp2_with fail
  refine (c2 _).use ?_
  go_wp2_with fail
  refine (c3 _).use ?_
  go_wp2_with fail
  refine (c4 _).use ?_
  go_wp2_with fail
  refine (fixed1 _).use ?_
  intro w2 hb2
  go_wp2_with fail
  exact finB hR hb2 rfl
end Go.Proofs.Ytdgeljfiobmkcaa.varintPlaces
