/-
  The walk of CrcMost.
-/
import Derived.Test.YtdgeljfiobmkcaaCrcQ
set_option linter.unusedVariables false
set_option linter.unusedSimpArgs false
namespace Go.Proofs.Ytdgeljfiobmkcaa.crcMost
open Go.RowKit
attribute [local go_sem] ByteArray.extract_mk ByteArray.mk_append_mk

set_option maxHeartbeats 1000000 in
set_option maxRecDepth 100000 in
theorem walk (s : List UInt8) (most : Int) (hs : s.length ≤ maxLen) (hm : -9223372036854775808 ≤ most ∧ most ≤ 9223372036854775807) (w : World) :
    RetB Try.prog 17 #[.string (S s), .int .i64 most] w (.bool true) := by
  refine RetB.intro fun R hR => ?_
  unfold maxLen at hs
  have q1 : ((min (s.length : Int) 300).toNat) = min s.length 300 := by omega
  obtain ⟨l, hl⟩ : ∃ l, s.take (min s.length 300) = l := ⟨_, rfl⟩
  have hll : l.length = min s.length 300 := by rw [← hl, List.length_take]; omega
  have fl := crcFrame_le l
  have c1 := fun w => frame_any l w (by omega)
  by_cases hlt : most < (l.length : Int)
  · have x1 := crcCut_big [] l [] most (by omega) hlt
    rw [List.nil_append, List.append_nil] at x1
    have c2 := fun w => cut_eq x1 w (by omega) hm.2
    generalize crcFrame l = f at *
    clear x1
    have hd : decide (most < (l.length : Int)) = true := decide_eq_true hlt
    have hd2 : decide (most < ((min s.length 300 : Nat) : Int)) = true := decide_eq_true (by omega)
    have hd3 : decide (most < (min (s.length : Int) 300)) = true := decide_eq_true (by omega)
    go_enter Try.func17, Try.ntmps17
    go_wp2_with fail
    refine (c1 _).use ?_
    intro w1 b1
    go_wp2_with fail
    refine (c2 _).use ?_
    intro w2 b2
    go_wp2_with fail
    refine (fixed2 _).use ?_
    intro w3 b3
    go_wp2_with fail
    exact finB hR (below_any (Nat.le_refl _) (below_any (Nat.le_refl _) b1 b2) b3) rfl
  · have x1 := crcCut_frame [] l [] most (by omega) (by omega)
    rw [List.nil_append, List.append_nil] at x1
    have c2 := fun w => cut_eq x1 w (by omega) hm.2
    simp only [List.length_nil, Nat.zero_add] at c2
    generalize crcFrame l = f at *
    clear x1
    have hd : decide (most < (l.length : Int)) = false := decide_eq_false hlt
    have hd2 : decide (most < ((min s.length 300 : Nat) : Int)) = false := decide_eq_false (by omega)
    have hd3 : decide (most < (min (s.length : Int) 300)) = false := decide_eq_false (by omega)
    go_enter Try.func17, Try.ntmps17
    go_wp2_with fail
    refine (c1 _).use ?_
    intro w1 b1
    go_wp2_with fail
    refine (c2 _).use ?_
    intro w2 b2
    go_wp2_with fail
    refine (fixed2 _).use ?_
    intro w3 b3
    go_wp2_with fail
    exact finB hR (below_any (Nat.le_refl _) (below_any (Nat.le_refl _) b1 b2) b3) rfl
end Go.Proofs.Ytdgeljfiobmkcaa.crcMost
