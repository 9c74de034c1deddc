/-
  The walk of CrcBack.
-/
import Derived.Test.YtdgeljfiobmkcaaCrcQ
set_option linter.unusedVariables false
set_option linter.unusedSimpArgs false
namespace Go.Proofs.Ytdgeljfiobmkcaa.crcBack
open Go.RowKit
attribute [local go_sem] ByteArray.extract_mk ByteArray.mk_append_mk

set_option maxHeartbeats 1000000 in
set_option maxRecDepth 100000 in
theorem walk (s0 s1 s2 : List UInt8) (h0 : s0.length ≤ maxLen) (h1 : s1.length ≤ maxLen) (h2 : s2.length ≤ maxLen) (w : World) :
    RetB Try.prog 13 #[.string (S s0), .string (S s1), .string (S s2)] w (.bool true) := by
  refine RetB.intro fun R hR => ?_
  unfold maxLen at h0 h1 h2
  have q0 : ((min (s0.length : Int) 600).toNat) = min s0.length 600 := by omega
  have q1 : ((min (s1.length : Int) 600).toNat) = min s1.length 600 := by omega
  have q2 : ((min (s2.length : Int) 600).toNat) = min s2.length 600 := by omega
  obtain ⟨a, ha⟩ : ∃ l, s0.take (min s0.length 600) = l := ⟨_, rfl⟩
  obtain ⟨b, hb⟩ : ∃ l, s1.take (min s1.length 600) = l := ⟨_, rfl⟩
  obtain ⟨n, hn⟩ : ∃ l, s2.take (min s2.length 600) = l := ⟨_, rfl⟩
  have la : a.length ≤ 600 := by rw [← ha, List.length_take]; omega
  have lb : b.length ≤ 600 := by rw [← hb, List.length_take]; omega
  have ln : n.length ≤ 600 := by rw [← hn, List.length_take]; omega
  have fa := crcFrame_le a
  have fb := crcFrame_le b
  have x1 := crcCut_frame n a (crcFrame b) 600 (by omega) (by omega)
  have x2 := crcCut_frame (n ++ crcFrame a) b [] 600 (by omega) (by omega)
  rw [List.append_nil, List.append_assoc, List.length_append] at x2
  have c1 := fun w => frame_any a w (by omega)
  have c2 := fun w => frame_any b w (by omega)
  have c3 := fun w => cut_eq x1 w (by simp only [List.length_append]; omega) (by decide)
  have c4 := fun w => cut_eq x2 w (by simp only [List.length_append]; omega) (by decide)
  generalize crcFrame a = x at *
  generalize crcFrame b = y at *
  clear x1 x2
  rw [Int.natCast_add] at c3 c4
  rw [Int.natCast_add, Int.natCast_add] at c4
  go_enter Try.func13, Try.ntmps13
  go_wp2_with fail
  refine (c1 _).use ?_
  intro w1 b1
  go_wp2_with fail
  refine (c2 _).use ?_
  intro w2 b2
  go_wp2_with fail
  refine (c3 _).use ?_
  intro w3 b3
  go_wp2_with fail
  refine (c4 _).use ?_
  intro w4 b4
  go_wp2_with fail
  refine (fixed2 _).use ?_
  intro w5 b5
  go_wp2_with fail
  exact finB hR (below_any (Nat.le_refl _) (below_any (Nat.le_refl _) (below_any (Nat.le_refl _) (below_any (Nat.le_refl _) b1 b2) b3) b4) b5) rfl
end Go.Proofs.Ytdgeljfiobmkcaa.crcBack
