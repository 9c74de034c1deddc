/-
  The walk of CrcParts.
-/
import Derived.Test.YtdgeljfiobmkcaaCrcQ
import Derived.Deep.RegionHeld3
set_option linter.unusedVariables false
set_option linter.unusedSimpArgs false
namespace Go.Proofs.Ytdgeljfiobmkcaa.crcParts
open Go.RowKit
attribute [local go_sem] ByteArray.extract_mk ByteArray.mk_append_mk

set_option maxHeartbeats 1000000 in
set_option maxRecDepth 100000 in
theorem walk (s : List UInt8) (p : Int) (hs : s.length ≤ maxLen) (hp : -9223372036854775808 ≤ p ∧ p ≤ 9223372036854775807) (w : World) :
    RetB Try.prog 15 #[.string (S s), .int .i64 p] w (.bool true) := by
  refine RetB.intro fun R hR => ?_
  unfold maxLen at hs
  have q1 : ((min (s.length : Int) 600).toNat) = min s.length 600 := by omega
  obtain ⟨l, hl⟩ : ∃ l, s.take (min s.length 600) = l := ⟨_, rfl⟩
  have hll : l.length = min s.length 600 := by rw [← hl, List.length_take]; omega
  obtain ⟨q, hq⟩ : ∃ q : Nat, bits .and .i64 p 65535 = (q : Int) := ⟨_, and_low p 65535 16 rfl (by omega)⟩
  obtain ⟨k, hk0⟩ : ∃ k, k = q % (min s.length 600 + 1) := ⟨_, rfl⟩
  have hkl : k ≤ min s.length 600 := by
    have := Nat.mod_lt q (show 0 < min s.length 600 + 1 by omega)
    omega
  have hk : (bits .and .i64 p 65535).tmod (((min s.length 600 : Nat) : Int) + 1) = (k : Int) := by
    rw [hq, hk0, Int.tmod_eq_emod_of_nonneg (by omega), Int.natCast_emod]; rfl
  have hk' : (bits .and .i64 p 65535).tmod ((l.length : Int) + 1) = (k : Int) := by rw [hll]; exact hk
  clear hk0 hq
  have hkl2 : k ≤ l.length := by omega
  have m1 := sum_parts l k
  have m2 := sum_none l
  have s1 := sum_bd l
  have s2 := sum_bd (l.take k)
  have eA : l.length ≤ maxLen := by unfold maxLen; omega
  have eB : (l.take k).length ≤ maxLen := by rw [List.length_take]; unfold maxLen; omega
  have eC : (l.drop k).length ≤ maxLen := by rw [List.length_drop]; unfold maxLen; omega
  have eD : ([] : List UInt8).length ≤ maxLen := by decide
  have g0 : (0 : Int) ≤ (k : Int) := by omega
  have g1 : (k : Int) ≤ (l.length : Int) := by omega
  have g2 : (k : Int) ≤ ((min s.length 600 : Nat) : Int) := by omega
  have g3 : (l.drop k).take (l.length - k) = l.drop k := List.take_of_length_le (by rw [List.length_drop]; exact Nat.le_refl _)
  have g4 : (l.drop k).take (min s.length 600 - k) = l.drop k := List.take_of_length_le (by rw [List.length_drop]; omega)
  have hl6 : l.length ≤ 600 := by omega
  clear hll g2 g4 hk
  have hB : Below w.heap.size w w.drew := (Below.refl _ _).drew
  go_enter Try.func15, Try.ntmps15
  go_wp2_with fail
  go_region_held3 (fun _ => True) (trivial) (first | (go_at_call 31; refine (sum_any _ _ (by assumption)).use ?_; intro w2 hb2; have hB := below_any (Nat.le_refl _) hB hb2; clear hb2) | (go_at_call 33; refine (more_any _ _ _ (by assumption) (by assumption)).use ?_; intro w2 hb2; have hB := below_any (Nat.le_refl _) hB hb2; clear hb2) | (go_at_call 35; refine (fixed2 _).use ?_; intro w2 hb2; have hB := below_any (Nat.le_refl _) hB hb2; clear hb2))
  go_wp2
  exact finB hR hB rfl
end Go.Proofs.Ytdgeljfiobmkcaa.crcParts
