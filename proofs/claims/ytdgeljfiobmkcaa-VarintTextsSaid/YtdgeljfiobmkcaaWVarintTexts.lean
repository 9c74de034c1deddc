/-
  The walk of VarintTexts.
-/
import Derived.Test.YtdgeljfiobmkcaaFix1
import Derived.Test.YtdgeljfiobmkcaaVarQ
set_option linter.unusedVariables false
set_option linter.unusedSimpArgs false
namespace Go.Proofs.Ytdgeljfiobmkcaa.varintTexts
open Go.RowKit
attribute [local go_sem] ByteArray.extract_mk ByteArray.mk_append_mk

set_option maxHeartbeats 1000000 in
set_option maxRecDepth 100000 in
theorem walk (t b : List UInt8) (ht : t.length ≤ maxLen) (hb : b.length ≤ maxLen) (w : World) :
    RetB Try.prog 8 #[.string (S t), .string (S b)] w (.bool true) := by
  refine RetB.intro fun R hR => ?_
  unfold maxLen at ht hb
  have q1 : ((min (t.length : Int) 1000).toNat) = min t.length 1000 := by omega
  have q2 : ((min (b.length : Int) 1000).toNat) = min b.length 1000 := by omega
  obtain ⟨l, hl⟩ : ∃ l, t.take (min t.length 1000) = l := ⟨_, rfl⟩
  obtain ⟨m, hm⟩ : ∃ l, b.take (min b.length 1000) = l := ⟨_, rfl⟩
  have hll : l.length ≤ 1000 := by rw [← hl, List.length_take]; omega
  have hml : m.length ≤ 1000 := by rw [← hm, List.length_take]; omega
  have hx := vtext_put [] l m l.length (by omega) (by omega)
  have hy := vtext_big [] l m (l.length - 1) (by omega) (by omega)
  have hp := vput_pos l.length
  have hp' := vput_le l.length
  have hxl : (vtxt l).length = (vput l.length).length + l.length := by unfold vtxt; rw [List.length_append]
  have hz := vtext_cut l ((vtxt l).length - 1) (by omega) l.length (by omega) (by omega)
  simp only [List.nil_append, List.length_nil] at hx hy
  rw [show ((0 : Nat) : Int) = 0 from rfl, show (0 : Int) + ((vtxt l).length : Int) = (vtxt l).length from by omega] at hx
  rw [show ((0 : Nat) : Int) = 0 from rfl] at hy
  have c0 := fun w => puttext_any l w (by omega)
  have c1 := fun w => vtext_eq hx w (by rw [List.length_append]; unfold maxLen; omega) (by omega)
  have c2 := fun w => vtext_eq hy w (by rw [List.length_append]; unfold maxLen; omega) (by omega)
  have c3 := fun w => vtext_eq hz w (by rw [List.length_take]; unfold maxLen; omega) (by omega)
  have q3 : (((vtxt l).length : Int) - 1).toNat = (vtxt l).length - 1 := by omega
  have hx0 : 0 < (vtxt l).length := by omega
  have hx1 : (vtxt l).length ≤ 1010 := by omega
  generalize vtxt l = x at *
  clear hx hy hz hp hp' hxl
  go_enter Try.func8, Try.ntmps8
  go_wp2_with fail
  refine (c0 _).use ?_
  intro w1 hb1
  go_wp2_with fail
  refine (c1 _).use ?_
  go_wp2_with fail
  refine (c2 _).use ?_
  go_wp2_with fail
  refine (c3 _).use ?_
  go_wp2_with fail
  refine (fixed1 _).use ?_
  intro w2 hb2
  go_wp2_with fail
  exact finB hR (below_any (Nat.le_refl _) hb1 hb2) rfl
end Go.Proofs.Ytdgeljfiobmkcaa.varintTexts
