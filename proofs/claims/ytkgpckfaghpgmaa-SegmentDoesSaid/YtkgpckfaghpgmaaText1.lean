/-
  Layer 1: texts, and the reference's signs: contracts.
-/
import Derived.Test.YtkgpckfaghpgmaaRef1
import Derived.Test.YtkgpckfaghpgmaaVarQ
set_option linter.unusedVariables false
set_option linter.unusedSimpArgs false
namespace Go.Proofs.Ytkgpckfaghpgmaa
open Go.RowKit
theorem vput_le (n : Nat) : (vput n).length ≤ 10 := vputF_le 9 n

set_option maxRecDepth 100000 in
theorem puttext_any (l : List UInt8) (w : World) (hl : l.length ≤ 9000000000000000000) : RetB Try.prog 50 #[.string (S l)] w (.string (S (vtxt l))) := by
  refine RetB.intro fun R hR => ?_
  have hp := fun w => put_any l.length w (by omega)
  have q1 : IntKind.u64.wrap (l.length : Int) = l.length := by rw [IntKind.wrap_u64]; omega
  have hle := vput_le l.length
  unfold vtxt at hR
  generalize vput l.length = x at *
  go_enter Try.func50, Try.ntmps50
  go_wp2_with (go_at_call 52; refine (hp _).use ?_; intro w1 hb1)
  exact finB hR hb1 rfl

set_option maxRecDepth 100000 in
theorem rtext_any (l : List UInt8) (w : World) (hl : l.length ≤ 9000000000000000000) : RetB Try.prog 48 #[.string (S l)] w (.string (S (vtxt l))) := by
  refine RetB.intro fun R hR => ?_
  have hp := fun w => rput_eq l.length w (by omega)
  have q1 : IntKind.u64.wrap (l.length : Int) = l.length := by rw [IntKind.wrap_u64]; omega
  have hle := vput_le l.length
  unfold vtxt at hR
  generalize vput l.length = x at *
  go_enter Try.func48, Try.ntmps48
  go_wp2_with (go_at_call 51; refine (hp _).use ?_; intro w1 hb1)
  exact finB hR hb1 rfl
end Go.Proofs.Ytkgpckfaghpgmaa
