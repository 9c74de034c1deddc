/-
  Layer 1: the reference's signs: contracts.
-/
import Derived.Test.YtdgeljfiobmkcaaVar
set_option linter.unusedVariables false
set_option linter.unusedSimpArgs false
namespace Go.Proofs.Ytdgeljfiobmkcaa
open Go.RowKit

theorem rzig_any (n : Int) (w : World) (h1 : -9223372036854775808 ≤ n) (h2 : n ≤ 9223372036854775807) : Ret Try.prog 22 #[.int .i64 n] w (.int .u64 (zig n)) := by
  refine Ret.intro fun R hR => ?_
  unfold zig at hR
  by_cases h : 0 ≤ n
  · rw [if_pos h] at hR
    go_enter Try.func22, Try.ntmps22
    go_wp2
    exact fin hR rfl
  · rw [if_neg h] at hR
    have h' : n < 0 := by omega
    go_enter Try.func22, Try.ntmps22
    go_wp2
    exact fin hR rfl
theorem rzag_any (n : Nat) (w : World) (h2 : n < 18446744073709551616) : Ret Try.prog 24 #[.int .u64 n] w (.int .i64 (zag n)) := by
  refine Ret.intro fun R hR => ?_
  unfold zag at hR
  by_cases h : n % 2 = 0
  · rw [if_pos h] at hR
    have h' : (n : Int) % 2 = 0 := by omega
    go_enter Try.func24, Try.ntmps24
    go_wp2
    exact fin hR (veq_int (by omega))
  · rw [if_neg h] at hR
    have h' : ¬ (n : Int) % 2 = 0 := by omega
    go_enter Try.func24, Try.ntmps24
    go_wp2
    exact fin hR (veq_int (by omega))
end Go.Proofs.Ytdgeljfiobmkcaa
