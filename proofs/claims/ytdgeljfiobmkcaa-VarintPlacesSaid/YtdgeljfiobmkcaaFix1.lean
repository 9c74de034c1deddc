/-
  Layer 1: the calls whose answers the document fixes come out as it says.
-/
import Derived.Test.YtdgeljfiobmkcaaText1
import Derived.Test.YtdgeljfiobmkcaaSign1
set_option linter.unusedVariables false
set_option linter.unusedSimpArgs false
namespace Go.Proofs.Ytdgeljfiobmkcaa
open Go.RowKit

set_option maxHeartbeats 1000000 in
set_option maxRecDepth 100000 in
theorem fixed1 (w : World) : RetB Try.prog 25 #[] w (.bool true) := by
  refine RetB.intro fun R hR => ?_
  have h1 := fun w => vget_eq (l := [172, 2, 120]) (p := 0) (n := 300) (t := 2) (e := 0) (by decide) w (by decide)
  have h2 := fun w => vget_eq (l := [128, 0]) (p := 0) (n := 0) (t := 0) (e := 11) (by decide) w (by decide)
  have h3 := fun w => vget_eq (l := [128]) (p := 0) (n := 0) (t := 0) (e := 10) (by decide) w (by decide)
  have h4 := fun w => vget_eq (l := []) (p := 1) (n := 0) (t := 0) (e := 1) (by decide) w (by decide)
  have h5 := fun w => vtext_eq (l := [2, 104, 105, 120]) (p := 0) (most := 2) (x := [104, 105]) (t := 3) (e := 0) (by decide) w (by decide) (by decide)
  have h6 := fun w => vtext_eq (l := [2, 104, 105]) (p := 0) (most := 1) (x := []) (t := 0) (e := 2) (by decide) w (by decide) (by decide)
  have h7 := fun w => vtext_eq (l := [3, 104, 105]) (p := 0) (most := 9) (x := []) (t := 0) (e := 10) (by decide) w (by decide) (by decide)
  have h8 := fun w => (put_any 300 w (by decide)).cast (v' := .string (S [172, 2])) (veq_str (by decide))
  have h9 := fun w => (size_any 300 w (by decide)).cast (v' := .int .i64 2) (veq_int (by decide))
  have h10 := fun w => (zig_any (-1) w (by decide) (by decide)).cast (v' := .int .u64 1) (veq_int (by decide))
  have h11 := fun w => (zig_any 1 w (by decide) (by decide)).cast (v' := .int .u64 2) (veq_int (by decide))
  have h12 := fun w => (zag_any 3 w (by decide)).cast (v' := .int .i64 (-2)) (veq_int (by decide))
  have h13 := fun w => (puttext_any [104, 105] w (by decide)).cast (v' := .string (S [2, 104, 105])) (veq_str (by decide))
  go_enter Try.func25, Try.ntmps25
  go_wp2_with fail
  refine (h1 _).use ?_
  go_wp2_with fail
  refine (h2 _).use ?_
  go_wp2_with fail
  refine (h3 _).use ?_
  go_wp2_with fail
  refine (h4 _).use ?_
  go_wp2_with fail
  refine (h5 _).use ?_
  go_wp2_with fail
  refine (h6 _).use ?_
  go_wp2_with fail
  refine (h7 _).use ?_
  go_wp2_with fail
  refine (h8 _).use ?_
  intro w1 hb1
  go_wp2_with fail
  refine (h9 _).use ?_
  go_wp2_with fail
  refine (h10 _).use ?_
  go_wp2_with fail
  refine (h11 _).use ?_
  go_wp2_with fail
  refine (h12 _).use ?_
  go_wp2_with fail
  refine (h13 _).use ?_
  intro w2 hb2
  go_wp2_with fail
  exact finB hR (below_any (Nat.le_refl _) hb1 hb2) rfl
end Go.Proofs.Ytdgeljfiobmkcaa
