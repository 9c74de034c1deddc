/-
  Layer 2: the calls whose answers the document fixes come out as it says.
-/
import Derived.Test.YtdgeljfiobmkcaaCrcB
set_option linter.unusedVariables false
set_option linter.unusedSimpArgs false
namespace Go.Proofs.Ytdgeljfiobmkcaa
open Go.RowKit

theorem cut_eq {l : List UInt8} {p most : Int} {x : List UInt8} {t e : Int} (h : crcCut l p most = (x, t, e)) (w : World) (hl : l.length ≤ 9000000000000000000) (hm : most ≤ 9223372036854775807) :
    RetB Try.prog 36 #[.string (S l), .int .i64 p, .int .i64 most] w (.tuple #[.string (S x), .int .i64 t, .int .i64 e]) :=
  (cut_any l p most w hl hm).cast (by rw [h])
set_option maxHeartbeats 1000000 in
set_option maxRecDepth 100000 in
theorem fixed2 (w : World) : RetB Try.prog 35 #[] w (.bool true) := by
  refine RetB.intro fun R hR => ?_
  have h1 := fun w => (frame_any [104, 105] w (by decide)).cast (v' := .string (S [2, 104, 105, 172, 42, 147, 216])) (veq_str (by decide +kernel))
  have h2 := fun w => cut_eq (l := [2, 104, 105, 172, 42, 147, 216, 120]) (p := 0) (most := 9) (x := [104, 105]) (t := 7) (e := 0) (by decide +kernel) w (by decide) (by decide)
  have h3 := fun w => cut_eq (l := [2, 104, 105]) (p := 0) (most := 9) (x := []) (t := 0) (e := 20) (by decide +kernel) w (by decide) (by decide)
  have h4 := fun w => cut_eq (l := [2, 104, 105, 0, 0, 0, 0]) (p := 0) (most := 9) (x := []) (t := 0) (e := 21) (by decide +kernel) w (by decide) (by decide)
  have h5 := fun w => (sum_any [49, 50, 51, 52, 53, 54, 55, 56, 57] w (by decide)).cast (v' := .int .u32 3421780262) (veq_int (by decide +kernel))
  have h6 := fun w => (sum_any [] w (by decide)).cast (v' := .int .u32 0) (veq_int (by decide +kernel))
  have h7 := fun w => (sum_any [49, 50, 51, 52] w (by decide)).cast (v' := .int .u32 2615402659) (veq_int (by decide +kernel))
  have h8 := fun w => (more_any 2615402659 [53, 54, 55, 56, 57] w (by decide) (by decide)).cast (v' := .int .u32 3421780262) (veq_int (by decide +kernel))
  go_enter Try.func35, Try.ntmps35
  go_wp2_with fail
  refine (h1 _).use ?_
  intro w1 b1
  go_wp2_with fail
  refine (h2 _).use ?_
  intro w2 b2
  go_wp2_with fail
  refine (h3 _).use ?_
  intro w3 b3
  go_wp2_with fail
  refine (h4 _).use ?_
  intro w4 b4
  go_wp2_with fail
  refine (h5 _).use ?_
  intro w5 b5
  go_wp2_with fail
  refine (h6 _).use ?_
  intro w6 b6
  go_wp2_with fail
  refine (h7 _).use ?_
  intro w7 b7
  go_wp2_with fail
  refine (h8 _).use ?_
  intro w8 b8
  go_wp2_with fail
  exact finB hR (below_any (Nat.le_refl _) (below_any (Nat.le_refl _) (below_any (Nat.le_refl _) (below_any (Nat.le_refl _) (below_any (Nat.le_refl _) (below_any (Nat.le_refl _) (below_any (Nat.le_refl _) b1 b2) b3) b4) b5) b6) b7) b8) rfl
end Go.Proofs.Ytdgeljfiobmkcaa
