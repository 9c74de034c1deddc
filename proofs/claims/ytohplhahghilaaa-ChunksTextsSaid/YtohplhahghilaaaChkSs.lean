import Derived.Test.YtohplhahghilaaaChkSg
import Derived.Test.YtohplhahghilaaaSegN
/-
  Layer 7: two rows of one segment each, alike.
-/
set_option linter.unusedVariables false
set_option linter.unusedSimpArgs false
namespace Go.Proofs.Ytohplhahghilaaa
open Go.RowKit
attribute [local go_sem] ByteArray.extract_mk ByteArray.mk_append_mk

set_option maxHeartbeats 4000000 in
set_option maxRecDepth 100000 in
theorem segs6 (b1 b2 : Nat) (base next : Int) (v1 v2 : Value) (l : List Fnd) (w : World) (h1 : Blk w b1 #[.int .i64 base, .int .i64 next, v1] 24) (h2 : Blk w b2 #[.int .i64 base, .int .i64 next, v2] 24)
    (f1 : FndsIn w v1 l) (f2 : FndsIn w v2 l) (hl : l.length ≤ 100000) :
    RetB Try.prog 15 #[.slice (some ⟨b1, 0, none⟩) 1 1, .slice (some ⟨b2, 0, none⟩) 1 1] w (.bool true) := by
  refine RetB.intro fun R hR => ?_
  have cF := Lib.hid (fun v1 v2 w h1 h2 => (found5 v1 v2 l l w h1 h2 hl hl).cast (v' := .bool true) (by simp))
  obtain ⟨a1, p1, rfl⟩ := f1.form
  obtain ⟨a2, p2, rfl⟩ := f2.form
  obtain ⟨k1, d0, d1, d2⟩ := h1.c3
  obtain ⟨k2, e0, e1, e2⟩ := h2.c3
  have H1 := Lib.hid h1
  have H2 := Lib.hid h2
  have F1 := Lib.hid f1
  have F2 := Lib.hid f2
  have P0 : Below w.heap.size w w.drew := (Below.refl _ _).drew
  clear h1 h2 f1 f2
  go_enter Try.func15, Try.ntmps15
  go_wp2_with fail
  refine wp_loop_rounds 2 ?_
  rw [rounds_succ]
  go_wp2_with fail
  go_region_held3 (fun w' => w'.cell? ⟨b1, 0, none⟩ = some (.int .i64 base) ∧ w'.cell? ⟨b1, 1, none⟩ = some (.int .i64 next) ∧ w'.cell? ⟨b1, 2, none⟩ = some (.slice a1 l.length p1) ∧ w'.cell? ⟨b2, 0, none⟩ = some (.int .i64 base) ∧ w'.cell? ⟨b2, 1, none⟩ = some (.int .i64 next) ∧ w'.cell? ⟨b2, 2, none⟩ = some (.slice a2 l.length p2)) (go_keep) (first | (go_at_call 48; refine (cF.out _ _ _ (F1.out.below (by assumption)) (F2.out.below (by assumption))).use ?_; intro W hb; have P := below_any (Nat.le_refl _) (by assumption) hb; obtain ⟨_, xx0, xx1, xx2⟩ := (H1.out.below P).c3; obtain ⟨_, yy0, yy1, yy2⟩ := (H2.out.below P).c3))
  all_goals go_wp2_with fail
  all_goals rw [rounds_succ]
  all_goals go_wp2_with fail
  all_goals exact finB hR (by assumption) rfl
end Go.Proofs.Ytohplhahghilaaa
