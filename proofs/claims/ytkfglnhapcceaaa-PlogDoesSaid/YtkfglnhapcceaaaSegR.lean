import Derived.Test.YtkfglnhapcceaaaSeg1
import Derived.Test.YtkfglnhapcceaaaRecS
/-
  Layer 5: one record cut to what a statement can hold.
-/
set_option linter.unusedVariables false
set_option linter.unusedSimpArgs false
namespace Go.Proofs.Ytkfglnhapcceaaa
open Go.RowKit
attribute [local go_sem] ByteArray.extract_mk ByteArray.mk_append_mk

/-- One record handed back in a row of the caller's own. -/
def RecCall (f : FuncId) (args : Array Value) (w : World) (r : Rec) : Prop :=
  Calls Try.prog f args w fun x w' => ∃ g cap, x = .returned (.slice (some ⟨g, 0, none⟩) 1 cap) ∧ g < w'.heap.size ∧ RecAt w' g 0 r ∧ Below w.heap.size w w' ∧ 1 ≤ cap

set_option maxHeartbeats 8000000 in
set_option maxRecDepth 100000 in
theorem records5 (r : Rec) (b cap : Nat) (w : World) (hlt : b < w.heap.size) (hc : 1 ≤ cap) (hr : RecAt w b 0 r) (hbd : RecBd r) :
    RecCall 10 #[.slice (some ⟨b, 0, none⟩) 1 cap] w (cutR r) := by
  unfold RecCall
  obtain ⟨i0, hi, hz0, hz1, hz2⟩ := info_parts recInfo
  have hin : ∀ W, Below w.heap.size w W → RecsIn W (.slice (some ⟨b, 0, none⟩) 1 cap) [r] := fun W hb => .inr ⟨b, 0, cap, rfl, by simp, Nat.lt_of_lt_of_le hlt hb.size, fun i hi => by
    simp at hi
    subst hi
    exact hr.keep fun j => hb.cell (p := ⟨b, j, none⟩) hlt⟩
  have hcut : cutRs [r] = [cutR r] := rfl
  have cB := fun W hb => bound_any 0 0 0 (.slice (some ⟨b, 0, none⟩) 1 cap) [r] W (hin W hb) ⟨by unfold maxLen; simp, fun x hx => by simp at hx; subst hx; exact hbd⟩
  have CB := Lib.hid cB
  have o0 : (w.alloc (.cells #[] 29)).ownsRow w.heap.size 29 4 (.slice (some ⟨w.heap.size, 0, none⟩) 0 0) 0 [] := World.ownsRow_made w #[] 0 (Nat.le_refl _) (by omega) rfl
  clear cB hin hr hbd
  have hcap1 : (1 : Int) ≤ (cap : Int) := by omega
  have hcap2 : (cap = 0) = False := eq_false (by omega)
  go_enter Try.func10, Try.ntmps10
  go_wp2_with fail
  refine wp_loop_rounds 2 ?_
  rw [rounds_succ]
  go_wp2_with fail
  refine (CB.out _ (below_all (Below.refl _ _))).use ?_
  intro v1 w1 o1 b1
  rw [hcut] at o1
  have o1 : w1.ownsRow (w.heap.size + 1) 29 4 v1 1 (cutR r).cells := by simpa using o1
  have G1 : Below w.heap.size w w1 := below_any (Nat.le_refl _) (below_all (o := .cells #[] 29) (Below.refl _ _)) b1
  have o2 := own_keptBy o0 (Kept.ofBelow b1 []) (away_nil _)
  obtain ⟨g1, c1, rfl, hg1, hg2⟩ := o1.form (by omega)
  clear CB o0 b1
  have o3 := World.ownsRow.alloc o2 (.cells #[.int .i64 0, .int .i64 0, .int .i64 0, .slice (some ⟨g1, 0, none⟩) 1 c1] 65)
  have o4 := World.ownsRow.alloc o1 (.cells #[.int .i64 0, .int .i64 0, .int .i64 0, .slice (some ⟨g1, 0, none⟩) 1 c1] 65)
  have hn4 := o4.cells (g := g1) rfl
  have G2 := below_all (o := .cells #[.int .i64 0, .int .i64 0, .int .i64 0, .slice (some ⟨g1, 0, none⟩) 1 c1] 65) G1
  have hsz := G2.size
  go_wp2_with (at_builtin; refine wpList_append_own _ rfl _ _ 23 rfl w.heap.size 29 i0 _ 4 48 Try.underlying23 hi hz0 hz1 hz2 rfl (by decide) _ _ _ rfl o3 ⟨g1, 0, none⟩ 1 c1 (cutR r).cells rfl rfl hn4 (by simp [Value.oneCell', Rec.cells]) (by unfold maxLen; omega) (by omega) hsz ?_)
  intro v7 w7 o7 g7 _
  have G7 := Kept.below G2 (Kept.ofGrown g7) (by intro x hx; simp only [Option.mem_toList] at hx; exact (o3.lt x hx).1) hsz
  have o7 : w7.ownsRow w.heap.size 29 4 v7 1 (cutR r).cells := by simpa using o7
  obtain ⟨g8, c8, rfl, _, _⟩ := o7.form (by omega)
  have hc8 := own_cap5 o7
  have i1 : (1 : Int) ≤ (c8 : Int) := by omega
  have hin := recs_own (l := [cutR r]) (B := w.heap.size) (by simpa using o7)
  have hlt8 := own_lt o7 g8 rfl
  clear o1 o2 o3 o4 hn4 G2 g7 o7 hsz
  go_wp2_with fail
  rw [rounds_succ]
  go_wp2_with fail
  go_ret
  refine ⟨g8, c8, rfl, hlt8, ?_, G7, by omega⟩
  rcases hin with ⟨h, _⟩ | ⟨b', off', cap', hsl, _, _, hc'⟩
  · simp at h
  · simp only [Value.slice.injEq, Option.some.injEq, Addr.mk.injEq, and_true] at hsl
    obtain ⟨⟨rfl, rfl⟩, _, _⟩ := hsl
    exact hc' 0 (by simp)
end Go.Proofs.Ytkfglnhapcceaaa
