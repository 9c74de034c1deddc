import Derived.Test.YtohplhahghilaaaSegN
/-
  Layer 5: the calls whose answers the document fixes come out as it says.
-/
set_option linter.unusedVariables false
set_option linter.unusedSimpArgs false
namespace Go.Proofs.Ytohplhahghilaaa
open Go.RowKit
attribute [local go_sem] ByteArray.extract_mk ByteArray.mk_append_mk

def rv : Rec := ⟨false, [], false, [118]⟩
def rw5 : Rec := ⟨true, [107], false, [119]⟩
def ro5 : Rec := ⟨false, [111, 100, 100], false, []⟩
def rz5 : Rec := ⟨false, [], false, []⟩
theorem recs_lit {w : World} (rs : List Rec) (cs : Array Value) (hc : cs.toList = rs.flatMap Rec.cells) (hl : rs.length ≤ 1000) : RecsIn (w.alloc (.cells cs 68)) (.slice (some ⟨w.heap.size, 0, none⟩) rs.length rs.length) rs := by
  have hs : cs.size = rs.length * 4 := by
    rw [← Array.length_toList, hc]
    clear hc
    induction rs with
    | nil => rfl
    | cons r l ih => rw [List.flatMap_cons, List.length_append, ih (by simp at hl; omega)]; simp [Rec.cells]; omega
  have h := World.ownsRow_lit (base := 0) (e := 68) (size := 4) w cs rs.length (Nat.zero_le _) (by unfold maxLen; omega) hs
  rw [hc] at h
  exact recs_own h
theorem nums_lit {w : World} (rs : List Int) (cs : Array Value) (hc : cs.toList = rs.map (Value.int .i64)) (hl : rs.length ≤ 1000) : NumsIn (w.alloc (.cells cs 3)) (.slice (some ⟨w.heap.size, 0, none⟩) rs.length rs.length) rs := by
  have hs : cs.size = rs.length * 1 := by rw [← Array.length_toList, hc]; simp
  have h := World.ownsRow_lit (base := 0) (e := 3) (size := 1) w cs rs.length (Nat.zero_le _) (by unfold maxLen; omega) hs
  rw [hc] at h
  exact nums_own h
theorem away_new {bs : List Nat} {B : Nat} {n c : Nat} (h : ∀ x ∈ bs, x < B) : Away bs (.slice (some ⟨B, 0, none⟩) n c) := fun b hb hm => by
  simp only [Value.ownBlock, Option.some.injEq] at hb
  have := h b hm
  omega

theorem bd_small (rs : List Rec) (h : rs.length ≤ 1000 ∧ ∀ r ∈ rs, r.key.length ≤ 1000 ∧ r.val.length ≤ 1000) : RecsBd rs :=
  ⟨by unfold maxLen; omega, fun r hr => ⟨by have := (h.2 r hr).1; unfold maxLen; omega, by have := (h.2 r hr).2; unfold maxLen; omega⟩⟩
def f10 : Fnd := ⟨10, rv⟩
def f11 : Fnd := ⟨11, rw5⟩
theorem rising2 : Rising [f10, f11] := fun i j hi hj => by
  have : i = 0 ∧ j = 1 := by simp at hj; omega
  obtain ⟨rfl, rfl⟩ := this
  show f10.off < f11.off
  decide
theorem recbd11 : ∀ f ∈ [f11], RecBd f.r := fun f hf => by
  simp only [List.mem_singleton] at hf
  subst hf
  exact ⟨by unfold maxLen; decide, by unfold maxLen; decide⟩
theorem fix_load1 (v : Value) (w : World) (h : FndsIn w v [f11]) : SegNew 36 #[.int .i64 10, .int .i64 12, v] w 10 12 [f11] := by
  refine (load5 10 12 v [f11] w h (by decide) recbd11).mono fun x w' hx => ?_
  rcases hx with ⟨_, p, bs, h1, h2, h3, h4⟩ | ⟨h1, _⟩
  · exact ⟨p, bs, h1, h2, h3, h4⟩
  · exact absurd (show lerr 10 12 [f11] = 0 by decide +kernel) h1
theorem fix_load2 (v : Value) (w : World) (h : FndsIn w v [f11]) : RetB Try.prog 36 #[.int .i64 10, .int .i64 11, v] w (.tuple #[.pointer none, .int .i64 1]) := by
  refine (load5 10 11 v [f11] w h (by decide) recbd11).mono fun x w' hx => ?_
  rcases hx with ⟨h1, _⟩ | ⟨h1, h2, h3⟩
  · exact absurd h1 (by decide +kernel)
  · rw [show lerr 10 11 [f11] = 1 by decide +kernel] at h2
    exact ⟨h2, h3⟩
/-- 64 zero records' cells. -/
def zcells : Array Value := ((List.replicate 64 rz5).flatMap Rec.cells).toArray
theorem make64 (w : World) : (Instr.makeSlice 65 (.int .i64 64) (.int .i64 64)).run Try.prog w = .ok (.slice (some ⟨w.heap.size, 0, none⟩) 64 64) (w.alloc (.cells zcells 68)) := by kernel_rfl
end Go.Proofs.Ytohplhahghilaaa
