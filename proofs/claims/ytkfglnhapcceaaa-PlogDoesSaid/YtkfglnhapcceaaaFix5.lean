import Derived.Test.YtkfglnhapcceaaaSegN
/-
  Layer 5: the calls whose answers the document fixes come out as it says.
-/
set_option linter.unusedVariables false
set_option linter.unusedSimpArgs false
namespace Go.Proofs.Ytkfglnhapcceaaa
open Go.RowKit
attribute [local go_sem] ByteArray.extract_mk ByteArray.mk_append_mk

def rv : Rec := ⟨false, [], false, [118]⟩
def rw5 : Rec := ⟨true, [107], false, [119]⟩
def ro5 : Rec := ⟨false, [111, 100, 100], false, []⟩
def rz5 : Rec := ⟨false, [], false, []⟩
theorem recs_lit {w : World} (rs : List Rec) (cs : Array Value) (hc : cs.toList = rs.flatMap Rec.cells) (hl : rs.length ≤ 1000) : RecsIn (w.alloc (.cells cs 29)) (.slice (some ⟨w.heap.size, 0, none⟩) rs.length rs.length) rs := by
  have hs : cs.size = rs.length * 4 := by
    rw [← Array.length_toList, hc]
    clear hc
    induction rs with
    | nil => rfl
    | cons r l ih => rw [List.flatMap_cons, List.length_append, ih (by simp at hl; omega)]; simp [Rec.cells]; omega
  have h := World.ownsRow_lit (base := 0) (e := 29) (size := 4) w cs rs.length (Nat.zero_le _) (by unfold maxLen; omega) hs
  rw [hc] at h
  exact recs_own h
theorem nums_lit {w : World} (rs : List Int) (cs : Array Value) (hc : cs.toList = rs.map (Value.int .i64)) (hl : rs.length ≤ 1000) : NumsIn (w.alloc (.cells cs 3)) (.slice (some ⟨w.heap.size, 0, none⟩) rs.length rs.length) rs := by
  have hs : cs.size = rs.length * 1 := by rw [← Array.length_toList, hc]; simp
  have h := World.ownsRow_lit (base := 0) (e := 3) (size := 1) w cs rs.length (Nat.zero_le _) (by unfold maxLen; omega) hs
  rw [hc] at h
  exact nums_own h
theorem away_new {bs : List Nat} {B : Nat} {n c : Nat} (h : ∀ x ∈ bs, x < B) : Away bs (.slice (some ⟨B, 0, none⟩) n c) := fun b hb hm => by
  simp only [Value.ownBlock, Option.some.injEq] at hb
  have := h b hm
  omega

theorem bd_small (rs : List Rec) (h : rs.length ≤ 1000 ∧ ∀ r ∈ rs, r.key.length ≤ 1000 ∧ r.val.length ≤ 1000) : RecsBd rs :=
  ⟨by unfold maxLen; omega, fun r hr => ⟨by have := (h.2 r hr).1; unfold maxLen; omega, by have := (h.2 r hr).2; unfold maxLen; omega⟩⟩
def f10 : Fnd := ⟨10, rv⟩
def f11 : Fnd := ⟨11, rw5⟩
theorem rising2 : Rising [f10, f11] := fun i j hi hj => by
  have : i = 0 ∧ j = 1 := by simp at hj; omega
  obtain ⟨rfl, rfl⟩ := this
  show f10.off < f11.off
  decide
theorem fix_append1 (p : Nat) (bs : List Nat) (v : Value) (w : World) (h : SegAt w p bs 10 10 []) (hl : RecsIn w v [rv, rw5]) (ha : Away bs v) : SegCall 41 #[.pointer (some ⟨p, 0, none⟩), v] w p bs (.tuple #[.int .i64 10, .int .i64 0]) 10 12 [f10, f11] :=
  append5_ok p bs 10 10 [] v [rv, rw5] w h hl ha (bd_small _ (by decide +kernel)) (by decide) (by decide +kernel)
theorem fix_read (p : Nat) (bs : List Nat) (w : World) (h : SegAt w p bs 10 12 [f10, f11]) : FndsCall 47 #[.pointer (some ⟨p, 0, none⟩), .int .i64 11, .int .i64 5] w [f11] := by
  have := read5 p bs 10 12 [f10, f11] 11 5 w h rising2 (by decide)
  rwa [show reads 11 5 [f10, f11] = [f11] by decide +kernel] at this
theorem fix_keep (p : Nat) (bs : List Nat) (v : Value) (w : World) (h : SegAt w p bs 10 12 [f10, f11]) (hv : NumsIn w v [11]) : SegCall 52 #[.pointer (some ⟨p, 0, none⟩), v] w p bs (.int .i64 1) 10 12 [f11] := by
  have := keep5 p bs 10 12 [f10, f11] v [11] w h hv (by decide +kernel) (by decide) (by decide) (by decide +kernel)
  rwa [show keeps [11] [f10, f11] = [f11] by decide +kernel] at this
theorem fix_append2 (p : Nat) (bs : List Nat) (v : Value) (w : World) (h : SegAt w p bs 10 12 [f11]) (hl : RecsIn w v [ro5]) : RetB Try.prog 41 #[.pointer (some ⟨p, 0, none⟩), v] w (.tuple #[.int .i64 0, .int .i64 30]) := by
  have := append5_no p bs 10 12 [f11] v [ro5] w h hl (bd_small _ (by decide +kernel)) (by decide) (by decide) (by decide) (by decide +kernel)
  rwa [show aerr [f11] 12 [ro5] = 30 by decide +kernel] at this
theorem fix_append3 (p : Nat) (bs : List Nat) (v : Value) (w : World) (h : SegAt w p bs 10 12 [f11]) (hl : RecsIn w v (List.replicate 64 rz5)) : RetB Try.prog 41 #[.pointer (some ⟨p, 0, none⟩), v] w (.tuple #[.int .i64 0, .int .i64 50]) := by
  have := append5_no p bs 10 12 [f11] v (List.replicate 64 rz5) w h hl (bd_small _ (by decide +kernel)) (by decide) (by decide) (by decide) (by decide +kernel)
  rwa [show aerr [f11] 12 (List.replicate 64 rz5) = 50 by decide +kernel] at this
theorem recbd11 : ∀ f ∈ [f11], RecBd f.r := fun f hf => by
  simp only [List.mem_singleton] at hf
  subst hf
  exact ⟨by unfold maxLen; decide, by unfold maxLen; decide⟩
theorem fix_load1 (v : Value) (w : World) (h : FndsIn w v [f11]) : SegNew 33 #[.int .i64 10, .int .i64 12, v] w 10 12 [f11] := by
  refine (load5 10 12 v [f11] w h (by decide) recbd11).mono fun x w' hx => ?_
  rcases hx with ⟨_, p, bs, h1, h2, h3, h4⟩ | ⟨h1, _⟩
  · exact ⟨p, bs, h1, h2, h3, h4⟩
  · exact absurd (show lerr 10 12 [f11] = 0 by decide +kernel) h1
theorem fix_load2 (v : Value) (w : World) (h : FndsIn w v [f11]) : RetB Try.prog 33 #[.int .i64 10, .int .i64 11, v] w (.tuple #[.pointer none, .int .i64 1]) := by
  refine (load5 10 11 v [f11] w h (by decide) recbd11).mono fun x w' hx => ?_
  rcases hx with ⟨h1, _⟩ | ⟨h1, h2, h3⟩
  · exact absurd h1 (by decide +kernel)
  · rw [show lerr 10 11 [f11] = 1 by decide +kernel] at h2
    exact ⟨h2, h3⟩
theorem fix_bytes (p : Nat) (bs : List Nat) (w : World) (h : SegAt w p bs 10 12 [f11]) : RetB Try.prog 61 #[.pointer (some ⟨p, 0, none⟩)] w (.int .i64 5) := by
  have := bytes5 p bs 10 12 [f11] w h (by decide) recbd11
  rwa [show fbytes [f11] = 5 by decide +kernel] at this
/-- 64 zero records' cells. -/
def zcells : Array Value := ((List.replicate 64 rz5).flatMap Rec.cells).toArray
theorem make64 (w : World) : (Instr.makeSlice 23 (.int .i64 64) (.int .i64 64)).run Try.prog w = .ok (.slice (some ⟨w.heap.size, 0, none⟩) 64 64) (w.alloc (.cells zcells 29)) := by kernel_rfl
end Go.Proofs.Ytkfglnhapcceaaa
