import Derived.Test.YtkfglnhapcceaaaLogP
import Derived.Test.YtkfglnhapcceaaaRecY
/-
  Layer 6: a log made, where it begins and ends, its bytes: contracts.
-/
set_option linter.unusedVariables false
set_option linter.unusedSimpArgs false
namespace Go.Proofs.Ytkfglnhapcceaaa
open Go.RowKit
attribute [local go_sem] ByteArray.extract_mk ByteArray.mk_append_mk

/-- Where it begins, where it ends. -/
def dstart (D : List Sd) : Int := (D.head?.map Sd.base).getD 0
def dend (D : List Sd) : Int := (D.getLast?.map Sd.next).getD 0
theorem dend_snoc (D : List Sd) (s : Sd) : dend (D ++ [s]) = s.next := by simp [dend]
theorem ptrInfo : (Try.prog.info? 71).map (fun i => (i.zero, i.size, i.bytes)) = some (some (.pointer none), 1, 8) := by kernel_rfl
theorem LogAt.ptrs {w : World} {g : Nat} {bs : List Nat} {room : Int} {ss : List Sg} (h : LogAt w g bs room ss) (hne : ss ≠ []) :
    ∃ b off cap, Blk w g #[.int .i64 room, .slice (some ⟨b, off, none⟩) ss.length cap] 70 ∧ ss.length ≤ cap ∧ b < w.heap.size ∧ ∀ i, (h : i < ss.length) → w.cell? ⟨b, off + i, none⟩ = some (.pointer (some ⟨ss[i].p, 0, none⟩)) := by
  obtain ⟨lv, h1, h2, h3⟩ := h.open
  rcases h2 with ⟨h4, _⟩ | ⟨b, off, cap, rfl, h5, h6, h7, h8⟩
  · rw [List.map_eq_nil_iff] at h4; exact absurd h4 hne
  · rw [List.length_map] at h1 h5
    refine ⟨b, off, cap, h1, h5, h7, fun i hi => ?_⟩
    have := h8 i (by simpa using hi)
    simpa using this
theorem LogAt.sg {w : World} {g : Nat} {bs : List Nat} {room : Int} {ss : List Sg} (h : LogAt w g bs room ss) {s : Sg} (hs : s ∈ ss) : SegAt w s.p s.bs s.d.base s.d.next s.d.l := by
  obtain ⟨lv, h1, h2, h3, _⟩ := h
  exact h3.1 s hs

set_option maxHeartbeats 1000000 in
theorem may6 (n : Int) (w : World) : Ret Try.prog 32 #[.int .i64 n] w (.bool (decide (1 ≤ n ∧ n ≤ 64))) := by
  refine Ret.intro fun R hR => ?_
  by_cases h1 : 1 ≤ n
  · by_cases h2 : n ≤ 64
    · rw [decide_eq_true (show 1 ≤ n ∧ n ≤ 64 from ⟨h1, h2⟩)] at hR
      go_enter Try.func32, Try.ntmps32
      go_wp2_with fail
      exact fin hR rfl
    · rw [decide_eq_false (show ¬ (1 ≤ n ∧ n ≤ 64) from fun h => h2 h.2)] at hR
      go_enter Try.func32, Try.ntmps32
      go_wp2_with fail
      exact fin hR rfl
  · rw [decide_eq_false (show ¬ (1 ≤ n ∧ n ≤ 64) from fun h => h1 h.1)] at hR
    go_enter Try.func32, Try.ntmps32
    go_wp2_with fail
    exact fin hR rfl
theorem LNew.intro {f : FuncId} {args : Array Value} {w : World} {room : Int} {D : List Sd}
    (h : ∀ R : Ending → World → Prop, Hid (∀ g cs ss w', LogAt w' g cs room ss → ss.map Sg.d = D → Below w.heap.size w w' → (∀ x ∈ cs, w.heap.size ≤ x) → R (.returned (.tuple #[.pointer (some ⟨g, 0, none⟩), .int .i64 0])) w') → Calls Try.prog f args w R) : LNew f args w room D :=
  h _ fun g cs ss w' h1 h2 h3 h4 => ⟨g, cs, ss, rfl, h1, h2, h3, h4⟩
theorem LNew.use {f : FuncId} {args : Array Value} {w : World} {room : Int} {D : List Sd} {R : Ending → World → Prop} (h : LNew f args w room D)
    (k : ∀ g cs ss w', LogAt w' g cs room ss → ss.map Sg.d = D → Below w.heap.size w w' → (∀ x ∈ cs, w.heap.size ≤ x) → R (.returned (.tuple #[.pointer (some ⟨g, 0, none⟩), .int .i64 0])) w') : Calls Try.prog f args w R :=
  h.mono fun x w' ⟨g, cs, ss, he, h1, h2, h3, h4⟩ => by subst he; exact k g cs ss w' h1 h2 h3 h4

set_option maxHeartbeats 2000000 in
set_option maxRecDepth 100000 in
theorem new6 (room : Int) (w : World) (h : 1 ≤ room ∧ room ≤ 64) : LNew 17 #[.int .i64 room] w room [⟨0, 0, []⟩] := by
  refine LNew.intro fun R hR => ?_
  have cm := fun w => may6 room w
  rw [decide_eq_true h] at cm
  go_enter Try.func17, Try.ntmps17
  go_wp2_with fail
  refine (cm _).use ?_
  go_wp2_with fail
  refine (new5_ok 0 _ (by decide)).use ?_
  intro p bs w1 h1 b1 hb
  have hz := b1.size
  have L : LogAt ((w1.alloc (.cells #[.pointer (some ⟨p, 0, none⟩)] 71)).alloc (.cells #[.int .i64 room, .slice (some ⟨w1.heap.size, 0, none⟩) 1 1] 70)) (w1.heap.size + 1) ((w1.heap.size + 1) :: w1.heap.size :: bs) room [⟨p, bs, ⟨0, 0, []⟩⟩] := by
    have o := World.ownsRow_lit (base := 0) (e := 71) (size := 1) w1 #[.pointer (some ⟨p, 0, none⟩)] 1 (Nat.zero_le _) (by unfold maxLen; decide) rfl
    have hb2 := Blk.new (w1.alloc (.cells #[.pointer (some ⟨p, 0, none⟩)] 71)) #[.int .i64 room, .slice (some ⟨w1.heap.size, 0, none⟩) 1 1] 70
    rw [World.size_alloc] at hb2
    refine ⟨_, hb2, ?_, ⟨?_, by simp⟩, ?_, by simp [Value.ownBlock, sgB]⟩
    · simpa [Sg.ptr] using World.ownsRow.alloc o _
    · intro s hs
      rw [List.mem_singleton] at hs
      subst hs
      exact (h1.below (below_all (Below.refl _ _))).below (below_all (Below.refl _ _))
    · intro x hx
      have hx : x ∈ bs := by simpa [sgB] using hx
      have := h1.lt x hx
      refine ⟨by omega, ?_⟩
      simp only [Value.ownBlock, ne_eq, Option.some.injEq]
      omega
  go_wp2_with fail
  exact hR.out _ _ _ _ L rfl (below_any (Nat.le_refl _) b1 (below_all (below_all (Below.refl _ _)))) (by
    intro x hx
    simp only [List.mem_cons] at hx
    rcases hx with rfl | rfl | hx
    · omega
    · omega
    · exact hb x hx)
set_option maxHeartbeats 1000000 in
theorem new6_no (room : Int) (w : World) (h : ¬ (1 ≤ room ∧ room ≤ 64)) : Ret Try.prog 17 #[.int .i64 room] w (.tuple #[.pointer none, .int .i64 1]) := by
  refine Ret.intro fun R hR => ?_
  have cm := fun w => may6 room w
  rw [decide_eq_false h] at cm
  go_enter Try.func17, Try.ntmps17
  go_wp2_with fail
  refine (cm _).use ?_
  go_wp2_with fail
  exact fin hR rfl

set_option maxHeartbeats 2000000 in
set_option maxRecDepth 100000 in
theorem open6 (g : Nat) (bs : List Nat) (room : Int) (ss : List Sg) (s : Sg) (w : World) (h : LogAt w g bs room (ss ++ [s])) (hl : ss.length ≤ 100000) : RetB Try.prog 38 #[.pointer (some ⟨g, 0, none⟩)] w (.pointer (some ⟨s.p, 0, none⟩)) := by
  refine RetB.intro fun R hR => ?_
  obtain ⟨b, off, cap, h1, h2, h3, h4⟩ := h.ptrs (by simp)
  have hc := h4 ss.length (by simp)
  rw [List.getElem_append_right (Nat.le_refl _)] at hc
  simp only [Nat.sub_self, List.getElem_singleton] at hc
  obtain ⟨n, hn⟩ : ∃ n, (ss ++ [s]).length = n := ⟨_, rfl⟩
  have hn2 : n = ss.length + 1 := by rw [← hn]; simp
  rw [hn] at h1 h2
  have e1 : IntKind.i64.wrap ((n : Int) - 1) = (ss.length : Int) := by rw [IntKind.wrap_i64]; omega
  have e2 : ((n : Int) - 1) = (ss.length : Int) := by omega
  have j0 : (0 : Int) ≤ (ss.length : Int) := by omega
  have j1 : (ss.length : Int) < (n : Int) := by omega
  clear h h4 hn
  obtain ⟨k0, y0, y1⟩ := h1.c2
  go_enter Try.func38, Try.ntmps38
  go_wp2_with fail
  go_quiet (fail)
  go_wp2_with fail
  exact finB hR (belowN (Below.refl _ _) _) rfl
end Go.Proofs.Ytkfglnhapcceaaa
