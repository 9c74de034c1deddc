import Derived.Test.YtkfglnhapcceaaaSegR
/-
  Layer 5: records cut to what a statement can hold, however many.
-/
set_option linter.unusedVariables false
set_option linter.unusedSimpArgs false
namespace Go.Proofs.Ytkfglnhapcceaaa
open Go.RowKit
attribute [local go_sem] ByteArray.extract_mk ByteArray.mk_append_mk

/-- Records handed back in a row of the caller's own. -/
def RecsCall (f : FuncId) (args : Array Value) (w : World) (l : List Rec) : Prop :=
  Calls Try.prog f args w fun x w' => ∃ v, x = .returned v ∧ RecsIn w' v l ∧ (∀ b, v.ownBlock = some b → w.heap.size ≤ b) ∧ Below w.heap.size w w'
/-- At most 70 records, each cut. -/
def cut70 (l : List Rec) : List Rec := (l.take 70).map cutR
theorem recs_sub {w : World} {b off i m : Nat} {l : List Rec} (h : ∀ j, (h : j < l.length) → RecAt w b (off + j * 4) l[j]) (hlt : b < w.heap.size) (hm : 0 < m) (him : i + m ≤ l.length) (c : Nat) : RecsIn w (.slice (some ⟨b, off + i * 4, none⟩) m c) ((l.drop i).take m) := by
  have hl : ((l.drop i).take m).length = m := by rw [List.length_take, List.length_drop]; omega
  refine .inr ⟨b, off + i * 4, c, by rw [hl], fun e => by rw [e] at hl; simp at hl; omega, hlt, fun j hj => ?_⟩
  rw [hl] at hj
  rw [List.getElem_take, List.getElem_drop, show off + i * 4 + j * 4 = off + (i + j) * 4 by omega]
  exact h (i + j) (by omega)

theorem recs_take {w : World} {a : Option Addr} {n cap M : Nat} {l : List Rec} (h : RecsIn w (.slice a n cap) l) (hM : M ≤ l.length) : RecsIn w (.slice a M cap) (l.take M) := by
  rcases h with ⟨rfl, _⟩ | ⟨b, off, cap', hsl, hne, hlt, hx⟩
  · simp at hM; subst hM; exact .inl ⟨by simp, _, _, rfl⟩
  · simp only [Value.slice.injEq] at hsl
    obtain ⟨rfl, rfl, rfl⟩ := hsl
    by_cases h0 : M = 0
    · subst h0; exact .inl ⟨by simp, _, _, rfl⟩
    · have hl : (l.take M).length = M := by rw [List.length_take]; omega
      refine .inr ⟨b, off, cap, by rw [hl], fun e => by rw [e] at hl; simp at hl; omega, hlt, fun i hi => ?_⟩
      rw [List.getElem_take]
      exact hx i (by omega)

set_option maxHeartbeats 8000000 in
set_option maxRecDepth 100000 in
theorem recsN5 (a : Option Addr) (cap : Nat) (l : List Rec) (w : World) (hl : RecsIn w (.slice a l.length cap) l) (hbd : RecsBd l) (hcap : l.length ≤ cap) :
    RecsCall 10 #[.slice a l.length cap] w (cut70 l) := by
  unfold RecsCall
  obtain ⟨i0, hi, hz0, hz1, hz2⟩ := info_parts recInfo
  have hll : l.length ≤ 9223372036854775807 := by have := hbd.1; unfold maxLen at this; omega
  have HL := Lib.hid hl
  have HB := Lib.hid hbd
  have o0 : (w.alloc (.cells #[] 29)).ownsRow w.heap.size 29 4 (.slice (some ⟨w.heap.size, 0, none⟩) 0 0) 0 [] := World.ownsRow_made w #[] 0 (Nat.le_refl _) (by omega) rfl
  clear hl hbd
  go_enter Try.func10, Try.ntmps10
  go_wp2_with fail
  go_loopw [3, 4, 5] (fun (v3 v4 v5 : Value) (W : World) => ∃ (i n g mc : Nat), v4 = .int .i64 (i : Int) ∧ v3 = .slice (some ⟨g, 0, none⟩) n mc ∧ i ≤ 80 ∧ n = min i l.length ∧ Hid (i = 0 ∨ i = 20 ∨ i = 40 ∨ i = 60 ∨ i = 80) ∧ W.ownsRow w.heap.size 29 4 (.slice (some ⟨g, 0, none⟩) n mc) n (((l.take i).map cutR).flatMap Rec.cells) ∧ Below w.heap.size w W) (fun (v3 v4 v5 : Value) (W : World) => (100 - intOf v4).toNat)
  case atStart => exact ⟨0, 0, w.heap.size, 0, rfl, rfl, by omega, by omega, Lib.hid (by omega), by simpa using o0, below_all (Below.refl _ _)⟩
  case round =>
    obtain ⟨i, n, g, mc, rfl, rfl, hi80, hn, hi20, hown, hnx⟩ := hrel
    by_cases hgo : i < l.length ∧ i < 70
    · obtain ⟨hil, hi70⟩ := hgo
      obtain rfl : n = i := by omega
      rcases HL.out.below hnx with ⟨h, _⟩ | ⟨b, off, cap2, hsl, hne, hlt, hc⟩
      · rw [h] at hil; simp at hil
      simp only [Value.slice.injEq, true_and] at hsl
      obtain ⟨rfl, rfl⟩ := hsl
      obtain ⟨m, hm, hm0, hm20, hml⟩ : ∃ m, n + m = min (n + 20) l.length ∧ 0 < m ∧ m ≤ 20 ∧ n + m ≤ l.length := ⟨min (n + 20) l.length - n, by omega, by omega, by omega, by omega⟩
      have hts : l.take (n + 20) = l.take n ++ (l.drop n).take m := by
        rw [List.take_add]
        congr 1
        by_cases h : m = 20
        · rw [h]
        · rw [List.take_of_length_le (by rw [List.length_drop]; omega), List.take_of_length_le (by rw [List.length_drop]; omega)]
      have hcl : ((l.drop n).take m).length = m := by rw [List.length_take, List.length_drop]; omega
      have hcut : cutRs ((l.drop n).take m) = ((l.drop n).take m).map cutR := by unfold cutRs; rw [List.take_of_length_le (by omega)]
      have hcb : RecsBd ((l.drop n).take m) := ⟨by rw [hcl]; unfold maxLen; omega, fun r hr => HB.out.2 r (List.mem_of_mem_drop (List.mem_of_mem_take hr))⟩
      have cB := Lib.hid (fun c => bound_any 0 0 0 _ _ wr (recs_sub hc hlt hm0 hml c) hcb)
      obtain ⟨C, hC⟩ : ∃ C, (l.drop n).take m = C := ⟨_, rfl⟩
      rw [hC] at hts hcl hcut
      have HTS := Lib.hid hts
      have HCUT := Lib.hid hcut
      have HCL := Lib.hid hcl
      have i1 : (0 : Int) ≤ (n : Int) := by omega
      have i2 : (n : Int) ≤ (cap : Int) := by omega
      have i4 : (cap = n) = False := eq_false (by omega)
      obtain ⟨u, hu⟩ : ∃ u, n + 20 = u := ⟨_, rfl⟩
      have e1 : IntKind.i64.wrap ((n : Int) + 20) = (u : Int) := by rw [IntKind.wrap_i64]; omega
      clear hts hcut hc hne hcb hcl
      by_cases hfull : u ≤ l.length
      · have hm2 : m = u - n := by omega
        have HU := Lib.hid hu
        have i5 : ((l.length : Int) < (u : Int)) = False := eq_false (by omega)
        have i6 : (u : Int) ≤ (cap : Int) := by omega
        have i7 : (n : Int) ≤ (u : Int) := by omega
        have i8 : (u : Int) ≤ (l.length : Int) := by omega
        clear hn hm hu
        subst hm2
        go_wp2_with fail
        refine (cB.out (cap - n)).use ?_
        intro v1 w1 o1 b1
        have o1 : w1.ownsRow wr.heap.size 29 4 v1 (u - n) ((C.map cutR).flatMap Rec.cells) := by
          have h := o1
          rw [hC, HCUT.out, List.length_map, HCL.out] at h
          exact h
        have G1 := below_any (Nat.le_refl _) hnx b1
        have o2 := own_keptBy hown (Kept.ofBelow b1 []) (away_nil _)
        have hz := hnx.size
        obtain ⟨g1, c1, rfl, hg1, hg2⟩ := o1.form (by omega)
        have o3 := World.ownsRow.alloc o2 (.cells #[.int .i64 0, .int .i64 0, .int .i64 0, .slice (some ⟨g1, 0, none⟩) (u - n) c1] 65)
        have o4 := World.ownsRow.alloc o1 (.cells #[.int .i64 0, .int .i64 0, .int .i64 0, .slice (some ⟨g1, 0, none⟩) (u - n) c1] 65)
        have hn4 := o4.cells (g := g1) rfl
        have G2 := below_all (o := .cells #[.int .i64 0, .int .i64 0, .int .i64 0, .slice (some ⟨g1, 0, none⟩) (u - n) c1] 65) G1
        have hsz := G2.size
        have h1c : ∀ u ∈ (C.map cutR).flatMap Rec.cells, u.oneCell' = true := fun u hu => by
          simp only [List.mem_flatMap, Rec.cells] at hu
          obtain ⟨r, _, hu⟩ := hu
          simp at hu
          rcases hu with rfl | rfl | rfl | rfl <;> rfl
        have hl4 := o1.1
        clear o1 b1 o2 hown cB G1 hC
        go_wp2_with (at_builtin; refine wpList_append_own _ rfl _ _ 23 rfl w.heap.size 29 i0 _ 4 48 Try.underlying23 hi hz0 hz1 hz2 rfl (by decide) _ _ _ rfl o3 ⟨g1, 0, none⟩ (u - n) c1 ((C.map cutR).flatMap Rec.cells) rfl hl4 hn4 h1c (by unfold maxLen; omega) (by omega) hsz ?_)
        intro v7 w7 o7 g7 _
        have G7 := Kept.below G2 (Kept.ofGrown g7) (by intro x hx; simp only [Option.mem_toList] at hx; exact (o3.lt x hx).1) hsz
        have o7 : w7.ownsRow w.heap.size 29 4 v7 (u) (((l.take u).map cutR).flatMap Rec.cells) := by
          have h := o7
          rw [← List.flatMap_append, ← List.map_take, ← List.map_append, ← HTS.out, HU.out, show n + (u - n) = u by omega] at h
          exact h
        obtain ⟨g8, c8, rfl, _, _⟩ := o7.form (by omega)
        clear o3 o4 hn4 G2 g7 hsz h1c hl4
        go_wp2_with fail
        go_roundw
        case rel => exact ⟨u, u, g8, c8, rfl, rfl, by have := hi20.out; have := HU.out; omega, by have := HU.out; omega, Lib.hid (by have := hi20.out; have := HU.out; omega), o7, G7⟩
        case measure => have := HU.out; simp [intOf]; omega
      · have hm2 : m = l.length - n := by omega
        clear hn hm
        have i5 : ((l.length : Int) < (u : Int)) = True := eq_true (by omega)
        have HU := Lib.hid hu
        clear hu
        have i6 : (l.length : Int) ≤ (cap : Int) := by omega
        subst hm2
        have i7 : (n : Int) ≤ (l.length : Int) := by omega
        go_wp2_with fail
        refine (cB.out (cap - n)).use ?_
        intro v1 w1 o1 b1
        have o1 : w1.ownsRow wr.heap.size 29 4 v1 (l.length - n) ((C.map cutR).flatMap Rec.cells) := by
          have h := o1
          rw [hC, HCUT.out, List.length_map, HCL.out] at h
          exact h
        have G1 := below_any (Nat.le_refl _) hnx b1
        have o2 := own_keptBy hown (Kept.ofBelow b1 []) (away_nil _)
        have hz := hnx.size
        obtain ⟨g1, c1, rfl, hg1, hg2⟩ := o1.form (by omega)
        have o3 := World.ownsRow.alloc o2 (.cells #[.int .i64 0, .int .i64 0, .int .i64 0, .slice (some ⟨g1, 0, none⟩) (l.length - n) c1] 65)
        have o4 := World.ownsRow.alloc o1 (.cells #[.int .i64 0, .int .i64 0, .int .i64 0, .slice (some ⟨g1, 0, none⟩) (l.length - n) c1] 65)
        have hn4 := o4.cells (g := g1) rfl
        have G2 := below_all (o := .cells #[.int .i64 0, .int .i64 0, .int .i64 0, .slice (some ⟨g1, 0, none⟩) (l.length - n) c1] 65) G1
        have hsz := G2.size
        have h1c : ∀ u ∈ (C.map cutR).flatMap Rec.cells, u.oneCell' = true := fun u hu => by
          simp only [List.mem_flatMap, Rec.cells] at hu
          obtain ⟨r, _, hu⟩ := hu
          simp at hu
          rcases hu with rfl | rfl | rfl | rfl <;> rfl
        have hl4 := o1.1
        clear o1 b1 o2 hown cB G1 hC
        go_wp2_with (at_builtin; refine wpList_append_own _ rfl _ _ 23 rfl w.heap.size 29 i0 _ 4 48 Try.underlying23 hi hz0 hz1 hz2 rfl (by decide) _ _ _ rfl o3 ⟨g1, 0, none⟩ (l.length - n) c1 ((C.map cutR).flatMap Rec.cells) rfl hl4 hn4 h1c (by unfold maxLen; omega) (by omega) hsz ?_)
        intro v7 w7 o7 g7 _
        have G7 := Kept.below G2 (Kept.ofGrown g7) (by intro x hx; simp only [Option.mem_toList] at hx; exact (o3.lt x hx).1) hsz
        have o7 : w7.ownsRow w.heap.size 29 4 v7 (l.length) (((l.take u).map cutR).flatMap Rec.cells) := by
          have h := o7
          rw [← List.flatMap_append, ← List.map_take, ← List.map_append, ← HTS.out, HU.out, show n + (l.length - n) = l.length by omega] at h
          exact h
        obtain ⟨g8, c8, rfl, _, _⟩ := o7.form (by omega)
        clear o3 o4 hn4 G2 g7 hsz h1c hl4
        go_wp2_with fail
        go_roundw
        case rel => exact ⟨u, l.length, g8, c8, rfl, rfl, by have := hi20.out; have := HU.out; omega, by have := HU.out; omega, Lib.hid (by have := hi20.out; have := HU.out; omega), o7, G7⟩
        case measure => have := HU.out; simp [intOf]; omega
    · have hin := recs_own (l := (l.take i).map cutR) (B := w.heap.size) (by rw [List.length_map, List.length_take, ← hn]; exact hown)
      have hcap2 := own_cap5 hown
      have hgB : w.heap.size ≤ g := (hown.lt g rfl).1
      have hTl : ((l.take i).map cutR).length = n := by rw [List.length_map, List.length_take, hn]
      have hres : ∀ M, M = min n 70 → RecsIn wr (.slice (some ⟨g, 0, none⟩) M mc) (cut70 l) := fun M hM => by
        have h := recs_take (M := M) hin (by omega)
        have he : ((l.take i).map cutR).take M = cut70 l := by
          unfold cut70
          rw [← List.map_take, List.take_take]
          congr 1
          have := hi20.out
          rw [List.take_eq_take_iff]
          omega
        rw [he] at h
        exact h
      have hgn : ¬ (i < l.length) ∨ (i < l.length ∧ ¬ (i < 70)) := by omega
      have hfin : ∀ M, M = min n 70 → ∃ v, Ending.returned (.slice (some ⟨g, 0, none⟩) M mc) = .returned v ∧ RecsIn wr v (cut70 l) ∧ (∀ b, v.ownBlock = some b → w.heap.size ≤ b) ∧ Below w.heap.size w wr := fun M hM => ⟨_, rfl, hres M hM, fun b hb => by cases hb; exact hgB, hnx⟩
      have HF := Lib.hid hfin
      clear hfin hres hin hTl hgB hown hi20
      rcases Nat.lt_or_ge 70 n with h70 | h70
      · have j1 : ((70 : Int) < (n : Int)) = True := eq_true (by omega)
        have j2 : (70 : Int) ≤ (mc : Int) := by omega
        clear hn
        rcases hgn with hgn | ⟨hgn, hgm⟩
        all_goals go_wp2_with fail
        all_goals go_ret
        all_goals exact HF.out 70 (by omega)
      · have j1 : ((70 : Int) < (n : Int)) = False := eq_false (by omega)
        have j2 : (n : Int) ≤ (mc : Int) := by omega
        clear hn
        rcases hgn with hgn | ⟨hgn, hgm⟩
        all_goals go_wp2_with fail
        all_goals go_ret
        all_goals exact HF.out n (by omega)
end Go.Proofs.Ytkfglnhapcceaaa
