import Derived.Test.YtkfglnhapcceaaaLogY
/-
  Layer 6: the document's log, as it lies in memory; made, where it begins and ends, all its records.
-/
set_option linter.unusedVariables false
set_option linter.unusedSimpArgs false
namespace Go.Proofs.Ytkfglnhapcceaaa
open Go.RowKit
attribute [local go_sem] ByteArray.extract_mk ByteArray.mk_append_mk

/-- The blocks of some slices. -/
def vBs (lvs : List Value) : List Nat := lvs.flatMap fun l => l.ownBlock.toList
/-- The document's log: its blocks are bs. -/
def RLogAt (w : World) (k : Nat) (bs : List Nat) (room : Int) (D : List Sd) : Prop :=
  ∃ sv lvs, Blk w k #[.int .i64 room, sv] 75 ∧ SegsOwn w 0 sv D lvs ∧ bs = k :: (sv.ownBlock.toList ++ vBs lvs)
section
variable {w W : World} {k : Nat} {bs cs : List Nat} {room : Int} {D : List Sd} {sv : Value} {lvs : List Value}
theorem SegsOwn.lt (h : SegsOwn w 0 sv D lvs) : ∀ x ∈ sv.ownBlock.toList ++ vBs lvs, x < w.heap.size := by
  obtain ⟨h1, h2, h3⟩ := h
  intro x hx
  simp only [vBs, List.mem_append, List.mem_flatMap, Option.mem_toList] at hx
  rcases hx with hx | ⟨l, hl, hx⟩
  · exact own_lt h1 _ hx
  · obtain ⟨i, hi, rfl⟩ := List.getElem_of_mem hl
    exact own_lt (h3 i (by omega) hi) _ hx
theorem SegsOwn.kept (h : SegsOwn w 0 sv D lvs) (kk : Kept cs w W) (hd : ∀ x ∈ sv.ownBlock.toList ++ vBs lvs, x ∉ cs) : SegsOwn W 0 sv D lvs := by
  obtain ⟨h1, h2, h3⟩ := h
  refine ⟨own_keptBy h1 kk (fun b hb => hd b (by simp [hb])), h2, fun i hi hi' => own_keptBy (h3 i hi hi') kk (fun b hb => hd b ?_)⟩
  simp only [vBs, List.mem_append, List.mem_flatMap, Option.mem_toList]
  exact .inr ⟨_, List.getElem_mem hi', hb⟩
theorem RLogAt.lt (h : RLogAt w k bs room D) : ∀ x ∈ bs, x < w.heap.size := by
  obtain ⟨sv, lvs, h1, h2, rfl⟩ := h
  intro x hx
  rcases List.mem_cons.1 hx with rfl | hx
  · exact h1.lt
  · exact h2.lt x hx
theorem RLogAt.mem (h : RLogAt w k bs room D) : k ∈ bs := by
  obtain ⟨sv, lvs, _, _, rfl⟩ := h
  simp
theorem RLogAt.kept (h : RLogAt w k bs room D) (kk : Kept cs w W) (hd : ∀ x ∈ bs, x ∉ cs) : RLogAt W k bs room D := by
  obtain ⟨sv, lvs, h1, h2, rfl⟩ := h
  exact ⟨sv, lvs, h1.keptBy kk (hd _ (by simp)), h2.kept kk (fun x hx => hd x (List.mem_cons_of_mem _ hx)), rfl⟩
theorem RLogAt.below (h : RLogAt w k bs room D) (hb : Below w.heap.size w W) : RLogAt W k bs room D := h.kept (Kept.ofBelow hb []) (by simp)
theorem RLogAt.drew (h : RLogAt w k bs room D) : RLogAt w.drew k bs room D := h
/-- What is read of it. -/
theorem RLogAt.open (h : RLogAt w k bs room D) (hne : D ≠ []) : ∃ (b cap : Nat) (lvs : List Value), Blk w k #[.int .i64 room, .slice (some ⟨b, 0, none⟩) D.length cap] 75 ∧ D.length ≤ cap ∧ b < w.heap.size ∧ lvs.length = D.length ∧
    ∀ i, (h : i < D.length) → (h' : i < lvs.length) → w.cell? ⟨b, i * 3, none⟩ = some (.int .i64 D[i].base) ∧ w.cell? ⟨b, i * 3 + 1, none⟩ = some (.int .i64 D[i].next) ∧ w.cell? ⟨b, i * 3 + 2, none⟩ = some lvs[i] ∧ w.ownsRow 0 31 5 lvs[i] D[i].l.length (D[i].l.flatMap Fnd.cells) := by
  obtain ⟨sv, lvs, h1, ⟨h2, h3, h4⟩, _⟩ := h
  rcases own_cases h2 with ⟨_, h0⟩ | ⟨b, cap, rfl, hb, hlt, hc⟩
  · exact absurd (List.eq_nil_of_length_eq_zero h0) hne
  · refine ⟨b, cap, lvs, h1, own_cap5 h2, hlt, h3, fun i hi hi' => ?_⟩
    have at_ : ∀ j u, j < 3 → (sdCells D[i] lvs[i])[j]? = some u → w.cell? ⟨b, i * 3 + j, none⟩ = some u := fun j u hj hu => by
      have := hc (i * 3 + j) u (by rw [sdsCells_get i j hi hi' hj]; exact hu)
      rw [addr_add] at this
      rw [← this]; congr 2; omega
    exact ⟨at_ 0 _ (by omega) rfl, at_ 1 _ (by omega) rfl, at_ 2 _ (by omega) rfl, h4 i hi hi'⟩
end
/-- A call on the document's log. -/
def RLCall (f : FuncId) (args : Array Value) (w : World) (k : Nat) (bs : List Nat) (v : Value) (room : Int) (D : List Sd) : Prop :=
  Calls Try.prog f args w fun x w' => x = .returned v ∧ ∃ cs, RLogAt w' k cs room D ∧ Kept bs w w' ∧ ∀ x ∈ cs, x ∈ bs ∨ w.heap.size ≤ x
theorem RLCall.intro {f : FuncId} {args : Array Value} {w : World} {k : Nat} {bs : List Nat} {v : Value} {room : Int} {D : List Sd}
    (h : ∀ R : Ending → World → Prop, Hid (∀ cs w', RLogAt w' k cs room D → Kept bs w w' → (∀ x ∈ cs, x ∈ bs ∨ w.heap.size ≤ x) → R (.returned v) w') → Calls Try.prog f args w R) : RLCall f args w k bs v room D :=
  h _ fun cs w' h1 h2 h3 => ⟨rfl, cs, h1, h2, h3⟩
theorem RLCall.use {f : FuncId} {args : Array Value} {w : World} {k : Nat} {bs : List Nat} {v : Value} {room : Int} {D : List Sd} {R : Ending → World → Prop} (h : RLCall f args w k bs v room D)
    (kk : ∀ cs w', RLogAt w' k cs room D → Kept bs w w' → (∀ x ∈ cs, x ∈ bs ∨ w.heap.size ≤ x) → R (.returned v) w') : Calls Try.prog f args w R :=
  h.mono fun x w' ⟨he, cs, h1, h2, h3⟩ => by subst he; exact kk cs w' h1 h2 h3
/-- The document's log made. -/
def RLNew (f : FuncId) (args : Array Value) (w : World) (room : Int) (D : List Sd) : Prop :=
  Calls Try.prog f args w fun x w' => ∃ k cs, x = .returned (.tuple #[.pointer (some ⟨k, 0, none⟩), .int .i64 0]) ∧ RLogAt w' k cs room D ∧ Below w.heap.size w w' ∧ ∀ x ∈ cs, w.heap.size ≤ x
theorem RLNew.intro {f : FuncId} {args : Array Value} {w : World} {room : Int} {D : List Sd}
    (h : ∀ R : Ending → World → Prop, Hid (∀ k cs w', RLogAt w' k cs room D → Below w.heap.size w w' → (∀ x ∈ cs, w.heap.size ≤ x) → R (.returned (.tuple #[.pointer (some ⟨k, 0, none⟩), .int .i64 0])) w') → Calls Try.prog f args w R) : RLNew f args w room D :=
  h _ fun k cs w' h1 h2 h3 => ⟨k, cs, rfl, h1, h2, h3⟩
theorem RLNew.use {f : FuncId} {args : Array Value} {w : World} {room : Int} {D : List Sd} {R : Ending → World → Prop} (h : RLNew f args w room D)
    (kk : ∀ k cs w', RLogAt w' k cs room D → Below w.heap.size w w' → (∀ x ∈ cs, w.heap.size ≤ x) → R (.returned (.tuple #[.pointer (some ⟨k, 0, none⟩), .int .i64 0])) w') : Calls Try.prog f args w R :=
  h.mono fun x w' ⟨k, cs, he, h1, h2, h3⟩ => by subst he; exact kk k cs w' h1 h2 h3

set_option maxHeartbeats 1000000 in
theorem rnew6 (room : Int) (w : World) (h : 1 ≤ room ∧ room ≤ 64) : RLNew 26 #[.int .i64 room] w room [⟨0, 0, []⟩] := by
  refine RLNew.intro fun R hR => ?_
  have L : RLogAt ((w.alloc (.cells #[.int .i64 0, .int .i64 0, .slice none 0 0] 26)).alloc (.cells #[.int .i64 room, .slice (some ⟨w.heap.size, 0, none⟩) 1 1] 75)) (w.heap.size + 1) [w.heap.size + 1, w.heap.size] room [⟨0, 0, []⟩] := by
    have o := World.ownsRow_lit (base := 0) (e := 26) (size := 3) w #[.int .i64 0, .int .i64 0, .slice none 0 0] 1 (Nat.zero_le _) (by unfold maxLen; decide) rfl
    have hb2 := Blk.new (w.alloc (.cells #[.int .i64 0, .int .i64 0, .slice none 0 0] 26)) #[.int .i64 room, .slice (some ⟨w.heap.size, 0, none⟩) 1 1] 75
    rw [World.size_alloc] at hb2
    refine ⟨_, [.slice none 0 0], hb2, ⟨World.ownsRow.alloc o _, rfl, fun i hi hi' => ?_⟩, by simp [Value.ownBlock, vBs]⟩
    have : i = 0 := by simp at hi'; omega
    subst this
    exact World.ownsRow_nil _ _ _ _
  go_enter Try.func26, Try.ntmps26
  go_wp2_with fail
  exact hR.out _ _ _ L (below_all (below_all (Below.refl _ _))) (by simp)
set_option maxHeartbeats 1000000 in
theorem rstart6 (k : Nat) (bs : List Nat) (room : Int) (D : List Sd) (w : World) (h : RLogAt w k bs room D) (hne : D ≠ []) (hl : D.length ≤ 1000) : RetB Try.prog 44 #[.pointer (some ⟨k, 0, none⟩)] w (.int .i64 (dstart D)) := by
  refine RetB.intro fun R hR => ?_
  obtain ⟨b, cap, lvs, h1, h2, h3, h4, h5⟩ := h.open hne
  obtain ⟨k0, y0, y1⟩ := h1.c2
  have hpos : 0 < D.length := List.length_pos_iff.2 hne
  have c0 := (h5 0 hpos (by omega)).1
  have hd : dstart D = D[0].base := by
    cases D with
    | nil => exact absurd rfl hne
    | cons s D => simp [dstart]
  rw [hd] at hR
  have j1 : (0 : Int) < (D.length : Int) := by omega
  generalize D[0].base = x at *
  simp only [Nat.zero_mul] at c0
  clear h h5 hd
  go_enter Try.func44, Try.ntmps44
  go_wp2_with fail
  exact finB hR (Below.refl _ _) rfl
set_option maxHeartbeats 1000000 in
theorem rend6 (k : Nat) (bs : List Nat) (room : Int) (D : List Sd) (w : World) (h : RLogAt w k bs room D) (hne : D ≠ []) (hl : D.length ≤ 1000) : RetB Try.prog 43 #[.pointer (some ⟨k, 0, none⟩)] w (.int .i64 (dend D)) := by
  refine RetB.intro fun R hR => ?_
  obtain ⟨b, cap, lvs, h1, h2, h3, h4, h5⟩ := h.open hne
  obtain ⟨k0, y0, y1⟩ := h1.c2
  have hpos : 0 < D.length := List.length_pos_iff.2 hne
  have c0 := (h5 (D.length - 1) (by omega) (by omega)).2.1
  have hd : dend D = D[D.length - 1].next := by
    unfold dend
    rw [List.getLast?_eq_getElem?, List.getElem?_eq_getElem (by omega)]
    rfl
  rw [hd] at hR
  have e1 : IntKind.i64.wrap ((D.length : Int) - 1) = ((D.length - 1 : Nat) : Int) := by rw [IntKind.wrap_i64]; omega
  have j0 : (0 : Int) ≤ ((D.length - 1 : Nat) : Int) := by omega
  have j1 : ((D.length - 1 : Nat) : Int) < (D.length : Int) := by omega
  generalize D[D.length - 1].next = x at *
  clear h h5 hd
  go_enter Try.func43, Try.ntmps43
  go_wp2_with fail
  go_quiet (fail)
  go_wp2_with fail
  exact finB hR (belowN (Below.refl _ _) _) rfl

set_option maxHeartbeats 4000000 in
set_option maxRecDepth 100000 in
theorem rall6 (k : Nat) (bs : List Nat) (room : Int) (D : List Sd) (w : World) (h : RLogAt w k bs room D) (hne : D ≠ []) (hl : D.length ≤ 1000) (hll : ∀ s ∈ D, s.l.length ≤ 64) :
    FndsCall 53 #[.pointer (some ⟨k, 0, none⟩)] w (dall D) := by
  refine FndsCall.intro fun R hR => ?_
  obtain ⟨i0, hi, hz0, hz1, hz2⟩ := info_parts fndInfo
  obtain ⟨b, cap, lvs, h1, h2, h3, h4, h5⟩ := h.open hne
  have HB := Lib.hid h1
  have HC := Lib.hid h5
  have HLL := Lib.hid hll
  have HLV := Lib.hid h4
  have o0 : (w.alloc (.cells #[] 31)).ownsRow w.heap.size 31 5 (.slice (some ⟨w.heap.size, 0, none⟩) 0 0) 0 [] := World.ownsRow_made w #[] 0 (Nat.le_refl _) (by omega) rfl
  clear h h5 h1 hll h4
  go_enter Try.func53, Try.ntmps53
  go_wp2_with fail
  go_loopw [3, 4] (fun (v3 v4 : Value) (W : World) => ∃ i : Nat, i ≤ D.length ∧ v4 = .int .i64 (i : Int) ∧ W.ownsRow w.heap.size 31 5 v3 (dall (D.take i)).length ((dall (D.take i)).flatMap Fnd.cells) ∧ (dall (D.take i)).length ≤ 64 * i ∧ Below w.heap.size w W) (fun (v3 v4 : Value) (W : World) => (D.length - intOf v4).toNat)
  case atStart => exact ⟨0, by omega, rfl, by simpa [dall] using o0, by simp [dall], below_all (Below.refl _ _)⟩
  case round =>
    obtain ⟨i, hil, rfl, hown, hle, hnx⟩ := hrel
    obtain ⟨_, y0, y1⟩ := (HB.out.below hnx).c2
    clear o0
    by_cases hlt : i < D.length
    · have hlvi : i < lvs.length := by rw [HLV.out]; exact hlt
      obtain ⟨_, _, c2, c3⟩ := HC.out i hlt hlvi
      have c2 := (hnx.cell (p := ⟨b, i * 3 + 2, none⟩) h3).trans c2
      have c3 := own_keptBy c3 (Kept.ofBelow hnx []) (away_nil _)
      have hl64 := HLL.out _ (List.getElem_mem hlt)
      have HT : Hid (dall (D.take (i + 1)) = dall (D.take i) ++ D[i].l) := Lib.hid (by rw [List.take_succ_eq_append_getElem hlt]; unfold dall; rw [List.flatMap_append]; simp only [List.flatMap_cons, List.flatMap_nil, List.append_nil])
      generalize D[i].l = M at *
      generalize lvs[i] = lv at *
      generalize dall (D.take i) = X at *
      have hltr : b < wr.heap.size := Nat.lt_of_lt_of_le h3 hnx.size
      have i1 : (0 : Int) ≤ (i : Int) := by omega
      have i2 : (i : Int) < (D.length : Int) := by omega
      have hz := hnx.size
      have hM := Lib.hid (fcells_len M)
      rcases own_cases c3 with ⟨rfl, hm0⟩ | ⟨q, qc, rfl, hq1, hq2, hq3⟩
      · obtain rfl : M = [] := List.eq_nil_of_length_eq_zero hm0
        obtain ⟨va, vc, rfl⟩ := own_form hown
        clear c3 hm0
        go_wp2_with (at_builtin; refine wpList_append_own_none rfl _ _ 24 rfl w.heap.size 31 i0 5 Try.underlying24 hi _ _ _ rfl hown rfl ?_)
        go_wp2_with fail
        go_roundw
        case rel => exact ⟨i + 1, by omega, by go_num, by rw [HT.out, List.append_nil]; exact hown, by rw [HT.out, List.append_nil]; omega, hnx⟩
        case measure => first | (simp [intOf]; done) | (simp [intOf]; omega)
      · have HQ := Lib.hid hq3
        obtain ⟨va, vc, rfl⟩ := own_form hown
        clear c3 hq3
        go_wp2_with (at_builtin; refine wpList_append_own _ rfl _ _ 24 rfl w.heap.size 31 i0 _ 5 56 Try.underlying24 hi hz0 hz1 hz2 rfl (by decide) _ _ _ rfl hown ⟨q, 0, none⟩ M.length qc (M.flatMap Fnd.cells) rfl hM.out HQ.out (fcells_one _) (by unfold maxLen; omega) (by omega) (by omega) ?_)
        intro v4 w4 o4 g4 z4
        have hb4 := Kept.below hnx (Kept.ofGrown g4) (by intro x hx; simp only [Option.mem_toList] at hx; exact (hown.lt x hx).1) hz
        have HO4 := Lib.hid o4
        clear g4 z4 hown o4
        go_wp2_with fail
        go_roundw
        case rel => exact ⟨i + 1, by omega, by go_num, by rw [HT.out, List.length_append, List.flatMap_append]; exact HO4.out, by rw [HT.out, List.length_append]; omega, hb4⟩
        case measure => first | (simp [intOf]; done) | (simp [intOf]; omega)
    · have i2 : ¬ (i : Int) < (D.length : Int) := by omega
      rw [List.take_of_length_le (by omega)] at *
      go_wp2_with fail
      exact hR.out _ _ hown hnx
end Go.Proofs.Ytkfglnhapcceaaa
