import Derived.Test.YtkfglnhapcceaaaLogF
/-
  Layer 6: a log's segments told: the contract.
-/
set_option linter.unusedVariables false
set_option linter.unusedSimpArgs false
namespace Go.Proofs.Ytkfglnhapcceaaa
open Go.RowKit
attribute [local go_sem] ByteArray.extract_mk ByteArray.mk_append_mk

/-- The cells of a segment that is told: lv is the slice of its records. -/
def sdCells (s : Sd) (lv : Value) : List Value := [.int .i64 s.base, .int .i64 s.next, lv]
/-- Its three cells lie there, and its records. -/
def SdAt (w : World) (b o : Nat) (s : Sd) (lv : Value) : Prop :=
  w.cell? ⟨b, o, none⟩ = some (.int .i64 s.base) ∧ w.cell? ⟨b, o + 1, none⟩ = some (.int .i64 s.next) ∧ w.cell? ⟨b, o + 2, none⟩ = some lv ∧ FndsIn w lv s.l
/-- A slice of segments, as it lies in memory; its blocks are among bs. -/
def SegsIn (w : World) (v : Value) (bs : List Nat) (D : List Sd) : Prop :=
  (D = [] ∧ ∃ a cap, v = .slice a 0 cap) ∨ ∃ b off cap, ∃ lvs : List Value, v = .slice (some ⟨b, off, none⟩) D.length cap ∧ D.length ≤ cap ∧ D ≠ [] ∧ b < w.heap.size ∧ b ∈ bs ∧ lvs.length = D.length ∧
    ∀ i, (h : i < D.length) → (h' : i < lvs.length) → SdAt w b (off + i * 3) D[i] lvs[i] ∧ ∀ x, lvs[i].ownBlock = some x → x ∈ bs
theorem SegsIn.form {w : World} {v : Value} {bs : List Nat} {D : List Sd} (h : SegsIn w v bs D) : ∃ a cap, v = .slice a D.length cap := by
  rcases h with ⟨rfl, a, cap, rfl⟩ | ⟨b, off, cap, lvs, rfl, _⟩
  · exact ⟨_, _, rfl⟩
  · exact ⟨_, _, rfl⟩
theorem SegsIn.kept {cs bs : List Nat} {w W : World} {v : Value} {D : List Sd} (h : SegsIn w v bs D) (k : Kept cs w W) (hd : ∀ x ∈ bs, x ∉ cs) : SegsIn W v bs D := by
  rcases h with h | ⟨b, off, cap, lvs, rfl, hc, hne, hlt, hb, hl, hf⟩
  · exact .inl h
  · refine .inr ⟨b, off, cap, lvs, rfl, hc, hne, Nat.lt_of_lt_of_le hlt k.size, hb, hl, fun i hi h' => ?_⟩
    obtain ⟨⟨c0, c1, c2, c3⟩, h1⟩ := hf i hi h'
    have kc := k.cell hlt (hd b hb)
    exact ⟨⟨(kc _).trans c0, (kc _).trans c1, (kc _).trans c2, c3.kept k fun x hx => hd x (h1 x hx)⟩, h1⟩
theorem SegsIn.below {bs : List Nat} {w W : World} {v : Value} {D : List Sd} (h : SegsIn w v bs D) (hb : Below w.heap.size w W) : SegsIn W v bs D := h.kept (Kept.ofBelow hb []) (by simp)
/-- Their cells, one behind the other. -/
def sdsCells (D : List Sd) (lvs : List Value) : List Value := (D.zip lvs).flatMap fun p => sdCells p.1 p.2
theorem sdsCells_len {D : List Sd} {lvs : List Value} (h : lvs.length = D.length) : (sdsCells D lvs).length = D.length * 3 := by
  unfold sdsCells
  have : ∀ l : List (Sd × Value), (l.flatMap fun p => sdCells p.1 p.2).length = l.length * 3 := by
    intro l
    induction l with
    | nil => rfl
    | cons x l ih => rw [List.flatMap_cons, List.length_append, ih]; simp [sdCells]; omega
  rw [this, List.length_zip]
  omega
theorem sdsCells_get {D : List Sd} {lvs : List Value} : ∀ (i j : Nat) (h : i < D.length) (h' : i < lvs.length), j < 3 → (sdsCells D lvs)[i * 3 + j]? = (sdCells D[i] lvs[i])[j]? := by
  induction D generalizing lvs with
  | nil => intro i j h; simp at h
  | cons s D ih =>
    intro i j h h' hj
    cases lvs with
    | nil => simp at h'
    | cons v lvs =>
      have e : sdsCells (s :: D) (v :: lvs) = sdCells s v ++ sdsCells D lvs := by simp [sdsCells]
      rw [e]
      cases i with
      | zero => rw [List.getElem?_append_left (by simp [sdCells]; omega)]; simp
      | succ i =>
        rw [List.getElem?_append_right (by simp [sdCells]; omega)]
        simp only [List.getElem_cons_succ]
        rw [← ih (lvs := lvs) i j (by simpa using h) (by simpa using h') hj]
        congr 1
        simp [sdCells]
        omega
theorem sdsCells_snoc {D : List Sd} {lvs : List Value} (h : lvs.length = D.length) (s : Sd) (v : Value) : sdsCells (D ++ [s]) (lvs ++ [v]) = sdsCells D lvs ++ sdCells s v := by
  unfold sdsCells
  rw [List.zip_append h.symm, List.flatMap_append]
  simp
/-- Segments told, in a row of the call's own. -/
def SegsOwn (w : World) (B : Nat) (v : Value) (D : List Sd) (lvs : List Value) : Prop :=
  w.ownsRow B 26 3 v D.length (sdsCells D lvs) ∧ lvs.length = D.length ∧ ∀ i, (h : i < D.length) → (h' : i < lvs.length) → w.ownsRow B 31 5 lvs[i] D[i].l.length (D[i].l.flatMap Fnd.cells)
theorem SegsOwn.in {w : World} {B : Nat} {v : Value} {D : List Sd} {lvs : List Value} (h : SegsOwn w B v D lvs) : SegsIn w v (v.ownBlock.toList ++ lvs.flatMap fun l => l.ownBlock.toList) D ∧ ∀ x ∈ v.ownBlock.toList ++ lvs.flatMap (fun l => l.ownBlock.toList), B ≤ x ∧ x < w.heap.size := by
  obtain ⟨h1, h2, h3⟩ := h
  refine ⟨?_, fun x hx => ?_⟩
  · rcases own_cases h1 with ⟨rfl, h0⟩ | ⟨b, cap, rfl, hb, hlt, hc⟩
    · exact .inl ⟨List.eq_nil_of_length_eq_zero h0, _, _, rfl⟩
    · by_cases hD : D = []
      · subst hD; exact .inl ⟨rfl, _, _, rfl⟩
      · refine .inr ⟨b, 0, cap, lvs, rfl, own_cap5 h1, hD, hlt, by simp [Value.ownBlock], h2, fun i hi hi' => ⟨?_, fun x hx => ?_⟩⟩
        · have at_ : ∀ j u, j < 3 → (sdCells D[i] lvs[i])[j]? = some u → w.cell? ⟨b, 0 + i * 3 + j, none⟩ = some u := fun j u hj hu => by
            have := hc (i * 3 + j) u (by rw [sdsCells_get i j hi hi' hj]; exact hu)
            rw [addr_add] at this
            rw [← this]; congr 2; omega
          exact ⟨at_ 0 _ (by omega) rfl, at_ 1 _ (by omega) rfl, at_ 2 _ (by omega) rfl, fnds_own (h3 i hi hi')⟩
        · simp only [List.mem_append, List.mem_flatMap]
          exact .inr ⟨lvs[i], List.getElem_mem hi', by simp [hx]⟩
  · simp only [List.mem_append, List.mem_flatMap, Option.mem_toList] at hx
    rcases hx with hx | ⟨l, hl, hx⟩
    · exact h1.lt x hx
    · obtain ⟨i, hi, rfl⟩ := List.getElem_of_mem hl
      exact (h3 i (by omega) hi).lt x hx
/-- Segments handed back. -/
def SegsCall (f : FuncId) (args : Array Value) (w : World) (D : List Sd) : Prop :=
  Calls Try.prog f args w fun x w' => ∃ v bs, x = .returned v ∧ SegsIn w' v bs D ∧ (∀ x ∈ bs, w.heap.size ≤ x ∧ x < w'.heap.size) ∧ Below w.heap.size w w'
theorem SegsCall.intro {f : FuncId} {args : Array Value} {w : World} {D : List Sd}
    (h : ∀ R : Ending → World → Prop, Hid (∀ v bs w', SegsIn w' v bs D → (∀ x ∈ bs, w.heap.size ≤ x ∧ x < w'.heap.size) → Below w.heap.size w w' → R (.returned v) w') → Calls Try.prog f args w R) : SegsCall f args w D :=
  h _ fun v bs w' h1 h2 h3 => ⟨v, bs, rfl, h1, h2, h3⟩
theorem SegsCall.use {f : FuncId} {args : Array Value} {w : World} {D : List Sd} {R : Ending → World → Prop} (h : SegsCall f args w D)
    (k : ∀ v bs w', SegsIn w' v bs D → (∀ x ∈ bs, w.heap.size ≤ x ∧ x < w'.heap.size) → Below w.heap.size w w' → R (.returned v) w') : Calls Try.prog f args w R :=
  h.mono fun x w' ⟨v, bs, he, h1, h2, h3⟩ => by subst he; exact k v bs w' h1 h2 h3
theorem segInfo : (Try.prog.info? 26).map (fun i => (i.zero, i.size, i.bytes)) = some (some (.agg #[.int .i64 0, .int .i64 0, .slice none 0 0]), 3, 40) := by kernel_rfl

theorem own_slice1 {w : World} {B n s : Nat} {e : TypeId} {v : Value} {xs : List Value} (h : w.ownsRow B e s v n xs) : v.oneCell' = true := by
  rcases h.2 with ⟨rfl, _⟩ | ⟨g, cap, cur, rfl, _⟩ <;> rfl
theorem sdsCells_one {D : List Sd} {lvs : List Value} (h : ∀ v ∈ lvs, v.oneCell' = true) : ∀ u ∈ sdsCells D lvs, u.oneCell' = true := by
  intro u hu
  unfold sdsCells at hu
  obtain ⟨⟨s, v⟩, hp, hu⟩ := List.mem_flatMap.1 hu
  have hv := h v (List.of_mem_zip hp).2
  simp [sdCells] at hu
  rcases hu with rfl | rfl | rfl
  · rfl
  · rfl
  · exact hv

set_option maxHeartbeats 4000000 in
set_option maxRecDepth 100000 in
theorem segs6 (g : Nat) (bs : List Nat) (room : Int) (ss : List Sg) (w : World) (h : LogAt w g bs room ss) (hne : ss ≠ []) (hl : ss.length ≤ 1000) (hr : ∀ s ∈ ss, s.d.l.length ≤ 100000) :
    SegsCall 22 #[.pointer (some ⟨g, 0, none⟩)] w (ss.map Sg.d) := by
  refine SegsCall.intro fun R hR => ?_
  obtain ⟨i0, hi, hz0, hz1, hz2⟩ := info_parts segInfo
  obtain ⟨b, off, cap, h1, h2, h3, h4⟩ := h.ptrs hne
  have H := Lib.hid h
  have HC := Lib.hid h4
  have HRI := Lib.hid hr
  obtain ⟨kk, y0, y1⟩ := h1.c2
  clear h h4 hr h1
  go_enter Try.func22, Try.ntmps22
  go_wp2_with fail
  clear y0 y1
  go_loopw [3, 13] (fun (v3 v13 : Value) (W : World) => ∃ (k : Nat) (lvs : List Value), k ≤ ss.length ∧ v13 = .int .i64 (k : Int) ∧ SegsOwn W w.heap.size v3 ((ss.take k).map Sg.d) lvs ∧ Below w.heap.size w W) (fun (v3 v13 : Value) (W : World) => (ss.length - intOf v13).toNat)
  case atStart => exact ⟨0, [], by omega, rfl, ⟨World.ownsRow_nil _ _ _ _, rfl, by simp⟩, Below.refl _ _⟩
  case round =>
    obtain ⟨k, lvs, hk, rfl, hown, hnx⟩ := hrel
    by_cases hkl : k < ss.length
    · have x0 := (hnx.cell (p := ⟨b, off + k, none⟩) h3).trans (HC.out k hkl)
      have j0 : (0 : Int) ≤ (k : Int) := by omega
      have j1 : (k : Int) < (ss.length : Int) := by omega
      have hm := List.getElem_mem hkl
      have hll := HRI.out _ hm
      have SG := Lib.hid ((H.out.below hnx).sg hm)
      have cS := Lib.hid (span5 ss[k].p ss[k].bs ss[k].d.base ss[k].d.next ss[k].d.l wr SG.out)
      have cA := Lib.hid (fun W hb => all5 ss[k].p ss[k].bs ss[k].d.base ss[k].d.next ss[k].d.l W (SG.out.below hb) (by omega))
      have HT : Hid ((ss.take (k + 1)).map Sg.d = (ss.take k).map Sg.d ++ [ss[k].d]) := Lib.hid (by rw [List.take_succ_eq_append_getElem hkl, List.map_append]; rfl)
      have htl : ((ss.take k).map Sg.d).length = k := by rw [List.length_map, List.length_take]; omega
      have HTL := Lib.hid htl
      generalize (ss.take k).map Sg.d = D at *
      generalize ss[k] = s at *
      obtain ⟨o1, o2, o3⟩ := hown
      have O3 := Lib.hid o3
      have O2 := Lib.hid o2
      obtain ⟨va, vc, rfl⟩ := own_form o1
      clear hm SG htl o3 o2
      go_wp2_with fail
      refine cS.out.use ?_
      intro w1 b1
      go_wp2_with fail
      refine (cA.out _ b1).use ?_
      intro v2 w2 p2 b2
      have b12 := below_any (Nat.le_refl _) b1 b2
      have hnx2 := below_any (Nat.le_refl _) hnx b12
      have K12 := Kept.ofBelow b12 []
      have o12 := own_keptBy o1 K12 (away_nil _)
      have O32 := Lib.hid (fun i h h' => own_keptBy (O3.out i h h') K12 (away_nil _))
      have hz := hnx.size
      have hz2' := hnx2.size
      have hsep : ∀ b, (Value.slice va D.length vc).ownBlock = some b → v2.ownBlock ≠ some b := fun b hb hx => by
        have := (o1.lt b hb).2
        have := (p2.lt b hx).1
        have := b1.size
        omega
      have HSEP := Lib.hid hsep
      have v2one := Lib.hid (own_slice1 p2)
      obtain ⟨wa, wc, rfl⟩ := own_form p2
      have P2 := Lib.hid p2
      have hz9 : wr.heap.size ≤ w1.heap.size := b1.size
      clear o1 K12 hsep p2 cS cA
      have o13 := World.ownsRow.alloc o12 (.cells #[.int .i64 s.d.base, .int .i64 s.d.next, (Value.slice wa s.d.l.length wc)] 26)
      have n3 : ∀ j u, (sdCells s.d (Value.slice wa s.d.l.length wc))[j]? = some u → (w2.alloc (.cells #[.int .i64 s.d.base, .int .i64 s.d.next, (Value.slice wa s.d.l.length wc)] 26)).cell? ((⟨w2.heap.size, 0, none⟩ : Addr).add j) = some u := World.news_of_block (cs := (sdCells s.d (Value.slice wa s.d.l.length wc)).toArray) (t := 26) (fr := (0, 0)) (heap_alloc_new w2 _)
      have N3 := Lib.hid n3
      have hone : Hid (∀ u ∈ sdCells s.d (Value.slice wa s.d.l.length wc), u.oneCell' = true) := Lib.hid (by intro u hu; simp [sdCells] at hu; rcases hu with rfl | rfl | rfl; rfl; rfl; exact v2one.out)
      have hDL : D.length ≤ 1000 := by rw [HTL.out]; omega
      clear n3 o12
      go_wp2_with (at_builtin; refine wpList_append_own _ rfl _ _ 22 rfl w.heap.size 26 i0 _ 3 40 Try.underlying22 hi hz0 hz1 hz2 rfl (by decide) _ _ _ rfl o13 ⟨w2.heap.size, 0, none⟩ 1 1 (sdCells s.d (Value.slice wa s.d.l.length wc)) rfl rfl N3.out hone.out (by unfold maxLen; omega) (by omega) (by simp; omega) ?_)
      intro v4 w4 o4 g4 z4
      have b13 : Below w2.heap.size w2 (w2.alloc (.cells #[.int .i64 s.d.base, .int .i64 s.d.next, (Value.slice wa s.d.l.length wc)] 26)) := below_all (Below.refl _ _)
      have KG := Kept.ofGrown g4
      have hb4 := Kept.below (below_any (Nat.le_refl _) hnx2 b13) KG (by intro x hx; simp only [Option.mem_toList] at hx; exact (o13.lt x hx).1) (by simp; omega)
      have q2 := own_keptBy (World.ownsRow.alloc P2.out (.cells #[.int .i64 s.d.base, .int .i64 s.d.next, (Value.slice wa s.d.l.length wc)] 26)) KG (fun x hx hm => by simp only [Option.mem_toList] at hm; exact HSEP.out x hm hx)
      have Q3 : ∀ i (h : i < D.length) (h' : i < lvs.length), w4.ownsRow w.heap.size 31 5 lvs[i] D[i].l.length (D[i].l.flatMap Fnd.cells) := fun i h h' => by
        have o := World.ownsRow.alloc (O32.out i h h') (.cells #[.int .i64 s.d.base, .int .i64 s.d.next, (Value.slice wa s.d.l.length wc)] 26)
        exact own_keptBy o KG (fun x hx hm => by
          simp only [Option.mem_toList] at hm
          exact (own_apart o13 o (by decide)).elim (fun e => by rw [hm] at e; cases e) (fun e => e (hm.trans hx.symm)))
      have hS : SegsOwn w4 w.heap.size v4 (D ++ [s.d]) (lvs ++ [(Value.slice wa s.d.l.length wc)]) := by
        refine ⟨by rw [sdsCells_snoc O2.out, List.length_append]; exact o4, by simp [O2.out], fun i h h' => ?_⟩
        by_cases e : i < D.length
        · rw [List.getElem_append_left e, List.getElem_append_left (by rw [O2.out]; exact e)]
          exact Q3 i e (by rw [O2.out]; exact e)
        · have e2 : i = D.length := by simp at h; omega
          subst e2
          rw [List.getElem_append_right (Nat.le_refl _), List.getElem_append_right (Nat.le_of_eq O2.out)]
          simp only [O2.out, Nat.sub_self, List.getElem_singleton]
          exact own_base q2 (by have := hnx.size; have := b1.size; omega)
      have HS := Lib.hid hS
      clear hS Q3 q2 KG o4 g4 z4 o13 O32 P2
      go_wp2_with fail
      go_roundw
      case rel => exact ⟨k + 1, lvs ++ [(Value.slice wa s.d.l.length wc)], by omega, by go_num, by rw [HT.out]; exact HS.out, hb4⟩
      case measure => first | (simp [intOf]; done) | (simp [intOf]; omega)
    · have j1 : ¬ (k : Int) < (ss.length : Int) := by omega
      rw [List.take_of_length_le (by omega)] at *
      obtain ⟨s1, s2⟩ := hown.in
      go_wp2_with fail
      exact hR.out _ _ _ s1 s2 hnx
end Go.Proofs.Ytkfglnhapcceaaa
