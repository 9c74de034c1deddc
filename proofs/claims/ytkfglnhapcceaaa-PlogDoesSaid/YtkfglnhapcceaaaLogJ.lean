import Derived.Test.YtkfglnhapcceaaaLogI
/-
  Layer 6, plain: what a compaction leaves; a log with its row named.
-/
set_option linter.unusedVariables false
set_option linter.unusedSimpArgs false
namespace Go.Proofs.Ytkfglnhapcceaaa
open Go.RowKit

/-- One record seen, from behind: which offsets are kept, which keys have come. -/
def cstep (opn : Bool) (st : List Int × List (List UInt8)) (f : Fnd) : List Int × List (List UInt8) :=
  (if !f.r.hk || !decide (f.r.key ∈ st.2) || opn then st.1 ++ [f.off] else st.1, if f.r.hk then st.2 ++ [f.r.key] else st.2)
/-- The records from m on seen. -/
def cAt (opn : Bool) (later : List (List UInt8)) (l : List Fnd) (m : Nat) : List Int × List (List UInt8) := (l.drop m).reverse.foldl (cstep opn) ([], later)
theorem cAt_end (opn : Bool) (later : List (List UInt8)) (l : List Fnd) : cAt opn later l l.length = ([], later) := by simp [cAt]
theorem cAt_step (opn : Bool) (later : List (List UInt8)) (l : List Fnd) {m : Nat} (h : m < l.length) : cAt opn later l m = cstep opn (cAt opn later l (m + 1)) l[m] := by
  unfold cAt
  rw [List.drop_eq_getElem_cons h, List.reverse_cons, List.foldl_append]
  rfl
theorem cAt_len (opn : Bool) (later : List (List UInt8)) (l : List Fnd) : ∀ j, j ≤ l.length → (cAt opn later l (l.length - j)).1.length ≤ j ∧ (cAt opn later l (l.length - j)).2.length ≤ later.length + j
  | 0, _ => by rw [Nat.sub_zero, cAt_end]; simp
  | j + 1, h => by
    obtain ⟨h1, h2⟩ := cAt_len opn later l j (by omega)
    have e : l.length - (j + 1) + 1 = l.length - j := by omega
    rw [cAt_step opn later l (by omega : l.length - (j + 1) < l.length), e]
    unfold cstep
    refine ⟨?_, ?_⟩
    · dsimp only; split <;> (try rw [List.length_append, List.length_singleton]) <;> omega
    · dsimp only; split <;> (try rw [List.length_append, List.length_singleton]) <;> omega
theorem cAt_len' (opn : Bool) (later : List (List UInt8)) (l : List Fnd) {m : Nat} (h : m ≤ l.length) : (cAt opn later l m).1.length ≤ l.length - m ∧ (cAt opn later l m).2.length ≤ later.length + (l.length - m) := by
  have := cAt_len opn later l (l.length - m) (by omega)
  rwa [show l.length - (l.length - m) = m by omega] at this
theorem cstep_mem (opn : Bool) (st : List Int × List (List UInt8)) (f : Fnd) : ∀ n ∈ (cstep opn st f).1, n ∈ st.1 ∨ n = f.off := by
  intro n hn
  unfold cstep at hn
  dsimp only at hn
  split at hn
  · rcases List.mem_append.1 hn with h | h
    · exact .inl h
    · exact .inr (by simpa using h)
  · exact .inl hn
theorem cfold_mem (opn : Bool) : ∀ (l : List Fnd) (st : List Int × List (List UInt8)), ∀ n ∈ (l.foldl (cstep opn) st).1, n ∈ st.1 ∨ ∃ f ∈ l, n = f.off
  | [], st, n, hn => .inl hn
  | f :: l, st, n, hn => by
    rcases cfold_mem opn l _ n hn with h | ⟨g, hg, e⟩
    · rcases cstep_mem opn st f n h with h | h
      · exact .inl h
      · exact .inr ⟨f, by simp, h⟩
    · exact .inr ⟨g, by simp [hg], e⟩
theorem cAt_mem (opn : Bool) (later : List (List UInt8)) (l : List Fnd) (m : Nat) : ∀ n ∈ (cAt opn later l m).1, ∃ f ∈ l, n = f.off := by
  intro n hn
  rcases cfold_mem opn _ _ n hn with h | ⟨f, hf, e⟩
  · simp at h
  · exact ⟨f, List.mem_of_mem_drop (List.mem_reverse.1 hf), e⟩
/-- One segment compacted: what stands from it on, which keys have come, how many records went. -/
def cD (st : List Sd × List (List UInt8) × Int) (s : Sd) : List Sd × List (List UInt8) × Int :=
  (⟨s.base, s.next, keeps (cAt st.1.isEmpty st.2.1 s.l 0).1 s.l⟩ :: st.1, (cAt st.1.isEmpty st.2.1 s.l 0).2, st.2.2 + ((s.l.length : Int) - (keeps (cAt st.1.isEmpty st.2.1 s.l 0).1 s.l).length))
/-- The segments from k on compacted. -/
def cdone (D : List Sd) (k : Nat) : List Sd × List (List UInt8) × Int := (D.drop k).reverse.foldl cD ([], [], 0)
theorem cdone_end (D : List Sd) : cdone D D.length = ([], [], 0) := by simp [cdone]
theorem cdone_step (D : List Sd) {k : Nat} (h : k < D.length) : cdone D k = cD (cdone D (k + 1)) D[k] := by
  unfold cdone
  rw [List.drop_eq_getElem_cons h, List.reverse_cons, List.foldl_append]
  rfl
theorem cdone_len (D : List Sd) : ∀ j, j ≤ D.length → (cdone D (D.length - j)).1.length = j
  | 0, _ => by rw [Nat.sub_zero, cdone_end]; rfl
  | j + 1, h => by
    have ih := cdone_len D j (by omega)
    have e : D.length - (j + 1) + 1 = D.length - j := by omega
    rw [cdone_step D (by omega : D.length - (j + 1) < D.length), e]
    simp [cD, ih]
theorem cdone_len' (D : List Sd) {k : Nat} (h : k ≤ D.length) : (cdone D k).1.length = D.length - k := by
  have := cdone_len D (D.length - k) (by omega)
  rwa [show D.length - (D.length - k) = k by omega] at this
theorem cdone_bd (D : List Sd) {M : Nat} (hM : ∀ s ∈ D, s.l.length ≤ M) : ∀ j, j ≤ D.length → 0 ≤ (cdone D (D.length - j)).2.2 ∧ (cdone D (D.length - j)).2.2 ≤ M * j ∧ (cdone D (D.length - j)).2.1.length ≤ M * j
  | 0, _ => by rw [Nat.sub_zero, cdone_end]; simp
  | j + 1, h => by
    obtain ⟨h1, h2, h3⟩ := cdone_bd D hM j (by omega)
    have e : D.length - (j + 1) + 1 = D.length - j := by omega
    have hlt : D.length - (j + 1) < D.length := by omega
    rw [cdone_step D hlt, e]
    have hl := hM _ (List.getElem_mem hlt)
    generalize D[D.length - (j + 1)] = s at *
    generalize cdone D (D.length - j) = st at *
    have hk := keeps_len (cAt st.1.isEmpty st.2.1 s.l 0).1 s.l
    have hc := (cAt_len' st.1.isEmpty st.2.1 s.l (m := 0) (by omega)).2
    simp only [cD]
    generalize (keeps (cAt st.1.isEmpty st.2.1 s.l 0).1 s.l).length = a at *
    generalize (cAt st.1.isEmpty st.2.1 s.l 0).2.length = b at *
    rw [Int.natCast_add, Int.mul_add, Nat.mul_add]
    omega
theorem cdone_bd' (D : List Sd) {M : Nat} (hM : ∀ s ∈ D, s.l.length ≤ M) {k : Nat} (h : k ≤ D.length) : 0 ≤ (cdone D k).2.2 ∧ (cdone D k).2.2 ≤ M * (D.length - k : Nat) ∧ (cdone D k).2.1.length ≤ M * (D.length - k) := by
  have := cdone_bd D hM (D.length - k) (by omega)
  rwa [show D.length - (D.length - k) = k by omega] at this

/-- A log whose row is lv. -/
def LogV (w : World) (g : Nat) (lv : Value) (bs : List Nat) (room : Int) (ss : List Sg) : Prop :=
  Blk w g #[.int .i64 room, lv] 70 ∧ w.ownsRow 0 71 1 lv ss.length (ss.map Sg.ptr) ∧ SgsAt w ss ∧ (∀ x ∈ sgB ss, x ≠ g ∧ lv.ownBlock ≠ some x) ∧ bs = g :: (lv.ownBlock.toList ++ sgB ss)
section
variable {w W : World} {g : Nat} {bs cs : List Nat} {room : Int} {ss A B : List Sg} {s : Sg} {lv : Value}
theorem LogV.at (h : LogV w g lv bs room ss) : LogAt w g bs room ss := ⟨lv, h⟩
theorem LogV.kept (h : LogV w g lv bs room ss) (k : Kept cs w W) (hd : ∀ x ∈ bs, x ∉ cs) : LogV W g lv bs room ss := by
  obtain ⟨h1, h2, h3, h4, rfl⟩ := h
  exact ⟨h1.keptBy k (hd _ (by simp)), own_keptBy h2 k (fun b hb => hd b (by simp [hb])), h3.kept k (fun x hx => hd x (by simp [hx])), h4, rfl⟩
theorem LogV.lt (h : LogV w g lv bs room ss) : ∀ x ∈ bs, x < w.heap.size := h.at.lt
theorem LogV.ptrs (h : LogV w g lv bs room ss) : PtrsIn w lv (ss.map Sg.p) := by
  refine ptrs_own (B := 0) ?_
  rw [List.map_map, List.length_map]
  exact h.2.1
theorem LogV.turn (h : LogV w g lv bs room (A ++ s :: B)) {d : Sd} (h1 : SegAt W s.p cs d.base d.next d.l) (k : Kept s.bs w W) (hc : ∀ x ∈ cs, x ∈ s.bs ∨ w.heap.size ≤ x) :
    ∃ bs', LogV W g lv bs' room (A ++ ⟨s.p, cs, d⟩ :: B) ∧ Kept bs w W ∧ ∀ x ∈ bs', x ∈ bs ∨ w.heap.size ≤ x := by
  have hlt := h.lt
  obtain ⟨h2, h3, h4, h5, rfl⟩ := h
  have hs : ∀ x ∈ s.bs, x ∈ sgB (A ++ s :: B) := fun x hx => by rw [sgB_mid]; simp [hx]
  have h3' := own_keptBy h3 k (fun b hb hx => (h5 b (hs b hx)).2 hb)
  refine ⟨g :: (lv.ownBlock.toList ++ sgB (A ++ ⟨s.p, cs, d⟩ :: B)), ⟨h2.keptBy k (fun hx => (h5 g (hs g hx)).1 rfl), by simpa [Sg.ptr] using h3', h4.turn h1 k hc, ?_, rfl⟩, k.mono (fun x hx => by simp [hs x hx]), ?_⟩
  · intro x hx
    have hx' := hx
    rw [sgB_mid] at hx
    simp only [List.mem_append] at hx
    rcases hx with hx | hx | hx
    · exact h5 x (by rw [sgB_mid]; simp [hx])
    · rcases hc x hx with h6 | h6
      · exact h5 x (hs x h6)
      · exact ⟨fun e => by have := hlt g (by simp); omega, fun e => by have := own_lt h3 _ e; omega⟩
    · exact h5 x (by rw [sgB_mid]; simp [hx])
  · intro x hx
    simp only [List.mem_cons, List.mem_append, Option.mem_toList, sgB_mid] at hx ⊢
    rcases hx with hx | hx | hx | hx | hx
    · exact .inl (.inl hx)
    · exact .inl (.inr (.inl hx))
    · exact .inl (.inr (.inr (.inl hx)))
    · rcases hc x hx with h6 | h6
      · exact .inl (.inr (.inr (.inr (.inl h6))))
      · exact .inr h6
    · exact .inl (.inr (.inr (.inr (.inr hx))))
end
/-- What holds between two rounds of the outer loop. -/
structure CJ (h0 : Nat) (W0 : World) (g : Nat) (lv : Value) (room : Int) (D : List Sd) (ps : List Nat) (bs : List Nat) (lp : Loop) (k : Nat) (W : World) : Prop where
  map : TMap W (h0 + 1) (cdone D k).2.1
  nbox : Blk W (h0 + 3) #[.int .i64 (cdone D k).2.2] 3
  loop : W.heap[h0 + 6]? = some (.loop lp)
  log : ∃ cs ss, LogV W g lv cs room ss ∧ ss.map Sg.d = D.take k ++ (cdone D k).1 ∧ ss.map Sg.p = ps ∧ ∀ x ∈ cs, x ∈ bs ∨ W0.heap.size ≤ x
  kept : Kept (bs ++ [h0 + 1, h0 + 3, h0 + 6]) W0 W
/-- What holds between two rounds of the inner loop: the map is block mb, the kept offsets' box kb, the loop's record rb. -/
structure CI (W1 : World) (mb kb rb : Nat) (opn : Bool) (later : List (List UInt8)) (l : List Fnd) (lp : Loop) (m : Nat) (W : World) : Prop where
  map : TMap W mb (cAt opn later l m).2
  keep : ∃ kv, Blk W kb #[kv] 59 ∧ W.ownsRow W1.heap.size 3 1 kv (cAt opn later l m).1.length ((cAt opn later l m).1.map (Value.int .i64))
  loop : W.heap[rb]? = some (.loop lp)
  kept : Kept [mb, kb, rb] W1 W
theorem kept_put {w : World} {b : Nat} (o : Obj) : Kept [b] w (w.putObj b o) := Kept.ofGrown (grownBy_putObj' w b o)
theorem kept_set {w : World} {b : Nat} (i : Nat) (v : Value) : Kept [b] w (w.setCell ⟨b, i, none⟩ v) := Kept.ofGrown (grown_set (grown_refl _ _) _ _)
theorem cj_split {D C : List Sd} {ps : List Nat} {ss : List Sg} {i : Nat} (hd : ss.map Sg.d = D.take (i + 1) ++ C) (hp : ss.map Sg.p = ps) (hi : i < D.length) (hi' : i < ps.length) :
    ∃ A s B, ss = A ++ s :: B ∧ s.d = D[i] ∧ s.p = ps[i] ∧ A.map Sg.d = D.take i ∧ B.map Sg.d = C := by
  have hi3 : i < ss.length := by rw [← hp, List.length_map] at hi'; exact hi'
  refine ⟨ss.take i, ss[i], ss.drop (i + 1), ?_, ?_, ?_, ?_, ?_⟩
  · rw [← List.drop_eq_getElem_cons hi3, List.take_append_drop]
  · have h1 : (ss.map Sg.d)[i]? = (D.take (i + 1) ++ C)[i]? := by rw [hd]
    rw [List.getElem?_append_left (by rw [List.length_take]; omega), List.getElem?_take_of_lt (by omega), List.getElem?_eq_getElem hi, List.getElem?_eq_getElem (by simpa using hi3)] at h1
    simpa using h1
  · have h1 : (ss.map Sg.p)[i]? = ps[i]? := by rw [hp]
    rw [List.getElem?_eq_getElem hi', List.getElem?_eq_getElem (by simpa using hi3)] at h1
    simpa using h1
  · rw [List.map_take, hd, List.take_append_of_le_length (by rw [List.length_take]; omega), List.take_take]
    congr 1; omega
  · rw [List.map_drop, hd, List.drop_append_of_le_length (by rw [List.length_take]; omega), List.drop_eq_nil_of_le (by rw [List.length_take]; omega), List.nil_append]
theorem Blk.five {w : World} {b : Nat} {T : TypeId} {x0 x1 x2 x3 x4 : Value} (h : Blk w b #[x0, x1, x2, x3, x4] T) : b < w.heap.size ∧ w.cell? ⟨b, 0, none⟩ = some x0 ∧ w.cell? ⟨b, 1, none⟩ = some x1 ∧ w.cell? ⟨b, 2, none⟩ = some x2 ∧ w.cell? ⟨b, 3, none⟩ = some x3 ∧ w.cell? ⟨b, 4, none⟩ = some x4 :=
  ⟨h.lt, h.cell 0, h.cell 1, h.cell 2, h.cell 3, h.cell 4⟩
theorem away_of {bs : List Nat} {h b : Nat} {x y z : Nat} (hb : ∀ c ∈ bs, c < h) (h1 : h ≤ b) (h2 : b ≠ x) (h3 : b ≠ y) (h4 : b ≠ z) : b ∉ bs ++ [x, y, z] := by
  simp only [List.mem_append, List.mem_cons, List.not_mem_nil, or_false]
  rintro (e | e | e | e)
  · have := hb _ e; omega
  · exact h2 e
  · exact h3 e
  · exact h4 e
end Go.Proofs.Ytkfglnhapcceaaa
