import Derived.Test.YtkfglnhapcceaaaSeg1
/-
  Layer 6: a log, as it lies in memory: segments one behind the other, each with blocks of its own.
-/
set_option linter.unusedVariables false
set_option linter.unusedSimpArgs false
namespace Go.Proofs.Ytkfglnhapcceaaa
open Go.RowKit

/-- What a segment says. -/
structure Sd where
  base : Int
  next : Int
  l : List Fnd
deriving DecidableEq
/-- A segment of a log: where it lies, its blocks, what it says. -/
structure Sg where
  p : Nat
  bs : List Nat
  d : Sd
def Sg.ptr (s : Sg) : Value := .pointer (some ⟨s.p, 0, none⟩)
/-- All blocks of some segments. -/
def sgB (ss : List Sg) : List Nat := ss.flatMap Sg.bs
def SgAt (w : World) (s : Sg) : Prop := SegAt w s.p s.bs s.d.base s.d.next s.d.l
/-- Segments that lie apart. -/
def SgsAt (w : World) (ss : List Sg) : Prop := (∀ s ∈ ss, SgAt w s) ∧ ss.Pairwise fun s t => ∀ x ∈ s.bs, x ∉ t.bs
/-- A slice of pointers, as it lies in memory. -/
def PtrsIn (w : World) (v : Value) (l : List Nat) : Prop :=
  (l = [] ∧ ∃ a cap, v = .slice a 0 cap) ∨ ∃ b off cap, v = .slice (some ⟨b, off, none⟩) l.length cap ∧ l.length ≤ cap ∧ l ≠ [] ∧ b < w.heap.size ∧ ∀ i, (h : i < l.length) → w.cell? ⟨b, off + i, none⟩ = some (.pointer (some ⟨l[i], 0, none⟩))
theorem PtrsIn.form {w : World} {v : Value} {l : List Nat} (h : PtrsIn w v l) : ∃ a cap, v = .slice a l.length cap := by
  rcases h with ⟨rfl, a, cap, rfl⟩ | ⟨b, off, cap, rfl, _⟩
  · exact ⟨_, _, rfl⟩
  · exact ⟨_, _, rfl⟩
theorem PtrsIn.kept {bs : List Nat} {w W : World} {v : Value} {l : List Nat} (h : PtrsIn w v l) (k : Kept bs w W) (ha : Away bs v) : PtrsIn W v l := by
  rcases h with h | ⟨b, off, cap, rfl, hc, hne, hlt, hf⟩
  · exact .inl h
  · exact .inr ⟨b, off, cap, rfl, hc, hne, Nat.lt_of_lt_of_le hlt k.size, fun i hi => (k.cell hlt (ha b rfl) _).trans (hf i hi)⟩
theorem PtrsIn.below {w W : World} {v : Value} {l : List Nat} (h : PtrsIn w v l) (hb : Below w.heap.size w W) : PtrsIn W v l := h.kept (Kept.ofBelow hb []) (away_nil v)
theorem ptrs_own {w : World} {B : Nat} {v : Value} {l : List Nat} (h : w.ownsRow B 71 1 v l.length (l.map fun p => Value.pointer (some ⟨p, 0, none⟩))) : PtrsIn w v l := by
  rcases id h.2 with ⟨rfl, h0⟩ | ⟨g, cap, cur, rfl, hbg, hg, hcap, rest⟩
  · exact .inl ⟨List.eq_nil_of_length_eq_zero h0, _, _, rfl⟩
  · by_cases hl : l = []
    · subst hl; exact .inl ⟨rfl, _, _, rfl⟩
    · refine .inr ⟨g, 0, cap, rfl, hcap, hl, (Array.getElem?_eq_some_iff.1 hg).1, fun i hi => ?_⟩
      have := h.cells (g := g) rfl i (.pointer (some ⟨l[i], 0, none⟩)) (by simp [hi])
      rw [addr_add] at this
      exact this
/-- A log, as it lies in memory: its blocks are bs. -/
def LogAt (w : World) (g : Nat) (bs : List Nat) (room : Int) (ss : List Sg) : Prop :=
  ∃ lv, Blk w g #[.int .i64 room, lv] 70 ∧ w.ownsRow 0 71 1 lv ss.length (ss.map Sg.ptr) ∧ SgsAt w ss ∧ (∀ x ∈ sgB ss, x ≠ g ∧ lv.ownBlock ≠ some x) ∧ bs = g :: (lv.ownBlock.toList ++ sgB ss)
section
variable {w W : World} {g : Nat} {bs cs : List Nat} {room : Int} {ss A B : List Sg} {s : Sg}
theorem SgsAt.lt (h : SgsAt w ss) : ∀ x ∈ sgB ss, x < w.heap.size := by
  intro x hx
  obtain ⟨s, hs, hx⟩ := List.mem_flatMap.1 hx
  exact (h.1 s hs).lt x hx
theorem SgsAt.kept (h : SgsAt w ss) (k : Kept cs w W) (hd : ∀ x ∈ sgB ss, x ∉ cs) : SgsAt W ss :=
  ⟨fun s hs => SegAt.kept (h.1 s hs) k fun x hx => hd x (List.mem_flatMap.2 ⟨s, hs, hx⟩), h.2⟩
theorem LogAt.lt (h : LogAt w g bs room ss) : ∀ x ∈ bs, x < w.heap.size := by
  obtain ⟨lv, h1, h2, h3, h4, rfl⟩ := h
  intro x hx
  simp only [List.mem_cons, List.mem_append, Option.mem_toList] at hx
  rcases hx with rfl | hx | hx
  · exact h1.lt
  · exact own_lt h2 _ hx
  · exact h3.lt x hx
theorem LogAt.kept (h : LogAt w g bs room ss) (k : Kept cs w W) (hd : ∀ x ∈ bs, x ∉ cs) : LogAt W g bs room ss := by
  obtain ⟨lv, h1, h2, h3, h4, rfl⟩ := h
  exact ⟨lv, h1.keptBy k (hd _ (by simp)), own_keptBy h2 k (fun b hb => hd b (by simp [hb])), h3.kept k (fun x hx => hd x (by simp [hx])), h4, rfl⟩
theorem LogAt.below (h : LogAt w g bs room ss) (hb : Below w.heap.size w W) : LogAt W g bs room ss := h.kept (Kept.ofBelow hb []) (by simp)
theorem LogAt.mem (h : LogAt w g bs room ss) : g ∈ bs := by
  obtain ⟨lv, _, _, _, _, rfl⟩ := h
  simp
theorem LogAt.drew (h : LogAt w g bs room ss) : LogAt w.drew g bs room ss := h
theorem LogAt.open (h : LogAt w g bs room ss) : ∃ lv, Blk w g #[.int .i64 room, lv] 70 ∧ PtrsIn w lv (ss.map Sg.p) ∧ SgsAt w ss := by
  obtain ⟨lv, h1, h2, h3, _⟩ := h
  refine ⟨lv, h1, ptrs_own (B := 0) ?_, h3⟩
  rw [List.map_map, List.length_map]
  exact h2
theorem sgB_mid : sgB (A ++ s :: B) = sgB A ++ (s.bs ++ sgB B) := by simp [sgB]
theorem SgsAt.turn (h : SgsAt w (A ++ s :: B)) {d : Sd} (h1 : SegAt W s.p cs d.base d.next d.l) (k : Kept s.bs w W) (hc : ∀ x ∈ cs, x ∈ s.bs ∨ w.heap.size ≤ x) : SgsAt W (A ++ ⟨s.p, cs, d⟩ :: B) := by
  have hp := h.2
  rw [List.pairwise_append, List.pairwise_cons] at hp
  obtain ⟨p1, ⟨p2, p3⟩, p4⟩ := hp
  refine ⟨fun t ht => ?_, ?_⟩
  · rcases List.mem_append.1 ht with ht | ht
    · exact SegAt.kept (h.1 t (by simp [ht])) k fun x hx hx2 => p4 t ht s (by simp) x hx hx2
    · rcases List.mem_cons.1 ht with rfl | ht
      · exact h1
      · exact SegAt.kept (h.1 t (by simp [ht])) k fun x hx hx2 => p2 t ht x hx2 hx
  · rw [List.pairwise_append, List.pairwise_cons]
    refine ⟨p1, ⟨fun t ht x hx hx2 => ?_, p3⟩, fun t ht u hu x hx hx2 => ?_⟩
    · rcases hc x hx with h5 | h5
      · exact p2 t ht x h5 hx2
      · have := (h.1 t (by simp [ht])).lt x hx2; omega
    · rcases List.mem_cons.1 hu with rfl | hu
      · rcases hc x hx2 with h5 | h5
        · exact p4 t ht s (by simp) x hx h5
        · have := (h.1 t (by simp [ht])).lt x hx; omega
      · exact p4 t ht u (by simp [hu]) x hx hx2
theorem LogAt.turn (h : LogAt w g bs room (A ++ s :: B)) {d : Sd} (h1 : SegAt W s.p cs d.base d.next d.l) (k : Kept s.bs w W) (hc : ∀ x ∈ cs, x ∈ s.bs ∨ w.heap.size ≤ x) :
    ∃ bs', LogAt W g bs' room (A ++ ⟨s.p, cs, d⟩ :: B) ∧ Kept bs w W ∧ ∀ x ∈ bs', x ∈ bs ∨ w.heap.size ≤ x := by
  have hlt := h.lt
  obtain ⟨lv, h2, h3, h4, h5, rfl⟩ := h
  have hs : ∀ x ∈ s.bs, x ∈ sgB (A ++ s :: B) := fun x hx => by rw [sgB_mid]; simp [hx]
  have h3' := own_keptBy h3 k (fun b hb hx => (h5 b (hs b hx)).2 hb)
  refine ⟨g :: (lv.ownBlock.toList ++ sgB (A ++ ⟨s.p, cs, d⟩ :: B)), ⟨lv, h2.keptBy k (fun hx => (h5 g (hs g hx)).1 rfl), by simpa [Sg.ptr] using h3', h4.turn h1 k hc, ?_, rfl⟩, k.mono (fun x hx => by simp [hs x hx]), ?_⟩
  · intro x hx
    have hx' := hx
    rw [sgB_mid] at hx
    simp only [List.mem_append] at hx
    rcases hx with hx | hx | hx
    · exact h5 x (by rw [sgB_mid]; simp [hx])
    · rcases hc x hx with h6 | h6
      · exact h5 x (hs x h6)
      · exact ⟨fun e => by have := hlt g (by simp); omega, fun e => by have := own_lt h3 _ e; omega⟩
    · exact h5 x (by rw [sgB_mid]; simp [hx])
  · intro x hx
    simp only [List.mem_cons, List.mem_append, Option.mem_toList, sgB_mid] at hx ⊢
    rcases hx with hx | hx | hx | hx | hx
    · exact .inl (.inl hx)
    · exact .inl (.inr (.inl hx))
    · exact .inl (.inr (.inr (.inl hx)))
    · rcases hc x hx with h6 | h6
      · exact .inl (.inr (.inr (.inr (.inl h6))))
      · exact .inr h6
    · exact .inl (.inr (.inr (.inr (.inr hx))))
end
/-- A call on a log: it returns, the log says D, and nothing else has turned. -/
def LCall (f : FuncId) (args : Array Value) (w : World) (g : Nat) (bs : List Nat) (v : Value) (room : Int) (D : List Sd) : Prop :=
  Calls Try.prog f args w fun x w' => x = .returned v ∧ ∃ cs ss, LogAt w' g cs room ss ∧ ss.map Sg.d = D ∧ Kept bs w w' ∧ ∀ x ∈ cs, x ∈ bs ∨ w.heap.size ≤ x
theorem LCall.intro {f : FuncId} {args : Array Value} {w : World} {g : Nat} {bs : List Nat} {v : Value} {room : Int} {D : List Sd}
    (h : ∀ R : Ending → World → Prop, Hid (∀ cs ss w', LogAt w' g cs room ss → ss.map Sg.d = D → Kept bs w w' → (∀ x ∈ cs, x ∈ bs ∨ w.heap.size ≤ x) → R (.returned v) w') → Calls Try.prog f args w R) : LCall f args w g bs v room D :=
  h _ fun cs ss w' h1 h2 h3 h4 => ⟨rfl, cs, ss, h1, h2, h3, h4⟩
theorem LCall.use {f : FuncId} {args : Array Value} {w : World} {g : Nat} {bs : List Nat} {v : Value} {room : Int} {D : List Sd} {R : Ending → World → Prop} (h : LCall f args w g bs v room D)
    (k : ∀ cs ss w', LogAt w' g cs room ss → ss.map Sg.d = D → Kept bs w w' → (∀ x ∈ cs, x ∈ bs ∨ w.heap.size ≤ x) → R (.returned v) w') : Calls Try.prog f args w R :=
  h.mono fun x w' ⟨he, cs, ss, h1, h2, h3, h4⟩ => by subst he; exact k cs ss w' h1 h2 h3 h4
theorem LCall.cast {f : FuncId} {args : Array Value} {w : World} {g : Nat} {bs : List Nat} {v v' : Value} {room : Int} {D D' : List Sd} (h : LCall f args w g bs v room D) (hv : v = v') (hd : D = D') : LCall f args w g bs v' room D' := hv ▸ hd ▸ h
/-- A log made. -/
def LNew (f : FuncId) (args : Array Value) (w : World) (room : Int) (D : List Sd) : Prop :=
  Calls Try.prog f args w fun x w' => ∃ g cs ss, x = .returned (.tuple #[.pointer (some ⟨g, 0, none⟩), .int .i64 0]) ∧ LogAt w' g cs room ss ∧ ss.map Sg.d = D ∧ Below w.heap.size w w' ∧ ∀ x ∈ cs, w.heap.size ≤ x
end Go.Proofs.Ytkfglnhapcceaaa
