import Derived.Test.YthiliodmbipikaaGreatRecY
import Derived.Maps.AppendAt
/-
  Layer 5: records with offsets, as they lie in memory; blocks that may turn and blocks that stay. No program in sight but its types.
-/
set_option linter.unusedVariables false
set_option linter.unusedSimpArgs false
namespace Go.Proofs.YthiliodmbipikaaGreat
open Go.RowKit

/-- A record with its offset. -/
structure Fnd where
  off : Int
  r : Rec
deriving DecidableEq

/-- The cells of a record with its offset. -/
def Fnd.cells (f : Fnd) : List Value := .int .i64 f.off :: f.r.cells
/-- Its value. -/
def Fnd.val (f : Fnd) : Value := .agg #[.int .i64 f.off, .bool f.r.hk, .string (S f.r.key), .bool f.r.tb, .string (S f.r.val)]
/-- Its five cells lie there. -/
def FndAt (w : World) (b o : Nat) (f : Fnd) : Prop :=
  w.cell? ⟨b, o, none⟩ = some (.int .i64 f.off) ∧ w.cell? ⟨b, o + 1, none⟩ = some (.bool f.r.hk) ∧ w.cell? ⟨b, o + 2, none⟩ = some (.string (S f.r.key)) ∧ w.cell? ⟨b, o + 3, none⟩ = some (.bool f.r.tb) ∧ w.cell? ⟨b, o + 4, none⟩ = some (.string (S f.r.val))
/-- A slice of them, as it lies in memory. -/
def FndsIn (w : World) (v : Value) (l : List Fnd) : Prop :=
  (l = [] ∧ ∃ a cap, v = .slice a 0 cap) ∨ ∃ b off cap, v = .slice (some ⟨b, off, none⟩) l.length cap ∧ l.length ≤ cap ∧ l ≠ [] ∧ b < w.heap.size ∧ ∀ i, (h : i < l.length) → FndAt w b (off + i * 5) l[i]
/-- A slice of numbers, as it lies in memory. -/
def NumsIn (w : World) (v : Value) (l : List Int) : Prop :=
  (l = [] ∧ ∃ a cap, v = .slice a 0 cap) ∨ ∃ b off cap, v = .slice (some ⟨b, off, none⟩) l.length cap ∧ l.length ≤ cap ∧ l ≠ [] ∧ b < w.heap.size ∧ ∀ i, (h : i < l.length) → w.cell? ⟨b, off + i, none⟩ = some (.int .i64 l[i])

theorem FndAt.keep {w W : World} {b o : Nat} {f : Fnd} (h : FndAt w b o f) (hk : ∀ i, W.cell? ⟨b, i, none⟩ = w.cell? ⟨b, i, none⟩) : FndAt W b o f :=
  ⟨(hk _).trans h.1, (hk _).trans h.2.1, (hk _).trans h.2.2.1, (hk _).trans h.2.2.2.1, (hk _).trans h.2.2.2.2⟩
theorem FndsIn.form {w : World} {v : Value} {l : List Fnd} (h : FndsIn w v l) : ∃ a cap, v = .slice a l.length cap := by
  rcases h with ⟨rfl, a, cap, rfl⟩ | ⟨b, off, cap, rfl, _⟩
  · exact ⟨_, _, rfl⟩
  · exact ⟨_, _, rfl⟩
theorem NumsIn.form {w : World} {v : Value} {l : List Int} (h : NumsIn w v l) : ∃ a cap, v = .slice a l.length cap := by
  rcases h with ⟨rfl, a, cap, rfl⟩ | ⟨b, off, cap, rfl, _⟩
  · exact ⟨_, _, rfl⟩
  · exact ⟨_, _, rfl⟩

/-- Only these blocks may have turned; new ones may be there. -/
structure Kept (bs : List Nat) (w W : World) : Prop where
  os : W.os = w.os
  tape : W.tape = w.tape
  output : W.output = w.output
  size : w.heap.size ≤ W.heap.size
  block : ∀ i, i < w.heap.size → i ∉ bs → W.heap[i]? = w.heap[i]?
theorem Kept.refl (bs : List Nat) (w : World) : Kept bs w w := ⟨rfl, rfl, rfl, Nat.le_refl _, fun _ _ _ => rfl⟩
theorem Kept.trans {bs cs : List Nat} {w W V : World} (h : Kept bs w W) (k : Kept cs W V) (hc : ∀ x ∈ cs, x ∈ bs ∨ w.heap.size ≤ x) : Kept bs w V :=
  ⟨k.os.trans h.os, k.tape.trans h.tape, k.output.trans h.output, Nat.le_trans h.size k.size, fun i hi hn => (k.block i (Nat.lt_of_lt_of_le hi h.size) (fun hm => (hc i hm).elim hn (by omega))).trans (h.block i hi hn)⟩
theorem Kept.mono {bs cs : List Nat} {w W : World} (h : Kept bs w W) (hs : ∀ x ∈ bs, x ∈ cs) : Kept cs w W :=
  ⟨h.os, h.tape, h.output, h.size, fun i hi hn => h.block i hi fun hm => hn (hs i hm)⟩
theorem Kept.ofGrown {w W : World} {row : Option Nat} (h : w.grownBy W row) : Kept row.toList w W :=
  ⟨h.os, h.tape, h.output, h.size, fun i hi hn => h.block i hi (by cases row <;> simp_all)⟩
theorem Kept.ofBelow {w W : World} (h : Below w.heap.size w W) (bs : List Nat) : Kept bs w W := ⟨h.os, h.tape, h.output, h.size, fun i hi _ => h.block i hi⟩
theorem Kept.bel {bs : List Nat} {w W V : World} (h : Kept bs w W) (k : Below W.heap.size W V) : Kept bs w V := h.trans (Kept.ofBelow k []) (by simp)
theorem Kept.below {bs : List Nat} {a w W : World} {B : Nat} (h : Below B a w) (k : Kept bs w W) (hb : ∀ x ∈ bs, B ≤ x) (hB : B ≤ w.heap.size) : Below B a W :=
  ⟨k.os.trans h.os, k.tape.trans h.tape, k.output.trans h.output, Nat.le_trans h.size k.size, fun i hi => (k.block i (by omega) (fun hm => by have := hb i hm; omega)).trans (h.block i hi)⟩
theorem Kept.cell {bs : List Nat} {w W : World} (k : Kept bs w W) {b : Nat} (hb : b < w.heap.size) (hn : b ∉ bs) (i : Nat) : W.cell? ⟨b, i, none⟩ = w.cell? ⟨b, i, none⟩ := World.cell?_of_block (k.block b hb hn)
theorem Blk.keptBy {bs : List Nat} {w W : World} {b : Nat} {cs : Array Value} {T : TypeId} (h : Blk w b cs T) (k : Kept bs w W) (hn : b ∉ bs) : Blk W b cs T := (k.block b h.lt hn).trans h

/-- None of these blocks is a value's own. -/
def Away (bs : List Nat) (v : Value) : Prop := ∀ b, v.ownBlock = some b → b ∉ bs
theorem FndsIn.kept {bs : List Nat} {w W : World} {v : Value} {l : List Fnd} (h : FndsIn w v l) (k : Kept bs w W) (ha : Away bs v) : FndsIn W v l := by
  rcases h with h | ⟨b, off, cap, rfl, hc, hne, hlt, hf⟩
  · exact .inl h
  · exact .inr ⟨b, off, cap, rfl, hc, hne, Nat.lt_of_lt_of_le hlt k.size, fun i hi => (hf i hi).keep fun j => k.cell hlt (ha b rfl) j⟩
theorem NumsIn.kept {bs : List Nat} {w W : World} {v : Value} {l : List Int} (h : NumsIn w v l) (k : Kept bs w W) (ha : Away bs v) : NumsIn W v l := by
  rcases h with h | ⟨b, off, cap, rfl, hc, hne, hlt, hf⟩
  · exact .inl h
  · exact .inr ⟨b, off, cap, rfl, hc, hne, Nat.lt_of_lt_of_le hlt k.size, fun i hi => (k.cell hlt (ha b rfl) _).trans (hf i hi)⟩
theorem RecsIn.kept {bs : List Nat} {w W : World} {v : Value} {l : List Rec} (h : RecsIn w v l) (k : Kept bs w W) (ha : Away bs v) : RecsIn W v l := by
  rcases h with h | ⟨b, off, cap, rfl, hne, hlt, hf⟩
  · exact .inl h
  · exact .inr ⟨b, off, cap, rfl, hne, Nat.lt_of_lt_of_le hlt k.size, fun i hi => (hf i hi).keep fun j => k.cell hlt (ha b rfl) j⟩
theorem away_nil (v : Value) : Away [] v := fun _ _ => by simp
theorem FndsIn.below {w W : World} {v : Value} {l : List Fnd} (h : FndsIn w v l) (hb : Below w.heap.size w W) : FndsIn W v l := h.kept (Kept.ofBelow hb []) (away_nil v)
theorem NumsIn.below {w W : World} {v : Value} {l : List Int} (h : NumsIn w v l) (hb : Below w.heap.size w W) : NumsIn W v l := h.kept (Kept.ofBelow hb []) (away_nil v)
theorem FndsIn.alloc {w : World} {v : Value} {l : List Fnd} (h : FndsIn w v l) (o : Obj) : FndsIn (w.alloc o) v l := h.below (below_all (Below.refl _ _))
theorem NumsIn.alloc {w : World} {v : Value} {l : List Int} (h : NumsIn w v l) (o : Obj) : NumsIn (w.alloc o) v l := h.below (below_all (Below.refl _ _))

/-- Cells of a list of them. -/
theorem fcells_len : ∀ l : List Fnd, (l.flatMap Fnd.cells).length = l.length * 5
  | [] => rfl
  | f :: l => by rw [List.flatMap_cons, List.length_append, fcells_len l]; simp [Fnd.cells, Rec.cells]; omega
theorem fcells_one (l : List Fnd) : ∀ u ∈ l.flatMap Fnd.cells, u.oneCell' = true := by
  intro u hu
  simp only [List.mem_flatMap, Fnd.cells, Rec.cells] at hu
  obtain ⟨r, _, hu⟩ := hu
  simp at hu
  rcases hu with rfl | rfl | rfl | rfl | rfl <;> rfl
theorem fflat_get : ∀ (l : List Fnd) (i j : Nat) (hi : i < l.length), j < 5 → (l.flatMap Fnd.cells)[i * 5 + j]? = (l[i].cells)[j]?
  | [], i, j, hi, _ => by simp at hi
  | f :: l, 0, j, hi, hj => by
    rw [List.flatMap_cons, List.getElem?_append_left (by simp [Fnd.cells, Rec.cells]; omega)]
    simp
  | f :: l, i + 1, j, hi, hj => by
    rw [List.flatMap_cons, List.getElem?_append_right (by simp [Fnd.cells, Rec.cells]; omega)]
    have := fflat_get l i j (by simpa using hi) hj
    simp only [List.getElem_cons_succ]
    rw [← this]
    congr 1
    simp [Fnd.cells, Rec.cells]
    omega
theorem addr_add (b o j : Nat) : (⟨b, o, none⟩ : Addr).add j = ⟨b, o + j, none⟩ := by unfold Addr.add; split <;> simp_all
/-- The cells of a stretch of records, one by one. -/
theorem fnews_at {w : World} {b o : Nat} {l : List Fnd} (h : ∀ i, (h : i < l.length) → FndAt w b (o + i * 5) l[i]) : ∀ j u, (l.flatMap Fnd.cells)[j]? = some u → w.cell? ((⟨b, o, none⟩ : Addr).add j) = some u := fun j u hj => by
  rw [addr_add]
  have hlt : j < l.length * 5 := by rw [← fcells_len]; exact (List.getElem?_eq_some_iff.1 hj).1
  have hi : j / 5 < l.length := by omega
  have e : j = j / 5 * 5 + j % 5 := by omega
  rw [e, fflat_get l _ _ hi (by omega)] at hj
  obtain ⟨c0, c1, c2, c3, c4⟩ := h _ hi
  generalize l[j / 5] = f at *
  have hm : j % 5 = 0 ∨ j % 5 = 1 ∨ j % 5 = 2 ∨ j % 5 = 3 ∨ j % 5 = 4 := by omega
  rcases hm with hm | hm | hm | hm | hm <;> rw [hm] at hj <;> simp [Fnd.cells, Rec.cells] at hj <;> subst hj
  · rw [show o + j = o + j / 5 * 5 by omega]; exact c0
  · rw [show o + j = o + j / 5 * 5 + 1 by omega]; exact c1
  · rw [show o + j = o + j / 5 * 5 + 2 by omega]; exact c2
  · rw [show o + j = o + j / 5 * 5 + 3 by omega]; exact c3
  · rw [show o + j = o + j / 5 * 5 + 4 by omega]; exact c4
theorem fnds_own {w : World} {B : Nat} {v : Value} {l : List Fnd} (h : w.ownsRow B 95 5 v l.length (l.flatMap Fnd.cells)) : FndsIn w v l := by
  rcases id h.2 with ⟨rfl, h0⟩ | ⟨g, cap, cur, rfl, hbg, hg, hcap, rest⟩
  · exact .inl ⟨List.eq_nil_of_length_eq_zero h0, _, _, rfl⟩
  · by_cases hl : l = []
    · subst hl; exact .inl ⟨rfl, _, _, rfl⟩
    · refine .inr ⟨g, 0, cap, rfl, hcap, hl, (Array.getElem?_eq_some_iff.1 hg).1, fun i hi => ?_⟩
      have hc := h.cells (g := g) rfl
      have at_ : ∀ j u, j < 5 → (l[i].cells)[j]? = some u → w.cell? ⟨g, 0 + i * 5 + j, none⟩ = some u := fun j u hj hu => by
        have := hc (i * 5 + j) u (by rw [fflat_get l i j hi hj]; exact hu)
        rw [addr_add] at this
        rw [← this]; congr 2; omega
      exact ⟨at_ 0 _ (by omega) rfl, at_ 1 _ (by omega) rfl, at_ 2 _ (by omega) rfl, at_ 3 _ (by omega) rfl, at_ 4 _ (by omega) rfl⟩
theorem nums_own {w : World} {B : Nat} {v : Value} {l : List Int} (h : w.ownsRow B 3 1 v l.length (l.map (Value.int .i64))) : NumsIn w v l := by
  rcases id h.2 with ⟨rfl, h0⟩ | ⟨g, cap, cur, rfl, hbg, hg, hcap, rest⟩
  · exact .inl ⟨List.eq_nil_of_length_eq_zero h0, _, _, rfl⟩
  · by_cases hl : l = []
    · subst hl; exact .inl ⟨rfl, _, _, rfl⟩
    · refine .inr ⟨g, 0, cap, rfl, hcap, hl, (Array.getElem?_eq_some_iff.1 hg).1, fun i hi => ?_⟩
      have := h.cells (g := g) rfl i (.int .i64 l[i]) (by simp [hi])
      rwa [addr_add] at this

/-- The offsets of each eighth record, where k are ahead. -/
def idxF : Nat → List Fnd → List Int
  | _, [] => []
  | k, f :: l => if k % 8 = 0 then f.off :: idxF (k + 1) l else idxF (k + 1) l
def idx (l : List Fnd) : List Int := idxF 0 l
theorem idxF_snoc (f : Fnd) : ∀ (l : List Fnd) (k : Nat), idxF k (l ++ [f]) = idxF k l ++ if (k + l.length) % 8 = 0 then [f.off] else []
  | [], k => by simp [idxF]
  | g :: l, k => by
    have h := idxF_snoc f l (k + 1)
    simp only [List.cons_append, idxF, List.length_cons]
    rw [show k + 1 + l.length = k + (l.length + 1) by omega] at h
    rw [h]
    split <;> simp
theorem idx_snoc (l : List Fnd) (f : Fnd) : idx (l ++ [f]) = idx l ++ if l.length % 8 = 0 then [f.off] else [] := by
  unfold idx; rw [idxF_snoc, Nat.zero_add]
theorem idxF_len : ∀ (l : List Fnd) (k : Nat), (idxF k l).length ≤ l.length
  | [], _ => by simp [idxF]
  | f :: l, k => by
    have h := idxF_len l (k + 1)
    simp only [idxF]
    split <;> simp <;> omega
theorem idx_len (l : List Fnd) : (idx l).length ≤ l.length := idxF_len l 0

theorem own_lt {w : World} {B n size : Nat} {e : TypeId} {v : Value} {xs : List Value} (h : w.ownsRow B e size v n xs) : ∀ b, v.ownBlock = some b → b < w.heap.size := fun b hb => (h.lt b hb).2
theorem own_keptBy {bs : List Nat} {w W : World} {B n size : Nat} {e : TypeId} {v : Value} {xs : List Value} (h : w.ownsRow B e size v n xs) (k : Kept bs w W) (ha : Away bs v) : W.ownsRow B e size v n xs := by
  refine ⟨h.1, ?_⟩
  rcases h.2 with hn | ⟨g, cap, cur, rfl, hb, hgg, rest⟩
  · exact .inl hn
  · exact .inr ⟨g, cap, cur, rfl, hb, (k.block g (Array.getElem?_eq_some_iff.1 hgg).1 (ha g rfl)).trans hgg, rest⟩
end Go.Proofs.YthiliodmbipikaaGreat
