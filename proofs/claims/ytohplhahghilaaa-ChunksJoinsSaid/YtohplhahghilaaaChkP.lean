import Derived.Test.YtohplhahghilaaaSegP
import Derived.Test.YtohplhahghilaaaRecP1
import Derived.Test.YtohplhahghilaaaCrcX
/-
  Layer 7, plain: chunks, their bytes, digests, a text's chunks, a segment's bytes.
-/
set_option linter.unusedVariables false
set_option linter.unusedSimpArgs false
namespace Go.Proofs.Ytohplhahghilaaa
open Go.RowKit

/-- A chunk. -/
structure Chk where
  i : Int
  n : Int
  d : Nat
  b : List UInt8
deriving DecidableEq
def Chk.cells (c : Chk) : List Value := [.int .i64 c.i, .int .i64 c.n, .int .u64 c.d, .string (S c.b)]
def Chk.val (c : Chk) : Value := .agg #[.int .i64 c.i, .int .i64 c.n, .int .u64 c.d, .string (S c.b)]
/-- Its four cells lie there. -/
def ChkAt (w : World) (b o : Nat) (c : Chk) : Prop :=
  w.cell? ⟨b, o, none⟩ = some (.int .i64 c.i) ∧ w.cell? ⟨b, o + 1, none⟩ = some (.int .i64 c.n) ∧ w.cell? ⟨b, o + 2, none⟩ = some (.int .u64 c.d) ∧ w.cell? ⟨b, o + 3, none⟩ = some (.string (S c.b))
/-- A slice of them, as it lies in memory. -/
def ChksIn (w : World) (v : Value) (l : List Chk) : Prop :=
  (l = [] ∧ ∃ a cap, v = .slice a 0 cap) ∨ ∃ b off cap, v = .slice (some ⟨b, off, none⟩) l.length cap ∧ l.length ≤ cap ∧ l ≠ [] ∧ b < w.heap.size ∧ ∀ i, (h : i < l.length) → ChkAt w b (off + i * 4) l[i]
theorem ChkAt.keep {w W : World} {b o : Nat} {c : Chk} (h : ChkAt w b o c) (hk : ∀ i, W.cell? ⟨b, i, none⟩ = w.cell? ⟨b, i, none⟩) : ChkAt W b o c :=
  ⟨(hk _).trans h.1, (hk _).trans h.2.1, (hk _).trans h.2.2.1, (hk _).trans h.2.2.2⟩
theorem ChksIn.form {w : World} {v : Value} {l : List Chk} (h : ChksIn w v l) : ∃ a cap, v = .slice a l.length cap := by
  rcases h with ⟨rfl, a, cap, rfl⟩ | ⟨b, off, cap, rfl, _⟩
  · exact ⟨_, _, rfl⟩
  · exact ⟨_, _, rfl⟩
theorem ChksIn.kept {bs : List Nat} {w W : World} {v : Value} {l : List Chk} (h : ChksIn w v l) (k : Kept bs w W) (ha : Away bs v) : ChksIn W v l := by
  rcases h with h | ⟨b, off, cap, rfl, hc, hne, hlt, hf⟩
  · exact .inl h
  · exact .inr ⟨b, off, cap, rfl, hc, hne, Nat.lt_of_lt_of_le hlt k.size, fun i hi => (hf i hi).keep fun j => k.cell hlt (ha b rfl) j⟩
theorem ChksIn.below {w W : World} {v : Value} {l : List Chk} (h : ChksIn w v l) (hb : Below w.heap.size w W) : ChksIn W v l := h.kept (Kept.ofBelow hb []) (away_nil v)
theorem ChksIn.alloc {w : World} {v : Value} {l : List Chk} (h : ChksIn w v l) (o : Obj) : ChksIn (w.alloc o) v l := h.below (below_all (Below.refl _ _))
theorem ccells_len : ∀ l : List Chk, (l.flatMap Chk.cells).length = l.length * 4
  | [] => rfl
  | f :: l => by rw [List.flatMap_cons, List.length_append, ccells_len l]; simp [Chk.cells]; omega
theorem ccells_one (l : List Chk) : ∀ u ∈ l.flatMap Chk.cells, u.oneCell' = true := by
  intro u hu
  simp only [List.mem_flatMap, Chk.cells] at hu
  obtain ⟨r, _, hu⟩ := hu
  simp at hu
  rcases hu with rfl | rfl | rfl | rfl <;> rfl
theorem cflat_get : ∀ (l : List Chk) (i j : Nat) (hi : i < l.length), j < 4 → (l.flatMap Chk.cells)[i * 4 + j]? = (l[i].cells)[j]?
  | [], i, j, hi, _ => by simp at hi
  | f :: l, 0, j, hi, hj => by
    rw [List.flatMap_cons, List.getElem?_append_left (by simp [Chk.cells]; omega)]
    simp
  | f :: l, i + 1, j, hi, hj => by
    rw [List.flatMap_cons, List.getElem?_append_right (by simp [Chk.cells]; omega)]
    have := cflat_get l i j (by simpa using hi) hj
    simp only [List.getElem_cons_succ]
    rw [← this]
    congr 1
    simp [Chk.cells]
    omega
theorem chks_own {w : World} {B : Nat} {v : Value} {l : List Chk} (h : w.ownsRow B 38 4 v l.length (l.flatMap Chk.cells)) : ChksIn w v l := by
  rcases id h.2 with ⟨rfl, h0⟩ | ⟨g, cap, cur, rfl, hbg, hg, hcap, rest⟩
  · exact .inl ⟨List.eq_nil_of_length_eq_zero h0, _, _, rfl⟩
  · by_cases hl : l = []
    · subst hl; exact .inl ⟨rfl, _, _, rfl⟩
    · refine .inr ⟨g, 0, cap, rfl, hcap, hl, (Array.getElem?_eq_some_iff.1 hg).1, fun i hi => ?_⟩
      have hc := h.cells (g := g) rfl
      have at_ : ∀ j u, j < 4 → (l[i].cells)[j]? = some u → w.cell? ⟨g, 0 + i * 4 + j, none⟩ = some u := fun j u hj hu => by
        have := hc (i * 4 + j) u (by rw [cflat_get l i j hi hj]; exact hu)
        rw [addr_add] at this
        rw [← this]; congr 2; omega
      exact ⟨at_ 0 _ (by omega) rfl, at_ 1 _ (by omega) rfl, at_ 2 _ (by omega) rfl, at_ 3 _ (by omega) rfl⟩

/-- A text's digest. -/
def digest (l : List UInt8) : Nat := crcSum l * 4294967296 + crcSum l.reverse
theorem digest_bd (l : List UInt8) : digest l < 18446744073709551616 := by
  have h1 := sum_bd l
  have h2 := sum_bd l.reverse
  unfold digest
  omega
/-- May a chunk be? -/
def Chk.right (c : Chk) : Bool := decide (1 ≤ c.n) && decide (c.n ≤ 4096) && decide (0 ≤ c.i) && decide (c.i < c.n) && (!c.b.isEmpty || c.n == 1) && decide (c.b.length ≤ 4096)
theorem Chk.right_iff {c : Chk} : c.right = true ↔ 1 ≤ c.n ∧ c.n ≤ 4096 ∧ 0 ≤ c.i ∧ c.i < c.n ∧ (c.b ≠ [] ∨ c.n = 1) ∧ c.b.length ≤ 4096 := by
  unfold Chk.right
  simp only [Bool.and_eq_true, Bool.or_eq_true, decide_eq_true_eq, beq_iff_eq, Bool.not_eq_true', List.isEmpty_eq_false_iff, and_assoc]
/-- A chunk's bytes. -/
def Chk.text (c : Chk) : List UInt8 := vput c.i.toNat ++ vput c.n.toNat ++ vput c.d ++ crcFrame c.b
/-- How many chunks, and which. -/
def splitN (len size : Nat) : Nat := max 1 ((len + size - 1) / size)
def piece (s : List UInt8) (size i : Nat) : List UInt8 := (s.drop (i * size)).take (min s.length ((i + 1) * size) - i * size)
def chunkOf (s : List UInt8) (size i : Nat) : Chk := ⟨i, splitN s.length size, digest s, piece s size i⟩
def chunksOf (s : List UInt8) (size : Nat) : List Chk := (List.range (splitN s.length size)).map (chunkOf s size)
/-- What is wrong with splitting. -/
def serr (s : List UInt8) (size : Int) : Nat := if size < 1 ∨ 4096 < size then 1 else if 4096 < splitN s.length size.toNat then 2 else 0
theorem chunksOf_len (s : List UInt8) (size : Nat) : (chunksOf s size).length = splitN s.length size := by simp [chunksOf]

/-- Records' bytes, behind the offset that is the least. -/
def ftext (least : Int) : List Fnd → List UInt8
  | [] => []
  | f :: l => vput (f.off - least).toNat ++ f.r.text ++ ftext (f.off + 1) l
def stext (base next : Int) (l : List Fnd) : List UInt8 := vput base.toNat ++ vput next.toNat ++ vput l.length ++ ftext base l
/-- The offset that is the least behind some records; for the k-th. -/
def leastEnd (least : Int) : List Fnd → Int
  | [] => least
  | f :: l => leastEnd (f.off + 1) l
def leastOf (base : Int) (l : List Fnd) (k : Nat) : Int := leastEnd base (l.take k)
theorem leastEnd_snoc : ∀ (l : List Fnd) (least : Int) (f : Fnd), leastEnd least (l ++ [f]) = f.off + 1
  | [], _, _ => rfl
  | g :: l, least, f => leastEnd_snoc l (g.off + 1) f
theorem leastOf_zero (base : Int) (l : List Fnd) : leastOf base l 0 = base := by simp [leastOf, leastEnd]
theorem leastOf_step (base : Int) (l : List Fnd) {k : Nat} (hk : k < l.length) : leastOf base l (k + 1) = l[k].off + 1 := by
  unfold leastOf
  rw [List.take_succ_eq_append_getElem hk, leastEnd_snoc]
theorem ftext_snoc : ∀ (l : List Fnd) (least : Int) (f : Fnd), ftext least (l ++ [f]) = ftext least l ++ (vput (f.off - leastEnd least l).toNat ++ f.r.text)
  | [], least, f => by simp [ftext, leastEnd]
  | g :: l, least, f => by
    rw [List.cons_append, ftext, ftext, ftext_snoc l (g.off + 1) f, leastEnd, List.append_assoc, List.append_assoc, List.append_assoc]
theorem ftext_take (base : Int) (l : List Fnd) {k : Nat} (hk : k < l.length) : ftext base (l.take (k + 1)) = ftext base (l.take k) ++ (vput (l[k].off - leastOf base l k).toNat ++ l[k].r.text) := by
  rw [List.take_succ_eq_append_getElem hk, ftext_snoc]; rfl
end Go.Proofs.Ytohplhahghilaaa
