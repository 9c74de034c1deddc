/-
  Layer 3: slices of records as they lie in memory; batches, plain.
-/
import Derived.Test.YtkgpckfaghpgmaaRecP
import Derived.Test.YtkgpckfaghpgmaaMem
set_option linter.unusedVariables false
set_option linter.unusedSimpArgs false
namespace Go.Proofs.Ytkgpckfaghpgmaa
open Go.RowKit

/-- The cells of a record. -/
def Rec.cells (r : Rec) : List Value := [.bool r.hk, .string (S r.key), .bool r.tb, .string (S r.val)]
/-- The four cells of a record lie there. -/
def RecAt (w : World) (b o : Nat) (r : Rec) : Prop := w.cell? ⟨b, o, none⟩ = some (.bool r.hk) ∧ w.cell? ⟨b, o + 1, none⟩ = some (.string (S r.key)) ∧ w.cell? ⟨b, o + 2, none⟩ = some (.bool r.tb) ∧ w.cell? ⟨b, o + 3, none⟩ = some (.string (S r.val))
/-- A slice of records, as it lies in memory. -/
def RecsIn (w : World) (v : Value) (l : List Rec) : Prop :=
  (l = [] ∧ ∃ a cap, v = .slice a 0 cap) ∨ ∃ b off cap, v = .slice (some ⟨b, off, none⟩) l.length cap ∧ l ≠ [] ∧ b < w.heap.size ∧ ∀ i, (h : i < l.length) → RecAt w b (off + i * 4) l[i]
/-- No text of a record is longer than a text can be. -/
def RecBd (r : Rec) : Prop := r.key.length ≤ maxLen ∧ r.val.length ≤ maxLen
def RecsBd (l : List Rec) : Prop := l.length ≤ maxLen ∧ ∀ r ∈ l, RecBd r
theorem RecAt.keep {w W : World} {b o : Nat} {r : Rec} (h : RecAt w b o r) (hk : ∀ i, W.cell? ⟨b, i, none⟩ = w.cell? ⟨b, i, none⟩) : RecAt W b o r :=
  ⟨(hk _).trans h.1, (hk _).trans h.2.1, (hk _).trans h.2.2.1, (hk _).trans h.2.2.2⟩
theorem RecsIn.below {w W : World} {v : Value} {l : List Rec} (h : RecsIn w v l) (hb : Below w.heap.size w W) : RecsIn W v l := by
  rcases h with h | ⟨b, off, cap, hv, hne, hlt, hc⟩
  · exact .inl h
  · exact .inr ⟨b, off, cap, hv, hne, Nat.lt_of_lt_of_le hlt hb.size, fun i hi => (hc i hi).keep fun j => hb.cell (p := ⟨b, j, none⟩) hlt⟩
theorem RecsIn.alloc {w : World} {v : Value} {l : List Rec} (h : RecsIn w v l) (o : Obj) : RecsIn (w.alloc o) v l := h.below ((Below.refl _ w).alloc (Nat.le_refl _) o)
/-- What a slice of records looks like. -/
theorem RecsIn.form {w : World} {v : Value} {l : List Rec} (h : RecsIn w v l) : ∃ a cap, v = .slice a l.length cap := by
  rcases h with ⟨rfl, a, cap, rfl⟩ | ⟨b, off, cap, rfl, _⟩
  · exact ⟨_, _, rfl⟩
  · exact ⟨_, _, rfl⟩

/-- The first thing that is wrong with records. -/
def rchecks : List Rec → Nat
  | [] => 0
  | r :: l => if r.ok = 0 then rchecks l else r.ok
/-- May a batch be? -/
def rall (p e s : Int) (l : List Rec) : Nat :=
  if (numB p && numB e && numB s) = false then 1 else if l = [] then 30 else if 16 < l.length then 2 else rchecks l
theorem rchecks_step {l : List Rec} {k : Nat} (hk : k < l.length) (h : l[k].ok = 0) : rchecks (l.drop (k + 1)) = rchecks (l.drop k) := by
  rw [List.drop_eq_getElem_cons hk, rchecks, if_pos h]
theorem rchecks_stop {l : List Rec} {k : Nat} (hk : k < l.length) (h : l[k].ok ≠ 0) : rchecks (l.drop k) = l[k].ok := by
  rw [List.drop_eq_getElem_cons hk, rchecks, if_neg h]
theorem rchecks_end {l : List Rec} {k : Nat} (hk : l.length ≤ k) : rchecks (l.drop k) = 0 := by
  rw [List.drop_eq_nil_of_le hk]; rfl
theorem rchecks_ok : ∀ {l : List Rec}, rchecks l = 0 ↔ ∀ r ∈ l, r.ok = 0
  | [] => by simp [rchecks]
  | r :: l => by
    have ih := @rchecks_ok l
    unfold rchecks
    by_cases h : r.ok = 0 <;> simp [h, ih]
theorem rall_ok {p e s : Int} {l : List Rec} (h : rall p e s l = 0) : numB p = true ∧ numB e = true ∧ numB s = true ∧ l ≠ [] ∧ l.length ≤ 16 ∧ ∀ r ∈ l, r.ok = 0 := by
  unfold rall at h
  split at h
  · cases h
  · rename_i h1
    split at h
    · cases h
    · rename_i h2
      split at h
      · cases h
      · rename_i h3
        simp at h1
        exact ⟨h1.1, h1.2.1, h1.2.2, h2, by omega, rchecks_ok.1 h⟩
/-- A batch's bytes, or what is wrong. -/
def rbytes (l : List Rec) : List UInt8 := (l.map Rec.text).flatten
def nbytes (ns : List Nat) : List UInt8 := (ns.map vput).flatten
def rbatch (p e s : Int) (l : List Rec) : List UInt8 × Nat :=
  if rall p e s l = 0 then (nbytes [p.toNat, e.toNat, s.toNat, l.length] ++ rbytes l, 0) else ([], rall p e s l)
theorem rbytes_snoc {l : List Rec} {k : Nat} (hk : k < l.length) : rbytes (l.take (k + 1)) = rbytes (l.take k) ++ l[k].text := by
  unfold rbytes; rw [List.take_succ_eq_append_getElem hk, List.map_append, List.flatten_append]; simp
theorem nbytes_snoc {l : List Nat} {k : Nat} (hk : k < l.length) : nbytes (l.take (k + 1)) = nbytes (l.take k) ++ vput l[k] := by
  unfold nbytes; rw [List.take_succ_eq_append_getElem hk, List.map_append, List.flatten_append]; simp
theorem rec_ok_text {r : Rec} (h : r.ok = 0) : r.text.length ≤ 2021 := by
  obtain ⟨_, _, _, h1, h2⟩ := rcheck_ok h
  exact rtext_le (by omega) (by omega)
theorem rbytes_le : ∀ {l : List Rec}, (∀ r ∈ l, r.ok = 0) → (rbytes l).length ≤ 2021 * l.length
  | [], _ => by simp [rbytes]
  | r :: l, h => by
    have ih := rbytes_le (l := l) fun x hx => h x (by simp [hx])
    have h1 := rec_ok_text (h r (by simp))
    have : rbytes (r :: l) = r.text ++ rbytes l := by simp [rbytes]
    rw [this, List.length_append, List.length_cons]
    omega
theorem nbytes_le : ∀ (l : List Nat), (nbytes l).length ≤ 10 * l.length
  | [] => by simp [nbytes]
  | n :: l => by
    have ih := nbytes_le l
    have h1 := vputF_le' n
    have : nbytes (n :: l) = vput n ++ nbytes l := by simp [nbytes]
    rw [this, List.length_append, List.length_cons]
    omega
end Go.Proofs.Ytkgpckfaghpgmaa
