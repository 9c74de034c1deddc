import Derived.Test.YtkfglnhapcceaaaBase
/-
  Several texts in one: RecM, RecN, RecO.
-/
set_option linter.unusedVariables false
set_option linter.unusedSimpArgs false
namespace Go.Proofs.Ytkfglnhapcceaaa
open Go.RowKit

/-- The cells of a record. -/
def Rec.cells (r : Rec) : List Value := [.bool r.hk, .string (S r.key), .bool r.tb, .string (S r.val)]
/-- The four cells of a record lie there. -/
def RecAt (w : World) (b o : Nat) (r : Rec) : Prop := w.cell? ⟨b, o, none⟩ = some (.bool r.hk) ∧ w.cell? ⟨b, o + 1, none⟩ = some (.string (S r.key)) ∧ w.cell? ⟨b, o + 2, none⟩ = some (.bool r.tb) ∧ w.cell? ⟨b, o + 3, none⟩ = some (.string (S r.val))
/-- A slice of records, as it lies in memory. -/
def RecsIn (w : World) (v : Value) (l : List Rec) : Prop :=
  (l = [] ∧ ∃ a cap, v = .slice a 0 cap) ∨ ∃ b off cap, v = .slice (some ⟨b, off, none⟩) l.length cap ∧ l ≠ [] ∧ b < w.heap.size ∧ ∀ i, (h : i < l.length) → RecAt w b (off + i * 4) l[i]
/-- No text of a record is longer than a text can be. -/
def RecBd (r : Rec) : Prop := r.key.length ≤ maxLen ∧ r.val.length ≤ maxLen
def RecsBd (l : List Rec) : Prop := l.length ≤ maxLen ∧ ∀ r ∈ l, RecBd r
theorem RecAt.keep {w W : World} {b o : Nat} {r : Rec} (h : RecAt w b o r) (hk : ∀ i, W.cell? ⟨b, i, none⟩ = w.cell? ⟨b, i, none⟩) : RecAt W b o r :=
  ⟨(hk _).trans h.1, (hk _).trans h.2.1, (hk _).trans h.2.2.1, (hk _).trans h.2.2.2⟩
theorem RecsIn.below {w W : World} {v : Value} {l : List Rec} (h : RecsIn w v l) (hb : Below w.heap.size w W) : RecsIn W v l := by
  rcases h with h | ⟨b, off, cap, hv, hne, hlt, hc⟩
  · exact .inl h
  · exact .inr ⟨b, off, cap, hv, hne, Nat.lt_of_lt_of_le hlt hb.size, fun i hi => (hc i hi).keep fun j => hb.cell (p := ⟨b, j, none⟩) hlt⟩
theorem RecsIn.alloc {w : World} {v : Value} {l : List Rec} (h : RecsIn w v l) (o : Obj) : RecsIn (w.alloc o) v l := h.below ((Below.refl _ w).alloc (Nat.le_refl _) o)
/-- What a slice of records looks like. -/
theorem RecsIn.form {w : World} {v : Value} {l : List Rec} (h : RecsIn w v l) : ∃ a cap, v = .slice a l.length cap := by
  rcases h with ⟨rfl, a, cap, rfl⟩ | ⟨b, off, cap, rfl, _⟩
  · exact ⟨_, _, rfl⟩
  · exact ⟨_, _, rfl⟩

/-- The first thing that is wrong with records. -/
def rchecks : List Rec → Nat
  | [] => 0
  | r :: l => if r.ok = 0 then rchecks l else r.ok
/-- May a batch be? -/
def rall (p e s : Int) (l : List Rec) : Nat :=
  if (numB p && numB e && numB s) = false then 1 else if l = [] then 30 else if 16 < l.length then 2 else rchecks l
theorem rchecks_step {l : List Rec} {k : Nat} (hk : k < l.length) (h : l[k].ok = 0) : rchecks (l.drop (k + 1)) = rchecks (l.drop k) := by
  rw [List.drop_eq_getElem_cons hk, rchecks, if_pos h]
theorem rchecks_stop {l : List Rec} {k : Nat} (hk : k < l.length) (h : l[k].ok ≠ 0) : rchecks (l.drop k) = l[k].ok := by
  rw [List.drop_eq_getElem_cons hk, rchecks, if_neg h]
theorem rchecks_end {l : List Rec} {k : Nat} (hk : l.length ≤ k) : rchecks (l.drop k) = 0 := by
  rw [List.drop_eq_nil_of_le hk]; rfl
theorem rchecks_ok : ∀ {l : List Rec}, rchecks l = 0 ↔ ∀ r ∈ l, r.ok = 0
  | [] => by simp [rchecks]
  | r :: l => by
    have ih := @rchecks_ok l
    unfold rchecks
    by_cases h : r.ok = 0 <;> simp [h, ih]
theorem rall_ok {p e s : Int} {l : List Rec} (h : rall p e s l = 0) : numB p = true ∧ numB e = true ∧ numB s = true ∧ l ≠ [] ∧ l.length ≤ 16 ∧ ∀ r ∈ l, r.ok = 0 := by
  unfold rall at h
  split at h
  · cases h
  · rename_i h1
    split at h
    · cases h
    · rename_i h2
      split at h
      · cases h
      · rename_i h3
        simp at h1
        exact ⟨h1.1, h1.2.1, h1.2.2, h2, by omega, rchecks_ok.1 h⟩
/-- A batch's bytes, or what is wrong. -/
def rbytes (l : List Rec) : List UInt8 := (l.map Rec.text).flatten
def nbytes (ns : List Nat) : List UInt8 := (ns.map vput).flatten
def rbatch (p e s : Int) (l : List Rec) : List UInt8 × Nat :=
  if rall p e s l = 0 then (nbytes [p.toNat, e.toNat, s.toNat, l.length] ++ rbytes l, 0) else ([], rall p e s l)
theorem rbytes_snoc {l : List Rec} {k : Nat} (hk : k < l.length) : rbytes (l.take (k + 1)) = rbytes (l.take k) ++ l[k].text := by
  unfold rbytes; rw [List.take_succ_eq_append_getElem hk, List.map_append, List.flatten_append]; simp
theorem nbytes_snoc {l : List Nat} {k : Nat} (hk : k < l.length) : nbytes (l.take (k + 1)) = nbytes (l.take k) ++ vput l[k] := by
  unfold nbytes; rw [List.take_succ_eq_append_getElem hk, List.map_append, List.flatten_append]; simp
theorem rec_ok_text {r : Rec} (h : r.ok = 0) : r.text.length ≤ 2021 := by
  obtain ⟨_, _, _, h1, h2⟩ := rcheck_ok h
  exact rtext_le (by omega) (by omega)
theorem rbytes_le : ∀ {l : List Rec}, (∀ r ∈ l, r.ok = 0) → (rbytes l).length ≤ 2021 * l.length
  | [], _ => by simp [rbytes]
  | r :: l, h => by
    have ih := rbytes_le (l := l) fun x hx => h x (by simp [hx])
    have h1 := rec_ok_text (h r (by simp))
    have : rbytes (r :: l) = r.text ++ rbytes l := by simp [rbytes]
    rw [this, List.length_append, List.length_cons]
    omega
theorem nbytes_le : ∀ (l : List Nat), (nbytes l).length ≤ 10 * l.length
  | [] => by simp [nbytes]
  | n :: l => by
    have ih := nbytes_le l
    have h1 := vputF_le' n
    have : nbytes (n :: l) = vput n ++ nbytes l := by simp [nbytes]
    rw [this, List.length_append, List.length_cons]
    omega
end Go.Proofs.Ytkfglnhapcceaaa

set_option linter.unusedVariables false
set_option linter.unusedSimpArgs false
namespace Go.Proofs.Ytkfglnhapcceaaa
open Go.RowKit

/-- What a reader's text, number, first byte and record are, where it stands then, and what is wrong. -/
def mtext (s : List UInt8) (at_ e : Int) (has : Bool) (most : Int) : List UInt8 × Int × Int := if e = 0 ∧ has = true then vtext s at_ most else ([], at_, e)
def mnum (s : List UInt8) (at_ e : Int) : Nat × Int × Int := if e = 0 then vget s at_ else (0, at_, e)
def mfirst (s : List UInt8) (at_ e : Int) : Nat × Int × Int :=
  if e ≠ 0 then (0, at_, e) else if ¬ (0 ≤ at_ ∧ at_ ≤ s.length) then (0, at_, 1) else
  match s.drop at_.toNat with
  | [] => (0, at_, 10)
  | c :: _ => (c.toNat, at_ + 1, if c.toNat = 0 ∨ c.toNat = 1 ∨ c.toNat = 3 then 0 else 30)
def mrec (s : List UInt8) (at_ e : Int) : Rec × Int × Int :=
  let c := mfirst s at_ e
  let hk := decide (c.1 % 2 = 1)
  let tb := decide (c.1 / 2 % 2 = 1)
  let k := mtext s c.2.1 c.2.2 hk 64
  let v := mtext s k.2.1 k.2.2 (!tb) 512
  (⟨hk, k.1, tb, v.1⟩, v.2.1, v.2.2)
def mget (s : List UInt8) (at_ : Int) : Rec × Int × Int :=
  if (mrec s at_ 0).2.2 = 0 then ((mrec s at_ 0).1, (mrec s at_ 0).2.1, 0) else (⟨false, [], false, []⟩, 0, (mrec s at_ 0).2.2)
theorem mfirst_bd (s : List UInt8) (at_ e : Int) : (mfirst s at_ e).1 < 256 := by
  unfold mfirst
  split
  · simp
  · split
    · simp
    · split
      · simp
      · exact UInt8.toNat_lt _
theorem mrec_eq {s : List UInt8} {at_ e : Int} {c : Nat} {a1 e1 a2 e2 a3 e3 : Int} {k v : List UInt8} {hk tb : Bool} (h1 : mfirst s at_ e = (c, a1, e1)) (hh : decide (c % 2 = 1) = hk) (ht : decide (c / 2 % 2 = 1) = tb)
    (h2 : mtext s a1 e1 hk 64 = (k, a2, e2)) (h3 : mtext s a2 e2 (!tb) 512 = (v, a3, e3)) : mrec s at_ e = (⟨hk, k, tb, v⟩, a3, e3) := by
  unfold mrec
  simp only [h1, hh, ht, h2, h3]
theorem and_bits (c : Nat) (h : c < 256) : (bits .and .u8 (c : Int) 1 != 0) = decide (c % 2 = 1) ∧ (bits .and .u8 (c : Int) 2 != 0) = decide (c / 2 % 2 = 1) := by
  have : ∀ c : Fin 256, (bits .and .u8 (c.val : Int) 1 != 0) = decide (c.val % 2 = 1) ∧ (bits .and .u8 (c.val : Int) 2 != 0) = decide (c.val / 2 % 2 = 1) := by decide +kernel
  exact this ⟨c, h⟩
def r0 : Rec := ⟨false, [], false, []⟩
theorem mget_of {s : List UInt8} {at_ : Int} {r : Rec} {to e : Int} (h : mrec s at_ 0 = (r, to, e)) : mget s at_ = if e = 0 then (r, to, 0) else (r0, 0, e) := by
  unfold mget; rw [h]; rfl
theorem mget_out {s : List UInt8} {at_ : Int} (h : ¬ (0 ≤ at_ ∧ at_ ≤ s.length)) : mget s at_ = (r0, 0, 1) := by
  have h1 : mfirst s at_ 0 = (0, at_, 1) := by unfold mfirst; rw [if_neg (by simp), if_pos h]
  rw [mget_of (mrec_eq h1 rfl rfl (by unfold mtext; rw [if_neg (by decide)]) (by unfold mtext; rw [if_neg (by decide)])), if_neg (by decide)]
theorem mget_end {s : List UInt8} {k : Nat} (h : k = s.length) : mget s (k : Int) = (r0, 0, 10) := by
  have h1 : mfirst s k 0 = (0, (k : Int), 10) := by unfold mfirst; rw [if_neg (by simp), if_neg (by simp; omega), Int.toNat_natCast, List.drop_eq_nil_of_le (by omega)]
  rw [mget_of (mrec_eq h1 rfl rfl (by unfold mtext; rw [if_neg (by decide)]) (by unfold mtext; rw [if_neg (by decide)])), if_neg (by decide)]
theorem mfirst_at {s : List UInt8} {k c : Nat} (h : k < s.length) (hc : s[k].toNat = c) : mfirst s k 0 = (c, (k : Int) + 1, if c = 0 ∨ c = 1 ∨ c = 3 then 0 else 30) := by
  unfold mfirst; rw [if_neg (by simp), if_neg (by simp; omega), Int.toNat_natCast, List.drop_eq_getElem_cons h]; simp only [hc]
theorem mget_bad {s : List UInt8} {k c : Nat} (h : k < s.length) (hc : s[k].toNat = c) (hb : ¬ (c = 0 ∨ c = 1 ∨ c = 3)) : mget s (k : Int) = (r0, 0, 30) := by
  have h1 := mfirst_at h hc
  rw [if_neg hb] at h1
  rw [mget_of (mrec_eq h1 rfl rfl (by unfold mtext; rw [if_neg (by simp)]) (by unfold mtext; rw [if_neg (by simp)])), if_neg (by decide)]
theorem mget_0 {s : List UInt8} {k : Nat} (h : k < s.length) (hc : s[k].toNat = 0) {v : List UInt8} {to e : Int} (hv : vtext s ((k : Int) + 1) 512 = (v, to, e)) :
    mget s (k : Int) = if e = 0 then (⟨false, [], false, v⟩, to, 0) else (r0, 0, e) := by
  have h1 := mfirst_at h hc
  rw [if_pos (by simp)] at h1
  exact mget_of (mrec_eq h1 (hk := false) (tb := false) rfl rfl (by unfold mtext; rw [if_neg (by simp)]) (by unfold mtext; rw [if_pos (by simp), hv]))
theorem mget_1 {s : List UInt8} {k : Nat} (h : k < s.length) (hc : s[k].toNat = 1) {x v : List UInt8} {t2 to e : Int} (h2 : vtext s ((k : Int) + 1) 64 = (x, t2, 0)) (hv : vtext s t2 512 = (v, to, e)) :
    mget s (k : Int) = if e = 0 then (⟨true, x, false, v⟩, to, 0) else (r0, 0, e) := by
  have h1 := mfirst_at h hc
  rw [if_pos (by simp)] at h1
  exact mget_of (mrec_eq h1 (hk := true) (tb := false) rfl rfl (by unfold mtext; rw [if_pos (by simp), h2]) (by unfold mtext; rw [if_pos (by simp), hv]))
theorem mget_1e {s : List UInt8} {k : Nat} (h : k < s.length) (hc : s[k].toNat = 1) {x : List UInt8} {t2 e2 : Int} (h2 : vtext s ((k : Int) + 1) 64 = (x, t2, e2)) (he : e2 ≠ 0) :
    mget s (k : Int) = (r0, 0, e2) := by
  have h1 := mfirst_at h hc
  rw [if_pos (by simp)] at h1
  rw [mget_of (mrec_eq h1 (hk := true) (tb := false) rfl rfl (by unfold mtext; rw [if_pos (by simp), h2]) (by unfold mtext; rw [if_neg (by simp [he])])), if_neg he]
theorem mget_3 {s : List UInt8} {k : Nat} (h : k < s.length) (hc : s[k].toNat = 3) {x : List UInt8} {t2 e2 : Int} (h2 : vtext s ((k : Int) + 1) 64 = (x, t2, e2)) :
    mget s (k : Int) = if e2 = 0 then (⟨true, x, true, []⟩, t2, 0) else (r0, 0, e2) := by
  have h1 := mfirst_at h hc
  rw [if_pos (by simp)] at h1
  exact mget_of (mrec_eq h1 (hk := true) (tb := true) rfl rfl (by unfold mtext; rw [if_pos (by simp), h2]) (by unfold mtext; rw [if_neg (by simp)]))
end Go.Proofs.Ytkfglnhapcceaaa

set_option linter.unusedVariables false
set_option linter.unusedSimpArgs false
namespace Go.Proofs.Ytkfglnhapcceaaa
open Go.RowKit

/-- The state behind k numbers: where, what is wrong, is one too great, the numbers. -/
def nst (s : List UInt8) (at_ : Int) : Nat → Int × Int × Bool × List Nat
  | 0 => (at_, 0, false, [0, 0, 0, 0])
  | k + 1 =>
    let p := nst s at_ k
    let m := mnum s p.1 p.2.1
    (m.2.1, m.2.2, p.2.2.1 || (decide (k < 3) && decide (1099511627776 < m.1)), p.2.2.2.set k (min m.1 1099511627776))
theorem nst_len (s : List UInt8) (at_ : Int) : ∀ k, (nst s at_ k).2.2.2.length = 4
  | 0 => rfl
  | k + 1 => by simp [nst, nst_len s at_ k]
/-- What is wrong with the numbers of a batch. -/
def nerr (p : Int × Int × Bool × List Nat) : Int :=
  if p.2.1 ≠ 0 then p.2.1 else if p.2.2.1 then 1 else if p.2.2.2.getD 3 0 = 0 then 30 else if 16 < p.2.2.2.getD 3 0 then 2 else 0
/-- Records one behind the other, until something is wrong. -/
def mrecs (s : List UInt8) : Nat → Int → List Rec × Int × Int
  | 0, a => ([], a, 0)
  | n + 1, a =>
    let m := mrec s a 0
    if m.2.2 = 0 then let q := mrecs s n m.2.1; (m.1 :: q.1, q.2.1, q.2.2) else ([m.1], m.2.1, m.2.2)
/-- The batch at a place. -/
def mparse (s : List UInt8) (at_ : Int) : (Int × Int × Int × List Rec) × Int × Int :=
  let p := nst s at_ 4
  if nerr p ≠ 0 then ((0, 0, 0, []), 0, nerr p) else
  let q := mrecs s (p.2.2.2.getD 3 0) p.1
  if q.2.2 ≠ 0 then ((0, 0, 0, []), 0, q.2.2) else ((p.2.2.2.getD 0 0, p.2.2.2.getD 1 0, p.2.2.2.getD 2 0, q.1), q.2.1, 0)
end Go.Proofs.Ytkfglnhapcceaaa
