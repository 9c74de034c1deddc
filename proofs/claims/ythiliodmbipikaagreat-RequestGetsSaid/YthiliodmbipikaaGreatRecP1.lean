import Derived.Test.YthiliodmbipikaaGreatBase
/-
  Several texts in one: RecM, RecN, RecO, RecQ, RecU.
-/
set_option linter.unusedVariables false
set_option linter.unusedSimpArgs false
namespace Go.Proofs.YthiliodmbipikaaGreat
open Go.RowKit

/-- The cells of a record. -/
def Rec.cells (r : Rec) : List Value := [.bool r.hk, .string (S r.key), .bool r.tb, .string (S r.val)]
/-- The four cells of a record lie there. -/
def RecAt (w : World) (b o : Nat) (r : Rec) : Prop := w.cell? ⟨b, o, none⟩ = some (.bool r.hk) ∧ w.cell? ⟨b, o + 1, none⟩ = some (.string (S r.key)) ∧ w.cell? ⟨b, o + 2, none⟩ = some (.bool r.tb) ∧ w.cell? ⟨b, o + 3, none⟩ = some (.string (S r.val))
/-- A slice of records, as it lies in memory. -/
def RecsIn (w : World) (v : Value) (l : List Rec) : Prop :=
  (l = [] ∧ ∃ a cap, v = .slice a 0 cap) ∨ ∃ b off cap, v = .slice (some ⟨b, off, none⟩) l.length cap ∧ l ≠ [] ∧ b < w.heap.size ∧ ∀ i, (h : i < l.length) → RecAt w b (off + i * 4) l[i]
/-- No text of a record is longer than a text can be. -/
def RecBd (r : Rec) : Prop := r.key.length ≤ maxLen ∧ r.val.length ≤ maxLen
def RecsBd (l : List Rec) : Prop := l.length ≤ maxLen ∧ ∀ r ∈ l, RecBd r
theorem RecAt.keep {w W : World} {b o : Nat} {r : Rec} (h : RecAt w b o r) (hk : ∀ i, W.cell? ⟨b, i, none⟩ = w.cell? ⟨b, i, none⟩) : RecAt W b o r :=
  ⟨(hk _).trans h.1, (hk _).trans h.2.1, (hk _).trans h.2.2.1, (hk _).trans h.2.2.2⟩
theorem RecsIn.below {w W : World} {v : Value} {l : List Rec} (h : RecsIn w v l) (hb : Below w.heap.size w W) : RecsIn W v l := by
  rcases h with h | ⟨b, off, cap, hv, hne, hlt, hc⟩
  · exact .inl h
  · exact .inr ⟨b, off, cap, hv, hne, Nat.lt_of_lt_of_le hlt hb.size, fun i hi => (hc i hi).keep fun j => hb.cell (p := ⟨b, j, none⟩) hlt⟩
theorem RecsIn.alloc {w : World} {v : Value} {l : List Rec} (h : RecsIn w v l) (o : Obj) : RecsIn (w.alloc o) v l := h.below ((Below.refl _ w).alloc (Nat.le_refl _) o)
/-- What a slice of records looks like. -/
theorem RecsIn.form {w : World} {v : Value} {l : List Rec} (h : RecsIn w v l) : ∃ a cap, v = .slice a l.length cap := by
  rcases h with ⟨rfl, a, cap, rfl⟩ | ⟨b, off, cap, rfl, _⟩
  · exact ⟨_, _, rfl⟩
  · exact ⟨_, _, rfl⟩

/-- The first thing that is wrong with records. -/
def rchecks : List Rec → Nat
  | [] => 0
  | r :: l => if r.ok = 0 then rchecks l else r.ok
/-- May a batch be? -/
def rall (p e s : Int) (l : List Rec) : Nat :=
  if (numB p && numB e && numB s) = false then 1 else if l = [] then 30 else if 16 < l.length then 2 else rchecks l
theorem rchecks_step {l : List Rec} {k : Nat} (hk : k < l.length) (h : l[k].ok = 0) : rchecks (l.drop (k + 1)) = rchecks (l.drop k) := by
  rw [List.drop_eq_getElem_cons hk, rchecks, if_pos h]
theorem rchecks_stop {l : List Rec} {k : Nat} (hk : k < l.length) (h : l[k].ok ≠ 0) : rchecks (l.drop k) = l[k].ok := by
  rw [List.drop_eq_getElem_cons hk, rchecks, if_neg h]
theorem rchecks_end {l : List Rec} {k : Nat} (hk : l.length ≤ k) : rchecks (l.drop k) = 0 := by
  rw [List.drop_eq_nil_of_le hk]; rfl
theorem rchecks_ok : ∀ {l : List Rec}, rchecks l = 0 ↔ ∀ r ∈ l, r.ok = 0
  | [] => by simp [rchecks]
  | r :: l => by
    have ih := @rchecks_ok l
    unfold rchecks
    by_cases h : r.ok = 0 <;> simp [h, ih]
theorem rall_ok {p e s : Int} {l : List Rec} (h : rall p e s l = 0) : numB p = true ∧ numB e = true ∧ numB s = true ∧ l ≠ [] ∧ l.length ≤ 16 ∧ ∀ r ∈ l, r.ok = 0 := by
  unfold rall at h
  split at h
  · cases h
  · rename_i h1
    split at h
    · cases h
    · rename_i h2
      split at h
      · cases h
      · rename_i h3
        simp at h1
        exact ⟨h1.1, h1.2.1, h1.2.2, h2, by omega, rchecks_ok.1 h⟩
/-- A batch's bytes, or what is wrong. -/
def rbytes (l : List Rec) : List UInt8 := (l.map Rec.text).flatten
def nbytes (ns : List Nat) : List UInt8 := (ns.map vput).flatten
def rbatch (p e s : Int) (l : List Rec) : List UInt8 × Nat :=
  if rall p e s l = 0 then (nbytes [p.toNat, e.toNat, s.toNat, l.length] ++ rbytes l, 0) else ([], rall p e s l)
theorem rbytes_snoc {l : List Rec} {k : Nat} (hk : k < l.length) : rbytes (l.take (k + 1)) = rbytes (l.take k) ++ l[k].text := by
  unfold rbytes; rw [List.take_succ_eq_append_getElem hk, List.map_append, List.flatten_append]; simp
theorem nbytes_snoc {l : List Nat} {k : Nat} (hk : k < l.length) : nbytes (l.take (k + 1)) = nbytes (l.take k) ++ vput l[k] := by
  unfold nbytes; rw [List.take_succ_eq_append_getElem hk, List.map_append, List.flatten_append]; simp
theorem rec_ok_text {r : Rec} (h : r.ok = 0) : r.text.length ≤ 2021 := by
  obtain ⟨_, _, _, h1, h2⟩ := rcheck_ok h
  exact rtext_le (by omega) (by omega)
theorem rbytes_le : ∀ {l : List Rec}, (∀ r ∈ l, r.ok = 0) → (rbytes l).length ≤ 2021 * l.length
  | [], _ => by simp [rbytes]
  | r :: l, h => by
    have ih := rbytes_le (l := l) fun x hx => h x (by simp [hx])
    have h1 := rec_ok_text (h r (by simp))
    have : rbytes (r :: l) = r.text ++ rbytes l := by simp [rbytes]
    rw [this, List.length_append, List.length_cons]
    omega
theorem nbytes_le : ∀ (l : List Nat), (nbytes l).length ≤ 10 * l.length
  | [] => by simp [nbytes]
  | n :: l => by
    have ih := nbytes_le l
    have h1 := vputF_le' n
    have : nbytes (n :: l) = vput n ++ nbytes l := by simp [nbytes]
    rw [this, List.length_append, List.length_cons]
    omega
end Go.Proofs.YthiliodmbipikaaGreat

set_option linter.unusedVariables false
set_option linter.unusedSimpArgs false
namespace Go.Proofs.YthiliodmbipikaaGreat
open Go.RowKit

/-- What a reader's text, number, first byte and record are, where it stands then, and what is wrong. -/
def mtext (s : List UInt8) (at_ e : Int) (has : Bool) (most : Int) : List UInt8 × Int × Int := if e = 0 ∧ has = true then vtext s at_ most else ([], at_, e)
def mnum (s : List UInt8) (at_ e : Int) : Nat × Int × Int := if e = 0 then vget s at_ else (0, at_, e)
def mfirst (s : List UInt8) (at_ e : Int) : Nat × Int × Int :=
  if e ≠ 0 then (0, at_, e) else if ¬ (0 ≤ at_ ∧ at_ ≤ s.length) then (0, at_, 1) else
  match s.drop at_.toNat with
  | [] => (0, at_, 10)
  | c :: _ => (c.toNat, at_ + 1, if c.toNat = 0 ∨ c.toNat = 1 ∨ c.toNat = 3 then 0 else 30)
def mrec (s : List UInt8) (at_ e : Int) : Rec × Int × Int :=
  let c := mfirst s at_ e
  let hk := decide (c.1 % 2 = 1)
  let tb := decide (c.1 / 2 % 2 = 1)
  let k := mtext s c.2.1 c.2.2 hk 64
  let v := mtext s k.2.1 k.2.2 (!tb) 512
  (⟨hk, k.1, tb, v.1⟩, v.2.1, v.2.2)
def mget (s : List UInt8) (at_ : Int) : Rec × Int × Int :=
  if (mrec s at_ 0).2.2 = 0 then ((mrec s at_ 0).1, (mrec s at_ 0).2.1, 0) else (⟨false, [], false, []⟩, 0, (mrec s at_ 0).2.2)
theorem mfirst_bd (s : List UInt8) (at_ e : Int) : (mfirst s at_ e).1 < 256 := by
  unfold mfirst
  split
  · simp
  · split
    · simp
    · split
      · simp
      · exact UInt8.toNat_lt _
theorem mrec_eq {s : List UInt8} {at_ e : Int} {c : Nat} {a1 e1 a2 e2 a3 e3 : Int} {k v : List UInt8} {hk tb : Bool} (h1 : mfirst s at_ e = (c, a1, e1)) (hh : decide (c % 2 = 1) = hk) (ht : decide (c / 2 % 2 = 1) = tb)
    (h2 : mtext s a1 e1 hk 64 = (k, a2, e2)) (h3 : mtext s a2 e2 (!tb) 512 = (v, a3, e3)) : mrec s at_ e = (⟨hk, k, tb, v⟩, a3, e3) := by
  unfold mrec
  simp only [h1, hh, ht, h2, h3]
theorem and_bits (c : Nat) (h : c < 256) : (bits .and .u8 (c : Int) 1 != 0) = decide (c % 2 = 1) ∧ (bits .and .u8 (c : Int) 2 != 0) = decide (c / 2 % 2 = 1) := by
  have : ∀ c : Fin 256, (bits .and .u8 (c.val : Int) 1 != 0) = decide (c.val % 2 = 1) ∧ (bits .and .u8 (c.val : Int) 2 != 0) = decide (c.val / 2 % 2 = 1) := by decide +kernel
  exact this ⟨c, h⟩
def r0 : Rec := ⟨false, [], false, []⟩
theorem mget_of {s : List UInt8} {at_ : Int} {r : Rec} {to e : Int} (h : mrec s at_ 0 = (r, to, e)) : mget s at_ = if e = 0 then (r, to, 0) else (r0, 0, e) := by
  unfold mget; rw [h]; rfl
theorem mget_out {s : List UInt8} {at_ : Int} (h : ¬ (0 ≤ at_ ∧ at_ ≤ s.length)) : mget s at_ = (r0, 0, 1) := by
  have h1 : mfirst s at_ 0 = (0, at_, 1) := by unfold mfirst; rw [if_neg (by simp), if_pos h]
  rw [mget_of (mrec_eq h1 rfl rfl (by unfold mtext; rw [if_neg (by decide)]) (by unfold mtext; rw [if_neg (by decide)])), if_neg (by decide)]
theorem mget_end {s : List UInt8} {k : Nat} (h : k = s.length) : mget s (k : Int) = (r0, 0, 10) := by
  have h1 : mfirst s k 0 = (0, (k : Int), 10) := by unfold mfirst; rw [if_neg (by simp), if_neg (by simp; omega), Int.toNat_natCast, List.drop_eq_nil_of_le (by omega)]
  rw [mget_of (mrec_eq h1 rfl rfl (by unfold mtext; rw [if_neg (by decide)]) (by unfold mtext; rw [if_neg (by decide)])), if_neg (by decide)]
theorem mfirst_at {s : List UInt8} {k c : Nat} (h : k < s.length) (hc : s[k].toNat = c) : mfirst s k 0 = (c, (k : Int) + 1, if c = 0 ∨ c = 1 ∨ c = 3 then 0 else 30) := by
  unfold mfirst; rw [if_neg (by simp), if_neg (by simp; omega), Int.toNat_natCast, List.drop_eq_getElem_cons h]; simp only [hc]
theorem mget_bad {s : List UInt8} {k c : Nat} (h : k < s.length) (hc : s[k].toNat = c) (hb : ¬ (c = 0 ∨ c = 1 ∨ c = 3)) : mget s (k : Int) = (r0, 0, 30) := by
  have h1 := mfirst_at h hc
  rw [if_neg hb] at h1
  rw [mget_of (mrec_eq h1 rfl rfl (by unfold mtext; rw [if_neg (by simp)]) (by unfold mtext; rw [if_neg (by simp)])), if_neg (by decide)]
theorem mget_0 {s : List UInt8} {k : Nat} (h : k < s.length) (hc : s[k].toNat = 0) {v : List UInt8} {to e : Int} (hv : vtext s ((k : Int) + 1) 512 = (v, to, e)) :
    mget s (k : Int) = if e = 0 then (⟨false, [], false, v⟩, to, 0) else (r0, 0, e) := by
  have h1 := mfirst_at h hc
  rw [if_pos (by simp)] at h1
  exact mget_of (mrec_eq h1 (hk := false) (tb := false) rfl rfl (by unfold mtext; rw [if_neg (by simp)]) (by unfold mtext; rw [if_pos (by simp), hv]))
theorem mget_1 {s : List UInt8} {k : Nat} (h : k < s.length) (hc : s[k].toNat = 1) {x v : List UInt8} {t2 to e : Int} (h2 : vtext s ((k : Int) + 1) 64 = (x, t2, 0)) (hv : vtext s t2 512 = (v, to, e)) :
    mget s (k : Int) = if e = 0 then (⟨true, x, false, v⟩, to, 0) else (r0, 0, e) := by
  have h1 := mfirst_at h hc
  rw [if_pos (by simp)] at h1
  exact mget_of (mrec_eq h1 (hk := true) (tb := false) rfl rfl (by unfold mtext; rw [if_pos (by simp), h2]) (by unfold mtext; rw [if_pos (by simp), hv]))
theorem mget_1e {s : List UInt8} {k : Nat} (h : k < s.length) (hc : s[k].toNat = 1) {x : List UInt8} {t2 e2 : Int} (h2 : vtext s ((k : Int) + 1) 64 = (x, t2, e2)) (he : e2 ≠ 0) :
    mget s (k : Int) = (r0, 0, e2) := by
  have h1 := mfirst_at h hc
  rw [if_pos (by simp)] at h1
  rw [mget_of (mrec_eq h1 (hk := true) (tb := false) rfl rfl (by unfold mtext; rw [if_pos (by simp), h2]) (by unfold mtext; rw [if_neg (by simp [he])])), if_neg he]
theorem mget_3 {s : List UInt8} {k : Nat} (h : k < s.length) (hc : s[k].toNat = 3) {x : List UInt8} {t2 e2 : Int} (h2 : vtext s ((k : Int) + 1) 64 = (x, t2, e2)) :
    mget s (k : Int) = if e2 = 0 then (⟨true, x, true, []⟩, t2, 0) else (r0, 0, e2) := by
  have h1 := mfirst_at h hc
  rw [if_pos (by simp)] at h1
  exact mget_of (mrec_eq h1 (hk := true) (tb := true) rfl rfl (by unfold mtext; rw [if_pos (by simp), h2]) (by unfold mtext; rw [if_neg (by simp)]))
end Go.Proofs.YthiliodmbipikaaGreat

set_option linter.unusedVariables false
set_option linter.unusedSimpArgs false
namespace Go.Proofs.YthiliodmbipikaaGreat
open Go.RowKit

/-- The state behind k numbers: where, what is wrong, is one too great, the numbers. -/
def nst (s : List UInt8) (at_ : Int) : Nat → Int × Int × Bool × List Nat
  | 0 => (at_, 0, false, [0, 0, 0, 0])
  | k + 1 =>
    let p := nst s at_ k
    let m := mnum s p.1 p.2.1
    (m.2.1, m.2.2, p.2.2.1 || (decide (k < 3) && decide (1099511627776 < m.1)), p.2.2.2.set k (min m.1 1099511627776))
theorem nst_len (s : List UInt8) (at_ : Int) : ∀ k, (nst s at_ k).2.2.2.length = 4
  | 0 => rfl
  | k + 1 => by simp [nst, nst_len s at_ k]
/-- What is wrong with the numbers of a batch. -/
def nerr (p : Int × Int × Bool × List Nat) : Int :=
  if p.2.1 ≠ 0 then p.2.1 else if p.2.2.1 then 1 else if p.2.2.2.getD 3 0 = 0 then 30 else if 16 < p.2.2.2.getD 3 0 then 2 else 0
/-- Records one behind the other, until something is wrong. -/
def mrecs (s : List UInt8) : Nat → Int → List Rec × Int × Int
  | 0, a => ([], a, 0)
  | n + 1, a =>
    let m := mrec s a 0
    if m.2.2 = 0 then let q := mrecs s n m.2.1; (m.1 :: q.1, q.2.1, q.2.2) else ([m.1], m.2.1, m.2.2)
/-- The batch at a place. -/
def mparse (s : List UInt8) (at_ : Int) : (Int × Int × Int × List Rec) × Int × Int :=
  let p := nst s at_ 4
  if nerr p ≠ 0 then ((0, 0, 0, []), 0, nerr p) else
  let q := mrecs s (p.2.2.2.getD 3 0) p.1
  if q.2.2 ≠ 0 then ((0, 0, 0, []), 0, q.2.2) else ((p.2.2.2.getD 0 0, p.2.2.2.getD 1 0, p.2.2.2.getD 2 0, q.1), q.2.1, 0)
end Go.Proofs.YthiliodmbipikaaGreat

set_option linter.unusedVariables false
set_option linter.unusedSimpArgs false
namespace Go.Proofs.YthiliodmbipikaaGreat
open Go.RowKit

def bigs (l : List Nat) : Bool := (l.take 3).any fun n => decide (1099511627776 < n)
def mins (l : List Nat) : List Nat := (l.map fun n => min n 1099511627776) ++ List.replicate (4 - l.length) 0
/-- The numbers so far, all of them right. -/
def NRel (s : List UInt8) (at_ : Int) (k : Nat) (to : Int) (l : List Nat) : Prop := l.length = k ∧ (∀ n ∈ l, n < 18446744073709551616) ∧ nst s at_ k = (to, 0, bigs l, mins l)
theorem NRel.start (s : List UInt8) (at_ : Int) : NRel s at_ 0 at_ [] := ⟨rfl, by simp, rfl⟩
theorem NRel.step {s : List UInt8} {at_ : Int} {k : Nat} {to : Int} {l : List Nat} (h : NRel s at_ k to l) (hk : k < 4) {n : Nat} {to' : Int} (hv : vget s to = (n, to', 0)) (hn : n < 18446744073709551616) : NRel s at_ (k + 1) to' (l ++ [n]) := by
  obtain ⟨h1, h2, h3⟩ := h
  refine ⟨by simp [h1], by simpa using fun m hm => hm.elim (h2 m) (fun e => e ▸ hn), ?_⟩
  rw [nst, h3]
  have hm : mnum s to 0 = (n, to', 0) := by unfold mnum; rw [if_pos rfl, hv]
  simp only [hm]
  subst h1
  match l, hk with
  | [], _ => simp [bigs, mins]
  | [a], _ => simp [bigs, mins]
  | [a, b], _ => simp [bigs, mins, Bool.or_assoc]
  | [a, b, c], _ => simp [bigs, mins]
theorem nst_stays {s : List UInt8} {at_ : Int} {k : Nat} {e : Int} (he : e ≠ 0) (h : (nst s at_ k).2.1 = e) : ∀ j, (nst s at_ (k + j)).2.1 = e
  | 0 => h
  | j + 1 => by
    have ih := nst_stays he h j
    rw [← Nat.add_assoc, nst]
    simp only [ih]
    unfold mnum
    rw [if_neg he]
theorem mparse_bad {s : List UInt8} {at_ : Int} (h : (nst s at_ 4).2.1 ≠ 0) : mparse s at_ = ((0, 0, 0, []), 0, (nst s at_ 4).2.1) := by
  have hn : nerr (nst s at_ 4) = (nst s at_ 4).2.1 := by unfold nerr; rw [if_pos h]
  unfold mparse
  simp only [hn, ne_eq, h, not_false_eq_true, if_true]
theorem NRel.fail {s : List UInt8} {at_ : Int} {k : Nat} {to : Int} {l : List Nat} (h : NRel s at_ k to l) (hk : k < 4) {n : Nat} {to' e : Int} (hv : vget s to = (n, to', e)) (he : e ≠ 0) : mparse s at_ = ((0, 0, 0, []), 0, e) := by
  obtain ⟨h1, h2, h3⟩ := h
  have h4 : (nst s at_ (k + 1)).2.1 = e := by
    rw [nst, h3]; simp only [mnum, if_true, hv]
  have h5 := nst_stays he h4 (4 - (k + 1))
  rw [show k + 1 + (4 - (k + 1)) = 4 by omega] at h5
  rw [mparse_bad (by rw [h5]; exact he), h5]
/-- What the reference says of four numbers. -/
theorem NRel.done {s : List UInt8} {at_ to : Int} {y0 y1 y2 y3 : Nat} (h : NRel s at_ 4 to [y0, y1, y2, y3]) :
    mparse s at_ = if 1099511627776 < y0 ∨ 1099511627776 < y1 ∨ 1099511627776 < y2 then ((0, 0, 0, []), 0, 1) else if y3 = 0 then ((0, 0, 0, []), 0, 30) else if 16 < y3 then ((0, 0, 0, []), 0, 2) else
      if (mrecs s y3 to).2.2 ≠ 0 then ((0, 0, 0, []), 0, (mrecs s y3 to).2.2) else (((y0 : Int), (y1 : Int), (y2 : Int), (mrecs s y3 to).1), (mrecs s y3 to).2.1, 0) := by
  obtain ⟨_, _, h3⟩ := h
  unfold mparse
  simp only [h3]
  unfold nerr
  simp only [bigs, mins, ne_eq, not_true_eq_false, if_false]
  by_cases b0 : 1099511627776 < y0 ∨ 1099511627776 < y1 ∨ 1099511627776 < y2
  · have hb : ([y0, y1, y2, y3].take 3).any (fun n => decide (1099511627776 < n)) = true := by simpa using b0
    simp [hb, b0]
  · have hb : ([y0, y1, y2, y3].take 3).any (fun n => decide (1099511627776 < n)) = false := by simpa using b0
    have m0 : min y0 1099511627776 = y0 := by omega
    have m1 : min y1 1099511627776 = y1 := by omega
    have m2 : min y2 1099511627776 = y2 := by omega
    by_cases b1 : y3 = 0
    · subst b1; simp [hb, b0]
    · by_cases b2 : 16 < y3
      · have : ¬ min y3 1099511627776 = 0 := by omega
        have : 16 < min y3 1099511627776 := by omega
        simp [hb, b0, b1, b2, *]
      · have m3 : min y3 1099511627776 = y3 := by omega
        simp [hb, b0, b1, b2, m0, m1, m2, m3]
/-- What the reference has still to do. -/
def GRel (s : List UInt8) (n : Nat) (a0 : Int) (j : Nat) (l : List Rec) (a : Int) : Prop := l.length = j ∧ mrecs s n a0 = (l ++ (mrecs s (n - j) a).1, (mrecs s (n - j) a).2)
theorem GRel.start (s : List UInt8) (n : Nat) (a0 : Int) : GRel s n a0 0 [] a0 := ⟨rfl, by simp⟩
theorem GRel.step {s : List UInt8} {n : Nat} {a0 : Int} {j : Nat} {l : List Rec} {a : Int} (h : GRel s n a0 j l a) (hj : j < n) {r : Rec} {a' : Int} (hm : mget s a = (r, a', 0)) : GRel s n a0 (j + 1) (l ++ [r]) a' := by
  obtain ⟨h1, h2⟩ := h
  have hr : mrec s a 0 = (r, a', 0) := by
    unfold mget at hm
    split at hm
    · rename_i h0
      simp only [Prod.mk.injEq] at hm
      rw [← hm.1, ← hm.2.1]; exact Prod.ext rfl (Prod.ext rfl h0)
    · rename_i h0
      simp only [Prod.mk.injEq] at hm
      exact absurd hm.2.2 h0
  refine ⟨by simp [h1], ?_⟩
  rw [h2, show n - j = (n - (j + 1)) + 1 by omega, mrecs]
  simp [hr]
theorem GRel.fail {s : List UInt8} {n : Nat} {a0 : Int} {j : Nat} {l : List Rec} {a : Int} (h : GRel s n a0 j l a) (hj : j < n) {r : Rec} {a' e : Int} (hm : mget s a = (r, a', e)) (he : e ≠ 0) : (mrecs s n a0).2.2 = e := by
  obtain ⟨h1, h2⟩ := h
  have hr : (mrec s a 0).2.2 = e := by
    unfold mget at hm
    split at hm
    · simp only [Prod.mk.injEq] at hm; exact absurd hm.2.2.symm he
    · simp only [Prod.mk.injEq] at hm; exact hm.2.2
  rw [h2, show n - j = (n - (j + 1)) + 1 by omega, mrecs]
  simp [hr, he]
theorem GRel.stop {s : List UInt8} {n : Nat} {a0 : Int} {l : List Rec} {a : Int} (h : GRel s n a0 n l a) : mrecs s n a0 = (l, a, 0) := by
  rw [h.2, Nat.sub_self]; simp [mrecs]
end Go.Proofs.YthiliodmbipikaaGreat

set_option linter.unusedVariables false
set_option linter.unusedSimpArgs false
namespace Go.Proofs.YthiliodmbipikaaGreat
open Go.RowKit

/-- From a to b stands t. -/
def At (s : List UInt8) (a : Int) (t : List UInt8) (b : Int) : Prop := ∃ A B, s = A ++ (t ++ B) ∧ a = A.length ∧ b = (A.length : Int) + t.length
theorem At.trans {s t u : List UInt8} {a b c : Int} (h : At s a t b) (k : At s b u c) : At s a (t ++ u) c := by
  obtain ⟨A, B, h0, rfl, rfl⟩ := h
  obtain ⟨A', B', h1, h2, rfl⟩ := k
  rw [h0, ← List.append_assoc] at h1
  have hl : (A ++ t).length = A'.length := by rw [List.length_append]; omega
  have e1 := List.append_inj_left h1 hl
  have e2 := List.append_inj_right h1 hl
  refine ⟨A, B', by rw [h0, e2, List.append_assoc], rfl, ?_⟩
  rw [← e1]; simp; omega
theorem At.split {s t u : List UInt8} {a c : Int} (h : At s a (t ++ u) c) : At s a t (a + t.length) ∧ At s (a + t.length) u c := by
  obtain ⟨A, B, h0, rfl, rfl⟩ := h
  exact ⟨⟨A, u ++ B, by rw [h0, List.append_assoc], rfl, rfl⟩, ⟨A ++ t, B, by rw [h0]; simp, by simp, by simp; omega⟩⟩
theorem At.range {s t : List UInt8} {a b : Int} (h : At s a t b) : 0 ≤ a ∧ b = a + t.length ∧ b ≤ s.length := by
  obtain ⟨A, B, rfl, rfl, rfl⟩ := h
  refine ⟨by omega, rfl, by simp; omega⟩
theorem At.nil {s : List UInt8} {a : Int} (h : 0 ≤ a ∧ a ≤ s.length) : At s a [] a :=
  ⟨s.take a.toNat, s.drop a.toNat, by simp, by rw [List.length_take]; omega, by rw [List.length_take]; simp; omega⟩
theorem At.of {s : List UInt8} {a : Nat} (n : Nat) (h : a + n ≤ s.length) : At s a ((s.drop a).take n) (a + n : Nat) :=
  ⟨s.take a, s.drop (a + n), by rw [← List.drop_drop, List.take_append_drop, List.take_append_drop], by rw [List.length_take]; omega, by rw [List.length_take, List.length_take, List.length_drop]; omega⟩
theorem At.here (A t B : List UInt8) : At (A ++ (t ++ B)) A.length t ((A.length : Int) + t.length) := ⟨A, B, rfl, rfl, rfl⟩
theorem At.zero {s t : List UInt8} {b : Int} (h : At s 0 t b) : ∃ B, s = t ++ B ∧ b = t.length := by
  obtain ⟨A, B, h0, h1, rfl⟩ := h
  have : A = [] := List.eq_nil_of_length_eq_zero (by omega)
  subst this
  exact ⟨B, by simpa using h0, by simp⟩

theorem vget_at {s : List UInt8} {a b : Int} {n : Nat} (h : vget s a = (n, b, 0)) : At s a (vput n) b ∧ n < 18446744073709551616 := by
  obtain ⟨h1, h2, _, _⟩ := vget_bd s a
  rw [h] at h1 h2
  obtain ⟨h3, h4, h5⟩ := h2 rfl
  simp only at h1 h4 h5
  refine ⟨?_, h1⟩
  obtain ⟨k, rfl⟩ : ∃ k : Nat, a = k := ⟨a.toNat, by omega⟩
  have h6 : vget (s.drop k) 0 = (n, b - k, 0) := by
    unfold vget at h ⊢
    rw [if_pos ⟨by omega, by omega⟩] at h
    rw [if_pos ⟨by omega, by simp⟩]
    simp only [Int.toNat_natCast] at h
    simp only [Int.toNat_zero, List.drop_zero]
    by_cases hz : (vgetL (s.drop k) 0 0).2.2 = 0
    · rw [if_pos hz] at h ⊢
      simp only [Prod.mk.injEq] at h ⊢
      refine ⟨h.1, ?_, trivial⟩
      have := h.2.1
      omega
    · rw [if_neg hz] at h
      simp only [Prod.mk.injEq] at h
      exfalso; omega
  obtain ⟨h7, h8, h9⟩ := vget_back h6
  rw [h9]
  rw [List.length_drop] at h8
  have := At.of (s := s) (a := k) (b - k).toNat (by omega)
  rw [show ((k + (b - (k : Int)).toNat : Nat) : Int) = b by omega] at this
  exact this
theorem at_vget {s : List UInt8} {a b : Int} {n : Nat} (h : At s a (vput n) b) (hn : n < 18446744073709551616) : vget s a = (n, b, 0) := by
  obtain ⟨A, B, rfl, rfl, rfl⟩ := h
  exact vget_put A n B hn
theorem vtext_at {s l : List UInt8} {a b most : Int} (h : vtext s a most = (l, b, 0)) : At s a (vtxt l) b ∧ (l.length : Int) ≤ most := by
  obtain ⟨⟨n, p, e⟩, hv⟩ : ∃ y, vget s a = y := ⟨_, rfl⟩
  unfold vtext at h
  rw [hv] at h
  simp only at h
  split at h
  · rename_i h0; simp only [Prod.mk.injEq] at h; exact absurd h.2.2 h0
  · rename_i h0
    simp only [ne_eq, Decidable.not_not] at h0
    subst h0
    obtain ⟨h1, _⟩ := vget_at hv
    obtain ⟨h2, h3, h4⟩ := h1.range
    split at h
    · simp only [Prod.mk.injEq] at h; exact absurd h.2.2 (by decide)
    · split at h
      · simp only [Prod.mk.injEq] at h; exact absurd h.2.2 (by decide)
      · simp only [Prod.mk.injEq, and_true] at h
        obtain ⟨rfl, rfl⟩ := h
        have hp := vput_pos n
        have hl : ((s.drop p.toNat).take n).length = n := by rw [List.length_take, List.length_drop]; omega
        have h5 := At.of (s := s) (a := p.toNat) n (by omega)
        rw [show ((p.toNat : Nat) : Int) = p by omega, show ((p.toNat + n : Nat) : Int) = p + n by omega] at h5
        refine ⟨?_, by omega⟩
        unfold vtxt
        rw [hl]
        exact h1.trans h5
theorem at_vtext {s l : List UInt8} {a b most : Int} (h : At s a (vtxt l) b) (hl : l.length < 18446744073709551616) (hm : (l.length : Int) ≤ most) : vtext s a most = (l, b, 0) := by
  obtain ⟨A, B, rfl, rfl, rfl⟩ := h
  exact vtext_put A l B most hl hm
theorem first_at {s : List UInt8} {a b : Int} {c : Nat} (h : mfirst s a 0 = (c, b, 0)) : At s a [UInt8.ofNat c] b ∧ (c = 0 ∨ c = 1 ∨ c = 3) := by
  unfold mfirst at h
  rw [if_neg (by simp)] at h
  split at h
  · simp only [Prod.mk.injEq] at h; exact absurd h.2.2 (by decide)
  · rename_i h1
    simp only [Decidable.not_not] at h1
    split at h
    · simp only [Prod.mk.injEq] at h; exact absurd h.2.2 (by decide)
    · rename_i x y hd
      simp only [Prod.mk.injEq] at h
      obtain ⟨rfl, rfl, h2⟩ := h
      have h3 : x.toNat = 0 ∨ x.toNat = 1 ∨ x.toNat = 3 := by
        apply Decidable.byContradiction; intro hn; rw [if_neg hn] at h2; exact absurd h2 (by decide)
      refine ⟨⟨s.take a.toNat, y, ?_, by rw [List.length_take]; omega, by rw [List.length_take]; simp; omega⟩, h3⟩
      have := List.take_append_drop a.toNat s
      rw [hd] at this
      have e : UInt8.ofNat x.toNat = x := by simp
      rw [e]
      exact this.symm
theorem at_first {s : List UInt8} {a b : Int} {c : Nat} (h : At s a [UInt8.ofNat c] b) (hc : c = 0 ∨ c = 1 ∨ c = 3) : mfirst s a 0 = (c, b, 0) := by
  obtain ⟨A, B, rfl, rfl, rfl⟩ := h
  unfold mfirst
  rw [if_neg (by simp), if_neg (by simp; omega), Int.toNat_natCast, List.drop_left]
  simp only [List.singleton_append]
  have : (UInt8.ofNat c).toNat = c := ofNat_toNat (by omega)
  rw [this, if_pos hc]
  rfl

theorem mtext_err {s : List UInt8} {a e most : Int} {has : Bool} (he : e ≠ 0) : (mtext s a e has most).2.2 = e := by unfold mtext; rw [if_neg (by simp [he])]
theorem rec_at {s : List UInt8} {a b : Int} {r : Rec} (h : mrec s a 0 = (r, b, 0)) : At s a r.text b ∧ r.ok = 0 := by
  obtain ⟨⟨c, a1, e1⟩, h1⟩ : ∃ y, mfirst s a 0 = y := ⟨_, rfl⟩
  unfold mrec at h
  simp only [h1] at h
  by_cases he : e1 = 0
  · subst he
    obtain ⟨h2, h3⟩ := first_at h1
    rcases h3 with rfl | rfl | rfl
    · obtain ⟨⟨v, a3, e3⟩, hv⟩ : ∃ y, vtext s a1 512 = y := ⟨_, rfl⟩
      simp [mtext, hv] at h
      obtain ⟨rfl, rfl, rfl⟩ := h
      obtain ⟨h4, h5⟩ := vtext_at hv
      exact ⟨h2.trans h4, by simp [Rec.ok, rcheck]; omega⟩
    · obtain ⟨⟨k, a2, e2⟩, hk⟩ : ∃ y, vtext s a1 64 = y := ⟨_, rfl⟩
      by_cases he : e2 = 0
      · subst he
        obtain ⟨⟨v, a3, e3⟩, hv⟩ : ∃ y, vtext s a2 512 = y := ⟨_, rfl⟩
        simp [mtext, hk, hv] at h
        obtain ⟨rfl, rfl, rfl⟩ := h
        obtain ⟨h4, h5⟩ := vtext_at hk
        obtain ⟨h6, h7⟩ := vtext_at hv
        exact ⟨h2.trans (h4.trans h6), by simp [Rec.ok, rcheck]; omega⟩
      · simp [mtext, hk, he] at h
    · obtain ⟨⟨k, a2, e2⟩, hk⟩ : ∃ y, vtext s a1 64 = y := ⟨_, rfl⟩
      simp [mtext, hk] at h
      obtain ⟨rfl, rfl, rfl⟩ := h
      obtain ⟨h4, h5⟩ := vtext_at hk
      exact ⟨h2.trans h4, by simp [Rec.ok, rcheck]; omega⟩
  · have := congrArg (fun x : Rec × Int × Int => x.2.2) h
    simp only at this
    rw [mtext_err (by rw [mtext_err he]; exact he), mtext_err he] at this
    exact absurd this he
theorem at_rec {s : List UInt8} {a b : Int} {r : Rec} (h : At s a r.text b) (hr : r.ok = 0) : mrec s a 0 = (r, b, 0) := by
  obtain ⟨hk, k, tb, v⟩ := r
  obtain ⟨o1, o2, o3, o4, o5⟩ := rcheck_ok hr
  simp only at o1 o2 o3 o4 o5
  simp only [Rec.text, rtext] at h
  cases tb
  · cases hk
    · simp only [Bool.false_eq_true, if_false] at h
      have := o2 rfl
      subst this
      obtain ⟨g1, g2⟩ := At.split (t := [UInt8.ofNat 0]) h
      have f := at_first g1 (.inl rfl)
      exact mrec_eq f (hk := false) (tb := false) rfl rfl (by unfold mtext; rw [if_neg (by simp)]) (by unfold mtext; rw [if_pos (by simp)]; exact at_vtext g2 (by omega) (by omega))
    · simp only [Bool.false_eq_true, if_false, if_true] at h
      obtain ⟨g1, g2⟩ := At.split (t := [UInt8.ofNat 1]) h
      obtain ⟨g3, g4⟩ := g2.split
      have f := at_first g1 (.inr (.inl rfl))
      exact mrec_eq f (hk := true) (tb := false) rfl rfl (by unfold mtext; rw [if_pos (by simp)]; exact at_vtext g3 (by omega) (by omega)) (by unfold mtext; rw [if_pos (by simp)]; exact at_vtext g4 (by omega) (by omega))
  · have := o1 rfl
    subst this
    have := o3 rfl
    subst this
    simp only [if_true] at h
    obtain ⟨g1, g2⟩ := At.split (t := [UInt8.ofNat 3]) h
    have f := at_first g1 (.inr (.inr rfl))
    exact mrec_eq f (hk := true) (tb := true) rfl rfl (by unfold mtext; rw [if_pos (by simp)]; exact at_vtext g2 (by omega) (by omega)) (by unfold mtext; rw [if_neg (by simp)])
theorem recs_at {s : List UInt8} : ∀ {n : Nat} {a b : Int} {l : List Rec}, mrecs s n a = (l, b, 0) → 0 ≤ a ∧ a ≤ s.length → At s a (rbytes l) b ∧ l.length = n ∧ ∀ r ∈ l, r.ok = 0
  | 0, a, b, l, h, ha => by
    simp only [mrecs, Prod.mk.injEq, and_true] at h
    obtain ⟨rfl, rfl⟩ := h
    exact ⟨At.nil ha, rfl, by simp⟩
  | n + 1, a, b, l, h, ha => by
    obtain ⟨⟨r, p, e⟩, hm⟩ : ∃ y, mrec s a 0 = y := ⟨_, rfl⟩
    simp only [mrecs, hm] at h
    by_cases he : e = 0
    · subst he
      obtain ⟨h1, h2⟩ := rec_at hm
      obtain ⟨⟨l', p', e'⟩, hq⟩ : ∃ y, mrecs s n p = y := ⟨_, rfl⟩
      simp only [hq, if_true, Prod.mk.injEq] at h
      obtain ⟨rfl, rfl, rfl⟩ := h
      obtain ⟨i1, i2, i3⟩ := recs_at hq ⟨by have := h1.range; omega, h1.range.2.2⟩
      refine ⟨?_, by simp [i2], by simpa using ⟨h2, i3⟩⟩
      have e : rbytes (r :: l') = r.text ++ rbytes l' := by simp [rbytes]
      rw [e]; exact h1.trans i1
    · simp only [if_neg he, Prod.mk.injEq] at h
      exact absurd h.2.2 he
theorem at_recs {s : List UInt8} : ∀ {l : List Rec} {a b : Int}, At s a (rbytes l) b → (∀ r ∈ l, r.ok = 0) → mrecs s l.length a = (l, b, 0)
  | [], a, b, h, _ => by
    have := h.range.2.1
    simp [rbytes] at this
    simp [mrecs, this]
  | r :: l, a, b, h, ho => by
    have e : rbytes (r :: l) = r.text ++ rbytes l := by simp [rbytes]
    rw [e] at h
    obtain ⟨h1, h2⟩ := h.split
    have i := at_recs h2 fun x hx => ho x (by simp [hx])
    have m := at_rec h1 (ho r (by simp))
    simp [mrecs, m, i]
theorem nums_at {s : List UInt8} {a : Int} (ha : 0 ≤ a ∧ a ≤ s.length) : ∀ k, k ≤ 4 → (nst s a k).2.1 = 0 → ∃ l to, NRel s a k to l ∧ At s a (nbytes l) to
  | 0, _, _ => ⟨[], a, NRel.start s a, At.nil ha⟩
  | k + 1, hk, h => by
    have h0 : (nst s a k).2.1 = 0 := Decidable.byContradiction fun hn => absurd ((nst_stays hn rfl 1).symm.trans h) hn
    obtain ⟨l, to, h1, h2⟩ := nums_at ha k (by omega) h0
    obtain ⟨⟨n, p, e⟩, hv⟩ : ∃ y, vget s to = y := ⟨_, rfl⟩
    have h3 : (nst s a (k + 1)).2.1 = e := by
      rw [nst, h1.2.2]; simp only [mnum, if_true, hv]
    rw [h3] at h
    subst h
    obtain ⟨g1, g2⟩ := vget_at hv
    refine ⟨l ++ [n], p, h1.step (by omega) hv g2, ?_⟩
    have e : nbytes (l ++ [n]) = nbytes l ++ vput n := by simp [nbytes]
    rw [e]; exact h2.trans g1
theorem numB_nat (n : Nat) : numB n = decide (n ≤ 1099511627776) := by unfold numB; simp; omega
/-- What is wrong: then nothing is told. -/
theorem mparse_err {s : List UInt8} {a : Int} (h : (mparse s a).2.2 ≠ 0) : mparse s a = ((0, 0, 0, []), 0, (mparse s a).2.2) := by
  unfold mparse at h ⊢
  simp only at h ⊢
  split
  · rfl
  · split
    · rfl
    · rename_i h1 h2; rw [if_neg h1, if_neg h2] at h; exact absurd rfl h
theorem parse_at {s : List UInt8} {a b p e q : Int} {l : List Rec} (h : mparse s a = ((p, e, q, l), b, 0)) (ha : 0 ≤ a ∧ a ≤ s.length) : rall p e q l = 0 ∧ At s a (rbatch p e q l).1 b := by
  by_cases hn : (nst s a 4).2.1 = 0
  · obtain ⟨ns, to, h1, h2⟩ := nums_at ha 4 (Nat.le_refl _) hn
    match ns, h1.1 with
    | [y0, y1, y2, y3], _ =>
      have h3 := h1.done
      rw [h] at h3
      split at h3
      · simp at h3
      · split at h3
        · simp at h3
        · split at h3
          · simp at h3
          · split at h3
            · rename_i h4; simp only [Prod.mk.injEq] at h3; exact absurd h3.2.2.symm h4
            · rename_i c0 c1 c2 c3
              simp only [ne_eq, Decidable.not_not] at c3
              obtain ⟨⟨l', b', e'⟩, hq⟩ : ∃ y, mrecs s y3 to = y := ⟨_, rfl⟩
              rw [hq] at h3 c3
              simp only at c3
              subst c3
              simp only [Prod.mk.injEq, and_true] at h3
              obtain ⟨⟨rfl, rfl, rfl, rfl⟩, rfl⟩ := h3
              obtain ⟨g1, g2, g3⟩ := recs_at hq ⟨by have := h2.range; omega, h2.range.2.2⟩
              have hr : rall y0 y1 y2 l = 0 := by
                unfold rall
                rw [numB_nat, numB_nat, numB_nat, if_neg (by simp; omega), if_neg (by intro hl; subst hl; simp at g2; omega), if_neg (by omega)]
                exact rchecks_ok.2 g3
              refine ⟨hr, ?_⟩
              unfold rbatch
              rw [if_pos hr]
              simp only [Int.toNat_natCast, g2]
              exact h2.trans g1
  · have := mparse_bad hn
    rw [h] at this
    simp only [Prod.mk.injEq] at this
    exact absurd this.2.2.symm hn
theorem at_parse {s : List UInt8} {a b p e q : Int} {l : List Rec} (hr : rall p e q l = 0) (h : At s a (rbatch p e q l).1 b) : mparse s a = ((p, e, q, l), b, 0) := by
  obtain ⟨o1, o2, o3, o4, o5, o6⟩ := rall_ok hr
  simp only [numB, Bool.and_eq_true, decide_eq_true_eq] at o1 o2 o3
  obtain ⟨p, rfl⟩ : ∃ n : Nat, p = n := ⟨p.toNat, by omega⟩
  obtain ⟨e, rfl⟩ : ∃ n : Nat, e = n := ⟨e.toNat, by omega⟩
  obtain ⟨q, rfl⟩ : ∃ n : Nat, q = n := ⟨q.toNat, by omega⟩
  unfold rbatch at h
  rw [if_pos hr] at h
  simp only [Int.toNat_natCast] at h
  obtain ⟨h1, h2⟩ := h.split
  have e4 : nbytes [p, e, q, l.length] = vput p ++ (vput e ++ (vput q ++ vput l.length)) := by simp [nbytes]
  rw [e4] at h1 h2
  obtain ⟨g0, h1⟩ := h1.split
  obtain ⟨g1, h1⟩ := h1.split
  obtain ⟨g2, g3⟩ := h1.split
  have n := (((NRel.start s a).step (by omega) (at_vget g0 (by omega)) (by omega)).step (by omega) (at_vget g1 (by omega)) (by omega)).step (by omega) (at_vget g2 (by omega)) (by omega)
  have n4 := n.step (by omega) (at_vget g3 (by omega)) (by omega)
  have hd := NRel.done n4
  have hl : l.length ≠ 0 := fun h0 => o4 (List.eq_nil_of_length_eq_zero h0)
  have hm := at_recs h2 o6
  rw [hd, if_neg (by omega), if_neg hl, if_neg (by omega), hm]
  simp
theorem parse_put (A B : List UInt8) {p e q : Int} {l : List Rec} (hr : rall p e q l = 0) : mparse (A ++ ((rbatch p e q l).1 ++ B)) A.length = ((p, e, q, l), (A.length : Int) + (rbatch p e q l).1.length, 0) :=
  at_parse hr (At.here _ _ _)
/-- Cut short, a batch is none. -/
theorem parse_cut {p e q : Int} {l : List Rec} (hr : rall p e q l = 0) {c : Nat} (hc : c < (rbatch p e q l).1.length) : (mparse ((rbatch p e q l).1.take c) 0).2.2 ≠ 0 := by
  intro h0
  obtain ⟨t, ht⟩ : ∃ t, (rbatch p e q l).1 = t := ⟨_, rfl⟩
  obtain ⟨⟨⟨p', e', q', l'⟩, b, x⟩, hm⟩ : ∃ y, mparse ((rbatch p e q l).1.take c) 0 = y := ⟨_, rfl⟩
  rw [hm] at h0
  simp only at h0
  subst h0
  obtain ⟨h1, h2⟩ := parse_at hm ⟨by omega, by omega⟩
  obtain ⟨B, h3, h4⟩ := h2.zero
  have h5 : At (rbatch p e q l).1 0 (rbatch p' e' q' l').1 b := ⟨[], B ++ (rbatch p e q l).1.drop c, by rw [List.nil_append, ← List.append_assoc, ← h3, List.take_append_drop], rfl, by simp [h4]⟩
  have h6 := at_parse h1 h5
  have h7 := parse_put [] [] hr
  simp only [List.nil_append, List.append_nil, List.length_nil] at h7
  rw [show ((0 : Nat) : Int) = 0 from rfl, h6] at h7
  simp only [Prod.mk.injEq] at h7
  have h8 : ((rbatch p e q l).1.take c).length = c := by rw [List.length_take]; omega
  rw [h3, List.length_append] at h8
  omega
end Go.Proofs.YthiliodmbipikaaGreat
