import Derived.Test.YthiliodmbipikaaGreatReqI1
import Derived.Test.YthiliodmbipikaaGreatReqB
import Derived.Test.YthiliodmbipikaaGreatSegP
/-
  Several texts in one: ReqS, ReqRP.
-/
set_option linter.unusedVariables false
set_option linter.unusedSimpArgs false
namespace Go.Proofs.YthiliodmbipikaaGreat
open Go.RowKit

/-- What is told of bytes: the thing whose bytes they are, or none. -/
def Got {α : Type} (chk : α → Nat) (txt : α → List UInt8) (z : α) (s : List UInt8) (c : α) (n : Nat) : Prop :=
  (n = 0 ∧ chk c = 0 ∧ txt c = s ∨ n = 40 ∧ c = z) ∧ ∀ y, chk y = 0 → txt y = s → n = 0 ∧ c = y
section
variable {α : Type} {chk : α → Nat} {txt : α → List UInt8} {z : α} {s : List UInt8}
theorem Got.eq {c d : α} {n m : Nat} (h : Got chk txt z s c n) (k : Got chk txt z s d m) : n = m ∧ c = d := by
  rcases h with ⟨⟨rfl, h1, h2⟩ | ⟨rfl, rfl⟩, h3⟩
  · obtain ⟨rfl, rfl⟩ := k.2 _ h1 h2
    exact ⟨rfl, rfl⟩
  · rcases k with ⟨⟨rfl, k1, k2⟩ | ⟨rfl, rfl⟩, k3⟩
    · have := (h3 _ k1 k2).1
      simp at this
    · exact ⟨rfl, rfl⟩
theorem got_ok {c : α} {e : Int} (h1 : chk c = 0) (h2 : txt c = s) (full : ∀ y, chk y = 0 → txt y = s → c = y ∧ e = 0) : Got chk txt z s c 0 :=
  ⟨.inl ⟨rfl, h1, h2⟩, fun y k1 k2 => ⟨rfl, (full y k1 k2).1⟩⟩
theorem got_no {c : α} {e : Int} (h : e ≠ 0 ∨ chk c ≠ 0 ∨ txt c ≠ s) (full : ∀ y, chk y = 0 → txt y = s → c = y ∧ e = 0) : Got chk txt z s z 40 :=
  ⟨.inr ⟨rfl, rfl⟩, fun y k1 k2 => by
    obtain ⟨rfl, he⟩ := full y k1 k2
    rcases h with h | h | h
    · exact absurd he h
    · exact absurd k1 h
    · exact absurd k2 h⟩
end
/-- The letters of what a kind has. -/
def hasL : Nat → List UInt8
  | 0 => [116, 110]
  | 1 => [110]
  | 2 => [112, 98]
  | 3 => [112, 111, 110]
  | 4 => [112, 111]
  | 5 => [112]
  | 6 => [103, 109, 110, 114, 108]
  | 7 => [103, 109, 101]
  | 8 => [103, 109, 101]
  | 9 => [103, 109, 101]
  | 10 => [103, 109, 101, 112, 111]
  | 11 => [103, 112]
  | 12 => [110]
  | _ => []
/-- A letter's bytes. -/
def oneB (c : Cmd) (x : UInt8) : List UInt8 :=
  if x = 116 then vtxt c.topic
  else if x = 112 then vtxt c.topic ++ vput c.pn.toNat
  else if x = 110 then vput c.n.toNat
  else if x = 111 then vput c.off.toNat
  else if x = 98 then (rbatch c.bp c.be c.bq c.recs).1
  else if x = 103 then vtxt c.group
  else if x = 109 then vtxt c.member
  else if x = 101 then vput c.gen.toNat
  else if x = 114 then [if c.robin then 1 else 0]
  else vput c.tops.length ++ c.tops.flatMap vtxt
/-- A letter's things, taken from another command. -/
def cset (y c : Cmd) (x : UInt8) : Cmd :=
  if x = 116 then { c with topic := y.topic }
  else if x = 112 then { c with topic := y.topic, pn := y.pn }
  else if x = 110 then { c with n := y.n }
  else if x = 111 then { c with off := y.off }
  else if x = 98 then { c with bp := y.bp, be := y.be, bq := y.bq, recs := y.recs }
  else if x = 103 then { c with group := y.group }
  else if x = 109 then { c with member := y.member }
  else if x = 101 then { c with gen := y.gen }
  else if x = 114 then { c with robin := y.robin }
  else { c with tops := y.tops }
theorem hasL_text (c : Cmd) (k : Nat) (hk : k ≤ 12) : (hasL k).flatMap (oneB c) = (hasF k).flatMap (ftxt c) := by
  have : k = 0 ∨ k = 1 ∨ k = 2 ∨ k = 3 ∨ k = 4 ∨ k = 5 ∨ k = 6 ∨ k = 7 ∨ k = 8 ∨ k = 9 ∨ k = 10 ∨ k = 11 ∨ k = 12 := by omega
  rcases this with rfl | rfl | rfl | rfl | rfl | rfl | rfl | rfl | rfl | rfl | rfl | rfl | rfl
  all_goals simp [hasL, hasF, oneB, ftxt]
theorem cmdText_L (c : Cmd) (hk : c.kind.toNat ≤ 12) : cmdText c = vput c.kind.toNat ++ (hasL c.kind.toNat).flatMap (oneB c) := by
  unfold cmdText; rw [hasL_text c _ hk]
theorem cset_all (y : Cmd) (k : Nat) (hk : k ≤ 12) (h : y.kind = (k : Int)) (hr : crest y = zcmd) : (hasL k).foldl (cset y) { zcmd with kind := (k : Int) } = y := by
  have : k = 0 ∨ k = 1 ∨ k = 2 ∨ k = 3 ∨ k = 4 ∨ k = 5 ∨ k = 6 ∨ k = 7 ∨ k = 8 ∨ k = 9 ∨ k = 10 ∨ k = 11 ∨ k = 12 := by omega
  obtain ⟨yk, ytopic, ypn, yn, yoff, ybp, ybe, ybq, yrecs, ygroup, ymember, ygen, yrobin, ytops⟩ := y
  dsimp only at h
  subst h
  rcases this with rfl | rfl | rfl | rfl | rfl | rfl | rfl | rfl | rfl | rfl | rfl | rfl | rfl
  all_goals
    simp [hasF, fclr, crest, zcmd] at hr
    simp [hasL, cset, zcmd, hr]
end Go.Proofs.YthiliodmbipikaaGreat

set_option linter.unusedVariables false
set_option linter.unusedSimpArgs false
namespace Go.Proofs.YthiliodmbipikaaGreat
open Go.RowKit

/-- A partition: its topic, its number. -/
abbrev Prt := List UInt8 × Int
def Prt.cells (p : Prt) : List Value := [.string (S p.1), .int .i64 p.2]
/-- Where a partition lies. -/
def PartAt (w : World) (b o : Nat) (p : Prt) : Prop := w.cell? ⟨b, o, none⟩ = some (.string (S p.1)) ∧ w.cell? ⟨b, o + 1, none⟩ = some (.int .i64 p.2)
/-- A slice of partitions, as it lies in memory. -/
def PartsIn (w : World) (v : Value) (l : List Prt) : Prop :=
  (l = [] ∧ ∃ a cap, v = .slice a 0 cap) ∨ ∃ b off cap, v = .slice (some ⟨b, off, none⟩) l.length cap ∧ l ≠ [] ∧ b < w.heap.size ∧ ∀ i, (h : i < l.length) → PartAt w b (off + i * 2) l[i]
theorem PartAt.keep {w W : World} {b o : Nat} {f : Prt} (h : PartAt w b o f) (hk : ∀ i, W.cell? ⟨b, i, none⟩ = w.cell? ⟨b, i, none⟩) : PartAt W b o f :=
  ⟨(hk _).trans h.1, (hk _).trans h.2⟩
theorem PartsIn.form {w : World} {v : Value} {l : List Prt} (h : PartsIn w v l) : ∃ a cap, v = .slice a l.length cap := by
  rcases h with ⟨rfl, a, c, rfl⟩ | ⟨b, off, cap, rfl, _⟩
  · exact ⟨a, c, rfl⟩
  · exact ⟨_, _, rfl⟩
theorem PartsIn.keptR {bs : List Nat} {w W : World} {v : Value} {l : List Prt} (h : PartsIn w v l) (k : KeptR bs w W) (ha : ∀ b, v.ownBlock = some b → b ∉ bs) : PartsIn W v l := by
  rcases h with h | ⟨b, off, cap, rfl, hne, hlt, hc⟩
  · exact .inl h
  · exact .inr ⟨b, off, cap, rfl, hne, Nat.lt_of_lt_of_le hlt k.size, fun i hi => (hc i hi).keep fun j => World.cell?_of_block (k.block b hlt (ha b rfl))⟩
theorem PartsIn.below {w W : World} {v : Value} {l : List Prt} (h : PartsIn w v l) (hb : Below w.heap.size w W) : PartsIn W v l := h.keptR (bs := []) ((KeptR.refl _ w).bel hb) (by simp)
theorem FndsIn.keptR {bs : List Nat} {w W : World} {v : Value} {l : List Fnd} (h : FndsIn w v l) (k : KeptR bs w W) (ha : ∀ b, v.ownBlock = some b → b ∉ bs) : FndsIn W v l := by
  rcases h with h | ⟨b, off, cap, rfl, hle, hne, hlt, hc⟩
  · exact .inl h
  · exact .inr ⟨b, off, cap, rfl, hle, hne, Nat.lt_of_lt_of_le hlt k.size, fun i hi => (hc i hi).keep fun j => World.cell?_of_block (k.block b hlt (ha b rfl))⟩
/-- A reply. -/
structure Rep where
  e : Int
  off : Int
  n : Int
  gen : Int
  found : List Fnd
  parts : List Prt
deriving DecidableEq
def zrep : Rep := ⟨0, 0, 0, 0, [], []⟩
def Rep.arr (r : Rep) (fv pv : Value) : Array Value := #[.int .i64 r.e, .int .i64 r.off, .int .i64 r.n, .int .i64 r.gen, fv, pv]
def fNum (f : Fnd) : Bool := numB f.off
def pNum (p : Prt) : Bool := numB p.2
def fOdd (f : Fnd) : Bool := !decide (f.r.ok = 0)
def pOdd (p : Prt) : Bool := !isName p.1
/-- A reply's numbers. -/
def Rep.nums (r : Rep) : Bool := numB r.e && numB r.off && numB r.n && numB r.gen && r.found.all fNum && r.parts.all pNum
/-- Is a reply odd in form? -/
def Rep.odd (r : Rep) : Bool := r.found.any fOdd || r.parts.any pOdd
/-- May a reply be? -/
def repCheck (r : Rep) : Nat := if r.nums = false then 1 else if 64 < r.found.length ∨ 64 < r.parts.length then 2 else if r.odd then 40 else 0
def fndText (f : Fnd) : List UInt8 := vput f.off.toNat ++ f.r.text
def prtText (p : Prt) : List UInt8 := vtxt p.1 ++ vput p.2.toNat
def repText (r : Rep) : List UInt8 :=
  vput r.e.toNat ++ (vput r.off.toNat ++ (vput r.n.toNat ++ (vput r.gen.toNat ++ (vput r.found.length ++ (r.found.flatMap fndText ++ (vput r.parts.length ++ r.parts.flatMap prtText))))))
def repPut (r : Rep) : List UInt8 × Nat := if repCheck r = 0 then (repText r, 0) else ([], repCheck r)
/-- A reply's slices, as they lie in memory. -/
structure RepIn (w : World) (r : Rep) (fv pv : Value) : Prop where
  found : FndsIn w fv r.found
  parts : PartsIn w pv r.parts
/-- A reply is no longer than it may be. -/
structure RepBd (r : Rep) : Prop where
  found : r.found.length ≤ 1000000 ∧ ∀ f ∈ r.found, RecBd f.r
  parts : r.parts.length ≤ 1000000 ∧ ∀ p ∈ r.parts, p.1.length ≤ maxLen
theorem RepIn.keptR {bs : List Nat} {w W : World} {r : Rep} {fv pv : Value} (h : RepIn w r fv pv) (k : KeptR bs w W) (h1 : ∀ b, fv.ownBlock = some b → b ∉ bs) (h2 : ∀ b, pv.ownBlock = some b → b ∉ bs) : RepIn W r fv pv :=
  ⟨h.found.keptR k h1, h.parts.keptR k h2⟩
theorem RepIn.below {w W : World} {r : Rep} {fv pv : Value} (h : RepIn w r fv pv) (hb : Below w.heap.size w W) : RepIn W r fv pv := h.keptR (bs := []) ((KeptR.refl _ w).bel hb) (by simp) (by simp)
/-- What passes. -/
structure RepOk (r : Rep) : Prop where
  e : numB r.e = true
  off : numB r.off = true
  n : numB r.n = true
  gen : numB r.gen = true
  found : r.found.length ≤ 64 ∧ ∀ f ∈ r.found, numB f.off = true ∧ f.r.ok = 0
  parts : r.parts.length ≤ 64 ∧ ∀ p ∈ r.parts, numB p.2 = true ∧ isName p.1 = true
theorem repCheck_ok {r : Rep} (h : repCheck r = 0) : RepOk r := by
  unfold repCheck at h
  by_cases h1 : r.nums = false
  · rw [if_pos h1] at h; simp at h
  · rw [if_neg h1] at h
    by_cases h2 : 64 < r.found.length ∨ 64 < r.parts.length
    · rw [if_pos h2] at h; simp at h
    · rw [if_neg h2] at h
      by_cases h3 : r.odd = true
      · rw [if_pos h3] at h; simp at h
      · simp only [Rep.nums, fNum, pNum, Bool.not_eq_false, Bool.and_eq_true, List.all_eq_true] at h1
        simp only [Rep.odd, fOdd, pOdd, Bool.or_eq_true, List.any_eq_true, not_or, not_exists, not_and, Bool.not_eq_true', decide_eq_false_iff_not, Decidable.not_not] at h3
        obtain ⟨⟨⟨⟨⟨h4, h5⟩, h6⟩, h7⟩, h8⟩, h9⟩ := h1
        exact ⟨h4, h5, h6, h7, ⟨by omega, fun f hf => ⟨h8 f hf, h3.1 f hf⟩⟩, ⟨by omega, fun p hp => ⟨h9 p hp, by simpa using h3.2 p hp⟩⟩⟩
end Go.Proofs.YthiliodmbipikaaGreat
