/-
  Layer 3, plain: what a batch's bytes are read as.
-/
import Derived.Test.YtkgpckfaghpgmaaRecN
set_option linter.unusedVariables false
set_option linter.unusedSimpArgs false
namespace Go.Proofs.Ytkgpckfaghpgmaa
open Go.RowKit

/-- The state behind k numbers: where, what is wrong, is one too great, the numbers. -/
def nst (s : List UInt8) (at_ : Int) : Nat → Int × Int × Bool × List Nat
  | 0 => (at_, 0, false, [0, 0, 0, 0])
  | k + 1 =>
    let p := nst s at_ k
    let m := mnum s p.1 p.2.1
    (m.2.1, m.2.2, p.2.2.1 || (decide (k < 3) && decide (1099511627776 < m.1)), p.2.2.2.set k (min m.1 1099511627776))
theorem nst_len (s : List UInt8) (at_ : Int) : ∀ k, (nst s at_ k).2.2.2.length = 4
  | 0 => rfl
  | k + 1 => by simp [nst, nst_len s at_ k]
/-- What is wrong with the numbers of a batch. -/
def nerr (p : Int × Int × Bool × List Nat) : Int :=
  if p.2.1 ≠ 0 then p.2.1 else if p.2.2.1 then 1 else if p.2.2.2.getD 3 0 = 0 then 30 else if 16 < p.2.2.2.getD 3 0 then 2 else 0
/-- Records one behind the other, until something is wrong. -/
def mrecs (s : List UInt8) : Nat → Int → List Rec × Int × Int
  | 0, a => ([], a, 0)
  | n + 1, a =>
    let m := mrec s a 0
    if m.2.2 = 0 then let q := mrecs s n m.2.1; (m.1 :: q.1, q.2.1, q.2.2) else ([m.1], m.2.1, m.2.2)
/-- The batch at a place. -/
def mparse (s : List UInt8) (at_ : Int) : (Int × Int × Int × List Rec) × Int × Int :=
  let p := nst s at_ 4
  if nerr p ≠ 0 then ((0, 0, 0, []), 0, nerr p) else
  let q := mrecs s (p.2.2.2.getD 3 0) p.1
  if q.2.2 ≠ 0 then ((0, 0, 0, []), 0, q.2.2) else ((p.2.2.2.getD 0 0, p.2.2.2.getD 1 0, p.2.2.2.getD 2 0, q.1), q.2.1, 0)
end Go.Proofs.Ytkgpckfaghpgmaa
