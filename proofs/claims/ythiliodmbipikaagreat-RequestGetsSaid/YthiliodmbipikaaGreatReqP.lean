/-
  Layer 4, plain: commands and their bytes, as lists of bytes. No program in sight.
-/
import Derived.Test.YthiliodmbipikaaGreatRecP1
set_option linter.unusedVariables false
set_option linter.unusedSimpArgs false
namespace Go.Proofs.YthiliodmbipikaaGreat
open Go.RowKit

/-- May a byte not stand in a name? -/
def oddR (x : Nat) : Bool := (decide (x < 97) || decide (122 < x)) && (decide (x < 48) || decide (57 < x)) && decide (x ≠ 45)
/-- May a text be a name? -/
def isName (l : List UInt8) : Bool := !l.isEmpty && decide (l.length ≤ 16) && !l.any fun c => oddR c.toNat
/-- Does a text stand ahead of another one? -/
def ltB : List UInt8 → List UInt8 → Bool
  | [], [] => false
  | [], _ :: _ => true
  | _ :: _, [] => false
  | a :: l, b :: m => if a = b then ltB l m else decide (a.toNat < b.toNat)
/-- Do texts rise? -/
def risingB : List (List UInt8) → Bool
  | a :: b :: l => ltB a b && risingB (b :: l)
  | _ => true
/-- May topics be? -/
def namesOk (l : List (List UInt8)) : Bool := !l.isEmpty && decide (l.length ≤ 8) && l.all isName && risingB l

/-- A command. -/
structure Cmd where
  kind : Int
  topic : List UInt8
  pn : Int
  n : Int
  off : Int
  bp : Int
  be : Int
  bq : Int
  recs : List Rec
  group : List UInt8
  member : List UInt8
  gen : Int
  robin : Bool
  tops : List (List UInt8)
deriving DecidableEq
def zcmd : Cmd := ⟨0, [], 0, 0, 0, 0, 0, 0, [], [], [], 0, false, []⟩
/-- What a command has. -/
inductive Fld | t | p | n | o | b | g | m | r | l | e
deriving DecidableEq
/-- What a kind has. -/
def hasF : Nat → List Fld
  | 0 => [.t, .n]
  | 1 => [.n]
  | 2 => [.t, .p, .b]
  | 3 => [.t, .p, .o, .n]
  | 4 => [.t, .p, .o]
  | 5 => [.t, .p]
  | 6 => [.g, .m, .n, .r, .l]
  | 7 => [.g, .m, .e]
  | 8 => [.g, .m, .e]
  | 9 => [.g, .m, .e]
  | 10 => [.g, .m, .e, .t, .p, .o]
  | 11 => [.g, .t, .p]
  | 12 => [.n]
  | _ => []
/-- Is a thing odd in form? -/
def fform (c : Cmd) : Fld → Bool
  | .t => !isName c.topic
  | .g => !isName c.group
  | .m => !isName c.member
  | .l => !namesOk c.tops
  | _ => false
/-- Is a number none? -/
def fnum (c : Cmd) : Fld → Bool
  | .p => !numB c.pn
  | .n => !numB c.n
  | .o => !numB c.off
  | .e => !numB c.gen
  | _ => false
/-- A thing taken over. -/
def fclr (c : Cmd) : Fld → Cmd
  | .t => { c with topic := [] }
  | .p => { c with pn := 0 }
  | .n => { c with n := 0 }
  | .o => { c with off := 0 }
  | .b => { c with bp := 0, be := 0, bq := 0, recs := [] }
  | .g => { c with group := [] }
  | .m => { c with member := [] }
  | .r => { c with robin := false }
  | .l => { c with tops := [] }
  | .e => { c with gen := 0 }
/-- What a kind has not. -/
def crest (c : Cmd) : Cmd := { (hasF c.kind.toNat).foldl fclr c with kind := 0 }
/-- May a command be? -/
def ccheck (c : Cmd) : Nat :=
  if c.kind < 0 ∨ 12 < c.kind then 41
  else if (hasF c.kind.toNat).any (fform c) || !decide (crest c = zcmd) then 40
  else if (hasF c.kind.toNat).any (fnum c) then 1
  else if c.kind = 2 then rall c.bp c.be c.bq c.recs else 0
/-- A thing's bytes. -/
def ftxt (c : Cmd) : Fld → List UInt8
  | .t => vtxt c.topic
  | .p => vput c.pn.toNat
  | .n => vput c.n.toNat
  | .o => vput c.off.toNat
  | .b => (rbatch c.bp c.be c.bq c.recs).1
  | .g => vtxt c.group
  | .m => vtxt c.member
  | .r => [if c.robin then 1 else 0]
  | .l => vput c.tops.length ++ c.tops.flatMap vtxt
  | .e => vput c.gen.toNat
/-- A command's bytes. -/
def cmdText (c : Cmd) : List UInt8 := vput c.kind.toNat ++ (hasF c.kind.toNat).flatMap (ftxt c)
def cmdPut (c : Cmd) : List UInt8 × Nat := if ccheck c = 0 then (cmdText c, 0) else ([], ccheck c)
end Go.Proofs.YthiliodmbipikaaGreat
