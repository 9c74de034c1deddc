/-
  No cell of these rows narrows 'for every input' (looked for: loops, veiled, ifaces, maps, wideKeys, modest, calm, conditions, laid).
  DERIVED. THE GIVEN ROWS OF THIS SEAT. 6 by the template 'for every input the law returns true; each argument reads behind the call as it read before'; 0 by the template 'total and deterministic' (their statements: YtikcpfoehapndaaTotals.lean).
  GIVEN WITH THE SEED: the statements are not yours to turn. If you find one false, say at which input.
  Laid BY PROGRAM, IN A SANDBOX (cutbox-rows.mjs): the forced cells as the released guide's own fill.sh prints them over the translation f0502412afd6cbce… (all of the seat's roots in one cut). By AI agents, Wed Nov 11 2026. No macro, syntax, notation, axiom, sorry.
-/
import Derived.Test.YtikcpfoehapndaaChecked
import GoSem.Claim
import GoSem.ClaimJoined
import GoSem.ClaimMapViews
import Derived.JoinedTies
import Derived.KernelRfl
namespace Go.Proofs.Ytikcpfoehapndaa
/- THE CELL 'sum', in the pinned program and in every row, IS THE sha256 OF THE DUMP (.gsa) THAT YtikcpfoehapndaaProg.lean LOADS. Nothing in Lean hashes anything: it is a label: what it is worth is what the hold of that sum in a sandbox is worth. -/
noncomputable def Try.pinned : Pinned := { name := "ytikcpfoehapndaa", sum := "f0502412afd6cbce0cab28ff54b86c7cd36a20b5d47eeb73a13594512110f29f", checked := Try.checked }
namespace Rows
def none {H : Type} : Left H := { results := [], args := [] }

/-- 'stagecoachlaw03.RecordPuts': WHATEVER THE INPUT: true; the input reads as it did. -/
def recordPutsSpec : ChangeSpec := { name := "recordPuts", fn := fun _ => fun
  | [d1, d2] => { results := [.lit (.bool true)], args := [d1, d2] }
  | _ => none }
def recordPutsRow : OpenClaim := { program := "ytikcpfoehapndaa", sum := "f0502412afd6cbce0cab28ff54b86c7cd36a20b5d47eeb73a13594512110f29f", func := "stagecoach/stagecoachlaw03.RecordPuts", spec := "recordPuts", inPlace := ["internal/abi.NoEscape"], unfollowed := true, recurses := true, apart := false }
def RecordPutsSaid : Prop := recordPutsRow.holds Try.pinned (OpenSpec.ofChange recordPutsSpec)

/-- ITS FALSE NEIGHBOUR: 'it returns false'. Refute it at one input. -/
def recordPutsWrong : ChangeSpec := { name := "recordPuts", fn := fun _ => fun
  | [d1, d2] => { results := [.lit (.bool false)], args := [d1, d2] }
  | _ => none }
def RecordPutsWrongFalsely : Prop := recordPutsRow.holds Try.pinned (OpenSpec.ofChange recordPutsWrong)

/-- 'stagecoachlaw03.RecordGets': WHATEVER THE INPUT: true; the input reads as it did. -/
def recordGetsSpec : ChangeSpec := { name := "recordGets", fn := fun _ => fun
  | [d1, d2] => { results := [.lit (.bool true)], args := [d1, d2] }
  | _ => none }
def recordGetsRow : OpenClaim := { program := "ytikcpfoehapndaa", sum := "f0502412afd6cbce0cab28ff54b86c7cd36a20b5d47eeb73a13594512110f29f", func := "stagecoach/stagecoachlaw03.RecordGets", spec := "recordGets", inPlace := ["internal/abi.NoEscape"], unfollowed := true, recurses := true, apart := false }
def RecordGetsSaid : Prop := recordGetsRow.holds Try.pinned (OpenSpec.ofChange recordGetsSpec)

/-- ITS FALSE NEIGHBOUR: 'it returns false'. Refute it at one input. -/
def recordGetsWrong : ChangeSpec := { name := "recordGets", fn := fun _ => fun
  | [d1, d2] => { results := [.lit (.bool false)], args := [d1, d2] }
  | _ => none }
def RecordGetsWrongFalsely : Prop := recordGetsRow.holds Try.pinned (OpenSpec.ofChange recordGetsWrong)

/-- 'stagecoachlaw03.RecordBack': WHATEVER THE INPUT: true; the input reads as it did. -/
def recordBackSpec : ChangeSpec := { name := "recordBack", fn := fun _ => fun
  | [d1, d2, d3] => { results := [.lit (.bool true)], args := [d1, d2, d3] }
  | _ => none }
def recordBackRow : OpenClaim := { program := "ytikcpfoehapndaa", sum := "f0502412afd6cbce0cab28ff54b86c7cd36a20b5d47eeb73a13594512110f29f", func := "stagecoach/stagecoachlaw03.RecordBack", spec := "recordBack", inPlace := ["internal/abi.NoEscape"], unfollowed := true, recurses := true, apart := false }
def RecordBackSaid : Prop := recordBackRow.holds Try.pinned (OpenSpec.ofChange recordBackSpec)

/-- ITS FALSE NEIGHBOUR: 'it returns false'. Refute it at one input. -/
def recordBackWrong : ChangeSpec := { name := "recordBack", fn := fun _ => fun
  | [d1, d2, d3] => { results := [.lit (.bool false)], args := [d1, d2, d3] }
  | _ => none }
def RecordBackWrongFalsely : Prop := recordBackRow.holds Try.pinned (OpenSpec.ofChange recordBackWrong)

/-- 'stagecoachlaw03.RecordSizes': WHATEVER THE INPUT: true; the input reads as it did. -/
def recordSizesSpec : ChangeSpec := { name := "recordSizes", fn := fun _ => fun
  | [d1, d2] => { results := [.lit (.bool true)], args := [d1, d2] }
  | _ => none }
def recordSizesRow : OpenClaim := { program := "ytikcpfoehapndaa", sum := "f0502412afd6cbce0cab28ff54b86c7cd36a20b5d47eeb73a13594512110f29f", func := "stagecoach/stagecoachlaw03.RecordSizes", spec := "recordSizes", inPlace := ["internal/abi.NoEscape"], unfollowed := true, recurses := true, apart := false }
def RecordSizesSaid : Prop := recordSizesRow.holds Try.pinned (OpenSpec.ofChange recordSizesSpec)

/-- ITS FALSE NEIGHBOUR: 'it returns false'. Refute it at one input. -/
def recordSizesWrong : ChangeSpec := { name := "recordSizes", fn := fun _ => fun
  | [d1, d2] => { results := [.lit (.bool false)], args := [d1, d2] }
  | _ => none }
def RecordSizesWrongFalsely : Prop := recordSizesRow.holds Try.pinned (OpenSpec.ofChange recordSizesWrong)

/-- 'stagecoachlaw03.RecordOne': WHATEVER THE INPUT: true; the input reads as it did. -/
def recordOneSpec : ChangeSpec := { name := "recordOne", fn := fun _ => fun
  | [d1, d2] => { results := [.lit (.bool true)], args := [d1, d2] }
  | _ => none }
def recordOneRow : OpenClaim := { program := "ytikcpfoehapndaa", sum := "f0502412afd6cbce0cab28ff54b86c7cd36a20b5d47eeb73a13594512110f29f", func := "stagecoach/stagecoachlaw03.RecordOne", spec := "recordOne", inPlace := ["internal/abi.NoEscape"], unfollowed := true, recurses := true, apart := false }
def RecordOneSaid : Prop := recordOneRow.holds Try.pinned (OpenSpec.ofChange recordOneSpec)

/-- ITS FALSE NEIGHBOUR: 'it returns false'. Refute it at one input. -/
def recordOneWrong : ChangeSpec := { name := "recordOne", fn := fun _ => fun
  | [d1, d2] => { results := [.lit (.bool false)], args := [d1, d2] }
  | _ => none }
def RecordOneWrongFalsely : Prop := recordOneRow.holds Try.pinned (OpenSpec.ofChange recordOneWrong)

/-- 'stagecoachlaw03.RecordKinds': WHATEVER THE INPUT: true; the input reads as it did. -/
def recordKindsSpec : ChangeSpec := { name := "recordKinds", fn := fun _ => fun
  | [d1, d2] => { results := [.lit (.bool true)], args := [d1, d2] }
  | _ => none }
def recordKindsRow : OpenClaim := { program := "ytikcpfoehapndaa", sum := "f0502412afd6cbce0cab28ff54b86c7cd36a20b5d47eeb73a13594512110f29f", func := "stagecoach/stagecoachlaw03.RecordKinds", spec := "recordKinds", inPlace := ["internal/abi.NoEscape"], unfollowed := true, recurses := true, apart := false }
def RecordKindsSaid : Prop := recordKindsRow.holds Try.pinned (OpenSpec.ofChange recordKindsSpec)

/-- ITS FALSE NEIGHBOUR: 'it returns false'. Refute it at one input. -/
def recordKindsWrong : ChangeSpec := { name := "recordKinds", fn := fun _ => fun
  | [d1, d2] => { results := [.lit (.bool false)], args := [d1, d2] }
  | _ => none }
def RecordKindsWrongFalsely : Prop := recordKindsRow.holds Try.pinned (OpenSpec.ofChange recordKindsWrong)

/- THE SECOND FORM. 'bulk': how many values and letters a reading holds, each counted each time it is reached (what is shared counts as often as it is met; a slice's spare places count too). A statement '..UptoSaid' is the law's where the arguments, and the package variables that the reading takes, are together of bulk at most 1048576: NARROWER than '..Said'. Prove '..Said' where nothing that the law and all that it calls make is longer than what came in: it says more and counts as full. Else prove '..UptoSaid'. A law counts once. -/
mutual
def uptoBulk {H : Type} : DataW H → Nat
  | .lit (.string bytes) => bytes.length + 1
  | .lit _ => 1
  | .nil => 1
  | .ptr d => uptoBulk d + 1
  | .slice elems spare => uptoBulkAll elems + uptoBulkAll spare + 1
  | .agg parts => uptoBulkAll parts + 1
  | .iface _ d => uptoBulk d + 1
  | .map entries => uptoBulkEntries entries + 1
  | .held _ => 1
def uptoBulkAll {H : Type} : List (DataW H) → Nat
  | [] => 0
  | d :: r => uptoBulk d + uptoBulkAll r
def uptoBulkEntries {H : Type} : List (Lit × DataW H) → Nat
  | [] => 0
  | x :: r => uptoBulkEntry x + uptoBulkEntries r
def uptoBulkEntry {H : Type} : Lit × DataW H → Nat
  | (.string bytes, d) => bytes.length + uptoBulk d + 1
  | (_, d) => uptoBulk d + 1
 end
def uptoSmall : (H : Type) → List (DataW H) → Bool := fun _ ds => decide (uptoBulkAll ds ≤ 1048576)
def OpenSpec.upto (s : _root_.Go.ChangeSpec) : _root_.Go.OpenSpec := { _root_.Go.OpenSpec.ofChange s with cond := some uptoSmall }

/-- 'stagecoachlaw03.RecordPuts', WHERE WHAT IT READS IS OF BULK AT MOST 1048576: true; the input reads as it did. -/
def recordPutsUptoRow : OpenClaim := { program := "ytikcpfoehapndaa", sum := "f0502412afd6cbce0cab28ff54b86c7cd36a20b5d47eeb73a13594512110f29f", func := "stagecoach/stagecoachlaw03.RecordPuts", spec := "recordPuts", inPlace := ["internal/abi.NoEscape"], unfollowed := true, recurses := true, apart := false, narrowed := true }
def RecordPutsUptoSaid : Prop := recordPutsUptoRow.holds Try.pinned (OpenSpec.upto recordPutsSpec)

/-- 'stagecoachlaw03.RecordGets', WHERE WHAT IT READS IS OF BULK AT MOST 1048576: true; the input reads as it did. -/
def recordGetsUptoRow : OpenClaim := { program := "ytikcpfoehapndaa", sum := "f0502412afd6cbce0cab28ff54b86c7cd36a20b5d47eeb73a13594512110f29f", func := "stagecoach/stagecoachlaw03.RecordGets", spec := "recordGets", inPlace := ["internal/abi.NoEscape"], unfollowed := true, recurses := true, apart := false, narrowed := true }
def RecordGetsUptoSaid : Prop := recordGetsUptoRow.holds Try.pinned (OpenSpec.upto recordGetsSpec)

/-- 'stagecoachlaw03.RecordBack', WHERE WHAT IT READS IS OF BULK AT MOST 1048576: true; the input reads as it did. -/
def recordBackUptoRow : OpenClaim := { program := "ytikcpfoehapndaa", sum := "f0502412afd6cbce0cab28ff54b86c7cd36a20b5d47eeb73a13594512110f29f", func := "stagecoach/stagecoachlaw03.RecordBack", spec := "recordBack", inPlace := ["internal/abi.NoEscape"], unfollowed := true, recurses := true, apart := false, narrowed := true }
def RecordBackUptoSaid : Prop := recordBackUptoRow.holds Try.pinned (OpenSpec.upto recordBackSpec)

/-- 'stagecoachlaw03.RecordSizes', WHERE WHAT IT READS IS OF BULK AT MOST 1048576: true; the input reads as it did. -/
def recordSizesUptoRow : OpenClaim := { program := "ytikcpfoehapndaa", sum := "f0502412afd6cbce0cab28ff54b86c7cd36a20b5d47eeb73a13594512110f29f", func := "stagecoach/stagecoachlaw03.RecordSizes", spec := "recordSizes", inPlace := ["internal/abi.NoEscape"], unfollowed := true, recurses := true, apart := false, narrowed := true }
def RecordSizesUptoSaid : Prop := recordSizesUptoRow.holds Try.pinned (OpenSpec.upto recordSizesSpec)

/-- 'stagecoachlaw03.RecordOne', WHERE WHAT IT READS IS OF BULK AT MOST 1048576: true; the input reads as it did. -/
def recordOneUptoRow : OpenClaim := { program := "ytikcpfoehapndaa", sum := "f0502412afd6cbce0cab28ff54b86c7cd36a20b5d47eeb73a13594512110f29f", func := "stagecoach/stagecoachlaw03.RecordOne", spec := "recordOne", inPlace := ["internal/abi.NoEscape"], unfollowed := true, recurses := true, apart := false, narrowed := true }
def RecordOneUptoSaid : Prop := recordOneUptoRow.holds Try.pinned (OpenSpec.upto recordOneSpec)

/-- 'stagecoachlaw03.RecordKinds', WHERE WHAT IT READS IS OF BULK AT MOST 1048576: true; the input reads as it did. -/
def recordKindsUptoRow : OpenClaim := { program := "ytikcpfoehapndaa", sum := "f0502412afd6cbce0cab28ff54b86c7cd36a20b5d47eeb73a13594512110f29f", func := "stagecoach/stagecoachlaw03.RecordKinds", spec := "recordKinds", inPlace := ["internal/abi.NoEscape"], unfollowed := true, recurses := true, apart := false, narrowed := true }
def RecordKindsUptoSaid : Prop := recordKindsUptoRow.holds Try.pinned (OpenSpec.upto recordKindsSpec)

end Rows
end Go.Proofs.Ytikcpfoehapndaa
