/-
  No cell of these rows narrows 'for every input' (looked for: loops, veiled, ifaces, maps, wideKeys, modest, calm, conditions, laid).
  DERIVED. THE GIVEN ROWS OF THIS SEAT. 7 by the template 'for every input the law returns true; each argument reads behind the call as it read before'; 0 by the template 'total and deterministic' (their statements: YtohplhahghilaaaTotals.lean).
  GIVEN WITH THE SEED: the statements are not yours to turn. If you find one false, say at which input.
  Laid BY PROGRAM, IN A SANDBOX (cutbox-rows.mjs): the forced cells as the released guide's own fill.sh prints them over the translation e3b0dbee4895a513… (all of the seat's roots in one cut). By AI agents, Wed Nov 11 2026. No macro, syntax, notation, axiom, sorry.
-/
import Derived.Test.YtohplhahghilaaaChecked
import GoSem.Claim
import GoSem.ClaimJoined
import GoSem.ClaimMapViews
import Derived.JoinedTies
import Derived.KernelRfl
namespace Go.Proofs.Ytohplhahghilaaa
/- THE CELL 'sum', in the pinned program and in every row, IS THE sha256 OF THE DUMP (.gsa) THAT YtohplhahghilaaaProg.lean LOADS. Nothing in Lean hashes anything: it is a label: what it is worth is what the hold of that sum in a sandbox is worth. -/
noncomputable def Try.pinned : Pinned := { name := "ytohplhahghilaaa", sum := "e3b0dbee4895a513911e3b52cd50b86b8130641686a71032ceb0ed8dd560c4de", checked := Try.checked }
namespace Rows
def none {H : Type} : Left H := { results := [], args := [] }

/-- 'stagecoachlaw07.ChunksTexts': WHATEVER THE INPUT: true; the input reads as it did. -/
def chunksTextsSpec : ChangeSpec := { name := "chunksTexts", fn := fun _ => fun
  | [d1, d2] => { results := [.lit (.bool true)], args := [d1, d2] }
  | _ => none }
def chunksTextsRow : OpenClaim := { program := "ytohplhahghilaaa", sum := "e3b0dbee4895a513911e3b52cd50b86b8130641686a71032ceb0ed8dd560c4de", func := "stagecoach/stagecoachlaw07.ChunksTexts", spec := "chunksTexts", inPlace := ["internal/abi.NoEscape"], unfollowed := true, recurses := true, apart := false }
def ChunksTextsSaid : Prop := chunksTextsRow.holds Try.pinned (OpenSpec.ofChange chunksTextsSpec)

/-- ITS FALSE NEIGHBOUR: 'it returns false'. Refute it at one input. -/
def chunksTextsWrong : ChangeSpec := { name := "chunksTexts", fn := fun _ => fun
  | [d1, d2] => { results := [.lit (.bool false)], args := [d1, d2] }
  | _ => none }
def ChunksTextsWrongFalsely : Prop := chunksTextsRow.holds Try.pinned (OpenSpec.ofChange chunksTextsWrong)

/-- 'stagecoachlaw07.ChunksSplits': WHATEVER THE INPUT: true; the input reads as it did. -/
def chunksSplitsSpec : ChangeSpec := { name := "chunksSplits", fn := fun _ => fun
  | [d1, d2, d3] => { results := [.lit (.bool true)], args := [d1, d2, d3] }
  | _ => none }
def chunksSplitsRow : OpenClaim := { program := "ytohplhahghilaaa", sum := "e3b0dbee4895a513911e3b52cd50b86b8130641686a71032ceb0ed8dd560c4de", func := "stagecoach/stagecoachlaw07.ChunksSplits", spec := "chunksSplits", inPlace := ["internal/abi.NoEscape"], unfollowed := true, recurses := true, apart := false }
def ChunksSplitsSaid : Prop := chunksSplitsRow.holds Try.pinned (OpenSpec.ofChange chunksSplitsSpec)

/-- ITS FALSE NEIGHBOUR: 'it returns false'. Refute it at one input. -/
def chunksSplitsWrong : ChangeSpec := { name := "chunksSplits", fn := fun _ => fun
  | [d1, d2, d3] => { results := [.lit (.bool false)], args := [d1, d2, d3] }
  | _ => none }
def ChunksSplitsWrongFalsely : Prop := chunksSplitsRow.holds Try.pinned (OpenSpec.ofChange chunksSplitsWrong)

/-- 'stagecoachlaw07.ChunksBack': WHATEVER THE INPUT: true; the input reads as it did. -/
def chunksBackSpec : ChangeSpec := { name := "chunksBack", fn := fun _ => fun
  | [d1, d2, d3] => { results := [.lit (.bool true)], args := [d1, d2, d3] }
  | _ => none }
def chunksBackRow : OpenClaim := { program := "ytohplhahghilaaa", sum := "e3b0dbee4895a513911e3b52cd50b86b8130641686a71032ceb0ed8dd560c4de", func := "stagecoach/stagecoachlaw07.ChunksBack", spec := "chunksBack", inPlace := ["internal/abi.NoEscape"], unfollowed := true, recurses := true, apart := false }
def ChunksBackSaid : Prop := chunksBackRow.holds Try.pinned (OpenSpec.ofChange chunksBackSpec)

/-- ITS FALSE NEIGHBOUR: 'it returns false'. Refute it at one input. -/
def chunksBackWrong : ChangeSpec := { name := "chunksBack", fn := fun _ => fun
  | [d1, d2, d3] => { results := [.lit (.bool false)], args := [d1, d2, d3] }
  | _ => none }
def ChunksBackWrongFalsely : Prop := chunksBackRow.holds Try.pinned (OpenSpec.ofChange chunksBackWrong)

/-- 'stagecoachlaw07.ChunksWhole': WHATEVER THE INPUT: true; the input reads as it did. -/
def chunksWholeSpec : ChangeSpec := { name := "chunksWhole", fn := fun _ => fun
  | [d1, d2, d3] => { results := [.lit (.bool true)], args := [d1, d2, d3] }
  | _ => none }
def chunksWholeRow : OpenClaim := { program := "ytohplhahghilaaa", sum := "e3b0dbee4895a513911e3b52cd50b86b8130641686a71032ceb0ed8dd560c4de", func := "stagecoach/stagecoachlaw07.ChunksWhole", spec := "chunksWhole", inPlace := ["internal/abi.NoEscape"], unfollowed := true, recurses := true, apart := false }
def ChunksWholeSaid : Prop := chunksWholeRow.holds Try.pinned (OpenSpec.ofChange chunksWholeSpec)

/-- ITS FALSE NEIGHBOUR: 'it returns false'. Refute it at one input. -/
def chunksWholeWrong : ChangeSpec := { name := "chunksWhole", fn := fun _ => fun
  | [d1, d2, d3] => { results := [.lit (.bool false)], args := [d1, d2, d3] }
  | _ => none }
def ChunksWholeWrongFalsely : Prop := chunksWholeRow.holds Try.pinned (OpenSpec.ofChange chunksWholeWrong)

/-- 'stagecoachlaw07.ChunksCover': WHATEVER THE INPUT: true; the input reads as it did. -/
def chunksCoverSpec : ChangeSpec := { name := "chunksCover", fn := fun _ => fun
  | [d1, d2] => { results := [.lit (.bool true)], args := [d1, d2] }
  | _ => none }
def chunksCoverRow : OpenClaim := { program := "ytohplhahghilaaa", sum := "e3b0dbee4895a513911e3b52cd50b86b8130641686a71032ceb0ed8dd560c4de", func := "stagecoach/stagecoachlaw07.ChunksCover", spec := "chunksCover", inPlace := ["internal/abi.NoEscape"], unfollowed := true, recurses := true, apart := false }
def ChunksCoverSaid : Prop := chunksCoverRow.holds Try.pinned (OpenSpec.ofChange chunksCoverSpec)

/-- ITS FALSE NEIGHBOUR: 'it returns false'. Refute it at one input. -/
def chunksCoverWrong : ChangeSpec := { name := "chunksCover", fn := fun _ => fun
  | [d1, d2] => { results := [.lit (.bool false)], args := [d1, d2] }
  | _ => none }
def ChunksCoverWrongFalsely : Prop := chunksCoverRow.holds Try.pinned (OpenSpec.ofChange chunksCoverWrong)

/-- 'stagecoachlaw07.ChunksApart': WHATEVER THE INPUT: true; the input reads as it did. -/
def chunksApartSpec : ChangeSpec := { name := "chunksApart", fn := fun _ => fun
  | [d1, d2] => { results := [.lit (.bool true)], args := [d1, d2] }
  | _ => none }
def chunksApartRow : OpenClaim := { program := "ytohplhahghilaaa", sum := "e3b0dbee4895a513911e3b52cd50b86b8130641686a71032ceb0ed8dd560c4de", func := "stagecoach/stagecoachlaw07.ChunksApart", spec := "chunksApart", inPlace := ["internal/abi.NoEscape"], unfollowed := true, recurses := true, apart := false }
def ChunksApartSaid : Prop := chunksApartRow.holds Try.pinned (OpenSpec.ofChange chunksApartSpec)

/-- ITS FALSE NEIGHBOUR: 'it returns false'. Refute it at one input. -/
def chunksApartWrong : ChangeSpec := { name := "chunksApart", fn := fun _ => fun
  | [d1, d2] => { results := [.lit (.bool false)], args := [d1, d2] }
  | _ => none }
def ChunksApartWrongFalsely : Prop := chunksApartRow.holds Try.pinned (OpenSpec.ofChange chunksApartWrong)

/-- 'stagecoachlaw07.ChunksJoins': WHATEVER THE INPUT: true; the input reads as it did. -/
def chunksJoinsSpec : ChangeSpec := { name := "chunksJoins", fn := fun _ => fun
  | [d1, d2, d3] => { results := [.lit (.bool true)], args := [d1, d2, d3] }
  | _ => none }
def chunksJoinsRow : OpenClaim := { program := "ytohplhahghilaaa", sum := "e3b0dbee4895a513911e3b52cd50b86b8130641686a71032ceb0ed8dd560c4de", func := "stagecoach/stagecoachlaw07.ChunksJoins", spec := "chunksJoins", inPlace := ["internal/abi.NoEscape"], unfollowed := true, recurses := true, apart := false }
def ChunksJoinsSaid : Prop := chunksJoinsRow.holds Try.pinned (OpenSpec.ofChange chunksJoinsSpec)

/-- ITS FALSE NEIGHBOUR: 'it returns false'. Refute it at one input. -/
def chunksJoinsWrong : ChangeSpec := { name := "chunksJoins", fn := fun _ => fun
  | [d1, d2, d3] => { results := [.lit (.bool false)], args := [d1, d2, d3] }
  | _ => none }
def ChunksJoinsWrongFalsely : Prop := chunksJoinsRow.holds Try.pinned (OpenSpec.ofChange chunksJoinsWrong)

/- THE SECOND FORM. 'bulk': how many values and letters a reading holds, each counted each time it is reached (what is shared counts as often as it is met; a slice's spare places count too). A statement '..UptoSaid' is the law's where the arguments, and the package variables that the reading takes, are together of bulk at most 1048576: NARROWER than '..Said'. Prove '..Said' where nothing that the law and all that it calls make is longer than what came in: it says more and counts as full. Else prove '..UptoSaid'. A law counts once. -/
mutual
def uptoBulk {H : Type} : DataW H → Nat
  | .lit (.string bytes) => bytes.length + 1
  | .lit _ => 1
  | .nil => 1
  | .ptr d => uptoBulk d + 1
  | .slice elems spare => uptoBulkAll elems + uptoBulkAll spare + 1
  | .agg parts => uptoBulkAll parts + 1
  | .iface _ d => uptoBulk d + 1
  | .map entries => uptoBulkEntries entries + 1
  | .held _ => 1
def uptoBulkAll {H : Type} : List (DataW H) → Nat
  | [] => 0
  | d :: r => uptoBulk d + uptoBulkAll r
def uptoBulkEntries {H : Type} : List (Lit × DataW H) → Nat
  | [] => 0
  | x :: r => uptoBulkEntry x + uptoBulkEntries r
def uptoBulkEntry {H : Type} : Lit × DataW H → Nat
  | (.string bytes, d) => bytes.length + uptoBulk d + 1
  | (_, d) => uptoBulk d + 1
 end
def uptoSmall : (H : Type) → List (DataW H) → Bool := fun _ ds => decide (uptoBulkAll ds ≤ 1048576)
def OpenSpec.upto (s : _root_.Go.ChangeSpec) : _root_.Go.OpenSpec := { _root_.Go.OpenSpec.ofChange s with cond := some uptoSmall }

/-- 'stagecoachlaw07.ChunksTexts', WHERE WHAT IT READS IS OF BULK AT MOST 1048576: true; the input reads as it did. -/
def chunksTextsUptoRow : OpenClaim := { program := "ytohplhahghilaaa", sum := "e3b0dbee4895a513911e3b52cd50b86b8130641686a71032ceb0ed8dd560c4de", func := "stagecoach/stagecoachlaw07.ChunksTexts", spec := "chunksTexts", inPlace := ["internal/abi.NoEscape"], unfollowed := true, recurses := true, apart := false, narrowed := true }
def ChunksTextsUptoSaid : Prop := chunksTextsUptoRow.holds Try.pinned (OpenSpec.upto chunksTextsSpec)

/-- 'stagecoachlaw07.ChunksSplits', WHERE WHAT IT READS IS OF BULK AT MOST 1048576: true; the input reads as it did. -/
def chunksSplitsUptoRow : OpenClaim := { program := "ytohplhahghilaaa", sum := "e3b0dbee4895a513911e3b52cd50b86b8130641686a71032ceb0ed8dd560c4de", func := "stagecoach/stagecoachlaw07.ChunksSplits", spec := "chunksSplits", inPlace := ["internal/abi.NoEscape"], unfollowed := true, recurses := true, apart := false, narrowed := true }
def ChunksSplitsUptoSaid : Prop := chunksSplitsUptoRow.holds Try.pinned (OpenSpec.upto chunksSplitsSpec)

/-- 'stagecoachlaw07.ChunksBack', WHERE WHAT IT READS IS OF BULK AT MOST 1048576: true; the input reads as it did. -/
def chunksBackUptoRow : OpenClaim := { program := "ytohplhahghilaaa", sum := "e3b0dbee4895a513911e3b52cd50b86b8130641686a71032ceb0ed8dd560c4de", func := "stagecoach/stagecoachlaw07.ChunksBack", spec := "chunksBack", inPlace := ["internal/abi.NoEscape"], unfollowed := true, recurses := true, apart := false, narrowed := true }
def ChunksBackUptoSaid : Prop := chunksBackUptoRow.holds Try.pinned (OpenSpec.upto chunksBackSpec)

/-- 'stagecoachlaw07.ChunksWhole', WHERE WHAT IT READS IS OF BULK AT MOST 1048576: true; the input reads as it did. -/
def chunksWholeUptoRow : OpenClaim := { program := "ytohplhahghilaaa", sum := "e3b0dbee4895a513911e3b52cd50b86b8130641686a71032ceb0ed8dd560c4de", func := "stagecoach/stagecoachlaw07.ChunksWhole", spec := "chunksWhole", inPlace := ["internal/abi.NoEscape"], unfollowed := true, recurses := true, apart := false, narrowed := true }
def ChunksWholeUptoSaid : Prop := chunksWholeUptoRow.holds Try.pinned (OpenSpec.upto chunksWholeSpec)

/-- 'stagecoachlaw07.ChunksCover', WHERE WHAT IT READS IS OF BULK AT MOST 1048576: true; the input reads as it did. -/
def chunksCoverUptoRow : OpenClaim := { program := "ytohplhahghilaaa", sum := "e3b0dbee4895a513911e3b52cd50b86b8130641686a71032ceb0ed8dd560c4de", func := "stagecoach/stagecoachlaw07.ChunksCover", spec := "chunksCover", inPlace := ["internal/abi.NoEscape"], unfollowed := true, recurses := true, apart := false, narrowed := true }
def ChunksCoverUptoSaid : Prop := chunksCoverUptoRow.holds Try.pinned (OpenSpec.upto chunksCoverSpec)

/-- 'stagecoachlaw07.ChunksApart', WHERE WHAT IT READS IS OF BULK AT MOST 1048576: true; the input reads as it did. -/
def chunksApartUptoRow : OpenClaim := { program := "ytohplhahghilaaa", sum := "e3b0dbee4895a513911e3b52cd50b86b8130641686a71032ceb0ed8dd560c4de", func := "stagecoach/stagecoachlaw07.ChunksApart", spec := "chunksApart", inPlace := ["internal/abi.NoEscape"], unfollowed := true, recurses := true, apart := false, narrowed := true }
def ChunksApartUptoSaid : Prop := chunksApartUptoRow.holds Try.pinned (OpenSpec.upto chunksApartSpec)

/-- 'stagecoachlaw07.ChunksJoins', WHERE WHAT IT READS IS OF BULK AT MOST 1048576: true; the input reads as it did. -/
def chunksJoinsUptoRow : OpenClaim := { program := "ytohplhahghilaaa", sum := "e3b0dbee4895a513911e3b52cd50b86b8130641686a71032ceb0ed8dd560c4de", func := "stagecoach/stagecoachlaw07.ChunksJoins", spec := "chunksJoins", inPlace := ["internal/abi.NoEscape"], unfollowed := true, recurses := true, apart := false, narrowed := true }
def ChunksJoinsUptoSaid : Prop := chunksJoinsUptoRow.holds Try.pinned (OpenSpec.upto chunksJoinsSpec)

end Rows
end Go.Proofs.Ytohplhahghilaaa
