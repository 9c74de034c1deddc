/-
  No cell of these rows narrows 'for every input' (looked for: loops, veiled, ifaces, maps, wideKeys, modest, calm, conditions, laid).
  DERIVED. THE GIVEN ROWS OF THIS SEAT. 7 by the template 'for every input the law returns true; each argument reads behind the call as it read before'; 0 by the template 'total and deterministic' (their statements: YtkfglnhapcceaaaTotals.lean).
  GIVEN WITH THE SEED: the statements are not yours to turn. If you find one false, say at which input.
  Laid BY PROGRAM, IN A SANDBOX (cutbox-rows.mjs): the forced cells as the released guide's own fill.sh prints them over the translation 4e7f20dffbc19005… (all of the seat's roots in one cut). By AI agents, Wed Nov 11 2026. No macro, syntax, notation, axiom, sorry.
-/
import Derived.Test.YtkfglnhapcceaaaChecked
import GoSem.Claim
import GoSem.ClaimJoined
import GoSem.ClaimMapViews
import Derived.JoinedTies
import Derived.KernelRfl
namespace Go.Proofs.Ytkfglnhapcceaaa
/- THE CELL 'sum', in the pinned program and in every row, IS THE sha256 OF THE DUMP (.gsa) THAT YtkfglnhapcceaaaProg.lean LOADS. Nothing in Lean hashes anything: it is a label: what it is worth is what the hold of that sum in a sandbox is worth. -/
noncomputable def Try.pinned : Pinned := { name := "ytkfglnhapcceaaa", sum := "4e7f20dffbc190053c6410ede775d3192fd9122c0254873330aa498b407dbca4", checked := Try.checked }
namespace Rows
def none {H : Type} : Left H := { results := [], args := [] }

/-- 'stagecoachlaw06.PlogLoads': WHATEVER THE INPUT: true; the input reads as it did. -/
def plogLoadsSpec : ChangeSpec := { name := "plogLoads", fn := fun _ => fun
  | [d1, d2, d3] => { results := [.lit (.bool true)], args := [d1, d2, d3] }
  | _ => none }
def plogLoadsRow : OpenClaim := { program := "ytkfglnhapcceaaa", sum := "4e7f20dffbc190053c6410ede775d3192fd9122c0254873330aa498b407dbca4", func := "stagecoach/stagecoachlaw06.PlogLoads", spec := "plogLoads", unfollowed := true, recurses := true, apart := false }
def PlogLoadsSaid : Prop := plogLoadsRow.holds Try.pinned (OpenSpec.ofChange plogLoadsSpec)

/-- ITS FALSE NEIGHBOUR: 'it returns false'. Refute it at one input. -/
def plogLoadsWrong : ChangeSpec := { name := "plogLoads", fn := fun _ => fun
  | [d1, d2, d3] => { results := [.lit (.bool false)], args := [d1, d2, d3] }
  | _ => none }
def PlogLoadsWrongFalsely : Prop := plogLoadsRow.holds Try.pinned (OpenSpec.ofChange plogLoadsWrong)

/-- 'stagecoachlaw06.PlogOffsets': WHATEVER THE INPUT: true; the input reads as it did. -/
def plogOffsetsSpec : ChangeSpec := { name := "plogOffsets", fn := fun _ => fun
  | [d1, d2] => { results := [.lit (.bool true)], args := [d1, d2] }
  | _ => none }
def plogOffsetsRow : OpenClaim := { program := "ytkfglnhapcceaaa", sum := "4e7f20dffbc190053c6410ede775d3192fd9122c0254873330aa498b407dbca4", func := "stagecoach/stagecoachlaw06.PlogOffsets", spec := "plogOffsets", unfollowed := true, recurses := true, apart := false }
def PlogOffsetsSaid : Prop := plogOffsetsRow.holds Try.pinned (OpenSpec.ofChange plogOffsetsSpec)

/-- ITS FALSE NEIGHBOUR: 'it returns false'. Refute it at one input. -/
def plogOffsetsWrong : ChangeSpec := { name := "plogOffsets", fn := fun _ => fun
  | [d1, d2] => { results := [.lit (.bool false)], args := [d1, d2] }
  | _ => none }
def PlogOffsetsWrongFalsely : Prop := plogOffsetsRow.holds Try.pinned (OpenSpec.ofChange plogOffsetsWrong)

/-- 'stagecoachlaw06.PlogCompacts': WHATEVER THE INPUT: true; the input reads as it did. -/
def plogCompactsSpec : ChangeSpec := { name := "plogCompacts", fn := fun _ => fun
  | [d1, d2] => { results := [.lit (.bool true)], args := [d1, d2] }
  | _ => none }
def plogCompactsRow : OpenClaim := { program := "ytkfglnhapcceaaa", sum := "4e7f20dffbc190053c6410ede775d3192fd9122c0254873330aa498b407dbca4", func := "stagecoach/stagecoachlaw06.PlogCompacts", spec := "plogCompacts", unfollowed := true, recurses := true, apart := false }
def PlogCompactsSaid : Prop := plogCompactsRow.holds Try.pinned (OpenSpec.ofChange plogCompactsSpec)

/-- ITS FALSE NEIGHBOUR: 'it returns false'. Refute it at one input. -/
def plogCompactsWrong : ChangeSpec := { name := "plogCompacts", fn := fun _ => fun
  | [d1, d2] => { results := [.lit (.bool false)], args := [d1, d2] }
  | _ => none }
def PlogCompactsWrongFalsely : Prop := plogCompactsRow.holds Try.pinned (OpenSpec.ofChange plogCompactsWrong)

/-- 'stagecoachlaw06.PlogRetains': WHATEVER THE INPUT: true; the input reads as it did. -/
def plogRetainsSpec : ChangeSpec := { name := "plogRetains", fn := fun _ => fun
  | [d1, d2, d3] => { results := [.lit (.bool true)], args := [d1, d2, d3] }
  | _ => none }
def plogRetainsRow : OpenClaim := { program := "ytkfglnhapcceaaa", sum := "4e7f20dffbc190053c6410ede775d3192fd9122c0254873330aa498b407dbca4", func := "stagecoach/stagecoachlaw06.PlogRetains", spec := "plogRetains", unfollowed := true, recurses := true, apart := false }
def PlogRetainsSaid : Prop := plogRetainsRow.holds Try.pinned (OpenSpec.ofChange plogRetainsSpec)

/-- ITS FALSE NEIGHBOUR: 'it returns false'. Refute it at one input. -/
def plogRetainsWrong : ChangeSpec := { name := "plogRetains", fn := fun _ => fun
  | [d1, d2, d3] => { results := [.lit (.bool false)], args := [d1, d2, d3] }
  | _ => none }
def PlogRetainsWrongFalsely : Prop := plogRetainsRow.holds Try.pinned (OpenSpec.ofChange plogRetainsWrong)

/-- 'stagecoachlaw06.PlogRolls': WHATEVER THE INPUT: true; the input reads as it did. -/
def plogRollsSpec : ChangeSpec := { name := "plogRolls", fn := fun _ => fun
  | [d1, d2] => { results := [.lit (.bool true)], args := [d1, d2] }
  | _ => none }
def plogRollsRow : OpenClaim := { program := "ytkfglnhapcceaaa", sum := "4e7f20dffbc190053c6410ede775d3192fd9122c0254873330aa498b407dbca4", func := "stagecoach/stagecoachlaw06.PlogRolls", spec := "plogRolls", unfollowed := true, recurses := true, apart := false }
def PlogRollsSaid : Prop := plogRollsRow.holds Try.pinned (OpenSpec.ofChange plogRollsSpec)

/-- ITS FALSE NEIGHBOUR: 'it returns false'. Refute it at one input. -/
def plogRollsWrong : ChangeSpec := { name := "plogRolls", fn := fun _ => fun
  | [d1, d2] => { results := [.lit (.bool false)], args := [d1, d2] }
  | _ => none }
def PlogRollsWrongFalsely : Prop := plogRollsRow.holds Try.pinned (OpenSpec.ofChange plogRollsWrong)

/-- 'stagecoachlaw06.PlogReads': WHATEVER THE INPUT: true; the input reads as it did. -/
def plogReadsSpec : ChangeSpec := { name := "plogReads", fn := fun _ => fun
  | [d1, d2, d3] => { results := [.lit (.bool true)], args := [d1, d2, d3] }
  | _ => none }
def plogReadsRow : OpenClaim := { program := "ytkfglnhapcceaaa", sum := "4e7f20dffbc190053c6410ede775d3192fd9122c0254873330aa498b407dbca4", func := "stagecoach/stagecoachlaw06.PlogReads", spec := "plogReads", unfollowed := true, recurses := true, apart := false }
def PlogReadsSaid : Prop := plogReadsRow.holds Try.pinned (OpenSpec.ofChange plogReadsSpec)

/-- ITS FALSE NEIGHBOUR: 'it returns false'. Refute it at one input. -/
def plogReadsWrong : ChangeSpec := { name := "plogReads", fn := fun _ => fun
  | [d1, d2, d3] => { results := [.lit (.bool false)], args := [d1, d2, d3] }
  | _ => none }
def PlogReadsWrongFalsely : Prop := plogReadsRow.holds Try.pinned (OpenSpec.ofChange plogReadsWrong)

/-- 'stagecoachlaw06.PlogDoes': WHATEVER THE INPUT: true; the input reads as it did. -/
def plogDoesSpec : ChangeSpec := { name := "plogDoes", fn := fun _ => fun
  | [d1, d2] => { results := [.lit (.bool true)], args := [d1, d2] }
  | _ => none }
def plogDoesRow : OpenClaim := { program := "ytkfglnhapcceaaa", sum := "4e7f20dffbc190053c6410ede775d3192fd9122c0254873330aa498b407dbca4", func := "stagecoach/stagecoachlaw06.PlogDoes", spec := "plogDoes", unfollowed := true, recurses := true, apart := false }
def PlogDoesSaid : Prop := plogDoesRow.holds Try.pinned (OpenSpec.ofChange plogDoesSpec)

/-- ITS FALSE NEIGHBOUR: 'it returns false'. Refute it at one input. -/
def plogDoesWrong : ChangeSpec := { name := "plogDoes", fn := fun _ => fun
  | [d1, d2] => { results := [.lit (.bool false)], args := [d1, d2] }
  | _ => none }
def PlogDoesWrongFalsely : Prop := plogDoesRow.holds Try.pinned (OpenSpec.ofChange plogDoesWrong)

/- THE SECOND FORM. 'bulk': how many values and letters a reading holds, each counted each time it is reached (what is shared counts as often as it is met; a slice's spare places count too). A statement '..UptoSaid' is the law's where the arguments, and the package variables that the reading takes, are together of bulk at most 1048576: NARROWER than '..Said'. Prove '..Said' where nothing that the law and all that it calls make is longer than what came in: it says more and counts as full. Else prove '..UptoSaid'. A law counts once. -/
mutual
def uptoBulk {H : Type} : DataW H → Nat
  | .lit (.string bytes) => bytes.length + 1
  | .lit _ => 1
  | .nil => 1
  | .ptr d => uptoBulk d + 1
  | .slice elems spare => uptoBulkAll elems + uptoBulkAll spare + 1
  | .agg parts => uptoBulkAll parts + 1
  | .iface _ d => uptoBulk d + 1
  | .map entries => uptoBulkEntries entries + 1
  | .held _ => 1
def uptoBulkAll {H : Type} : List (DataW H) → Nat
  | [] => 0
  | d :: r => uptoBulk d + uptoBulkAll r
def uptoBulkEntries {H : Type} : List (Lit × DataW H) → Nat
  | [] => 0
  | x :: r => uptoBulkEntry x + uptoBulkEntries r
def uptoBulkEntry {H : Type} : Lit × DataW H → Nat
  | (.string bytes, d) => bytes.length + uptoBulk d + 1
  | (_, d) => uptoBulk d + 1
 end
def uptoSmall : (H : Type) → List (DataW H) → Bool := fun _ ds => decide (uptoBulkAll ds ≤ 1048576)
def OpenSpec.upto (s : _root_.Go.ChangeSpec) : _root_.Go.OpenSpec := { _root_.Go.OpenSpec.ofChange s with cond := some uptoSmall }

/-- 'stagecoachlaw06.PlogLoads', WHERE WHAT IT READS IS OF BULK AT MOST 1048576: true; the input reads as it did. -/
def plogLoadsUptoRow : OpenClaim := { program := "ytkfglnhapcceaaa", sum := "4e7f20dffbc190053c6410ede775d3192fd9122c0254873330aa498b407dbca4", func := "stagecoach/stagecoachlaw06.PlogLoads", spec := "plogLoads", unfollowed := true, recurses := true, apart := false, narrowed := true }
def PlogLoadsUptoSaid : Prop := plogLoadsUptoRow.holds Try.pinned (OpenSpec.upto plogLoadsSpec)

/-- 'stagecoachlaw06.PlogOffsets', WHERE WHAT IT READS IS OF BULK AT MOST 1048576: true; the input reads as it did. -/
def plogOffsetsUptoRow : OpenClaim := { program := "ytkfglnhapcceaaa", sum := "4e7f20dffbc190053c6410ede775d3192fd9122c0254873330aa498b407dbca4", func := "stagecoach/stagecoachlaw06.PlogOffsets", spec := "plogOffsets", unfollowed := true, recurses := true, apart := false, narrowed := true }
def PlogOffsetsUptoSaid : Prop := plogOffsetsUptoRow.holds Try.pinned (OpenSpec.upto plogOffsetsSpec)

/-- 'stagecoachlaw06.PlogCompacts', WHERE WHAT IT READS IS OF BULK AT MOST 1048576: true; the input reads as it did. -/
def plogCompactsUptoRow : OpenClaim := { program := "ytkfglnhapcceaaa", sum := "4e7f20dffbc190053c6410ede775d3192fd9122c0254873330aa498b407dbca4", func := "stagecoach/stagecoachlaw06.PlogCompacts", spec := "plogCompacts", unfollowed := true, recurses := true, apart := false, narrowed := true }
def PlogCompactsUptoSaid : Prop := plogCompactsUptoRow.holds Try.pinned (OpenSpec.upto plogCompactsSpec)

/-- 'stagecoachlaw06.PlogRetains', WHERE WHAT IT READS IS OF BULK AT MOST 1048576: true; the input reads as it did. -/
def plogRetainsUptoRow : OpenClaim := { program := "ytkfglnhapcceaaa", sum := "4e7f20dffbc190053c6410ede775d3192fd9122c0254873330aa498b407dbca4", func := "stagecoach/stagecoachlaw06.PlogRetains", spec := "plogRetains", unfollowed := true, recurses := true, apart := false, narrowed := true }
def PlogRetainsUptoSaid : Prop := plogRetainsUptoRow.holds Try.pinned (OpenSpec.upto plogRetainsSpec)

/-- 'stagecoachlaw06.PlogRolls', WHERE WHAT IT READS IS OF BULK AT MOST 1048576: true; the input reads as it did. -/
def plogRollsUptoRow : OpenClaim := { program := "ytkfglnhapcceaaa", sum := "4e7f20dffbc190053c6410ede775d3192fd9122c0254873330aa498b407dbca4", func := "stagecoach/stagecoachlaw06.PlogRolls", spec := "plogRolls", unfollowed := true, recurses := true, apart := false, narrowed := true }
def PlogRollsUptoSaid : Prop := plogRollsUptoRow.holds Try.pinned (OpenSpec.upto plogRollsSpec)

/-- 'stagecoachlaw06.PlogReads', WHERE WHAT IT READS IS OF BULK AT MOST 1048576: true; the input reads as it did. -/
def plogReadsUptoRow : OpenClaim := { program := "ytkfglnhapcceaaa", sum := "4e7f20dffbc190053c6410ede775d3192fd9122c0254873330aa498b407dbca4", func := "stagecoach/stagecoachlaw06.PlogReads", spec := "plogReads", unfollowed := true, recurses := true, apart := false, narrowed := true }
def PlogReadsUptoSaid : Prop := plogReadsUptoRow.holds Try.pinned (OpenSpec.upto plogReadsSpec)

/-- 'stagecoachlaw06.PlogDoes', WHERE WHAT IT READS IS OF BULK AT MOST 1048576: true; the input reads as it did. -/
def plogDoesUptoRow : OpenClaim := { program := "ytkfglnhapcceaaa", sum := "4e7f20dffbc190053c6410ede775d3192fd9122c0254873330aa498b407dbca4", func := "stagecoach/stagecoachlaw06.PlogDoes", spec := "plogDoes", unfollowed := true, recurses := true, apart := false, narrowed := true }
def PlogDoesUptoSaid : Prop := plogDoesUptoRow.holds Try.pinned (OpenSpec.upto plogDoesSpec)

end Rows
end Go.Proofs.Ytkfglnhapcceaaa
