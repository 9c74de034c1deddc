/-
  No cell of these rows narrows 'for every input' (looked for: loops, veiled, ifaces, maps, wideKeys, modest, calm, conditions, laid).
  DERIVED. THE GIVEN ROWS OF THIS SEAT. 5 by the template 'for every input the law returns true; each argument reads behind the call as it read before'; 0 by the template 'total and deterministic' (their statements: YtkgpckfaghpgmaaTotals.lean).
  GIVEN WITH THE SEED: the statements are not yours to turn. If you find one false, say at which input.
  Laid BY PROGRAM, IN A SANDBOX (cutbox-rows.mjs): the forced cells as the released guide's own fill.sh prints them over the translation d491698f7bf8ebdd… (all of the seat's roots in one cut). By AI agents, Wed Nov 11 2026. No macro, syntax, notation, axiom, sorry.
-/
import Derived.Test.YtkgpckfaghpgmaaChecked
import GoSem.Claim
import GoSem.ClaimJoined
import GoSem.ClaimMapViews
import Derived.JoinedTies
import Derived.KernelRfl
namespace Go.Proofs.Ytkgpckfaghpgmaa
/- THE CELL 'sum', in the pinned program and in every row, IS THE sha256 OF THE DUMP (.gsa) THAT YtkgpckfaghpgmaaProg.lean LOADS. Nothing in Lean hashes anything: it is a label: what it is worth is what the hold of that sum in a sandbox is worth. -/
noncomputable def Try.pinned : Pinned := { name := "ytkgpckfaghpgmaa", sum := "d491698f7bf8ebddedd2084ca1ae3eeb8fb0d7199f49b133e8e88edda153b6a8", checked := Try.checked }
namespace Rows
def none {H : Type} : Left H := { results := [], args := [] }

/-- 'stagecoachlaw05.SegmentReads': WHATEVER THE INPUT: true; the input reads as it did. -/
def segmentReadsSpec : ChangeSpec := { name := "segmentReads", fn := fun _ => fun
  | [d1, d2] => { results := [.lit (.bool true)], args := [d1, d2] }
  | _ => none }
def segmentReadsRow : OpenClaim := { program := "ytkgpckfaghpgmaa", sum := "d491698f7bf8ebddedd2084ca1ae3eeb8fb0d7199f49b133e8e88edda153b6a8", func := "stagecoach/stagecoachlaw05.SegmentReads", spec := "segmentReads", unfollowed := true, recurses := true, apart := false }
def SegmentReadsSaid : Prop := segmentReadsRow.holds Try.pinned (OpenSpec.ofChange segmentReadsSpec)

/-- ITS FALSE NEIGHBOUR: 'it returns false'. Refute it at one input. -/
def segmentReadsWrong : ChangeSpec := { name := "segmentReads", fn := fun _ => fun
  | [d1, d2] => { results := [.lit (.bool false)], args := [d1, d2] }
  | _ => none }
def SegmentReadsWrongFalsely : Prop := segmentReadsRow.holds Try.pinned (OpenSpec.ofChange segmentReadsWrong)

/-- 'stagecoachlaw05.SegmentLoads': WHATEVER THE INPUT: true; the input reads as it did. -/
def segmentLoadsSpec : ChangeSpec := { name := "segmentLoads", fn := fun _ => fun
  | [d1, d2, d3] => { results := [.lit (.bool true)], args := [d1, d2, d3] }
  | _ => none }
def segmentLoadsRow : OpenClaim := { program := "ytkgpckfaghpgmaa", sum := "d491698f7bf8ebddedd2084ca1ae3eeb8fb0d7199f49b133e8e88edda153b6a8", func := "stagecoach/stagecoachlaw05.SegmentLoads", spec := "segmentLoads", unfollowed := true, recurses := true, apart := false }
def SegmentLoadsSaid : Prop := segmentLoadsRow.holds Try.pinned (OpenSpec.ofChange segmentLoadsSpec)

/-- ITS FALSE NEIGHBOUR: 'it returns false'. Refute it at one input. -/
def segmentLoadsWrong : ChangeSpec := { name := "segmentLoads", fn := fun _ => fun
  | [d1, d2, d3] => { results := [.lit (.bool false)], args := [d1, d2, d3] }
  | _ => none }
def SegmentLoadsWrongFalsely : Prop := segmentLoadsRow.holds Try.pinned (OpenSpec.ofChange segmentLoadsWrong)

/-- 'stagecoachlaw05.SegmentIndex': WHATEVER THE INPUT: true; the input reads as it did. -/
def segmentIndexSpec : ChangeSpec := { name := "segmentIndex", fn := fun _ => fun
  | [d1, d2] => { results := [.lit (.bool true)], args := [d1, d2] }
  | _ => none }
def segmentIndexRow : OpenClaim := { program := "ytkgpckfaghpgmaa", sum := "d491698f7bf8ebddedd2084ca1ae3eeb8fb0d7199f49b133e8e88edda153b6a8", func := "stagecoach/stagecoachlaw05.SegmentIndex", spec := "segmentIndex", unfollowed := true, recurses := true, apart := false }
def SegmentIndexSaid : Prop := segmentIndexRow.holds Try.pinned (OpenSpec.ofChange segmentIndexSpec)

/-- ITS FALSE NEIGHBOUR: 'it returns false'. Refute it at one input. -/
def segmentIndexWrong : ChangeSpec := { name := "segmentIndex", fn := fun _ => fun
  | [d1, d2] => { results := [.lit (.bool false)], args := [d1, d2] }
  | _ => none }
def SegmentIndexWrongFalsely : Prop := segmentIndexRow.holds Try.pinned (OpenSpec.ofChange segmentIndexWrong)

/-- 'stagecoachlaw05.SegmentKeeps': WHATEVER THE INPUT: true; the input reads as it did. -/
def segmentKeepsSpec : ChangeSpec := { name := "segmentKeeps", fn := fun _ => fun
  | [d1, d2] => { results := [.lit (.bool true)], args := [d1, d2] }
  | _ => none }
def segmentKeepsRow : OpenClaim := { program := "ytkgpckfaghpgmaa", sum := "d491698f7bf8ebddedd2084ca1ae3eeb8fb0d7199f49b133e8e88edda153b6a8", func := "stagecoach/stagecoachlaw05.SegmentKeeps", spec := "segmentKeeps", unfollowed := true, recurses := true, apart := false }
def SegmentKeepsSaid : Prop := segmentKeepsRow.holds Try.pinned (OpenSpec.ofChange segmentKeepsSpec)

/-- ITS FALSE NEIGHBOUR: 'it returns false'. Refute it at one input. -/
def segmentKeepsWrong : ChangeSpec := { name := "segmentKeeps", fn := fun _ => fun
  | [d1, d2] => { results := [.lit (.bool false)], args := [d1, d2] }
  | _ => none }
def SegmentKeepsWrongFalsely : Prop := segmentKeepsRow.holds Try.pinned (OpenSpec.ofChange segmentKeepsWrong)

/-- 'stagecoachlaw05.SegmentDoes': WHATEVER THE INPUT: true; the input reads as it did. -/
def segmentDoesSpec : ChangeSpec := { name := "segmentDoes", fn := fun _ => fun
  | [d1, d2] => { results := [.lit (.bool true)], args := [d1, d2] }
  | _ => none }
def segmentDoesRow : OpenClaim := { program := "ytkgpckfaghpgmaa", sum := "d491698f7bf8ebddedd2084ca1ae3eeb8fb0d7199f49b133e8e88edda153b6a8", func := "stagecoach/stagecoachlaw05.SegmentDoes", spec := "segmentDoes", unfollowed := true, recurses := true, apart := false }
def SegmentDoesSaid : Prop := segmentDoesRow.holds Try.pinned (OpenSpec.ofChange segmentDoesSpec)

/-- ITS FALSE NEIGHBOUR: 'it returns false'. Refute it at one input. -/
def segmentDoesWrong : ChangeSpec := { name := "segmentDoes", fn := fun _ => fun
  | [d1, d2] => { results := [.lit (.bool false)], args := [d1, d2] }
  | _ => none }
def SegmentDoesWrongFalsely : Prop := segmentDoesRow.holds Try.pinned (OpenSpec.ofChange segmentDoesWrong)

/- THE SECOND FORM. 'bulk': how many values and letters a reading holds, each counted each time it is reached (what is shared counts as often as it is met; a slice's spare places count too). A statement '..UptoSaid' is the law's where the arguments, and the package variables that the reading takes, are together of bulk at most 1048576: NARROWER than '..Said'. Prove '..Said' where nothing that the law and all that it calls make is longer than what came in: it says more and counts as full. Else prove '..UptoSaid'. A law counts once. -/
mutual
def uptoBulk {H : Type} : DataW H → Nat
  | .lit (.string bytes) => bytes.length + 1
  | .lit _ => 1
  | .nil => 1
  | .ptr d => uptoBulk d + 1
  | .slice elems spare => uptoBulkAll elems + uptoBulkAll spare + 1
  | .agg parts => uptoBulkAll parts + 1
  | .iface _ d => uptoBulk d + 1
  | .map entries => uptoBulkEntries entries + 1
  | .held _ => 1
def uptoBulkAll {H : Type} : List (DataW H) → Nat
  | [] => 0
  | d :: r => uptoBulk d + uptoBulkAll r
def uptoBulkEntries {H : Type} : List (Lit × DataW H) → Nat
  | [] => 0
  | x :: r => uptoBulkEntry x + uptoBulkEntries r
def uptoBulkEntry {H : Type} : Lit × DataW H → Nat
  | (.string bytes, d) => bytes.length + uptoBulk d + 1
  | (_, d) => uptoBulk d + 1
 end
def uptoSmall : (H : Type) → List (DataW H) → Bool := fun _ ds => decide (uptoBulkAll ds ≤ 1048576)
def OpenSpec.upto (s : _root_.Go.ChangeSpec) : _root_.Go.OpenSpec := { _root_.Go.OpenSpec.ofChange s with cond := some uptoSmall }

/-- 'stagecoachlaw05.SegmentReads', WHERE WHAT IT READS IS OF BULK AT MOST 1048576: true; the input reads as it did. -/
def segmentReadsUptoRow : OpenClaim := { program := "ytkgpckfaghpgmaa", sum := "d491698f7bf8ebddedd2084ca1ae3eeb8fb0d7199f49b133e8e88edda153b6a8", func := "stagecoach/stagecoachlaw05.SegmentReads", spec := "segmentReads", unfollowed := true, recurses := true, apart := false, narrowed := true }
def SegmentReadsUptoSaid : Prop := segmentReadsUptoRow.holds Try.pinned (OpenSpec.upto segmentReadsSpec)

/-- 'stagecoachlaw05.SegmentLoads', WHERE WHAT IT READS IS OF BULK AT MOST 1048576: true; the input reads as it did. -/
def segmentLoadsUptoRow : OpenClaim := { program := "ytkgpckfaghpgmaa", sum := "d491698f7bf8ebddedd2084ca1ae3eeb8fb0d7199f49b133e8e88edda153b6a8", func := "stagecoach/stagecoachlaw05.SegmentLoads", spec := "segmentLoads", unfollowed := true, recurses := true, apart := false, narrowed := true }
def SegmentLoadsUptoSaid : Prop := segmentLoadsUptoRow.holds Try.pinned (OpenSpec.upto segmentLoadsSpec)

/-- 'stagecoachlaw05.SegmentIndex', WHERE WHAT IT READS IS OF BULK AT MOST 1048576: true; the input reads as it did. -/
def segmentIndexUptoRow : OpenClaim := { program := "ytkgpckfaghpgmaa", sum := "d491698f7bf8ebddedd2084ca1ae3eeb8fb0d7199f49b133e8e88edda153b6a8", func := "stagecoach/stagecoachlaw05.SegmentIndex", spec := "segmentIndex", unfollowed := true, recurses := true, apart := false, narrowed := true }
def SegmentIndexUptoSaid : Prop := segmentIndexUptoRow.holds Try.pinned (OpenSpec.upto segmentIndexSpec)

/-- 'stagecoachlaw05.SegmentKeeps', WHERE WHAT IT READS IS OF BULK AT MOST 1048576: true; the input reads as it did. -/
def segmentKeepsUptoRow : OpenClaim := { program := "ytkgpckfaghpgmaa", sum := "d491698f7bf8ebddedd2084ca1ae3eeb8fb0d7199f49b133e8e88edda153b6a8", func := "stagecoach/stagecoachlaw05.SegmentKeeps", spec := "segmentKeeps", unfollowed := true, recurses := true, apart := false, narrowed := true }
def SegmentKeepsUptoSaid : Prop := segmentKeepsUptoRow.holds Try.pinned (OpenSpec.upto segmentKeepsSpec)

/-- 'stagecoachlaw05.SegmentDoes', WHERE WHAT IT READS IS OF BULK AT MOST 1048576: true; the input reads as it did. -/
def segmentDoesUptoRow : OpenClaim := { program := "ytkgpckfaghpgmaa", sum := "d491698f7bf8ebddedd2084ca1ae3eeb8fb0d7199f49b133e8e88edda153b6a8", func := "stagecoach/stagecoachlaw05.SegmentDoes", spec := "segmentDoes", unfollowed := true, recurses := true, apart := false, narrowed := true }
def SegmentDoesUptoSaid : Prop := segmentDoesUptoRow.holds Try.pinned (OpenSpec.upto segmentDoesSpec)

end Rows
end Go.Proofs.Ytkgpckfaghpgmaa
