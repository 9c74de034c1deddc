/-
  No cell of these rows narrows 'for every input' (looked for: loops, veiled, ifaces, maps, wideKeys, modest, calm, conditions, laid).
  DERIVED. THE GIVEN ROWS OF THIS SEAT. 7 by the template 'for every input the law returns true; each argument reads behind the call as it read before'; 0 by the template 'total and deterministic' (their statements: YthiliodmbipikaaTotals.lean).
  GIVEN WITH THE SEED: the statements are not yours to turn. If you find one false, say at which input.
  Laid BY PROGRAM, IN A SANDBOX (cutbox-rows.mjs): the forced cells as the released guide's own fill.sh prints them over the translation 1fd1a5c766d77bc8… (all of the seat's roots in one cut). By AI agents, Wed Nov 11 2026. No macro, syntax, notation, axiom, sorry.
-/
import Derived.Test.YthiliodmbipikaaChecked
import GoSem.Claim
import GoSem.ClaimJoined
import GoSem.ClaimMapViews
import Derived.JoinedTies
import Derived.KernelRfl
namespace Go.Proofs.Ythiliodmbipikaa
/- THE CELL 'sum', in the pinned program and in every row, IS THE sha256 OF THE DUMP (.gsa) THAT YthiliodmbipikaaProg.lean LOADS. Nothing in Lean hashes anything: it is a label: what it is worth is what the hold of that sum in a sandbox is worth. -/
noncomputable def Try.pinned : Pinned := { name := "ythiliodmbipikaa", sum := "1fd1a5c766d77bc86af34c683909f6c6b4bd7d148cca0c72b4db2e38f507a8e1", checked := Try.checked }
namespace Rows
def none {H : Type} : Left H := { results := [], args := [] }

/-- 'stagecoachlaw04.RequestKinds': WHATEVER THE INPUT: true; the input reads as it did. -/
def requestKindsSpec : ChangeSpec := { name := "requestKinds", fn := fun _ => fun
  | [d1, d2] => { results := [.lit (.bool true)], args := [d1, d2] }
  | _ => none }
def requestKindsRow : OpenClaim := { program := "ythiliodmbipikaa", sum := "1fd1a5c766d77bc86af34c683909f6c6b4bd7d148cca0c72b4db2e38f507a8e1", func := "stagecoach/stagecoachlaw04.RequestKinds", spec := "requestKinds", inPlace := ["internal/abi.NoEscape"], unfollowed := true, recurses := true, apart := false }
def RequestKindsSaid : Prop := requestKindsRow.holds Try.pinned (OpenSpec.ofChange requestKindsSpec)

/-- ITS FALSE NEIGHBOUR: 'it returns false'. Refute it at one input. -/
def requestKindsWrong : ChangeSpec := { name := "requestKinds", fn := fun _ => fun
  | [d1, d2] => { results := [.lit (.bool false)], args := [d1, d2] }
  | _ => none }
def RequestKindsWrongFalsely : Prop := requestKindsRow.holds Try.pinned (OpenSpec.ofChange requestKindsWrong)

/-- 'stagecoachlaw04.RequestSame': WHATEVER THE INPUT: true; the input reads as it did. -/
def requestSameSpec : ChangeSpec := { name := "requestSame", fn := fun _ => fun
  | [d1, d2, d3] => { results := [.lit (.bool true)], args := [d1, d2, d3] }
  | _ => none }
def requestSameRow : OpenClaim := { program := "ythiliodmbipikaa", sum := "1fd1a5c766d77bc86af34c683909f6c6b4bd7d148cca0c72b4db2e38f507a8e1", func := "stagecoach/stagecoachlaw04.RequestSame", spec := "requestSame", inPlace := ["internal/abi.NoEscape"], unfollowed := true, recurses := true, apart := false }
def RequestSameSaid : Prop := requestSameRow.holds Try.pinned (OpenSpec.ofChange requestSameSpec)

/-- ITS FALSE NEIGHBOUR: 'it returns false'. Refute it at one input. -/
def requestSameWrong : ChangeSpec := { name := "requestSame", fn := fun _ => fun
  | [d1, d2, d3] => { results := [.lit (.bool false)], args := [d1, d2, d3] }
  | _ => none }
def RequestSameWrongFalsely : Prop := requestSameRow.holds Try.pinned (OpenSpec.ofChange requestSameWrong)

/-- 'stagecoachlaw04.RequestPuts': WHATEVER THE INPUT: true; the input reads as it did. -/
def requestPutsSpec : ChangeSpec := { name := "requestPuts", fn := fun _ => fun
  | [d1, d2, d3] => { results := [.lit (.bool true)], args := [d1, d2, d3] }
  | _ => none }
def requestPutsRow : OpenClaim := { program := "ythiliodmbipikaa", sum := "1fd1a5c766d77bc86af34c683909f6c6b4bd7d148cca0c72b4db2e38f507a8e1", func := "stagecoach/stagecoachlaw04.RequestPuts", spec := "requestPuts", inPlace := ["internal/abi.NoEscape"], unfollowed := true, recurses := true, apart := false }
def RequestPutsSaid : Prop := requestPutsRow.holds Try.pinned (OpenSpec.ofChange requestPutsSpec)

/-- ITS FALSE NEIGHBOUR: 'it returns false'. Refute it at one input. -/
def requestPutsWrong : ChangeSpec := { name := "requestPuts", fn := fun _ => fun
  | [d1, d2, d3] => { results := [.lit (.bool false)], args := [d1, d2, d3] }
  | _ => none }
def RequestPutsWrongFalsely : Prop := requestPutsRow.holds Try.pinned (OpenSpec.ofChange requestPutsWrong)

/-- 'stagecoachlaw04.RequestReplies': WHATEVER THE INPUT: true; the input reads as it did. -/
def requestRepliesSpec : ChangeSpec := { name := "requestReplies", fn := fun _ => fun
  | [d1, d2, d3] => { results := [.lit (.bool true)], args := [d1, d2, d3] }
  | _ => none }
def requestRepliesRow : OpenClaim := { program := "ythiliodmbipikaa", sum := "1fd1a5c766d77bc86af34c683909f6c6b4bd7d148cca0c72b4db2e38f507a8e1", func := "stagecoach/stagecoachlaw04.RequestReplies", spec := "requestReplies", inPlace := ["internal/abi.NoEscape"], unfollowed := true, recurses := true, apart := false }
def RequestRepliesSaid : Prop := requestRepliesRow.holds Try.pinned (OpenSpec.ofChange requestRepliesSpec)

/-- ITS FALSE NEIGHBOUR: 'it returns false'. Refute it at one input. -/
def requestRepliesWrong : ChangeSpec := { name := "requestReplies", fn := fun _ => fun
  | [d1, d2, d3] => { results := [.lit (.bool false)], args := [d1, d2, d3] }
  | _ => none }
def RequestRepliesWrongFalsely : Prop := requestRepliesRow.holds Try.pinned (OpenSpec.ofChange requestRepliesWrong)

/-- 'stagecoachlaw04.RequestBack': WHATEVER THE INPUT: true; the input reads as it did. -/
def requestBackSpec : ChangeSpec := { name := "requestBack", fn := fun _ => fun
  | [d1, d2, d3] => { results := [.lit (.bool true)], args := [d1, d2, d3] }
  | _ => none }
def requestBackRow : OpenClaim := { program := "ythiliodmbipikaa", sum := "1fd1a5c766d77bc86af34c683909f6c6b4bd7d148cca0c72b4db2e38f507a8e1", func := "stagecoach/stagecoachlaw04.RequestBack", spec := "requestBack", inPlace := ["internal/abi.NoEscape"], unfollowed := true, recurses := true, apart := false }
def RequestBackSaid : Prop := requestBackRow.holds Try.pinned (OpenSpec.ofChange requestBackSpec)

/-- ITS FALSE NEIGHBOUR: 'it returns false'. Refute it at one input. -/
def requestBackWrong : ChangeSpec := { name := "requestBack", fn := fun _ => fun
  | [d1, d2, d3] => { results := [.lit (.bool false)], args := [d1, d2, d3] }
  | _ => none }
def RequestBackWrongFalsely : Prop := requestBackRow.holds Try.pinned (OpenSpec.ofChange requestBackWrong)

/-- 'stagecoachlaw04.RequestAnswers': WHATEVER THE INPUT: true; the input reads as it did. -/
def requestAnswersSpec : ChangeSpec := { name := "requestAnswers", fn := fun _ => fun
  | [d1, d2, d3] => { results := [.lit (.bool true)], args := [d1, d2, d3] }
  | _ => none }
def requestAnswersRow : OpenClaim := { program := "ythiliodmbipikaa", sum := "1fd1a5c766d77bc86af34c683909f6c6b4bd7d148cca0c72b4db2e38f507a8e1", func := "stagecoach/stagecoachlaw04.RequestAnswers", spec := "requestAnswers", inPlace := ["internal/abi.NoEscape"], unfollowed := true, recurses := true, apart := false }
def RequestAnswersSaid : Prop := requestAnswersRow.holds Try.pinned (OpenSpec.ofChange requestAnswersSpec)

/-- ITS FALSE NEIGHBOUR: 'it returns false'. Refute it at one input. -/
def requestAnswersWrong : ChangeSpec := { name := "requestAnswers", fn := fun _ => fun
  | [d1, d2, d3] => { results := [.lit (.bool false)], args := [d1, d2, d3] }
  | _ => none }
def RequestAnswersWrongFalsely : Prop := requestAnswersRow.holds Try.pinned (OpenSpec.ofChange requestAnswersWrong)

/-- 'stagecoachlaw04.RequestOnly': WHATEVER THE INPUT: true; the input reads as it did. -/
def requestOnlySpec : ChangeSpec := { name := "requestOnly", fn := fun _ => fun
  | [d] => { results := [.lit (.bool true)], args := [d] }
  | _ => none }
def requestOnlyRow : OpenClaim := { program := "ythiliodmbipikaa", sum := "1fd1a5c766d77bc86af34c683909f6c6b4bd7d148cca0c72b4db2e38f507a8e1", func := "stagecoach/stagecoachlaw04.RequestOnly", spec := "requestOnly", inPlace := ["internal/abi.NoEscape"], unfollowed := true, recurses := true, apart := false }
def RequestOnlySaid : Prop := requestOnlyRow.holds Try.pinned (OpenSpec.ofChange requestOnlySpec)

/-- ITS FALSE NEIGHBOUR: 'it returns false'. Refute it at one input. -/
def requestOnlyWrong : ChangeSpec := { name := "requestOnly", fn := fun _ => fun
  | [d] => { results := [.lit (.bool false)], args := [d] }
  | _ => none }
def RequestOnlyWrongFalsely : Prop := requestOnlyRow.holds Try.pinned (OpenSpec.ofChange requestOnlyWrong)

/- THE SECOND FORM. 'bulk': how many values and letters a reading holds, each counted each time it is reached (what is shared counts as often as it is met; a slice's spare places count too). A statement '..UptoSaid' is the law's where the arguments, and the package variables that the reading takes, are together of bulk at most 1048576: NARROWER than '..Said'. Prove '..Said' where nothing that the law and all that it calls make is longer than what came in: it says more and counts as full. Else prove '..UptoSaid'. A law counts once. -/
mutual
def uptoBulk {H : Type} : DataW H → Nat
  | .lit (.string bytes) => bytes.length + 1
  | .lit _ => 1
  | .nil => 1
  | .ptr d => uptoBulk d + 1
  | .slice elems spare => uptoBulkAll elems + uptoBulkAll spare + 1
  | .agg parts => uptoBulkAll parts + 1
  | .iface _ d => uptoBulk d + 1
  | .map entries => uptoBulkEntries entries + 1
  | .held _ => 1
def uptoBulkAll {H : Type} : List (DataW H) → Nat
  | [] => 0
  | d :: r => uptoBulk d + uptoBulkAll r
def uptoBulkEntries {H : Type} : List (Lit × DataW H) → Nat
  | [] => 0
  | x :: r => uptoBulkEntry x + uptoBulkEntries r
def uptoBulkEntry {H : Type} : Lit × DataW H → Nat
  | (.string bytes, d) => bytes.length + uptoBulk d + 1
  | (_, d) => uptoBulk d + 1
 end
def uptoSmall : (H : Type) → List (DataW H) → Bool := fun _ ds => decide (uptoBulkAll ds ≤ 1048576)
def OpenSpec.upto (s : _root_.Go.ChangeSpec) : _root_.Go.OpenSpec := { _root_.Go.OpenSpec.ofChange s with cond := some uptoSmall }

/-- 'stagecoachlaw04.RequestKinds', WHERE WHAT IT READS IS OF BULK AT MOST 1048576: true; the input reads as it did. -/
def requestKindsUptoRow : OpenClaim := { program := "ythiliodmbipikaa", sum := "1fd1a5c766d77bc86af34c683909f6c6b4bd7d148cca0c72b4db2e38f507a8e1", func := "stagecoach/stagecoachlaw04.RequestKinds", spec := "requestKinds", inPlace := ["internal/abi.NoEscape"], unfollowed := true, recurses := true, apart := false, narrowed := true }
def RequestKindsUptoSaid : Prop := requestKindsUptoRow.holds Try.pinned (OpenSpec.upto requestKindsSpec)

/-- 'stagecoachlaw04.RequestSame', WHERE WHAT IT READS IS OF BULK AT MOST 1048576: true; the input reads as it did. -/
def requestSameUptoRow : OpenClaim := { program := "ythiliodmbipikaa", sum := "1fd1a5c766d77bc86af34c683909f6c6b4bd7d148cca0c72b4db2e38f507a8e1", func := "stagecoach/stagecoachlaw04.RequestSame", spec := "requestSame", inPlace := ["internal/abi.NoEscape"], unfollowed := true, recurses := true, apart := false, narrowed := true }
def RequestSameUptoSaid : Prop := requestSameUptoRow.holds Try.pinned (OpenSpec.upto requestSameSpec)

/-- 'stagecoachlaw04.RequestPuts', WHERE WHAT IT READS IS OF BULK AT MOST 1048576: true; the input reads as it did. -/
def requestPutsUptoRow : OpenClaim := { program := "ythiliodmbipikaa", sum := "1fd1a5c766d77bc86af34c683909f6c6b4bd7d148cca0c72b4db2e38f507a8e1", func := "stagecoach/stagecoachlaw04.RequestPuts", spec := "requestPuts", inPlace := ["internal/abi.NoEscape"], unfollowed := true, recurses := true, apart := false, narrowed := true }
def RequestPutsUptoSaid : Prop := requestPutsUptoRow.holds Try.pinned (OpenSpec.upto requestPutsSpec)

/-- 'stagecoachlaw04.RequestReplies', WHERE WHAT IT READS IS OF BULK AT MOST 1048576: true; the input reads as it did. -/
def requestRepliesUptoRow : OpenClaim := { program := "ythiliodmbipikaa", sum := "1fd1a5c766d77bc86af34c683909f6c6b4bd7d148cca0c72b4db2e38f507a8e1", func := "stagecoach/stagecoachlaw04.RequestReplies", spec := "requestReplies", inPlace := ["internal/abi.NoEscape"], unfollowed := true, recurses := true, apart := false, narrowed := true }
def RequestRepliesUptoSaid : Prop := requestRepliesUptoRow.holds Try.pinned (OpenSpec.upto requestRepliesSpec)

/-- 'stagecoachlaw04.RequestBack', WHERE WHAT IT READS IS OF BULK AT MOST 1048576: true; the input reads as it did. -/
def requestBackUptoRow : OpenClaim := { program := "ythiliodmbipikaa", sum := "1fd1a5c766d77bc86af34c683909f6c6b4bd7d148cca0c72b4db2e38f507a8e1", func := "stagecoach/stagecoachlaw04.RequestBack", spec := "requestBack", inPlace := ["internal/abi.NoEscape"], unfollowed := true, recurses := true, apart := false, narrowed := true }
def RequestBackUptoSaid : Prop := requestBackUptoRow.holds Try.pinned (OpenSpec.upto requestBackSpec)

/-- 'stagecoachlaw04.RequestAnswers', WHERE WHAT IT READS IS OF BULK AT MOST 1048576: true; the input reads as it did. -/
def requestAnswersUptoRow : OpenClaim := { program := "ythiliodmbipikaa", sum := "1fd1a5c766d77bc86af34c683909f6c6b4bd7d148cca0c72b4db2e38f507a8e1", func := "stagecoach/stagecoachlaw04.RequestAnswers", spec := "requestAnswers", inPlace := ["internal/abi.NoEscape"], unfollowed := true, recurses := true, apart := false, narrowed := true }
def RequestAnswersUptoSaid : Prop := requestAnswersUptoRow.holds Try.pinned (OpenSpec.upto requestAnswersSpec)

/-- 'stagecoachlaw04.RequestOnly', WHERE WHAT IT READS IS OF BULK AT MOST 1048576: true; the input reads as it did. -/
def requestOnlyUptoRow : OpenClaim := { program := "ythiliodmbipikaa", sum := "1fd1a5c766d77bc86af34c683909f6c6b4bd7d148cca0c72b4db2e38f507a8e1", func := "stagecoach/stagecoachlaw04.RequestOnly", spec := "requestOnly", inPlace := ["internal/abi.NoEscape"], unfollowed := true, recurses := true, apart := false, narrowed := true }
def RequestOnlyUptoSaid : Prop := requestOnlyUptoRow.holds Try.pinned (OpenSpec.upto requestOnlySpec)

end Rows
end Go.Proofs.Ythiliodmbipikaa
