/-
  No cell of these rows narrows 'for every input' (looked for: loops, veiled, ifaces, maps, wideKeys, modest, calm, conditions, laid).
  DERIVED. THE GIVEN ROWS OF THIS SEAT. 15 by the template 'for every input the law returns true; each argument reads behind the call as it read before'; 0 by the template 'total and deterministic' (their statements: YtdgeljfiobmkcaaTotals.lean).
  GIVEN WITH THE SEED: the statements are not yours to turn. If you find one false, say at which input.
  Laid BY PROGRAM, IN A SANDBOX (cutbox-rows.mjs): the forced cells as the released guide's own fill.sh prints them over the translation e798c03bc72d1624… (all of the seat's roots in one cut). By AI agents, Wed Nov 11 2026. No macro, syntax, notation, axiom, sorry.
-/
import Derived.Test.YtdgeljfiobmkcaaChecked
import GoSem.Claim
import GoSem.ClaimJoined
import GoSem.ClaimMapViews
import Derived.JoinedTies
import Derived.KernelRfl
namespace Go.Proofs.Ytdgeljfiobmkcaa
/- THE CELL 'sum', in the pinned program and in every row, IS THE sha256 OF THE DUMP (.gsa) THAT YtdgeljfiobmkcaaProg.lean LOADS. Nothing in Lean hashes anything: it is a label: what it is worth is what the hold of that sum in a sandbox is worth. -/
noncomputable def Try.pinned : Pinned := { name := "ytdgeljfiobmkcaa", sum := "e798c03bc72d1624918fc4b04ed21e0e471b77ae0c1cf6d22147a31ca3ce694d", checked := Try.checked }
namespace Rows
def none {H : Type} : Left H := { results := [], args := [] }

/-- 'stagecoachlaw01.VarintPuts': WHATEVER THE INPUT: true; the input reads as it did. -/
def varintPutsSpec : ChangeSpec := { name := "varintPuts", fn := fun _ => fun
  | [d] => { results := [.lit (.bool true)], args := [d] }
  | _ => none }
def varintPutsRow : OpenClaim := { program := "ytdgeljfiobmkcaa", sum := "e798c03bc72d1624918fc4b04ed21e0e471b77ae0c1cf6d22147a31ca3ce694d", func := "stagecoach/stagecoachlaw01.VarintPuts", spec := "varintPuts", unfollowed := true, recurses := true, apart := false }
def VarintPutsSaid : Prop := varintPutsRow.holds Try.pinned (OpenSpec.ofChange varintPutsSpec)

/-- ITS FALSE NEIGHBOUR: 'it returns false'. Refute it at one input. -/
def varintPutsWrong : ChangeSpec := { name := "varintPuts", fn := fun _ => fun
  | [d] => { results := [.lit (.bool false)], args := [d] }
  | _ => none }
def VarintPutsWrongFalsely : Prop := varintPutsRow.holds Try.pinned (OpenSpec.ofChange varintPutsWrong)

/-- 'stagecoachlaw01.VarintGets': WHATEVER THE INPUT: true; the input reads as it did. -/
def varintGetsSpec : ChangeSpec := { name := "varintGets", fn := fun _ => fun
  | [d1, d2, d3] => { results := [.lit (.bool true)], args := [d1, d2, d3] }
  | _ => none }
def varintGetsRow : OpenClaim := { program := "ytdgeljfiobmkcaa", sum := "e798c03bc72d1624918fc4b04ed21e0e471b77ae0c1cf6d22147a31ca3ce694d", func := "stagecoach/stagecoachlaw01.VarintGets", spec := "varintGets", unfollowed := true, recurses := true, apart := false }
def VarintGetsSaid : Prop := varintGetsRow.holds Try.pinned (OpenSpec.ofChange varintGetsSpec)

/-- ITS FALSE NEIGHBOUR: 'it returns false'. Refute it at one input. -/
def varintGetsWrong : ChangeSpec := { name := "varintGets", fn := fun _ => fun
  | [d1, d2, d3] => { results := [.lit (.bool false)], args := [d1, d2, d3] }
  | _ => none }
def VarintGetsWrongFalsely : Prop := varintGetsRow.holds Try.pinned (OpenSpec.ofChange varintGetsWrong)

/-- 'stagecoachlaw01.VarintBack': WHATEVER THE INPUT: true; the input reads as it did. -/
def varintBackSpec : ChangeSpec := { name := "varintBack", fn := fun _ => fun
  | [d1, d2, d3] => { results := [.lit (.bool true)], args := [d1, d2, d3] }
  | _ => none }
def varintBackRow : OpenClaim := { program := "ytdgeljfiobmkcaa", sum := "e798c03bc72d1624918fc4b04ed21e0e471b77ae0c1cf6d22147a31ca3ce694d", func := "stagecoach/stagecoachlaw01.VarintBack", spec := "varintBack", unfollowed := true, recurses := true, apart := false }
def VarintBackSaid : Prop := varintBackRow.holds Try.pinned (OpenSpec.ofChange varintBackSpec)

/-- ITS FALSE NEIGHBOUR: 'it returns false'. Refute it at one input. -/
def varintBackWrong : ChangeSpec := { name := "varintBack", fn := fun _ => fun
  | [d1, d2, d3] => { results := [.lit (.bool false)], args := [d1, d2, d3] }
  | _ => none }
def VarintBackWrongFalsely : Prop := varintBackRow.holds Try.pinned (OpenSpec.ofChange varintBackWrong)

/-- 'stagecoachlaw01.VarintOrder': WHATEVER THE INPUT: true; the input reads as it did. -/
def varintOrderSpec : ChangeSpec := { name := "varintOrder", fn := fun _ => fun
  | [d1, d2, d3] => { results := [.lit (.bool true)], args := [d1, d2, d3] }
  | _ => none }
def varintOrderRow : OpenClaim := { program := "ytdgeljfiobmkcaa", sum := "e798c03bc72d1624918fc4b04ed21e0e471b77ae0c1cf6d22147a31ca3ce694d", func := "stagecoach/stagecoachlaw01.VarintOrder", spec := "varintOrder", unfollowed := true, recurses := true, apart := false }
def VarintOrderSaid : Prop := varintOrderRow.holds Try.pinned (OpenSpec.ofChange varintOrderSpec)

/-- ITS FALSE NEIGHBOUR: 'it returns false'. Refute it at one input. -/
def varintOrderWrong : ChangeSpec := { name := "varintOrder", fn := fun _ => fun
  | [d1, d2, d3] => { results := [.lit (.bool false)], args := [d1, d2, d3] }
  | _ => none }
def VarintOrderWrongFalsely : Prop := varintOrderRow.holds Try.pinned (OpenSpec.ofChange varintOrderWrong)

/-- 'stagecoachlaw01.VarintSigns': WHATEVER THE INPUT: true; the input reads as it did. -/
def varintSignsSpec : ChangeSpec := { name := "varintSigns", fn := fun _ => fun
  | [d1, d2] => { results := [.lit (.bool true)], args := [d1, d2] }
  | _ => none }
def varintSignsRow : OpenClaim := { program := "ytdgeljfiobmkcaa", sum := "e798c03bc72d1624918fc4b04ed21e0e471b77ae0c1cf6d22147a31ca3ce694d", func := "stagecoach/stagecoachlaw01.VarintSigns", spec := "varintSigns", unfollowed := true, recurses := true, apart := false }
def VarintSignsSaid : Prop := varintSignsRow.holds Try.pinned (OpenSpec.ofChange varintSignsSpec)

/-- ITS FALSE NEIGHBOUR: 'it returns false'. Refute it at one input. -/
def varintSignsWrong : ChangeSpec := { name := "varintSigns", fn := fun _ => fun
  | [d1, d2] => { results := [.lit (.bool false)], args := [d1, d2] }
  | _ => none }
def VarintSignsWrongFalsely : Prop := varintSignsRow.holds Try.pinned (OpenSpec.ofChange varintSignsWrong)

/-- 'stagecoachlaw01.VarintTexts': WHATEVER THE INPUT: true; the input reads as it did. -/
def varintTextsSpec : ChangeSpec := { name := "varintTexts", fn := fun _ => fun
  | [d1, d2] => { results := [.lit (.bool true)], args := [d1, d2] }
  | _ => none }
def varintTextsRow : OpenClaim := { program := "ytdgeljfiobmkcaa", sum := "e798c03bc72d1624918fc4b04ed21e0e471b77ae0c1cf6d22147a31ca3ce694d", func := "stagecoach/stagecoachlaw01.VarintTexts", spec := "varintTexts", unfollowed := true, recurses := true, apart := false }
def VarintTextsSaid : Prop := varintTextsRow.holds Try.pinned (OpenSpec.ofChange varintTextsSpec)

/-- ITS FALSE NEIGHBOUR: 'it returns false'. Refute it at one input. -/
def varintTextsWrong : ChangeSpec := { name := "varintTexts", fn := fun _ => fun
  | [d1, d2] => { results := [.lit (.bool false)], args := [d1, d2] }
  | _ => none }
def VarintTextsWrongFalsely : Prop := varintTextsRow.holds Try.pinned (OpenSpec.ofChange varintTextsWrong)

/-- 'stagecoachlaw01.VarintRows': WHATEVER THE INPUT: true; the input reads as it did. -/
def varintRowsSpec : ChangeSpec := { name := "varintRows", fn := fun _ => fun
  | [d] => { results := [.lit (.bool true)], args := [d] }
  | _ => none }
def varintRowsRow : OpenClaim := { program := "ytdgeljfiobmkcaa", sum := "e798c03bc72d1624918fc4b04ed21e0e471b77ae0c1cf6d22147a31ca3ce694d", func := "stagecoach/stagecoachlaw01.VarintRows", spec := "varintRows", unfollowed := true, recurses := true, apart := false }
def VarintRowsSaid : Prop := varintRowsRow.holds Try.pinned (OpenSpec.ofChange varintRowsSpec)

/-- ITS FALSE NEIGHBOUR: 'it returns false'. Refute it at one input. -/
def varintRowsWrong : ChangeSpec := { name := "varintRows", fn := fun _ => fun
  | [d] => { results := [.lit (.bool false)], args := [d] }
  | _ => none }
def VarintRowsWrongFalsely : Prop := varintRowsRow.holds Try.pinned (OpenSpec.ofChange varintRowsWrong)

/-- 'stagecoachlaw01.VarintPlaces': WHATEVER THE INPUT: true; the input reads as it did. -/
def varintPlacesSpec : ChangeSpec := { name := "varintPlaces", fn := fun _ => fun
  | [d1, d2] => { results := [.lit (.bool true)], args := [d1, d2] }
  | _ => none }
def varintPlacesRow : OpenClaim := { program := "ytdgeljfiobmkcaa", sum := "e798c03bc72d1624918fc4b04ed21e0e471b77ae0c1cf6d22147a31ca3ce694d", func := "stagecoach/stagecoachlaw01.VarintPlaces", spec := "varintPlaces", unfollowed := true, recurses := true, apart := false }
def VarintPlacesSaid : Prop := varintPlacesRow.holds Try.pinned (OpenSpec.ofChange varintPlacesSpec)

/-- ITS FALSE NEIGHBOUR: 'it returns false'. Refute it at one input. -/
def varintPlacesWrong : ChangeSpec := { name := "varintPlaces", fn := fun _ => fun
  | [d1, d2] => { results := [.lit (.bool false)], args := [d1, d2] }
  | _ => none }
def VarintPlacesWrongFalsely : Prop := varintPlacesRow.holds Try.pinned (OpenSpec.ofChange varintPlacesWrong)

/-- 'stagecoachlaw02.CrcSums': WHATEVER THE INPUT: true; the input reads as it did. -/
def crcSumsSpec : ChangeSpec := { name := "crcSums", fn := fun _ => fun
  | [d1, d2] => { results := [.lit (.bool true)], args := [d1, d2] }
  | _ => none }
def crcSumsRow : OpenClaim := { program := "ytdgeljfiobmkcaa", sum := "e798c03bc72d1624918fc4b04ed21e0e471b77ae0c1cf6d22147a31ca3ce694d", func := "stagecoach/stagecoachlaw02.CrcSums", spec := "crcSums", unfollowed := true, recurses := true, apart := false }
def CrcSumsSaid : Prop := crcSumsRow.holds Try.pinned (OpenSpec.ofChange crcSumsSpec)

/-- ITS FALSE NEIGHBOUR: 'it returns false'. Refute it at one input. -/
def crcSumsWrong : ChangeSpec := { name := "crcSums", fn := fun _ => fun
  | [d1, d2] => { results := [.lit (.bool false)], args := [d1, d2] }
  | _ => none }
def CrcSumsWrongFalsely : Prop := crcSumsRow.holds Try.pinned (OpenSpec.ofChange crcSumsWrong)

/-- 'stagecoachlaw02.CrcCuts': WHATEVER THE INPUT: true; the input reads as it did. -/
def crcCutsSpec : ChangeSpec := { name := "crcCuts", fn := fun _ => fun
  | [d1, d2, d3] => { results := [.lit (.bool true)], args := [d1, d2, d3] }
  | _ => none }
def crcCutsRow : OpenClaim := { program := "ytdgeljfiobmkcaa", sum := "e798c03bc72d1624918fc4b04ed21e0e471b77ae0c1cf6d22147a31ca3ce694d", func := "stagecoach/stagecoachlaw02.CrcCuts", spec := "crcCuts", unfollowed := true, recurses := true, apart := false }
def CrcCutsSaid : Prop := crcCutsRow.holds Try.pinned (OpenSpec.ofChange crcCutsSpec)

/-- ITS FALSE NEIGHBOUR: 'it returns false'. Refute it at one input. -/
def crcCutsWrong : ChangeSpec := { name := "crcCuts", fn := fun _ => fun
  | [d1, d2, d3] => { results := [.lit (.bool false)], args := [d1, d2, d3] }
  | _ => none }
def CrcCutsWrongFalsely : Prop := crcCutsRow.holds Try.pinned (OpenSpec.ofChange crcCutsWrong)

/-- 'stagecoachlaw02.CrcBack': WHATEVER THE INPUT: true; the input reads as it did. -/
def crcBackSpec : ChangeSpec := { name := "crcBack", fn := fun _ => fun
  | [d1, d2, d3] => { results := [.lit (.bool true)], args := [d1, d2, d3] }
  | _ => none }
def crcBackRow : OpenClaim := { program := "ytdgeljfiobmkcaa", sum := "e798c03bc72d1624918fc4b04ed21e0e471b77ae0c1cf6d22147a31ca3ce694d", func := "stagecoach/stagecoachlaw02.CrcBack", spec := "crcBack", unfollowed := true, recurses := true, apart := false }
def CrcBackSaid : Prop := crcBackRow.holds Try.pinned (OpenSpec.ofChange crcBackSpec)

/-- ITS FALSE NEIGHBOUR: 'it returns false'. Refute it at one input. -/
def crcBackWrong : ChangeSpec := { name := "crcBack", fn := fun _ => fun
  | [d1, d2, d3] => { results := [.lit (.bool false)], args := [d1, d2, d3] }
  | _ => none }
def CrcBackWrongFalsely : Prop := crcBackRow.holds Try.pinned (OpenSpec.ofChange crcBackWrong)

/-- 'stagecoachlaw02.CrcSpoilt': WHATEVER THE INPUT: true; the input reads as it did. -/
def crcSpoiltSpec : ChangeSpec := { name := "crcSpoilt", fn := fun _ => fun
  | [d1, d2, d3] => { results := [.lit (.bool true)], args := [d1, d2, d3] }
  | _ => none }
def crcSpoiltRow : OpenClaim := { program := "ytdgeljfiobmkcaa", sum := "e798c03bc72d1624918fc4b04ed21e0e471b77ae0c1cf6d22147a31ca3ce694d", func := "stagecoach/stagecoachlaw02.CrcSpoilt", spec := "crcSpoilt", unfollowed := true, recurses := true, apart := false }
def CrcSpoiltSaid : Prop := crcSpoiltRow.holds Try.pinned (OpenSpec.ofChange crcSpoiltSpec)

/-- ITS FALSE NEIGHBOUR: 'it returns false'. Refute it at one input. -/
def crcSpoiltWrong : ChangeSpec := { name := "crcSpoilt", fn := fun _ => fun
  | [d1, d2, d3] => { results := [.lit (.bool false)], args := [d1, d2, d3] }
  | _ => none }
def CrcSpoiltWrongFalsely : Prop := crcSpoiltRow.holds Try.pinned (OpenSpec.ofChange crcSpoiltWrong)

/-- 'stagecoachlaw02.CrcParts': WHATEVER THE INPUT: true; the input reads as it did. -/
def crcPartsSpec : ChangeSpec := { name := "crcParts", fn := fun _ => fun
  | [d1, d2] => { results := [.lit (.bool true)], args := [d1, d2] }
  | _ => none }
def crcPartsRow : OpenClaim := { program := "ytdgeljfiobmkcaa", sum := "e798c03bc72d1624918fc4b04ed21e0e471b77ae0c1cf6d22147a31ca3ce694d", func := "stagecoach/stagecoachlaw02.CrcParts", spec := "crcParts", unfollowed := true, recurses := true, apart := false }
def CrcPartsSaid : Prop := crcPartsRow.holds Try.pinned (OpenSpec.ofChange crcPartsSpec)

/-- ITS FALSE NEIGHBOUR: 'it returns false'. Refute it at one input. -/
def crcPartsWrong : ChangeSpec := { name := "crcParts", fn := fun _ => fun
  | [d1, d2] => { results := [.lit (.bool false)], args := [d1, d2] }
  | _ => none }
def CrcPartsWrongFalsely : Prop := crcPartsRow.holds Try.pinned (OpenSpec.ofChange crcPartsWrong)

/-- 'stagecoachlaw02.CrcZeros': WHATEVER THE INPUT: true; the input reads as it did. -/
def crcZerosSpec : ChangeSpec := { name := "crcZeros", fn := fun _ => fun
  | [d1, d2, d3] => { results := [.lit (.bool true)], args := [d1, d2, d3] }
  | _ => none }
def crcZerosRow : OpenClaim := { program := "ytdgeljfiobmkcaa", sum := "e798c03bc72d1624918fc4b04ed21e0e471b77ae0c1cf6d22147a31ca3ce694d", func := "stagecoach/stagecoachlaw02.CrcZeros", spec := "crcZeros", unfollowed := true, recurses := true, apart := false }
def CrcZerosSaid : Prop := crcZerosRow.holds Try.pinned (OpenSpec.ofChange crcZerosSpec)

/-- ITS FALSE NEIGHBOUR: 'it returns false'. Refute it at one input. -/
def crcZerosWrong : ChangeSpec := { name := "crcZeros", fn := fun _ => fun
  | [d1, d2, d3] => { results := [.lit (.bool false)], args := [d1, d2, d3] }
  | _ => none }
def CrcZerosWrongFalsely : Prop := crcZerosRow.holds Try.pinned (OpenSpec.ofChange crcZerosWrong)

/-- 'stagecoachlaw02.CrcMost': WHATEVER THE INPUT: true; the input reads as it did. -/
def crcMostSpec : ChangeSpec := { name := "crcMost", fn := fun _ => fun
  | [d1, d2] => { results := [.lit (.bool true)], args := [d1, d2] }
  | _ => none }
def crcMostRow : OpenClaim := { program := "ytdgeljfiobmkcaa", sum := "e798c03bc72d1624918fc4b04ed21e0e471b77ae0c1cf6d22147a31ca3ce694d", func := "stagecoach/stagecoachlaw02.CrcMost", spec := "crcMost", unfollowed := true, recurses := true, apart := false }
def CrcMostSaid : Prop := crcMostRow.holds Try.pinned (OpenSpec.ofChange crcMostSpec)

/-- ITS FALSE NEIGHBOUR: 'it returns false'. Refute it at one input. -/
def crcMostWrong : ChangeSpec := { name := "crcMost", fn := fun _ => fun
  | [d1, d2] => { results := [.lit (.bool false)], args := [d1, d2] }
  | _ => none }
def CrcMostWrongFalsely : Prop := crcMostRow.holds Try.pinned (OpenSpec.ofChange crcMostWrong)

/- THE SECOND FORM. 'bulk': how many values and letters a reading holds, each counted each time it is reached (what is shared counts as often as it is met; a slice's spare places count too). A statement '..UptoSaid' is the law's where the arguments, and the package variables that the reading takes, are together of bulk at most 1048576: NARROWER than '..Said'. Prove '..Said' where nothing that the law and all that it calls make is longer than what came in: it says more and counts as full. Else prove '..UptoSaid'. A law counts once. -/
mutual
def uptoBulk {H : Type} : DataW H → Nat
  | .lit (.string bytes) => bytes.length + 1
  | .lit _ => 1
  | .nil => 1
  | .ptr d => uptoBulk d + 1
  | .slice elems spare => uptoBulkAll elems + uptoBulkAll spare + 1
  | .agg parts => uptoBulkAll parts + 1
  | .iface _ d => uptoBulk d + 1
  | .map entries => uptoBulkEntries entries + 1
  | .held _ => 1
def uptoBulkAll {H : Type} : List (DataW H) → Nat
  | [] => 0
  | d :: r => uptoBulk d + uptoBulkAll r
def uptoBulkEntries {H : Type} : List (Lit × DataW H) → Nat
  | [] => 0
  | x :: r => uptoBulkEntry x + uptoBulkEntries r
def uptoBulkEntry {H : Type} : Lit × DataW H → Nat
  | (.string bytes, d) => bytes.length + uptoBulk d + 1
  | (_, d) => uptoBulk d + 1
 end
def uptoSmall : (H : Type) → List (DataW H) → Bool := fun _ ds => decide (uptoBulkAll ds ≤ 1048576)
def OpenSpec.upto (s : _root_.Go.ChangeSpec) : _root_.Go.OpenSpec := { _root_.Go.OpenSpec.ofChange s with cond := some uptoSmall }

/-- 'stagecoachlaw01.VarintPuts', WHERE WHAT IT READS IS OF BULK AT MOST 1048576: true; the input reads as it did. -/
def varintPutsUptoRow : OpenClaim := { program := "ytdgeljfiobmkcaa", sum := "e798c03bc72d1624918fc4b04ed21e0e471b77ae0c1cf6d22147a31ca3ce694d", func := "stagecoach/stagecoachlaw01.VarintPuts", spec := "varintPuts", unfollowed := true, recurses := true, apart := false, narrowed := true }
def VarintPutsUptoSaid : Prop := varintPutsUptoRow.holds Try.pinned (OpenSpec.upto varintPutsSpec)

/-- 'stagecoachlaw01.VarintGets', WHERE WHAT IT READS IS OF BULK AT MOST 1048576: true; the input reads as it did. -/
def varintGetsUptoRow : OpenClaim := { program := "ytdgeljfiobmkcaa", sum := "e798c03bc72d1624918fc4b04ed21e0e471b77ae0c1cf6d22147a31ca3ce694d", func := "stagecoach/stagecoachlaw01.VarintGets", spec := "varintGets", unfollowed := true, recurses := true, apart := false, narrowed := true }
def VarintGetsUptoSaid : Prop := varintGetsUptoRow.holds Try.pinned (OpenSpec.upto varintGetsSpec)

/-- 'stagecoachlaw01.VarintBack', WHERE WHAT IT READS IS OF BULK AT MOST 1048576: true; the input reads as it did. -/
def varintBackUptoRow : OpenClaim := { program := "ytdgeljfiobmkcaa", sum := "e798c03bc72d1624918fc4b04ed21e0e471b77ae0c1cf6d22147a31ca3ce694d", func := "stagecoach/stagecoachlaw01.VarintBack", spec := "varintBack", unfollowed := true, recurses := true, apart := false, narrowed := true }
def VarintBackUptoSaid : Prop := varintBackUptoRow.holds Try.pinned (OpenSpec.upto varintBackSpec)

/-- 'stagecoachlaw01.VarintOrder', WHERE WHAT IT READS IS OF BULK AT MOST 1048576: true; the input reads as it did. -/
def varintOrderUptoRow : OpenClaim := { program := "ytdgeljfiobmkcaa", sum := "e798c03bc72d1624918fc4b04ed21e0e471b77ae0c1cf6d22147a31ca3ce694d", func := "stagecoach/stagecoachlaw01.VarintOrder", spec := "varintOrder", unfollowed := true, recurses := true, apart := false, narrowed := true }
def VarintOrderUptoSaid : Prop := varintOrderUptoRow.holds Try.pinned (OpenSpec.upto varintOrderSpec)

/-- 'stagecoachlaw01.VarintSigns', WHERE WHAT IT READS IS OF BULK AT MOST 1048576: true; the input reads as it did. -/
def varintSignsUptoRow : OpenClaim := { program := "ytdgeljfiobmkcaa", sum := "e798c03bc72d1624918fc4b04ed21e0e471b77ae0c1cf6d22147a31ca3ce694d", func := "stagecoach/stagecoachlaw01.VarintSigns", spec := "varintSigns", unfollowed := true, recurses := true, apart := false, narrowed := true }
def VarintSignsUptoSaid : Prop := varintSignsUptoRow.holds Try.pinned (OpenSpec.upto varintSignsSpec)

/-- 'stagecoachlaw01.VarintTexts', WHERE WHAT IT READS IS OF BULK AT MOST 1048576: true; the input reads as it did. -/
def varintTextsUptoRow : OpenClaim := { program := "ytdgeljfiobmkcaa", sum := "e798c03bc72d1624918fc4b04ed21e0e471b77ae0c1cf6d22147a31ca3ce694d", func := "stagecoach/stagecoachlaw01.VarintTexts", spec := "varintTexts", unfollowed := true, recurses := true, apart := false, narrowed := true }
def VarintTextsUptoSaid : Prop := varintTextsUptoRow.holds Try.pinned (OpenSpec.upto varintTextsSpec)

/-- 'stagecoachlaw01.VarintRows', WHERE WHAT IT READS IS OF BULK AT MOST 1048576: true; the input reads as it did. -/
def varintRowsUptoRow : OpenClaim := { program := "ytdgeljfiobmkcaa", sum := "e798c03bc72d1624918fc4b04ed21e0e471b77ae0c1cf6d22147a31ca3ce694d", func := "stagecoach/stagecoachlaw01.VarintRows", spec := "varintRows", unfollowed := true, recurses := true, apart := false, narrowed := true }
def VarintRowsUptoSaid : Prop := varintRowsUptoRow.holds Try.pinned (OpenSpec.upto varintRowsSpec)

/-- 'stagecoachlaw01.VarintPlaces', WHERE WHAT IT READS IS OF BULK AT MOST 1048576: true; the input reads as it did. -/
def varintPlacesUptoRow : OpenClaim := { program := "ytdgeljfiobmkcaa", sum := "e798c03bc72d1624918fc4b04ed21e0e471b77ae0c1cf6d22147a31ca3ce694d", func := "stagecoach/stagecoachlaw01.VarintPlaces", spec := "varintPlaces", unfollowed := true, recurses := true, apart := false, narrowed := true }
def VarintPlacesUptoSaid : Prop := varintPlacesUptoRow.holds Try.pinned (OpenSpec.upto varintPlacesSpec)

/-- 'stagecoachlaw02.CrcSums', WHERE WHAT IT READS IS OF BULK AT MOST 1048576: true; the input reads as it did. -/
def crcSumsUptoRow : OpenClaim := { program := "ytdgeljfiobmkcaa", sum := "e798c03bc72d1624918fc4b04ed21e0e471b77ae0c1cf6d22147a31ca3ce694d", func := "stagecoach/stagecoachlaw02.CrcSums", spec := "crcSums", unfollowed := true, recurses := true, apart := false, narrowed := true }
def CrcSumsUptoSaid : Prop := crcSumsUptoRow.holds Try.pinned (OpenSpec.upto crcSumsSpec)

/-- 'stagecoachlaw02.CrcCuts', WHERE WHAT IT READS IS OF BULK AT MOST 1048576: true; the input reads as it did. -/
def crcCutsUptoRow : OpenClaim := { program := "ytdgeljfiobmkcaa", sum := "e798c03bc72d1624918fc4b04ed21e0e471b77ae0c1cf6d22147a31ca3ce694d", func := "stagecoach/stagecoachlaw02.CrcCuts", spec := "crcCuts", unfollowed := true, recurses := true, apart := false, narrowed := true }
def CrcCutsUptoSaid : Prop := crcCutsUptoRow.holds Try.pinned (OpenSpec.upto crcCutsSpec)

/-- 'stagecoachlaw02.CrcBack', WHERE WHAT IT READS IS OF BULK AT MOST 1048576: true; the input reads as it did. -/
def crcBackUptoRow : OpenClaim := { program := "ytdgeljfiobmkcaa", sum := "e798c03bc72d1624918fc4b04ed21e0e471b77ae0c1cf6d22147a31ca3ce694d", func := "stagecoach/stagecoachlaw02.CrcBack", spec := "crcBack", unfollowed := true, recurses := true, apart := false, narrowed := true }
def CrcBackUptoSaid : Prop := crcBackUptoRow.holds Try.pinned (OpenSpec.upto crcBackSpec)

/-- 'stagecoachlaw02.CrcSpoilt', WHERE WHAT IT READS IS OF BULK AT MOST 1048576: true; the input reads as it did. -/
def crcSpoiltUptoRow : OpenClaim := { program := "ytdgeljfiobmkcaa", sum := "e798c03bc72d1624918fc4b04ed21e0e471b77ae0c1cf6d22147a31ca3ce694d", func := "stagecoach/stagecoachlaw02.CrcSpoilt", spec := "crcSpoilt", unfollowed := true, recurses := true, apart := false, narrowed := true }
def CrcSpoiltUptoSaid : Prop := crcSpoiltUptoRow.holds Try.pinned (OpenSpec.upto crcSpoiltSpec)

/-- 'stagecoachlaw02.CrcParts', WHERE WHAT IT READS IS OF BULK AT MOST 1048576: true; the input reads as it did. -/
def crcPartsUptoRow : OpenClaim := { program := "ytdgeljfiobmkcaa", sum := "e798c03bc72d1624918fc4b04ed21e0e471b77ae0c1cf6d22147a31ca3ce694d", func := "stagecoach/stagecoachlaw02.CrcParts", spec := "crcParts", unfollowed := true, recurses := true, apart := false, narrowed := true }
def CrcPartsUptoSaid : Prop := crcPartsUptoRow.holds Try.pinned (OpenSpec.upto crcPartsSpec)

/-- 'stagecoachlaw02.CrcZeros', WHERE WHAT IT READS IS OF BULK AT MOST 1048576: true; the input reads as it did. -/
def crcZerosUptoRow : OpenClaim := { program := "ytdgeljfiobmkcaa", sum := "e798c03bc72d1624918fc4b04ed21e0e471b77ae0c1cf6d22147a31ca3ce694d", func := "stagecoach/stagecoachlaw02.CrcZeros", spec := "crcZeros", unfollowed := true, recurses := true, apart := false, narrowed := true }
def CrcZerosUptoSaid : Prop := crcZerosUptoRow.holds Try.pinned (OpenSpec.upto crcZerosSpec)

/-- 'stagecoachlaw02.CrcMost', WHERE WHAT IT READS IS OF BULK AT MOST 1048576: true; the input reads as it did. -/
def crcMostUptoRow : OpenClaim := { program := "ytdgeljfiobmkcaa", sum := "e798c03bc72d1624918fc4b04ed21e0e471b77ae0c1cf6d22147a31ca3ce694d", func := "stagecoach/stagecoachlaw02.CrcMost", spec := "crcMost", unfollowed := true, recurses := true, apart := false, narrowed := true }
def CrcMostUptoSaid : Prop := crcMostUptoRow.holds Try.pinned (OpenSpec.upto crcMostSpec)

end Rows
end Go.Proofs.Ytdgeljfiobmkcaa
