/-
  Layer 4, plain: how long commands and replies are, as bytes.
-/
import Derived.Test.YthiliodmbipikaaReqLp
import Derived.Test.YthiliodmbipikaaReqI1
import Derived.Test.YthiliodmbipikaaReqW1
import Derived.Test.YthiliodmbipikaaReqH
set_option linter.unusedVariables false
set_option linter.unusedSimpArgs false
namespace Go.Proofs.Ythiliodmbipikaa
open Go.RowKit

theorem repText_le {x : Rep} (h : repCheck x = 0) : (repText x).length ≤ 800000 := by
  have ok := repCheck_ok h
  have f1 := flatMap_le fndText 2100 x.found (fun f hf => fndText_le (ok.found.2 f hf).2)
  have f2 := flatMap_le prtText 100 x.parts (fun f hf => prtText_le (ok.parts.2 f hf).2)
  have l1 := ok.found.1
  have l2 := ok.parts.1
  have v := vput_le
  have v1 := v x.e.toNat
  have v2 := v x.off.toNat
  have v3 := v x.n.toNat
  have v4 := v x.gen.toNat
  have v5 := v x.found.length
  have v6 := v x.parts.length
  unfold repText
  simp only [List.length_append]
  omega
theorem ftxt_le {c : Cmd} (ok : CmdOk c) (f : Fld) : (ftxt c f).length ≤ 100000 := by
  have v := vput_le
  have a1 := vtxt_le c.topic
  have a2 := vtxt_le c.group
  have a3 := vtxt_le c.member
  have a4 := v c.pn.toNat
  have a5 := v c.n.toNat
  have a6 := v c.off.toNat
  have a7 := v c.gen.toNat
  have b1 := ok.topic
  have b2 := ok.group
  have b3 := ok.member
  have a8 := rbatch_le c.bp c.be c.bq c.recs
  have a9 := names_len ok.tops.1 ok.tops.2
  cases f <;> simp only [ftxt] <;> first | omega | simp
theorem cmdText_le {c : Cmd} (h : ccheck c = 0) : (cmdText c).length ≤ 800000 := by
  have ok := ccheck_ok h
  have f1 := flatMap_le (ftxt c) 100000 (hasF c.kind.toNat) (fun f _ => ftxt_le ok f)
  have hl : (hasF c.kind.toNat).length ≤ 7 := by unfold hasF; split <;> simp
  have v := vput_le c.kind.toNat
  unfold cmdText
  rw [List.length_append]
  omega
end Go.Proofs.Ythiliodmbipikaa
