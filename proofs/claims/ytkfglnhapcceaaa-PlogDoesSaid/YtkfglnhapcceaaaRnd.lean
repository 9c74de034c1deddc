import Derived.Test.YtkfglnhapcceaaaVarX
import Derived.Sort.QuietIn
/-
  A region that draws its order, within a round of a range over a function: what is shown at the wide fence holds there.
-/
set_option linter.unusedVariables false
set_option linter.unusedSimpArgs false
namespace Go.Proofs.Ytkfglnhapcceaaa
section
variable {n l : Nat} {P : Program} {ops : Array Oper} {Q : Exit → Act → World → Prop} {md : Region.Mode}
/-- No operation is a defer statement. -/
def plainOps (ops : List Oper) : Bool := ops.all fun o => match o.op with | .defer _ => false | _ => true
theorem plainOps_spec {ops : List Oper} (h : plainOps ops = true) {i : Nat} {o : Oper} (ho : ops.toArray[i]? = some o) : ∀ c, o.op ≠ .defer c := by
  intro c e
  have hm : o ∈ ops := by
    rw [List.getElem?_toArray] at ho
    exact List.mem_of_getElem? ho
  have := List.all_eq_true.1 h o hm
  rw [e] at this
  simp at this
theorem wpOpIn_round {i : Nat} {K : Act → World → Prop} {a : Act} {w : World} (hd : ∀ o, ops[i]? = some o → ∀ c, o.op ≠ .defer c) (h : wpOpIn Fence.wide n P ops Q i K a w) : wpOpIn (Fence.wide.inRound l) n P ops Q i K a w := by
  unfold wpOpIn at *
  cases ho : ops[i]? with
  | none => simp only [ho] at h ⊢; exact h
  | some o =>
    simp only [ho] at h ⊢
    by_cases hw : Region.wanted o (yielded ops a.tmps) = true
    · rw [if_pos hw] at h ⊢
      unfold Oper.wpIn at *
      refine ⟨h.1, ?_⟩
      have h2 := h.2
      rw [show Fence.wide.round = none from rfl, Oper.semAt_none] at h2
      rw [Fence.inRound_round, Oper.semAt_some _ _ _ (hd o ho)]
      generalize (execOp a.eval o).run P w = r at *
      cases r with
      | ok x w' => cases x <;> exact h2
      | halt x w' => cases x <;> exact h2
    · rw [if_neg hw] at h ⊢
      exact h
theorem wpAnyIn_round (hd : ∀ (i : Nat) (o : Oper), ops[i]? = some o → ∀ c, o.op ≠ .defer c) : ∀ (fuel : Nat) (listed : Array Bool) (a : Act) (w : World), wpAnyIn Fence.wide n P md ops Q fuel listed a w → wpAnyIn (Fence.wide.inRound l) n P md ops Q fuel listed a w
  | 0, _, _, _, h => h
  | fuel + 1, listed, a, w, h => ⟨h.1, fun i hi => wpOpIn_round (hd i) (wpOpIn_mono (fun a' w' => wpAnyIn_round hd fuel _ a' w') (h.2 i hi))⟩
theorem wpIn_region_round {id : Nat} {ops : List Oper} {a : Act} {w : World} (hm : P.follows .mixedOrders = true) (hp : plainOps ops = true)
    (h : wpAnyIn Fence.wide n P .any ops.toArray Q ops.length (Array.replicate ops.length false) a w.drew) : (Code.region id ops.toArray true).wpIn (Fence.wide.inRound l) n P Q a w :=
  wpIn_region_any hm (wpAnyIn_round (fun i o ho => plainOps_spec hp ho) _ _ _ _ (by simpa using h))
theorem wpIn_region_quiet_round {id : Nat} {ops : List Oper} {a : Act} {w : World} (hm : P.follows .mixedOrders = true) (hp : plainOps ops = true) (hB : Region.lexB .any ops.toArray = true)
    (h : wpQuietIn Fence.wide n P ops.toArray (fun w' => ∃ n, w' = w.drewN n) (fun a' => ∀ w', (∃ n, w' = w.drewN n) → Q .normal a' w') ops a) : (Code.region id ops.toArray true).wpIn (Fence.wide.inRound l) n P Q a w := by
  simp only [Region.lexB, Bool.and_eq_true] at hB
  refine wpIn_region_round hm hp (wpAnyIn_of_quiet (Q := fun a' => ∀ w', (∃ n, w' = w.drewN n) → Q .normal a' w') rfl (fun _ w' hw' h => h w' hw') _ _ _ _ ⟨1, rfl⟩ ?_)
  exact wpAnyQIn_lex (F := Fence.wide) (n := n) (C := fun w' => ∃ n, w' = w.drewN n) (md := .any) hB.1 ops 0 (Array.replicate ops.length false) a (by simp) (by simpa using hB.2) h
end
end Go.Proofs.Ytkfglnhapcceaaa
