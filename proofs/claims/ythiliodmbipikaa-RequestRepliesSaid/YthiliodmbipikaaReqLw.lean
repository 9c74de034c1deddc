/-
  Layer 4's statements: what their walks share.
-/
import Derived.Test.YthiliodmbipikaaReqCut
import Derived.Test.YthiliodmbipikaaReqCr
import Derived.Test.YthiliodmbipikaaFix4
import Derived.Test.YthiliodmbipikaaReqLp
set_option linter.unusedVariables false
set_option linter.unusedSimpArgs false
namespace Go.Proofs.Ythiliodmbipikaa
open Go.RowKit

theorem CmdArg.below {w W : World} {c : Cmd} {rv tv : Value} (h : CmdArg w c rv tv) (hb : Below w.heap.size w W) : CmdArg W c rv tv :=
  ⟨h.recs.below hb, h.tops.below hb, h.rbd, h.tbd, h.topic, h.group, h.member, h.gen⟩
theorem RepArg.below {w W : World} {r : Rep} {fv pv : Value} (h : RepArg w r fv pv) (hb : Below w.heap.size w W) : RepArg W r fv pv :=
  ⟨h.found.below hb, h.parts.below hb, h.fbd, h.pbd, h.gen⟩
theorem cutR_bd (r : Rec) : RecBd (cutR r) := ⟨by simp only [cutR, List.length_take]; unfold maxLen; omega, by simp only [cutR, List.length_take]; unfold maxLen; omega⟩
theorem cutC_bd (c : Cmd) : CmdBd (cutC c) := by
  refine ⟨?_, ?_, ?_, ⟨?_, fun r hr => ?_⟩, ⟨?_, fun s hs => ?_⟩⟩
  · simp only [cutC, List.length_take]; unfold maxLen; omega
  · simp only [cutC, List.length_take]; unfold maxLen; omega
  · simp only [cutC, List.length_take]; unfold maxLen; omega
  · simp only [cutC, cutRs, List.length_map, List.length_take]; unfold maxLen; omega
  · simp only [cutC, cutRs, List.mem_map] at hr
    obtain ⟨r', _, rfl⟩ := hr
    exact cutR_bd r'
  · simp only [cutC, cutTops, List.length_map, List.length_take]; omega
  · simp only [cutC, cutTops, List.mem_map] at hs
    obtain ⟨s', _, rfl⟩ := hs
    rw [List.length_take]; unfold maxLen; omega
theorem cutRep_bd (r : Rep) : RepBd (cutRep r) := by
  refine ⟨⟨?_, fun f hf => ?_⟩, ⟨?_, fun p hp => ?_⟩⟩
  · simp only [cutRep, List.length_map, List.length_take]; omega
  · simp only [cutRep, List.mem_map] at hf
    obtain ⟨f', _, rfl⟩ := hf
    exact cutR_bd f'.r
  · simp only [cutRep, List.length_map, List.length_take]; omega
  · simp only [cutRep, List.mem_map] at hp
    obtain ⟨p', _, rfl⟩ := hp
    simp only [cutP, List.length_take]; unfold maxLen; omega
/-- A command in its block, with its slices in blocks that came behind base B. -/
structure OpB (B : Nat) (W : World) (b : Nat) (c : Cmd) (rv tv : Value) : Prop where
  blk : Blk W b (c.arr rv tv) 29
  cin : CmdIn W c rv tv
  o1 : ∀ x, rv.ownBlock = some x → B ≤ x ∧ x < W.heap.size
  o2 : ∀ x, tv.ownBlock = some x → B ≤ x ∧ x < W.heap.size
structure RepB (B : Nat) (W : World) (b : Nat) (r : Rep) (fv pv : Value) : Prop where
  blk : Blk W b (r.arr fv pv) 38
  rin : RepIn W r fv pv
  o1 : ∀ x, fv.ownBlock = some x → B ≤ x ∧ x < W.heap.size
  o2 : ∀ x, pv.ownBlock = some x → B ≤ x ∧ x < W.heap.size
section
variable {B b : Nat} {W V : World} {c : Cmd} {r : Rep} {rv tv fv pv : Value}
theorem OpB.below (h : OpB B W b c rv tv) (hb : Below W.heap.size W V) : OpB B V b c rv tv :=
  ⟨h.blk.below hb, h.cin.below hb, fun x hx => ⟨(h.o1 x hx).1, Nat.lt_of_lt_of_le (h.o1 x hx).2 hb.size⟩, fun x hx => ⟨(h.o2 x hx).1, Nat.lt_of_lt_of_le (h.o2 x hx).2 hb.size⟩⟩
theorem OpB.keptR {bs : List Nat} (h : OpB B W b c rv tv) (k : KeptR bs W V) (hb : b ∉ bs) (hB : ∀ x ∈ bs, x < B) : OpB B V b c rv tv :=
  ⟨h.blk.keptR k hb, h.cin.keptR k (fun x hx hm => by have := (h.o1 x hx).1; have := hB x hm; omega) (fun x hx hm => by have := (h.o2 x hx).1; have := hB x hm; omega),
    fun x hx => ⟨(h.o1 x hx).1, Nat.lt_of_lt_of_le (h.o1 x hx).2 k.size⟩, fun x hx => ⟨(h.o2 x hx).1, Nat.lt_of_lt_of_le (h.o2 x hx).2 k.size⟩⟩
theorem RepB.below (h : RepB B W b r fv pv) (hb : Below W.heap.size W V) : RepB B V b r fv pv :=
  ⟨h.blk.below hb, h.rin.below hb, fun x hx => ⟨(h.o1 x hx).1, Nat.lt_of_lt_of_le (h.o1 x hx).2 hb.size⟩, fun x hx => ⟨(h.o2 x hx).1, Nat.lt_of_lt_of_le (h.o2 x hx).2 hb.size⟩⟩
theorem RepB.keptR {bs : List Nat} (h : RepB B W b r fv pv) (k : KeptR bs W V) (hb : b ∉ bs) (hB : ∀ x ∈ bs, x < B) : RepB B V b r fv pv :=
  ⟨h.blk.keptR k hb, h.rin.keptR k (fun x hx hm => by have := (h.o1 x hx).1; have := hB x hm; omega) (fun x hx hm => by have := (h.o2 x hx).1; have := hB x hm; omega),
    fun x hx => ⟨(h.o1 x hx).1, Nat.lt_of_lt_of_le (h.o1 x hx).2 k.size⟩, fun x hx => ⟨(h.o2 x hx).1, Nat.lt_of_lt_of_le (h.o2 x hx).2 k.size⟩⟩
/-- A command handed back, stored into its block. -/
theorem OpB.store {w1 : World} {c0 : Cmd} {rv0 tv0 : Value} (h : Blk w1 b (c0.arr rv0 tv0) 29) (g : CmdIn w1 c rv tv) (hbB : b < B)
    (o1 : ∀ x, rv.ownBlock = some x → B ≤ x ∧ x < w1.heap.size) (o2 : ∀ x, tv.ownBlock = some x → B ≤ x ∧ x < w1.heap.size)
    (hV : Blk V b (c.arr rv tv) 29 ∧ KeptR [b] w1 V) : OpB B V b c rv tv :=
  ⟨hV.1, g.keptR hV.2 (fun x hx hm => by have := (o1 x hx).1; simp at hm; omega) (fun x hx hm => by have := (o2 x hx).1; simp at hm; omega),
    fun x hx => ⟨(o1 x hx).1, Nat.lt_of_lt_of_le (o1 x hx).2 hV.2.size⟩, fun x hx => ⟨(o2 x hx).1, Nat.lt_of_lt_of_le (o2 x hx).2 hV.2.size⟩⟩
theorem RepB.store {w1 : World} (g : RepIn w1 r fv pv) (hbB : b < B)
    (o1 : ∀ x, fv.ownBlock = some x → B ≤ x ∧ x < w1.heap.size) (o2 : ∀ x, pv.ownBlock = some x → B ≤ x ∧ x < w1.heap.size)
    (hV : Blk V b (r.arr fv pv) 38 ∧ KeptR [b] w1 V) : RepB B V b r fv pv :=
  ⟨hV.1, g.keptR hV.2 (fun x hx hm => by have := (o1 x hx).1; simp at hm; omega) (fun x hx hm => by have := (o2 x hx).1; simp at hm; omega),
    fun x hx => ⟨(o1 x hx).1, Nat.lt_of_lt_of_le (o1 x hx).2 hV.2.size⟩, fun x hx => ⟨(o2 x hx).1, Nat.lt_of_lt_of_le (o2 x hx).2 hV.2.size⟩⟩
end
/-- Where the parameters lie. -/
theorem start1 (w : World) (A1 : Array Value) (T1 : TypeId) : ∃ W0, w.alloc (.cells A1 T1) = W0 ∧ Below w.heap.size w W0 ∧ Blk W0 w.heap.size A1 T1 ∧ W0.heap.size = w.heap.size + 1 :=
  ⟨_, rfl, below_all (Below.refl _ _), Blk.new w _ _, by simp⟩
theorem start2 (w : World) (A1 A2 : Array Value) (T1 T2 : TypeId) : ∃ W0, (w.alloc (.cells A1 T1)).alloc (.cells A2 T2) = W0 ∧ Below w.heap.size w W0 ∧ Blk W0 w.heap.size A1 T1 ∧ Blk W0 (w.heap.size + 1) A2 T2 ∧ W0.heap.size = w.heap.size + 1 + 1 := by
  have h := Blk.new (w.alloc (.cells A1 T1)) A2 T2
  rw [World.size_alloc] at h
  exact ⟨_, rfl, below_all (below_all (Below.refl _ _)), (Blk.new w _ _).alloc _, h, by simp⟩
theorem start3 (w : World) (A1 A2 A3 : Array Value) (T1 T2 T3 : TypeId) : ∃ W0, ((w.alloc (.cells A1 T1)).alloc (.cells A2 T2)).alloc (.cells A3 T3) = W0 ∧ Below w.heap.size w W0 ∧ Blk W0 w.heap.size A1 T1 ∧ Blk W0 (w.heap.size + 1) A2 T2 ∧ Blk W0 (w.heap.size + 1 + 1) A3 T3 ∧ W0.heap.size = w.heap.size + 1 + 1 + 1 := by
  obtain ⟨W1, e, B, X, Y, sz⟩ := start2 w A1 A2 T1 T2
  rw [e]
  have h := Blk.new W1 A3 T3
  rw [sz] at h
  exact ⟨_, rfl, B.alloc B.size _, X.alloc _, Y.alloc _, h, by simp [sz]⟩
/-- A command, or a reply, stored into its block. -/
theorem setOp {W : World} {g : Nat} {c0 : Cmd} {rv0 tv0 : Value} (h : Blk W g (c0.arr rv0 tv0) 29) (c : Cmd) (rv tv : Value) :
    ∃ V, ((((((((((((((W.setCell ⟨g, 0, none⟩ (.int .i64 c.kind)).setCell ⟨g, 1, none⟩ (.string (S c.topic))).setCell ⟨g, 2, none⟩ (.int .i64 c.pn)).setCell ⟨g, 3, none⟩ (.int .i64 c.n)).setCell ⟨g, 4, none⟩ (.int .i64 c.off)).setCell ⟨g, 5, none⟩ (.int .i64 c.bp)).setCell ⟨g, 6, none⟩ (.int .i64 c.be)).setCell ⟨g, 7, none⟩ (.int .i64 c.bq)).setCell ⟨g, 8, none⟩ rv).setCell ⟨g, 9, none⟩ (.string (S c.group))).setCell ⟨g, 10, none⟩ (.string (S c.member))).setCell ⟨g, 11, none⟩ (.int .i64 c.gen)).setCell ⟨g, 12, none⟩ (.bool c.robin)).setCell ⟨g, 13, none⟩ tv) = V ∧ Blk V g (c.arr rv tv) 29 ∧ KeptR [g] W V :=
  ⟨_, rfl, (set14 h).1, (set14 h).2⟩
theorem setRep {W : World} {g : Nat} {r0 : Rep} {fv0 pv0 : Value} (h : Blk W g (r0.arr fv0 pv0) 38) (r : Rep) (fv pv : Value) :
    ∃ V, ((((((W.setCell ⟨g, 0, none⟩ (.int .i64 r.e)).setCell ⟨g, 1, none⟩ (.int .i64 r.off)).setCell ⟨g, 2, none⟩ (.int .i64 r.n)).setCell ⟨g, 3, none⟩ (.int .i64 r.gen)).setCell ⟨g, 4, none⟩ (fv)).setCell ⟨g, 5, none⟩ (pv)) = V ∧ Blk V g (r.arr fv pv) 38 ∧ KeptR [g] W V :=
  ⟨_, rfl, (set6 h).1, (set6 h).2⟩
/-- A whole struct loaded, a whole struct stored. -/
def aggload_blk : TypeDesc → Bool
  | .struct _ => true
  | .array _ _ => true
  | _ => false
theorem load_blk {w : World} {a : Act} {o : Oper} {b : Nat} {cs : Array Value} {T : TypeId} {x : Operand} {d : TypeDesc} (h : Blk w b cs T) (ho : o.op = .load T x) (hx : a.eval x = .pointer (some ⟨b, 0, none⟩))
    (hu : Try.prog.underlying T = some d) (hd : aggload_blk d = true) (hi : (Try.prog.info? T).map (·.size) = some cs.size) :
    (execOp a.eval o).run Try.prog w = .ok (.value (.agg cs)) w := by
  unfold execOp
  simp only [ho, hx, Instr.loadAt, Instr.sureAddr, Sem.run_bind, Sem.run_pure, Result.andThen_ok, run_loadVar_row w b T T cs (0, 0) d h hu (by cases d <;> first | rfl | (exact hd)) hi]
end Go.Proofs.Ythiliodmbipikaa
