/-
  Layer 4: a reply got.
-/
import Derived.Test.YthiliodmbipikaaGreatReqZ
import Derived.Test.YthiliodmbipikaaGreatSeg1
import Derived.Maps.AppendAt
set_option linter.unusedVariables false
set_option linter.unusedSimpArgs false
namespace Go.Proofs.YthiliodmbipikaaGreat
open Go.RowKit
attribute [local go_sem] ByteArray.extract_mk ByteArray.mk_append_mk

/-- What is got of a reply, as it lies in memory. -/
structure GotRep (s : List UInt8) (w w' : World) (r : Rep) (fv pv : Value) (n : Nat) : Prop where
  got : Got repCheck repText zrep s r n
  rin : RepIn w' r fv pv
  bd : RepBd r
  own1 : ∀ b, fv.ownBlock = some b → w.heap.size ≤ b ∧ b < w'.heap.size
  own2 : ∀ b, pv.ownBlock = some b → w.heap.size ≤ b ∧ b < w'.heap.size
  bel : Below w.heap.size w w'
def ParseRep (f : FuncId) (s : List UInt8) (w : World) : Prop :=
  Calls Tryz.prog f #[.string (S s)] w fun x w' => ∃ r fv pv n, x = .returned (.tuple #[.agg (r.arr fv pv), .int .i64 (n : Nat)]) ∧ GotRep s w w' r fv pv n
theorem ParseRep.intro {f : FuncId} {s : List UInt8} {w : World} (h : ∀ R : Ending → World → Prop, Hid (∀ w' r fv pv n, GotRep s w w' r fv pv n → R (.returned (.tuple #[.agg (r.arr fv pv), .int .i64 (n : Nat)])) w') → Calls Tryz.prog f #[.string (S s)] w R) : ParseRep f s w :=
  h _ fun w' r fv pv n h1 => ⟨r, fv, pv, n, rfl, h1⟩
theorem ParseRep.use {f : FuncId} {s : List UInt8} {w : World} {R : Ending → World → Prop} (h : ParseRep f s w) (k : ∀ w' r fv pv n, GotRep s w w' r fv pv n → R (.returned (.tuple #[.agg (r.arr fv pv), .int .i64 (n : Nat)])) w') : Calls Tryz.prog f #[.string (S s)] w R :=
  h.mono fun x w' ⟨r, fv, pv, n, he, h1⟩ => by subst he; exact k w' r fv pv n h1
theorem zrep_in (w : World) : RepIn w zrep (.slice none 0 0) (.slice none 0 0) := ⟨.inl ⟨rfl, _, _, rfl⟩, .inl ⟨rfl, _, _, rfl⟩⟩
theorem zrep_bd : RepBd zrep := ⟨⟨by simp [zrep], by simp [zrep]⟩, ⟨by simp [zrep], by simp [zrep]⟩⟩
/-- The blocks of Parse. -/
structure PI4 (w0 W : World) (s : List UInt8) (a e ev fo pn : Int) (xv : Array Value) : Prop where
  rs : Blk W w0.heap.size #[.int .i64 0, .int .i64 0, .int .i64 0, .int .i64 0, .slice none 0 0, .slice none 0 0] 58
  rd : Blk W (w0.heap.size + 1) (rdr s a e) 48
  x : Blk W (w0.heap.size + 1 + 1) xv 58
  eb : Blk W (w0.heap.size + 1 + 1 + 1) #[.int .i64 ev] 3
  fb : Blk W (w0.heap.size + 1 + 1 + 1 + 1) #[.int .i64 fo] 3
  pb : Blk W (w0.heap.size + 1 + 1 + 1 + 1 + 1) #[.int .i64 pn] 3
  bel : Below w0.heap.size w0 W
section
variable {w0 W V : World} {s : List UInt8} {a e a' e' ev fo pn v : Int} {xv xv' : Array Value}
theorem PI4.setE (h : PI4 w0 W s a e ev fo pn xv) (p1 : Blk V (w0.heap.size + 1) (rdr s a' e') 48) (q1 : Blk V (w0.heap.size + 1 + 1 + 1) #[.int .i64 v] 3) (k : KeptR [w0.heap.size + 1, w0.heap.size + 1 + 1 + 1] W V) : PI4 w0 V s a' e' v fo pn xv :=
  ⟨h.rs.keptR k (by simp; omega), p1, h.x.keptR k (by simp; try omega), q1, h.fb.keptR k (by simp; try omega), h.pb.keptR k (by simp; try omega), k.toBelow h.bel (by simp; try omega)⟩
theorem PI4.setX (h : PI4 w0 W s a e ev fo pn xv) (p1 : Blk V (w0.heap.size + 1) (rdr s a' e') 48) (q1 : Blk V (w0.heap.size + 1 + 1) xv' 58) (k : KeptR [w0.heap.size + 1, w0.heap.size + 1 + 1] W V) : PI4 w0 V s a' e' ev fo pn xv' :=
  ⟨h.rs.keptR k (by simp; omega), p1, q1, h.eb.keptR k (by simp; try omega), h.fb.keptR k (by simp; try omega), h.pb.keptR k (by simp; try omega), k.toBelow h.bel (by simp; try omega)⟩
theorem PI4.setF (h : PI4 w0 W s a e ev fo pn xv) (p1 : Blk V (w0.heap.size + 1) (rdr s a' e') 48) (q1 : Blk V (w0.heap.size + 1 + 1 + 1 + 1) #[.int .i64 v] 3) (k : KeptR [w0.heap.size + 1, w0.heap.size + 1 + 1 + 1 + 1] W V) : PI4 w0 V s a' e' ev v pn xv :=
  ⟨h.rs.keptR k (by simp; omega), p1, h.x.keptR k (by simp; try omega), h.eb.keptR k (by simp; try omega), q1, h.pb.keptR k (by simp; try omega), k.toBelow h.bel (by simp; try omega)⟩
theorem PI4.setP (h : PI4 w0 W s a e ev fo pn xv) (p1 : Blk V (w0.heap.size + 1) (rdr s a' e') 48) (q1 : Blk V (w0.heap.size + 1 + 1 + 1 + 1 + 1) #[.int .i64 v] 3) (k : KeptR [w0.heap.size + 1, w0.heap.size + 1 + 1 + 1 + 1 + 1] W V) : PI4 w0 V s a' e' ev fo v xv :=
  ⟨h.rs.keptR k (by simp; omega), p1, h.x.keptR k (by simp; try omega), h.eb.keptR k (by simp; try omega), h.fb.keptR k (by simp; try omega), q1, k.toBelow h.bel (by simp; try omega)⟩
end
theorem prtInfo : (Tryz.prog.info? 23).map (fun i => (i.zero, i.size, i.bytes)) = some (some (.agg #[.string (S []), .int .i64 0]), 2, 24) := by kernel_rfl
/-- The blocks of Parse, and its rows. -/
structure FI4 (w0 W : World) (s : List UInt8) (a e ev fo pn v1 v2 v3 v4 : Int) (fv pv : Value) (fs : List Fnd) (ps : List Prt) : Prop where
  i : PI4 w0 W s a e ev fo pn #[.int .i64 v1, .int .i64 v2, .int .i64 v3, .int .i64 v4, fv, pv]
  own : W.ownsRow w0.heap.size 95 5 fv fs.length (fs.flatMap Fnd.cells)
  ownp : W.ownsRow w0.heap.size 23 2 pv ps.length (ps.flatMap Prt.cells)
section
variable {w0 W V : World} {s : List UInt8} {a e a' e' ev fo pn v v1 v2 v3 v4 : Int} {fv pv fv' pv' : Value} {fs : List Fnd} {ps : List Prt}
theorem FI4.lt (h : FI4 w0 W s a e ev fo pn v1 v2 v3 v4 fv pv fs ps) : w0.heap.size + 1 + 1 + 1 + 1 + 1 < W.heap.size := h.i.pb.lt
theorem FI4.on (h : FI4 w0 W s a e ev fo pn v1 v2 v3 v4 fv pv fs ps) (p1 : Blk V (w0.heap.size + 1) (rdr s a' e') 48) (k : KeptR [w0.heap.size + 1] W V) : FI4 w0 V s a' e' ev fo pn v1 v2 v3 v4 fv pv fs ps :=
  ⟨⟨h.i.rs.keptR k (by simp), p1, h.i.x.keptR k (by simp), h.i.eb.keptR k (by simp; try omega), h.i.fb.keptR k (by simp; try omega), h.i.pb.keptR k (by simp; try omega), k.toBelow h.i.bel (by simp; try omega)⟩,
    own_keptR h.own k (fun b hb hm => own_ne h.own h.i.rd (by decide) (by rw [hb, List.mem_singleton.1 hm])), own_keptR h.ownp k (fun b hb hm => own_ne h.ownp h.i.rd (by decide) (by rw [hb, List.mem_singleton.1 hm]))⟩
theorem FI4.away {bs : List Nat} (h : FI4 w0 W s a e ev fo pn v1 v2 v3 v4 fv pv fs ps) (k : KeptR bs W V) (hb : ∀ b ∈ bs, w0.heap.size + 1 + 1 + 1 + 1 + 1 < b) (h1 : ∀ b, fv.ownBlock = some b → b ∉ bs) (h2 : ∀ b, pv.ownBlock = some b → b ∉ bs) : FI4 w0 V s a e ev fo pn v1 v2 v3 v4 fv pv fs ps :=
  ⟨⟨h.i.rs.keptR k (fun m => by have := hb _ m; omega), h.i.rd.keptR k (fun m => by have := hb _ m; omega), h.i.x.keptR k (fun m => by have := hb _ m; omega), h.i.eb.keptR k (fun m => by have := hb _ m; omega), h.i.fb.keptR k (fun m => by have := hb _ m; omega), h.i.pb.keptR k (fun m => by have := hb _ m; omega), k.toBelow h.i.bel (fun b m => by have := hb _ m; omega)⟩,
    own_keptR h.own k h1, own_keptR h.ownp k h2⟩
theorem FI4.bel' (h : FI4 w0 W s a e ev fo pn v1 v2 v3 v4 fv pv fs ps) (hb : Below W.heap.size W V) : FI4 w0 V s a e ev fo pn v1 v2 v3 v4 fv pv fs ps := h.away ((KeptR.refl [] W).bel hb) (by simp) (by simp) (by simp)
theorem FI4.appF {f : Fnd} (h : FI4 w0 W s a e ev fo pn v1 v2 v3 v4 fv pv fs ps) (g : W.grownBy V fv.ownBlock) (o : V.ownsRow w0.heap.size 95 5 fv' (fs.length + 1) (fs.flatMap Fnd.cells ++ f.cells)) :
    FI4 w0 (V.setCell ⟨w0.heap.size + 1 + 1, 4, none⟩ fv') s a e ev fo pn v1 v2 v3 v4 fv' pv (fs ++ [f]) ps := by
  have hx := h.i.x.grown g (own_ne h.own h.i.x (by decide))
  have B0 : Below w0.heap.size w0 V := ⟨g.os.trans h.i.bel.os, g.tape.trans h.i.bel.tape, g.output.trans h.i.bel.output, Nat.le_trans h.i.bel.size g.size, fun k hk => (g.block k (Nat.lt_of_lt_of_le hk h.i.bel.size) (fun e1 => by have := (h.own.lt k e1.symm).1; omega)).trans (h.i.bel.block k hk)⟩
  have G2 : V.grownBy (V.setCell ⟨w0.heap.size + 1 + 1, 4, none⟩ fv') (some (w0.heap.size + 1 + 1)) := grown_set (grown_refl _ _) _ _
  refine ⟨⟨(h.i.rs.grown g (own_ne h.own h.i.rs (by decide))).setOther (by simp; try omega) _, (h.i.rd.grown g (own_ne h.own h.i.rd (by decide))).setOther (by simp; try omega) _, hx.set 4 fv', (h.i.eb.grown g (own_ne h.own h.i.eb (by decide))).setOther (by simp; try omega) _, (h.i.fb.grown g (own_ne h.own h.i.fb (by decide))).setOther (by simp; try omega) _, (h.i.pb.grown g (own_ne h.own h.i.pb (by decide))).setOther (by simp; try omega) _, B0.setCell (p := ⟨w0.heap.size + 1 + 1, 4, none⟩) (by simp; try omega) _⟩, ?_, ?_⟩
  · have := o.kept G2 (.inr (Ne.symm (own_ne o hx (by decide))))
    simpa using this
  · have hne : pv.ownBlock = none ∨ pv.ownBlock ≠ fv.ownBlock := by
      rcases h.ownp.2 with ⟨rfl, _⟩ | ⟨q, cap, cur, rfl, _, hq, _⟩
      · exact .inl rfl
      · refine .inr fun e1 => ?_
        rcases h.own.2 with ⟨rfl, _⟩ | ⟨q2, cap2, cur2, rfl, _, hq2, _⟩
        · simp [Value.ownBlock] at e1
        · simp only [Value.ownBlock, Option.some.injEq] at e1
          subst e1
          rw [hq] at hq2
          simp only [Option.some.injEq, Obj.cells.injEq] at hq2
          exact absurd hq2.2.1 (by decide)
    have op := h.ownp.kept g hne
    exact op.kept G2 (.inr (Ne.symm (own_ne op hx (by decide))))
theorem FI4.appP {f : Prt} (h : FI4 w0 W s a e ev fo pn v1 v2 v3 v4 fv pv fs ps) (g : W.grownBy V pv.ownBlock) (o : V.ownsRow w0.heap.size 23 2 pv' (ps.length + 1) (ps.flatMap Prt.cells ++ f.cells)) :
    FI4 w0 (V.setCell ⟨w0.heap.size + 1 + 1, 5, none⟩ pv') s a e ev fo pn v1 v2 v3 v4 fv pv' fs (ps ++ [f]) := by
  have hx := h.i.x.grown g (own_ne h.ownp h.i.x (by decide))
  have B0 : Below w0.heap.size w0 V := ⟨g.os.trans h.i.bel.os, g.tape.trans h.i.bel.tape, g.output.trans h.i.bel.output, Nat.le_trans h.i.bel.size g.size, fun k hk => (g.block k (Nat.lt_of_lt_of_le hk h.i.bel.size) (fun e1 => by have := (h.ownp.lt k e1.symm).1; omega)).trans (h.i.bel.block k hk)⟩
  have G2 : V.grownBy (V.setCell ⟨w0.heap.size + 1 + 1, 5, none⟩ pv') (some (w0.heap.size + 1 + 1)) := grown_set (grown_refl _ _) _ _
  refine ⟨⟨(h.i.rs.grown g (own_ne h.ownp h.i.rs (by decide))).setOther (by simp; try omega) _, (h.i.rd.grown g (own_ne h.ownp h.i.rd (by decide))).setOther (by simp; try omega) _, hx.set 5 pv', (h.i.eb.grown g (own_ne h.ownp h.i.eb (by decide))).setOther (by simp; try omega) _, (h.i.fb.grown g (own_ne h.ownp h.i.fb (by decide))).setOther (by simp; try omega) _, (h.i.pb.grown g (own_ne h.ownp h.i.pb (by decide))).setOther (by simp; try omega) _, B0.setCell (p := ⟨w0.heap.size + 1 + 1, 5, none⟩) (by simp; try omega) _⟩, ?_, ?_⟩
  · have hne : fv.ownBlock = none ∨ fv.ownBlock ≠ pv.ownBlock := by
      rcases h.own.2 with ⟨rfl, _⟩ | ⟨q, cap, cur, rfl, _, hq, _⟩
      · exact .inl rfl
      · refine .inr fun e1 => ?_
        rcases h.ownp.2 with ⟨rfl, _⟩ | ⟨q2, cap2, cur2, rfl, _, hq2, _⟩
        · simp [Value.ownBlock] at e1
        · simp only [Value.ownBlock, Option.some.injEq] at e1
          subst e1
          rw [hq] at hq2
          simp only [Option.some.injEq, Obj.cells.injEq] at hq2
          exact absurd hq2.2.1 (by decide)
    have op := h.own.kept g hne
    exact op.kept G2 (.inr (Ne.symm (own_ne op hx (by decide))))
  · have := o.kept G2 (.inr (Ne.symm (own_ne o hx (by decide))))
    simpa using this
end
theorem frA4 {W1 w2 : World} (cs : Array Value) (T : TypeId) (hb : Below W1.drew.heap.size W1.drew w2) : Below W1.heap.size W1 (w2.alloc (.cells cs T)) ∧ Blk (w2.alloc (.cells cs T)) w2.heap.size cs T ∧ W1.heap.size ≤ w2.heap.size :=
  have h : Below W1.heap.size W1 w2 := (Below.refl _ _).drew.trans hb
  ⟨below_all h, Blk.new _ _ _, h.size⟩
theorem frB4 {W1 w2 : World} {T : TypeId} {x0 x1 x2 x3 : Value} (v0 v1 v2 v3 : Value) (hb : Below (W1.alloc (.cells #[x0, x1, x2, x3] T)).drew.heap.size (W1.alloc (.cells #[x0, x1, x2, x3] T)).drew w2) :
    Below W1.heap.size W1 ((((w2.setCell ⟨W1.heap.size, 0, none⟩ v0).setCell ⟨W1.heap.size, 1, none⟩ v1).setCell ⟨W1.heap.size, 2, none⟩ v2).setCell ⟨W1.heap.size, 3, none⟩ v3) ∧
    Blk ((((w2.setCell ⟨W1.heap.size, 0, none⟩ v0).setCell ⟨W1.heap.size, 1, none⟩ v1).setCell ⟨W1.heap.size, 2, none⟩ v2).setCell ⟨W1.heap.size, 3, none⟩ v3) W1.heap.size #[v0, v1, v2, v3] T ∧ W1.heap.size ≤ W1.heap.size := by
  have h1 : Below W1.heap.size W1 w2 := below_any (Nat.le_refl _) (below_all (o := .cells #[x0, x1, x2, x3] T) (Below.refl _ _)) ((Below.refl _ _).drew.trans hb)
  have h2 : Blk w2 W1.heap.size #[x0, x1, x2, x3] T := Blk.below (Blk.new W1 _ _) ((Below.refl _ _).drew.trans hb)
  refine ⟨?_, (((h2.set 0 v0).set 1 v1).set 2 v2).set 3 v3, Nat.le_refl _⟩
  exact (((h1.setCell (p := ⟨W1.heap.size, 0, none⟩) (Nat.le_refl _) _).setCell (p := ⟨W1.heap.size, 1, none⟩) (Nat.le_refl _) _).setCell (p := ⟨W1.heap.size, 2, none⟩) (Nat.le_refl _) _).setCell (p := ⟨W1.heap.size, 3, none⟩) (Nat.le_refl _) _
theorem rdA4 {W1 w2 : World} {b : Nat} {cs : Array Value} {T : TypeId} (h : Blk W1 b cs T) (hb : Below W1.drew.heap.size W1.drew w2) : Blk w2 b cs T := Blk.below (w := W1.drew) h hb
theorem rdB4 {W1 w2 : World} {b : Nat} {cs : Array Value} {T : TypeId} {o : Obj} (h : Blk W1 b cs T) (hb : Below (W1.alloc o).drew.heap.size (W1.alloc o).drew w2) : Blk w2 b cs T := Blk.below (w := (W1.alloc o).drew) (h.alloc o) hb
theorem set4at {W : World} {g : Nat} {T : TypeId} {u0 u1 u2 u3 u4 : Value} (v1 v2 v3 v4 : Value) (h : Blk W g #[u0, u1, u2, u3, u4] T) :
    Blk ((((W.setCell ⟨g, 1, none⟩ v1).setCell ⟨g, 2, none⟩ v2).setCell ⟨g, 3, none⟩ v3).setCell ⟨g, 4, none⟩ v4) g #[u0, v1, v2, v3, v4] T ∧ KeptR [g] W ((((W.setCell ⟨g, 1, none⟩ v1).setCell ⟨g, 2, none⟩ v2).setCell ⟨g, 3, none⟩ v3).setCell ⟨g, 4, none⟩ v4) :=
  ⟨(((h.set 1 v1).set 2 v2).set 3 v3).set 4 v4, (((((KeptR.refl [g] W).set (by simp) 1 v1).set (by simp) 2 v2).set (by simp) 3 v3).set (by simp) 4 v4)⟩
theorem FI4.setP {w0 W V : World} {s : List UInt8} {a e a' e' ev fo pn v v1 v2 v3 v4 : Int} {fv pv : Value} {fs : List Fnd} {ps : List Prt} (h : FI4 w0 W s a e ev fo pn v1 v2 v3 v4 fv pv fs ps)
    (p1 : Blk V (w0.heap.size + 1) (rdr s a' e') 48) (q1 : Blk V (w0.heap.size + 1 + 1 + 1 + 1 + 1) #[.int .i64 v] 3) (k : KeptR [w0.heap.size + 1, w0.heap.size + 1 + 1 + 1 + 1 + 1] W V) : FI4 w0 V s a' e' ev fo v v1 v2 v3 v4 fv pv fs ps := by
  have key : ∀ {n size : Nat} {el : TypeId} {u : Value} {xs : List Value}, W.ownsRow w0.heap.size el size u n xs → 48 ≠ el → 3 ≠ el → ∀ b, u.ownBlock = some b → b ∉ [w0.heap.size + 1, w0.heap.size + 1 + 1 + 1 + 1 + 1] := by
    intro n size el u xs ho h1 h2 b hb hm
    have n1 := own_ne ho h.i.rd h1
    have n2 := own_ne ho h.i.pb h2
    rw [hb] at n1 n2
    simp only [List.mem_cons, List.not_mem_nil, or_false] at hm
    rcases hm with rfl | rfl
    · exact n1 rfl
    · exact n2 rfl
  exact ⟨h.i.setP p1 q1 k, own_keptR h.own k (key h.own (by decide) (by decide)), own_keptR h.ownp k (key h.ownp (by decide) (by decide))⟩
theorem news_prt {W : World} (f : Prt) {s : Nat} (hs : W.heap.size = s) : ∀ j u, f.cells[j]? = some u → (W.alloc (.cells f.cells.toArray 23)).cell? ((⟨s, 0, none⟩ : Addr).add j) = some u := by
  subst hs
  exact World.news_of_block (cs := f.cells.toArray) (t := 23) (fr := (0, 0)) (heap_alloc_new W _)
theorem pcells_get (l : List Prt) : ∀ (i : Nat) (h : i < l.length) (j : Nat) (u : Value), (l[i].cells)[j]? = some u → (l.flatMap Prt.cells)[i * 2 + j]? = some u := by
  induction l with
  | nil => intro i h; simp at h
  | cons a l ih =>
    intro i h j u hu
    have hl : a.cells.length = 2 := rfl
    rw [List.flatMap_cons]
    cases i with
    | zero =>
      simp only [List.getElem_cons_zero] at hu
      have hj : j < a.cells.length := (List.getElem?_eq_some_iff.1 hu).1
      rw [List.getElem?_append_left (by omega), Nat.zero_mul, Nat.zero_add]
      exact hu
    | succ i =>
      rw [List.getElem?_append_right (by rw [hl]; omega), hl, show (i + 1) * 2 + j - 2 = i * 2 + j by omega]
      exact ih i (by simpa using h) j u (by simpa using hu)
theorem prts_own {w : World} {B : Nat} {v : Value} {l : List Prt} (h : w.ownsRow B 23 2 v l.length (l.flatMap Prt.cells)) : PartsIn w v l := by
  rcases id h.2 with ⟨rfl, h0⟩ | ⟨g, cap, cur, rfl, hbg, hg, rest⟩
  · exact .inl ⟨List.eq_nil_of_length_eq_zero h0, _, _, rfl⟩
  · by_cases hl : l = []
    · subst hl; exact .inl ⟨rfl, _, _, rfl⟩
    · refine .inr ⟨g, 0, cap, rfl, hl, (Array.getElem?_eq_some_iff.1 hg).1, fun i hi => ?_⟩
      have hadd : ∀ j, (⟨g, 0, none⟩ : Addr).add j = ⟨g, j, none⟩ := fun j => by unfold Addr.add; split <;> simp_all
      have key : ∀ j u, (l[i].cells)[j]? = some u → w.cell? ⟨g, i * 2 + j, none⟩ = some u := fun j u hu => by
        have := h.cells (g := g) rfl (i * 2 + j) u (pcells_get l i hi j u hu)
        rwa [hadd] at this
      refine ⟨?_, ?_⟩
      · have := key 0 (.string (S l[i].1)) rfl
        simpa using this
      · have := key 1 (.int .i64 l[i].2) rfl
        simpa using this
theorem set6 {W : World} {g : Nat} {T : TypeId} {v0 v1 v2 v3 v4 v5 u0 u1 u2 u3 u4 u5 : Value} (h : Blk W g #[u0, u1, u2, u3, u4, u5] T) :
    Blk ((((((W.setCell ⟨g, 0, none⟩ v0).setCell ⟨g, 1, none⟩ v1).setCell ⟨g, 2, none⟩ v2).setCell ⟨g, 3, none⟩ v3).setCell ⟨g, 4, none⟩ v4).setCell ⟨g, 5, none⟩ v5) g #[v0, v1, v2, v3, v4, v5] T ∧
      KeptR [g] W ((((((W.setCell ⟨g, 0, none⟩ v0).setCell ⟨g, 1, none⟩ v1).setCell ⟨g, 2, none⟩ v2).setCell ⟨g, 3, none⟩ v3).setCell ⟨g, 4, none⟩ v4).setCell ⟨g, 5, none⟩ v5) :=
  ⟨(((((h.set 0 v0).set 1 v1).set 2 v2).set 3 v3).set 4 v4).set 5 v5, ((((((KeptR.refl [g] W).set (by simp) 0 v0).set (by simp) 1 v1).set (by simp) 2 v2).set (by simp) 3 v3).set (by simp) 4 v4).set (by simp) 5 v5⟩
/-- The world ahead of the loop. -/
def W7 (s : List UInt8) (w : World) : World :=
  ((((((w.alloc (.cells #[.int .i64 0, .int .i64 0, .int .i64 0, .int .i64 0, .slice none 0 0, .slice none 0 0] 58)).alloc (.cells #[.string (S s), .int .i64 0, .int .i64 0] 48)).alloc (.cells #[.int .i64 0, .int .i64 0, .int .i64 0, .int .i64 0, .slice none 0 0, .slice none 0 0] 58)).alloc (.cells #[.int .i64 0] 3)).alloc (.cells #[.int .i64 0] 3)).alloc (.cells #[.int .i64 0] 3)).alloc
    (.cells #[.pointer (some ⟨w.heap.size + 1 + 1 + 1, 0, none⟩), .pointer (some ⟨w.heap.size + 1 + 1, 1, none⟩), .pointer (some ⟨w.heap.size + 1 + 1, 2, none⟩), .pointer (some ⟨w.heap.size + 1 + 1, 3, none⟩), .pointer (some ⟨w.heap.size + 1 + 1 + 1 + 1, 0, none⟩)] 50)
theorem pi4_start (s : List UInt8) (w : World) : PI4 w (W7 s w) s 0 0 0 0 0 #[.int .i64 0, .int .i64 0, .int .i64 0, .int .i64 0, .slice none 0 0, .slice none 0 0] ∧
    Blk (W7 s w) (w.heap.size + 1 + 1 + 1 + 1 + 1 + 1) #[.pointer (some ⟨w.heap.size + 1 + 1 + 1, 0, none⟩), .pointer (some ⟨w.heap.size + 1 + 1, 1, none⟩), .pointer (some ⟨w.heap.size + 1 + 1, 2, none⟩), .pointer (some ⟨w.heap.size + 1 + 1, 3, none⟩), .pointer (some ⟨w.heap.size + 1 + 1 + 1 + 1, 0, none⟩)] 50 := by
  have n0 := Blk.new w #[.int .i64 0, .int .i64 0, .int .i64 0, .int .i64 0, .slice none 0 0, .slice none 0 0] 58
  have n1 := Blk.new (w.alloc (.cells #[.int .i64 0, .int .i64 0, .int .i64 0, .int .i64 0, .slice none 0 0, .slice none 0 0] 58)) #[.string (S s), .int .i64 0, .int .i64 0] 48
  have n2 := Blk.new ((w.alloc (.cells #[.int .i64 0, .int .i64 0, .int .i64 0, .int .i64 0, .slice none 0 0, .slice none 0 0] 58)).alloc (.cells #[.string (S s), .int .i64 0, .int .i64 0] 48)) #[.int .i64 0, .int .i64 0, .int .i64 0, .int .i64 0, .slice none 0 0, .slice none 0 0] 58
  have n3 := Blk.new (((w.alloc (.cells #[.int .i64 0, .int .i64 0, .int .i64 0, .int .i64 0, .slice none 0 0, .slice none 0 0] 58)).alloc (.cells #[.string (S s), .int .i64 0, .int .i64 0] 48)).alloc (.cells #[.int .i64 0, .int .i64 0, .int .i64 0, .int .i64 0, .slice none 0 0, .slice none 0 0] 58)) #[.int .i64 0] 3
  have n4 := Blk.new ((((w.alloc (.cells #[.int .i64 0, .int .i64 0, .int .i64 0, .int .i64 0, .slice none 0 0, .slice none 0 0] 58)).alloc (.cells #[.string (S s), .int .i64 0, .int .i64 0] 48)).alloc (.cells #[.int .i64 0, .int .i64 0, .int .i64 0, .int .i64 0, .slice none 0 0, .slice none 0 0] 58)).alloc (.cells #[.int .i64 0] 3)) #[.int .i64 0] 3
  have n5 := Blk.new (((((w.alloc (.cells #[.int .i64 0, .int .i64 0, .int .i64 0, .int .i64 0, .slice none 0 0, .slice none 0 0] 58)).alloc (.cells #[.string (S s), .int .i64 0, .int .i64 0] 48)).alloc (.cells #[.int .i64 0, .int .i64 0, .int .i64 0, .int .i64 0, .slice none 0 0, .slice none 0 0] 58)).alloc (.cells #[.int .i64 0] 3)).alloc (.cells #[.int .i64 0] 3)) #[.int .i64 0] 3
  have n6 := Blk.new ((((((w.alloc (.cells #[.int .i64 0, .int .i64 0, .int .i64 0, .int .i64 0, .slice none 0 0, .slice none 0 0] 58)).alloc (.cells #[.string (S s), .int .i64 0, .int .i64 0] 48)).alloc (.cells #[.int .i64 0, .int .i64 0, .int .i64 0, .int .i64 0, .slice none 0 0, .slice none 0 0] 58)).alloc (.cells #[.int .i64 0] 3)).alloc (.cells #[.int .i64 0] 3)).alloc (.cells #[.int .i64 0] 3)) #[.pointer (some ⟨w.heap.size + 1 + 1 + 1, 0, none⟩), .pointer (some ⟨w.heap.size + 1 + 1, 1, none⟩), .pointer (some ⟨w.heap.size + 1 + 1, 2, none⟩), .pointer (some ⟨w.heap.size + 1 + 1, 3, none⟩), .pointer (some ⟨w.heap.size + 1 + 1 + 1 + 1, 0, none⟩)] 50
  simp only [World.size_alloc] at n1 n2 n3 n4 n5 n6
  exact ⟨⟨(((((n0.alloc _).alloc _).alloc _).alloc _).alloc _).alloc _, ((((n1.alloc _).alloc _).alloc _).alloc _).alloc _, (((n2.alloc _).alloc _).alloc _).alloc _, ((n3.alloc _).alloc _).alloc _, (n4.alloc _).alloc _, n5.alloc _, below_all (below_all (below_all (below_all (below_all (below_all (below_all (Below.refl _ _)))))))⟩, n6⟩
set_option maxHeartbeats 8000000 in
set_option maxRecDepth 100000 in
theorem parse4 (s : List UInt8) (w : World) (hl9 : s.length ≤ 900000) : ParseRep 18 s w := by
  refine ParseRep.intro fun R hR => ?_
  have HL : Hid (s.length ≤ maxLen) := Lib.hid (by unfold maxLen; omega)
  have HL9 := Lib.hid hl9
  clear hl9
  go_enter Tryz.func18, Tryz.ntmps18
  go_wp2_with fail
  refine wp_loop_rounds 6 ?_
  rw [rounds_succ]
  go_wp2_with fail
  refine (show Calls Tryz.prog 12 _ (W7 s w) _ from ?_)
  obtain ⟨I0, P0⟩ := pi4_start s w
  generalize W7 s w = w0 at I0 P0 ⊢
  have cc1 := Lib.hid (r_number s 0 0 (w.heap.size + 1) (w.heap.size + 1 + 1 + 1) 0 #[.int .i64 0] 3 w0 HL.out I0.rd I0.eb (by omega) rfl)
  refine cc1.out.use ?_
  intro w1 v1 a1 e1 p1 q1 k1 s1
  have qq1 : Blk w1 (w.heap.size + 1 + 1 + 1) #[.int .i64 v1] 3 := q1
  have I1 := I0.setE p1 qq1 k1
  have P1 := P0.keptR k1 (by simp; omega)
  have S1 : Hid (NumS s 0 0 v1 a1 e1) := Lib.hid s1
  have z1 := P1.cell 1
  simp only [List.getElem?_toArray, List.getElem?_cons_succ, List.getElem?_cons_zero] at z1
  have y1 := P1.lt
  clear cc1 p1 qq1 q1 k1 s1 I0 P0
  have HI1 := Lib.hid I1
  have HP1 := Lib.hid P1
  clear I1 P1
  go_wp2_with fail
  rw [rounds_succ]
  go_wp2_with fail
  have I1 := HI1.out
  have P1 := HP1.out
  have cc2 := Lib.hid (r_number s a1 e1 (w.heap.size + 1) (w.heap.size + 1 + 1) 1 #[.int .i64 0, .int .i64 0, .int .i64 0, .int .i64 0, .slice none 0 0, .slice none 0 0] 58 w1 HL.out I1.rd I1.x (by omega) rfl)
  refine cc2.out.use ?_
  intro w2 v2 a2 e2 p2 q2 k2 s2
  have qq2 : Blk w2 (w.heap.size + 1 + 1) #[.int .i64 0, .int .i64 v2, .int .i64 0, .int .i64 0, .slice none 0 0, .slice none 0 0] 58 := q2
  have I2 := I1.setX p2 qq2 k2
  have P2 := P1.keptR k2 (by simp; omega)
  have S2 : Hid (NumS s a1 e1 v2 a2 e2) := Lib.hid s2
  have z2 := P2.cell 2
  simp only [List.getElem?_toArray, List.getElem?_cons_succ, List.getElem?_cons_zero] at z2
  have y2 := P2.lt
  clear cc2 p2 qq2 q2 k2 s2 I1 P1 z1 y1
  have HI2 := Lib.hid I2
  have HP2 := Lib.hid P2
  clear I2 P2
  go_wp2_with fail
  rw [rounds_succ]
  go_wp2_with fail
  have I2 := HI2.out
  have P2 := HP2.out
  have cc3 := Lib.hid (r_number s a2 e2 (w.heap.size + 1) (w.heap.size + 1 + 1) 2 #[.int .i64 0, .int .i64 v2, .int .i64 0, .int .i64 0, .slice none 0 0, .slice none 0 0] 58 w2 HL.out I2.rd I2.x (by omega) rfl)
  refine cc3.out.use ?_
  intro w3 v3 a3 e3 p3 q3 k3 s3
  have qq3 : Blk w3 (w.heap.size + 1 + 1) #[.int .i64 0, .int .i64 v2, .int .i64 v3, .int .i64 0, .slice none 0 0, .slice none 0 0] 58 := q3
  have I3 := I2.setX p3 qq3 k3
  have P3 := P2.keptR k3 (by simp; omega)
  have S3 : Hid (NumS s a2 e2 v3 a3 e3) := Lib.hid s3
  have z3 := P3.cell 3
  simp only [List.getElem?_toArray, List.getElem?_cons_succ, List.getElem?_cons_zero] at z3
  have y3 := P3.lt
  clear cc3 p3 qq3 q3 k3 s3 I2 P2 z2 y2
  have HI3 := Lib.hid I3
  have HP3 := Lib.hid P3
  clear I3 P3
  go_wp2_with fail
  rw [rounds_succ]
  go_wp2_with fail
  have I3 := HI3.out
  have P3 := HP3.out
  have cc4 := Lib.hid (r_number s a3 e3 (w.heap.size + 1) (w.heap.size + 1 + 1) 3 #[.int .i64 0, .int .i64 v2, .int .i64 v3, .int .i64 0, .slice none 0 0, .slice none 0 0] 58 w3 HL.out I3.rd I3.x (by omega) rfl)
  refine cc4.out.use ?_
  intro w4 v4 a4 e4 p4 q4 k4 s4
  have qq4 : Blk w4 (w.heap.size + 1 + 1) #[.int .i64 0, .int .i64 v2, .int .i64 v3, .int .i64 v4, .slice none 0 0, .slice none 0 0] 58 := q4
  have I4 := I3.setX p4 qq4 k4
  have P4 := P3.keptR k4 (by simp; omega)
  have S4 : Hid (NumS s a3 e3 v4 a4 e4) := Lib.hid s4
  have z4 := P4.cell 4
  simp only [List.getElem?_toArray, List.getElem?_cons_succ, List.getElem?_cons_zero] at z4
  have y4 := P4.lt
  clear cc4 p4 qq4 q4 k4 s4 I3 P3 z3 y3
  have HI4 := Lib.hid I4
  have HP4 := Lib.hid P4
  clear I4 P4
  go_wp2_with fail
  rw [rounds_succ]
  go_wp2_with fail
  have I4 := HI4.out
  have P4 := HP4.out
  have cc5 := Lib.hid (r_number s a4 e4 (w.heap.size + 1) (w.heap.size + 1 + 1 + 1 + 1) 0 #[.int .i64 0] 3 w4 HL.out I4.rd I4.fb (by omega) rfl)
  refine cc5.out.use ?_
  intro w5 v5 a5 e5 p5 q5 k5 s5
  have qq5 : Blk w5 (w.heap.size + 1 + 1 + 1 + 1) #[.int .i64 v5] 3 := q5
  have I5 := I4.setF p5 qq5 k5
  have P5 := P4.keptR k5 (by simp; omega)
  have S5 : Hid (NumS s a4 e4 v5 a5 e5) := Lib.hid s5
  have z5 := P5.cell 4
  simp only [List.getElem?_toArray, List.getElem?_cons_succ, List.getElem?_cons_zero] at z5
  have y5 := P5.lt
  clear cc5 p5 qq5 q5 k5 s5 I4 P4 z4 y4
  have HI5 := Lib.hid I5
  have HP5 := Lib.hid P5
  clear I5 P5
  go_wp2_with fail
  rw [rounds_succ]
  have x0 := HI5.out.eb.cell 0
  simp only [List.getElem?_toArray, List.getElem?_cons_succ, List.getElem?_cons_zero] at x0
  obtain ⟨kx, g0, g1, g2, g3, g4, g5⟩ := arr6_cells HI5.out.x
  have fx : ∀ i, w5.frozen? ⟨w.heap.size + 1 + 1, i, none⟩ = false := fun i => Blk.frozen HI5.out.x i
  go_wp2_with fail
  have hI0 : FI4 w (w5.setCell ⟨w.heap.size + 1 + 1, 0, none⟩ (.int .i64 v1)) s a5 e5 v1 v5 0 v1 v2 v3 v4 (.slice none 0 0) (.slice none 0 0) [] [] := by
    have h := HI5.out
    exact ⟨⟨h.rs.setOther (by simp; try omega) _, h.rd.setOther (by simp; try omega) _, h.x.set 0 _, h.eb.setOther (by simp; try omega) _, h.fb.setOther (by simp; try omega) _, h.pb.setOther (by simp; try omega) _, h.bel.setCell (p := ⟨w.heap.size + 1 + 1, 0, none⟩) (by simp; try omega) _⟩, World.ownsRow_nil _ _ _ _, World.ownsRow_nil _ _ _ _⟩
  have HF0 := Lib.hid hI0
  have HG0 : Hid (GRl fndText fGood (fun f : Fnd => RecBd f.r) s v5 a5 e5 0 [] a5 e5) := Lib.hid (GRl.start (fun h => by have := S5.out.go h; omega))
  clear hI0 x0 kx g0 g1 g2 g3 g4 g5 fx HI5 HP5 z5 y5
  generalize w5.setCell ⟨w.heap.size + 1 + 1, 0, none⟩ (.int .i64 v1) = wA at HF0 ⊢
  go_loopw [11, 12, 13, 14, 15] (fun (x11 x12 x13 x14 x15 : Value) (W : World) => ∃ (i : Nat) (fs : List Fnd) (fv : Value) (a e : Int), x11 = .int .i64 (i : Int) ∧ Hid (GRl fndText fGood (fun f : Fnd => RecBd f.r) s v5 a5 e5 i fs a e) ∧ Hid (FI4 w W s a e v1 v5 0 v1 v2 v3 v4 fv (.slice none 0 0) fs [])) (fun (x11 x12 x13 x14 x15 : Value) (W : World) => (s.length + 2 - intOf x11).toNat)
  case atStart => exact ⟨0, [], _, a5, e5, rfl, HG0, HF0⟩
  case round =>
    clear HF0 HG0
    obtain ⟨i, fs, fv, a, e, rfl, hG, hF⟩ := hrel
    have rd := hF.out.i.rd
    unfold rdr at rd
    obtain ⟨k0, x0, x1, x2⟩ := rd.c3
    have y0 := hF.out.i.fb.cell 0
    simp only [List.getElem?_toArray, List.getElem?_cons_zero] at y0
    clear rd
    by_cases hin : (i : Int) < v5
    · by_cases he : e = 0
      · subst he
        obtain rfl : i = fs.length := hG.out.len.symm
        have hlt := hF.out.lt
        have cN := Lib.hid (r_number s a 0 (w.heap.size + 1) wr.heap.size 0 #[.int .i64 0, .bool false, .string (S []), .bool false, .string (S [])] 95 (wr.alloc (.cells #[.int .i64 0, .bool false, .string (S []), .bool false, .string (S [])] 95)) HL.out (hF.out.i.rd.alloc _) (Blk.new wr _ _) (by omega) rfl)
        have t1 : decide ((fs.length : Int) < v5) = true := decide_eq_true hin
        go_wp2_with fail
        refine cN.out.use ?_
        intro w1 n a1 e1 p1 q1 k1 s1
        have q1 : Blk w1 wr.heap.size #[.int .i64 n, .bool false, .string (S []), .bool false, .string (S [])] 95 := q1
        have F1 := Lib.hid (hF.out.on p1 (KeptR.fresh k1 (by simp)))
        have hlt1 := q1.lt
        have Q1 := Lib.hid q1
        have S1 : Hid (NumS s a 0 n a1 e1) := Lib.hid s1
        obtain ⟨⟨r, t2, e2⟩, hv⟩ : ∃ m, mget s a1 = m := ⟨_, rfl⟩
        obtain ⟨⟨a3, e3, bb⟩, hm⟩ : ∃ m, mv a1 e1 t2 e2 = m := ⟨_, rfl⟩
        have ST := Lib.hid (step_fnd S1.out (step_rec hv hm).1)
        have SB := Lib.hid (step_rec hv hm).2
        have cG := Lib.hid (fun w => get3_any s a1 w HL.out)
        rw [hv] at cG
        have cM := Lib.hid (fun W => moved4 hm s (w.heap.size + 1) W)
        have rd := F1.out.i.rd
        unfold rdr at rd
        obtain ⟨kk0, xx0, xx1, xx2⟩ := rd.c3
        have OWB : Hid (∀ b, fv.ownBlock = some b → b < wr.heap.size) := Lib.hid (fun b hb => (hF.out.own.lt b hb).2)
        clear rd p1 q1 k1 s1 hv hm cN k0 x0 x1 x2 y0 t1
        obtain ⟨rk, rkey, rt, rval⟩ := r
        dsimp only at cG
        go_upto_region 15 with fail
        go_cut [13, 14, 15] (fun x13 x14 x15 wx => ∃ bx, x13 = .pointer (some ⟨bx, 0, none⟩) ∧ x14 = .int .i64 t2 ∧ x15 = .int .i64 e2 ∧ Hid (w1.heap.size ≤ bx ∧ Blk wx bx #[.bool rk, .string (S rkey), .bool rt, .string (S rval)] 35 ∧ Below w1.heap.size w1 wx))
        case first =>
          have RDh : Blk w1 (w.heap.size + 1) #[.string (S s), .int .i64 a1, .int .i64 e1] 48 := F1.out.i.rd
          have RDH := Lib.hid RDh
          clear RDh
          have hn1 : (w1.heap.size = w.heap.size + 1) = False := eq_false (by omega)
          have hn2 : (w.heap.size + 1 = w1.heap.size) = False := eq_false (by omega)
          have hn3 : w1.heap.size ≠ w.heap.size + 1 := by omega
          have hn4 : w.heap.size + 1 ≠ w1.heap.size := by omega
          go_region_held3 (fun w' => w'.cell? ⟨w.heap.size + 1, 0, none⟩ = some (.string (S s)) ∧ w'.cell? ⟨w.heap.size + 1, 1, none⟩ = some (.int .i64 a1)) (go_keep) (first | (go_at_call 40; refine (cG.out _).use ?_; intro w2 b2; have RD2 : Blk w2 (w.heap.size + 1) #[.string (S s), .int .i64 a1, .int .i64 e1] 48 := (by first | exact rdA4 RDH.out b2 | exact rdB4 RDH.out b2); obtain ⟨hk0, hx0, hx1, hx2⟩ := RD2.c3; have hc0 := fun (i : Nat) (h : w1.heap.size < _) => b2.cell (p := ⟨w1.heap.size, i, none⟩) h; have hf0 := fun (i : Nat) (h : w1.heap.size < _) => b2.frozen (p := ⟨w1.heap.size, i, none⟩) h))
          all_goals go_wp2_with fail
          all_goals go_meet
          all_goals first
            | (obtain ⟨P1, P2, P3⟩ := frA4 (W1 := w1) #[.bool rk, .string (S rkey), .bool rt, .string (S rval)] 35 b2
               exact ⟨_, rfl, rfl, rfl, Lib.hid ⟨P3, P2, P1⟩⟩)
            | (obtain ⟨P1, P2, P3⟩ := frB4 (.bool rk) (.string (S rkey)) (.bool rt) (.string (S rval)) b2
               exact ⟨_, rfl, rfl, rfl, Lib.hid ⟨P3, P2, P1⟩⟩)
        case rest =>
          obtain ⟨bx, rfl, rfl, rfl, HX⟩ := hcut
          have F2 := Lib.hid (F1.out.bel' HX.out.2.2)
          have Q2 := Lib.hid (Q1.out.below HX.out.2.2)
          go_wp2_with fail
          refine (cM.out _ F2.out.i.rd).mono ?_
          rintro ex w3 ⟨rfl, p3, g3⟩
          have F3 := Lib.hid (F2.out.on p3 g3)
          have Q3 := Lib.hid (Q2.out.keptR g3 (by simp; omega))
          have X3 := Lib.hid (HX.out.2.1.keptR g3 (by have := HX.out.1; simp; omega))
          clear p3 g3
          obtain ⟨i0, hi, hz0, hz1, hz2⟩ := info_parts fndInfo
          cases bb
          · simp only [Bool.false_eq_true, if_false] at ST SB
            dsimp only
            go_upto_region 18 with fail
            obtain ⟨kf, f0, f1, f2, f3, f4⟩ := arr5_cells Q3.out
            obtain ⟨kx, g0, g1, g2, g3, g4, g5⟩ := arr6_cells F3.out.i.x
            obtain ⟨fa, fc, rfl⟩ := own_form F3.out.own
            have FA := Lib.hid (F3.out.bel' (below_all (o := .cells #[.int .i64 n, .bool false, .string (S []), .bool false, .string (S [])] 95) (Below.refl _ _)))
            have hne := news_fnd (W := w3) (⟨n, ⟨false, [], false, []⟩⟩ : Fnd) (s := w3.heap.size) rfl
            unfold Fnd.cells Rec.cells at hne
            dsimp only at hne
            have hws := F3.out.i.bel.size
            have hle := hG.out.le
            have hl9 := HL9.out
            have GS := Lib.hid (hG.out.step hin (t := (⟨n, ⟨false, [], false, []⟩⟩ : Fnd)) ST.out SB.out)
            have OA := Lib.hid FA.out.own
            go_wp2_with (at_builtin; refine wpList_append_own_at _ rfl _ _ 56 rfl w.heap.size 95 i0 _ 5 56 Tryz.underlying56 hi hz0 hz1 hz2 rfl (by decide) _ _ _ rfl OA.out ⟨w3.heap.size, 0, none⟩ 1 1 [.int .i64 n, .bool false, .string (S []), .bool false, .string (S [])] rfl rfl hne (by simp [Value.oneCell']) (by unfold maxLen; omega) (by omega) (by simp; omega) ?_; intro vv5 w9 o9 g9 z9 at9; obtain ⟨va9, vc9, rfl⟩ := own_form o9; obtain ⟨k9, r0x, r1x, r2x, r3x, r4x, r5x⟩ := arr6_cells (FA.out.i.x.grown g9 (own_ne FA.out.own FA.out.i.x (by decide))); have fz9 : ∀ i, w9.frozen? ⟨w.heap.size + 1 + 1, i, none⟩ = false := fun i => Blk.frozen (FA.out.i.x.grown g9 (own_ne FA.out.own FA.out.i.x (by decide))) i)
            have F9 := Lib.hid (FA.out.appF (f := (⟨n, ⟨false, [], false, []⟩⟩ : Fnd)) g9 (by unfold Fnd.cells Rec.cells; exact o9))
            clear g9 z9 o9 at9 hne
            go_roundw
            case rel => exact ⟨fs.length + 1, fs ++ [(⟨n, ⟨false, [], false, []⟩⟩ : Fnd)], _, a3, e3, by go_num, GS, F9⟩
            case measure => simp [intOf]; omega
          · simp only [if_true] at ST SB
            obtain ⟨kb, b0, b1, b2, b3⟩ := X3.out.c4
            obtain ⟨kf, f0, f1, f2, f3, f4⟩ := arr5_cells Q3.out
            have ff : ∀ i, w3.frozen? ⟨wr.heap.size, i, none⟩ = false := fun i => Blk.frozen Q3.out i
            have F4 := Lib.hid (F3.out.away (set4at (.bool rk) (.string (S rkey)) (.bool rt) (.string (S rval)) Q3.out).2 (by simp; omega) (fun b hb hm => by have := OWB.out b hb; have := List.mem_singleton.1 hm; omega) (by simp [Value.ownBlock]))
            have Q4 := Lib.hid (set4at (.bool rk) (.string (S rkey)) (.bool rt) (.string (S rval)) Q3.out).1
            go_upto_region 18 with fail
            clear kb b0 b1 b2 b3 kf f0 f1 f2 f3 f4 ff
            generalize ((((w3.setCell ⟨wr.heap.size, 1, none⟩ (.bool rk)).setCell ⟨wr.heap.size, 2, none⟩ (.string (S rkey))).setCell ⟨wr.heap.size, 3, none⟩ (.bool rt)).setCell ⟨wr.heap.size, 4, none⟩ (.string (S rval))) = w4 at F4 Q4 ⊢
            obtain ⟨kf, f0, f1, f2, f3, f4⟩ := arr5_cells Q4.out
            obtain ⟨kx, g0, g1, g2, g3, g4, g5⟩ := arr6_cells F4.out.i.x
            obtain ⟨fa, fc, rfl⟩ := own_form F4.out.own
            have FA := Lib.hid (F4.out.bel' (below_all (o := .cells #[.int .i64 n, .bool rk, .string (S rkey), .bool rt, .string (S rval)] 95) (Below.refl _ _)))
            have hne := news_fnd (W := w4) (⟨n, ⟨rk, rkey, rt, rval⟩⟩ : Fnd) (s := w4.heap.size) rfl
            unfold Fnd.cells Rec.cells at hne
            dsimp only at hne
            have hws := F4.out.i.bel.size
            have hle := hG.out.le
            have hl9 := HL9.out
            have GS := Lib.hid (hG.out.step hin (t := (⟨n, ⟨rk, rkey, rt, rval⟩⟩ : Fnd)) ST.out SB.out)
            have OA := Lib.hid FA.out.own
            go_wp2_with (at_builtin; refine wpList_append_own_at _ rfl _ _ 56 rfl w.heap.size 95 i0 _ 5 56 Tryz.underlying56 hi hz0 hz1 hz2 rfl (by decide) _ _ _ rfl OA.out ⟨w4.heap.size, 0, none⟩ 1 1 [.int .i64 n, .bool rk, .string (S rkey), .bool rt, .string (S rval)] rfl rfl hne (by simp [Value.oneCell']) (by unfold maxLen; omega) (by omega) (by simp; omega) ?_; intro vv5 w9 o9 g9 z9 at9; obtain ⟨va9, vc9, rfl⟩ := own_form o9; obtain ⟨k9, r0x, r1x, r2x, r3x, r4x, r5x⟩ := arr6_cells (FA.out.i.x.grown g9 (own_ne FA.out.own FA.out.i.x (by decide))); have fz9 : ∀ i, w9.frozen? ⟨w.heap.size + 1 + 1, i, none⟩ = false := fun i => Blk.frozen (FA.out.i.x.grown g9 (own_ne FA.out.own FA.out.i.x (by decide))) i)
            have F9 := Lib.hid (FA.out.appF (f := (⟨n, ⟨rk, rkey, rt, rval⟩⟩ : Fnd)) g9 (by unfold Fnd.cells Rec.cells; exact o9))
            clear g9 z9 o9 at9 hne
            go_roundw
            case rel => exact ⟨fs.length + 1, fs ++ [(⟨n, ⟨rk, rkey, rt, rval⟩⟩ : Fnd)], _, a3, e3, by go_num, GS, F9⟩
            case measure => simp [intOf]; omega
      · have hG2 := hG
        have t2 : ((e : Int) == 0) = false := decide_eq_false he
        have t3 : (e = 0) = False := eq_false he
        have hs := Lib.hid (fun (h : (i : Int) < v5 ∧ e = 0) => he h.2)
        clear he
        have STOP := Lib.hid (fun (N : List Fnd) (b : Int) h0 h1 h2 h3 => hG.out.stop (N := N) (b := b) hs.out h0 h1 h2 h3)
        have GB := Lib.hid (And.intro hG.out.len (And.intro hG.out.bds hG.out.le))
        obtain ⟨fa, fc, rfl⟩ := own_form hF.out.own
        go_upto_region 19 with fail
        have cN7 := Lib.hid (r_number s a e (w.heap.size + 1) (w.heap.size + 1 + 1 + 1 + 1 + 1) 0 #[.int .i64 0] 3 wr HL.out hF.out.i.rd hF.out.i.pb (by omega) rfl)
        go_wp2_with fail
        refine cN7.out.use ?_
        intro w7 pn a7 e7 p7 q7 k7 s7
        have q7' : Blk w7 (w.heap.size + 1 + 1 + 1 + 1 + 1) #[.int .i64 pn] 3 := q7
        have HF7 := Lib.hid (hF.out.setP p7 q7' k7)
        have S7 : Hid (NumS s a e pn a7 e7) := Lib.hid s7
        have HG7 : Hid (GRl prtText pGood (fun p : Prt => p.1.length ≤ 16) s pn a7 e7 0 [] a7 e7) := Lib.hid (GRl.start (fun h => by have := S7.out.go h; omega))
        clear cN7 p7 q7 q7' k7 s7 hF hG hs x0 x1 x2 y0 k0
        go_wp2_with fail
        go_loopw [16, 17] (fun (x16 x17 : Value) (W : World) => ∃ (i : Nat) (ps : List Prt) (pv : Value) (a e : Int), x16 = .int .i64 (i : Int) ∧ Hid (GRl prtText pGood (fun p : Prt => p.1.length ≤ 16) s pn a7 e7 i ps a e) ∧ Hid (FI4 w W s a e v1 v5 pn v1 v2 v3 v4 (.slice fa fs.length fc) pv fs ps)) (fun (x16 x17 : Value) (W : World) => (s.length + 2 - intOf x16).toNat)
        case atStart => exact ⟨0, [], _, a7, e7, rfl, HG7, HF7⟩
        case round =>
          clear HF7 HG7
          obtain ⟨i, ps, pv, a, e, rfl, hG, hF⟩ := hrel
          have rd := hF.out.i.rd
          unfold rdr at rd
          obtain ⟨k0, x0, x1, x2⟩ := rd.c3
          have y0 := hF.out.i.pb.cell 0
          simp only [List.getElem?_toArray, List.getElem?_cons_zero] at y0
          clear rd
          by_cases hin : (i : Int) < pn
          · by_cases he : e = 0
            · subst he
              obtain rfl : i = ps.length := hG.out.len.symm
              have hlt := hF.out.lt
              have cN := Lib.hid (r_part s a 0 (w.heap.size + 1) wr.heap.size 0 #[.string (S []), .int .i64 0] 23 (wr.alloc (.cells #[.string (S []), .int .i64 0] 23)) HL.out (hF.out.i.rd.alloc _) (Blk.new wr _ _) (by omega) rfl rfl)
              have t1 : decide ((ps.length : Int) < pn) = true := decide_eq_true hin
              go_wp2_with fail
              refine cN.out.use ?_
              intro w1 v a1 e1 p1 q1 k1 s1
              obtain ⟨vt, vn⟩ := v
              have Q1 : Hid (Blk w1 wr.heap.size #[.string (S vt), .int .i64 vn] 23) := Lib.hid q1
              have F1 := Lib.hid (hF.out.on p1 (KeptR.fresh k1 (by simp)))
              have ST := Lib.hid (step_prt s1.1)
              have SB : Hid (vt.length ≤ 16) := Lib.hid s1.2
              clear p1 q1 k1 s1 cN k0 x0 x1 x2 y0 t1
              obtain ⟨i0, hi, hz0, hz1, hz2⟩ := info_parts prtInfo
              obtain ⟨kf, f0, f1⟩ : wr.heap.size < w1.heap.size ∧ w1.cell? ⟨wr.heap.size, 0, none⟩ = some (.string (S vt)) ∧ w1.cell? ⟨wr.heap.size, 1, none⟩ = some (.int .i64 vn) := ⟨Q1.out.lt, Q1.out.cell 0, Q1.out.cell 1⟩
              obtain ⟨kx, g0, g1, g2, g3, g4, g5⟩ := arr6_cells F1.out.i.x
              obtain ⟨pa, pc, rfl⟩ := own_form F1.out.ownp
              have FA := Lib.hid (F1.out.bel' (below_all (o := .cells #[.string (S vt), .int .i64 vn] 23) (Below.refl _ _)))
              have hne := news_prt (W := w1) (vt, vn) (s := w1.heap.size) rfl
              unfold Prt.cells at hne
              dsimp only at hne
              have hws := F1.out.i.bel.size
              have hle := hG.out.le
              have hl9 := HL9.out
              have GS := Lib.hid (hG.out.step hin (t := (vt, vn)) ST.out SB.out)
              have OA := Lib.hid FA.out.ownp
              go_wp2_with (at_builtin; refine wpList_append_own_at _ rfl _ _ 55 rfl w.heap.size 23 i0 _ 2 24 Tryz.underlying55 hi hz0 hz1 hz2 rfl (by decide) _ _ _ rfl OA.out ⟨w1.heap.size, 0, none⟩ 1 1 [.string (S vt), .int .i64 vn] rfl rfl hne (by simp [Value.oneCell']) (by unfold maxLen; omega) (by omega) (by simp; omega) ?_; intro vv5 w9 o9 g9 z9 at9; obtain ⟨va9, vc9, rfl⟩ := own_form o9; obtain ⟨k9, r0x, r1x, r2x, r3x, r4x, r5x⟩ := arr6_cells (FA.out.i.x.grown g9 (own_ne FA.out.ownp FA.out.i.x (by decide))); have fz9 : ∀ i, w9.frozen? ⟨w.heap.size + 1 + 1, i, none⟩ = false := fun i => Blk.frozen (FA.out.i.x.grown g9 (own_ne FA.out.ownp FA.out.i.x (by decide))) i)
              have F9 := Lib.hid (FA.out.appP (f := (vt, vn)) g9 (by unfold Prt.cells; exact o9))
              clear g9 z9 o9 at9 hne
              go_roundw
              case rel => exact ⟨ps.length + 1, ps ++ [(vt, vn)], _, a1, e1, by go_num, GS, F9⟩
              case measure => simp [intOf]; omega
            · have t2 : ((e : Int) == 0) = false := decide_eq_false he
              have t3 : (e = 0) = False := eq_false he
              have hs := Lib.hid (fun (h : (i : Int) < pn ∧ e = 0) => he h.2)
              clear he
              go_upto_region 26 with fail
              clear t2 t3
              have PSTOP := Lib.hid (fun (N : List Prt) (b : Int) h0 h1 h2 h3 => hG.out.stop (N := N) (b := b) hs.out h0 h1 h2 h3)
              have full := Lib.hid (parse_full S1.out S2.out S3.out S4.out S5.out STOP.out S7.out PSTOP.out)
              have hgl := hG.out.le
              have hgf := GB.out.2.2
              have hl9 := HL9.out
              have hlf : fs.length ≤ s.length + 1 := by rw [GB.out.1]; exact GB.out.2.2
              have hlp : ps.length ≤ s.length + 1 := by rw [hG.out.len]; exact hG.out.le
              have RB : Hid (RepBd ⟨v1, v2, v3, v4, fs, ps⟩) := Lib.hid ⟨⟨by dsimp only; omega, GB.out.2.1⟩, ⟨by dsimp only; omega, fun p hp => by have := hG.out.bds p hp; unfold maxLen; omega⟩⟩
              obtain ⟨pa, pc, rfl⟩ := own_form hF.out.ownp
              have cP := Lib.hid (reply4 ⟨v1, v2, v3, v4, fs, ps⟩ (.slice fa fs.length fc) (.slice pa ps.length pc) wr ⟨fnds_own hF.out.own, prts_own hF.out.ownp⟩ RB.out)
              have hcp : repPut ⟨v1, v2, v3, v4, fs, ps⟩ = if repCheck ⟨v1, v2, v3, v4, fs, ps⟩ = 0 then (repText ⟨v1, v2, v3, v4, fs, ps⟩, 0) else ([], repCheck ⟨v1, v2, v3, v4, fs, ps⟩) := rfl
              have HCP := Lib.hid hcp
              clear hcp
              have gno := Lib.hid (fun h => got_no (z := zrep) (c := (⟨v1, v2, v3, v4, fs, ps⟩ : Rep)) (e := e) h full.out)
              have gok := Lib.hid (fun h1 h2 => got_ok (z := zrep) (c := (⟨v1, v2, v3, v4, fs, ps⟩ : Rep)) (e := e) h1 h2 full.out)
              obtain ⟨X, hX⟩ : ∃ X, repCheck ⟨v1, v2, v3, v4, fs, ps⟩ = X := ⟨_, rfl⟩
              obtain ⟨L, hL⟩ : ∃ L, repText ⟨v1, v2, v3, v4, fs, ps⟩ = L := ⟨_, rfl⟩
              rw [hX, hL] at gno gok HCP
              rw [HCP.out] at cP
              clear hX hL HCP full
              have HFIN := Lib.hid (fun (W : World) n (hg : Got repCheck repText zrep s ⟨v1, v2, v3, v4, fs, ps⟩ n) (hk : KeptR [w.heap.size] wr W) => hR.out W ⟨v1, v2, v3, v4, fs, ps⟩ (.slice fa fs.length fc) (.slice pa ps.length pc) n ⟨hg, RepIn.keptR ⟨fnds_own hF.out.own, prts_own hF.out.ownp⟩ hk (fun b hb hm => own_ne hF.out.own hF.out.i.rs (by decide) (by rw [hb, List.mem_singleton.1 hm])) (fun b hb hm => own_ne hF.out.ownp hF.out.i.rs (by decide) (by rw [hb, List.mem_singleton.1 hm])), RB.out, fun b hb => by have := hF.out.own.lt b hb; have := hk.size; omega, fun b hb => by have := hF.out.ownp.lt b hb; have := hk.size; omega, hk.toBelow hF.out.i.bel (by simp)⟩)
              have HBAD := Lib.hid (fun (W : World) (hg : Got repCheck repText zrep s zrep 40) (hk : KeptR [w.heap.size] wr W) => hR.out W zrep (.slice none 0 0) (.slice none 0 0) 40 ⟨hg, zrep_in W, zrep_bd, by simp [Value.ownBlock], by simp [Value.ownBlock], hk.toBelow hF.out.i.bel (by simp)⟩)
              dsimp only [Rep.arr, zrep] at cP HFIN HBAD
              have HQ2 := Lib.hid hF.out.i.x
              have HP2 := Lib.hid hF.out.i.rd
              have HR2 := Lib.hid hF.out.i.rs
              obtain ⟨kq2, d0, d1, d2, d3, d4, d5⟩ := arr6_cells HQ2.out
              clear hG hF GB
              by_cases hz : X = 0
              · subst hz
                rw [if_pos rfl] at cP
                dsimp only at cP
                go_wp2_with fail
                refine cP.out.use ?_
                intro w9 b9
                have p9 := HP2.out.below b9
                unfold rdr at p9
                obtain ⟨k9, m0, m1, m2⟩ := p9.c3
                have R9 := HR2.out.below b9
                have HR9 := Lib.hid R9
                obtain ⟨kr9, rr0, rr1, rr2, rr3, rr4, rr5⟩ := arr6_cells R9
                have fr9 : ∀ i, w9.frozen? ⟨w.heap.size, i, none⟩ = false := fun i => Blk.frozen R9 i
                obtain ⟨kq9, z0, z1, z2, z3, z4, z5⟩ := arr6_cells (HQ2.out.below b9)
                have K9 := Lib.hid ((KeptR.refl [w.heap.size] wr).bel b9)
                clear p9 R9 b9 d0 d1 d2 d3 d4 d5
                by_cases he : e = 0
                · subst he
                  by_cases ht : L = s
                  · have g := Lib.hid (gok.out (by first | rfl | trivial) ht)
                    have t1 : (L != s) = false := by simp [ht]
                    have t5 : (L == s) = true := by simp [ht]
                    clear gno gok ht
                    go_wp2_with fail
                    refine bodyPost_ret (results_cell2r rfl _ _ w.heap.size 58 #[.int .i64 v1, .int .i64 v2, .int .i64 v3, .int .i64 v4, .slice fa fs.length fc, .slice pa ps.length pc] (0, 0) _ _ rfl rfl ?c1a Tryz.underlying58 rfl (by kernel_rfl)) rfl ?_
                    case c1a => exact (set6 HR9.out).1
                    exact HFIN.out _ 0 g.out (K9.out.trans (set6 HR9.out).2)
                  · have g := Lib.hid (gno.out (.inr (.inr ht)))
                    have t1 : (L != s) = true := by simpa using ht
                    have t5 : (L == s) = false := by simpa using ht
                    clear gno gok ht
                    go_wp2_with fail
                    refine bodyPost_ret (results_cell2r rfl _ _ w.heap.size 58 #[.int .i64 0, .int .i64 0, .int .i64 0, .int .i64 0, .slice none 0 0, .slice none 0 0] (0, 0) _ _ rfl rfl ?c1b Tryz.underlying58 rfl (by kernel_rfl)) rfl ?_
                    case c1b => exact (set6 HR9.out).1
                    exact HBAD.out _ g.out (K9.out.trans (set6 HR9.out).2)
                · have g := Lib.hid (gno.out (.inl he))
                  have t1 : ((e : Int) == 0) = false := by simpa using he
                  have t2 : ((e : Int) != 0) = true := by simpa using he
                  clear gno gok he
                  go_wp2_with fail
                  refine bodyPost_ret (results_cell2r rfl _ _ w.heap.size 58 #[.int .i64 0, .int .i64 0, .int .i64 0, .int .i64 0, .slice none 0 0, .slice none 0 0] (0, 0) _ _ rfl rfl ?c1c Tryz.underlying58 rfl (by kernel_rfl)) rfl ?_
                  case c1c => exact (set6 HR9.out).1
                  exact HBAD.out _ g.out (K9.out.trans (set6 HR9.out).2)
              · have g := Lib.hid (gno.out (.inr (.inl hz)))
                rw [if_neg hz] at cP
                dsimp only at cP
                have t3 : ((X : Int) != 0) = true := by simpa using hz
                have t4 : ((X : Int) == 0) = false := by simpa using hz
                clear gno gok hz
                go_wp2_with fail
                refine cP.out.use ?_
                intro w9 b9
                have p9 := HP2.out.below b9
                unfold rdr at p9
                obtain ⟨k9, m0, m1, m2⟩ := p9.c3
                have R9 := HR2.out.below b9
                have HR9 := Lib.hid R9
                obtain ⟨kr9, rr0, rr1, rr2, rr3, rr4, rr5⟩ := arr6_cells R9
                have fr9 : ∀ i, w9.frozen? ⟨w.heap.size, i, none⟩ = false := fun i => Blk.frozen R9 i
                have K9 := Lib.hid ((KeptR.refl [w.heap.size] wr).bel b9)
                clear p9 R9 b9 d0 d1 d2 d3 d4 d5
                by_cases he : e = 0
                · subst he
                  go_wp2_with fail
                  refine bodyPost_ret (results_cell2r rfl _ _ w.heap.size 58 #[.int .i64 0, .int .i64 0, .int .i64 0, .int .i64 0, .slice none 0 0, .slice none 0 0] (0, 0) _ _ rfl rfl ?c1d Tryz.underlying58 rfl (by kernel_rfl)) rfl ?_
                  case c1d => exact (set6 HR9.out).1
                  exact HBAD.out _ g.out (K9.out.trans (set6 HR9.out).2)
                · have t1 : ((e : Int) == 0) = false := by simpa using he
                  have t2 : ((e : Int) != 0) = true := by simpa using he
                  clear he
                  go_wp2_with fail
                  refine bodyPost_ret (results_cell2r rfl _ _ w.heap.size 58 #[.int .i64 0, .int .i64 0, .int .i64 0, .int .i64 0, .slice none 0 0, .slice none 0 0] (0, 0) _ _ rfl rfl ?c1e Tryz.underlying58 rfl (by kernel_rfl)) rfl ?_
                  case c1e => exact (set6 HR9.out).1
                  exact HBAD.out _ g.out (K9.out.trans (set6 HR9.out).2)
          · have t1 : decide ((i : Int) < pn) = false := decide_eq_false hin
            have t2 : ((i : Int) < pn) = False := eq_false hin
            have hs := Lib.hid (fun (h : (i : Int) < pn ∧ e = 0) => hin h.1)
            clear hin
            go_upto_region 26 with fail
            have PSTOP := Lib.hid (fun (N : List Prt) (b : Int) h0 h1 h2 h3 => hG.out.stop (N := N) (b := b) hs.out h0 h1 h2 h3)
            have full := Lib.hid (parse_full S1.out S2.out S3.out S4.out S5.out STOP.out S7.out PSTOP.out)
            have hgl := hG.out.le
            have hgf := GB.out.2.2
            have hl9 := HL9.out
            have hlf : fs.length ≤ s.length + 1 := by rw [GB.out.1]; exact GB.out.2.2
            have hlp : ps.length ≤ s.length + 1 := by rw [hG.out.len]; exact hG.out.le
            have RB : Hid (RepBd ⟨v1, v2, v3, v4, fs, ps⟩) := Lib.hid ⟨⟨by dsimp only; omega, GB.out.2.1⟩, ⟨by dsimp only; omega, fun p hp => by have := hG.out.bds p hp; unfold maxLen; omega⟩⟩
            obtain ⟨pa, pc, rfl⟩ := own_form hF.out.ownp
            have cP := Lib.hid (reply4 ⟨v1, v2, v3, v4, fs, ps⟩ (.slice fa fs.length fc) (.slice pa ps.length pc) wr ⟨fnds_own hF.out.own, prts_own hF.out.ownp⟩ RB.out)
            have hcp : repPut ⟨v1, v2, v3, v4, fs, ps⟩ = if repCheck ⟨v1, v2, v3, v4, fs, ps⟩ = 0 then (repText ⟨v1, v2, v3, v4, fs, ps⟩, 0) else ([], repCheck ⟨v1, v2, v3, v4, fs, ps⟩) := rfl
            have HCP := Lib.hid hcp
            clear hcp
            have gno := Lib.hid (fun h => got_no (z := zrep) (c := (⟨v1, v2, v3, v4, fs, ps⟩ : Rep)) (e := e) h full.out)
            have gok := Lib.hid (fun h1 h2 => got_ok (z := zrep) (c := (⟨v1, v2, v3, v4, fs, ps⟩ : Rep)) (e := e) h1 h2 full.out)
            obtain ⟨X, hX⟩ : ∃ X, repCheck ⟨v1, v2, v3, v4, fs, ps⟩ = X := ⟨_, rfl⟩
            obtain ⟨L, hL⟩ : ∃ L, repText ⟨v1, v2, v3, v4, fs, ps⟩ = L := ⟨_, rfl⟩
            rw [hX, hL] at gno gok HCP
            rw [HCP.out] at cP
            clear hX hL HCP full
            have HFIN := Lib.hid (fun (W : World) n (hg : Got repCheck repText zrep s ⟨v1, v2, v3, v4, fs, ps⟩ n) (hk : KeptR [w.heap.size] wr W) => hR.out W ⟨v1, v2, v3, v4, fs, ps⟩ (.slice fa fs.length fc) (.slice pa ps.length pc) n ⟨hg, RepIn.keptR ⟨fnds_own hF.out.own, prts_own hF.out.ownp⟩ hk (fun b hb hm => own_ne hF.out.own hF.out.i.rs (by decide) (by rw [hb, List.mem_singleton.1 hm])) (fun b hb hm => own_ne hF.out.ownp hF.out.i.rs (by decide) (by rw [hb, List.mem_singleton.1 hm])), RB.out, fun b hb => by have := hF.out.own.lt b hb; have := hk.size; omega, fun b hb => by have := hF.out.ownp.lt b hb; have := hk.size; omega, hk.toBelow hF.out.i.bel (by simp)⟩)
            have HBAD := Lib.hid (fun (W : World) (hg : Got repCheck repText zrep s zrep 40) (hk : KeptR [w.heap.size] wr W) => hR.out W zrep (.slice none 0 0) (.slice none 0 0) 40 ⟨hg, zrep_in W, zrep_bd, by simp [Value.ownBlock], by simp [Value.ownBlock], hk.toBelow hF.out.i.bel (by simp)⟩)
            dsimp only [Rep.arr, zrep] at cP HFIN HBAD
            have HQ2 := Lib.hid hF.out.i.x
            have HP2 := Lib.hid hF.out.i.rd
            have HR2 := Lib.hid hF.out.i.rs
            obtain ⟨kq2, d0, d1, d2, d3, d4, d5⟩ := arr6_cells HQ2.out
            clear hG hF GB
            by_cases hz : X = 0
            · subst hz
              rw [if_pos rfl] at cP
              dsimp only at cP
              go_wp2_with fail
              refine cP.out.use ?_
              intro w9 b9
              have p9 := HP2.out.below b9
              unfold rdr at p9
              obtain ⟨k9, m0, m1, m2⟩ := p9.c3
              have R9 := HR2.out.below b9
              have HR9 := Lib.hid R9
              obtain ⟨kr9, rr0, rr1, rr2, rr3, rr4, rr5⟩ := arr6_cells R9
              have fr9 : ∀ i, w9.frozen? ⟨w.heap.size, i, none⟩ = false := fun i => Blk.frozen R9 i
              obtain ⟨kq9, z0, z1, z2, z3, z4, z5⟩ := arr6_cells (HQ2.out.below b9)
              have K9 := Lib.hid ((KeptR.refl [w.heap.size] wr).bel b9)
              clear p9 R9 b9 d0 d1 d2 d3 d4 d5
              by_cases he : e = 0
              · subst he
                by_cases ht : L = s
                · have g := Lib.hid (gok.out (by first | rfl | trivial) ht)
                  have t1 : (L != s) = false := by simp [ht]
                  have t5 : (L == s) = true := by simp [ht]
                  clear gno gok ht
                  go_wp2_with fail
                  refine bodyPost_ret (results_cell2r rfl _ _ w.heap.size 58 #[.int .i64 v1, .int .i64 v2, .int .i64 v3, .int .i64 v4, .slice fa fs.length fc, .slice pa ps.length pc] (0, 0) _ _ rfl rfl ?c2a Tryz.underlying58 rfl (by kernel_rfl)) rfl ?_
                  case c2a => exact (set6 HR9.out).1
                  exact HFIN.out _ 0 g.out (K9.out.trans (set6 HR9.out).2)
                · have g := Lib.hid (gno.out (.inr (.inr ht)))
                  have t1 : (L != s) = true := by simpa using ht
                  have t5 : (L == s) = false := by simpa using ht
                  clear gno gok ht
                  go_wp2_with fail
                  refine bodyPost_ret (results_cell2r rfl _ _ w.heap.size 58 #[.int .i64 0, .int .i64 0, .int .i64 0, .int .i64 0, .slice none 0 0, .slice none 0 0] (0, 0) _ _ rfl rfl ?c2b Tryz.underlying58 rfl (by kernel_rfl)) rfl ?_
                  case c2b => exact (set6 HR9.out).1
                  exact HBAD.out _ g.out (K9.out.trans (set6 HR9.out).2)
              · have g := Lib.hid (gno.out (.inl he))
                have t1 : ((e : Int) == 0) = false := by simpa using he
                have t2 : ((e : Int) != 0) = true := by simpa using he
                clear gno gok he
                go_wp2_with fail
                refine bodyPost_ret (results_cell2r rfl _ _ w.heap.size 58 #[.int .i64 0, .int .i64 0, .int .i64 0, .int .i64 0, .slice none 0 0, .slice none 0 0] (0, 0) _ _ rfl rfl ?c2c Tryz.underlying58 rfl (by kernel_rfl)) rfl ?_
                case c2c => exact (set6 HR9.out).1
                exact HBAD.out _ g.out (K9.out.trans (set6 HR9.out).2)
            · have g := Lib.hid (gno.out (.inr (.inl hz)))
              rw [if_neg hz] at cP
              dsimp only at cP
              have t3 : ((X : Int) != 0) = true := by simpa using hz
              have t4 : ((X : Int) == 0) = false := by simpa using hz
              clear gno gok hz
              go_wp2_with fail
              refine cP.out.use ?_
              intro w9 b9
              have p9 := HP2.out.below b9
              unfold rdr at p9
              obtain ⟨k9, m0, m1, m2⟩ := p9.c3
              have R9 := HR2.out.below b9
              have HR9 := Lib.hid R9
              obtain ⟨kr9, rr0, rr1, rr2, rr3, rr4, rr5⟩ := arr6_cells R9
              have fr9 : ∀ i, w9.frozen? ⟨w.heap.size, i, none⟩ = false := fun i => Blk.frozen R9 i
              have K9 := Lib.hid ((KeptR.refl [w.heap.size] wr).bel b9)
              clear p9 R9 b9 d0 d1 d2 d3 d4 d5
              by_cases he : e = 0
              · subst he
                go_wp2_with fail
                refine bodyPost_ret (results_cell2r rfl _ _ w.heap.size 58 #[.int .i64 0, .int .i64 0, .int .i64 0, .int .i64 0, .slice none 0 0, .slice none 0 0] (0, 0) _ _ rfl rfl ?c2d Tryz.underlying58 rfl (by kernel_rfl)) rfl ?_
                case c2d => exact (set6 HR9.out).1
                exact HBAD.out _ g.out (K9.out.trans (set6 HR9.out).2)
              · have t1 : ((e : Int) == 0) = false := by simpa using he
                have t2 : ((e : Int) != 0) = true := by simpa using he
                clear he
                go_wp2_with fail
                refine bodyPost_ret (results_cell2r rfl _ _ w.heap.size 58 #[.int .i64 0, .int .i64 0, .int .i64 0, .int .i64 0, .slice none 0 0, .slice none 0 0] (0, 0) _ _ rfl rfl ?c2e Tryz.underlying58 rfl (by kernel_rfl)) rfl ?_
                case c2e => exact (set6 HR9.out).1
                exact HBAD.out _ g.out (K9.out.trans (set6 HR9.out).2)
    · have t1 : decide ((i : Int) < v5) = false := decide_eq_false hin
      have t2 : ((i : Int) < v5) = False := eq_false hin
      have hs := Lib.hid (fun (h : (i : Int) < v5 ∧ e = 0) => hin h.1)
      clear hin
      have STOP := Lib.hid (fun (N : List Fnd) (b : Int) h0 h1 h2 h3 => hG.out.stop (N := N) (b := b) hs.out h0 h1 h2 h3)
      have GB := Lib.hid (And.intro hG.out.len (And.intro hG.out.bds hG.out.le))
      obtain ⟨fa, fc, rfl⟩ := own_form hF.out.own
      go_upto_region 19 with fail
      have cN7 := Lib.hid (r_number s a e (w.heap.size + 1) (w.heap.size + 1 + 1 + 1 + 1 + 1) 0 #[.int .i64 0] 3 wr HL.out hF.out.i.rd hF.out.i.pb (by omega) rfl)
      go_wp2_with fail
      refine cN7.out.use ?_
      intro w7 pn a7 e7 p7 q7 k7 s7
      have q7' : Blk w7 (w.heap.size + 1 + 1 + 1 + 1 + 1) #[.int .i64 pn] 3 := q7
      have HF7 := Lib.hid (hF.out.setP p7 q7' k7)
      have S7 : Hid (NumS s a e pn a7 e7) := Lib.hid s7
      have HG7 : Hid (GRl prtText pGood (fun p : Prt => p.1.length ≤ 16) s pn a7 e7 0 [] a7 e7) := Lib.hid (GRl.start (fun h => by have := S7.out.go h; omega))
      clear cN7 p7 q7 q7' k7 s7 hF hG hs x0 x1 x2 y0 k0
      go_wp2_with fail
      go_loopw [16, 17] (fun (x16 x17 : Value) (W : World) => ∃ (i : Nat) (ps : List Prt) (pv : Value) (a e : Int), x16 = .int .i64 (i : Int) ∧ Hid (GRl prtText pGood (fun p : Prt => p.1.length ≤ 16) s pn a7 e7 i ps a e) ∧ Hid (FI4 w W s a e v1 v5 pn v1 v2 v3 v4 (.slice fa fs.length fc) pv fs ps)) (fun (x16 x17 : Value) (W : World) => (s.length + 2 - intOf x16).toNat)
      case atStart => exact ⟨0, [], _, a7, e7, rfl, HG7, HF7⟩
      case round =>
        clear HF7 HG7
        obtain ⟨i, ps, pv, a, e, rfl, hG, hF⟩ := hrel
        have rd := hF.out.i.rd
        unfold rdr at rd
        obtain ⟨k0, x0, x1, x2⟩ := rd.c3
        have y0 := hF.out.i.pb.cell 0
        simp only [List.getElem?_toArray, List.getElem?_cons_zero] at y0
        clear rd
        by_cases hin : (i : Int) < pn
        · by_cases he : e = 0
          · subst he
            obtain rfl : i = ps.length := hG.out.len.symm
            have hlt := hF.out.lt
            have cN := Lib.hid (r_part s a 0 (w.heap.size + 1) wr.heap.size 0 #[.string (S []), .int .i64 0] 23 (wr.alloc (.cells #[.string (S []), .int .i64 0] 23)) HL.out (hF.out.i.rd.alloc _) (Blk.new wr _ _) (by omega) rfl rfl)
            have t1 : decide ((ps.length : Int) < pn) = true := decide_eq_true hin
            go_wp2_with fail
            refine cN.out.use ?_
            intro w1 v a1 e1 p1 q1 k1 s1
            obtain ⟨vt, vn⟩ := v
            have Q1 : Hid (Blk w1 wr.heap.size #[.string (S vt), .int .i64 vn] 23) := Lib.hid q1
            have F1 := Lib.hid (hF.out.on p1 (KeptR.fresh k1 (by simp)))
            have ST := Lib.hid (step_prt s1.1)
            have SB : Hid (vt.length ≤ 16) := Lib.hid s1.2
            clear p1 q1 k1 s1 cN k0 x0 x1 x2 y0 t1
            obtain ⟨i0, hi, hz0, hz1, hz2⟩ := info_parts prtInfo
            obtain ⟨kf, f0, f1⟩ : wr.heap.size < w1.heap.size ∧ w1.cell? ⟨wr.heap.size, 0, none⟩ = some (.string (S vt)) ∧ w1.cell? ⟨wr.heap.size, 1, none⟩ = some (.int .i64 vn) := ⟨Q1.out.lt, Q1.out.cell 0, Q1.out.cell 1⟩
            obtain ⟨kx, g0, g1, g2, g3, g4, g5⟩ := arr6_cells F1.out.i.x
            obtain ⟨pa, pc, rfl⟩ := own_form F1.out.ownp
            have FA := Lib.hid (F1.out.bel' (below_all (o := .cells #[.string (S vt), .int .i64 vn] 23) (Below.refl _ _)))
            have hne := news_prt (W := w1) (vt, vn) (s := w1.heap.size) rfl
            unfold Prt.cells at hne
            dsimp only at hne
            have hws := F1.out.i.bel.size
            have hle := hG.out.le
            have hl9 := HL9.out
            have GS := Lib.hid (hG.out.step hin (t := (vt, vn)) ST.out SB.out)
            have OA := Lib.hid FA.out.ownp
            go_wp2_with (at_builtin; refine wpList_append_own_at _ rfl _ _ 55 rfl w.heap.size 23 i0 _ 2 24 Tryz.underlying55 hi hz0 hz1 hz2 rfl (by decide) _ _ _ rfl OA.out ⟨w1.heap.size, 0, none⟩ 1 1 [.string (S vt), .int .i64 vn] rfl rfl hne (by simp [Value.oneCell']) (by unfold maxLen; omega) (by omega) (by simp; omega) ?_; intro vv5 w9 o9 g9 z9 at9; obtain ⟨va9, vc9, rfl⟩ := own_form o9; obtain ⟨k9, r0x, r1x, r2x, r3x, r4x, r5x⟩ := arr6_cells (FA.out.i.x.grown g9 (own_ne FA.out.ownp FA.out.i.x (by decide))); have fz9 : ∀ i, w9.frozen? ⟨w.heap.size + 1 + 1, i, none⟩ = false := fun i => Blk.frozen (FA.out.i.x.grown g9 (own_ne FA.out.ownp FA.out.i.x (by decide))) i)
            have F9 := Lib.hid (FA.out.appP (f := (vt, vn)) g9 (by unfold Prt.cells; exact o9))
            clear g9 z9 o9 at9 hne
            go_roundw
            case rel => exact ⟨ps.length + 1, ps ++ [(vt, vn)], _, a1, e1, by go_num, GS, F9⟩
            case measure => simp [intOf]; omega
          · have t2 : ((e : Int) == 0) = false := decide_eq_false he
            have t3 : (e = 0) = False := eq_false he
            have hs := Lib.hid (fun (h : (i : Int) < pn ∧ e = 0) => he h.2)
            clear he
            go_upto_region 26 with fail
            clear t2 t3
            have PSTOP := Lib.hid (fun (N : List Prt) (b : Int) h0 h1 h2 h3 => hG.out.stop (N := N) (b := b) hs.out h0 h1 h2 h3)
            have full := Lib.hid (parse_full S1.out S2.out S3.out S4.out S5.out STOP.out S7.out PSTOP.out)
            have hgl := hG.out.le
            have hgf := GB.out.2.2
            have hl9 := HL9.out
            have hlf : fs.length ≤ s.length + 1 := by rw [GB.out.1]; exact GB.out.2.2
            have hlp : ps.length ≤ s.length + 1 := by rw [hG.out.len]; exact hG.out.le
            have RB : Hid (RepBd ⟨v1, v2, v3, v4, fs, ps⟩) := Lib.hid ⟨⟨by dsimp only; omega, GB.out.2.1⟩, ⟨by dsimp only; omega, fun p hp => by have := hG.out.bds p hp; unfold maxLen; omega⟩⟩
            obtain ⟨pa, pc, rfl⟩ := own_form hF.out.ownp
            have cP := Lib.hid (reply4 ⟨v1, v2, v3, v4, fs, ps⟩ (.slice fa fs.length fc) (.slice pa ps.length pc) wr ⟨fnds_own hF.out.own, prts_own hF.out.ownp⟩ RB.out)
            have hcp : repPut ⟨v1, v2, v3, v4, fs, ps⟩ = if repCheck ⟨v1, v2, v3, v4, fs, ps⟩ = 0 then (repText ⟨v1, v2, v3, v4, fs, ps⟩, 0) else ([], repCheck ⟨v1, v2, v3, v4, fs, ps⟩) := rfl
            have HCP := Lib.hid hcp
            clear hcp
            have gno := Lib.hid (fun h => got_no (z := zrep) (c := (⟨v1, v2, v3, v4, fs, ps⟩ : Rep)) (e := e) h full.out)
            have gok := Lib.hid (fun h1 h2 => got_ok (z := zrep) (c := (⟨v1, v2, v3, v4, fs, ps⟩ : Rep)) (e := e) h1 h2 full.out)
            obtain ⟨X, hX⟩ : ∃ X, repCheck ⟨v1, v2, v3, v4, fs, ps⟩ = X := ⟨_, rfl⟩
            obtain ⟨L, hL⟩ : ∃ L, repText ⟨v1, v2, v3, v4, fs, ps⟩ = L := ⟨_, rfl⟩
            rw [hX, hL] at gno gok HCP
            rw [HCP.out] at cP
            clear hX hL HCP full
            have HFIN := Lib.hid (fun (W : World) n (hg : Got repCheck repText zrep s ⟨v1, v2, v3, v4, fs, ps⟩ n) (hk : KeptR [w.heap.size] wr W) => hR.out W ⟨v1, v2, v3, v4, fs, ps⟩ (.slice fa fs.length fc) (.slice pa ps.length pc) n ⟨hg, RepIn.keptR ⟨fnds_own hF.out.own, prts_own hF.out.ownp⟩ hk (fun b hb hm => own_ne hF.out.own hF.out.i.rs (by decide) (by rw [hb, List.mem_singleton.1 hm])) (fun b hb hm => own_ne hF.out.ownp hF.out.i.rs (by decide) (by rw [hb, List.mem_singleton.1 hm])), RB.out, fun b hb => by have := hF.out.own.lt b hb; have := hk.size; omega, fun b hb => by have := hF.out.ownp.lt b hb; have := hk.size; omega, hk.toBelow hF.out.i.bel (by simp)⟩)
            have HBAD := Lib.hid (fun (W : World) (hg : Got repCheck repText zrep s zrep 40) (hk : KeptR [w.heap.size] wr W) => hR.out W zrep (.slice none 0 0) (.slice none 0 0) 40 ⟨hg, zrep_in W, zrep_bd, by simp [Value.ownBlock], by simp [Value.ownBlock], hk.toBelow hF.out.i.bel (by simp)⟩)
            dsimp only [Rep.arr, zrep] at cP HFIN HBAD
            have HQ2 := Lib.hid hF.out.i.x
            have HP2 := Lib.hid hF.out.i.rd
            have HR2 := Lib.hid hF.out.i.rs
            obtain ⟨kq2, d0, d1, d2, d3, d4, d5⟩ := arr6_cells HQ2.out
            clear hG hF GB
            by_cases hz : X = 0
            · subst hz
              rw [if_pos rfl] at cP
              dsimp only at cP
              go_wp2_with fail
              refine cP.out.use ?_
              intro w9 b9
              have p9 := HP2.out.below b9
              unfold rdr at p9
              obtain ⟨k9, m0, m1, m2⟩ := p9.c3
              have R9 := HR2.out.below b9
              have HR9 := Lib.hid R9
              obtain ⟨kr9, rr0, rr1, rr2, rr3, rr4, rr5⟩ := arr6_cells R9
              have fr9 : ∀ i, w9.frozen? ⟨w.heap.size, i, none⟩ = false := fun i => Blk.frozen R9 i
              obtain ⟨kq9, z0, z1, z2, z3, z4, z5⟩ := arr6_cells (HQ2.out.below b9)
              have K9 := Lib.hid ((KeptR.refl [w.heap.size] wr).bel b9)
              clear p9 R9 b9 d0 d1 d2 d3 d4 d5
              by_cases he : e = 0
              · subst he
                by_cases ht : L = s
                · have g := Lib.hid (gok.out (by first | rfl | trivial) ht)
                  have t1 : (L != s) = false := by simp [ht]
                  have t5 : (L == s) = true := by simp [ht]
                  clear gno gok ht
                  go_wp2_with fail
                  refine bodyPost_ret (results_cell2r rfl _ _ w.heap.size 58 #[.int .i64 v1, .int .i64 v2, .int .i64 v3, .int .i64 v4, .slice fa fs.length fc, .slice pa ps.length pc] (0, 0) _ _ rfl rfl ?c3a Tryz.underlying58 rfl (by kernel_rfl)) rfl ?_
                  case c3a => exact (set6 HR9.out).1
                  exact HFIN.out _ 0 g.out (K9.out.trans (set6 HR9.out).2)
                · have g := Lib.hid (gno.out (.inr (.inr ht)))
                  have t1 : (L != s) = true := by simpa using ht
                  have t5 : (L == s) = false := by simpa using ht
                  clear gno gok ht
                  go_wp2_with fail
                  refine bodyPost_ret (results_cell2r rfl _ _ w.heap.size 58 #[.int .i64 0, .int .i64 0, .int .i64 0, .int .i64 0, .slice none 0 0, .slice none 0 0] (0, 0) _ _ rfl rfl ?c3b Tryz.underlying58 rfl (by kernel_rfl)) rfl ?_
                  case c3b => exact (set6 HR9.out).1
                  exact HBAD.out _ g.out (K9.out.trans (set6 HR9.out).2)
              · have g := Lib.hid (gno.out (.inl he))
                have t1 : ((e : Int) == 0) = false := by simpa using he
                have t2 : ((e : Int) != 0) = true := by simpa using he
                clear gno gok he
                go_wp2_with fail
                refine bodyPost_ret (results_cell2r rfl _ _ w.heap.size 58 #[.int .i64 0, .int .i64 0, .int .i64 0, .int .i64 0, .slice none 0 0, .slice none 0 0] (0, 0) _ _ rfl rfl ?c3c Tryz.underlying58 rfl (by kernel_rfl)) rfl ?_
                case c3c => exact (set6 HR9.out).1
                exact HBAD.out _ g.out (K9.out.trans (set6 HR9.out).2)
            · have g := Lib.hid (gno.out (.inr (.inl hz)))
              rw [if_neg hz] at cP
              dsimp only at cP
              have t3 : ((X : Int) != 0) = true := by simpa using hz
              have t4 : ((X : Int) == 0) = false := by simpa using hz
              clear gno gok hz
              go_wp2_with fail
              refine cP.out.use ?_
              intro w9 b9
              have p9 := HP2.out.below b9
              unfold rdr at p9
              obtain ⟨k9, m0, m1, m2⟩ := p9.c3
              have R9 := HR2.out.below b9
              have HR9 := Lib.hid R9
              obtain ⟨kr9, rr0, rr1, rr2, rr3, rr4, rr5⟩ := arr6_cells R9
              have fr9 : ∀ i, w9.frozen? ⟨w.heap.size, i, none⟩ = false := fun i => Blk.frozen R9 i
              have K9 := Lib.hid ((KeptR.refl [w.heap.size] wr).bel b9)
              clear p9 R9 b9 d0 d1 d2 d3 d4 d5
              by_cases he : e = 0
              · subst he
                go_wp2_with fail
                refine bodyPost_ret (results_cell2r rfl _ _ w.heap.size 58 #[.int .i64 0, .int .i64 0, .int .i64 0, .int .i64 0, .slice none 0 0, .slice none 0 0] (0, 0) _ _ rfl rfl ?c3d Tryz.underlying58 rfl (by kernel_rfl)) rfl ?_
                case c3d => exact (set6 HR9.out).1
                exact HBAD.out _ g.out (K9.out.trans (set6 HR9.out).2)
              · have t1 : ((e : Int) == 0) = false := by simpa using he
                have t2 : ((e : Int) != 0) = true := by simpa using he
                clear he
                go_wp2_with fail
                refine bodyPost_ret (results_cell2r rfl _ _ w.heap.size 58 #[.int .i64 0, .int .i64 0, .int .i64 0, .int .i64 0, .slice none 0 0, .slice none 0 0] (0, 0) _ _ rfl rfl ?c3e Tryz.underlying58 rfl (by kernel_rfl)) rfl ?_
                case c3e => exact (set6 HR9.out).1
                exact HBAD.out _ g.out (K9.out.trans (set6 HR9.out).2)
        · have t1 : decide ((i : Int) < pn) = false := decide_eq_false hin
          have t2 : ((i : Int) < pn) = False := eq_false hin
          have hs := Lib.hid (fun (h : (i : Int) < pn ∧ e = 0) => hin h.1)
          clear hin
          go_upto_region 26 with fail
          have PSTOP := Lib.hid (fun (N : List Prt) (b : Int) h0 h1 h2 h3 => hG.out.stop (N := N) (b := b) hs.out h0 h1 h2 h3)
          have full := Lib.hid (parse_full S1.out S2.out S3.out S4.out S5.out STOP.out S7.out PSTOP.out)
          have hgl := hG.out.le
          have hgf := GB.out.2.2
          have hl9 := HL9.out
          have hlf : fs.length ≤ s.length + 1 := by rw [GB.out.1]; exact GB.out.2.2
          have hlp : ps.length ≤ s.length + 1 := by rw [hG.out.len]; exact hG.out.le
          have RB : Hid (RepBd ⟨v1, v2, v3, v4, fs, ps⟩) := Lib.hid ⟨⟨by dsimp only; omega, GB.out.2.1⟩, ⟨by dsimp only; omega, fun p hp => by have := hG.out.bds p hp; unfold maxLen; omega⟩⟩
          obtain ⟨pa, pc, rfl⟩ := own_form hF.out.ownp
          have cP := Lib.hid (reply4 ⟨v1, v2, v3, v4, fs, ps⟩ (.slice fa fs.length fc) (.slice pa ps.length pc) wr ⟨fnds_own hF.out.own, prts_own hF.out.ownp⟩ RB.out)
          have hcp : repPut ⟨v1, v2, v3, v4, fs, ps⟩ = if repCheck ⟨v1, v2, v3, v4, fs, ps⟩ = 0 then (repText ⟨v1, v2, v3, v4, fs, ps⟩, 0) else ([], repCheck ⟨v1, v2, v3, v4, fs, ps⟩) := rfl
          have HCP := Lib.hid hcp
          clear hcp
          have gno := Lib.hid (fun h => got_no (z := zrep) (c := (⟨v1, v2, v3, v4, fs, ps⟩ : Rep)) (e := e) h full.out)
          have gok := Lib.hid (fun h1 h2 => got_ok (z := zrep) (c := (⟨v1, v2, v3, v4, fs, ps⟩ : Rep)) (e := e) h1 h2 full.out)
          obtain ⟨X, hX⟩ : ∃ X, repCheck ⟨v1, v2, v3, v4, fs, ps⟩ = X := ⟨_, rfl⟩
          obtain ⟨L, hL⟩ : ∃ L, repText ⟨v1, v2, v3, v4, fs, ps⟩ = L := ⟨_, rfl⟩
          rw [hX, hL] at gno gok HCP
          rw [HCP.out] at cP
          clear hX hL HCP full
          have HFIN := Lib.hid (fun (W : World) n (hg : Got repCheck repText zrep s ⟨v1, v2, v3, v4, fs, ps⟩ n) (hk : KeptR [w.heap.size] wr W) => hR.out W ⟨v1, v2, v3, v4, fs, ps⟩ (.slice fa fs.length fc) (.slice pa ps.length pc) n ⟨hg, RepIn.keptR ⟨fnds_own hF.out.own, prts_own hF.out.ownp⟩ hk (fun b hb hm => own_ne hF.out.own hF.out.i.rs (by decide) (by rw [hb, List.mem_singleton.1 hm])) (fun b hb hm => own_ne hF.out.ownp hF.out.i.rs (by decide) (by rw [hb, List.mem_singleton.1 hm])), RB.out, fun b hb => by have := hF.out.own.lt b hb; have := hk.size; omega, fun b hb => by have := hF.out.ownp.lt b hb; have := hk.size; omega, hk.toBelow hF.out.i.bel (by simp)⟩)
          have HBAD := Lib.hid (fun (W : World) (hg : Got repCheck repText zrep s zrep 40) (hk : KeptR [w.heap.size] wr W) => hR.out W zrep (.slice none 0 0) (.slice none 0 0) 40 ⟨hg, zrep_in W, zrep_bd, by simp [Value.ownBlock], by simp [Value.ownBlock], hk.toBelow hF.out.i.bel (by simp)⟩)
          dsimp only [Rep.arr, zrep] at cP HFIN HBAD
          have HQ2 := Lib.hid hF.out.i.x
          have HP2 := Lib.hid hF.out.i.rd
          have HR2 := Lib.hid hF.out.i.rs
          obtain ⟨kq2, d0, d1, d2, d3, d4, d5⟩ := arr6_cells HQ2.out
          clear hG hF GB
          by_cases hz : X = 0
          · subst hz
            rw [if_pos rfl] at cP
            dsimp only at cP
            go_wp2_with fail
            refine cP.out.use ?_
            intro w9 b9
            have p9 := HP2.out.below b9
            unfold rdr at p9
            obtain ⟨k9, m0, m1, m2⟩ := p9.c3
            have R9 := HR2.out.below b9
            have HR9 := Lib.hid R9
            obtain ⟨kr9, rr0, rr1, rr2, rr3, rr4, rr5⟩ := arr6_cells R9
            have fr9 : ∀ i, w9.frozen? ⟨w.heap.size, i, none⟩ = false := fun i => Blk.frozen R9 i
            obtain ⟨kq9, z0, z1, z2, z3, z4, z5⟩ := arr6_cells (HQ2.out.below b9)
            have K9 := Lib.hid ((KeptR.refl [w.heap.size] wr).bel b9)
            clear p9 R9 b9 d0 d1 d2 d3 d4 d5
            by_cases he : e = 0
            · subst he
              by_cases ht : L = s
              · have g := Lib.hid (gok.out (by first | rfl | trivial) ht)
                have t1 : (L != s) = false := by simp [ht]
                have t5 : (L == s) = true := by simp [ht]
                clear gno gok ht
                go_wp2_with fail
                refine bodyPost_ret (results_cell2r rfl _ _ w.heap.size 58 #[.int .i64 v1, .int .i64 v2, .int .i64 v3, .int .i64 v4, .slice fa fs.length fc, .slice pa ps.length pc] (0, 0) _ _ rfl rfl ?c4a Tryz.underlying58 rfl (by kernel_rfl)) rfl ?_
                case c4a => exact (set6 HR9.out).1
                exact HFIN.out _ 0 g.out (K9.out.trans (set6 HR9.out).2)
              · have g := Lib.hid (gno.out (.inr (.inr ht)))
                have t1 : (L != s) = true := by simpa using ht
                have t5 : (L == s) = false := by simpa using ht
                clear gno gok ht
                go_wp2_with fail
                refine bodyPost_ret (results_cell2r rfl _ _ w.heap.size 58 #[.int .i64 0, .int .i64 0, .int .i64 0, .int .i64 0, .slice none 0 0, .slice none 0 0] (0, 0) _ _ rfl rfl ?c4b Tryz.underlying58 rfl (by kernel_rfl)) rfl ?_
                case c4b => exact (set6 HR9.out).1
                exact HBAD.out _ g.out (K9.out.trans (set6 HR9.out).2)
            · have g := Lib.hid (gno.out (.inl he))
              have t1 : ((e : Int) == 0) = false := by simpa using he
              have t2 : ((e : Int) != 0) = true := by simpa using he
              clear gno gok he
              go_wp2_with fail
              refine bodyPost_ret (results_cell2r rfl _ _ w.heap.size 58 #[.int .i64 0, .int .i64 0, .int .i64 0, .int .i64 0, .slice none 0 0, .slice none 0 0] (0, 0) _ _ rfl rfl ?c4c Tryz.underlying58 rfl (by kernel_rfl)) rfl ?_
              case c4c => exact (set6 HR9.out).1
              exact HBAD.out _ g.out (K9.out.trans (set6 HR9.out).2)
          · have g := Lib.hid (gno.out (.inr (.inl hz)))
            rw [if_neg hz] at cP
            dsimp only at cP
            have t3 : ((X : Int) != 0) = true := by simpa using hz
            have t4 : ((X : Int) == 0) = false := by simpa using hz
            clear gno gok hz
            go_wp2_with fail
            refine cP.out.use ?_
            intro w9 b9
            have p9 := HP2.out.below b9
            unfold rdr at p9
            obtain ⟨k9, m0, m1, m2⟩ := p9.c3
            have R9 := HR2.out.below b9
            have HR9 := Lib.hid R9
            obtain ⟨kr9, rr0, rr1, rr2, rr3, rr4, rr5⟩ := arr6_cells R9
            have fr9 : ∀ i, w9.frozen? ⟨w.heap.size, i, none⟩ = false := fun i => Blk.frozen R9 i
            have K9 := Lib.hid ((KeptR.refl [w.heap.size] wr).bel b9)
            clear p9 R9 b9 d0 d1 d2 d3 d4 d5
            by_cases he : e = 0
            · subst he
              go_wp2_with fail
              refine bodyPost_ret (results_cell2r rfl _ _ w.heap.size 58 #[.int .i64 0, .int .i64 0, .int .i64 0, .int .i64 0, .slice none 0 0, .slice none 0 0] (0, 0) _ _ rfl rfl ?c4d Tryz.underlying58 rfl (by kernel_rfl)) rfl ?_
              case c4d => exact (set6 HR9.out).1
              exact HBAD.out _ g.out (K9.out.trans (set6 HR9.out).2)
            · have t1 : ((e : Int) == 0) = false := by simpa using he
              have t2 : ((e : Int) != 0) = true := by simpa using he
              clear he
              go_wp2_with fail
              refine bodyPost_ret (results_cell2r rfl _ _ w.heap.size 58 #[.int .i64 0, .int .i64 0, .int .i64 0, .int .i64 0, .slice none 0 0, .slice none 0 0] (0, 0) _ _ rfl rfl ?c4e Tryz.underlying58 rfl (by kernel_rfl)) rfl ?_
              case c4e => exact (set6 HR9.out).1
              exact HBAD.out _ g.out (K9.out.trans (set6 HR9.out).2)
end Go.Proofs.YthiliodmbipikaaGreat
