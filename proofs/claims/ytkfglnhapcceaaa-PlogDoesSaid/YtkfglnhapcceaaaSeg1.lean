import Derived.Test.YtkfglnhapcceaaaSegP
import Derived.Deep.AppendLies
import Derived.Deep.RegionLaw
import Derived.Deep.RegionHeld3
import Derived.Test.YtkfglnhapcceaaaRecX
import Derived.Maps.Own
import Derived.Maps.OwnOps
import Derived.Maps.Views
/-
  Several texts in one: SegA, SegB, SegC, SegD, SegE, SegF, SegG, SegH.
-/
set_option linter.unusedVariables false
set_option linter.unusedSimpArgs false
namespace Go.Proofs.Ytkfglnhapcceaaa
open Go.RowKit
attribute [local go_sem] ByteArray.extract_mk ByteArray.mk_append_mk

theorem fndInfo : (Try.prog.info? 31).map (fun i => (i.zero, i.size, i.bytes)) = some (some (.agg #[.int .i64 0, .bool false, .string (S []), .bool false, .string (S [])]), 5, 56) := by kernel_rfl
theorem intInfo : (Try.prog.info? 3).map (fun i => (i.zero, i.size, i.bytes)) = some (some (.int .i64 0), 1, 8) := by kernel_rfl
theorem own_form {w : World} {B n size : Nat} {e : TypeId} {v : Value} {xs : List Value} (h : w.ownsRow B e size v n xs) : ∃ a cap, v = .slice a n cap := by
  rcases h.2 with ⟨rfl, rfl⟩ | ⟨g, cap, cur, rfl, _⟩
  · exact ⟨_, _, rfl⟩
  · exact ⟨_, _, rfl⟩

/-- Two rows of different types lie apart. -/
theorem own_apart {w : World} {B C n m s t : Nat} {e T : TypeId} {v u : Value} {xs ys : List Value} (h : w.ownsRow B e s v n xs) (k : w.ownsRow C T t u m ys) (hT : e ≠ T) : v.ownBlock = none ∨ v.ownBlock ≠ u.ownBlock := by
  rcases h.2 with ⟨rfl, _⟩ | ⟨g, cap, cur, rfl, _, hg, _⟩
  · exact .inl rfl
  · right
    rcases k.2 with ⟨rfl, _⟩ | ⟨g', cap', cur', rfl, _, hg', _⟩
    · simp [Value.ownBlock]
    · intro e1
      simp only [Value.ownBlock, Option.some.injEq] at e1
      subst e1
      rw [hg] at hg'
      simp only [Option.some.injEq, Obj.cells.injEq] at hg'
      exact hT hg'.2.1
/-- A segment while a record is put in: w the world at the beginning, fc the record's cells in a block of their own. -/
structure PMid (w W : World) (p : Nat) (bs : List Nat) (base next : Int) (lv : Value) (n : Nat) (xs : List Value) (iv : Value) (ix : List Int) (fc : Array Value) : Prop where
  hp : Blk W p #[.int .i64 base, .int .i64 next, lv, iv] 97
  hf : Blk W w.heap.size fc 31
  lo : W.ownsRow 0 31 5 lv n xs
  io : W.ownsRow 0 3 1 iv ix.length (ix.map (Value.int .i64))
  fl : lv.ownBlock ≠ some w.heap.size
  kept : Kept bs w W
  mp : p ∈ bs
  ml : ∀ b, lv.ownBlock = some b → b ∈ bs ∨ w.heap.size ≤ b
  mi : ∀ b, iv.ownBlock = some b → b ∈ bs ∨ w.heap.size ≤ b
section
variable {w W W' : World} {p : Nat} {bs : List Nat} {base next : Int} {lv iv lv' iv' : Value} {n n' : Nat} {xs xs' : List Value} {ix ix' : List Int} {fc : Array Value}
theorem PMid.start {l : List Fnd} (h : SegAt w p bs base next l) (fc : Array Value) : ∃ lv iv, Blk w p #[.int .i64 base, .int .i64 next, lv, iv] 97 ∧ PMid w (w.alloc (.cells fc 31)) p bs base next lv l.length (l.flatMap Fnd.cells) iv (idx l) fc := by
  obtain ⟨lv, iv, hp, hlo, hio, rfl⟩ := h
  refine ⟨lv, iv, hp, hp.alloc _, Blk.new _ _ _, hlo.alloc _, hio.alloc _, ?_, Kept.ofBelow (below_all (Below.refl _ _)) _, by simp, fun b hb => .inl (by simp [hb]), fun b hb => .inl (by simp [hb])⟩
  intro e
  have := own_lt hlo _ e
  omega
theorem PMid.alloc (h : PMid w W p bs base next lv n xs iv ix fc) (o : Obj) : PMid w (W.alloc o) p bs base next lv n xs iv ix fc :=
  ⟨h.hp.alloc o, h.hf.alloc o, h.lo.alloc o, h.io.alloc o, h.fl, h.kept.bel (below_all (Below.refl _ _)), h.mp, h.ml, h.mi⟩
theorem PMid.drew (h : PMid w W p bs base next lv n xs iv ix fc) : PMid w W.drew p bs base next lv n xs iv ix fc :=
  ⟨h.hp.drew, h.hf.drew, h.lo, h.io, h.fl, ⟨h.kept.os, h.kept.tape, h.kept.output, h.kept.size, h.kept.block⟩, h.mp, h.ml, h.mi⟩
theorem PMid.setI (h : PMid w W p bs base next lv n xs iv ix fc) (ho : W'.ownsRow 0 3 1 iv' ix'.length (ix'.map (Value.int .i64))) (hg : W.grownBy W' iv.ownBlock)
    (hat : ∀ b, iv'.ownBlock = some b → iv.ownBlock = some b ∨ b = W.heap.size) : PMid w (W'.setCell ⟨p, 3, none⟩ iv') p bs base next lv n xs iv' ix' fc := by
  have h1 := h.hp.grown hg (own_ne h.io h.hp (by decide))
  have h2 := h1.set 3 iv'
  have h3 := h.lo.kept hg (own_apart h.lo h.io (by decide))
  have h4 : W'.grownBy (W'.setCell ⟨p, 3, none⟩ iv') (some p) := grown_set (grown_refl _ _) _ _
  refine ⟨h2, ?_, h3.kept h4 (.inr (Ne.symm (own_ne h3 h1 (by decide)))), ho.kept h4 (.inr (Ne.symm (own_ne ho h1 (by decide)))), h.fl, ?_, h.mp, h.ml, ?_⟩
  · exact (h.hf.grown hg (own_ne h.io h.hf (by decide))).setOther (a := ⟨p, 3, none⟩) (by intro e; have e : w.heap.size = p := e; have := h.hf; rw [e] at this; unfold Blk at this; rw [h.hp] at this; simp at this) iv'
  · refine (h.kept.trans (Kept.ofGrown hg) ?_).trans (Kept.ofGrown h4) ?_
    · intro x hx; exact h.mi x (by simpa using hx)
    · intro x hx; simp at hx; subst hx; exact .inl h.mp
  · intro b hb
    rcases hat b hb with e | e
    · exact h.mi b e
    · have := h.kept.size; right; omega
theorem PMid.setL (h : PMid w W p bs base next lv n xs iv ix fc) (ho : W'.ownsRow 0 31 5 lv' n' xs') (hg : W.grownBy W' lv.ownBlock)
    (hat : ∀ b, lv'.ownBlock = some b → lv.ownBlock = some b ∨ b = W.heap.size) : PMid w (W'.setCell ⟨p, 2, none⟩ lv') p bs base next lv' n' xs' iv ix fc := by
  have h1 := h.hp.grown hg (own_ne h.lo h.hp (by decide))
  have h2 := h1.set 2 lv'
  have h3 := h.io.kept hg (own_apart h.io h.lo (by decide))
  have h4 : W'.grownBy (W'.setCell ⟨p, 2, none⟩ lv') (some p) := grown_set (grown_refl _ _) _ _
  refine ⟨h2, ?_, ho.kept h4 (.inr (Ne.symm (own_ne ho h1 (by decide)))), h3.kept h4 (.inr (Ne.symm (own_ne h3 h1 (by decide)))), ?_, ?_, h.mp, ?_, h.mi⟩
  · exact (h.hf.grown hg (Ne.symm h.fl)).setOther (a := ⟨p, 2, none⟩) (by intro e; have e : w.heap.size = p := e; have := h.hf; rw [e] at this; unfold Blk at this; rw [h.hp] at this; simp at this) lv'
  · intro e
    rcases hat _ e with e | e
    · exact h.fl e
    · have := h.hf.lt; omega
  · refine (h.kept.trans (Kept.ofGrown hg) ?_).trans (Kept.ofGrown h4) ?_
    · intro x hx; exact h.ml x (by simpa using hx)
    · intro x hx; simp at hx; subst hx; exact .inl h.mp
  · intro b hb
    rcases hat b hb with e | e
    · exact h.ml b e
    · have := h.kept.size; right; omega
theorem PMid.done {l : List Fnd} (h : PMid w W p bs base next lv l.length (l.flatMap Fnd.cells) iv (idx l) fc) : ∃ cs, SegAt W p cs base next l ∧ Kept bs w W ∧ ∀ x ∈ cs, x ∈ bs ∨ w.heap.size ≤ x := by
  refine ⟨_, ⟨lv, iv, h.hp, h.lo, h.io, rfl⟩, h.kept, fun x hx => ?_⟩
  simp only [List.mem_cons, List.mem_append, Option.mem_toList] at hx
  rcases hx with rfl | hx | hx
  · exact .inl h.mp
  · exact h.ml x hx
  · exact h.mi x hx
end
theorem news_int {W : World} (x : Int) {s : Nat} (hs : W.heap.size = s) : ∀ j u, [Value.int .i64 x][j]? = some u → (W.alloc (.cells #[.int .i64 x] 3)).cell? ((⟨s, 0, none⟩ : Addr).add j) = some u := by
  subst hs
  exact World.news_of_block (cs := #[.int .i64 x]) (t := 3) (fr := (0, 0)) (heap_alloc_new W _)
theorem news_fnd {W : World} (f : Fnd) {s : Nat} (hs : W.heap.size = s) : ∀ j u, f.cells[j]? = some u → (W.alloc (.cells f.cells.toArray 31)).cell? ((⟨s, 0, none⟩ : Addr).add j) = some u := by
  subst hs
  exact World.news_of_block (cs := f.cells.toArray) (t := 31) (fr := (0, 0)) (heap_alloc_new W _)

set_option maxHeartbeats 4000000 in
set_option maxRecDepth 100000 in
theorem put5 (p : Nat) (bs : List Nat) (base next : Int) (l : List Fnd) (f : Fnd) (w : World) (h : SegAt w p bs base next l) (hl : l.length ≤ 100000) :
    SegCall 58 #[.pointer (some ⟨p, 0, none⟩), f.val] w p bs (.tuple #[]) base next (l ++ [f]) := by
  refine SegCall.intro fun R hR => ?_
  obtain ⟨i0, hi, hz0, hz1, hz2⟩ := info_parts fndInfo
  obtain ⟨j0, hj, hy0, hy1, hy2⟩ := info_parts intInfo
  obtain ⟨lv, iv, hp, P1⟩ := PMid.start h #[.int .i64 f.off, .bool f.r.hk, .string (S f.r.key), .bool f.r.tb, .string (S f.r.val)]
  obtain ⟨la, lc, rfl⟩ := own_form P1.lo
  obtain ⟨ia, ic, rfl⟩ := own_form P1.io
  have hil := idx_len l
  have hdone : ∀ {W : World} {lv iv : Value} {fc : Array Value}, PMid w W p bs base next lv (l ++ [f]).length ((l ++ [f]).flatMap Fnd.cells) iv (idx (l ++ [f])) fc → R (.returned (.tuple #[])) W := fun h => by
    obtain ⟨cs, h1, h2, h3⟩ := h.done
    exact hR.out cs _ h1 h2 h3
  have HD : Hid (∀ {W : World} {lv iv : Value} {fc : Array Value}, PMid w W p bs base next lv (l ++ [f]).length ((l ++ [f]).flatMap Fnd.cells) iv (idx (l ++ [f])) fc → R (.returned (.tuple #[])) W) := hdone
  have hlen : (l ++ [f]).length = l.length + 1 := by simp
  have hfl : (l ++ [f]).flatMap Fnd.cells = l.flatMap Fnd.cells ++ f.cells := by simp
  have hix := idx_snoc l f
  rw [hlen, hfl] at HD
  have HX := Lib.hid hix
  clear hdone hR hlen hfl hix h
  unfold Fnd.val
  go_enter Try.func58, Try.ntmps58
  obtain ⟨k0, p0, p1, p2, p3⟩ := hp.c4
  have fp := fun i => Blk.frozen hp i
  by_cases h8 : l.length % 8 = 0
  · have q1 : ((l.length : Int) % 8 == 0) = true := by simp; omega
    rw [if_pos h8] at HX
    go_wp2_with fail
    go_region_law (refine step_append_lies _ (by rfl) _ _ _ (by rfl) 0 3 j0 _ 1 8 Try.underlying59 hj hy0 hy1 hy2 rfl (by omega) (.slice ia (idx l).length ic) (idx l).length ((idx l).map (Value.int .i64)) (by simp [Act.eval, Act.put]) (P1.drew.alloc _).io ⟨w.heap.size + 1, 0, none⟩ 1 1 [.int .i64 f.off] (by simp [Act.eval, Act.put]) rfl (news_int f.off (by simp)) (by simp [Value.oneCell']) (by omega) (by unfold maxLen; omega) (by omega) (by omega) (w.heap.size + 2) (by simp) ?_; intro g cap w3 hown3 hgrow3 hat3 hlt3; have P2 := P1.drew.alloc (.cells #[.int .i64 f.off] 3); have bb := P2.hp.grown hgrow3 (own_ne P2.io P2.hp (by decide)); obtain ⟨kk, pp0, pp1, pp2, pp3⟩ := bb.c4; have ff := fun i => Blk.frozen bb i)
    all_goals (have hown3' : w3.ownsRow 0 3 1 (.slice (some ⟨g, 0, none⟩) ((idx l).length + 1) cap) (idx (l ++ [f])).length ((idx (l ++ [f])).map (Value.int .i64)) := by rw [HX.out]; simpa using hown3)
    all_goals (have PP := P2.setI hown3' hgrow3 (by intro b hb; cases hb; rcases hat3 with e | e; exact .inl e; right; subst e; simp))
    all_goals clear hown3 hgrow3 hat3 hlt3 P2 bb kk pp0 pp1 pp2 pp3 ff hown3' P1 p0 p1 p2 p3 fp hp
    all_goals generalize w3.setCell ⟨p, 3, none⟩ (.slice (some ⟨g, 0, none⟩) ((idx l).length + 1) cap) = W at PP ⊢
    all_goals obtain ⟨k1, p0, p1, p2, p3⟩ := PP.hp.c4
    all_goals (have e0 := PP.hf.cell 0; have e1 := PP.hf.cell 1; have e2 := PP.hf.cell 2; have e3 := PP.hf.cell 3; have e4 := PP.hf.cell 4; have kf := PP.hf.lt)
    all_goals simp only [List.getElem?_toArray, List.getElem?_cons_zero, List.getElem?_cons_succ] at e0 e1 e2 e3 e4
    all_goals go_wp2_with fail
    all_goals go_region_law (refine step_append_lies _ (by rfl) _ _ _ (by rfl) 0 31 i0 _ 5 56 Try.underlying24 hi hz0 hz1 hz2 rfl (by omega) (.slice la l.length lc) l.length (l.flatMap Fnd.cells) (by simp [Act.eval, Act.put]) (PP.drew.alloc _).lo ⟨W.heap.size, 0, none⟩ 1 1 f.cells (by simp [Act.eval, Act.put]) rfl (news_fnd f (by first | rfl | simp)) (by simp [Value.oneCell', Fnd.cells, Rec.cells]) (by omega) (by unfold maxLen; omega) (by omega) (by omega) (W.heap.size + 1) (by simp) ?_; intro g2 cap2 w5 hown5 hgrow5 hat5 hlt5; have P4 := PP.drew.alloc (.cells f.cells.toArray 31); have bb2 := P4.hp.grown hgrow5 (own_ne P4.lo P4.hp (by decide)); obtain ⟨kk2, rr0, rr1, rr2, rr3⟩ := bb2.c4; have ff2 := fun i => Blk.frozen bb2 i)
    all_goals go_wp2_with fail
    all_goals refine bodyPost_end (results_none rfl _ _ _) rfl ?_
    all_goals exact HD.out (P4.setL hown5 hgrow5 (by intro b hb; cases hb; rcases hat5 with e | e; exact .inl e; right; subst e; simp))
  · have q1 : ((l.length : Int) % 8 == 0) = false := by simp; omega
    rw [if_neg h8, List.append_nil] at HX
    rw [← HX.out] at P1
    go_wp2_with fail
    have PP := P1
    go_region_law (refine step_append_lies _ (by rfl) _ _ _ (by rfl) 0 31 i0 _ 5 56 Try.underlying24 hi hz0 hz1 hz2 rfl (by omega) (.slice la l.length lc) l.length (l.flatMap Fnd.cells) (by simp [Act.eval, Act.put]) (PP.drew.alloc _).lo ⟨(w.heap.size + 1), 0, none⟩ 1 1 f.cells (by simp [Act.eval, Act.put]) rfl (news_fnd f (by first | rfl | simp)) (by simp [Value.oneCell', Fnd.cells, Rec.cells]) (by omega) (by unfold maxLen; omega) (by omega) (by omega) ((w.heap.size + 1) + 1) (by simp) ?_; intro g2 cap2 w5 hown5 hgrow5 hat5 hlt5; have P4 := PP.drew.alloc (.cells f.cells.toArray 31); have bb2 := P4.hp.grown hgrow5 (own_ne P4.lo P4.hp (by decide)); obtain ⟨kk2, rr0, rr1, rr2, rr3⟩ := bb2.c4; have ff2 := fun i => Blk.frozen bb2 i)
    all_goals go_wp2_with fail
    all_goals refine bodyPost_end (results_none rfl _ _ _) rfl ?_
    all_goals exact HD.out (P4.setL hown5 hgrow5 (by intro b hb; cases hb; rcases hat5 with e | e; exact .inl e; right; subst e; simp))
end Go.Proofs.Ytkfglnhapcceaaa

set_option linter.unusedVariables false
set_option linter.unusedSimpArgs false
namespace Go.Proofs.Ytkfglnhapcceaaa
open Go.RowKit
attribute [local go_sem] ByteArray.extract_mk ByteArray.mk_append_mk

/-- A new segment is handed back. -/
def SegNew (f : FuncId) (args : Array Value) (w : World) (base next : Int) (l : List Fnd) : Prop :=
  Calls Try.prog f args w fun x w' => ∃ p bs, x = .returned (.tuple #[.pointer (some ⟨p, 0, none⟩), .int .i64 0]) ∧ SegAt w' p bs base next l ∧ Below w.heap.size w w' ∧ ∀ x ∈ bs, w.heap.size ≤ x
theorem SegNew.intro {f : FuncId} {args : Array Value} {w : World} {base next : Int} {l : List Fnd}
    (h : ∀ R : Ending → World → Prop, Hid (∀ p bs w', SegAt w' p bs base next l → Below w.heap.size w w' → (∀ x ∈ bs, w.heap.size ≤ x) → R (.returned (.tuple #[.pointer (some ⟨p, 0, none⟩), .int .i64 0])) w') → Calls Try.prog f args w R) : SegNew f args w base next l :=
  h _ fun p bs w' h1 h2 h3 => ⟨p, bs, rfl, h1, h2, h3⟩
theorem SegNew.use {f : FuncId} {args : Array Value} {w : World} {base next : Int} {l : List Fnd} {R : Ending → World → Prop} (h : SegNew f args w base next l)
    (k : ∀ p bs w', SegAt w' p bs base next l → Below w.heap.size w w' → (∀ x ∈ bs, w.heap.size ≤ x) → R (.returned (.tuple #[.pointer (some ⟨p, 0, none⟩), .int .i64 0])) w') : Calls Try.prog f args w R :=
  h.mono fun x w' ⟨p, bs, he, h1, h2, h3⟩ => by subst he; exact k p bs w' h1 h2 h3

set_option maxHeartbeats 1000000 in
theorem offset5 (n : Int) (w : World) : Ret Try.prog 57 #[.int .i64 n] w (.bool (numB n)) := by
  refine Ret.intro fun R hR => ?_
  unfold numB at hR
  by_cases h1 : 0 ≤ n
  · by_cases h2 : n ≤ 1099511627776
    · rw [decide_eq_true h1, decide_eq_true h2] at hR
      go_enter Try.func57, Try.ntmps57
      go_wp2
      exact fin hR rfl
    · rw [decide_eq_true h1, decide_eq_false h2] at hR
      go_enter Try.func57, Try.ntmps57
      go_wp2
      exact fin hR rfl
  · rw [decide_eq_false h1] at hR
    go_enter Try.func57, Try.ntmps57
    go_wp2
    exact fin hR rfl

set_option maxHeartbeats 1000000 in
theorem new5_ok (n : Int) (w : World) (h : numB n = true) : SegNew 40 #[.int .i64 n] w n n [] := by
  refine SegNew.intro fun R hR => ?_
  have c := fun w => offset5 n w
  rw [h] at c
  go_enter Try.func40, Try.ntmps40
  go_wp2_with fail
  refine (c _).use ?_
  go_wp2_with fail
  refine hR.out _ [w.heap.size] _ ⟨.slice none 0 0, .slice none 0 0, Blk.new _ _ _, World.ownsRow_nil _ _ _ _, World.ownsRow_nil _ _ _ _, rfl⟩ (below_all (Below.refl _ _)) (by simp)
set_option maxHeartbeats 1000000 in
theorem new5_no (n : Int) (w : World) (h : numB n = false) : RetB Try.prog 40 #[.int .i64 n] w (.tuple #[.pointer none, .int .i64 1]) := by
  refine RetB.intro fun R hR => ?_
  have c := fun w => offset5 n w
  rw [h] at c
  go_enter Try.func40, Try.ntmps40
  go_wp2_with fail
  refine (c _).use ?_
  go_wp2_with fail
  exact finB hR (Below.refl _ _) rfl

set_option maxHeartbeats 2000000 in
theorem checked5 (v : Value) (l : List Rec) (w : World) (hl : RecsIn w v l) (hbd : RecsBd l) : RetB Try.prog 59 #[v] w (.int .i64 (rchecks l)) := by
  refine RetB.intro fun R hR => ?_
  have hlen : l.length ≤ 9223372036854775807 := by have := hbd.1; unfold maxLen at this; omega
  rcases hl with ⟨rfl, a, cap, rfl⟩ | ⟨b, off, cap, rfl, _, hlt, hc⟩
  · have hr : rchecks [] = 0 := rfl
    rw [hr] at hR
    go_enter Try.func59, Try.ntmps59
    go_wp2_with fail
    refine wp_loop_rounds 1 ?_
    rw [rounds_succ]
    go_wp2_with fail
    exact finB hR (Below.refl _ _) rfl
  · have HC := Lib.hid hc
    have HB := Lib.hid hbd
    clear hc hbd
    go_enter Try.func59, Try.ntmps59
    go_wp2_with fail
    go_loopw [4, 5, 8] (fun (v4 v5 v8 : Value) (wr : World) => ∃ k : Nat, k ≤ l.length ∧ v8 = .int .i64 (k : Int) ∧ Hid (rchecks (l.drop k) = rchecks l) ∧ Below w.heap.size w wr) (fun (v4 v5 v8 : Value) (wr : World) => (l.length - intOf v8).toNat)
    case atStart => exact ⟨0, by omega, rfl, rfl, Below.refl _ _⟩
    case round =>
      obtain ⟨k, hk, rfl, hch, hnx⟩ := hrel
      by_cases hkl : k < l.length
      · have hbk := HB.out.2 _ (List.getElem_mem hkl)
        obtain ⟨c0, c1, c2, c3⟩ := (HC.out k hkl).keep fun j => hnx.cell (p := ⟨b, j, none⟩) hlt
        have hltr : b < wr.heap.size := Nat.lt_of_lt_of_le hlt hnx.size
        have hcc := fun w => check_any l[k].hk l[k].tb l[k].key l[k].val w hbk.1 hbk.2
        have hok : rcheck l[k].hk l[k].key l[k].tb l[k].val = l[k].ok := rfl
        rw [hok] at hcc
        have hst := fun h => Lib.hid (rchecks_step hkl h)
        have hsp := fun h => Lib.hid (rchecks_stop hkl h)
        clear hok hbk
        generalize l[k] = r at *
        obtain ⟨o, ho⟩ : ∃ o, r.ok = o := ⟨_, rfl⟩
        rw [ho] at hcc hst hsp
        have hnx1 := below_all (o := .cells #[.bool r.hk, .string (S r.key), .bool r.tb, .string (S r.val)] 29) hnx
        by_cases h0 : o = 0
        · subst h0
          have hst0 := hst rfl
          have hcc : ∀ w, RetB Try.prog 37 _ w (.int .i64 0) := hcc
          clear hsp hst
          go_wp2_with fail
          refine (hcc _).use ?_
          intro w2 hb2
          have hnx2 := below_any (Nat.le_refl _) hnx1 hb2
          go_wp2_with fail
          go_roundw
          case rel => exact ⟨k + 1, by omega, by go_num, Lib.hid (hst0.out.trans hch.out), hnx2⟩
          case measure => simp [intOf]; omega
        · have hsp0 := hsp h0
          have hne : ((o : Int) != 0) = true := by simp; omega
          have hne2 : (o != 0) = true := by simp; omega
          clear hst hsp
          go_wp2_with fail
          refine (hcc _).use ?_
          intro w2 hb2
          have hnx2 := below_any (Nat.le_refl _) hnx1 hb2
          go_wp2_with fail
          exact finB hR hnx2 (veq_int (by rw [← hch.out, hsp0.out]))
      · have he : Hid (rchecks l = 0) := Lib.hid (by rw [← hch.out]; exact rchecks_end (by omega))
        rw [he.out] at hR
        go_wp2_with fail
        exact finB hR hnx rfl
end Go.Proofs.Ytkfglnhapcceaaa

set_option linter.unusedVariables false
set_option linter.unusedSimpArgs false
namespace Go.Proofs.Ytkfglnhapcceaaa
open Go.RowKit
attribute [local go_sem] ByteArray.extract_mk ByteArray.mk_append_mk

/-- Records with offsets one behind the other. -/
def fnds : Int → List Rec → List Fnd
  | _, [] => []
  | n, r :: l => ⟨n, r⟩ :: fnds (n + 1) l
theorem fnds_len : ∀ (l : List Rec) (n : Int), (fnds n l).length = l.length
  | [], _ => rfl
  | r :: l, n => by simp [fnds, fnds_len l]
theorem fnds_snoc : ∀ (l : List Rec) (n : Int) (r : Rec), fnds n (l ++ [r]) = fnds n l ++ [⟨n + l.length, r⟩]
  | [], n, r => by simp [fnds]
  | s :: l, n, r => by
    simp only [List.cons_append, fnds, fnds_snoc l, List.length_cons]
    congr 4
    omega
theorem fnds_take (l : List Rec) (n : Int) {k : Nat} (hk : k < l.length) : fnds n (l.take (k + 1)) = fnds n (l.take k) ++ [⟨n + k, l[k]⟩] := by
  rw [List.take_succ_eq_append_getElem hk, fnds_snoc, List.length_take, Nat.min_eq_left (by omega)]

theorem SegAt.mem {w : World} {p : Nat} {bs : List Nat} {base next : Int} {l : List Fnd} (h : SegAt w p bs base next l) : p ∈ bs := by
  obtain ⟨lv, iv, _, _, _, rfl⟩ := h
  simp
theorem SegAt.setNext {w : World} {p : Nat} {bs : List Nat} {base next : Int} {l : List Fnd} (h : SegAt w p bs base next l) (n : Int) :
    SegAt (w.setCell ⟨p, 1, none⟩ (.int .i64 n)) p bs base n l ∧ Kept bs w (w.setCell ⟨p, 1, none⟩ (.int .i64 n)) := by
  have hm := h.mem
  obtain ⟨lv, iv, h1, h2, h3, hb⟩ := h
  have hg : w.grownBy (w.setCell ⟨p, 1, none⟩ (.int .i64 n)) (some p) := grown_set (grown_refl _ _) _ _
  refine ⟨⟨lv, iv, h1.set 1 _, h2.kept hg (.inr (Ne.symm (own_ne h2 h1 (by decide)))), h3.kept hg (.inr (Ne.symm (own_ne h3 h1 (by decide)))), hb⟩, (Kept.ofGrown hg).mono (by simpa using hm)⟩
theorem SegAt.c4 {w : World} {p : Nat} {bs : List Nat} {base next : Int} {l : List Fnd} (h : SegAt w p bs base next l) : p < w.heap.size ∧ w.cell? ⟨p, 0, none⟩ = some (.int .i64 base) ∧ w.cell? ⟨p, 1, none⟩ = some (.int .i64 next) ∧
    (∃ la lc, w.cell? ⟨p, 2, none⟩ = some (.slice la l.length lc)) ∧ (∃ ia ic, w.cell? ⟨p, 3, none⟩ = some (.slice ia (idx l).length ic)) ∧ ∀ i, w.frozen? ⟨p, i, none⟩ = false := by
  obtain ⟨lv, iv, h1, h2, h3, hb⟩ := h
  obtain ⟨k, c0, c1, c2, c3⟩ := h1.c4
  obtain ⟨la, lc, rfl⟩ := own_form h2
  obtain ⟨ia, ic, rfl⟩ := own_form h3
  exact ⟨k, c0, c1, ⟨la, lc, c2⟩, ⟨ia, ic, c3⟩, fun i => Blk.frozen h1 i⟩

theorem SegAt.drew {w : World} {p : Nat} {bs : List Nat} {base next : Int} {l : List Fnd} (h : SegAt w p bs base next l) : SegAt w.drew p bs base next l := h
/-- What an append comes to. -/
def aerr (l : List Fnd) (next : Int) (rs : List Rec) : Nat := if rchecks rs ≠ 0 then rchecks rs else if 64 < l.length + rs.length ∨ 1099511627776 < next + rs.length then 50 else 0

set_option maxHeartbeats 4000000 in
set_option maxRecDepth 100000 in
theorem append5_no (p : Nat) (bs : List Nat) (base next : Int) (l : List Fnd) (v : Value) (rs : List Rec) (w : World) (h : SegAt w p bs base next l) (hl : RecsIn w v rs) (hbd : RecsBd rs) (hrl : rs.length ≤ 100000) (hll : l.length ≤ 100000) (hn : 0 ≤ next ∧ next ≤ 1099511627776)
    (he : aerr l next rs ≠ 0) : RetB Try.prog 41 #[.pointer (some ⟨p, 0, none⟩), v] w (.tuple #[.int .i64 0, .int .i64 (aerr l next rs)]) := by
  refine RetB.intro fun R hR => ?_
  obtain ⟨a, cap, rfl⟩ := hl.form
  have hcc := checked5 _ rs w hl hbd
  obtain ⟨o, ho⟩ : ∃ o, rchecks rs = o := ⟨_, rfl⟩
  unfold aerr at he hR
  rw [ho] at hcc he hR
  have h2 := Lib.hid h
  have e1 : IntKind.i64.wrap ((l.length : Int) + (rs.length : Int)) = (l.length : Int) + (rs.length : Int) := by rw [IntKind.wrap_i64]; omega
  have e3 : IntKind.i64.wrap (next + (rs.length : Int)) = next + (rs.length : Int) := by rw [IntKind.wrap_i64]; omega
  by_cases h0 : o = 0
  · subst h0
    rw [if_neg (by simp)] at he hR
    have hcc : RetB Try.prog 59 _ w (.int .i64 0) := hcc
    by_cases h1 : 64 < l.length + rs.length
    · rw [if_pos (Or.inl h1)] at hR
      have e2 : ((64 : Int) < (l.length : Int) + (rs.length : Int)) = True := eq_true (by omega)
      clear he
      go_enter Try.func41, Try.ntmps41
      go_wp2_with fail
      refine hcc.use ?_
      intro w1 b1
      obtain ⟨k, c0, c1, ⟨la, lc, c2⟩, ⟨ia, ic, c3⟩, cf⟩ := (h2.out.below b1).c4
      go_wp2_with fail
      exact finB hR b1 rfl
    · by_cases h3 : 1099511627776 < next + (rs.length : Int)
      · rw [if_pos (Or.inr h3)] at hR
        have e2 : ((64 : Int) < (l.length : Int) + (rs.length : Int)) = False := eq_false (by omega)
        have e4 : ((1099511627776 : Int) < next + (rs.length : Int)) = True := eq_true (by omega)
        clear he
        go_enter Try.func41, Try.ntmps41
        go_wp2_with fail
        refine hcc.use ?_
        intro w1 b1
        obtain ⟨k, c0, c1, ⟨la, lc, c2⟩, ⟨ia, ic, c3⟩, cf⟩ := (h2.out.below b1).c4
        go_wp2_with fail
        exact finB hR b1 rfl
      · exact absurd (if_neg (by rintro (h | h) <;> contradiction)) he
  · rw [if_pos h0] at hR
    have e2 : ((o : Int) != 0) = true := by simp; omega
    clear he
    go_enter Try.func41, Try.ntmps41
    go_wp2_with fail
    refine hcc.use ?_
    intro w1 b1
    go_wp2_with fail
    exact finB hR b1 rfl

set_option maxHeartbeats 4000000 in
set_option maxRecDepth 100000 in
theorem append5_ok (p : Nat) (bs : List Nat) (base next : Int) (l : List Fnd) (v : Value) (rs : List Rec) (w : World) (h : SegAt w p bs base next l) (hl : RecsIn w v rs) (ha : Away bs v) (hbd : RecsBd rs) (hn : 0 ≤ next)
    (he : aerr l next rs = 0) : SegCall 41 #[.pointer (some ⟨p, 0, none⟩), v] w p bs (.tuple #[.int .i64 next, .int .i64 0]) base (next + rs.length) (l ++ fnds next rs) := by
  refine SegCall.intro fun R hR => ?_
  have hcc := checked5 _ rs w hl hbd
  unfold aerr at he
  have h0 : rchecks rs = 0 := by
    by_cases h : rchecks rs = 0
    · exact h
    · rw [if_pos h] at he; exact he
  rw [if_neg (by simp [h0])] at he
  have h1 : ¬ (64 < l.length + rs.length ∨ 1099511627776 < next + (rs.length : Int)) := by
    intro h; rw [if_pos h] at he; simp at he
  rw [h0] at hcc
  have hcc : RetB Try.prog 59 _ w (.int .i64 0) := hcc
  have h2 := Lib.hid h
  have e1 : IntKind.i64.wrap ((l.length : Int) + (rs.length : Int)) = (l.length : Int) + (rs.length : Int) := by rw [IntKind.wrap_i64]; omega
  have e3 : IntKind.i64.wrap (next + (rs.length : Int)) = next + (rs.length : Int) := by rw [IntKind.wrap_i64]; omega
  have e2 : ((64 : Int) < (l.length : Int) + (rs.length : Int)) = False := eq_false (by omega)
  have e4 : ((1099511627776 : Int) < next + (rs.length : Int)) = False := eq_false (by omega)
  have hlr : l.length + rs.length ≤ 64 := by omega
  have hnr : next + (rs.length : Int) ≤ 1099511627776 := by omega
  have HL := Lib.hid hl
  have HA := Lib.hid ha
  have HR2 := Lib.hid hR.out
  obtain ⟨a, cap, rfl⟩ := hl.form
  clear he h1 h0 hl ha
  go_enter Try.func41, Try.ntmps41
  go_wp2_with fail
  refine hcc.use ?_
  intro w1 b1
  have S1 := h2.out.below b1
  obtain ⟨k0, c0, c1, ⟨la, lc, c2⟩, ⟨ia, ic, c3⟩, cf⟩ := S1.c4
  go_wp2_with fail
  clear c0 c1 c2 c3 cf k0 e1 e2 e3 e4 hcc
  go_loopw [9, 40] (fun (v9 v40 : Value) (W : World) => ∃ (k : Nat) (cs : List Nat), k ≤ rs.length ∧ v40 = .int .i64 (k : Int) ∧ SegAt W p cs base (next + k) (l ++ fnds next (rs.take k)) ∧ Kept bs w W ∧ ∀ x ∈ cs, x ∈ bs ∨ w.heap.size ≤ x) (fun (v9 v40 : Value) (W : World) => (rs.length - intOf v40).toNat)
  case atStart => exact ⟨0, bs, by omega, rfl, by simpa [fnds] using S1, Kept.ofBelow b1 _, fun x hx => .inl hx⟩
  case round =>
    obtain ⟨k, cs, hk, rfl, hS, hK, hcs⟩ := hrel
    by_cases hkl : k < rs.length
    · have hr := HL.out.kept hK HA.out
      rcases hr with ⟨h, _⟩ | ⟨b, off, cap', hsl, hne, hlt, hc⟩
      · rw [h] at hkl; simp at hkl
      simp only [Value.slice.injEq, true_and] at hsl
      obtain ⟨rfl, rfl⟩ := hsl
      obtain ⟨x0, x1, x2, x3⟩ := hc k hkl
      have hft := Lib.hid (fnds_take rs next hkl)
      have hfl : (l ++ fnds next (rs.take k)).length ≤ 64 := by rw [List.length_append, fnds_len, List.length_take]; omega
      generalize rs[k] = r at *
      generalize fnds next (rs.take k) = fs at *
      obtain ⟨k0, c0, c1, ⟨la2, lc2, c2⟩, ⟨ia2, ic2, c3⟩, cf⟩ := hS.c4
      have hS2 := hS.below (below_all (o := .cells #[.bool r.hk, .string (S r.key), .bool r.tb, .string (S r.val)] 29) (Below.refl _ _))
      have cP := put5 p cs base (next + k) _ ⟨next + k, r⟩ _ hS2.drew (by omega)
      have CP := Lib.hid cP
      clear hc hne cP
      have e5 : IntKind.i64.wrap (next + (k : Int) + 1) = next + (k : Int) + 1 := by rw [IntKind.wrap_i64]; omega
      have hK2 : Kept bs w (wr.alloc (.cells #[.bool r.hk, .string (S r.key), .bool r.tb, .string (S r.val)] 29)).drew := (hK.bel (below_all (Below.refl _ _))).bel (Below.refl _ _).drew
      go_wp2_with fail
      go_region_with (go_at_call 58; refine CP.out.use ?_; intro cs2 w2 S2 K2 N2; obtain ⟨kk0, cc0, cc1, ⟨la3, lc3, cc2⟩, ⟨ia3, ic3, cc3⟩, ccf⟩ := S2.c4)
      all_goals go_wp2_with fail
      all_goals go_roundw
      case rel =>
        have S3 := S2.setNext (next + k + 1)
        have hm : ∀ x ∈ cs2, x ∈ bs ∨ w.heap.size ≤ x := fun x hx => (N2 x hx).elim (hcs x) fun h => .inr (Nat.le_trans hK2.size h)
        refine ⟨k + 1, cs2, by omega, by go_num, ?_, (hK2.trans K2 hcs).trans S3.2 hm, hm⟩
        rw [hft.out, ← List.append_assoc, show next + ((k + 1 : Nat) : Int) = next + k + 1 by omega]
        exact S3.1
      case measure => simp [intOf]; omega
      case rel =>
        have S3 := S2.setNext (next + k + 1)
        have hm : ∀ x ∈ cs2, x ∈ bs ∨ w.heap.size ≤ x := fun x hx => (N2 x hx).elim (hcs x) fun h => .inr (Nat.le_trans hK2.size h)
        refine ⟨k + 1, cs2, by omega, by go_num, ?_, (hK2.trans K2 hcs).trans S3.2 hm, hm⟩
        rw [hft.out, ← List.append_assoc, show next + ((k + 1 : Nat) : Int) = next + k + 1 by omega]
        exact S3.1
      case measure => simp [intOf]; omega
    · obtain rfl : k = rs.length := by omega
      rw [List.take_length] at hS
      go_wp2_with fail
      exact HR2.out cs _ hS hK hcs
end Go.Proofs.Ytkfglnhapcceaaa

set_option linter.unusedVariables false
set_option linter.unusedSimpArgs false
namespace Go.Proofs.Ytkfglnhapcceaaa
open Go.RowKit
attribute [local go_sem] ByteArray.extract_mk ByteArray.mk_append_mk

/-- Records with offsets, handed back in a row of the caller's own. -/
def FndsCall (f : FuncId) (args : Array Value) (w : World) (l : List Fnd) : Prop :=
  Calls Try.prog f args w fun x w' => ∃ v, x = .returned v ∧ w'.ownsRow w.heap.size 31 5 v l.length (l.flatMap Fnd.cells) ∧ Below w.heap.size w w'
theorem FndsCall.intro {f : FuncId} {args : Array Value} {w : World} {l : List Fnd}
    (h : ∀ R : Ending → World → Prop, Hid (∀ v w', w'.ownsRow w.heap.size 31 5 v l.length (l.flatMap Fnd.cells) → Below w.heap.size w w' → R (.returned v) w') → Calls Try.prog f args w R) : FndsCall f args w l :=
  h _ fun v w' h1 h2 => ⟨v, rfl, h1, h2⟩
theorem FndsCall.use {f : FuncId} {args : Array Value} {w : World} {l : List Fnd} {R : Ending → World → Prop} (h : FndsCall f args w l)
    (k : ∀ v w', w'.ownsRow w.heap.size 31 5 v l.length (l.flatMap Fnd.cells) → Below w.heap.size w w' → R (.returned v) w') : Calls Try.prog f args w R :=
  h.mono fun x w' ⟨v, he, h1, h2⟩ => by subst he; exact k v w' h1 h2
/-- Numbers, handed back in a row of the caller's own. -/
def NumsCall (f : FuncId) (args : Array Value) (w : World) (l : List Int) : Prop :=
  Calls Try.prog f args w fun x w' => ∃ v, x = .returned v ∧ w'.ownsRow w.heap.size 3 1 v l.length (l.map (Value.int .i64)) ∧ Below w.heap.size w w'
theorem NumsCall.intro {f : FuncId} {args : Array Value} {w : World} {l : List Int}
    (h : ∀ R : Ending → World → Prop, Hid (∀ v w', w'.ownsRow w.heap.size 3 1 v l.length (l.map (Value.int .i64)) → Below w.heap.size w w' → R (.returned v) w') → Calls Try.prog f args w R) : NumsCall f args w l :=
  h _ fun v w' h1 h2 => ⟨v, rfl, h1, h2⟩
theorem NumsCall.use {f : FuncId} {args : Array Value} {w : World} {l : List Int} {R : Ending → World → Prop} (h : NumsCall f args w l)
    (k : ∀ v w', w'.ownsRow w.heap.size 3 1 v l.length (l.map (Value.int .i64)) → Below w.heap.size w w' → R (.returned v) w') : Calls Try.prog f args w R :=
  h.mono fun x w' ⟨v, he, h1, h2⟩ => by subst he; exact k v w' h1 h2
theorem nnews_at {w : World} {b o : Nat} {l : List Int} (h : ∀ i, (h : i < l.length) → w.cell? ⟨b, o + i, none⟩ = some (.int .i64 l[i])) : ∀ j u, (l.map (Value.int .i64))[j]? = some u → w.cell? ((⟨b, o, none⟩ : Addr).add j) = some u := fun j u hj => by
  rw [addr_add]
  have hlt : j < l.length := by have := (List.getElem?_eq_some_iff.1 hj).1; simpa using this
  rw [h j hlt]
  simpa [hlt] using hj

set_option maxHeartbeats 2000000 in
theorem clone5 (v : Value) (l : List Fnd) (w : World) (hl : FndsIn w v l) (hb : l.length ≤ 1000000) : FndsCall 64 #[v] w l := by
  refine FndsCall.intro fun R hR => ?_
  obtain ⟨i0, hi, hz0, hz1, hz2⟩ := info_parts fndInfo
  have q22 : ∀ (w : World) (a : Option Addr) (n c n' c' : Nat), (binOp .eql 24 (.slice a n c) (.slice none n' c')).run Try.prog w = .ok (.bool a.isNone) w := fun w a n c n' c' => Lib.run_eql_slice_nil w _ _ a n c n' c' Try.underlying24
  obtain ⟨a, cap, rfl⟩ := hl.form
  cases a with
  | none =>
    have h0 : l = [] := by
      rcases hl with ⟨h, _⟩ | ⟨b, off, cap', h, _⟩
      · exact h
      · simp at h
    subst h0
    go_enter Try.func64, Try.ntmps64
    go_wp2_with fail
    exact hR.out _ _ (World.ownsRow_nil _ _ _ _) (Below.refl _ _)
  | some ad =>
    have hnew : ∀ o, ∀ j u, (l.flatMap Fnd.cells)[j]? = some u → (w.alloc o).cell? (ad.add j) = some u := fun o => by
      rcases hl with ⟨rfl, _⟩ | ⟨b, off, cap', h, _, _, hlt, hc⟩
      · intro j u hj; simp at hj
      · simp only [Value.slice.injEq, Option.some.injEq] at h
        obtain ⟨rfl, _, rfl⟩ := h
        exact fnews_at fun i h => (hc i h).keep fun k => (below_all (o := o) (Below.refl _ _)).cell (p := ⟨b, k, none⟩) hlt
    have hn := fcells_len l
    have o0 : (w.alloc (.cells #[] 31)).ownsRow w.heap.size 31 5 (.slice (some ⟨w.heap.size, 0, none⟩) 0 0) 0 [] := World.ownsRow_made w #[] 0 (Nat.le_refl _) (by omega) rfl
    clear hl
    go_enter Try.func64, Try.ntmps64
    go_wp2_with (at_builtin; refine wpList_append_own _ rfl _ _ 24 rfl w.heap.size 31 i0 _ 5 56 Try.underlying24 hi hz0 hz1 hz2 rfl (by decide) _ _ _ rfl o0 ad l.length cap (l.flatMap Fnd.cells) rfl hn (hnew _) (fcells_one _) (by unfold maxLen; omega) (by omega) (by simp) ?_)
    intro v' w1 o1 g1 z1
    go_wp2_with fail
    exact hR.out _ _ (by simpa using o1) (below_own (below_all (Below.refl _ _)) (Nat.le_refl _) (by simp) g1)

set_option maxHeartbeats 2000000 in
theorem cloneN5 (v : Value) (l : List Int) (w : World) (hl : NumsIn w v l) (hb : l.length ≤ 1000000) : NumsCall 67 #[v] w l := by
  refine NumsCall.intro fun R hR => ?_
  obtain ⟨i0, hi, hz0, hz1, hz2⟩ := info_parts intInfo
  have q22 : ∀ (w : World) (a : Option Addr) (n c n' c' : Nat), (binOp .eql 59 (.slice a n c) (.slice none n' c')).run Try.prog w = .ok (.bool a.isNone) w := fun w a n c n' c' => Lib.run_eql_slice_nil w _ _ a n c n' c' Try.underlying59
  obtain ⟨a, cap, rfl⟩ := hl.form
  cases a with
  | none =>
    have h0 : l = [] := by
      rcases hl with ⟨h, _⟩ | ⟨b, off, cap', h, _⟩
      · exact h
      · simp at h
    subst h0
    go_enter Try.func67, Try.ntmps67
    go_wp2_with fail
    exact hR.out _ _ (World.ownsRow_nil _ _ _ _) (Below.refl _ _)
  | some ad =>
    have hnew : ∀ o, ∀ j u, (l.map (Value.int .i64))[j]? = some u → (w.alloc o).cell? (ad.add j) = some u := fun o => by
      rcases hl with ⟨rfl, _⟩ | ⟨b, off, cap', h, _, _, hlt, hc⟩
      · intro j u hj; simp at hj
      · simp only [Value.slice.injEq, Option.some.injEq] at h
        obtain ⟨rfl, _, rfl⟩ := h
        exact nnews_at fun i h => ((below_all (o := o) (Below.refl _ _)).cell (p := ⟨b, off + i, none⟩) hlt).trans (hc i h)
    have o0 : (w.alloc (.cells #[] 3)).ownsRow w.heap.size 3 1 (.slice (some ⟨w.heap.size, 0, none⟩) 0 0) 0 [] := World.ownsRow_made w #[] 0 (Nat.le_refl _) (by omega) rfl
    clear hl
    go_enter Try.func67, Try.ntmps67
    go_wp2_with (at_builtin; refine wpList_append_own _ rfl _ _ 59 rfl w.heap.size 3 i0 _ 1 8 Try.underlying59 hi hz0 hz1 hz2 rfl (by decide) _ _ _ rfl o0 ad l.length cap (l.map (Value.int .i64)) rfl (by simp) (hnew _) (by simp [Value.oneCell']) (by unfold maxLen; omega) (by omega) (by simp) ?_)
    intro v' w1 o1 g1 z1
    go_wp2_with fail
    exact hR.out _ _ (by simpa using o1) (below_own (below_all (Below.refl _ _)) (Nat.le_refl _) (by simp) g1)

set_option maxHeartbeats 2000000 in
theorem close5 (p : Nat) (bs : List Nat) (base next : Int) (l : List Fnd) (fr : Int) (b2 b3 i : Nat) (w : World) (h : SegAt w p bs base next l) (h2 : w.cell? ⟨b2, 0, none⟩ = some (.pointer (some ⟨p, 0, none⟩))) (h3 : w.cell? ⟨b3, 0, none⟩ = some (.int .i64 fr)) (hi : i < (idx l).length) :
    Calls Try.prog 71 #[.int .i64 (i : Int), .pointer (some ⟨b2, 0, none⟩), .pointer (some ⟨b3, 0, none⟩)] w fun x w' => x = .returned (.bool (decide (fr < (idx l)[i]))) ∧ ∃ q, w' = w.drewN q := by
  obtain ⟨lv, iv, hp, hlo, hio, hbs⟩ := h
  obtain ⟨k, c0, c1, c2, c3⟩ := hp.c4
  have hn := nums_own hio
  rcases hn with ⟨h0, _⟩ | ⟨b, off, cap, rfl, _, _, hlt, hc⟩
  · rw [h0] at hi; simp at hi
  have hci := hc i hi
  have i1 : (0 : Int) ≤ (i : Int) := by omega
  have i2 : (i : Int) < ((idx l).length : Int) := by omega
  go_enter Try.func71, Try.ntmps71
  go_wp2_with fail
  go_quiet (fail)
  go_wp2_with fail
  go_ret
  exact ⟨rfl, _, rfl⟩

theorem drewN_add (w : World) (a b : Nat) : w.drewN (a + b) = (w.drewN a).drewN b := by simp [World.drewN, Nat.add_assoc]
set_option maxHeartbeats 4000000 in
/-- sort.Search with seek's closure: it draws; what it returns lies between what is not and what is. -/
theorem search5 (p : Nat) (bs : List Nat) (base next : Int) (l : List Fnd) (fr : Int) (b2 b3 : Nat) (w : World) (h : SegAt w p bs base next l) (h2 : w.cell? ⟨b2, 0, none⟩ = some (.pointer (some ⟨p, 0, none⟩))) (h3 : w.cell? ⟨b3, 0, none⟩ = some (.int .i64 fr)) (hl : l.length ≤ 100000) :
    Calls Try.prog 70 #[.int .i64 ((idx l).length : Nat), .func (.func 71) #[] #[.pointer (some ⟨b2, 0, none⟩), .pointer (some ⟨b3, 0, none⟩)]] w fun x w' => ∃ k : Nat, x = .returned (.int .i64 (k : Int)) ∧ (k ≤ (idx l).length ∧ ∀ h : 0 < k, ∀ h' : k - 1 < (idx l).length, (idx l)[k - 1] ≤ fr) ∧ ∃ q, w' = w.drewN q := by
  have hil := idx_len l
  have cC := fun (q i : Nat) (hi : i < (idx l).length) => close5 p bs base next l fr b2 b3 i (w.drewN q) h h2 h3 hi
  have CC := Lib.hid cC
  clear cC h h2 h3
  generalize idx l = xs at CC hil ⊢
  go_enter Try.func70, Try.ntmps70
  go_wp2_with fail
  go_loopw [5, 6, 7] (fun (v5 v6 v7 : Value) (W : World) => ∃ (i j q : Nat), v5 = .int .i64 (i : Int) ∧ v6 = .int .i64 (j : Int) ∧ i ≤ j ∧ j ≤ xs.length ∧ Hid (∀ h : 0 < i, ∀ h' : i - 1 < xs.length, xs[i - 1] ≤ fr) ∧ W = w.drewN q) (fun (v5 v6 v7 : Value) (W : World) => (intOf v6 - intOf v5).toNat)
  case atStart => exact ⟨0, xs.length, 0, rfl, rfl, by omega, by omega, Lib.hid (fun h => by omega), rfl⟩
  case round =>
    obtain ⟨i, j, q, rfl, rfl, hij, hjn, hlo, rfl⟩ := hrel
    by_cases hlt : i < j
    · obtain ⟨m, hm⟩ : ∃ m, (i + j) / 2 = m := ⟨_, rfl⟩
      have hmi : i ≤ m ∧ m < j := by omega
      have e2 : ((i : Int) + (j : Int)) / 2 = (m : Int) := by omega
      have c := CC.out q m (by omega)
      obtain ⟨x, hx⟩ : ∃ x, xs[m]'(by omega) = x := ⟨_, rfl⟩
      rw [hx] at c
      have hs : ¬ fr < x → Hid (∀ h : 0 < m + 1, ∀ h' : m + 1 - 1 < xs.length, xs[m + 1 - 1] ≤ fr) := fun hn => Lib.hid fun _ _ => by simp only [Nat.add_sub_cancel]; omega
      clear hm hx
      by_cases hf : fr < x
      · rw [decide_eq_true hf] at c
        clear hs
        go_wp2_with fail
        refine c.mono ?_
        rintro e w' ⟨rfl, q2, rfl⟩
        go_wp2_with fail
        go_roundw
        case rel => exact ⟨i, m, q + q2, rfl, rfl, by omega, by omega, hlo, by rw [drewN_add]⟩
        case measure => simp [intOf]; omega
      · rw [decide_eq_false hf] at c
        have hs0 := hs hf
        clear hs
        go_wp2_with fail
        refine c.mono ?_
        rintro e w' ⟨rfl, q2, rfl⟩
        go_wp2_with fail
        go_roundw
        case rel => exact ⟨m + 1, j, q + q2, by go_num, rfl, by omega, by omega, hs0, by rw [drewN_add]⟩
        case measure => simp [intOf]; omega
    · obtain rfl : i = j := by omega
      go_wp2_with fail
      go_ret
      exact ⟨i, rfl, ⟨hjn, hlo.out⟩, q, rfl⟩
end Go.Proofs.Ytkfglnhapcceaaa

set_option linter.unusedVariables false
set_option linter.unusedSimpArgs false
namespace Go.Proofs.Ytkfglnhapcceaaa
open Go.RowKit
attribute [local go_sem] ByteArray.extract_mk ByteArray.mk_append_mk

theorem snoc_ind {P : List Fnd → Prop} (h0 : P []) (h1 : ∀ l f, P l → P (l ++ [f])) : ∀ l, P l := by
  have h : ∀ m : List Fnd, P m.reverse := by
    intro m
    induction m with
    | nil => exact h0
    | cons f m ih => rw [List.reverse_cons]; exact h1 _ _ ih
  intro l
  simpa using h l.reverse
theorem idx_shape : ∀ (l : List Fnd), (idx l).length = (l.length + 7) / 8 ∧ ∀ k, (h : k < (idx l).length) → ∀ h' : 8 * k < l.length, (idx l)[k] = l[8 * k].off := by
  refine snoc_ind ⟨rfl, fun k h => by simp [idx, idxF] at h⟩ ?_
  · intro l f ih
    obtain ⟨i1, i2⟩ := ih
    rw [idx_snoc]
    by_cases h8 : l.length % 8 = 0
    · rw [if_pos h8]
      refine ⟨by simp; omega, fun k h h' => ?_⟩
      by_cases hk : k < (idx l).length
      · rw [List.getElem_append_left hk, List.getElem_append_left (by omega)]
        exact i2 k hk (by omega)
      · have hk2 : k = (idx l).length := by simp at h; omega
        subst hk2
        rw [List.getElem_append_right (by omega), List.getElem_append_right (by omega)]
        simp
    · rw [if_neg h8, List.append_nil]
      refine ⟨by simp; omega, fun k h h' => ?_⟩
      rw [List.getElem_append_left (by omega)]
      exact i2 k h (by omega)

/-- The offsets rise. -/
def Rising (l : List Fnd) : Prop := ∀ i j, (hi : i < j) → (hj : j < l.length) → (l[i]'(by omega)).off < l[j].off
/-- How many records stand ahead of an offset. -/
def place (fr : Int) (l : List Fnd) : Nat := (l.takeWhile fun f => decide (f.off < fr)).length
theorem place_eq {fr : Int} : ∀ {l : List Fnd} {i : Nat}, i ≤ l.length → (∀ j, (h : j < i) → ∀ h' : j < l.length, l[j].off < fr) → (∀ h : i < l.length, ¬ l[i].off < fr) → place fr l = i
  | [], i, hi, _, _ => by simp at hi; subst hi; rfl
  | f :: l, 0, _, _, h2 => by
    have := h2 (by simp)
    simp only [List.getElem_cons_zero] at this
    simp [place, List.takeWhile_cons, this]
  | f :: l, i + 1, hi, h1, h2 => by
    have h0 := h1 0 (by omega) (by simp)
    simp only [List.getElem_cons_zero] at h0
    have ih := place_eq (fr := fr) (l := l) (i := i) (by simpa using hi) (fun j h h' => by have := h1 (j + 1) (by omega) (by simpa using h'); simpa using this) (fun h => by have := h2 (by simpa using h); simpa using this)
    unfold place at ih ⊢
    rw [List.takeWhile_cons, if_pos (by simpa using h0), List.length_cons, ih]
theorem place_le (fr : Int) (l : List Fnd) : place fr l ≤ l.length := by unfold place; exact (List.takeWhile_sublist _).length_le

set_option maxHeartbeats 4000000 in
set_option maxRecDepth 100000 in
theorem seek5 (p : Nat) (bs : List Nat) (base next : Int) (l : List Fnd) (fr : Int) (w : World) (h : SegAt w p bs base next l) (hr : Rising l) (hl : l.length ≤ 100000) :
    RetB Try.prog 63 #[.pointer (some ⟨p, 0, none⟩), .int .i64 fr] w (.int .i64 (place fr l : Nat)) := by
  refine RetB.intro fun R hR => ?_
  have h0 := Lib.hid h
  have HRS := Lib.hid hr
  obtain ⟨k0, c0, c1, ⟨la, lc, c2⟩, ⟨ia, ic, c3⟩, cf⟩ := h.c4
  have hil := idx_len l
  have cS := fun (W : World) (b2 b3 : Nat) (hW : SegAt W p bs base next l) (h2 : W.cell? ⟨b2, 0, none⟩ = some (.pointer (some ⟨p, 0, none⟩))) (h3 : W.cell? ⟨b3, 0, none⟩ = some (.int .i64 fr)) => search5 p bs base next l fr b2 b3 W hW h2 h3 hl
  have CS := Lib.hid cS
  clear cS h hr
  go_enter Try.func63, Try.ntmps63
  go_wp2_with fail
  have S1 := h0.out.below (below_all (o := .cells #[.int .i64 fr] 3) (below_all (o := .cells #[.pointer (some ⟨p, 0, none⟩)] 71) (Below.refl _ _)))
  refine (CS.out _ w.heap.size (w.heap.size + 1) S1 (by go_simp) (by go_simp)).mono ?_
  rintro e w' ⟨k, rfl, ⟨hk1, hk2⟩, q, rfl⟩
  obtain ⟨st, hst, hsl, hsj⟩ : ∃ st : Nat, (max ((k : Int) - 1) 0) * 8 = (st : Int) ∧ st ≤ l.length ∧ ∀ j, (h : j < st) → ∀ h' : j < l.length, l[j].off < fr := by
    obtain ⟨sh1, sh2⟩ := idx_shape l
    match k with
    | 0 => exact ⟨0, by omega, by omega, fun j h => by omega⟩
    | k + 1 =>
      have h8 : 8 * k < l.length := by omega
      have hx := hk2 (by omega) (by omega)
      simp only [Nat.add_sub_cancel] at hx
      rw [sh2 k (by omega) h8] at hx
      refine ⟨8 * k, by omega, by omega, fun j h h' => ?_⟩
      have := HRS.out j (8 * k) h h8
      omega
  have hw1 : IntKind.i64.wrap ((k : Int) - 1) = (k : Int) - 1 := by rw [IntKind.wrap_i64]; omega
  have hw2 : IntKind.i64.wrap (max ((k : Int) - 1) 0 * 8) = (st : Int) := by rw [hst, IntKind.wrap_i64]; omega
  have hB1 : Below w.heap.size w (((w.alloc (.cells #[.pointer (some ⟨p, 0, none⟩)] 71)).alloc (.cells #[.int .i64 fr] 3)).drewN q) := belowN (below_all (below_all (Below.refl _ _))) q
  have b2 : (((w.alloc (.cells #[.pointer (some ⟨p, 0, none⟩)] 71)).alloc (.cells #[.int .i64 fr] 3)).drewN q).cell? ⟨w.heap.size, 0, none⟩ = some (.pointer (some ⟨p, 0, none⟩)) := by go_simp
  have b3 : (((w.alloc (.cells #[.pointer (some ⟨p, 0, none⟩)] 71)).alloc (.cells #[.int .i64 fr] 3)).drewN q).cell? ⟨w.heap.size + 1, 0, none⟩ = some (.int .i64 fr) := by go_simp
  have z1 : (((w.alloc (.cells #[.pointer (some ⟨p, 0, none⟩)] 71)).alloc (.cells #[.int .i64 fr] 3)).drewN q).heap.size = w.heap.size + 2 := by go_simp
  have S2 : SegAt (((w.alloc (.cells #[.pointer (some ⟨p, 0, none⟩)] 71)).alloc (.cells #[.int .i64 fr] 3)).drewN q) p bs base next l := h0.out.below hB1
  generalize ((w.alloc (.cells #[.pointer (some ⟨p, 0, none⟩)] 71)).alloc (.cells #[.int .i64 fr] 3)).drewN q = W1 at hB1 b2 b3 z1 S2 ⊢
  have HSJ := Lib.hid hsj
  have HST := Lib.hid hst
  clear hsj hst S1 k0 c0 c1 c2 c3 cf CS
  go_wp2_with fail
  all_goals (go_loopw [6] (fun (v6 : Value) (W : World) => ∃ i : Nat, i ≤ l.length ∧ v6 = .int .i64 (i : Int) ∧ Hid (∀ j, (h : j < i) → ∀ h' : j < l.length, l[j].off < fr) ∧ Below W1.heap.size W1 W) (fun (v6 : Value) (W : World) => (l.length - intOf v6).toNat))
  case atStart => exact ⟨st, hsl, veq_int (by have := HST.out; omega), HSJ, Below.refl _ _⟩
  case atStart => exact ⟨st, hsl, veq_int (by have := HST.out; omega), HSJ, Below.refl _ _⟩
  all_goals
    obtain ⟨i, hi, rfl, hsi, hnx⟩ := hrel
    have S3 := S2.below hnx
    obtain ⟨lv, iv, hp, hlo, hio, hbs⟩ := S3
    obtain ⟨la3, lc3, rfl⟩ := own_form hlo
    obtain ⟨k0, c0, c1, c2, c3⟩ := hp.c4
    have cb2 := (hnx.cell (p := ⟨w.heap.size, 0, none⟩) (by show w.heap.size < _; omega)).trans b2
    have cb3 := (hnx.cell (p := ⟨w.heap.size + 1, 0, none⟩) (by show w.heap.size + 1 < _; omega)).trans b3
    have hpl := fnds_own hlo
    by_cases hil : i < l.length
    · rcases hpl with ⟨h, _⟩ | ⟨b, off, cap, hsl2, hcap, hne, hlt, hc⟩
      · rw [h] at hil; simp at hil
      simp only [Value.slice.injEq, true_and] at hsl2
      obtain ⟨rfl, rfl⟩ := hsl2
      obtain ⟨x0, x1, x2, x3, x4⟩ := hc i hil
      have i1 : (0 : Int) ≤ (i : Int) := by omega
      have i2 : (i : Int) < (l.length : Int) := by omega
      by_cases hof : l[i].off < fr
      · have hnext : Hid (∀ j, (h : j < i + 1) → ∀ h' : j < l.length, l[j].off < fr) := Lib.hid fun j h h' => by
          by_cases e : j = i
          · subst e; exact hof
          · exact hsi.out j (by omega) h'
        clear hc
        generalize l[i] = f at *
        go_wp2_with fail
        go_quiet (fail)
        go_wp2_with fail
        go_roundw
        case rel => exact ⟨i + 1, by omega, by go_num, hnext, belowN hnx _⟩
        case measure => simp [intOf]; omega
      · have hpe : Hid (place fr l = i) := Lib.hid (place_eq hi hsi.out fun h => hof)
        clear hc
        generalize l[i] = f at *
        go_wp2_with fail
        go_quiet (fail)
        go_wp2_with fail
        exact finB hR (belowN (below_any (Nat.le_refl _) hB1 hnx) _) (veq_int (by rw [hpe.out]))
    · have hpe : Hid (place fr l = i) := Lib.hid (place_eq hi hsi.out fun h => absurd h hil)
      obtain rfl : i = l.length := by omega
      go_wp2_with fail
      go_quiet (fail)
      go_wp2_with fail
      exact finB hR (belowN (below_any (Nat.le_refl _) hB1 hnx) _) (veq_int (by rw [hpe.out]))
theorem own_base {w : World} {B C n s : Nat} {e : TypeId} {v : Value} {xs : List Value} (h : w.ownsRow B e s v n xs) (hC : C ≤ B) : w.ownsRow C e s v n xs := by
  refine ⟨h.1, ?_⟩
  rcases h.2 with h1 | ⟨g, cap, cur, h1, h2, rest⟩
  · exact .inl h1
  · exact .inr ⟨g, cap, cur, h1, Nat.le_trans hC h2, rest⟩
/-- The records from an offset on, so many at most. -/
def reads (fr n : Int) (l : List Fnd) : List Fnd := (l.drop (place fr l)).take (max 0 (min n ((l.drop (place fr l)).length : Int))).toNat

theorem below_drew {w W : World} (h : Below w.drew.heap.size w.drew W) : Below w.heap.size w W := below_any (Nat.le_refl _) (Below.refl _ w).drew h
theorem own_cap5 {w : World} {B n m p s : Nat} {a : Option Addr} {xs : List Value} {e : TypeId} (h : w.ownsRow B e s (.slice a m p) n xs) : n ≤ p := by
  rcases h.2 with ⟨h1, h2⟩ | ⟨g, cap, cur, h1, h2, h3, h4, _⟩
  · omega
  · simp only [Value.slice.injEq] at h1
    omega
set_option maxHeartbeats 4000000 in
set_option maxRecDepth 100000 in
theorem read5 (p : Nat) (bs : List Nat) (base next : Int) (l : List Fnd) (fr n : Int) (w : World) (h : SegAt w p bs base next l) (hr : Rising l) (hl : l.length ≤ 100000) :
    FndsCall 47 #[.pointer (some ⟨p, 0, none⟩), .int .i64 fr, .int .i64 n] w (reads fr n l) := by
  refine FndsCall.intro fun R hR => ?_
  have cK := fun (W : World) (hW : SegAt W p bs base next l) => seek5 p bs base next l fr W hW hr hl
  have HS := Lib.hid h
  have hpl := place_le fr l
  obtain ⟨k, hk⟩ : ∃ k, place fr l = k := ⟨_, rfl⟩
  unfold reads at hR
  rw [hk] at hR hpl
  simp only [hk] at cK
  have CK := Lib.hid cK
  obtain ⟨lv, iv, hp, hlo, hio, hbs⟩ := h
  obtain ⟨la, lc, rfl⟩ := own_form hlo
  obtain ⟨k0, c0, c1, c2, c3⟩ := hp.c4
  clear cK hk
  have i1 : (0 : Int) ≤ (k : Int) := by omega
  have i2 : (k : Int) ≤ (l.length : Int) := by omega
  have S1 := Lib.hid HS.out.drew
  have hdl : (l.drop k).length = l.length - k := List.length_drop ..
  rw [hdl] at hR
  obtain ⟨m0, hm0⟩ : ∃ m, (max 0 (min n ((l.length - k : Nat) : Int))).toNat = m := ⟨_, rfl⟩
  rw [hm0] at hR
  have hpn := fnds_own hlo
  have hll : ((l.drop k).take m0).length ≤ 1000000 := by rw [List.length_take, List.length_drop]; omega
  have hcap := own_cap5 hlo
  by_cases hlk : lc = k
  · subst hlk
    have hC : ∀ (W : World) (M : Nat), M = m0 → Below w.heap.size w W → FndsCall 64 #[.slice la M 0] W ((l.drop lc).take m0) := fun W M hM hb => clone5 _ _ W (.inl ⟨by rw [List.drop_eq_nil_of_le (by omega)]; simp, la, 0, by rw [show M = 0 by omega]⟩) hll
    clear hlo hpn c3
    go_enter Try.func47, Try.ntmps47
    go_wp2_with fail
    go_region_with (go_at_call 63; refine (CK.out _ S1.out).use ?_; intro w2 b2'; have b2 := below_drew b2'; clear b2'; have pp2 := (b2.cell (p := ⟨p, 2, none⟩) k0).trans c2; have pk2 : p < w2.heap.size := Nat.lt_of_lt_of_le k0 b2.size)
    all_goals go_wp2_with fail
    all_goals refine (hC _ _ (by first | omega | (split at * <;> omega)) b2).use ?_
    all_goals intro v3 w3 o3 b3
    all_goals go_wp2_with fail
    all_goals exact hR.out _ _ (own_base o3 (Below.size b2)) (below_any (Nat.le_refl _) b2 b3)
  · have hn0 : ∃ ad, la = some ad := by
      rcases hlo.2 with ⟨h1, h2⟩ | ⟨g, cap, cur, h1, _⟩
      · simp only [Value.slice.injEq] at h1
        exact absurd (by omega) hlk
      · simp only [Value.slice.injEq] at h1
        exact ⟨_, h1.1⟩
    obtain ⟨ad, rfl⟩ := hn0
    have hlk2 : (lc = k) = False := eq_false hlk
    have i3 : (k : Int) ≤ (lc : Int) := by omega
    have hC : ∀ (W : World) (M : Nat), M = m0 → Below w.heap.size w W → FndsCall 64 #[.slice (some (ad.add (k * 5))) M (lc - k)] W ((l.drop k).take m0) := fun W M hM hb => by
      refine clone5 _ _ W ?_ hll
      subst hM
      have hL : ((l.drop k).take M).length = M := by rw [List.length_take, List.length_drop]; omega
      rcases hpn with ⟨rfl, _⟩ | ⟨b, off, cap', hsl, hc1, hne, hlt, hc⟩
      · exact .inl ⟨by simp, _, _, by rw [show M = 0 by simp at hm0; omega]⟩
      · simp only [Value.slice.injEq, Option.some.injEq, true_and] at hsl
        obtain ⟨rfl, rfl⟩ := hsl
        by_cases hM0 : M = 0
        · subst hM0; exact .inl ⟨by simp, _, _, rfl⟩
        · refine .inr ⟨b, off + k * 5, lc - k, by rw [addr_add, hL], by rw [hL]; omega, fun e => by rw [e] at hL; simp at hL; omega, Nat.lt_of_lt_of_le hlt hb.size, fun i hi => ?_⟩
          rw [hL] at hi
          rw [List.getElem_take, List.getElem_drop, show off + k * 5 + i * 5 = off + (k + i) * 5 by omega]
          exact (hc (k + i) (by omega)).keep fun j => hb.cell (p := ⟨b, j, none⟩) hlt
    clear hlo hpn c3
    go_enter Try.func47, Try.ntmps47
    go_wp2_with fail
    go_region_with (go_at_call 63; refine (CK.out _ S1.out).use ?_; intro w2 b2'; have b2 := below_drew b2'; clear b2'; have pp2 := (b2.cell (p := ⟨p, 2, none⟩) k0).trans c2; have pk2 : p < w2.heap.size := Nat.lt_of_lt_of_le k0 b2.size)
    all_goals go_wp2_with fail
    all_goals refine (hC _ _ (by first | omega | (split at * <;> omega)) b2).use ?_
    all_goals intro v3 w3 o3 b3
    all_goals go_wp2_with fail
    all_goals exact hR.out _ _ (own_base o3 (Below.size b2)) (below_any (Nat.le_refl _) b2 b3)
end Go.Proofs.Ytkfglnhapcceaaa

set_option linter.unusedVariables false
set_option linter.unusedSimpArgs false
namespace Go.Proofs.Ytkfglnhapcceaaa
open Go.RowKit
attribute [local go_sem] ByteArray.extract_mk ByteArray.mk_append_mk

theorem len5 (p : Nat) (bs : List Nat) (base next : Int) (l : List Fnd) (w : World) (h : SegAt w p bs base next l) : Ret Try.prog 39 #[.pointer (some ⟨p, 0, none⟩)] w (.int .i64 (l.length : Nat)) := by
  refine Ret.intro fun R hR => ?_
  obtain ⟨k0, c0, c1, ⟨la, lc, c2⟩, ⟨ia, ic, c3⟩, cf⟩ := h.c4
  clear h
  go_enter Try.func39, Try.ntmps39
  go_wp2
  exact fin hR rfl
theorem span5 (p : Nat) (bs : List Nat) (base next : Int) (l : List Fnd) (w : World) (h : SegAt w p bs base next l) : RetB Try.prog 46 #[.pointer (some ⟨p, 0, none⟩)] w (.tuple #[.int .i64 base, .int .i64 next]) := by
  refine RetB.intro fun R hR => ?_
  obtain ⟨k0, c0, c1, ⟨la, lc, c2⟩, ⟨ia, ic, c3⟩, cf⟩ := h.c4
  clear h
  go_enter Try.func46, Try.ntmps46
  go_wp2
  go_quiet (fail)
  go_wp2
  exact finB hR (belowN (Below.refl _ _) _) rfl
theorem all5 (p : Nat) (bs : List Nat) (base next : Int) (l : List Fnd) (w : World) (h : SegAt w p bs base next l) (hl : l.length ≤ 100000) : FndsCall 51 #[.pointer (some ⟨p, 0, none⟩)] w l := by
  refine FndsCall.intro fun R hR => ?_
  obtain ⟨lv, iv, hp, hlo, hio, hbs⟩ := h
  obtain ⟨k0, c0, c1, c2, c3⟩ := hp.c4
  have cC := clone5 lv l w (fnds_own hlo) (by omega)
  obtain ⟨la, lc, rfl⟩ := own_form hlo
  clear hlo hio hp
  go_enter Try.func51, Try.ntmps51
  go_wp2_with fail
  refine cC.use ?_
  intro v w1 o1 b1
  go_wp2_with fail
  exact hR.out _ _ o1 b1
/-- How many bytes a record is. -/
def Fnd.size (f : Fnd) : Nat := (rput f.r.hk f.r.key f.r.tb f.r.val).1.length
theorem Fnd.size_le (f : Fnd) : f.size ≤ 2021 := by
  unfold Fnd.size rput
  split
  · exact rec_ok_text (r := f.r) (by assumption)
  · simp
def fbytes : List Fnd → Nat
  | [] => 0
  | f :: l => f.size + fbytes l
theorem fbytes_snoc : ∀ (l : List Fnd) (f : Fnd), fbytes (l ++ [f]) = fbytes l + f.size
  | [], f => by simp [fbytes]
  | g :: l, f => by simp only [List.cons_append, fbytes, fbytes_snoc l f]; omega
theorem fbytes_take (l : List Fnd) {k : Nat} (hk : k < l.length) : fbytes (l.take (k + 1)) = fbytes (l.take k) + l[k].size := by
  rw [List.take_succ_eq_append_getElem hk, fbytes_snoc]
theorem fbytes_le : ∀ l : List Fnd, fbytes l ≤ 2021 * l.length
  | [] => by simp [fbytes]
  | f :: l => by have := fbytes_le l; have := f.size_le; simp only [fbytes, List.length_cons]; omega

set_option maxHeartbeats 2000000 in
theorem bytes5 (p : Nat) (bs : List Nat) (base next : Int) (l : List Fnd) (w : World) (h : SegAt w p bs base next l) (hl : l.length ≤ 100000) (hbd : ∀ f ∈ l, RecBd f.r) : RetB Try.prog 61 #[.pointer (some ⟨p, 0, none⟩)] w (.int .i64 (fbytes l : Nat)) := by
  refine RetB.intro fun R hR => ?_
  obtain ⟨lv, iv, hp, hlo, hio, hbs⟩ := h
  obtain ⟨k0, c0, c1, c2, c3⟩ := hp.c4
  have hpl := fnds_own hlo
  have HB := Lib.hid hbd
  clear hlo hio hp hbd hbs
  rcases hpl with ⟨rfl, a, cap, rfl⟩ | ⟨b, off, cap, rfl, _, _, hlt, hc⟩
  · go_enter Try.func61, Try.ntmps61
    go_wp2_with fail
    refine wp_loop_rounds 1 ?_
    rw [rounds_succ]
    go_wp2_with fail
    exact finB hR (Below.refl _ _) rfl
  · have HC := Lib.hid hc
    clear hc
    go_enter Try.func61, Try.ntmps61
    go_wp2_with fail
    go_loopw [3, 5, 11] (fun (v3 v5 v11 : Value) (wr : World) => ∃ k : Nat, k ≤ l.length ∧ v3 = .int .i64 (fbytes (l.take k) : Nat) ∧ v11 = .int .i64 (k : Int) ∧ Below w.heap.size w wr) (fun (v3 v5 v11 : Value) (wr : World) => (l.length - intOf v11).toNat)
    case atStart => exact ⟨0, by omega, by simp [fbytes], rfl, Below.refl _ _⟩
    case round =>
      obtain ⟨k, hk, rfl, rfl, hnx⟩ := hrel
      by_cases hkl : k < l.length
      · have hbk := HB.out _ (List.getElem_mem hkl)
        obtain ⟨x0, x1, x2, x3, x4⟩ := (HC.out k hkl).keep fun j => hnx.cell (p := ⟨b, j, none⟩) hlt
        have hltr : b < wr.heap.size := Nat.lt_of_lt_of_le hlt hnx.size
        have hss : Hid (fbytes (l.take (k + 1)) = fbytes (l.take k) + l[k].size) := Lib.hid (fbytes_take l hkl)
        have hz := l[k].size_le
        have cZ := fun w => size3_any l[k].r.hk l[k].r.tb l[k].r.key l[k].r.val w hbk.1 hbk.2
        have hzz : (rput l[k].r.hk l[k].r.key l[k].r.tb l[k].r.val).1.length = l[k].size := rfl
        rw [hzz] at cZ
        have hfl : fbytes (l.take k) ≤ 2021 * 100000 := by have := fbytes_le (l.take k); rw [List.length_take] at this; omega
        clear hzz hbk
        generalize l[k] = f at *
        generalize f.size = z at *
        generalize fbytes (l.take k) = s at *
        have e1 : IntKind.i64.wrap ((s : Int) + (z : Int)) = (s : Int) + (z : Int) := by rw [IntKind.wrap_i64]; omega
        go_wp2_with fail
        refine (cZ _).use ?_
        intro w2 b2
        go_wp2_with fail
        go_roundw
        case rel => exact ⟨k + 1, by omega, by rw [hss.out]; rfl, by go_num, below_any (Nat.le_refl _) (below_all hnx) b2⟩
        case measure => simp [intOf]; omega
      · obtain rfl : k = l.length := by omega
        rw [List.take_length]
        go_wp2_with fail
        exact finB hR hnx rfl
end Go.Proofs.Ytkfglnhapcceaaa

set_option linter.unusedVariables false
set_option linter.unusedSimpArgs false
namespace Go.Proofs.Ytkfglnhapcceaaa
open Go.RowKit Go.Maps
attribute [local go_sem] ByteArray.extract_mk ByteArray.mk_append_mk

/-- The map that has these keys. -/
def mapD (l : List Int) : DataW Unit := l.foldl (fun D n => D.put (.int .i64 n) (.lit (.bool true))) (.map [])
theorem mapD_snoc (l : List Int) (n : Int) : mapD (l ++ [n]) = (mapD l).put (.int .i64 n) (.lit (.bool true)) := by simp [mapD, List.foldl_append]
theorem snoc_indI {P : List Int → Prop} (h0 : P []) (h1 : ∀ l f, P l → P (l ++ [f])) : ∀ l, P l := by
  have h : ∀ m : List Int, P m.reverse := by
    intro m
    induction m with
    | nil => exact h0
    | cons f m ih => rw [List.reverse_cons]; exact h1 _ _ ih
  intro l
  simpa using h l.reverse
theorem mapD_isMap : ∀ l, IsMap (mapD l) := snoc_indI isMap_empty fun l n ih => by rw [mapD_snoc]; exact ih.put _ _
theorem mapD_at (n : Int) : ∀ l, (mapD l).atKey (.int .i64 n) (.lit (.bool false)) = .lit (.bool (decide (n ∈ l))) := snoc_indI (by simp [mapD]; rfl) fun l m ih => by
  rw [mapD_snoc]
  by_cases h : n = m
  · subst h
    rw [atKey_put_same (mapD_isMap l) (by trivial)]
    simp
  · rw [atKey_put_other (by simpa using h), ih]
    simp [h]
theorem keyI : Keyed Try.prog 3 := int_keyed Try.underlying3
theorem zeroB (w : World) : (zeroValue 4).run Try.prog w = .ok (.bool false) w := by kernel_rfl
/-- A block that is the map of these keys. -/
def KMap (w : World) (b : Nat) (l : List Int) : Prop := w.ownsMap Try.prog 3 (plainElem Try.prog 4) b l.length (mapD l)
set_option maxRecDepth 100000 in
theorem kmap_look {w : World} {b : Nat} {l : List Int} (h : KMap w b l) (n : Int) (hn : (Lit.int .i64 n).wf = true) : (Instr.lookup 105 (.map (some b)) (.int .i64 n) false).run Try.prog w = .ok (.bool (decide (n ∈ l))) w := by
  obtain ⟨v, ps, hrun, hv⟩ := World.ownsMap.lookup h keyI Try.underlying105 (zeroB w) (plainElem_bool Try.underlying4 false) (keyOf_int_mk Try.underlying3 hn)
  rw [mapD_at] at hv
  have he : v = .bool (decide (n ∈ l)) := by
    unfold plainElem at hv
    rw [Try.underlying4] at hv
    split at hv <;> simp_all
  rw [hrun, he]

theorem KMap.keptBy {bs : List Nat} {w W : World} {b : Nat} {l : List Int} (h : KMap w b l) (k : Kept bs w W) (hn : b ∉ bs) : KMap W b l := by
  have hlt := World.ownsMap.lt h
  obtain ⟨es, clock, hb, rest⟩ := h
  exact ⟨es, clock, (k.block b hlt hn).trans hb, rest⟩
/-- What is kept. -/
def keeps (ks : List Int) (l : List Fnd) : List Fnd := l.filter fun f => decide (f.off ∈ ks)
theorem keeps_take (ks : List Int) (l : List Fnd) {k : Nat} (hk : k < l.length) : keeps ks (l.take (k + 1)) = keeps ks (l.take k) ++ if l[k].off ∈ ks then [l[k]] else [] := by
  unfold keeps
  rw [List.take_succ_eq_append_getElem hk, List.filter_append]
  congr 1
  by_cases h : l[k].off ∈ ks <;> simp [h]
theorem keeps_len (ks : List Int) (l : List Fnd) : (keeps ks l).length ≤ l.length := List.length_filter_le ..

set_option maxHeartbeats 4000000 in
set_option maxRecDepth 100000 in
theorem keep5 (p : Nat) (bs : List Nat) (base next : Int) (l : List Fnd) (v : Value) (ks : List Int) (w : World) (h : SegAt w p bs base next l) (hv : NumsIn w v ks) (hks : ∀ n ∈ ks, (Lit.int .i64 n).wf = true) (hkl : ks.length ≤ 100000) (hl : l.length ≤ 100000) (hof : ∀ f ∈ l, (Lit.int .i64 f.off).wf = true) :
    SegCall 52 #[.pointer (some ⟨p, 0, none⟩), v] w p bs (.int .i64 ((l.length : Int) - (keeps ks l).length)) base next (keeps ks l) := by
  refine SegCall.intro fun R hR => ?_
  have HS := Lib.hid h
  have HK := Lib.hid hks
  have HO := Lib.hid hof
  have HV := Lib.hid hv
  have hm := h.mem
  have k0 := h.c4.1
  obtain ⟨va, vc, rfl⟩ := hv.form
  clear h hks hof hv
  have hmm := @run_makeMap Try.prog
  go_enter Try.func52, Try.ntmps52
  go_wp2_with fail
  go_loopw [7, 14] (fun (v7 v14 : Value) (W : World) => ∃ k : Nat, k ≤ ks.length ∧ v14 = .int .i64 (k : Int) ∧ KMap W w.heap.size (ks.take k) ∧ Below w.heap.size w W) (fun (v7 v14 : Value) (W : World) => (ks.length - intOf v14).toNat)
  case atStart => exact ⟨0, by omega, rfl, World.ownsMap_made _ _ _ _, below_all (Below.refl _ _)⟩
  case round =>
    obtain ⟨k, hk, rfl, hown, hnx⟩ := hrel
    by_cases hkl2 : k < ks.length
    · have hin := HV.out.below hnx
      rcases hin with ⟨h, _⟩ | ⟨b, off, cap, hsl, hcap, hne, hlt, hc⟩
      · rw [h] at hkl2; simp at hkl2
      simp only [Value.slice.injEq, true_and] at hsl
      obtain ⟨rfl, rfl⟩ := hsl
      have hci := hc k hkl2
      have hwf := HK.out _ (List.getElem_mem hkl2)
      have hts : Hid (ks.take (k + 1) = ks.take k ++ [ks[k]]) := Lib.hid (List.take_succ_eq_append_getElem hkl2)
      have htl : (ks.take k).length = k := by rw [List.length_take]; omega
      have hkey := keyOf_int_mk Try.underlying3 hwf
      unfold KMap at hown
      rw [htl] at hown
      clear hc hne
      generalize ks[k] = x at *
      go_wp2_with (at_mapUpdate; refine wpList_mapUpdate_own _ rfl _ _ _ 105 rfl 3 4 keyI Try.underlying105 _ w.heap.size k _ rfl hown (by unfold maxLen; omega) _ _ _ rfl rfl hkey _ [] (plainElem_bool Try.underlying4 true) ?_)
      intro w1 hown1 hgrow1
      have R2 := below_own hnx (Nat.le_refl _) hnx.size hgrow1
      have R1 : KMap w1 w.heap.size (ks.take (k + 1)) := by
        rw [hts.out]
        unfold KMap
        rw [mapD_snoc, List.length_append, htl]
        exact hown1
      clear hown1 hgrow1 hown htl
      go_wp2_with fail
      go_roundw
      case rel => exact ⟨k + 1, by omega, by go_num, R1, R2⟩
      case measure => simp [intOf]; omega
    · obtain rfl : k = ks.length := by omega
      rw [List.take_length] at hown
      have S1 := HS.out.below hnx
      obtain ⟨lv, iv, hp, hlo, hio, hbs⟩ := S1
      have hpl := Lib.hid (fnds_own hlo)
      have hpn := own_ne hlo hp (by decide)
      have hll := fun b hb => own_lt hlo b hb
      obtain ⟨la, lc, rfl⟩ := own_form hlo
      obtain ⟨kk, c0, c1, c2, c3⟩ := hp.c4
      have cf := fun i => Blk.frozen hp i
      go_wp2_with fail
      have hg2 : wr.grownBy ((wr.setCell ⟨p, 2, none⟩ (.slice none 0 0)).setCell ⟨p, 3, none⟩ (.slice none 0 0)) (some p) := grown_set (grown_set (grown_refl _ _) _ _) _ _
      have hp2 := (hp.set 2 (.slice none 0 0)).set 3 (.slice none 0 0)
      have S2 : SegAt ((wr.setCell ⟨p, 2, none⟩ (.slice none 0 0)).setCell ⟨p, 3, none⟩ (.slice none 0 0)) p [p] base next [] := ⟨.slice none 0 0, .slice none 0 0, hp2, World.ownsRow_nil _ _ _ _, World.ownsRow_nil _ _ _ _, rfl⟩
      have K2 : Kept [p] wr ((wr.setCell ⟨p, 2, none⟩ (.slice none 0 0)).setCell ⟨p, 3, none⟩ (.slice none 0 0)) := Kept.ofGrown hg2
      have M2 : KMap ((wr.setCell ⟨p, 2, none⟩ (.slice none 0 0)).setCell ⟨p, 3, none⟩ (.slice none 0 0)) w.heap.size ks := World.ownsMap.kept hown hg2 (by simp; omega)
      have P2 := Lib.hid (hpl.out.kept K2 (fun b hb hm => by simp at hm; subst hm; exact hpn hb.symm))
      have aw : Away [p] (.slice la l.length lc) := fun b hb hm => by simp at hm; subst hm; exact hpn hb.symm
      have KB : Kept bs w ((wr.setCell ⟨p, 2, none⟩ (.slice none 0 0)).setCell ⟨p, 3, none⟩ (.slice none 0 0)) := (Kept.ofBelow hnx bs).trans K2 (fun x hx => .inl (by simp at hx; subst hx; exact hm))
      have hsz : w.heap.size < ((wr.setCell ⟨p, 2, none⟩ (.slice none 0 0)).setCell ⟨p, 3, none⟩ (.slice none 0 0)).heap.size := World.ownsMap.lt M2
      generalize (wr.setCell ⟨p, 2, none⟩ (.slice none 0 0)).setCell ⟨p, 3, none⟩ (.slice none 0 0) = W2 at S2 K2 M2 P2 KB hsz ⊢
      clear hg2 hp2 hpl hpn hll hp hlo hio hown hnx c0 c1 c2 c3 cf kk hbs HV hmm K2
      go_loopw [10, 33] (fun (v10 v33 : Value) (W : World) => ∃ (k : Nat) (cs : List Nat), k ≤ l.length ∧ v33 = .int .i64 (k : Int) ∧ SegAt W p cs base next (keeps ks (l.take k)) ∧ Kept [p] W2 W ∧ ∀ x ∈ cs, x = p ∨ W2.heap.size ≤ x) (fun (v10 v33 : Value) (W : World) => (l.length - intOf v33).toNat)
      case atStart => exact ⟨0, [p], by omega, rfl, S2, Kept.refl _ _, fun x hx => .inl (by simpa using hx)⟩
      case round =>
        obtain ⟨k, cs, hk, rfl, hS, hK, hcs⟩ := hrel
        by_cases hkl : k < l.length
        · have hr := P2.out.kept hK aw
          rcases hr with ⟨h, _⟩ | ⟨b, off, cap, hsl, hcap, hne, hlt, hc⟩
          · rw [h] at hkl; simp at hkl
          simp only [Value.slice.injEq, true_and] at hsl
          obtain ⟨rfl, rfl⟩ := hsl
          obtain ⟨x0, x1, x2, x3, x4⟩ := hc k hkl
          have hft := Lib.hid (keeps_take ks l hkl)
          have hfl : (keeps ks (l.take k)).length ≤ 100000 := by have := keeps_len ks (l.take k); rw [List.length_take] at this; omega
          have hwf := HO.out _ (List.getElem_mem hkl)
          have hMp : KMap wr w.heap.size ks := KMap.keptBy M2 hK (by simp; omega)
          generalize l[k] = f at *
          generalize keeps ks (l.take k) = fs at *
          have hlk := kmap_look (World.ownsMap.alloc hMp (.cells #[.int .i64 f.off, .bool f.r.hk, .string (S f.r.key), .bool f.r.tb, .string (S f.r.val)] 31)) f.off hwf
          have hS2 := hS.below (below_all (o := .cells #[.int .i64 f.off, .bool f.r.hk, .string (S f.r.key), .bool f.r.tb, .string (S f.r.val)] 31) (Below.refl _ _))
          have hK2 := hK.bel (below_all (o := .cells #[.int .i64 f.off, .bool f.r.hk, .string (S f.r.key), .bool f.r.tb, .string (S f.r.val)] 31) (Below.refl _ _))
          clear hc hne
          by_cases hin : f.off ∈ ks
          · rw [decide_eq_true hin] at hlk
            have CP := Lib.hid (put5 p cs base next fs f _ hS2 hfl)
            unfold Fnd.val at CP
            go_wp2_with fail
            refine CP.out.use ?_
            intro cs2 w2 S3 K3 N3
            have hcs2 : ∀ x ∈ cs2, x = p ∨ W2.heap.size ≤ x := fun x hx => (N3 x hx).elim (hcs x) fun h => .inr (Nat.le_trans hK2.size h)
            go_wp2_with fail
            go_roundw
            case rel => exact ⟨k + 1, cs2, by omega, by go_num, by rw [hft.out, if_pos hin]; exact S3, hK2.trans K3 (fun x hx => (hcs x hx).elim (fun e => .inl (by simp [e])) .inr), hcs2⟩
            case measure => simp [intOf]; omega
          · rw [decide_eq_false hin] at hlk
            go_wp2_with fail
            go_roundw
            case rel => exact ⟨k + 1, cs, by omega, by go_num, by rw [hft.out, if_neg hin, List.append_nil]; exact hS2, hK2, hcs⟩
            case measure => simp [intOf]; omega
        · obtain rfl : k = l.length := by omega
          rw [List.take_length] at hS
          obtain ⟨k1, c0, c1, ⟨la2, lc2, c2⟩, ⟨ia2, ic2, c3⟩, cf⟩ := hS.c4
          have hkp := keeps_len ks l
          have e1 : IntKind.i64.wrap ((l.length : Int) - ((keeps ks l).length : Int)) = (l.length : Int) - ((keeps ks l).length : Int) := by rw [IntKind.wrap_i64]; omega
          go_wp2_with fail
          have hz := KB.size
          exact hR.out cs _ hS (KB.trans hK (fun x hx => .inl (by simp at hx; subst hx; exact hm))) (fun x hx => (hcs x hx).elim (fun e => .inl (by rw [e]; exact hm)) fun h => .inr (by omega))
end Go.Proofs.Ytkfglnhapcceaaa

set_option linter.unusedVariables false
set_option linter.unusedSimpArgs false
namespace Go.Proofs.Ytkfglnhapcceaaa
open Go.RowKit Go.Maps
attribute [local go_sem] ByteArray.extract_mk ByteArray.mk_append_mk

/-- Do the offsets rise, from behind last on, up to next? -/
def inOrder (last next : Int) : List Fnd → Bool
  | [] => true
  | f :: l => decide (last < f.off) && decide (f.off < next) && inOrder f.off next l
/-- What a loading comes to. -/
def lerr (base next : Int) (l : List Fnd) : Nat :=
  if (!numB base || !numB next || decide (next < base) || decide (64 < l.length)) = true then 1 else if inOrder (base - 1) next l = false then 1 else rchecks (l.map Fnd.r)
/-- The last offset of those that were put. -/
def lastOf (base : Int) (l : List Fnd) (k : Nat) : Int := if h : 0 < k ∧ k - 1 < l.length then (l[k - 1]'h.2).off else base - 1
theorem lastOf_step (base : Int) (l : List Fnd) {k : Nat} (hk : k < l.length) : lastOf base l (k + 1) = l[k].off := by
  unfold lastOf
  rw [dif_pos ⟨by omega, by simpa using hk⟩]
  simp
theorem order_step {base next : Int} {l : List Fnd} {k : Nat} (hk : k < l.length) : inOrder (lastOf base l k) next (l.drop k) = (decide (lastOf base l k < l[k].off) && decide (l[k].off < next) && inOrder (lastOf base l (k + 1)) next (l.drop (k + 1))) := by
  rw [lastOf_step base l hk, List.drop_eq_getElem_cons hk]
  rfl

set_option maxHeartbeats 4000000 in
set_option maxRecDepth 100000 in
theorem load5_args (base next : Int) (v : Value) (l : List Fnd) (w : World) (hv : FndsIn w v l) (hll : l.length ≤ 9223372036854775807) (h : (!numB base || !numB next || decide (next < base) || decide (64 < l.length)) = true) :
    RetB Try.prog 33 #[.int .i64 base, .int .i64 next, v] w (.tuple #[.pointer none, .int .i64 1]) := by
  refine RetB.intro fun R hR => ?_
  obtain ⟨a, cap, rfl⟩ := hv.form
  clear hv
  have c1 := fun w => offset5 base w
  have c2 := fun w => offset5 next w
  by_cases h1 : numB base = true
  · rw [h1] at c1
    by_cases h2 : numB next = true
    · rw [h2] at c2
      by_cases h3 : next < base
      · clear h h1 h2
        go_enter Try.func33, Try.ntmps33
        go_wp2_with (first | (go_at_call_of 57 (Value.int .i64 base); refine (c1 _).use ?_) | (go_at_call_of 57 (Value.int .i64 next); refine (c2 _).use ?_))
        exact finB hR (Below.refl _ _) rfl
      · have h4 : 64 < l.length := by simpa [h1, h2, h3] using h
        have h5 : ((64 : Int) < (l.length : Int)) = True := eq_true (by omega)
        clear h h1 h2
        go_enter Try.func33, Try.ntmps33
        go_wp2_with (first | (go_at_call_of 57 (Value.int .i64 base); refine (c1 _).use ?_) | (go_at_call_of 57 (Value.int .i64 next); refine (c2 _).use ?_))
        exact finB hR (Below.refl _ _) rfl
    · have h2 : numB next = false := by simpa using h2
      rw [h2] at c2
      clear h h1 h2
      go_enter Try.func33, Try.ntmps33
      go_wp2_with (first | (go_at_call_of 57 (Value.int .i64 base); refine (c1 _).use ?_) | (go_at_call_of 57 (Value.int .i64 next); refine (c2 _).use ?_))
      exact finB hR (Below.refl _ _) rfl
  · have h1 : numB base = false := by simpa using h1
    rw [h1] at c1
    clear h h1
    go_enter Try.func33, Try.ntmps33
    go_wp2_with (first | (go_at_call_of 57 (Value.int .i64 base); refine (c1 _).use ?_) | (go_at_call_of 57 (Value.int .i64 next); refine (c2 _).use ?_))
    exact finB hR (Below.refl _ _) rfl

/-- How a loading ends. -/
def LoadCall (f : FuncId) (args : Array Value) (w : World) (base next : Int) (l : List Fnd) : Prop :=
  Calls Try.prog f args w fun x w' => (lerr base next l = 0 ∧ ∃ p bs, x = .returned (.tuple #[.pointer (some ⟨p, 0, none⟩), .int .i64 0]) ∧ SegAt w' p bs base next l ∧ Below w.heap.size w w' ∧ ∀ x ∈ bs, w.heap.size ≤ x) ∨
    (lerr base next l ≠ 0 ∧ x = .returned (.tuple #[.pointer none, .int .i64 (lerr base next l : Nat)]) ∧ Below w.heap.size w w')

set_option maxHeartbeats 4000000 in
set_option maxRecDepth 100000 in
theorem load5 (base next : Int) (v : Value) (l : List Fnd) (w : World) (hv : FndsIn w v l) (hll : l.length ≤ 9223372036854775807) (hbd : ∀ f ∈ l, RecBd f.r) : LoadCall 33 #[.int .i64 base, .int .i64 next, v] w base next l := by
  by_cases h : (!numB base || !numB next || decide (next < base) || decide (64 < l.length)) = true
  · have he : lerr base next l = 1 := by unfold lerr; rw [if_pos h]
    refine (load5_args base next v l w hv hll h).mono fun e w' ⟨h1, h2⟩ => .inr ⟨by omega, by rw [h1, he]; rfl, h2⟩
  · have h1 : numB base = true ∧ numB next = true ∧ ¬ next < base ∧ ¬ 64 < l.length := by simpa [and_assoc] using h
    have hle : lerr base next l = if inOrder (base - 1) next l = false then 1 else rchecks (l.map Fnd.r) := by unfold lerr; rw [if_neg h]
    obtain ⟨h1, h2, h3, h4⟩ := h1
    have hb1 : 0 ≤ base ∧ base ≤ 1099511627776 := by simpa [numB] using h1
    have hb2 : 0 ≤ next ∧ next ≤ 1099511627776 := by simpa [numB] using h2
    have c1 := fun w => offset5 base w
    have c2 := fun w => offset5 next w
    rw [h1] at c1
    rw [h2] at c2
    have h5 : ((64 : Int) < (l.length : Int)) = False := eq_false (by omega)
    have HV := Lib.hid hv
    have HB := Lib.hid hbd
    have HLE := Lib.hid hle
    obtain ⟨a, cap, rfl⟩ := hv.form
    obtain ⟨i0, hi, hz0, hz1, hz2⟩ := info_parts recInfo
    have e1 : IntKind.i64.wrap (base - 1) = base - 1 := by rw [IntKind.wrap_i64]; omega
    clear h hv hbd hle h1 h2
    unfold LoadCall
    go_enter Try.func33, Try.ntmps33
    go_wp2_with (first | (go_at_call_of 57 (Value.int .i64 base); refine (c1 _).use ?_) | (go_at_call_of 57 (Value.int .i64 next); refine (c2 _).use ?_))
    have S0 : SegAt (w.alloc (.cells #[.int .i64 base, .int .i64 next, .slice none 0 0, .slice none 0 0] 97)) w.heap.size [w.heap.size] base next [] := ⟨.slice none 0 0, .slice none 0 0, Blk.new _ _ _, World.ownsRow_nil _ _ _ _, World.ownsRow_nil _ _ _ _, rfl⟩
    have G0 : Below w.heap.size w (w.alloc (.cells #[.int .i64 base, .int .i64 next, .slice none 0 0, .slice none 0 0] 97)) := below_all (Below.refl _ _)
    generalize w.alloc (.cells #[.int .i64 base, .int .i64 next, .slice none 0 0, .slice none 0 0] 97) = W0 at S0 G0 ⊢
    go_loopw [9, 10, 12, 40] (fun (v9 v10 v12 v40 : Value) (W : World) => ∃ (k : Nat) (cs : List Nat), k ≤ l.length ∧ v40 = .int .i64 (k : Int) ∧ v9 = .int .i64 (lastOf base l k) ∧ SegAt W w.heap.size cs base next (l.take k) ∧ Below w.heap.size w W ∧ (∀ x ∈ cs, w.heap.size ≤ x) ∧ W.ownsRow w.heap.size 29 4 v10 k (((l.take k).map Fnd.r).flatMap Rec.cells) ∧ Away cs v10 ∧ Hid (inOrder (lastOf base l k) next (l.drop k) = inOrder (base - 1) next l)) (fun (v9 v10 v12 v40 : Value) (W : World) => (l.length - intOf v40).toNat)
    case atStart => exact ⟨0, [w.heap.size], by omega, rfl, rfl, S0, G0, by simp, World.ownsRow_nil _ _ _ _, fun b hb => by simp [Value.ownBlock] at hb, Lib.hid rfl⟩
    case round =>
      obtain ⟨k, cs, hk, rfl, rfl, hS, hnx, hcs, hown, haw, hord⟩ := hrel
      by_cases hkl : k < l.length
      · have hr := HV.out.below hnx
        rcases hr with ⟨h, _⟩ | ⟨b, off, cap', hsl, hcap, hne, hlt, hc⟩
        · rw [h] at hkl; simp at hkl
        simp only [Value.slice.injEq, true_and] at hsl
        obtain ⟨rfl, rfl⟩ := hsl
        obtain ⟨x0, x1, x2, x3, x4⟩ := hc k hkl
        have hft := Lib.hid (List.take_succ_eq_append_getElem hkl)
        have hla := Lib.hid (lastOf_step base l hkl)
        have hos := Lib.hid ((order_step (base := base) (next := next) hkl).symm.trans hord.out)
        rw [hla.out] at hos
        have hfl : (l.take k).length ≤ 100000 := by rw [List.length_take]; omega
        generalize l[k] = f at *
        generalize lastOf base l k = la at *
        have hG := below_all (o := .cells #[.int .i64 f.off, .bool f.r.hk, .string (S f.r.key), .bool f.r.tb, .string (S f.r.val)] 31) hnx
        clear hc hne hord
        by_cases hin : la < f.off ∧ f.off < next
        · obtain ⟨hin1, hin2⟩ := hin
          have hos2 := Lib.hid hos.out
          rw [decide_eq_true hin1, decide_eq_true hin2] at hos2
          have hS2 := hS.below (below_all (o := .cells #[.int .i64 f.off, .bool f.r.hk, .string (S f.r.key), .bool f.r.tb, .string (S f.r.val)] 31) (Below.refl _ _))
          have CP := Lib.hid (put5 w.heap.size cs base next (l.take k) f _ hS2 hfl)
          unfold Fnd.val at CP
          have t1 : (f.off ≤ la) = False := eq_false (by omega)
          have t2 : (next ≤ f.off) = False := eq_false (by omega)
          have F1 := Blk.new wr #[.int .i64 f.off, .bool f.r.hk, .string (S f.r.key), .bool f.r.tb, .string (S f.r.val)] 31
          have o1 := World.ownsRow.alloc hown (.cells #[.int .i64 f.off, .bool f.r.hk, .string (S f.r.key), .bool f.r.tb, .string (S f.r.val)] 31)
          have nF : wr.heap.size ∉ cs := fun hm => by have := hS.lt _ hm; omega
          clear hos
          go_wp2_with fail
          refine CP.out.use ?_
          intro cs2 w2 S3 K3 N3
          have F3 := F1.keptBy K3 nF
          have y0 := F3.cell 0; have y1 := F3.cell 1; have y2 := F3.cell 2; have y3 := F3.cell 3; have y4 := F3.cell 4; have z5 := F3.lt
          simp only [List.getElem?_toArray, List.getElem?_cons_zero, List.getElem?_cons_succ] at y0 y1 y2 y3 y4
          have o3 := own_keptBy o1 K3 haw
          have aw3 : Away cs2 u10 := fun b hb hm => (N3 b hm).elim (haw b hb) fun h => by have := own_lt o1 b hb; omega
          have hG3 := Kept.below hG K3 hcs (by simp; have := hnx.size; omega)
          have hcs2 : ∀ x ∈ cs2, w.heap.size ≤ x := fun x hx => (N3 x hx).elim (hcs x) fun h => by have := hG.size; omega
          have n3 : ∀ j u, f.r.cells[j]? = some u → (w2.alloc (.cells #[.bool f.r.hk, .string (S f.r.key), .bool f.r.tb, .string (S f.r.val)] 29)).cell? ((⟨w2.heap.size, 0, none⟩ : Addr).add j) = some u := World.news_of_block (cs := f.r.cells.toArray) (t := 29) (fr := (0, 0)) (heap_alloc_new w2 _)
          have S4 := S3.below (below_all (o := .cells #[.bool f.r.hk, .string (S f.r.key), .bool f.r.tb, .string (S f.r.val)] 29) (Below.refl _ _))
          have G4 := below_all (o := .cells #[.bool f.r.hk, .string (S f.r.key), .bool f.r.tb, .string (S f.r.val)] 29) hG3
          have o4 := World.ownsRow.alloc o3 (.cells #[.bool f.r.hk, .string (S f.r.key), .bool f.r.tb, .string (S f.r.val)] 29)
          have hz6 : w.heap.size ≤ w2.heap.size := hG3.size
          clear hS hS2 K3 N3 F1 F3 o1 o3 CP hG hown haw S3
          go_wp2_with (at_builtin; refine wpList_append_own_at _ rfl _ _ 23 rfl w.heap.size 29 i0 _ 4 48 Try.underlying23 hi hz0 hz1 hz2 rfl (by decide) _ _ _ rfl o4 ⟨w2.heap.size, 0, none⟩ 1 1 f.r.cells rfl rfl n3 (by simp [Value.oneCell', Rec.cells]) (by unfold maxLen; omega) (by omega) (by simp; omega) ?_)
          intro v5 w5 o5 g5 z7 at5
          have K5 : Kept cs2 w2 w2 := Kept.refl _ _
          have S5 : SegAt w5 w.heap.size cs2 base next (l.take k ++ [f]) := S4.kept (Kept.ofGrown g5) (fun x hx hm => by simp only [Option.mem_toList] at hm; exact aw3 x hm hx)
          have G5 : Below w.heap.size w w5 := Kept.below G4 (Kept.ofGrown g5) (by intro x hx; simp only [Option.mem_toList] at hx; exact (o4.lt x hx).1) (by simp; omega)
          have aw5 : Away cs2 v5 := fun b hb hm => at5.elim (fun e => aw3 b (e ▸ hb) hm) fun e => by rw [e] at hb; cases hb; have := S4.lt _ hm; simp at this
          clear g5 z7 at5
          go_wp2_with fail
          go_roundw
          case rel => exact ⟨k + 1, cs2, by omega, by go_num, by rw [hla.out], by rw [hft.out]; exact S5, G5, hcs2, by rw [hft.out]; simpa using o5, aw5, Lib.hid (by rw [hla.out]; simpa using hos2.out)⟩
          case measure => simp [intOf]; omega
        · have hos2 : Hid (inOrder (base - 1) next l = false) := Lib.hid (by rw [← hos.out, show (decide (la < f.off) && decide (f.off < next)) = false by simp only [Bool.and_eq_false_iff, decide_eq_false_iff_not]; omega]; rfl)
          have he : Hid (lerr base next l = 1) := Lib.hid (by rw [HLE.out, if_pos hos2.out])
          have hne1 : Hid (lerr base next l ≠ 0) := Lib.hid (by rw [he.out]; simp)
          by_cases h1 : la < f.off
          · have t1 : (f.off ≤ la) = False := eq_false (by omega)
            have t2 : (next ≤ f.off) = True := eq_true (by omega)
            go_wp2_with fail
            go_ret2
            exact .inr ⟨hne1.out, by rw [he.out]; rfl, hG⟩
          · have t1 : (f.off ≤ la) = True := eq_true (by omega)
            go_wp2_with fail
            go_ret2
            exact .inr ⟨hne1.out, by rw [he.out]; rfl, hG⟩
      · obtain rfl : k = l.length := by omega
        have hor : Hid (lerr base next l = rchecks (l.map Fnd.r)) := Lib.hid (by
          have h := hord.out
          rw [List.drop_length] at h
          rw [HLE.out, ← h]
          rfl)
        rw [List.take_length] at hS hown
        have hrin : RecsIn wr u10 (l.map Fnd.r) := recs_own (B := w.heap.size) (by rw [List.length_map]; exact hown)
        have hrb : RecsBd (l.map Fnd.r) := ⟨by rw [List.length_map]; unfold maxLen; omega, fun r hr => by
          obtain ⟨f, hf, rfl⟩ := List.mem_map.1 hr
          exact HB.out f hf⟩
        have cC := checked5 u10 (l.map Fnd.r) wr hrin hrb
        obtain ⟨o, ho⟩ : ∃ o, rchecks (l.map Fnd.r) = o := ⟨_, rfl⟩
        rw [ho] at cC hor
        obtain ⟨ao, co, hu⟩ := hrin.form
        rw [List.length_map] at hu
        subst hu
        have CC := Lib.hid cC
        clear hrin hrb cC ho hown haw hord HLE
        by_cases h0 : o = 0
        · subst h0
          have c : RetB Try.prog 59 _ wr (.int .i64 0) := CC.out
          have CC2 := Lib.hid c
          clear c CC
          go_wp2_with fail
          refine CC2.out.use ?_
          intro w2 b2
          go_wp2_with fail
          go_ret2
          exact .inl ⟨hor.out, w.heap.size, cs, rfl, hS.below b2, below_any (Nat.le_refl _) hnx b2, hcs⟩
        · have h6 : ((o : Int) != 0) = true := by simpa using h0
          have hne1 : Hid (lerr base next l ≠ 0) := Lib.hid (by rw [hor.out]; exact h0)
          go_wp2_with fail
          refine CC.out.use ?_
          intro w2 b2
          go_wp2_with fail
          go_ret2
          exact .inr ⟨hne1.out, by rw [hor.out]; rfl, below_any (Nat.le_refl _) hnx b2⟩
end Go.Proofs.Ytkfglnhapcceaaa
