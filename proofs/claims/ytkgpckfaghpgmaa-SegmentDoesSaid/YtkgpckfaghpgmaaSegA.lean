import Derived.Test.YtkgpckfaghpgmaaSegP
import Derived.Deep.AppendLies
import Derived.Deep.RegionLaw
import Derived.Deep.RegionHeld3
/-
  Layer 5: a record put into a segment.
-/
set_option linter.unusedVariables false
set_option linter.unusedSimpArgs false
namespace Go.Proofs.Ytkgpckfaghpgmaa
open Go.RowKit
attribute [local go_sem] ByteArray.extract_mk ByteArray.mk_append_mk

theorem fndInfo : (Try.prog.info? 26).map (fun i => (i.zero, i.size, i.bytes)) = some (some (.agg #[.int .i64 0, .bool false, .string (S []), .bool false, .string (S [])]), 5, 56) := by kernel_rfl
theorem intInfo : (Try.prog.info? 3).map (fun i => (i.zero, i.size, i.bytes)) = some (some (.int .i64 0), 1, 8) := by kernel_rfl
theorem own_form {w : World} {B n size : Nat} {e : TypeId} {v : Value} {xs : List Value} (h : w.ownsRow B e size v n xs) : ∃ a cap, v = .slice a n cap := by
  rcases h.2 with ⟨rfl, rfl⟩ | ⟨g, cap, cur, rfl, _⟩
  · exact ⟨_, _, rfl⟩
  · exact ⟨_, _, rfl⟩

/-- Two rows of different types lie apart. -/
theorem own_apart {w : World} {B C n m s t : Nat} {e T : TypeId} {v u : Value} {xs ys : List Value} (h : w.ownsRow B e s v n xs) (k : w.ownsRow C T t u m ys) (hT : e ≠ T) : v.ownBlock = none ∨ v.ownBlock ≠ u.ownBlock := by
  rcases h.2 with ⟨rfl, _⟩ | ⟨g, cap, cur, rfl, _, hg, _⟩
  · exact .inl rfl
  · right
    rcases k.2 with ⟨rfl, _⟩ | ⟨g', cap', cur', rfl, _, hg', _⟩
    · simp [Value.ownBlock]
    · intro e1
      simp only [Value.ownBlock, Option.some.injEq] at e1
      subst e1
      rw [hg] at hg'
      simp only [Option.some.injEq, Obj.cells.injEq] at hg'
      exact hT hg'.2.1
/-- A segment while a record is put in: w the world at the beginning, fc the record's cells in a block of their own. -/
structure PMid (w W : World) (p : Nat) (bs : List Nat) (base next : Int) (lv : Value) (n : Nat) (xs : List Value) (iv : Value) (ix : List Int) (fc : Array Value) : Prop where
  hp : Blk W p #[.int .i64 base, .int .i64 next, lv, iv] 63
  hf : Blk W w.heap.size fc 26
  lo : W.ownsRow 0 26 5 lv n xs
  io : W.ownsRow 0 3 1 iv ix.length (ix.map (Value.int .i64))
  fl : lv.ownBlock ≠ some w.heap.size
  kept : Kept bs w W
  mp : p ∈ bs
  ml : ∀ b, lv.ownBlock = some b → b ∈ bs ∨ w.heap.size ≤ b
  mi : ∀ b, iv.ownBlock = some b → b ∈ bs ∨ w.heap.size ≤ b
section
variable {w W W' : World} {p : Nat} {bs : List Nat} {base next : Int} {lv iv lv' iv' : Value} {n n' : Nat} {xs xs' : List Value} {ix ix' : List Int} {fc : Array Value}
theorem PMid.start {l : List Fnd} (h : SegAt w p bs base next l) (fc : Array Value) : ∃ lv iv, Blk w p #[.int .i64 base, .int .i64 next, lv, iv] 63 ∧ PMid w (w.alloc (.cells fc 26)) p bs base next lv l.length (l.flatMap Fnd.cells) iv (idx l) fc := by
  obtain ⟨lv, iv, hp, hlo, hio, rfl⟩ := h
  refine ⟨lv, iv, hp, hp.alloc _, Blk.new _ _ _, hlo.alloc _, hio.alloc _, ?_, Kept.ofBelow (below_all (Below.refl _ _)) _, by simp, fun b hb => .inl (by simp [hb]), fun b hb => .inl (by simp [hb])⟩
  intro e
  have := own_lt hlo _ e
  omega
theorem PMid.alloc (h : PMid w W p bs base next lv n xs iv ix fc) (o : Obj) : PMid w (W.alloc o) p bs base next lv n xs iv ix fc :=
  ⟨h.hp.alloc o, h.hf.alloc o, h.lo.alloc o, h.io.alloc o, h.fl, h.kept.bel (below_all (Below.refl _ _)), h.mp, h.ml, h.mi⟩
theorem PMid.drew (h : PMid w W p bs base next lv n xs iv ix fc) : PMid w W.drew p bs base next lv n xs iv ix fc :=
  ⟨h.hp.drew, h.hf.drew, h.lo, h.io, h.fl, ⟨h.kept.os, h.kept.tape, h.kept.output, h.kept.size, h.kept.block⟩, h.mp, h.ml, h.mi⟩
theorem PMid.setI (h : PMid w W p bs base next lv n xs iv ix fc) (ho : W'.ownsRow 0 3 1 iv' ix'.length (ix'.map (Value.int .i64))) (hg : W.grownBy W' iv.ownBlock)
    (hat : ∀ b, iv'.ownBlock = some b → iv.ownBlock = some b ∨ b = W.heap.size) : PMid w (W'.setCell ⟨p, 3, none⟩ iv') p bs base next lv n xs iv' ix' fc := by
  have h1 := h.hp.grown hg (own_ne h.io h.hp (by decide))
  have h2 := h1.set 3 iv'
  have h3 := h.lo.kept hg (own_apart h.lo h.io (by decide))
  have h4 : W'.grownBy (W'.setCell ⟨p, 3, none⟩ iv') (some p) := grown_set (grown_refl _ _) _ _
  refine ⟨h2, ?_, h3.kept h4 (.inr (Ne.symm (own_ne h3 h1 (by decide)))), ho.kept h4 (.inr (Ne.symm (own_ne ho h1 (by decide)))), h.fl, ?_, h.mp, h.ml, ?_⟩
  · exact (h.hf.grown hg (own_ne h.io h.hf (by decide))).setOther (a := ⟨p, 3, none⟩) (by intro e; have e : w.heap.size = p := e; have := h.hf; rw [e] at this; unfold Blk at this; rw [h.hp] at this; simp at this) iv'
  · refine (h.kept.trans (Kept.ofGrown hg) ?_).trans (Kept.ofGrown h4) ?_
    · intro x hx; exact h.mi x (by simpa using hx)
    · intro x hx; simp at hx; subst hx; exact .inl h.mp
  · intro b hb
    rcases hat b hb with e | e
    · exact h.mi b e
    · have := h.kept.size; right; omega
theorem PMid.setL (h : PMid w W p bs base next lv n xs iv ix fc) (ho : W'.ownsRow 0 26 5 lv' n' xs') (hg : W.grownBy W' lv.ownBlock)
    (hat : ∀ b, lv'.ownBlock = some b → lv.ownBlock = some b ∨ b = W.heap.size) : PMid w (W'.setCell ⟨p, 2, none⟩ lv') p bs base next lv' n' xs' iv ix fc := by
  have h1 := h.hp.grown hg (own_ne h.lo h.hp (by decide))
  have h2 := h1.set 2 lv'
  have h3 := h.io.kept hg (own_apart h.io h.lo (by decide))
  have h4 : W'.grownBy (W'.setCell ⟨p, 2, none⟩ lv') (some p) := grown_set (grown_refl _ _) _ _
  refine ⟨h2, ?_, ho.kept h4 (.inr (Ne.symm (own_ne ho h1 (by decide)))), h3.kept h4 (.inr (Ne.symm (own_ne h3 h1 (by decide)))), ?_, ?_, h.mp, ?_, h.mi⟩
  · exact (h.hf.grown hg (Ne.symm h.fl)).setOther (a := ⟨p, 2, none⟩) (by intro e; have e : w.heap.size = p := e; have := h.hf; rw [e] at this; unfold Blk at this; rw [h.hp] at this; simp at this) lv'
  · intro e
    rcases hat _ e with e | e
    · exact h.fl e
    · have := h.hf.lt; omega
  · refine (h.kept.trans (Kept.ofGrown hg) ?_).trans (Kept.ofGrown h4) ?_
    · intro x hx; exact h.ml x (by simpa using hx)
    · intro x hx; simp at hx; subst hx; exact .inl h.mp
  · intro b hb
    rcases hat b hb with e | e
    · exact h.ml b e
    · have := h.kept.size; right; omega
theorem PMid.done {l : List Fnd} (h : PMid w W p bs base next lv l.length (l.flatMap Fnd.cells) iv (idx l) fc) : ∃ cs, SegAt W p cs base next l ∧ Kept bs w W ∧ ∀ x ∈ cs, x ∈ bs ∨ w.heap.size ≤ x := by
  refine ⟨_, ⟨lv, iv, h.hp, h.lo, h.io, rfl⟩, h.kept, fun x hx => ?_⟩
  simp only [List.mem_cons, List.mem_append, Option.mem_toList] at hx
  rcases hx with rfl | hx | hx
  · exact .inl h.mp
  · exact h.ml x hx
  · exact h.mi x hx
end
theorem news_int {W : World} (x : Int) {s : Nat} (hs : W.heap.size = s) : ∀ j u, [Value.int .i64 x][j]? = some u → (W.alloc (.cells #[.int .i64 x] 3)).cell? ((⟨s, 0, none⟩ : Addr).add j) = some u := by
  subst hs
  exact World.news_of_block (cs := #[.int .i64 x]) (t := 3) (fr := (0, 0)) (heap_alloc_new W _)
theorem news_fnd {W : World} (f : Fnd) {s : Nat} (hs : W.heap.size = s) : ∀ j u, f.cells[j]? = some u → (W.alloc (.cells f.cells.toArray 26)).cell? ((⟨s, 0, none⟩ : Addr).add j) = some u := by
  subst hs
  exact World.news_of_block (cs := f.cells.toArray) (t := 26) (fr := (0, 0)) (heap_alloc_new W _)

set_option maxHeartbeats 4000000 in
set_option maxRecDepth 100000 in
theorem put5 (p : Nat) (bs : List Nat) (base next : Int) (l : List Fnd) (f : Fnd) (w : World) (h : SegAt w p bs base next l) (hl : l.length ≤ 100000) :
    SegCall 29 #[.pointer (some ⟨p, 0, none⟩), f.val] w p bs (.tuple #[]) base next (l ++ [f]) := by
  refine SegCall.intro fun R hR => ?_
  obtain ⟨i0, hi, hz0, hz1, hz2⟩ := info_parts fndInfo
  obtain ⟨j0, hj, hy0, hy1, hy2⟩ := info_parts intInfo
  obtain ⟨lv, iv, hp, P1⟩ := PMid.start h #[.int .i64 f.off, .bool f.r.hk, .string (S f.r.key), .bool f.r.tb, .string (S f.r.val)]
  obtain ⟨la, lc, rfl⟩ := own_form P1.lo
  obtain ⟨ia, ic, rfl⟩ := own_form P1.io
  have hil := idx_len l
  have hdone : ∀ {W : World} {lv iv : Value} {fc : Array Value}, PMid w W p bs base next lv (l ++ [f]).length ((l ++ [f]).flatMap Fnd.cells) iv (idx (l ++ [f])) fc → R (.returned (.tuple #[])) W := fun h => by
    obtain ⟨cs, h1, h2, h3⟩ := h.done
    exact hR.out cs _ h1 h2 h3
  have HD : Hid (∀ {W : World} {lv iv : Value} {fc : Array Value}, PMid w W p bs base next lv (l ++ [f]).length ((l ++ [f]).flatMap Fnd.cells) iv (idx (l ++ [f])) fc → R (.returned (.tuple #[])) W) := hdone
  have hlen : (l ++ [f]).length = l.length + 1 := by simp
  have hfl : (l ++ [f]).flatMap Fnd.cells = l.flatMap Fnd.cells ++ f.cells := by simp
  have hix := idx_snoc l f
  rw [hlen, hfl] at HD
  have HX := Lib.hid hix
  clear hdone hR hlen hfl hix h
  unfold Fnd.val
  go_enter Try.func29, Try.ntmps29
  obtain ⟨k0, p0, p1, p2, p3⟩ := hp.c4
  have fp := fun i => Blk.frozen hp i
  by_cases h8 : l.length % 8 = 0
  · have q1 : ((l.length : Int) % 8 == 0) = true := by simp; omega
    rw [if_pos h8] at HX
    go_wp2_with fail
    go_region_law (refine step_append_lies _ (by rfl) _ _ _ (by rfl) 0 3 j0 _ 1 8 Try.underlying48 hj hy0 hy1 hy2 rfl (by omega) (.slice ia (idx l).length ic) (idx l).length ((idx l).map (Value.int .i64)) (by simp [Act.eval, Act.put]) (P1.drew.alloc _).io ⟨w.heap.size + 1, 0, none⟩ 1 1 [.int .i64 f.off] (by simp [Act.eval, Act.put]) rfl (news_int f.off (by simp)) (by simp [Value.oneCell']) (by omega) (by unfold maxLen; omega) (by omega) (by omega) (w.heap.size + 2) (by simp) ?_; intro g cap w3 hown3 hgrow3 hat3 hlt3; have P2 := P1.drew.alloc (.cells #[.int .i64 f.off] 3); have bb := P2.hp.grown hgrow3 (own_ne P2.io P2.hp (by decide)); obtain ⟨kk, pp0, pp1, pp2, pp3⟩ := bb.c4; have ff := fun i => Blk.frozen bb i)
    all_goals (have hown3' : w3.ownsRow 0 3 1 (.slice (some ⟨g, 0, none⟩) ((idx l).length + 1) cap) (idx (l ++ [f])).length ((idx (l ++ [f])).map (Value.int .i64)) := by rw [HX.out]; simpa using hown3)
    all_goals (have PP := P2.setI hown3' hgrow3 (by intro b hb; cases hb; rcases hat3 with e | e; exact .inl e; right; subst e; simp))
    all_goals clear hown3 hgrow3 hat3 hlt3 P2 bb kk pp0 pp1 pp2 pp3 ff hown3' P1 p0 p1 p2 p3 fp hp
    all_goals generalize w3.setCell ⟨p, 3, none⟩ (.slice (some ⟨g, 0, none⟩) ((idx l).length + 1) cap) = W at PP ⊢
    all_goals obtain ⟨k1, p0, p1, p2, p3⟩ := PP.hp.c4
    all_goals (have e0 := PP.hf.cell 0; have e1 := PP.hf.cell 1; have e2 := PP.hf.cell 2; have e3 := PP.hf.cell 3; have e4 := PP.hf.cell 4; have kf := PP.hf.lt)
    all_goals simp only [List.getElem?_toArray, List.getElem?_cons_zero, List.getElem?_cons_succ] at e0 e1 e2 e3 e4
    all_goals go_wp2_with fail
    all_goals go_region_law (refine step_append_lies _ (by rfl) _ _ _ (by rfl) 0 26 i0 _ 5 56 Try.underlying22 hi hz0 hz1 hz2 rfl (by omega) (.slice la l.length lc) l.length (l.flatMap Fnd.cells) (by simp [Act.eval, Act.put]) (PP.drew.alloc _).lo ⟨W.heap.size, 0, none⟩ 1 1 f.cells (by simp [Act.eval, Act.put]) rfl (news_fnd f (by first | rfl | simp)) (by simp [Value.oneCell', Fnd.cells, Rec.cells]) (by omega) (by unfold maxLen; omega) (by omega) (by omega) (W.heap.size + 1) (by simp) ?_; intro g2 cap2 w5 hown5 hgrow5 hat5 hlt5; have P4 := PP.drew.alloc (.cells f.cells.toArray 26); have bb2 := P4.hp.grown hgrow5 (own_ne P4.lo P4.hp (by decide)); obtain ⟨kk2, rr0, rr1, rr2, rr3⟩ := bb2.c4; have ff2 := fun i => Blk.frozen bb2 i)
    all_goals go_wp2_with fail
    all_goals refine bodyPost_end (results_none rfl _ _ _) rfl ?_
    all_goals exact HD.out (P4.setL hown5 hgrow5 (by intro b hb; cases hb; rcases hat5 with e | e; exact .inl e; right; subst e; simp))
  · have q1 : ((l.length : Int) % 8 == 0) = false := by simp; omega
    rw [if_neg h8, List.append_nil] at HX
    rw [← HX.out] at P1
    go_wp2_with fail
    have PP := P1
    go_region_law (refine step_append_lies _ (by rfl) _ _ _ (by rfl) 0 26 i0 _ 5 56 Try.underlying22 hi hz0 hz1 hz2 rfl (by omega) (.slice la l.length lc) l.length (l.flatMap Fnd.cells) (by simp [Act.eval, Act.put]) (PP.drew.alloc _).lo ⟨(w.heap.size + 1), 0, none⟩ 1 1 f.cells (by simp [Act.eval, Act.put]) rfl (news_fnd f (by first | rfl | simp)) (by simp [Value.oneCell', Fnd.cells, Rec.cells]) (by omega) (by unfold maxLen; omega) (by omega) (by omega) ((w.heap.size + 1) + 1) (by simp) ?_; intro g2 cap2 w5 hown5 hgrow5 hat5 hlt5; have P4 := PP.drew.alloc (.cells f.cells.toArray 26); have bb2 := P4.hp.grown hgrow5 (own_ne P4.lo P4.hp (by decide)); obtain ⟨kk2, rr0, rr1, rr2, rr3⟩ := bb2.c4; have ff2 := fun i => Blk.frozen bb2 i)
    all_goals go_wp2_with fail
    all_goals refine bodyPost_end (results_none rfl _ _ _) rfl ?_
    all_goals exact HD.out (P4.setL hown5 hgrow5 (by intro b hb; cases hb; rcases hat5 with e | e; exact .inl e; right; subst e; simp))
end Go.Proofs.Ytkgpckfaghpgmaa
