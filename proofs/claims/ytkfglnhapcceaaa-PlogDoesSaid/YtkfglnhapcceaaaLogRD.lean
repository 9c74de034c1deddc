import Derived.Test.YtkfglnhapcceaaaLogRC
import Derived.Test.YtkfglnhapcceaaaSegL
/-
  Layer 6: the document's log: another segment; a log of segments.
-/
set_option linter.unusedVariables false
set_option linter.unusedSimpArgs false
namespace Go.Proofs.Ytkfglnhapcceaaa
open Go.RowKit
attribute [local go_sem] ByteArray.extract_mk ByteArray.mk_append_mk

/-- Another segment. -/
def SegMade (f : FuncId) (args : Array Value) (w : World) (s : Sd) : Prop :=
  Calls Try.prog f args w fun x w' => ∃ v, x = .returned (.agg #[.int .i64 s.base, .int .i64 s.next, v]) ∧ w'.ownsRow w.heap.size 31 5 v s.l.length (s.l.flatMap Fnd.cells) ∧ Below w.heap.size w w'
theorem SegMade.intro {f : FuncId} {args : Array Value} {w : World} {s : Sd}
    (h : ∀ R : Ending → World → Prop, Hid (∀ v w', w'.ownsRow w.heap.size 31 5 v s.l.length (s.l.flatMap Fnd.cells) → Below w.heap.size w w' → R (.returned (.agg #[.int .i64 s.base, .int .i64 s.next, v])) w') → Calls Try.prog f args w R) : SegMade f args w s :=
  h _ fun v w' h1 h2 => ⟨v, rfl, h1, h2⟩
theorem SegMade.use {f : FuncId} {args : Array Value} {w : World} {s : Sd} {R : Ending → World → Prop} (h : SegMade f args w s)
    (k : ∀ v w', w'.ownsRow w.heap.size 31 5 v s.l.length (s.l.flatMap Fnd.cells) → Below w.heap.size w w' → R (.returned (.agg #[.int .i64 s.base, .int .i64 s.next, v])) w') : Calls Try.prog f args w R :=
  h.mono fun x w' ⟨v, he, h1, h2⟩ => by subst he; exact k v w' h1 h2

/-- An append of any slice, nil or empty too, at a step of a drawn region. -/
theorem step_append_any {P : Program} {w : World} {ops : Array Oper} {o : Oper} {a : Act} {K : Act → World → Prop} {Q : Exit → Act → World → Prop} {E : Prop} (hgd : o.guard = none) (s x : Operand) (t : TypeId)
    (ho : o.op = .call { callee := .builtin .append, args := #[s, x], argTypes := #[t, t] })
    (base : Nat) (e : TypeId) (i : TypeInfo) (z : Value) (size bytes : Nat) (ht : P.underlying t = some (.slice e)) (hi : P.info? e = some i) (hz : i.zero = some z)
    (hsize : i.size = size) (hby : i.bytes = bytes) (hzs : z.cells.size = size) (hsz : 0 < size)
    (v : Value) (n : Nat) (xs : List Value) (hs : a.eval s = v) (hown : w.ownsRow base e size v n xs)
    (xa : Option Addr) (m c : Nat) (news : List Value) (hx : a.eval x = .slice xa m c)
    (hc : (xa = none ∧ m = 0 ∧ c = 0 ∧ news = []) ∨ ∃ ad, xa = some ad ∧ ∀ j u, news[j]? = some u → w.cell? (ad.add j) = some u) (hl : news.length = m * size) (h1 : ∀ u ∈ news, u.oneCell' = true)
    (h63 : n + m ≤ maxLen) (hbytes : (n + m) * bytes ≤ 140737488355328) (hbase : base ≤ w.heap.size) (H : Nat) (hH : w.heap.size = H)
    (h : ∀ v' w', w'.ownsRow base e size v' (n + m) (xs ++ news) → w.grownBy w' v.ownBlock → (v'.ownBlock = v.ownBlock ∨ v'.ownBlock = some H) → K (a.put o.dst v') w') :
    if Region.wanted o (yielded ops a.tmps) = true then Oper.wp P o a w K Q else E := by
  have hw : Region.wanted o (yielded ops a.tmps) = true := by simp [Region.wanted, hgd]
  rw [if_pos hw]
  rcases hc with ⟨rfl, rfl, rfl, rfl⟩ | ⟨ad, rfl, hnews⟩
  · have hrun := run_append_owned_none (P := P) (w := w) base t o.type e i size ht hi v n xs hown
    unfold Oper.wp execOp
    simp only [ho, resolve, invoke, builtin, Sem.run_bind, Sem.run_pure, Result.andThen_ok, List.map_toArray, List.map_cons, List.map_nil, hs, hx, hrun]
    exact h v w (by simpa using hown) (grown_refl _ _) (.inl rfl)
  · obtain ⟨v', w', hr, h2, h3, _, h5⟩ := run_append_own_at (P := P) (w := w) base t o.type e i z size bytes ht hi hz hsize hby hzs hsz v n xs hown ad m c news hl hnews h1 h63 hbytes hbase
    unfold Oper.wp execOp
    simp only [ho, resolve, invoke, builtin, Sem.run_bind, Sem.run_pure, Result.andThen_ok, List.map_toArray, List.map_cons, List.map_nil, hs, hx, hr]
    exact h v' w' h2 h3 (by rw [← hH]; exact h5)

theorem seg_fin6 {w W0 w3 : World} {va3 : Option Addr} {cap3 : Nat} {base next : Int} {l : List Fnd} (hb0 : Below w.heap.size w W0) (hown : w3.ownsRow w.heap.size 31 5 (.slice va3 l.length cap3) l.length (l.flatMap Fnd.cells))
    (hg : W0.grownBy w3 (some (w.heap.size + 1 + 1))) (hat : (Value.slice va3 l.length cap3).ownBlock = some (w.heap.size + 1 + 1) ∨ (Value.slice va3 l.length cap3).ownBlock = some (w.heap.size + 1 + 1 + 1)) :
    (((w3.setCell ⟨w.heap.size + 1, 0, none⟩ (.int .i64 base)).setCell ⟨w.heap.size + 1, 1, none⟩ (.int .i64 next)).setCell ⟨w.heap.size + 1, 2, none⟩ (.slice va3 l.length cap3)).ownsRow w.heap.size 31 5 (.slice va3 l.length cap3) l.length (l.flatMap Fnd.cells) ∧
    Below w.heap.size w (((w3.setCell ⟨w.heap.size + 1, 0, none⟩ (.int .i64 base)).setCell ⟨w.heap.size + 1, 1, none⟩ (.int .i64 next)).setCell ⟨w.heap.size + 1, 2, none⟩ (.slice va3 l.length cap3)) := by
  have K3 : Kept [w.heap.size + 1] w3 (((w3.setCell ⟨w.heap.size + 1, 0, none⟩ (.int .i64 base)).setCell ⟨w.heap.size + 1, 1, none⟩ (.int .i64 next)).setCell ⟨w.heap.size + 1, 2, none⟩ (.slice va3 l.length cap3)) :=
    ((kept_set 0 _).trans (kept_set 1 _) (by simp)).trans (kept_set 2 _) (by simp)
  have hB := Kept.below hb0 (Kept.ofGrown hg) (by intro x hx; simp at hx; omega) hb0.size
  refine ⟨own_keptBy hown K3 ?_, Kept.below hB K3 (by simp) hB.size⟩
  intro b hb
  rcases hat with e | e
  · rw [e] at hb; simp only [Option.some.injEq] at hb; simp; omega
  · rw [e] at hb; simp only [Option.some.injEq] at hb; simp; omega
set_option maxHeartbeats 8000000 in
theorem rseg6 (s : Sd) (v : Value) (w : World) (hl : FndsIn w v s.l) (hns : (∃ ad n c, v = .slice (some ad) n c) ∨ v = .slice none 0 0) (hb : s.l.length ≤ 1000000) : SegMade 35 #[.agg #[.int .i64 s.base, .int .i64 s.next, v]] w s := by
  refine SegMade.intro fun R hR => ?_
  obtain ⟨i0, hi, hz0, hz1, hz2⟩ := info_parts fndInfo
  obtain ⟨base, next, l⟩ := s
  simp only at hl hb hR ⊢
  have hn := fcells_len l
  obtain ⟨xa, cap, rfl⟩ := hl.form
  have hnew : ∀ W : World, Below w.heap.size w W → (xa = none ∧ l.length = 0 ∧ cap = 0 ∧ l.flatMap Fnd.cells = []) ∨ ∃ ad, xa = some ad ∧ ∀ j u, (l.flatMap Fnd.cells)[j]? = some u → W.cell? (ad.add j) = some u := fun W hW => by
    cases xa with
    | none =>
      rcases hns with ⟨ad, n, c, h⟩ | h
      · simp at h
      · simp only [Value.slice.injEq, true_and] at h
        have h0 : l = [] := List.eq_nil_of_length_eq_zero h.1
        exact .inl ⟨rfl, h.1, h.2, by rw [h0]; rfl⟩
    | some ad =>
      refine .inr ⟨ad, rfl, ?_⟩
      rcases hl with ⟨rfl, _⟩ | ⟨b, off, cap', h, _, _, hlt, hc⟩
      · intro j u hj; simp at hj
      · simp only [Value.slice.injEq, Option.some.injEq] at h
        obtain ⟨rfl, _, rfl⟩ := h
        exact fnews_at fun i h => (hc i h).keep fun k => hW.cell (p := ⟨b, k, none⟩) hlt
  have HN := Lib.hid hnew
  have hB := Blk.new w #[.int .i64 base, .int .i64 next, .slice xa l.length cap] 26
  have hC := Blk.new (w.alloc (.cells #[.int .i64 base, .int .i64 next, .slice xa l.length cap] 26)) #[.int .i64 0, .int .i64 0, .slice none 0 0] 26
  have o0 := World.ownsRow_made (base := w.heap.size) (e := 31) (size := 5) ((w.alloc (.cells #[.int .i64 base, .int .i64 next, .slice xa l.length cap] 26)).alloc (.cells #[.int .i64 0, .int .i64 0, .slice none 0 0] 26)) #[] 0 (by rw [World.size_alloc, World.size_alloc]; omega) (by omega) rfl
  rw [World.size_alloc] at hC
  rw [World.size_alloc, World.size_alloc] at o0
  have O0 := Lib.hid o0
  have HC := Lib.hid (hC.alloc (.cells #[] 31))
  have HB := Lib.hid ((hB.alloc (.cells #[.int .i64 0, .int .i64 0, .slice none 0 0] 26)).alloc (.cells #[] 31))
  clear o0 hnew hl hns hB hC
  go_enter Try.func35, Try.ntmps35
  go_wp2_with fail
  go_region_law (refine step_append_any (by rfl) _ _ _ (by rfl) w.heap.size 31 i0 _ 5 56 Try.underlying24 hi hz0 hz1 hz2 rfl (by omega) (.slice (some ⟨w.heap.size + 1 + 1, 0, none⟩) 0 0) 0 [] (by simp [Act.eval, Act.put]) (by exact O0.out) xa l.length cap (l.flatMap Fnd.cells) (by simp [Act.eval, Act.put]) (HN.out _ (by repeat (first | exact Below.refl _ _ | refine below_all ?_ | refine Below.drew ?_))) hn (fcells_one _) (by unfold maxLen; omega) (by omega) (by first | (simp; done) | (simp; omega)) (w.heap.size + 1 + 1 + 1) (by first | rfl | simp) ?_; intro v3 w3 hown3 hgrow3 hat3; rw [Nat.zero_add, List.nil_append] at hown3; obtain ⟨va3, cap3, rfl⟩ := own_form hown3; have S3 := Blk.grown HC.out.drew hgrow3 (by simp [Value.ownBlock]); obtain ⟨_, cc0, cc1, cc2⟩ := S3.c3; have cf := fun i => Blk.frozen S3 i; have S4 := Blk.grown HB.out.drew hgrow3 (by intro e; simp only [Value.ownBlock, Option.some.injEq] at e; omega); obtain ⟨_, dd0, dd1, dd2⟩ := S4.c3)
  all_goals go_wp2_with fail
  all_goals refine bodyPost_ret (results_cell_row rfl _ _ (w.heap.size + 1) 26 #[.int .i64 base, .int .i64 next, .slice va3 l.length cap3] (0, 0) _ rfl (((S3.set 0 _).set 1 _).set 2 _) Try.underlying26 rfl (by kernel_rfl)) rfl ?_
  all_goals exact hR.out _ _ (seg_fin6 (by repeat (first | exact Below.refl _ _ | refine below_all ?_ | refine Below.drew ?_)) hown3 hgrow3 hat3).1 (seg_fin6 (by repeat (first | exact Below.refl _ _ | refine below_all ?_ | refine Below.drew ?_)) hown3 hgrow3 hat3).2
end Go.Proofs.Ytkfglnhapcceaaa
