import Derived.Test.YtkfglnhapcceaaaLogX
import Derived.Test.YtkfglnhapcceaaaSegN
/-
  Layer 6: the same segments? what is retained.
-/
set_option linter.unusedVariables false
set_option linter.unusedSimpArgs false
namespace Go.Proofs.Ytkfglnhapcceaaa
open Go.RowKit
attribute [local go_sem] ByteArray.extract_mk ByteArray.mk_append_mk

set_option maxHeartbeats 4000000 in
set_option maxRecDepth 100000 in
theorem rsegs6 (v1 v2 : Value) (b1 b2 : List Nat) (D : List Sd) (w : World) (h1 : SegsIn w v1 b1 D) (h2 : SegsIn w v2 b2 D) (hl : D.length ≤ 1000) (hll : ∀ s ∈ D, s.l.length ≤ 100000) :
    RetB Try.prog 24 #[v1, v2] w (.bool true) := by
  refine RetB.intro fun R hR => ?_
  by_cases h0 : D = []
  · subst h0
    obtain ⟨a1, c1, rfl⟩ := h1.form
    obtain ⟨a2, c2, rfl⟩ := h2.form
    clear h1 h2
    go_enter Try.func24, Try.ntmps24
    go_wp2_with fail
    refine wp_loop_rounds 1 ?_
    rw [rounds_succ]
    go_wp2_with fail
    exact finB hR (Below.refl _ _) rfl
  · have HS1 := Lib.hid h1
    have HS2 := Lib.hid h2
    have HLL := Lib.hid hll
    obtain ⟨a1, c1, rfl⟩ := h1.form
    obtain ⟨a2, c2, rfl⟩ := h2.form
    clear h1 h2 hll
    go_enter Try.func24, Try.ntmps24
    go_wp2_with fail
    go_loopw [5] (fun (v5 : Value) (W : World) => ∃ k : Nat, k ≤ D.length ∧ v5 = .int .i64 (k : Int) ∧ Below w.heap.size w W) (fun (v5 : Value) (W : World) => (D.length - intOf v5).toNat)
    case atStart => exact ⟨0, by omega, rfl, Below.refl _ _⟩
    case round =>
      obtain ⟨k, hk, rfl, hnx⟩ := hrel
      by_cases hkl : k < D.length
      · rcases HS1.out.below hnx with ⟨h, _⟩ | ⟨xb, xo, xc, xl, hsl, _, _, x1, _, x2, x3⟩
        · exact absurd h h0
        rcases HS2.out.below hnx with ⟨h, _⟩ | ⟨yb, yo, yc, yl, hsl2, _, _, y1, _, y2, y3⟩
        · exact absurd h h0
        simp only [Value.slice.injEq, true_and] at hsl hsl2
        obtain ⟨rfl, rfl⟩ := hsl
        obtain ⟨rfl, rfl⟩ := hsl2
        obtain ⟨⟨p0, p1, p2, p3⟩, _⟩ := x3 k hkl (by omega)
        obtain ⟨⟨q0, q1, q2, q3⟩, _⟩ := y3 k hkl (by omega)
        have hlk := HLL.out _ (List.getElem_mem hkl)
        have hpa := p3
        have hqa := q3
        obtain ⟨pa, pc, hp⟩ := p3.form
        obtain ⟨qa, qc, hq⟩ := q3.form
        rw [hp] at p2 hpa
        rw [hq] at q2 hqa
        generalize D[k] = s at *
        have P0 : Below wr.heap.size wr wr.drew := (Below.refl _ _).drew
        have cF := Lib.hid (fun W (hb : Below wr.heap.size wr W) => (found5 _ _ s.l s.l W (hpa.below hb) (hqa.below hb) hlk hlk).cast (v' := .bool true) (by simp))
        have i1 : (0 : Int) ≤ (k : Int) := by omega
        have i2 : (k : Int) < (D.length : Int) := by omega
        clear x3 y3 hp hq p3 q3 hpa hqa
        go_wp2_with fail
        go_region_held3 (fun w' => w'.cell? ⟨xb, xo + k * 3, none⟩ = some (.int .i64 s.base) ∧ w'.cell? ⟨xb, xo + k * 3 + 1, none⟩ = some (.int .i64 s.next) ∧ w'.cell? ⟨xb, xo + k * 3 + 2, none⟩ = some (.slice pa s.l.length pc) ∧ w'.cell? ⟨yb, yo + k * 3, none⟩ = some (.int .i64 s.base) ∧ w'.cell? ⟨yb, yo + k * 3 + 1, none⟩ = some (.int .i64 s.next) ∧ w'.cell? ⟨yb, yo + k * 3 + 2, none⟩ = some (.slice qa s.l.length qc)) (go_keep) (first | (go_at_call 23; refine (cF.out _ (by assumption)).use ?_; intro W hb; have P := below_any (Nat.le_refl _) P0 hb; have z0 := (P.cell (p := ⟨xb, xo + k * 3, none⟩) x1).trans p0; have z1 := (P.cell (p := ⟨xb, xo + k * 3 + 1, none⟩) x1).trans p1; have z2 := (P.cell (p := ⟨xb, xo + k * 3 + 2, none⟩) x1).trans p2; have z3 := (P.cell (p := ⟨yb, yo + k * 3, none⟩) y1).trans q0; have z4 := (P.cell (p := ⟨yb, yo + k * 3 + 1, none⟩) y1).trans q1; have z5 := (P.cell (p := ⟨yb, yo + k * 3 + 2, none⟩) y1).trans q2))
        all_goals go_wp2_with fail
        all_goals go_roundw
        case rel => exact ⟨k + 1, by omega, by go_num, below_any (Nat.le_refl _) hnx P⟩
        case measure => first | (simp [intOf]; done) | (simp [intOf]; omega)
      · have i2 : ¬ (k : Int) < (D.length : Int) := by omega
        go_wp2_with fail
        exact finB hR hnx rfl

section
variable {room : Int} {D : List Sd}
theorem nret_next : ∀ {D : List Sd} {b : Int} {k : Nat}, k < nret b D → ∀ h : k < D.length, D[k].next ≤ b := by
  intro D b k hk h
  unfold nret at hk
  have h1 : k < D.dropLast.length := by
    have := (List.takeWhile_sublist (p := fun s : Sd => decide (s.next ≤ b)) (l := D.dropLast)).length_le
    omega
  have h2 : (D.dropLast.takeWhile fun s => decide (s.next ≤ b))[k] ∈ D.dropLast.takeWhile fun s => decide (s.next ≤ b) := List.getElem_mem hk
  have h3 : ∀ (l : List Sd), ∀ s ∈ l.takeWhile (fun s => decide (s.next ≤ b)), s.next ≤ b := by
    intro l
    induction l with
    | nil => simp
    | cons t l ih =>
      intro s hs
      rw [List.takeWhile_cons] at hs
      split at hs
      · rename_i h5
        rcases List.mem_cons.1 hs with rfl | hs
        · simpa using h5
        · exact ih s hs
      · simp at hs
  have h4 := h3 _ _ h2
  have h5 : (D.dropLast.takeWhile fun s => decide (s.next ≤ b))[k] = D.dropLast[k] := by
    have := (List.takeWhile_prefix (p := fun s : Sd => decide (s.next ≤ b)) (l := D.dropLast))
    exact this.getElem hk
  rw [h5, List.getElem_dropLast] at h4
  exact h4
theorem retain_start (hg : Good room D) {b : Int} (h : dstart D ≤ b) : dstart (D.drop (nret b D)) ≤ b := by
  have hlt := nret_lt hg.2.2.1 b
  by_cases h0 : nret b D = 0
  · rw [h0, List.drop_zero]; exact h
  · obtain ⟨k, hk⟩ : ∃ k, nret b D = k + 1 := ⟨nret b D - 1, by omega⟩
    have h1 := nret_next (D := D) (b := b) (k := k) (by omega) (by omega)
    have h2 := hg.next (j := k) (by omega)
    rw [hk, List.drop_eq_getElem_cons (show k + 1 < D.length by omega)]
    simp only [dstart, List.head?_cons, Option.map_some, Option.getD_some]
    omega
theorem retain_read (hg : Good room D) {b n : Int} (h : dstart D ≤ b) (he : b ≤ dend D) : rerr b D = 0 ∧ rerr b (D.drop (nret b D)) = 0 ∧ dread b n (D.drop (nret b D)) = dread b n D := by
  have hlt := nret_lt hg.2.2.1 b
  have h1 := rerr_in h he
  have h2 := rerr_in (retain_start hg h) (by rw [dend_drop hlt]; exact he)
  refine ⟨h1, h2, ?_⟩
  unfold dread
  rw [if_pos h1, if_pos h2]
  unfold readsR
  have h3 : (dall (D.take (nret b D))).filter (fun f => decide (b ≤ f.off)) = [] := List.filter_eq_nil_iff.2 fun f hf => by
    obtain ⟨s, hs, hf⟩ := List.mem_flatMap.1 hf
    obtain ⟨k, hk, rfl⟩ := List.getElem_of_mem hs
    rw [List.length_take] at hk
    rw [List.getElem_take] at hf
    have h4 := nret_next (D := D) (b := b) (k := k) (by omega) (by omega)
    have h5 := ((hg.mem (List.getElem_mem (show k < D.length by omega))).2.2.2.2.2 f hf).2.1
    simp
    omega
  have h6 : dall D = dall (D.take (nret b D)) ++ dall (D.drop (nret b D)) := by
    unfold dall
    rw [← List.flatMap_append, List.take_append_drop]
  rw [h6, List.filter_append, h3, List.nil_append]
theorem retain_stop (hg : Good room D) {b : Int} (h : nret b D + 1 ≠ D.length) : ∀ h2 : nret b D < D.length, b < D[nret b D].next := by
  intro h2
  have key : ∀ (l : List Sd), ∀ h : (l.takeWhile fun s => decide (s.next ≤ b)).length < l.length, ¬ (l[(l.takeWhile fun s => decide (s.next ≤ b)).length]'h).next ≤ b := by
    intro l
    induction l with
    | nil => intro h; simp at h
    | cons t l ih =>
      intro h
      by_cases h5 : t.next ≤ b
      · have e : (t :: l).takeWhile (fun s => decide (s.next ≤ b)) = t :: l.takeWhile (fun s => decide (s.next ≤ b)) := by rw [List.takeWhile_cons, if_pos (by simpa using h5)]
        simp only [e, List.length_cons, List.getElem_cons_succ] at h ⊢
        exact ih (by omega)
      · have e : (t :: l).takeWhile (fun s => decide (s.next ≤ b)) = [] := by rw [List.takeWhile_cons, if_neg (by simpa using h5)]
        simp only [e, List.length_nil, List.getElem_cons_zero]
        exact h5
  have h3 : nret b D < D.dropLast.length := by rw [List.length_dropLast]; omega
  have h4 : ¬ (D.dropLast[nret b D]'h3).next ≤ b := key D.dropLast h3
  rw [List.getElem_dropLast] at h4
  omega
/-- What an append does, whatever it comes to. -/
theorem app_state {rs : List Rec} (hg : Good room D) (hr : room ≤ 64) : Good room (dapp room D rs) ∧ (dapp room D rs).length ≤ D.length + 1 ∧ dstart (dapp room D rs) = dstart D ∧ dend D ≤ dend (dapp room D rs) ∧ dend (dapp room D rs) ≤ dend D + 64 ∧ (dall (dapp room D rs)).length ≤ (dall D).length + 64 := by
  by_cases he : aerr6 room D rs = 0
  · have h1 := dapp_end hg.2.2.1 he
    have h2 := congrArg List.length (dapp_all hg.2.2.1 he)
    rw [List.length_append, fnds_len] at h2
    have h3 : (rs.length : Int) ≤ room := by
      unfold aerr6 at he
      by_cases h0 : rchecks rs ≠ 0
      · rw [if_pos h0] at he; exact absurd he h0
      · rw [if_neg h0] at he
        by_cases h4 : room < (rs.length : Int)
        · rw [if_pos h4] at he; omega
        · omega
    exact ⟨hg.app he, dapp_len, dapp_start hg.2.2.1, by omega, by omega, by omega⟩
  · rw [dapp_no he]
    exact ⟨hg, by omega, rfl, by omega, by omega, by omega⟩
end
theorem SegsIn.drop {w : World} {a : Option Addr} {cap : Nat} {bs : List Nat} {D : List Sd} {n : Nat} (h : SegsIn w (.slice a D.length cap) bs D) (hn : n < D.length) : ∃ b off, a = some ⟨b, off, none⟩ ∧ b < w.heap.size ∧ D.length ≤ cap ∧ SegsIn w (.slice (some ⟨b, off + n * 3, none⟩) (D.length - n) (cap - n)) bs (D.drop n) := by
  rcases h with ⟨rfl, _⟩ | ⟨b, off, cap', lvs, hsl, hc, hne, hlt, hb, hl, hf⟩
  · simp at hn
  · simp only [Value.slice.injEq, true_and] at hsl
    obtain ⟨rfl, rfl⟩ := hsl
    refine ⟨b, off, rfl, hlt, hc, .inr ⟨b, off + n * 3, cap - n, lvs.drop n, by rw [List.length_drop], by rw [List.length_drop]; omega, fun e => by have := congrArg List.length e; rw [List.length_drop, List.length_nil] at this; omega, hlt, hb, by rw [List.length_drop, List.length_drop, hl], fun i hi hi' => ?_⟩⟩
    rw [List.length_drop] at hi
    rw [List.getElem_drop, List.getElem_drop, show off + n * 3 + i * 3 = off + (n + i) * 3 by omega]
    exact hf (n + i) (by omega) (by omega)
end Go.Proofs.Ytkfglnhapcceaaa
