import Derived.Test.YtkfglnhapcceaaaLogRH
import Derived.Test.YtkfglnhapcceaaaLogRB
import Derived.Test.YtkfglnhapcceaaaLogY
/-
  Layer 6: is a log in the state that the document says?
-/
set_option linter.unusedVariables false
set_option linter.unusedSimpArgs false
namespace Go.Proofs.Ytkfglnhapcceaaa
open Go.RowKit
attribute [local go_sem] ByteArray.extract_mk ByteArray.mk_append_mk

theorem dall_len : ∀ {D : List Sd}, (∀ s ∈ D, s.l.length ≤ 64) → (dall D).length ≤ 64 * D.length
  | [], _ => by simp [dall]
  | s :: D, h => by
    have h1 := h s (by simp)
    have h2 := dall_len (D := D) (fun t ht => h t (by simp [ht]))
    have e : dall (s :: D) = s.l ++ dall D := by simp [dall]
    rw [e, List.length_append, List.length_cons]
    omega
/-- The slice of segments of the document's log. -/
theorem RLogAt.segs {w : World} {k : Nat} {bs : List Nat} {room : Int} {D : List Sd} (h : RLogAt w k bs room D) : ∃ (a : Option Addr) (cap : Nat) (ss : List Nat), Blk w k #[.int .i64 room, .slice a D.length cap] 75 ∧ SegsIn w (.slice a D.length cap) ss D := by
  obtain ⟨sv, lvs, h1, h2, _⟩ := h
  obtain ⟨a, c, rfl⟩ := own_form h2.1
  exact ⟨a, c, _, h1, h2.in.1⟩

set_option maxHeartbeats 8000000 in
set_option maxRecDepth 100000 in
theorem same6 (g k : Nat) (bs cs : List Nat) (room : Int) (D : List Sd) (w : World) (h : LogD w g bs room D) (h' : RLogAt w k cs room D) (hl : D.length ≤ 900) :
    RetB Try.prog 16 #[.pointer (some ⟨g, 0, none⟩), .pointer (some ⟨k, 0, none⟩)] w (.bool true) := by
  refine RetB.intro fun R hR => ?_
  have hG := h.1
  have hne := hG.2.2.1
  have hll : ∀ s ∈ D, s.l.length ≤ 64 := fun s hs => (hG.mem hs).2.2.2.1
  have hda := dall_len hll
  have hdl : (dall D).length ≤ 64000 := by omega
  have hok : ∀ f ∈ dall D, f.r.ok = 0 := fun f hf => ((dall_rise hG).2 f hf).2.2
  have H := Lib.hid h
  have H' := Lib.hid h'
  have cSp := Lib.hid (span6D h hl)
  have cB := Lib.hid (fun w' (hb : Below w.heap.size w w') => bytes6D (h.below hb) hl)
  have cS := Lib.hid (fun w' (hb : Below w.heap.size w w') => segs6D (h.below hb) hl)
  have cRS := Lib.hid (fun w' (hb : Below w.heap.size w w') => rstart6 k cs room D w' (h'.below hb) hne (by omega))
  have cRE := Lib.hid (fun w' (hb : Below w.heap.size w w') => rend6 k cs room D w' (h'.below hb) hne (by omega))
  have cRB := Lib.hid (fun w' (hb : Below w.heap.size w w') => rbytes6 k cs room D w' (h'.below hb) hne (by omega) hll hdl hok)
  obtain ⟨la, lc, ss, hb, hsi⟩ := h'.segs
  have cQ := Lib.hid (fun v1 b1 v2 b2 w' h1 h2 => rsegs6 v1 v2 b1 b2 D w' h1 h2 (by omega) (fun s hs => by have := hll s hs; omega))
  have HB := Lib.hid hb
  have HSI := Lib.hid hsi
  clear h h' hb hsi hG hne hll hda hdl hok
  generalize dstart D = d0 at *
  generalize dend D = d1 at *
  generalize fbytes (dall D) = d2 at *
  go_enter Try.func16, Try.ntmps16
  go_wp2_with fail
  refine cSp.out.use ?_
  intro w2 b2
  have P0 : Below w.heap.size w w2.drew := b2.drew
  have B2 := b2
  obtain ⟨kk0, y0, y1⟩ := (HB.out.below b2).c2
  clear cSp H H'
  go_wp2_with fail
  go_region_held3 (fun w' => w'.cell? ⟨k, 1, none⟩ = some (.slice la D.length lc)) (go_keep) (first | (go_at_call 44; refine (cRS.out _ (by assumption)).use ?_; intro W hb; have P := below_any (Nat.le_refl _) (by assumption) hb; obtain ⟨_, xx0, xx1⟩ := (HB.out.below P).c2) | (go_at_call 43; refine (cRE.out _ (by assumption)).use ?_; intro W hb; have P := below_any (Nat.le_refl _) (by assumption) hb; obtain ⟨_, xx0, xx1⟩ := (HB.out.below P).c2) | (go_at_call 36; refine (cB.out _ (by assumption)).use ?_; intro W hb; have P := below_any (Nat.le_refl _) (by assumption) hb; obtain ⟨_, xx0, xx1⟩ := (HB.out.below P).c2) | (go_at_call 45; refine (cRB.out _ (by assumption)).use ?_; intro W hb; have P := below_any (Nat.le_refl _) (by assumption) hb; obtain ⟨_, xx0, xx1⟩ := (HB.out.below P).c2) | (go_at_call 22; refine (cS.out _ (by assumption)).use ?_; intro v3 b3 W S3 hx3 hb; have P := below_any (Nat.le_refl _) (by assumption) hb; obtain ⟨_, xx0, xx1⟩ := (HB.out.below P).c2; obtain ⟨sa3, sc3, rfl⟩ := S3.form) | (go_at_call 24; refine (cQ.out _ _ _ _ _ (by assumption) (HSI.out.below (by assumption))).use ?_; intro W hb; have P := below_any (Nat.le_refl _) (by assumption) hb; obtain ⟨_, xx0, xx1⟩ := (HB.out.below P).c2))
  all_goals go_wp2_with fail
  all_goals exact finB hR (by assumption) rfl
theorem rload6_ok {R : Ending → World → Prop} {room : Int} {v : Value} {lvs : List Value} {D : List Sd} {w : World} (hv : SegsOwn w 0 v D lvs) (hDl : D.length ≤ 900) (hbd : ∀ s ∈ D, s.l.length ≤ 9223372036854775807 ∧ ∀ f ∈ s.l, RecBd f.r) (hg : gerr room D = 0)
    (k : ∀ g cs w', RLogAt w' g cs room D → Below w.heap.size w w' → (∀ x ∈ cs, w.heap.size ≤ x) → R (.returned (.tuple #[.pointer (some ⟨g, 0, none⟩), .int .i64 0])) w') : Calls Try.prog 12 #[.int .i64 room, v] w R :=
  (rload6 room v lvs D w hv (by omega) hbd).mono fun x w' h => by
    rcases h with ⟨_, g, cs, rfl, h1, h3, h4⟩ | ⟨h, _⟩
    · exact k g cs w' h1 h3 h4
    · exact absurd hg h
theorem rload6_no {room : Int} {v : Value} {lvs : List Value} {D : List Sd} {w : World} (hv : SegsOwn w 0 v D lvs) (hDl : D.length ≤ 900) (hbd : ∀ s ∈ D, s.l.length ≤ 9223372036854775807 ∧ ∀ f ∈ s.l, RecBd f.r) (hg : gerr room D ≠ 0) :
    RetB Try.prog 12 #[.int .i64 room, v] w (.tuple #[.pointer none, .int .i64 (gerr room D : Nat)]) :=
  (rload6 room v lvs D w hv (by omega) hbd).mono fun x w' h => by
    rcases h with ⟨h, _⟩ | ⟨_, h1, h2⟩
    · exact absurd h hg
    · exact ⟨h1, h2⟩
theorem rappend6_use {R : Ending → World → Prop} {w : World} {k : Nat} {bs : List Nat} {room : Int} {D : List Sd} {v : Value} {rs : List Rec} (h : RLogAt w k bs room D) (hg : Good room D) (hl : D.length ≤ 900) (hv : RecsIn w v rs) (ha : Away bs v) (hb : RecsBd rs)
    (kk : ∀ cs w', RLogAt w' k cs room (dapp room D rs) → Kept bs w w' → (∀ x ∈ cs, x ∈ bs ∨ w.heap.size ≤ x) → R (.returned (.tuple #[.int .i64 (if aerr6 room D rs = 0 then dend D else 0), .int .i64 (aerr6 room D rs : Nat)])) w') :
    Calls Try.prog 15 #[.pointer (some ⟨k, 0, none⟩), v] w R := by
  obtain ⟨A, t, rfl⟩ := hg.split
  have ht := hg.mem (s := t) (by simp)
  have hde : dend (A ++ [t]) = t.next := dend_snoc _ _
  refine (rappend6 k bs room A t v rs w h hv ha hb (by simp at hl; omega) ⟨hg.1, hg.2.1⟩ (by omega) ht.2.2.2.1).use fun cs w' h2 h4 h5 => ?_
  rw [← hde]
  exact kk cs w' h2 h4 h5
theorem SegsOwn.belowB {w W : World} {B : Nat} {v : Value} {D : List Sd} {lvs : List Value} (h : SegsOwn w B v D lvs) (hb : Below w.heap.size w W) : SegsOwn W B v D lvs :=
  ⟨own_keptBy h.1 (Kept.ofBelow hb []) (away_nil _), h.2.1, fun i a b => own_keptBy (h.2.2 i a b) (Kept.ofBelow hb []) (away_nil _)⟩
/-- A segment more in a row of segments. -/
theorem SegsOwn.pushB {w W : World} {B : Nat} {D : List Sd} {s : Sd} {v lv v5 : Value} {lvs : List Value} (ho : SegsOwn w B v D lvs)
    (ov : w.ownsRow B 31 5 lv s.l.length (s.l.flatMap Fnd.cells)) (o5 : W.ownsRow B 26 3 v5 (D.length + 1) (sdsCells D lvs ++ sdCells s lv)) (g5 : w.grownBy W v.ownBlock) : SegsOwn W B v5 (D ++ [s]) (lvs ++ [lv]) := by
  have KG := Kept.ofGrown g5
  have far : ∀ (l : List Fnd) (u : Value), w.ownsRow B 31 5 u l.length (l.flatMap Fnd.cells) → W.ownsRow B 31 5 u l.length (l.flatMap Fnd.cells) := fun l u h => own_keptBy h KG (fun x hx hm => by
    simp only [Option.mem_toList] at hm
    exact (own_apart ho.1 h (by decide)).elim (fun e => by rw [hm] at e; cases e) (fun e => e (hm.trans hx.symm)))
  refine ⟨by rw [sdsCells_snoc ho.2.1, List.length_append]; exact o5, by simp [ho.2.1], fun i h h' => ?_⟩
  by_cases e : i < D.length
  · rw [List.getElem_append_left (by rw [ho.2.1]; exact e)]
    have e2 : (D ++ [s])[i] = D[i] := List.getElem_append_left e
    rw [e2]
    exact far _ _ (ho.2.2 i e (by rw [ho.2.1]; exact e))
  · have e2 : i = D.length := by simp at h; omega
    subst e2
    have e3 : (D ++ [s])[D.length] = s := by simp
    have e4 : (lvs ++ [lv])[D.length]'h' = lv := by
      rw [List.getElem_append_right (Nat.le_of_eq ho.2.1)]
      simp [ho.2.1]
    rw [e3, e4]
    exact far _ _ ov
end Go.Proofs.Ytkfglnhapcceaaa
