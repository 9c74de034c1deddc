import Derived.Test.YtkfglnhapcceaaaLogC
/-
  Layer 6: a row of pointers copied; segments let go.
-/
set_option linter.unusedVariables false
set_option linter.unusedSimpArgs false
namespace Go.Proofs.Ytkfglnhapcceaaa
open Go.RowKit
attribute [local go_sem] ByteArray.extract_mk ByteArray.mk_append_mk

/-- Pointers to segments, handed back in a row of the caller's own. -/
def PtrsCall (f : FuncId) (args : Array Value) (w : World) (l : List Nat) : Prop :=
  Calls Try.prog f args w fun x w' => ∃ v, x = .returned v ∧ w'.ownsRow w.heap.size 71 1 v l.length (l.map fun p => Value.pointer (some ⟨p, 0, none⟩)) ∧ Below w.heap.size w w'
theorem PtrsCall.intro {f : FuncId} {args : Array Value} {w : World} {l : List Nat}
    (h : ∀ R : Ending → World → Prop, Hid (∀ v w', w'.ownsRow w.heap.size 71 1 v l.length (l.map fun p => Value.pointer (some ⟨p, 0, none⟩)) → Below w.heap.size w w' → R (.returned v) w') → Calls Try.prog f args w R) : PtrsCall f args w l :=
  h _ fun v w' h1 h2 => ⟨v, rfl, h1, h2⟩
theorem PtrsCall.use {f : FuncId} {args : Array Value} {w : World} {l : List Nat} {R : Ending → World → Prop} (h : PtrsCall f args w l)
    (k : ∀ v w', w'.ownsRow w.heap.size 71 1 v l.length (l.map fun p => Value.pointer (some ⟨p, 0, none⟩)) → Below w.heap.size w w' → R (.returned v) w') : Calls Try.prog f args w R :=
  h.mono fun x w' ⟨v, he, h1, h2⟩ => by subst he; exact k v w' h1 h2
theorem pnews_at {w : World} {b o : Nat} {l : List Nat} (h : ∀ i, (h : i < l.length) → w.cell? ⟨b, o + i, none⟩ = some (.pointer (some ⟨l[i], 0, none⟩))) : ∀ j u, (l.map fun p => Value.pointer (some ⟨p, 0, none⟩))[j]? = some u → w.cell? ((⟨b, o, none⟩ : Addr).add j) = some u := fun j u hj => by
  rw [addr_add]
  have hlt : j < l.length := by have := (List.getElem?_eq_some_iff.1 hj).1; simpa using this
  rw [h j hlt]
  simpa [hlt] using hj

set_option maxHeartbeats 2000000 in
theorem clone6 (v : Value) (l : List Nat) (w : World) (hl : PtrsIn w v l) (hb : l.length ≤ 1000000) : PtrsCall 48 #[v] w l := by
  refine PtrsCall.intro fun R hR => ?_
  obtain ⟨i0, hi, hz0, hz1, hz2⟩ := info_parts ptrInfo
  have q22 : ∀ (w : World) (a : Option Addr) (n c n' c' : Nat), (binOp .eql 68 (.slice a n c) (.slice none n' c')).run Try.prog w = .ok (.bool a.isNone) w := fun w a n c n' c' => Lib.run_eql_slice_nil w _ _ a n c n' c' Try.underlying68
  obtain ⟨a, cap, rfl⟩ := hl.form
  cases a with
  | none =>
    have h0 : l = [] := by
      rcases hl with ⟨h, _⟩ | ⟨b, off, cap', h, _⟩
      · exact h
      · simp at h
    subst h0
    go_enter Try.func48, Try.ntmps48
    go_wp2_with fail
    exact hR.out _ _ (World.ownsRow_nil _ _ _ _) (Below.refl _ _)
  | some ad =>
    have hnew : ∀ o, ∀ j u, (l.map fun p => Value.pointer (some ⟨p, 0, none⟩))[j]? = some u → (w.alloc o).cell? (ad.add j) = some u := fun o => by
      rcases hl with ⟨rfl, _⟩ | ⟨b, off, cap', h, _, _, hlt, hc⟩
      · intro j u hj; simp at hj
      · simp only [Value.slice.injEq, Option.some.injEq] at h
        obtain ⟨rfl, _, rfl⟩ := h
        exact pnews_at fun i h => ((below_all (o := o) (Below.refl _ _)).cell (p := ⟨b, off + i, none⟩) hlt).trans (hc i h)
    have o0 : (w.alloc (.cells #[] 71)).ownsRow w.heap.size 71 1 (.slice (some ⟨w.heap.size, 0, none⟩) 0 0) 0 [] := World.ownsRow_made w #[] 0 (Nat.le_refl _) (by omega) rfl
    clear hl
    go_enter Try.func48, Try.ntmps48
    go_wp2_with (at_builtin; refine wpList_append_own _ rfl _ _ 68 rfl w.heap.size 71 i0 _ 1 8 Try.underlying68 hi hz0 hz1 hz2 rfl (by decide) _ _ _ rfl o0 ad l.length cap (l.map fun p => Value.pointer (some ⟨p, 0, none⟩)) rfl (by simp) (hnew _) (by simp [Value.oneCell']) (by unfold maxLen; omega) (by omega) (by simp) ?_)
    intro v' w1 o1 g1 z1
    go_wp2_with fail
    exact hR.out _ _ (by simpa using o1) (below_own (below_all (Below.refl _ _)) (Nat.le_refl _) (by simp) g1)

/-- How many segments are let go. -/
def nret (before : Int) (D : List Sd) : Nat := (D.dropLast.takeWhile fun s => decide (s.next ≤ before)).length
theorem nret_le (before : Int) (D : List Sd) : nret before D ≤ D.length - 1 := by
  unfold nret
  have := (List.takeWhile_sublist (p := fun s : Sd => decide (s.next ≤ before)) (l := D.dropLast)).length_le
  rwa [List.length_dropLast] at this
theorem tw_eq {before : Int} : ∀ {E : List Sd} {k : Nat}, k ≤ E.length → (∀ i, (h : i < k) → ∀ h' : i < E.length, E[i].next ≤ before) → (∀ h : k < E.length, ¬ E[k].next ≤ before) → (E.takeWhile fun s => decide (s.next ≤ before)).length = k
  | [], k, hk, _, _ => by simp at hk; subst hk; rfl
  | s :: E, 0, _, _, h2 => by
    have := h2 (by simp)
    simp only [List.getElem_cons_zero] at this
    simp [List.takeWhile_cons, this]
  | s :: E, k + 1, hk, h1, h2 => by
    have h0 := h1 0 (by omega) (by simp)
    simp only [List.getElem_cons_zero] at h0
    rw [List.takeWhile_cons, if_pos (by simpa using h0), List.length_cons, tw_eq (E := E) (k := k) (by simpa using hk) (fun i h h' => by have := h1 (i + 1) (by omega) (by simpa using h'); simpa using this) (fun h => by have := h2 (by simpa using h); simpa using this)]
theorem nret_eq {before : Int} {D : List Sd} {k : Nat} (hk : k ≤ D.length - 1) (h1 : ∀ i, (h : i < k) → ∀ h' : i < D.length, D[i].next ≤ before) (h2 : ∀ h : k < D.length - 1, ¬ (D[k]'(by omega)).next ≤ before) : nret before D = k := by
  have hlen : D.dropLast.length = D.length - 1 := List.length_dropLast ..
  refine tw_eq (by rw [hlen]; exact hk) (fun i h h' => ?_) (fun h => ?_)
  · rw [List.getElem_dropLast]; exact h1 i h _
  · rw [List.getElem_dropLast]; exact h2 (by omega)

/-- Another row of segments. -/
theorem LogAt.reset {w : World} {g : Nat} {bs : List Nat} {room : Int} {ss ss' : List Sg} {B : Nat} {v : Value} (h : LogAt w g bs room ss) (hs : ss'.Sublist ss) (o : w.ownsRow B 71 1 v ss'.length (ss'.map Sg.ptr))
    (hf : ∀ x, v.ownBlock = some x → x ∉ bs) : ∃ cs, LogAt (w.setCell ⟨g, 1, none⟩ v) g cs room ss' ∧ Kept bs w (w.setCell ⟨g, 1, none⟩ v) ∧ ∀ x ∈ cs, x ∈ bs ∨ v.ownBlock = some x := by
  have hm := h.mem
  obtain ⟨lv, h1, h2, h3, h4, rfl⟩ := h
  have hg : w.grownBy (w.setCell ⟨g, 1, none⟩ v) (some g) := grown_set (grown_refl _ _) _ _
  have k : Kept [g] w (w.setCell ⟨g, 1, none⟩ v) := Kept.ofGrown hg
  have hsg : ∀ x ∈ sgB ss', x ∈ sgB ss := fun x hx => by
    obtain ⟨s, h5, h6⟩ := List.mem_flatMap.1 hx
    exact List.mem_flatMap.2 ⟨s, hs.subset h5, h6⟩
  have h3' : SgsAt w ss' := ⟨fun s h => h3.1 s (hs.subset h), h3.2.sublist hs⟩
  refine ⟨g :: (v.ownBlock.toList ++ sgB ss'), ⟨v, h1.set 1 v, own_base (o.kept hg (.inr (Ne.symm (own_ne o h1 (by decide))))) (Nat.zero_le _), h3'.kept k (fun x hx => by simpa using (h4 x (hsg x hx)).1), fun x hx => ⟨(h4 x (hsg x hx)).1, fun e => hf x e (by simp only [List.mem_cons, List.mem_append]; exact .inr (.inr (hsg x hx)))⟩, rfl⟩, k.mono (by simp), fun x hx => ?_⟩
  simp only [List.mem_cons, List.mem_append, Option.mem_toList] at hx ⊢
  rcases hx with hx | hx | hx
  · exact .inl (.inl hx)
  · exact .inr hx
  · exact .inl (.inr (.inr (hsg x hx)))

set_option maxHeartbeats 4000000 in
set_option maxRecDepth 100000 in
theorem retain6 (g : Nat) (bs : List Nat) (room : Int) (ss : List Sg) (before : Int) (w : World) (h : LogAt w g bs room ss) (hne : ss ≠ []) (hl : ss.length ≤ 100000) :
    LCall 20 #[.pointer (some ⟨g, 0, none⟩), .int .i64 before] w g bs (.int .i64 (nret before (ss.map Sg.d) : Nat)) room ((ss.map Sg.d).drop (nret before (ss.map Sg.d))) := by
  refine LCall.intro fun R hR => ?_
  have hpos : 0 < ss.length := List.length_pos_iff.2 hne
  obtain ⟨b, off, cap, h1, h2, h3, h4⟩ := h.ptrs hne
  obtain ⟨kk, y0, y1⟩ := h1.c2
  have H := Lib.hid h
  have HC := Lib.hid h4
  have HB := Lib.hid h1
  have hdl : (ss.map Sg.d).length = ss.length := List.length_map ..
  have HDL := Lib.hid hdl
  have e1 : IntKind.i64.wrap ((ss.length : Int) - 1) = (ss.length : Int) - 1 := by rw [IntKind.wrap_i64]; omega
  have hfin : ∀ k, k < ss.length → nret before (ss.map Sg.d) = k → ∀ W v W1, Below w.heap.size w W → W1.ownsRow W.heap.size 71 1 v (ss.length - k) (((ss.drop k).map Sg.p).map fun p => Value.pointer (some ⟨p, 0, none⟩)) → Below W.heap.size W W1 →
      R (.returned (.int .i64 (k : Nat))) (W1.setCell ⟨g, 1, none⟩ v) := fun k hk he W v W1 hb o hb1 => by
    have hb2 := below_any (Nat.le_refl _) hb hb1
    rw [← List.length_drop, List.map_map] at o
    obtain ⟨cs, L, K, C⟩ := (H.out.below hb2).reset (List.drop_sublist k ss) o (fun x hx hm => by have := H.out.lt x hm; have := (o.lt x hx).1; have := hb.size; omega)
    have := hR.out cs _ _ L (by rw [he, List.map_drop]) ((Kept.ofBelow hb2 bs).trans K (fun x hx => .inl hx)) (fun x hx => (C x hx).imp id (fun e => by have := (o.lt x e).1; have := hb.size; omega))
    rw [he] at this
    exact this
  have HF := Lib.hid hfin
  clear h h4 hdl hR hfin h1
  go_enter Try.func20, Try.ntmps20
  go_wp2_with fail
  clear y0 y1
  go_loopw [5, 6, 7] (fun (v5 v6 v7 : Value) (W : World) => ∃ k : Nat, k ≤ ss.length - 1 ∧ v5 = .int .i64 (k : Int) ∧ Hid (∀ i, (h : i < k) → ∀ h' : i < (ss.map Sg.d).length, (ss.map Sg.d)[i].next ≤ before) ∧ Below w.heap.size w W) (fun (v5 v6 v7 : Value) (W : World) => (ss.length - intOf v5).toNat)
  case atStart => exact ⟨0, by omega, rfl, Lib.hid (fun i h => by omega), Below.refl _ _⟩
  case round =>
    obtain ⟨k, hk, rfl, hch, hnx⟩ := hrel
    have hkl : k < ss.length := by omega
    have x0 := (hnx.cell (p := ⟨b, off + k, none⟩) h3).trans (HC.out k hkl)
    obtain ⟨_, z0, z1⟩ := (HB.out.below hnx).c2
    have cf := fun i => Blk.frozen (HB.out.below hnx) i
    have j0 : (0 : Int) ≤ (k : Int) := by omega
    have j1 : (k : Int) < (ss.length : Int) := by omega
    have cS := Lib.hid (span5 ss[k].p ss[k].bs ss[k].d.base ss[k].d.next ss[k].d.l wr ((H.out.below hnx).sg (List.getElem_mem hkl)))
    have hgd : (ss.map Sg.d)[k]'(by rw [HDL.out]; exact hkl) = ss[k].d := List.getElem_map ..
    have HGD := Lib.hid hgd
    have i3 : (k : Int) ≤ (cap : Int) := by omega
    have i4 : (cap = k) = False := eq_false (by omega)
    have cC : ∀ W : World, Below w.heap.size w W → PtrsCall 48 #[.slice (some ⟨b, off + k, none⟩) (ss.length - k) (cap - k)] W ((ss.drop k).map Sg.p) := fun W hb => by
      refine clone6 _ _ W (.inr ⟨b, off + k, cap - k, by rw [List.length_map, List.length_drop], by rw [List.length_map, List.length_drop]; omega, by simp; omega, Nat.lt_of_lt_of_le h3 hb.size, fun i hi => ?_⟩) (by simp; omega)
      rw [List.length_map, List.length_drop] at hi
      have := (hb.cell (p := ⟨b, off + (k + i), none⟩) h3).trans (HC.out (k + i) (by omega))
      rw [Nat.add_assoc, this]
      simp
    have CC := Lib.hid cC
    clear hgd cC
    by_cases hlast : (k : Int) < (ss.length : Int) - 1
    · by_cases hbef : ss[k].d.next ≤ before
      · have hn : Hid (∀ i, (h : i < k + 1) → ∀ h' : i < (ss.map Sg.d).length, (ss.map Sg.d)[i].next ≤ before) := Lib.hid (fun i h h' => by
          by_cases e : i = k
          · subst e; rw [HGD.out]; exact hbef
          · exact hch.out i (by omega) h')
        have t1 : (before < ss[k].d.next) = False := eq_false (by omega)
        generalize ss[k] = s at *
        go_wp2_with fail
        refine cS.out.use ?_
        intro w1 b1
        go_wp2_with fail
        go_roundw
        case rel => exact ⟨k + 1, by omega, by go_num, hn, below_any (Nat.le_refl _) hnx b1⟩
        case measure => first | (simp [intOf]; done) | (simp [intOf]; omega)
      · have he : Hid (nret before (ss.map Sg.d) = k) := Lib.hid (nret_eq (by rw [HDL.out]; exact hk) hch.out (fun h => by rw [HGD.out]; exact hbef))
        have t1 : (before < ss[k].d.next) = True := eq_true (by omega)
        generalize ss[k] = s at *
        go_wp2_with fail
        refine cS.out.use ?_
        intro w1 b1
        have b1 := below_any (Nat.le_refl _) hnx b1
        have FF := Lib.hid (HF.out k hkl he.out w1)
        obtain ⟨_, z2, z3⟩ := (HB.out.below b1).c2
        clear hch
        go_wp2_with fail
        refine (CC.out _ b1).use ?_
        intro v w2 o2 b2
        obtain ⟨_, q0, q1⟩ := (HB.out.below (below_any (Nat.le_refl _) b1 b2)).c2
        have qf := fun i => Blk.frozen (HB.out.below (below_any (Nat.le_refl _) b1 b2)) i
        rw [List.length_map, List.length_drop] at o2
        have FG := Lib.hid (FF.out _ _ b1 o2 b2)
        obtain ⟨va, vc, rfl⟩ := own_form o2
        clear o2
        go_wp2_with fail
        exact FG.out
    · have he : Hid (nret before (ss.map Sg.d) = k) := Lib.hid (nret_eq (by rw [HDL.out]; exact hk) hch.out (fun h => by rw [HDL.out] at h; omega))
      have FF := Lib.hid (HF.out k hkl he.out wr)
      generalize ss[k] = s at *
      clear hch
      go_wp2_with fail
      refine (CC.out _ hnx).use ?_
      intro v w2 o2 b2
      obtain ⟨_, q0, q1⟩ := (HB.out.below (below_any (Nat.le_refl _) hnx b2)).c2
      have qf := fun i => Blk.frozen (HB.out.below (below_any (Nat.le_refl _) hnx b2)) i
      rw [List.length_map, List.length_drop] at o2
      have FG := Lib.hid (FF.out _ _ hnx o2 b2)
      obtain ⟨va, vc, rfl⟩ := own_form o2
      clear o2
      go_wp2_with fail
      exact FG.out
end Go.Proofs.Ytkfglnhapcceaaa
