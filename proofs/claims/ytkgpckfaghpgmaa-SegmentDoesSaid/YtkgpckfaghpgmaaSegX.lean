import Derived.Test.YtkgpckfaghpgmaaSegU
/-
  Layer 5: records let go by the document's segment.
-/
set_option linter.unusedVariables false
set_option linter.unusedSimpArgs false
namespace Go.Proofs.Ytkgpckfaghpgmaa
open Go.RowKit
attribute [local go_sem] ByteArray.extract_mk ByteArray.mk_append_mk

theorem any_take5 (ks : List Int) (x : Int) {j : Nat} (hj : j < ks.length) : decide (x ∈ ks.take (j + 1)) = (decide (x ∈ ks.take j) || decide (ks[j] = x)) := by
  rw [List.take_succ_eq_append_getElem hj]
  rw [Bool.eq_iff_iff]
  simp only [decide_eq_true_iff, Bool.or_eq_true, List.mem_append, List.mem_singleton]
  exact ⟨fun h => h.elim .inl fun e => .inr e.symm, fun h => h.elim .inl fun e => .inr e.symm⟩

set_option maxHeartbeats 4000000 in
set_option maxRecDepth 100000 in
theorem rkeep5 (p : Nat) (bs : List Nat) (base next : Int) (L : List Fnd) (v : Value) (ks : List Int) (w : World) (h : RSegOwn w p bs base next L) (hv : NumsIn w v ks) (hkl : ks.length ≤ 100000) (hLl : L.length ≤ 100000) :
    RSegCall 26 #[.pointer (some ⟨p, 0, none⟩), v] w p bs (.int .i64 ((L.length : Int) - (keeps ks L).length)) base next (keeps ks L) := by
  refine RSegCall.intro fun R hR => ?_
  obtain ⟨i0, hi0, hz0, hz1, hz2⟩ := info_parts fndInfo
  have hm := h.mem
  have HS := Lib.hid h.at
  have HO := Lib.hid h
  have V6 := Lib.hid hv
  have o0 : (w.alloc (.cells #[] 26)).ownsRow w.heap.size 26 5 (.slice (some ⟨w.heap.size, 0, none⟩) 0 0) 0 [] := World.ownsRow_made w #[] 0 (Nat.le_refl _) (by omega) rfl
  obtain ⟨a, cap, rfl⟩ := hv.form
  clear h hv
  go_enter Try.func26, Try.ntmps26
  go_wp2_with fail
  go_loopw [5, 6, 7, 8] (fun (v5 v6 v7 v8 : Value) (W : World) => ∃ (j : Nat), v6 = .int .i64 (j : Int) ∧ j ≤ L.length ∧ W.ownsRow w.heap.size 26 5 v5 (keeps ks (L.take j)).length ((keeps ks (L.take j)).flatMap Fnd.cells) ∧ Below w.heap.size w W) (fun (v5 v6 v7 v8 : Value) (W : World) => (L.length - intOf v6).toNat)
  case atStart => exact ⟨0, rfl, by omega, o0, below_all (Below.refl _ _)⟩
  case round =>
    obtain ⟨j, rfl, hj, hown, hny⟩ := hrel
    obtain ⟨lv, hp, hpl⟩ := HS.out.below hny
    obtain ⟨la, lc, rfl⟩ := hpl.form
    obtain ⟨k0, c0, c1, c2⟩ := hp.c3
    by_cases hjl : j < L.length
    · rcases hpl with ⟨h, _⟩ | ⟨b, off, cap2, hsl, hcap2, hne, hlt, hc⟩
      · rw [h] at hjl; simp at hjl
      simp only [Value.slice.injEq, true_and] at hsl
      obtain ⟨rfl, rfl⟩ := hsl
      obtain ⟨x0, x1, x2, x3, x4⟩ := hc j hjl
      have hft := Lib.hid (keeps_take ks L hjl)
      have hfl : (keeps ks (L.take j)).length ≤ 100000 := by have := keeps_len ks (L.take j); rw [List.length_take] at this; omega
      have hj1 : (0 : Int) ≤ (j : Int) := by omega
      have hj2 : (j : Int) < (L.length : Int) := by omega
      have HP := Lib.hid hp
      clear hc hne hp
      generalize L[j] = f at *
      generalize keeps ks (L.take j) = fs at *
      go_wp2_with fail
      clear c0 c1 c2 k0
      go_loopw [7, 8] (fun (v7 v8 : Value) (W : World) => ∃ (h : Nat), v8 = .int .i64 (h : Int) ∧ h ≤ ks.length ∧ v7 = .bool (decide (f.off ∈ ks.take h)) ∧ Below wr.heap.size wr W) (fun (v7 v8 : Value) (W : World) => (ks.length - intOf v8).toNat)
      case atStart => exact ⟨0, rfl, by omega, by simp, Below.refl _ _⟩
      case round =>
        obtain ⟨h, rfl, hh, rfl, hnz⟩ := hrel
        have hnw := below_any (Nat.le_refl _) hny hnz
        obtain ⟨k0, c0, c1, c2⟩ := (HP.out.below hnz).c3
        have y0 := (hnz.cell (p := ⟨b, off + j * 5, none⟩) hlt).trans x0
        have hlt2 : b < wr.heap.size := Nat.lt_of_lt_of_le hlt hnz.size
        by_cases hhk : h < ks.length
        · rcases V6.out.below hnw with ⟨e, _⟩ | ⟨b', off', cap3, hsl, _, _, hlt3, hc⟩
          · rw [e] at hhk; simp at hhk
          simp only [Value.slice.injEq, true_and] at hsl
          obtain ⟨rfl, rfl⟩ := hsl
          have hci := hc h hhk
          have hat := Lib.hid (any_take5 ks f.off hhk)
          have h1 : (0 : Int) ≤ (h : Int) := by omega
          have h2 : (h : Int) < (ks.length : Int) := by omega
          clear hc
          generalize ks[h] = x at *
          by_cases hin : f.off ∈ ks.take h
          · rw [decide_eq_true hin] at hat ⊢
            go_wp2_with fail
            go_quiet (fail)
            go_wp2_with fail
            go_roundw
            case rel => exact ⟨h + 1, by go_num, by omega, veq_bool (by rw [hat.out]; rfl), belowN hnz _⟩
            case measure => simp [intOf]; omega
          · rw [decide_eq_false hin] at hat ⊢
            go_wp2_with fail
            go_quiet (fail)
            go_wp2_with fail
            go_roundw
            case rel => exact ⟨h + 1, by go_num, by omega, veq_bool (by rw [hat.out]; by_cases e : x = f.off <;> simp [e]), belowN hnz _⟩
            case measure => simp [intOf]; omega
        · have hhe : h = ks.length := by omega
          have hown2 := own_keptBy hown (Kept.ofBelow hnz []) (away_nil _)
          obtain ⟨y0', y1, y2, y3, y4⟩ := (show FndAt _ b (off + j * 5) f from ⟨x0, x1, x2, x3, x4⟩).keep fun i => hnz.cell (p := ⟨b, i, none⟩) hlt
          have hdec : decide (f.off ∈ ks.take h) = decide (f.off ∈ ks) := by rw [hhe, List.take_length]
          rw [hdec]
          clear hdec
          subst hhe
          by_cases hin : f.off ∈ ks
          · rw [decide_eq_true hin]
            have hsz := hnw.size
            have o3 := World.ownsRow.alloc hown2 (.cells f.cells.toArray 26)
            go_wp2_with (at_builtin; refine wpList_append_own _ rfl _ _ 22 rfl w.heap.size 26 i0 _ 5 56 Try.underlying22 hi0 hz0 hz1 hz2 rfl (by decide) _ _ _ rfl o3 ⟨wr.heap.size, 0, none⟩ 1 1 f.cells rfl rfl (news_fnd f rfl) (by simp [Value.oneCell', Fnd.cells, Rec.cells]) (by unfold maxLen; omega) (by omega) (by simp; omega) ?_)
            intro v7 w7 o7 g7 _
            have G7 := Kept.below (below_all (o := .cells f.cells.toArray 26) hnw) (Kept.ofGrown g7) (by intro x hx; simp only [Option.mem_toList] at hx; exact (o3.lt x hx).1) (by simp; omega)
            clear g7 o3 hown hown2
            go_wp2_with fail
            go_roundw
            case rel => exact ⟨j + 1, by go_num, by omega, by rw [hft.out, if_pos hin, List.flatMap_append, List.length_append]; simpa using o7, G7⟩
            case measure => simp [intOf]; omega
          · rw [decide_eq_false hin]
            go_wp2_with fail
            go_roundw
            case rel => exact ⟨j + 1, by go_num, by omega, by rw [hft.out, if_neg hin, List.append_nil]; exact hown2, hnw⟩
            case measure => simp [intOf]; omega
    · obtain rfl : j = L.length := by omega
      rw [List.take_length] at hown
      have hkk := keeps_len ks L
      have e1 : IntKind.i64.wrap ((L.length : Int) - ((keeps ks L).length : Int)) = (L.length : Int) - ((keeps ks L).length : Int) := by rw [IntKind.wrap_i64]; omega
      obtain ⟨va, vc, rfl⟩ := own_form hown
      have cf := fun i => Blk.frozen hp i
      have hg4 : wr.grownBy (wr.setCell ⟨p, 2, none⟩ (.slice va (keeps ks L).length vc)) (some p) := grown_set (grown_refl _ _) _ _
      have S9 : RSegOwn (wr.setCell ⟨p, 2, none⟩ (.slice va (keeps ks L).length vc)) p (p :: (Value.slice va (keeps ks L).length vc).ownBlock.toList) base next (keeps ks L) :=
        ⟨_, hp.set 2 _, (own_base hown (Nat.zero_le _)).kept hg4 (.inr (Ne.symm (own_ne hown hp (by decide)))), rfl⟩
      have K9 : Kept bs w (wr.setCell ⟨p, 2, none⟩ (.slice va (keeps ks L).length vc)) := (Kept.ofBelow hny bs).trans (Kept.ofGrown hg4) (fun x hx => by simp at hx; subst hx; exact .inl hm)
      have N9 : ∀ x ∈ p :: (Value.slice va (keeps ks L).length vc).ownBlock.toList, x ∈ bs ∨ w.heap.size ≤ x := fun x hx => by
        simp only [List.mem_cons, Option.mem_toList] at hx
        rcases hx with rfl | hx
        · exact .inl hm
        · exact .inr (hown.lt x hx).1
      clear hp hpl hown
      go_wp2_with fail
      exact hR.out _ _ S9 K9 N9
end Go.Proofs.Ytkgpckfaghpgmaa
