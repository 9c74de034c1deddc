import Derived.Test.YtkgpckfaghpgmaaSegL
/-
  Layer 5: the document's index; is a segment in the state that the document says?
-/
set_option linter.unusedVariables false
set_option linter.unusedSimpArgs false
namespace Go.Proofs.Ytkgpckfaghpgmaa
open Go.RowKit
attribute [local go_sem] ByteArray.extract_mk ByteArray.mk_append_mk

set_option maxHeartbeats 4000000 in
set_option maxRecDepth 100000 in
theorem rindex5 (p : Nat) (base next : Int) (l : List Fnd) (w : World) (h : RSegAt w p base next l) (hl : l.length ≤ 100000) : NumsCall 39 #[.pointer (some ⟨p, 0, none⟩)] w (idx l) := by
  refine NumsCall.intro fun R hR => ?_
  obtain ⟨j0, hj, hy0, hy1, hy2⟩ := info_parts intInfo
  obtain ⟨lv, hp, hpl⟩ := h
  obtain ⟨la, lc, rfl⟩ := hpl.form
  have HP := Lib.hid hp
  have HL := Lib.hid hpl
  obtain ⟨sh1, sh2⟩ := idx_shape l
  have SH2 := Lib.hid sh2
  have SH1 := Lib.hid sh1
  clear hp hpl sh1 sh2
  generalize idx l = xs at *
  have hxl : xs.length ≤ 20000 := by rw [SH1.out]; omega
  have o0 : (w.alloc (.cells #[] 3)).ownsRow w.heap.size 3 1 (.slice (some ⟨w.heap.size, 0, none⟩) 0 0) 0 [] := World.ownsRow_made w #[] 0 (Nat.le_refl _) (by omega) rfl
  go_enter Try.func39, Try.ntmps39
  go_wp2_with fail
  go_loopw [3, 4] (fun (v3 v4 : Value) (W : World) => ∃ (j i : Nat), v4 = .int .i64 (i : Int) ∧ i = 8 * j ∧ j ≤ xs.length ∧ W.ownsRow w.heap.size 3 1 v3 j ((xs.take j).map (Value.int .i64)) ∧ Below w.heap.size w W) (fun (v3 v4 : Value) (W : World) => (l.length - intOf v4).toNat)
  case atStart => exact ⟨0, 0, rfl, rfl, by omega, by simpa using o0, below_all (Below.refl _ _)⟩
  case round =>
    obtain ⟨j, i, rfl, hij, hjx, hown, hnx⟩ := hrel
    obtain ⟨kk, d0, d1, d2⟩ := (HP.out.below hnx).c3
    by_cases hil : i < l.length
    · rcases HL.out.below hnx with ⟨h, _⟩ | ⟨b, off, cap, hsl, _, _, hlt, hc⟩
      · rw [h] at hil; simp at hil
      simp only [Value.slice.injEq, true_and] at hsl
      obtain ⟨rfl, rfl⟩ := hsl
      have hjl : j < xs.length := by rw [SH1.out]; omega
      have hx := SH2.out j hjl (by omega)
      obtain ⟨x0, x1, x2, x3, x4⟩ := hc i hil
      have hof : (l[i]).off = xs[j] := by subst hij; exact hx.symm
      rw [hof] at x0
      have hts : Hid (xs.take (j + 1) = xs.take j ++ [xs[j]]) := Lib.hid (List.take_succ_eq_append_getElem hjl)
      have i1 : (0 : Int) ≤ (i : Int) := by omega
      have i2 : (i : Int) < (l.length : Int) := by omega
      have e1 : IntKind.i64.wrap ((i : Int) + 8) = (i : Int) + 8 := by rw [IntKind.wrap_i64]; omega
      clear hx hof hc x1 x2 x3 x4
      have o3 := World.ownsRow.alloc hown (.cells #[.int .i64 xs[j]] 3)
      have hsz := hnx.size
      have HIJ := Lib.hid hij
      generalize xs[j] = x at *
      clear hij
      go_wp2_with (at_builtin; refine wpList_append_own _ rfl _ _ 48 rfl w.heap.size 3 j0 _ 1 8 Try.underlying48 hj hy0 hy1 hy2 rfl (by decide) _ _ _ rfl o3 ⟨wr.heap.size, 0, none⟩ 1 1 [.int .i64 x] rfl rfl (news_int x rfl) (by simp [Value.oneCell']) (by unfold maxLen; omega) (by omega) (by simp; omega) ?_)
      intro v7 w7 o7 g7 _
      have G7 := Kept.below (below_all (o := .cells #[.int .i64 x] 3) hnx) (Kept.ofGrown g7) (by intro x hx; simp only [Option.mem_toList] at hx; exact (o3.lt x hx).1) (by simp; omega)
      clear g7 o3 hown
      go_wp2_with fail
      go_roundw
      case rel => exact ⟨j + 1, i + 8, by go_num, by have := HIJ.out; omega, by omega, by rw [hts.out, List.map_append, List.map_take]; exact o7, G7⟩
      case measure => simp [intOf]; omega
    · have hjl : j = xs.length := by have := SH1.out; omega
      have hown : wr.ownsRow w.heap.size 3 1 u3 xs.length (xs.map (Value.int .i64)) := by
        have h := hown
        rw [hjl, List.take_length] at h
        exact h
      clear hij hjl
      go_wp2_with fail
      exact hR.out _ _ hown hnx

set_option maxHeartbeats 8000000 in
set_option maxRecDepth 100000 in
theorem same5 (p p' : Nat) (bs : List Nat) (base next : Int) (l : List Fnd) (w : World) (h : SegAt w p bs base next l) (h' : RSegAt w p' base next l) (hl : l.length ≤ 64) (hok : ∀ f ∈ l, f.r.ok = 0) :
    RetB Try.prog 18 #[.pointer (some ⟨p, 0, none⟩), .pointer (some ⟨p', 0, none⟩)] w (.bool true) := by
  refine RetB.intro fun R hR => ?_
  have HS := Lib.hid h
  have HR := Lib.hid h'
  have hbd : ∀ f ∈ l, RecBd f.r := fun f hf => by
    obtain ⟨_, _, _, h1, h2⟩ := rcheck_ok (hok f hf)
    exact ⟨by unfold maxLen; omega, by unfold maxLen; omega⟩
  have cSp := Lib.hid (span5 p bs base next l w h)
  have cL := Lib.hid (fun w hS => len5 p bs base next l w hS)
  have cB := Lib.hid (fun w hS => bytes5 p bs base next l w hS (by omega) hbd)
  have cRB := Lib.hid (fun w hS => rbytes5 p' base next l w hS (by omega) hok)
  have cI := Lib.hid (fun w hS => index5 p bs base next l w hS (by omega))
  have cRI := Lib.hid (fun w hS => rindex5 p' base next l w hS (by omega))
  have cA := Lib.hid (fun w hS => all5 p bs base next l w hS (by omega))
  have cN := Lib.hid (fun v1 v2 w h1 h2 => (nums5 v1 v2 (idx l) (idx l) w h1 h2 (by have := idx_len l; omega) (by have := idx_len l; omega)).cast (v' := .bool true) (by simp))
  have cF := Lib.hid (fun v1 v2 w h1 h2 => (found5 v1 v2 l l w h1 h2 (by omega) (by omega)).cast (v' := .bool true) (by simp))
  obtain ⟨lv, hp, hpl⟩ := h'
  obtain ⟨la, lc, rfl⟩ := hpl.form
  have HP := Lib.hid hp
  have HLv := Lib.hid hpl
  clear h hp hpl
  go_enter Try.func18, Try.ntmps18
  go_wp2_with fail
  refine cSp.out.use ?_
  intro w2 b2
  have S2 := HS.out.below b2
  have R2 := HR.out.below b2
  have B2 := HP.out.below b2
  have L2 := HLv.out.below b2
  have P0 : Below w2.heap.size w2 w2.drew := (Below.refl _ _).drew
  obtain ⟨kk0, d0, d1, d2⟩ := B2.c3
  clear HS HR cSp HP HLv
  go_wp2_with fail
  go_region_held3 (fun w' => w'.cell? ⟨p', 0, none⟩ = some (.int .i64 base) ∧ w'.cell? ⟨p', 1, none⟩ = some (.int .i64 next) ∧ w'.cell? ⟨p', 2, none⟩ = some (.slice la l.length lc)) (go_keep) (first | (go_at_call 21; refine (cL.out _ (S2.below (by assumption))).use ?_) | (go_at_call 33; refine (cB.out _ (S2.below (by assumption))).use ?_; intro W hb; have P := below_any (Nat.le_refl _) (by assumption) hb; obtain ⟨_, xx0, xx1, xx2⟩ := (B2.below P).c3) | (go_at_call 38; refine (cRB.out _ (R2.below (by assumption))).use ?_; intro W hb; have P := below_any (Nat.le_refl _) (by assumption) hb; obtain ⟨_, xx0, xx1, xx2⟩ := (B2.below P).c3) | (go_at_call 20; refine (cI.out _ (S2.below (by assumption))).use ?_; intro v1 W O1 hb; have P := below_any (Nat.le_refl _) (by assumption) hb; obtain ⟨_, xx0, xx1, xx2⟩ := (B2.below P).c3; have I1 := nums_own O1; obtain ⟨ia1, ic1, rfl⟩ := own_form O1) | (go_at_call 39; refine (cRI.out _ (R2.below (by assumption))).use ?_; intro v2 W O2 hb; have P := below_any (Nat.le_refl _) (by assumption) hb; obtain ⟨_, xx0, xx1, xx2⟩ := (B2.below P).c3; have I2 := nums_own O2; have I3 := NumsIn.below (by assumption) hb; obtain ⟨ia2, ic2, rfl⟩ := own_form O2) | (go_at_call 34; refine (cN.out _ _ _ (by assumption) (by assumption)).use ?_; intro W hb; have P := below_any (Nat.le_refl _) (by assumption) hb; obtain ⟨_, xx0, xx1, xx2⟩ := (B2.below P).c3) | (go_at_call 17; refine (cA.out _ (S2.below (by assumption))).use ?_; intro v3 W O3 hb; have P := below_any (Nat.le_refl _) (by assumption) hb; obtain ⟨_, xx0, xx1, xx2⟩ := (B2.below P).c3; have J3 := fnds_own O3; obtain ⟨fa3, fc3, rfl⟩ := own_form O3) | (go_at_call 11; refine (cF.out _ _ _ (by assumption) (L2.below (by assumption))).use ?_; intro W hb; have P := below_any (Nat.le_refl _) (by assumption) hb; obtain ⟨_, xx0, xx1, xx2⟩ := (B2.below P).c3))
  all_goals go_wp2_with fail
  all_goals exact finB hR (below_any (Nat.le_refl _) b2 (by assumption)) rfl
end Go.Proofs.Ytkgpckfaghpgmaa
