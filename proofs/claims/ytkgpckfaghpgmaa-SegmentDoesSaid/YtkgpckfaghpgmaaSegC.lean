import Derived.Test.YtkgpckfaghpgmaaSegB
/-
  Layer 5: records appended to a segment.
-/
set_option linter.unusedVariables false
set_option linter.unusedSimpArgs false
namespace Go.Proofs.Ytkgpckfaghpgmaa
open Go.RowKit
attribute [local go_sem] ByteArray.extract_mk ByteArray.mk_append_mk

/-- Records with offsets one behind the other. -/
def fnds : Int → List Rec → List Fnd
  | _, [] => []
  | n, r :: l => ⟨n, r⟩ :: fnds (n + 1) l
theorem fnds_len : ∀ (l : List Rec) (n : Int), (fnds n l).length = l.length
  | [], _ => rfl
  | r :: l, n => by simp [fnds, fnds_len l]
theorem fnds_snoc : ∀ (l : List Rec) (n : Int) (r : Rec), fnds n (l ++ [r]) = fnds n l ++ [⟨n + l.length, r⟩]
  | [], n, r => by simp [fnds]
  | s :: l, n, r => by
    simp only [List.cons_append, fnds, fnds_snoc l, List.length_cons]
    congr 4
    omega
theorem fnds_take (l : List Rec) (n : Int) {k : Nat} (hk : k < l.length) : fnds n (l.take (k + 1)) = fnds n (l.take k) ++ [⟨n + k, l[k]⟩] := by
  rw [List.take_succ_eq_append_getElem hk, fnds_snoc, List.length_take, Nat.min_eq_left (by omega)]

theorem SegAt.mem {w : World} {p : Nat} {bs : List Nat} {base next : Int} {l : List Fnd} (h : SegAt w p bs base next l) : p ∈ bs := by
  obtain ⟨lv, iv, _, _, _, rfl⟩ := h
  simp
theorem SegAt.setNext {w : World} {p : Nat} {bs : List Nat} {base next : Int} {l : List Fnd} (h : SegAt w p bs base next l) (n : Int) :
    SegAt (w.setCell ⟨p, 1, none⟩ (.int .i64 n)) p bs base n l ∧ Kept bs w (w.setCell ⟨p, 1, none⟩ (.int .i64 n)) := by
  have hm := h.mem
  obtain ⟨lv, iv, h1, h2, h3, hb⟩ := h
  have hg : w.grownBy (w.setCell ⟨p, 1, none⟩ (.int .i64 n)) (some p) := grown_set (grown_refl _ _) _ _
  refine ⟨⟨lv, iv, h1.set 1 _, h2.kept hg (.inr (Ne.symm (own_ne h2 h1 (by decide)))), h3.kept hg (.inr (Ne.symm (own_ne h3 h1 (by decide)))), hb⟩, (Kept.ofGrown hg).mono (by simpa using hm)⟩
theorem SegAt.c4 {w : World} {p : Nat} {bs : List Nat} {base next : Int} {l : List Fnd} (h : SegAt w p bs base next l) : p < w.heap.size ∧ w.cell? ⟨p, 0, none⟩ = some (.int .i64 base) ∧ w.cell? ⟨p, 1, none⟩ = some (.int .i64 next) ∧
    (∃ la lc, w.cell? ⟨p, 2, none⟩ = some (.slice la l.length lc)) ∧ (∃ ia ic, w.cell? ⟨p, 3, none⟩ = some (.slice ia (idx l).length ic)) ∧ ∀ i, w.frozen? ⟨p, i, none⟩ = false := by
  obtain ⟨lv, iv, h1, h2, h3, hb⟩ := h
  obtain ⟨k, c0, c1, c2, c3⟩ := h1.c4
  obtain ⟨la, lc, rfl⟩ := own_form h2
  obtain ⟨ia, ic, rfl⟩ := own_form h3
  exact ⟨k, c0, c1, ⟨la, lc, c2⟩, ⟨ia, ic, c3⟩, fun i => Blk.frozen h1 i⟩

theorem SegAt.drew {w : World} {p : Nat} {bs : List Nat} {base next : Int} {l : List Fnd} (h : SegAt w p bs base next l) : SegAt w.drew p bs base next l := h
/-- What an append comes to. -/
def aerr (l : List Fnd) (next : Int) (rs : List Rec) : Nat := if rchecks rs ≠ 0 then rchecks rs else if 64 < l.length + rs.length ∨ 1099511627776 < next + rs.length then 50 else 0

set_option maxHeartbeats 4000000 in
set_option maxRecDepth 100000 in
theorem append5_no (p : Nat) (bs : List Nat) (base next : Int) (l : List Fnd) (v : Value) (rs : List Rec) (w : World) (h : SegAt w p bs base next l) (hl : RecsIn w v rs) (hbd : RecsBd rs) (hrl : rs.length ≤ 100000) (hll : l.length ≤ 100000) (hn : 0 ≤ next ∧ next ≤ 1099511627776)
    (he : aerr l next rs ≠ 0) : RetB Try.prog 19 #[.pointer (some ⟨p, 0, none⟩), v] w (.tuple #[.int .i64 0, .int .i64 (aerr l next rs)]) := by
  refine RetB.intro fun R hR => ?_
  obtain ⟨a, cap, rfl⟩ := hl.form
  have hcc := checked5 _ rs w hl hbd
  obtain ⟨o, ho⟩ : ∃ o, rchecks rs = o := ⟨_, rfl⟩
  unfold aerr at he hR
  rw [ho] at hcc he hR
  have h2 := Lib.hid h
  have e1 : IntKind.i64.wrap ((l.length : Int) + (rs.length : Int)) = (l.length : Int) + (rs.length : Int) := by rw [IntKind.wrap_i64]; omega
  have e3 : IntKind.i64.wrap (next + (rs.length : Int)) = next + (rs.length : Int) := by rw [IntKind.wrap_i64]; omega
  by_cases h0 : o = 0
  · subst h0
    rw [if_neg (by simp)] at he hR
    have hcc : RetB Try.prog 30 _ w (.int .i64 0) := hcc
    by_cases h1 : 64 < l.length + rs.length
    · rw [if_pos (Or.inl h1)] at hR
      have e2 : ((64 : Int) < (l.length : Int) + (rs.length : Int)) = True := eq_true (by omega)
      clear he
      go_enter Try.func19, Try.ntmps19
      go_wp2_with fail
      refine hcc.use ?_
      intro w1 b1
      obtain ⟨k, c0, c1, ⟨la, lc, c2⟩, ⟨ia, ic, c3⟩, cf⟩ := (h2.out.below b1).c4
      go_wp2_with fail
      exact finB hR b1 rfl
    · by_cases h3 : 1099511627776 < next + (rs.length : Int)
      · rw [if_pos (Or.inr h3)] at hR
        have e2 : ((64 : Int) < (l.length : Int) + (rs.length : Int)) = False := eq_false (by omega)
        have e4 : ((1099511627776 : Int) < next + (rs.length : Int)) = True := eq_true (by omega)
        clear he
        go_enter Try.func19, Try.ntmps19
        go_wp2_with fail
        refine hcc.use ?_
        intro w1 b1
        obtain ⟨k, c0, c1, ⟨la, lc, c2⟩, ⟨ia, ic, c3⟩, cf⟩ := (h2.out.below b1).c4
        go_wp2_with fail
        exact finB hR b1 rfl
      · exact absurd (if_neg (by rintro (h | h) <;> contradiction)) he
  · rw [if_pos h0] at hR
    have e2 : ((o : Int) != 0) = true := by simp; omega
    clear he
    go_enter Try.func19, Try.ntmps19
    go_wp2_with fail
    refine hcc.use ?_
    intro w1 b1
    go_wp2_with fail
    exact finB hR b1 rfl

set_option maxHeartbeats 4000000 in
set_option maxRecDepth 100000 in
theorem append5_ok (p : Nat) (bs : List Nat) (base next : Int) (l : List Fnd) (v : Value) (rs : List Rec) (w : World) (h : SegAt w p bs base next l) (hl : RecsIn w v rs) (ha : Away bs v) (hbd : RecsBd rs) (hn : 0 ≤ next)
    (he : aerr l next rs = 0) : SegCall 19 #[.pointer (some ⟨p, 0, none⟩), v] w p bs (.tuple #[.int .i64 next, .int .i64 0]) base (next + rs.length) (l ++ fnds next rs) := by
  refine SegCall.intro fun R hR => ?_
  have hcc := checked5 _ rs w hl hbd
  unfold aerr at he
  have h0 : rchecks rs = 0 := by
    by_cases h : rchecks rs = 0
    · exact h
    · rw [if_pos h] at he; exact he
  rw [if_neg (by simp [h0])] at he
  have h1 : ¬ (64 < l.length + rs.length ∨ 1099511627776 < next + (rs.length : Int)) := by
    intro h; rw [if_pos h] at he; simp at he
  rw [h0] at hcc
  have hcc : RetB Try.prog 30 _ w (.int .i64 0) := hcc
  have h2 := Lib.hid h
  have e1 : IntKind.i64.wrap ((l.length : Int) + (rs.length : Int)) = (l.length : Int) + (rs.length : Int) := by rw [IntKind.wrap_i64]; omega
  have e3 : IntKind.i64.wrap (next + (rs.length : Int)) = next + (rs.length : Int) := by rw [IntKind.wrap_i64]; omega
  have e2 : ((64 : Int) < (l.length : Int) + (rs.length : Int)) = False := eq_false (by omega)
  have e4 : ((1099511627776 : Int) < next + (rs.length : Int)) = False := eq_false (by omega)
  have hlr : l.length + rs.length ≤ 64 := by omega
  have hnr : next + (rs.length : Int) ≤ 1099511627776 := by omega
  have HL := Lib.hid hl
  have HA := Lib.hid ha
  have HR2 := Lib.hid hR.out
  obtain ⟨a, cap, rfl⟩ := hl.form
  clear he h1 h0 hl ha
  go_enter Try.func19, Try.ntmps19
  go_wp2_with fail
  refine hcc.use ?_
  intro w1 b1
  have S1 := h2.out.below b1
  obtain ⟨k0, c0, c1, ⟨la, lc, c2⟩, ⟨ia, ic, c3⟩, cf⟩ := S1.c4
  go_wp2_with fail
  clear c0 c1 c2 c3 cf k0 e1 e2 e3 e4 hcc
  go_loopw [9, 40] (fun (v9 v40 : Value) (W : World) => ∃ (k : Nat) (cs : List Nat), k ≤ rs.length ∧ v40 = .int .i64 (k : Int) ∧ SegAt W p cs base (next + k) (l ++ fnds next (rs.take k)) ∧ Kept bs w W ∧ ∀ x ∈ cs, x ∈ bs ∨ w.heap.size ≤ x) (fun (v9 v40 : Value) (W : World) => (rs.length - intOf v40).toNat)
  case atStart => exact ⟨0, bs, by omega, rfl, by simpa [fnds] using S1, Kept.ofBelow b1 _, fun x hx => .inl hx⟩
  case round =>
    obtain ⟨k, cs, hk, rfl, hS, hK, hcs⟩ := hrel
    by_cases hkl : k < rs.length
    · have hr := HL.out.kept hK HA.out
      rcases hr with ⟨h, _⟩ | ⟨b, off, cap', hsl, hne, hlt, hc⟩
      · rw [h] at hkl; simp at hkl
      simp only [Value.slice.injEq, true_and] at hsl
      obtain ⟨rfl, rfl⟩ := hsl
      obtain ⟨x0, x1, x2, x3⟩ := hc k hkl
      have hft := Lib.hid (fnds_take rs next hkl)
      have hfl : (l ++ fnds next (rs.take k)).length ≤ 64 := by rw [List.length_append, fnds_len, List.length_take]; omega
      generalize rs[k] = r at *
      generalize fnds next (rs.take k) = fs at *
      obtain ⟨k0, c0, c1, ⟨la2, lc2, c2⟩, ⟨ia2, ic2, c3⟩, cf⟩ := hS.c4
      have hS2 := hS.below (below_all (o := .cells #[.bool r.hk, .string (S r.key), .bool r.tb, .string (S r.val)] 24) (Below.refl _ _))
      have cP := put5 p cs base (next + k) _ ⟨next + k, r⟩ _ hS2.drew (by omega)
      have CP := Lib.hid cP
      clear hc hne cP
      have e5 : IntKind.i64.wrap (next + (k : Int) + 1) = next + (k : Int) + 1 := by rw [IntKind.wrap_i64]; omega
      have hK2 : Kept bs w (wr.alloc (.cells #[.bool r.hk, .string (S r.key), .bool r.tb, .string (S r.val)] 24)).drew := (hK.bel (below_all (Below.refl _ _))).bel (Below.refl _ _).drew
      go_wp2_with fail
      go_region_with (go_at_call 29; refine CP.out.use ?_; intro cs2 w2 S2 K2 N2; obtain ⟨kk0, cc0, cc1, ⟨la3, lc3, cc2⟩, ⟨ia3, ic3, cc3⟩, ccf⟩ := S2.c4)
      all_goals go_wp2_with fail
      all_goals go_roundw
      case rel =>
        have S3 := S2.setNext (next + k + 1)
        have hm : ∀ x ∈ cs2, x ∈ bs ∨ w.heap.size ≤ x := fun x hx => (N2 x hx).elim (hcs x) fun h => .inr (Nat.le_trans hK2.size h)
        refine ⟨k + 1, cs2, by omega, by go_num, ?_, (hK2.trans K2 hcs).trans S3.2 hm, hm⟩
        rw [hft.out, ← List.append_assoc, show next + ((k + 1 : Nat) : Int) = next + k + 1 by omega]
        exact S3.1
      case measure => simp [intOf]; omega
      case rel =>
        have S3 := S2.setNext (next + k + 1)
        have hm : ∀ x ∈ cs2, x ∈ bs ∨ w.heap.size ≤ x := fun x hx => (N2 x hx).elim (hcs x) fun h => .inr (Nat.le_trans hK2.size h)
        refine ⟨k + 1, cs2, by omega, by go_num, ?_, (hK2.trans K2 hcs).trans S3.2 hm, hm⟩
        rw [hft.out, ← List.append_assoc, show next + ((k + 1 : Nat) : Int) = next + k + 1 by omega]
        exact S3.1
      case measure => simp [intOf]; omega
    · obtain rfl : k = rs.length := by omega
      rw [List.take_length] at hS
      go_wp2_with fail
      exact HR2.out cs _ hS hK hcs
end Go.Proofs.Ytkgpckfaghpgmaa
