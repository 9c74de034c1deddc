import Derived.Test.YtkgpckfaghpgmaaSegM
/-
  Layer 5: the document's segment turned: records appended.
-/
set_option linter.unusedVariables false
set_option linter.unusedSimpArgs false
namespace Go.Proofs.Ytkgpckfaghpgmaa
open Go.RowKit
attribute [local go_sem] ByteArray.extract_mk ByteArray.mk_append_mk

/-- The document's segment, its row its own: its blocks are bs. -/
def RSegOwn (w : World) (p : Nat) (bs : List Nat) (base next : Int) (l : List Fnd) : Prop :=
  ∃ lv, Blk w p #[.int .i64 base, .int .i64 next, lv] 74 ∧ w.ownsRow 0 26 5 lv l.length (l.flatMap Fnd.cells) ∧ bs = p :: lv.ownBlock.toList
section
variable {w W : World} {p : Nat} {bs cs : List Nat} {base next : Int} {l : List Fnd}
theorem RSegOwn.at (h : RSegOwn w p bs base next l) : RSegAt w p base next l := by
  obtain ⟨lv, h1, h2, _⟩ := h
  exact ⟨lv, h1, fnds_own h2⟩
theorem RSegOwn.mem (h : RSegOwn w p bs base next l) : p ∈ bs := by
  obtain ⟨lv, _, _, rfl⟩ := h
  simp
theorem RSegOwn.lt (h : RSegOwn w p bs base next l) : ∀ x ∈ bs, x < w.heap.size := by
  obtain ⟨lv, h1, h2, rfl⟩ := h
  intro x hx
  simp only [List.mem_cons, Option.mem_toList] at hx
  rcases hx with rfl | hx
  · exact h1.lt
  · exact own_lt h2 _ hx
theorem RSegOwn.kept (h : RSegOwn w p bs base next l) (k : Kept cs w W) (hd : ∀ x ∈ bs, x ∉ cs) : RSegOwn W p bs base next l := by
  obtain ⟨lv, h1, h2, rfl⟩ := h
  exact ⟨lv, h1.keptBy k (hd _ (by simp)), own_keptBy h2 k (fun b hb => hd b (by simp [hb])), rfl⟩
theorem RSegOwn.below (h : RSegOwn w p bs base next l) (hb : Below w.heap.size w W) : RSegOwn W p bs base next l := h.kept (Kept.ofBelow hb []) (by simp)
theorem RSegOwn.drew (h : RSegOwn w p bs base next l) : RSegOwn w.drew p bs base next l := h
theorem RSegOwn.setNext (h : RSegOwn w p bs base next l) (n : Int) : RSegOwn (w.setCell ⟨p, 1, none⟩ (.int .i64 n)) p bs base n l ∧ Kept bs w (w.setCell ⟨p, 1, none⟩ (.int .i64 n)) := by
  have hm := h.mem
  obtain ⟨lv, h1, h2, hb⟩ := h
  have hg : w.grownBy (w.setCell ⟨p, 1, none⟩ (.int .i64 n)) (some p) := grown_set (grown_refl _ _) _ _
  exact ⟨⟨lv, h1.set 1 _, h2.kept hg (.inr (Ne.symm (own_ne h2 h1 (by decide)))), hb⟩, (Kept.ofGrown hg).mono (by simpa using hm)⟩
end
/-- A call that turns the document's segment. -/
def RSegCall (f : FuncId) (args : Array Value) (w : World) (p : Nat) (bs : List Nat) (v : Value) (base next : Int) (l : List Fnd) : Prop :=
  Calls Try.prog f args w fun x w' => x = .returned v ∧ ∃ cs, RSegOwn w' p cs base next l ∧ Kept bs w w' ∧ ∀ x ∈ cs, x ∈ bs ∨ w.heap.size ≤ x
theorem RSegCall.intro {f : FuncId} {args : Array Value} {w : World} {p : Nat} {bs : List Nat} {v : Value} {base next : Int} {l : List Fnd}
    (h : ∀ R : Ending → World → Prop, Hid (∀ cs w', RSegOwn w' p cs base next l → Kept bs w w' → (∀ x ∈ cs, x ∈ bs ∨ w.heap.size ≤ x) → R (.returned v) w') → Calls Try.prog f args w R) : RSegCall f args w p bs v base next l :=
  h _ fun cs w' h1 h2 h3 => ⟨rfl, cs, h1, h2, h3⟩
theorem RSegCall.use {f : FuncId} {args : Array Value} {w : World} {p : Nat} {bs : List Nat} {v : Value} {base next : Int} {l : List Fnd} {R : Ending → World → Prop} (h : RSegCall f args w p bs v base next l)
    (k : ∀ cs w', RSegOwn w' p cs base next l → Kept bs w w' → (∀ x ∈ cs, x ∈ bs ∨ w.heap.size ≤ x) → R (.returned v) w') : Calls Try.prog f args w R :=
  h.mono fun x w' ⟨he, cs, h1, h2, h3⟩ => by subst he; exact k cs w' h1 h2 h3

/-- One loop of checks, in the document's append. -/
theorem aerr_0 {l : List Fnd} {next : Int} {rs : List Rec} (he : aerr l next rs = 0) : rchecks rs = 0 ∧ l.length + rs.length ≤ 64 ∧ next + (rs.length : Int) ≤ 1099511627776 := by
  unfold aerr at he
  have h0 : rchecks rs = 0 := by
    by_cases h : rchecks rs = 0
    · exact h
    · rw [if_pos h] at he; exact he
  rw [if_neg (by simp [h0])] at he
  have h1 : ¬ (64 < l.length + rs.length ∨ 1099511627776 < next + (rs.length : Int)) := by
    intro h; rw [if_pos h] at he; simp at he
  exact ⟨h0, by omega, by omega⟩

set_option maxHeartbeats 8000000 in
set_option maxRecDepth 100000 in
theorem rappend5_ok (p : Nat) (bs : List Nat) (base next : Int) (l : List Fnd) (v : Value) (rs : List Rec) (w : World) (h : RSegOwn w p bs base next l) (hl : RecsIn w v rs) (ha : Away bs v) (hbd : RecsBd rs) (hn : 0 ≤ next)
    (he : aerr l next rs = 0) : RSegCall 24 #[.pointer (some ⟨p, 0, none⟩), v] w p bs (.tuple #[.int .i64 next, .int .i64 0]) base (next + rs.length) (l ++ fnds next rs) := by
  refine RSegCall.intro fun R hR => ?_
  obtain ⟨h0, hlr, hnr⟩ := aerr_0 he
  obtain ⟨i0, hi0, hz0, hz1, hz2⟩ := info_parts fndInfo
  have hok := rchecks_ok.1 h0
  have HOK := Lib.hid hok
  have HS := Lib.hid h
  have HL := Lib.hid hl
  have HA := Lib.hid ha
  have HB := Lib.hid hbd
  have e1 : IntKind.i64.wrap ((l.length : Int) + (rs.length : Int)) = (l.length : Int) + (rs.length : Int) := by rw [IntKind.wrap_i64]; omega
  have e3 : IntKind.i64.wrap (next + (rs.length : Int)) = next + (rs.length : Int) := by rw [IntKind.wrap_i64]; omega
  have e2 : ((64 : Int) < (l.length : Int) + (rs.length : Int)) = False := eq_false (by omega)
  have e4 : ((1099511627776 : Int) < next + (rs.length : Int)) = False := eq_false (by omega)
  obtain ⟨a, cap, rfl⟩ := hl.form
  clear h hl ha hbd he h0 hok
  go_enter Try.func24, Try.ntmps24
  go_wp2_with fail
  go_loopw [6, 7] (fun (v6 v7 : Value) (W : World) => ∃ k : Nat, k ≤ rs.length ∧ v6 = .int .i64 (k : Int) ∧ Below w.heap.size w W) (fun (v6 v7 : Value) (W : World) => (rs.length - intOf v6).toNat)
  case atStart => exact ⟨0, by omega, rfl, Below.refl _ _⟩
  case round =>
    obtain ⟨k, hk, rfl, hnx⟩ := hrel
    by_cases hkl : k < rs.length
    · rcases HL.out.below hnx with ⟨h, _⟩ | ⟨b, off, cap', hsl, hne, hlt, hc⟩
      · rw [h] at hkl; simp at hkl
      simp only [Value.slice.injEq, true_and] at hsl
      obtain ⟨rfl, rfl⟩ := hsl
      obtain ⟨x0, x1, x2, x3⟩ := hc k hkl
      have hbk := HB.out.2 _ (List.getElem_mem hkl)
      have hcc : ∀ w, RetB Try.prog 37 #[.agg #[.bool rs[k].hk, .string (S rs[k].key), .bool rs[k].tb, .string (S rs[k].val)]] w (.int .i64 0) := fun w => by
        have h := r3check_any rs[k].hk rs[k].tb rs[k].key rs[k].val w hbk.1 hbk.2
        have h2 : rcheck rs[k].hk rs[k].key rs[k].tb rs[k].val = 0 := HOK.out _ (List.getElem_mem hkl)
        rw [h2] at h
        exact h
      have i1 : (0 : Int) ≤ (k : Int) := by omega
      have i2 : (k : Int) < (rs.length : Int) := by omega
      clear hc hbk hne
      generalize rs[k] = r at *
      go_wp2_with fail
      refine (hcc _).use ?_
      intro w2 b2
      go_wp2_with fail
      go_roundw
      case rel => exact ⟨k + 1, by omega, by go_num, below_any (Nat.le_refl _) hnx b2⟩
      case measure => simp [intOf]; omega
    · obtain rfl : k = rs.length := by omega
      have S1 := HS.out.below hnx
      have hS1 := S1
      obtain ⟨lv, hp, hlo, hbs⟩ := S1
      obtain ⟨la, lc, rfl⟩ := own_form hlo
      obtain ⟨k0, c0, c1, c2⟩ := hp.c3
      go_wp2_with fail
      clear c0 c1 c2 k0 hp hlo
      clear e1 e2 e4
      have HS1 := Lib.hid hS1
      go_loopw [9] (fun (v9 : Value) (W : World) => ∃ (k : Nat) (cs : List Nat), k ≤ rs.length ∧ v9 = .int .i64 (k : Int) ∧ RSegOwn W p cs base next (l ++ fnds next (rs.take k)) ∧ Kept bs w W ∧ ∀ x ∈ cs, x ∈ bs ∨ w.heap.size ≤ x) (fun (v9 : Value) (W : World) => (rs.length - intOf v9).toNat)
      case atStart => exact ⟨0, bs, by omega, rfl, by simpa [fnds] using HS1.out, Kept.ofBelow hnx _, fun x hx => .inl hx⟩
      case round =>
        obtain ⟨k, cs, hk2, rfl, hS, hK, hcs⟩ := hrel
        have hpm := hS.mem
        have HS0 := Lib.hid hS
        obtain ⟨lv, hp, hlo, rfl⟩ := hS
        obtain ⟨la2, lc2, rfl⟩ := own_form hlo
        obtain ⟨k0, c0, c1, c2⟩ := hp.c3
        have cf := fun i => Blk.frozen hp i
        by_cases hkl : k < rs.length
        · rcases HL.out.kept hK HA.out with ⟨h, _⟩ | ⟨b, off, cap', hsl, hne, hlt, hc⟩
          · rw [h] at hkl; simp at hkl
          simp only [Value.slice.injEq, true_and] at hsl
          obtain ⟨rfl, rfl⟩ := hsl
          obtain ⟨x0, x1, x2, x3⟩ := hc k hkl
          have hft := Lib.hid (fnds_take rs next hkl)
          have hfl : (l ++ fnds next (rs.take k)).length ≤ 64 := by rw [List.length_append, fnds_len, List.length_take]; omega
          have i1 : (0 : Int) ≤ (k : Int) := by omega
          have i2 : (k : Int) < (rs.length : Int) := by omega
          have e5 : IntKind.i64.wrap (next + (k : Int)) = next + (k : Int) := by rw [IntKind.wrap_i64]; omega
          clear hc hne
          generalize rs[k] = r at *
          generalize hfs : l ++ fnds next (rs.take k) = fs at *
          have HFS := Lib.hid hfs
          clear hfs
          go_wp2_with fail
          go_region_law (refine step_append_lies _ (by rfl) _ _ _ (by rfl) 0 26 i0 _ 5 56 Try.underlying22 hi0 hz0 hz1 hz2 rfl (by omega) (.slice la2 fs.length lc2) fs.length (fs.flatMap Fnd.cells) (by simp [Act.eval, Act.put]) (World.ownsRow.alloc (w := wr.drew) hlo _) ⟨wr.heap.size, 0, none⟩ 1 1 (⟨next + k, r⟩ : Fnd).cells (by simp [Act.eval, Act.put]) rfl (news_fnd (W := wr.drew) (⟨next + k, r⟩ : Fnd) rfl) (by simp [Value.oneCell', Fnd.cells, Rec.cells]) (by omega) (by unfold maxLen; omega) (by omega) (by omega) (wr.heap.size + 1) (by simp) ?_; intro g3 c3 w3 hown3 hgrow3 hat3 hlt3; have bb := (Blk.alloc (w := wr.drew) hp (.cells (⟨next + k, r⟩ : Fnd).cells.toArray 26)).grown hgrow3 (own_ne (World.ownsRow.alloc (w := wr.drew) hlo (.cells (⟨next + k, r⟩ : Fnd).cells.toArray 26)) (Blk.alloc (w := wr.drew) hp (.cells (⟨next + k, r⟩ : Fnd).cells.toArray 26)) (by decide)); obtain ⟨kk, pp0, pp1, pp2⟩ := bb.c3; have ff := fun i => Blk.frozen bb i)
          all_goals go_wp2_with fail
          all_goals go_roundw
          case rel =>
            have hown4 : w3.ownsRow 0 26 5 (.slice (some ⟨g3, 0, none⟩) (fs.length + 1) c3) (fs ++ [(⟨next + k, r⟩ : Fnd)]).length ((fs ++ [(⟨next + k, r⟩ : Fnd)]).flatMap Fnd.cells) := by simpa using hown3
            have hg4 : w3.grownBy (w3.setCell ⟨p, 2, none⟩ (.slice (some ⟨g3, 0, none⟩) (fs.length + 1) c3)) (some p) := grown_set (grown_refl _ _) _ _
            have K1 := hK.bel (below_all (o := .cells (⟨next + k, r⟩ : Fnd).cells.toArray 26) (Below.refl wr.heap.size wr).drew)
            have K2 := (K1.trans (Kept.ofGrown hgrow3) (fun x hx => hcs x (by simp only [List.mem_cons]; exact .inr hx))).trans (Kept.ofGrown hg4) (fun x hx => by simp at hx; subst hx; exact hcs _ hpm)
            refine ⟨k + 1, p :: [g3], by omega, by go_num, ?_, K2, fun x hx => ?_⟩
            · rw [hft.out, ← List.append_assoc, HFS.out]
              exact ⟨_, bb.set 2 _, hown4.kept hg4 (.inr (Ne.symm (own_ne hown4 bb (by decide)))), rfl⟩
            · simp only [List.mem_cons, List.not_mem_nil, or_false] at hx
              rcases hx with rfl | rfl
              · exact hcs _ hpm
              · rcases hat3 with e | e
                · exact hcs _ (by simp only [List.mem_cons]; right; simp [e])
                · have := hK.size; right; omega
          case measure => simp [intOf]; omega
          case rel =>
            have hown4 : w3.ownsRow 0 26 5 (.slice (some ⟨g3, 0, none⟩) (fs.length + 1) c3) (fs ++ [(⟨next + k, r⟩ : Fnd)]).length ((fs ++ [(⟨next + k, r⟩ : Fnd)]).flatMap Fnd.cells) := by simpa using hown3
            have hg4 : w3.grownBy (w3.setCell ⟨p, 2, none⟩ (.slice (some ⟨g3, 0, none⟩) (fs.length + 1) c3)) (some p) := grown_set (grown_refl _ _) _ _
            have K1 := hK.bel (below_all (o := .cells (⟨next + k, r⟩ : Fnd).cells.toArray 26) (Below.refl wr.heap.size wr).drew)
            have K2 := (K1.trans (Kept.ofGrown hgrow3) (fun x hx => hcs x (by simp only [List.mem_cons]; exact .inr hx))).trans (Kept.ofGrown hg4) (fun x hx => by simp at hx; subst hx; exact hcs _ hpm)
            refine ⟨k + 1, p :: [g3], by omega, by go_num, ?_, K2, fun x hx => ?_⟩
            · rw [hft.out, ← List.append_assoc, HFS.out]
              exact ⟨_, bb.set 2 _, hown4.kept hg4 (.inr (Ne.symm (own_ne hown4 bb (by decide)))), rfl⟩
            · simp only [List.mem_cons, List.not_mem_nil, or_false] at hx
              rcases hx with rfl | rfl
              · exact hcs _ hpm
              · rcases hat3 with e | e
                · exact hcs _ (by simp only [List.mem_cons]; right; simp [e])
                · have := hK.size; right; omega
          case measure => simp [intOf]; omega
          case rel =>
            have hown4 : w3.ownsRow 0 26 5 (.slice (some ⟨g3, 0, none⟩) (fs.length + 1) c3) (fs ++ [(⟨next + k, r⟩ : Fnd)]).length ((fs ++ [(⟨next + k, r⟩ : Fnd)]).flatMap Fnd.cells) := by simpa using hown3
            have hg4 : w3.grownBy (w3.setCell ⟨p, 2, none⟩ (.slice (some ⟨g3, 0, none⟩) (fs.length + 1) c3)) (some p) := grown_set (grown_refl _ _) _ _
            have K1 := hK.bel (below_all (o := .cells (⟨next + k, r⟩ : Fnd).cells.toArray 26) (Below.refl wr.heap.size wr).drew)
            have K2 := (K1.trans (Kept.ofGrown hgrow3) (fun x hx => hcs x (by simp only [List.mem_cons]; exact .inr hx))).trans (Kept.ofGrown hg4) (fun x hx => by simp at hx; subst hx; exact hcs _ hpm)
            refine ⟨k + 1, p :: [g3], by omega, by go_num, ?_, K2, fun x hx => ?_⟩
            · rw [hft.out, ← List.append_assoc, HFS.out]
              exact ⟨_, bb.set 2 _, hown4.kept hg4 (.inr (Ne.symm (own_ne hown4 bb (by decide)))), rfl⟩
            · simp only [List.mem_cons, List.not_mem_nil, or_false] at hx
              rcases hx with rfl | rfl
              · exact hcs _ hpm
              · rcases hat3 with e | e
                · exact hcs _ (by simp only [List.mem_cons]; right; simp [e])
                · have := hK.size; right; omega
          case measure => simp [intOf]; omega
        · obtain rfl : k = rs.length := by omega
          have hS := HS0.out
          rw [List.take_length] at hS hcs
          have S9 := hS.setNext (next + (rs.length : Int))
          clear HS0 hp hlo
          go_wp2_with fail
          exact hR.out _ _ S9.1 (hK.trans S9.2 hcs) hcs

set_option maxHeartbeats 8000000 in
set_option maxRecDepth 100000 in
theorem rappend5_no (p : Nat) (base next : Int) (l : List Fnd) (v : Value) (rs : List Rec) (w : World) (h : RSegAt w p base next l) (hl : RecsIn w v rs) (hbd : RecsBd rs) (hrl : rs.length ≤ 100000) (hll : l.length ≤ 100000) (hn : 0 ≤ next ∧ next ≤ 1099511627776)
    (he : aerr l next rs ≠ 0) : RetB Try.prog 24 #[.pointer (some ⟨p, 0, none⟩), v] w (.tuple #[.int .i64 0, .int .i64 (aerr l next rs)]) := by
  refine RetB.intro fun R hR => ?_
  have HS := Lib.hid h
  have HL := Lib.hid hl
  have HB := Lib.hid hbd
  have e1 : IntKind.i64.wrap ((l.length : Int) + (rs.length : Int)) = (l.length : Int) + (rs.length : Int) := by rw [IntKind.wrap_i64]; omega
  have e3 : IntKind.i64.wrap (next + (rs.length : Int)) = next + (rs.length : Int) := by rw [IntKind.wrap_i64]; omega
  have hfull : rchecks rs = 0 → Hid (aerr l next rs = 50 ∧ (64 < l.length + rs.length ∨ 1099511627776 < next + (rs.length : Int))) := fun h0 => Lib.hid (by
    unfold aerr at he ⊢
    rw [if_neg (by simp [h0])] at he ⊢
    by_cases h1 : 64 < l.length + rs.length ∨ 1099511627776 < next + (rs.length : Int)
    · exact ⟨if_pos h1, h1⟩
    · rw [if_neg h1] at he; exact absurd rfl he)
  have hbad : rchecks rs ≠ 0 → Hid (aerr l next rs = rchecks rs) := fun h0 => Lib.hid (by unfold aerr; rw [if_pos h0])
  obtain ⟨a, cap, rfl⟩ := hl.form
  clear h hl hbd he
  generalize aerr l next rs = er at *
  go_enter Try.func24, Try.ntmps24
  go_wp2_with fail
  go_loopw [6, 7] (fun (v6 v7 : Value) (W : World) => ∃ k : Nat, k ≤ rs.length ∧ v6 = .int .i64 (k : Int) ∧ Hid (rchecks (rs.drop k) = rchecks rs) ∧ Below w.heap.size w W) (fun (v6 v7 : Value) (W : World) => (rs.length - intOf v6).toNat)
  case atStart => exact ⟨0, by omega, rfl, Lib.hid rfl, Below.refl _ _⟩
  case round =>
    obtain ⟨k, hk, rfl, hch, hnx⟩ := hrel
    by_cases hkl : k < rs.length
    · rcases HL.out.below hnx with ⟨h, _⟩ | ⟨b, off, cap', hsl, hne, hlt, hc⟩
      · rw [h] at hkl; simp at hkl
      simp only [Value.slice.injEq, true_and] at hsl
      obtain ⟨rfl, rfl⟩ := hsl
      obtain ⟨x0, x1, x2, x3⟩ := hc k hkl
      have hbk := HB.out.2 _ (List.getElem_mem hkl)
      have hcc := fun w => r3check_any rs[k].hk rs[k].tb rs[k].key rs[k].val w hbk.1 hbk.2
      have hok : rcheck rs[k].hk rs[k].key rs[k].tb rs[k].val = rs[k].ok := rfl
      rw [hok] at hcc
      have hst := fun h => Lib.hid (rchecks_step hkl h)
      have hsp := fun h => Lib.hid (rchecks_stop hkl h)
      have i1 : (0 : Int) ≤ (k : Int) := by omega
      have i2 : (k : Int) < (rs.length : Int) := by omega
      clear hc hbk hne hok
      generalize rs[k] = r at *
      obtain ⟨o, ho⟩ : ∃ o, r.ok = o := ⟨_, rfl⟩
      rw [ho] at hcc hst hsp
      clear ho
      by_cases h0 : o = 0
      · subst h0
        have hst0 := hst rfl
        have hcc : ∀ w, RetB Try.prog 37 _ w (.int .i64 0) := hcc
        clear hsp hst
        go_wp2_with fail
        refine (hcc _).use ?_
        intro w2 b2
        go_wp2_with fail
        go_roundw
        case rel => exact ⟨k + 1, by omega, by go_num, Lib.hid (hst0.out.trans hch.out), below_any (Nat.le_refl _) hnx b2⟩
        case measure => simp [intOf]; omega
      · have hsp0 := hsp h0
        have hne : ((o : Int) != 0) = true := by simpa using h0
        have hro : Hid (er = o) := Lib.hid (by
          have h1 : rchecks rs = o := by rw [← hch.out, hsp0.out]
          rw [(hbad (by rw [h1]; exact h0)).out, h1])
        clear hst hsp hfull hbad
        go_wp2_with fail
        refine (hcc _).use ?_
        intro w2 b2
        go_wp2_with fail
        exact finB hR (below_any (Nat.le_refl _) hnx b2) (by rw [hro.out]; rfl)
    · have h0 : rchecks rs = 0 := by rw [← hch.out]; exact rchecks_end (by omega)
      have hf := hfull h0
      obtain ⟨lv, hp, hpl⟩ := HS.out.below hnx
      obtain ⟨la, lc, rfl⟩ := hpl.form
      obtain ⟨k0, c0, c1, c2⟩ := hp.c3
      clear hfull hbad h0
      by_cases h1 : 64 < l.length + rs.length
      · have e2 : ((64 : Int) < (l.length : Int) + (rs.length : Int)) = True := eq_true (by omega)
        go_wp2_with fail
        exact finB hR hnx (by rw [hf.out.1]; rfl)
      · have e2 : ((64 : Int) < (l.length : Int) + (rs.length : Int)) = False := eq_false (by omega)
        have e4 : ((1099511627776 : Int) < next + (rs.length : Int)) = True := eq_true (by have := hf.out.2; omega)
        go_wp2_with fail
        exact finB hR hnx (by rw [hf.out.1]; rfl)
end Go.Proofs.Ytkgpckfaghpgmaa
