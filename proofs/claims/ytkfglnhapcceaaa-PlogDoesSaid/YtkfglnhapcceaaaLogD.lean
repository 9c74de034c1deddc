import Derived.Test.YtkfglnhapcceaaaLogC
/-
  Layer 6: records appended to a log: the walk.
-/
set_option linter.unusedVariables false
set_option linter.unusedSimpArgs false
namespace Go.Proofs.Ytkfglnhapcceaaa
open Go.RowKit
attribute [local go_sem] ByteArray.extract_mk ByteArray.mk_append_mk

theorem LogAt.sub {w : World} {g : Nat} {bs : List Nat} {room : Int} {ss : List Sg} (h : LogAt w g bs room ss) {s : Sg} (hs : s ∈ ss) : ∀ x ∈ s.bs, x ∈ bs := by
  obtain ⟨lv, _, _, _, _, rfl⟩ := h
  intro x hx
  simp only [List.mem_cons, List.mem_append]
  exact .inr (.inr (List.mem_flatMap.2 ⟨s, hs, hx⟩))
set_option maxHeartbeats 8000000 in
set_option maxRecDepth 100000 in
theorem append6 (g : Nat) (bs : List Nat) (room : Int) (A : List Sg) (s : Sg) (v : Value) (rs : List Rec) (w : World) (h : LogAt w g bs room (A ++ [s])) (hv : RecsIn w v rs) (ha : Away bs v) (hbd : RecsBd rs)
    (hA : A.length ≤ 90000) (hroom : 1 ≤ room ∧ room ≤ 64) (hn : 0 ≤ s.d.next ∧ s.d.next ≤ 1099511627776) (hsl : s.d.l.length ≤ 64) :
    LCall 14 #[.pointer (some ⟨g, 0, none⟩), v] w g bs (.tuple #[.int .i64 (if aerr6 room ((A ++ [s]).map Sg.d) rs = 0 then s.d.next else 0), .int .i64 (aerr6 room ((A ++ [s]).map Sg.d) rs : Nat)]) room (dapp room ((A ++ [s]).map Sg.d) rs) := by
  refine LCall.intro fun R hR => ?_
  obtain ⟨i0, hi, hz0, hz1, hz2⟩ := info_parts ptrInfo
  have hlen : rs.length ≤ 9223372036854775807 := by have := hbd.1; unfold maxLen at this; omega
  have hD : (A ++ [s]).map Sg.d = A.map Sg.d ++ [s.d] := by simp
  have hde : dend ((A ++ [s]).map Sg.d) = s.d.next := by rw [hD]; exact dend_snoc _ _
  obtain ⟨e6, he6⟩ : ∃ e, aerr6 room ((A ++ [s]).map Sg.d) rs = e := ⟨_, rfl⟩
  obtain ⟨D2, hD2⟩ : ∃ D', dapp room ((A ++ [s]).map Sg.d) rs = D' := ⟨_, rfl⟩
  have hno : e6 ≠ 0 → (A ++ [s]).map Sg.d = D2 := fun h => by rw [← hD2, dapp_no (by rw [he6]; exact h)]
  rw [he6, hD2] at hR
  rw [hD] at hD2
  have he7 := he6
  unfold aerr6 at he7
  rw [hde] at he7
  rw [hD] at he6
  have HE := Lib.hid he7
  have HE6 := Lib.hid he6
  have HD2 := Lib.hid hD2
  have HNO := Lib.hid hno
  have H := Lib.hid h
  have HV := Lib.hid hv
  have HB := Lib.hid hbd
  have HA := Lib.hid ha
  have cS := Lib.hid (fun W (hb : Below w.heap.size w W) => (span6 g bs room (A ++ [s]) W (h.below hb) (by simp) (by simp; omega)))
  rw [hde] at cS
  obtain ⟨a, cap, rfl⟩ := hv.form
  have hne6 : (A ++ [s]) ≠ [] := by simp
  have herr : e6 ≠ 0 → ∀ W, Below w.heap.size w W → R (.returned (.tuple #[.int .i64 0, .int .i64 (e6 : Nat)])) W := fun h0 W hb => by
    have := hR.out bs (A ++ [s]) W (H.out.below hb) (HNO.out h0) (Kept.ofBelow hb _) (fun x hx => .inl hx)
    rw [if_neg h0] at this
    exact this
  have HERR := Lib.hid herr
  clear h hv hbd ha he6 he7 hD2 hno hD hde herr
  go_enter Try.func14, Try.ntmps14
  go_wp2_with fail
  go_loopw [7, 8, 15] (fun (v7 v8 v15 : Value) (W : World) => ∃ k : Nat, k ≤ rs.length ∧ v15 = .int .i64 (k : Int) ∧ Hid (rchecks (rs.drop k) = rchecks rs) ∧ Below w.heap.size w W) (fun (v7 v8 v15 : Value) (W : World) => (rs.length - intOf v15).toNat)
  case atStart => exact ⟨0, by omega, rfl, rfl, Below.refl _ _⟩
  case round =>
    obtain ⟨k, hk, rfl, hch, hnx⟩ := hrel
    by_cases hkl : k < rs.length
    · rcases HV.out.below hnx with ⟨h, _⟩ | ⟨b, off, cap', hsl2, hne, hlt, hc⟩
      · rw [h] at hkl; simp at hkl
      simp only [Value.slice.injEq, true_and] at hsl2
      obtain ⟨rfl, rfl⟩ := hsl2
      have hbk := HB.out.2 _ (List.getElem_mem hkl)
      obtain ⟨c0, c1, c2, c3⟩ := hc k hkl
      have hcc := fun w => check_any rs[k].hk rs[k].tb rs[k].key rs[k].val w hbk.1 hbk.2
      have hok : rcheck rs[k].hk rs[k].key rs[k].tb rs[k].val = rs[k].ok := rfl
      rw [hok] at hcc
      have hst := fun h => Lib.hid (rchecks_step hkl h)
      have hsp := fun h => Lib.hid (rchecks_stop hkl h)
      have j0 : (0 : Int) ≤ (k : Int) := by omega
      have j1 : (k : Int) < (rs.length : Int) := by omega
      clear hok hbk hc
      generalize rs[k] = r at *
      obtain ⟨o, ho⟩ : ∃ o, r.ok = o := ⟨_, rfl⟩
      rw [ho] at hcc hst hsp
      have hnx1 := below_all (o := .cells #[.bool r.hk, .string (S r.key), .bool r.tb, .string (S r.val)] 29) hnx
      by_cases h0 : o = 0
      · subst h0
        have hst0 := hst rfl
        have hcc : ∀ w, RetB Try.prog 37 _ w (.int .i64 0) := hcc
        clear hsp hst
        go_wp2_with fail
        refine (hcc _).use ?_
        intro w2 hb2
        have hnx2 := below_any (Nat.le_refl _) hnx1 hb2
        go_wp2_with fail
        go_roundw
        case rel => exact ⟨k + 1, by omega, by go_num, Lib.hid (hst0.out.trans hch.out), hnx2⟩
        case measure => first | (simp [intOf]; done) | (simp [intOf]; omega)
      · have hsp0 := hsp h0
        have hne : ((o : Int) != 0) = true := by simp; omega
        have hne2 : (o != 0) = true := by simp; omega
        have he : o = e6 := by
          have := HE.out
          have h3 : rchecks rs = o := by rw [← hch.out, hsp0.out]
          rw [h3, if_pos h0] at this
          exact this
        clear hst hsp
        subst he
        have HR := Lib.hid (HERR.out h0)
        go_wp2_with fail
        refine (hcc _).use ?_
        intro w2 hb2
        have hnx2 := below_any (Nat.le_refl _) hnx1 hb2
        go_wp2_with fail
        exact HR.out _ hnx2
    · have he : rchecks rs = 0 := by rw [← hch.out]; exact rchecks_end (by omega)
      have he7 := HE.out
      rw [he, if_neg (by simp)] at he7
      have HE7 := Lib.hid he7
      have HCK := Lib.hid he
      have j1 : ¬ (k : Int) < (rs.length : Int) := by omega
      clear he7 he hch HE
      go_wp2_with fail
      refine (cS.out _ hnx).use ?_
      intro w2 b2
      have b2 := Lib.hid (below_any (Nat.le_refl _) hnx b2)
      clear cS hnx
      obtain ⟨b, off, cap2, h1, h2, h3, h4⟩ := (H.out.below b2.out).ptrs hne6
      clear h2 h3 h4
      obtain ⟨k0, y0, y1⟩ := h1.c2
      by_cases hroom2 : room < (rs.length : Int)
      · have he : e6 = 2 := by have := HE7.out; rw [if_pos hroom2] at this; exact this.symm
        subst he
        have HR := Lib.hid (HERR.out (by decide))
        go_wp2_with fail
        exact HR.out _ b2.out
      · have HE8 : Hid ((if 1099511627776 < s.d.next + (rs.length : Int) then 50 else 0) = e6) := Lib.hid (by have := HE7.out; rw [if_neg hroom2] at this; exact this)
        have q1 : IntKind.i64.wrap (s.d.next + (rs.length : Int)) = s.d.next + (rs.length : Int) := by rw [IntKind.wrap_i64]; omega
        clear HE7
        by_cases hfull : 1099511627776 < s.d.next + (rs.length : Int)
        · have he : e6 = 50 := by have := HE8.out; rw [if_pos hfull] at this; exact this.symm
          subst he
          have HR := Lib.hid (HERR.out (by decide))
          go_wp2_with fail
          exact HR.out _ b2.out
        · have he : e6 = 0 := by have := HE8.out; rw [if_neg hfull] at this; exact this.symm
          subst he
          simp only [if_true] at hR
          clear HE8 HERR HNO
          have HAE := Lib.hid (fun (l' : List Fnd) (hl' : l'.length + rs.length ≤ 64) => (show aerr l' s.d.next rs = 0 by unfold aerr; rw [HCK.out]; simp; omega))
          have haw : Away s.bs (.slice a rs.length cap) := fun b hb hx => HA.out b hb (H.out.sub (by simp) b hx)
          have HAW := Lib.hid haw
          have cO := Lib.hid (fun W (hb : Below w.heap.size w W) => open6 g bs room A s W (H.out.below hb) (by omega))
          have cL := Lib.hid (fun W (hb : Below w.heap.size w W) => len5 s.p s.bs s.d.base s.d.next s.d.l W ((H.out.below hb).sg (by simp)))
          have BG := Lib.hid h1
          clear haw
          by_cases h0 : rs.length = 0
          · obtain rfl : rs = [] := List.eq_nil_of_length_eq_zero h0
            have hr : ¬ (([] : List Rec) ≠ [] ∧ room < (s.d.l.length : Int) + ([] : List Rec).length) := fun h => h.1 rfl
            have hD2 := Lib.hid ((dapp_in HE6.out hr).symm.trans HD2.out)
            have hae := Lib.hid (HAE.out s.d.l (by omega))
            clear hr BG
            go_wp2_with fail
            go_quiet (fail)
            have b3 := Lib.hid (below_any (Nat.le_refl _) b2.out (belowN (Below.refl w2.heap.size w2) nq))
            generalize w2.drewN nq = w3 at *
            clear b2 y0 y1 k0 h1
            go_wp2_with fail
            refine (cO.out _ b3.out).use ?_
            intro w5 b5
            have b5 := Lib.hid (below_any (Nat.le_refl _) b3.out b5)
            have L5 := Lib.hid (H.out.below b5.out)
            have cX := Lib.hid (append5_ok s.p s.bs s.d.base s.d.next s.d.l _ [] w5 (L5.out.sg (by simp)) (HV.out.below b5.out) HAW.out HB.out hn.1 hae.out)
            clear cO cL b3
            go_wp2_with fail
            refine cX.out.use ?_
            intro cs w6 S6 K6 C6
            obtain ⟨bs2, L6, K7, C7⟩ := L5.out.turn (A := A) (B := []) (d := ⟨s.d.base, s.d.next + ([] : List Rec).length, s.d.l ++ fnds s.d.next []⟩) S6 K6 C6
            have hL6 := Lib.hid L6
            have hK7 := Lib.hid K7
            have hC7 := Lib.hid C7
            clear L6 K7 C7 S6 K6 C6 cX
            go_wp2_with fail
            exact hR.out bs2 _ w6 hL6.out (by rw [← hD2.out]; simp) ((Kept.ofBelow b5.out bs).trans hK7.out (fun x hx => .inl hx)) (fun x hx => (hC7.out x hx).imp id (fun h => Nat.le_trans b5.out.size h))
          · have t0 : ((0 : Int) < (rs.length : Int)) = True := eq_true (by omega)
            have t1 : (0 < rs.length) = True := eq_true (by omega)
            have q2 : IntKind.i64.wrap ((s.d.l.length : Int) + (rs.length : Int)) = (s.d.l.length : Int) + (rs.length : Int) := by rw [IntKind.wrap_i64]; omega
            have P0 : Below w2.heap.size w2 w2.drew := (Below.refl _ _).drew
            have B2 := b2.out
            by_cases hroll : room < (s.d.l.length : Int) + (rs.length : Int)
            · have hD2 := Lib.hid ((dapp_roll HE6.out ⟨fun e => h0 (by rw [e]; rfl), hroll⟩).symm.trans HD2.out)
              go_wp2_with fail
              skip
              go_region_held3 (fun w' => w'.cell? ⟨g, 0, none⟩ = some (.int .i64 room)) (go_keep) (first | (go_at_call 38; refine (cO.out _ (below_any (Nat.le_refl _) B2 (by assumption))).use ?_; intro W hb; have P := below_any (Nat.le_refl _) (by assumption) hb; obtain ⟨_, z0, z1⟩ := (BG.out.below P).c2) | (go_at_call 39; refine (cL.out _ (below_any (Nat.le_refl _) B2 (by assumption))).use ?_))
              have b3 := Lib.hid (below_any (Nat.le_refl _) b2.out P)
              have L3 := Lib.hid (H.out.below b3.out)
              have cN := Lib.hid (new5_ok s.d.next W (by simp only [numB, Bool.and_eq_true, decide_eq_true_eq]; exact hn))
              clear B2 y0 y1 k0 h1 b2
              go_wp2_with fail
              refine cN.out.use ?_
              intro p' bs' w4 S4 B4 N4
              have b4 := Lib.hid (below_any (Nat.le_refl _) b3.out B4)
              have L4 := L3.out.below B4
              obtain ⟨lv, l1, l2, l3, l4, hbs⟩ := L4
              obtain ⟨la, lc, rfl⟩ := own_form l2
              obtain ⟨kk, u0, u1⟩ := l1.c2
              have fz : ∀ i, w4.frozen? ⟨g, i, none⟩ = false := fun i => Blk.frozen l1 i
              have l2a := World.ownsRow.alloc l2 (.cells #[.pointer (some ⟨p', 0, none⟩)] 71)
              have l1a := l1.alloc (.cells #[.pointer (some ⟨p', 0, none⟩)] 71)
              have hlen2 : (A ++ [s]).length ≤ 90001 := by simp; omega
              have l3a := Lib.hid (l3.kept (Kept.ofBelow (below_all (o := .cells #[.pointer (some ⟨p', 0, none⟩)] 71) (Below.refl _ _)) []) (by simp))
              have s4a : SgAt (w4.alloc (.cells #[.pointer (some ⟨p', 0, none⟩)] 71)) ⟨p', bs', ⟨s.d.next, s.d.next, []⟩⟩ := S4.below (below_all (Below.refl _ _))
              have S4A := Lib.hid s4a
              have hsep : Hid (∀ x ∈ bs', x ≠ g ∧ (Value.slice la (A ++ [s]).length lc).ownBlock ≠ some x ∧ x ∉ sgB (A ++ [s])) := Lib.hid (fun x hx => by
                have h5 := N4 x hx
                have h6 := L3.out.lt
                rw [hbs] at h6
                refine ⟨fun e => ?_, fun e => ?_, fun e => ?_⟩
                · have := h6 g (by simp); omega
                · have := h6 x (by simp only [List.mem_cons, List.mem_append, Option.mem_toList]; exact .inr (.inl e)); omega
                · have := h6 x (by simp only [List.mem_cons, List.mem_append, Option.mem_toList]; exact .inr (.inr e)); omega)
              have HN4 := Lib.hid (fun x hx => Nat.le_trans b3.out.size (N4 x hx))
              have HL4 := Lib.hid l4
              have HBS := Lib.hid hbs
              clear cN S4 B4 N4 l3 l4 s4a hbs l2 b3 L3
              generalize hN : (A ++ [s]).length = N at *
              have HNL := Lib.hid hN
              clear hN
              go_wp2_with (at_builtin; refine wpList_append_own_at _ rfl _ _ 68 rfl 0 71 i0 _ 1 8 Try.underlying68 hi hz0 hz1 hz2 rfl (by decide) _ _ _ rfl l2a ⟨w4.heap.size, 0, none⟩ 1 1 [.pointer (some ⟨p', 0, none⟩)] rfl rfl (news_ptr p' rfl) (by simp [Value.oneCell']) (by unfold maxLen; omega) (by omega) (by omega) ?_; intro v5 w5 o5 g5 z7 at5; obtain ⟨va5, vc5, rfl⟩ := own_form o5; have S9 := l1a.grown g5 (own_ne l2a l1a (by decide)); obtain ⟨k9, s0, s1⟩ := S9.c2; have fz9 : ∀ i, w5.frozen? ⟨g, i, none⟩ = false := fun i => Blk.frozen S9 i)
              have hn5 : N = (A ++ [s]).length := HNL.out.symm
              subst hn5
              obtain ⟨cs, L6, K6, C6⟩ := LogAt.push (s := ⟨p', bs', ⟨s.d.next, s.d.next, []⟩⟩) l1a l2a l3a.out HL4.out S4A.out hsep.out (by simpa [Sg.ptr] using o5) g5 at5
              rw [← HBS.out] at K6 C6
              have KA : Kept bs w (w4.alloc (.cells #[.pointer (some ⟨p', 0, none⟩)] 71)) := Kept.ofBelow (below_any (Nat.le_refl _) b4.out (below_all (Below.refl _ _))) bs
              have KB := KA.trans K6 (fun x hx => .inl hx)
              have V6 := HV.out.kept KB HA.out
              have CB : ∀ x ∈ cs, x ∈ bs ∨ w.heap.size ≤ x := fun x hx => by
                rcases C6 x hx with h | h | h
                · exact .inl h
                · exact .inr (HN4.out x h)
                · exact .inr (Nat.le_trans KA.size h)
              have HCB := Lib.hid CB
              have HKB := Lib.hid KB
              have HV6 := Lib.hid V6
              have HL6 := Lib.hid L6
              clear K6 KA KB V6 CB L6 C6
              generalize w5.setCell ⟨g, 1, none⟩ (.slice va5 ((A ++ [s]).length + 1) vc5) = w6 at *
              have cO2 := Lib.hid (open6 g cs room (A ++ [s]) ⟨p', bs', ⟨s.d.next, s.d.next, []⟩⟩ w6 HL6.out (by omega))
              go_wp2_with fail
              refine cO2.out.use ?_
              intro w7 b7
              have L7 := Lib.hid (HL6.out.below b7)
              have hav : Away bs' (.slice a rs.length cap) := fun b hb hx => by
                rcases HV.out with ⟨h, _⟩ | ⟨b2, _, _, hsl2, _, hlt, _⟩
                · rw [h] at h0; simp at h0
                · rw [hsl2] at hb
                  have : b2 = b := by simpa [Value.ownBlock] using hb
                  have := HN4.out b hx
                  omega
              have cX := Lib.hid (append5_ok p' bs' s.d.next s.d.next [] _ rs w7 (L7.out.sg (s := ⟨p', bs', ⟨s.d.next, s.d.next, []⟩⟩) (by simp)) (HV6.out.below b7) hav HB.out hn.1 (HAE.out [] (by simp; omega)))
              clear cO2 hav
              go_wp2_with fail
              refine cX.out.use ?_
              intro cs2 w8 S8 K8 C8
              obtain ⟨bs2, L8, K9, C9⟩ := L7.out.turn (A := A ++ [s]) (B := []) (s := ⟨p', bs', ⟨s.d.next, s.d.next, []⟩⟩) (d := ⟨s.d.next, s.d.next + rs.length, [] ++ fnds s.d.next rs⟩) S8 K8 C8
              have hL8 := Lib.hid L8
              have hK9 := Lib.hid ((HKB.out.bel b7).trans K9 (fun x hx => HCB.out x hx))
              have hC9 := Lib.hid (fun x (hx : x ∈ bs2) => (show x ∈ bs ∨ w.heap.size ≤ x from by
                rcases C9 x hx with h | h
                · exact HCB.out x h
                · exact .inr (Nat.le_trans (HKB.out.bel b7).size h)))
              clear L8 K9 C9 S8 K8 C8 cX b7
              go_wp2_with fail
              exact hR.out bs2 _ w8 hL8.out (by rw [← hD2.out]; simp) hK9.out hC9.out
            · have hr : ¬ (rs ≠ [] ∧ room < (s.d.l.length : Int) + rs.length) := fun h => hroll h.2
              have hD2 := Lib.hid ((dapp_in HE6.out hr).symm.trans HD2.out)
              have hae := Lib.hid (HAE.out s.d.l (by omega))
              clear hr
              go_wp2_with fail
              go_region_held3 (fun w' => w'.cell? ⟨g, 0, none⟩ = some (.int .i64 room)) (go_keep) (first | (go_at_call 38; refine (cO.out _ (below_any (Nat.le_refl _) B2 (by assumption))).use ?_; intro W hb; have P := below_any (Nat.le_refl _) (by assumption) hb; obtain ⟨_, z0, z1⟩ := (BG.out.below P).c2) | (go_at_call 39; refine (cL.out _ (below_any (Nat.le_refl _) B2 (by assumption))).use ?_))
              have b3 := Lib.hid (below_any (Nat.le_refl _) b2.out P)
              clear B2 y0 y1 k0 h1 b2
              go_wp2_with fail
              refine (cO.out _ b3.out).use ?_
              intro w5 b5
              have b5 := Lib.hid (below_any (Nat.le_refl _) b3.out b5)
              have L5 := Lib.hid (H.out.below b5.out)
              have cX := Lib.hid (append5_ok s.p s.bs s.d.base s.d.next s.d.l _ rs w5 (L5.out.sg (by simp)) (HV.out.below b5.out) HAW.out HB.out hn.1 hae.out)
              clear cO cL b3
              go_wp2_with fail
              refine cX.out.use ?_
              intro cs w6 S6 K6 C6
              obtain ⟨bs2, L6, K7, C7⟩ := L5.out.turn (A := A) (B := []) (d := ⟨s.d.base, s.d.next + rs.length, s.d.l ++ fnds s.d.next rs⟩) S6 K6 C6
              have hL6 := Lib.hid L6
              have hK7 := Lib.hid K7
              have hC7 := Lib.hid C7
              clear L6 K7 C7 S6 K6 C6 cX
              go_wp2_with fail
              exact hR.out bs2 _ w6 hL6.out (by rw [← hD2.out]; simp) ((Kept.ofBelow b5.out bs).trans hK7.out (fun x hx => .inl hx)) (fun x hx => (hC7.out x hx).imp id (fun h => Nat.le_trans b5.out.size h))
end Go.Proofs.Ytkfglnhapcceaaa
