import Derived.Test.YtkfglnhapcceaaaLogRF
import Derived.Test.YtkfglnhapcceaaaLogT
import Derived.Laws.OwnMore
import Derived.Deep.Cut
/-
  Layer 6: the document's log: records appended.
-/
set_option linter.unusedVariables false
set_option linter.unusedSimpArgs false
namespace Go.Proofs.Ytkfglnhapcceaaa
open Go.RowKit
attribute [local go_sem] ByteArray.extract_mk ByteArray.mk_append_mk

theorem set3 (X : List Value) (a b c a' b' c' : Value) {n : Nat} (hn : X.length = n) : (((X ++ [a, b, c]).set n a').set (n + 1) b').set (n + 2) c' = X ++ [a', b', c'] := by
  subst hn
  simp [List.set_append_right]
theorem Kept.drew' {bs : List Nat} {w W : World} (h : Kept bs w W) : Kept bs w W.drew := ⟨h.os, h.tape, h.output, h.size, h.block⟩
/-- The last segment set anew. -/
theorem RLogAt.last {w : World} {k g cap : Nat} {room : Int} {A : List Sd} {t s : Sd} {lv : Value} {lvs : List Value} (hb : Blk w k #[.int .i64 room, .slice (some ⟨g, 0, none⟩) (A ++ [t]).length cap] 75)
    (ho : SegsOwn w 0 (.slice (some ⟨g, 0, none⟩) (A ++ [t]).length cap) (A ++ [t]) lvs) (ov : w.ownsRow 0 31 5 lv s.l.length (s.l.flatMap Fnd.cells)) :
    ∃ cs, RLogAt (((w.setCell ⟨g, A.length * 3, none⟩ (.int .i64 s.base)).setCell ⟨g, A.length * 3 + 1, none⟩ (.int .i64 s.next)).setCell ⟨g, A.length * 3 + 2, none⟩ lv) k cs room (A ++ [s]) ∧
      Kept [g] w (((w.setCell ⟨g, A.length * 3, none⟩ (.int .i64 s.base)).setCell ⟨g, A.length * 3 + 1, none⟩ (.int .i64 s.next)).setCell ⟨g, A.length * 3 + 2, none⟩ lv) ∧ ∀ x ∈ cs, x ∈ k :: g :: vBs lvs ∨ x ∈ lv.ownBlock.toList := by
  obtain ⟨o1, o2, o3⟩ := ho
  obtain ⟨la, lt, rfl⟩ : ∃ la lt, lvs = la ++ [lt] := ⟨lvs.dropLast, lvs.getLast (by intro e; rw [e] at o2; simp at o2), (List.dropLast_concat_getLast _).symm⟩
  have hla : la.length = A.length := by simpa using o2
  have hX := sdsCells_len hla
  have g1 : ∀ x, (Value.slice (some ⟨g, 0, none⟩) (A ++ [t]).length cap).ownBlock = some x → x = g := fun x h => by simpa [Value.ownBlock] using h.symm
  obtain ⟨s1, k1⟩ := o1.stored (A.length * 3) (.int .i64 s.base)
  obtain ⟨s2, k2⟩ := s1.stored (A.length * 3 + 1) (.int .i64 s.next)
  obtain ⟨s3, k3⟩ := s2.stored (A.length * 3 + 2) lv
  rw [sdsCells_snoc hla, show sdCells t lt = [.int .i64 t.base, .int .i64 t.next, lt] from rfl, set3 _ _ _ _ _ _ _ hX, show [Value.int .i64 s.base, .int .i64 s.next, lv] = sdCells s lv from rfl, ← sdsCells_snoc hla] at s3
  have K : Kept [g] w (((w.setCell ⟨g, A.length * 3, none⟩ (.int .i64 s.base)).setCell ⟨g, A.length * 3 + 1, none⟩ (.int .i64 s.next)).setCell ⟨g, A.length * 3 + 2, none⟩ lv) := Kept.ofGrown ((k1.trans k2).trans k3)
  generalize (((w.setCell ⟨g, A.length * 3, none⟩ (.int .i64 s.base)).setCell ⟨g, A.length * 3 + 1, none⟩ (.int .i64 s.next)).setCell ⟨g, A.length * 3 + 2, none⟩ lv) = W at *
  have hkg : k ≠ g := fun e => own_ne o1 hb (by decide) (by rw [e]; rfl)
  have hbW := hb.keptBy K (by simpa using hkg)
  have far : ∀ (l : List Fnd) (v : Value), w.ownsRow 0 31 5 v l.length (l.flatMap Fnd.cells) → W.ownsRow 0 31 5 v l.length (l.flatMap Fnd.cells) := fun l v h => own_keptBy h K (fun x hx hm => by
    simp only [List.mem_cons, List.not_mem_nil, or_false] at hm
    subst hm
    exact (own_apart o1 h (by decide)).elim (fun e => by simp [Value.ownBlock] at e) (fun e => e (by rw [hx]; rfl)))
  have hn : (A ++ [s]).length = (A ++ [t]).length := by simp
  refine ⟨k :: g :: vBs (la ++ [lv]), ⟨_, la ++ [lv], hbW, ⟨by rw [hn]; exact s3, by simp [hla], fun i h h' => ?_⟩, by simp [Value.ownBlock]⟩, K, fun x hx => ?_⟩
  · by_cases e : i < A.length
    · have a1 := o3 i (by simp; omega) (by simp; omega)
      rw [List.getElem_append_left e, List.getElem_append_left (by omega)] at a1 ⊢
      exact far _ _ a1
    · have e2 : i = A.length := by simp at h; omega
      subst e2
      have e3 : (A ++ [s])[A.length] = s := by simp
      have e4 : (la ++ [lv])[A.length]'h' = lv := by rw [List.getElem_append_right (by omega)]; simp [hla]
      rw [e3, e4]
      exact far _ _ ov
  · rw [vBs_snoc] at hx
    rw [vBs_snoc]
    simp only [List.mem_cons, List.mem_append] at hx ⊢
    rcases hx with h | h | h | h
    · exact .inl (.inl h)
    · exact .inl (.inr (.inl h))
    · exact .inl (.inr (.inr (.inl h)))
    · exact .inr h

set_option maxHeartbeats 8000000 in
set_option maxRecDepth 100000 in
theorem rappend6 (k : Nat) (bs : List Nat) (room : Int) (A : List Sd) (t : Sd) (v : Value) (rs : List Rec) (w : World) (h : RLogAt w k bs room (A ++ [t])) (hv : RecsIn w v rs) (ha : Away bs v) (hbd : RecsBd rs)
    (hA : A.length ≤ 900) (hroom : 1 ≤ room ∧ room ≤ 64) (hn : 0 ≤ t.next ∧ t.next ≤ 1099511627776) (hsl : t.l.length ≤ 64) :
    RLCall 15 #[.pointer (some ⟨k, 0, none⟩), v] w k bs (.tuple #[.int .i64 (if aerr6 room (A ++ [t]) rs = 0 then t.next else 0), .int .i64 (aerr6 room (A ++ [t]) rs : Nat)]) room (dapp room (A ++ [t]) rs) := by
  refine RLCall.intro fun R hR => ?_
  obtain ⟨i0, hi, hz0, hz1, hz2⟩ := info_parts segInfo
  obtain ⟨j0, hj, hy0, hy1, hy2⟩ := info_parts fndInfo
  have hlen : rs.length ≤ 9223372036854775807 := by have := hbd.1; unfold maxLen at this; omega
  have hde : dend (A ++ [t]) = t.next := dend_snoc _ _
  have hne6 : A ++ [t] ≠ [] := by simp
  obtain ⟨e6, he6⟩ : ∃ e, aerr6 room (A ++ [t]) rs = e := ⟨_, rfl⟩
  obtain ⟨D2, hD2⟩ : ∃ D', dapp room (A ++ [t]) rs = D' := ⟨_, rfl⟩
  have hno : e6 ≠ 0 → A ++ [t] = D2 := fun h => by rw [← hD2, dapp_no (by rw [he6]; exact h)]
  rw [he6, hD2] at hR
  have he7 := he6
  unfold aerr6 at he7
  rw [hde] at he7
  have HE := Lib.hid he7
  have HE6 := Lib.hid he6
  have HD2 := Lib.hid hD2
  have H := Lib.hid h
  have HV := Lib.hid hv
  have HB := Lib.hid hbd
  have HA := Lib.hid ha
  have HK0 := Lib.hid h.mem
  have cE := Lib.hid (fun W (hb : Below w.heap.size w W) => rend6 k bs room (A ++ [t]) W (h.below hb) hne6 (by simp; omega))
  rw [hde] at cE
  obtain ⟨a, cap, rfl⟩ := hv.form
  have herr : e6 ≠ 0 → ∀ W, Below w.heap.size w W → R (.returned (.tuple #[.int .i64 0, .int .i64 (e6 : Nat)])) W := fun h0 W hb => by
    have := hR.out bs W (by rw [← hno h0]; exact H.out.below hb) (Kept.ofBelow hb _) (fun x hx => .inl hx)
    rw [if_neg h0] at this
    exact this
  have HERR := Lib.hid herr
  clear h hv hbd ha he6 he7 hD2 hno hde herr
  go_enter Try.func15, Try.ntmps15
  go_wp2_with fail
  go_loopw [6, 7] (fun (v6 v7 : Value) (W : World) => ∃ i : Nat, i ≤ rs.length ∧ v6 = .int .i64 (i : Int) ∧ Hid (rchecks (rs.drop i) = rchecks rs) ∧ Below w.heap.size w W) (fun (v6 v7 : Value) (W : World) => (rs.length - intOf v6).toNat)
  case atStart => exact ⟨0, by omega, rfl, rfl, Below.refl _ _⟩
  case round =>
    obtain ⟨i, hil, rfl, hch, hnx⟩ := hrel
    by_cases hkl : i < rs.length
    · rcases HV.out.below hnx with ⟨h, _⟩ | ⟨b, off, cap', hsl2, hne, hlt, hc⟩
      · rw [h] at hkl; simp at hkl
      simp only [Value.slice.injEq, true_and] at hsl2
      obtain ⟨rfl, rfl⟩ := hsl2
      have hbk := HB.out.2 _ (List.getElem_mem hkl)
      obtain ⟨c0, c1, c2, c3⟩ := hc i hkl
      have hcc := fun w => r3check_any rs[i].hk rs[i].tb rs[i].key rs[i].val w hbk.1 hbk.2
      have hok : rcheck rs[i].hk rs[i].key rs[i].tb rs[i].val = rs[i].ok := rfl
      rw [hok] at hcc
      have hst := fun h => Lib.hid (rchecks_step hkl h)
      have hsp := fun h => Lib.hid (rchecks_stop hkl h)
      have j0 : (0 : Int) ≤ (i : Int) := by omega
      have j1 : (i : Int) < (rs.length : Int) := by omega
      clear hok hbk hc
      generalize rs[i] = r at *
      obtain ⟨o, ho⟩ : ∃ o, r.ok = o := ⟨_, rfl⟩
      rw [ho] at hcc hst hsp
      by_cases h0 : o = 0
      · subst h0
        have hst0 := hst rfl
        have hcc : ∀ w, RetB Try.prog 42 _ w (.int .i64 0) := hcc
        clear hsp hst ho
        go_wp2_with fail
        refine (hcc _).use ?_
        intro w2 hb2
        have hnx2 := below_any (Nat.le_refl _) hnx hb2
        go_wp2_with fail
        go_roundw
        case rel => exact ⟨i + 1, by omega, by go_num, Lib.hid (hst0.out.trans hch.out), hnx2⟩
        case measure => first | (simp [intOf]; done) | (simp [intOf]; omega)
      · have hsp0 := hsp h0
        have hne : ((o : Int) != 0) = true := by simp; omega
        have hne2 : (o != 0) = true := by simp; omega
        have he : o = e6 := by
          have := HE.out
          have h3 : rchecks rs = o := by rw [← hch.out, hsp0.out]
          rw [h3, if_pos h0] at this
          exact this
        clear hst hsp ho
        subst he
        have HR := Lib.hid (HERR.out h0)
        go_wp2_with fail
        refine (hcc _).use ?_
        intro w2 hb2
        have hnx2 := below_any (Nat.le_refl _) hnx hb2
        go_wp2_with fail
        exact HR.out _ hnx2
    · have he : rchecks rs = 0 := by rw [← hch.out]; exact rchecks_end (by omega)
      have he7 := HE.out
      rw [he, if_neg (by simp)] at he7
      have HE7 := Lib.hid he7
      have j1 : ¬ (i : Int) < (rs.length : Int) := by omega
      clear he7 he hch HE
      go_wp2_with fail
      refine (cE.out _ hnx).use ?_
      intro w2 b2
      have b2 := Lib.hid (below_any (Nat.le_refl _) hnx b2)
      clear cE hnx
      obtain ⟨b, cap2, lvs, h1, h2, h3, h4, h5⟩ := (H.out.below b2.out).open hne6
      obtain ⟨k0, y0, y1⟩ := h1.c2
      have h5A := Lib.hid h5
      have h4A := Lib.hid h4
      clear h5 h4
      by_cases hroom2 : room < (rs.length : Int)
      · have he : e6 = 2 := by have := HE7.out; rw [if_pos hroom2] at this; exact this.symm
        subst he
        have HR := Lib.hid (HERR.out (by decide))
        go_wp2_with fail
        exact HR.out _ b2.out
      · have HE8 : Hid ((if 1099511627776 < t.next + (rs.length : Int) then 50 else 0) = e6) := Lib.hid (by have := HE7.out; rw [if_neg hroom2] at this; exact this)
        have q1 : IntKind.i64.wrap (t.next + (rs.length : Int)) = t.next + (rs.length : Int) := by rw [IntKind.wrap_i64]; omega
        clear HE7
        by_cases hfull : 1099511627776 < t.next + (rs.length : Int)
        · have he : e6 = 50 := by have := HE8.out; rw [if_pos hfull] at this; exact this.symm
          subst he
          have HR := Lib.hid (HERR.out (by decide))
          go_wp2_with fail
          exact HR.out _ b2.out
        · have he : e6 = 0 := by have := HE8.out; rw [if_neg hfull] at this; exact this.symm
          subst he
          simp only [if_true] at hR
          clear HE8 HERR
          by_cases h0 : rs.length = 0
          · obtain rfl : rs = [] := List.eq_nil_of_length_eq_zero h0
            have hr : ¬ (([] : List Rec) ≠ [] ∧ room < (t.l.length : Int) + ([] : List Rec).length) := fun h => h.1 rfl
            have hD2 : A ++ [t] = D2 := by rw [← HD2.out, dapp_in HE6.out hr]; simp [fnds]
            go_wp2_with fail
            exact hR.out bs _ (by rw [← hD2]; exact H.out.below b2.out) (Kept.ofBelow b2.out _) (fun x hx => .inl hx)
          · have t0 : ((rs.length : Int) == 0) = false := by simpa using h0
            have q2 : IntKind.i64.wrap ((t.l.length : Int) + (rs.length : Int)) = (t.l.length : Int) + (rs.length : Int) := by rw [IntKind.wrap_i64]; omega
            have hAl : (A ++ [t]).length = A.length + 1 := by simp
            obtain ⟨N, hN⟩ : ∃ N, A.length + 1 = N := ⟨_, rfl⟩
            have q3 : IntKind.i64.wrap ((N : Int) - 1) = (A.length : Int) := by rw [IntKind.wrap_i64]; omega
            have m0 : (0 : Int) ≤ (A.length : Int) := by omega
            have m1 : (A.length : Int) < (N : Int) := by omega
            have hlv1 : A.length < lvs.length := by rw [h4A.out, hAl]; omega
            obtain ⟨-, -, z2, z3⟩ := h5A.out A.length (by rw [hAl]; omega) hlv1
            have hgl : (A ++ [t])[A.length]'(by rw [hAl]; omega) = t := by simp
            rw [hgl] at z3
            obtain ⟨lta, ltc, hlt⟩ := own_form z3
            rw [hlt] at z2
            rw [hAl, hN] at y1
            have HN := Lib.hid hN
            clear z3 hlt hgl h2 hN
            by_cases hroll : room < (t.l.length : Int) + (rs.length : Int)
            case' pos =>
              have hD3 := Lib.hid (HD2.out.symm.trans (dapp_roll HE6.out ⟨fun e => h0 (by rw [e]; rfl), hroll⟩))
              go_wp2_with fail
              go_quiet (fail)
              have b3 := Lib.hid (below_any (Nat.le_refl _) b2.out (belowN (Below.refl w2.heap.size w2) nq))
              generalize w2.drewN nq = w3 at *
              obtain ⟨sv, lvs3, g1, g2, hbs⟩ := H.out.below b3.out
              obtain ⟨va, vc, rfl⟩ := own_form g2.1
              obtain ⟨kk, u0, u1⟩ := g1.c2
              have fz : ∀ i, w3.frozen? ⟨k, i, none⟩ = false := fun i => Blk.frozen g1 i
              have G2 := Lib.hid g2
              have HBS := Lib.hid hbs
              have l1 := Lib.hid g1
              have o1 := World.ownsRow.alloc g2.1 (.cells #[.int .i64 t.next, .int .i64 t.next, .slice none 0 0] 26)
              have n1 : ∀ j u, (sdCells ⟨t.next, t.next, []⟩ (.slice none 0 0))[j]? = some u → (w3.alloc (.cells #[.int .i64 t.next, .int .i64 t.next, .slice none 0 0] 26)).cell? ((⟨w3.heap.size, 0, none⟩ : Addr).add j) = some u := World.news_of_block (cs := (sdCells ⟨t.next, t.next, []⟩ (.slice none 0 0)).toArray) (t := 26) (fr := (0, 0)) (heap_alloc_new w3 _)
              have N1 := Lib.hid n1
              have O1 := Lib.hid o1
              have HAL := Lib.hid hAl
              clear g2 hbs n1 hAl y0 y1 z2 q2 t0
              have hN2 : (A ++ [t]).length ≤ 901 := by simp; omega
              clear h5A h4A h1
              generalize hN1 : (A ++ [t]).length = M at *
              have HNL := Lib.hid hN1
              clear hN1
              go_upto_region 16 with (at_builtin; refine wpList_append_own_at _ rfl _ _ 22 rfl 0 26 i0 _ 3 40 Try.underlying22 hi hz0 hz1 hz2 rfl (by decide) _ _ _ rfl o1 ⟨w3.heap.size, 0, none⟩ 1 1 (sdCells ⟨t.next, t.next, []⟩ (.slice none 0 0)) rfl rfl N1.out (by intro u hu; simp [sdCells] at hu; rcases hu with rfl | rfl | rfl <;> rfl) (by unfold maxLen; omega) (by omega) (by omega) ?_; intro v5 w5 o5 g5 z7 at5; obtain ⟨va5, vc5, rfl⟩ := own_form o5; have S9 := (g1.alloc (.cells #[.int .i64 t.next, .int .i64 t.next, .slice none 0 0] 26)).grown g5 (own_ne o1 (g1.alloc (.cells #[.int .i64 t.next, .int .i64 t.next, .slice none 0 0] 26)) (by decide)); obtain ⟨k9, s0, s1⟩ := S9.c2; have fz9 : ∀ i, w5.frozen? ⟨k, i, none⟩ = false := fun i => Blk.frozen S9 i)
              have hn5 : M = (A ++ [t]).length := HNL.out.symm
              subst hn5
              obtain ⟨cs, L6, K6, C6⟩ := RLogAt.push (s := ⟨t.next, t.next, []⟩) (g1.alloc (.cells #[.int .i64 t.next, .int .i64 t.next, .slice none 0 0] 26)) (G2.out.kept (Kept.ofBelow (below_all (Below.refl _ _)) []) (by simp)) (World.ownsRow_nil _ _ _ _) o5 g5 at5
              have KA : Kept bs w (w3.alloc (.cells #[.int .i64 t.next, .int .i64 t.next, .slice none 0 0] 26)) := Kept.ofBelow (below_any (Nat.le_refl _) b3.out (below_all (Below.refl _ _))) bs
              have KB := KA.trans K6 (fun x hx => .inl (by rw [HBS.out]; exact hx))
              have CB : ∀ x ∈ cs, x ∈ bs ∨ w.heap.size ≤ x := fun x hx => by
                rcases C6 x hx with h | h | h
                · exact .inl (by rw [HBS.out]; exact h)
                · simp [Value.ownBlock] at h
                · exact .inr (Nat.le_trans KA.size h)
              have PK : ∃ A2 t2 cs, RLogAt (w5.setCell ⟨k, 1, none⟩ (.slice va5 ((A ++ [t]).length + 1) vc5)) k cs room (A2 ++ [t2]) ∧ Kept bs w (w5.setCell ⟨k, 1, none⟩ (.slice va5 ((A ++ [t]).length + 1) vc5)) ∧ (∀ x ∈ cs, x ∈ bs ∨ w.heap.size ≤ x) ∧ A2.length ≤ 901 ∧ t2.l.length ≤ 64 ∧ A2 ++ [⟨t2.base, t.next + rs.length, t2.l ++ fnds t.next rs⟩] = D2 :=
                ⟨A ++ [t], ⟨t.next, t.next, []⟩, cs, L6, KB, CB, hN2, by simp, by rw [hD3.out]; rfl⟩
              have PKH := Lib.hid PK
              generalize w5.setCell ⟨k, 1, none⟩ (.slice va5 ((A ++ [t]).length + 1) vc5) = w6 at PKH ⊢
              clear PK K6 KA KB CB C6 L6 S9 k9 s0 s1 fz9 o5 g5 z7 at5 g1 o1 u0 u1 kk fz G2 HBS l1 N1 O1 HAL HNL b3 HN q3 m0 m1 hD3
            case' neg =>
              have hD3 := Lib.hid (HD2.out.symm.trans (dapp_in HE6.out (fun h => hroll h.2)))
              go_upto_region 16 with (fail)
              go_quiet (fail)
              go_upto_region 16 with (fail)
              have b3 := Lib.hid (below_any (Nat.le_refl _) b2.out (belowN (Below.refl w2.heap.size w2) nq))
              have PK : ∃ A2 t2 cs, RLogAt (w2.drewN nq) k cs room (A2 ++ [t2]) ∧ Kept bs w (w2.drewN nq) ∧ (∀ x ∈ cs, x ∈ bs ∨ w.heap.size ≤ x) ∧ A2.length ≤ 901 ∧ t2.l.length ≤ 64 ∧ A2 ++ [⟨t2.base, t.next + rs.length, t2.l ++ fnds t.next rs⟩] = D2 :=
                ⟨A, t, bs, H.out.below b3.out, Kept.ofBelow b3.out bs, fun x hx => .inl hx, by omega, hsl, hD3.out.symm⟩
              have PKH := Lib.hid PK
              generalize w2.drewN nq = w6 at PKH ⊢
              clear PK b3 hAl y0 y1 z2 q2 t0 h5A h4A h1 HN q3 m0 m1 hD3
            all_goals
              obtain ⟨A2, t2, cs, H6, KB, CB, hA2, hl2, hD4⟩ := PKH.out
              have KBH := Lib.hid KB
              have CBH := Lib.hid CB
              have D4 := Lib.hid hD4
              have H6H := Lib.hid H6
              obtain ⟨sv, lvs6, g1, g2, hbs6⟩ := H6
              rcases own_cases g2.1 with ⟨_, h00⟩ | ⟨gb, gc, rfl, _, hglt, _⟩
              · simp at h00
              have hlv6 : A2.length < lvs6.length := by rw [g2.2.1]; simp
              have hN6 : (A2 ++ [t2]).length = A2.length + 1 := by simp
              have cel : ∀ j u, j < 3 → (sdCells t2 lvs6[A2.length])[j]? = some u → w6.cell? ⟨gb, A2.length * 3 + j, none⟩ = some u := fun j u hj hu => by
                rw [g2.1.cellAt (A2.length * 3 + j) (by rw [hN6]; omega), sdsCells_get A2.length j (by rw [hN6]; omega) hlv6 hj]
                simpa using hu
              have c0 := cel 0 _ (by omega) rfl
              have c1 := cel 1 _ (by omega) rfl
              have c2 := cel 2 _ (by omega) rfl
              have own6 : w6.ownsRow 0 31 5 lvs6[A2.length] t2.l.length (t2.l.flatMap Fnd.cells) := by
                have := g2.2.2 A2.length (by rw [hN6]; omega) hlv6
                simpa using this
              have C6 := Lib.hid (fnds_own own6)
              have NS6 := Lib.hid (own_ns own6)
              obtain ⟨la, lc, hlk⟩ := own_form own6
              rw [hlk] at c2 C6 NS6
              have fz : ∀ i, w6.frozen? ⟨gb, i, none⟩ = false := fun i => g2.1.frozenAt i
              obtain ⟨kk, u0, u1⟩ := g1.c2
              obtain ⟨N, hN⟩ : ∃ N, (A2 ++ [t2]).length = N := ⟨_, rfl⟩
              rw [hN] at u1
              have q3 : IntKind.i64.wrap ((N : Int) - 1) = (A2.length : Int) := by rw [IntKind.wrap_i64]; omega
              have m0 : (0 : Int) ≤ (A2.length : Int) := by omega
              have m1 : (A2.length : Int) < (N : Int) := by omega
              have HN := Lib.hid hN
              have G1 := Lib.hid g1
              have G2 := Lib.hid g2
              have HBS6 := Lib.hid hbs6
              simp only [Nat.add_zero] at c0
              clear KB CB hD4 g1 g2 hbs6 cel own6 hlk hN hlv6 hN6 PKH
              go_wp2_with fail
              refine (rseg6 t2 _ w6 C6.out NS6.out (by omega)).use ?_
              intro vx w7 o7 b7
              obtain ⟨xa, xc, rfl⟩ := own_form o7
              have O7 := Lib.hid o7
              have B7 := Lib.hid b7
              have hz7 := b7.size
              have hX7 := Blk.new w7 #[.int .i64 t2.base, .int .i64 t2.next, .slice xa t2.l.length xc] 26
              have hO7 := World.ownsRow.alloc o7 (.cells #[.int .i64 t2.base, .int .i64 t2.next, .slice xa t2.l.length xc] 26)
              have hB7 := below_all (o := .cells #[.int .i64 t2.base, .int .i64 t2.next, .slice xa t2.l.length xc] 26) b7
              have HV6 := Lib.hid (HV.out.kept KBH.out HA.out)
              have hrs : rs.length ≤ 64 := by omega
              clear o7 b7 c0 c1 c2 kk u0 u1 fz q3 O7 B7
              go_wp2_with fail
              generalize w7.alloc (.cells #[.int .i64 t2.base, .int .i64 t2.next, .slice xa t2.l.length xc] 26) = w8 at *
              generalize w7.heap.size = X at *
              go_loopw [11] (fun (v11 : Value) (W : World) => ∃ (m : Nat) (lx : Value), m ≤ rs.length ∧ v11 = .int .i64 (m : Int) ∧ Blk W X #[.int .i64 t2.base, .int .i64 t2.next, lx] 26 ∧ W.ownsRow w6.heap.size 31 5 lx (t2.l ++ fnds t.next (rs.take m)).length ((t2.l ++ fnds t.next (rs.take m)).flatMap Fnd.cells) ∧ Below w6.heap.size w6 W) (fun (v11 : Value) (W : World) => (rs.length - intOf v11).toNat)
              case atStart => exact ⟨0, _, by omega, rfl, hX7, by simpa [fnds] using hO7, hB7⟩
              case round =>
                obtain ⟨m, lx, hm, rfl, hX, hO, hnx⟩ := hrel
                have hfl : (t2.l ++ fnds t.next (rs.take m)).length ≤ 128 := by rw [List.length_append, fnds_len, List.length_take]; omega
                obtain ⟨la2, lc2, rfl⟩ := own_form hO
                obtain ⟨k0, x0, x1, x2⟩ := hX.c3
                have cf := fun i => Blk.frozen hX i
                have hzr := hnx.size
                clear hX7 hO7 hB7
                by_cases hkl2 : m < rs.length
                · rcases HV6.out.below hnx with ⟨h, _⟩ | ⟨b, off, cap', hsl, hne, hlt, hc⟩
                  · rw [h] at hkl2; simp at hkl2
                  simp only [Value.slice.injEq, true_and] at hsl
                  obtain ⟨rfl, rfl⟩ := hsl
                  obtain ⟨y0, y1, y2, y3⟩ := hc m hkl2
                  have hft := Lib.hid (fnds_take rs t.next hkl2)
                  have i1 : (0 : Int) ≤ (m : Int) := by omega
                  have i2 : (m : Int) < (rs.length : Int) := by omega
                  have e5 : IntKind.i64.wrap (t.next + (m : Int)) = t.next + (m : Int) := by rw [IntKind.wrap_i64]; omega
                  clear hc hne
                  generalize rs[m] = r at *
                  generalize hfs : t2.l ++ fnds t.next (rs.take m) = fs at *
                  have HFS := Lib.hid hfs
                  clear hfs
                  go_wp2_with fail
                  go_region_law (refine step_append_lies _ (by rfl) _ _ _ (by rfl) w6.heap.size 31 j0 _ 5 56 Try.underlying24 hj hy0 hy1 hy2 rfl (by omega) (.slice la2 fs.length lc2) fs.length (fs.flatMap Fnd.cells) (by simp [Act.eval, Act.put]) (World.ownsRow.alloc (w := wr.drew) hO _) ⟨wr.heap.size, 0, none⟩ 1 1 (⟨t.next + m, r⟩ : Fnd).cells (by simp [Act.eval, Act.put]) rfl (news_fnd (W := wr.drew) (⟨t.next + m, r⟩ : Fnd) rfl) (by simp [Value.oneCell', Fnd.cells, Rec.cells]) (by omega) (by unfold maxLen; omega) (by omega) (by simp; omega) (wr.heap.size + 1) (by simp) ?_; intro g3 c3 w3 hown3 hgrow3 hat3 hlt3; have bb := (Blk.alloc (w := wr.drew) hX (.cells (⟨t.next + m, r⟩ : Fnd).cells.toArray 31)).grown hgrow3 (own_ne (World.ownsRow.alloc (w := wr.drew) hO (.cells (⟨t.next + m, r⟩ : Fnd).cells.toArray 31)) (Blk.alloc (w := wr.drew) hX (.cells (⟨t.next + m, r⟩ : Fnd).cells.toArray 31)) (by decide)); obtain ⟨kk, pp0, pp1, pp2⟩ := bb.c3; have ff := fun i => Blk.frozen bb i)
                  all_goals go_wp2_with fail
                  all_goals
                    have hown4 : w3.ownsRow w6.heap.size 31 5 (.slice (some ⟨g3, 0, none⟩) (fs.length + 1) c3) (fs ++ [(⟨t.next + m, r⟩ : Fnd)]).length ((fs ++ [(⟨t.next + m, r⟩ : Fnd)]).flatMap Fnd.cells) := by simpa using hown3
                    have hg4 : w3.grownBy (w3.setCell ⟨X, 2, none⟩ (.slice (some ⟨g3, 0, none⟩) (fs.length + 1) c3)) (some X) := grown_set (grown_refl _ _) _ _
                    have n1 := below_all (o := .cells (⟨t.next + m, r⟩ : Fnd).cells.toArray 31) hnx.drew
                    have n2 := Kept.below n1 (Kept.ofGrown hgrow3) (fun x hx => by simp only [Option.mem_toList] at hx; exact (hO.lt x hx).1) n1.size
                    have n3 := Lib.hid (Kept.below n2 (Kept.ofGrown hg4) (fun x hx => by simp at hx; omega) n2.size)
                    have o5 := Lib.hid (hown4.kept hg4 (.inr (Ne.symm (own_ne hown4 bb (by decide)))))
                    clear n1 n2 hg4 hown4 hown3 hgrow3 hat3
                    go_roundw
                    case rel => exact ⟨m + 1, _, by omega, by go_num, bb.set 2 _, by rw [hft.out, ← List.append_assoc, HFS.out]; exact o5.out, n3.out⟩
                    case measure => first | (simp [intOf]; done) | (simp [intOf]; omega)
                · obtain rfl : m = rs.length := by omega
                  rw [List.take_length] at hO x2 hfl
                  have hX9 : Blk (wr.setCell ⟨X, 1, none⟩ (.int .i64 (t.next + rs.length))) X #[.int .i64 t2.base, .int .i64 (t.next + rs.length), .slice la2 (t2.l ++ fnds t.next (rs.take rs.length)).length lc2] 26 := hX.set 1 _
                  rw [List.take_length] at hX9 hX
                  have hO9 := hO.kept (grown_set (grown_refl wr (some X)) 1 (.int .i64 (t.next + rs.length))) (.inr (Ne.symm (own_ne hO hX (by decide))))
                  have hN9 := Kept.below hnx (kept_set (b := X) 1 (.int .i64 (t.next + rs.length))) (by simp; omega) hnx.size
                  have X9 := Lib.hid hX9
                  have O9 := Lib.hid hO9
                  have N9 := Lib.hid hN9
                  clear hX9 hO9 hN9 hnx
                  go_upto_region 23 with (fail)
                  generalize hw9 : wr.setCell ⟨X, 1, none⟩ (.int .i64 (t.next + rs.length)) = w9 at X9 O9 N9 ⊢
                  clear hw9 cf x0 x1 x2 k0 hX hO m0 m1 q1
                  have G1' := G1.out.below N9.out
                  have G2' := G2.out.kept (Kept.ofBelow N9.out []) (by simp)
                  have q0 : (0 : Int) ≤ (A2.length : Int) := by omega
                  have hN6 : (A2 ++ [t2]).length = A2.length + 1 := by simp
                  obtain ⟨k9, x0, x1, x2⟩ := X9.out.c3
                  obtain ⟨kk, u0, u1⟩ := G1'.c2
                  rw [HN.out] at u1
                  have qn : A2.length < N := by have := HN.out; omega
                  have q2 : (A2.length : Int) < (N : Int) := by omega
                  have q3 : A2.length * 3 + 2 < (A2 ++ [t2]).length * 3 := by omega
                  have s0 := G2'.1.cellAt (A2.length * 3) (by omega)
                  have s1 := G2'.1.cellAt (A2.length * 3 + 1) (by omega)
                  have s2 := G2'.1.cellAt (A2.length * 3 + 2) (by omega)
                  have hlv6 : A2.length < lvs6.length := by rw [G2'.2.1]; omega
                  have hg := sdsCells_get (D := A2 ++ [t2]) (lvs := lvs6) A2.length
                  rw [show A2.length * 3 = A2.length * 3 + 0 from rfl, hg 0 (by omega) hlv6 (by omega)] at s0
                  rw [hg 1 (by omega) hlv6 (by omega)] at s1
                  rw [hg 2 (by omega) hlv6 (by omega)] at s2
                  simp only [sdCells, List.getElem?_cons_zero, List.getElem?_cons_succ, Nat.add_zero] at s0 s1 s2
                  have fz : ∀ i, w9.frozen? ⟨gb, i, none⟩ = false := fun i => G2'.1.frozenAt i
                  have hgl9 : gb < w9.heap.size := Nat.lt_of_lt_of_le hglt N9.out.size
                  have G1h := Lib.hid G1'
                  have G2h := Lib.hid G2'
                  generalize lvs6[A2.length] = lq at *
                  generalize hq : (A2 ++ [t2])[A2.length] = tq at *
                  clear G1' G2' hg hq hlv6 hN6 hglt
                  go_region_with (fail)
                  all_goals go_wp2_with fail
                  all_goals
                    rw [show t2.l.length + (fnds t.next rs).length = (t2.l ++ fnds t.next rs).length from List.length_append.symm]
                    obtain ⟨cs2, LL, KK, CC⟩ := RLogAt.last (s := ⟨t2.base, t.next + rs.length, t2.l ++ fnds t.next rs⟩) G1h.out G2h.out (own_base O9.out (Nat.zero_le _))
                    have hin : ∀ x ∈ k :: gb :: vBs lvs6, x ∈ cs := fun x hx => by rw [HBS6.out]; simpa [Value.ownBlock] using hx
                    rw [D4.out] at LL
                    refine hR.out cs2 _ LL.drew ((KBH.out.bel N9.out).trans KK (fun x hx => CBH.out x (hin x (by simp at hx; simp [hx])))).drew' (fun x hx => ?_)
                    rcases CC x hx with h | h
                    · exact CBH.out x (hin x h)
                    · simp only [Option.mem_toList] at h
                      exact .inr (Nat.le_trans KBH.out.size (O9.out.lt x h).1)
end Go.Proofs.Ytkfglnhapcceaaa
