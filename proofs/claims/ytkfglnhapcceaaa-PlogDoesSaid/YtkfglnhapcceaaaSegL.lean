import Derived.Test.YtkfglnhapcceaaaSegK
/-
  Layer 5: the document's segment loaded.
-/
set_option linter.unusedVariables false
set_option linter.unusedSimpArgs false
namespace Go.Proofs.Ytkfglnhapcceaaa
open Go.RowKit
attribute [local go_sem] ByteArray.extract_mk ByteArray.mk_append_mk

set_option maxHeartbeats 4000000 in
set_option maxRecDepth 100000 in
theorem rload5_args (base next : Int) (v : Value) (l : List Fnd) (w : World) (hv : FndsIn w v l) (hll : l.length ≤ 9223372036854775807) (h : (!numB base || !numB next || decide (next < base) || decide (64 < l.length)) = true) :
    RetB Try.prog 34 #[.int .i64 base, .int .i64 next, v] w (.tuple #[.pointer none, .int .i64 1]) := by
  refine RetB.intro fun R hR => ?_
  obtain ⟨a, cap, rfl⟩ := hv.form
  clear hv
  have c1 := fun w => rnum_any base w
  have c2 := fun w => rnum_any next w
  by_cases h1 : numB base = true
  · rw [h1] at c1
    by_cases h2 : numB next = true
    · rw [h2] at c2
      by_cases h3 : next < base
      · clear h h1 h2
        go_enter Try.func34, Try.ntmps34
        go_wp2_with (first | (go_at_call_of 60 (Value.int .i64 base); refine (c1 _).use ?_) | (go_at_call_of 60 (Value.int .i64 next); refine (c2 _).use ?_))
        exact finB hR (Below.refl _ _) rfl
      · have h4 : 64 < l.length := by simpa [h1, h2, h3] using h
        have h5 : ((64 : Int) < (l.length : Int)) = True := eq_true (by omega)
        clear h h1 h2
        go_enter Try.func34, Try.ntmps34
        go_wp2_with (first | (go_at_call_of 60 (Value.int .i64 base); refine (c1 _).use ?_) | (go_at_call_of 60 (Value.int .i64 next); refine (c2 _).use ?_))
        exact finB hR (Below.refl _ _) rfl
    · have h2 : numB next = false := by simpa using h2
      rw [h2] at c2
      clear h h1 h2
      go_enter Try.func34, Try.ntmps34
      go_wp2_with (first | (go_at_call_of 60 (Value.int .i64 base); refine (c1 _).use ?_) | (go_at_call_of 60 (Value.int .i64 next); refine (c2 _).use ?_))
      exact finB hR (Below.refl _ _) rfl
  · have h1 : numB base = false := by simpa using h1
    rw [h1] at c1
    clear h h1
    go_enter Try.func34, Try.ntmps34
    go_wp2_with (first | (go_at_call_of 60 (Value.int .i64 base); refine (c1 _).use ?_) | (go_at_call_of 60 (Value.int .i64 next); refine (c2 _).use ?_))
    exact finB hR (Below.refl _ _) rfl

/-- How a loading of the document's ends. -/
def RLoadCall (f : FuncId) (args : Array Value) (w : World) (base next : Int) (l : List Fnd) : Prop :=
  Calls Try.prog f args w fun x w' => (lerr base next l = 0 ∧ ∃ p, x = .returned (.tuple #[.pointer (some ⟨p, 0, none⟩), .int .i64 0]) ∧ RSegAt w' p base next l ∧ Below w.heap.size w w') ∨
    (lerr base next l ≠ 0 ∧ x = .returned (.tuple #[.pointer none, .int .i64 (lerr base next l : Nat)]) ∧ Below w.heap.size w w')
theorem lastOf_pos (base : Int) (l : List Fnd) {k : Nat} (h0 : 0 < k) (hk : k - 1 < l.length) : lastOf base l k = l[k - 1].off := by
  unfold lastOf
  rw [dif_pos ⟨h0, hk⟩]

set_option maxHeartbeats 8000000 in
set_option maxRecDepth 100000 in
theorem rload5_any (base next : Int) (v : Value) (l : List Fnd) (w : World) (hv : FndsIn w v l) (hns : (∃ ad n c, v = .slice (some ad) n c) ∨ v = .slice none 0 0) (hll : l.length ≤ 9223372036854775807) (hbd : ∀ f ∈ l, RecBd f.r) : RLoadCall 34 #[.int .i64 base, .int .i64 next, v] w base next l := by
  by_cases h : (!numB base || !numB next || decide (next < base) || decide (64 < l.length)) = true
  · have he : lerr base next l = 1 := by unfold lerr; rw [if_pos h]
    refine (rload5_args base next v l w hv hll h).mono fun e w' ⟨h1, h2⟩ => .inr ⟨by omega, by rw [h1, he]; rfl, h2⟩
  · have h1 : numB base = true ∧ numB next = true ∧ ¬ next < base ∧ ¬ 64 < l.length := by simpa [and_assoc] using h
    have hle : lerr base next l = if inOrder (base - 1) next l = false then 1 else rchecks (l.map Fnd.r) := by unfold lerr; rw [if_neg h]
    obtain ⟨h1, h2, h3, h4⟩ := h1
    have c1 := fun w => rnum_any base w
    have c2 := fun w => rnum_any next w
    rw [h1] at c1
    rw [h2] at c2
    have h5 : ((64 : Int) < (l.length : Int)) = False := eq_false (by omega)
    have HV := Lib.hid hv
    have HB := Lib.hid hbd
    have HLE := Lib.hid hle
    obtain ⟨a, cap, rfl⟩ := hv.form
    have HA : Hid ((∃ ad, a = some ad) ∨ (a = none ∧ cap = 0 ∧ l = [])) := Lib.hid (by
      rcases hns with ⟨ad0, nn0, cc0, hns⟩ | hns
      · simp only [Value.slice.injEq] at hns
        exact .inl ⟨ad0, hns.1⟩
      · simp only [Value.slice.injEq] at hns
        exact .inr ⟨hns.1, hns.2.2, List.eq_nil_of_length_eq_zero hns.2.1⟩)
    clear hns
    obtain ⟨i0, hi, hz0, hz1, hz2⟩ := info_parts fndInfo
    clear h hv hbd hle h1 h2
    unfold RLoadCall
    go_enter Try.func34, Try.ntmps34
    go_wp2_with (first | (go_at_call_of 60 (Value.int .i64 base); refine (c1 _).use ?_) | (go_at_call_of 60 (Value.int .i64 next); refine (c2 _).use ?_))
    go_loopw [8] (fun (v8 : Value) (W : World) => ∃ (k : Nat), k ≤ l.length ∧ v8 = .int .i64 (k : Int) ∧ base - 1 ≤ lastOf base l k ∧ Below w.heap.size w W ∧ Hid (inOrder (lastOf base l k) next (l.drop k) = inOrder (base - 1) next l)) (fun (v8 : Value) (W : World) => (l.length - intOf v8).toNat)
    case atStart => exact ⟨0, by omega, rfl, by show base - 1 ≤ base - 1; omega, Below.refl _ _, Lib.hid rfl⟩
    case round =>
      obtain ⟨k, hk, rfl, hbl, hnx, hord⟩ := hrel
      by_cases hkl : k < l.length
      · rcases HV.out.below hnx with ⟨h, _⟩ | ⟨b, off, cap', hsl, hcap, hne, hlt, hc⟩
        · rw [h] at hkl; simp at hkl
        simp only [Value.slice.injEq, true_and] at hsl
        obtain ⟨rfl, rfl⟩ := hsl
        obtain ⟨x0, x1, x2, x3, x4⟩ := hc k hkl
        have hla := Lib.hid (lastOf_step base l hkl)
        have hos := Lib.hid ((order_step (base := base) (next := next) hkl).symm.trans hord.out)
        rw [hla.out] at hos
        have hfalse : ¬ (lastOf base l k < l[k].off ∧ l[k].off < next) → Hid (lerr base next l ≠ 0 ∧ lerr base next l = 1) := fun hin => Lib.hid (by
          have h2 : inOrder (base - 1) next l = false := by rw [← hos.out, show (decide (lastOf base l k < l[k].off) && decide (l[k].off < next)) = false by simp only [Bool.and_eq_false_iff, decide_eq_false_iff_not]; omega]; rfl
          have h3 : lerr base next l = 1 := by rw [HLE.out, if_pos h2]
          exact ⟨by rw [h3]; simp, h3⟩)
        have htrue : (lastOf base l k < l[k].off ∧ l[k].off < next) → Hid (inOrder (lastOf base l (k + 1)) next (l.drop (k + 1)) = inOrder (base - 1) next l) := fun ⟨hin1, hin2⟩ => Lib.hid (by
          have h2 := hos.out
          rw [decide_eq_true hin1, decide_eq_true hin2] at h2
          rw [hla.out]
          simpa using h2)
        have i1 : (0 : Int) ≤ (k : Int) := by omega
        have i2 : (k : Int) < (l.length : Int) := by omega
        by_cases h0 : k = 0
        · have hl0 : lastOf base l k = base - 1 := by subst h0; rfl
          rw [hl0] at hfalse htrue hbl
          have i3 : ((0 : Int) < (k : Int)) = False := eq_false (by omega)
          have i6 : (0 < k) = False := eq_false (by omega)
          clear hc hne hord hos x1 x2 x3 x4 h0 hl0
          generalize l[k] = f at *
          by_cases hb : f.off < base
          · have hf := hfalse (by omega)
            clear hfalse htrue
            go_wp2_with fail
            go_quiet (fail)
            go_wp2_with fail
            go_ret2
            exact .inr ⟨hf.out.1, by rw [hf.out.2]; rfl, belowN hnx _⟩
          · have hbF : (f.off < base) = False := eq_false hb
            by_cases hn : f.off < next
            · have hnF : (next ≤ f.off) = False := eq_false (by omega)
              have ht := htrue (by omega)
              clear hfalse htrue
              go_wp2_with fail
              go_quiet (fail)
              go_wp2_with fail
              go_roundw
              case rel => exact ⟨k + 1, by omega, by go_num, by rw [hla.out]; omega, belowN hnx _, ht⟩
              case measure => simp [intOf]; omega
            · have hnF : (next ≤ f.off) = True := eq_true (by omega)
              have hf := hfalse (by omega)
              clear hfalse htrue
              go_wp2_with fail
              go_quiet (fail)
              go_wp2_with fail
              go_ret2
              exact .inr ⟨hf.out.1, by rw [hf.out.2]; rfl, belowN hnx _⟩
        · obtain ⟨y, hy⟩ : ∃ y, k - 1 = y := ⟨_, rfl⟩
          have hyl : y < l.length := by omega
          obtain ⟨z0, z1, z2, z3, z4⟩ := hc y hyl
          have hl0 : lastOf base l k = l[y].off := by subst hy; exact lastOf_pos base l (by omega) (by omega)
          rw [hl0] at hfalse htrue hbl
          have e1 : IntKind.i64.wrap ((k : Int) - 1) = (y : Int) := by rw [IntKind.wrap_i64]; omega
          have i3 : ((0 : Int) < (k : Int)) = True := eq_true (by omega)
          have i6 : (0 < k) = True := eq_true (by omega)
          have i4 : (0 : Int) ≤ (y : Int) := by omega
          have i5 : (y : Int) < (l.length : Int) := by omega
          clear hc hne hord hos x1 x2 x3 x4 z1 z2 z3 z4 hl0
          generalize l[k] = f at *
          generalize l[y] = g at *
          by_cases hb : f.off < base
          · have hf := hfalse (by omega)
            clear hfalse htrue
            go_wp2_with fail
            go_quiet (fail)
            go_wp2_with fail
            go_ret2
            exact .inr ⟨hf.out.1, by rw [hf.out.2]; rfl, belowN hnx _⟩
          · have hbF : (f.off < base) = False := eq_false hb
            by_cases hn : f.off < next
            · have hnF : (next ≤ f.off) = False := eq_false (by omega)
              by_cases hg : g.off < f.off
              · have ht := htrue (by omega)
                have t1 : (f.off ≤ g.off) = False := eq_false (by omega)
                clear hfalse htrue
                go_wp2_with fail
                go_quiet (fail)
                go_wp2_with fail
                go_roundw
                case rel => exact ⟨k + 1, by omega, by go_num, by rw [hla.out]; omega, belowN hnx _, ht⟩
                case measure => simp [intOf]; omega
              · have hf := hfalse (by omega)
                have t1 : (f.off ≤ g.off) = True := eq_true (by omega)
                clear hfalse htrue
                go_wp2_with fail
                go_quiet (fail)
                go_wp2_with fail
                go_ret2
                exact .inr ⟨hf.out.1, by rw [hf.out.2]; rfl, belowN hnx _⟩
            · have hnF : (next ≤ f.off) = True := eq_true (by omega)
              have hf := hfalse (by omega)
              clear hfalse htrue
              go_wp2_with fail
              go_quiet (fail)
              go_wp2_with fail
              go_ret2
              exact .inr ⟨hf.out.1, by rw [hf.out.2]; rfl, belowN hnx _⟩
      · obtain rfl : k = l.length := by omega
        have hor : Hid (lerr base next l = rchecks (l.map Fnd.r)) := Lib.hid (by
          have h := hord.out
          rw [List.drop_length] at h
          rw [HLE.out, ← h]
          rfl)
        clear HLE hord hbl
        clear h5
        go_wp2_with fail
        go_loopw [9, 10] (fun (v9 v10 : Value) (W : World) => ∃ (k : Nat), k ≤ l.length ∧ v9 = .int .i64 (k : Int) ∧ Hid (rchecks ((l.map Fnd.r).drop k) = rchecks (l.map Fnd.r)) ∧ Below w.heap.size w W) (fun (v9 v10 : Value) (W : World) => (l.length - intOf v9).toNat)
        case atStart => exact ⟨0, by omega, rfl, Lib.hid rfl, hnx⟩
        case round =>
          obtain ⟨k, hk2, rfl, hch, hny⟩ := hrel
          by_cases hkl2 : k < l.length
          · rcases HV.out.below hny with ⟨h, _⟩ | ⟨b, off, cap', hsl, hcap, hne, hlt, hc⟩
            · rw [h] at hkl2; simp at hkl2
            simp only [Value.slice.injEq, true_and] at hsl
            obtain ⟨rfl, rfl⟩ := hsl
            obtain ⟨x0, x1, x2, x3, x4⟩ := hc k hkl2
            have hbk := HB.out _ (List.getElem_mem hkl2)
            have hcc := fun w => r3check_any l[k].r.hk l[k].r.tb l[k].r.key l[k].r.val w hbk.1 hbk.2
            have hok : rcheck l[k].r.hk l[k].r.key l[k].r.tb l[k].r.val = l[k].r.ok := rfl
            rw [hok] at hcc
            have hkm : k < (l.map Fnd.r).length := by simpa using hkl2
            have hge : (l.map Fnd.r)[k] = l[k].r := by simp
            have hst := fun h => Lib.hid (rchecks_step hkm h)
            have hsp := fun h => Lib.hid (rchecks_stop hkm h)
            rw [hge] at hst hsp
            have i1 : (0 : Int) ≤ (k : Int) := by omega
            have i2 : (k : Int) < (l.length : Int) := by omega
            clear hok hbk hge hkm hc hne x0
            generalize l[k] = f at *
            obtain ⟨o, ho⟩ : ∃ o, f.r.ok = o := ⟨_, rfl⟩
            rw [ho] at hcc hst hsp
            clear ho
            by_cases h0 : o = 0
            · subst h0
              have hst0 := hst rfl
              have hcc : ∀ w, RetB Try.prog 42 _ w (.int .i64 0) := hcc
              clear hsp hst
              go_wp2_with fail
              refine (hcc _).use ?_
              intro w2 b2
              go_wp2_with fail
              go_roundw
              case rel => exact ⟨k + 1, by omega, by go_num, Lib.hid (hst0.out.trans hch.out), below_any (Nat.le_refl _) hny b2⟩
              case measure => simp [intOf]; omega
            · have hsp0 := hsp h0
              have hne : ((o : Int) != 0) = true := by simpa using h0
              have he2 : Hid (lerr base next l = o) := Lib.hid (by rw [hor.out, ← hch.out, hsp0.out])
              clear hst hsp
              go_wp2_with fail
              refine (hcc _).use ?_
              intro w2 b2
              go_wp2_with fail
              go_ret2
              exact .inr ⟨by rw [he2.out]; exact h0, by rw [he2.out]; rfl, below_any (Nat.le_refl _) hny b2⟩
          · have he : Hid (lerr base next l = 0) := Lib.hid (by rw [hor.out, ← hch.out]; exact rchecks_end (by simp; omega))
            have hin := HV.out.below hny
            have o0 : (wr.alloc (.cells #[] 31)).ownsRow wr.heap.size 31 5 (.slice (some ⟨wr.heap.size, 0, none⟩) 0 0) 0 [] := World.ownsRow_made wr #[] 0 (Nat.le_refl _) (by omega) rfl
            have hn := fcells_len l
            rcases HA.out with ⟨ad0, rfl⟩ | ⟨rfl, rfl, rfl⟩
            · have hnew : ∀ o, ∀ j u, (l.flatMap Fnd.cells)[j]? = some u → (wr.alloc o).cell? (ad0.add j) = some u := fun o => by
                rcases hin with ⟨rfl, _⟩ | ⟨b, off, cap', h, _, _, hlt, hc⟩
                · intro j u hj; simp at hj
                · simp only [Value.slice.injEq, Option.some.injEq] at h
                  obtain ⟨rfl, _, rfl⟩ := h
                  exact fnews_at fun i h => (hc i h).keep fun k => (below_all (o := o) (Below.refl _ _)).cell (p := ⟨b, k, none⟩) hlt
              go_wp2_with (at_builtin; refine wpList_append_own _ rfl _ _ 24 rfl wr.heap.size 31 i0 _ 5 56 Try.underlying24 hi hz0 hz1 hz2 rfl (by decide) _ _ _ rfl o0 ad0 l.length cap (l.flatMap Fnd.cells) rfl hn (hnew _) (fcells_one _) (by unfold maxLen; omega) (by omega) (by simp) ?_)
              intro v' w1 o1 g1 z1
              have o1 : w1.ownsRow wr.heap.size 31 5 v' l.length (l.flatMap Fnd.cells) := by simpa using o1
              have G1 := below_own (below_all (Below.refl wr.heap.size wr)) (Nat.le_refl _) (by simp) g1
              obtain ⟨va, vc, rfl⟩ := own_form o1
              go_wp2_with fail
              go_ret2
              exact .inl ⟨he.out, _, rfl, ⟨_, Blk.new _ _ _, (fnds_own o1).alloc _⟩, below_any (Nat.le_refl _) hny (below_all G1)⟩
            · clear o0 hn
              have o0 : (wr.alloc (.cells #[] 31)).ownsRow wr.heap.size 31 5 (.slice (some ⟨wr.heap.size, 0, none⟩) 0 0) 0 [] := World.ownsRow_made wr #[] 0 (Nat.le_refl _) (by omega) rfl
              go_wp2_with (at_builtin; refine wpList_append_own_none rfl _ _ 24 rfl wr.heap.size 31 i0 5 Try.underlying24 hi _ _ _ rfl o0 rfl ?_)
              go_ret2
              have hB := Blk.new (wr.alloc (.cells #[] 31)) #[.int .i64 base, .int .i64 next, .slice (some ⟨wr.heap.size, 0, none⟩) 0 0] 100
              rw [World.size_alloc] at hB
              exact .inl ⟨he.out, _, rfl, ⟨_, hB, .inl ⟨rfl, _, _, rfl⟩⟩, below_any (Nat.le_refl _) hny (below_all (below_all (Below.refl _ _)))⟩
theorem rload5 (base next : Int) (v : Value) (l : List Fnd) (w : World) (hv : FndsIn w v l) (hns : ∃ ad n c, v = .slice (some ad) n c) (hll : l.length ≤ 9223372036854775807) (hbd : ∀ f ∈ l, RecBd f.r) : RLoadCall 34 #[.int .i64 base, .int .i64 next, v] w base next l :=
  rload5_any base next v l w hv (.inl hns) hll hbd
end Go.Proofs.Ytkfglnhapcceaaa
