/-
  Layer 3, plain: what is put is got; what is got was put.
-/
import Derived.Test.YtikcpfoehapndaaRecQ
set_option linter.unusedVariables false
set_option linter.unusedSimpArgs false
namespace Go.Proofs.Ytikcpfoehapndaa
open Go.RowKit

/-- From a to b stands t. -/
def At (s : List UInt8) (a : Int) (t : List UInt8) (b : Int) : Prop := ∃ A B, s = A ++ (t ++ B) ∧ a = A.length ∧ b = (A.length : Int) + t.length
theorem At.trans {s t u : List UInt8} {a b c : Int} (h : At s a t b) (k : At s b u c) : At s a (t ++ u) c := by
  obtain ⟨A, B, h0, rfl, rfl⟩ := h
  obtain ⟨A', B', h1, h2, rfl⟩ := k
  rw [h0, ← List.append_assoc] at h1
  have hl : (A ++ t).length = A'.length := by rw [List.length_append]; omega
  have e1 := List.append_inj_left h1 hl
  have e2 := List.append_inj_right h1 hl
  refine ⟨A, B', by rw [h0, e2, List.append_assoc], rfl, ?_⟩
  rw [← e1]; simp; omega
theorem At.split {s t u : List UInt8} {a c : Int} (h : At s a (t ++ u) c) : At s a t (a + t.length) ∧ At s (a + t.length) u c := by
  obtain ⟨A, B, h0, rfl, rfl⟩ := h
  exact ⟨⟨A, u ++ B, by rw [h0, List.append_assoc], rfl, rfl⟩, ⟨A ++ t, B, by rw [h0]; simp, by simp, by simp; omega⟩⟩
theorem At.range {s t : List UInt8} {a b : Int} (h : At s a t b) : 0 ≤ a ∧ b = a + t.length ∧ b ≤ s.length := by
  obtain ⟨A, B, rfl, rfl, rfl⟩ := h
  refine ⟨by omega, rfl, by simp; omega⟩
theorem At.nil {s : List UInt8} {a : Int} (h : 0 ≤ a ∧ a ≤ s.length) : At s a [] a :=
  ⟨s.take a.toNat, s.drop a.toNat, by simp, by rw [List.length_take]; omega, by rw [List.length_take]; simp; omega⟩
theorem At.of {s : List UInt8} {a : Nat} (n : Nat) (h : a + n ≤ s.length) : At s a ((s.drop a).take n) (a + n : Nat) :=
  ⟨s.take a, s.drop (a + n), by rw [← List.drop_drop, List.take_append_drop, List.take_append_drop], by rw [List.length_take]; omega, by rw [List.length_take, List.length_take, List.length_drop]; omega⟩
theorem At.here (A t B : List UInt8) : At (A ++ (t ++ B)) A.length t ((A.length : Int) + t.length) := ⟨A, B, rfl, rfl, rfl⟩
theorem At.zero {s t : List UInt8} {b : Int} (h : At s 0 t b) : ∃ B, s = t ++ B ∧ b = t.length := by
  obtain ⟨A, B, h0, h1, rfl⟩ := h
  have : A = [] := List.eq_nil_of_length_eq_zero (by omega)
  subst this
  exact ⟨B, by simpa using h0, by simp⟩

theorem vget_at {s : List UInt8} {a b : Int} {n : Nat} (h : vget s a = (n, b, 0)) : At s a (vput n) b ∧ n < 18446744073709551616 := by
  obtain ⟨h1, h2, _, _⟩ := vget_bd s a
  rw [h] at h1 h2
  obtain ⟨h3, h4, h5⟩ := h2 rfl
  simp only at h1 h4 h5
  refine ⟨?_, h1⟩
  obtain ⟨k, rfl⟩ : ∃ k : Nat, a = k := ⟨a.toNat, by omega⟩
  have h6 : vget (s.drop k) 0 = (n, b - k, 0) := by
    unfold vget at h ⊢
    rw [if_pos ⟨by omega, by omega⟩] at h
    rw [if_pos ⟨by omega, by simp⟩]
    simp only [Int.toNat_natCast] at h
    simp only [Int.toNat_zero, List.drop_zero]
    by_cases hz : (vgetL (s.drop k) 0 0).2.2 = 0
    · rw [if_pos hz] at h ⊢
      simp only [Prod.mk.injEq] at h ⊢
      refine ⟨h.1, ?_, trivial⟩
      have := h.2.1
      omega
    · rw [if_neg hz] at h
      simp only [Prod.mk.injEq] at h
      exfalso; omega
  obtain ⟨h7, h8, h9⟩ := vget_back h6
  rw [h9]
  rw [List.length_drop] at h8
  have := At.of (s := s) (a := k) (b - k).toNat (by omega)
  rw [show ((k + (b - (k : Int)).toNat : Nat) : Int) = b by omega] at this
  exact this
theorem at_vget {s : List UInt8} {a b : Int} {n : Nat} (h : At s a (vput n) b) (hn : n < 18446744073709551616) : vget s a = (n, b, 0) := by
  obtain ⟨A, B, rfl, rfl, rfl⟩ := h
  exact vget_put A n B hn
theorem vtext_at {s l : List UInt8} {a b most : Int} (h : vtext s a most = (l, b, 0)) : At s a (vtxt l) b ∧ (l.length : Int) ≤ most := by
  obtain ⟨⟨n, p, e⟩, hv⟩ : ∃ y, vget s a = y := ⟨_, rfl⟩
  unfold vtext at h
  rw [hv] at h
  simp only at h
  split at h
  · rename_i h0; simp only [Prod.mk.injEq] at h; exact absurd h.2.2 h0
  · rename_i h0
    simp only [ne_eq, Decidable.not_not] at h0
    subst h0
    obtain ⟨h1, _⟩ := vget_at hv
    obtain ⟨h2, h3, h4⟩ := h1.range
    split at h
    · simp only [Prod.mk.injEq] at h; exact absurd h.2.2 (by decide)
    · split at h
      · simp only [Prod.mk.injEq] at h; exact absurd h.2.2 (by decide)
      · simp only [Prod.mk.injEq, and_true] at h
        obtain ⟨rfl, rfl⟩ := h
        have hp := vput_pos n
        have hl : ((s.drop p.toNat).take n).length = n := by rw [List.length_take, List.length_drop]; omega
        have h5 := At.of (s := s) (a := p.toNat) n (by omega)
        rw [show ((p.toNat : Nat) : Int) = p by omega, show ((p.toNat + n : Nat) : Int) = p + n by omega] at h5
        refine ⟨?_, by omega⟩
        unfold vtxt
        rw [hl]
        exact h1.trans h5
theorem at_vtext {s l : List UInt8} {a b most : Int} (h : At s a (vtxt l) b) (hl : l.length < 18446744073709551616) (hm : (l.length : Int) ≤ most) : vtext s a most = (l, b, 0) := by
  obtain ⟨A, B, rfl, rfl, rfl⟩ := h
  exact vtext_put A l B most hl hm
theorem first_at {s : List UInt8} {a b : Int} {c : Nat} (h : mfirst s a 0 = (c, b, 0)) : At s a [UInt8.ofNat c] b ∧ (c = 0 ∨ c = 1 ∨ c = 3) := by
  unfold mfirst at h
  rw [if_neg (by simp)] at h
  split at h
  · simp only [Prod.mk.injEq] at h; exact absurd h.2.2 (by decide)
  · rename_i h1
    simp only [Decidable.not_not] at h1
    split at h
    · simp only [Prod.mk.injEq] at h; exact absurd h.2.2 (by decide)
    · rename_i x y hd
      simp only [Prod.mk.injEq] at h
      obtain ⟨rfl, rfl, h2⟩ := h
      have h3 : x.toNat = 0 ∨ x.toNat = 1 ∨ x.toNat = 3 := by
        apply Decidable.byContradiction; intro hn; rw [if_neg hn] at h2; exact absurd h2 (by decide)
      refine ⟨⟨s.take a.toNat, y, ?_, by rw [List.length_take]; omega, by rw [List.length_take]; simp; omega⟩, h3⟩
      have := List.take_append_drop a.toNat s
      rw [hd] at this
      have e : UInt8.ofNat x.toNat = x := by simp
      rw [e]
      exact this.symm
theorem at_first {s : List UInt8} {a b : Int} {c : Nat} (h : At s a [UInt8.ofNat c] b) (hc : c = 0 ∨ c = 1 ∨ c = 3) : mfirst s a 0 = (c, b, 0) := by
  obtain ⟨A, B, rfl, rfl, rfl⟩ := h
  unfold mfirst
  rw [if_neg (by simp), if_neg (by simp; omega), Int.toNat_natCast, List.drop_left]
  simp only [List.singleton_append]
  have : (UInt8.ofNat c).toNat = c := ofNat_toNat (by omega)
  rw [this, if_pos hc]
  rfl

theorem mtext_err {s : List UInt8} {a e most : Int} {has : Bool} (he : e ≠ 0) : (mtext s a e has most).2.2 = e := by unfold mtext; rw [if_neg (by simp [he])]
theorem rec_at {s : List UInt8} {a b : Int} {r : Rec} (h : mrec s a 0 = (r, b, 0)) : At s a r.text b ∧ r.ok = 0 := by
  obtain ⟨⟨c, a1, e1⟩, h1⟩ : ∃ y, mfirst s a 0 = y := ⟨_, rfl⟩
  unfold mrec at h
  simp only [h1] at h
  by_cases he : e1 = 0
  · subst he
    obtain ⟨h2, h3⟩ := first_at h1
    rcases h3 with rfl | rfl | rfl
    · obtain ⟨⟨v, a3, e3⟩, hv⟩ : ∃ y, vtext s a1 512 = y := ⟨_, rfl⟩
      simp [mtext, hv] at h
      obtain ⟨rfl, rfl, rfl⟩ := h
      obtain ⟨h4, h5⟩ := vtext_at hv
      exact ⟨h2.trans h4, by simp [Rec.ok, rcheck]; omega⟩
    · obtain ⟨⟨k, a2, e2⟩, hk⟩ : ∃ y, vtext s a1 64 = y := ⟨_, rfl⟩
      by_cases he : e2 = 0
      · subst he
        obtain ⟨⟨v, a3, e3⟩, hv⟩ : ∃ y, vtext s a2 512 = y := ⟨_, rfl⟩
        simp [mtext, hk, hv] at h
        obtain ⟨rfl, rfl, rfl⟩ := h
        obtain ⟨h4, h5⟩ := vtext_at hk
        obtain ⟨h6, h7⟩ := vtext_at hv
        exact ⟨h2.trans (h4.trans h6), by simp [Rec.ok, rcheck]; omega⟩
      · simp [mtext, hk, he] at h
    · obtain ⟨⟨k, a2, e2⟩, hk⟩ : ∃ y, vtext s a1 64 = y := ⟨_, rfl⟩
      simp [mtext, hk] at h
      obtain ⟨rfl, rfl, rfl⟩ := h
      obtain ⟨h4, h5⟩ := vtext_at hk
      exact ⟨h2.trans h4, by simp [Rec.ok, rcheck]; omega⟩
  · have := congrArg (fun x : Rec × Int × Int => x.2.2) h
    simp only at this
    rw [mtext_err (by rw [mtext_err he]; exact he), mtext_err he] at this
    exact absurd this he
theorem at_rec {s : List UInt8} {a b : Int} {r : Rec} (h : At s a r.text b) (hr : r.ok = 0) : mrec s a 0 = (r, b, 0) := by
  obtain ⟨hk, k, tb, v⟩ := r
  obtain ⟨o1, o2, o3, o4, o5⟩ := rcheck_ok hr
  simp only at o1 o2 o3 o4 o5
  simp only [Rec.text, rtext] at h
  cases tb
  · cases hk
    · simp only [Bool.false_eq_true, if_false] at h
      have := o2 rfl
      subst this
      obtain ⟨g1, g2⟩ := At.split (t := [UInt8.ofNat 0]) h
      have f := at_first g1 (.inl rfl)
      exact mrec_eq f (hk := false) (tb := false) rfl rfl (by unfold mtext; rw [if_neg (by simp)]) (by unfold mtext; rw [if_pos (by simp)]; exact at_vtext g2 (by omega) (by omega))
    · simp only [Bool.false_eq_true, if_false, if_true] at h
      obtain ⟨g1, g2⟩ := At.split (t := [UInt8.ofNat 1]) h
      obtain ⟨g3, g4⟩ := g2.split
      have f := at_first g1 (.inr (.inl rfl))
      exact mrec_eq f (hk := true) (tb := false) rfl rfl (by unfold mtext; rw [if_pos (by simp)]; exact at_vtext g3 (by omega) (by omega)) (by unfold mtext; rw [if_pos (by simp)]; exact at_vtext g4 (by omega) (by omega))
  · have := o1 rfl
    subst this
    have := o3 rfl
    subst this
    simp only [if_true] at h
    obtain ⟨g1, g2⟩ := At.split (t := [UInt8.ofNat 3]) h
    have f := at_first g1 (.inr (.inr rfl))
    exact mrec_eq f (hk := true) (tb := true) rfl rfl (by unfold mtext; rw [if_pos (by simp)]; exact at_vtext g2 (by omega) (by omega)) (by unfold mtext; rw [if_neg (by simp)])
theorem recs_at {s : List UInt8} : ∀ {n : Nat} {a b : Int} {l : List Rec}, mrecs s n a = (l, b, 0) → 0 ≤ a ∧ a ≤ s.length → At s a (rbytes l) b ∧ l.length = n ∧ ∀ r ∈ l, r.ok = 0
  | 0, a, b, l, h, ha => by
    simp only [mrecs, Prod.mk.injEq, and_true] at h
    obtain ⟨rfl, rfl⟩ := h
    exact ⟨At.nil ha, rfl, by simp⟩
  | n + 1, a, b, l, h, ha => by
    obtain ⟨⟨r, p, e⟩, hm⟩ : ∃ y, mrec s a 0 = y := ⟨_, rfl⟩
    simp only [mrecs, hm] at h
    by_cases he : e = 0
    · subst he
      obtain ⟨h1, h2⟩ := rec_at hm
      obtain ⟨⟨l', p', e'⟩, hq⟩ : ∃ y, mrecs s n p = y := ⟨_, rfl⟩
      simp only [hq, if_true, Prod.mk.injEq] at h
      obtain ⟨rfl, rfl, rfl⟩ := h
      obtain ⟨i1, i2, i3⟩ := recs_at hq ⟨by have := h1.range; omega, h1.range.2.2⟩
      refine ⟨?_, by simp [i2], by simpa using ⟨h2, i3⟩⟩
      have e : rbytes (r :: l') = r.text ++ rbytes l' := by simp [rbytes]
      rw [e]; exact h1.trans i1
    · simp only [if_neg he, Prod.mk.injEq] at h
      exact absurd h.2.2 he
theorem at_recs {s : List UInt8} : ∀ {l : List Rec} {a b : Int}, At s a (rbytes l) b → (∀ r ∈ l, r.ok = 0) → mrecs s l.length a = (l, b, 0)
  | [], a, b, h, _ => by
    have := h.range.2.1
    simp [rbytes] at this
    simp [mrecs, this]
  | r :: l, a, b, h, ho => by
    have e : rbytes (r :: l) = r.text ++ rbytes l := by simp [rbytes]
    rw [e] at h
    obtain ⟨h1, h2⟩ := h.split
    have i := at_recs h2 fun x hx => ho x (by simp [hx])
    have m := at_rec h1 (ho r (by simp))
    simp [mrecs, m, i]
theorem nums_at {s : List UInt8} {a : Int} (ha : 0 ≤ a ∧ a ≤ s.length) : ∀ k, k ≤ 4 → (nst s a k).2.1 = 0 → ∃ l to, NRel s a k to l ∧ At s a (nbytes l) to
  | 0, _, _ => ⟨[], a, NRel.start s a, At.nil ha⟩
  | k + 1, hk, h => by
    have h0 : (nst s a k).2.1 = 0 := Decidable.byContradiction fun hn => absurd ((nst_stays hn rfl 1).symm.trans h) hn
    obtain ⟨l, to, h1, h2⟩ := nums_at ha k (by omega) h0
    obtain ⟨⟨n, p, e⟩, hv⟩ : ∃ y, vget s to = y := ⟨_, rfl⟩
    have h3 : (nst s a (k + 1)).2.1 = e := by
      rw [nst, h1.2.2]; simp only [mnum, if_true, hv]
    rw [h3] at h
    subst h
    obtain ⟨g1, g2⟩ := vget_at hv
    refine ⟨l ++ [n], p, h1.step (by omega) hv g2, ?_⟩
    have e : nbytes (l ++ [n]) = nbytes l ++ vput n := by simp [nbytes]
    rw [e]; exact h2.trans g1
theorem numB_nat (n : Nat) : numB n = decide (n ≤ 1099511627776) := by unfold numB; simp; omega
/-- What is wrong: then nothing is told. -/
theorem mparse_err {s : List UInt8} {a : Int} (h : (mparse s a).2.2 ≠ 0) : mparse s a = ((0, 0, 0, []), 0, (mparse s a).2.2) := by
  unfold mparse at h ⊢
  simp only at h ⊢
  split
  · rfl
  · split
    · rfl
    · rename_i h1 h2; rw [if_neg h1, if_neg h2] at h; exact absurd rfl h
theorem parse_at {s : List UInt8} {a b p e q : Int} {l : List Rec} (h : mparse s a = ((p, e, q, l), b, 0)) (ha : 0 ≤ a ∧ a ≤ s.length) : rall p e q l = 0 ∧ At s a (rbatch p e q l).1 b := by
  by_cases hn : (nst s a 4).2.1 = 0
  · obtain ⟨ns, to, h1, h2⟩ := nums_at ha 4 (Nat.le_refl _) hn
    match ns, h1.1 with
    | [y0, y1, y2, y3], _ =>
      have h3 := h1.done
      rw [h] at h3
      split at h3
      · simp at h3
      · split at h3
        · simp at h3
        · split at h3
          · simp at h3
          · split at h3
            · rename_i h4; simp only [Prod.mk.injEq] at h3; exact absurd h3.2.2.symm h4
            · rename_i c0 c1 c2 c3
              simp only [ne_eq, Decidable.not_not] at c3
              obtain ⟨⟨l', b', e'⟩, hq⟩ : ∃ y, mrecs s y3 to = y := ⟨_, rfl⟩
              rw [hq] at h3 c3
              simp only at c3
              subst c3
              simp only [Prod.mk.injEq, and_true] at h3
              obtain ⟨⟨rfl, rfl, rfl, rfl⟩, rfl⟩ := h3
              obtain ⟨g1, g2, g3⟩ := recs_at hq ⟨by have := h2.range; omega, h2.range.2.2⟩
              have hr : rall y0 y1 y2 l = 0 := by
                unfold rall
                rw [numB_nat, numB_nat, numB_nat, if_neg (by simp; omega), if_neg (by intro hl; subst hl; simp at g2; omega), if_neg (by omega)]
                exact rchecks_ok.2 g3
              refine ⟨hr, ?_⟩
              unfold rbatch
              rw [if_pos hr]
              simp only [Int.toNat_natCast, g2]
              exact h2.trans g1
  · have := mparse_bad hn
    rw [h] at this
    simp only [Prod.mk.injEq] at this
    exact absurd this.2.2.symm hn
theorem at_parse {s : List UInt8} {a b p e q : Int} {l : List Rec} (hr : rall p e q l = 0) (h : At s a (rbatch p e q l).1 b) : mparse s a = ((p, e, q, l), b, 0) := by
  obtain ⟨o1, o2, o3, o4, o5, o6⟩ := rall_ok hr
  simp only [numB, Bool.and_eq_true, decide_eq_true_eq] at o1 o2 o3
  obtain ⟨p, rfl⟩ : ∃ n : Nat, p = n := ⟨p.toNat, by omega⟩
  obtain ⟨e, rfl⟩ : ∃ n : Nat, e = n := ⟨e.toNat, by omega⟩
  obtain ⟨q, rfl⟩ : ∃ n : Nat, q = n := ⟨q.toNat, by omega⟩
  unfold rbatch at h
  rw [if_pos hr] at h
  simp only [Int.toNat_natCast] at h
  obtain ⟨h1, h2⟩ := h.split
  have e4 : nbytes [p, e, q, l.length] = vput p ++ (vput e ++ (vput q ++ vput l.length)) := by simp [nbytes]
  rw [e4] at h1 h2
  obtain ⟨g0, h1⟩ := h1.split
  obtain ⟨g1, h1⟩ := h1.split
  obtain ⟨g2, g3⟩ := h1.split
  have n := (((NRel.start s a).step (by omega) (at_vget g0 (by omega)) (by omega)).step (by omega) (at_vget g1 (by omega)) (by omega)).step (by omega) (at_vget g2 (by omega)) (by omega)
  have n4 := n.step (by omega) (at_vget g3 (by omega)) (by omega)
  have hd := NRel.done n4
  have hl : l.length ≠ 0 := fun h0 => o4 (List.eq_nil_of_length_eq_zero h0)
  have hm := at_recs h2 o6
  rw [hd, if_neg (by omega), if_neg hl, if_neg (by omega), hm]
  simp
theorem parse_put (A B : List UInt8) {p e q : Int} {l : List Rec} (hr : rall p e q l = 0) : mparse (A ++ ((rbatch p e q l).1 ++ B)) A.length = ((p, e, q, l), (A.length : Int) + (rbatch p e q l).1.length, 0) :=
  at_parse hr (At.here _ _ _)
/-- Cut short, a batch is none. -/
theorem parse_cut {p e q : Int} {l : List Rec} (hr : rall p e q l = 0) {c : Nat} (hc : c < (rbatch p e q l).1.length) : (mparse ((rbatch p e q l).1.take c) 0).2.2 ≠ 0 := by
  intro h0
  obtain ⟨t, ht⟩ : ∃ t, (rbatch p e q l).1 = t := ⟨_, rfl⟩
  obtain ⟨⟨⟨p', e', q', l'⟩, b, x⟩, hm⟩ : ∃ y, mparse ((rbatch p e q l).1.take c) 0 = y := ⟨_, rfl⟩
  rw [hm] at h0
  simp only at h0
  subst h0
  obtain ⟨h1, h2⟩ := parse_at hm ⟨by omega, by omega⟩
  obtain ⟨B, h3, h4⟩ := h2.zero
  have h5 : At (rbatch p e q l).1 0 (rbatch p' e' q' l').1 b := ⟨[], B ++ (rbatch p e q l).1.drop c, by rw [List.nil_append, ← List.append_assoc, ← h3, List.take_append_drop], rfl, by simp [h4]⟩
  have h6 := at_parse h1 h5
  have h7 := parse_put [] [] hr
  simp only [List.nil_append, List.append_nil, List.length_nil] at h7
  rw [show ((0 : Nat) : Int) = 0 from rfl, h6] at h7
  simp only [Prod.mk.injEq] at h7
  have h8 : ((rbatch p e q l).1.take c).length = c := by rw [List.length_take]; omega
  rw [h3, List.length_append] at h8
  omega
end Go.Proofs.Ytikcpfoehapndaa
