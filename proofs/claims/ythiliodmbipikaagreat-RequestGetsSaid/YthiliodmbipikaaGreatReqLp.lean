/-
  Layer 4, plain: what the statements say of commands and of replies. No program in sight.
-/
import Derived.Test.YthiliodmbipikaaGreatReqI1
import Derived.Test.YthiliodmbipikaaGreatReqZ
set_option linter.unusedVariables false
set_option linter.unusedSimpArgs false
namespace Go.Proofs.YthiliodmbipikaaGreat
open Go.RowKit

theorem ccheck_zero {c : Cmd} (h : ccheck c = 0) : (0 ≤ c.kind ∧ c.kind ≤ 12) ∧ (hasF c.kind.toNat).any (fform c) = false ∧ crest c = zcmd ∧ (hasF c.kind.toNat).any (fnum c) = false := by
  have hk := (ccheck_ok h).kind
  rw [ccheck_in hk] at h
  have h1 : ((hasF c.kind.toNat).any (fform c) || !decide (crest c = zcmd)) = false := by
    by_cases hx : ((hasF c.kind.toNat).any (fform c) || !decide (crest c = zcmd)) = true
    · rw [if_pos hx] at h; simp at h
    · simpa using hx
  rw [if_neg (by rw [h1]; simp)] at h
  have h2 : (hasF c.kind.toNat).any (fnum c) = false := by
    by_cases hx : (hasF c.kind.toNat).any (fnum c) = true
    · rw [if_pos hx] at h; simp at h
    · simpa using hx
  rw [Bool.or_eq_false_iff, Bool.not_eq_false', decide_eq_true_eq] at h1
  exact ⟨hk, h1.1, h1.2, h2⟩
theorem check_kind13 (c : Cmd) : ccheck { c with kind := 13 } = 41 := by
  unfold ccheck; rw [if_pos (.inr (show (12 : Int) < 13 by decide))]
theorem ccheck_no40 {c : Cmd} (hk : 0 ≤ c.kind ∧ c.kind ≤ 12) (h : crest c ≠ zcmd) : ccheck c = 40 := by
  rw [ccheck_in hk, if_pos (by rw [decide_eq_false h]; simp)]
theorem kinds13 {k : Int} (h : 0 ≤ k ∧ k ≤ 12) : k = 0 ∨ k = 1 ∨ k = 2 ∨ k = 3 ∨ k = 4 ∨ k = 5 ∨ k = 6 ∨ k = 7 ∨ k = 8 ∨ k = 9 ∨ k = 10 ∨ k = 11 ∨ k = 12 := by omega
/-- A generation more, where the kind has none. -/
theorem only_gen {c : Cmd} (h : ccheck c = 0) (hg : ¬ (7 ≤ c.kind ∧ c.kind ≤ 10)) : c.gen = 0 ∧ ccheck { c with gen := 1 } = 40 := by
  obtain ⟨hk, _, hz, _⟩ := ccheck_zero h
  obtain ⟨kind, topic, pn, n, off, bp, be, bq, recs, group, member, gen, robin, tops⟩ := c
  dsimp only at hk hg hz ⊢
  have key : gen = 0 ∧ crest (⟨kind, topic, pn, n, off, bp, be, bq, recs, group, member, 1, robin, tops⟩ : Cmd) ≠ zcmd := by
    rcases kinds13 hk with rfl | rfl | rfl | rfl | rfl | rfl | rfl | rfl | rfl | rfl | rfl | rfl | rfl
    all_goals first
      | (exfalso; omega)
      | (simp [crest, hasF, fclr, zcmd] at hz ⊢
         exact hz.2.2.2.2.1)
      | (simp [crest, hasF, fclr, zcmd] at hz ⊢
         simp [hz])
  exact ⟨key.1, ccheck_no40 hk key.2⟩
/-- Balanced, where the kind has it not. -/
theorem only_robin {c : Cmd} (h : ccheck c = 0) : ccheck { c with robin := true } = if c.kind = 6 then 0 else 40 := by
  obtain ⟨hk, hf, hz, hn⟩ := ccheck_zero h
  obtain ⟨kind, topic, pn, n, off, bp, be, bq, recs, group, member, gen, robin, tops⟩ := c
  dsimp only at hk hf hn hz ⊢
  by_cases h6 : kind = 6
  · subst h6
    rw [if_pos rfl]
    have e1 : (hasF 6).any (fform (⟨6, topic, pn, n, off, bp, be, bq, recs, group, member, gen, true, tops⟩ : Cmd)) = (hasF 6).any (fform (⟨6, topic, pn, n, off, bp, be, bq, recs, group, member, gen, robin, tops⟩ : Cmd)) := by simp [hasF, fform]
    have e2 : (hasF 6).any (fnum (⟨6, topic, pn, n, off, bp, be, bq, recs, group, member, gen, true, tops⟩ : Cmd)) = (hasF 6).any (fnum (⟨6, topic, pn, n, off, bp, be, bq, recs, group, member, gen, robin, tops⟩ : Cmd)) := by simp [hasF, fnum]
    have e3 : crest (⟨6, topic, pn, n, off, bp, be, bq, recs, group, member, gen, true, tops⟩ : Cmd) = zcmd := by
      simp [crest, hasF, fclr, zcmd] at hz ⊢
      exact hz
    have hf' : (hasF 6).any (fform (⟨6, topic, pn, n, off, bp, be, bq, recs, group, member, gen, robin, tops⟩ : Cmd)) = false := hf
    have hn' : (hasF 6).any (fnum (⟨6, topic, pn, n, off, bp, be, bq, recs, group, member, gen, robin, tops⟩ : Cmd)) = false := hn
    refine (ccheck_in (c := (⟨6, topic, pn, n, off, bp, be, bq, recs, group, member, gen, true, tops⟩ : Cmd)) ⟨(show (0 : Int) ≤ 6 by decide), (show (6 : Int) ≤ 12 by decide)⟩).trans ?_
    show (if ((hasF 6).any (fform (⟨6, topic, pn, n, off, bp, be, bq, recs, group, member, gen, true, tops⟩ : Cmd)) || !decide (crest (⟨6, topic, pn, n, off, bp, be, bq, recs, group, member, gen, true, tops⟩ : Cmd) = zcmd)) = true then 40 else if (hasF 6).any (fnum (⟨6, topic, pn, n, off, bp, be, bq, recs, group, member, gen, true, tops⟩ : Cmd)) = true then 1 else if (6 : Int) = 2 then rall bp be bq recs else 0) = 0
    rw [e1, e2, hf', hn', decide_eq_true e3]
    simp
  · rw [if_neg h6]
    refine ccheck_no40 hk ?_
    rcases kinds13 hk with rfl | rfl | rfl | rfl | rfl | rfl | rfl | rfl | rfl | rfl | rfl | rfl | rfl
    all_goals first
      | (exfalso; omega)
      | (simp [crest, hasF, fclr, zcmd])
/-- Another kind. -/
theorem kinds_of {c : Cmd} (h : ccheck c = 0) {k : Int} (hk : 0 ≤ k ∧ k ≤ 12) : ccheck { c with kind := k } = 0 ∨ ccheck { c with kind := k } = 40 ∨ ccheck { c with kind := k } = 30 := by
  have ok := ccheck_ok h
  rw [ccheck_in (c := { c with kind := k }) hk]
  by_cases h1 : ((hasF ({ c with kind := k } : Cmd).kind.toNat).any (fform { c with kind := k }) || !decide (crest { c with kind := k } = zcmd)) = true
  · rw [if_pos h1]; simp
  · rw [if_neg h1]
    have h2 : ∀ f, fnum { c with kind := k } f = false := by
      intro f
      cases f <;> simp [fnum, ok.pn, ok.n, ok.off, ok.gen]
    have h3 : ¬ (hasF ({ c with kind := k } : Cmd).kind.toNat).any (fnum { c with kind := k }) = true := by simp [h2]
    rw [if_neg h3]
    dsimp only
    by_cases h4 : k = 2
    · rw [if_pos h4]
      rcases ok.batch with ⟨_, h5⟩ | ⟨h5, h6, h7, h8⟩
      · rw [h5]; simp
      · rw [h5, h6, h7, h8]; exact .inr (.inr (by decide +kernel))
    · rw [if_neg h4]; simp
theorem num_det {s : List UInt8} {a b b' : Int} {n m : Nat} (h : At s a (vput n) b) (k : At s a (vput m) b') (hn : n < 18446744073709551616) (hm : m < 18446744073709551616) : n = m ∧ b = b' := by
  have e1 := at_vget h hn
  rw [at_vget k hm] at e1
  simp only [Prod.mk.injEq, and_true] at e1
  exact ⟨e1.1.symm, e1.2.symm⟩
theorem txt_det {s l m : List UInt8} {a b b' : Int} (h : At s a (vtxt l) b) (k : At s a (vtxt m) b') (hn : l.length ≤ 16) (hm : m.length ≤ 16) : l = m ∧ b = b' := by
  have e1 := at_vtext (most := 16) h (by omega) (by omega)
  rw [at_vtext (most := 16) k (by omega) (by omega)] at e1
  simp only [Prod.mk.injEq, and_true] at e1
  exact ⟨e1.1.symm, e1.2.symm⟩
def DetE {α : Type} (enc : α → List UInt8) (good : α → Prop) : Prop := ∀ (s : List UInt8) (a b b' : Int) (x y : α), good x → good y → At s a (enc x) b → At s a (enc y) b' → x = y ∧ b = b'
theorem numB_inj2 {n m : Int} (h : numB n = true) (k : numB m = true) (e : n.toNat = m.toNat) : n = m := by
  have := numB_range h; have := numB_range k; omega
theorem fnd_det : DetE fndText fGood := by
  intro s a b b' x y hx hy h k
  unfold fndText at h k
  obtain ⟨g1, r1⟩ := h.split
  obtain ⟨g2, r2⟩ := k.split
  have n1 := numB_range hx.1
  have n2 := numB_range hy.1
  obtain ⟨e1, e2⟩ := num_det g1 g2 (by omega) (by omega)
  rw [← e2] at r2
  have m1 := mget_full r1 hx.2
  rw [mget_full r2 hy.2] at m1
  simp only [Prod.mk.injEq, and_true] at m1
  have e3 := numB_inj2 hx.1 hy.1 e1
  obtain ⟨xo, xr⟩ := x
  obtain ⟨yo, yr⟩ := y
  dsimp only at e3 m1
  rw [e3, m1.1, m1.2]
  exact ⟨rfl, rfl⟩
theorem prt_det : DetE prtText pGood := by
  intro s a b b' x y hx hy h k
  unfold prtText at h k
  obtain ⟨g1, r1⟩ := h.split
  obtain ⟨g2, r2⟩ := k.split
  obtain ⟨e1, e2⟩ := txt_det g1 g2 (isName_le hx.2) (isName_le hy.2)
  rw [← e2] at r2
  have n1 := numB_range hx.1
  have n2 := numB_range hy.1
  obtain ⟨e3, e4⟩ := num_det r1 r2 (by omega) (by omega)
  have e5 := numB_inj2 hx.1 hy.1 e3
  obtain ⟨xo, xr⟩ := x
  obtain ⟨yo, yr⟩ := y
  dsimp only at e1 e5
  rw [e1, e5]
  exact ⟨rfl, e4⟩
theorem list_det {α : Type} {enc : α → List UInt8} {good : α → Prop} (hd : DetE enc good) {s : List UInt8} : ∀ (l m : List α) (a b b' : Int), l.length = m.length → (∀ x ∈ l, good x) → (∀ x ∈ m, good x) → At s a (l.flatMap enc) b → At s a (m.flatMap enc) b' → l = m ∧ b = b'
  | [], [], a, b, b', _, _, _, h, k => by
    have h1 := h.range
    have h2 := k.range
    simp at h1 h2
    exact ⟨rfl, by omega⟩
  | [], _ :: _, _, _, _, h, _, _, _, _ => by simp at h
  | _ :: _, [], _, _, _, h, _, _, _, _ => by simp at h
  | x :: l, y :: m, a, b, b', hl, hx, hy, h, k => by
    rw [List.flatMap_cons] at h k
    obtain ⟨g1, r1⟩ := h.split
    obtain ⟨g2, r2⟩ := k.split
    obtain ⟨e1, e2⟩ := hd s a _ _ x y (hx x (by simp)) (hy y (by simp)) g1 g2
    rw [← e2] at r2
    obtain ⟨e3, e4⟩ := list_det hd l m _ b b' (by simpa using hl) (fun z hz => hx z (by simp [hz])) (fun z hz => hy z (by simp [hz])) r1 r2
    exact ⟨by rw [e1, e3], e4⟩
/-- No reply's bytes are the beginning of another one's. -/
theorem rep_det {s : List UInt8} {a c c' : Int} {x y : Rep} (hx : repCheck x = 0) (hy : repCheck y = 0) (h : At s a (repText x) c) (k : At s a (repText y) c') : x = y ∧ c = c' := by
  have o1 := repCheck_ok hx
  have o2 := repCheck_ok hy
  unfold repText at h k
  have lt : ∀ {n : Int}, numB n = true → n.toNat < 18446744073709551616 := fun hn => by have := numB_range hn; omega
  obtain ⟨g1, r1⟩ := h.split
  obtain ⟨k1, q1⟩ := k.split
  obtain ⟨e1, f1⟩ := num_det g1 k1 (lt o1.e) (lt o2.e)
  rw [← f1] at q1
  obtain ⟨g2, r2⟩ := r1.split
  obtain ⟨k2, q2⟩ := q1.split
  obtain ⟨e2, f2⟩ := num_det g2 k2 (lt o1.off) (lt o2.off)
  rw [← f2] at q2
  obtain ⟨g3, r3⟩ := r2.split
  obtain ⟨k3, q3⟩ := q2.split
  obtain ⟨e3, f3⟩ := num_det g3 k3 (lt o1.n) (lt o2.n)
  rw [← f3] at q3
  obtain ⟨g4, r4⟩ := r3.split
  obtain ⟨k4, q4⟩ := q3.split
  obtain ⟨e4, f4⟩ := num_det g4 k4 (lt o1.gen) (lt o2.gen)
  rw [← f4] at q4
  obtain ⟨g5, r5⟩ := r4.split
  obtain ⟨k5, q5⟩ := q4.split
  have l1 := o1.found.1
  have l2 := o2.found.1
  have l3 := o1.parts.1
  have l4 := o2.parts.1
  obtain ⟨e5, f5⟩ := num_det g5 k5 (by omega) (by omega)
  rw [← f5] at q5
  obtain ⟨g6, r6⟩ := r5.split
  obtain ⟨k6, q6⟩ := q5.split
  obtain ⟨e6, f6⟩ := list_det fnd_det _ _ _ _ _ e5 o1.found.2 o2.found.2 g6 k6
  rw [← f6] at q6
  obtain ⟨g7, r7⟩ := r6.split
  obtain ⟨k7, q7⟩ := q6.split
  obtain ⟨e7, f7⟩ := num_det g7 k7 (by omega) (by omega)
  rw [← f7] at q7
  obtain ⟨e8, f8⟩ := list_det prt_det _ _ _ _ _ e7 o1.parts.2 o2.parts.2 r7 q7
  have a1 := numB_inj2 o1.e o2.e e1
  have a2 := numB_inj2 o1.off o2.off e2
  have a3 := numB_inj2 o1.n o2.n e3
  have a4 := numB_inj2 o1.gen o2.gen e4
  obtain ⟨xe, xo, xn, xg, xf, xp⟩ := x
  obtain ⟨ye, yo, yn, yg, yf, yp⟩ := y
  dsimp only at a1 a2 a3 a4 e6 e8
  rw [a1, a2, a3, a4, e6, e8]
  exact ⟨rfl, f8⟩
theorem at_ahead (t u : List UInt8) : At (t ++ u) 0 t t.length := ⟨[], u, by simp, by simp, by simp⟩
/-- One byte more, and it is none. -/
theorem rep_more {x : Rep} (hx : repCheck x = 0) (m : UInt8) {c : Rep} {n : Nat} (g : Got repCheck repText zrep (repText x ++ [m]) c n) : n = 40 ∧ c = zrep := by
  rcases g.1 with ⟨rfl, h1, h2⟩ | h
  · have k := at_whole (repText c)
    rw [h2] at k
    have := (rep_det hx h1 (at_ahead (repText x) [m]) (by rw [h2]; exact k)).2
    simp at this
    omega
  · exact h
/-- One byte fewer, and it is none. -/
theorem rep_less {x : Rep} (hx : repCheck x = 0) {c : Rep} {n : Nat} (g : Got repCheck repText zrep ((repText x).take ((repText x).length - 1)) c n) : n = 40 ∧ c = zrep := by
  have hne : 0 < (repText x).length := List.length_pos_iff.2 (repText_ne x)
  rcases g.1 with ⟨rfl, h1, h2⟩ | h
  · have k := at_ahead ((repText x).take ((repText x).length - 1)) ((repText x).drop ((repText x).length - 1))
    rw [List.take_append_drop, ← h2] at k
    have := (rep_det hx h1 (at_whole _) k).2
    rw [h2, List.length_take] at this
    omega
  · exact h
theorem i64_next {n : Int} (h : -9223372036854775808 ≤ n ∧ n ≤ 9223372036854775807) : IntKind.i64.wrap (n + 1) ≠ n := by
  rw [IntKind.wrap_i64]; omega
end Go.Proofs.YthiliodmbipikaaGreat
