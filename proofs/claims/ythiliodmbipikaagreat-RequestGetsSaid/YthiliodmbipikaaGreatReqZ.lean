/-
  Layer 4, plain: a reply read.
-/
import Derived.Test.YthiliodmbipikaaGreatReqK1
import Derived.Test.YthiliodmbipikaaGreatReqW1
import Derived.Test.YthiliodmbipikaaGreatReqR
set_option linter.unusedVariables false
set_option linter.unusedSimpArgs false
namespace Go.Proofs.YthiliodmbipikaaGreat
open Go.RowKit

theorem rtext_pos (r : Rec) : 1 ≤ r.text.length := by
  unfold Rec.text rtext
  split
  · simp
  · split <;> simp
theorem mget_full {s : List UInt8} {a b : Int} {r : Rec} (h : At s a r.text b) (hr : r.ok = 0) : mget s a = (r, b, 0) := by
  rw [mget_of (at_rec h hr), if_pos rfl]
theorem mget_go {s : List UInt8} {a t2 e : Int} {r : Rec} (h : mget s a = (r, t2, e)) : (e = 0 → (0 ≤ a ∧ a < t2 ∧ t2 ≤ s.length) ∧ r.ok = 0) ∧ (e ≠ 0 → r = r0) := by
  obtain ⟨⟨r', t3, e'⟩, hm⟩ : ∃ m, mrec s a 0 = m := ⟨_, rfl⟩
  rw [mget_of hm] at h
  by_cases he : e' = 0
  · rw [if_pos he] at h
    simp only [Prod.mk.injEq] at h
    obtain ⟨rfl, rfl, rfl⟩ := h
    subst he
    obtain ⟨h1, h2⟩ := rec_at hm
    have h3 := rtext_pos r'
    obtain ⟨h4, h5, h6⟩ := h1.range
    exact ⟨fun _ => ⟨by omega, h2⟩, fun h => absurd rfl h⟩
  · rw [if_neg he] at h
    simp only [Prod.mk.injEq] at h
    obtain ⟨rfl, rfl, rfl⟩ := h
    exact ⟨fun h => absurd h he, fun _ => rfl⟩
theorem rok_bd {r : Rec} (h : r.ok = 0) : RecBd r := by
  obtain ⟨hk, k, tb, v⟩ := r
  unfold Rec.ok rcheck at h
  unfold RecBd maxLen
  dsimp only at h ⊢
  split at h
  · simp at h
  · split at h
    · simp at h
    · omega
theorem step_rec {s : List UInt8} {a e t2 e2 a' e' : Int} {r : Rec} {bb : Bool} (hv : mget s a = (r, t2, e2)) (hm : mv a e t2 e2 = (a', e', bb)) :
    Step s Rec.text (fun r => r.ok = 0) a e (if bb then r else r0) a' e' ∧ RecBd (if bb then r else r0) := by
  obtain ⟨hg, _⟩ := mget_go hv
  unfold mv at hm
  by_cases he : e = 0
  · rw [if_pos he] at hm
    simp only [Prod.mk.injEq] at hm
    obtain ⟨rfl, rfl, rfl⟩ := hm
    refine ⟨⟨?_, fun h => ⟨he, (hg h).1⟩⟩, ?_⟩
    · intro y b _ hy hat
      have := mget_full hat hy
      rw [hv] at this
      simp only [Prod.mk.injEq] at this
      obtain ⟨rfl, rfl, rfl⟩ := this
      simp
    · by_cases h2 : e2 = 0
      · simp only [h2, decide_true, if_true]; exact rok_bd (hg h2).2
      · simp only [h2, decide_false, Bool.false_eq_true, if_false]; exact ⟨by simp [r0], by simp [r0]⟩
  · rw [if_neg he] at hm
    simp only [Prod.mk.injEq] at hm
    obtain ⟨rfl, rfl, rfl⟩ := hm
    exact ⟨⟨fun y b h => absurd h he, fun h => absurd h he⟩, by simp only [Bool.false_eq_true, if_false]; exact ⟨by simp [r0], by simp [r0]⟩⟩
def fGood (f : Fnd) : Prop := numB f.off = true ∧ f.r.ok = 0
def pGood (p : Prt) : Prop := numB p.2 = true ∧ isName p.1 = true
def NumS (s : List UInt8) (a e v a' e' : Int) : Prop := Step s (fun n : Int => vput n.toNat) (fun n => 0 ≤ n ∧ n ≤ 1099511627776) a e v a' e'
theorem numB_range {n : Int} (h : numB n = true) : 0 ≤ n ∧ n ≤ 1099511627776 := by
  simp only [numB, Bool.and_eq_true, decide_eq_true_eq] at h; exact h
theorem step_fnd {s : List UInt8} {a e a1 e1 a2 e2 n : Int} {r : Rec} (h1 : NumS s a e n a1 e1) (h2 : Step s Rec.text (fun r => r.ok = 0) a1 e1 r a2 e2) : Step s fndText fGood a e ⟨n, r⟩ a2 e2 := by
  have h := h1.seq h2
  refine ⟨fun y b h0 hy hat => ?_, h.go⟩
  obtain ⟨k1, k2, k3⟩ := h.full (y.off, y.r) b h0 ⟨numB_range hy.1, hy.2⟩ hat
  simp only [Prod.mk.injEq] at k1
  obtain ⟨rfl, rfl⟩ := k1
  exact ⟨rfl, k2, k3⟩
theorem step_prt {s : List UInt8} {a e a' e' : Int} {v : Prt} (h : Step s (fun z : List UInt8 × Int => vtxt z.1 ++ vput z.2.toNat) (fun z => z.1.length ≤ 16 ∧ 0 ≤ z.2 ∧ z.2 ≤ 1099511627776) a e v a' e') : Step s prtText pGood a e v a' e' :=
  ⟨fun y b h0 hy hat => h.full y b h0 ⟨isName_le hy.2, numB_range hy.1⟩ hat, h.go⟩
/-- What a loop has read, what it has still to read. -/
structure GRl {α : Type} (enc : α → List UInt8) (good bd : α → Prop) (s : List UInt8) (n a1 e1 : Int) (i : Nat) (ts : List α) (a e : Int) : Prop where
  len : ts.length = i
  bds : ∀ t ∈ ts, bd t
  ok : e = 0 → (i : Int) ≤ a ∧ a ≤ s.length
  no : e ≠ 0 → (i : Int) ≤ s.length + 1
  full : ∀ (N : List α) (b : Int), e1 = 0 → n = N.length → (∀ t ∈ N, good t) → At s a1 (N.flatMap enc) b → i ≤ N.length ∧ ts = N.take i ∧ e = 0 ∧ At s a ((N.drop i).flatMap enc) b
section
variable {α : Type} {enc : α → List UInt8} {good bd : α → Prop} {s : List UInt8} {n a1 e1 : Int} {i : Nat} {ts : List α} {a e : Int}
theorem GRl.start (h : e1 = 0 → 0 ≤ a1 ∧ a1 ≤ s.length) : GRl enc good bd s n a1 e1 0 [] a1 e1 :=
  ⟨rfl, by simp, fun h0 => by have := h h0; omega, fun _ => by omega, fun N b h0 _ _ hat => ⟨by omega, by simp, h0, by simpa using hat⟩⟩
theorem GRl.step (h : GRl enc good bd s n a1 e1 i ts a 0) (hi : (i : Int) < n) {t : α} {a' e' : Int} (st : Step s enc good a 0 t a' e') (hb : bd t) : GRl enc good bd s n a1 e1 (i + 1) (ts ++ [t]) a' e' := by
  obtain ⟨h1, h2, h3, _, h5⟩ := h
  obtain ⟨f, g⟩ := st
  have h3 := h3 rfl
  refine ⟨by simp [h1], ?_, fun h => by have := g h; omega, fun _ => by omega, fun N b h0 hn hN hat => ?_⟩
  · intro x hx
    simp at hx
    exact hx.elim (h2 x) (fun e => e ▸ hb)
  · obtain ⟨k1, k2, _, k4⟩ := h5 N b h0 hn hN hat
    have hiN : i < N.length := by omega
    rw [List.drop_eq_getElem_cons hiN, List.flatMap_cons] at k4
    obtain ⟨k5, k6⟩ := k4.split
    obtain ⟨rfl, rfl, rfl⟩ := f _ _ rfl (hN _ (List.getElem_mem hiN)) k5
    exact ⟨by omega, by rw [k2, List.take_succ_eq_append_getElem hiN], rfl, k6⟩
theorem GRl.stop (h : GRl enc good bd s n a1 e1 i ts a e) (hs : ¬ ((i : Int) < n ∧ e = 0)) {N : List α} {b : Int} (h0 : e1 = 0) (hn : n = N.length) (hN : ∀ t ∈ N, good t) (hat : At s a1 (N.flatMap enc) b) :
    ts = N ∧ a = b ∧ e = 0 := by
  obtain ⟨k1, k2, k3, k4⟩ := h.full N b h0 hn hN hat
  have : i = N.length := by
    have : ¬ (i : Int) < n := fun hc => hs ⟨hc, k3⟩
    omega
  subst this
  rw [List.take_length] at k2
  rw [List.drop_length] at k4
  have := k4.range
  simp at this
  exact ⟨k2, by omega, k3⟩
theorem GRl.le (h : GRl enc good bd s n a1 e1 i ts a e) : i ≤ s.length + 1 := by
  by_cases he : e = 0
  · have := h.ok he; omega
  · have := h.no he; omega
end
theorem parse_full {s : List UInt8} {e off n gen fo a1 a2 a3 a4 a5 e1 e2 e3 e4 e5 : Int} (h1 : NumS s 0 0 e a1 e1) (h2 : NumS s a1 e1 off a2 e2) (h3 : NumS s a2 e2 n a3 e3) (h4 : NumS s a3 e3 gen a4 e4) (h5 : NumS s a4 e4 fo a5 e5)
    {fs : List Fnd} {a6 e6 : Int} (hF : ∀ (N : List Fnd) (b : Int), e5 = 0 → fo = N.length → (∀ t ∈ N, fGood t) → At s a5 (N.flatMap fndText) b → fs = N ∧ a6 = b ∧ e6 = 0)
    {pn a7 e7 : Int} (h7 : NumS s a6 e6 pn a7 e7) {ps : List Prt} {a8 e8 : Int} (hP : ∀ (N : List Prt) (b : Int), e7 = 0 → pn = N.length → (∀ t ∈ N, pGood t) → At s a7 (N.flatMap prtText) b → ps = N ∧ a8 = b ∧ e8 = 0) :
    ∀ y, repCheck y = 0 → repText y = s → (⟨e, off, n, gen, fs, ps⟩ : Rep) = y ∧ e8 = 0 := by
  intro y hy ht
  have ok := repCheck_ok hy
  have hat := at_whole s
  have hat' : At s 0 (repText y) s.length := by rw [ht]; exact hat
  unfold repText at hat'
  obtain ⟨g1, r1⟩ := hat'.split
  obtain ⟨x1, b1, f1⟩ := h1.full y.e _ rfl (numB_range ok.e) g1
  rw [← b1] at r1
  obtain ⟨g2, r2⟩ := r1.split
  obtain ⟨x2, b2, f2⟩ := h2.full y.off _ f1 (numB_range ok.off) g2
  rw [← b2] at r2
  obtain ⟨g3, r3⟩ := r2.split
  obtain ⟨x3, b3, f3⟩ := h3.full y.n _ f2 (numB_range ok.n) g3
  rw [← b3] at r3
  obtain ⟨g4, r4⟩ := r3.split
  obtain ⟨x4, b4, f4⟩ := h4.full y.gen _ f3 (numB_range ok.gen) g4
  rw [← b4] at r4
  obtain ⟨g5, r5⟩ := r4.split
  have lf := ok.found.1
  have lp := ok.parts.1
  obtain ⟨x5, b5, f5⟩ := h5.full (y.found.length : Int) _ f4 (by omega) (by simpa using g5)
  rw [← b5] at r5
  obtain ⟨g6, r6⟩ := r5.split
  obtain ⟨x6, b6, f6⟩ := hF y.found _ f5 x5 ok.found.2 g6
  rw [← b6] at r6
  obtain ⟨g7, r7⟩ := r6.split
  obtain ⟨x7, b7, f7⟩ := h7.full (y.parts.length : Int) _ f6 (by omega) (by simpa using g7)
  rw [← b7] at r7
  obtain ⟨x8, _, f8⟩ := hP y.parts _ f7 x7 ok.parts.2 r7
  exact ⟨by rw [x1, x2, x3, x4, x6, x8], f8⟩
end Go.Proofs.YthiliodmbipikaaGreat
