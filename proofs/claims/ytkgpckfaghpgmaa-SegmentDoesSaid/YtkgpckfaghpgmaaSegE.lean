import Derived.Test.YtkgpckfaghpgmaaSegD
/-
  Layer 5: a place sought, records read.
-/
set_option linter.unusedVariables false
set_option linter.unusedSimpArgs false
namespace Go.Proofs.Ytkgpckfaghpgmaa
open Go.RowKit
attribute [local go_sem] ByteArray.extract_mk ByteArray.mk_append_mk

theorem snoc_ind {P : List Fnd → Prop} (h0 : P []) (h1 : ∀ l f, P l → P (l ++ [f])) : ∀ l, P l := by
  have h : ∀ m : List Fnd, P m.reverse := by
    intro m
    induction m with
    | nil => exact h0
    | cons f m ih => rw [List.reverse_cons]; exact h1 _ _ ih
  intro l
  simpa using h l.reverse
theorem idx_shape : ∀ (l : List Fnd), (idx l).length = (l.length + 7) / 8 ∧ ∀ k, (h : k < (idx l).length) → ∀ h' : 8 * k < l.length, (idx l)[k] = l[8 * k].off := by
  refine snoc_ind ⟨rfl, fun k h => by simp [idx, idxF] at h⟩ ?_
  · intro l f ih
    obtain ⟨i1, i2⟩ := ih
    rw [idx_snoc]
    by_cases h8 : l.length % 8 = 0
    · rw [if_pos h8]
      refine ⟨by simp; omega, fun k h h' => ?_⟩
      by_cases hk : k < (idx l).length
      · rw [List.getElem_append_left hk, List.getElem_append_left (by omega)]
        exact i2 k hk (by omega)
      · have hk2 : k = (idx l).length := by simp at h; omega
        subst hk2
        rw [List.getElem_append_right (by omega), List.getElem_append_right (by omega)]
        simp
    · rw [if_neg h8, List.append_nil]
      refine ⟨by simp; omega, fun k h h' => ?_⟩
      rw [List.getElem_append_left (by omega)]
      exact i2 k h (by omega)

/-- The offsets rise. -/
def Rising (l : List Fnd) : Prop := ∀ i j, (hi : i < j) → (hj : j < l.length) → (l[i]'(by omega)).off < l[j].off
/-- How many records stand ahead of an offset. -/
def place (fr : Int) (l : List Fnd) : Nat := (l.takeWhile fun f => decide (f.off < fr)).length
theorem place_eq {fr : Int} : ∀ {l : List Fnd} {i : Nat}, i ≤ l.length → (∀ j, (h : j < i) → ∀ h' : j < l.length, l[j].off < fr) → (∀ h : i < l.length, ¬ l[i].off < fr) → place fr l = i
  | [], i, hi, _, _ => by simp at hi; subst hi; rfl
  | f :: l, 0, _, _, h2 => by
    have := h2 (by simp)
    simp only [List.getElem_cons_zero] at this
    simp [place, List.takeWhile_cons, this]
  | f :: l, i + 1, hi, h1, h2 => by
    have h0 := h1 0 (by omega) (by simp)
    simp only [List.getElem_cons_zero] at h0
    have ih := place_eq (fr := fr) (l := l) (i := i) (by simpa using hi) (fun j h h' => by have := h1 (j + 1) (by omega) (by simpa using h'); simpa using this) (fun h => by have := h2 (by simpa using h); simpa using this)
    unfold place at ih ⊢
    rw [List.takeWhile_cons, if_pos (by simpa using h0), List.length_cons, ih]
theorem place_le (fr : Int) (l : List Fnd) : place fr l ≤ l.length := by unfold place; exact (List.takeWhile_sublist _).length_le

set_option maxHeartbeats 4000000 in
set_option maxRecDepth 100000 in
theorem seek5 (p : Nat) (bs : List Nat) (base next : Int) (l : List Fnd) (fr : Int) (w : World) (h : SegAt w p bs base next l) (hr : Rising l) (hl : l.length ≤ 100000) :
    RetB Try.prog 31 #[.pointer (some ⟨p, 0, none⟩), .int .i64 fr] w (.int .i64 (place fr l : Nat)) := by
  refine RetB.intro fun R hR => ?_
  have h0 := Lib.hid h
  have HRS := Lib.hid hr
  obtain ⟨k0, c0, c1, ⟨la, lc, c2⟩, ⟨ia, ic, c3⟩, cf⟩ := h.c4
  have hil := idx_len l
  have cS := fun (W : World) (b2 b3 : Nat) (hW : SegAt W p bs base next l) (h2 : W.cell? ⟨b2, 0, none⟩ = some (.pointer (some ⟨p, 0, none⟩))) (h3 : W.cell? ⟨b3, 0, none⟩ = some (.int .i64 fr)) => search5 p bs base next l fr b2 b3 W hW h2 h3 hl
  have CS := Lib.hid cS
  clear cS h hr
  go_enter Try.func31, Try.ntmps31
  go_wp2_with fail
  have S1 := h0.out.below (below_all (o := .cells #[.int .i64 fr] 3) (below_all (o := .cells #[.pointer (some ⟨p, 0, none⟩)] 28) (Below.refl _ _)))
  refine (CS.out _ w.heap.size (w.heap.size + 1) S1 (by go_simp) (by go_simp)).mono ?_
  rintro e w' ⟨k, rfl, ⟨hk1, hk2⟩, q, rfl⟩
  obtain ⟨st, hst, hsl, hsj⟩ : ∃ st : Nat, (max ((k : Int) - 1) 0) * 8 = (st : Int) ∧ st ≤ l.length ∧ ∀ j, (h : j < st) → ∀ h' : j < l.length, l[j].off < fr := by
    obtain ⟨sh1, sh2⟩ := idx_shape l
    match k with
    | 0 => exact ⟨0, by omega, by omega, fun j h => by omega⟩
    | k + 1 =>
      have h8 : 8 * k < l.length := by omega
      have hx := hk2 (by omega) (by omega)
      simp only [Nat.add_sub_cancel] at hx
      rw [sh2 k (by omega) h8] at hx
      refine ⟨8 * k, by omega, by omega, fun j h h' => ?_⟩
      have := HRS.out j (8 * k) h h8
      omega
  have hw1 : IntKind.i64.wrap ((k : Int) - 1) = (k : Int) - 1 := by rw [IntKind.wrap_i64]; omega
  have hw2 : IntKind.i64.wrap (max ((k : Int) - 1) 0 * 8) = (st : Int) := by rw [hst, IntKind.wrap_i64]; omega
  have hB1 : Below w.heap.size w (((w.alloc (.cells #[.pointer (some ⟨p, 0, none⟩)] 28)).alloc (.cells #[.int .i64 fr] 3)).drewN q) := belowN (below_all (below_all (Below.refl _ _))) q
  have b2 : (((w.alloc (.cells #[.pointer (some ⟨p, 0, none⟩)] 28)).alloc (.cells #[.int .i64 fr] 3)).drewN q).cell? ⟨w.heap.size, 0, none⟩ = some (.pointer (some ⟨p, 0, none⟩)) := by go_simp
  have b3 : (((w.alloc (.cells #[.pointer (some ⟨p, 0, none⟩)] 28)).alloc (.cells #[.int .i64 fr] 3)).drewN q).cell? ⟨w.heap.size + 1, 0, none⟩ = some (.int .i64 fr) := by go_simp
  have z1 : (((w.alloc (.cells #[.pointer (some ⟨p, 0, none⟩)] 28)).alloc (.cells #[.int .i64 fr] 3)).drewN q).heap.size = w.heap.size + 2 := by go_simp
  have S2 : SegAt (((w.alloc (.cells #[.pointer (some ⟨p, 0, none⟩)] 28)).alloc (.cells #[.int .i64 fr] 3)).drewN q) p bs base next l := h0.out.below hB1
  generalize ((w.alloc (.cells #[.pointer (some ⟨p, 0, none⟩)] 28)).alloc (.cells #[.int .i64 fr] 3)).drewN q = W1 at hB1 b2 b3 z1 S2 ⊢
  have HSJ := Lib.hid hsj
  have HST := Lib.hid hst
  clear hsj hst S1 k0 c0 c1 c2 c3 cf CS
  go_wp2_with fail
  all_goals (go_loopw [6] (fun (v6 : Value) (W : World) => ∃ i : Nat, i ≤ l.length ∧ v6 = .int .i64 (i : Int) ∧ Hid (∀ j, (h : j < i) → ∀ h' : j < l.length, l[j].off < fr) ∧ Below W1.heap.size W1 W) (fun (v6 : Value) (W : World) => (l.length - intOf v6).toNat))
  case atStart => exact ⟨st, hsl, veq_int (by have := HST.out; omega), HSJ, Below.refl _ _⟩
  case atStart => exact ⟨st, hsl, veq_int (by have := HST.out; omega), HSJ, Below.refl _ _⟩
  all_goals
    obtain ⟨i, hi, rfl, hsi, hnx⟩ := hrel
    have S3 := S2.below hnx
    obtain ⟨lv, iv, hp, hlo, hio, hbs⟩ := S3
    obtain ⟨la3, lc3, rfl⟩ := own_form hlo
    obtain ⟨k0, c0, c1, c2, c3⟩ := hp.c4
    have cb2 := (hnx.cell (p := ⟨w.heap.size, 0, none⟩) (by show w.heap.size < _; omega)).trans b2
    have cb3 := (hnx.cell (p := ⟨w.heap.size + 1, 0, none⟩) (by show w.heap.size + 1 < _; omega)).trans b3
    have hpl := fnds_own hlo
    by_cases hil : i < l.length
    · rcases hpl with ⟨h, _⟩ | ⟨b, off, cap, hsl2, hcap, hne, hlt, hc⟩
      · rw [h] at hil; simp at hil
      simp only [Value.slice.injEq, true_and] at hsl2
      obtain ⟨rfl, rfl⟩ := hsl2
      obtain ⟨x0, x1, x2, x3, x4⟩ := hc i hil
      have i1 : (0 : Int) ≤ (i : Int) := by omega
      have i2 : (i : Int) < (l.length : Int) := by omega
      by_cases hof : l[i].off < fr
      · have hnext : Hid (∀ j, (h : j < i + 1) → ∀ h' : j < l.length, l[j].off < fr) := Lib.hid fun j h h' => by
          by_cases e : j = i
          · subst e; exact hof
          · exact hsi.out j (by omega) h'
        clear hc
        generalize l[i] = f at *
        go_wp2_with fail
        go_quiet (fail)
        go_wp2_with fail
        go_roundw
        case rel => exact ⟨i + 1, by omega, by go_num, hnext, belowN hnx _⟩
        case measure => simp [intOf]; omega
      · have hpe : Hid (place fr l = i) := Lib.hid (place_eq hi hsi.out fun h => hof)
        clear hc
        generalize l[i] = f at *
        go_wp2_with fail
        go_quiet (fail)
        go_wp2_with fail
        exact finB hR (belowN (below_any (Nat.le_refl _) hB1 hnx) _) (veq_int (by rw [hpe.out]))
    · have hpe : Hid (place fr l = i) := Lib.hid (place_eq hi hsi.out fun h => absurd h hil)
      obtain rfl : i = l.length := by omega
      go_wp2_with fail
      go_quiet (fail)
      go_wp2_with fail
      exact finB hR (belowN (below_any (Nat.le_refl _) hB1 hnx) _) (veq_int (by rw [hpe.out]))
theorem own_base {w : World} {B C n s : Nat} {e : TypeId} {v : Value} {xs : List Value} (h : w.ownsRow B e s v n xs) (hC : C ≤ B) : w.ownsRow C e s v n xs := by
  refine ⟨h.1, ?_⟩
  rcases h.2 with h1 | ⟨g, cap, cur, h1, h2, rest⟩
  · exact .inl h1
  · exact .inr ⟨g, cap, cur, h1, Nat.le_trans hC h2, rest⟩
/-- The records from an offset on, so many at most. -/
def reads (fr n : Int) (l : List Fnd) : List Fnd := (l.drop (place fr l)).take (max 0 (min n ((l.drop (place fr l)).length : Int))).toNat

theorem below_drew {w W : World} (h : Below w.drew.heap.size w.drew W) : Below w.heap.size w W := below_any (Nat.le_refl _) (Below.refl _ w).drew h
theorem own_cap5 {w : World} {B n m p s : Nat} {a : Option Addr} {xs : List Value} {e : TypeId} (h : w.ownsRow B e s (.slice a m p) n xs) : n ≤ p := by
  rcases h.2 with ⟨h1, h2⟩ | ⟨g, cap, cur, h1, h2, h3, h4, _⟩
  · omega
  · simp only [Value.slice.injEq] at h1
    omega
set_option maxHeartbeats 4000000 in
set_option maxRecDepth 100000 in
theorem read5 (p : Nat) (bs : List Nat) (base next : Int) (l : List Fnd) (fr n : Int) (w : World) (h : SegAt w p bs base next l) (hr : Rising l) (hl : l.length ≤ 100000) :
    FndsCall 10 #[.pointer (some ⟨p, 0, none⟩), .int .i64 fr, .int .i64 n] w (reads fr n l) := by
  refine FndsCall.intro fun R hR => ?_
  have cK := fun (W : World) (hW : SegAt W p bs base next l) => seek5 p bs base next l fr W hW hr hl
  have HS := Lib.hid h
  have hpl := place_le fr l
  obtain ⟨k, hk⟩ : ∃ k, place fr l = k := ⟨_, rfl⟩
  unfold reads at hR
  rw [hk] at hR hpl
  simp only [hk] at cK
  have CK := Lib.hid cK
  obtain ⟨lv, iv, hp, hlo, hio, hbs⟩ := h
  obtain ⟨la, lc, rfl⟩ := own_form hlo
  obtain ⟨k0, c0, c1, c2, c3⟩ := hp.c4
  clear cK hk
  have i1 : (0 : Int) ≤ (k : Int) := by omega
  have i2 : (k : Int) ≤ (l.length : Int) := by omega
  have S1 := Lib.hid HS.out.drew
  have hdl : (l.drop k).length = l.length - k := List.length_drop ..
  rw [hdl] at hR
  obtain ⟨m0, hm0⟩ : ∃ m, (max 0 (min n ((l.length - k : Nat) : Int))).toNat = m := ⟨_, rfl⟩
  rw [hm0] at hR
  have hpn := fnds_own hlo
  have hll : ((l.drop k).take m0).length ≤ 1000000 := by rw [List.length_take, List.length_drop]; omega
  have hcap := own_cap5 hlo
  by_cases hlk : lc = k
  · subst hlk
    have hC : ∀ (W : World) (M : Nat), M = m0 → Below w.heap.size w W → FndsCall 32 #[.slice la M 0] W ((l.drop lc).take m0) := fun W M hM hb => clone5 _ _ W (.inl ⟨by rw [List.drop_eq_nil_of_le (by omega)]; simp, la, 0, by rw [show M = 0 by omega]⟩) hll
    clear hlo hpn c3
    go_enter Try.func10, Try.ntmps10
    go_wp2_with fail
    go_region_with (go_at_call 31; refine (CK.out _ S1.out).use ?_; intro w2 b2'; have b2 := below_drew b2'; clear b2'; have pp2 := (b2.cell (p := ⟨p, 2, none⟩) k0).trans c2; have pk2 : p < w2.heap.size := Nat.lt_of_lt_of_le k0 b2.size)
    all_goals go_wp2_with fail
    all_goals refine (hC _ _ (by first | omega | (split at * <;> omega)) b2).use ?_
    all_goals intro v3 w3 o3 b3
    all_goals go_wp2_with fail
    all_goals exact hR.out _ _ (own_base o3 (Below.size b2)) (below_any (Nat.le_refl _) b2 b3)
  · have hn0 : ∃ ad, la = some ad := by
      rcases hlo.2 with ⟨h1, h2⟩ | ⟨g, cap, cur, h1, _⟩
      · simp only [Value.slice.injEq] at h1
        exact absurd (by omega) hlk
      · simp only [Value.slice.injEq] at h1
        exact ⟨_, h1.1⟩
    obtain ⟨ad, rfl⟩ := hn0
    have hlk2 : (lc = k) = False := eq_false hlk
    have i3 : (k : Int) ≤ (lc : Int) := by omega
    have hC : ∀ (W : World) (M : Nat), M = m0 → Below w.heap.size w W → FndsCall 32 #[.slice (some (ad.add (k * 5))) M (lc - k)] W ((l.drop k).take m0) := fun W M hM hb => by
      refine clone5 _ _ W ?_ hll
      subst hM
      have hL : ((l.drop k).take M).length = M := by rw [List.length_take, List.length_drop]; omega
      rcases hpn with ⟨rfl, _⟩ | ⟨b, off, cap', hsl, hc1, hne, hlt, hc⟩
      · exact .inl ⟨by simp, _, _, by rw [show M = 0 by simp at hm0; omega]⟩
      · simp only [Value.slice.injEq, Option.some.injEq, true_and] at hsl
        obtain ⟨rfl, rfl⟩ := hsl
        by_cases hM0 : M = 0
        · subst hM0; exact .inl ⟨by simp, _, _, rfl⟩
        · refine .inr ⟨b, off + k * 5, lc - k, by rw [addr_add, hL], by rw [hL]; omega, fun e => by rw [e] at hL; simp at hL; omega, Nat.lt_of_lt_of_le hlt hb.size, fun i hi => ?_⟩
          rw [hL] at hi
          rw [List.getElem_take, List.getElem_drop, show off + k * 5 + i * 5 = off + (k + i) * 5 by omega]
          exact (hc (k + i) (by omega)).keep fun j => hb.cell (p := ⟨b, j, none⟩) hlt
    clear hlo hpn c3
    go_enter Try.func10, Try.ntmps10
    go_wp2_with fail
    go_region_with (go_at_call 31; refine (CK.out _ S1.out).use ?_; intro w2 b2'; have b2 := below_drew b2'; clear b2'; have pp2 := (b2.cell (p := ⟨p, 2, none⟩) k0).trans c2; have pk2 : p < w2.heap.size := Nat.lt_of_lt_of_le k0 b2.size)
    all_goals go_wp2_with fail
    all_goals refine (hC _ _ (by first | omega | (split at * <;> omega)) b2).use ?_
    all_goals intro v3 w3 o3 b3
    all_goals go_wp2_with fail
    all_goals exact hR.out _ _ (own_base o3 (Below.size b2)) (below_any (Nat.le_refl _) b2 b3)
end Go.Proofs.Ytkgpckfaghpgmaa
