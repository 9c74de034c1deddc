import Derived.Test.YtkfglnhapcceaaaLogA
/-
  Layer 6: a log's span, bytes: contracts.
-/
set_option linter.unusedVariables false
set_option linter.unusedSimpArgs false
namespace Go.Proofs.Ytkfglnhapcceaaa
open Go.RowKit
attribute [local go_sem] ByteArray.extract_mk ByteArray.mk_append_mk

/-- All records. -/
def dall (D : List Sd) : List Fnd := D.flatMap Sd.l
theorem fbytes_append : ∀ (a b : List Fnd), fbytes (a ++ b) = fbytes a + fbytes b
  | [], b => by simp [fbytes]
  | f :: a, b => by simp only [List.cons_append, fbytes, fbytes_append a b]; omega
theorem dall_take (ss : List Sg) {k : Nat} (hk : k < ss.length) : dall ((ss.take (k + 1)).map Sg.d) = dall ((ss.take k).map Sg.d) ++ ss[k].d.l := by
  rw [List.take_succ_eq_append_getElem hk, List.map_append]
  unfold dall
  rw [List.flatMap_append]
  simp only [List.map_cons, List.map_nil, List.flatMap_cons, List.flatMap_nil, List.append_nil]
theorem span6 (g : Nat) (bs : List Nat) (room : Int) (ss : List Sg) (w : World) (h : LogAt w g bs room ss) (hne : ss ≠ []) (hl : ss.length ≤ 100000) :
    RetB Try.prog 18 #[.pointer (some ⟨g, 0, none⟩)] w (.tuple #[.int .i64 (dstart (ss.map Sg.d)), .int .i64 (dend (ss.map Sg.d))]) := by
  refine RetB.intro fun R hR => ?_
  obtain ⟨A, s, rfl⟩ : ∃ A s, ss = A ++ [s] := ⟨ss.dropLast, ss.getLast hne, (List.dropLast_concat_getLast hne).symm⟩
  have hpos : 0 < (A ++ [s]).length := by simp
  obtain ⟨s0, h0⟩ : ∃ s0, (A ++ [s])[0] = s0 := ⟨_, rfl⟩
  have hs0 : dstart ((A ++ [s]).map Sg.d) = s0.d.base := by
    unfold dstart
    rw [← h0]
    cases A <;> simp
  have hs1 : dend ((A ++ [s]).map Sg.d) = s.d.next := by rw [List.map_append]; exact dend_snoc _ _
  have m0 : s0 ∈ A ++ [s] := h0 ▸ List.getElem_mem hpos
  have m1 : s ∈ A ++ [s] := by simp
  rw [hs0, hs1] at hR
  obtain ⟨b, off, cap, h1, h2, h3, h4⟩ := h.ptrs hne
  have hc := h4 0 hpos
  rw [h0, Nat.add_zero] at hc
  have c0 := Lib.hid (fun W hb => span5 s0.p s0.bs s0.d.base s0.d.next s0.d.l W ((h.below hb).sg m0))
  have c1 := Lib.hid (fun W hb => span5 s.p s.bs s.d.base s.d.next s.d.l W ((h.below hb).sg m1))
  have c2 := Lib.hid (fun W hb => open6 g bs room A s W (h.below hb) (by simp at hl; omega))
  obtain ⟨n, hn⟩ : ∃ n, (A ++ [s]).length = n := ⟨_, rfl⟩
  rw [hn] at h1 h2 hpos
  have j1 : (0 : Int) < (n : Int) := by omega
  obtain ⟨k0, y0, y1⟩ := h1.c2
  clear h h4 hn h0 hs0 hs1 m0 m1
  go_enter Try.func18, Try.ntmps18
  go_wp2_with fail
  refine (c0.out _ (Below.refl _ _)).use ?_
  intro w1 b1
  go_wp2_with fail
  refine (c2.out _ b1).use ?_
  intro w2 b2
  have b2 := below_any (Nat.le_refl _) b1 b2
  go_wp2_with fail
  refine (c1.out _ b2).use ?_
  intro w3 b3
  have b3 := below_any (Nat.le_refl _) b2 b3
  go_wp2_with fail
  exact finB hR b3 rfl

set_option maxHeartbeats 2000000 in
set_option maxRecDepth 100000 in
theorem bytes6 (g : Nat) (bs : List Nat) (room : Int) (ss : List Sg) (w : World) (h : LogAt w g bs room ss) (hne : ss ≠ []) (hl : ss.length ≤ 100000) (hll : ∀ s ∈ ss, s.d.l.length ≤ 100000 ∧ ∀ f ∈ s.d.l, RecBd f.r) :
    RetB Try.prog 36 #[.pointer (some ⟨g, 0, none⟩)] w (.int .i64 (fbytes (dall (ss.map Sg.d)) : Nat)) := by
  refine RetB.intro fun R hR => ?_
  obtain ⟨b, off, cap, h1, h2, h3, h4⟩ := h.ptrs hne
  have H := Lib.hid h
  have HL := Lib.hid hll
  obtain ⟨k0, y0, y1⟩ := h1.c2
  have HC := Lib.hid h4
  clear h h4 hll
  go_enter Try.func36, Try.ntmps36
  go_wp2_with fail
  clear y0 y1
  go_loopw [3, 5, 11] (fun (v3 v5 v11 : Value) (W : World) => ∃ k : Nat, k ≤ ss.length ∧ v11 = .int .i64 (k : Int) ∧ v3 = .int .i64 (fbytes (dall ((ss.take k).map Sg.d)) : Nat) ∧ fbytes (dall ((ss.take k).map Sg.d)) ≤ 202100000 * k ∧ Below w.heap.size w W) (fun (v3 v5 v11 : Value) (W : World) => (ss.length - intOf v11).toNat)
  case atStart => exact ⟨0, by omega, rfl, by simp [dall, fbytes], by simp [dall, fbytes], Below.refl _ _⟩
  case round =>
    obtain ⟨k, hk, rfl, rfl, hkb, hnx⟩ := hrel
    by_cases hkl : k < ss.length
    · have hm := List.getElem_mem hkl
      have x0 := (hnx.cell (p := ⟨b, off + k, none⟩) h3).trans (HC.out k hkl)
      have hd := Lib.hid (dall_take ss hkl)
      obtain ⟨hs1, hs2⟩ := HL.out _ hm
      have cB := bytes5 ss[k].p ss[k].bs ss[k].d.base ss[k].d.next ss[k].d.l wr ((H.out.below hnx).sg hm) hs1 hs2
      have hle := fbytes_le ss[k].d.l
      generalize ss[k] = s at *
      have hdb : Hid (fbytes (dall ((ss.take (k + 1)).map Sg.d)) = fbytes (dall ((ss.take k).map Sg.d)) + fbytes s.d.l) := Lib.hid (by rw [hd.out, fbytes_append])
      generalize fbytes (dall ((ss.take k).map Sg.d)) = X at *
      generalize fbytes s.d.l = Y at *
      have j0 : (0 : Int) ≤ (k : Int) := by omega
      have j1 : (k : Int) < (ss.length : Int) := by omega
      have q1 : IntKind.i64.wrap ((X : Int) + (Y : Int)) = ((X + Y : Nat) : Int) := by rw [IntKind.wrap_i64]; omega
      have cB := Lib.hid cB
      clear hm hs2
      go_wp2_with fail
      refine cB.out.use ?_
      intro w1 b1
      go_wp2_with fail
      go_roundw
      case rel => exact ⟨k + 1, by omega, by go_num, by rw [hdb.out]; simp, by rw [hdb.out]; omega, below_any (Nat.le_refl _) hnx b1⟩
      case measure => first | (simp [intOf]; done) | (simp [intOf]; omega)
    · have j1 : ¬ (k : Int) < (ss.length : Int) := by omega
      rw [List.take_of_length_le (by omega)] at *
      go_wp2_with fail
      exact finB hR hnx rfl
end Go.Proofs.Ytkfglnhapcceaaa
