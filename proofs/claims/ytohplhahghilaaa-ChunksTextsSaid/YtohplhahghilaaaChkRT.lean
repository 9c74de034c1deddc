import Derived.Test.YtohplhahghilaaaChkE
import Derived.Test.YtohplhahghilaaaChkW
import Derived.Test.YtohplhahghilaaaSegL
/-
  Layer 7: the document's text of a segment.
-/
set_option linter.unusedVariables false
set_option linter.unusedSimpArgs false
namespace Go.Proofs.Ytohplhahghilaaa
open Go.RowKit
attribute [local go_sem] ByteArray.extract_mk ByteArray.mk_append_mk

/-- A slice as it may be loaded: nil, or at a place. -/
def Plain (v : Value) : Prop := (∃ ad n c, v = .slice (some ad) n c) ∨ v = .slice none 0 0
theorem own_plain {w : World} {B n s : Nat} {v : Value} {xs : List Value} {e : TypeId} (h : w.ownsRow B e s v n xs) : Plain v := by
  rcases h.2 with ⟨rfl, _⟩ | ⟨g, cap, cur, rfl, _⟩
  · exact .inr rfl
  · exact .inl ⟨_, _, _, rfl⟩

set_option maxHeartbeats 8000000 in
set_option maxRecDepth 100000 in
theorem rtext7_ok (base next : Int) (v : Value) (l : List Fnd) (w : World) (hv : FndsIn w v l) (hns : Plain v) (hbd : ∀ f ∈ l, RecBd f.r) (hok : lerr base next l = 0) :
    RetB Try.prog 12 #[.agg #[.int .i64 base, .int .i64 next, v]] w (.tuple #[.string (S (stext base next l)), .int .i64 0]) := by
  refine RetB.intro fun R hR => ?_
  obtain ⟨b1, b2, n1, n2, bn, h64, hord, hall⟩ := lerr_ok hok
  have hordk := Lib.hid (order_at l base next hord)
  have cL : ∀ W : World, FndsIn W v l → Calls Try.prog 41 #[.int .i64 base, .int .i64 next, v] W fun x w' => ∃ p, x = .returned (.tuple #[.pointer (some ⟨p, 0, none⟩), .int .i64 0]) ∧ Below W.heap.size W w' := fun W hW => (rload5_any base next v l W hW hns (by omega) hbd).mono fun x w' hx => by
    rcases hx with ⟨_, p, h1, _, h3⟩ | ⟨h1, _⟩
    · exact ⟨p, h1, h3⟩
    · exact absurd hok h1
  have HL := Lib.hid cL
  clear cL hok hord
  obtain ⟨base, rfl⟩ := Int.eq_ofNat_of_zero_le b1
  obtain ⟨next, rfl⟩ := Int.eq_ofNat_of_zero_le n1
  have hst : stext base next l = nbytes [base, next, l.length] ++ ftext base l := by simp [stext, nbytes]
  have hnb : nbytes [base, next, l.length] = vput base ++ (vput next ++ vput l.length) := by simp [nbytes]
  rw [hst] at hR
  clear hst
  obtain ⟨va, vc, hvf⟩ := hv.form
  subst hvf
  have HV := Lib.hid hv
  have HA := Lib.hid hall
  have p1 : base < 18446744073709551616 := by omega
  have p2 : next < 18446744073709551616 := by omega
  have p3 : l.length < 18446744073709551616 := by omega
  have q1 : IntKind.u64.wrap (base : Int) = base := by rw [IntKind.wrap_u64]; omega
  have q2 : IntKind.u64.wrap (next : Int) = next := by rw [IntKind.wrap_u64]; omega
  have q3 : IntKind.u64.wrap (l.length : Int) = l.length := by rw [IntKind.wrap_u64]; omega
  have v1 := vput_le base
  have v2 := vput_le next
  have v3 := vput_le l.length
  have g1 : ¬ 9223372036854775807 < (vput base).length + (vput next).length := by omega
  have g2 : ¬ 9223372036854775807 < (vput base).length + (vput next).length + (vput l.length).length := by omega
  have g3 : ¬ 9223372036854775807 < (vput base).length + ((vput next).length + (vput l.length).length) := by omega
  have hnl : (nbytes [base, next, l.length]).length ≤ 30 := by rw [hnb]; simp only [List.length_append]; omega
  have HNB := Lib.hid hnb
  have HNL := Lib.hid hnl
  clear hnb hnl hns
  have B0 := Blk.new w #[.int .i64 base, .int .i64 next, .slice va l.length vc] 24
  have V0 := HV.out.alloc (.cells #[.int .i64 base, .int .i64 next, .slice va l.length vc] 24)
  clear hv hall hbd
  go_enter Try.func12, Try.ntmps12
  go_wp2_with fail
  refine (HL.out _ V0).mono ?_
  rintro e w1 ⟨p, rfl, hb1⟩
  have B1 := B0.below hb1
  obtain ⟨hz1, x0, x1, x2⟩ := B1.c3
  have G1 : Below w.heap.size w w1 := below_any (Nat.le_refl _) (below_all (Below.refl _ _)) hb1
  have B1d : Blk w1.drew w.heap.size _ _ := B1
  clear hb1 V0 B0
  go_wp2_with fail
  clear x0 x1 x2
  obtain ⟨hz1d, x0, x1, x2⟩ := B1d.c3
  go_region_held3 (fun w' => w'.cell? ⟨w.heap.size, 0, none⟩ = some (.int .i64 (base : Int)) ∧ w'.cell? ⟨w.heap.size, 1, none⟩ = some (.int .i64 (next : Int)) ∧ w'.cell? ⟨w.heap.size, 2, none⟩ = some (.slice va l.length vc) ∧ w.heap.size < w'.heap.size) (go_keep) (first | (go_at_call 42; refine (rput_eq _ _ (by assumption)).use ?_; intro w2 hb2; have B2 := Blk.below (by assumption) hb2; obtain ⟨hz2, y0, y1, y2⟩ := B2.c3))
  have G2 : Below w.heap.size w w2 := by repeat (first | assumption | exact Below.refl _ _ | refine below_all ?_ | refine below_any (Nat.le_refl _) ?_ (by assumption) | refine Below.drew ?_)
  go_wp2_with fail
  have hTl : (vput base ++ (vput next ++ vput l.length)).length ≤ 30 := by simp only [List.length_append]; omega
  rw [HNB.out] at hR
  generalize hT0 : vput base ++ (vput next ++ vput l.length) = T0 at hR hTl ⊢
  have HTL := Lib.hid hTl
  clear hT0 hTl HNB HNL g1 g2 g3 q1 q2 q3 x0 x1 x2 y0 y1 y2 HL G1 B1 B1d
  go_loopw [6, 7, 8] (fun (v6 v7 v8 : Value) (W : World) => ∃ j : Nat, j ≤ l.length ∧ v8 = .int .i64 (j : Int) ∧ v7 = .int .i64 (leastOf base l j) ∧ v6 = .string (S (T0 ++ ftext base (l.take j))) ∧ Below w.heap.size w W ∧ Blk W w.heap.size #[.int .i64 (base : Int), .int .i64 (next : Int), .slice va l.length vc] 24) (fun (v6 v7 v8 : Value) (W : World) => (l.length - intOf v8).toNat)
  case atStart => exact ⟨0, by omega, rfl, by rw [leastOf_zero], by simp [ftext], G2, B2⟩
  case round =>
    obtain ⟨j, hj, rfl, rfl, rfl, hn2, hb⟩ := hrel
    have BR := Lib.hid hb
    have NR := Lib.hid hn2
    obtain ⟨kb, u0, u1, u2⟩ := hb.c3
    by_cases hjl : j < l.length
    · have hr := HV.out.below hn2
      rcases hr with ⟨h, _⟩ | ⟨b, off, cap', hsl, hcap, hne, hlt, hc⟩
      · rw [h] at hjl; simp at hjl
      simp only [Value.slice.injEq, true_and] at hsl
      obtain ⟨rfl, rfl⟩ := hsl
      have FA := hc j hjl
      have hok := HA.out _ (List.getElem_mem hjl)
      obtain ⟨t1, _, _, t2, t3⟩ := rcheck_ok hok
      have cT := fun W => r3text_any l[j].r.hk l[j].r.tb l[j].r.key l[j].r.val W (by omega) (by omega)
      have htl : rtext l[j].r.hk l[j].r.key l[j].r.tb l[j].r.val = l[j].r.text := rfl
      rw [htl] at cT
      have hsn := Lib.hid (ftext_take base l hjl)
      have hle := ftext_le (l.take j) base fun r hr => HA.out r (List.mem_of_mem_take hr)
      have hle2 := rec_ok_text hok
      obtain ⟨o1, o2, o3⟩ := hordk.out j hjl
      have hls := Lib.hid (leastOf_step base l hjl)
      have hta : (l.take j).length ≤ 64 := by rw [List.length_take]; omega
      have hT := HTL.out
      have hlen0 : (T0 ++ ftext base (l.take j)).length ≤ 200000 := by rw [List.length_append]; omega
      clear htl t1 t2 t3 hle hta hc hne hok hn2 hb
      generalize leastOf base l j = lo at *
      generalize l[j] = f at *
      generalize hTj : T0 ++ ftext base (l.take j) = Tj at hlen0 ⊢
      have HTj := Lib.hid hTj
      clear hTj
      obtain ⟨tx, htx⟩ : ∃ t, f.r.text = t := ⟨_, rfl⟩
      rw [htx] at cT hsn hle2
      have q1 : IntKind.i64.wrap (f.off - lo) = ((f.off - lo).toNat : Int) := by rw [IntKind.wrap_i64]; omega
      have q2 : IntKind.u64.wrap (((f.off - lo).toNat : Nat) : Int) = ((f.off - lo).toNat : Int) := by rw [IntKind.wrap_u64]; omega
      have q3 : IntKind.i64.wrap (f.off + 1) = f.off + 1 := by rw [IntKind.wrap_i64]; omega
      have cP := fun W => rput_eq (f.off - lo).toNat W (by omega)
      have hv := vput_le (f.off - lo).toNat
      generalize (f.off - lo).toNat = df at *
      clear htx
      have g1 : ¬ 9223372036854775807 < (vput df).length + tx.length := by omega
      have g2 : ¬ 9223372036854775807 < Tj.length + ((vput df).length + tx.length) := by omega
      have j0 : (0 : Int) ≤ (j : Int) := by omega
      have j1 : (j : Int) < (l.length : Int) := by omega
      obtain ⟨x0, x1, x2, x3, x4⟩ := FA
      have FA := Lib.hid (show FndAt wr b (off + j * 5) f from ⟨x0, x1, x2, x3, x4⟩)
      have P0 : Below wr.heap.size wr wr.drew := (Below.refl _ _).drew
      have HQ := Lib.hid hv
      clear hle2 hlen0 hv hT
      go_wp2_with fail
      go_region_held3 (fun w' => w'.cell? ⟨w.heap.size, 0, none⟩ = some (.int .i64 (base : Int)) ∧ w'.cell? ⟨w.heap.size, 1, none⟩ = some (.int .i64 (next : Int)) ∧ w'.cell? ⟨w.heap.size, 2, none⟩ = some (.slice (some ⟨b, off, none⟩) l.length vc) ∧ w'.cell? ⟨b, off + j * 5, none⟩ = some (.int .i64 f.off) ∧ w'.cell? ⟨b, off + j * 5 + 1, none⟩ = some (.bool f.r.hk) ∧ w'.cell? ⟨b, off + j * 5 + 2, none⟩ = some (.string (S f.r.key)) ∧ w'.cell? ⟨b, off + j * 5 + 3, none⟩ = some (.bool f.r.tb) ∧ w'.cell? ⟨b, off + j * 5 + 4, none⟩ = some (.string (S f.r.val))) (go_keep) (first | (go_at_call 42; refine (cP _).use ?_; intro W hb; have P := below_any (Nat.le_refl _) (by assumption) hb; obtain ⟨_, xx0, xx1, xx2⟩ := (BR.out.below P).c3; obtain ⟨yy0, yy1, yy2, yy3, yy4⟩ := FA.out.keep (fun i => P.cell (p := ⟨b, i, none⟩) hlt)) | (go_at_call 43; refine (cT _).use ?_; intro W hb; have P := below_any (Nat.le_refl _) (by assumption) hb; obtain ⟨_, xx0, xx1, xx2⟩ := (BR.out.below P).c3; obtain ⟨yy0, yy1, yy2, yy3, yy4⟩ := FA.out.keep (fun i => P.cell (p := ⟨b, i, none⟩) hlt)))
      all_goals go_wp2_with fail
      all_goals go_roundw
      case rel => exact ⟨j + 1, by omega, by go_num, by rw [hls.out], by rw [hsn.out, ← HTj.out]; simp [S, List.append_assoc], NR.out.trans ((by assumption : Below wr.heap.size wr _).mono NR.out.size), BR.out.below (by assumption)⟩
      all_goals (first | (simp [intOf]; done) | (simp [intOf]; omega))
    · have hle : l.length ≤ j := by omega
      rw [List.take_of_length_le hle]
      clear hn2 hb
      go_wp2_with fail
      exact finB hR NR.out rfl
set_option maxHeartbeats 4000000 in
set_option maxRecDepth 100000 in
theorem rtext7_no (base next : Int) (v : Value) (l : List Fnd) (w : World) (hv : FndsIn w v l) (hns : Plain v) (hbd : ∀ f ∈ l, RecBd f.r) (hll : l.length ≤ 9223372036854775807) (hok : lerr base next l ≠ 0) :
    RetB Try.prog 12 #[.agg #[.int .i64 base, .int .i64 next, v]] w (.tuple #[.string (S []), .int .i64 (lerr base next l : Nat)]) := by
  refine RetB.intro fun R hR => ?_
  have hL : ∀ W : World, FndsIn W v l → RetB Try.prog 41 #[.int .i64 base, .int .i64 next, v] W (.tuple #[.pointer none, .int .i64 (lerr base next l : Nat)]) := fun W hW => (rload5_any base next v l W hW hns hll hbd).mono fun x w' hx => by
    rcases hx with ⟨h1, _⟩ | ⟨_, h2, h3⟩
    · exact absurd h1 hok
    · exact ⟨h2, h3⟩
  have HL := Lib.hid hL
  clear hL hns
  obtain ⟨va, vc, hvf⟩ := hv.form
  subst hvf
  generalize lerr base next l = e at *
  have h2 : ((e : Int) != 0) = true := by simpa using hok
  have B0 := Blk.new w #[.int .i64 base, .int .i64 next, .slice va l.length vc] 24
  have V0 := hv.alloc (.cells #[.int .i64 base, .int .i64 next, .slice va l.length vc] 24)
  clear hok hv
  go_enter Try.func12, Try.ntmps12
  go_wp2_with fail
  refine (HL.out _ V0).use ?_
  intro w1 hb1
  go_wp2_with fail
  exact finB hR (below_any (Nat.le_refl _) (below_all (Below.refl _ _)) hb1) rfl
theorem rtext7 (base next : Int) (v : Value) (l : List Fnd) (w : World) (hv : FndsIn w v l) (hns : Plain v) (hbd : ∀ f ∈ l, RecBd f.r) (hll : l.length ≤ 9223372036854775807) :
    RetB Try.prog 12 #[.agg #[.int .i64 base, .int .i64 next, v]] w (.tuple #[.string (S (if lerr base next l = 0 then stext base next l else [])), .int .i64 (lerr base next l : Nat)]) := by
  by_cases h : lerr base next l = 0
  · exact (rtext7_ok base next v l w hv hns hbd h).cast (by rw [if_pos h, h]; rfl)
  · exact (rtext7_no base next v l w hv hns hbd hll h).cast (by rw [if_neg h])
end Go.Proofs.Ytohplhahghilaaa
