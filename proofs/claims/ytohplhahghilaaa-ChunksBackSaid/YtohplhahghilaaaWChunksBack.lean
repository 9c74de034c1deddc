/-
  The walk of ChunksBack.
-/
import Derived.Test.YtohplhahghilaaaChkSs
import Derived.Test.YtohplhahghilaaaChkSame
import Derived.Test.YtohplhahghilaaaChkQ
import Derived.Test.YtohplhahghilaaaChkH
import Derived.Test.YtohplhahghilaaaChkU
import Derived.Test.YtohplhahghilaaaChkT
set_option linter.unusedVariables false
set_option linter.unusedSimpArgs false
namespace Go.Proofs.Ytohplhahghilaaa.chunksBack
open Go.RowKit
attribute [local go_sem] ByteArray.extract_mk ByteArray.mk_append_mk

theorem stext_le {base next : Int} {l : List Fnd} (h : lerr base next l = 0) : (stext base next l).length ≤ 200000 := by
  obtain ⟨_, _, _, _, _, h6, _, h8⟩ := lerr_ok h
  have h1 := ftext_le l base h8
  have a := vput_le base.toNat
  have b := vput_le next.toNat
  have c := vput_le l.length
  simp only [stext, List.length_append]
  omega
theorem put_both (c : Chk) (hd : c.d < 18446744073709551616) : ∃ (t : List UInt8) (e : Nat), (∀ w, RetB Try.prog 21 #[c.val] w (.tuple #[.string (S t), .int .i64 (e : Nat)])) ∧ (e = 0 → t.length ≤ 5000 ∧ cget t = (c, 0)) ∧ (c.right = true → t = c.text ∧ e = 0) := by
  cases hr : c.right with
  | true => exact ⟨c.text, 0, fun w => put7_ok c w hr hd, fun _ => ⟨ctext_le (Chk.right_iff.1 hr).2.2.2.2.2, cget_text hr hd⟩, fun _ => ⟨rfl, rfl⟩⟩
  | false => exact ⟨[], 70, fun w => put7_no c w hr, fun h => by omega, fun h => by simp at h⟩
theorem cget_d {s : List UInt8} {c : Chk} {e : Nat} (h : cget s = (c, e)) : c.d < 18446744073709551616 := by
  by_cases he : e = 0
  · subst he; exact (cget_back h).2.2
  · unfold cget at h
    split at h
    · simp only [Prod.mk.injEq] at h; rw [← h.1]; decide
    · simp only at h
      split at h
      · simp only [Prod.mk.injEq] at h; rw [← h.1]; decide
      · simp only [Prod.mk.injEq] at h; exact absurd h.2.symm he
/-- What lies in memory. -/
structure BS (w : World) (base next : Int) (v : Value) (L : List Fnd) (c : Chk) (W : World) : Prop where
  x3 : Blk W w.heap.size #[.int .i64 base, .int .i64 next, v] 24
  x4 : Blk W (w.heap.size + 1) #[.int .i64 c.i, .int .i64 c.n, .int .u64 (c.d : Nat), .string (S c.b)] 38
  fn : FndsIn W v L
  bel : Below w.heap.size w W
theorem BS.below {w W W' : World} {base next : Int} {v : Value} {L : List Fnd} {c : Chk} (h : BS w base next v L c W) (b : Below W.heap.size W W') : BS w base next v L c W' :=
  ⟨h.x3.below b, h.x4.below b, h.fn.below b, below_any (Nat.le_refl _) h.bel b⟩

theorem FndsIn.set {W : World} {v : Value} {l : List Fnd} (h : FndsIn W v l) {p i : Nat} (u : Value) (ha : ∀ b, v.ownBlock = some b → b ≠ p) : FndsIn (W.setCell ⟨p, i, none⟩ u) v l :=
  h.kept (bs := [p]) (Kept.ofGrown (grown_set (grown_refl _ _) _ _)) (fun b hb hm => ha b hb (by simpa using hm))
theorem BS.start {w w1 : World} {base next : Int} {v0 v : Value} {L : List Fnd} {ci cn : Int} {cd : Nat} {cb b : List UInt8} (X3 : Blk w1 w.heap.size #[.int .i64 base, .int .i64 next, v0] 24) (X4 : Blk w1 (w.heap.size + 1) #[.int .i64 ci, .int .i64 cn, .int .u64 (cd : Nat), .string (S cb)] 38)
    (o : FndsIn w1 v L) (ho : ∀ b, v.ownBlock = some b → w.heap.size + 2 ≤ b) (g : Below w.heap.size w w1) : BS w base next v L ⟨ci, cn, cd, b⟩ ((((w1.setCell ⟨w.heap.size, 0, none⟩ (.int .i64 base)).setCell ⟨w.heap.size, 1, none⟩ (.int .i64 next)).setCell ⟨w.heap.size, 2, none⟩ v).setCell ⟨w.heap.size + 1, 3, none⟩ (.string (S b))) := by
  refine ⟨?_, ?_, ?_, ?_⟩
  · exact (((X3.set 0 (.int .i64 base)).set 1 (.int .i64 next)).set 2 v).setOther (a := ⟨w.heap.size + 1, 3, none⟩) (by simp) _
  · exact (((X4.setOther (a := ⟨w.heap.size, 0, none⟩) (by simp) _).setOther (a := ⟨w.heap.size, 1, none⟩) (by simp) _).setOther (a := ⟨w.heap.size, 2, none⟩) (by simp) _).set 3 (.string (S b))
  · refine FndsIn.set (FndsIn.set (FndsIn.set (FndsIn.set o _ ?_) _ ?_) _ ?_) _ ?_ <;> intro x hx <;> have := ho x hx <;> omega
  · exact (((g.setCell (p := ⟨w.heap.size, 0, none⟩) (Nat.le_refl _) _).setCell (p := ⟨w.heap.size, 1, none⟩) (Nat.le_refl _) _).setCell (p := ⟨w.heap.size, 2, none⟩) (Nat.le_refl _) _).setCell (p := ⟨w.heap.size + 1, 3, none⟩) (show w.heap.size ≤ w.heap.size + 1 by omega) _

theorem neq_chk7 (i n : Int) (d : Nat) (b : List UInt8) (w : World) : (binOp .neq 38 (.agg #[.int .i64 i, .int .i64 n, .int .u64 (d : Nat), .string (S b)]) (.agg #[.int .i64 i, .int .i64 n, .int .u64 (d : Nat), .string (S b)])).run Try.prog w = .ok (.bool false) w := by
  have h := neq_chk ⟨i, n, d, b⟩ ⟨i, n, d, b⟩ w
  simpa [Chk.val] using h
theorem recs_bd {base next : Int} {l : List Fnd} (h : lerr base next l = 0) : ∀ f ∈ l, RecBd f.r := by
  obtain ⟨_, _, _, _, _, _, _, h8⟩ := lerr_ok h
  intro f hf
  obtain ⟨t1, t2, t3, t4, t5⟩ := rcheck_ok (h8 f hf)
  exact ⟨by unfold maxLen; omega, by unfold maxLen; omega⟩
theorem text_of {base next : Int} {v : Value} {l : List Fnd} {s : List UInt8} {w : World} (o : FndsIn w v l) (h : lerr base next l = 0) (hs : stext base next l = s) :
    RetB Try.prog 11 #[.agg #[.int .i64 base, .int .i64 next, v]] w (.tuple #[.string (S s), .int .i64 0]) :=
  (text7_ok base next v l w o (recs_bd h) h).cast (by rw [hs])

set_option maxHeartbeats 8000000 in
set_option maxRecDepth 100000 in
theorem walk {w : World} (base next : Int) (v : Value) (l : List Fnd) (c : Chk) (s : List UInt8) (hl : FndsIn w v l) (h0 : SegBd base next l) (hc : ChkBd c) (hs : s.length ≤ maxLen) :
    RetB Try.prog 5 #[.agg #[.int .i64 base, .int .i64 next, v], c.val, .string (S s)] w (.bool true) := by
  refine RetB.intro fun R hR => ?_
  obtain ⟨ci, cn, cd, cb⟩ := c
  have hcb : cb.length ≤ maxLen := hc.2.2.2
  have hcd : cd < 18446744073709551616 := hc.2.2.1
  unfold maxLen at hs hcb
  have hLb : ∀ f ∈ cutFs l, RecBd f.r := cutF_bd (fun f hf => (h0.2.1 f hf).1)
  have hLl : (cutFs l).length ≤ 70 := by simp [cutFs]; omega
  have C0 := Lib.hid (fun W (hb : Below w.heap.size w W) => seg7 base next v l W (hl.below hb) (fun f hf => (h0.2.1 f hf).1) (by have := h0.1; unfold maxLen at this; omega))
  obtain ⟨L, hL⟩ : ∃ L, cutFs l = L := ⟨_, rfl⟩
  rw [hL] at C0 hLb hLl
  have q1 : ((min (s.length : Int) 1500).toNat) = min s.length 1500 := by omega
  obtain ⟨t, ht⟩ : ∃ l, s.take (min s.length 1500) = l := ⟨_, rfl⟩
  have htl : t.length ≤ 1500 := by rw [← ht, List.length_take]; omega
  have q2 : ((min (cb.length : Int) 5000).toNat) = min cb.length 5000 := by omega
  obtain ⟨b, hb⟩ : ∃ l, cb.take (min cb.length 5000) = l := ⟨_, rfl⟩
  have C1 := Lib.hid (fun v W (h : FndsIn W v L) => text7 base next v L W h hLb (by omega))
  obtain ⟨e, he⟩ : ∃ e, lerr base next L = e := ⟨_, rfl⟩
  obtain ⟨tx, htx⟩ : ∃ tx, (if e = 0 then stext base next L else []) = tx := ⟨_, rfl⟩
  rw [he, htx] at C1
  have HE := Lib.hid he
  have HX := Lib.hid htx
  have HC := Lib.hid hcd
  have HT := Lib.hid htl
  have HLl := Lib.hid hLl
  obtain ⟨⟨di, dn, dd, db⟩, i, hcg⟩ : ∃ d i, cget t = (d, i) := ⟨_, _, rfl⟩
  have CD := Lib.hid (fun w => (get7 t w (by omega)).cast (v' := .tuple #[.agg #[.int .i64 di, .int .i64 dn, .int .u64 (dd : Nat), .string (S db)], .int .i64 (i : Nat)]) (by rw [hcg]; rfl))
  obtain ⟨t2, e2, hP2, hq1, hq2⟩ := put_both ⟨di, dn, dd, db⟩ (cget_d hcg)
  have hq3 : i = 0 → t2 = t ∧ e2 = 0 := fun h => by
    subst h
    obtain ⟨g1, g2, _⟩ := cget_back hcg
    obtain ⟨g3, g4⟩ := hq2 g1
    exact ⟨g3.trans g2, g4⟩
  unfold Chk.val at hP2
  have PD := Lib.hid hP2
  have QD := Lib.hid hq3
  clear hcg hP2 hq1 hq2 hq3
  unfold Chk.val
  clear hL he htx hLb hl h0 hc hcd htl hLl
  go_enter Try.func5, Try.ntmps5
  go_wp2_with fail
  refine (C0.out _ (below_all (below_all (Below.refl _ _)))).use ?_
  intro v1 w1 o1 b1
  have X3 := ((Blk.new w #[.int .i64 base, .int .i64 next, v] 24).alloc (.cells #[.int .i64 ci, .int .i64 cn, .int .u64 (cd : Nat), .string (S cb)] 38)).below b1
  have X4 := (Blk.new (w.alloc (.cells #[.int .i64 base, .int .i64 next, v] 24)) #[.int .i64 ci, .int .i64 cn, .int .u64 (cd : Nat), .string (S cb)] 38).below b1
  rw [World.size_alloc] at X4
  have G1 := below_any (Nat.le_refl _) (below_all (o := .cells #[.int .i64 ci, .int .i64 cn, .int .u64 (cd : Nat), .string (S cb)] 38) (below_all (o := .cells #[.int .i64 base, .int .i64 next, v] 24) (Below.refl w.heap.size w))) b1
  obtain ⟨k3, x0, x1, x2⟩ := X3.c3
  obtain ⟨k4, y0, y1, y2, y3⟩ := X4.c4
  have fz3 : ∀ i, w1.frozen? ⟨w.heap.size, i, none⟩ = false := fun i => Blk.frozen X3 i
  have fz4 : ∀ i, w1.frozen? ⟨w.heap.size + 1, i, none⟩ = false := fun i => Blk.frozen X4 i
  obtain ⟨va, vc, rfl⟩ := own_form o1
  have SB : BS w base next (.slice va L.length vc) L ⟨ci, cn, cd, b⟩ _ := BS.start (b := b) X3 X4 (fnds_own o1) (fun x hx => by have := (o1.lt x hx).1; simpa using this) G1
  have SB := Lib.hid SB
  clear o1 X3 X4 G1 b1 C0
  obtain ⟨pt, pe, hP, hp1, hp2⟩ := put_both ⟨ci, cn, cd, b⟩ HC.out
  unfold Chk.val at hP
  have PP := Lib.hid hP
  have PI := Lib.hid hp1
  clear hP hp1 hp2
  go_wp2_with fail
  generalize ((((w1.setCell ⟨w.heap.size, 0, none⟩ (.int .i64 base)).setCell ⟨w.heap.size, 1, none⟩ (.int .i64 next)).setCell ⟨w.heap.size, 2, none⟩ (.slice va L.length vc)).setCell ⟨w.heap.size + 1, 3, none⟩ (.string (S b))) = W2 at SB ⊢
  refine (C1.out _ _ SB.out.fn).use ?_
  intro w2 b2
  have SB2 := Lib.hid (SB.out.below b2)
  clear SB b2 C1 k3 x0 x1 x2 k4 y0 y1 y2 y3 fz3 fz4
  by_cases he0 : e = 0
  rotate_left
  have he1 : ((e : Int) == 0) = false := by simpa using he0
  clear he0 HX HE
  obtain ⟨w4, rfl⟩ : ∃ w4 : World, w4 = w2 := ⟨_, rfl⟩
  have SB4 := Lib.hid SB2.out
  clear SB2
  obtain ⟨k4, y0, y1, y2, y3⟩ := SB4.out.x4.c4
  go_wp2_with fail
  rotate_left
  subst he0
  have hx2 : stext base next L = tx := by rw [← HX.out, if_pos rfl]
  have htl2 : tx.length ≤ 200000 := by rw [← hx2]; exact stext_le HE.out
  have HX2 := Lib.hid hx2
  have HT2 := Lib.hid htl2
  clear hx2 htl2
  obtain ⟨k3, x0, x1, x2⟩ := SB2.out.x3.c3
  go_wp2_with fail
  refine (parse7 tx _ HT2.out).use ?_ (fun w3 b3 hno => absurd HX2.out (hno _ _ _ HE.out))
  intro w3 b' n' v' l' b3 o3 hg hs
  obtain ⟨rfl, rfl, rfl⟩ := stext_inj HE.out hg (HX2.out.trans hs.symm)
  have SB3 := Lib.hid (SB2.out.below b3)
  obtain ⟨a3, c3, rfl⟩ := own_form o3
  have F3 := Lib.hid (fnds_own o3)
  clear o3 hg hs b3 SB2 k3 x0 x1 x2
  obtain ⟨k3, x0, x1, x2⟩ := SB3.out.x3.c3
  go_wp2_with fail
  refine (segs6 (w3.heap.size + 1) (w3.heap.size + 1 + 1) base next (.slice va L.length vc) (.slice a3 L.length c3) L (((w3.alloc (.cells #[.int .i64 base, .int .i64 next, .slice a3 L.length c3] 24)).alloc (.cells #[.int .i64 base, .int .i64 next, .slice va L.length vc] 24)).alloc (.cells #[.int .i64 base, .int .i64 next, .slice a3 L.length c3] 24)) ?h1 ?h2 (((SB3.out.fn.alloc _).alloc _).alloc _) (((F3.out.alloc _).alloc _).alloc _) (by have := HLl.out; omega)).use ?_
  case h1 =>
    have h := (Blk.new (w3.alloc (.cells #[.int .i64 base, .int .i64 next, .slice a3 L.length c3] 24)) #[.int .i64 base, .int .i64 next, .slice va L.length vc] 24).alloc (.cells #[.int .i64 base, .int .i64 next, .slice a3 L.length c3] 24)
    rwa [World.size_alloc] at h
  case h2 =>
    have h := Blk.new ((w3.alloc (.cells #[.int .i64 base, .int .i64 next, .slice a3 L.length c3] 24)).alloc (.cells #[.int .i64 base, .int .i64 next, .slice va L.length vc] 24)) #[.int .i64 base, .int .i64 next, .slice a3 L.length c3] 24
    rwa [World.size_alloc, World.size_alloc] at h
  intro w4 b4
  have SB4 := Lib.hid (SB3.out.below (below_any (Nat.le_refl _) (below_all (below_all (below_all (Below.refl _ _)))) b4))
  clear b4 SB3 F3 k3 x0 x1 x2 HX HX2 HT2 HE
  obtain ⟨k4, y0, y1, y2, y3⟩ := SB4.out.x4.c4
  go_wp2_with fail
  all_goals (
    refine (PP.out _).use ?_
    intro w5 b5
    have SB5 := Lib.hid (SB4.out.below b5)
    clear b5 SB4 PP k4 y0 y1 y2 y3
    by_cases hpe : pe = 0
    rotate_left
    have hp1 : ((pe : Int) == 0) = false := by simpa using hpe
    clear hpe PI
    obtain ⟨w7, rfl⟩ : ∃ w7 : World, w7 = w5 := ⟨_, rfl⟩
    have G7 := Lib.hid SB5.out.bel
    clear SB5
    go_wp2_with fail
    rotate_left
    subst hpe
    obtain ⟨hpl, hpg⟩ := PI.out rfl
    have CG := Lib.hid (fun w => (get7 pt w (by omega)).cast (v' := .tuple #[.agg #[.int .i64 ci, .int .i64 cn, .int .u64 (cd : Nat), .string (S b)], .int .i64 0]) (by rw [hpg]; rfl))
    have neqc := fun w => neq_chk7 ci cn cd b w
    clear hpl hpg PI
    go_wp2_with fail
    refine (CG.out _).use ?_
    intro w6 b6
    have SB6 := Lib.hid (SB5.out.below b6)
    clear b6 SB5 CG
    obtain ⟨k4, y0, y1, y2, y3⟩ := SB6.out.x4.c4
    have G7 := Lib.hid (below_all (o := .cells #[.int .i64 ci, .int .i64 cn, .int .u64 (cd : Nat), .string (S b)] 38) SB6.out.bel)
    go_wp2_with fail
    clear SB6 k4 y0 y1 y2 y3 neqc
    generalize w6.alloc (.cells #[.int .i64 ci, .int .i64 cn, .int .u64 (cd : Nat), .string (S b)] 38) = w7 at G7 ⊢)
  all_goals (
    refine (parse7 t w7 (by have := HT.out; omega)).use ?_ ?_
    rotate_left
    intro w8 b8 hno
    have G8 := Lib.hid (below_all (o := .cells #[.int .i64 0, .int .i64 0, .slice none 0 0] 24) (below_any (Nat.le_refl _) G7.out b8))
    obtain ⟨tz, htz⟩ : ∃ tz, (if lerr 0 0 [] = 0 then stext 0 0 [] else []) = tz := ⟨_, rfl⟩
    obtain ⟨ez, hez⟩ : ∃ ez, lerr 0 0 [] = ez := ⟨_, rfl⟩
    have CZ := fun W => text7 0 0 (.slice none 0 0) [] W (.inl ⟨rfl, _, _, rfl⟩) (by simp) (by decide)
    rw [htz, hez] at CZ
    clear htz hez hno b8 G7
    go_wp2_with fail
    refine (CZ _).use ?_
    intro w9 b9
    have G9 := Lib.hid (below_any (Nat.le_refl _) G8.out b9)
    clear b9 G8 CZ
    go_wp2_with fail
    rotate_left
    intro w8 b' n' v' l' b8 o8 hg hs
    have F8 := fnds_own o8
    obtain ⟨a8, c8, rfl⟩ := own_form o8
    have CZ := Lib.hid (text_of (F8.alloc (.cells #[.int .i64 b', .int .i64 n', .slice a8 l'.length c8] 24)) hg hs)
    have G8 := Lib.hid (below_all (o := .cells #[.int .i64 b', .int .i64 n', .slice a8 l'.length c8] 24) (below_any (Nat.le_refl _) G7.out b8))
    clear F8 o8 hg hs b8 G7
    go_wp2_with fail
    refine CZ.out.use ?_
    intro w9 b9
    have G9 := Lib.hid (below_any (Nat.le_refl _) G8.out b9)
    clear b9 G8 CZ
    go_wp2_with fail)
  all_goals (
    refine (CD.out _).use ?_
    intro wa ba
    have Ga := Lib.hid (below_all (o := .cells #[.int .i64 di, .int .i64 dn, .int .u64 (dd : Nat), .string (S db)] 38) (below_any (Nat.le_refl _) G9.out ba))
    clear ba G9 CD
    go_wp2_with fail
    refine (PD.out _).use ?_
    intro wb bb
    have Gb := Lib.hid (below_any (Nat.le_refl _) Ga.out bb)
    clear bb Ga PD
    by_cases hi : i = 0
    · obtain ⟨rfl, rfl⟩ := QD.out hi
      subst hi
      go_wp2_with fail
      refine (fixed7 _).use ?_
      intro wc bc
      go_wp2_with fail
      exact finB hR (below_any (Nat.le_refl _) Gb.out bc) rfl
    · have hi1 : ((i : Int) != 0) = true := by simpa using hi
      clear hi QD
      go_wp2_with fail
      refine (fixed7 _).use ?_
      intro wc bc
      go_wp2_with fail
      exact finB hR (below_any (Nat.le_refl _) Gb.out bc) rfl)
end Go.Proofs.Ytohplhahghilaaa.chunksBack
