/-
  Layer 4: calls whose answers the document fixes.
-/
import Derived.Test.YthiliodmbipikaaGreatReqY
import Derived.Test.YthiliodmbipikaaGreatReqAl
set_option linter.unusedVariables false
set_option linter.unusedSimpArgs false
namespace Go.Proofs.YthiliodmbipikaaGreat
open Go.RowKit
attribute [local go_sem] ByteArray.extract_mk ByteArray.mk_append_mk

def c4a : Cmd := ⟨12, [], 0, 5, 0, 0, 0, 0, [], [], [], 0, false, []⟩
def c4b : Cmd := ⟨0, [97], 0, 2, 0, 0, 0, 0, [], [], [], 0, false, []⟩
def c4c : Cmd := ⟨12, [], 0, 0, 0, 0, 0, 0, [], [], [], 1, false, []⟩
def c4d : Cmd := ⟨13, [], 0, 0, 0, 0, 0, 0, [], [], [], 0, false, []⟩
def r4a : Rep := ⟨0, 0, 1, 0, [], [([97], 1)]⟩
theorem nil_in {c : Cmd} (w : World) (h1 : c.recs = []) (h2 : c.tops = []) : CmdIn w c (.slice none 0 0) (.slice none 0 0) := ⟨.inl ⟨h1, _, _, rfl⟩, .inl ⟨h2, _, _, rfl⟩⟩
theorem nil_bd {c : Cmd} (h1 : c.recs = []) (h2 : c.tops = []) (h3 : c.topic.length ≤ maxLen) (h4 : c.group.length ≤ maxLen) (h5 : c.member.length ≤ maxLen) : CmdBd c :=
  ⟨h3, h4, h5, by rw [h1]; exact ⟨by simp, by simp⟩, by rw [h2]; exact ⟨by simp, by simp⟩⟩
theorem put_lit (c : Cmd) (s : List UInt8) (n : Nat) (w : World) (h1 : c.recs = []) (h2 : c.tops = []) (h3 : c.topic.length ≤ maxLen) (h4 : c.group.length ≤ maxLen) (h5 : c.member.length ≤ maxLen) (h : cmdPut c = (s, n)) :
    RetB Tryz.prog 14 #[.agg (c.arr (.slice none 0 0) (.slice none 0 0))] w (.tuple #[.string (S s), .int .i64 (n : Nat)]) :=
  (put4 c _ _ w (nil_in w h1 h2) (nil_bd h1 h2 h3 h4 h5) (by simp [Value.ownBlock]) (by simp [Value.ownBlock])).cast (by rw [h])
theorem check_lit (c : Cmd) (n : Nat) (w : World) (h1 : c.recs = []) (h2 : c.tops = []) (h3 : c.topic.length ≤ maxLen) (h4 : c.group.length ≤ maxLen) (h5 : c.member.length ≤ maxLen) (h : ccheck c = n) :
    RetB Tryz.prog 21 #[.agg (c.arr (.slice none 0 0) (.slice none 0 0))] w (.int .i64 (n : Nat)) :=
  (check4 c _ _ w (nil_in w h1 h2) (nil_bd h1 h2 h3 h4 h5) (by simp [Value.ownBlock]) (by simp [Value.ownBlock])).cast (by rw [h])
theorem cmdText_two {c : Cmd} (h : ccheck c = 0) : 2 ≤ (cmdText c).length := by
  have hk := (ccheck_ok h).kind
  have h0 := vput_pos c.kind.toNat
  have hv := fun n => vput_pos n
  have ht := fun l => vtxt_pos l
  unfold cmdText
  rw [List.length_append]
  have hkk : c.kind.toNat = 0 ∨ c.kind.toNat = 1 ∨ c.kind.toNat = 2 ∨ c.kind.toNat = 3 ∨ c.kind.toNat = 4 ∨ c.kind.toNat = 5 ∨ c.kind.toNat = 6 ∨ c.kind.toNat = 7 ∨ c.kind.toNat = 8 ∨ c.kind.toNat = 9 ∨ c.kind.toNat = 10 ∨ c.kind.toNat = 11 ∨ c.kind.toNat = 12 := by omega
  have h1 := hv c.n.toNat
  have h2 := ht c.topic
  have h3 := ht c.group
  rcases hkk with e | e | e | e | e | e | e | e | e | e | e | e | e
  all_goals
    rw [e] at h0 ⊢
    simp only [hasF, List.flatMap_cons, List.length_append, ftxt]
    omega
theorem got_none (c : Cmd) (n : Nat) (h : Got ccheck cmdText zcmd [12] c n) : n = 40 ∧ c = zcmd := by
  rcases h.1 with ⟨rfl, h1, h2⟩ | ⟨h1, h2⟩
  · have := cmdText_two h1
    rw [h2] at this
    simp at this
  · exact ⟨h1, h2⟩
set_option maxHeartbeats 8000000 in
set_option maxRecDepth 100000 in
theorem fixed4 (w : World) : RetB Tryz.prog 7 #[] w (.bool true) := by
  refine RetB.intro fun R hR => ?_
  have p1 := Lib.hid (fun w => put_lit c4a [12, 5] 0 w rfl rfl (by decide) (by decide) (by decide) (by decide +kernel))
  have p2 := Lib.hid (fun w => put_lit c4b [0, 1, 97, 2] 0 w rfl rfl (by decide) (by decide) (by decide) (by decide +kernel))
  have p3 := Lib.hid (fun w => put_lit c4c [] 40 w rfl rfl (by decide) (by decide) (by decide) (by decide +kernel))
  have pk := Lib.hid (fun w => check_lit c4d 41 w rfl rfl (by decide) (by decide) (by decide) (by decide +kernel))
  have pn1 := Lib.hid (fun w => (name4 [97, 45, 49] w (by decide)).cast (v' := .bool true) (congrArg Value.bool (by decide +kernel)))
  have pn2 := Lib.hid (fun w => (name4 [65] w (by decide)).cast (v' := .bool false) (congrArg Value.bool (by decide +kernel)))
  have gg1 := Lib.hid (fun w => get4 [0, 1, 97, 2] w (by decide))
  have gg2 := Lib.hid (fun w => get4 [12] w (by decide))
  go_enter Tryz.func7, Tryz.ntmps7
  go_wp2_with fail
  refine (p1.out _).use ?_
  intro w1 b1
  go_wp2_with fail
  refine (p2.out _).use ?_
  intro w2 b2
  have G2 := Lib.hid (below_any (Nat.le_refl _) b1 b2)
  clear b1 b2 p1 p2
  go_wp2_with fail
  refine (gg1.out _).use ?_
  intro w3 c rv tv n g
  obtain ⟨hn, hc⟩ := g.got.2 c4b (by decide +kernel) (by decide +kernel)
  subst hn hc
  have hcin := g.cin
  obtain ⟨ra, rc, hrv⟩ := g.cin.recs.form
  obtain ⟨ta, tc, htv⟩ := g.cin.tops.form
  have hrv : rv = .slice ra 0 rc := hrv
  have htv : tv = .slice ta 0 tc := htv
  have G3 := Lib.hid (below_any (Nat.le_refl _) G2.out g.bel)
  have OW := Lib.hid (And.intro g.own1 g.own2)
  subst hrv htv
  clear g gg1 G2
  have O3 := Lib.hid (Blk.new w3 (c4b.arr (.slice ra 0 rc) (.slice ta 0 tc)) 29)
  have C3 : Hid (CmdIn (w3.alloc (.cells (c4b.arr (.slice ra 0 rc) (.slice ta 0 tc)) 29)) c4b (.slice ra 0 rc) (.slice ta 0 tc)) := Lib.hid (hcin.below (below_all (Below.refl _ _)))
  have G3' : Hid (Below w.heap.size w (w3.alloc (.cells (c4b.arr (.slice ra 0 rc) (.slice ta 0 tc)) 29))) := Lib.hid (below_all G3.out)
  clear hcin G3
  dsimp only [c4b, Cmd.arr] at O3 C3 G3' ⊢
  go_wp2_with fail
  refine (gg2.out _).use ?_
  intro w4 c' rv' tv' n' g'
  obtain ⟨hn, hc⟩ := got_none _ _ g'.got
  subst hn hc
  obtain ⟨ra', rc', hrv⟩ := g'.cin.recs.form
  obtain ⟨ta', tc', htv⟩ := g'.cin.tops.form
  have A4 := Lib.hid (below_any (Nat.le_refl _) (Below.refl _ _) g'.bel)
  subst hrv htv
  clear g' gg2
  dsimp only [zcmd, Cmd.arr]
  generalize w3.alloc (.cells #[.int .i64 0, .string (S [97]), .int .i64 0, .int .i64 2, .int .i64 0, .int .i64 0, .int .i64 0, .int .i64 0, .slice ra 0 rc, .string (S []), .string (S []), .int .i64 0, .bool false, .slice ta 0 tc] 29) = a3 at O3 A4 C3 G3' ⊢
  go_wp2_with fail
  refine (p3.out _).use ?_
  intro w5 b5
  have A5 := Lib.hid (below_any (Nat.le_refl _) (below_any (Nat.le_refl _) A4.out (below_all (Below.refl _ _))) b5)
  clear b5 A4 p3
  have S6 : Hid (Blk ((w5.alloc (.cells #[.string (S [97]), .int .i64 1] 23)).alloc (.cells #[.int .i64 0, .int .i64 0, .int .i64 1, .int .i64 0, .slice none 0 0, .slice (some ⟨w5.heap.size, 0, none⟩) 1 1] 58)) w5.heap.size #[.string (S [97]), .int .i64 1] 23) := Lib.hid ((Blk.new w5 _ _).alloc _)
  have R6 : Hid (Blk ((w5.alloc (.cells #[.string (S [97]), .int .i64 1] 23)).alloc (.cells #[.int .i64 0, .int .i64 0, .int .i64 1, .int .i64 0, .slice none 0 0, .slice (some ⟨w5.heap.size, 0, none⟩) 1 1] 58)) (w5.heap.size + 1) #[.int .i64 0, .int .i64 0, .int .i64 1, .int .i64 0, .slice none 0 0, .slice (some ⟨w5.heap.size, 0, none⟩) 1 1] 58) := Lib.hid (by
    have h := Blk.new (w5.alloc (.cells #[.string (S [97]), .int .i64 1] 23)) #[.int .i64 0, .int .i64 0, .int .i64 1, .int .i64 0, .slice none 0 0, .slice (some ⟨w5.heap.size, 0, none⟩) 1 1] 58
    rw [World.size_alloc] at h
    exact h)
  have A6 : Hid (Below a3.heap.size a3 ((w5.alloc (.cells #[.string (S [97]), .int .i64 1] 23)).alloc (.cells #[.int .i64 0, .int .i64 0, .int .i64 1, .int .i64 0, .slice none 0 0, .slice (some ⟨w5.heap.size, 0, none⟩) 1 1] 58))) := Lib.hid (A5.out.trans ((below_all (below_all (Below.refl _ _))).mono A5.out.size))
  go_wp2_with fail
  have RI6 : RepIn ((w5.alloc (.cells #[.string (S [97]), .int .i64 1] 23)).alloc (.cells #[.int .i64 0, .int .i64 0, .int .i64 1, .int .i64 0, .slice none 0 0, .slice (some ⟨w5.heap.size, 0, none⟩) 1 1] 58)) r4a (.slice none 0 0) (.slice (some ⟨w5.heap.size, 0, none⟩) 1 1) :=
    ⟨.inl ⟨rfl, _, _, rfl⟩, .inr ⟨w5.heap.size, 0, 1, rfl, by decide, S6.out.lt, fun i hi => by
      have h0 : i = 0 := by have : i < 1 := hi; omega
      subst h0
      exact ⟨S6.out.cell 0, S6.out.cell 1⟩⟩⟩
  have RB6 : RepBd r4a := ⟨⟨by decide, by simp [r4a]⟩, ⟨by decide, by intro p hp; simp [r4a] at hp; subst hp; decide⟩⟩
  have cR := Lib.hid ((reply4 r4a _ _ _ RI6 RB6).cast (v' := .tuple #[.string (S [0, 0, 1, 0, 0, 1, 1, 97, 1]), .int .i64 (0 : Nat)]) (by rw [show repPut r4a = ([0, 0, 1, 0, 0, 1, 1, 97, 1], 0) from by decide +kernel]))
  have HI6 := Lib.hid RI6
  clear RI6 S6
  dsimp only [r4a, Rep.arr] at cR
  generalize (w5.alloc (.cells #[.string (S [97]), .int .i64 1] 23)).alloc (.cells #[.int .i64 0, .int .i64 0, .int .i64 1, .int .i64 0, .slice none 0 0, .slice (some ⟨w5.heap.size, 0, none⟩) 1 1] 58) = a6 at cR HI6 R6 A6 ⊢
  refine cR.out.use ?_
  intro w7 b7
  clear cR
  have gp := Lib.hid (parse4 [0, 0, 1, 0, 0, 1, 1, 97, 1] w7 (by decide))
  go_wp2_with fail
  refine gp.out.use ?_
  intro w8 rr fv pv n g8
  obtain ⟨hn, hc⟩ := g8.got.2 r4a (by decide +kernel) (by decide +kernel)
  subst hn hc
  obtain ⟨fa, fc, hfv⟩ := g8.rin.found.form
  obtain ⟨pa, pc, hpv⟩ := g8.rin.parts.form
  have hfv : fv = .slice fa 0 fc := hfv
  have hpv : pv = .slice pa 1 pc := hpv
  have HI8 := Lib.hid g8.rin
  have A8 := Lib.hid (below_any (Nat.le_refl _) b7 g8.bel)
  subst hfv hpv
  clear g8 gp
  have Q8 := Lib.hid (Blk.new w8 #[.int .i64 0, .int .i64 0, .int .i64 1, .int .i64 0, .slice fa 0 fc, .slice pa 1 pc] 58)
  have HA8 := Lib.hid (HI8.out.below (W := w8.alloc (.cells #[.int .i64 0, .int .i64 0, .int .i64 1, .int .i64 0, .slice fa 0 fc, .slice pa 1 pc] 58)) (below_all (Below.refl _ _)))
  have A8' : Hid (Below a6.heap.size a6 (w8.alloc (.cells #[.int .i64 0, .int .i64 0, .int .i64 1, .int .i64 0, .slice fa 0 fc, .slice pa 1 pc] 58))) := Lib.hid (below_all A8.out)
  dsimp only [r4a, Rep.arr]
  have O80 := Lib.hid ((O3.out.below A6.out).below A8.out)
  obtain ⟨HO80, k80, x0, x1, x2, x3, x4, x5, x6, x7, x8, x9, x10, x11, x12, x13⟩ := arr_cells O80.out
  clear HI8 b7
  go_wp2_with fail
  generalize w8.alloc (.cells #[.int .i64 0, .int .i64 0, .int .i64 1, .int .i64 0, .slice fa 0 fc, .slice pa 1 pc] 58) = a8 at Q8 HA8 A8' ⊢
  have O8 := Lib.hid ((O3.out.below A6.out).below A8'.out)
  have C8 := Lib.hid ((C3.out.below A6.out).below A8'.out)
  clear A8 O80 HO80 k80 x0 x1 x2 x3 x4 x5 x6 x7 x8 x9 x10 x11 x12 x13
  have R8 := Lib.hid (R6.out.below A8'.out)
  have H8 := Lib.hid (HI6.out.below A8'.out)
  have G8 := Lib.hid (below_any (Nat.le_refl _) (below_any (Nat.le_refl _) G3'.out A6.out) A8'.out)
  clear O3 C3 HI6 R6 A6 G3' A8' OW
  have HO8 := O8
  have cs := ((dsame4 c4b c4b (.slice ra 0 rc) (.slice ta 0 tc) (.slice none 0 0) (.slice none 0 0) a8 C8.out.recs C8.out.tops (nil_in (c := c4b) a8 rfl rfl).recs (nil_in (c := c4b) a8 rfl rfl).tops (by decide) (by decide)).cast (v' := .bool true) (congrArg Value.bool (decide_eq_true rfl)))
  dsimp only [c4b, Cmd.arr] at cs
  have CS := Lib.hid cs
  clear cs
  refine CS.out.use ?_
  intro w9 b9
  have E9 := Lib.hid b9
  obtain ⟨kq9, q0, q1, q2, q3, q4, q5⟩ := arr6_cells (Q8.out.below b9)
  obtain ⟨kr9, r0, r1, r2, r3, r4, r5⟩ := arr6_cells (R8.out.below b9)
  have cs := ((dalike4 r4a r4a (.slice fa 0 fc) (.slice pa 1 pc) (.slice none 0 0) (.slice (some ⟨w5.heap.size, 0, none⟩) 1 1) w9 (HA8.out.below b9) (H8.out.below b9) (by decide) (by decide)).cast (v' := .bool true) (congrArg Value.bool (decide_eq_true rfl)))
  dsimp only [r4a, Rep.arr] at cs
  have CS := Lib.hid cs
  clear cs b9
  go_wp2_with fail
  refine CS.out.use ?_
  intro w10 b10
  have E10 := Lib.hid (below_any (Nat.le_refl _) E9.out b10)
  clear b10 q0 q1 q2 q3 q4 q5 r0 r1 r2 r3 r4 r5 kq9 kr9
  go_wp2_with fail
  refine (pn1.out _).use ?_
  intro w11 b11
  have E11 := Lib.hid (below_any (Nat.le_refl _) E10.out b11)
  clear b11
  go_wp2_with fail
  refine (pn2.out _).use ?_
  intro w12 b12
  have E12 := Lib.hid (below_any (Nat.le_refl _) E11.out b12)
  clear b12
  go_wp2_with fail
  refine (pk.out _).use ?_
  intro w13 b13
  have E13 := Lib.hid (below_any (Nat.le_refl _) E12.out b13)
  clear b13
  obtain ⟨HO13, k13, y0, y1, y2, y3, y4, y5, y6, y7, y8, y9, y10, y11, y12, y13⟩ := arr_cells (HO8.out.below E13.out)
  have cs := ((same4 c4b c4b (.slice ra 0 rc) (.slice ta 0 tc) (.slice ra 0 rc) (.slice ta 0 tc) w13 (C8.out.below E13.out).recs (C8.out.below E13.out).tops (C8.out.below E13.out).recs (C8.out.below E13.out).tops (by decide) (by decide)).cast (v' := .bool true) (congrArg Value.bool (decide_eq_true rfl)))
  dsimp only [c4b, Cmd.arr] at cs
  have CS := Lib.hid cs
  clear cs
  go_wp2_with fail
  refine CS.out.use ?_
  intro w14 b14
  have E14 := Lib.hid (below_any (Nat.le_refl _) E13.out b14)
  clear b14
  obtain ⟨kr14, r0, r1, r2, r3, r4, r5⟩ := arr6_cells (R8.out.below E14.out)
  have cs := ((alike4 r4a zrep (.slice none 0 0) (.slice (some ⟨w5.heap.size, 0, none⟩) 1 1) (.slice none 0 0) (.slice none 0 0) w14 (H8.out.below E14.out) (zrep_in _) (by decide) (by decide)).cast (v' := .bool false) (congrArg Value.bool (decide_eq_false (by decide))))
  dsimp only [r4a, zrep, Rep.arr] at cs
  have CS := Lib.hid cs
  clear cs
  go_wp2_with fail
  refine CS.out.use ?_
  intro w15 b15
  have E15 := Lib.hid (below_any (Nat.le_refl _) E14.out b15)
  clear b15
  go_wp2_with fail
  exact finB hR (below_any (Nat.le_refl _) G8.out E15.out) rfl
end Go.Proofs.YthiliodmbipikaaGreat
