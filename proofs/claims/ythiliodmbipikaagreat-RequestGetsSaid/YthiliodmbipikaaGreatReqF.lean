/-
  Layer 4: may a command be?
-/
import Derived.Test.YthiliodmbipikaaGreatReqD
import Derived.Test.YthiliodmbipikaaGreatReqE
set_option linter.unusedVariables false
set_option linter.unusedSimpArgs false
namespace Go.Proofs.YthiliodmbipikaaGreat
open Go.RowKit
attribute [local go_sem] ByteArray.extract_mk ByteArray.mk_append_mk

/-- A command's slices, as they lie in memory. -/
structure CmdIn (w : World) (c : Cmd) (rv tv : Value) : Prop where
  recs : RecsIn w rv c.recs
  tops : TopsIn w tv c.tops
/-- A command is no longer than texts may be. -/
structure CmdBd (c : Cmd) : Prop where
  topic : c.topic.length ≤ maxLen
  group : c.group.length ≤ maxLen
  member : c.member.length ≤ maxLen
  recs : RecsBd c.recs
  tops : c.tops.length ≤ 1000000 ∧ ∀ s ∈ c.tops, s.length ≤ maxLen
theorem RecsIn.keptR {bs : List Nat} {w W : World} {v : Value} {l : List Rec} (h : RecsIn w v l) (k : KeptR bs w W) (ha : ∀ b, v.ownBlock = some b → b ∉ bs) : RecsIn W v l := by
  rcases h with h | ⟨b, off, cap, rfl, hne, hlt, hc⟩
  · exact .inl h
  · exact .inr ⟨b, off, cap, rfl, hne, Nat.lt_of_lt_of_le hlt k.size, fun i hi => (hc i hi).keep fun j => World.cell?_of_block (k.block b hlt (ha b rfl))⟩
theorem CmdIn.keptR {bs : List Nat} {w W : World} {c : Cmd} {rv tv : Value} (h : CmdIn w c rv tv) (k : KeptR bs w W) (h1 : ∀ b, rv.ownBlock = some b → b ∉ bs) (h2 : ∀ b, tv.ownBlock = some b → b ∉ bs) : CmdIn W c rv tv :=
  ⟨h.recs.keptR k h1, h.tops.keptR k h2⟩
theorem CmdIn.below {w W : World} {c : Cmd} {rv tv : Value} (h : CmdIn w c rv tv) (hb : Below w.heap.size w W) : CmdIn W c rv tv := h.keptR (bs := []) ((KeptR.refl _ w).bel hb) (by simp) (by simp)
/-- How a check goes over a command. -/
def CkVisit (w : World) (p q : Nat) (c : Cmd) (rv tv : Value) : Prop :=
  Calls Tryz.prog 13 #[.iface 108 (.pointer (some ⟨p, 0, none⟩)), .pointer (some ⟨q, 0, none⟩)] w fun x w' => x = .returned (.tuple #[]) ∧ ∃ rv' tv', CmdIn w' ((hasF c.kind.toNat).foldl fclr c) rv' tv' ∧
    Blk w' p #[.bool ((hasF c.kind.toNat).any (fform c)), .bool ((hasF c.kind.toNat).any (fnum c)), .int .i64 (if c.kind = 2 then rall c.bp c.be c.bq c.recs else 0 : Nat)] 110 ∧
    Blk w' q (((hasF c.kind.toNat).foldl fclr c).arr rv' tv') 29 ∧ KeptR [p, q] w w' ∧ (∀ b, rv'.ownBlock = some b → b ∉ [p, q]) ∧ ∀ b, tv'.ownBlock = some b → b ∉ [p, q]
set_option maxHeartbeats 4000000 in
set_option maxRecDepth 100000 in
theorem ck_visit (w : World) (p q : Nat) (c : Cmd) (rv tv : Value) (hk : 0 ≤ c.kind ∧ c.kind ≤ 12) (hp : Blk w p #[.bool false, .bool false, .int .i64 0] 110) (hq : Blk w q (c.arr rv tv) 29) (hpq : p ≠ q)
    (hi : CmdIn w c rv tv) (hb : CmdBd c) (h1 : ∀ b, rv.ownBlock = some b → b ∉ [p, q]) (h2 : ∀ b, tv.ownBlock = some b → b ∉ [p, q]) : CkVisit w p q c rv tv := by
  have k1 : Hid (∀ W, KeptR [p, q] w W → RecsIn W rv c.recs) := Lib.hid fun W k => hi.recs.keptR k h1
  have k2 : Hid (∀ W, KeptR [p, q] w W → TopsIn W tv c.tops) := Lib.hid fun W k => hi.tops.keptR k h2
  obtain ⟨b1, b2, b3, b4, b5⟩ := hb
  have H1 := Lib.hid h1
  have H2 := Lib.hid h2
  clear hi h1 h2
  obtain ⟨kind, topic, pn, n, off, bp, be, bq, recs, group, member, gen, robin, tops⟩ := c
  dsimp only [Cmd.arr] at *
  have hkk : kind = 0 ∨ kind = 1 ∨ kind = 2 ∨ kind = 3 ∨ kind = 4 ∨ kind = 5 ∨ kind = 6 ∨ kind = 7 ∨ kind = 8 ∨ kind = 9 ∨ kind = 10 ∨ kind = 11 ∨ kind = 12 := by omega
  unfold CkVisit
  rcases hkk with rfl | rfl | rfl | rfl | rfl | rfl | rfl | rfl | rfl | rfl | rfl | rfl | rfl
  · refine (ck_visit0 p q topic group member pn n off bp be bq gen robin rv tv recs tops false false 0 w hp hq hpq b1 b2 b3 k1 b4 k2 b5).mono fun x w' ⟨he, h1, h2, h3⟩ => ⟨he, rv, tv, ⟨k1.out _ h3, k2.out _ h3⟩, ?_, h2, h3, H1.out, H2.out⟩
    simpa [hasF, fform, fnum, Bool.or_assoc] using h1
  · refine (ck_visit1 p q topic group member pn n off bp be bq gen robin rv tv recs tops false false 0 w hp hq hpq b1 b2 b3 k1 b4 k2 b5).mono fun x w' ⟨he, h1, h2, h3⟩ => ⟨he, rv, tv, ⟨k1.out _ h3, k2.out _ h3⟩, ?_, h2, h3, H1.out, H2.out⟩
    simpa [hasF, fform, fnum, Bool.or_assoc] using h1
  · refine (ck_visit2 p q topic group member pn n off bp be bq gen robin rv tv recs tops false false 0 w hp hq hpq b1 b2 b3 k1 b4 k2 b5).mono fun x w' ⟨he, h1, h2, h3⟩ => ⟨he, .slice none 0 0, tv, ⟨.inl ⟨rfl, _, _, rfl⟩, k2.out _ h3⟩, ?_, h2, h3, by simp [Value.ownBlock], H2.out⟩
    simpa [hasF, fform, fnum, Bool.or_assoc] using h1
  · refine (ck_visit3 p q topic group member pn n off bp be bq gen robin rv tv recs tops false false 0 w hp hq hpq b1 b2 b3 k1 b4 k2 b5).mono fun x w' ⟨he, h1, h2, h3⟩ => ⟨he, rv, tv, ⟨k1.out _ h3, k2.out _ h3⟩, ?_, h2, h3, H1.out, H2.out⟩
    simpa [hasF, fform, fnum, Bool.or_assoc] using h1
  · refine (ck_visit4 p q topic group member pn n off bp be bq gen robin rv tv recs tops false false 0 w hp hq hpq b1 b2 b3 k1 b4 k2 b5).mono fun x w' ⟨he, h1, h2, h3⟩ => ⟨he, rv, tv, ⟨k1.out _ h3, k2.out _ h3⟩, ?_, h2, h3, H1.out, H2.out⟩
    simpa [hasF, fform, fnum, Bool.or_assoc] using h1
  · refine (ck_visit5 p q topic group member pn n off bp be bq gen robin rv tv recs tops false false 0 w hp hq hpq b1 b2 b3 k1 b4 k2 b5).mono fun x w' ⟨he, h1, h2, h3⟩ => ⟨he, rv, tv, ⟨k1.out _ h3, k2.out _ h3⟩, ?_, h2, h3, H1.out, H2.out⟩
    simpa [hasF, fform, fnum, Bool.or_assoc] using h1
  · refine (ck_visit6 p q topic group member pn n off bp be bq gen robin rv tv recs tops false false 0 w hp hq hpq b1 b2 b3 k1 b4 k2 b5).mono fun x w' ⟨he, h1, h2, h3⟩ => ⟨he, rv, .slice none 0 0, ⟨k1.out _ h3, .inl ⟨rfl, _, _, rfl⟩⟩, ?_, h2, h3, H1.out, by simp [Value.ownBlock]⟩
    simpa [hasF, fform, fnum, Bool.or_assoc] using h1
  · refine (ck_visit7 p q topic group member pn n off bp be bq gen robin rv tv recs tops false false 0 w hp hq hpq b1 b2 b3 k1 b4 k2 b5).mono fun x w' ⟨he, h1, h2, h3⟩ => ⟨he, rv, tv, ⟨k1.out _ h3, k2.out _ h3⟩, ?_, h2, h3, H1.out, H2.out⟩
    simpa [hasF, fform, fnum, Bool.or_assoc] using h1
  · refine (ck_visit8 p q topic group member pn n off bp be bq gen robin rv tv recs tops false false 0 w hp hq hpq b1 b2 b3 k1 b4 k2 b5).mono fun x w' ⟨he, h1, h2, h3⟩ => ⟨he, rv, tv, ⟨k1.out _ h3, k2.out _ h3⟩, ?_, h2, h3, H1.out, H2.out⟩
    simpa [hasF, fform, fnum, Bool.or_assoc] using h1
  · refine (ck_visit9 p q topic group member pn n off bp be bq gen robin rv tv recs tops false false 0 w hp hq hpq b1 b2 b3 k1 b4 k2 b5).mono fun x w' ⟨he, h1, h2, h3⟩ => ⟨he, rv, tv, ⟨k1.out _ h3, k2.out _ h3⟩, ?_, h2, h3, H1.out, H2.out⟩
    simpa [hasF, fform, fnum, Bool.or_assoc] using h1
  · refine (ck_visit10 p q topic group member pn n off bp be bq gen robin rv tv recs tops false false 0 w hp hq hpq b1 b2 b3 k1 b4 k2 b5).mono fun x w' ⟨he, h1, h2, h3⟩ => ⟨he, rv, tv, ⟨k1.out _ h3, k2.out _ h3⟩, ?_, h2, h3, H1.out, H2.out⟩
    simpa [hasF, fform, fnum, Bool.or_assoc] using h1
  · refine (ck_visit11 p q topic group member pn n off bp be bq gen robin rv tv recs tops false false 0 w hp hq hpq b1 b2 b3 k1 b4 k2 b5).mono fun x w' ⟨he, h1, h2, h3⟩ => ⟨he, rv, tv, ⟨k1.out _ h3, k2.out _ h3⟩, ?_, h2, h3, H1.out, H2.out⟩
    simpa [hasF, fform, fnum, Bool.or_assoc] using h1
  · refine (ck_visit12 p q topic group member pn n off bp be bq gen robin rv tv recs tops false false 0 w hp hq hpq b1 b2 b3 k1 b4 k2 b5).mono fun x w' ⟨he, h1, h2, h3⟩ => ⟨he, rv, tv, ⟨k1.out _ h3, k2.out _ h3⟩, ?_, h2, h3, H1.out, H2.out⟩
    simpa [hasF, fform, fnum, Bool.or_assoc] using h1
theorem fold_bd (c : Cmd) (hb : CmdBd c) : ((hasF c.kind.toNat).foldl fclr c).recs.length ≤ maxLen ∧ ((hasF c.kind.toNat).foldl fclr c).tops.length ≤ 1000000 := by
  have key : ∀ (l : List Fld) (d : Cmd), d.recs.length ≤ maxLen ∧ d.tops.length ≤ 1000000 → (l.foldl fclr d).recs.length ≤ maxLen ∧ (l.foldl fclr d).tops.length ≤ 1000000 := by
    intro l
    induction l with
    | nil => intro d h; exact h
    | cons x l ih =>
      intro d h
      rw [List.foldl_cons]
      refine ih _ ?_
      cases x <;> first | exact h | exact ⟨by simp [fclr], h.2⟩ | exact ⟨h.1, by simp [fclr]⟩
  exact key _ c ⟨hb.recs.1, hb.tops.1⟩
theorem ccheck_in {c : Cmd} (hk : 0 ≤ c.kind ∧ c.kind ≤ 12) : ccheck c = if ((hasF c.kind.toNat).any (fform c) || !decide (crest c = zcmd)) = true then 40 else if (hasF c.kind.toNat).any (fnum c) = true then 1 else (if c.kind = 2 then rall c.bp c.be c.bq c.recs else 0) := by
  unfold ccheck
  rw [if_neg (by omega)]
theorem own_old {w : World} {v : Value} {l : List Rec} (h : RecsIn w v l) (hne : l ≠ []) : ∀ b, v.ownBlock = some b → b < w.heap.size := by
  rcases h with ⟨rfl, _⟩ | ⟨b, off, cap, rfl, _, hlt, _⟩
  · exact absurd rfl hne
  · intro x hx; simp [Value.ownBlock] at hx; omega
set_option maxHeartbeats 4000000 in
set_option maxRecDepth 100000 in
theorem check4 (c : Cmd) (rv tv : Value) (w : World) (hi : CmdIn w c rv tv) (hb : CmdBd c) (h1 : ∀ b, rv.ownBlock = some b → b < w.heap.size) (h2 : ∀ b, tv.ownBlock = some b → b < w.heap.size) :
    RetB Tryz.prog 21 #[.agg (c.arr rv tv)] w (.int .i64 (ccheck c : Nat)) := by
  refine RetB.intro fun R hR => ?_
  by_cases hk1 : c.kind < 0
  · have he : ccheck c = 41 := by unfold ccheck; rw [if_pos (.inl hk1)]
    rw [he] at hR
    obtain ⟨kind, topic, pn, n, off, bp, be, bq, recs, group, member, gen, robin, tops⟩ := c
    obtain ⟨ra, rc, rfl⟩ := hi.recs.form
    obtain ⟨ta, tc, rfl⟩ := hi.tops.form
    dsimp only [Cmd.arr] at *
    have t1 : (kind < 0) = True := eq_true hk1
    clear hi hb h1 h2 he
    go_enter Tryz.func21, Tryz.ntmps21
    go_wp2_with fail
    exact finB hR (below_all (Below.refl _ _)) rfl
  · by_cases hk2 : 12 < c.kind
    · have he : ccheck c = 41 := by unfold ccheck; rw [if_pos (.inr hk2)]
      rw [he] at hR
      obtain ⟨kind, topic, pn, n, off, bp, be, bq, recs, group, member, gen, robin, tops⟩ := c
      obtain ⟨ra, rc, rfl⟩ := hi.recs.form
      obtain ⟨ta, tc, rfl⟩ := hi.tops.form
      dsimp only [Cmd.arr] at *
      have t1 : (kind < 0) = False := eq_false hk1
      have t2 : (13 ≤ kind) = True := eq_true (by omega)
      clear hi hb h1 h2 he
      go_enter Tryz.func21, Tryz.ntmps21
      go_wp2_with fail
      exact finB hR (below_all (Below.refl _ _)) rfl
    · have hkk : 0 ≤ c.kind ∧ c.kind ≤ 12 := by omega
      rw [ccheck_in hkk] at hR
      have hB1 : Below w.heap.size w ((w.alloc (.cells (c.arr rv tv) 29)).alloc (.cells #[.bool false, .bool false, .int .i64 0] 110)) := below_all (below_all (Below.refl _ _))
      have hq := (Blk.new w (c.arr rv tv) 29).alloc (.cells #[.bool false, .bool false, .int .i64 0] 110)
      have hp := Blk.new (w.alloc (.cells (c.arr rv tv) 29)) #[.bool false, .bool false, .int .i64 0] 110
      rw [World.size_alloc] at hp
      have cV := Lib.hid (ck_visit _ (w.heap.size + 1) w.heap.size c rv tv hkk hp hq (by omega) (hi.below hB1) hb (fun b hb1 => by have := h1 b hb1; simp; omega) (fun b hb1 => by have := h2 b hb1; simp; omega))
      have hbl := Lib.hid hB1
      have hcr : ∃ d, (hasF c.kind.toNat).foldl fclr c = d := ⟨_, rfl⟩
      obtain ⟨d, hd⟩ := hcr
      have hr : crest c = { d with kind := 0 } := by unfold crest; rw [hd]
      have hdb : d.recs.length ≤ maxLen ∧ d.tops.length ≤ 1000000 := by
        rw [← hd]
        exact fold_bd c hb
      rw [hr] at hR
      unfold CkVisit at cV
      rw [hd] at cV
      have t1 : (c.kind < 0) = False := eq_false hk1
      have t2 : (13 ≤ c.kind) = False := eq_false (by omega)
      generalize hX : (hasF c.kind.toNat).any (fform c) = X at *
      generalize hZ : (hasF c.kind.toNat).any (fnum c) = Z at *
      generalize hE : (if c.kind = 2 then rall c.bp c.be c.bq c.recs else 0) = E at *
      have KEEP := Lib.hid hdb
      clear hr hd hX hZ hE hB1 hq hp hb hkk hk1 hk2
      obtain ⟨kind, topic, pn, n, off, bp, be, bq, recs, group, member, gen, robin, tops⟩ := c
      obtain ⟨ra, rc, rfl⟩ := hi.recs.form
      obtain ⟨ta, tc, rfl⟩ := hi.tops.form
      dsimp only [Cmd.arr] at *
      clear hi h1 h2
      go_enter Tryz.func21, Tryz.ntmps21
      go_wp2_with fail
      refine cV.out.mono ?_
      rintro e w2 ⟨rfl, rv', tv', hi2, p2, q2, k2, s1, s2⟩
      obtain ⟨dk, dt, dpn, dn, doff, dbp, dbe, dbq, drecs, dgroup, dmember, dgen, drobin, dtops⟩ := d
      obtain ⟨ra', rc', rfl⟩ := hi2.recs.form
      obtain ⟨ta', tc', rfl⟩ := hi2.tops.form
      dsimp only [Cmd.arr] at *
      have SQ : KeptR [w.heap.size] w2 (w2.setCell ⟨w.heap.size, 0, none⟩ (.int .i64 0)) := (KeptR.refl _ _).set (by simp) _ _
      have B2 := Lib.hid (show Below w.heap.size w w2 from by
        have hz := hbl.out.size
        exact ⟨k2.os.trans hbl.out.os, k2.tape.trans hbl.out.tape, k2.output.trans hbl.out.output, Nat.le_trans hz k2.size, fun i hi => (k2.block i (by simp at hz ⊢; omega) (by simp; omega)).trans (hbl.out.block i hi)⟩)
      have r3 := hi2.recs.keptR SQ (fun b hb hm => s1 b hb (by simp at hm; simp [hm]))
      have t3 := hi2.tops.keptR SQ (fun b hb hm => s2 b hb (by simp at hm; simp [hm]))
      obtain ⟨Y, hY⟩ : ∃ Y, decide ((⟨0, dt, dpn, dn, doff, dbp, dbe, dbq, drecs, dgroup, dmember, dgen, drobin, dtops⟩ : Cmd) = zcmd) = Y := ⟨_, rfl⟩
      have cS0 := (same4 ⟨0, dt, dpn, dn, doff, dbp, dbe, dbq, drecs, dgroup, dmember, dgen, drobin, dtops⟩ zcmd _ _ (.slice none 0 0) (.slice none 0 0) _ r3 t3 (.inl ⟨rfl, _, _, rfl⟩) (.inl ⟨rfl, _, _, rfl⟩) ⟨KEEP.out.1, by simp [zcmd]⟩ ⟨KEEP.out.2, by simp [zcmd]⟩)
      rw [hY] at cS0 hR
      dsimp only [Cmd.arr, zcmd] at cS0
      have cS := Lib.hid cS0
      clear cS0 hY
      obtain ⟨kp, x0, x1, x2⟩ := p2.c3
      have kq := q2.lt
      have fq : ∀ i, w2.frozen? ⟨w.heap.size, i, none⟩ = false := fun i => Blk.frozen q2 i
      have y1 := q2.cell 1
      have y2 := q2.cell 2
      have y3 := q2.cell 3
      have y4 := q2.cell 4
      have y5 := q2.cell 5
      have y6 := q2.cell 6
      have y7 := q2.cell 7
      have y8 := q2.cell 8
      have y9 := q2.cell 9
      have y10 := q2.cell 10
      have y11 := q2.cell 11
      have y12 := q2.cell 12
      have y13 := q2.cell 13
      simp only [List.getElem?_toArray, List.getElem?_cons_succ, List.getElem?_cons_zero] at y1 y2 y3 y4 y5 y6 y7 y8 y9 y10 y11 y12 y13
      have y0 := q2.cell 0
      simp only [List.getElem?_toArray, List.getElem?_cons_zero] at y0
      have hq0 := q2.set 0 (.int .i64 0)
      have hp0 : Blk (w2.setCell ⟨w.heap.size, 0, none⟩ (.int .i64 0)) (w.heap.size + 1) _ 110 := p2.setOther (by simp) _
      have HP0 := Lib.hid hp0
      have HQ0 := Lib.hid hq0
      have BS : Hid (Below w.heap.size w (w2.setCell ⟨w.heap.size, 0, none⟩ (.int .i64 0))) := Lib.hid (B2.out.setCell (Nat.le_refl _) _)
      clear hp0 hq0 r3 t3 SQ s1 s2 hi2 p2 q2 k2
      cases X
      case true =>
        simp only [Bool.true_or, if_true] at hR
        go_wp2_with fail
        exact finB hR BS.out rfl
      case false =>
        skip
        go_wp2_with fail
        refine cS.out.use ?_
        intro w3 b3
        obtain ⟨kp3, z0, z1, z2⟩ := (HP0.out.below b3).c3
        have BF := Lib.hid (below_any (Nat.le_refl _) BS.out b3)
        cases Y
        case false =>
          simp only [Bool.not_false, Bool.or_true, if_true] at hR
          go_wp2_with fail
          exact finB hR BF.out rfl
        case true =>
          cases Z
          case true =>
            simp only [Bool.not_true, Bool.or_self, Bool.false_eq_true, if_false, if_true] at hR
            go_wp2_with fail
            exact finB hR BF.out rfl
          case false =>
            simp only [Bool.not_true, Bool.or_self, Bool.false_eq_true, if_false] at hR
            go_wp2_with fail
            exact finB hR BF.out rfl
end Go.Proofs.YthiliodmbipikaaGreat
