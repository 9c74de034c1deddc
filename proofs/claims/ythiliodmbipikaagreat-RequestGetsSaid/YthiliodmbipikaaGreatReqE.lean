/-
  Layer 4: two commands: are they alike?
-/
import Derived.Test.YthiliodmbipikaaGreatReqC
import Derived.Test.YthiliodmbipikaaGreatRecX
set_option linter.unusedVariables false
set_option linter.unusedSimpArgs false
namespace Go.Proofs.YthiliodmbipikaaGreat
open Go.RowKit
attribute [local go_sem] ByteArray.extract_mk ByteArray.mk_append_mk

set_option maxHeartbeats 1000000 in
set_option maxRecDepth 100000 in
theorem eqRecs4 (v1 v2 : Value) (l m : List Rec) (w : World) (h1 : RecsIn w v1 l) (h2 : RecsIn w v2 m) (b1 : l.length ≤ maxLen) (b2 : m.length ≤ maxLen) :
    RetB Tryz.prog 68 #[v1, v2] w (.bool (decide (l = m))) := by
  refine RetB.intro fun R hR => ?_
  unfold maxLen at b1 b2
  by_cases hlen : l.length = m.length
  · by_cases h0 : l = []
    · subst h0
      obtain rfl : m = [] := List.eq_nil_of_length_eq_zero hlen.symm
      obtain ⟨a1, c1, rfl⟩ := h1.form
      obtain ⟨a2, c2, rfl⟩ := h2.form
      go_enter Tryz.func68, Tryz.ntmps68
      go_wp2
      refine wp_loop_rounds 1 ?_
      rw [rounds_succ]
      go_wp2
      exact finB hR (Below.refl _ _) rfl
    · rcases h1 with ⟨rfl, _⟩ | ⟨x1, o1, c1, rfl, _, lt1, hc1⟩
      · exact absurd rfl h0
      rcases h2 with ⟨rfl, _⟩ | ⟨x2, o2, c2, rfl, _, lt2, hc2⟩
      · exact absurd (List.eq_nil_of_length_eq_zero hlen) h0
      have hg : Tryz.prog.eqGuardType Tryz.prog.depth 35 = false := by kernel_rfl
      have HL := Lib.hid hlen
      have HC1 := Lib.hid hc1
      have HC2 := Lib.hid hc2
      have q1 : ((l.length : Int) == (m.length : Int)) = true := by simp [hlen]
      have q2 : ((l.length : Int) != (m.length : Int)) = false := by simp [hlen]
      clear hc1 hc2 h0 hlen
      go_enter Tryz.func68, Tryz.ntmps68
      go_wp2
      go_loopw [5, 13] (fun (v5 v13 : Value) (wr : World) => ∃ k : Nat, k ≤ l.length ∧ v13 = .int .i64 (k : Int) ∧ Hid (l.take k = m.take k) ∧ Below w.heap.size w wr) (fun (v5 v13 : Value) (wr : World) => (l.length - intOf v13).toNat)
      case atStart => exact ⟨0, by omega, rfl, rfl, Below.refl _ _⟩
      case round =>
        obtain ⟨k, hk, rfl, hch, hnx⟩ := hrel
        by_cases hkl : k < l.length
        · have hkm : k < m.length := by rw [← HL.out]; exact hkl
          obtain ⟨c10, c11, c12, c13⟩ := (HC1.out k hkl).keep fun j => hnx.cell (p := ⟨x1, j, none⟩) lt1
          obtain ⟨c20, c21, c22, c23⟩ := (HC2.out k hkm).keep fun j => hnx.cell (p := ⟨x2, j, none⟩) lt2
          have hq := neq_rec l[k] m[k]
          have hs : ∀ _ : l[k] = m[k], Hid (l.take (k + 1) = m.take (k + 1)) := fun h => by rw [List.take_succ_eq_append_getElem hkl, List.take_succ_eq_append_getElem hkm, hch.out, h]; rfl
          have hn : ∀ _ : ¬ l[k] = m[k], Hid (¬ l = m) := fun h => Lib.hid fun e => h (by subst e; rfl)
          have i1 : (0 : Int) ≤ (k : Int) := by omega
          have i2 : (k : Int) < (l.length : Int) := by omega
          have i3 : (k : Int) < (m.length : Int) := by omega
          generalize l[k] = r at *
          generalize m[k] = s at *
          by_cases hrs : r = s
          · have hs0 := hs hrs
            have hq0 : ∀ w, _ = Result.ok (Value.bool false) w := fun w => (hq w).trans (by rw [decide_eq_true hrs]; rfl)
            clear hs hn hq hrs
            go_wp2
            go_quiet (fail)
            go_wp2
            go_roundw
            case rel => exact ⟨k + 1, by omega, by go_num, hs0, belowN hnx _⟩
            case measure => simp [intOf]; omega
          · have hn0 := hn hrs
            have hq0 : ∀ w, _ = Result.ok (Value.bool true) w := fun w => (hq w).trans (by rw [decide_eq_false hrs]; rfl)
            clear hs hn hq hrs
            go_wp2
            go_quiet (fail)
            go_wp2
            exact finB hR (belowN hnx _) (veq_bool (decide_eq_false hn0.out).symm)
        · have hle : l.length ≤ k := by omega
          have he : l = m := by
            have h := hch.out
            rwa [List.take_of_length_le hle, List.take_of_length_le (by rw [← HL.out]; exact hle)] at h
          have HE := Lib.hid he
          clear he
          go_wp2
          exact finB hR hnx (veq_bool (decide_eq_true HE.out).symm)
  · have hne : ¬ l = m := fun h => hlen (by rw [h])
    rw [decide_eq_false hne] at hR
    obtain ⟨a1, c1, rfl⟩ := h1.form
    obtain ⟨a2, c2, rfl⟩ := h2.form
    have q1 : ((l.length : Int) == (m.length : Int)) = false := by simp; omega
    have q2 : ((l.length : Int) != (m.length : Int)) = true := by simp; omega
    clear hlen hne h1 h2
    go_enter Tryz.func68, Tryz.ntmps68
    go_wp2
    exact finB hR (Below.refl _ _) rfl

theorem S_inj {a b : List UInt8} (h : S a = S b) : a = b := by
  have := congrArg ByteArray.toList h
  rwa [S_toList, S_toList] at this
theorem map_S {l m : List (List UInt8)} : l.map S = m.map S ↔ l = m := by
  constructor
  · intro h
    induction l generalizing m with
    | nil => cases m with
      | nil => rfl
      | cons b m => simp at h
    | cons a l ih => cases m with
      | nil => simp at h
      | cons b m =>
        simp only [List.map_cons, List.cons.injEq] at h
        rw [S_inj h.1, ih h.2]
  · rintro rfl; rfl
theorem eqTops4 (v1 v2 : Value) (l m : List (List UInt8)) (w : World) (h1 : TopsIn w v1 l) (h2 : TopsIn w v2 m) (b1 : l.length ≤ 1000000) (b2 : m.length ≤ 1000000) :
    RetB Tryz.prog 46 #[v1, v2] w (.bool (decide (l = m))) := by
  rcases h1 with ⟨rfl, a1, c1, rfl⟩ | ⟨x1, o1, c1, rfl, n1, lt1, hc1⟩
  · obtain ⟨a2, c2, rfl⟩ := h2.form
    refine (Tryz.slices_Equal_string_empty a1 a2 c1 m.length c2 w (by omega)).mono fun e w' ⟨he, hw⟩ => ⟨?_, by subst hw; exact Below.refl _ _⟩
    rw [he]
    by_cases h : m = []
    · subst h; rfl
    · have h3 : ¬ m.length = 0 := fun h4 => h (List.eq_nil_of_length_eq_zero h4)
      rw [decide_eq_false h3, decide_eq_false (fun h4 => h h4.symm)]
  · rcases h2 with ⟨rfl, a2, c2, rfl⟩ | ⟨x2, o2, c2, rfl, n2, lt2, hc2⟩
    · have h3 : l.length ≠ 0 := fun h4 => n1 (List.eq_nil_of_length_eq_zero h4)
      refine (Tryz.slices_Equal_string_lens (some ⟨x1, o1, none⟩) a2 l.length c1 0 c2 w h3).mono fun e w' ⟨he, hw⟩ => ⟨?_, by subst hw; exact Below.refl _ _⟩
      rw [he, decide_eq_false n1]
    · refine (Tryz.slices_Equal_string x1 o1 l.length c1 x2 o2 m.length c2 (l.map S) (m.map S) w (by simp) (by simp) (by omega) (by omega) (fun j hj => ?_) (fun j hj => ?_)).mono fun e w' ⟨he, q, hw⟩ => ⟨?_, by subst hw; exact belowN (Below.refl _ _) q⟩
      · rw [List.length_map] at hj
        rw [hc1 j hj]; simp [List.getD_eq_getElem?_getD, hj]
      · rw [List.length_map] at hj
        rw [hc2 j hj]; simp [List.getD_eq_getElem?_getD, hj]
      · rw [he, List.take_of_length_le (by simp), List.take_of_length_le (by simp)]
        congr 2
        by_cases h : l = m
        · subst h; simp
        · rw [decide_eq_false h, decide_eq_false (fun h2 => h (map_S.1 h2))]
set_option maxRecDepth 100000 in
theorem batches4 (p e s p' e' s' : Int) (v v' : Value) (l m : List Rec) (w : World) (h1 : RecsIn w v l) (h2 : RecsIn w v' m) (b1 : l.length ≤ maxLen) (b2 : m.length ≤ maxLen) :
    RetB Tryz.prog 45 #[.agg #[.int .i64 p, .int .i64 e, .int .i64 s, v], .agg #[.int .i64 p', .int .i64 e', .int .i64 s', v']] w (.bool (decide (p = p' ∧ e = e' ∧ s = s' ∧ l = m))) := by
  refine RetB.intro fun R hR => ?_
  obtain ⟨a1, c1, hv⟩ := h1.form
  obtain ⟨a2, c2, hv'⟩ := h2.form
  by_cases g1 : p = p'
  · subst g1
    by_cases g2 : e = e'
    · subst g2
      by_cases g3 : s = s'
      · subst g3
        have hc : ∀ W : World, Below w.heap.size w W → RetB Tryz.prog 68 #[v, v'] W (.bool (decide (l = m))) := fun W hW => eqRecs4 v v' l m W (h1.below hW) (h2.below hW) b1 b2
        simp only [true_and] at hR
        generalize decide (l = m) = b at *
        clear h1 h2
        subst hv
        subst hv'
        go_enter Tryz.func45, Tryz.ntmps45
        go_wp2_with fail
        refine (hc _ (below_all (below_all (Below.refl _ _)))).use ?_
        intro w1 hb1
        go_wp2_with fail
        exact finB hR (below_any (Nat.le_refl _) (below_all (below_all (Below.refl _ _))) hb1) rfl
      · have q : ((s : Int) == s') = false := by simpa using g3
        rw [decide_eq_false (by simp [g3])] at hR
        subst hv
        subst hv'
        clear g3 h1 h2
        go_enter Tryz.func45, Tryz.ntmps45
        go_wp2
        exact finB hR (below_all (below_all (Below.refl _ _))) rfl
    · have q : ((e : Int) == e') = false := by simpa using g2
      rw [decide_eq_false (by simp [g2])] at hR
      subst hv
      subst hv'
      clear g2 h1 h2
      go_enter Tryz.func45, Tryz.ntmps45
      go_wp2
      exact finB hR (below_all (below_all (Below.refl _ _))) rfl
  · have q : ((p : Int) == p') = false := by simpa using g1
    rw [decide_eq_false (by simp [g1])] at hR
    subst hv
    subst hv'
    clear g1 h1 h2
    go_enter Tryz.func45, Tryz.ntmps45
    go_wp2
    exact finB hR (below_all (below_all (Below.refl _ _))) rfl
theorem eql_part (t t' : List UInt8) (n n' : Int) (w : World) : (binOp .eql 23 (.agg #[.string (S t), .int .i64 n]) (.agg #[.string (S t'), .int .i64 n'])).run Tryz.prog w = .ok (.bool (decide (t = t' ∧ n = n'))) w := by
  have hS : Tryz.prog.underlying 23 = some (.struct (Tryz.prog.fieldsOf 23)) := by kernel_rfl
  have hp : Tryz.prog.stoodInHeld 23 = false := by kernel_rfl
  have u1 := Tryz.underlying3
  have a1 := Tryz.isAgg3
  have z1 := Tryz.sizeOf3
  have u2 := Tryz.underlying9
  have a2 := Tryz.isAgg9
  have z2 := Tryz.sizeOf9
  rw [run_eql_struct, show (10000 : Nat) = 9999 + 1 from rfl, run_equalIn_agg w 9999 23 _ _ hS hp]
  simp only [Program.fieldsOf, Tryz.underlying23]
  go_simp
  by_cases h1 : t = t' <;> by_cases h2 : n = n' <;> simp [h1, h2]
/-- A command's cells. -/
def Cmd.arr (c : Cmd) (rv tv : Value) : Array Value := #[.int .i64 c.kind, .string (S c.topic), .int .i64 c.pn, .int .i64 c.n, .int .i64 c.off, .int .i64 c.bp, .int .i64 c.be, .int .i64 c.bq, rv, .string (S c.group), .string (S c.member), .int .i64 c.gen, .bool c.robin, tv]
set_option maxHeartbeats 4000000 in
set_option maxRecDepth 100000 in
theorem same4 (c d : Cmd) (rv tv rv' tv' : Value) (w : World) (h1 : RecsIn w rv c.recs) (h2 : TopsIn w tv c.tops) (h1' : RecsIn w rv' d.recs) (h2' : TopsIn w tv' d.tops) (b1 : c.recs.length ≤ maxLen ∧ d.recs.length ≤ maxLen) (b2 : c.tops.length ≤ 1000000 ∧ d.tops.length ≤ 1000000) :
    RetB Tryz.prog 22 #[.agg (c.arr rv tv), .agg (d.arr rv' tv')] w (.bool (decide (c = d))) := by
  refine RetB.intro fun R hR => ?_
  obtain ⟨kind, topic, pn, n, off, bp, be, bq, recs, group, member, gen, robin, tops⟩ := c
  obtain ⟨kind', topic', pn', n', off', bp', be', bq', recs', group', member', gen', robin', tops'⟩ := d
  dsimp only [Cmd.arr] at *
  obtain ⟨ra, rc, rfl⟩ := h1.form
  obtain ⟨ta, tc, rfl⟩ := h2.form
  obtain ⟨ra', rc', rfl⟩ := h1'.form
  obtain ⟨ta', tc', rfl⟩ := h2'.form
  have cB := Lib.hid (fun W (hW : Below w.heap.size w W) => batches4 bp be bq bp' be' bq' _ _ recs recs' W (h1.below hW) (h1'.below hW) b1.1 b1.2)
  have cT := Lib.hid (fun W (hW : Below w.heap.size w W) => eqTops4 _ _ tops tops' W (h2.below hW) (h2'.below hW) b2.1 b2.2)
  simp only [Cmd.mk.injEq] at hR
  have bl := recs.length; clear bl h1 h2 h1' h2'
  by_cases g : kind = kind'
  case' neg =>
    rw [decide_eq_false (by rintro ⟨e0, e1, e2, e3, e4, e5, e6, e7, e8, e9, e10, e11, e12, e13⟩; exact g (by first | assumption | exact ⟨e1, e2⟩ | exact ⟨e5, e6, e7, e8⟩))] at hR
    have q : ((kind : Int) == kind') = false := by simpa using g
    clear g cB cT
    go_enter Tryz.func22, Tryz.ntmps22
    go_wp2_with fail
    exact finB hR (below_all (below_all (Below.refl _ _))) rfl
  case' pos =>
    subst g
    by_cases g : topic = topic' ∧ pn = pn'
    case' neg =>
      rw [decide_eq_false (by rintro ⟨e0, e1, e2, e3, e4, e5, e6, e7, e8, e9, e10, e11, e12, e13⟩; exact g (by first | assumption | exact ⟨e1, e2⟩ | exact ⟨e5, e6, e7, e8⟩))] at hR
      have q := eql_part topic topic' pn pn'
      rw [decide_eq_false g] at q
      clear g cB cT
      go_enter Tryz.func22, Tryz.ntmps22
      go_wp2_with fail
      exact finB hR (below_all (below_all (Below.refl _ _))) rfl
    case' pos =>
      obtain ⟨rfl, rfl⟩ := g
      by_cases g : n = n'
      case' neg =>
        rw [decide_eq_false (by rintro ⟨e0, e1, e2, e3, e4, e5, e6, e7, e8, e9, e10, e11, e12, e13⟩; exact g (by first | assumption | exact ⟨e1, e2⟩ | exact ⟨e5, e6, e7, e8⟩))] at hR
        have eP := eql_part topic topic pn pn
        rw [decide_eq_true ⟨rfl, rfl⟩] at eP
        have q : ((n : Int) == n') = false := by simpa using g
        clear g cB cT
        go_enter Tryz.func22, Tryz.ntmps22
        go_wp2_with fail
        exact finB hR (below_all (below_all (Below.refl _ _))) rfl
      case' pos =>
        subst g
        by_cases g : off = off'
        case' neg =>
          rw [decide_eq_false (by rintro ⟨e0, e1, e2, e3, e4, e5, e6, e7, e8, e9, e10, e11, e12, e13⟩; exact g (by first | assumption | exact ⟨e1, e2⟩ | exact ⟨e5, e6, e7, e8⟩))] at hR
          have eP := eql_part topic topic pn pn
          rw [decide_eq_true ⟨rfl, rfl⟩] at eP
          have q : ((off : Int) == off') = false := by simpa using g
          clear g cB cT
          go_enter Tryz.func22, Tryz.ntmps22
          go_wp2_with fail
          exact finB hR (below_all (below_all (Below.refl _ _))) rfl
        case' pos =>
          subst g
          by_cases g : group = group'
          case' neg =>
            rw [decide_eq_false (by rintro ⟨e0, e1, e2, e3, e4, e5, e6, e7, e8, e9, e10, e11, e12, e13⟩; exact g (by first | assumption | exact ⟨e1, e2⟩ | exact ⟨e5, e6, e7, e8⟩))] at hR
            have eP := eql_part topic topic pn pn
            rw [decide_eq_true ⟨rfl, rfl⟩] at eP
            have q : (group == group') = false := by simpa using g
            clear g cB cT
            go_enter Tryz.func22, Tryz.ntmps22
            go_wp2_with fail
            exact finB hR (below_all (below_all (Below.refl _ _))) rfl
          case' pos =>
            subst g
            by_cases g : member = member'
            case' neg =>
              rw [decide_eq_false (by rintro ⟨e0, e1, e2, e3, e4, e5, e6, e7, e8, e9, e10, e11, e12, e13⟩; exact g (by first | assumption | exact ⟨e1, e2⟩ | exact ⟨e5, e6, e7, e8⟩))] at hR
              have eP := eql_part topic topic pn pn
              rw [decide_eq_true ⟨rfl, rfl⟩] at eP
              have q : (member == member') = false := by simpa using g
              clear g cB cT
              go_enter Tryz.func22, Tryz.ntmps22
              go_wp2_with fail
              exact finB hR (below_all (below_all (Below.refl _ _))) rfl
            case' pos =>
              subst g
              by_cases g : gen = gen'
              case' neg =>
                rw [decide_eq_false (by rintro ⟨e0, e1, e2, e3, e4, e5, e6, e7, e8, e9, e10, e11, e12, e13⟩; exact g (by first | assumption | exact ⟨e1, e2⟩ | exact ⟨e5, e6, e7, e8⟩))] at hR
                have eP := eql_part topic topic pn pn
                rw [decide_eq_true ⟨rfl, rfl⟩] at eP
                have q : ((gen : Int) == gen') = false := by simpa using g
                clear g cB cT
                go_enter Tryz.func22, Tryz.ntmps22
                go_wp2_with fail
                exact finB hR (below_all (below_all (Below.refl _ _))) rfl
              case' pos =>
                subst g
                by_cases g : robin = robin'
                case' neg =>
                  rw [decide_eq_false (by rintro ⟨e0, e1, e2, e3, e4, e5, e6, e7, e8, e9, e10, e11, e12, e13⟩; exact g (by first | assumption | exact ⟨e1, e2⟩ | exact ⟨e5, e6, e7, e8⟩))] at hR
                  have eP := eql_part topic topic pn pn
                  rw [decide_eq_true ⟨rfl, rfl⟩] at eP
                  have q : (robin == robin') = false := by simpa using g
                  clear g cB cT
                  go_enter Tryz.func22, Tryz.ntmps22
                  go_wp2_with fail
                  exact finB hR (below_all (below_all (Below.refl _ _))) rfl
                case' pos =>
                  subst g
                  by_cases g : bp = bp' ∧ be = be' ∧ bq = bq' ∧ recs = recs'
                  case' neg =>
                    rw [decide_eq_false (by rintro ⟨e0, e1, e2, e3, e4, e5, e6, e7, e8, e9, e10, e11, e12, e13⟩; exact g (by first | assumption | exact ⟨e1, e2⟩ | exact ⟨e5, e6, e7, e8⟩))] at hR
                    have eP := eql_part topic topic pn pn
                    rw [decide_eq_true ⟨rfl, rfl⟩] at eP
                    rw [decide_eq_false g] at cB
                    clear g cT
                    go_enter Tryz.func22, Tryz.ntmps22
                    go_wp2_with fail
                    refine (cB.out _ (below_all (below_all (Below.refl _ _)))).use ?_
                    intro w2 b2
                    go_wp2_with fail
                    exact finB hR (below_any (Nat.le_refl _) (below_all (below_all (Below.refl _ _))) b2) rfl
                  case' pos =>
                    obtain ⟨rfl, rfl, rfl, rfl⟩ := g
                    by_cases g : tops = tops'
                    case' neg =>
                      rw [decide_eq_false (by rintro ⟨e0, e1, e2, e3, e4, e5, e6, e7, e8, e9, e10, e11, e12, e13⟩; exact g (by first | assumption | exact ⟨e1, e2⟩ | exact ⟨e5, e6, e7, e8⟩))] at hR
                      have eP := eql_part topic topic pn pn
                      rw [decide_eq_true ⟨rfl, rfl⟩] at eP
                      rw [decide_eq_false g] at cT
                      rw [decide_eq_true ⟨rfl, rfl, rfl, rfl⟩] at cB
                      clear g
                      go_enter Tryz.func22, Tryz.ntmps22
                      go_wp2_with fail
                      refine (cB.out _ (below_all (below_all (Below.refl _ _)))).use ?_
                      intro w2 b2
                      have B2 := below_any (Nat.le_refl _) (below_all (below_all (Below.refl _ _))) b2
                      have x1 := b2.cell (p := ⟨w.heap.size, 13, none⟩) (by simp; omega)
                      have x2 := b2.cell (p := ⟨w.heap.size + 1, 13, none⟩) (by simp)
                      go_wp2_with fail
                      refine (cT.out _ B2).use ?_
                      intro w3 b3
                      go_wp2_with fail
                      exact finB hR (below_any (Nat.le_refl _) B2 b3) rfl
                    case' pos =>
                      subst g
                      rw [decide_eq_true ⟨rfl, rfl, rfl, rfl, rfl, rfl, rfl, rfl, rfl, rfl, rfl, rfl, rfl, rfl⟩] at hR
                      have eP := eql_part topic topic pn pn
                      rw [decide_eq_true ⟨rfl, rfl⟩] at eP
                      rw [decide_eq_true rfl] at cT
                      rw [decide_eq_true ⟨rfl, rfl, rfl, rfl⟩] at cB
                      go_enter Tryz.func22, Tryz.ntmps22
                      go_wp2_with fail
                      refine (cB.out _ (below_all (below_all (Below.refl _ _)))).use ?_
                      intro w2 b2
                      have B2 := below_any (Nat.le_refl _) (below_all (below_all (Below.refl _ _))) b2
                      have x1 := b2.cell (p := ⟨w.heap.size, 13, none⟩) (by simp; omega)
                      have x2 := b2.cell (p := ⟨w.heap.size + 1, 13, none⟩) (by simp)
                      go_wp2_with fail
                      refine (cT.out _ B2).use ?_
                      intro w3 b3
                      go_wp2_with fail
                      exact finB hR (below_any (Nat.le_refl _) B2 b3) rfl
end Go.Proofs.YthiliodmbipikaaGreat
