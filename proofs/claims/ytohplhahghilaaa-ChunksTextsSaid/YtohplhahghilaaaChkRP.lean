import Derived.Test.YtohplhahghilaaaChkH
import Derived.Test.YtohplhahghilaaaChkRT
import Derived.Test.YtohplhahghilaaaRecI
/-
  Layer 7, the document's: the segment of bytes: the contract.
-/
set_option linter.unusedVariables false
set_option linter.unusedSimpArgs false
namespace Go.Proofs.Ytohplhahghilaaa
open Go.RowKit
attribute [local go_sem] ByteArray.extract_mk ByteArray.mk_append_mk

theorem rnum_of {s : List UInt8} {p q : Int} {n : Nat} (h : cnum s p false = (n, q, false)) : rnum s p = ((n : Int), q) := by
  unfold cnum at h
  split at h
  · simp at h
  · rename_i hn
    simp only [not_or] at hn
    simp only [Prod.mk.injEq] at h
    unfold rnum
    rw [if_neg (by rintro (h | h); exact hn.2.1 h; exact hn.2.2 h), h.1, h.2.1]
theorem rnum_yes {s : List UInt8} {p : Int} (h : ¬ (rnum s p).1 < 0) : ∃ n q, cnum s p false = (n, q, false) ∧ rnum s p = ((n : Int), q) := by
  unfold rnum at h
  split at h
  · simp at h
  · rename_i hn
    have : cnum s p false = ((vget s p).1, (vget s p).2.1, false) := by
      unfold cnum
      rw [if_neg (by rintro (h | h | h); simp at h; exact hn (.inl h); exact hn (.inr h))]
    exact ⟨_, _, this, rnum_of this⟩
/-- Parse's state. -/
structure Q7 (w : World) (base next : Int) (l : List Fnd) (lv : Value) (W : World) : Prop where
  res : Blk W w.heap.size #[.int .i64 0, .int .i64 0, .slice none 0 0] 24
  sg : Blk W (w.heap.size + 1) #[.int .i64 base, .int .i64 next, lv] 24
  own : W.ownsRow w.heap.size 70 5 lv l.length (l.flatMap Fnd.cells)
  bel : Below w.heap.size w W
section
variable {w W W' : World} {base next : Int} {l : List Fnd} {lv lv' : Value}
theorem Q7.below (h : Q7 w base next l lv W) (b : Below W.heap.size W W') : Q7 w base next l lv W' :=
  ⟨h.res.below b, h.sg.below b, own_keptBy h.own (Kept.ofBelow b []) (away_nil _), below_any (Nat.le_refl _) h.bel b⟩
theorem Q7.alloc (h : Q7 w base next l lv W) (o : Obj) : Q7 w base next l lv (W.alloc o) := h.below (below_all (Below.refl _ _))
theorem Q7.app {f : Fnd} (h : Q7 w base next l lv W) (o : W'.ownsRow w.heap.size 70 5 lv' (l.length + 1) (l.flatMap Fnd.cells ++ f.cells)) (g : W.grownBy W' lv.ownBlock) : Q7 w base next (l ++ [f]) lv' (W'.setCell ⟨w.heap.size + 1, 2, none⟩ lv') := by
  have h1 := h.sg.grown g (own_ne h.own h.sg (by decide))
  have g2 : W'.grownBy (W'.setCell ⟨w.heap.size + 1, 2, none⟩ lv') (some (w.heap.size + 1)) := grown_set (grown_refl _ _) _ _
  refine ⟨?_, h1.set 2 lv', ?_, ?_⟩
  · exact (h.res.grown g (own_ne h.own h.res (by decide))).grown g2 (by simp)
  · have := o.kept g2 (.inr (Ne.symm (own_ne o h1 (by decide))))
    simpa using this
  · refine (Kept.below h.bel (Kept.ofGrown g) (by intro x hx; simp only [Option.mem_toList] at hx; exact (h.own.lt x hx).1) h.bel.size).setCell (p := ⟨w.heap.size + 1, 2, none⟩) (show w.heap.size ≤ w.heap.size + 1 by omega) _
end

set_option maxHeartbeats 4000000 in
set_option maxRecDepth 100000 in
theorem rparse7 (s : List UInt8) (w : World) (hs : s.length ≤ 200000) : SegOf 14 #[.string (S s)] w s := by
  refine SegOf.intro fun R hG hB => ?_
  obtain ⟨i0, hi, hz0, hz1, hz2⟩ := info_parts fndInfo
  have hm : s.length ≤ maxLen := by unfold maxLen; omega
  have CN := Lib.hid (fun p w => rnum7 s p w hm)
  have CR := Lib.hid (fun p w => rget3_any s p w hm)
  obtain ⟨a1, p1, e1⟩ : ∃ n p, rnum s 0 = (n, p) := ⟨_, _, rfl⟩
  obtain ⟨a2, p2, e2⟩ : ∃ n p, rnum s p1 = (n, p) := ⟨_, _, rfl⟩
  obtain ⟨a3, p3, e3⟩ : ∃ n p, rnum s p2 = (n, p) := ⟨_, _, rfl⟩
  have cn1 := fun w => CN.out 0 w
  have cn2 := fun w => CN.out p1 w
  have cn3 := fun w => CN.out p2 w
  rw [e1] at cn1
  rw [e2] at cn2
  rw [e3] at cn3
  simp only at cn1 cn2 cn3
  have A0 := Blk.new w #[.int .i64 0, .int .i64 0, .slice none 0 0] 24
  have G0 := below_all (o := .cells #[.int .i64 0, .int .i64 0, .slice none 0 0] 24) (Below.refl w.heap.size w)
  by_cases hbad : a1 < 0 ∨ a2 < 0 ∨ a3 < 0 ∨ 64 < a3
  · have HNO : Hid (∀ base next l, lerr base next l = 0 → stext base next l ≠ s) := Lib.hid (fun b n l' hg hs => by
      obtain ⟨q1, q2, c1, c2, c3⟩ := head_at hg hs
      obtain ⟨u1, u2, u3, u4, u5, u6, _⟩ := lerr_ok hg
      have r1 := rnum_of c1
      rw [e1, Prod.mk.injEq] at r1
      obtain ⟨rfl, rfl⟩ := r1
      have r2 := rnum_of c2
      rw [e2, Prod.mk.injEq] at r2
      obtain ⟨rfl, rfl⟩ := r2
      have r3 := rnum_of c3
      rw [e3, Prod.mk.injEq] at r3
      obtain ⟨rfl, rfl⟩ := r3
      omega)
    obtain ⟨kz, u0, u1, u2⟩ := A0.c3
    have fz : ∀ i, (w.alloc (.cells #[.int .i64 0, .int .i64 0, .slice none 0 0] 24)).frozen? ⟨w.heap.size, i, none⟩ = false := fun i => Blk.frozen A0 i
    clear e1 e2 e3 CN CR hs hm
    go_enter Try.func14, Try.ntmps14
    go_wp2_with fail
    refine (cn1 _).use ?_
    go_wp2_with fail
    refine (cn2 _).use ?_
    go_wp2_with fail
    refine (cn3 _).use ?_
    clear cn1 cn2 cn3
    by_cases h1 : a1 < 0
    · clear hbad
      go_wp2_with fail
      refine bodyPost_ret (results_cell2 rfl _ _ w.heap.size 24 #[.int .i64 0, .int .i64 0, .slice none 0 0] (0, 0) _ _ rfl rfl ?c1 Try.underlying24 rfl (by kernel_rfl)) rfl ?_
      case c1 => exact A0
      exact hB.out _ G0 HNO.out
    · by_cases h2 : a2 < 0
      · clear hbad
        go_wp2_with fail
        refine bodyPost_ret (results_cell2 rfl _ _ w.heap.size 24 #[.int .i64 0, .int .i64 0, .slice none 0 0] (0, 0) _ _ rfl rfl ?c1 Try.underlying24 rfl (by kernel_rfl)) rfl ?_
        case c1 => exact A0
        exact hB.out _ G0 HNO.out
      · by_cases h3 : a3 < 0
        · clear hbad
          go_wp2_with fail
          refine bodyPost_ret (results_cell2 rfl _ _ w.heap.size 24 #[.int .i64 0, .int .i64 0, .slice none 0 0] (0, 0) _ _ rfl rfl ?c1 Try.underlying24 rfl (by kernel_rfl)) rfl ?_
          case c1 => exact A0
          exact hB.out _ G0 HNO.out
        · have h4 : 64 < a3 := by omega
          clear hbad
          go_wp2_with fail
          refine bodyPost_ret (results_cell2 rfl _ _ w.heap.size 24 #[.int .i64 0, .int .i64 0, .slice none 0 0] (0, 0) _ _ rfl rfl ?c1 Try.underlying24 rfl (by kernel_rfl)) rfl ?_
          case c1 => exact A0
          exact hB.out _ G0 HNO.out
  · simp only [not_or] at hbad
    obtain ⟨b1, b2, b3, b4⟩ := hbad
    obtain ⟨x1, q1, c1, d1⟩ := rnum_yes (s := s) (p := 0) (by rw [e1]; exact b1)
    rw [e1, Prod.mk.injEq] at d1
    obtain ⟨rfl, rfl⟩ := d1
    obtain ⟨x2, q2, c2, d2⟩ := rnum_yes (s := s) (p := p1) (by rw [e2]; exact b2)
    rw [e2, Prod.mk.injEq] at d2
    obtain ⟨rfl, rfl⟩ := d2
    obtain ⟨x3, q3, c3, d3⟩ := rnum_yes (s := s) (p := p2) (by rw [e3]; exact b3)
    rw [e3, Prod.mk.injEq] at d3
    obtain ⟨rfl, rfl⟩ := d3
    have hpg := PGood.start c1 c2 c3
    obtain ⟨n1, _⟩ := cnum_bd c1
    have HPG := Lib.hid hpg
    have P0 : Q7 w x1 x2 [] (.slice none 0 0) ((w.alloc (.cells #[.int .i64 0, .int .i64 0, .slice none 0 0] 24)).alloc (.cells #[.int .i64 (x1 : Int), .int .i64 (x2 : Int), .slice none 0 0] 24)) := by
      refine ⟨A0.alloc _, ?_, World.ownsRow_nil _ _ _ _, below_all G0⟩
      have h := Blk.new (w.alloc (.cells #[.int .i64 0, .int .i64 0, .slice none 0 0] 24)) #[.int .i64 (x1 : Int), .int .i64 (x2 : Int), .slice none 0 0] 24
      rwa [World.size_alloc] at h
    have hx3 : x3 ≤ 64 := by omega
    clear e1 e2 e3 c1 c2 c3 hm hpg A0 G0
    go_enter Try.func14, Try.ntmps14
    go_wp2_with fail
    refine (cn1 _).use ?_
    go_wp2_with fail
    refine (cn2 _).use ?_
    go_wp2_with fail
    refine (cn3 _).use ?_
    go_wp2_with fail
    clear cn1 cn2 cn3 b1 b2 b3 b4
    go_loopw [9, 11, 12, 13, 14, 15, 16, 17] (fun (v9 v11 v12 v13 v14 v15 v16 v17 : Value) (W : World) => ∃ (k : Nat) (l : List Fnd) (p : Int) (lv : Value) (least : Int), k ≤ x3 ∧ v9 = .int .i64 p ∧ v11 = .int .i64 least ∧ v12 = .int .i64 (k : Int) ∧ l.length = k ∧ Q7 w x1 x2 l lv W ∧ Hid (PGood s x1 x2 x3 l least p false) ∧ 0 ≤ least ∧ least ≤ 1099511627776 + 1099511627777 * (k : Int) ∧ Hid (∀ f ∈ l, RecBd f.r)) (fun (v9 v11 v12 v13 v14 v15 v16 v17 : Value) (W : World) => (x3 - intOf v12).toNat)
    case atStart => exact ⟨0, [], p3, .slice none 0 0, x1, by omega, rfl, rfl, rfl, rfl, P0, HPG, by omega, by omega, Lib.hid (by simp)⟩
    case round =>
      obtain ⟨k, l, p, lv, least, hk, rfl, rfl, rfl, hlk, hP, hPG, hl0, hl1, hbd⟩ := hrel
      subst hlk
      have HP := Lib.hid hP
      have A5 := hP.res
      obtain ⟨kz, u0, u1, u2⟩ := A5.c3
      obtain ⟨k0, y0, y1, y2⟩ := hP.sg.c3
      have fz : ∀ i, wr.frozen? ⟨w.heap.size, i, none⟩ = false := fun i => Blk.frozen A5 i
      by_cases hgo : l.length < x3
      · obtain ⟨d, q, e5⟩ : ∃ n a, rnum s p = (n, a) := ⟨_, _, rfl⟩
        obtain ⟨r, p6, e, e6⟩ : ∃ n a b, mget s q = (n, a, b) := ⟨_, _, _, rfl⟩
        have c5 := fun w => CN.out p w
        have c6 := fun w => CR.out q w
        rw [e5] at c5
        rw [e6] at c6
        unfold mgetV at c6
        simp only at c5 c6
        have c6 := Lib.hid c6
        by_cases hd : d < 0
        · have HNO : Hid (∀ base next l, lerr base next l = 0 → stext base next l ≠ s) := Lib.hid (fun b' n' l' hg hs => by
            obtain ⟨rfl, rfl, rfl, _, f1, f2, f3, f4⟩ := hPG.out b' n' l' hg hs
            obtain ⟨q', s1, s2⟩ := step_at hg hs hgo
            have r1 := rnum_of s1
            rw [← f4, e5, Prod.mk.injEq] at r1
            omega)
          clear e5 e6 hPG hP
          go_wp2_with fail
          refine (c5 _).use ?_
          go_wp2_with fail
          refine (c6.out _).use ?_
          intro w6 b6
          have P6 := (HP.out.below b6).alloc (.cells #[.bool r.hk, .string (S r.key), .bool r.tb, .string (S r.val)] 68)
          have A6 := P6.res
          have fz6 : ∀ i, (w6.alloc (.cells #[.bool r.hk, .string (S r.key), .bool r.tb, .string (S r.val)] 68)).frozen? ⟨w.heap.size, i, none⟩ = false := fun i => Blk.frozen A6 i
          have G6 := Lib.hid P6.bel
          obtain ⟨kz6, v0, v1, v2⟩ := A6.c3
          clear P6 u0 u1 u2 y0 y1 y2 b6 HP
          go_wp2_with fail
          refine bodyPost_ret (results_cell2 rfl _ _ w.heap.size 24 #[.int .i64 0, .int .i64 0, .slice none 0 0] (0, 0) _ _ rfl rfl ?c1 Try.underlying24 rfl (by kernel_rfl)) rfl ?_
          case c1 => exact ((A6.set 0 (.int .i64 0)).set 1 (.int .i64 0)).set 2 (.slice none 0 0)
          exact hB.out _ (((G6.out.setCell (p := ⟨w.heap.size, 0, none⟩) (Nat.le_refl _) _).setCell (p := ⟨w.heap.size, 1, none⟩) (Nat.le_refl _) _).setCell (p := ⟨w.heap.size, 2, none⟩) (Nat.le_refl _) _) (HNO.out)
        · obtain ⟨dn, q', c7, d7⟩ := rnum_yes (s := s) (p := p) (by rw [e5]; exact hd)
          rw [e5, Prod.mk.injEq] at d7
          obtain ⟨rfl, rfl⟩ := d7
          have hd0 : ¬ ((dn : Int) < 0) := hd
          by_cases he : e = 0
          · subst he
            have c8 : crec s q false = (r, p6, false) := by unfold crec; rw [e6]; simp
            obtain ⟨d1, _⟩ := cnum_bd c7
            obtain ⟨d3, _⟩ := crec_bd c8
            have hpg2 := Lib.hid (hPG.out.step (by omega) c7 c8)
            have q1 : IntKind.i64.wrap (least + (dn : Int)) = least + (dn : Int) := by rw [IntKind.wrap_i64]; omega
            have q2 : IntKind.i64.wrap (least + (dn : Int) + 1) = least + (dn : Int) + 1 := by rw [IntKind.wrap_i64]; omega
            clear e5 e6 hPG c7 c8 hP
            go_wp2_with fail
            refine (c5 _).use ?_
            go_wp2_with fail
            refine (c6.out _).use ?_
            intro w6 b6
            have P6 := HP.out.below b6
            clear b6 c5 c6 u0 u1 u2 y0 y1 y2 k0 kz fz A5 HP
            have P7 := P6.alloc (.cells #[.bool r.hk, .string (S r.key), .bool r.tb, .string (S r.val)] 68)
            have P8 := P7.alloc (.cells #[.int .i64 (least + (dn : Int)), .bool r.hk, .string (S r.key), .bool r.tb, .string (S r.val)] 70)
            obtain ⟨k0, y0, y1, y2⟩ := P6.sg.c3
            obtain ⟨f, hf⟩ : ∃ f : Fnd, (⟨least + (dn : Int), r⟩ : Fnd) = f := ⟨_, rfl⟩
            have hf1 : f.off = least + (dn : Int) := by rw [← hf]
            have hf2 : f.r = r := by rw [← hf]
            have hne := news_fnd (W := w6.alloc (.cells #[.bool r.hk, .string (S r.key), .bool r.tb, .string (S r.val)] 68)) f (s := w6.heap.size + 1) (by simp)
            unfold Fnd.cells Rec.cells at hne
            rw [hf1, hf2] at hne
            obtain ⟨la, lc, rfl⟩ := own_form P6.own
            rw [hf] at hpg2
            have z6 := P6.bel.size
            have o8 := P8.own
            have fz : ∀ i, w6.frozen? ⟨w.heap.size + 1, i, none⟩ = false := fun i => Blk.frozen P6.sg i
            clear P7
            have P6 := Lib.hid P6
            have P8 := Lib.hid P8
            go_wp2_with (at_builtin; refine wpList_append_own_at _ rfl _ _ 22 rfl w.heap.size 70 i0 _ 5 56 Try.underlying22 hi hz0 hz1 hz2 rfl (by decide) _ _ _ rfl o8 ⟨w6.heap.size + 1, 0, none⟩ 1 1 [.int .i64 (least + (dn : Int)), .bool r.hk, .string (S r.key), .bool r.tb, .string (S r.val)] rfl rfl hne (by simp [Value.oneCell']) (by unfold maxLen; omega) (by omega) (by simp; omega) ?_; intro vv5 w9 o9 g9 z9 at9; obtain ⟨va9, vc9, rfl⟩ := own_form o9; have S9 := (P8.out.sg.grown g9 (own_ne P8.out.own P8.out.sg (by decide))); obtain ⟨k9, s0, s1, s2⟩ := S9.c3; have fz9 : ∀ i, w9.frozen? ⟨w.heap.size + 1, i, none⟩ = false := fun i => Blk.frozen S9 i)
            have P9 := P8.out.app (f := f) (by unfold Fnd.cells Rec.cells; rw [hf1, hf2]; exact o9) g9
            have P9 := Lib.hid P9
            have hbd2 : Hid (∀ g ∈ l ++ [f], RecBd g.r) := Lib.hid (fun g hg => by
              rcases List.mem_append.1 hg with h | h
              · exact hbd.out g h
              · rw [List.mem_singleton.1 h, hf2]; exact d3)
            clear g9 z9 o9 S9 o8 P8 hne P6 hbd k9
            go_roundw
            case rel => exact ⟨l.length + 1, l ++ [f], p6, _, least + (dn : Int) + 1, by omega, rfl, by go_num, by go_num, by simp, P9.out, hpg2, by omega, by omega, hbd2⟩
            case measure => first | (simp [intOf]; done) | (simp [intOf]; omega)
          · have HNO : Hid (∀ base next l, lerr base next l = 0 → stext base next l ≠ s) := Lib.hid (fun b' n' l' hg hs => by
              obtain ⟨rfl, rfl, rfl, _, f1, f2, f3, f4⟩ := hPG.out b' n' l' hg hs
              obtain ⟨q', s1, s2⟩ := step_at hg hs hgo
              rw [← f4, c7, Prod.mk.injEq, Prod.mk.injEq] at s1
              obtain ⟨_, rfl, _⟩ := s1
              unfold crec at s2
              rw [e6, if_pos (.inr he)] at s2
              simp at s2)
            have he1 : (e != 0) = true := by simpa using he
            clear e5 e6 hPG hP he c7
            go_wp2_with fail
            refine (c5 _).use ?_
            go_wp2_with fail
            refine (c6.out _).use ?_
            intro w6 b6
            have P6 := (HP.out.below b6).alloc (.cells #[.bool r.hk, .string (S r.key), .bool r.tb, .string (S r.val)] 68)
            have A6 := P6.res
            have fz6 : ∀ i, (w6.alloc (.cells #[.bool r.hk, .string (S r.key), .bool r.tb, .string (S r.val)] 68)).frozen? ⟨w.heap.size, i, none⟩ = false := fun i => Blk.frozen A6 i
            have G6 := Lib.hid P6.bel
            obtain ⟨kz6, v0, v1, v2⟩ := A6.c3
            clear P6 u0 u1 u2 y0 y1 y2 b6 HP
            go_wp2_with fail
            refine bodyPost_ret (results_cell2 rfl _ _ w.heap.size 24 #[.int .i64 0, .int .i64 0, .slice none 0 0] (0, 0) _ _ rfl rfl ?c1 Try.underlying24 rfl (by kernel_rfl)) rfl ?_
            case c1 => exact ((A6.set 0 (.int .i64 0)).set 1 (.int .i64 0)).set 2 (.slice none 0 0)
            exact hB.out _ (((G6.out.setCell (p := ⟨w.heap.size, 0, none⟩) (Nat.le_refl _) _).setCell (p := ⟨w.heap.size, 1, none⟩) (Nat.le_refl _) _).setCell (p := ⟨w.heap.size, 2, none⟩) (Nat.le_refl _) _) (HNO.out)
      · have h1 : ¬ (l.length : Int) < (x3 : Int) := by omega
        have HST : Hid (∀ (b' n' : Int) (l' : List Fnd), lerr b' n' l' = 0 → stext b' n' l' = s → (x1 : Int) = b' ∧ (x2 : Int) = n' ∧ l = l') := Lib.hid (fun b' n' l' hg hs => (hPG.out.stop (.inl (by omega)) hg hs).2)
        have cT := rtext7 x1 x2 lv l wr (fnds_own hP.own) (own_plain hP.own) hbd.out (by omega)
        obtain ⟨e, he⟩ : ∃ e, lerr x1 x2 l = e := ⟨_, rfl⟩
        rw [he] at cT
        obtain ⟨tx, htx⟩ : ∃ tx, (if e = 0 then stext x1 x2 l else []) = tx := ⟨_, rfl⟩
        rw [htx] at cT
        have HE := Lib.hid he
        have HX := Lib.hid htx
        obtain ⟨la, lc, rfl⟩ := own_form hP.own
        have CT := Lib.hid cT
        clear hPG hbd cT hP he htx CN CR hgo A5 u0 u1 u2 fz
        go_wp2_with fail
        refine CT.out.use ?_
        intro w5 hb5
        have P5 := HP.out.below hb5
        have A5 := P5.res
        have C5 := P5.sg
        have HP5 := Lib.hid P5
        clear CT HP hb5 P5 k0 y0 y1 y2
        obtain ⟨k0, y0, y1, y2⟩ := C5.c3
        obtain ⟨kz, u0, u1, u2⟩ := A5.c3
        have fz : ∀ i, w5.frozen? ⟨w.heap.size, i, none⟩ = false := fun i => Blk.frozen A5 i
        by_cases h0 : e = 0
        · subst h0
          have hX2 : Hid (stext x1 x2 l = tx) := Lib.hid (by rw [← HX.out, if_pos rfl])
          by_cases hts : tx = s
          · subst hts
            have h2 : (tx != tx) = false := by simp
            have h3 : (tx == tx) = true := by simp
            go_wp2_with fail
            refine bodyPost_ret (results_cell2 rfl _ _ w.heap.size 24 #[.int .i64 (x1 : Int), .int .i64 (x2 : Int), .slice la l.length lc] (0, 0) _ _ rfl rfl ?c1 Try.underlying24 rfl (by kernel_rfl)) rfl ?_
            case c1 => exact ((A5.set 0 (.int .i64 (x1 : Int))).set 1 (.int .i64 (x2 : Int))).set 2 (.slice la l.length lc)
            refine hG.out _ x1 x2 (.slice la l.length lc) l (((HP5.out.bel.setCell (p := ⟨w.heap.size, 0, none⟩) (Nat.le_refl _) _).setCell (p := ⟨w.heap.size, 1, none⟩) (Nat.le_refl _) _).setCell (p := ⟨w.heap.size, 2, none⟩) (Nat.le_refl _) _) ?_ HE.out hX2.out
            exact HP5.out.own.kept (grown_set (grown_set (grown_set (grown_refl _ _) _ _) _ _) _ _) (.inr (Ne.symm (own_ne HP5.out.own A5 (by decide))))
          · have HNO : Hid (∀ base next l, lerr base next l = 0 → stext base next l ≠ s) := Lib.hid (fun b n l' hg hs => by
              obtain ⟨rfl, rfl, rfl⟩ := HST.out b n l' hg hs
              exact hts (hX2.out.symm.trans hs))
            have h2 : (tx != s) = true := by simpa using hts
            have h3 : (tx == s) = false := by simpa using hts
            go_wp2_with fail
            refine bodyPost_ret (results_cell2 rfl _ _ w.heap.size 24 #[.int .i64 0, .int .i64 0, .slice none 0 0] (0, 0) _ _ rfl rfl ?c1 Try.underlying24 rfl (by kernel_rfl)) rfl ?_
            case c1 => exact ((A5.set 0 (.int .i64 0)).set 1 (.int .i64 0)).set 2 (.slice none 0 0)
            exact hB.out _ (((HP5.out.bel.setCell (p := ⟨w.heap.size, 0, none⟩) (Nat.le_refl _) _).setCell (p := ⟨w.heap.size, 1, none⟩) (Nat.le_refl _) _).setCell (p := ⟨w.heap.size, 2, none⟩) (Nat.le_refl _) _) (HNO.out)
        · have h2 : ((e : Int) != 0) = true := by simpa using h0
          have HNO : Hid (∀ base next l, lerr base next l = 0 → stext base next l ≠ s) := Lib.hid (fun b n l' hg hs => by
            obtain ⟨rfl, rfl, rfl⟩ := HST.out b n l' hg hs
            exact h0 (HE.out.symm.trans hg))
          clear h0 HX HE
          go_wp2_with fail
          refine bodyPost_ret (results_cell2 rfl _ _ w.heap.size 24 #[.int .i64 0, .int .i64 0, .slice none 0 0] (0, 0) _ _ rfl rfl ?c1 Try.underlying24 rfl (by kernel_rfl)) rfl ?_
          case c1 => exact ((A5.set 0 (.int .i64 0)).set 1 (.int .i64 0)).set 2 (.slice none 0 0)
          exact hB.out _ (((HP5.out.bel.setCell (p := ⟨w.heap.size, 0, none⟩) (Nat.le_refl _) _).setCell (p := ⟨w.heap.size, 1, none⟩) (Nat.le_refl _) _).setCell (p := ⟨w.heap.size, 2, none⟩) (Nat.le_refl _) _) (HNO.out)
end Go.Proofs.Ytohplhahghilaaa
