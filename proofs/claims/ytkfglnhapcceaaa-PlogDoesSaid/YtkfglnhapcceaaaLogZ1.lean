import Derived.Test.YtkfglnhapcceaaaLogRD
import Derived.Test.YtkfglnhapcceaaaLogT
import Derived.Test.YtkfglnhapcceaaaSegCp
import Derived.Test.YtkfglnhapcceaaaLogCm
import Derived.Test.YtkfglnhapcceaaaLogRH
import Derived.Test.YtkfglnhapcceaaaLogRB
import Derived.Test.YtkfglnhapcceaaaLogRC
import Derived.Test.YtkfglnhapcceaaaLogRI
/-
  Several texts in one: LogCp, LogRL, LogRM, LogRN, LogRE, LogDo.
-/
set_option linter.unusedVariables false
set_option linter.unusedSimpArgs false
namespace Go.Proofs.Ytkfglnhapcceaaa
open Go.RowKit
attribute [local go_sem] ByteArray.extract_mk ByteArray.mk_append_mk

/-- Another log made. -/
def LogMade (f : FuncId) (args : Array Value) (w : World) (room : Int) (D : List Sd) : Prop :=
  Calls Try.prog f args w fun x w' => ∃ q cs ts, x = .returned (.pointer (some ⟨q, 0, none⟩)) ∧ LogAt w' q cs room ts ∧ ts.map Sg.d = D ∧ Below w.heap.size w w' ∧ ∀ x ∈ cs, w.heap.size ≤ x
theorem LogMade.intro {f : FuncId} {args : Array Value} {w : World} {room : Int} {D : List Sd}
    (h : ∀ R : Ending → World → Prop, Hid (∀ q cs ts w', LogAt w' q cs room ts → ts.map Sg.d = D → Below w.heap.size w w' → (∀ x ∈ cs, w.heap.size ≤ x) → R (.returned (.pointer (some ⟨q, 0, none⟩))) w') → Calls Try.prog f args w R) : LogMade f args w room D :=
  h _ fun q cs ts w' h1 h2 h3 h4 => ⟨q, cs, ts, rfl, h1, h2, h3, h4⟩

set_option maxHeartbeats 8000000 in
set_option maxRecDepth 100000 in
theorem copy6 (g : Nat) (bs : List Nat) (room : Int) (ss : List Sg) (w : World) (h : LogAt w g bs room ss) (hne : ss ≠ []) (hl : ss.length ≤ 1000) (hll : ∀ s ∈ ss, s.d.l.length ≤ 100000) :
    LogMade 30 #[.pointer (some ⟨g, 0, none⟩)] w room (ss.map Sg.d) := by
  refine LogMade.intro fun R hR => ?_
  obtain ⟨i0, hi, hz0, hz1, hz2⟩ := info_parts ptrInfo
  obtain ⟨b, off, cap, g1, g2, hblt, g4⟩ := h.ptrs hne
  have H := Lib.hid h
  have HLL := Lib.hid hll
  have HC := Lib.hid g4
  obtain ⟨k0, y0, y1⟩ := g1.c2
  clear h hll g4 g1
  go_enter Try.func30, Try.ntmps30
  go_wp2_with fail
  have L0 : LogAt (w.alloc (.cells #[.int .i64 room, .slice none 0 0] 70)) w.heap.size [w.heap.size] room [] :=
    ⟨.slice none 0 0, Blk.new _ _ _, World.ownsRow_nil _ _ _ _, ⟨by simp, List.Pairwise.nil⟩, by simp [sgB], by simp [Value.ownBlock, sgB]⟩
  have G0 : Below w.heap.size w (w.alloc (.cells #[.int .i64 room, .slice none 0 0] 70)) := below_all (Below.refl _ _)
  generalize w.alloc (.cells #[.int .i64 room, .slice none 0 0] 70) = W0 at L0 G0 ⊢
  clear k0 y0 y1
  go_loopw [5, 17] (fun (v5 v17 : Value) (W : World) => ∃ (m : Nat) (cs : List Nat) (ts : List Sg), m ≤ ss.length ∧ v17 = .int .i64 (m : Int) ∧ LogAt W w.heap.size cs room ts ∧ Hid (ts.map Sg.d = (ss.take m).map Sg.d) ∧ Below w.heap.size w W ∧ (∀ x ∈ cs, w.heap.size ≤ x)) (fun (v5 v17 : Value) (W : World) => (ss.length - intOf v17).toNat)
  case atStart => exact ⟨0, _, [], by omega, rfl, L0, Lib.hid rfl, G0, by simp⟩
  case round =>
    obtain ⟨m, cs, ts, hm, rfl, hL, hts, hnx, hcs⟩ := hrel
    by_cases hml : m < ss.length
    · have c0 := (hnx.cell (p := ⟨b, off + m, none⟩) hblt).trans (HC.out m hml)
      have hmem := List.getElem_mem hml
      have hlen := HLL.out _ hmem
      have hts2 := Lib.hid (show ∀ t : Sg, t.d = ss[m].d → (ts ++ [t]).map Sg.d = (ss.take (m + 1)).map Sg.d from fun t e => by rw [List.map_append, hts.out, List.take_succ_eq_append_getElem hml, List.map_append]; simp [e])
      have htl : ts.length = m := by have := congrArg List.length hts.out; simpa [List.length_take, Nat.min_eq_left hm] using this
      have q1 : (0 : Int) ≤ (m : Int) := by omega
      have q2 : (m : Int) < (ss.length : Int) := by omega
      have htl2 : ts.length ≤ 1000 := by omega
      have hLlt := Lib.hid hL.lt
      have cC := Lib.hid (fun W (hb : Below wr.heap.size wr W) => copy5 ss[m].p ss[m].bs ss[m].d.base ss[m].d.next ss[m].d.l W ((H.out.below (below_any (Nat.le_refl _) hnx hb)).sg hmem) hlen)
      have D0 : Below wr.heap.size wr wr.drew := (Below.refl _ _).drew
      have hL1 := Lib.hid hL
      obtain ⟨lv, l1, l2, l3, l4, hbs⟩ := hL
      obtain ⟨la, lc, rfl⟩ := own_form l2
      obtain ⟨kk, u0, u1⟩ := l1.c2
      have l1h := Lib.hid l1
      have l2h := Lib.hid l2
      have l3h := Lib.hid l3
      have l4h := Lib.hid l4
      have HBS := Lib.hid hbs
      have HCS := Lib.hid hcs
      clear l1 l2 l3 l4 hbs hcs hts hmem htl hlen hL1
      generalize ss[m] = s at *
      generalize hN : ts.length = N at *
      have HNL := Lib.hid hN
      clear hN
      go_wp2_with fail
      go_region_law (first | (refine step_append_any (by rfl) _ _ _ (by rfl) 0 71 i0 _ 1 8 Try.underlying68 hi hz0 hz1 hz2 rfl (by omega) (.slice la N lc) N (ts.map Sg.ptr) (by simp [Act.eval, Act.put]) (own_keptBy l2h.out (Kept.ofBelow hb10 []) (away_nil _)) (some ⟨w9.heap.size, 0, none⟩) 1 1 [.pointer (some ⟨q, 0, none⟩)] (by simp [Act.eval, Act.put]) (.inr ⟨_, rfl, news_ptr q rfl⟩) rfl (by simp [Value.oneCell']) (by unfold maxLen; omega) (by omega) (by omega) _ rfl ?_; intro v11 w11 o11 g11 at11; obtain ⟨va11, vc11, rfl⟩ := own_form o11; have S11 := (l1h.out.below hb10).grown g11 (own_ne (own_keptBy l2h.out (Kept.ofBelow hb10 []) (away_nil _)) (l1h.out.below hb10) (by decide)); obtain ⟨k11, s0, s1⟩ := S11.c2; have fz11 : ∀ i, w11.frozen? ⟨w.heap.size, i, none⟩ = false := fun i => Blk.frozen S11 i) | (go_simp; go_at_call 55; refine (cC.out _ (by assumption)).mono ?_; rintro e w9 ⟨q, qs, rfl, S9, b9, n9⟩; have hb9 := below_any (Nat.le_refl _) D0 b9; have hb10 := below_all (o := .cells #[.pointer (some ⟨q, 0, none⟩)] 71) hb9; have x3 := (hb9.cell (p := ⟨w.heap.size, 1, none⟩) kk).trans u1; have x4 := (hb10.cell (p := ⟨w.heap.size, 1, none⟩) kk).trans u1; have k9 : w.heap.size < w9.heap.size := Nat.lt_of_lt_of_le kk hb9.size; have S9h := Lib.hid S9; have n9h := Lib.hid n9; clear S9 n9; go_wp2_with fail))
      all_goals go_wp2_with fail
      all_goals
        have hn5 : N = ts.length := HNL.out.symm
        subst hn5
        have hsep : ∀ x ∈ qs, x ≠ w.heap.size ∧ (Value.slice la ts.length lc).ownBlock ≠ some x ∧ x ∉ sgB ts := fun x hx => by
          have h5 : wr.heap.size ≤ x := n9h.out x hx
          have h6 := hLlt.out
          rw [HBS.out] at h6
          refine ⟨fun e => ?_, fun e => ?_, fun e => ?_⟩
          · have := h6 w.heap.size (by simp); omega
          · have := h6 x (by simp only [List.mem_cons, List.mem_append, Option.mem_toList]; exact .inr (.inl e)); omega
          · have := h6 x (by simp only [List.mem_cons, List.mem_append, Option.mem_toList]; exact .inr (.inr e)); omega
        obtain ⟨cs2, L6, K6, C6⟩ := LogAt.push (s := ⟨q, qs, s.d⟩) (l1h.out.below hb10) (own_keptBy l2h.out (Kept.ofBelow hb10 []) (away_nil _)) (l3h.out.kept (Kept.ofBelow hb10 []) (by simp)) l4h.out (S9h.out.below (below_all (Below.refl _ _))) hsep (by simpa [Sg.ptr] using o11) g11 at11
        rw [← HBS.out] at K6 C6
        have hz10 := (below_any (Nat.le_refl _) hnx hb10).size
        have hB6 := Lib.hid (Kept.below (below_any (Nat.le_refl _) hnx hb10) K6 HCS.out hz10)
        have hC6 : Hid (∀ x ∈ cs2, w.heap.size ≤ x) := Lib.hid (fun x hx => by
          rcases C6 x hx with h | h | h
          · exact HCS.out x h
          · have h5 : wr.heap.size ≤ x := n9h.out x h
            have := hnx.size
            omega
          · omega)
        have HL6 := Lib.hid L6
        clear K6 C6 L6 hsep hz10
        go_roundw
        case rel => exact ⟨m + 1, cs2, ts ++ [⟨q, qs, s.d⟩], by omega, by go_num, HL6.out, Lib.hid (hts2.out _ rfl), hB6.out, hC6.out⟩
        case measure => first | (simp [intOf]; done) | (simp [intOf]; omega)
    · have hm2 : m = ss.length := by omega
      subst hm2
      rw [List.take_length] at hts
      go_wp2_with fail
      exact hR.out _ _ _ _ hL hts.out hnx hcs
theorem copy6_use {R : Ending → World → Prop} {w : World} {g : Nat} {bs : List Nat} {room : Int} {D : List Sd} (h : LogD w g bs room D) (hl : D.length ≤ 900)
    (k : ∀ q cs w', LogD w' q cs room D → Below w.heap.size w w' → (∀ x ∈ cs, w.heap.size ≤ x) → R (.returned (.pointer (some ⟨q, 0, none⟩))) w') : Calls Try.prog 30 #[.pointer (some ⟨g, 0, none⟩)] w R := by
  obtain ⟨h0, ss, h1, rfl⟩ := h
  have hne : ss ≠ [] := fun e => h0.2.2.1 (by rw [e]; rfl)
  refine (copy6 g bs room ss w h1 hne (by rw [List.length_map] at hl; omega) fun s hs => by have := (h0.mem (List.mem_map_of_mem (f := Sg.d) hs)).2.2.2.1; omega).mono fun x w' ⟨q, cs, ts, he, h2, h3, h4, h5⟩ => ?_
  subst he
  exact k q cs w' ⟨h0, ts, h2, h3⟩ h4 h5
end Go.Proofs.Ytkfglnhapcceaaa

set_option linter.unusedVariables false
set_option linter.unusedSimpArgs false
namespace Go.Proofs.Ytkfglnhapcceaaa
open Go.RowKit

/-- Has a record behind an offset this key? -/
def rlater (all : List Fnd) (o : Int) (k : List UInt8) : Bool := all.any fun g => decide (o < g.off) && g.r.hk && decide (g.r.key = k)
def rkeep (all : List Fnd) (f : Fnd) : Bool := !f.r.hk || !rlater all f.off f.r.key
def rcut (all : List Fnd) (s : Sd) : Sd := ⟨s.base, s.next, s.l.filter (rkeep all)⟩
/-- All segments but the last one cut. -/
def rc (all : List Fnd) : List Sd → List Sd
  | [] => []
  | s :: D => (if D.isEmpty then s else rcut all s) :: rc all D
theorem rc_len (all : List Fnd) : ∀ D, (rc all D).length = D.length
  | [] => rfl
  | s :: D => by simp [rc, rc_len all D]
/-- The front of what a compaction leaves. -/
def kfp (o : Int) : List Fnd → List Fnd → List Fnd
  | [], _ => []
  | f :: l, M => if (!again f (l ++ M) || decide (o ≤ f.off)) = true then f :: kfp o l M else kfp o l M
theorem kf_app (o : Int) (M : List Fnd) : ∀ l, kf o (l ++ M) = kfp o l M ++ kf o M
  | [] => rfl
  | f :: l => by
    rw [List.cons_append, kf, kfp]
    split
    · rw [kf_app o M l, List.cons_append]
    · exact kf_app o M l
theorem again_later {P L : List Fnd} {f : Fnd} (h : Rise (P ++ f :: L)) : again f L = (f.r.hk && rlater (P ++ f :: L) f.off f.r.key) := by
  obtain ⟨h1, h2, h3⟩ := List.pairwise_append.1 h
  have h4 := (List.pairwise_cons.1 h2).1
  unfold again rlater
  rw [Bool.eq_iff_iff]
  simp only [List.any_eq_true, Bool.and_eq_true, decide_eq_true_eq, List.mem_append, List.mem_cons]
  constructor
  · rintro ⟨g, hg, ⟨a, b⟩, c⟩
    exact ⟨a, g, .inr (.inr hg), ⟨h4 g hg, b⟩, c.symm⟩
  · rintro ⟨a, g, hg, ⟨b, c⟩, d⟩
    rcases hg with hg | rfl | hg
    · have := h3 g hg f (by simp); omega
    · omega
    · exact ⟨g, hg, ⟨a, c⟩, d.symm⟩
theorem kfp_filter (o : Int) (all M : List Fnd) (h : Rise all) : ∀ (l P : List Fnd), all = P ++ (l ++ M) → kfp o l M = l.filter (fun f => rkeep all f || decide (o ≤ f.off))
  | [], _, _ => rfl
  | f :: l, P, e => by
    have ih := kfp_filter o all M h l (P ++ [f]) (by rw [e]; simp)
    have e2 : all = P ++ f :: (l ++ M) := by rw [e]; simp
    have ha : again f (l ++ M) = (f.r.hk && rlater all f.off f.r.key) := by rw [e2] at h ⊢; exact again_later h
    have hb : (!again f (l ++ M)) = rkeep all f := by rw [ha]; unfold rkeep; rw [Bool.not_and]
    rw [kfp, hb, ih, List.filter_cons]
theorem open_dec {room : Int} {D : List Sd} (hg : Good room D) {j : Nat} (h : j + 1 ≤ D.length) : ∀ f ∈ (D[D.length - (j + 1)]'(by omega)).l, (cdone D (D.length - j)).1.isEmpty = decide (dopen D ≤ f.off) := fun f hf => by
  have hlt : D.length - (j + 1) < D.length := by omega
  have hlen := cdone_len D j (by omega)
  have hs := hg.mem (List.getElem_mem hlt)
  have hf2 := hs.2.2.2.2.2 f hf
  by_cases hj : j = 0
  · subst hj
    have e1 : (cdone D (D.length - 0)).1 = [] := List.eq_nil_of_length_eq_zero hlen
    have e2 : dopen D = (D[D.length - (0 + 1)]'(by omega)).base := by
      unfold dopen
      rw [List.getLast?_eq_getElem?, List.getElem?_eq_getElem (by omega)]
      rfl
    rw [e1, e2, List.isEmpty_nil]
    symm
    rw [decide_eq_true_eq]
    exact hf2.1
  · have e1 : (cdone D (D.length - j)).1.isEmpty = false := by
      cases hc : (cdone D (D.length - j)).1 with
      | nil => rw [hc] at hlen; simp at hlen; omega
      | cons _ _ => rfl
    rw [e1]
    symm
    rw [decide_eq_false_iff_not]
    have e2 : dopen D = (D[D.length - 1]'(by omega)).base := by
      unfold dopen
      rw [List.getLast?_eq_getElem?, List.getElem?_eq_getElem (by omega)]
      rfl
    have key : ∀ b, ∀ a, (ha : a < b) → ∀ hb : b < D.length, (D[a]'(by omega)).next ≤ D[b].base := by
      intro b
      induction b with
      | zero => intro a ha; omega
      | succ b ih =>
        intro a ha hb
        have h5 := hg.next hb
        by_cases e3 : a = b
        · subst e3; omega
        · have h6 := ih a (by omega) (by omega)
          have h7 := (hg.mem (List.getElem_mem (show b < D.length by omega))).2.1
          omega
    have h8 := key (D.length - 1) (D.length - (j + 1)) (by omega) (by omega)
    rw [e2]
    omega
theorem cdone_rc {room : Int} {D : List Sd} (hg : Good room D) : ∀ j, j ≤ D.length → (cdone D (D.length - j)).1 = rc (dall D) (D.drop (D.length - j))
  | 0, _ => by rw [Nat.sub_zero, cdone_end, List.drop_length]; rfl
  | j + 1, h => by
    have ih := cdone_rc hg j (by omega)
    obtain ⟨_, h2, _⟩ := cdone_kf hg j (by omega)
    have e : D.length - (j + 1) + 1 = D.length - j := by omega
    have hlt : D.length - (j + 1) < D.length := by omega
    have hlen := cdone_len D j (by omega)
    have hopn := open_dec hg h
    have hs := hg.mem (List.getElem_mem hlt)
    have hk := keeps_kf (cdone D (D.length - j)).1.isEmpty (dopen D) (cdone D (D.length - j)).2.1 (dall (D.drop (D.length - j))) h2 _ hs.2.2.2.2.1 hopn
    rw [kf_app] at hk
    have hk2 := List.append_cancel_right hk
    have hall : dall D = dall (D.take (D.length - (j + 1))) ++ (D[D.length - (j + 1)].l ++ dall (D.drop (D.length - j))) := by
      conv => lhs; rw [← List.take_append_drop (D.length - (j + 1)) D, List.drop_eq_getElem_cons hlt, e]
      simp [dall]
    rw [kfp_filter (dopen D) (dall D) _ (dall_rise hg).1 _ _ hall] at hk2
    rw [cdone_step D hlt, e, List.drop_eq_getElem_cons hlt, e, rc, ← ih]
    show (⟨_, _, keeps (c0 _ _ _).1 _⟩ : Sd) :: _ = _
    rw [hk2]
    congr 1
    have hde : (D.drop (D.length - j)).isEmpty = (cdone D (D.length - j)).1.isEmpty := by
      rw [ih]
      cases D.drop (D.length - j) <;> rfl
    rw [hde]
    by_cases hb : (cdone D (D.length - j)).1.isEmpty = true
    · rw [if_pos hb]
      have : ∀ f ∈ D[D.length - (j + 1)].l, (rkeep (dall D) f || decide (dopen D ≤ f.off)) = true := fun f hf => by rw [← hopn f hf, hb]; simp
      rw [List.filter_eq_self.2 this]
    · rw [if_neg hb]
      unfold rcut
      congr 1
      apply List.filter_congr
      intro f hf
      rw [← hopn f hf]
      simp [hb]
theorem rc_dcmp {room : Int} {D : List Sd} (hg : Good room D) : rc (dall D) D = dcmp D := by
  have := cdone_rc hg D.length (Nat.le_refl _)
  rw [Nat.sub_self, List.drop_zero] at this
  exact this.symm
end Go.Proofs.Ytkfglnhapcceaaa

set_option linter.unusedVariables false
set_option linter.unusedSimpArgs false
namespace Go.Proofs.Ytkfglnhapcceaaa
open Go.RowKit
attribute [local go_sem] ByteArray.extract_mk ByteArray.mk_append_mk

theorem rlater_snoc (l : List Fnd) (f : Fnd) (o : Int) (k : List UInt8) : rlater (l ++ [f]) o k = (rlater l o k || (decide (o < f.off) && f.r.hk && decide (f.r.key = k))) := by
  unfold rlater
  rw [List.any_append]
  simp
set_option maxHeartbeats 4000000 in
theorem later6 (v : Value) (l : List Fnd) (o : Int) (k : List UInt8) (w : World) (hv : FndsIn w v l) (hl : l.length ≤ 1000000) :
    Ret Try.prog 54 #[v, .int .i64 o, .string (S k)] w (.bool (rlater l o k)) := by
  refine Ret.intro fun R hR => ?_
  obtain ⟨a, cap, rfl⟩ := hv.form
  have HV := Lib.hid hv
  clear hv
  go_enter Try.func54, Try.ntmps54
  go_wp2_with fail
  go_loop [7] (fun (v7 : Value) => ∃ i : Nat, i ≤ l.length ∧ v7 = .int .i64 (i : Int) ∧ Hid (rlater (l.take i) o k = false)) (fun (v7 : Value) => (l.length - intOf v7).toNat)
  case atStart => exact ⟨0, by omega, rfl, Lib.hid (by simp [rlater])⟩
  case round =>
    obtain ⟨i, hi, rfl, hno⟩ := hrel
    by_cases hil : i < l.length
    · rcases HV.out with ⟨h, _⟩ | ⟨b, off, cap', hsl, hcap, hne, hlt, hc⟩
      · rw [h] at hil; simp at hil
      simp only [Value.slice.injEq, true_and] at hsl
      obtain ⟨rfl, rfl⟩ := hsl
      obtain ⟨x0, x1, x2, x3, x4⟩ := hc i hil
      have hts : Hid (rlater (l.take (i + 1)) o k = (decide (o < l[i].off) && l[i].r.hk && decide (l[i].r.key = k))) := Lib.hid (by rw [List.take_succ_eq_append_getElem hil, rlater_snoc, hno.out, Bool.false_or])
      have hyes : Hid ((decide (o < l[i].off) && l[i].r.hk && decide (l[i].r.key = k)) = true → rlater l o k = true) := Lib.hid (fun h => by
        unfold rlater
        rw [List.any_eq_true]
        exact ⟨_, List.getElem_mem hil, h⟩)
      have i1 : (0 : Int) ≤ (i : Int) := by omega
      have i2 : (i : Int) < (l.length : Int) := by omega
      clear hc hne
      generalize l[i] = f at *
      by_cases h1 : o < f.off
      · by_cases h2 : f.r.hk = true
        · by_cases h3 : f.r.key = k
          · have hy : Hid (rlater l o k = true) := Lib.hid (hyes.out (by simp [h1, h2, h3]))
            have h3b : (f.r.key == k) = true := by simp [h3]
            clear hyes hts h3
            go_wp2_with fail
            exact fin hR (by rw [hy.out])
          · have h3b : (f.r.key == k) = false := by simp [h3]
            have hts2 : Hid (rlater (l.take (i + 1)) o k = false) := Lib.hid (by rw [hts.out]; simp [h3])
            clear hyes hts h3
            go_wp2_with fail
            go_round
            case rel => exact ⟨i + 1, by omega, by go_num, hts2⟩
            case measure => first | (simp [intOf]; done) | (simp [intOf]; omega)
        · have h2b : f.r.hk = false := by simpa using h2
          have hts2 : Hid (rlater (l.take (i + 1)) o k = false) := Lib.hid (by rw [hts.out]; simp [h2b])
          clear hyes hts h2
          go_wp2_with fail
          go_round
          case rel => exact ⟨i + 1, by omega, by go_num, hts2⟩
          case measure => first | (simp [intOf]; done) | (simp [intOf]; omega)
      · have hts2 : Hid (rlater (l.take (i + 1)) o k = false) := Lib.hid (by rw [hts.out]; simp [h1])
        have h1F : (o < f.off) = False := eq_false h1
        clear hyes hts
        go_wp2_with fail
        go_round
        case rel => exact ⟨i + 1, by omega, by go_num, hts2⟩
        case measure => first | (simp [intOf]; done) | (simp [intOf]; omega)
    · obtain rfl : i = l.length := by omega
      have hno2 : Hid (rlater l o k = false) := Lib.hid (by have := hno.out; rwa [List.take_length] at this)
      go_wp2_with fail
      exact fin hR (by rw [hno2.out])

theorem set1 (X Y : List Value) (a b c c' : Value) {n : Nat} (hn : X.length = n) : (X ++ ([a, b, c] ++ Y)).set (n + 2) c' = X ++ ([a, b, c'] ++ Y) := by
  subst hn
  simp [List.set_append_right]
theorem sdsCells_app {A B : List Sd} {la lb : List Value} (h : la.length = A.length) : sdsCells (A ++ B) (la ++ lb) = sdsCells A la ++ sdsCells B lb := by
  unfold sdsCells
  rw [List.zip_append h.symm, List.flatMap_append]
/-- A segment's records set anew. -/
theorem RLogAt.put {w : World} {k g N cap : Nat} {room : Int} {A B : List Sd} {t : Sd} {l : List Fnd} {lv : Value} {lvs : List Value} (hb : Blk w k #[.int .i64 room, .slice (some ⟨g, 0, none⟩) N cap] 75) (hN : (A ++ t :: B).length = N)
    (ho : SegsOwn w 0 (.slice (some ⟨g, 0, none⟩) N cap) (A ++ t :: B) lvs) (ov : w.ownsRow 0 31 5 lv l.length (l.flatMap Fnd.cells)) :
    ∃ cs, RLogAt (w.setCell ⟨g, A.length * 3 + 2, none⟩ lv) k cs room (A ++ ⟨t.base, t.next, l⟩ :: B) ∧
      Kept [g] w (w.setCell ⟨g, A.length * 3 + 2, none⟩ lv) ∧ ∀ x ∈ cs, x ∈ k :: g :: vBs lvs ∨ x ∈ lv.ownBlock.toList := by
  subst hN
  obtain ⟨o1, o2, o3⟩ := ho
  obtain ⟨la, lt, lb, rfl, hla⟩ : ∃ la lt lb, lvs = la ++ lt :: lb ∧ la.length = A.length := by
    refine ⟨lvs.take A.length, lvs[A.length]'(by rw [o2]; simp), lvs.drop (A.length + 1), ?_, by rw [List.length_take, o2]; simp⟩
    rw [← List.drop_eq_getElem_cons, List.take_append_drop]
  have hlb : lb.length = B.length := by simp at o2; omega
  have hX := sdsCells_len hla
  obtain ⟨s3, k3⟩ := o1.stored (A.length * 3 + 2) lv
  rw [sdsCells_app hla, show sdsCells (t :: B) (lt :: lb) = [.int .i64 t.base, .int .i64 t.next, lt] ++ sdsCells B lb from by simp [sdsCells, sdCells], set1 _ _ _ _ _ _ hX] at s3
  have K : Kept [g] w (w.setCell ⟨g, A.length * 3 + 2, none⟩ lv) := Kept.ofGrown k3
  generalize w.setCell ⟨g, A.length * 3 + 2, none⟩ lv = W at *
  have hkg : k ≠ g := fun e => own_ne o1 hb (by decide) (by rw [e]; rfl)
  have hbW := hb.keptBy K (by simpa using hkg)
  have far : ∀ (l : List Fnd) (v : Value), w.ownsRow 0 31 5 v l.length (l.flatMap Fnd.cells) → W.ownsRow 0 31 5 v l.length (l.flatMap Fnd.cells) := fun l v h => own_keptBy h K (fun x hx hm => by
    simp only [List.mem_cons, List.not_mem_nil, or_false] at hm
    subst hm
    exact (own_apart o1 h (by decide)).elim (fun e => by simp [Value.ownBlock] at e) (fun e => e (by rw [hx]; rfl)))
  have hn : (A ++ ⟨t.base, t.next, l⟩ :: B).length = (A ++ t :: B).length := by simp
  refine ⟨k :: g :: vBs (la ++ lv :: lb), ⟨_, la ++ lv :: lb, hbW, ⟨by rw [hn, sdsCells_app hla]; simpa [sdsCells, sdCells] using s3, by simp [hla, hlb], fun i h h' => ?_⟩, by simp [Value.ownBlock]⟩, K, fun x hx => ?_⟩
  · rcases Nat.lt_trichotomy i A.length with e | e | e
    · have a1 := o3 i (by simp; omega) (by simp; omega)
      rw [List.getElem_append_left e, List.getElem_append_left (by omega)] at a1 ⊢
      exact far _ _ a1
    · subst e
      have e3 : (A ++ (⟨t.base, t.next, l⟩ : Sd) :: B)[A.length] = ⟨t.base, t.next, l⟩ := by simp
      have e4 : (la ++ lv :: lb)[A.length]'h' = lv := by rw [List.getElem_append_right (by omega)]; simp [hla]
      rw [e3, e4]
      exact far _ _ ov
    · have hi : i < (A ++ t :: B).length := by rw [← hn]; exact h
      have a1 := o3 i hi (by rw [o2]; exact hi)
      obtain ⟨j, hj⟩ : ∃ j, i - A.length = j + 1 := ⟨i - A.length - 1, by omega⟩
      have e1 : (A ++ (⟨t.base, t.next, l⟩ : Sd) :: B)[i] = (A ++ t :: B)[i] := by
        rw [List.getElem_append_right (by omega), List.getElem_append_right (by omega)]
        simp only [hj, List.getElem_cons_succ]
      have e2 : (la ++ lv :: lb)[i]'h' = (la ++ lt :: lb)[i]'(by rw [o2]; exact hi) := by
        rw [List.getElem_append_right (by omega), List.getElem_append_right (by omega)]
        simp only [show i - la.length = j + 1 by omega, List.getElem_cons_succ]
      rw [e1, e2]
      exact far _ _ a1
  · simp only [vBs, List.flatMap_append, List.flatMap_cons, List.mem_cons, List.mem_append] at hx ⊢
    rcases hx with h | h | h | h | h
    · exact .inl (.inl h)
    · exact .inl (.inr (.inl h))
    · exact .inl (.inr (.inr (.inl h)))
    · exact .inr h
    · exact .inl (.inr (.inr (.inr (.inr h))))
end Go.Proofs.Ytkfglnhapcceaaa

set_option linter.unusedVariables false
set_option linter.unusedSimpArgs false
namespace Go.Proofs.Ytkfglnhapcceaaa
open Go.RowKit
attribute [local go_sem] ByteArray.extract_mk ByteArray.mk_append_mk

theorem dall_app (E F : List Sd) : dall (E ++ F) = dall E ++ dall F := by unfold dall; exact List.flatMap_append
theorem dall_one (s : Sd) : dall [s] = s.l := by simp [dall]
theorem rc_at (all : List Fnd) : ∀ {D : List Sd}, D ≠ [] → rc all D = (D.take (D.length - 1)).map (rcut all) ++ D.drop (D.length - 1)
  | [], h => absurd rfl h
  | [s], _ => by simp [rc]
  | s :: t :: D, _ => by
    have ih := rc_at all (D := t :: D) (by simp)
    rw [rc, ih]
    simp
set_option maxHeartbeats 8000000 in
set_option maxRecDepth 100000 in
theorem rcompact6 (k : Nat) (bs : List Nat) (room : Int) (D : List Sd) (w : World) (h : RLogAt w k bs room D) (hG : Good room D) (hl : D.length ≤ 900) :
    RLCall 29 #[.pointer (some ⟨k, 0, none⟩)] w k bs (.int .i64 (ncmp D)) room (dcmp D) := by
  refine RLCall.intro fun R hR => ?_
  obtain ⟨j0, hj, hy0, hy1, hy2⟩ := info_parts fndInfo
  have hne := hG.2.2.1
  have hll : ∀ s ∈ D, s.l.length ≤ 64 := fun s hs => (hG.mem hs).2.2.2.1
  have cA := Lib.hid (rall6 k bs room D w h hne (by omega) hll)
  have hda : (dall D).length ≤ 64000 := by
    have : ∀ E : List Sd, (∀ s ∈ E, s.l.length ≤ 64) → (dall E).length ≤ 64 * E.length := by
      intro E
      induction E with
      | nil => intro _; simp [dall]
      | cons s E ih =>
        intro h
        have h1 := h s (by simp)
        have h2 := ih (fun t ht => h t (by simp [ht]))
        rw [dall_cons, List.length_append, List.length_cons]
        omega
    have := this D hll
    omega
  have HLT := Lib.hid h.lt
  have HM := Lib.hid h.mem
  have H := Lib.hid h
  have HEND : Hid ((D.take (D.length - 1)).map (rcut (dall D)) ++ D.drop (D.length - 1) = dcmp D) := Lib.hid ((rc_at _ hne).symm.trans (rc_dcmp hG))
  have HN := Lib.hid (ncmp_len hG)
  have HLL := Lib.hid hll
  have hDpos : 0 < D.length := List.length_pos_iff.2 hne
  have HDA : Hid (∀ i, (h : i < D.length) → (dall (D.take (i + 1))).length = (dall (D.take i)).length + D[i].l.length ∧ (dall ((D.take (i + 1)).map (rcut (dall D)))).length = (dall ((D.take i).map (rcut (dall D)))).length + (D[i].l.filter (rkeep (dall D))).length ∧ (D.take (i + 1)).map (rcut (dall D)) = (D.take i).map (rcut (dall D)) ++ [rcut (dall D) D[i]]) := Lib.hid (fun i h => by
    rw [List.take_succ_eq_append_getElem h, List.map_append]
    refine ⟨by rw [dall_app, List.length_append, dall_one], ?_, by simp⟩
    rw [dall_app, List.length_append, List.map_cons, List.map_nil, dall_one]
    rfl)
  have HDE : Hid (((dall D).length : Int) - (dall (dcmp D)).length = ((dall (D.take (D.length - 1))).length : Int) - (dall ((D.take (D.length - 1)).map (rcut (dall D)))).length) := Lib.hid (by
    rw [← HEND.out]
    have e1 : (dall D).length = (dall (D.take (D.length - 1))).length + (dall (D.drop (D.length - 1))).length := by
      conv => lhs; rw [← List.take_append_drop (D.length - 1) D]
      rw [dall_app, List.length_append]
    have e2 : ∀ X Y : List Sd, (dall (X ++ Y)).length = (dall X).length + (dall Y).length := fun X Y => by rw [dall_app, List.length_append]
    rw [e2, e1]
    omega)
  obtain ⟨all, hall⟩ : ∃ all, dall D = all := ⟨_, rfl⟩
  rw [hall] at cA HEND HDA HN hda HDE
  clear h hll hne hG hall
  go_enter Try.func29, Try.ntmps29
  go_wp2_with fail
  refine cA.out.use ?_
  intro va w1 oa b1
  have HA := Lib.hid (fnds_own oa)
  have AW : Hid (Away bs va) := Lib.hid (fun b hb hm => by have a1 := (oa.lt b hb).1; have a2 := HLT.out b hm; omega)
  have B1 := Lib.hid b1
  have L1 := Lib.hid (H.out.below b1)
  obtain ⟨aa, ac, rfl⟩ := own_form oa
  clear oa b1 cA
  go_wp2_with fail
  go_loopw [4, 5, 6, 7, 8] (fun (v4 v5 v6 v7 v8 : Value) (W : World) => ∃ (i : Nat) (cs : List Nat) (ni : Int), i + 1 ≤ D.length ∧ v5 = .int .i64 (i : Int) ∧ v4 = .int .i64 ni ∧ Hid (ni = ((dall (D.take i)).length : Int) - (dall ((D.take i).map (rcut all))).length) ∧ (0 ≤ ni ∧ ni ≤ 64 * (i : Int)) ∧ RLogAt W k cs room ((D.take i).map (rcut all) ++ D.drop i) ∧ Kept bs w1 W ∧ ∀ x ∈ cs, x ∈ bs ∨ w1.heap.size ≤ x) (fun (v4 v5 v6 v7 v8 : Value) (W : World) => (D.length - intOf v5).toNat)
  case atStart => exact ⟨0, bs, 0, by omega, rfl, rfl, Lib.hid (by simp [dall]), by simp, by simpa using L1.out, Kept.refl _ _, fun x hx => .inl hx⟩
  case round =>
    obtain ⟨i, cs, ni, hi, rfl, rfl, hni, hnb, hL, hK, hcs⟩ := hrel
    have hil : i < D.length := by omega
    have hNl : ((D.take i).map (rcut all) ++ D.drop i).length = D.length := by rw [List.length_append, List.length_map, List.length_take, List.length_drop]; omega
    have hAl : ((D.take i).map (rcut all)).length = i := by rw [List.length_map, List.length_take]; omega
    have HL0 := Lib.hid hL
    obtain ⟨sv, lvs, g1, g2, hbs⟩ := hL
    rcases own_cases g2.1 with ⟨_, h00⟩ | ⟨gb, gc, rfl, _, hglt, _⟩
    · rw [hNl] at h00; omega
    rw [hNl] at g1
    have g2' := g2
    rw [hNl] at g2'
    obtain ⟨kk, u0, u1⟩ := g1.c2
    have e1 : IntKind.i64.wrap ((i : Int) + 1) = (i : Int) + 1 := by rw [IntKind.wrap_i64]; omega
    have HCS := Lib.hid hcs
    have HK := Lib.hid hK
    have HNI := Lib.hid hni.out
    have HBS := Lib.hid hbs
    have G1 := Lib.hid g1
    have HAL := Lib.hid hAl
    by_cases hgo : i + 1 < D.length
    · have tgo : ((i : Int) + 1 < (D.length : Int)) = True := eq_true (by omega)
      have hlv : i < lvs.length := by rw [g2.2.1, hNl]; exact hil
      have hgi : ((D.take i).map (rcut all) ++ D.drop i)[i]'(by rw [hNl]; exact hil) = D[i] := by
        rw [List.getElem_append_right (by omega)]
        simp only [hAl, Nat.sub_self]
        rw [List.getElem_drop]; rfl
      have c2 : wr.cell? ⟨gb, i * 3 + 2, none⟩ = some lvs[i] := by
        have a1 := g2.1
        rw [hNl] at a1
        rw [a1.cellAt (i * 3 + 2) (by omega), sdsCells_get i 2 (by rw [hNl]; exact hil) hlv (by omega), hgi]
        rfl
      have own6 := g2.2.2 i (by rw [hNl]; exact hil) hlv
      rw [hgi] at own6
      have C6 := Lib.hid (fnds_own own6)
      obtain ⟨la, lc, hlk⟩ := own_form own6
      rw [hlk] at c2 C6
      have hsl := HLL.out _ (List.getElem_mem hil)
      have HD := Lib.hid (HDA.out i hil)
      have hdr : D.drop i = D[i] :: D.drop (i + 1) := List.drop_eq_getElem_cons hil
      have G2 : Hid (SegsOwn wr 0 (.slice (some ⟨gb, 0, none⟩) D.length gc) ((D.take i).map (rcut all) ++ D[i] :: D.drop (i + 1)) lvs) := Lib.hid (by rw [← hdr, ← hNl]; exact g2)
      have HNL2 : Hid (((D.take i).map (rcut all) ++ D[i] :: D.drop (i + 1)).length = D.length) := Lib.hid (by rw [← hdr]; exact hNl)
      have fz : ∀ j, wr.frozen? ⟨gb, j, none⟩ = false := fun j => g2.1.frozenAt j
      have hszr := hK.size
      have HAr := Lib.hid (HA.out.kept hK AW.out)
      have i1 : (0 : Int) ≤ (i : Int) := by omega
      have i2 : (i : Int) < (D.length : Int) := by omega
      obtain ⟨M, hM⟩ : ∃ M, (dall ((D.take i).map (rcut all))).length = M := ⟨_, rfl⟩
      have FZ := Lib.hid fz
      clear g1 g2 g2' hNl hAl hgi own6 hlk hdr hK hcs hni hbs hM fz HL0
      generalize D[i] = s at *
      have o0 : (wr.alloc (.cells #[] 31)).ownsRow wr.heap.size 31 5 (.slice (some ⟨wr.heap.size, 0, none⟩) 0 0) 0 [] := World.ownsRow_made wr #[] 0 (Nat.le_refl _) (by omega) rfl
      obtain ⟨Wx, rfl⟩ : ∃ Wx, Wx = wr := ⟨_, rfl⟩
      go_wp2_with fail
      go_loopw [6, 7, 8] (fun (v6 v7 v8 : Value) (W : World) => ∃ m : Nat, m ≤ s.l.length ∧ v7 = .int .i64 (m : Int) ∧ W.ownsRow Wx.heap.size 31 5 v6 ((s.l.take m).filter (rkeep all)).length (((s.l.take m).filter (rkeep all)).flatMap Fnd.cells) ∧ Below Wx.heap.size Wx W) (fun (v6 v7 v8 : Value) (W : World) => (s.l.length - intOf v7).toNat)
      case atStart => exact ⟨0, by omega, rfl, by simpa using o0, below_all (Below.refl _ _)⟩
      case round =>
        obtain ⟨m, hm, rfl, hown, hbx⟩ := hrel
        clear o0
        have y1 := (hbx.cell (p := ⟨k, 1, none⟩) kk).trans u1
        have y2 := (hbx.cell (p := ⟨gb, i * 3 + 2, none⟩) hglt).trans c2
        have hfl : ((s.l.take m).filter (rkeep all)).length ≤ 64 := by have := List.length_filter_le (rkeep all) (s.l.take m); rw [List.length_take] at this; omega
        by_cases hms : m < s.l.length
        · rcases C6.out.below hbx with ⟨h, _⟩ | ⟨fb, fo, fcap, hfs, _, _, hflt, hfc⟩
          · rw [h] at hms; simp at hms
          simp only [Value.slice.injEq, true_and] at hfs
          obtain ⟨rfl, rfl⟩ := hfs
          obtain ⟨f0, f1, f2, f3, f4⟩ := hfc m hms
          have hfts : Hid ((s.l.take (m + 1)).filter (rkeep all) = (s.l.take m).filter (rkeep all) ++ (if rkeep all s.l[m] = true then [s.l[m]] else [])) := Lib.hid (by
            rw [List.take_succ_eq_append_getElem hms, List.filter_append]
            simp [List.filter_cons])
          have q1 : (0 : Int) ≤ (m : Int) := by omega
          have q2 : (m : Int) < (s.l.length : Int) := by omega
          clear hfc
          generalize s.l[m] = f at *
          generalize (s.l.take m).filter (rkeep all) = fs at *
          obtain ⟨ofs, hk, key, tb, vl⟩ := f
          cases hk
          case false =>
            have hb2 := below_all (o := .cells #[.int .i64 ofs, .bool false, .string (S key), .bool tb, .string (S vl)] 31) hbx
            have HB2 := Lib.hid hb2
            have cL := Lib.hid (later6 _ all ofs key (wr.alloc (.cells #[.int .i64 ofs, .bool false, .string (S key), .bool tb, .string (S vl)] 31)) (HAr.out.below hb2) (by omega))
            have o3 := World.ownsRow.alloc (World.ownsRow.alloc hown (.cells #[.int .i64 ofs, .bool false, .string (S key), .bool tb, .string (S vl)] 31)) (.cells #[.int .i64 ofs, .bool false, .string (S key), .bool tb, .string (S vl)] 31)
            have N3 := Lib.hid (news_fnd (W := wr.alloc (.cells #[.int .i64 ofs, .bool false, .string (S key), .bool tb, .string (S vl)] 31)) (⟨ofs, ⟨false, key, tb, vl⟩⟩ : Fnd) (s := wr.heap.size + 1) (by simp))
            have HO := Lib.hid hown
            have hsz := hbx.size
            obtain ⟨fa, fc, rfl⟩ := own_form hown
            clear hown hb2 hbx
            have hfts2 : Hid ((s.l.take (m + 1)).filter (rkeep all) = fs ++ [(⟨ofs, ⟨false, key, tb, vl⟩⟩ : Fnd)]) := Lib.hid (by rw [hfts.out, if_pos (by simp [rkeep])])
            clear hfts cL
            go_wp2_with (at_builtin; refine wpList_append_own _ rfl _ _ 24 rfl Wx.heap.size 31 j0 _ 5 56 Try.underlying24 hj hy0 hy1 hy2 rfl (by decide) _ _ _ rfl o3 ⟨wr.heap.size + 1, 0, none⟩ 1 1 (⟨ofs, ⟨false, key, tb, vl⟩⟩ : Fnd).cells rfl rfl N3.out (by simp [Value.oneCell', Fnd.cells, Rec.cells]) (by unfold maxLen; omega) (by omega) (by simp; omega) ?_; intro v9 w9 o9 g9 z9)
            have N9 := Lib.hid (Kept.below (below_all (o := .cells #[.int .i64 ofs, .bool false, .string (S key), .bool tb, .string (S vl)] 31) HB2.out) (Kept.ofGrown g9) (fun x hx => by simp only [Option.mem_toList] at hx; exact (HO.out.lt x hx).1) (by simp; omega))
            have O9 := Lib.hid o9
            clear o9 g9 z9 o3
            go_wp2_with fail
            go_roundw
            case rel => exact ⟨m + 1, by omega, by go_num, by rw [hfts2.out, List.flatMap_append, List.length_append]; simpa using O9.out, N9.out⟩
            case measure => first | (simp [intOf]; done) | (simp [intOf]; omega)
          case true =>
            have hb2 := below_all (o := .cells #[.int .i64 ofs, .bool true, .string (S key), .bool tb, .string (S vl)] 31) hbx
            have HB2 := Lib.hid hb2
            have cL := Lib.hid (later6 _ all ofs key (wr.alloc (.cells #[.int .i64 ofs, .bool true, .string (S key), .bool tb, .string (S vl)] 31)) (HAr.out.below hb2) (by omega))
            have o3 := World.ownsRow.alloc (World.ownsRow.alloc hown (.cells #[.int .i64 ofs, .bool true, .string (S key), .bool tb, .string (S vl)] 31)) (.cells #[.int .i64 ofs, .bool true, .string (S key), .bool tb, .string (S vl)] 31)
            have N3 := Lib.hid (news_fnd (W := wr.alloc (.cells #[.int .i64 ofs, .bool true, .string (S key), .bool tb, .string (S vl)] 31)) (⟨ofs, ⟨true, key, tb, vl⟩⟩ : Fnd) (s := wr.heap.size + 1) (by simp))
            have HO := Lib.hid hown
            have hsz := hbx.size
            obtain ⟨fa, fc, rfl⟩ := own_form hown
            clear hown hb2 hbx
            by_cases hla : rlater all ofs key = true
            · have hfts2 : Hid ((s.l.take (m + 1)).filter (rkeep all) = fs ++ []) := Lib.hid (by rw [hfts.out, if_neg (by simp [rkeep, hla])])
              rw [hla] at cL
              clear hfts hla o3 N3
              go_wp2_with fail
              refine (show Ret _ _ _ _ _ from cL.out).use ?_
              go_wp2_with fail
              go_roundw
              case rel => exact ⟨m + 1, by omega, by go_num, by rw [hfts2.out, List.append_nil]; exact HO.out.alloc _, HB2.out⟩
              case measure => first | (simp [intOf]; done) | (simp [intOf]; omega)
            · have hla2 : rlater all ofs key = false := by simpa using hla
              have hfts2 : Hid ((s.l.take (m + 1)).filter (rkeep all) = fs ++ [(⟨ofs, ⟨true, key, tb, vl⟩⟩ : Fnd)]) := Lib.hid (by rw [hfts.out, if_pos (by simp [rkeep, hla2])])
              rw [hla2] at cL
              clear hfts hla hla2
              go_wp2_with fail
              refine (show Ret _ _ _ _ _ from cL.out).use ?_
              go_wp2_with (at_builtin; refine wpList_append_own _ rfl _ _ 24 rfl Wx.heap.size 31 j0 _ 5 56 Try.underlying24 hj hy0 hy1 hy2 rfl (by decide) _ _ _ rfl o3 ⟨wr.heap.size + 1, 0, none⟩ 1 1 (⟨ofs, ⟨true, key, tb, vl⟩⟩ : Fnd).cells rfl rfl N3.out (by simp [Value.oneCell', Fnd.cells, Rec.cells]) (by unfold maxLen; omega) (by omega) (by simp; omega) ?_; intro v9 w9 o9 g9 z9)
              have N9 := Lib.hid (Kept.below (below_all (o := .cells #[.int .i64 ofs, .bool true, .string (S key), .bool tb, .string (S vl)] 31) HB2.out) (Kept.ofGrown g9) (fun x hx => by simp only [Option.mem_toList] at hx; exact (HO.out.lt x hx).1) (by simp; omega))
              have O9 := Lib.hid o9
              clear o9 g9 z9 o3
              go_wp2_with fail
              go_roundw
              case rel => exact ⟨m + 1, by omega, by go_num, by rw [hfts2.out, List.flatMap_append, List.length_append]; simpa using O9.out, N9.out⟩
              case measure => first | (simp [intOf]; done) | (simp [intOf]; omega)
        · obtain rfl : m = s.l.length := by omega
          rw [List.take_length] at hown hfl
          obtain ⟨K, hK⟩ : ∃ K, (s.l.filter (rkeep all)).length = K := ⟨_, rfl⟩
          have hKl : K ≤ s.l.length := by rw [← hK]; exact List.length_filter_le _ _
          have ho2 := own_base hown (Nat.zero_le _)
          have HO := Lib.hid ho2
          have HOX := Lib.hid hown
          rw [hK] at hown
          obtain ⟨fa, fc, rfl⟩ := own_form hown
          have HKE := Lib.hid hK
          have e2 : IntKind.i64.wrap ((s.l.length : Int) - (K : Int)) = (s.l.length : Int) - (K : Int) := by rw [IntKind.wrap_i64]; omega
          have e3 : IntKind.i64.wrap (ni + ((s.l.length : Int) - (K : Int))) = ni + ((s.l.length : Int) - (K : Int)) := by rw [IntKind.wrap_i64]; omega
          have G2b := G2.out.kept (Kept.ofBelow hbx []) (by simp)
          have gg := G2b.1
          rw [HNL2.out] at gg
          have fz : ∀ j, wr.frozen? ⟨gb, j, none⟩ = false := fun j => gg.frozenAt j
          clear gg
          have hgl9 : gb < wr.heap.size := Nat.lt_of_lt_of_le hglt hbx.size
          have hkl9 : k < wr.heap.size := Nat.lt_of_lt_of_le kk hbx.size
          have PT := RLogAt.put (G1.out.below hbx) HNL2.out G2b HO.out
          rw [HAL.out] at PT
          obtain ⟨cs2, LL, KK, CC⟩ := PT
          have LLh := Lib.hid LL
          have KB := HK.out.bel hbx
          have hin : ∀ x ∈ k :: gb :: vBs lvs, x ∈ cs := fun x hx => by rw [HBS.out]; simpa [Value.ownBlock] using hx
          have K2 := Lib.hid (KB.trans KK (fun x hx => HCS.out x (hin x (by simp at hx; simp [hx]))))
          have C2 : Hid (∀ x ∈ cs2, x ∈ bs ∨ w1.heap.size ≤ x) := Lib.hid (fun x hx => by
            rcases CC x hx with h | h
            · exact HCS.out x (hin x h)
            · simp only [Option.mem_toList] at h
              exact .inr (Nat.le_trans HK.out.size (HOX.out.lt x h).1))
          have LF : Hid (RLogAt (wr.setCell ⟨gb, i * 3 + 2, none⟩ (.slice fa K fc)) k cs2 room ((D.take (i + 1)).map (rcut all) ++ D.drop (i + 1))) := Lib.hid (by
            rw [HD.out.2.2, List.append_assoc]
            exact LLh.out)
          have HNI2 : Hid (ni + ((s.l.length : Int) - (K : Int)) = ((dall (D.take (i + 1))).length : Int) - (dall ((D.take (i + 1)).map (rcut all))).length) := Lib.hid (by
            have h1 := HD.out.1
            have h2 := HD.out.2.1
            have h3 := HNI.out
            have h4 := HKE.out
            omega)
          clear LL KK CC hin KB G2b ho2 hown hK c2 hbx
          go_wp2_with fail
          go_roundw
          case rel => exact ⟨i + 1, cs2, _, by omega, by go_num, rfl, HNI2, by omega, LF.out, K2.out, C2.out⟩
          case measure => first | (simp [intOf]; done) | (simp [intOf]; omega)
    · have tgo : ((i : Int) + 1 < (D.length : Int)) = False := eq_false (by omega)
      have hie : i = D.length - 1 := by omega
      have LX := HL0.out
      have HNX := HNI.out
      rw [hie, HEND.out] at LX
      rw [hie] at HNX
      have hv : Hid (ncmp D = ni) := Lib.hid (by rw [HN.out, HDE.out, HNX])
      have LXh := Lib.hid LX
      have KF := Lib.hid ((Kept.ofBelow B1.out bs).trans HK.out (fun x hx => .inl hx))
      have CF : Hid (∀ x ∈ cs, x ∈ bs ∨ w.heap.size ≤ x) := Lib.hid (fun x hx => (HCS.out x hx).imp id (fun h => Nat.le_trans B1.out.size h))
      clear hie LX HNX hni hcs hK hbs g1 g2 g2' hNl hAl
      go_wp2_with fail
      have := hR.out cs _ LXh.out KF.out CF.out
      rw [hv.out] at this
      exact this
end Go.Proofs.Ytkfglnhapcceaaa

set_option linter.unusedVariables false
set_option linter.unusedSimpArgs false
namespace Go.Proofs.Ytkfglnhapcceaaa
open Go.RowKit
attribute [local go_sem] ByteArray.extract_mk ByteArray.mk_append_mk

set_option maxHeartbeats 8000000 in
set_option maxRecDepth 100000 in
theorem rretain6 (k : Nat) (bs : List Nat) (room : Int) (D : List Sd) (before : Int) (w : World) (h : RLogAt w k bs room D) (hne : D ≠ []) (hl : D.length ≤ 1000) :
    RLCall 28 #[.pointer (some ⟨k, 0, none⟩), .int .i64 before] w k bs (.int .i64 (nret before D : Nat)) room (D.drop (nret before D)) := by
  refine RLCall.intro fun R hR => ?_
  obtain ⟨i0, hi, hz0, hz1, hz2⟩ := info_parts segInfo
  have hpos : 0 < D.length := List.length_pos_iff.2 hne
  have hk0 := h.lt _ h.mem
  have HM := Lib.hid h.mem
  have H := Lib.hid h
  clear h
  go_enter Try.func28, Try.ntmps28
  go_wp2_with fail
  go_loopw [5] (fun (v5 : Value) (W : World) => ∃ (n : Nat) (cs : List Nat), n ≤ D.length - 1 ∧ v5 = .int .i64 (n : Int) ∧ RLogAt W k cs room (D.drop n) ∧ Hid (∀ i, (h : i < n) → ∀ h' : i < D.length, D[i].next ≤ before) ∧ Kept bs w W ∧ ∀ x ∈ cs, x ∈ bs ∨ w.heap.size ≤ x) (fun (v5 : Value) (W : World) => (D.length - intOf v5).toNat)
  case atStart => exact ⟨0, bs, by omega, rfl, by rw [List.drop_zero]; exact H.out, Lib.hid (fun i h => by omega), Kept.refl _ _, fun x hx => .inl hx⟩
  case round =>
    obtain ⟨n, cs, hn, rfl, hL, hch, hK, hcs⟩ := hrel
    have hlt : n < D.length := by omega
    have hne2 : D.drop n ≠ [] := fun e => by have := congrArg List.length e; rw [List.length_drop, List.length_nil] at this; omega
    obtain ⟨b, cap, lvs, h1, h2, h3, h4, h5⟩ := hL.open hne2
    obtain ⟨_, y0, y1⟩ := h1.c2
    have cf := fun i => Blk.frozen h1 i
    have hdl : (D.drop n).length = D.length - n := List.length_drop ..
    have c1 := (h5 0 (by omega) (by omega)).2.1
    have hdn : (D.drop n)[0]'(by omega) = D[n] := by rw [List.getElem_drop]; rfl
    rw [hdn] at c1
    simp only [Nat.zero_mul, Nat.zero_add] at c1
    rw [hdl] at y1 h2
    have HCH := Lib.hid hch.out
    have HL5 := Lib.hid hL
    clear h5 hdn hch hL hdl
    by_cases hone : n + 1 < D.length
    · have t1 : ((1 : Int) < ((D.length - n : Nat) : Int)) = True := eq_true (by omega)
      have t2 : (1 < D.length - n) = True := eq_true (by omega)
      have j0 : (0 : Int) < ((D.length - n : Nat) : Int) := by omega
      have j1 : (0 : Nat) < D.length - n := by omega
      by_cases hbef : D[n].next ≤ before
      · have t3 : (D[n].next ≤ before) = True := eq_true hbef
        have hch2 : Hid (∀ i, (h : i < n + 1) → ∀ h' : i < D.length, D[i].next ≤ before) := Lib.hid (fun i h h' => by
          by_cases e : i = n
          · subst e; exact hbef
          · exact HCH.out i (by omega) h')
        obtain ⟨sv', lvs', g1, ⟨g2, g3, g4⟩, hbs⟩ := HL5.out
        have hsv : sv' = .slice (some ⟨b, 0, none⟩) (D.length - n) cap := by
          have := (g1.cell 1).symm.trans (h1.cell 1)
          simpa [List.length_drop] using this
        subst hsv
        have G1 := Lib.hid g1
        have G4 := Lib.hid g4
        have G3 := Lib.hid g3
        have hnews0 := g2.cells (g := b) rfl
        rw [sdsCells_drop1 g3 hne2] at hnews0
        have hnews : ∀ j u, (sdsCells (D.drop n).tail lvs'.tail)[j]? = some u → wr.cell? ((⟨b, 3, none⟩ : Addr).add j) = some u := fun j u hj => by
          have := hnews0 (3 + j) u (by rw [List.getElem?_append_right (by simp [sdCells])]; simpa [sdCells] using hj)
          rw [addr_add] at this ⊢
          rw [Nat.zero_add] at this
          exact this
        have hone' : Hid (∀ u ∈ sdsCells (D.drop n).tail lvs'.tail, u.oneCell' = true) := Lib.hid (sdsCells_one fun v hv => by
          obtain ⟨i, hi, rfl⟩ := List.getElem_of_mem (List.mem_of_mem_tail hv)
          exact own_slice1 (g4 i (by omega) hi))
        have hlt2 : (D.drop n).tail.length = D.length - n - 1 := by rw [List.length_tail, List.length_drop]
        have hlv2 : lvs'.tail.length = (D.drop n).tail.length := by rw [List.length_tail, List.length_tail, g3]
        have hlen := sdsCells_len hlv2
        rw [hlt2] at hlen
        have o0 : (wr.alloc (.cells #[] 26)).ownsRow wr.heap.size 26 3 (.slice (some ⟨wr.heap.size, 0, none⟩) 0 0) 0 [] := World.ownsRow_made wr #[] 0 (Nat.le_refl _) (by omega) rfl
        have hnewsA := Lib.hid (fun j u hj => ((below_all (o := .cells #[] 26) (Below.refl wr.heap.size wr)).cell (p := ((⟨b, 3, none⟩ : Addr).add j)) (by rw [addr_add]; exact h3)).trans (hnews j u hj))
        have HLEN := Lib.hid hlen
        have e5 : (cap = 1) = False := eq_false (by omega)
        have e6 : (1 : Int) ≤ (cap : Int) := by omega
        have e7 : (1 : Int) ≤ ((D.length - n : Nat) : Int) := by omega
        clear g1 g2 g3 g4 hnews0 hnews hlen
        have hkr : k < wr.heap.size := h1.lt
        have O0 := Lib.hid o0
        have H1 := Lib.hid h1
        have hmx : D.length - n - 1 ≤ 1000 := by omega
        clear o0 hk0 h2 e7 h1
        go_wp2_with (at_builtin; refine wpList_append_own_at _ rfl _ _ 22 rfl wr.heap.size 26 i0 _ 3 40 Try.underlying22 hi hz0 hz1 hz2 rfl (by decide) _ _ _ rfl O0.out ⟨b, 3, none⟩ (D.length - n - 1) (cap - 1) (sdsCells (D.drop n).tail lvs'.tail) rfl HLEN.out hnewsA.out hone'.out (by unfold maxLen; omega) (by omega) (by simp) ?_; intro v5 w5 o5 g5 z7 at5; obtain ⟨va5, vc5, rfl⟩ := own_form o5; have S9 := (H1.out.alloc (.cells #[] 26)).grown g5 (own_ne O0.out (H1.out.alloc (.cells #[] 26)) (by decide)); obtain ⟨k9, s0, s1⟩ := S9.c2; have fz9 : ∀ i, w5.frozen? ⟨k, i, none⟩ = false := fun i => Blk.frozen S9 i)
        have KB : Below wr.heap.size wr w5 := Kept.below (below_all (o := .cells #[] 26) (Below.refl _ _)) (Kept.ofGrown g5) (fun x hx => by simp only [Option.mem_toList] at hx; exact (O0.out.lt x hx).1) (by simp)
        have hdt : (D.drop n).tail = D.drop (n + 1) := List.tail_drop ..
        have hdl : (D.drop (n + 1)).length = 0 + (D.length - n - 1) := by rw [List.length_drop]; omega
        have hdl2 : (D.drop n).length = D.length - n := List.length_drop ..
        have hlt' : lvs'.length = D.length - n := by rw [G3.out, hdl2]
        have hS : SegsOwn w5 0 (.slice va5 (0 + (D.length - n - 1)) vc5) (D.drop (n + 1)) lvs'.tail := by
          refine ⟨by rw [hdl, ← hdt]; simpa using own_base o5 (Nat.zero_le _), by rw [hdl, List.length_tail]; omega, fun i h h' => ?_⟩
          have a1 := G4.out (i + 1) (by rw [List.length_tail] at h'; omega) (by rw [List.length_tail] at h'; omega)
          have e1 : (D.drop (n + 1))[i] = (D.drop n)[i + 1]'(by rw [List.length_tail] at h'; omega) := by rw [List.getElem_drop, List.getElem_drop]; congr 1; omega
          have e2 : lvs'.tail[i] = lvs'[i + 1]'(by rw [List.length_tail] at h'; omega) := List.getElem_tail ..
          rw [e1, e2]
          exact own_keptBy a1 (Kept.ofBelow KB []) (away_nil _)
        obtain ⟨r1, r2⟩ := RLogAt.reset S9 hS
        have hcs2 : ∀ x ∈ k :: ((Value.slice va5 (0 + (D.length - n - 1)) vc5).ownBlock.toList ++ vBs lvs'.tail), x ∈ bs ∨ w.heap.size ≤ x := fun x hx => by
          simp only [List.mem_cons, List.mem_append, Option.mem_toList] at hx
          rcases hx with rfl | hx | hx
          · exact .inl HM.out
          · have hz := hK.size
            have hz2 : wr.heap.size ≤ x := (o5.lt x hx).1
            exact .inr (by omega)
          · exact hcs x (by rw [hbs]; simp only [List.mem_cons, List.mem_append]; exact .inr (.inr (vBs_tail _ x hx)))
        have K2 := (hK.bel KB).trans r2 (fun x hx => by simp at hx; subst hx; exact .inl HM.out)
        rw [Nat.zero_add] at r1 K2
        refine ⟨⟨n + 1, _, by omega, by go_num, r1, hch2, K2, ?_⟩, by simp [intOf]; omega⟩
        rw [Nat.zero_add] at hcs2
        exact hcs2
      · have t3 : (D[n].next ≤ before) = False := eq_false hbef
        have he : Hid (nret before D = n) := Lib.hid (nret_eq (by omega) HCH.out (fun h => hbef))
        go_wp2_with fail
        have := hR.out cs _ (by rw [he.out]; exact HL5.out) hK hcs
        rw [he.out] at this
        exact this
    · have t1 : ((1 : Int) < ((D.length - n : Nat) : Int)) = False := eq_false (by omega)
      have t2 : (1 < D.length - n) = False := eq_false (by omega)
      have he : Hid (nret before D = n) := Lib.hid (nret_eq (by omega) HCH.out (fun h => by omega))
      go_wp2_with fail
      have := hR.out cs _ (by rw [he.out]; exact HL5.out) hK hcs
      rw [he.out] at this
      exact this
end Go.Proofs.Ytkfglnhapcceaaa

set_option linter.unusedVariables false
set_option linter.unusedSimpArgs false
namespace Go.Proofs.Ytkfglnhapcceaaa
open Go.RowKit

section
variable {R : Ending → World → Prop} {w : World} {k : Nat} {bs : List Nat} {room : Int} {D : List Sd}
theorem rread6_use (fr n : Int) (h : RLogAt w k bs room D) (hg : Good room D) (hl : D.length ≤ 900)
    (kk : ∀ v w', w'.ownsRow w.heap.size 31 5 v (dread fr n D).length ((dread fr n D).flatMap Fnd.cells) → Below w.heap.size w w' → R (.returned (.tuple #[v, .int .i64 (rerr fr D : Nat)])) w') :
    Calls Try.prog 27 #[.pointer (some ⟨k, 0, none⟩), .int .i64 fr, .int .i64 n] w R := by
  have hll : ∀ s ∈ D, s.l.length ≤ 64 := fun s hs => (hg.mem hs).2.2.2.1
  have hda := dall_len hll
  by_cases he : rerr fr D = 0
  · have hd : dread fr n D = readsR fr n (dall D) := by unfold dread; rw [if_pos he]
    rw [hd, he] at kk
    exact (rread6_ok k bs room D fr n w h hg.2.2.1 (by omega) hll (by omega) he).use kk
  · have hd : dread fr n D = [] := by unfold dread; rw [if_neg he]
    rw [hd] at kk
    exact (rread6_no k bs room D fr n w h hg.2.2.1 (by omega) he).use kk
theorem rretain6_use (b : Int) (h : RLogAt w k bs room D) (hg : Good room D) (hl : D.length ≤ 900)
    (kk : ∀ cs w', RLogAt w' k cs room (D.drop (nret b D)) → Kept bs w w' → (∀ x ∈ cs, x ∈ bs ∨ w.heap.size ≤ x) → R (.returned (.int .i64 (nret b D : Nat))) w') :
    Calls Try.prog 28 #[.pointer (some ⟨k, 0, none⟩), .int .i64 b] w R :=
  (rretain6 k bs room D b w h hg.2.2.1 (by omega)).use kk
theorem rcompact6_use (h : RLogAt w k bs room D) (hg : Good room D) (hl : D.length ≤ 900)
    (kk : ∀ cs w', RLogAt w' k cs room (dcmp D) → Kept bs w w' → (∀ x ∈ cs, x ∈ bs ∨ w.heap.size ≤ x) → R (.returned (.int .i64 (ncmp D))) w') :
    Calls Try.prog 29 #[.pointer (some ⟨k, 0, none⟩)] w R :=
  (rcompact6 k bs room D w h hg hl).use kk
theorem dcmp_len (hg : Good room D) : (dcmp D).length = D.length := by rw [← rc_dcmp hg, rc_len]
theorem dread_len (hg : Good room D) (fr n : Int) : (dread fr n D).length ≤ 64 * D.length := by
  have hda := dall_len fun s hs => (hg.mem (s := s) hs).2.2.2.1
  unfold dread
  split
  · exact Nat.le_trans (readsR_len _ _ _) hda
  · simp
end
end Go.Proofs.Ytkfglnhapcceaaa
