import Derived.Test.YtohplhahghilaaaChkRB
import Derived.Test.YtohplhahghilaaaChkW
/-
  Layer 7, the document's gatherer: a chunk taken: the contract.
-/
set_option linter.unusedVariables false
set_option linter.unusedSimpArgs false
namespace Go.Proofs.Ytohplhahghilaaa
open Go.RowKit
attribute [local go_sem] ByteArray.extract_mk ByteArray.mk_append_mk

theorem rtake_conf {d : Nat} {l : List Chk} {c : Chk} (hr : c.right = true) (hd : c.d = d) (hx : ∃ x ∈ l, x.n ≠ c.n ∨ (x.i = c.i ∧ x.b ≠ c.b)) : rtake d l c = (71, l) := by
  unfold rtake
  rw [if_neg (by simp [hr]), if_neg (by simp [hd]), if_pos hx]
theorem rtake_has {d : Nat} {l : List Chk} {c : Chk} (hr : c.right = true) (hd : c.d = d) (hx : ∀ x ∈ l, x.n = c.n ∧ (x.i = c.i → x.b = c.b)) (hi : ∃ x ∈ l, x.i = c.i) : rtake d l c = (0, l) := by
  unfold rtake
  rw [if_neg (by simp [hr]), if_neg (by simp [hd]), if_neg, if_pos hi]
  rintro ⟨x, h1, h2 | ⟨h2, h3⟩⟩
  · exact h2 (hx x h1).1
  · exact h3 ((hx x h1).2 h2)
theorem rtake_new {d : Nat} {l : List Chk} {c : Chk} (hr : c.right = true) (hd : c.d = d) (hx : ∀ x ∈ l, x.n = c.n ∧ (x.i = c.i → x.b = c.b)) (hi : ∀ x ∈ l, x.i ≠ c.i) : rtake d l c = (0, l ++ [c]) := by
  unfold rtake
  rw [if_neg (by simp [hr]), if_neg (by simp [hd]), if_neg, if_neg]
  · rintro ⟨x, h1, h2⟩; exact hi x h1 h2
  · rintro ⟨x, h1, h2 | ⟨h2, h3⟩⟩
    · exact h2 (hx x h1).1
    · exact h3 ((hx x h1).2 h2)
/-- A call of the document's gatherer. -/
def RKCall (f : FuncId) (args : Array Value) (B : Nat) (w : World) (q d : Nat) (v : Value) (x : Value) (l : List Chk) : Prop :=
  Calls Try.prog f args w fun e w' => ∃ v', e = .returned x ∧ RJ B w' q d v' l ∧ Kept (q :: v.ownBlock.toList) w w' ∧ ∀ b, v'.ownBlock = some b → v.ownBlock = some b ∨ w.heap.size ≤ b
theorem RKCall.intro {f : FuncId} {args : Array Value} {B : Nat} {w : World} {q d : Nat} {v x : Value} {l : List Chk}
    (h : ∀ R : Ending → World → Prop, Hid (∀ v' w', RJ B w' q d v' l → Kept (q :: v.ownBlock.toList) w w' → (∀ b, v'.ownBlock = some b → v.ownBlock = some b ∨ w.heap.size ≤ b) → R (.returned x) w') → Calls Try.prog f args w R) : RKCall f args B w q d v x l := h _ fun v' _ h1 h2 h3 => ⟨v', rfl, h1, h2, h3⟩
theorem RKCall.use {f : FuncId} {args : Array Value} {B : Nat} {w : World} {q d : Nat} {v x : Value} {l : List Chk} {R : Ending → World → Prop} (h : RKCall f args B w q d v x l)
    (k : ∀ v' w', RJ B w' q d v' l → Kept (q :: v.ownBlock.toList) w w' → (∀ b, v'.ownBlock = some b → v.ownBlock = some b ∨ w.heap.size ≤ b) → R (.returned x) w') : Calls Try.prog f args w R :=
  h.mono fun e w' ⟨v', he, h1, h2, h3⟩ => by subst he; exact k v' w' h1 h2 h3
/-- Under way. -/
structure T7 (B : Nat) (w : World) (q d : Nat) (v : Value) (l : List Chk) (c : Chk) (W : World) : Prop where
  arg : Blk W w.heap.size #[.int .i64 c.i, .int .i64 c.n, .int .u64 (c.d : Nat), .string (S c.b)] 38
  rj : RJ B W q d v l
  bel : Below w.heap.size w W
theorem T7.below {B : Nat} {w : World} {q d : Nat} {v : Value} {l : List Chk} {c : Chk} {W W' : World} (h : T7 B w q d v l c W) (b : Below W.heap.size W W') : T7 B w q d v l c W' := ⟨h.arg.below b, h.rj.below b, below_any (Nat.le_refl _) h.bel b⟩
theorem T7.start {B : Nat} {w : World} {q d : Nat} {v : Value} {l : List Chk} {c : Chk} (h : RJ B w q d v l) : T7 B w q d v l c (w.alloc (.cells #[.int .i64 c.i, .int .i64 c.n, .int .u64 (c.d : Nat), .string (S c.b)] 38)) :=
  ⟨Blk.new _ _ _, h.below (below_all (Below.refl _ _)), below_all (Below.refl _ _)⟩

set_option maxHeartbeats 8000000 in
set_option maxRecDepth 100000 in
theorem rtake7 (B q d : Nat) (v : Value) (l : List Chk) (c : Chk) (w : World) (h : RJ B w q d v l) (hB : B ≤ w.heap.size) (hl : l.length ≤ 100000) :
    RKCall 31 #[.pointer (some ⟨q, 0, none⟩), c.val] B w q d v (.int .i64 ((rtake d l c).1 : Nat)) (rtake d l c).2 := by
  refine RKCall.intro fun R hR => ?_
  obtain ⟨i0, hi, hz0, hz1, hz2⟩ := info_parts chkInfo
  obtain ⟨e, l2, hrt⟩ : ∃ e l2, rtake d l c = (e, l2) := ⟨_, _, rfl⟩
  rw [hrt] at hR
  simp only at hR
  have HRT := Lib.hid hrt
  have TS0 := Lib.hid (T7.start (c := c) h)
  have hrc := rright7 c
  have HBB := Lib.hid hB
  clear h hrt hB
  obtain ⟨ci, cn, cd, cb⟩ := c
  unfold Chk.val at hrc ⊢
  go_enter Try.func31, Try.ntmps31
  go_wp2_with fail
  refine (hrc _).use ?_
  intro w1 b1
  have T1 := Lib.hid (TS0.out.below b1)
  clear b1 TS0 hrc
  by_cases hr : (⟨ci, cn, cd, cb⟩ : Chk).right = false
  · have := HRT.out
    unfold rtake at this
    rw [if_pos hr, Prod.mk.injEq] at this
    obtain ⟨rfl, rfl⟩ := this
    rw [hr]
    clear HRT hr
    go_wp2_with fail
    exact hR.out _ _ T1.out.rj (Kept.ofBelow T1.out.bel _) (fun b hb => .inl hb)
  · have hr' : (⟨ci, cn, cd, cb⟩ : Chk).right = true := by simpa using hr
    rw [hr']
    have HRR := Lib.hid hr'
    clear hr hr'
    obtain ⟨k0, y0, y1⟩ := T1.out.rj.1.c2
    obtain ⟨k1, z0, z1, z2, z3⟩ := T1.out.arg.c4
    by_cases hd : cd = d
    · subst hd
      have hd2 : ((cd : Int) != (cd : Int)) = false := by simp
      go_wp2_with fail
      go_quiet (fail)
      have T2 : T7 B w q cd v l ⟨ci, cn, cd, cb⟩ (w1.drewN nq) := T1.out.below (belowN (Below.refl _ _) _)
      generalize w1.drewN nq = w2 at T2 ⊢
      have hB2 : B ≤ w2.heap.size := Nat.le_trans HBB.out T2.bel.size
      have CV := Lib.hid (chks_own T2.rj.2)
      obtain ⟨va, vc, rfl⟩ := own_form T2.rj.2
      clear T1 k0 y0 y1 k1 z0 z1 z2 z3 hd2
      obtain ⟨k0, y0, y1⟩ := T2.rj.1.c2
      go_wp2_with fail
      clear y0 y1
      go_loopw [5] (fun (v5 : Value) (W : World) => ∃ j : Nat, j ≤ l.length ∧ v5 = .int .i64 (j : Int) ∧ T7 B w q cd (.slice va l.length vc) l ⟨ci, cn, cd, cb⟩ W ∧ Hid (∀ x ∈ l.take j, x.n = cn ∧ (x.i = ci → x.b = cb))) (fun (v5 : Value) (W : World) => (l.length - intOf v5).toNat)
      case atStart => exact ⟨0, by omega, rfl, T2, Lib.hid (by simp)⟩
      case round =>
        obtain ⟨j, hj, rfl, hT, hno⟩ := hrel
        have HT := Lib.hid hT
        obtain ⟨k0, y0, y1⟩ := hT.rj.1.c2
        obtain ⟨k1, z0, z1, z2, z3⟩ := hT.arg.c4
        clear T2
        by_cases hjl : j < l.length
        · rcases chks_own hT.rj.2 with ⟨h, _⟩ | ⟨b, off, cap', hsl, hcap, hne, hlt, hc⟩
          · rw [h] at hjl; simp at hjl
          simp only [Value.slice.injEq, true_and] at hsl
          obtain ⟨rfl, rfl⟩ := hsl
          have FA := hc j hjl
          have h0 : (0 : Int) ≤ (j : Int) := by omega
          have h1 : (j : Int) < (l.length : Int) := by omega
          have hmem := Lib.hid (List.getElem_mem hjl)
          have htk := Lib.hid (fun (P : Chk → Prop) => take_all (P := P) hjl)
          clear hc hT
          generalize l[j] = x at *
          obtain ⟨x0, x1, x2, x3⟩ := FA
          by_cases hn : x.n = cn
          · have hn2 : (x.n != cn) = false := by simpa using hn
            by_cases hi' : x.i = ci
            · have hi2 : (x.i == ci) = true := by simpa using hi'
              by_cases hb : x.b = cb
              · have hno2 := Lib.hid (htk.out (fun x => x.n = cn ∧ (x.i = ci → x.b = cb)) hno.out ⟨hn, fun _ => hb⟩)
                clear hno hn hi' htk hmem
                subst hb
                have hb2 : (x.b != x.b) = false := by simp
                go_wp2_with fail
                go_quiet (fail)
                go_wp2_with fail
                go_roundw
                case rel => exact ⟨j + 1, by omega, by go_num, HT.out.below (belowN (Below.refl _ _) _), hno2⟩
                case measure => first | (simp [intOf]; done) | (simp [intOf]; omega)
              · have hb2 : (x.b != cb) = true := by simpa using hb
                have hb3 : (x.b == cb) = false := by simpa using hb
                have hb4 : (x.b = cb) = False := eq_false hb
                have := HRT.out
                rw [rtake_conf HRR.out rfl ⟨x, hmem.out, .inr ⟨hi', hb⟩⟩, Prod.mk.injEq] at this
                obtain ⟨rfl, rfl⟩ := this
                clear hno hn hi' hb htk hmem HRT
                go_wp2_with fail
                go_quiet (fail)
                go_wp2_with fail
                exact hR.out _ _ (HT.out.below (belowN (Below.refl _ _) _)).rj (Kept.ofBelow (HT.out.below (belowN (Below.refl _ _) _)).bel _) (fun b hb => .inl hb)
            · have hi2 : (x.i == ci) = false := by simpa using hi'
              have hno2 := Lib.hid (htk.out (fun x => x.n = cn ∧ (x.i = ci → x.b = cb)) hno.out ⟨hn, fun h => absurd h hi'⟩)
              clear hno hn hi' htk hmem
              go_wp2_with fail
              go_quiet (fail)
              go_wp2_with fail
              go_roundw
              case rel => exact ⟨j + 1, by omega, by go_num, HT.out.below (belowN (Below.refl _ _) _), hno2⟩
              case measure => first | (simp [intOf]; done) | (simp [intOf]; omega)
          · have hn2 : (x.n != cn) = true := by simpa using hn
            have := HRT.out
            rw [rtake_conf HRR.out rfl ⟨x, hmem.out, .inl hn⟩, Prod.mk.injEq] at this
            obtain ⟨rfl, rfl⟩ := this
            clear hno hn htk hmem HRT
            go_wp2_with fail
            go_quiet (fail)
            go_wp2_with fail
            exact hR.out _ _ (HT.out.below (belowN (Below.refl _ _) _)).rj (Kept.ofBelow (HT.out.below (belowN (Below.refl _ _) _)).bel _) (fun b hb => .inl hb)
        · have hno2 := hno.out
          rw [List.take_of_length_le (by omega)] at hno2
          have HNO := Lib.hid hno2
          have hjl2 : ¬ (j : Int) < (l.length : Int) := by omega
          obtain ⟨wo, rfl⟩ : ∃ wo : World, wo = wr := ⟨_, rfl⟩
          clear hno hno2
          go_wp2_with fail
          clear y0 y1 z0 z1 z2 z3
          go_loopw [6] (fun (v6 : Value) (W : World) => ∃ j : Nat, j ≤ l.length ∧ v6 = .int .i64 (j : Int) ∧ T7 B w q cd (.slice va l.length vc) l ⟨ci, cn, cd, cb⟩ W ∧ Hid (∀ x ∈ l.take j, x.i ≠ ci)) (fun (v6 : Value) (W : World) => (l.length - intOf v6).toNat)
          case atStart => exact ⟨0, by omega, rfl, HT.out, Lib.hid (by simp)⟩
          case round =>
            obtain ⟨m, hm, rfl, hT2, hni⟩ := hrel
            have HT2 := Lib.hid hT2
            obtain ⟨k0, y0, y1⟩ := hT2.rj.1.c2
            obtain ⟨k1, z0, z1, z2, z3⟩ := hT2.arg.c4
            clear HT hT
            by_cases hml : m < l.length
            · rcases chks_own hT2.rj.2 with ⟨h, _⟩ | ⟨b, off, cap', hsl, hcap, hne, hlt, hc⟩
              · rw [h] at hml; simp at hml
              simp only [Value.slice.injEq, true_and] at hsl
              obtain ⟨rfl, rfl⟩ := hsl
              have FA := hc m hml
              have h0 : (0 : Int) ≤ (m : Int) := by omega
              have h1 : (m : Int) < (l.length : Int) := by omega
              have hmem := Lib.hid (List.getElem_mem hml)
              have htk := Lib.hid (fun (P : Chk → Prop) => take_all (P := P) hml)
              clear hc hT2
              generalize l[m] = x at *
              obtain ⟨x0, x1, x2, x3⟩ := FA
              by_cases hi' : x.i = ci
              · have hi2 : (x.i == ci) = true := by simpa using hi'
                have := HRT.out
                rw [rtake_has HRR.out rfl HNO.out ⟨x, hmem.out, hi'⟩, Prod.mk.injEq] at this
                obtain ⟨rfl, rfl⟩ := this
                clear hni hi' htk hmem HRT
                go_wp2_with fail
                go_quiet (fail)
                go_wp2_with fail
                exact hR.out _ _ (HT2.out.below (belowN (Below.refl _ _) _)).rj (Kept.ofBelow (HT2.out.below (belowN (Below.refl _ _) _)).bel _) (fun b hb => .inl hb)
              · have hi2 : (x.i == ci) = false := by simpa using hi'
                have hni2 := Lib.hid (htk.out (fun x => x.i ≠ ci) hni.out hi')
                clear hni hi' htk hmem
                go_wp2_with fail
                go_quiet (fail)
                go_wp2_with fail
                go_roundw
                case rel => exact ⟨m + 1, by omega, by go_num, HT2.out.below (belowN (Below.refl _ _) _), hni2⟩
                case measure => first | (simp [intOf]; done) | (simp [intOf]; omega)
            · have hni2 := hni.out
              rw [List.take_of_length_le (by omega)] at hni2
              have := HRT.out
              rw [rtake_new HRR.out rfl HNO.out hni2, Prod.mk.injEq] at this
              obtain ⟨rfl, rfl⟩ := this
              have hml2 : ¬ (m : Int) < (l.length : Int) := by omega
              have hBw : B ≤ wr.heap.size := Nat.le_trans HBB.out hT2.bel.size
              have hww : w.heap.size ≤ wr.heap.size := hT2.bel.size
              have P3 := hT2.below (Below.refl wr.heap.size wr).drew
              have P3 := P3.below (below_all (o := .cells (Chk.cells ⟨ci, cn, cd, cb⟩).toArray 38) (Below.refl wr.heap.size wr.drew))
              clear hni hni2 HRT hT2 HT2 HNO
              go_wp2_with fail
              go_region_law (refine step_append_lies _ (by rfl) _ _ _ (by rfl) B 38 i0 _ 4 40 Try.underlying39 hi hz0 hz1 hz2 rfl (by omega) (.slice va l.length vc) l.length (l.flatMap Chk.cells) (by simp [Act.eval, Act.put]) P3.rj.2 ⟨wr.heap.size, 0, none⟩ 1 1 (Chk.cells ⟨ci, cn, cd, cb⟩) (by simp [Act.eval, Act.put]) rfl (news_chk ⟨ci, cn, cd, cb⟩ (by first | rfl | simp)) (by simp [Value.oneCell', Chk.cells]) (by omega) (by unfold maxLen; omega) (by omega) (by simp; omega) (wr.heap.size + 1) (by simp) ?_; intro g2 cap2 w5 hown5 hgrow5 hat5 hlt5; have bb2 := P3.rj.1.grown hgrow5 (own_ne P3.rj.2 P3.rj.1 (by decide)); obtain ⟨kk2, rr0, rr1⟩ := bb2.c2; have ff2 := fun i => Blk.frozen bb2 i)
              all_goals go_wp2_with fail
              all_goals exact hR.out _ _ ⟨bb2.set 1 _, by simpa using hown5.kept (grown_set (grown_refl w5 (some q)) 1 _) (.inr (Ne.symm (own_ne hown5 bb2 (by decide))))⟩ (((Kept.ofBelow P3.bel _).trans (Kept.ofGrown hgrow5) (fun x hx => .inl (List.mem_cons_of_mem _ hx))).trans (Kept.ofGrown (grown_set (grown_refl w5 (some q)) 1 _)) (fun x hx => .inl (by simp at hx; simp [hx]))) (fun b hb => by
                have hb : g2 = b := by simpa [Value.ownBlock] using hb
                subst hb
                rcases hat5 with h | h
                · exact .inl h
                · exact .inr (by omega))
    · have := HRT.out
      unfold rtake at this
      rw [if_neg (by simp [HRR.out]), if_pos hd, Prod.mk.injEq] at this
      obtain ⟨rfl, rfl⟩ := this
      have hd2 : ((cd : Int) != (d : Int)) = true := by simp; omega
      clear hd HRT
      go_wp2_with fail
      go_quiet (fail)
      go_wp2_with fail
      exact hR.out _ _ (T1.out.below (belowN (Below.refl _ _) _)).rj (Kept.ofBelow (T1.out.below (belowN (Below.refl _ _) _)).bel _) (fun b hb => .inl hb)
end Go.Proofs.Ytohplhahghilaaa
