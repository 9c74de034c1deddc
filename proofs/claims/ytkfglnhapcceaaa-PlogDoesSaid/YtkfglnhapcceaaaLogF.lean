import Derived.Test.YtkfglnhapcceaaaLogB
import Derived.Laws.AppendOwnNone
/-
  Layer 6: a log read: the contract.
-/
set_option linter.unusedVariables false
set_option linter.unusedSimpArgs false
namespace Go.Proofs.Ytkfglnhapcceaaa
open Go.RowKit
attribute [local go_sem] ByteArray.extract_mk ByteArray.mk_append_mk

/-- One segment read more. -/
def lstep (fr n : Int) (out : List Fnd) (s : Sd) : List Fnd := if fr < s.next ∧ (out.length : Int) < n then out ++ reads fr (n - out.length) s.l else out
/-- What the segments tell. -/
def lread (fr n : Int) (D : List Sd) : List Fnd := D.foldl (lstep fr n) []
theorem lread_take {fr n : Int} {ss : List Sg} {k : Nat} (hk : k < ss.length) : lread fr n ((ss.take (k + 1)).map Sg.d) = lstep fr n (lread fr n ((ss.take k).map Sg.d)) ss[k].d := by
  rw [List.take_succ_eq_append_getElem hk, List.map_append]
  unfold lread
  rw [List.foldl_append]
  rfl
theorem reads_len (fr n : Int) (l : List Fnd) : (reads fr n l).length ≤ l.length := by
  unfold reads
  rw [List.length_take, List.length_drop]
  omega
theorem lstep_in {fr n : Int} {out : List Fnd} {s : Sd} (h1 : fr < s.next) (h2 : (out.length : Int) < n) : lstep fr n out s = out ++ reads fr (n - out.length) s.l := if_pos ⟨h1, h2⟩
theorem lstep_out {fr n : Int} {out : List Fnd} {s : Sd} (h : ¬ (fr < s.next ∧ (out.length : Int) < n)) : lstep fr n out s = out := if_neg h
/-- What is wrong with an offset. -/
def rerr (fr : Int) (D : List Sd) : Nat := if fr < dstart D then 60 else if dend D < fr then 61 else 0
/-- Records with offsets in a row of the caller's own, and an error's number. -/
def FndsErr (f : FuncId) (args : Array Value) (w : World) (e : Nat) (l : List Fnd) : Prop :=
  Calls Try.prog f args w fun x w' => ∃ v, x = .returned (.tuple #[v, .int .i64 e]) ∧ w'.ownsRow w.heap.size 31 5 v l.length (l.flatMap Fnd.cells) ∧ Below w.heap.size w w'
theorem FndsErr.intro {f : FuncId} {args : Array Value} {w : World} {e : Nat} {l : List Fnd}
    (h : ∀ R : Ending → World → Prop, Hid (∀ v w', w'.ownsRow w.heap.size 31 5 v l.length (l.flatMap Fnd.cells) → Below w.heap.size w w' → R (.returned (.tuple #[v, .int .i64 e])) w') → Calls Try.prog f args w R) : FndsErr f args w e l :=
  h _ fun v w' h1 h2 => ⟨v, rfl, h1, h2⟩
theorem FndsErr.use {f : FuncId} {args : Array Value} {w : World} {e : Nat} {l : List Fnd} {R : Ending → World → Prop} (h : FndsErr f args w e l)
    (k : ∀ v w', w'.ownsRow w.heap.size 31 5 v l.length (l.flatMap Fnd.cells) → Below w.heap.size w w' → R (.returned (.tuple #[v, .int .i64 e])) w') : Calls Try.prog f args w R :=
  h.mono fun x w' ⟨v, he, h1, h2⟩ => by subst he; exact k v w' h1 h2
theorem FndsErr.cast {f : FuncId} {args : Array Value} {w : World} {e e' : Nat} {l l' : List Fnd} (h : FndsErr f args w e l) (he : e = e') (hl : l = l') : FndsErr f args w e' l' := he ▸ hl ▸ h
/-- A row of the call's own is nil, or lies in a block. -/
theorem own_cases {w : World} {B n s : Nat} {e : TypeId} {v : Value} {xs : List Value} (h : w.ownsRow B e s v n xs) : (v = .slice none 0 0 ∧ n = 0) ∨ ∃ b cap, v = .slice (some ⟨b, 0, none⟩) n cap ∧ B ≤ b ∧ b < w.heap.size ∧ ∀ j u, xs[j]? = some u → w.cell? ((⟨b, 0, none⟩ : Addr).add j) = some u := by
  rcases id h.2 with h1 | ⟨g, cap, cur, rfl, hb, hg, rest⟩
  · exact .inl h1
  · exact .inr ⟨g, cap, rfl, hb, (Array.getElem?_eq_some_iff.1 hg).1, h.cells (g := g) rfl⟩

set_option maxHeartbeats 4000000 in
set_option maxRecDepth 100000 in
theorem read6_ok (g : Nat) (bs : List Nat) (room : Int) (ss : List Sg) (fr n : Int) (w : World) (h : LogAt w g bs room ss) (hne : ss ≠ []) (hl : ss.length ≤ 1000) (hr : ∀ s ∈ ss, Rising s.d.l ∧ s.d.l.length ≤ 64) (hn : n ≤ 9223372036854775807)
    (he : rerr fr (ss.map Sg.d) = 0) : FndsErr 19 #[.pointer (some ⟨g, 0, none⟩), .int .i64 fr, .int .i64 n] w 0 (lread fr n (ss.map Sg.d)) := by
  refine FndsErr.intro fun R hR => ?_
  obtain ⟨i0, hi, hz0, hz1, hz2⟩ := info_parts fndInfo
  obtain ⟨b, off, cap, h1, h2, h3, h4⟩ := h.ptrs hne
  have H := Lib.hid h
  have HC := Lib.hid h4
  have HB := Lib.hid h1
  have HRI := Lib.hid hr
  have cS := span6 g bs room ss w h hne (by omega)
  have hs1 : ¬ fr < dstart (ss.map Sg.d) := by unfold rerr at he; intro h; rw [if_pos h] at he; simp at he
  have hs2 : ¬ dend (ss.map Sg.d) < fr := by unfold rerr at he; intro h; rw [if_neg hs1, if_pos h] at he; simp at he
  generalize dstart (ss.map Sg.d) = d0 at *
  generalize dend (ss.map Sg.d) = d1 at *
  have t1 : (fr < d0) = False := eq_false hs1
  have t2 : (d1 < fr) = False := eq_false hs2
  have CS := Lib.hid cS
  clear h h4 hr he cS h1
  go_enter Try.func19, Try.ntmps19
  go_wp2_with fail
  refine CS.out.use ?_
  intro w1 b1
  obtain ⟨_, y0, y1⟩ := (HB.out.below b1).c2
  go_wp2_with fail
  clear y0 y1 t1 t2 CS
  go_loopw [10, 33] (fun (v10 v33 : Value) (W : World) => ∃ k : Nat, k ≤ ss.length ∧ v33 = .int .i64 (k : Int) ∧ W.ownsRow w.heap.size 31 5 v10 (lread fr n ((ss.take k).map Sg.d)).length ((lread fr n ((ss.take k).map Sg.d)).flatMap Fnd.cells) ∧ (lread fr n ((ss.take k).map Sg.d)).length ≤ 64 * k ∧ Below w.heap.size w W) (fun (v10 v33 : Value) (W : World) => (ss.length - intOf v33).toNat)
  case atStart => exact ⟨0, by omega, rfl, World.ownsRow_nil _ _ _ _, by simp [lread], b1⟩
  case round =>
    obtain ⟨k, hk, rfl, hown, hle, hnx⟩ := hrel
    by_cases hkl : k < ss.length
    · have x0 := (hnx.cell (p := ⟨b, off + k, none⟩) h3).trans (HC.out k hkl)
      have j0 : (0 : Int) ≤ (k : Int) := by omega
      have j1 : (k : Int) < (ss.length : Int) := by omega
      have hm := List.getElem_mem hkl
      obtain ⟨hri, hll⟩ := HRI.out _ hm
      have SG := Lib.hid ((H.out.below hnx).sg hm)
      have HT := Lib.hid (lread_take (fr := fr) (n := n) hkl)
      have cS := Lib.hid (span5 ss[k].p ss[k].bs ss[k].d.base ss[k].d.next ss[k].d.l wr SG.out)
      have cR := Lib.hid (fun m W hb => read5 ss[k].p ss[k].bs ss[k].d.base ss[k].d.next ss[k].d.l fr m W (SG.out.below hb) hri (by omega))
      have hrl := fun m => Lib.hid (reads_len fr m ss[k].d.l)
      generalize lread fr n ((ss.take k).map Sg.d) = L at *
      generalize ss[k] = s at *
      obtain ⟨va, vc, rfl⟩ := own_form hown
      clear hm hri SG
      by_cases h5 : fr < s.d.next
      · by_cases h6 : (L.length : Int) < n
        · have hin := Lib.hid (lstep_in (fr := fr) (n := n) (out := L) (s := s.d) h5 h6)
          have e1 : IntKind.i64.wrap (n - (L.length : Int)) = n - (L.length : Int) := by rw [IntKind.wrap_i64]; omega
          have hrl2 := (hrl (n - (L.length : Int))).out
          have cR2 := Lib.hid (cR.out (n - (L.length : Int)))
          clear cR hrl
          generalize reads fr (n - (L.length : Int)) s.d.l = M at *
          go_wp2_with fail
          refine cS.out.use ?_
          intro w2 b2
          go_wp2_with fail
          refine (cR2.out _ b2).use ?_
          intro v3 w3 o3 b3
          have hnx3 := below_any (Nat.le_refl _) hnx (below_any (Nat.le_refl _) b2 b3)
          have hown3 := own_keptBy hown (Kept.ofBelow (below_any (Nat.le_refl _) b2 b3) []) (away_nil _)
          have hz := hnx.size
          have hz3 := hnx3.size
          have hM := fcells_len M
          have HM1 := Lib.hid hM
          clear hM hown cR2 cS
          rcases own_cases o3 with ⟨rfl, hm0⟩ | ⟨q, qc, rfl, hq1, hq2, hq3⟩
          · obtain rfl : M = [] := List.eq_nil_of_length_eq_zero hm0
            clear o3 hm0
            go_wp2_with (at_builtin; refine wpList_append_own_none rfl _ _ 24 rfl w.heap.size 31 i0 5 Try.underlying24 hi _ _ _ rfl hown3 rfl ?_)
            go_wp2_with fail
            go_roundw
            case rel => exact ⟨k + 1, by omega, by go_num, by rw [HT.out, hin.out, List.append_nil]; exact hown3, by rw [HT.out, hin.out, List.append_nil]; omega, hnx3⟩
            case measure => first | (simp [intOf]; done) | (simp [intOf]; omega)
          · have HQ := Lib.hid hq3
            clear o3 hq3
            go_wp2_with (at_builtin; refine wpList_append_own _ rfl _ _ 24 rfl w.heap.size 31 i0 _ 5 56 Try.underlying24 hi hz0 hz1 hz2 rfl (by decide) _ _ _ rfl hown3 ⟨q, 0, none⟩ M.length qc (M.flatMap Fnd.cells) rfl HM1.out HQ.out (fcells_one _) (by unfold maxLen; omega) (by omega) (by omega) ?_)
            intro v4 w4 o4 g4 z4
            have hb4 := Kept.below hnx3 (Kept.ofGrown g4) (by intro x hx; simp only [Option.mem_toList] at hx; exact (hown3.lt x hx).1) hz3
            clear g4 z4 hown3
            go_wp2_with fail
            go_roundw
            case rel => exact ⟨k + 1, by omega, by go_num, by rw [HT.out, hin.out, List.length_append, List.flatMap_append]; exact o4, by rw [HT.out, hin.out, List.length_append]; omega, hb4⟩
            case measure => first | (simp [intOf]; done) | (simp [intOf]; omega)
        · have hin := Lib.hid (lstep_out (fr := fr) (n := n) (out := L) (s := s.d) (fun h => h6 h.2))
          have t6 : ((L.length : Int) < n) = False := eq_false h6
          clear cR hrl
          go_wp2_with fail
          refine cS.out.use ?_
          intro w2 b2
          have hown3 := own_keptBy hown (Kept.ofBelow b2 []) (away_nil _)
          clear cS hown
          go_wp2_with fail
          go_roundw
          case rel => exact ⟨k + 1, by omega, by go_num, by rw [HT.out, hin.out]; exact hown3, by rw [HT.out, hin.out]; omega, below_any (Nat.le_refl _) hnx b2⟩
          case measure => first | (simp [intOf]; done) | (simp [intOf]; omega)
      · have hin := Lib.hid (lstep_out (fr := fr) (n := n) (out := L) (s := s.d) (fun h => h5 h.1))
        have t6 : (fr < s.d.next) = False := eq_false h5
        clear cR hrl
        go_wp2_with fail
        refine cS.out.use ?_
        intro w2 b2
        have hown3 := own_keptBy hown (Kept.ofBelow b2 []) (away_nil _)
        clear cS hown
        go_wp2_with fail
        go_roundw
        case rel => exact ⟨k + 1, by omega, by go_num, by rw [HT.out, hin.out]; exact hown3, by rw [HT.out, hin.out]; omega, below_any (Nat.le_refl _) hnx b2⟩
        case measure => first | (simp [intOf]; done) | (simp [intOf]; omega)
    · have j1 : ¬ (k : Int) < (ss.length : Int) := by omega
      rw [List.take_of_length_le (by omega)] at *
      go_wp2_with fail
      exact hR.out _ _ hown hnx
theorem read6_no (g : Nat) (bs : List Nat) (room : Int) (ss : List Sg) (fr n : Int) (w : World) (h : LogAt w g bs room ss) (hne : ss ≠ []) (hl : ss.length ≤ 1000)
    (he : rerr fr (ss.map Sg.d) ≠ 0) : FndsErr 19 #[.pointer (some ⟨g, 0, none⟩), .int .i64 fr, .int .i64 n] w (rerr fr (ss.map Sg.d)) [] := by
  refine FndsErr.intro fun R hR => ?_
  have CS := Lib.hid (span6 g bs room ss w h hne (by omega))
  clear h
  unfold rerr at he hR
  generalize dstart (ss.map Sg.d) = d0 at *
  generalize dend (ss.map Sg.d) = d1 at *
  by_cases h1 : fr < d0
  · rw [if_pos h1] at hR
    have t1 : (fr < d0) = True := eq_true h1
    clear he
    go_enter Try.func19, Try.ntmps19
    go_wp2_with fail
    refine CS.out.use ?_
    intro w1 b1
    go_wp2_with fail
    exact hR.out _ _ (World.ownsRow_nil _ _ _ _) b1
  · rw [if_neg h1] at he hR
    by_cases h2 : d1 < fr
    · rw [if_pos h2] at hR
      have t1 : (fr < d0) = False := eq_false h1
      have t2 : (d1 < fr) = True := eq_true h2
      clear he
      go_enter Try.func19, Try.ntmps19
      go_wp2_with fail
      refine CS.out.use ?_
      intro w1 b1
      go_wp2_with fail
      exact hR.out _ _ (World.ownsRow_nil _ _ _ _) b1
    · rw [if_neg h2] at he
      simp at he
end Go.Proofs.Ytkfglnhapcceaaa
