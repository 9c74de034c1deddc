import Derived.Test.YtkgpckfaghpgmaaSegF
import Derived.Maps.Own
import Derived.Maps.OwnOps
import Derived.Maps.Views
/-
  Layer 5: records kept by their offsets.
-/
set_option linter.unusedVariables false
set_option linter.unusedSimpArgs false
namespace Go.Proofs.Ytkgpckfaghpgmaa
open Go.RowKit Go.Maps
attribute [local go_sem] ByteArray.extract_mk ByteArray.mk_append_mk

/-- The map that has these keys. -/
def mapD (l : List Int) : DataW Unit := l.foldl (fun D n => D.put (.int .i64 n) (.lit (.bool true))) (.map [])
theorem mapD_snoc (l : List Int) (n : Int) : mapD (l ++ [n]) = (mapD l).put (.int .i64 n) (.lit (.bool true)) := by simp [mapD, List.foldl_append]
theorem snoc_indI {P : List Int → Prop} (h0 : P []) (h1 : ∀ l f, P l → P (l ++ [f])) : ∀ l, P l := by
  have h : ∀ m : List Int, P m.reverse := by
    intro m
    induction m with
    | nil => exact h0
    | cons f m ih => rw [List.reverse_cons]; exact h1 _ _ ih
  intro l
  simpa using h l.reverse
theorem mapD_isMap : ∀ l, IsMap (mapD l) := snoc_indI isMap_empty fun l n ih => by rw [mapD_snoc]; exact ih.put _ _
theorem mapD_at (n : Int) : ∀ l, (mapD l).atKey (.int .i64 n) (.lit (.bool false)) = .lit (.bool (decide (n ∈ l))) := snoc_indI (by simp [mapD]; rfl) fun l m ih => by
  rw [mapD_snoc]
  by_cases h : n = m
  · subst h
    rw [atKey_put_same (mapD_isMap l) (by trivial)]
    simp
  · rw [atKey_put_other (by simpa using h), ih]
    simp [h]
theorem keyI : Keyed Try.prog 3 := int_keyed Try.underlying3
theorem zeroB (w : World) : (zeroValue 4).run Try.prog w = .ok (.bool false) w := by kernel_rfl
/-- A block that is the map of these keys. -/
def KMap (w : World) (b : Nat) (l : List Int) : Prop := w.ownsMap Try.prog 3 (plainElem Try.prog 4) b l.length (mapD l)
theorem kmap_look {w : World} {b : Nat} {l : List Int} (h : KMap w b l) (n : Int) (hn : (Lit.int .i64 n).wf = true) : (Instr.lookup 76 (.map (some b)) (.int .i64 n) false).run Try.prog w = .ok (.bool (decide (n ∈ l))) w := by
  obtain ⟨v, ps, hrun, hv⟩ := World.ownsMap.lookup h keyI Try.underlying76 (zeroB w) (plainElem_bool Try.underlying4 false) (keyOf_int_mk Try.underlying3 hn)
  rw [mapD_at] at hv
  have he : v = .bool (decide (n ∈ l)) := by
    unfold plainElem at hv
    rw [Try.underlying4] at hv
    split at hv <;> simp_all
  rw [hrun, he]

theorem KMap.keptBy {bs : List Nat} {w W : World} {b : Nat} {l : List Int} (h : KMap w b l) (k : Kept bs w W) (hn : b ∉ bs) : KMap W b l := by
  have hlt := World.ownsMap.lt h
  obtain ⟨es, clock, hb, rest⟩ := h
  exact ⟨es, clock, (k.block b hlt hn).trans hb, rest⟩
/-- What is kept. -/
def keeps (ks : List Int) (l : List Fnd) : List Fnd := l.filter fun f => decide (f.off ∈ ks)
theorem keeps_take (ks : List Int) (l : List Fnd) {k : Nat} (hk : k < l.length) : keeps ks (l.take (k + 1)) = keeps ks (l.take k) ++ if l[k].off ∈ ks then [l[k]] else [] := by
  unfold keeps
  rw [List.take_succ_eq_append_getElem hk, List.filter_append]
  congr 1
  by_cases h : l[k].off ∈ ks <;> simp [h]
theorem keeps_len (ks : List Int) (l : List Fnd) : (keeps ks l).length ≤ l.length := List.length_filter_le ..

set_option maxHeartbeats 4000000 in
set_option maxRecDepth 100000 in
theorem keep5 (p : Nat) (bs : List Nat) (base next : Int) (l : List Fnd) (v : Value) (ks : List Int) (w : World) (h : SegAt w p bs base next l) (hv : NumsIn w v ks) (hks : ∀ n ∈ ks, (Lit.int .i64 n).wf = true) (hkl : ks.length ≤ 100000) (hl : l.length ≤ 100000) (hof : ∀ f ∈ l, (Lit.int .i64 f.off).wf = true) :
    SegCall 22 #[.pointer (some ⟨p, 0, none⟩), v] w p bs (.int .i64 ((l.length : Int) - (keeps ks l).length)) base next (keeps ks l) := by
  refine SegCall.intro fun R hR => ?_
  have HS := Lib.hid h
  have HK := Lib.hid hks
  have HO := Lib.hid hof
  have HV := Lib.hid hv
  have hm := h.mem
  have k0 := h.c4.1
  obtain ⟨va, vc, rfl⟩ := hv.form
  clear h hks hof hv
  have hmm := @run_makeMap Try.prog
  go_enter Try.func22, Try.ntmps22
  go_wp2_with fail
  go_loopw [7, 14] (fun (v7 v14 : Value) (W : World) => ∃ k : Nat, k ≤ ks.length ∧ v14 = .int .i64 (k : Int) ∧ KMap W w.heap.size (ks.take k) ∧ Below w.heap.size w W) (fun (v7 v14 : Value) (W : World) => (ks.length - intOf v14).toNat)
  case atStart => exact ⟨0, by omega, rfl, World.ownsMap_made _ _ _ _, below_all (Below.refl _ _)⟩
  case round =>
    obtain ⟨k, hk, rfl, hown, hnx⟩ := hrel
    by_cases hkl2 : k < ks.length
    · have hin := HV.out.below hnx
      rcases hin with ⟨h, _⟩ | ⟨b, off, cap, hsl, hcap, hne, hlt, hc⟩
      · rw [h] at hkl2; simp at hkl2
      simp only [Value.slice.injEq, true_and] at hsl
      obtain ⟨rfl, rfl⟩ := hsl
      have hci := hc k hkl2
      have hwf := HK.out _ (List.getElem_mem hkl2)
      have hts : Hid (ks.take (k + 1) = ks.take k ++ [ks[k]]) := Lib.hid (List.take_succ_eq_append_getElem hkl2)
      have htl : (ks.take k).length = k := by rw [List.length_take]; omega
      have hkey := keyOf_int_mk Try.underlying3 hwf
      unfold KMap at hown
      rw [htl] at hown
      clear hc hne
      generalize ks[k] = x at *
      go_wp2_with (at_mapUpdate; refine wpList_mapUpdate_own _ rfl _ _ _ 76 rfl 3 4 keyI Try.underlying76 _ w.heap.size k _ rfl hown (by unfold maxLen; omega) _ _ _ rfl rfl hkey _ [] (plainElem_bool Try.underlying4 true) ?_)
      intro w1 hown1 hgrow1
      have R2 := below_own hnx (Nat.le_refl _) hnx.size hgrow1
      have R1 : KMap w1 w.heap.size (ks.take (k + 1)) := by
        rw [hts.out]
        unfold KMap
        rw [mapD_snoc, List.length_append, htl]
        exact hown1
      clear hown1 hgrow1 hown htl
      go_wp2_with fail
      go_roundw
      case rel => exact ⟨k + 1, by omega, by go_num, R1, R2⟩
      case measure => simp [intOf]; omega
    · obtain rfl : k = ks.length := by omega
      rw [List.take_length] at hown
      have S1 := HS.out.below hnx
      obtain ⟨lv, iv, hp, hlo, hio, hbs⟩ := S1
      have hpl := Lib.hid (fnds_own hlo)
      have hpn := own_ne hlo hp (by decide)
      have hll := fun b hb => own_lt hlo b hb
      obtain ⟨la, lc, rfl⟩ := own_form hlo
      obtain ⟨kk, c0, c1, c2, c3⟩ := hp.c4
      have cf := fun i => Blk.frozen hp i
      go_wp2_with fail
      have hg2 : wr.grownBy ((wr.setCell ⟨p, 2, none⟩ (.slice none 0 0)).setCell ⟨p, 3, none⟩ (.slice none 0 0)) (some p) := grown_set (grown_set (grown_refl _ _) _ _) _ _
      have hp2 := (hp.set 2 (.slice none 0 0)).set 3 (.slice none 0 0)
      have S2 : SegAt ((wr.setCell ⟨p, 2, none⟩ (.slice none 0 0)).setCell ⟨p, 3, none⟩ (.slice none 0 0)) p [p] base next [] := ⟨.slice none 0 0, .slice none 0 0, hp2, World.ownsRow_nil _ _ _ _, World.ownsRow_nil _ _ _ _, rfl⟩
      have K2 : Kept [p] wr ((wr.setCell ⟨p, 2, none⟩ (.slice none 0 0)).setCell ⟨p, 3, none⟩ (.slice none 0 0)) := Kept.ofGrown hg2
      have M2 : KMap ((wr.setCell ⟨p, 2, none⟩ (.slice none 0 0)).setCell ⟨p, 3, none⟩ (.slice none 0 0)) w.heap.size ks := World.ownsMap.kept hown hg2 (by simp; omega)
      have P2 := Lib.hid (hpl.out.kept K2 (fun b hb hm => by simp at hm; subst hm; exact hpn hb.symm))
      have aw : Away [p] (.slice la l.length lc) := fun b hb hm => by simp at hm; subst hm; exact hpn hb.symm
      have KB : Kept bs w ((wr.setCell ⟨p, 2, none⟩ (.slice none 0 0)).setCell ⟨p, 3, none⟩ (.slice none 0 0)) := (Kept.ofBelow hnx bs).trans K2 (fun x hx => .inl (by simp at hx; subst hx; exact hm))
      have hsz : w.heap.size < ((wr.setCell ⟨p, 2, none⟩ (.slice none 0 0)).setCell ⟨p, 3, none⟩ (.slice none 0 0)).heap.size := World.ownsMap.lt M2
      generalize (wr.setCell ⟨p, 2, none⟩ (.slice none 0 0)).setCell ⟨p, 3, none⟩ (.slice none 0 0) = W2 at S2 K2 M2 P2 KB hsz ⊢
      clear hg2 hp2 hpl hpn hll hp hlo hio hown hnx c0 c1 c2 c3 cf kk hbs HV hmm K2
      go_loopw [10, 33] (fun (v10 v33 : Value) (W : World) => ∃ (k : Nat) (cs : List Nat), k ≤ l.length ∧ v33 = .int .i64 (k : Int) ∧ SegAt W p cs base next (keeps ks (l.take k)) ∧ Kept [p] W2 W ∧ ∀ x ∈ cs, x = p ∨ W2.heap.size ≤ x) (fun (v10 v33 : Value) (W : World) => (l.length - intOf v33).toNat)
      case atStart => exact ⟨0, [p], by omega, rfl, S2, Kept.refl _ _, fun x hx => .inl (by simpa using hx)⟩
      case round =>
        obtain ⟨k, cs, hk, rfl, hS, hK, hcs⟩ := hrel
        by_cases hkl : k < l.length
        · have hr := P2.out.kept hK aw
          rcases hr with ⟨h, _⟩ | ⟨b, off, cap, hsl, hcap, hne, hlt, hc⟩
          · rw [h] at hkl; simp at hkl
          simp only [Value.slice.injEq, true_and] at hsl
          obtain ⟨rfl, rfl⟩ := hsl
          obtain ⟨x0, x1, x2, x3, x4⟩ := hc k hkl
          have hft := Lib.hid (keeps_take ks l hkl)
          have hfl : (keeps ks (l.take k)).length ≤ 100000 := by have := keeps_len ks (l.take k); rw [List.length_take] at this; omega
          have hwf := HO.out _ (List.getElem_mem hkl)
          have hMp : KMap wr w.heap.size ks := KMap.keptBy M2 hK (by simp; omega)
          generalize l[k] = f at *
          generalize keeps ks (l.take k) = fs at *
          have hlk := kmap_look (World.ownsMap.alloc hMp (.cells #[.int .i64 f.off, .bool f.r.hk, .string (S f.r.key), .bool f.r.tb, .string (S f.r.val)] 26)) f.off hwf
          have hS2 := hS.below (below_all (o := .cells #[.int .i64 f.off, .bool f.r.hk, .string (S f.r.key), .bool f.r.tb, .string (S f.r.val)] 26) (Below.refl _ _))
          have hK2 := hK.bel (below_all (o := .cells #[.int .i64 f.off, .bool f.r.hk, .string (S f.r.key), .bool f.r.tb, .string (S f.r.val)] 26) (Below.refl _ _))
          clear hc hne
          by_cases hin : f.off ∈ ks
          · rw [decide_eq_true hin] at hlk
            have CP := Lib.hid (put5 p cs base next fs f _ hS2 hfl)
            unfold Fnd.val at CP
            go_wp2_with fail
            refine CP.out.use ?_
            intro cs2 w2 S3 K3 N3
            have hcs2 : ∀ x ∈ cs2, x = p ∨ W2.heap.size ≤ x := fun x hx => (N3 x hx).elim (hcs x) fun h => .inr (Nat.le_trans hK2.size h)
            go_wp2_with fail
            go_roundw
            case rel => exact ⟨k + 1, cs2, by omega, by go_num, by rw [hft.out, if_pos hin]; exact S3, hK2.trans K3 (fun x hx => (hcs x hx).elim (fun e => .inl (by simp [e])) .inr), hcs2⟩
            case measure => simp [intOf]; omega
          · rw [decide_eq_false hin] at hlk
            go_wp2_with fail
            go_roundw
            case rel => exact ⟨k + 1, cs, by omega, by go_num, by rw [hft.out, if_neg hin, List.append_nil]; exact hS2, hK2, hcs⟩
            case measure => simp [intOf]; omega
        · obtain rfl : k = l.length := by omega
          rw [List.take_length] at hS
          obtain ⟨k1, c0, c1, ⟨la2, lc2, c2⟩, ⟨ia2, ic2, c3⟩, cf⟩ := hS.c4
          have hkp := keeps_len ks l
          have e1 : IntKind.i64.wrap ((l.length : Int) - ((keeps ks l).length : Int)) = (l.length : Int) - ((keeps ks l).length : Int) := by rw [IntKind.wrap_i64]; omega
          go_wp2_with fail
          have hz := KB.size
          exact hR.out cs _ hS (KB.trans hK (fun x hx => .inl (by simp at hx; subst hx; exact hm))) (fun x hx => (hcs x hx).elim (fun e => .inl (by rw [e]; exact hm)) fun h => .inr (by omega))
end Go.Proofs.Ytkgpckfaghpgmaa
