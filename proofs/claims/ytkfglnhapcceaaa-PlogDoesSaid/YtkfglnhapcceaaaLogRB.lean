import Derived.Test.YtkfglnhapcceaaaLogRA
/-
  Layer 6: the document's log read; its bytes.
-/
set_option linter.unusedVariables false
set_option linter.unusedSimpArgs false
namespace Go.Proofs.Ytkfglnhapcceaaa
open Go.RowKit
attribute [local go_sem] ByteArray.extract_mk ByteArray.mk_append_mk

theorem rtext_size6 {r : Rec} (h : r.ok = 0) : (rtext r.hk r.key r.tb r.val).length = (rput r.hk r.key r.tb r.val).1.length := by
  unfold rput
  rw [if_pos (show rcheck r.hk r.key r.tb r.val = 0 from h)]

set_option maxHeartbeats 4000000 in
set_option maxRecDepth 100000 in
theorem rread6_ok (k : Nat) (bs : List Nat) (room : Int) (D : List Sd) (fr n : Int) (w : World) (h : RLogAt w k bs room D) (hne : D ≠ []) (hl : D.length ≤ 1000) (hll : ∀ s ∈ D, s.l.length ≤ 64) (hd : (dall D).length ≤ 64000) (he : rerr fr D = 0) :
    FndsErr 27 #[.pointer (some ⟨k, 0, none⟩), .int .i64 fr, .int .i64 n] w 0 (readsR fr n (dall D)) := by
  refine FndsErr.intro fun R hR => ?_
  obtain ⟨i0, hi0, hz0, hz1, hz2⟩ := info_parts fndInfo
  have cS := Lib.hid (fun W (hb : Below w.heap.size w W) => rstart6 k bs room D W (h.below hb) hne hl)
  have cE := Lib.hid (fun W (hb : Below w.heap.size w W) => rend6 k bs room D W (h.below hb) hne hl)
  have cA := Lib.hid (fun W (hb : Below w.heap.size w W) => rall6 k bs room D W (h.below hb) hne hl hll)
  have hs1 : ¬ fr < dstart D := by unfold rerr at he; intro h; rw [if_pos h] at he; simp at he
  have hs2 : ¬ dend D < fr := by unfold rerr at he; intro h; rw [if_neg hs1, if_pos h] at he; simp at he
  generalize dstart D = d0 at *
  generalize dend D = d1 at *
  have t1 : (fr < d0) = False := eq_false hs1
  have t2 : (d1 < fr) = False := eq_false hs2
  generalize hL : dall D = l at *
  clear h he hll hL
  go_enter Try.func27, Try.ntmps27
  go_wp2_with fail
  refine (cS.out _ (Below.refl _ _)).use ?_
  intro w1 b1
  go_wp2_with fail
  refine (cE.out _ b1).use ?_
  intro w2 b2
  have b2 := below_any (Nat.le_refl _) b1 b2
  go_wp2_with fail
  refine (cA.out _ b2).use ?_
  intro v3 w3 o3 b3
  have hn3 := below_any (Nat.le_refl _) b2 b3
  have HF := Lib.hid (fnds_own o3)
  obtain ⟨la, lc, rfl⟩ := own_form o3
  have hz3 := hn3.size
  clear cS cE cA b1 b2 b3 o3 t1 t2
  go_wp2_with fail
  have o0 : (w3.alloc (.cells #[] 31)).ownsRow w3.heap.size 31 5 (.slice (some ⟨w3.heap.size, 0, none⟩) 0 0) 0 [] := World.ownsRow_made w3 #[] 0 (Nat.le_refl _) (by omega) rfl
  go_loopw [9, 10] (fun (v9 v10 : Value) (W : World) => ∃ (i : Nat), i ≤ l.length ∧ v10 = .int .i64 (i : Int) ∧ W.ownsRow w3.heap.size 31 5 v9 (readsR fr n (l.take i)).length ((readsR fr n (l.take i)).flatMap Fnd.cells) ∧ Below w3.heap.size w3 W) (fun (v9 v10 : Value) (W : World) => (l.length - intOf v10).toNat)
  case atStart => exact ⟨0, by omega, rfl, by simpa [readsR] using o0, below_all (Below.refl _ _)⟩
  case round =>
    obtain ⟨i, hil, rfl, hown, hnx⟩ := hrel
    clear o0
    by_cases hkl : i < l.length
    · rcases HF.out.below hnx with ⟨h, _⟩ | ⟨b, off, cap', hsl, hcap, hne, hlt, hc⟩
      · rw [h] at hkl; simp at hkl
      simp only [Value.slice.injEq, true_and] at hsl
      obtain ⟨rfl, rfl⟩ := hsl
      obtain ⟨x0, x1, x2, x3, x4⟩ := hc i hkl
      have hft := Lib.hid (readsR_take fr n l hkl)
      have hfl : (readsR fr n (l.take i)).length ≤ 100000 := by have := readsR_len fr n (l.take i); rw [List.length_take] at this; omega
      have i1 : (0 : Int) ≤ (i : Int) := by omega
      have i2 : (i : Int) < (l.length : Int) := by omega
      obtain ⟨fa, fc, rfl⟩ := own_form hown
      clear hc hne
      generalize l[i] = f at *
      generalize readsR fr n (l.take i) = fs at *
      by_cases h1 : fr ≤ f.off
      · by_cases h2 : (fs.length : Int) < n
        · have hsz := hnx.size
          have o3 := World.ownsRow.alloc hown (.cells f.cells.toArray 31)
          go_wp2_with (at_builtin; refine wpList_append_own _ rfl _ _ 24 rfl w3.heap.size 31 i0 _ 5 56 Try.underlying24 hi0 hz0 hz1 hz2 rfl (by decide) _ _ _ rfl o3 ⟨wr.heap.size, 0, none⟩ 1 1 f.cells rfl rfl (news_fnd f rfl) (by simp [Value.oneCell', Fnd.cells, Rec.cells]) (by unfold maxLen; omega) (by omega) (by simp; omega) ?_)
          intro v7 w7 o7 g7 _
          have G7 := Kept.below (below_all (o := .cells f.cells.toArray 31) hnx) (Kept.ofGrown g7) (by intro x hx; simp only [Option.mem_toList] at hx; exact (o3.lt x hx).1) (by simp; omega)
          clear g7 o3 hown
          go_wp2_with fail
          go_roundw
          case rel => exact ⟨i + 1, by omega, by go_num, by rw [hft.out, if_pos ⟨h1, h2⟩, List.flatMap_append, List.length_append]; simpa using o7, G7⟩
          case measure => simp [intOf]; omega
        · have h2F : ((fs.length : Int) < n) = False := eq_false h2
          go_wp2_with fail
          go_roundw
          case rel => exact ⟨i + 1, by omega, by go_num, by rw [hft.out, if_neg (fun h => h2 h.2)]; exact hown, hnx⟩
          case measure => simp [intOf]; omega
      · have h1F : (fr ≤ f.off) = False := eq_false h1
        go_wp2_with fail
        go_roundw
        case rel => exact ⟨i + 1, by omega, by go_num, by rw [hft.out, if_neg (fun h => h1 h.1)]; exact hown, hnx⟩
        case measure => simp [intOf]; omega
    · obtain rfl : i = l.length := by omega
      rw [List.take_length] at hown
      go_wp2_with fail
      exact hR.out _ _ (own_base hown hz3) (below_any (Nat.le_refl _) hn3 hnx)
theorem rread6_no (k : Nat) (bs : List Nat) (room : Int) (D : List Sd) (fr n : Int) (w : World) (h : RLogAt w k bs room D) (hne : D ≠ []) (hl : D.length ≤ 1000) (he : rerr fr D ≠ 0) :
    FndsErr 27 #[.pointer (some ⟨k, 0, none⟩), .int .i64 fr, .int .i64 n] w (rerr fr D) [] := by
  refine FndsErr.intro fun R hR => ?_
  have cS := Lib.hid (fun W (hb : Below w.heap.size w W) => rstart6 k bs room D W (h.below hb) hne hl)
  have cE := Lib.hid (fun W (hb : Below w.heap.size w W) => rend6 k bs room D W (h.below hb) hne hl)
  clear h
  unfold rerr at he hR
  generalize dstart D = d0 at *
  generalize dend D = d1 at *
  by_cases h1 : fr < d0
  · rw [if_pos h1] at hR
    have t1 : (fr < d0) = True := eq_true h1
    clear he
    go_enter Try.func27, Try.ntmps27
    go_wp2_with fail
    refine (cS.out _ (Below.refl _ _)).use ?_
    intro w1 b1
    go_wp2_with fail
    exact hR.out _ _ (World.ownsRow_nil _ _ _ _) b1
  · rw [if_neg h1] at he hR
    by_cases h2 : d1 < fr
    · rw [if_pos h2] at hR
      have t1 : (fr < d0) = False := eq_false h1
      have t2 : (d1 < fr) = True := eq_true h2
      clear he
      go_enter Try.func27, Try.ntmps27
      go_wp2_with fail
      refine (cS.out _ (Below.refl _ _)).use ?_
      intro w1 b1
      go_wp2_with fail
      refine (cE.out _ b1).use ?_
      intro w2 b2
      go_wp2_with fail
      exact hR.out _ _ (World.ownsRow_nil _ _ _ _) (below_any (Nat.le_refl _) b1 b2)
    · rw [if_neg h2] at he
      simp at he

set_option maxHeartbeats 4000000 in
theorem rbytes6 (k : Nat) (bs : List Nat) (room : Int) (D : List Sd) (w : World) (h : RLogAt w k bs room D) (hne : D ≠ []) (hl : D.length ≤ 1000) (hll : ∀ s ∈ D, s.l.length ≤ 64) (hd : (dall D).length ≤ 64000) (hok : ∀ f ∈ dall D, f.r.ok = 0) :
    RetB Try.prog 45 #[.pointer (some ⟨k, 0, none⟩)] w (.int .i64 (fbytes (dall D) : Nat)) := by
  refine RetB.intro fun R hR => ?_
  have cA := Lib.hid (rall6 k bs room D w h hne hl hll)
  generalize dall D = l at *
  have HO := Lib.hid hok
  clear h hll hok
  go_enter Try.func45, Try.ntmps45
  go_wp2_with fail
  refine cA.out.use ?_
  intro v1 w1 o1 b1
  have HL := Lib.hid (fnds_own o1)
  obtain ⟨la, lc, rfl⟩ := own_form o1
  clear o1 cA
  go_wp2_with fail
  go_loopw [4, 5] (fun (v4 v5 : Value) (wr : World) => ∃ k : Nat, k ≤ l.length ∧ v4 = .int .i64 (fbytes (l.take k) : Nat) ∧ v5 = .int .i64 (k : Int) ∧ Below w1.heap.size w1 wr) (fun (v4 v5 : Value) (wr : World) => (l.length - intOf v5).toNat)
  case atStart => exact ⟨0, by omega, by simp [fbytes], rfl, Below.refl _ _⟩
  case round =>
    obtain ⟨k, hk, rfl, rfl, hnx⟩ := hrel
    by_cases hkl : k < l.length
    · rcases HL.out.below hnx with ⟨h, _⟩ | ⟨b, off, cap, hsl, _, _, hlt, hc⟩
      · rw [h] at hkl; simp at hkl
      simp only [Value.slice.injEq, true_and] at hsl
      obtain ⟨rfl, rfl⟩ := hsl
      obtain ⟨x0, x1, x2, x3, x4⟩ := hc k hkl
      have hss : Hid (fbytes (l.take (k + 1)) = fbytes (l.take k) + l[k].size) := Lib.hid (fbytes_take l hkl)
      have hz := l[k].size_le
      have hok := HO.out _ (List.getElem_mem hkl)
      have hbd := rcheck_ok hok
      have cZ := fun w => r3text_any l[k].r.hk l[k].r.tb l[k].r.key l[k].r.val w (by have := hbd.2.2.2.1; omega) (by have := hbd.2.2.2.2; omega)
      have hzz : (rtext l[k].r.hk l[k].r.key l[k].r.tb l[k].r.val).length = l[k].size := rtext_size6 hok
      have hfl : fbytes (l.take k) ≤ 2021 * 100000 := by have := fbytes_le (l.take k); rw [List.length_take] at this; omega
      have i1 : (0 : Int) ≤ (k : Int) := by omega
      have i2 : (k : Int) < (l.length : Int) := by omega
      clear hc hbd hok
      generalize l[k] = f at *
      generalize rtext f.r.hk f.r.key f.r.tb f.r.val = tx at *
      generalize f.size = z at *
      generalize fbytes (l.take k) = s at *
      have e1 : IntKind.i64.wrap ((s : Int) + (z : Int)) = (s : Int) + (z : Int) := by rw [IntKind.wrap_i64]; omega
      have e2 : IntKind.i64.wrap ((s : Int) + (tx.length : Int)) = (s : Int) + (tx.length : Int) := by rw [IntKind.wrap_i64]; omega
      have HZ := Lib.hid hzz
      clear hzz
      go_wp2_with fail
      refine (cZ _).use ?_
      intro w2 b2
      go_wp2_with fail
      go_roundw
      case rel => exact ⟨k + 1, by omega, by rw [hss.out, ← HZ.out]; rfl, by go_num, below_any (Nat.le_refl _) hnx b2⟩
      case measure => simp [intOf]; omega
    · obtain rfl : k = l.length := by omega
      rw [List.take_length]
      go_wp2_with fail
      exact finB hR (below_any (Nat.le_refl _) b1 hnx) rfl
end Go.Proofs.Ytkfglnhapcceaaa
