import Derived.Test.YtkgpckfaghpgmaaSegS
/-
  Layer 5: the document's segment read; records let go by it; a segment copied.
-/
set_option linter.unusedVariables false
set_option linter.unusedSimpArgs false
namespace Go.Proofs.Ytkgpckfaghpgmaa
open Go.RowKit
attribute [local go_sem] ByteArray.extract_mk ByteArray.mk_append_mk

/-- The document's reading: from an offset on, so many at most. -/
def readsR (fr n : Int) (l : List Fnd) : List Fnd := (l.filter fun f => decide (fr ≤ f.off)).take n.toNat
theorem readsR_snoc (fr n : Int) (l : List Fnd) (f : Fnd) : readsR fr n (l ++ [f]) = if fr ≤ f.off ∧ ((readsR fr n l).length : Int) < n then readsR fr n l ++ [f] else readsR fr n l := by
  unfold readsR
  rw [List.filter_append]
  by_cases h1 : fr ≤ f.off
  · have hf : [f].filter (fun f => decide (fr ≤ f.off)) = [f] := by simp [h1]
    rw [hf]
    by_cases h2 : (((l.filter fun f => decide (fr ≤ f.off)).take n.toNat).length : Int) < n
    · rw [if_pos ⟨h1, h2⟩]
      rw [List.length_take] at h2
      have h3 : (l.filter fun f => decide (fr ≤ f.off)).length < n.toNat := by omega
      rw [List.take_of_length_le (by simp; omega), List.take_of_length_le (by omega)]
    · rw [if_neg (by rintro ⟨_, h⟩; exact h2 h)]
      rw [List.length_take] at h2
      rw [List.take_append_of_le_length (by omega)]
  · have hf : [f].filter (fun f => decide (fr ≤ f.off)) = [] := by simp [h1]
    rw [hf, List.append_nil, if_neg (by rintro ⟨h, _⟩; exact h1 h)]
theorem readsR_take (fr n : Int) (l : List Fnd) {k : Nat} (hk : k < l.length) : readsR fr n (l.take (k + 1)) = if fr ≤ l[k].off ∧ ((readsR fr n (l.take k)).length : Int) < n then readsR fr n (l.take k) ++ [l[k]] else readsR fr n (l.take k) := by
  rw [List.take_succ_eq_append_getElem hk, readsR_snoc]
theorem readsR_len (fr n : Int) (l : List Fnd) : (readsR fr n l).length ≤ l.length := by
  unfold readsR
  rw [List.length_take]
  have := List.length_filter_le (fun f => decide (fr ≤ f.off)) l
  omega
theorem filter_drop {fr : Int} : ∀ {l : List Fnd}, (∀ i j, (hi : i < j) → (hj : j < l.length) → (l[i]'(by omega)).off < l[j].off) → l.filter (fun f => decide (fr ≤ f.off)) = l.drop (place fr l)
  | [], _ => rfl
  | f :: l, h => by
    have ih := filter_drop (fr := fr) (l := l) fun i j hi hj => by
      have := h (i + 1) (j + 1) (by omega) (by simpa using hj)
      simpa using this
    by_cases h1 : fr ≤ f.off
    · have hp : place fr (f :: l) = 0 := place_eq (by omega) (fun j h => by omega) (fun _ => by simp; omega)
      rw [hp, List.drop_zero, List.filter_cons, if_pos (by simpa using h1)]
      congr 1
      refine List.filter_eq_self.2 fun g hg => ?_
      obtain ⟨i, hi, rfl⟩ := List.getElem_of_mem hg
      have := h 0 (i + 1) (by omega) (by simpa using hi)
      simp at this ⊢
      omega
    · have hp : place fr (f :: l) = place fr l + 1 := by
        unfold place
        rw [List.takeWhile_cons, if_pos (by simp; omega), List.length_cons]
      rw [hp, List.drop_succ_cons, List.filter_cons, if_neg (by simpa using h1), ih]
theorem readsR_eq {fr n : Int} {l : List Fnd} (h : Rising l) : readsR fr n l = reads fr n l := by
  unfold readsR reads
  rw [filter_drop h]
  generalize l.drop (place fr l) = m
  by_cases h1 : n ≤ m.length
  · rw [show (max 0 (min n (m.length : Int))).toNat = n.toNat by omega]
  · rw [show (max 0 (min n (m.length : Int))).toNat = m.length by omega, List.take_length, List.take_of_length_le (by omega)]

set_option maxHeartbeats 4000000 in
set_option maxRecDepth 100000 in
theorem rread5 (p : Nat) (base next : Int) (l : List Fnd) (fr n : Int) (w : World) (h : RSegAt w p base next l) (hr : Rising l) (hl : l.length ≤ 100000) :
    FndsCall 25 #[.pointer (some ⟨p, 0, none⟩), .int .i64 fr, .int .i64 n] w (reads fr n l) := by
  rw [← readsR_eq hr]
  refine FndsCall.intro fun R hR => ?_
  obtain ⟨i0, hi0, hz0, hz1, hz2⟩ := info_parts fndInfo
  have HS := Lib.hid h
  have o0 : (w.alloc (.cells #[] 26)).ownsRow w.heap.size 26 5 (.slice (some ⟨w.heap.size, 0, none⟩) 0 0) 0 [] := World.ownsRow_made w #[] 0 (Nat.le_refl _) (by omega) rfl
  clear h
  go_enter Try.func25, Try.ntmps25
  go_wp2_with fail
  go_loopw [7, 8] (fun (v7 v8 : Value) (W : World) => ∃ (k : Nat), k ≤ l.length ∧ v8 = .int .i64 (k : Int) ∧ W.ownsRow w.heap.size 26 5 v7 (readsR fr n (l.take k)).length ((readsR fr n (l.take k)).flatMap Fnd.cells) ∧ Below w.heap.size w W) (fun (v7 v8 : Value) (W : World) => (l.length - intOf v8).toNat)
  case atStart => exact ⟨0, by omega, rfl, by simpa [readsR] using o0, below_all (Below.refl _ _)⟩
  case round =>
    obtain ⟨k, hk, rfl, hown, hnx⟩ := hrel
    obtain ⟨lv, hp, hpl⟩ := HS.out.below hnx
    obtain ⟨la, lc, rfl⟩ := hpl.form
    obtain ⟨k0, c0, c1, c2⟩ := hp.c3
    by_cases hkl : k < l.length
    · rcases hpl with ⟨h, _⟩ | ⟨b, off, cap', hsl, hcap, hne, hlt, hc⟩
      · rw [h] at hkl; simp at hkl
      simp only [Value.slice.injEq, true_and] at hsl
      obtain ⟨rfl, rfl⟩ := hsl
      obtain ⟨x0, x1, x2, x3, x4⟩ := hc k hkl
      have hft := Lib.hid (readsR_take fr n l hkl)
      have hfl : (readsR fr n (l.take k)).length ≤ 100000 := by have := readsR_len fr n (l.take k); rw [List.length_take] at this; omega
      have i1 : (0 : Int) ≤ (k : Int) := by omega
      have i2 : (k : Int) < (l.length : Int) := by omega
      obtain ⟨fa, fc, rfl⟩ := own_form hown
      clear hc hne hp
      generalize l[k] = f at *
      generalize readsR fr n (l.take k) = fs at *
      by_cases h1 : fr ≤ f.off
      · by_cases h2 : (fs.length : Int) < n
        · have hsz := hnx.size
          have o3 := World.ownsRow.alloc hown (.cells f.cells.toArray 26)
          go_wp2_with (at_builtin; refine wpList_append_own _ rfl _ _ 22 rfl w.heap.size 26 i0 _ 5 56 Try.underlying22 hi0 hz0 hz1 hz2 rfl (by decide) _ _ _ rfl o3 ⟨wr.heap.size, 0, none⟩ 1 1 f.cells rfl rfl (news_fnd f rfl) (by simp [Value.oneCell', Fnd.cells, Rec.cells]) (by unfold maxLen; omega) (by omega) (by simp; omega) ?_)
          intro v7 w7 o7 g7 _
          have G7 := Kept.below (below_all (o := .cells f.cells.toArray 26) hnx) (Kept.ofGrown g7) (by intro x hx; simp only [Option.mem_toList] at hx; exact (o3.lt x hx).1) (by simp; omega)
          clear g7 o3 hown
          go_wp2_with fail
          go_roundw
          case rel => exact ⟨k + 1, by omega, by go_num, by rw [hft.out, if_pos ⟨h1, h2⟩, List.flatMap_append, List.length_append]; simpa using o7, G7⟩
          case measure => simp [intOf]; omega
        · have h2F : ((fs.length : Int) < n) = False := eq_false h2
          go_wp2_with fail
          go_roundw
          case rel => exact ⟨k + 1, by omega, by go_num, by rw [hft.out, if_neg (fun h => h2 h.2)]; exact hown, hnx⟩
          case measure => simp [intOf]; omega
      · have h1F : (fr ≤ f.off) = False := eq_false h1
        go_wp2_with fail
        go_roundw
        case rel => exact ⟨k + 1, by omega, by go_num, by rw [hft.out, if_neg (fun h => h1 h.1)]; exact hown, hnx⟩
        case measure => simp [intOf]; omega
    · obtain rfl : k = l.length := by omega
      rw [List.take_length] at hown
      clear hp hpl
      go_wp2_with fail
      exact hR.out _ _ hown hnx

set_option maxHeartbeats 4000000 in
/-- A copy: a segment of its own. -/
theorem copy5 (p : Nat) (bs : List Nat) (base next : Int) (l : List Fnd) (w : World) (h : SegAt w p bs base next l) (hl : l.length ≤ 100000) :
    Calls Try.prog 27 #[.pointer (some ⟨p, 0, none⟩)] w fun x w' => ∃ q cs, x = .returned (.pointer (some ⟨q, 0, none⟩)) ∧ SegAt w' q cs base next l ∧ Below w.heap.size w w' ∧ ∀ x ∈ cs, w.heap.size ≤ x := by
  have HS := Lib.hid h
  have cC := Lib.hid (fun v w hv => clone5 v l w hv (by omega))
  have cN := Lib.hid (fun v w hv => cloneN5 v (idx l) w hv (by have := idx_len l; omega))
  obtain ⟨lv, iv, hp, hlo, hio, hbs⟩ := h
  have P0 : Below w.heap.size w w.drew := (Below.refl _ _).drew
  have HL := Lib.hid (fnds_own hlo)
  have HI := Lib.hid (nums_own hio)
  have HP := Lib.hid hp
  obtain ⟨la, lc, rfl⟩ := own_form hlo
  obtain ⟨ia, ic, rfl⟩ := own_form hio
  obtain ⟨k0, c0, c1, c2, c3⟩ := hp.c4
  clear hp hlo hio hbs HS
  go_enter Try.func27, Try.ntmps27
  go_wp2_with fail
  go_region_held3 (fun w' => w'.cell? ⟨p, 0, none⟩ = some (.int .i64 base) ∧ w'.cell? ⟨p, 1, none⟩ = some (.int .i64 next) ∧ w'.cell? ⟨p, 2, none⟩ = some (.slice la l.length lc) ∧ w'.cell? ⟨p, 3, none⟩ = some (.slice ia (idx l).length ic)) (go_keep) (first | (go_at_call 32; refine (cC.out _ _ (HL.out.below (by assumption))).use ?_; intro v1 W O1 hb; have P := below_any (Nat.le_refl _) (by assumption) hb; obtain ⟨_, xx0, xx1, xx2, xx3⟩ := (HP.out.below P).c4; obtain ⟨qa, qc, rfl⟩ := own_form O1; have P1 := P; have Q1 := Lib.hid O1) | (go_at_call 40; refine (cN.out _ _ (HI.out.below (by assumption))).use ?_; intro v2 W O2 hb; have P := below_any (Nat.le_refl _) (by assumption) hb; obtain ⟨_, xx0, xx1, xx2, xx3⟩ := (HP.out.below P).c4; obtain ⟨ra, rc, rfl⟩ := own_form O2; have hb2 := hb))
  all_goals go_wp2_with fail
  all_goals go_ret
  all_goals
    have o1 := own_keptBy Q1.out (Kept.ofBelow hb2 []) (away_nil _)
    have z1 := P1.size
    have z2 := P.size
    refine ⟨W.heap.size, _, rfl, ⟨_, _, Blk.new W _ _, World.ownsRow.alloc (own_base o1 (Nat.zero_le _)) _, World.ownsRow.alloc (own_base O2 (Nat.zero_le _)) _, rfl⟩, below_all P, fun x hx => ?_⟩
    simp only [List.mem_cons, List.mem_append, Option.mem_toList] at hx
    rcases hx with rfl | hx | hx
    · exact z2
    · exact (o1.lt x hx).1
    · have := (O2.lt x hx).1
      omega
end Go.Proofs.Ytkgpckfaghpgmaa
