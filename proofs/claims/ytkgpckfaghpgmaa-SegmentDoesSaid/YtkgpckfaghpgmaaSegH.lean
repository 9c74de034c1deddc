import Derived.Test.YtkgpckfaghpgmaaSegG
/-
  Layer 5: a segment loaded.
-/
set_option linter.unusedVariables false
set_option linter.unusedSimpArgs false
namespace Go.Proofs.Ytkgpckfaghpgmaa
open Go.RowKit Go.Maps
attribute [local go_sem] ByteArray.extract_mk ByteArray.mk_append_mk

/-- Do the offsets rise, from behind last on, up to next? -/
def inOrder (last next : Int) : List Fnd → Bool
  | [] => true
  | f :: l => decide (last < f.off) && decide (f.off < next) && inOrder f.off next l
/-- What a loading comes to. -/
def lerr (base next : Int) (l : List Fnd) : Nat :=
  if (!numB base || !numB next || decide (next < base) || decide (64 < l.length)) = true then 1 else if inOrder (base - 1) next l = false then 1 else rchecks (l.map Fnd.r)
/-- The last offset of those that were put. -/
def lastOf (base : Int) (l : List Fnd) (k : Nat) : Int := if h : 0 < k ∧ k - 1 < l.length then (l[k - 1]'h.2).off else base - 1
theorem lastOf_step (base : Int) (l : List Fnd) {k : Nat} (hk : k < l.length) : lastOf base l (k + 1) = l[k].off := by
  unfold lastOf
  rw [dif_pos ⟨by omega, by simpa using hk⟩]
  simp
theorem order_step {base next : Int} {l : List Fnd} {k : Nat} (hk : k < l.length) : inOrder (lastOf base l k) next (l.drop k) = (decide (lastOf base l k < l[k].off) && decide (l[k].off < next) && inOrder (lastOf base l (k + 1)) next (l.drop (k + 1))) := by
  rw [lastOf_step base l hk, List.drop_eq_getElem_cons hk]
  rfl

set_option maxHeartbeats 4000000 in
set_option maxRecDepth 100000 in
theorem load5_args (base next : Int) (v : Value) (l : List Fnd) (w : World) (hv : FndsIn w v l) (hll : l.length ≤ 9223372036854775807) (h : (!numB base || !numB next || decide (next < base) || decide (64 < l.length)) = true) :
    RetB Try.prog 9 #[.int .i64 base, .int .i64 next, v] w (.tuple #[.pointer none, .int .i64 1]) := by
  refine RetB.intro fun R hR => ?_
  obtain ⟨a, cap, rfl⟩ := hv.form
  clear hv
  have c1 := fun w => offset5 base w
  have c2 := fun w => offset5 next w
  by_cases h1 : numB base = true
  · rw [h1] at c1
    by_cases h2 : numB next = true
    · rw [h2] at c2
      by_cases h3 : next < base
      · clear h h1 h2
        go_enter Try.func9, Try.ntmps9
        go_wp2_with (first | (go_at_call_of 28 (Value.int .i64 base); refine (c1 _).use ?_) | (go_at_call_of 28 (Value.int .i64 next); refine (c2 _).use ?_))
        exact finB hR (Below.refl _ _) rfl
      · have h4 : 64 < l.length := by simpa [h1, h2, h3] using h
        have h5 : ((64 : Int) < (l.length : Int)) = True := eq_true (by omega)
        clear h h1 h2
        go_enter Try.func9, Try.ntmps9
        go_wp2_with (first | (go_at_call_of 28 (Value.int .i64 base); refine (c1 _).use ?_) | (go_at_call_of 28 (Value.int .i64 next); refine (c2 _).use ?_))
        exact finB hR (Below.refl _ _) rfl
    · have h2 : numB next = false := by simpa using h2
      rw [h2] at c2
      clear h h1 h2
      go_enter Try.func9, Try.ntmps9
      go_wp2_with (first | (go_at_call_of 28 (Value.int .i64 base); refine (c1 _).use ?_) | (go_at_call_of 28 (Value.int .i64 next); refine (c2 _).use ?_))
      exact finB hR (Below.refl _ _) rfl
  · have h1 : numB base = false := by simpa using h1
    rw [h1] at c1
    clear h h1
    go_enter Try.func9, Try.ntmps9
    go_wp2_with (first | (go_at_call_of 28 (Value.int .i64 base); refine (c1 _).use ?_) | (go_at_call_of 28 (Value.int .i64 next); refine (c2 _).use ?_))
    exact finB hR (Below.refl _ _) rfl

/-- How a loading ends. -/
def LoadCall (f : FuncId) (args : Array Value) (w : World) (base next : Int) (l : List Fnd) : Prop :=
  Calls Try.prog f args w fun x w' => (lerr base next l = 0 ∧ ∃ p bs, x = .returned (.tuple #[.pointer (some ⟨p, 0, none⟩), .int .i64 0]) ∧ SegAt w' p bs base next l ∧ Below w.heap.size w w' ∧ ∀ x ∈ bs, w.heap.size ≤ x) ∨
    (lerr base next l ≠ 0 ∧ x = .returned (.tuple #[.pointer none, .int .i64 (lerr base next l : Nat)]) ∧ Below w.heap.size w w')

set_option maxHeartbeats 4000000 in
set_option maxRecDepth 100000 in
theorem load5 (base next : Int) (v : Value) (l : List Fnd) (w : World) (hv : FndsIn w v l) (hll : l.length ≤ 9223372036854775807) (hbd : ∀ f ∈ l, RecBd f.r) : LoadCall 9 #[.int .i64 base, .int .i64 next, v] w base next l := by
  by_cases h : (!numB base || !numB next || decide (next < base) || decide (64 < l.length)) = true
  · have he : lerr base next l = 1 := by unfold lerr; rw [if_pos h]
    refine (load5_args base next v l w hv hll h).mono fun e w' ⟨h1, h2⟩ => .inr ⟨by omega, by rw [h1, he]; rfl, h2⟩
  · have h1 : numB base = true ∧ numB next = true ∧ ¬ next < base ∧ ¬ 64 < l.length := by simpa [and_assoc] using h
    have hle : lerr base next l = if inOrder (base - 1) next l = false then 1 else rchecks (l.map Fnd.r) := by unfold lerr; rw [if_neg h]
    obtain ⟨h1, h2, h3, h4⟩ := h1
    have hb1 : 0 ≤ base ∧ base ≤ 1099511627776 := by simpa [numB] using h1
    have hb2 : 0 ≤ next ∧ next ≤ 1099511627776 := by simpa [numB] using h2
    have c1 := fun w => offset5 base w
    have c2 := fun w => offset5 next w
    rw [h1] at c1
    rw [h2] at c2
    have h5 : ((64 : Int) < (l.length : Int)) = False := eq_false (by omega)
    have HV := Lib.hid hv
    have HB := Lib.hid hbd
    have HLE := Lib.hid hle
    obtain ⟨a, cap, rfl⟩ := hv.form
    obtain ⟨i0, hi, hz0, hz1, hz2⟩ := info_parts recInfo
    have e1 : IntKind.i64.wrap (base - 1) = base - 1 := by rw [IntKind.wrap_i64]; omega
    clear h hv hbd hle h1 h2
    unfold LoadCall
    go_enter Try.func9, Try.ntmps9
    go_wp2_with (first | (go_at_call_of 28 (Value.int .i64 base); refine (c1 _).use ?_) | (go_at_call_of 28 (Value.int .i64 next); refine (c2 _).use ?_))
    have S0 : SegAt (w.alloc (.cells #[.int .i64 base, .int .i64 next, .slice none 0 0, .slice none 0 0] 63)) w.heap.size [w.heap.size] base next [] := ⟨.slice none 0 0, .slice none 0 0, Blk.new _ _ _, World.ownsRow_nil _ _ _ _, World.ownsRow_nil _ _ _ _, rfl⟩
    have G0 : Below w.heap.size w (w.alloc (.cells #[.int .i64 base, .int .i64 next, .slice none 0 0, .slice none 0 0] 63)) := below_all (Below.refl _ _)
    generalize w.alloc (.cells #[.int .i64 base, .int .i64 next, .slice none 0 0, .slice none 0 0] 63) = W0 at S0 G0 ⊢
    go_loopw [9, 10, 12, 40] (fun (v9 v10 v12 v40 : Value) (W : World) => ∃ (k : Nat) (cs : List Nat), k ≤ l.length ∧ v40 = .int .i64 (k : Int) ∧ v9 = .int .i64 (lastOf base l k) ∧ SegAt W w.heap.size cs base next (l.take k) ∧ Below w.heap.size w W ∧ (∀ x ∈ cs, w.heap.size ≤ x) ∧ W.ownsRow w.heap.size 24 4 v10 k (((l.take k).map Fnd.r).flatMap Rec.cells) ∧ Away cs v10 ∧ Hid (inOrder (lastOf base l k) next (l.drop k) = inOrder (base - 1) next l)) (fun (v9 v10 v12 v40 : Value) (W : World) => (l.length - intOf v40).toNat)
    case atStart => exact ⟨0, [w.heap.size], by omega, rfl, rfl, S0, G0, by simp, World.ownsRow_nil _ _ _ _, fun b hb => by simp [Value.ownBlock] at hb, Lib.hid rfl⟩
    case round =>
      obtain ⟨k, cs, hk, rfl, rfl, hS, hnx, hcs, hown, haw, hord⟩ := hrel
      by_cases hkl : k < l.length
      · have hr := HV.out.below hnx
        rcases hr with ⟨h, _⟩ | ⟨b, off, cap', hsl, hcap, hne, hlt, hc⟩
        · rw [h] at hkl; simp at hkl
        simp only [Value.slice.injEq, true_and] at hsl
        obtain ⟨rfl, rfl⟩ := hsl
        obtain ⟨x0, x1, x2, x3, x4⟩ := hc k hkl
        have hft := Lib.hid (List.take_succ_eq_append_getElem hkl)
        have hla := Lib.hid (lastOf_step base l hkl)
        have hos := Lib.hid ((order_step (base := base) (next := next) hkl).symm.trans hord.out)
        rw [hla.out] at hos
        have hfl : (l.take k).length ≤ 100000 := by rw [List.length_take]; omega
        generalize l[k] = f at *
        generalize lastOf base l k = la at *
        have hG := below_all (o := .cells #[.int .i64 f.off, .bool f.r.hk, .string (S f.r.key), .bool f.r.tb, .string (S f.r.val)] 26) hnx
        clear hc hne hord
        by_cases hin : la < f.off ∧ f.off < next
        · obtain ⟨hin1, hin2⟩ := hin
          have hos2 := Lib.hid hos.out
          rw [decide_eq_true hin1, decide_eq_true hin2] at hos2
          have hS2 := hS.below (below_all (o := .cells #[.int .i64 f.off, .bool f.r.hk, .string (S f.r.key), .bool f.r.tb, .string (S f.r.val)] 26) (Below.refl _ _))
          have CP := Lib.hid (put5 w.heap.size cs base next (l.take k) f _ hS2 hfl)
          unfold Fnd.val at CP
          have t1 : (f.off ≤ la) = False := eq_false (by omega)
          have t2 : (next ≤ f.off) = False := eq_false (by omega)
          have F1 := Blk.new wr #[.int .i64 f.off, .bool f.r.hk, .string (S f.r.key), .bool f.r.tb, .string (S f.r.val)] 26
          have o1 := World.ownsRow.alloc hown (.cells #[.int .i64 f.off, .bool f.r.hk, .string (S f.r.key), .bool f.r.tb, .string (S f.r.val)] 26)
          have nF : wr.heap.size ∉ cs := fun hm => by have := hS.lt _ hm; omega
          clear hos
          go_wp2_with fail
          refine CP.out.use ?_
          intro cs2 w2 S3 K3 N3
          have F3 := F1.keptBy K3 nF
          have y0 := F3.cell 0; have y1 := F3.cell 1; have y2 := F3.cell 2; have y3 := F3.cell 3; have y4 := F3.cell 4; have z5 := F3.lt
          simp only [List.getElem?_toArray, List.getElem?_cons_zero, List.getElem?_cons_succ] at y0 y1 y2 y3 y4
          have o3 := own_keptBy o1 K3 haw
          have aw3 : Away cs2 u10 := fun b hb hm => (N3 b hm).elim (haw b hb) fun h => by have := own_lt o1 b hb; omega
          have hG3 := Kept.below hG K3 hcs (by simp; have := hnx.size; omega)
          have hcs2 : ∀ x ∈ cs2, w.heap.size ≤ x := fun x hx => (N3 x hx).elim (hcs x) fun h => by have := hG.size; omega
          have n3 : ∀ j u, f.r.cells[j]? = some u → (w2.alloc (.cells #[.bool f.r.hk, .string (S f.r.key), .bool f.r.tb, .string (S f.r.val)] 24)).cell? ((⟨w2.heap.size, 0, none⟩ : Addr).add j) = some u := World.news_of_block (cs := f.r.cells.toArray) (t := 24) (fr := (0, 0)) (heap_alloc_new w2 _)
          have S4 := S3.below (below_all (o := .cells #[.bool f.r.hk, .string (S f.r.key), .bool f.r.tb, .string (S f.r.val)] 24) (Below.refl _ _))
          have G4 := below_all (o := .cells #[.bool f.r.hk, .string (S f.r.key), .bool f.r.tb, .string (S f.r.val)] 24) hG3
          have o4 := World.ownsRow.alloc o3 (.cells #[.bool f.r.hk, .string (S f.r.key), .bool f.r.tb, .string (S f.r.val)] 24)
          have hz6 : w.heap.size ≤ w2.heap.size := hG3.size
          clear hS hS2 K3 N3 F1 F3 o1 o3 CP hG hown haw S3
          go_wp2_with (at_builtin; refine wpList_append_own_at _ rfl _ _ 36 rfl w.heap.size 24 i0 _ 4 48 Try.underlying36 hi hz0 hz1 hz2 rfl (by decide) _ _ _ rfl o4 ⟨w2.heap.size, 0, none⟩ 1 1 f.r.cells rfl rfl n3 (by simp [Value.oneCell', Rec.cells]) (by unfold maxLen; omega) (by omega) (by simp; omega) ?_)
          intro v5 w5 o5 g5 z7 at5
          have K5 : Kept cs2 w2 w2 := Kept.refl _ _
          have S5 : SegAt w5 w.heap.size cs2 base next (l.take k ++ [f]) := S4.kept (Kept.ofGrown g5) (fun x hx hm => by simp only [Option.mem_toList] at hm; exact aw3 x hm hx)
          have G5 : Below w.heap.size w w5 := Kept.below G4 (Kept.ofGrown g5) (by intro x hx; simp only [Option.mem_toList] at hx; exact (o4.lt x hx).1) (by simp; omega)
          have aw5 : Away cs2 v5 := fun b hb hm => at5.elim (fun e => aw3 b (e ▸ hb) hm) fun e => by rw [e] at hb; cases hb; have := S4.lt _ hm; simp at this
          clear g5 z7 at5
          go_wp2_with fail
          go_roundw
          case rel => exact ⟨k + 1, cs2, by omega, by go_num, by rw [hla.out], by rw [hft.out]; exact S5, G5, hcs2, by rw [hft.out]; simpa using o5, aw5, Lib.hid (by rw [hla.out]; simpa using hos2.out)⟩
          case measure => simp [intOf]; omega
        · have hos2 : Hid (inOrder (base - 1) next l = false) := Lib.hid (by rw [← hos.out, show (decide (la < f.off) && decide (f.off < next)) = false by simp only [Bool.and_eq_false_iff, decide_eq_false_iff_not]; omega]; rfl)
          have he : Hid (lerr base next l = 1) := Lib.hid (by rw [HLE.out, if_pos hos2.out])
          have hne1 : Hid (lerr base next l ≠ 0) := Lib.hid (by rw [he.out]; simp)
          by_cases h1 : la < f.off
          · have t1 : (f.off ≤ la) = False := eq_false (by omega)
            have t2 : (next ≤ f.off) = True := eq_true (by omega)
            go_wp2_with fail
            go_ret2
            exact .inr ⟨hne1.out, by rw [he.out]; rfl, hG⟩
          · have t1 : (f.off ≤ la) = True := eq_true (by omega)
            go_wp2_with fail
            go_ret2
            exact .inr ⟨hne1.out, by rw [he.out]; rfl, hG⟩
      · obtain rfl : k = l.length := by omega
        have hor : Hid (lerr base next l = rchecks (l.map Fnd.r)) := Lib.hid (by
          have h := hord.out
          rw [List.drop_length] at h
          rw [HLE.out, ← h]
          rfl)
        rw [List.take_length] at hS hown
        have hrin : RecsIn wr u10 (l.map Fnd.r) := recs_own (B := w.heap.size) (by rw [List.length_map]; exact hown)
        have hrb : RecsBd (l.map Fnd.r) := ⟨by rw [List.length_map]; unfold maxLen; omega, fun r hr => by
          obtain ⟨f, hf, rfl⟩ := List.mem_map.1 hr
          exact HB.out f hf⟩
        have cC := checked5 u10 (l.map Fnd.r) wr hrin hrb
        obtain ⟨o, ho⟩ : ∃ o, rchecks (l.map Fnd.r) = o := ⟨_, rfl⟩
        rw [ho] at cC hor
        obtain ⟨ao, co, hu⟩ := hrin.form
        rw [List.length_map] at hu
        subst hu
        have CC := Lib.hid cC
        clear hrin hrb cC ho hown haw hord HLE
        by_cases h0 : o = 0
        · subst h0
          have c : RetB Try.prog 30 _ wr (.int .i64 0) := CC.out
          have CC2 := Lib.hid c
          clear c CC
          go_wp2_with fail
          refine CC2.out.use ?_
          intro w2 b2
          go_wp2_with fail
          go_ret2
          exact .inl ⟨hor.out, w.heap.size, cs, rfl, hS.below b2, below_any (Nat.le_refl _) hnx b2, hcs⟩
        · have h6 : ((o : Int) != 0) = true := by simpa using h0
          have hne1 : Hid (lerr base next l ≠ 0) := Lib.hid (by rw [hor.out]; exact h0)
          go_wp2_with fail
          refine CC.out.use ?_
          intro w2 b2
          go_wp2_with fail
          go_ret2
          exact .inr ⟨hne1.out, by rw [hor.out]; rfl, below_any (Nat.le_refl _) hnx b2⟩
end Go.Proofs.Ytkgpckfaghpgmaa
