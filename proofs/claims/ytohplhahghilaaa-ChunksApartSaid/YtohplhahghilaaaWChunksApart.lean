/-
  The walk of ChunksApart.
-/
import Derived.Test.YtohplhahghilaaaChkU
import Derived.Test.YtohplhahghilaaaChkT
import Derived.Test.YtohplhahghilaaaChkV
set_option linter.unusedVariables false
set_option linter.unusedSimpArgs false
namespace Go.Proofs.Ytohplhahghilaaa.chunksApart
open Go.RowKit
attribute [local go_sem] ByteArray.extract_mk ByteArray.mk_append_mk

/-- What lies in memory, once the first chunk was taken. -/
structure St (w : World) (N d : Nat) (piece : List UInt8) (v vm : Value) (l : List Chk) (p m X : Nat) (c : Chk) (W : World) : Prop where
  x : Blk W X #[.int .i64 c.i, .int .i64 c.n, .int .u64 (c.d : Nat), .string (S c.b)] 38
  r : ChksIn W v l
  j : JAt W p m d N [(0, piece)]
  u : NumsIn W vm (jmiss [(0, piece)] N)
  bel : Below w.heap.size w W
  hx : w.heap.size ≤ X
  hj : ∀ b ∈ [p, m], w.heap.size ≤ b
  ax : X ∉ [p, m]
  ar : Away [p, m] v
  ar2 : Away [X] v
  au : Away [p, m] vm
  au2 : Away [X] vm
section
variable {w W W' : World} {N d : Nat} {piece : List UInt8} {v vm : Value} {l : List Chk} {p m X : Nat} {c : Chk}
theorem St.kept (h : St w N d piece v vm l p m X c W) (j : JAt W' p m d N [(0, piece)]) (k : Kept [p, m] W W') : St w N d piece v vm l p m X c W' :=
  ⟨h.x.keptBy k h.ax, h.r.kept k h.ar, j, h.u.kept k h.au, Kept.below h.bel k h.hj h.bel.size, h.hx, h.hj, h.ax, h.ar, h.ar2, h.au, h.au2⟩
theorem St.below (h : St w N d piece v vm l p m X c W) (b : Below W.heap.size W W') : St w N d piece v vm l p m X c W' :=
  ⟨h.x.below b, h.r.below b, h.j.below b, h.u.below b, below_any (Nat.le_refl _) h.bel b, h.hx, h.hj, h.ax, h.ar, h.ar2, h.au, h.au2⟩
theorem St.set (h : St w N d piece v vm l p m X c W) {c' : Chk} {k : Nat} {u : Value} (e : (#[Value.int .i64 c.i, .int .i64 c.n, .int .u64 (c.d : Nat), .string (S c.b)]).setIfInBounds k u = #[.int .i64 c'.i, .int .i64 c'.n, .int .u64 (c'.d : Nat), .string (S c'.b)]) : St w N d piece v vm l p m X c' (W.setCell ⟨X, k, none⟩ u) := by
  have g : Kept [X] W (W.setCell ⟨X, k, none⟩ u) := Kept.ofGrown (grown_set (grown_refl _ _) _ _)
  have a1 : p ∉ [X] := by have := h.ax; simp at this ⊢; omega
  have a2 : m ∉ [X] := by have := h.ax; simp at this ⊢; omega
  refine ⟨?_, h.r.kept g h.ar2, h.j.keptBy g a1 a2, h.u.kept g h.au2, h.bel.setCell (p := ⟨X, k, none⟩) h.hx _, h.hx, h.hj, h.ax, h.ar, h.ar2, h.au, h.au2⟩
  have := h.x.set k u
  rwa [e] at this
end
theorem apart_take (p m d N : Nat) (piece : List UInt8) (c : Chk) (w : World) (h : JAt w p m d N [(0, piece)]) (hc : c.d ≠ d ∨ c.n ≠ N) :
    ∃ e : Nat, e ≠ 0 ∧ JCall 29 #[.pointer (some ⟨p, 0, none⟩), c.val] w p m d (.int .i64 (e : Nat)) N [(0, piece)] := by
  have h := take7 p m d N [(0, piece)] c w h (by simp [maxLen]) (fun _ => trivial)
  unfold jtake at h
  by_cases hr : c.right = false
  · rw [if_pos hr] at h; exact ⟨70, by decide, h⟩
  · rw [if_neg hr, if_pos (by rcases hc with hc | hc; exact .inl hc; exact .inr (.inl ⟨by simp, hc⟩))] at h; exact ⟨71, by decide, h⟩
theorem min_cast (a b : Nat) : (if (a : Int) ≤ (b : Int) then (a : Int) else (b : Int)) = ((min a b : Nat) : Int) := by split <;> omega

set_option maxHeartbeats 4000000 in
set_option maxRecDepth 100000 in
theorem walk {w : World} (s : List UInt8) (c : Chk) (hs : s.length ≤ maxLen) (hc : ChkBd c) :
    RetB Try.prog 8 #[.string (S s), c.val] w (.bool true) := by
  refine RetB.intro fun R hR => ?_
  obtain ⟨ci, cn, cd, cb⟩ := c
  unfold Chk.val
  have hcb : cb.length ≤ maxLen := hc.2.2.2
  unfold maxLen at hs hcb
  have q1 : ((min (s.length : Int) 100).toNat) = min s.length 100 := by omega
  obtain ⟨l, hl⟩ : ∃ l, s.take (min s.length 100) = l := ⟨_, rfl⟩
  have hll : l.length ≤ 100 := by rw [← hl, List.length_take]; omega
  have q2 : ((min (cb.length : Int) 100).toNat) = min cb.length 100 := by omega
  obtain ⟨t, ht⟩ : ∃ t, l ++ [(120 : UInt8)] = t := ⟨_, rfl⟩
  have htl : 1 ≤ t.length ∧ t.length ≤ 101 := by rw [← ht, List.length_append]; simp; omega
  obtain ⟨b, hb⟩ : ∃ l, cb.take (min cb.length 100) = l := ⟨_, rfl⟩
  have C1 := Lib.hid (fun w => split7_ok t 7 w (by decide) (by decide) (by omega) (by have := splitN_le (len := t.length) (size := 7) (by decide); omega))
  have C2 := Lib.hid (fun w => digest7 t w (by omega))
  have hdb := digest_bd t
  go_enter Try.func8, Try.ntmps8
  go_wp2_with fail
  refine (C1.out _).use ?_
  intro v w1 o1 b1
  obtain ⟨N, hN⟩ : ∃ N, splitN t.length 7 = N := ⟨_, rfl⟩
  have hN1 : 1 ≤ N ∧ N ≤ 4096 := by
    have := splitN_le (len := t.length) (size := 7) (by decide)
    rw [hN] at this
    have h1 : 1 ≤ splitN t.length 7 := by unfold splitN; omega
    omega
  have hlen := chunksOf_len t 7
  rw [hN] at hlen
  obtain ⟨ch, hch⟩ : ∃ ch, chunksOf t 7 = ch := ⟨_, rfl⟩
  have h0 : ch[0]? = some (chunkOf t 7 0) := by
    rw [← hch]; unfold chunksOf; rw [hN, List.getElem?_map, List.getElem?_range (by omega)]; rfl
  rw [hch] at o1 hlen
  have R1 := chks_own o1
  have hlt1 : ∀ x, v.ownBlock = some x → w.heap.size + 1 ≤ x ∧ x < w1.heap.size := fun x hx => by have := o1.lt x hx; simpa using this
  rcases R1 with ⟨h, _⟩ | ⟨g, o, cap, rfl, hcap, hne, hgl, hcells⟩
  · rw [h] at hlen; simp at hlen; omega
  have R1 : ChksIn w1 (.slice (some ⟨g, o, none⟩) ch.length cap) ch := .inr ⟨g, o, cap, rfl, hcap, hne, hgl, hcells⟩
  obtain ⟨hg1, hg2⟩ := hlt1 g rfl
  have hx1 : Blk w1 w.heap.size #[.int .i64 ci, .int .i64 cn, .int .u64 (cd : Nat), .string (S cb)] 38 := (Blk.new w _ _).below b1
  have B1 : Below w.heap.size w w1 := below_any (Nat.le_refl _) (below_all (Below.refl _ _)) b1
  have hright := chunkOf_right (s := t) (size := 7) (k := 0) (by decide) (by decide) (by omega) (by omega)
  obtain ⟨pc, hpc⟩ : ∃ pc, piece t 7 0 = pc := ⟨_, rfl⟩
  have ec : chunkOf t 7 0 = ⟨0, N, digest t, pc⟩ := by unfold chunkOf; rw [hN, hpc]; rfl
  rw [ec] at hright
  obtain ⟨d, hd⟩ : ∃ d, digest t = d := ⟨_, rfl⟩
  rw [hd] at hright hdb
  have C2 : Hid (∀ w, RetB Try.prog 16 #[.string (S t)] w (.int .u64 (d : Nat))) := by rw [← hd]; exact C2
  have HC := Lib.hid hcells
  have HR := Lib.hid R1
  have HX := Lib.hid hx1
  have HB := Lib.hid B1
  have HCH : Hid (ch[0]? = some ⟨0, N, d, pc⟩) := Lib.hid (by rw [h0, ec, hd])
  clear hcells R1 hx1 B1 o1 b1 C1 hch h0 ec hpc hlt1 hgl hne
  rw [hlen]
  rw [hlen] at hcap
  go_wp2_with fail
  refine (C2.out _).use ?_
  intro w2 b2
  go_wp2_with fail
  refine (new7 d _).mono ?_
  rintro e w3 ⟨p, m, rfl, J3, b3, hp, hm⟩
  have B3 := below_any (Nat.le_refl _) b2 b3
  have HB3 := Lib.hid (below_any (Nat.le_refl _) HB.out B3)
  have HR3 := Lib.hid (HR.out.below B3)
  have HX3 := Lib.hid (HX.out.below B3)
  have hw2 := b2.size
  have hgp : g ∉ [p, m] := by simp; omega
  have hxp : w.heap.size ∉ [p, m] := by simp; omega
  have hpm : ∀ x ∈ [p, m], w.heap.size ≤ x := by simp; omega
  have hxg : g ≠ w.heap.size := by omega
  rcases HR3.out with ⟨h, _⟩ | ⟨_, _, _, hv, _, _, hgl, hcells⟩
  · rw [h] at hlen; simp at hlen; omega
  simp only [Value.slice.injEq, Option.some.injEq, Addr.mk.injEq] at hv
  obtain ⟨⟨rfl, rfl, _⟩, _, rfl⟩ := hv
  have d0 := hcells 0 (by omega)
  have e0 : ch[0]'(by omega) = ⟨0, N, d, pc⟩ := by have := HCH.out; rw [List.getElem?_eq_getElem (by omega)] at this; exact Option.some.inj this
  rw [e0] at d0
  simp only [Nat.zero_mul, Nat.add_zero] at d0
  obtain ⟨x0, x1, x2, x3⟩ := d0
  have ct := Lib.hid (take7_first p m d 0 [] ⟨0, N, d, pc⟩ w3 J3 (by simp [maxLen]) hright rfl rfl)
  clear hcells e0 b2 b3 B3 hw2 hp hm hgl
  unfold Chk.val at ct
  go_wp2_with fail
  refine ct.out.use ?_
  intro w4 J4 K4
  have J4 : JAt w4 p m d (N : Nat) [(0, pc)] := J4
  have J4 := Lib.hid J4
  have HB4 := Lib.hid (Kept.below HB3.out K4 hpm HB3.out.size)
  have HR4 := Lib.hid (HR3.out.kept K4 (fun b hb => by simp only [Value.ownBlock, Option.some.injEq] at hb; subst hb; exact hgp))
  have HX4 := Lib.hid (HX3.out.keptBy K4 hxp)
  clear K4 HB3 HR3 HX3 x0 x1 x2 x3 ct J3
  go_wp2_with fail
  refine (missing7 p m d N [(0, pc)] w4 J4.out (by simp) (by omega)).use ?_
  intro vm w5 o5 b5
  have U5 := nums_own o5
  have hvm : ∀ x, vm.ownBlock = some x → w4.heap.size ≤ x := fun x hx => (o5.lt x hx).1
  obtain ⟨ma, mc, rfl⟩ := own_form o5
  have hj4 : p < w4.heap.size ∧ m < w4.heap.size := ⟨J4.out.1.lt, J4.out.2.lt⟩
  have hx4 := HX4.out.lt
  have S5 : St w N d pc (.slice (some ⟨g, o, none⟩) ch.length cap) (.slice ma (jmiss [(0, pc)] N).length mc) ch p m w.heap.size ⟨ci, cn, cd, cb⟩ w5 :=
    ⟨HX4.out.below b5, HR4.out.below b5, J4.out.below b5, U5, below_any (Nat.le_refl _) HB4.out b5, Nat.le_refl _, hpm, hxp,
     fun b hb => by simp only [Value.ownBlock, Option.some.injEq] at hb; subst hb; exact hgp,
     fun b hb => by simp only [Value.ownBlock, Option.some.injEq] at hb; subst hb; simpa using hxg,
     fun b hb => by have := hvm b hb; simp; omega, fun b hb => by have := hvm b hb; simp; omega⟩
  have HS5 := Lib.hid S5
  obtain ⟨hk, x0, x1, x2, x3⟩ := S5.x.c4
  have hf := S5.x.frozen 3
  clear S5 U5 hvm hj4 o5 b5 J4 HB4 HR4 HX4
  go_wp2_with fail
  have S6 := HS5.out.set (k := 3) (u := .string (S b)) (c' := ⟨ci, cn, cd, b⟩) rfl
  have HS6 := Lib.hid S6
  clear x0 x1 x2 x3 hk hf
  obtain ⟨hk, x0, x1, x2, x3⟩ := S6.x.c4
  have hf := S6.x.frozen 1
  rcases S6.r with ⟨h, _⟩ | ⟨_, _, _, hv, _, _, hgl, hcells⟩
  · rw [h] at hlen; simp at hlen; omega
  simp only [Value.slice.injEq, Option.some.injEq, Addr.mk.injEq] at hv
  obtain ⟨⟨rfl, rfl, _⟩, _, rfl⟩ := hv
  have d0 := hcells 0 (by omega)
  have e0 : ch[0]'(by omega) = ⟨0, N, d, pc⟩ := by have := HCH.out; rw [List.getElem?_eq_getElem (by omega)] at this; exact Option.some.inj this
  rw [e0] at d0
  simp only [Nat.zero_mul, Nat.add_zero] at d0
  obtain ⟨y0, y1, y2, y3⟩ := d0
  clear S6 hcells e0 hgl
  change Code.wp _ _ _ _ (w5.setCell ⟨w.heap.size, 3, none⟩ (.string (S b))) at ⊢
  generalize w5.setCell ⟨w.heap.size, 3, none⟩ (.string (S b)) = w6 at *
  have e1 : IntKind.i64.wrap ((N : Int) + 1) = (N : Int) + 1 := by rw [IntKind.wrap_i64]; omega
  by_cases hcd : cd = d
  · subst hcd
    have t1 : ((cd : Int) == (cd : Int)) = true := by simp
    have t2 := t1
    go_quiet (fail)
    have S7 := HS6.out.below (belowN (Below.refl _ _) nq)
    have S8 := S7.set (k := 1) (u := .int .i64 ((N : Int) + 1)) (c' := ⟨ci, (N : Int) + 1, cd, b⟩) rfl
    clear t1 t2 y0 y1 y2 y3
    have z0 := S7.x.c4
    obtain ⟨z, z0, z1, z2, z3⟩ := z0
    have zf := S7.x.frozen 1
    clear x0 x1 x2 x3 hk hf S7
    obtain ⟨e, he, ct⟩ := apart_take p m cd N pc ⟨ci, (N : Int) + 1, cd, b⟩ _ S8.j (by right; simp only; omega)
    have r1 : ((e : Int) != 0) = true := by simp; omega
    have r2 : ((e : Int) = 0) = False := eq_false (by omega)
    unfold Chk.val at ct
    have ct := Lib.hid ct
    have HS8 := Lib.hid S8
    go_wp2_with fail
    refine ct.out.use ?_
    intro w9 J9 K9
    have S9 := HS8.out.kept J9 K9
    clear ct HS8 J9 K9
    have HS9 := Lib.hid S9
    clear S9
    go_wp2_with fail
    refine (missing7 p m cd N [(0, pc)] w9 HS9.out.j (by simp) (by omega)).use ?_
    intro vk w10 o10 b10
    have U10 := nums_own o10
    have S10 := HS9.out.below b10
    clear o10 HS9
    go_wp2_with fail
    refine ((nums5 _ _ _ _ _ U10 S10.u (by have := jmiss_len [(0, pc)] N; omega) (by have := jmiss_len [(0, pc)] N; omega)).cast (v' := .bool true) (by simp)).use ?_
    intro w11 b11
    have S11 := S10.below b11
    go_wp2_with fail
    refine (fixed7 _).use ?_
    intro w12 b12
    go_wp2_with fail
    exact finB hR (below_any (Nat.le_refl _) S11.bel b12) rfl
  · have t1 : ((cd : Int) = (d : Int)) = False := eq_false (by omega)
    have t2 : ((cd : Int) == (d : Int)) = false := by simp; omega
    go_quiet (fail)
    have S7 := HS6.out.below (belowN (Below.refl _ _) nq)
    clear t1 t2 y0 y1 y2 y3
    have z0 := S7.x.c4
    obtain ⟨z, z0, z1, z2, z3⟩ := z0
    clear x0 x1 x2 x3 hk hf
    obtain ⟨e, he, ct⟩ := apart_take p m d N pc ⟨ci, cn, cd, b⟩ _ S7.j (by left; exact hcd)
    have r1 : ((e : Int) != 0) = true := by simp; omega
    have r2 : ((e : Int) = 0) = False := eq_false (by omega)
    unfold Chk.val at ct
    have ct := Lib.hid ct
    have HS8 := Lib.hid S7
    go_wp2_with fail
    refine ct.out.use ?_
    intro w9 J9 K9
    have S9 := HS8.out.kept J9 K9
    clear ct HS8 J9 K9
    have HS9 := Lib.hid S9
    clear S9
    go_wp2_with fail
    refine (missing7 p m d N [(0, pc)] w9 HS9.out.j (by simp) (by omega)).use ?_
    intro vk w10 o10 b10
    have U10 := nums_own o10
    have S10 := HS9.out.below b10
    clear o10 HS9
    go_wp2_with fail
    refine ((nums5 _ _ _ _ _ U10 S10.u (by have := jmiss_len [(0, pc)] N; omega) (by have := jmiss_len [(0, pc)] N; omega)).cast (v' := .bool true) (by simp)).use ?_
    intro w11 b11
    have S11 := S10.below b11
    go_wp2_with fail
    refine (fixed7 _).use ?_
    intro w12 b12
    go_wp2_with fail
    exact finB hR (below_any (Nat.le_refl _) S11.bel b12) rfl
end Go.Proofs.Ytohplhahghilaaa.chunksApart
