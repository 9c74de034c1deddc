/-
  The walk of SegmentDoes.
-/
import Derived.Test.YtkgpckfaghpgmaaSegZ
set_option linter.unusedVariables false
set_option linter.unusedSimpArgs false
namespace Go.Proofs.Ytkgpckfaghpgmaa.segmentDoes
open Go.RowKit
attribute [local go_sem] ByteArray.extract_mk ByteArray.mk_append_mk

/-- The two segments, in one state. -/
structure St (w W : World) (p : Nat) (bs : List Nat) (p' : Nat) (cs : List Nat) (base nx : Int) (L : List Fnd) : Prop where
  s : SegAt W p bs base nx L
  k : RSegOwn W p' cs base nx L
  ris : Rising L
  len : L.length ≤ 64
  ok : ∀ f ∈ L, f.r.ok = 0
  off : ∀ f ∈ L, 0 ≤ f.off ∧ f.off < nx
  nx : 0 ≤ nx ∧ nx ≤ 1099511627776
  apart : ∀ x ∈ bs, x ∉ cs
  nb : ∀ x ∈ bs, w.heap.size ≤ x
  nc : ∀ x ∈ cs, w.heap.size ≤ x
  below : Below w.heap.size w W
section
variable {w W W' : World} {p p' : Nat} {bs cs bs' cs' : List Nat} {base nx nx' : Int} {L L' : List Fnd}
theorem St.bel (h : St w W p bs p' cs base nx L) (hb : Below W.heap.size W W') : St w W' p bs p' cs base nx L :=
  ⟨h.s.below hb, h.k.below hb, h.ris, h.len, h.ok, h.off, h.nx, h.apart, h.nb, h.nc, below_any (Nat.le_refl _) h.below hb⟩
/-- The first one has been turned: what is told of both, the second one as it was. -/
theorem St.wf (h : St w W p bs p' cs base nx L) : ∀ f ∈ L, (Lit.int .i64 f.off).wf = true := fun f hf => by
  have := h.off f hf
  have := h.nx
  simp [Lit.wf, IntKind.min, IntKind.max, IntKind.signed, IntKind.bits]
  omega
/-- Both have been turned, one behind the other. -/
theorem St.turn {W1 : World} (h : St w W p bs p' cs base nx L) (h1 : SegAt W1 p bs' base nx' L') (k1 : Kept bs W W1) (n1 : ∀ x ∈ bs', x ∈ bs ∨ W.heap.size ≤ x)
    (h2 : RSegOwn W' p' cs' base nx' L') (k2 : Kept cs W1 W') (n2 : ∀ x ∈ cs', x ∈ cs ∨ W1.heap.size ≤ x)
    (hr : Rising L') (hl : L'.length ≤ 64) (ho : ∀ f ∈ L', f.r.ok = 0) (hf : ∀ f ∈ L', 0 ≤ f.off ∧ f.off < nx') (hn : 0 ≤ nx' ∧ nx' ≤ 1099511627776) : St w W' p bs' p' cs' base nx' L' := by
  have hW := h.below.size
  have hWs := h.s.lt
  have hWk := h.k.lt
  have h1l := h1.lt
  have hap1 : ∀ x ∈ bs', x ∉ cs := fun x hx hc => (n1 x hx).elim (fun e => h.apart x e hc) fun e => by have := hWk x hc; omega
  refine ⟨h1.kept k2 hap1, h2, hr, hl, ho, hf, hn, fun x hx hc => (n2 x hc).elim (hap1 x hx) fun e => by have := h1l x hx; omega, fun x hx => (n1 x hx).elim (h.nb x) fun e => by omega, fun x hx => (n2 x hx).elim (h.nc x) fun e => by have := k1.size; omega, ?_⟩
  exact Kept.below (Kept.below h.below k1 h.nb hW) k2 h.nc (by have := k1.size; omega)
/-- Another segment in the first one's place; the first one has been turned. -/
theorem St.other {p2 : Nat} {bs2 : List Nat} (h : St w W p bs p' cs base nx L) (hT : SegAt W p2 bs2 base nx L) (hap : ∀ x ∈ bs2, x ∉ bs ∧ x ∉ cs) (hnb : ∀ x ∈ bs2, w.heap.size ≤ x) (k : Kept bs W W') : St w W' p2 bs2 p' cs base nx L :=
  ⟨hT.kept k (fun x hx => (hap x hx).1), h.k.kept k (fun x hx hb => h.apart x hb hx), h.ris, h.len, h.ok, h.off, h.nx, fun x hx => (hap x hx).2, hnb, h.nc, Kept.below h.below k h.nb h.below.size⟩
/-- Some other block has been turned. -/
theorem St.aside {g : Nat} (h : St w W p bs p' cs base nx L) (k : Kept [g] W W') (hb : g ∉ bs) (hc : g ∉ cs) (hg : w.heap.size ≤ g) : St w W' p bs p' cs base nx L :=
  ⟨h.s.kept k (fun x hx hm => by simp at hm; subst hm; exact hb hx), h.k.kept k (fun x hx hm => by simp at hm; subst hm; exact hc hx), h.ris, h.len, h.ok, h.off, h.nx, h.apart, h.nb, h.nc, Kept.below h.below k (fun x hx => by simp at hx; subst hx; exact hg) h.below.size⟩
end
theorem reads_len (fr n : Int) (L : List Fnd) : (reads fr n L).length ≤ L.length := by
  unfold reads
  rw [List.length_take, List.length_drop]
  omega
theorem rising_append {L : List Fnd} {nx : Int} (hr : Rising L) (ho : ∀ f ∈ L, 0 ≤ f.off ∧ f.off < nx) : ∀ (rs : List Rec), 0 ≤ nx → Rising (L ++ fnds nx rs) ∧ ∀ f ∈ L ++ fnds nx rs, 0 ≤ f.off ∧ f.off < nx + rs.length := by
  intro rs h0
  have hget : ∀ (rs : List Rec) (n : Int) (i : Nat), (h : i < (fnds n rs).length) → (fnds n rs)[i].off = n + i := by
    intro rs
    induction rs with
    | nil => intro n i h; simp [fnds] at h
    | cons r rs ih =>
      intro n i h
      match i with
      | 0 => simp [fnds]
      | i + 1 =>
        simp only [fnds, List.getElem_cons_succ]
        rw [ih (n + 1) i (by simpa [fnds] using h)]
        omega
  refine ⟨fun i j hi hj => ?_, fun f hf => ?_⟩
  · by_cases hjl : j < L.length
    · rw [List.getElem_append_left (by omega), List.getElem_append_left hjl]
      exact hr i j hi hjl
    · by_cases hil : i < L.length
      · rw [List.getElem_append_left hil, List.getElem_append_right (by omega), hget]
        have := (ho _ (List.getElem_mem hil)).2
        omega
      · rw [List.getElem_append_right (by omega), List.getElem_append_right (by omega), hget, hget]
        omega
  · rcases List.mem_append.1 hf with hf | hf
    · have := ho f hf
      omega
    · obtain ⟨i, hi, rfl⟩ := List.getElem_of_mem hf
      rw [hget]
      rw [fnds_len] at hi
      omega
theorem fnds_ok0 : ∀ (rs : List Rec), (∀ r ∈ rs, r.ok = 0) → ∀ (n : Int), ∀ f ∈ fnds n rs, f.r.ok = 0
  | [], _, n, f, hf => by simp [fnds] at hf
  | r :: rs, h, n, f, hf => by
    simp only [fnds, List.mem_cons] at hf
    rcases hf with rfl | hf
    · exact h r (by simp)
    · exact fnds_ok0 rs (fun x hx => h x (by simp [hx])) (n + 1) f hf
theorem fnds_ok {rs : List Rec} (h : rchecks rs = 0) (n : Int) : ∀ f ∈ fnds n rs, f.r.ok = 0 := fnds_ok0 rs (rchecks_ok.1 h) n
theorem rnewO5 (n : Int) (h : numB n = true) (w : World) : Calls Try.prog 16 #[.int .i64 n] w fun x w' => ∃ p, x = .returned (.tuple #[.pointer (some ⟨p, 0, none⟩), .int .i64 0]) ∧ RSegOwn w' p [p] n n [] ∧ Below w.heap.size w w' ∧ w.heap.size ≤ p := by
  have c := fun w => rnum_any n w
  rw [h] at c
  go_enter Try.func16, Try.ntmps16
  go_wp2_with fail
  refine (c _).use ?_
  go_wp2_with fail
  go_ret2
  exact ⟨w.heap.size, rfl, ⟨.slice none 0 0, Blk.new _ _ _, World.ownsRow_nil _ _ _ _, rfl⟩, below_all (Below.refl _ _), Nat.le_refl _⟩
theorem cut70_bd (l : List Rec) : RecsBd (cut70 l) ∧ (cut70 l).length ≤ 70 := by
  have h : (cut70 l).length ≤ 70 := by unfold cut70; rw [List.length_map, List.length_take]; omega
  refine ⟨⟨by unfold maxLen; omega, fun r hr => ?_⟩, h⟩
  obtain ⟨r', _, rfl⟩ := List.mem_map.1 hr
  exact ⟨by simp only [cutR, List.length_take]; unfold maxLen; omega, by simp only [cutR, List.length_take]; unfold maxLen; omega⟩

theorem nums_take {w : World} {a : Option Addr} {n cap M : Nat} {l : List Int} (h : NumsIn w (.slice a n cap) l) (hM : M ≤ l.length) : NumsIn w (.slice a M cap) (l.take M) := by
  rcases h with ⟨rfl, _⟩ | ⟨b, off, cap', hsl, hc, hne, hlt, hx⟩
  · simp at hM; subst hM; exact .inl ⟨by simp, _, _, rfl⟩
  · simp only [Value.slice.injEq] at hsl
    obtain ⟨rfl, rfl, rfl⟩ := hsl
    by_cases h0 : M = 0
    · subst h0; exact .inl ⟨by simp, _, _, rfl⟩
    · have hl : (l.take M).length = M := by rw [List.length_take]; omega
      refine .inr ⟨b, off, cap, by rw [hl], by omega, fun e => by rw [e] at hl; simp at hl; omega, hlt, fun i hi => ?_⟩
      rw [List.getElem_take]
      exact hx i (by omega)
theorem keeps_rising {ks : List Int} {L : List Fnd} (h : Rising L) : Rising (keeps ks L) := by
  have h2 : L.Pairwise fun f g => f.off < g.off := by
    rw [List.pairwise_iff_getElem]
    exact fun i j hi hj hij => h i j hij hj
  have h3 := h2.sublist (List.filter_sublist (p := fun f : Fnd => decide (f.off ∈ ks)))
  rw [List.pairwise_iff_getElem] at h3
  exact fun i j hij hj => h3 i j (by have h4 := hj; unfold keeps at h4; omega) hj hij
theorem keeps_mem {ks : List Int} {L : List Fnd} {f : Fnd} (h : f ∈ keeps ks L) : f ∈ L := (List.mem_filter.1 (show f ∈ List.filter _ _ from h)).1

set_option maxHeartbeats 8000000 in
set_option maxRecDepth 100000 in
theorem walk {w : World} (i : Int) (v : Value) (l : List Opr) (hi : -9223372036854775808 ≤ i ∧ i ≤ 9223372036854775807) (hv : OprsIn w v l) (hl : l.length ≤ maxLen) :
    RetB Try.prog 7 #[.int .i64 i, v] w (.bool true) := by
  refine RetB.intro fun R hR => ?_
  obtain ⟨q, hq, hq2⟩ : ∃ q : Nat, bits .and .i64 i 1099511627775 = (q : Int) ∧ q < 1099511627776 := ⟨_, and_low i 1099511627775 40 rfl (by omega), Nat.mod_lt _ (by decide)⟩
  have hnq : numB (q : Int) = true := by unfold numB; simp; omega
  have c1 := fun w => new5_ok (q : Int) w hnq
  have c2 := fun w => rnewO5 (q : Int) hnq w
  have hll : l.length ≤ 9223372036854775807 := by unfold maxLen at hl; omega
  have HV := Lib.hid hv
  obtain ⟨a, cap, rfl⟩ : ∃ a cap, v = .slice a l.length cap := by
    rcases hv with ⟨rfl, a, cap, rfl⟩ | ⟨b, off, cap, rfl, _⟩
    · exact ⟨_, _, rfl⟩
    · exact ⟨_, _, rfl⟩
  clear hv hl
  go_enter Try.func7, Try.ntmps7
  go_wp2_with fail
  refine (c1 _).use ?_
  intro p bs w1 S1 B1 N1
  go_wp2_with fail
  refine (c2 _).mono ?_
  rintro e w2 ⟨p', rfl, R2, B2, N2⟩
  have hS0 : St w w2 p bs p' [p'] q q [] := by
    have h1 := S1.lt
    have h2 := B1.size
    exact ⟨S1.below B2, R2, fun i j hi hj => by simp at hj, by simp, by simp, by simp, by omega, fun x hx hc => by simp at hc; subst hc; have := h1 x hx; omega, N1, fun x hx => by simp at hx; omega, below_any (Nat.le_refl _) B1 B2⟩
  clear S1 B1 N1 R2 B2 N2 c1 c2 hnq
  go_wp2_with fail
  go_loopw [6, 10, 11, 12, 13, 14, 15, 16, 17, 18, 19, 20, 21] (fun (v6 v10 v11 v12 v13 v14 v15 v16 v17 v18 v19 v20 v21 : Value) (W : World) => ∃ (j p : Nat) (bs cs : List Nat) (nx : Int) (L : List Fnd), v6 = .pointer (some ⟨p, 0, none⟩) ∧ v10 = .int .i64 (j : Int) ∧ j ≤ l.length ∧ j ≤ 30 ∧ St w W p bs p' cs q nx L) (fun (v6 v10 v11 v12 v13 v14 v15 v16 v17 v18 v19 v20 v21 : Value) (W : World) => (l.length - intOf v10).toNat)
  case atStart => exact ⟨0, p, bs, [p'], q, [], rfl, rfl, by omega, by omega, hS0⟩
  case round =>
    obtain ⟨j, p, bs, cs, nx, L, rfl, rfl, hj, hj30, hSt⟩ := hrel
    by_cases hgo : j < l.length ∧ j < 30
    · obtain ⟨hjl, hj3⟩ := hgo
      rcases HV.out with ⟨h, _⟩ | ⟨b, off, cap2, hsl, hne, hlt, hc, hq⟩
      · rw [h] at hjl; simp at hjl
      simp only [Value.slice.injEq, true_and] at hsl
      obtain ⟨rfl, rfl⟩ := hsl
      obtain ⟨x0, x1, x2, x3, x4⟩ := hc j hjl
      obtain ⟨q1, q2, q3, q4, q5, q6, q7, q8, q9⟩ := hq _ (List.getElem_mem hjl)
      have hB := hSt.below
      have y0 := (hB.cell (p := ⟨b, off + j * 5, none⟩) hlt).trans x0
      have y1 := (hB.cell (p := ⟨b, off + j * 5 + 1, none⟩) hlt).trans x1
      have y2 := (hB.cell (p := ⟨b, off + j * 5 + 2, none⟩) hlt).trans x2
      have y3 := (hB.cell (p := ⟨b, off + j * 5 + 3, none⟩) hlt).trans x3
      have y4 := (hB.cell (p := ⟨b, off + j * 5 + 4, none⟩) hlt).trans x4
      have hltr : b < wr.heap.size := Nat.lt_of_lt_of_le hlt hB.size
      have i1 : (0 : Int) ≤ (j : Int) := by omega
      have i2 : (j : Int) < (l.length : Int) := by omega
      have i3 : (j : Int) < 30 := by omega
      clear hc hq hne x0 x1 x2 x3 x4
      generalize l[j] = o at *
      obtain ⟨kind, fr, n, la, lc, rs, ka, kc, ks⟩ := o
      simp only at q1 q2 q3 q4 q5 q6 q7 q8 q9 y0 y1 y2 y3 y4
      have hQ1 := Lib.hid q1
      have hQ4 := Lib.hid q4
      have hQ7 := Lib.hid q7
      have hB4 := below_all (o := .cells #[.int .i64 kind, .int .i64 fr, .int .i64 n, .slice la rs.length lc, .slice ka ks.length kc] 58) hB
      have cR := Lib.hid (recsN5 la lc rs _ (q1.below hB4) q2 q3)
      have D4 := Blk.new wr #[.int .i64 kind, .int .i64 fr, .int .i64 n, .slice la rs.length lc, .slice ka ks.length kc] 58
      have S4 := hSt.bel (below_all (o := .cells #[.int .i64 kind, .int .i64 fr, .int .i64 n, .slice la rs.length lc, .slice ka ks.length kc] 58) (Below.refl _ _))
      clear q1 q4 q7 q2 q3
      go_wp2_with fail
      refine (show RecsCall _ _ _ _ from cR.out).mono ?_
      rintro e w3 ⟨vr, rfl, hin, hvo, b3⟩
      have S5 := S4.bel b3
      have D5 := D4.below b3
      have d0 := D5.cell 0; have d1 := D5.cell 1; have d2 := D5.cell 2; have d3 := D5.cell 3; have d4 := D5.cell 4; have dk := D5.lt
      simp only [List.getElem?_toArray, List.getElem?_cons_zero, List.getElem?_cons_succ] at d0 d1 d2 d3 d4
      obtain ⟨hcb, hc70⟩ := cut70_bd rs
      generalize cut70 rs = crs at *
      obtain ⟨va, vc, rfl⟩ := hin.form
      have V5 := hQ4.out.below S5.below
      have awb : Away bs (.slice va crs.length vc) := fun b hb hm => by have h1 := hvo b hb; have h2 := hSt.s.lt b hm; simp at h1; omega
      have awc : Away cs (.slice va crs.length vc) := fun b hb hm => by have h1 := hvo b hb; have h2 := hSt.k.lt b hm; simp at h1; omega
      clear hSt S4 D4 hB hB4 y0 y1 y2 y3 y4 cR
      rcases Nat.lt_or_ge 80 ks.length with h80 | h80
      · have k1 : ((80 : Int) < (ks.length : Int)) = True := eq_true (by omega)
        have k2 : (80 : Int) ≤ (kc : Int) := by omega
        go_wp2_with fail
        · by_cases he : aerr L nx crs = 0
          · obtain ⟨h0, hlr, hnr⟩ := aerr_0 he
            refine (append5_ok p bs q nx L _ crs w3 S5.s hin awb hcb S5.nx.1 he).use ?_
            intro bs' w5 T1 K1 N1
            have R1 := S5.k.kept K1 (fun x hx hb => S5.apart x hb hx)
            have hin2 := hin.kept K1 awb
            go_wp2_with fail
            refine (rappend5_ok p' cs q nx L _ crs w5 R1 hin2 awc hcb S5.nx.1 he).use ?_
            intro cs' w6 T2 K2 N2
            have hra := rising_append S5.ris S5.off crs S5.nx.1
            have ST := S5.turn T1 K1 N1 T2 K2 N2 hra.1 (by rw [List.length_append, fnds_len]; omega) (fun f hf => (List.mem_append.1 hf).elim (S5.ok f) (fnds_ok h0 nx f)) hra.2 (by have := S5.nx.1; omega)
            clear T1 K1 N1 T2 K2 N2 hra R1 hin2 S5 hnr hlr h0 he
            go_wp2_with fail
            refine (same5 p p' bs' q (nx + crs.length) (L ++ fnds nx crs) _ ST.s ST.k.at ST.len ST.ok).use ?_
            intro w9 B9
            go_wp2_with fail
            go_roundw
            case rel => exact ⟨j + 1, p, bs', cs', (nx + crs.length), (L ++ fnds nx crs), rfl, by go_num, by omega, by omega, ST.bel B9⟩
            case measure => simp [intOf]; omega
          · refine (append5_no p bs q nx L _ crs w3 S5.s hin hcb (by omega) (by have := S5.len; omega) S5.nx he).use ?_
            intro w5 b5
            have S6 := S5.bel b5
            have hin2 := hin.below b5
            go_wp2_with fail
            refine (rappend5_no p' q nx L _ crs w5 S6.k.at hin2 hcb (by omega) (by have := S6.len; omega) S6.nx he).use ?_
            intro w6 b6
            have S7 := S6.bel b6
            clear S5 S6 b5 b6 hin2
            go_wp2_with fail
            refine (same5 p p' bs q nx L _ S7.s S7.k.at S7.len S7.ok).use ?_
            intro w9 B9
            go_wp2_with fail
            go_roundw
            case rel => exact ⟨j + 1, p, bs, cs, nx, L, rfl, by go_num, by omega, by omega, S7.bel B9⟩
            case measure => simp [intOf]; omega
        · refine (read5 p bs q nx L fr n w3 S5.s S5.ris (by have := S5.len; omega)).use ?_
          intro vx w5 O5 B5
          have S6 := S5.bel B5
          have D6 := D5.below B5
          have e1 := D6.cell 1; have e2 := D6.cell 2; have ek := D6.lt
          simp only [List.getElem?_toArray, List.getElem?_cons_zero, List.getElem?_cons_succ] at e1 e2
          have hXl := reads_len fr n L
          have hLl := S5.len
          have hgb : ∀ g, vx.ownBlock = some g → g ∉ bs ∧ g ∉ cs ∧ w.heap.size ≤ g := fun g hg => by
            have h1 := (O5.lt g hg).1
            exact ⟨fun h => by have := S5.s.lt g h; omega, fun h => by have := S5.k.lt g h; omega, by have := S5.below.size; omega⟩
          go_wp2_with fail
          refine (rread5 p' q nx L fr n w5 S6.k.at S6.ris (by omega)).use ?_
          intro vy w6 O6 B6
          have S7 := S6.bel B6
          have O7 := own_keptBy O5 (Kept.ofBelow B6 []) (away_nil _)
          generalize reads fr n L = X at *
          obtain ⟨xa, xc, rfl⟩ := own_form O5
          have cF := Lib.hid ((found5 _ vy X X w6 (fnds_own O7) (fnds_own O6) (by omega) (by omega)).cast (v' := .bool true) (by simp))
          clear O5 B5 S5 S6 D6 O6 e1 e2 ek
          go_wp2_with fail
          refine cF.out.use ?_
          intro w7 B7
          have S8 := S7.bel B7
          have O8 := own_keptBy O7 (Kept.ofBelow B7 []) (away_nil _)
          clear O7 S7 B7 B6 cF
          go_wp2_with fail
          go_loopw [19] (fun (v19 : Value) (W : World) => ∃ (k : Nat) (xs : List Value), v19 = .int .i64 (k : Int) ∧ k ≤ X.length ∧ W.ownsRow w3.heap.size 26 5 (.slice xa X.length xc) X.length xs ∧ St w W p bs p' cs q nx L) (fun (v19 : Value) (W : World) => (X.length - intOf v19).toNat)
          case atStart => exact ⟨0, _, rfl, by omega, O8, S8⟩
          case round =>
            obtain ⟨k, xs, rfl, hk, hO, hS9⟩ := hrel
            by_cases hkl : k < X.length
            · obtain ⟨g, gc, hv, hg1, hg2⟩ := hO.form (by omega)
              simp only [Value.slice.injEq, true_and] at hv
              obtain ⟨rfl, rfl⟩ := hv
              have hgb2 := hgb g rfl
              have hcell := hO.cellAt (k * 5) (by omega)
              have hxl : k * 5 < xs.length := by rw [hO.1]; omega
              rw [List.getElem?_eq_getElem hxl] at hcell
              have hfz := hO.frozenAt (k * 5)
              have hst := hO.stored (k * 5) (.int .i64 99)
              have K9 : Kept [g] _ _ := Kept.ofGrown hst.2
              have ST := hS9.aside K9 hgb2.1 hgb2.2.1 hgb2.2.2
              have HST := Lib.hid hst.1
              have j1 : (0 : Int) ≤ (k : Int) := by omega
              have j2 : (k : Int) < (X.length : Int) := by omega
              generalize xs[k * 5] = ov at *
              clear hst K9 hO hS9
              go_wp2_with fail
              go_roundw
              case rel => exact ⟨k + 1, _, by go_num, by omega, HST.out, ST⟩
              case measure => simp [intOf]; omega
            · go_wp2_with fail
              refine (same5 p p' bs q nx L _ hS9.s hS9.k.at hS9.len hS9.ok).use ?_
              intro w9 B9
              go_wp2_with fail
              go_roundw
              case rel => exact ⟨j + 1, p, bs, cs, nx, L, rfl, by go_num, by omega, by omega, hS9.bel B9⟩
              case measure => simp [intOf]; omega
        · refine (keep5 p bs q nx L _ (ks.take 80) w3 S5.s (nums_take V5 (by omega)) (fun x hx => hQ7.out x (List.mem_of_mem_take hx)) (by rw [List.length_take]; omega) (by have := S5.len; omega) S5.wf).use ?_
          intro bs' w5 T1 K1 N1
          have R1 := S5.k.kept K1 (fun x hx hb => S5.apart x hb hx)
          have B5 := Kept.below S5.below K1 S5.nb S5.below.size
          go_wp2_with fail
          refine (rkeep5 p' cs q nx L _ (ks.take 80) w5 R1 (nums_take (hQ4.out.below B5) (by omega)) (by rw [List.length_take]; omega) (by have := S5.len; omega)).use ?_
          intro cs' w6 T2 K2 N2
          have hkl := keeps_len (ks.take 80) L
          have ST := S5.turn T1 K1 N1 T2 K2 N2 (keeps_rising S5.ris) (by have := S5.len; omega) (fun f hf => S5.ok f (keeps_mem hf)) (fun f hf => S5.off f (keeps_mem hf)) S5.nx
          clear T1 K1 N1 T2 K2 N2 R1 B5 S5
          go_wp2_with fail
          refine (same5 p p' bs' q nx (keeps (ks.take 80) L) _ ST.s ST.k.at ST.len ST.ok).use ?_
          intro w9 B9
          go_wp2_with fail
          go_roundw
          case rel => exact ⟨j + 1, p, bs', cs', nx, (keeps (ks.take 80) L), rfl, by go_num, by omega, by omega, ST.bel B9⟩
          case measure => simp [intOf]; omega
        · refine (copy5 p bs q nx L w3 S5.s (by have := S5.len; omega)).mono ?_
          rintro e w5 ⟨p2, bs2, rfl, T2, B5, N5⟩
          have S6 := S5.bel B5
          have hb5 := S5.s.lt
          have hc5 := S5.k.lt
          have hap : ∀ x ∈ bs2, x ∉ bs ∧ x ∉ cs := fun x hx => ⟨fun h => by have := hb5 x h; have := N5 x hx; omega, fun h => by have := hc5 x h; have := N5 x hx; omega⟩
          have hnb2 : ∀ x ∈ bs2, w.heap.size ≤ x := fun x hx => by have := N5 x hx; have := S5.below.size; omega
          go_wp2_with fail
          refine (v5 _).use ?_
          intro w6 B6
          have S8 := (S6.bel B6).bel (below_all (o := .cells #[.bool false, .string (S []), .bool false, .string (S [118])] 24) (Below.refl w6.heap.size w6))
          have T8 := (T2.below B6).below (below_all (o := .cells #[.bool false, .string (S []), .bool false, .string (S [118])] 24) (Below.refl w6.heap.size w6))
          have hr6 := recs_lit (w := w6) [rv] #[.bool false, .string (S []), .bool false, .string (S [118])] rfl (by decide)
          have haw := away_new (bs := bs) (B := w6.heap.size) (n := 1) (c := 1) (fun x hx => by have := hb5 x hx; have := B5.size; have := B6.size; omega)
          clear S5 S6 T2 B6 B5
          by_cases he : aerr L nx [rv] = 0
          · go_wp2_with fail
            refine (append5_ok p bs q nx L _ [rv] _ S8.s hr6 haw (bd_small _ (by decide +kernel)) S8.nx.1 he).use ?_
            intro bs3 w7 T3 K3 N3
            have hra := rising_append S8.ris S8.off [rv] S8.nx.1
            obtain ⟨h0, hlr, hnr⟩ := aerr_0 he
            go_wp2_with fail
            refine (keep5 p bs3 q _ _ (.slice none 0 0) [] w7 T3 (.inl ⟨rfl, _, _, rfl⟩) (by simp) (by simp) (by rw [List.length_append, fnds_len]; omega) (fun f hf => by
              have h1 := hra.2 f hf
              simp [Lit.wf, IntKind.min, IntKind.max, IntKind.signed, IntKind.bits]
              omega)).use ?_
            intro bs4 w8 T4 K4 N4
            have ST := S8.other T8 hap hnb2 (K3.trans K4 N3)
            clear T3 K3 N3 T4 K4 N4 hra S8 T8
            go_wp2_with fail
            refine (same5 p2 p' bs2 q nx L _ ST.s ST.k.at ST.len ST.ok).use ?_
            intro w9 B9
            go_wp2_with fail
            go_roundw
            case rel => exact ⟨j + 1, p2, bs2, cs, nx, L, rfl, by go_num, by omega, by omega, ST.bel B9⟩
            case measure => simp [intOf]; omega
          · go_wp2_with fail
            refine (append5_no p bs q nx L _ [rv] _ S8.s hr6 (bd_small _ (by decide +kernel)) (by decide) (by have := S8.len; omega) S8.nx he).use ?_
            intro w7 b7
            have S9 := S8.s.below b7
            go_wp2_with fail
            refine (keep5 p bs q nx L (.slice none 0 0) [] w7 S9 (.inl ⟨rfl, _, _, rfl⟩) (by simp) (by simp) (by have := S8.len; omega) S8.wf).use ?_
            intro bs4 w8 T4 K4 N4
            have ST := S8.other T8 hap hnb2 ((Kept.ofBelow b7 bs).trans K4 (fun x hx => .inl hx))
            clear S9 T4 K4 N4 S8 T8 b7
            go_wp2_with fail
            refine (same5 p2 p' bs2 q nx L _ ST.s ST.k.at ST.len ST.ok).use ?_
            intro w9 B9
            go_wp2_with fail
            go_roundw
            case rel => exact ⟨j + 1, p2, bs2, cs, nx, L, rfl, by go_num, by omega, by omega, ST.bel B9⟩
            case measure => simp [intOf]; omega
        · skip
          refine (same5 p p' bs q nx L _ S5.s S5.k.at S5.len S5.ok).use ?_
          intro w9 B9
          go_wp2_with fail
          go_roundw
          case rel => exact ⟨j + 1, p, bs, cs, nx, L, rfl, by go_num, by omega, by omega, S5.bel B9⟩
          case measure => simp [intOf]; omega
      · have k1 : ((80 : Int) < (ks.length : Int)) = False := eq_false (by omega)
        have k2 : (ks.length : Int) ≤ (kc : Int) := by omega
        go_wp2_with fail
        · by_cases he : aerr L nx crs = 0
          · obtain ⟨h0, hlr, hnr⟩ := aerr_0 he
            refine (append5_ok p bs q nx L _ crs w3 S5.s hin awb hcb S5.nx.1 he).use ?_
            intro bs' w5 T1 K1 N1
            have R1 := S5.k.kept K1 (fun x hx hb => S5.apart x hb hx)
            have hin2 := hin.kept K1 awb
            go_wp2_with fail
            refine (rappend5_ok p' cs q nx L _ crs w5 R1 hin2 awc hcb S5.nx.1 he).use ?_
            intro cs' w6 T2 K2 N2
            have hra := rising_append S5.ris S5.off crs S5.nx.1
            have ST := S5.turn T1 K1 N1 T2 K2 N2 hra.1 (by rw [List.length_append, fnds_len]; omega) (fun f hf => (List.mem_append.1 hf).elim (S5.ok f) (fnds_ok h0 nx f)) hra.2 (by have := S5.nx.1; omega)
            clear T1 K1 N1 T2 K2 N2 hra R1 hin2 S5 hnr hlr h0 he
            go_wp2_with fail
            refine (same5 p p' bs' q (nx + crs.length) (L ++ fnds nx crs) _ ST.s ST.k.at ST.len ST.ok).use ?_
            intro w9 B9
            go_wp2_with fail
            go_roundw
            case rel => exact ⟨j + 1, p, bs', cs', (nx + crs.length), (L ++ fnds nx crs), rfl, by go_num, by omega, by omega, ST.bel B9⟩
            case measure => simp [intOf]; omega
          · refine (append5_no p bs q nx L _ crs w3 S5.s hin hcb (by omega) (by have := S5.len; omega) S5.nx he).use ?_
            intro w5 b5
            have S6 := S5.bel b5
            have hin2 := hin.below b5
            go_wp2_with fail
            refine (rappend5_no p' q nx L _ crs w5 S6.k.at hin2 hcb (by omega) (by have := S6.len; omega) S6.nx he).use ?_
            intro w6 b6
            have S7 := S6.bel b6
            clear S5 S6 b5 b6 hin2
            go_wp2_with fail
            refine (same5 p p' bs q nx L _ S7.s S7.k.at S7.len S7.ok).use ?_
            intro w9 B9
            go_wp2_with fail
            go_roundw
            case rel => exact ⟨j + 1, p, bs, cs, nx, L, rfl, by go_num, by omega, by omega, S7.bel B9⟩
            case measure => simp [intOf]; omega
        · refine (read5 p bs q nx L fr n w3 S5.s S5.ris (by have := S5.len; omega)).use ?_
          intro vx w5 O5 B5
          have S6 := S5.bel B5
          have D6 := D5.below B5
          have e1 := D6.cell 1; have e2 := D6.cell 2; have ek := D6.lt
          simp only [List.getElem?_toArray, List.getElem?_cons_zero, List.getElem?_cons_succ] at e1 e2
          have hXl := reads_len fr n L
          have hLl := S5.len
          have hgb : ∀ g, vx.ownBlock = some g → g ∉ bs ∧ g ∉ cs ∧ w.heap.size ≤ g := fun g hg => by
            have h1 := (O5.lt g hg).1
            exact ⟨fun h => by have := S5.s.lt g h; omega, fun h => by have := S5.k.lt g h; omega, by have := S5.below.size; omega⟩
          go_wp2_with fail
          refine (rread5 p' q nx L fr n w5 S6.k.at S6.ris (by omega)).use ?_
          intro vy w6 O6 B6
          have S7 := S6.bel B6
          have O7 := own_keptBy O5 (Kept.ofBelow B6 []) (away_nil _)
          generalize reads fr n L = X at *
          obtain ⟨xa, xc, rfl⟩ := own_form O5
          have cF := Lib.hid ((found5 _ vy X X w6 (fnds_own O7) (fnds_own O6) (by omega) (by omega)).cast (v' := .bool true) (by simp))
          clear O5 B5 S5 S6 D6 O6 e1 e2 ek
          go_wp2_with fail
          refine cF.out.use ?_
          intro w7 B7
          have S8 := S7.bel B7
          have O8 := own_keptBy O7 (Kept.ofBelow B7 []) (away_nil _)
          clear O7 S7 B7 B6 cF
          go_wp2_with fail
          go_loopw [19] (fun (v19 : Value) (W : World) => ∃ (k : Nat) (xs : List Value), v19 = .int .i64 (k : Int) ∧ k ≤ X.length ∧ W.ownsRow w3.heap.size 26 5 (.slice xa X.length xc) X.length xs ∧ St w W p bs p' cs q nx L) (fun (v19 : Value) (W : World) => (X.length - intOf v19).toNat)
          case atStart => exact ⟨0, _, rfl, by omega, O8, S8⟩
          case round =>
            obtain ⟨k, xs, rfl, hk, hO, hS9⟩ := hrel
            by_cases hkl : k < X.length
            · obtain ⟨g, gc, hv, hg1, hg2⟩ := hO.form (by omega)
              simp only [Value.slice.injEq, true_and] at hv
              obtain ⟨rfl, rfl⟩ := hv
              have hgb2 := hgb g rfl
              have hcell := hO.cellAt (k * 5) (by omega)
              have hxl : k * 5 < xs.length := by rw [hO.1]; omega
              rw [List.getElem?_eq_getElem hxl] at hcell
              have hfz := hO.frozenAt (k * 5)
              have hst := hO.stored (k * 5) (.int .i64 99)
              have K9 : Kept [g] _ _ := Kept.ofGrown hst.2
              have ST := hS9.aside K9 hgb2.1 hgb2.2.1 hgb2.2.2
              have HST := Lib.hid hst.1
              have j1 : (0 : Int) ≤ (k : Int) := by omega
              have j2 : (k : Int) < (X.length : Int) := by omega
              generalize xs[k * 5] = ov at *
              clear hst K9 hO hS9
              go_wp2_with fail
              go_roundw
              case rel => exact ⟨k + 1, _, by go_num, by omega, HST.out, ST⟩
              case measure => simp [intOf]; omega
            · go_wp2_with fail
              refine (same5 p p' bs q nx L _ hS9.s hS9.k.at hS9.len hS9.ok).use ?_
              intro w9 B9
              go_wp2_with fail
              go_roundw
              case rel => exact ⟨j + 1, p, bs, cs, nx, L, rfl, by go_num, by omega, by omega, hS9.bel B9⟩
              case measure => simp [intOf]; omega
        · refine (keep5 p bs q nx L _ (ks.take ks.length) w3 S5.s (nums_take V5 (by omega)) (fun x hx => hQ7.out x (List.mem_of_mem_take hx)) (by rw [List.length_take]; omega) (by have := S5.len; omega) S5.wf).use ?_
          intro bs' w5 T1 K1 N1
          have R1 := S5.k.kept K1 (fun x hx hb => S5.apart x hb hx)
          have B5 := Kept.below S5.below K1 S5.nb S5.below.size
          go_wp2_with fail
          refine (rkeep5 p' cs q nx L _ (ks.take ks.length) w5 R1 (nums_take (hQ4.out.below B5) (by omega)) (by rw [List.length_take]; omega) (by have := S5.len; omega)).use ?_
          intro cs' w6 T2 K2 N2
          have hkl := keeps_len (ks.take ks.length) L
          have ST := S5.turn T1 K1 N1 T2 K2 N2 (keeps_rising S5.ris) (by have := S5.len; omega) (fun f hf => S5.ok f (keeps_mem hf)) (fun f hf => S5.off f (keeps_mem hf)) S5.nx
          clear T1 K1 N1 T2 K2 N2 R1 B5 S5
          go_wp2_with fail
          refine (same5 p p' bs' q nx (keeps (ks.take ks.length) L) _ ST.s ST.k.at ST.len ST.ok).use ?_
          intro w9 B9
          go_wp2_with fail
          go_roundw
          case rel => exact ⟨j + 1, p, bs', cs', nx, (keeps (ks.take ks.length) L), rfl, by go_num, by omega, by omega, ST.bel B9⟩
          case measure => simp [intOf]; omega
        · refine (copy5 p bs q nx L w3 S5.s (by have := S5.len; omega)).mono ?_
          rintro e w5 ⟨p2, bs2, rfl, T2, B5, N5⟩
          have S6 := S5.bel B5
          have hb5 := S5.s.lt
          have hc5 := S5.k.lt
          have hap : ∀ x ∈ bs2, x ∉ bs ∧ x ∉ cs := fun x hx => ⟨fun h => by have := hb5 x h; have := N5 x hx; omega, fun h => by have := hc5 x h; have := N5 x hx; omega⟩
          have hnb2 : ∀ x ∈ bs2, w.heap.size ≤ x := fun x hx => by have := N5 x hx; have := S5.below.size; omega
          go_wp2_with fail
          refine (v5 _).use ?_
          intro w6 B6
          have S8 := (S6.bel B6).bel (below_all (o := .cells #[.bool false, .string (S []), .bool false, .string (S [118])] 24) (Below.refl w6.heap.size w6))
          have T8 := (T2.below B6).below (below_all (o := .cells #[.bool false, .string (S []), .bool false, .string (S [118])] 24) (Below.refl w6.heap.size w6))
          have hr6 := recs_lit (w := w6) [rv] #[.bool false, .string (S []), .bool false, .string (S [118])] rfl (by decide)
          have haw := away_new (bs := bs) (B := w6.heap.size) (n := 1) (c := 1) (fun x hx => by have := hb5 x hx; have := B5.size; have := B6.size; omega)
          clear S5 S6 T2 B6 B5
          by_cases he : aerr L nx [rv] = 0
          · go_wp2_with fail
            refine (append5_ok p bs q nx L _ [rv] _ S8.s hr6 haw (bd_small _ (by decide +kernel)) S8.nx.1 he).use ?_
            intro bs3 w7 T3 K3 N3
            have hra := rising_append S8.ris S8.off [rv] S8.nx.1
            obtain ⟨h0, hlr, hnr⟩ := aerr_0 he
            go_wp2_with fail
            refine (keep5 p bs3 q _ _ (.slice none 0 0) [] w7 T3 (.inl ⟨rfl, _, _, rfl⟩) (by simp) (by simp) (by rw [List.length_append, fnds_len]; omega) (fun f hf => by
              have h1 := hra.2 f hf
              simp [Lit.wf, IntKind.min, IntKind.max, IntKind.signed, IntKind.bits]
              omega)).use ?_
            intro bs4 w8 T4 K4 N4
            have ST := S8.other T8 hap hnb2 (K3.trans K4 N3)
            clear T3 K3 N3 T4 K4 N4 hra S8 T8
            go_wp2_with fail
            refine (same5 p2 p' bs2 q nx L _ ST.s ST.k.at ST.len ST.ok).use ?_
            intro w9 B9
            go_wp2_with fail
            go_roundw
            case rel => exact ⟨j + 1, p2, bs2, cs, nx, L, rfl, by go_num, by omega, by omega, ST.bel B9⟩
            case measure => simp [intOf]; omega
          · go_wp2_with fail
            refine (append5_no p bs q nx L _ [rv] _ S8.s hr6 (bd_small _ (by decide +kernel)) (by decide) (by have := S8.len; omega) S8.nx he).use ?_
            intro w7 b7
            have S9 := S8.s.below b7
            go_wp2_with fail
            refine (keep5 p bs q nx L (.slice none 0 0) [] w7 S9 (.inl ⟨rfl, _, _, rfl⟩) (by simp) (by simp) (by have := S8.len; omega) S8.wf).use ?_
            intro bs4 w8 T4 K4 N4
            have ST := S8.other T8 hap hnb2 ((Kept.ofBelow b7 bs).trans K4 (fun x hx => .inl hx))
            clear S9 T4 K4 N4 S8 T8 b7
            go_wp2_with fail
            refine (same5 p2 p' bs2 q nx L _ ST.s ST.k.at ST.len ST.ok).use ?_
            intro w9 B9
            go_wp2_with fail
            go_roundw
            case rel => exact ⟨j + 1, p2, bs2, cs, nx, L, rfl, by go_num, by omega, by omega, ST.bel B9⟩
            case measure => simp [intOf]; omega
        · skip
          refine (same5 p p' bs q nx L _ S5.s S5.k.at S5.len S5.ok).use ?_
          intro w9 B9
          go_wp2_with fail
          go_roundw
          case rel => exact ⟨j + 1, p, bs, cs, nx, L, rfl, by go_num, by omega, by omega, S5.bel B9⟩
          case measure => simp [intOf]; omega
    · have hkt : ¬ (j < l.length) ∨ (j < l.length ∧ ¬ (j < 30)) := by omega
      have hB := hSt.below
      clear hSt
      rcases hkt with hk1 | ⟨hk1, hk2⟩
      all_goals go_wp2_with fail
      all_goals refine (fixed5 _).use ?_
      all_goals intro w5 B5
      all_goals go_wp2_with fail
      all_goals exact finB hR (below_any (Nat.le_refl _) hB B5) rfl
end Go.Proofs.Ytkgpckfaghpgmaa.segmentDoes
