import Derived.Test.YtkgpckfaghpgmaaSegN
/-
  Layer 5: the calls whose answers the document fixes come out as it says.
-/
set_option linter.unusedVariables false
set_option linter.unusedSimpArgs false
namespace Go.Proofs.Ytkgpckfaghpgmaa
open Go.RowKit
attribute [local go_sem] ByteArray.extract_mk ByteArray.mk_append_mk

def rv : Rec := ⟨false, [], false, [118]⟩
def rw5 : Rec := ⟨true, [107], false, [119]⟩
def ro5 : Rec := ⟨false, [111, 100, 100], false, []⟩
def rz5 : Rec := ⟨false, [], false, []⟩
theorem recs_lit {w : World} (rs : List Rec) (cs : Array Value) (hc : cs.toList = rs.flatMap Rec.cells) (hl : rs.length ≤ 1000) : RecsIn (w.alloc (.cells cs 24)) (.slice (some ⟨w.heap.size, 0, none⟩) rs.length rs.length) rs := by
  have hs : cs.size = rs.length * 4 := by
    rw [← Array.length_toList, hc]
    clear hc
    induction rs with
    | nil => rfl
    | cons r l ih => rw [List.flatMap_cons, List.length_append, ih (by simp at hl; omega)]; simp [Rec.cells]; omega
  have h := World.ownsRow_lit (base := 0) (e := 24) (size := 4) w cs rs.length (Nat.zero_le _) (by unfold maxLen; omega) hs
  rw [hc] at h
  exact recs_own h
theorem nums_lit {w : World} (rs : List Int) (cs : Array Value) (hc : cs.toList = rs.map (Value.int .i64)) (hl : rs.length ≤ 1000) : NumsIn (w.alloc (.cells cs 3)) (.slice (some ⟨w.heap.size, 0, none⟩) rs.length rs.length) rs := by
  have hs : cs.size = rs.length * 1 := by rw [← Array.length_toList, hc]; simp
  have h := World.ownsRow_lit (base := 0) (e := 3) (size := 1) w cs rs.length (Nat.zero_le _) (by unfold maxLen; omega) hs
  rw [hc] at h
  exact nums_own h
theorem away_new {bs : List Nat} {B : Nat} {n c : Nat} (h : ∀ x ∈ bs, x < B) : Away bs (.slice (some ⟨B, 0, none⟩) n c) := fun b hb hm => by
  simp only [Value.ownBlock, Option.some.injEq] at hb
  have := h b hm
  omega

theorem bd_small (rs : List Rec) (h : rs.length ≤ 1000 ∧ ∀ r ∈ rs, r.key.length ≤ 1000 ∧ r.val.length ≤ 1000) : RecsBd rs :=
  ⟨by unfold maxLen; omega, fun r hr => ⟨by have := (h.2 r hr).1; unfold maxLen; omega, by have := (h.2 r hr).2; unfold maxLen; omega⟩⟩
def f10 : Fnd := ⟨10, rv⟩
def f11 : Fnd := ⟨11, rw5⟩
theorem rising2 : Rising [f10, f11] := fun i j hi hj => by
  have : i = 0 ∧ j = 1 := by simp at hj; omega
  obtain ⟨rfl, rfl⟩ := this
  show f10.off < f11.off
  decide
theorem fix_append1 (p : Nat) (bs : List Nat) (v : Value) (w : World) (h : SegAt w p bs 10 10 []) (hl : RecsIn w v [rv, rw5]) (ha : Away bs v) : SegCall 19 #[.pointer (some ⟨p, 0, none⟩), v] w p bs (.tuple #[.int .i64 10, .int .i64 0]) 10 12 [f10, f11] :=
  append5_ok p bs 10 10 [] v [rv, rw5] w h hl ha (bd_small _ (by decide +kernel)) (by decide) (by decide +kernel)
theorem fix_read (p : Nat) (bs : List Nat) (w : World) (h : SegAt w p bs 10 12 [f10, f11]) : FndsCall 10 #[.pointer (some ⟨p, 0, none⟩), .int .i64 11, .int .i64 5] w [f11] := by
  have := read5 p bs 10 12 [f10, f11] 11 5 w h rising2 (by decide)
  rwa [show reads 11 5 [f10, f11] = [f11] by decide +kernel] at this
theorem fix_keep (p : Nat) (bs : List Nat) (v : Value) (w : World) (h : SegAt w p bs 10 12 [f10, f11]) (hv : NumsIn w v [11]) : SegCall 22 #[.pointer (some ⟨p, 0, none⟩), v] w p bs (.int .i64 1) 10 12 [f11] := by
  have := keep5 p bs 10 12 [f10, f11] v [11] w h hv (by decide +kernel) (by decide) (by decide) (by decide +kernel)
  rwa [show keeps [11] [f10, f11] = [f11] by decide +kernel] at this
theorem fix_append2 (p : Nat) (bs : List Nat) (v : Value) (w : World) (h : SegAt w p bs 10 12 [f11]) (hl : RecsIn w v [ro5]) : RetB Try.prog 19 #[.pointer (some ⟨p, 0, none⟩), v] w (.tuple #[.int .i64 0, .int .i64 30]) := by
  have := append5_no p bs 10 12 [f11] v [ro5] w h hl (bd_small _ (by decide +kernel)) (by decide) (by decide) (by decide) (by decide +kernel)
  rwa [show aerr [f11] 12 [ro5] = 30 by decide +kernel] at this
theorem fix_append3 (p : Nat) (bs : List Nat) (v : Value) (w : World) (h : SegAt w p bs 10 12 [f11]) (hl : RecsIn w v (List.replicate 64 rz5)) : RetB Try.prog 19 #[.pointer (some ⟨p, 0, none⟩), v] w (.tuple #[.int .i64 0, .int .i64 50]) := by
  have := append5_no p bs 10 12 [f11] v (List.replicate 64 rz5) w h hl (bd_small _ (by decide +kernel)) (by decide) (by decide) (by decide) (by decide +kernel)
  rwa [show aerr [f11] 12 (List.replicate 64 rz5) = 50 by decide +kernel] at this
theorem recbd11 : ∀ f ∈ [f11], RecBd f.r := fun f hf => by
  simp only [List.mem_singleton] at hf
  subst hf
  exact ⟨by unfold maxLen; decide, by unfold maxLen; decide⟩
theorem fix_load1 (v : Value) (w : World) (h : FndsIn w v [f11]) : SegNew 9 #[.int .i64 10, .int .i64 12, v] w 10 12 [f11] := by
  refine (load5 10 12 v [f11] w h (by decide) recbd11).mono fun x w' hx => ?_
  rcases hx with ⟨_, p, bs, h1, h2, h3, h4⟩ | ⟨h1, _⟩
  · exact ⟨p, bs, h1, h2, h3, h4⟩
  · exact absurd (show lerr 10 12 [f11] = 0 by decide +kernel) h1
theorem fix_load2 (v : Value) (w : World) (h : FndsIn w v [f11]) : RetB Try.prog 9 #[.int .i64 10, .int .i64 11, v] w (.tuple #[.pointer none, .int .i64 1]) := by
  refine (load5 10 11 v [f11] w h (by decide) recbd11).mono fun x w' hx => ?_
  rcases hx with ⟨h1, _⟩ | ⟨h1, h2, h3⟩
  · exact absurd h1 (by decide +kernel)
  · rw [show lerr 10 11 [f11] = 1 by decide +kernel] at h2
    exact ⟨h2, h3⟩
theorem fix_bytes (p : Nat) (bs : List Nat) (w : World) (h : SegAt w p bs 10 12 [f11]) : RetB Try.prog 33 #[.pointer (some ⟨p, 0, none⟩)] w (.int .i64 5) := by
  have := bytes5 p bs 10 12 [f11] w h (by decide) recbd11
  rwa [show fbytes [f11] = 5 by decide +kernel] at this
theorem fix_index (p : Nat) (bs : List Nat) (w : World) (h : SegAt w p bs 10 12 [f11]) : NumsCall 20 #[.pointer (some ⟨p, 0, none⟩)] w [11] := index5 p bs 10 12 [f11] w h (by decide)

/-- 64 zero records' cells. -/
def zcells : Array Value := ((List.replicate 64 rz5).flatMap Rec.cells).toArray
theorem make64 (w : World) : (Instr.makeSlice 36 (.int .i64 64) (.int .i64 64)).run Try.prog w = .ok (.slice (some ⟨w.heap.size, 0, none⟩) 64 64) (w.alloc (.cells zcells 24)) := by kernel_rfl
set_option maxHeartbeats 8000000 in
set_option maxRecDepth 100000 in
theorem fixed5 (w : World) : RetB Try.prog 12 #[] w (.bool true) := by
  refine RetB.intro fun R hR => ?_
  have c1 := fun w => new5_ok 10 w (by decide +kernel)
  have cv := fun w => v5 w
  go_enter Try.func12, Try.ntmps12
  go_wp2_with fail
  refine (c1 _).use ?_
  intro p b1 w1 S1 B1 N1
  go_wp2_with fail
  refine (cv _).use ?_
  intro w2 B2
  have S2 := S1.below B2
  have G2 := below_any (Nat.le_refl _) B1 B2
  clear S1 B1 B2 c1 cv
  have hs2 := S2.lt
  have hr2 := recs_lit (w := w2) [rv, rw5] #[.bool false, .string (S []), .bool false, .string (S [118]), .bool true, .string (S [107]), .bool false, .string (S [119])] rfl (by decide)
  have ca := Lib.hid (fix_append1 p b1 _ _ (S2.below (below_all (Below.refl _ _))) hr2 (away_new hs2))
  have G3 := below_all (o := .cells #[.bool false, .string (S []), .bool false, .string (S [118]), .bool true, .string (S [107]), .bool false, .string (S [119])] 24) G2
  clear S2 G2 hs2 hr2
  go_wp2_with fail
  refine ca.out.use ?_
  intro b2 w3 S3 K3 N3
  have G4 := Kept.below G3 K3 N1 G3.size
  have M3 : ∀ x ∈ b2, w.heap.size ≤ x := fun x hx => (N3 x hx).elim (N1 x) fun h => Nat.le_trans G3.size h
  have cr := Lib.hid (fix_read p b2 w3 S3)
  clear ca G3 K3 N3 N1
  go_wp2_with fail
  refine cr.out.use ?_
  intro vl w4 O4 B4
  have S4 := S3.below B4
  have G5 := below_any (Nat.le_refl _) G4 B4
  have aw4 : Away b2 vl := fun b hb hm => by have h1 := (O4.lt b hb).1; have h2 := S3.lt b hm; omega
  have I4 := fnds_own (l := [f11]) O4
  have cn := nums_lit (w := w4) [11] #[.int .i64 11] rfl (by decide)
  have ck := Lib.hid (fix_keep p b2 _ _ (S4.below (below_all (Below.refl _ _))) cn)
  have hz4 := own_lt O4
  obtain ⟨la, lc, rfl⟩ := own_form O4
  have K4 : Kept b2 w4 (w4.alloc (.cells #[.int .i64 11] 3)) := Kept.ofBelow (below_all (Below.refl _ _)) _
  clear cr G4 B4 O4 cn S3 S4
  go_wp2_with fail
  refine ck.out.use ?_
  intro b3 w5 S5 K5 N5
  have I5 := I4.kept (K4.trans K5 (fun x hx => .inl hx)) aw4
  have G6 := Kept.below G5 (K4.trans K5 (fun x hx => .inl hx)) M3 G5.size
  have M5 : ∀ x ∈ b3, w.heap.size ≤ x := fun x hx => (N5 x hx).elim (M3 x) fun h => by have := G5.size; simp at h; omega
  have cs := Lib.hid (span5 p b3 10 12 [f11] w5 S5)
  have aw5 : Away b3 (.slice la [f11].length lc) := fun b hb hm => (N5 b hm).elim (aw4 b hb) fun h => by have := hz4 b hb; simp at h; omega
  clear ck G5 K4 K5 N5 I4 aw4
  go_wp2_with fail
  refine cs.out.use ?_
  intro w6 B6
  have S6 := S5.below B6
  have I6 := I5.below B6
  have G7 := below_any (Nat.le_refl _) G6 B6
  have hr6 := recs_lit (w := w6) [ro5] #[.bool false, .string (S [111, 100, 100]), .bool false, .string (S [])] rfl (by decide)
  have cb := Lib.hid (fix_append2 p b3 _ _ (S6.below (below_all (Below.refl _ _))) hr6)
  have G8 := below_all (o := .cells #[.bool false, .string (S [111, 100, 100]), .bool false, .string (S [])] 24) G7
  have S7 := S6.below (below_all (o := .cells #[.bool false, .string (S [111, 100, 100]), .bool false, .string (S [])] 24) (Below.refl _ _))
  have I7 := I6.alloc (.cells #[.bool false, .string (S [111, 100, 100]), .bool false, .string (S [])] 24)
  clear cs S5 I5 G6 B6 G7 hr6 S6 I6
  go_wp2_with fail
  refine cb.out.use ?_
  intro w7 B7
  have S8 := S7.below B7
  have I8 := I7.below B7
  have G9 := below_any (Nat.le_refl _) G8 B7
  clear cb S7 I7 G8 B7
  have hm := make64
  have hr8 : RecsIn (w7.alloc (.cells zcells 24)) (.slice (some ⟨w7.heap.size, 0, none⟩) 64 64) (List.replicate 64 rz5) := recs_lit (List.replicate 64 rz5) zcells rfl (by decide)
  have S9 := S8.below (below_all (o := .cells zcells 24) (Below.refl _ _))
  have I9 := I8.alloc (.cells zcells 24)
  have G10 := below_all (o := .cells zcells 24) G9
  have cd := Lib.hid (fix_append3 p b3 _ _ S9 hr8)
  clear hr8 S8 I8 G9
  go_wp2_with fail
  refine cd.out.use ?_
  intro w8 B8
  have S10 := S9.below B8
  have I10 := I9.below B8
  have G11 := below_any (Nat.le_refl _) G10 B8
  have cl := Lib.hid (fix_load1 _ _ I10)
  clear cd hm S9 I9 G10 B8
  go_wp2_with fail
  refine cl.out.use ?_
  intro p2 b4 w9 T9 B9 N9
  have S11 := S10.below B9
  have I11 := I10.below B9
  have G12 := below_any (Nat.le_refl _) G11 B9
  have cm := Lib.hid (fix_load2 _ _ I11)
  clear cl S10 I10 G11 B9 T9 N9
  go_wp2_with fail
  refine cm.out.use ?_
  intro w10 B10
  have S12 := S11.below B10
  have I12 := I11.below B10
  have G13 := below_any (Nat.le_refl _) G12 B10
  have co := Lib.hid (new5_no (-1) w10 (by decide +kernel))
  clear cm S11 I11 G12 B10
  go_wp2_with fail
  refine co.out.use ?_
  intro w11 B11
  have S13 := S12.below B11
  have I13 := I12.below B11
  have G14 := below_any (Nat.le_refl _) G13 B11
  clear co S12 I12 G13 B11
  rcases I13 with ⟨h, _⟩ | ⟨bl, ol, cl2, hsl, _, _, hltl, hcl⟩
  · exact absurd h (by decide)
  obtain ⟨x0, x1, x2, x3, x4⟩ := hcl 0 (by decide)
  simp only [Value.slice.injEq, true_and] at hsl
  obtain ⟨rfl, rfl⟩ := hsl
  have x0 : w11.cell? ⟨bl, ol + 0 * 5, none⟩ = some (.int .i64 11) := x0
  have x4 : w11.cell? ⟨bl, ol + 0 * 5 + 4, none⟩ = some (.string (S [119])) := x4
  have cL := Lib.hid (len5 p b3 10 12 [f11] w11 S13)
  have cB := Lib.hid (fix_bytes p b3 w11 S13)
  simp only [Nat.zero_mul, Nat.add_zero] at x0 x4
  clear x1 x2 x3 hcl aw5 hz4
  go_wp2_with fail
  refine cL.out.use ?_
  go_wp2_with fail
  refine cB.out.use ?_
  intro w12 B12
  have S14 := S13.below B12
  have G15 := below_any (Nat.le_refl _) G14 B12
  have cI := Lib.hid (fix_index p b3 w12 S14)
  go_wp2_with fail
  refine cI.out.use ?_
  intro vi w13 O13 B13
  have G16 := below_any (Nat.le_refl _) G15 B13
  have I14 := nums_own (l := [11]) O13
  have cN := Lib.hid ((nums5 vi _ [11] [11] _ (I14.alloc (.cells #[.int .i64 11] 3)) (nums_lit (w := w13) [11] #[.int .i64 11] rfl (by decide)) (by decide) (by decide)).cast (v' := .bool true) rfl)
  go_wp2_with fail
  refine cN.out.use ?_
  intro w14 B14
  go_wp2_with fail
  exact finB hR (below_any (Nat.le_refl _) (below_all G16) B14) rfl
end Go.Proofs.Ytkgpckfaghpgmaa
