/-
  Layer 4, the document: may a command be?
-/
import Derived.Test.YthiliodmbipikaaGreatReqDo
import Derived.Test.YthiliodmbipikaaGreatReqD1
import Derived.Test.YthiliodmbipikaaGreatReqF
set_option linter.unusedVariables false
set_option linter.unusedSimpArgs false
namespace Go.Proofs.YthiliodmbipikaaGreat
open Go.RowKit
attribute [local go_sem] ByteArray.extract_mk ByteArray.mk_append_mk

theorem arr_cellsD {W : World} {b : Nat} {v0 v1 v2 v3 v4 v5 v6 v7 v8 v9 v10 v11 v12 v13 : Value} {T : TypeId} (h : Blk W b #[v0, v1, v2, v3, v4, v5, v6, v7, v8, v9, v10, v11, v12, v13] T) :
    Hid (Blk W b #[v0, v1, v2, v3, v4, v5, v6, v7, v8, v9, v10, v11, v12, v13] T) ∧ b < W.heap.size ∧ W.cell? ⟨b, 0, none⟩ = some v0 ∧ W.cell? ⟨b, 1, none⟩ = some v1 ∧ W.cell? ⟨b, 2, none⟩ = some v2 ∧ W.cell? ⟨b, 3, none⟩ = some v3 ∧ W.cell? ⟨b, 4, none⟩ = some v4 ∧ W.cell? ⟨b, 5, none⟩ = some v5 ∧ W.cell? ⟨b, 6, none⟩ = some v6 ∧ W.cell? ⟨b, 7, none⟩ = some v7 ∧ W.cell? ⟨b, 8, none⟩ = some v8 ∧ W.cell? ⟨b, 9, none⟩ = some v9 ∧ W.cell? ⟨b, 10, none⟩ = some v10 ∧ W.cell? ⟨b, 11, none⟩ = some v11 ∧ W.cell? ⟨b, 12, none⟩ = some v12 ∧ W.cell? ⟨b, 13, none⟩ = some v13 :=
  ⟨Lib.hid h, h.lt, h.cell 0, h.cell 1, h.cell 2, h.cell 3, h.cell 4, h.cell 5, h.cell 6, h.cell 7, h.cell 8, h.cell 9, h.cell 10, h.cell 11, h.cell 12, h.cell 13⟩
set_option maxHeartbeats 4000000 in
set_option maxRecDepth 100000 in
theorem rchk_tn (L : List UInt8) (kind : Int) (topic : List UInt8) (pn n off bp be bq : Int) (nr : Nat) (group member : List UInt8) (gen : Int) (robin : Bool) (nt : Nat) (ra ta : Option Addr) (rc tc : Nat) (O nT nb0 nb1 nb2 nb3 : Bool) (Y : Nat) (w : World) (hl : L.length ≤ 1000)
    (a_t : hasC L 116 = true)
    (a_p : hasC L 112 = false)
    (a_n : hasC L 110 = true)
    (a_o : hasC L 111 = false)
    (a_b : hasC L 98 = false)
    (a_g : hasC L 103 = false)
    (a_m : hasC L 109 = false)
    (a_e : hasC L 101 = false)
    (a_r : hasC L 114 = false)
    (a_l : hasC L 108 = false)
    (hh : ∀ w, RetB Tryz.prog 9 #[.int .i64 kind] w (.string (S L)))
    (hO : ∀ W, Below w.heap.size w W → RetB Tryz.prog 51 #[.agg #[.int .i64 kind, .string (S topic), .int .i64 pn, .int .i64 n, .int .i64 off, .int .i64 bp, .int .i64 be, .int .i64 bq, .slice ra nr rc, .string (S group), .string (S member), .int .i64 gen, .bool robin, .slice ta nt tc]] W (.bool O))
    (hnT : isName topic = nT)
    (lnT : topic.length ≤ maxLen)
    (hb0 : numB pn = nb0)
    (hb1 : numB n = nb1)
    (hb2 : numB off = nb2)
    (hb3 : numB gen = nb3)
    (hk1 : ((kind : Int) < 0) = False) (hk2 : ((12 : Int) < kind) = False) (hk3 : ((kind : Int) == 2) = false) :
    RetB Tryz.prog 27 #[.agg #[.int .i64 kind, .string (S topic), .int .i64 pn, .int .i64 n, .int .i64 off, .int .i64 bp, .int .i64 be, .int .i64 bq, .slice ra nr rc, .string (S group), .string (S member), .int .i64 gen, .bool robin, .slice ta nt tc]] w (.int .i64 ((if (!O || !nT) = true then 40 else if (!nb0 || !nb1 || !nb2 || !nb3) = true then 1 else 0) : Nat)) := by
  refine RetB.intro fun R hR => ?_
  have cM := Lib.hid (fun x w => among4 L x w hl)
  have cH := Lib.hid hh
  have cO := Lib.hid hO
  have cR := Lib.hid (fun n w => rnum_any n w)
  have cNm := Lib.hid (fun l w (h : l.length ≤ maxLen) => rname4 l w h)
  have HQ0 := Lib.hid (Blk.new w #[.int .i64 kind, .string (S topic), .int .i64 pn, .int .i64 n, .int .i64 off, .int .i64 bp, .int .i64 be, .int .i64 bq, .slice ra nr rc, .string (S group), .string (S member), .int .i64 gen, .bool robin, .slice ta nt tc] 29)
  clear hh hO
  go_enter Tryz.func27, Tryz.ntmps27
  go_wp2_with fail
  refine (cH.out _).use ?_
  intro w1 b1
  obtain ⟨hq1, k1, x0, x1, x2, x3, x4, x5, x6, x7, x8, x9, x10, x11, x12, x13⟩ := arr_cellsD (HQ0.out.below b1)
  have B1 := below_any (Nat.le_refl _) (below_all (Below.refl w.heap.size w)) b1
  go_upto_region 4 with fail
  cases O
  · go_wp2_with (first | (go_at_call 52; refine (show Ret _ _ _ _ _ from cM.out _ _).use ?_) | (go_at_call 51; refine (cO.out _ (by assumption)).use ?_; intro w2 b2; obtain ⟨hq2, k2, y0, y1, y2, y3, y4, y5, y6, y7, y8, y9, y10, y11, y12, y13⟩ := arr_cellsD (hq1.out.below b2); have B2 := below_any (Nat.le_refl _) (by assumption) b2) | (go_at_call 53; refine (show Ret _ _ _ _ _ from cNm.out _ _ (by assumption)).use ?_))
    exact finB hR (by assumption) rfl
  · skip
    cases nT
    · go_wp2_with (first | (go_at_call 52; refine (show Ret _ _ _ _ _ from cM.out _ _).use ?_) | (go_at_call 51; refine (cO.out _ (by assumption)).use ?_; intro w2 b2; obtain ⟨hq2, k2, y0, y1, y2, y3, y4, y5, y6, y7, y8, y9, y10, y11, y12, y13⟩ := arr_cellsD (hq1.out.below b2); have B2 := below_any (Nat.le_refl _) (by assumption) b2) | (go_at_call 53; refine (show Ret _ _ _ _ _ from cNm.out _ _ (by assumption)).use ?_))
      exact finB hR (by assumption) rfl
    · skip
      go_upto_region 6 with (first | (go_at_call 52; refine (show Ret _ _ _ _ _ from cM.out _ _).use ?_) | (go_at_call 51; refine (cO.out _ (by assumption)).use ?_; intro w2 b2; obtain ⟨hq2, k2, y0, y1, y2, y3, y4, y5, y6, y7, y8, y9, y10, y11, y12, y13⟩ := arr_cellsD (hq1.out.below b2); have B2 := below_any (Nat.le_refl _) (by assumption) b2) | (go_at_call 53; refine (show Ret _ _ _ _ _ from cNm.out _ _ (by assumption)).use ?_))
      cases nb0
      · go_wp2_with (go_at_call 55; refine (show Ret _ _ _ _ _ from cR.out _ _).use ?_)
        exact finB hR (by assumption) rfl
      · skip
        cases nb1
        · go_wp2_with (go_at_call 55; refine (show Ret _ _ _ _ _ from cR.out _ _).use ?_)
          exact finB hR (by assumption) rfl
        · skip
          cases nb2
          · go_wp2_with (go_at_call 55; refine (show Ret _ _ _ _ _ from cR.out _ _).use ?_)
            exact finB hR (by assumption) rfl
          · skip
            cases nb3
            · go_wp2_with (go_at_call 55; refine (show Ret _ _ _ _ _ from cR.out _ _).use ?_)
              exact finB hR (by assumption) rfl
            · skip
              go_wp2_with (go_at_call 55; refine (show Ret _ _ _ _ _ from cR.out _ _).use ?_)
              exact finB hR (by assumption) rfl
set_option maxHeartbeats 4000000 in
set_option maxRecDepth 100000 in
theorem rchk_n (L : List UInt8) (kind : Int) (topic : List UInt8) (pn n off bp be bq : Int) (nr : Nat) (group member : List UInt8) (gen : Int) (robin : Bool) (nt : Nat) (ra ta : Option Addr) (rc tc : Nat) (O nb0 nb1 nb2 nb3 : Bool) (Y : Nat) (w : World) (hl : L.length ≤ 1000)
    (a_t : hasC L 116 = false)
    (a_p : hasC L 112 = false)
    (a_n : hasC L 110 = true)
    (a_o : hasC L 111 = false)
    (a_b : hasC L 98 = false)
    (a_g : hasC L 103 = false)
    (a_m : hasC L 109 = false)
    (a_e : hasC L 101 = false)
    (a_r : hasC L 114 = false)
    (a_l : hasC L 108 = false)
    (hh : ∀ w, RetB Tryz.prog 9 #[.int .i64 kind] w (.string (S L)))
    (hO : ∀ W, Below w.heap.size w W → RetB Tryz.prog 51 #[.agg #[.int .i64 kind, .string (S topic), .int .i64 pn, .int .i64 n, .int .i64 off, .int .i64 bp, .int .i64 be, .int .i64 bq, .slice ra nr rc, .string (S group), .string (S member), .int .i64 gen, .bool robin, .slice ta nt tc]] W (.bool O))
    (hb0 : numB pn = nb0)
    (hb1 : numB n = nb1)
    (hb2 : numB off = nb2)
    (hb3 : numB gen = nb3)
    (hk1 : ((kind : Int) < 0) = False) (hk2 : ((12 : Int) < kind) = False) (hk3 : ((kind : Int) == 2) = false) :
    RetB Tryz.prog 27 #[.agg #[.int .i64 kind, .string (S topic), .int .i64 pn, .int .i64 n, .int .i64 off, .int .i64 bp, .int .i64 be, .int .i64 bq, .slice ra nr rc, .string (S group), .string (S member), .int .i64 gen, .bool robin, .slice ta nt tc]] w (.int .i64 ((if (!O) = true then 40 else if (!nb0 || !nb1 || !nb2 || !nb3) = true then 1 else 0) : Nat)) := by
  refine RetB.intro fun R hR => ?_
  have cM := Lib.hid (fun x w => among4 L x w hl)
  have cH := Lib.hid hh
  have cO := Lib.hid hO
  have cR := Lib.hid (fun n w => rnum_any n w)
  have HQ0 := Lib.hid (Blk.new w #[.int .i64 kind, .string (S topic), .int .i64 pn, .int .i64 n, .int .i64 off, .int .i64 bp, .int .i64 be, .int .i64 bq, .slice ra nr rc, .string (S group), .string (S member), .int .i64 gen, .bool robin, .slice ta nt tc] 29)
  clear hh hO
  go_enter Tryz.func27, Tryz.ntmps27
  go_wp2_with fail
  refine (cH.out _).use ?_
  intro w1 b1
  obtain ⟨hq1, k1, x0, x1, x2, x3, x4, x5, x6, x7, x8, x9, x10, x11, x12, x13⟩ := arr_cellsD (HQ0.out.below b1)
  have B1 := below_any (Nat.le_refl _) (below_all (Below.refl w.heap.size w)) b1
  go_upto_region 4 with fail
  cases O
  · go_wp2_with (first | (go_at_call 52; refine (show Ret _ _ _ _ _ from cM.out _ _).use ?_) | (go_at_call 51; refine (cO.out _ (by assumption)).use ?_; intro w2 b2; obtain ⟨hq2, k2, y0, y1, y2, y3, y4, y5, y6, y7, y8, y9, y10, y11, y12, y13⟩ := arr_cellsD (hq1.out.below b2); have B2 := below_any (Nat.le_refl _) (by assumption) b2))
    exact finB hR (by assumption) rfl
  · skip
    go_upto_region 6 with (first | (go_at_call 52; refine (show Ret _ _ _ _ _ from cM.out _ _).use ?_) | (go_at_call 51; refine (cO.out _ (by assumption)).use ?_; intro w2 b2; obtain ⟨hq2, k2, y0, y1, y2, y3, y4, y5, y6, y7, y8, y9, y10, y11, y12, y13⟩ := arr_cellsD (hq1.out.below b2); have B2 := below_any (Nat.le_refl _) (by assumption) b2))
    cases nb0
    · go_wp2_with (go_at_call 55; refine (show Ret _ _ _ _ _ from cR.out _ _).use ?_)
      exact finB hR (by assumption) rfl
    · skip
      cases nb1
      · go_wp2_with (go_at_call 55; refine (show Ret _ _ _ _ _ from cR.out _ _).use ?_)
        exact finB hR (by assumption) rfl
      · skip
        cases nb2
        · go_wp2_with (go_at_call 55; refine (show Ret _ _ _ _ _ from cR.out _ _).use ?_)
          exact finB hR (by assumption) rfl
        · skip
          cases nb3
          · go_wp2_with (go_at_call 55; refine (show Ret _ _ _ _ _ from cR.out _ _).use ?_)
            exact finB hR (by assumption) rfl
          · skip
            go_wp2_with (go_at_call 55; refine (show Ret _ _ _ _ _ from cR.out _ _).use ?_)
            exact finB hR (by assumption) rfl
set_option maxHeartbeats 4000000 in
set_option maxRecDepth 100000 in
theorem rchk_pb (L : List UInt8) (kind : Int) (topic : List UInt8) (pn n off bp be bq : Int) (nr : Nat) (group member : List UInt8) (gen : Int) (robin : Bool) (nt : Nat) (ra ta : Option Addr) (rc tc : Nat) (O nT nb0 nb1 nb2 nb3 : Bool) (Y : Nat) (w : World) (hl : L.length ≤ 1000)
    (a_t : hasC L 116 = false)
    (a_p : hasC L 112 = true)
    (a_n : hasC L 110 = false)
    (a_o : hasC L 111 = false)
    (a_b : hasC L 98 = true)
    (a_g : hasC L 103 = false)
    (a_m : hasC L 109 = false)
    (a_e : hasC L 101 = false)
    (a_r : hasC L 114 = false)
    (a_l : hasC L 108 = false)
    (hh : ∀ w, RetB Tryz.prog 9 #[.int .i64 kind] w (.string (S L)))
    (hO : ∀ W, Below w.heap.size w W → RetB Tryz.prog 51 #[.agg #[.int .i64 kind, .string (S topic), .int .i64 pn, .int .i64 n, .int .i64 off, .int .i64 bp, .int .i64 be, .int .i64 bq, .slice ra nr rc, .string (S group), .string (S member), .int .i64 gen, .bool robin, .slice ta nt tc]] W (.bool O))
    (hnT : isName topic = nT)
    (lnT : topic.length ≤ maxLen)
    (hb0 : numB pn = nb0)
    (hb1 : numB n = nb1)
    (hb2 : numB off = nb2)
    (hb3 : numB gen = nb3)
    (hk1 : ((kind : Int) < 0) = False) (hk2 : ((12 : Int) < kind) = False) (hk3 : ((kind : Int) == 2) = true)
    (hY : ∀ W, Below w.heap.size w W → RetB Tryz.prog 56 #[.agg #[.int .i64 bp, .int .i64 be, .int .i64 bq, .slice ra nr rc]] W (.int .i64 (Y : Nat))) :
    RetB Tryz.prog 27 #[.agg #[.int .i64 kind, .string (S topic), .int .i64 pn, .int .i64 n, .int .i64 off, .int .i64 bp, .int .i64 be, .int .i64 bq, .slice ra nr rc, .string (S group), .string (S member), .int .i64 gen, .bool robin, .slice ta nt tc]] w (.int .i64 ((if (!O || !nT) = true then 40 else if (!nb0 || !nb1 || !nb2 || !nb3) = true then 1 else Y) : Nat)) := by
  refine RetB.intro fun R hR => ?_
  have cM := Lib.hid (fun x w => among4 L x w hl)
  have cH := Lib.hid hh
  have cO := Lib.hid hO
  have cR := Lib.hid (fun n w => rnum_any n w)
  have cNm := Lib.hid (fun l w (h : l.length ≤ maxLen) => rname4 l w h)
  have cY := Lib.hid hY
  have HQ0 := Lib.hid (Blk.new w #[.int .i64 kind, .string (S topic), .int .i64 pn, .int .i64 n, .int .i64 off, .int .i64 bp, .int .i64 be, .int .i64 bq, .slice ra nr rc, .string (S group), .string (S member), .int .i64 gen, .bool robin, .slice ta nt tc] 29)
  clear hh hO hY
  go_enter Tryz.func27, Tryz.ntmps27
  go_wp2_with fail
  refine (cH.out _).use ?_
  intro w1 b1
  obtain ⟨hq1, k1, x0, x1, x2, x3, x4, x5, x6, x7, x8, x9, x10, x11, x12, x13⟩ := arr_cellsD (HQ0.out.below b1)
  have B1 := below_any (Nat.le_refl _) (below_all (Below.refl w.heap.size w)) b1
  go_upto_region 4 with fail
  cases O
  · go_wp2_with (first | (go_at_call 52; refine (show Ret _ _ _ _ _ from cM.out _ _).use ?_) | (go_at_call 51; refine (cO.out _ (by assumption)).use ?_; intro w2 b2; obtain ⟨hq2, k2, y0, y1, y2, y3, y4, y5, y6, y7, y8, y9, y10, y11, y12, y13⟩ := arr_cellsD (hq1.out.below b2); have B2 := below_any (Nat.le_refl _) (by assumption) b2) | (go_at_call 53; refine (show Ret _ _ _ _ _ from cNm.out _ _ (by assumption)).use ?_))
    exact finB hR (by assumption) rfl
  · skip
    cases nT
    · go_wp2_with (first | (go_at_call 52; refine (show Ret _ _ _ _ _ from cM.out _ _).use ?_) | (go_at_call 51; refine (cO.out _ (by assumption)).use ?_; intro w2 b2; obtain ⟨hq2, k2, y0, y1, y2, y3, y4, y5, y6, y7, y8, y9, y10, y11, y12, y13⟩ := arr_cellsD (hq1.out.below b2); have B2 := below_any (Nat.le_refl _) (by assumption) b2) | (go_at_call 53; refine (show Ret _ _ _ _ _ from cNm.out _ _ (by assumption)).use ?_))
      exact finB hR (by assumption) rfl
    · skip
      go_upto_region 6 with (first | (go_at_call 52; refine (show Ret _ _ _ _ _ from cM.out _ _).use ?_) | (go_at_call 51; refine (cO.out _ (by assumption)).use ?_; intro w2 b2; obtain ⟨hq2, k2, y0, y1, y2, y3, y4, y5, y6, y7, y8, y9, y10, y11, y12, y13⟩ := arr_cellsD (hq1.out.below b2); have B2 := below_any (Nat.le_refl _) (by assumption) b2) | (go_at_call 53; refine (show Ret _ _ _ _ _ from cNm.out _ _ (by assumption)).use ?_))
      cases nb0
      · go_wp2_with (go_at_call 55; refine (show Ret _ _ _ _ _ from cR.out _ _).use ?_)
        exact finB hR (by assumption) rfl
      · skip
        cases nb1
        · go_wp2_with (go_at_call 55; refine (show Ret _ _ _ _ _ from cR.out _ _).use ?_)
          exact finB hR (by assumption) rfl
        · skip
          cases nb2
          · go_wp2_with (go_at_call 55; refine (show Ret _ _ _ _ _ from cR.out _ _).use ?_)
            exact finB hR (by assumption) rfl
          · skip
            cases nb3
            · go_wp2_with (go_at_call 55; refine (show Ret _ _ _ _ _ from cR.out _ _).use ?_)
              exact finB hR (by assumption) rfl
            · skip
              go_wp2_with (first | (go_at_call 55; refine (show Ret _ _ _ _ _ from cR.out _ _).use ?_) | (go_at_call 56; refine (cY.out _ (by assumption)).use ?_; intro w4 b4; have B4 := below_any (Nat.le_refl _) (by assumption) b4))
              exact finB hR (by assumption) rfl
set_option maxHeartbeats 4000000 in
set_option maxRecDepth 100000 in
theorem rchk_pon (L : List UInt8) (kind : Int) (topic : List UInt8) (pn n off bp be bq : Int) (nr : Nat) (group member : List UInt8) (gen : Int) (robin : Bool) (nt : Nat) (ra ta : Option Addr) (rc tc : Nat) (O nT nb0 nb1 nb2 nb3 : Bool) (Y : Nat) (w : World) (hl : L.length ≤ 1000)
    (a_t : hasC L 116 = false)
    (a_p : hasC L 112 = true)
    (a_n : hasC L 110 = true)
    (a_o : hasC L 111 = true)
    (a_b : hasC L 98 = false)
    (a_g : hasC L 103 = false)
    (a_m : hasC L 109 = false)
    (a_e : hasC L 101 = false)
    (a_r : hasC L 114 = false)
    (a_l : hasC L 108 = false)
    (hh : ∀ w, RetB Tryz.prog 9 #[.int .i64 kind] w (.string (S L)))
    (hO : ∀ W, Below w.heap.size w W → RetB Tryz.prog 51 #[.agg #[.int .i64 kind, .string (S topic), .int .i64 pn, .int .i64 n, .int .i64 off, .int .i64 bp, .int .i64 be, .int .i64 bq, .slice ra nr rc, .string (S group), .string (S member), .int .i64 gen, .bool robin, .slice ta nt tc]] W (.bool O))
    (hnT : isName topic = nT)
    (lnT : topic.length ≤ maxLen)
    (hb0 : numB pn = nb0)
    (hb1 : numB n = nb1)
    (hb2 : numB off = nb2)
    (hb3 : numB gen = nb3)
    (hk1 : ((kind : Int) < 0) = False) (hk2 : ((12 : Int) < kind) = False) (hk3 : ((kind : Int) == 2) = false) :
    RetB Tryz.prog 27 #[.agg #[.int .i64 kind, .string (S topic), .int .i64 pn, .int .i64 n, .int .i64 off, .int .i64 bp, .int .i64 be, .int .i64 bq, .slice ra nr rc, .string (S group), .string (S member), .int .i64 gen, .bool robin, .slice ta nt tc]] w (.int .i64 ((if (!O || !nT) = true then 40 else if (!nb0 || !nb1 || !nb2 || !nb3) = true then 1 else 0) : Nat)) := by
  refine RetB.intro fun R hR => ?_
  have cM := Lib.hid (fun x w => among4 L x w hl)
  have cH := Lib.hid hh
  have cO := Lib.hid hO
  have cR := Lib.hid (fun n w => rnum_any n w)
  have cNm := Lib.hid (fun l w (h : l.length ≤ maxLen) => rname4 l w h)
  have HQ0 := Lib.hid (Blk.new w #[.int .i64 kind, .string (S topic), .int .i64 pn, .int .i64 n, .int .i64 off, .int .i64 bp, .int .i64 be, .int .i64 bq, .slice ra nr rc, .string (S group), .string (S member), .int .i64 gen, .bool robin, .slice ta nt tc] 29)
  clear hh hO
  go_enter Tryz.func27, Tryz.ntmps27
  go_wp2_with fail
  refine (cH.out _).use ?_
  intro w1 b1
  obtain ⟨hq1, k1, x0, x1, x2, x3, x4, x5, x6, x7, x8, x9, x10, x11, x12, x13⟩ := arr_cellsD (HQ0.out.below b1)
  have B1 := below_any (Nat.le_refl _) (below_all (Below.refl w.heap.size w)) b1
  go_upto_region 4 with fail
  cases O
  · go_wp2_with (first | (go_at_call 52; refine (show Ret _ _ _ _ _ from cM.out _ _).use ?_) | (go_at_call 51; refine (cO.out _ (by assumption)).use ?_; intro w2 b2; obtain ⟨hq2, k2, y0, y1, y2, y3, y4, y5, y6, y7, y8, y9, y10, y11, y12, y13⟩ := arr_cellsD (hq1.out.below b2); have B2 := below_any (Nat.le_refl _) (by assumption) b2) | (go_at_call 53; refine (show Ret _ _ _ _ _ from cNm.out _ _ (by assumption)).use ?_))
    exact finB hR (by assumption) rfl
  · skip
    cases nT
    · go_wp2_with (first | (go_at_call 52; refine (show Ret _ _ _ _ _ from cM.out _ _).use ?_) | (go_at_call 51; refine (cO.out _ (by assumption)).use ?_; intro w2 b2; obtain ⟨hq2, k2, y0, y1, y2, y3, y4, y5, y6, y7, y8, y9, y10, y11, y12, y13⟩ := arr_cellsD (hq1.out.below b2); have B2 := below_any (Nat.le_refl _) (by assumption) b2) | (go_at_call 53; refine (show Ret _ _ _ _ _ from cNm.out _ _ (by assumption)).use ?_))
      exact finB hR (by assumption) rfl
    · skip
      go_upto_region 6 with (first | (go_at_call 52; refine (show Ret _ _ _ _ _ from cM.out _ _).use ?_) | (go_at_call 51; refine (cO.out _ (by assumption)).use ?_; intro w2 b2; obtain ⟨hq2, k2, y0, y1, y2, y3, y4, y5, y6, y7, y8, y9, y10, y11, y12, y13⟩ := arr_cellsD (hq1.out.below b2); have B2 := below_any (Nat.le_refl _) (by assumption) b2) | (go_at_call 53; refine (show Ret _ _ _ _ _ from cNm.out _ _ (by assumption)).use ?_))
      cases nb0
      · go_wp2_with (go_at_call 55; refine (show Ret _ _ _ _ _ from cR.out _ _).use ?_)
        exact finB hR (by assumption) rfl
      · skip
        cases nb1
        · go_wp2_with (go_at_call 55; refine (show Ret _ _ _ _ _ from cR.out _ _).use ?_)
          exact finB hR (by assumption) rfl
        · skip
          cases nb2
          · go_wp2_with (go_at_call 55; refine (show Ret _ _ _ _ _ from cR.out _ _).use ?_)
            exact finB hR (by assumption) rfl
          · skip
            cases nb3
            · go_wp2_with (go_at_call 55; refine (show Ret _ _ _ _ _ from cR.out _ _).use ?_)
              exact finB hR (by assumption) rfl
            · skip
              go_wp2_with (go_at_call 55; refine (show Ret _ _ _ _ _ from cR.out _ _).use ?_)
              exact finB hR (by assumption) rfl
set_option maxHeartbeats 4000000 in
set_option maxRecDepth 100000 in
theorem rchk_po (L : List UInt8) (kind : Int) (topic : List UInt8) (pn n off bp be bq : Int) (nr : Nat) (group member : List UInt8) (gen : Int) (robin : Bool) (nt : Nat) (ra ta : Option Addr) (rc tc : Nat) (O nT nb0 nb1 nb2 nb3 : Bool) (Y : Nat) (w : World) (hl : L.length ≤ 1000)
    (a_t : hasC L 116 = false)
    (a_p : hasC L 112 = true)
    (a_n : hasC L 110 = false)
    (a_o : hasC L 111 = true)
    (a_b : hasC L 98 = false)
    (a_g : hasC L 103 = false)
    (a_m : hasC L 109 = false)
    (a_e : hasC L 101 = false)
    (a_r : hasC L 114 = false)
    (a_l : hasC L 108 = false)
    (hh : ∀ w, RetB Tryz.prog 9 #[.int .i64 kind] w (.string (S L)))
    (hO : ∀ W, Below w.heap.size w W → RetB Tryz.prog 51 #[.agg #[.int .i64 kind, .string (S topic), .int .i64 pn, .int .i64 n, .int .i64 off, .int .i64 bp, .int .i64 be, .int .i64 bq, .slice ra nr rc, .string (S group), .string (S member), .int .i64 gen, .bool robin, .slice ta nt tc]] W (.bool O))
    (hnT : isName topic = nT)
    (lnT : topic.length ≤ maxLen)
    (hb0 : numB pn = nb0)
    (hb1 : numB n = nb1)
    (hb2 : numB off = nb2)
    (hb3 : numB gen = nb3)
    (hk1 : ((kind : Int) < 0) = False) (hk2 : ((12 : Int) < kind) = False) (hk3 : ((kind : Int) == 2) = false) :
    RetB Tryz.prog 27 #[.agg #[.int .i64 kind, .string (S topic), .int .i64 pn, .int .i64 n, .int .i64 off, .int .i64 bp, .int .i64 be, .int .i64 bq, .slice ra nr rc, .string (S group), .string (S member), .int .i64 gen, .bool robin, .slice ta nt tc]] w (.int .i64 ((if (!O || !nT) = true then 40 else if (!nb0 || !nb1 || !nb2 || !nb3) = true then 1 else 0) : Nat)) := by
  refine RetB.intro fun R hR => ?_
  have cM := Lib.hid (fun x w => among4 L x w hl)
  have cH := Lib.hid hh
  have cO := Lib.hid hO
  have cR := Lib.hid (fun n w => rnum_any n w)
  have cNm := Lib.hid (fun l w (h : l.length ≤ maxLen) => rname4 l w h)
  have HQ0 := Lib.hid (Blk.new w #[.int .i64 kind, .string (S topic), .int .i64 pn, .int .i64 n, .int .i64 off, .int .i64 bp, .int .i64 be, .int .i64 bq, .slice ra nr rc, .string (S group), .string (S member), .int .i64 gen, .bool robin, .slice ta nt tc] 29)
  clear hh hO
  go_enter Tryz.func27, Tryz.ntmps27
  go_wp2_with fail
  refine (cH.out _).use ?_
  intro w1 b1
  obtain ⟨hq1, k1, x0, x1, x2, x3, x4, x5, x6, x7, x8, x9, x10, x11, x12, x13⟩ := arr_cellsD (HQ0.out.below b1)
  have B1 := below_any (Nat.le_refl _) (below_all (Below.refl w.heap.size w)) b1
  go_upto_region 4 with fail
  cases O
  · go_wp2_with (first | (go_at_call 52; refine (show Ret _ _ _ _ _ from cM.out _ _).use ?_) | (go_at_call 51; refine (cO.out _ (by assumption)).use ?_; intro w2 b2; obtain ⟨hq2, k2, y0, y1, y2, y3, y4, y5, y6, y7, y8, y9, y10, y11, y12, y13⟩ := arr_cellsD (hq1.out.below b2); have B2 := below_any (Nat.le_refl _) (by assumption) b2) | (go_at_call 53; refine (show Ret _ _ _ _ _ from cNm.out _ _ (by assumption)).use ?_))
    exact finB hR (by assumption) rfl
  · skip
    cases nT
    · go_wp2_with (first | (go_at_call 52; refine (show Ret _ _ _ _ _ from cM.out _ _).use ?_) | (go_at_call 51; refine (cO.out _ (by assumption)).use ?_; intro w2 b2; obtain ⟨hq2, k2, y0, y1, y2, y3, y4, y5, y6, y7, y8, y9, y10, y11, y12, y13⟩ := arr_cellsD (hq1.out.below b2); have B2 := below_any (Nat.le_refl _) (by assumption) b2) | (go_at_call 53; refine (show Ret _ _ _ _ _ from cNm.out _ _ (by assumption)).use ?_))
      exact finB hR (by assumption) rfl
    · skip
      go_upto_region 6 with (first | (go_at_call 52; refine (show Ret _ _ _ _ _ from cM.out _ _).use ?_) | (go_at_call 51; refine (cO.out _ (by assumption)).use ?_; intro w2 b2; obtain ⟨hq2, k2, y0, y1, y2, y3, y4, y5, y6, y7, y8, y9, y10, y11, y12, y13⟩ := arr_cellsD (hq1.out.below b2); have B2 := below_any (Nat.le_refl _) (by assumption) b2) | (go_at_call 53; refine (show Ret _ _ _ _ _ from cNm.out _ _ (by assumption)).use ?_))
      cases nb0
      · go_wp2_with (go_at_call 55; refine (show Ret _ _ _ _ _ from cR.out _ _).use ?_)
        exact finB hR (by assumption) rfl
      · skip
        cases nb1
        · go_wp2_with (go_at_call 55; refine (show Ret _ _ _ _ _ from cR.out _ _).use ?_)
          exact finB hR (by assumption) rfl
        · skip
          cases nb2
          · go_wp2_with (go_at_call 55; refine (show Ret _ _ _ _ _ from cR.out _ _).use ?_)
            exact finB hR (by assumption) rfl
          · skip
            cases nb3
            · go_wp2_with (go_at_call 55; refine (show Ret _ _ _ _ _ from cR.out _ _).use ?_)
              exact finB hR (by assumption) rfl
            · skip
              go_wp2_with (go_at_call 55; refine (show Ret _ _ _ _ _ from cR.out _ _).use ?_)
              exact finB hR (by assumption) rfl
set_option maxHeartbeats 4000000 in
set_option maxRecDepth 100000 in
theorem rchk_p (L : List UInt8) (kind : Int) (topic : List UInt8) (pn n off bp be bq : Int) (nr : Nat) (group member : List UInt8) (gen : Int) (robin : Bool) (nt : Nat) (ra ta : Option Addr) (rc tc : Nat) (O nT nb0 nb1 nb2 nb3 : Bool) (Y : Nat) (w : World) (hl : L.length ≤ 1000)
    (a_t : hasC L 116 = false)
    (a_p : hasC L 112 = true)
    (a_n : hasC L 110 = false)
    (a_o : hasC L 111 = false)
    (a_b : hasC L 98 = false)
    (a_g : hasC L 103 = false)
    (a_m : hasC L 109 = false)
    (a_e : hasC L 101 = false)
    (a_r : hasC L 114 = false)
    (a_l : hasC L 108 = false)
    (hh : ∀ w, RetB Tryz.prog 9 #[.int .i64 kind] w (.string (S L)))
    (hO : ∀ W, Below w.heap.size w W → RetB Tryz.prog 51 #[.agg #[.int .i64 kind, .string (S topic), .int .i64 pn, .int .i64 n, .int .i64 off, .int .i64 bp, .int .i64 be, .int .i64 bq, .slice ra nr rc, .string (S group), .string (S member), .int .i64 gen, .bool robin, .slice ta nt tc]] W (.bool O))
    (hnT : isName topic = nT)
    (lnT : topic.length ≤ maxLen)
    (hb0 : numB pn = nb0)
    (hb1 : numB n = nb1)
    (hb2 : numB off = nb2)
    (hb3 : numB gen = nb3)
    (hk1 : ((kind : Int) < 0) = False) (hk2 : ((12 : Int) < kind) = False) (hk3 : ((kind : Int) == 2) = false) :
    RetB Tryz.prog 27 #[.agg #[.int .i64 kind, .string (S topic), .int .i64 pn, .int .i64 n, .int .i64 off, .int .i64 bp, .int .i64 be, .int .i64 bq, .slice ra nr rc, .string (S group), .string (S member), .int .i64 gen, .bool robin, .slice ta nt tc]] w (.int .i64 ((if (!O || !nT) = true then 40 else if (!nb0 || !nb1 || !nb2 || !nb3) = true then 1 else 0) : Nat)) := by
  refine RetB.intro fun R hR => ?_
  have cM := Lib.hid (fun x w => among4 L x w hl)
  have cH := Lib.hid hh
  have cO := Lib.hid hO
  have cR := Lib.hid (fun n w => rnum_any n w)
  have cNm := Lib.hid (fun l w (h : l.length ≤ maxLen) => rname4 l w h)
  have HQ0 := Lib.hid (Blk.new w #[.int .i64 kind, .string (S topic), .int .i64 pn, .int .i64 n, .int .i64 off, .int .i64 bp, .int .i64 be, .int .i64 bq, .slice ra nr rc, .string (S group), .string (S member), .int .i64 gen, .bool robin, .slice ta nt tc] 29)
  clear hh hO
  go_enter Tryz.func27, Tryz.ntmps27
  go_wp2_with fail
  refine (cH.out _).use ?_
  intro w1 b1
  obtain ⟨hq1, k1, x0, x1, x2, x3, x4, x5, x6, x7, x8, x9, x10, x11, x12, x13⟩ := arr_cellsD (HQ0.out.below b1)
  have B1 := below_any (Nat.le_refl _) (below_all (Below.refl w.heap.size w)) b1
  go_upto_region 4 with fail
  cases O
  · go_wp2_with (first | (go_at_call 52; refine (show Ret _ _ _ _ _ from cM.out _ _).use ?_) | (go_at_call 51; refine (cO.out _ (by assumption)).use ?_; intro w2 b2; obtain ⟨hq2, k2, y0, y1, y2, y3, y4, y5, y6, y7, y8, y9, y10, y11, y12, y13⟩ := arr_cellsD (hq1.out.below b2); have B2 := below_any (Nat.le_refl _) (by assumption) b2) | (go_at_call 53; refine (show Ret _ _ _ _ _ from cNm.out _ _ (by assumption)).use ?_))
    exact finB hR (by assumption) rfl
  · skip
    cases nT
    · go_wp2_with (first | (go_at_call 52; refine (show Ret _ _ _ _ _ from cM.out _ _).use ?_) | (go_at_call 51; refine (cO.out _ (by assumption)).use ?_; intro w2 b2; obtain ⟨hq2, k2, y0, y1, y2, y3, y4, y5, y6, y7, y8, y9, y10, y11, y12, y13⟩ := arr_cellsD (hq1.out.below b2); have B2 := below_any (Nat.le_refl _) (by assumption) b2) | (go_at_call 53; refine (show Ret _ _ _ _ _ from cNm.out _ _ (by assumption)).use ?_))
      exact finB hR (by assumption) rfl
    · skip
      go_upto_region 6 with (first | (go_at_call 52; refine (show Ret _ _ _ _ _ from cM.out _ _).use ?_) | (go_at_call 51; refine (cO.out _ (by assumption)).use ?_; intro w2 b2; obtain ⟨hq2, k2, y0, y1, y2, y3, y4, y5, y6, y7, y8, y9, y10, y11, y12, y13⟩ := arr_cellsD (hq1.out.below b2); have B2 := below_any (Nat.le_refl _) (by assumption) b2) | (go_at_call 53; refine (show Ret _ _ _ _ _ from cNm.out _ _ (by assumption)).use ?_))
      cases nb0
      · go_wp2_with (go_at_call 55; refine (show Ret _ _ _ _ _ from cR.out _ _).use ?_)
        exact finB hR (by assumption) rfl
      · skip
        cases nb1
        · go_wp2_with (go_at_call 55; refine (show Ret _ _ _ _ _ from cR.out _ _).use ?_)
          exact finB hR (by assumption) rfl
        · skip
          cases nb2
          · go_wp2_with (go_at_call 55; refine (show Ret _ _ _ _ _ from cR.out _ _).use ?_)
            exact finB hR (by assumption) rfl
          · skip
            cases nb3
            · go_wp2_with (go_at_call 55; refine (show Ret _ _ _ _ _ from cR.out _ _).use ?_)
              exact finB hR (by assumption) rfl
            · skip
              go_wp2_with (go_at_call 55; refine (show Ret _ _ _ _ _ from cR.out _ _).use ?_)
              exact finB hR (by assumption) rfl
set_option maxHeartbeats 4000000 in
set_option maxRecDepth 100000 in
theorem rchk_gmnrl (L : List UInt8) (kind : Int) (topic : List UInt8) (pn n off bp be bq : Int) (nr : Nat) (group member : List UInt8) (gen : Int) (robin : Bool) (nt : Nat) (ra ta : Option Addr) (rc tc : Nat) (O nG nM nL nb0 nb1 nb2 nb3 : Bool) (Y : Nat) (w : World) (hl : L.length ≤ 1000)
    (a_t : hasC L 116 = false)
    (a_p : hasC L 112 = false)
    (a_n : hasC L 110 = true)
    (a_o : hasC L 111 = false)
    (a_b : hasC L 98 = false)
    (a_g : hasC L 103 = true)
    (a_m : hasC L 109 = true)
    (a_e : hasC L 101 = false)
    (a_r : hasC L 114 = true)
    (a_l : hasC L 108 = true)
    (hh : ∀ w, RetB Tryz.prog 9 #[.int .i64 kind] w (.string (S L)))
    (hO : ∀ W, Below w.heap.size w W → RetB Tryz.prog 51 #[.agg #[.int .i64 kind, .string (S topic), .int .i64 pn, .int .i64 n, .int .i64 off, .int .i64 bp, .int .i64 be, .int .i64 bq, .slice ra nr rc, .string (S group), .string (S member), .int .i64 gen, .bool robin, .slice ta nt tc]] W (.bool O))
    (hnG : isName group = nG)
    (lnG : group.length ≤ maxLen)
    (hnM : isName member = nM)
    (lnM : member.length ≤ maxLen)
    (hnL : ∀ W, Below w.heap.size w W → RetB Tryz.prog 54 #[.slice ta nt tc] W (.bool nL))
    (hb0 : numB pn = nb0)
    (hb1 : numB n = nb1)
    (hb2 : numB off = nb2)
    (hb3 : numB gen = nb3)
    (hk1 : ((kind : Int) < 0) = False) (hk2 : ((12 : Int) < kind) = False) (hk3 : ((kind : Int) == 2) = false) :
    RetB Tryz.prog 27 #[.agg #[.int .i64 kind, .string (S topic), .int .i64 pn, .int .i64 n, .int .i64 off, .int .i64 bp, .int .i64 be, .int .i64 bq, .slice ra nr rc, .string (S group), .string (S member), .int .i64 gen, .bool robin, .slice ta nt tc]] w (.int .i64 ((if (!O || !nG || !nM || !nL) = true then 40 else if (!nb0 || !nb1 || !nb2 || !nb3) = true then 1 else 0) : Nat)) := by
  refine RetB.intro fun R hR => ?_
  have cM := Lib.hid (fun x w => among4 L x w hl)
  have cH := Lib.hid hh
  have cO := Lib.hid hO
  have cR := Lib.hid (fun n w => rnum_any n w)
  have cNm := Lib.hid (fun l w (h : l.length ≤ maxLen) => rname4 l w h)
  have cL := Lib.hid hnL
  have HQ0 := Lib.hid (Blk.new w #[.int .i64 kind, .string (S topic), .int .i64 pn, .int .i64 n, .int .i64 off, .int .i64 bp, .int .i64 be, .int .i64 bq, .slice ra nr rc, .string (S group), .string (S member), .int .i64 gen, .bool robin, .slice ta nt tc] 29)
  clear hh hO hnL
  go_enter Tryz.func27, Tryz.ntmps27
  go_wp2_with fail
  refine (cH.out _).use ?_
  intro w1 b1
  obtain ⟨hq1, k1, x0, x1, x2, x3, x4, x5, x6, x7, x8, x9, x10, x11, x12, x13⟩ := arr_cellsD (HQ0.out.below b1)
  have B1 := below_any (Nat.le_refl _) (below_all (Below.refl w.heap.size w)) b1
  go_upto_region 4 with fail
  cases O
  · go_wp2_with (first | (go_at_call 52; refine (show Ret _ _ _ _ _ from cM.out _ _).use ?_) | (go_at_call 51; refine (cO.out _ (by assumption)).use ?_; intro w2 b2; obtain ⟨hq2, k2, y0, y1, y2, y3, y4, y5, y6, y7, y8, y9, y10, y11, y12, y13⟩ := arr_cellsD (hq1.out.below b2); have B2 := below_any (Nat.le_refl _) (by assumption) b2) | (go_at_call 53; refine (show Ret _ _ _ _ _ from cNm.out _ _ (by assumption)).use ?_) | (go_at_call 54; refine (cL.out _ (by assumption)).use ?_; intro w3 b3; obtain ⟨hq3, k3, z0, z1, z2, z3, z4, z5, z6, z7, z8, z9, z10, z11, z12, z13⟩ := arr_cellsD (hq2.out.below b3); have B3 := below_any (Nat.le_refl _) (by assumption) b3))
    exact finB hR (by assumption) rfl
  · skip
    cases nG
    · go_wp2_with (first | (go_at_call 52; refine (show Ret _ _ _ _ _ from cM.out _ _).use ?_) | (go_at_call 51; refine (cO.out _ (by assumption)).use ?_; intro w2 b2; obtain ⟨hq2, k2, y0, y1, y2, y3, y4, y5, y6, y7, y8, y9, y10, y11, y12, y13⟩ := arr_cellsD (hq1.out.below b2); have B2 := below_any (Nat.le_refl _) (by assumption) b2) | (go_at_call 53; refine (show Ret _ _ _ _ _ from cNm.out _ _ (by assumption)).use ?_) | (go_at_call 54; refine (cL.out _ (by assumption)).use ?_; intro w3 b3; obtain ⟨hq3, k3, z0, z1, z2, z3, z4, z5, z6, z7, z8, z9, z10, z11, z12, z13⟩ := arr_cellsD (hq2.out.below b3); have B3 := below_any (Nat.le_refl _) (by assumption) b3))
      exact finB hR (by assumption) rfl
    · skip
      cases nM
      · go_wp2_with (first | (go_at_call 52; refine (show Ret _ _ _ _ _ from cM.out _ _).use ?_) | (go_at_call 51; refine (cO.out _ (by assumption)).use ?_; intro w2 b2; obtain ⟨hq2, k2, y0, y1, y2, y3, y4, y5, y6, y7, y8, y9, y10, y11, y12, y13⟩ := arr_cellsD (hq1.out.below b2); have B2 := below_any (Nat.le_refl _) (by assumption) b2) | (go_at_call 53; refine (show Ret _ _ _ _ _ from cNm.out _ _ (by assumption)).use ?_) | (go_at_call 54; refine (cL.out _ (by assumption)).use ?_; intro w3 b3; obtain ⟨hq3, k3, z0, z1, z2, z3, z4, z5, z6, z7, z8, z9, z10, z11, z12, z13⟩ := arr_cellsD (hq2.out.below b3); have B3 := below_any (Nat.le_refl _) (by assumption) b3))
        exact finB hR (by assumption) rfl
      · skip
        cases nL
        · go_wp2_with (first | (go_at_call 52; refine (show Ret _ _ _ _ _ from cM.out _ _).use ?_) | (go_at_call 51; refine (cO.out _ (by assumption)).use ?_; intro w2 b2; obtain ⟨hq2, k2, y0, y1, y2, y3, y4, y5, y6, y7, y8, y9, y10, y11, y12, y13⟩ := arr_cellsD (hq1.out.below b2); have B2 := below_any (Nat.le_refl _) (by assumption) b2) | (go_at_call 53; refine (show Ret _ _ _ _ _ from cNm.out _ _ (by assumption)).use ?_) | (go_at_call 54; refine (cL.out _ (by assumption)).use ?_; intro w3 b3; obtain ⟨hq3, k3, z0, z1, z2, z3, z4, z5, z6, z7, z8, z9, z10, z11, z12, z13⟩ := arr_cellsD (hq2.out.below b3); have B3 := below_any (Nat.le_refl _) (by assumption) b3))
          exact finB hR (by assumption) rfl
        · skip
          go_upto_region 6 with (first | (go_at_call 52; refine (show Ret _ _ _ _ _ from cM.out _ _).use ?_) | (go_at_call 51; refine (cO.out _ (by assumption)).use ?_; intro w2 b2; obtain ⟨hq2, k2, y0, y1, y2, y3, y4, y5, y6, y7, y8, y9, y10, y11, y12, y13⟩ := arr_cellsD (hq1.out.below b2); have B2 := below_any (Nat.le_refl _) (by assumption) b2) | (go_at_call 53; refine (show Ret _ _ _ _ _ from cNm.out _ _ (by assumption)).use ?_) | (go_at_call 54; refine (cL.out _ (by assumption)).use ?_; intro w3 b3; obtain ⟨hq3, k3, z0, z1, z2, z3, z4, z5, z6, z7, z8, z9, z10, z11, z12, z13⟩ := arr_cellsD (hq2.out.below b3); have B3 := below_any (Nat.le_refl _) (by assumption) b3))
          cases nb0
          · go_wp2_with (go_at_call 55; refine (show Ret _ _ _ _ _ from cR.out _ _).use ?_)
            exact finB hR (by assumption) rfl
          · skip
            cases nb1
            · go_wp2_with (go_at_call 55; refine (show Ret _ _ _ _ _ from cR.out _ _).use ?_)
              exact finB hR (by assumption) rfl
            · skip
              cases nb2
              · go_wp2_with (go_at_call 55; refine (show Ret _ _ _ _ _ from cR.out _ _).use ?_)
                exact finB hR (by assumption) rfl
              · skip
                cases nb3
                · go_wp2_with (go_at_call 55; refine (show Ret _ _ _ _ _ from cR.out _ _).use ?_)
                  exact finB hR (by assumption) rfl
                · skip
                  go_wp2_with (go_at_call 55; refine (show Ret _ _ _ _ _ from cR.out _ _).use ?_)
                  exact finB hR (by assumption) rfl
set_option maxHeartbeats 4000000 in
set_option maxRecDepth 100000 in
theorem rchk_gme (L : List UInt8) (kind : Int) (topic : List UInt8) (pn n off bp be bq : Int) (nr : Nat) (group member : List UInt8) (gen : Int) (robin : Bool) (nt : Nat) (ra ta : Option Addr) (rc tc : Nat) (O nG nM nb0 nb1 nb2 nb3 : Bool) (Y : Nat) (w : World) (hl : L.length ≤ 1000)
    (a_t : hasC L 116 = false)
    (a_p : hasC L 112 = false)
    (a_n : hasC L 110 = false)
    (a_o : hasC L 111 = false)
    (a_b : hasC L 98 = false)
    (a_g : hasC L 103 = true)
    (a_m : hasC L 109 = true)
    (a_e : hasC L 101 = true)
    (a_r : hasC L 114 = false)
    (a_l : hasC L 108 = false)
    (hh : ∀ w, RetB Tryz.prog 9 #[.int .i64 kind] w (.string (S L)))
    (hO : ∀ W, Below w.heap.size w W → RetB Tryz.prog 51 #[.agg #[.int .i64 kind, .string (S topic), .int .i64 pn, .int .i64 n, .int .i64 off, .int .i64 bp, .int .i64 be, .int .i64 bq, .slice ra nr rc, .string (S group), .string (S member), .int .i64 gen, .bool robin, .slice ta nt tc]] W (.bool O))
    (hnG : isName group = nG)
    (lnG : group.length ≤ maxLen)
    (hnM : isName member = nM)
    (lnM : member.length ≤ maxLen)
    (hb0 : numB pn = nb0)
    (hb1 : numB n = nb1)
    (hb2 : numB off = nb2)
    (hb3 : numB gen = nb3)
    (hk1 : ((kind : Int) < 0) = False) (hk2 : ((12 : Int) < kind) = False) (hk3 : ((kind : Int) == 2) = false) :
    RetB Tryz.prog 27 #[.agg #[.int .i64 kind, .string (S topic), .int .i64 pn, .int .i64 n, .int .i64 off, .int .i64 bp, .int .i64 be, .int .i64 bq, .slice ra nr rc, .string (S group), .string (S member), .int .i64 gen, .bool robin, .slice ta nt tc]] w (.int .i64 ((if (!O || !nG || !nM) = true then 40 else if (!nb0 || !nb1 || !nb2 || !nb3) = true then 1 else 0) : Nat)) := by
  refine RetB.intro fun R hR => ?_
  have cM := Lib.hid (fun x w => among4 L x w hl)
  have cH := Lib.hid hh
  have cO := Lib.hid hO
  have cR := Lib.hid (fun n w => rnum_any n w)
  have cNm := Lib.hid (fun l w (h : l.length ≤ maxLen) => rname4 l w h)
  have HQ0 := Lib.hid (Blk.new w #[.int .i64 kind, .string (S topic), .int .i64 pn, .int .i64 n, .int .i64 off, .int .i64 bp, .int .i64 be, .int .i64 bq, .slice ra nr rc, .string (S group), .string (S member), .int .i64 gen, .bool robin, .slice ta nt tc] 29)
  clear hh hO
  go_enter Tryz.func27, Tryz.ntmps27
  go_wp2_with fail
  refine (cH.out _).use ?_
  intro w1 b1
  obtain ⟨hq1, k1, x0, x1, x2, x3, x4, x5, x6, x7, x8, x9, x10, x11, x12, x13⟩ := arr_cellsD (HQ0.out.below b1)
  have B1 := below_any (Nat.le_refl _) (below_all (Below.refl w.heap.size w)) b1
  go_upto_region 4 with fail
  cases O
  · go_wp2_with (first | (go_at_call 52; refine (show Ret _ _ _ _ _ from cM.out _ _).use ?_) | (go_at_call 51; refine (cO.out _ (by assumption)).use ?_; intro w2 b2; obtain ⟨hq2, k2, y0, y1, y2, y3, y4, y5, y6, y7, y8, y9, y10, y11, y12, y13⟩ := arr_cellsD (hq1.out.below b2); have B2 := below_any (Nat.le_refl _) (by assumption) b2) | (go_at_call 53; refine (show Ret _ _ _ _ _ from cNm.out _ _ (by assumption)).use ?_))
    exact finB hR (by assumption) rfl
  · skip
    cases nG
    · go_wp2_with (first | (go_at_call 52; refine (show Ret _ _ _ _ _ from cM.out _ _).use ?_) | (go_at_call 51; refine (cO.out _ (by assumption)).use ?_; intro w2 b2; obtain ⟨hq2, k2, y0, y1, y2, y3, y4, y5, y6, y7, y8, y9, y10, y11, y12, y13⟩ := arr_cellsD (hq1.out.below b2); have B2 := below_any (Nat.le_refl _) (by assumption) b2) | (go_at_call 53; refine (show Ret _ _ _ _ _ from cNm.out _ _ (by assumption)).use ?_))
      exact finB hR (by assumption) rfl
    · skip
      cases nM
      · go_wp2_with (first | (go_at_call 52; refine (show Ret _ _ _ _ _ from cM.out _ _).use ?_) | (go_at_call 51; refine (cO.out _ (by assumption)).use ?_; intro w2 b2; obtain ⟨hq2, k2, y0, y1, y2, y3, y4, y5, y6, y7, y8, y9, y10, y11, y12, y13⟩ := arr_cellsD (hq1.out.below b2); have B2 := below_any (Nat.le_refl _) (by assumption) b2) | (go_at_call 53; refine (show Ret _ _ _ _ _ from cNm.out _ _ (by assumption)).use ?_))
        exact finB hR (by assumption) rfl
      · skip
        go_upto_region 6 with (first | (go_at_call 52; refine (show Ret _ _ _ _ _ from cM.out _ _).use ?_) | (go_at_call 51; refine (cO.out _ (by assumption)).use ?_; intro w2 b2; obtain ⟨hq2, k2, y0, y1, y2, y3, y4, y5, y6, y7, y8, y9, y10, y11, y12, y13⟩ := arr_cellsD (hq1.out.below b2); have B2 := below_any (Nat.le_refl _) (by assumption) b2) | (go_at_call 53; refine (show Ret _ _ _ _ _ from cNm.out _ _ (by assumption)).use ?_))
        cases nb0
        · go_wp2_with (go_at_call 55; refine (show Ret _ _ _ _ _ from cR.out _ _).use ?_)
          exact finB hR (by assumption) rfl
        · skip
          cases nb1
          · go_wp2_with (go_at_call 55; refine (show Ret _ _ _ _ _ from cR.out _ _).use ?_)
            exact finB hR (by assumption) rfl
          · skip
            cases nb2
            · go_wp2_with (go_at_call 55; refine (show Ret _ _ _ _ _ from cR.out _ _).use ?_)
              exact finB hR (by assumption) rfl
            · skip
              cases nb3
              · go_wp2_with (go_at_call 55; refine (show Ret _ _ _ _ _ from cR.out _ _).use ?_)
                exact finB hR (by assumption) rfl
              · skip
                go_wp2_with (go_at_call 55; refine (show Ret _ _ _ _ _ from cR.out _ _).use ?_)
                exact finB hR (by assumption) rfl
set_option maxHeartbeats 4000000 in
set_option maxRecDepth 100000 in
theorem rchk_gmepo (L : List UInt8) (kind : Int) (topic : List UInt8) (pn n off bp be bq : Int) (nr : Nat) (group member : List UInt8) (gen : Int) (robin : Bool) (nt : Nat) (ra ta : Option Addr) (rc tc : Nat) (O nT nG nM nb0 nb1 nb2 nb3 : Bool) (Y : Nat) (w : World) (hl : L.length ≤ 1000)
    (a_t : hasC L 116 = false)
    (a_p : hasC L 112 = true)
    (a_n : hasC L 110 = false)
    (a_o : hasC L 111 = true)
    (a_b : hasC L 98 = false)
    (a_g : hasC L 103 = true)
    (a_m : hasC L 109 = true)
    (a_e : hasC L 101 = true)
    (a_r : hasC L 114 = false)
    (a_l : hasC L 108 = false)
    (hh : ∀ w, RetB Tryz.prog 9 #[.int .i64 kind] w (.string (S L)))
    (hO : ∀ W, Below w.heap.size w W → RetB Tryz.prog 51 #[.agg #[.int .i64 kind, .string (S topic), .int .i64 pn, .int .i64 n, .int .i64 off, .int .i64 bp, .int .i64 be, .int .i64 bq, .slice ra nr rc, .string (S group), .string (S member), .int .i64 gen, .bool robin, .slice ta nt tc]] W (.bool O))
    (hnT : isName topic = nT)
    (lnT : topic.length ≤ maxLen)
    (hnG : isName group = nG)
    (lnG : group.length ≤ maxLen)
    (hnM : isName member = nM)
    (lnM : member.length ≤ maxLen)
    (hb0 : numB pn = nb0)
    (hb1 : numB n = nb1)
    (hb2 : numB off = nb2)
    (hb3 : numB gen = nb3)
    (hk1 : ((kind : Int) < 0) = False) (hk2 : ((12 : Int) < kind) = False) (hk3 : ((kind : Int) == 2) = false) :
    RetB Tryz.prog 27 #[.agg #[.int .i64 kind, .string (S topic), .int .i64 pn, .int .i64 n, .int .i64 off, .int .i64 bp, .int .i64 be, .int .i64 bq, .slice ra nr rc, .string (S group), .string (S member), .int .i64 gen, .bool robin, .slice ta nt tc]] w (.int .i64 ((if (!O || !nT || !nG || !nM) = true then 40 else if (!nb0 || !nb1 || !nb2 || !nb3) = true then 1 else 0) : Nat)) := by
  refine RetB.intro fun R hR => ?_
  have cM := Lib.hid (fun x w => among4 L x w hl)
  have cH := Lib.hid hh
  have cO := Lib.hid hO
  have cR := Lib.hid (fun n w => rnum_any n w)
  have cNm := Lib.hid (fun l w (h : l.length ≤ maxLen) => rname4 l w h)
  have HQ0 := Lib.hid (Blk.new w #[.int .i64 kind, .string (S topic), .int .i64 pn, .int .i64 n, .int .i64 off, .int .i64 bp, .int .i64 be, .int .i64 bq, .slice ra nr rc, .string (S group), .string (S member), .int .i64 gen, .bool robin, .slice ta nt tc] 29)
  clear hh hO
  go_enter Tryz.func27, Tryz.ntmps27
  go_wp2_with fail
  refine (cH.out _).use ?_
  intro w1 b1
  obtain ⟨hq1, k1, x0, x1, x2, x3, x4, x5, x6, x7, x8, x9, x10, x11, x12, x13⟩ := arr_cellsD (HQ0.out.below b1)
  have B1 := below_any (Nat.le_refl _) (below_all (Below.refl w.heap.size w)) b1
  go_upto_region 4 with fail
  cases O
  · go_wp2_with (first | (go_at_call 52; refine (show Ret _ _ _ _ _ from cM.out _ _).use ?_) | (go_at_call 51; refine (cO.out _ (by assumption)).use ?_; intro w2 b2; obtain ⟨hq2, k2, y0, y1, y2, y3, y4, y5, y6, y7, y8, y9, y10, y11, y12, y13⟩ := arr_cellsD (hq1.out.below b2); have B2 := below_any (Nat.le_refl _) (by assumption) b2) | (go_at_call 53; refine (show Ret _ _ _ _ _ from cNm.out _ _ (by assumption)).use ?_))
    exact finB hR (by assumption) rfl
  · skip
    cases nT
    · go_wp2_with (first | (go_at_call 52; refine (show Ret _ _ _ _ _ from cM.out _ _).use ?_) | (go_at_call 51; refine (cO.out _ (by assumption)).use ?_; intro w2 b2; obtain ⟨hq2, k2, y0, y1, y2, y3, y4, y5, y6, y7, y8, y9, y10, y11, y12, y13⟩ := arr_cellsD (hq1.out.below b2); have B2 := below_any (Nat.le_refl _) (by assumption) b2) | (go_at_call 53; refine (show Ret _ _ _ _ _ from cNm.out _ _ (by assumption)).use ?_))
      exact finB hR (by assumption) rfl
    · skip
      cases nG
      · go_wp2_with (first | (go_at_call 52; refine (show Ret _ _ _ _ _ from cM.out _ _).use ?_) | (go_at_call 51; refine (cO.out _ (by assumption)).use ?_; intro w2 b2; obtain ⟨hq2, k2, y0, y1, y2, y3, y4, y5, y6, y7, y8, y9, y10, y11, y12, y13⟩ := arr_cellsD (hq1.out.below b2); have B2 := below_any (Nat.le_refl _) (by assumption) b2) | (go_at_call 53; refine (show Ret _ _ _ _ _ from cNm.out _ _ (by assumption)).use ?_))
        exact finB hR (by assumption) rfl
      · skip
        cases nM
        · go_wp2_with (first | (go_at_call 52; refine (show Ret _ _ _ _ _ from cM.out _ _).use ?_) | (go_at_call 51; refine (cO.out _ (by assumption)).use ?_; intro w2 b2; obtain ⟨hq2, k2, y0, y1, y2, y3, y4, y5, y6, y7, y8, y9, y10, y11, y12, y13⟩ := arr_cellsD (hq1.out.below b2); have B2 := below_any (Nat.le_refl _) (by assumption) b2) | (go_at_call 53; refine (show Ret _ _ _ _ _ from cNm.out _ _ (by assumption)).use ?_))
          exact finB hR (by assumption) rfl
        · skip
          go_upto_region 6 with (first | (go_at_call 52; refine (show Ret _ _ _ _ _ from cM.out _ _).use ?_) | (go_at_call 51; refine (cO.out _ (by assumption)).use ?_; intro w2 b2; obtain ⟨hq2, k2, y0, y1, y2, y3, y4, y5, y6, y7, y8, y9, y10, y11, y12, y13⟩ := arr_cellsD (hq1.out.below b2); have B2 := below_any (Nat.le_refl _) (by assumption) b2) | (go_at_call 53; refine (show Ret _ _ _ _ _ from cNm.out _ _ (by assumption)).use ?_))
          cases nb0
          · go_wp2_with (go_at_call 55; refine (show Ret _ _ _ _ _ from cR.out _ _).use ?_)
            exact finB hR (by assumption) rfl
          · skip
            cases nb1
            · go_wp2_with (go_at_call 55; refine (show Ret _ _ _ _ _ from cR.out _ _).use ?_)
              exact finB hR (by assumption) rfl
            · skip
              cases nb2
              · go_wp2_with (go_at_call 55; refine (show Ret _ _ _ _ _ from cR.out _ _).use ?_)
                exact finB hR (by assumption) rfl
              · skip
                cases nb3
                · go_wp2_with (go_at_call 55; refine (show Ret _ _ _ _ _ from cR.out _ _).use ?_)
                  exact finB hR (by assumption) rfl
                · skip
                  go_wp2_with (go_at_call 55; refine (show Ret _ _ _ _ _ from cR.out _ _).use ?_)
                  exact finB hR (by assumption) rfl
set_option maxHeartbeats 4000000 in
set_option maxRecDepth 100000 in
theorem rchk_gp (L : List UInt8) (kind : Int) (topic : List UInt8) (pn n off bp be bq : Int) (nr : Nat) (group member : List UInt8) (gen : Int) (robin : Bool) (nt : Nat) (ra ta : Option Addr) (rc tc : Nat) (O nT nG nb0 nb1 nb2 nb3 : Bool) (Y : Nat) (w : World) (hl : L.length ≤ 1000)
    (a_t : hasC L 116 = false)
    (a_p : hasC L 112 = true)
    (a_n : hasC L 110 = false)
    (a_o : hasC L 111 = false)
    (a_b : hasC L 98 = false)
    (a_g : hasC L 103 = true)
    (a_m : hasC L 109 = false)
    (a_e : hasC L 101 = false)
    (a_r : hasC L 114 = false)
    (a_l : hasC L 108 = false)
    (hh : ∀ w, RetB Tryz.prog 9 #[.int .i64 kind] w (.string (S L)))
    (hO : ∀ W, Below w.heap.size w W → RetB Tryz.prog 51 #[.agg #[.int .i64 kind, .string (S topic), .int .i64 pn, .int .i64 n, .int .i64 off, .int .i64 bp, .int .i64 be, .int .i64 bq, .slice ra nr rc, .string (S group), .string (S member), .int .i64 gen, .bool robin, .slice ta nt tc]] W (.bool O))
    (hnT : isName topic = nT)
    (lnT : topic.length ≤ maxLen)
    (hnG : isName group = nG)
    (lnG : group.length ≤ maxLen)
    (hb0 : numB pn = nb0)
    (hb1 : numB n = nb1)
    (hb2 : numB off = nb2)
    (hb3 : numB gen = nb3)
    (hk1 : ((kind : Int) < 0) = False) (hk2 : ((12 : Int) < kind) = False) (hk3 : ((kind : Int) == 2) = false) :
    RetB Tryz.prog 27 #[.agg #[.int .i64 kind, .string (S topic), .int .i64 pn, .int .i64 n, .int .i64 off, .int .i64 bp, .int .i64 be, .int .i64 bq, .slice ra nr rc, .string (S group), .string (S member), .int .i64 gen, .bool robin, .slice ta nt tc]] w (.int .i64 ((if (!O || !nT || !nG) = true then 40 else if (!nb0 || !nb1 || !nb2 || !nb3) = true then 1 else 0) : Nat)) := by
  refine RetB.intro fun R hR => ?_
  have cM := Lib.hid (fun x w => among4 L x w hl)
  have cH := Lib.hid hh
  have cO := Lib.hid hO
  have cR := Lib.hid (fun n w => rnum_any n w)
  have cNm := Lib.hid (fun l w (h : l.length ≤ maxLen) => rname4 l w h)
  have HQ0 := Lib.hid (Blk.new w #[.int .i64 kind, .string (S topic), .int .i64 pn, .int .i64 n, .int .i64 off, .int .i64 bp, .int .i64 be, .int .i64 bq, .slice ra nr rc, .string (S group), .string (S member), .int .i64 gen, .bool robin, .slice ta nt tc] 29)
  clear hh hO
  go_enter Tryz.func27, Tryz.ntmps27
  go_wp2_with fail
  refine (cH.out _).use ?_
  intro w1 b1
  obtain ⟨hq1, k1, x0, x1, x2, x3, x4, x5, x6, x7, x8, x9, x10, x11, x12, x13⟩ := arr_cellsD (HQ0.out.below b1)
  have B1 := below_any (Nat.le_refl _) (below_all (Below.refl w.heap.size w)) b1
  go_upto_region 4 with fail
  cases O
  · go_wp2_with (first | (go_at_call 52; refine (show Ret _ _ _ _ _ from cM.out _ _).use ?_) | (go_at_call 51; refine (cO.out _ (by assumption)).use ?_; intro w2 b2; obtain ⟨hq2, k2, y0, y1, y2, y3, y4, y5, y6, y7, y8, y9, y10, y11, y12, y13⟩ := arr_cellsD (hq1.out.below b2); have B2 := below_any (Nat.le_refl _) (by assumption) b2) | (go_at_call 53; refine (show Ret _ _ _ _ _ from cNm.out _ _ (by assumption)).use ?_))
    exact finB hR (by assumption) rfl
  · skip
    cases nT
    · go_wp2_with (first | (go_at_call 52; refine (show Ret _ _ _ _ _ from cM.out _ _).use ?_) | (go_at_call 51; refine (cO.out _ (by assumption)).use ?_; intro w2 b2; obtain ⟨hq2, k2, y0, y1, y2, y3, y4, y5, y6, y7, y8, y9, y10, y11, y12, y13⟩ := arr_cellsD (hq1.out.below b2); have B2 := below_any (Nat.le_refl _) (by assumption) b2) | (go_at_call 53; refine (show Ret _ _ _ _ _ from cNm.out _ _ (by assumption)).use ?_))
      exact finB hR (by assumption) rfl
    · skip
      cases nG
      · go_wp2_with (first | (go_at_call 52; refine (show Ret _ _ _ _ _ from cM.out _ _).use ?_) | (go_at_call 51; refine (cO.out _ (by assumption)).use ?_; intro w2 b2; obtain ⟨hq2, k2, y0, y1, y2, y3, y4, y5, y6, y7, y8, y9, y10, y11, y12, y13⟩ := arr_cellsD (hq1.out.below b2); have B2 := below_any (Nat.le_refl _) (by assumption) b2) | (go_at_call 53; refine (show Ret _ _ _ _ _ from cNm.out _ _ (by assumption)).use ?_))
        exact finB hR (by assumption) rfl
      · skip
        go_upto_region 6 with (first | (go_at_call 52; refine (show Ret _ _ _ _ _ from cM.out _ _).use ?_) | (go_at_call 51; refine (cO.out _ (by assumption)).use ?_; intro w2 b2; obtain ⟨hq2, k2, y0, y1, y2, y3, y4, y5, y6, y7, y8, y9, y10, y11, y12, y13⟩ := arr_cellsD (hq1.out.below b2); have B2 := below_any (Nat.le_refl _) (by assumption) b2) | (go_at_call 53; refine (show Ret _ _ _ _ _ from cNm.out _ _ (by assumption)).use ?_))
        cases nb0
        · go_wp2_with (go_at_call 55; refine (show Ret _ _ _ _ _ from cR.out _ _).use ?_)
          exact finB hR (by assumption) rfl
        · skip
          cases nb1
          · go_wp2_with (go_at_call 55; refine (show Ret _ _ _ _ _ from cR.out _ _).use ?_)
            exact finB hR (by assumption) rfl
          · skip
            cases nb2
            · go_wp2_with (go_at_call 55; refine (show Ret _ _ _ _ _ from cR.out _ _).use ?_)
              exact finB hR (by assumption) rfl
            · skip
              cases nb3
              · go_wp2_with (go_at_call 55; refine (show Ret _ _ _ _ _ from cR.out _ _).use ?_)
                exact finB hR (by assumption) rfl
              · skip
                go_wp2_with (go_at_call 55; refine (show Ret _ _ _ _ _ from cR.out _ _).use ?_)
                exact finB hR (by assumption) rfl
theorem rchk_fin0 (topic : List UInt8) (pn n off bp be bq : Int) (recs : List Rec) (group member : List UInt8) (gen : Int) (robin : Bool) (tops : List (List UInt8)) :
    (if (!decide (crest (⟨0, topic, pn, n, off, bp, be, bq, recs, group, member, gen, robin, tops⟩ : Cmd) = zcmd) || !isName topic) = true then 40 else if (!numB pn || !numB n || !numB off || !numB gen) = true then 1 else 0) = ccheck (⟨0, topic, pn, n, off, bp, be, bq, recs, group, member, gen, robin, tops⟩ : Cmd) := by
  have hk : ¬ ((⟨0, topic, pn, n, off, bp, be, bq, recs, group, member, gen, robin, tops⟩ : Cmd).kind < 0 ∨ 12 < (⟨0, topic, pn, n, off, bp, be, bq, recs, group, member, gen, robin, tops⟩ : Cmd).kind) := by dsimp only; omega
  have hE : ccheck (⟨0, topic, pn, n, off, bp, be, bq, recs, group, member, gen, robin, tops⟩ : Cmd) = if (hasF 0).any (fform (⟨0, topic, pn, n, off, bp, be, bq, recs, group, member, gen, robin, tops⟩ : Cmd)) || !decide (crest (⟨0, topic, pn, n, off, bp, be, bq, recs, group, member, gen, robin, tops⟩ : Cmd) = zcmd) then 40 else if (hasF 0).any (fnum (⟨0, topic, pn, n, off, bp, be, bq, recs, group, member, gen, robin, tops⟩ : Cmd)) then 1 else 0 := by unfold ccheck; rw [if_neg hk]; rfl
  rw [hE]
  clear hE hk
  have n0 : numB 0 = true := by decide
  by_cases hr : crest (⟨0, topic, pn, n, off, bp, be, bq, recs, group, member, gen, robin, tops⟩ : Cmd) = zcmd
  · have hr2 := hr
    simp [hasF, fclr, crest, zcmd] at hr2
    obtain ⟨rfl, rfl, rfl, rfl, rfl, rfl, rfl, rfl, rfl, rfl, rfl⟩ := hr2
    rw [decide_eq_true hr]
    simp [hasF, fform, fnum, n0, or_comm, or_assoc, or_left_comm]
  · rw [decide_eq_false hr]
    simp
theorem rchk_fin1 (topic : List UInt8) (pn n off bp be bq : Int) (recs : List Rec) (group member : List UInt8) (gen : Int) (robin : Bool) (tops : List (List UInt8)) :
    (if (!decide (crest (⟨1, topic, pn, n, off, bp, be, bq, recs, group, member, gen, robin, tops⟩ : Cmd) = zcmd)) = true then 40 else if (!numB pn || !numB n || !numB off || !numB gen) = true then 1 else 0) = ccheck (⟨1, topic, pn, n, off, bp, be, bq, recs, group, member, gen, robin, tops⟩ : Cmd) := by
  have hk : ¬ ((⟨1, topic, pn, n, off, bp, be, bq, recs, group, member, gen, robin, tops⟩ : Cmd).kind < 0 ∨ 12 < (⟨1, topic, pn, n, off, bp, be, bq, recs, group, member, gen, robin, tops⟩ : Cmd).kind) := by dsimp only; omega
  have hE : ccheck (⟨1, topic, pn, n, off, bp, be, bq, recs, group, member, gen, robin, tops⟩ : Cmd) = if (hasF 1).any (fform (⟨1, topic, pn, n, off, bp, be, bq, recs, group, member, gen, robin, tops⟩ : Cmd)) || !decide (crest (⟨1, topic, pn, n, off, bp, be, bq, recs, group, member, gen, robin, tops⟩ : Cmd) = zcmd) then 40 else if (hasF 1).any (fnum (⟨1, topic, pn, n, off, bp, be, bq, recs, group, member, gen, robin, tops⟩ : Cmd)) then 1 else 0 := by unfold ccheck; rw [if_neg hk]; rfl
  rw [hE]
  clear hE hk
  have n0 : numB 0 = true := by decide
  by_cases hr : crest (⟨1, topic, pn, n, off, bp, be, bq, recs, group, member, gen, robin, tops⟩ : Cmd) = zcmd
  · have hr2 := hr
    simp [hasF, fclr, crest, zcmd] at hr2
    obtain ⟨rfl, rfl, rfl, rfl, rfl, rfl, rfl, rfl, rfl, rfl, rfl, rfl⟩ := hr2
    rw [decide_eq_true hr]
    simp [hasF, fform, fnum, n0, or_comm, or_assoc, or_left_comm]
  · rw [decide_eq_false hr]
    simp
theorem rchk_fin2 (topic : List UInt8) (pn n off bp be bq : Int) (recs : List Rec) (group member : List UInt8) (gen : Int) (robin : Bool) (tops : List (List UInt8)) :
    (if (!decide (crest (⟨2, topic, pn, n, off, bp, be, bq, recs, group, member, gen, robin, tops⟩ : Cmd) = zcmd) || !isName topic) = true then 40 else if (!numB pn || !numB n || !numB off || !numB gen) = true then 1 else rall bp be bq recs) = ccheck (⟨2, topic, pn, n, off, bp, be, bq, recs, group, member, gen, robin, tops⟩ : Cmd) := by
  have hk : ¬ ((⟨2, topic, pn, n, off, bp, be, bq, recs, group, member, gen, robin, tops⟩ : Cmd).kind < 0 ∨ 12 < (⟨2, topic, pn, n, off, bp, be, bq, recs, group, member, gen, robin, tops⟩ : Cmd).kind) := by dsimp only; omega
  have hE : ccheck (⟨2, topic, pn, n, off, bp, be, bq, recs, group, member, gen, robin, tops⟩ : Cmd) = if (hasF 2).any (fform (⟨2, topic, pn, n, off, bp, be, bq, recs, group, member, gen, robin, tops⟩ : Cmd)) || !decide (crest (⟨2, topic, pn, n, off, bp, be, bq, recs, group, member, gen, robin, tops⟩ : Cmd) = zcmd) then 40 else if (hasF 2).any (fnum (⟨2, topic, pn, n, off, bp, be, bq, recs, group, member, gen, robin, tops⟩ : Cmd)) then 1 else rall bp be bq recs := by unfold ccheck; rw [if_neg hk]; rfl
  rw [hE]
  clear hE hk
  have n0 : numB 0 = true := by decide
  by_cases hr : crest (⟨2, topic, pn, n, off, bp, be, bq, recs, group, member, gen, robin, tops⟩ : Cmd) = zcmd
  · have hr2 := hr
    simp [hasF, fclr, crest, zcmd] at hr2
    obtain ⟨rfl, rfl, rfl, rfl, rfl, rfl, rfl⟩ := hr2
    rw [decide_eq_true hr]
    simp [hasF, fform, fnum, n0, or_comm, or_assoc, or_left_comm]
  · rw [decide_eq_false hr]
    simp
theorem rchk_fin3 (topic : List UInt8) (pn n off bp be bq : Int) (recs : List Rec) (group member : List UInt8) (gen : Int) (robin : Bool) (tops : List (List UInt8)) :
    (if (!decide (crest (⟨3, topic, pn, n, off, bp, be, bq, recs, group, member, gen, robin, tops⟩ : Cmd) = zcmd) || !isName topic) = true then 40 else if (!numB pn || !numB n || !numB off || !numB gen) = true then 1 else 0) = ccheck (⟨3, topic, pn, n, off, bp, be, bq, recs, group, member, gen, robin, tops⟩ : Cmd) := by
  have hk : ¬ ((⟨3, topic, pn, n, off, bp, be, bq, recs, group, member, gen, robin, tops⟩ : Cmd).kind < 0 ∨ 12 < (⟨3, topic, pn, n, off, bp, be, bq, recs, group, member, gen, robin, tops⟩ : Cmd).kind) := by dsimp only; omega
  have hE : ccheck (⟨3, topic, pn, n, off, bp, be, bq, recs, group, member, gen, robin, tops⟩ : Cmd) = if (hasF 3).any (fform (⟨3, topic, pn, n, off, bp, be, bq, recs, group, member, gen, robin, tops⟩ : Cmd)) || !decide (crest (⟨3, topic, pn, n, off, bp, be, bq, recs, group, member, gen, robin, tops⟩ : Cmd) = zcmd) then 40 else if (hasF 3).any (fnum (⟨3, topic, pn, n, off, bp, be, bq, recs, group, member, gen, robin, tops⟩ : Cmd)) then 1 else 0 := by unfold ccheck; rw [if_neg hk]; rfl
  rw [hE]
  clear hE hk
  have n0 : numB 0 = true := by decide
  by_cases hr : crest (⟨3, topic, pn, n, off, bp, be, bq, recs, group, member, gen, robin, tops⟩ : Cmd) = zcmd
  · have hr2 := hr
    simp [hasF, fclr, crest, zcmd] at hr2
    obtain ⟨rfl, rfl, rfl, rfl, rfl, rfl, rfl, rfl, rfl⟩ := hr2
    rw [decide_eq_true hr]
    simp [hasF, fform, fnum, n0, or_comm, or_assoc, or_left_comm]
  · rw [decide_eq_false hr]
    simp
theorem rchk_fin4 (topic : List UInt8) (pn n off bp be bq : Int) (recs : List Rec) (group member : List UInt8) (gen : Int) (robin : Bool) (tops : List (List UInt8)) :
    (if (!decide (crest (⟨4, topic, pn, n, off, bp, be, bq, recs, group, member, gen, robin, tops⟩ : Cmd) = zcmd) || !isName topic) = true then 40 else if (!numB pn || !numB n || !numB off || !numB gen) = true then 1 else 0) = ccheck (⟨4, topic, pn, n, off, bp, be, bq, recs, group, member, gen, robin, tops⟩ : Cmd) := by
  have hk : ¬ ((⟨4, topic, pn, n, off, bp, be, bq, recs, group, member, gen, robin, tops⟩ : Cmd).kind < 0 ∨ 12 < (⟨4, topic, pn, n, off, bp, be, bq, recs, group, member, gen, robin, tops⟩ : Cmd).kind) := by dsimp only; omega
  have hE : ccheck (⟨4, topic, pn, n, off, bp, be, bq, recs, group, member, gen, robin, tops⟩ : Cmd) = if (hasF 4).any (fform (⟨4, topic, pn, n, off, bp, be, bq, recs, group, member, gen, robin, tops⟩ : Cmd)) || !decide (crest (⟨4, topic, pn, n, off, bp, be, bq, recs, group, member, gen, robin, tops⟩ : Cmd) = zcmd) then 40 else if (hasF 4).any (fnum (⟨4, topic, pn, n, off, bp, be, bq, recs, group, member, gen, robin, tops⟩ : Cmd)) then 1 else 0 := by unfold ccheck; rw [if_neg hk]; rfl
  rw [hE]
  clear hE hk
  have n0 : numB 0 = true := by decide
  by_cases hr : crest (⟨4, topic, pn, n, off, bp, be, bq, recs, group, member, gen, robin, tops⟩ : Cmd) = zcmd
  · have hr2 := hr
    simp [hasF, fclr, crest, zcmd] at hr2
    obtain ⟨rfl, rfl, rfl, rfl, rfl, rfl, rfl, rfl, rfl, rfl⟩ := hr2
    rw [decide_eq_true hr]
    simp [hasF, fform, fnum, n0, or_comm, or_assoc, or_left_comm]
  · rw [decide_eq_false hr]
    simp
theorem rchk_fin5 (topic : List UInt8) (pn n off bp be bq : Int) (recs : List Rec) (group member : List UInt8) (gen : Int) (robin : Bool) (tops : List (List UInt8)) :
    (if (!decide (crest (⟨5, topic, pn, n, off, bp, be, bq, recs, group, member, gen, robin, tops⟩ : Cmd) = zcmd) || !isName topic) = true then 40 else if (!numB pn || !numB n || !numB off || !numB gen) = true then 1 else 0) = ccheck (⟨5, topic, pn, n, off, bp, be, bq, recs, group, member, gen, robin, tops⟩ : Cmd) := by
  have hk : ¬ ((⟨5, topic, pn, n, off, bp, be, bq, recs, group, member, gen, robin, tops⟩ : Cmd).kind < 0 ∨ 12 < (⟨5, topic, pn, n, off, bp, be, bq, recs, group, member, gen, robin, tops⟩ : Cmd).kind) := by dsimp only; omega
  have hE : ccheck (⟨5, topic, pn, n, off, bp, be, bq, recs, group, member, gen, robin, tops⟩ : Cmd) = if (hasF 5).any (fform (⟨5, topic, pn, n, off, bp, be, bq, recs, group, member, gen, robin, tops⟩ : Cmd)) || !decide (crest (⟨5, topic, pn, n, off, bp, be, bq, recs, group, member, gen, robin, tops⟩ : Cmd) = zcmd) then 40 else if (hasF 5).any (fnum (⟨5, topic, pn, n, off, bp, be, bq, recs, group, member, gen, robin, tops⟩ : Cmd)) then 1 else 0 := by unfold ccheck; rw [if_neg hk]; rfl
  rw [hE]
  clear hE hk
  have n0 : numB 0 = true := by decide
  by_cases hr : crest (⟨5, topic, pn, n, off, bp, be, bq, recs, group, member, gen, robin, tops⟩ : Cmd) = zcmd
  · have hr2 := hr
    simp [hasF, fclr, crest, zcmd] at hr2
    obtain ⟨rfl, rfl, rfl, rfl, rfl, rfl, rfl, rfl, rfl, rfl, rfl⟩ := hr2
    rw [decide_eq_true hr]
    simp [hasF, fform, fnum, n0, or_comm, or_assoc, or_left_comm]
  · rw [decide_eq_false hr]
    simp
theorem rchk_fin6 (topic : List UInt8) (pn n off bp be bq : Int) (recs : List Rec) (group member : List UInt8) (gen : Int) (robin : Bool) (tops : List (List UInt8)) :
    (if (!decide (crest (⟨6, topic, pn, n, off, bp, be, bq, recs, group, member, gen, robin, tops⟩ : Cmd) = zcmd) || !isName group || !isName member || !namesOk tops) = true then 40 else if (!numB pn || !numB n || !numB off || !numB gen) = true then 1 else 0) = ccheck (⟨6, topic, pn, n, off, bp, be, bq, recs, group, member, gen, robin, tops⟩ : Cmd) := by
  have hk : ¬ ((⟨6, topic, pn, n, off, bp, be, bq, recs, group, member, gen, robin, tops⟩ : Cmd).kind < 0 ∨ 12 < (⟨6, topic, pn, n, off, bp, be, bq, recs, group, member, gen, robin, tops⟩ : Cmd).kind) := by dsimp only; omega
  have hE : ccheck (⟨6, topic, pn, n, off, bp, be, bq, recs, group, member, gen, robin, tops⟩ : Cmd) = if (hasF 6).any (fform (⟨6, topic, pn, n, off, bp, be, bq, recs, group, member, gen, robin, tops⟩ : Cmd)) || !decide (crest (⟨6, topic, pn, n, off, bp, be, bq, recs, group, member, gen, robin, tops⟩ : Cmd) = zcmd) then 40 else if (hasF 6).any (fnum (⟨6, topic, pn, n, off, bp, be, bq, recs, group, member, gen, robin, tops⟩ : Cmd)) then 1 else 0 := by unfold ccheck; rw [if_neg hk]; rfl
  rw [hE]
  clear hE hk
  have n0 : numB 0 = true := by decide
  by_cases hr : crest (⟨6, topic, pn, n, off, bp, be, bq, recs, group, member, gen, robin, tops⟩ : Cmd) = zcmd
  · have hr2 := hr
    simp [hasF, fclr, crest, zcmd] at hr2
    obtain ⟨rfl, rfl, rfl, rfl, rfl, rfl, rfl, rfl⟩ := hr2
    rw [decide_eq_true hr]
    simp [hasF, fform, fnum, n0, or_comm, or_assoc, or_left_comm]
  · rw [decide_eq_false hr]
    simp
theorem rchk_fin7 (topic : List UInt8) (pn n off bp be bq : Int) (recs : List Rec) (group member : List UInt8) (gen : Int) (robin : Bool) (tops : List (List UInt8)) :
    (if (!decide (crest (⟨7, topic, pn, n, off, bp, be, bq, recs, group, member, gen, robin, tops⟩ : Cmd) = zcmd) || !isName group || !isName member) = true then 40 else if (!numB pn || !numB n || !numB off || !numB gen) = true then 1 else 0) = ccheck (⟨7, topic, pn, n, off, bp, be, bq, recs, group, member, gen, robin, tops⟩ : Cmd) := by
  have hk : ¬ ((⟨7, topic, pn, n, off, bp, be, bq, recs, group, member, gen, robin, tops⟩ : Cmd).kind < 0 ∨ 12 < (⟨7, topic, pn, n, off, bp, be, bq, recs, group, member, gen, robin, tops⟩ : Cmd).kind) := by dsimp only; omega
  have hE : ccheck (⟨7, topic, pn, n, off, bp, be, bq, recs, group, member, gen, robin, tops⟩ : Cmd) = if (hasF 7).any (fform (⟨7, topic, pn, n, off, bp, be, bq, recs, group, member, gen, robin, tops⟩ : Cmd)) || !decide (crest (⟨7, topic, pn, n, off, bp, be, bq, recs, group, member, gen, robin, tops⟩ : Cmd) = zcmd) then 40 else if (hasF 7).any (fnum (⟨7, topic, pn, n, off, bp, be, bq, recs, group, member, gen, robin, tops⟩ : Cmd)) then 1 else 0 := by unfold ccheck; rw [if_neg hk]; rfl
  rw [hE]
  clear hE hk
  have n0 : numB 0 = true := by decide
  by_cases hr : crest (⟨7, topic, pn, n, off, bp, be, bq, recs, group, member, gen, robin, tops⟩ : Cmd) = zcmd
  · have hr2 := hr
    simp [hasF, fclr, crest, zcmd] at hr2
    obtain ⟨rfl, rfl, rfl, rfl, rfl, rfl, rfl, rfl, rfl, rfl⟩ := hr2
    rw [decide_eq_true hr]
    simp [hasF, fform, fnum, n0, or_comm, or_assoc, or_left_comm]
  · rw [decide_eq_false hr]
    simp
theorem rchk_fin8 (topic : List UInt8) (pn n off bp be bq : Int) (recs : List Rec) (group member : List UInt8) (gen : Int) (robin : Bool) (tops : List (List UInt8)) :
    (if (!decide (crest (⟨8, topic, pn, n, off, bp, be, bq, recs, group, member, gen, robin, tops⟩ : Cmd) = zcmd) || !isName group || !isName member) = true then 40 else if (!numB pn || !numB n || !numB off || !numB gen) = true then 1 else 0) = ccheck (⟨8, topic, pn, n, off, bp, be, bq, recs, group, member, gen, robin, tops⟩ : Cmd) := by
  have hk : ¬ ((⟨8, topic, pn, n, off, bp, be, bq, recs, group, member, gen, robin, tops⟩ : Cmd).kind < 0 ∨ 12 < (⟨8, topic, pn, n, off, bp, be, bq, recs, group, member, gen, robin, tops⟩ : Cmd).kind) := by dsimp only; omega
  have hE : ccheck (⟨8, topic, pn, n, off, bp, be, bq, recs, group, member, gen, robin, tops⟩ : Cmd) = if (hasF 8).any (fform (⟨8, topic, pn, n, off, bp, be, bq, recs, group, member, gen, robin, tops⟩ : Cmd)) || !decide (crest (⟨8, topic, pn, n, off, bp, be, bq, recs, group, member, gen, robin, tops⟩ : Cmd) = zcmd) then 40 else if (hasF 8).any (fnum (⟨8, topic, pn, n, off, bp, be, bq, recs, group, member, gen, robin, tops⟩ : Cmd)) then 1 else 0 := by unfold ccheck; rw [if_neg hk]; rfl
  rw [hE]
  clear hE hk
  have n0 : numB 0 = true := by decide
  by_cases hr : crest (⟨8, topic, pn, n, off, bp, be, bq, recs, group, member, gen, robin, tops⟩ : Cmd) = zcmd
  · have hr2 := hr
    simp [hasF, fclr, crest, zcmd] at hr2
    obtain ⟨rfl, rfl, rfl, rfl, rfl, rfl, rfl, rfl, rfl, rfl⟩ := hr2
    rw [decide_eq_true hr]
    simp [hasF, fform, fnum, n0, or_comm, or_assoc, or_left_comm]
  · rw [decide_eq_false hr]
    simp
theorem rchk_fin9 (topic : List UInt8) (pn n off bp be bq : Int) (recs : List Rec) (group member : List UInt8) (gen : Int) (robin : Bool) (tops : List (List UInt8)) :
    (if (!decide (crest (⟨9, topic, pn, n, off, bp, be, bq, recs, group, member, gen, robin, tops⟩ : Cmd) = zcmd) || !isName group || !isName member) = true then 40 else if (!numB pn || !numB n || !numB off || !numB gen) = true then 1 else 0) = ccheck (⟨9, topic, pn, n, off, bp, be, bq, recs, group, member, gen, robin, tops⟩ : Cmd) := by
  have hk : ¬ ((⟨9, topic, pn, n, off, bp, be, bq, recs, group, member, gen, robin, tops⟩ : Cmd).kind < 0 ∨ 12 < (⟨9, topic, pn, n, off, bp, be, bq, recs, group, member, gen, robin, tops⟩ : Cmd).kind) := by dsimp only; omega
  have hE : ccheck (⟨9, topic, pn, n, off, bp, be, bq, recs, group, member, gen, robin, tops⟩ : Cmd) = if (hasF 9).any (fform (⟨9, topic, pn, n, off, bp, be, bq, recs, group, member, gen, robin, tops⟩ : Cmd)) || !decide (crest (⟨9, topic, pn, n, off, bp, be, bq, recs, group, member, gen, robin, tops⟩ : Cmd) = zcmd) then 40 else if (hasF 9).any (fnum (⟨9, topic, pn, n, off, bp, be, bq, recs, group, member, gen, robin, tops⟩ : Cmd)) then 1 else 0 := by unfold ccheck; rw [if_neg hk]; rfl
  rw [hE]
  clear hE hk
  have n0 : numB 0 = true := by decide
  by_cases hr : crest (⟨9, topic, pn, n, off, bp, be, bq, recs, group, member, gen, robin, tops⟩ : Cmd) = zcmd
  · have hr2 := hr
    simp [hasF, fclr, crest, zcmd] at hr2
    obtain ⟨rfl, rfl, rfl, rfl, rfl, rfl, rfl, rfl, rfl, rfl⟩ := hr2
    rw [decide_eq_true hr]
    simp [hasF, fform, fnum, n0, or_comm, or_assoc, or_left_comm]
  · rw [decide_eq_false hr]
    simp
theorem rchk_fin10 (topic : List UInt8) (pn n off bp be bq : Int) (recs : List Rec) (group member : List UInt8) (gen : Int) (robin : Bool) (tops : List (List UInt8)) :
    (if (!decide (crest (⟨10, topic, pn, n, off, bp, be, bq, recs, group, member, gen, robin, tops⟩ : Cmd) = zcmd) || !isName topic || !isName group || !isName member) = true then 40 else if (!numB pn || !numB n || !numB off || !numB gen) = true then 1 else 0) = ccheck (⟨10, topic, pn, n, off, bp, be, bq, recs, group, member, gen, robin, tops⟩ : Cmd) := by
  have hk : ¬ ((⟨10, topic, pn, n, off, bp, be, bq, recs, group, member, gen, robin, tops⟩ : Cmd).kind < 0 ∨ 12 < (⟨10, topic, pn, n, off, bp, be, bq, recs, group, member, gen, robin, tops⟩ : Cmd).kind) := by dsimp only; omega
  have hE : ccheck (⟨10, topic, pn, n, off, bp, be, bq, recs, group, member, gen, robin, tops⟩ : Cmd) = if (hasF 10).any (fform (⟨10, topic, pn, n, off, bp, be, bq, recs, group, member, gen, robin, tops⟩ : Cmd)) || !decide (crest (⟨10, topic, pn, n, off, bp, be, bq, recs, group, member, gen, robin, tops⟩ : Cmd) = zcmd) then 40 else if (hasF 10).any (fnum (⟨10, topic, pn, n, off, bp, be, bq, recs, group, member, gen, robin, tops⟩ : Cmd)) then 1 else 0 := by unfold ccheck; rw [if_neg hk]; rfl
  rw [hE]
  clear hE hk
  have n0 : numB 0 = true := by decide
  by_cases hr : crest (⟨10, topic, pn, n, off, bp, be, bq, recs, group, member, gen, robin, tops⟩ : Cmd) = zcmd
  · have hr2 := hr
    simp [hasF, fclr, crest, zcmd] at hr2
    obtain ⟨rfl, rfl, rfl, rfl, rfl, rfl, rfl⟩ := hr2
    rw [decide_eq_true hr]
    simp [hasF, fform, fnum, n0, or_comm, or_assoc, or_left_comm]
  · rw [decide_eq_false hr]
    simp
theorem rchk_fin11 (topic : List UInt8) (pn n off bp be bq : Int) (recs : List Rec) (group member : List UInt8) (gen : Int) (robin : Bool) (tops : List (List UInt8)) :
    (if (!decide (crest (⟨11, topic, pn, n, off, bp, be, bq, recs, group, member, gen, robin, tops⟩ : Cmd) = zcmd) || !isName topic || !isName group) = true then 40 else if (!numB pn || !numB n || !numB off || !numB gen) = true then 1 else 0) = ccheck (⟨11, topic, pn, n, off, bp, be, bq, recs, group, member, gen, robin, tops⟩ : Cmd) := by
  have hk : ¬ ((⟨11, topic, pn, n, off, bp, be, bq, recs, group, member, gen, robin, tops⟩ : Cmd).kind < 0 ∨ 12 < (⟨11, topic, pn, n, off, bp, be, bq, recs, group, member, gen, robin, tops⟩ : Cmd).kind) := by dsimp only; omega
  have hE : ccheck (⟨11, topic, pn, n, off, bp, be, bq, recs, group, member, gen, robin, tops⟩ : Cmd) = if (hasF 11).any (fform (⟨11, topic, pn, n, off, bp, be, bq, recs, group, member, gen, robin, tops⟩ : Cmd)) || !decide (crest (⟨11, topic, pn, n, off, bp, be, bq, recs, group, member, gen, robin, tops⟩ : Cmd) = zcmd) then 40 else if (hasF 11).any (fnum (⟨11, topic, pn, n, off, bp, be, bq, recs, group, member, gen, robin, tops⟩ : Cmd)) then 1 else 0 := by unfold ccheck; rw [if_neg hk]; rfl
  rw [hE]
  clear hE hk
  have n0 : numB 0 = true := by decide
  by_cases hr : crest (⟨11, topic, pn, n, off, bp, be, bq, recs, group, member, gen, robin, tops⟩ : Cmd) = zcmd
  · have hr2 := hr
    simp [hasF, fclr, crest, zcmd] at hr2
    obtain ⟨rfl, rfl, rfl, rfl, rfl, rfl, rfl, rfl, rfl, rfl⟩ := hr2
    rw [decide_eq_true hr]
    simp [hasF, fform, fnum, n0, or_comm, or_assoc, or_left_comm]
  · rw [decide_eq_false hr]
    simp
theorem rchk_fin12 (topic : List UInt8) (pn n off bp be bq : Int) (recs : List Rec) (group member : List UInt8) (gen : Int) (robin : Bool) (tops : List (List UInt8)) :
    (if (!decide (crest (⟨12, topic, pn, n, off, bp, be, bq, recs, group, member, gen, robin, tops⟩ : Cmd) = zcmd)) = true then 40 else if (!numB pn || !numB n || !numB off || !numB gen) = true then 1 else 0) = ccheck (⟨12, topic, pn, n, off, bp, be, bq, recs, group, member, gen, robin, tops⟩ : Cmd) := by
  have hk : ¬ ((⟨12, topic, pn, n, off, bp, be, bq, recs, group, member, gen, robin, tops⟩ : Cmd).kind < 0 ∨ 12 < (⟨12, topic, pn, n, off, bp, be, bq, recs, group, member, gen, robin, tops⟩ : Cmd).kind) := by dsimp only; omega
  have hE : ccheck (⟨12, topic, pn, n, off, bp, be, bq, recs, group, member, gen, robin, tops⟩ : Cmd) = if (hasF 12).any (fform (⟨12, topic, pn, n, off, bp, be, bq, recs, group, member, gen, robin, tops⟩ : Cmd)) || !decide (crest (⟨12, topic, pn, n, off, bp, be, bq, recs, group, member, gen, robin, tops⟩ : Cmd) = zcmd) then 40 else if (hasF 12).any (fnum (⟨12, topic, pn, n, off, bp, be, bq, recs, group, member, gen, robin, tops⟩ : Cmd)) then 1 else 0 := by unfold ccheck; rw [if_neg hk]; rfl
  rw [hE]
  clear hE hk
  have n0 : numB 0 = true := by decide
  by_cases hr : crest (⟨12, topic, pn, n, off, bp, be, bq, recs, group, member, gen, robin, tops⟩ : Cmd) = zcmd
  · have hr2 := hr
    simp [hasF, fclr, crest, zcmd] at hr2
    obtain ⟨rfl, rfl, rfl, rfl, rfl, rfl, rfl, rfl, rfl, rfl, rfl, rfl⟩ := hr2
    rw [decide_eq_true hr]
    simp [hasF, fform, fnum, n0, or_comm, or_assoc, or_left_comm]
  · rw [decide_eq_false hr]
    simp
set_option maxRecDepth 100000 in
theorem rcheck4 (c : Cmd) (rv tv : Value) (w : World) (hi : CmdIn w c rv tv) (hb : CmdBd c) :
    RetB Tryz.prog 27 #[.agg (c.arr rv tv)] w (.int .i64 (ccheck c : Nat)) := by
  by_cases hk : 0 ≤ c.kind ∧ c.kind ≤ 12
  case neg =>
    have he : ccheck c = 41 := by unfold ccheck; rw [if_pos (by omega)]
    rw [he]
    obtain ⟨kind, topic, pn, n, off, bp, be, bq, recs, group, member, gen, robin, tops⟩ := c
    obtain ⟨ra, rc, rfl⟩ := hi.recs.form
    obtain ⟨ta, tc, rfl⟩ := hi.tops.form
    dsimp only [Cmd.arr] at *
    refine RetB.intro fun R hR => ?_
    clear hi hb he
    by_cases h1 : kind < 0
    · have t1 : ((kind : Int) < 0) = True := eq_true h1
      clear hk h1
      go_enter Tryz.func27, Tryz.ntmps27
      go_wp2_with fail
      exact finB hR (below_all (Below.refl _ _)) rfl
    · have t1 : ((kind : Int) < 0) = False := eq_false h1
      have t2 : ((12 : Int) < (kind : Int)) = True := eq_true (by omega)
      clear hk h1
      go_enter Tryz.func27, Tryz.ntmps27
      go_wp2_with fail
      exact finB hR (below_all (Below.refl _ _)) rfl
  have hO := fun W (hW : Below w.heap.size w W) => ronly4 c rv tv W hi.recs.form hi.tops.form hk
  have hN := fun W (hW : Below w.heap.size w W) => rnames4 tv c.tops W ((hi.below hW).tops) hb.tops
  have hY := fun W (hW : Below w.heap.size w W) => rall3_any c.bp c.be c.bq rv c.recs W ((hi.below hW).recs) hb.recs
  have hl1 := hb.topic
  have hl2 := hb.group
  have hl3 := hb.member
  obtain ⟨ra, rc, hrv⟩ := hi.recs.form
  obtain ⟨ta, tc, htv⟩ := hi.tops.form
  clear hi hb
  obtain ⟨kind, topic, pn, n, off, bp, be, bq, recs, group, member, gen, robin, tops⟩ := c
  dsimp only [Cmd.arr] at *
  subst hrv htv
  have hh := fun (k : Nat) (h : k ≤ 12) w => has4 k h w
  have hkk : kind = 0 ∨ kind = 1 ∨ kind = 2 ∨ kind = 3 ∨ kind = 4 ∨ kind = 5 ∨ kind = 6 ∨ kind = 7 ∨ kind = 8 ∨ kind = 9 ∨ kind = 10 ∨ kind = 11 ∨ kind = 12 := by omega
  rcases hkk with rfl | rfl | rfl | rfl | rfl | rfl | rfl | rfl | rfl | rfl | rfl | rfl | rfl
  · refine (rchk_tn (hasL 0) 0 topic pn n off bp be bq recs.length group member gen robin tops.length ra ta rc tc _ _ _ _ _ _ 0 w (by decide) (by decide) (by decide) (by decide) (by decide) (by decide) (by decide) (by decide) (by decide) (by decide) (by decide) (fun w => hh 0 (by omega) w) hO rfl hl1 rfl rfl rfl rfl (by simp) (by simp) (by decide)).cast (congrArg (fun x : Nat => Value.int .i64 (x : Int)) ?_)
    have := rchk_fin0 topic pn n off bp be bq recs group member gen robin tops
    exact this
  · refine (rchk_n (hasL 1) 1 topic pn n off bp be bq recs.length group member gen robin tops.length ra ta rc tc _ _ _ _ _ 0 w (by decide) (by decide) (by decide) (by decide) (by decide) (by decide) (by decide) (by decide) (by decide) (by decide) (by decide) (fun w => hh 1 (by omega) w) hO rfl rfl rfl rfl (by simp) (by simp) (by decide)).cast (congrArg (fun x : Nat => Value.int .i64 (x : Int)) ?_)
    have := rchk_fin1 topic pn n off bp be bq recs group member gen robin tops
    exact this
  · refine (rchk_pb (hasL 2) 2 topic pn n off bp be bq recs.length group member gen robin tops.length ra ta rc tc _ _ _ _ _ _ _ w (by decide) (by decide) (by decide) (by decide) (by decide) (by decide) (by decide) (by decide) (by decide) (by decide) (by decide) (fun w => hh 2 (by omega) w) hO rfl hl1 rfl rfl rfl rfl (by simp) (by simp) (by decide) hY).cast (congrArg (fun x : Nat => Value.int .i64 (x : Int)) ?_)
    have := rchk_fin2 topic pn n off bp be bq recs group member gen robin tops
    exact this
  · refine (rchk_pon (hasL 3) 3 topic pn n off bp be bq recs.length group member gen robin tops.length ra ta rc tc _ _ _ _ _ _ 0 w (by decide) (by decide) (by decide) (by decide) (by decide) (by decide) (by decide) (by decide) (by decide) (by decide) (by decide) (fun w => hh 3 (by omega) w) hO rfl hl1 rfl rfl rfl rfl (by simp) (by simp) (by decide)).cast (congrArg (fun x : Nat => Value.int .i64 (x : Int)) ?_)
    have := rchk_fin3 topic pn n off bp be bq recs group member gen robin tops
    exact this
  · refine (rchk_po (hasL 4) 4 topic pn n off bp be bq recs.length group member gen robin tops.length ra ta rc tc _ _ _ _ _ _ 0 w (by decide) (by decide) (by decide) (by decide) (by decide) (by decide) (by decide) (by decide) (by decide) (by decide) (by decide) (fun w => hh 4 (by omega) w) hO rfl hl1 rfl rfl rfl rfl (by simp) (by simp) (by decide)).cast (congrArg (fun x : Nat => Value.int .i64 (x : Int)) ?_)
    have := rchk_fin4 topic pn n off bp be bq recs group member gen robin tops
    exact this
  · refine (rchk_p (hasL 5) 5 topic pn n off bp be bq recs.length group member gen robin tops.length ra ta rc tc _ _ _ _ _ _ 0 w (by decide) (by decide) (by decide) (by decide) (by decide) (by decide) (by decide) (by decide) (by decide) (by decide) (by decide) (fun w => hh 5 (by omega) w) hO rfl hl1 rfl rfl rfl rfl (by simp) (by simp) (by decide)).cast (congrArg (fun x : Nat => Value.int .i64 (x : Int)) ?_)
    have := rchk_fin5 topic pn n off bp be bq recs group member gen robin tops
    exact this
  · refine (rchk_gmnrl (hasL 6) 6 topic pn n off bp be bq recs.length group member gen robin tops.length ra ta rc tc _ _ _ _ _ _ _ _ 0 w (by decide) (by decide) (by decide) (by decide) (by decide) (by decide) (by decide) (by decide) (by decide) (by decide) (by decide) (fun w => hh 6 (by omega) w) hO rfl hl2 rfl hl3 hN rfl rfl rfl rfl (by simp) (by simp) (by decide)).cast (congrArg (fun x : Nat => Value.int .i64 (x : Int)) ?_)
    have := rchk_fin6 topic pn n off bp be bq recs group member gen robin tops
    exact this
  · refine (rchk_gme (hasL 7) 7 topic pn n off bp be bq recs.length group member gen robin tops.length ra ta rc tc _ _ _ _ _ _ _ 0 w (by decide) (by decide) (by decide) (by decide) (by decide) (by decide) (by decide) (by decide) (by decide) (by decide) (by decide) (fun w => hh 7 (by omega) w) hO rfl hl2 rfl hl3 rfl rfl rfl rfl (by simp) (by simp) (by decide)).cast (congrArg (fun x : Nat => Value.int .i64 (x : Int)) ?_)
    have := rchk_fin7 topic pn n off bp be bq recs group member gen robin tops
    exact this
  · refine (rchk_gme (hasL 8) 8 topic pn n off bp be bq recs.length group member gen robin tops.length ra ta rc tc _ _ _ _ _ _ _ 0 w (by decide) (by decide) (by decide) (by decide) (by decide) (by decide) (by decide) (by decide) (by decide) (by decide) (by decide) (fun w => hh 8 (by omega) w) hO rfl hl2 rfl hl3 rfl rfl rfl rfl (by simp) (by simp) (by decide)).cast (congrArg (fun x : Nat => Value.int .i64 (x : Int)) ?_)
    have := rchk_fin8 topic pn n off bp be bq recs group member gen robin tops
    exact this
  · refine (rchk_gme (hasL 9) 9 topic pn n off bp be bq recs.length group member gen robin tops.length ra ta rc tc _ _ _ _ _ _ _ 0 w (by decide) (by decide) (by decide) (by decide) (by decide) (by decide) (by decide) (by decide) (by decide) (by decide) (by decide) (fun w => hh 9 (by omega) w) hO rfl hl2 rfl hl3 rfl rfl rfl rfl (by simp) (by simp) (by decide)).cast (congrArg (fun x : Nat => Value.int .i64 (x : Int)) ?_)
    have := rchk_fin9 topic pn n off bp be bq recs group member gen robin tops
    exact this
  · refine (rchk_gmepo (hasL 10) 10 topic pn n off bp be bq recs.length group member gen robin tops.length ra ta rc tc _ _ _ _ _ _ _ _ 0 w (by decide) (by decide) (by decide) (by decide) (by decide) (by decide) (by decide) (by decide) (by decide) (by decide) (by decide) (fun w => hh 10 (by omega) w) hO rfl hl1 rfl hl2 rfl hl3 rfl rfl rfl rfl (by simp) (by simp) (by decide)).cast (congrArg (fun x : Nat => Value.int .i64 (x : Int)) ?_)
    have := rchk_fin10 topic pn n off bp be bq recs group member gen robin tops
    exact this
  · refine (rchk_gp (hasL 11) 11 topic pn n off bp be bq recs.length group member gen robin tops.length ra ta rc tc _ _ _ _ _ _ _ 0 w (by decide) (by decide) (by decide) (by decide) (by decide) (by decide) (by decide) (by decide) (by decide) (by decide) (by decide) (fun w => hh 11 (by omega) w) hO rfl hl1 rfl hl2 rfl rfl rfl rfl (by simp) (by simp) (by decide)).cast (congrArg (fun x : Nat => Value.int .i64 (x : Int)) ?_)
    have := rchk_fin11 topic pn n off bp be bq recs group member gen robin tops
    exact this
  · refine (rchk_n (hasL 12) 12 topic pn n off bp be bq recs.length group member gen robin tops.length ra ta rc tc _ _ _ _ _ 0 w (by decide) (by decide) (by decide) (by decide) (by decide) (by decide) (by decide) (by decide) (by decide) (by decide) (by decide) (fun w => hh 12 (by omega) w) hO rfl rfl rfl rfl (by simp) (by simp) (by decide)).cast (congrArg (fun x : Nat => Value.int .i64 (x : Int)) ?_)
    have := rchk_fin12 topic pn n off bp be bq recs group member gen robin tops
    exact this
end Go.Proofs.YthiliodmbipikaaGreat
