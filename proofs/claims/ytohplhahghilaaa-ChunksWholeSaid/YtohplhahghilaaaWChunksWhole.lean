/-
  The walk of ChunksWhole.
-/
import Derived.Test.YtohplhahghilaaaChkTk
import Derived.Test.YtohplhahghilaaaChkU
import Derived.Test.YtohplhahghilaaaChkT
set_option linter.unusedVariables false
set_option linter.unusedSimpArgs false
namespace Go.Proofs.Ytohplhahghilaaa.chunksWhole
open Go.RowKit
attribute [local go_sem] ByteArray.extract_mk ByteArray.mk_append_mk

/-- A gatherer's number of chunks. -/
def jn (L : List (Int × List UInt8)) (N : Nat) : Int := if L = [] then 0 else N
def bools (hs : List Bool) : Array Value := (hs.map Value.bool).toArray
/-- What lies in memory. -/
structure Wh (w : World) (t : List UInt8) (k N d g o p m hb : Nat) (L : List (Int × List UInt8)) (hs : List Bool) (W : World) : Prop where
  rl : g < W.heap.size
  r : ∀ i, i < N → ChkAt W g (o + i * 4) ⟨i, N, d, piece t k i⟩
  j : JAt W p m d (jn L N) L
  h : Blk W hb (bools hs) 4
  bel : Below w.heap.size w W
  tk : Taken t k N L hs
  hj : ∀ b ∈ [p, m], w.heap.size ≤ b
  hh : w.heap.size ≤ hb
  a1 : g ∉ [p, m]
  a2 : hb ∉ [p, m]
  a3 : g ∉ [hb]
section
variable {w W W' : World} {t : List UInt8} {k N d g o p m hb : Nat} {L L' : List (Int × List UInt8)} {hs : List Bool}
theorem Wh.below (h : Wh w t k N d g o p m hb L hs W) (b : Below W.heap.size W W') : Wh w t k N d g o p m hb L hs W' :=
  ⟨Nat.lt_of_lt_of_le h.rl b.size, fun i hi => (h.r i hi).keep fun j => b.cell (p := ⟨g, j, none⟩) h.rl, h.j.below b, h.h.below b, below_any (Nat.le_refl _) h.bel b, h.tk, h.hj, h.hh, h.a1, h.a2, h.a3⟩
theorem Wh.alloc (h : Wh w t k N d g o p m hb L hs W) (o' : Obj) : Wh w t k N d g o p m hb L hs (W.alloc o') := h.below (below_all (Below.refl _ _))
theorem Wh.taken (h : Wh w t k N d g o p m hb L hs W) {i : Nat} (hi : i < N) (hk : (piece t k i).length ≤ 4096) (j : JAt W' p m d N (mput L (i : Int) (piece t k i))) (kk : Kept [p, m] W W')
    {c : Array Value} (hc : c = bools (hs.set i true)) (hset : Blk (W'.setCell ⟨hb, i, none⟩ (.bool true)) hb c 4) : Wh w t k N d g o p m hb (mput L (i : Int) (piece t k i)) (hs.set i true) (W'.setCell ⟨hb, i, none⟩ (.bool true)) := by
  have g2 : Kept [hb] W' (W'.setCell ⟨hb, i, none⟩ (.bool true)) := Kept.ofGrown (grown_set (grown_refl _ _) _ _)
  have hjn : jn (mput L (i : Int) (piece t k i)) N = N := by unfold jn; rw [if_neg (mput_ne _ _ _)]
  have b1 := h.a2
  simp only [List.mem_cons, List.not_mem_nil, or_false, not_or] at b1
  refine ⟨Nat.lt_of_lt_of_le (Nat.lt_of_lt_of_le h.rl kk.size) g2.size, fun j hj => ((h.r j hj).keep fun i => kk.cell h.rl h.a1 i).keep fun i => g2.cell (Nat.lt_of_lt_of_le h.rl kk.size) h.a3 i, ?_, by rw [← hc]; exact hset, ?_, h.tk.put hi hk, h.hj, h.hh, h.a1, h.a2, h.a3⟩
  · rw [hjn]
    exact j.keptBy g2 (by simp; omega) (by simp; omega)
  · exact (Kept.below h.bel kk h.hj h.bel.size).setCell (p := ⟨hb, i, none⟩) h.hh _
end
theorem bools_set (hs : List Bool) (i : Nat) : (bools hs).setIfInBounds i (.bool true) = bools (hs.set i true) := by
  unfold bools
  rw [List.setIfInBounds_toArray, List.map_set]
theorem bools_get {hs : List Bool} {i : Nat} (h : i < hs.length) : (bools hs)[i]? = some (.bool (hs.getD i false)) := by
  unfold bools
  rw [List.getElem?_toArray, List.getElem?_map, List.getD_eq_getElem?_getD, List.getElem?_eq_getElem h]
  rfl
theorem count_step : ∀ (hs : List Bool) (j : Nat), j < hs.length → (hs.take (j + 1)).count false = (hs.take j).count false + if hs.getD j false then 0 else 1
  | [], j, h => by simp at h
  | b :: hs, 0, _ => by cases b <;> simp
  | b :: hs, j + 1, h => by
    have ih := count_step hs j (by simpa using h)
    simp only [List.take_succ_cons, List.count_cons, List.getD_cons_succ] at ih ⊢
    omega
theorem count_le (hs : List Bool) (j : Nat) : (hs.take j).count false ≤ j := Nat.le_trans List.count_le_length (by rw [List.length_take]; omega)
theorem made_bools (N : Nat) : madeCells (Value.bool false).cells N = bools (List.replicate N false) := by
  unfold bools
  apply Array.ext
  · rw [size_madeCells]; simp
  · intro i h1 h2
    simp [madeCells, Value.cells, Nat.mod_one]
theorem boolInfo : (Try.prog.info? 4).map (fun i => (i.zero, i.size, i.bytes)) = some (some (.bool false), 1, 1) := by kernel_rfl

set_option maxHeartbeats 8000000 in
set_option maxRecDepth 100000 in
theorem walk {w : World} (s : List UInt8) (size : Int) (v2 : Value) (l2 : List Int) (hs : s.length ≤ maxLen) (hz : -9223372036854775808 ≤ size ∧ size ≤ 9223372036854775807) (hl2 : NumsIn w v2 l2) (hm2 : l2.length ≤ 140737488355328) :
    RetB Try.prog 6 #[.string (S s), .int .i64 size, v2] w (.bool true) := by
  refine RetB.intro fun R hR => ?_
  unfold maxLen at hs
  have q1 : ((min (s.length : Int) 300).toNat) = min s.length 300 := by omega
  obtain ⟨t, hl⟩ : ∃ l, s.take (min s.length 300) = l := ⟨_, rfl⟩
  have htl : t.length ≤ 300 := by rw [← hl, List.length_take]; omega
  obtain ⟨q, hq, hq2⟩ : ∃ q : Nat, bits .and .i64 size 255 = (q : Int) ∧ q < 256 := ⟨_, and_low size 255 8 rfl (by omega), Nat.mod_lt _ (by decide)⟩
  obtain ⟨k, hk, hk1⟩ : ∃ k : Nat, IntKind.i64.wrap (5 + (q : Int)) = (k : Int) ∧ (1 ≤ k ∧ k ≤ 260) := ⟨5 + q, by rw [IntKind.wrap_i64]; omega, by omega⟩
  have hN4 := splitN_le (len := t.length) (size := k) hk1.1
  have C1 := Lib.hid (fun w => split7_ok t k w hk1.1 (by omega) (by omega) (by omega))
  have C2 := Lib.hid (fun w => digest7 t w (by omega))
  obtain ⟨d, hd⟩ : ∃ d, digest t = d := ⟨_, rfl⟩
  rw [hd] at C2
  have hdb := digest_bd t
  rw [hd] at hdb
  obtain ⟨N, hN⟩ : ∃ N, splitN t.length k = N := ⟨_, rfl⟩
  have hN1 : 1 ≤ N ∧ N ≤ 300 := by
    rw [hN] at hN4
    have h1 := splitN_pos t.length k
    omega
  obtain ⟨i0, hi0, hy0, hy1, hy2⟩ := info_parts boolInfo
  have hmk : ∀ W, (Instr.makeSlice 51 (.int .i64 (N : Int)) (.int .i64 (N : Int))).run Try.prog W = .ok (.slice (some ⟨W.heap.size, 0, none⟩) N N) (W.alloc (.cells (bools (List.replicate N false)) 4)) := fun W => by
    have h := run_make (P := Try.prog) W 51 4 i0 (.bool false) Try.underlying51 hi0 hy0 .i64 .i64 (N : Int) (N : Int) (by omega) (Int.le_refl _) (by rw [hy2]; omega) (by omega)
    rw [hy1, Int.toNat_natCast, Nat.mul_one] at h
    rw [h]
    congr 3
    exact made_bools N
  obtain ⟨oa, oc, rfl⟩ := hl2.form
  go_enter Try.func6, Try.ntmps6
  go_wp2_with fail
  refine (C1.out _).use ?_
  intro v w1 o1 b1
  have hlen := chunksOf_len t k
  rw [hN] at hlen
  obtain ⟨ch, hch⟩ : ∃ ch, chunksOf t k = ch := ⟨_, rfl⟩
  have hat : ∀ i, (h : i < ch.length) → ch[i] = ⟨i, N, d, piece t k i⟩ := by
    subst hch
    intro i h
    rw [chunksOf_at]
    unfold chunkOf
    rw [hN, hd]
  rw [hch] at o1 hlen
  have hb1 := o1.lt
  have R1 := chks_own o1
  rcases R1 with ⟨h, _⟩ | ⟨g, o, cap, rfl, hcap, hne, hgl, hcells⟩
  · rw [h] at hlen; simp at hlen; omega
  have hc : ∀ i, i < N → ChkAt w1 g (o + i * 4) ⟨i, N, d, piece t k i⟩ := fun i hi => by
    have := hcells i (by omega)
    rwa [hat] at this
  have HC := Lib.hid hc
  have HN := Lib.hid hN
  have HD := Lib.hid hd
  have HL := Lib.hid hl
  have HB1 := Lib.hid b1
  have HW1 := Lib.hid (b1.size)
  rw [hlen]
  rw [hlen] at hcap
  have hn0 : ((N : Int) == 0) = false := by simp; omega
  clear hcells hc hch hat hne o1 C1 hlen hN4 hN hd hl b1 hb1
  go_wp2_with fail
  refine (C2.out _).use ?_
  intro w2 b2
  go_wp2_with fail
  refine (new7 d _).mono ?_
  rintro e w3 ⟨p, m, rfl, J3, b3, hp, hm⟩
  have HJ3 := Lib.hid J3
  have HB3 := Lib.hid (below_any (Nat.le_refl _) b2 b3)
  have hz2 := b2.size
  have hz3 := J3.1.lt
  have hz4 := J3.2.lt
  clear b2 b3 J3
  have hmk3 := hmk w3
  have S0 : Wh w t k N d g o p m w3.heap.size [] (List.replicate N false) (w3.alloc (.cells (bools (List.replicate N false)) 4)) := by
    have r3 : ∀ i, i < N → ChkAt w3 g (o + i * 4) ⟨i, N, d, piece t k i⟩ := fun i hi => (HC.out i hi).keep fun j => HB3.out.cell (p := ⟨g, j, none⟩) hgl
    have g3 : g < w3.heap.size := Nat.lt_of_lt_of_le hgl HB3.out.size
    have hw1 := HW1.out
    refine ⟨by simp; omega, fun i hi => (r3 i hi).keep fun j => (below_all (Below.refl _ w3)).cell (p := ⟨g, j, none⟩) g3, ?_, Blk.new w3 _ _, below_all (below_any (Nat.le_refl _) HB1.out HB3.out), Taken.nil t k N, by simp; omega, by omega, by simp; omega, by simp; omega, by simp; omega⟩
    exact HJ3.out.below (below_all (Below.refl _ _))
  have HS0 := Lib.hid S0
  clear S0 HB3 HW1 HB1 hz2 hz3 hz4 hp hm HJ3
  go_wp2_with fail
  clear hmk3 hn0 hk hmk
  generalize w3.heap.size = hb at *
  have HD0 := Lib.hid hdb
  have HM2 := Lib.hid hm2
  have e0 : IntKind.i64.wrap ((l2.length : Int) + (N : Int)) = (l2.length : Int) + (N : Int) := by rw [IntKind.wrap_i64]; omega
  have E0 := Lib.hid e0
  clear e0 hdb
  go_loopw [11, 12, 13, 14, 15, 16, 17, 18] (fun (v11 v12 v13 v14 v15 v16 v17 v18 : Value) (W : World) => ∃ (i : Nat) (L : List (Int × List UInt8)) (hs : List Bool), v11 = .int .i64 (i : Int) ∧ i ≤ 200 ∧ (i = 0 ∨ L ≠ []) ∧ Wh w t k N d g o p m hb L hs W) (fun (v11 v12 v13 v14 v15 v16 v17 v18 : Value) (W : World) => (200 - intOf v11).toNat)
  case atStart => exact ⟨0, [], List.replicate N false, rfl, by omega, .inl rfl, HS0.out⟩
  case round =>
    obtain ⟨i, L, hs, rfl, hi, hiL, SS⟩ := hrel
    have e0 := E0.out
    by_cases hgo : i < l2.length + N ∧ i < 200
    · obtain ⟨hg1, hg2⟩ := hgo
      have f1 : ((i : Int) < (l2.length : Int) + (N : Int)) = True := eq_true (by omega)
      have f2 : ((i : Int) < 200) = True := eq_true (by omega)
      have e1 : IntKind.i64.wrap ((i : Int) + 1) = (i : Int) + 1 := by rw [IntKind.wrap_i64]; omega
      have e2 : IntKind.i64.wrap ((i : Int) - (l2.length : Int)) = (i : Int) - (l2.length : Int) := by rw [IntKind.wrap_i64]; omega
      have hlS := SS.tk.len
      have HSS := Lib.hid SS
      by_cases ho : i < l2.length
      · rcases hl2.below SS.bel with ⟨h, _⟩ | ⟨b2, o2, c2, hv2, _, _, _, hcells⟩
        · rw [h] at ho; simp at ho
        obtain ⟨q3, hq3, hq4⟩ : ∃ q : Nat, bits .and .i64 l2[i] 65535 = (q : Int) ∧ q < 65536 := ⟨_, and_low l2[i] 65535 16 rfl (by omega), Nat.mod_lt _ (by decide)⟩
        obtain ⟨kk, hkk, hkN⟩ : ∃ kk : Nat, (q3 : Int) % (N : Int) = (kk : Int) ∧ kk < N := ⟨q3 % N, by rw [Int.natCast_emod], Nat.mod_lt _ (by omega)⟩
        have y0 := hcells i ho
        simp only [Value.slice.injEq, true_and] at hv2
        obtain ⟨rfl, rfl⟩ := hv2
        have b0 : (0 : Int) ≤ (i : Int) := by omega
        have b1 : (i : Int) < (l2.length : Int) := by omega
        have f3 : ((i : Int) - (l2.length : Int) < 0) = True := eq_true (by omega)
        have f4 : ((l2.length : Int) ≤ (i : Int)) = False := eq_false (by omega)
        have f5 : (l2.length ≤ i) = False := eq_false (by omega)
        generalize l2[i] = x at *
        clear hcells SS hlS
        have SS := HSS.out
        have bk0 : (0 : Int) ≤ (kk : Int) := by omega
        have bk1 : (kk : Int) < (N : Int) := by omega
        by_cases hL : L = []
        · have J := SS.j
          have e7 : jn L N = ((0 : Nat) : Int) := by unfold jn; rw [if_pos hL]; rfl
          have hgd := SS.tk.none hL kk hkN
          have HJN : L = [] ∨ jn L N = N := .inl hL
          rw [e7, hL] at J
          have HJ := Lib.hid J
          clear J e7
          go_wp2_with fail
          refine (whole7_no p m d 0 [] _ HJ.out (.inl rfl)).use ?_
          intro w4 b4
          have S4 := SS.below b4
          have HJ4 := Lib.hid (HJ.out.below b4)
          clear HJ b4
          go_wp2_with fail
          refine (missing7_none p m d ((0 : Nat) : Int) _ HJ4.out).use ?_
          intro vm w5 o5 b5
          obtain ⟨ma, mc, rfl⟩ := own_form o5
          have SX := S4.below b5
          have y9 := (SX.h.cell kk).trans (bools_get (by rw [SS.tk.len]; exact hkN))
          rw [hgd] at y9
          clear o5 b5 S4 HJ4 hgd
          obtain ⟨pc, hpc⟩ : ∃ pc, piece t k kk = pc := ⟨_, rfl⟩
          have hpl : pc.length ≤ 4096 := by
            rw [← hpc, piece_len t k kk (split_lo hk1.1 (by rw [HN.out]; exact hkN))]
            have e : (kk + 1) * k = kk * k + k := by rw [Nat.add_mul, Nat.one_mul]
            omega
          have hri : (⟨kk, N, d, pc⟩ : Chk).right = true := by
            have h := chunkOf_right (s := t) (size := k) (k := kk) hk1.1 (by omega) (by rw [HN.out]; omega) (by rw [HN.out]; exact hkN)
            unfold chunkOf at h
            rw [HN.out, HD.out, hpc] at h
            exact h
          have hjt := SS.tk.right (d := d) (n := jn L N) hkN HJN (by rw [hpc]; exact hri)
          rw [hpc] at hjt
          have CP := Lib.hid (fun w => put7_ok ⟨kk, N, d, pc⟩ w hri HD0.out)
          have hcg := cget_text (c := ⟨kk, N, d, pc⟩) hri HD0.out
          have htl2 := ctext_le (c := ⟨kk, N, d, pc⟩) hpl
          generalize (⟨kk, N, d, pc⟩ : Chk).text = tx at hcg htl2 CP
          have CG := Lib.hid (fun w => get7 tx w (by omega))
          rw [hcg] at CG
          obtain ⟨x0, x1, x2, x3⟩ := SX.r kk hkN
          rw [hpc] at x3
          have HSX := Lib.hid SX
          have HJT := Lib.hid hjt
          have HPC := Lib.hid hpc
          have HPL := Lib.hid hpl
          have HLN : Hid (L.length < maxLen) := Lib.hid (by have h1 := SS.tk.cnt; have h2 := count_both hs; have h3 := SS.tk.len; unfold maxLen; omega)
          unfold Chk.val at CP CG
          clear SX hjt hpc hpl hcg htl2 hri
          go_wp2_with fail
          refine (CP.out _).use ?_
          intro w6 b6
          have HS6 := Lib.hid (HSX.out.below b6)
          clear HSX b6 CP x0 x1 x2 x3
          go_wp2_with fail
          refine (CG.out _).use ?_
          intro w7 b7
          have HS7 := Lib.hid ((HS6.out.below b7).alloc (.cells #[.int .i64 (kk : Int), .int .i64 (N : Int), .int .u64 (d : Nat), .string (S pc)] 38))
          clear HS6 b7 CG
          have ct := take7 p m d (jn L N) L ⟨kk, N, d, pc⟩ _ HS7.out.j HLN.out (fun _ => trivial)
          rw [HJT.out] at ct
          unfold Chk.val at ct
          have CT := Lib.hid ct
          clear ct
          go_wp2_with fail
          refine CT.out.use ?_
          intro w9 J9 K9
          have h9 := HS7.out.h.keptBy K9 HS7.out.a2
          have hln9 : kk < hs.length := by rw [SS.tk.len]; exact hkN
          have z9 := (h9.cell kk).trans (bools_get hln9)
          have hf9 := h9.frozen kk
          have S10 := Lib.hid (HS7.out.taken hkN (by rw [HPC.out]; exact HPL.out) (by rw [HPC.out]; exact J9) K9 (bools_set hs kk) (h9.set kk _))
          rw [HPC.out] at S10
          clear h9 J9 K9 HS7 CT
          go_wp2_with fail
          go_roundw
          case rel => exact ⟨i + 1, _, _, by go_num, by omega, .inr (mput_ne _ _ _), S10.out⟩
          case measure => first | (simp [intOf]; done) | (simp [intOf]; omega)
        · have e7 : jn L N = (N : Int) := by unfold jn; rw [if_neg hL]
          have HJN : L = [] ∨ jn L N = N := .inr e7
          have J := SS.j
          rw [e7] at J
          have HJ := Lib.hid J
          have hml := SS.tk.miss_all
          have hct := SS.tk.cnt
          have hcb := count_both hs
          have hsl := SS.tk.len
          by_cases hfull : N ≤ L.length
          · have hm0 : (jmiss L N).length = 0 := by omega
            have hjx := SS.tk.text hfull HN.out hk1.1
            have CW := Lib.hid (whole7_yes p m d N L wr J hL hfull (by omega) SS.tk.bod (by rw [hjx]; exact HD.out))
            rw [hjx] at CW
            have HM0 := Lib.hid hm0
            clear J e7 hml hct hcb hsl hjx hm0
            go_wp2_with fail
            refine CW.out.use ?_
            intro w4 b4
            have S4 := SS.below b4
            have HJ4 := Lib.hid (HJ.out.below b4)
            clear HJ b4 CW
            go_wp2_with fail
            refine (missing7 p m d N L _ HJ4.out hL (by omega)).use ?_
            intro vm w5 o5 b5
            obtain ⟨ma, mc, rfl⟩ := own_form o5
            rw [HM0.out]
            have SX := S4.below b5
            clear o5 b5 S4 HJ4
            obtain ⟨pc, hpc⟩ : ∃ pc, piece t k kk = pc := ⟨_, rfl⟩
            have hpl : pc.length ≤ 4096 := by
              rw [← hpc, piece_len t k kk (split_lo hk1.1 (by rw [HN.out]; exact hkN))]
              have e : (kk + 1) * k = kk * k + k := by rw [Nat.add_mul, Nat.one_mul]
              omega
            have hri : (⟨kk, N, d, pc⟩ : Chk).right = true := by
              have h := chunkOf_right (s := t) (size := k) (k := kk) hk1.1 (by omega) (by rw [HN.out]; omega) (by rw [HN.out]; exact hkN)
              unfold chunkOf at h
              rw [HN.out, HD.out, hpc] at h
              exact h
            have hjt := SS.tk.right (d := d) (n := jn L N) hkN HJN (by rw [hpc]; exact hri)
            rw [hpc] at hjt
            have CP := Lib.hid (fun w => put7_ok ⟨kk, N, d, pc⟩ w hri HD0.out)
            have hcg := cget_text (c := ⟨kk, N, d, pc⟩) hri HD0.out
            have htl2 := ctext_le (c := ⟨kk, N, d, pc⟩) hpl
            generalize (⟨kk, N, d, pc⟩ : Chk).text = tx at hcg htl2 CP
            have CG := Lib.hid (fun w => get7 tx w (by omega))
            rw [hcg] at CG
            obtain ⟨x0, x1, x2, x3⟩ := SX.r kk hkN
            rw [hpc] at x3
            have HSX := Lib.hid SX
            have HJT := Lib.hid hjt
            have HPC := Lib.hid hpc
            have HPL := Lib.hid hpl
            have HLN : Hid (L.length < maxLen) := Lib.hid (by have h1 := SS.tk.cnt; have h2 := count_both hs; have h3 := SS.tk.len; unfold maxLen; omega)
            unfold Chk.val at CP CG
            clear SX hjt hpc hpl hcg htl2 hri
            go_wp2_with fail
            refine (CP.out _).use ?_
            intro w6 b6
            have HS6 := Lib.hid (HSX.out.below b6)
            clear HSX b6 CP x0 x1 x2 x3
            go_wp2_with fail
            refine (CG.out _).use ?_
            intro w7 b7
            have HS7 := Lib.hid ((HS6.out.below b7).alloc (.cells #[.int .i64 (kk : Int), .int .i64 (N : Int), .int .u64 (d : Nat), .string (S pc)] 38))
            clear HS6 b7 CG
            have ct := take7 p m d (jn L N) L ⟨kk, N, d, pc⟩ _ HS7.out.j HLN.out (fun _ => trivial)
            rw [HJT.out] at ct
            unfold Chk.val at ct
            have CT := Lib.hid ct
            clear ct
            go_wp2_with fail
            refine CT.out.use ?_
            intro w9 J9 K9
            have h9 := HS7.out.h.keptBy K9 HS7.out.a2
            have hln9 : kk < hs.length := by rw [SS.tk.len]; exact hkN
            have z9 := (h9.cell kk).trans (bools_get hln9)
            have hf9 := h9.frozen kk
            have S10 := Lib.hid (HS7.out.taken hkN (by rw [HPC.out]; exact HPL.out) (by rw [HPC.out]; exact J9) K9 (bools_set hs kk) (h9.set kk _))
            rw [HPC.out] at S10
            clear h9 J9 K9 HS7 CT
            go_wp2_with fail
            go_roundw
            case rel => exact ⟨i + 1, _, _, by go_num, by omega, .inr (mput_ne _ _ _), S10.out⟩
            case measure => first | (simp [intOf]; done) | (simp [intOf]; omega)
          · have hm0 : 0 < (jmiss L N).length := by omega
            have hltL : L.length < N := by omega
            obtain ⟨M, hM⟩ : ∃ M, (jmiss L N).length = M := ⟨_, rfl⟩
            rw [hM] at hm0
            have HM0 := Lib.hid hM
            have g1 : ((M : Int) == 0) = false := by simp; omega
            have g2 : ((M : Int) = 0) = False := eq_false (by omega)
            clear J e7 hml hct hcb hsl hM hm0
            go_wp2_with fail
            refine (whole7_no p m d N L _ HJ.out (.inr hltL)).use ?_
            intro w4 b4
            have S4 := SS.below b4
            have HJ4 := Lib.hid (HJ.out.below b4)
            clear HJ b4
            go_wp2_with fail
            refine (missing7 p m d N L _ HJ4.out hL (by omega)).use ?_
            intro vm w5 o5 b5
            obtain ⟨ma, mc, rfl⟩ := own_form o5
            rw [HM0.out]
            have SX := S4.below b5
            clear o5 b5 S4 HJ4
            obtain ⟨pc, hpc⟩ : ∃ pc, piece t k kk = pc := ⟨_, rfl⟩
            have hpl : pc.length ≤ 4096 := by
              rw [← hpc, piece_len t k kk (split_lo hk1.1 (by rw [HN.out]; exact hkN))]
              have e : (kk + 1) * k = kk * k + k := by rw [Nat.add_mul, Nat.one_mul]
              omega
            have hri : (⟨kk, N, d, pc⟩ : Chk).right = true := by
              have h := chunkOf_right (s := t) (size := k) (k := kk) hk1.1 (by omega) (by rw [HN.out]; omega) (by rw [HN.out]; exact hkN)
              unfold chunkOf at h
              rw [HN.out, HD.out, hpc] at h
              exact h
            have hjt := SS.tk.right (d := d) (n := jn L N) hkN HJN (by rw [hpc]; exact hri)
            rw [hpc] at hjt
            have CP := Lib.hid (fun w => put7_ok ⟨kk, N, d, pc⟩ w hri HD0.out)
            have hcg := cget_text (c := ⟨kk, N, d, pc⟩) hri HD0.out
            have htl2 := ctext_le (c := ⟨kk, N, d, pc⟩) hpl
            generalize (⟨kk, N, d, pc⟩ : Chk).text = tx at hcg htl2 CP
            have CG := Lib.hid (fun w => get7 tx w (by omega))
            rw [hcg] at CG
            obtain ⟨x0, x1, x2, x3⟩ := SX.r kk hkN
            rw [hpc] at x3
            have HSX := Lib.hid SX
            have HJT := Lib.hid hjt
            have HPC := Lib.hid hpc
            have HPL := Lib.hid hpl
            have HLN : Hid (L.length < maxLen) := Lib.hid (by have h1 := SS.tk.cnt; have h2 := count_both hs; have h3 := SS.tk.len; unfold maxLen; omega)
            unfold Chk.val at CP CG
            clear SX hjt hpc hpl hcg htl2 hri
            go_wp2_with fail
            refine (CP.out _).use ?_
            intro w6 b6
            have HS6 := Lib.hid (HSX.out.below b6)
            clear HSX b6 CP x0 x1 x2 x3
            go_wp2_with fail
            refine (CG.out _).use ?_
            intro w7 b7
            have HS7 := Lib.hid ((HS6.out.below b7).alloc (.cells #[.int .i64 (kk : Int), .int .i64 (N : Int), .int .u64 (d : Nat), .string (S pc)] 38))
            clear HS6 b7 CG
            have ct := take7 p m d (jn L N) L ⟨kk, N, d, pc⟩ _ HS7.out.j HLN.out (fun _ => trivial)
            rw [HJT.out] at ct
            unfold Chk.val at ct
            have CT := Lib.hid ct
            clear ct
            go_wp2_with fail
            refine CT.out.use ?_
            intro w9 J9 K9
            have h9 := HS7.out.h.keptBy K9 HS7.out.a2
            have hln9 : kk < hs.length := by rw [SS.tk.len]; exact hkN
            have z9 := (h9.cell kk).trans (bools_get hln9)
            have hf9 := h9.frozen kk
            have S10 := Lib.hid (HS7.out.taken hkN (by rw [HPC.out]; exact HPL.out) (by rw [HPC.out]; exact J9) K9 (bools_set hs kk) (h9.set kk _))
            rw [HPC.out] at S10
            clear h9 J9 K9 HS7 CT
            go_wp2_with fail
            go_roundw
            case rel => exact ⟨i + 1, _, _, by go_num, by omega, .inr (mput_ne _ _ _), S10.out⟩
            case measure => first | (simp [intOf]; done) | (simp [intOf]; omega)
      · obtain ⟨kk, rfl⟩ : ∃ kk, i = l2.length + kk := ⟨i - l2.length, by omega⟩
        have hkN : kk < N := by omega
        have e3 : (((l2.length + kk : Nat) : Int) - (l2.length : Int)) = (kk : Int) := by omega
        rw [e3] at e2
        have f3 : ((kk : Int) < 0) = False := eq_false (by omega)
        have f4 : ((l2.length : Int) ≤ ((l2.length + kk : Nat) : Int)) = True := eq_true (by omega)
        have bk0 : (0 : Int) ≤ (kk : Int) := by omega
        have bk1 : (kk : Int) < (N : Int) := by omega
        have y9 := (SS.h.cell kk).trans (bools_get (by rw [hlS]; exact hkN))
        cases hbk : hs.getD kk false with
        | true =>
          rw [hbk] at y9
          have hne : L ≠ [] := fun e => by
            have := SS.tk.none e kk hkN
            rw [hbk] at this
            simp at this
          clear SS hlS
          go_wp2_with fail
          go_roundw
          case rel => exact ⟨l2.length + kk + 1, L, hs, by go_num, by omega, .inr hne, HSS.out⟩
          case measure => first | (simp [intOf]; done) | (simp [intOf]; omega)
        | false =>
          rw [hbk] at y9
          clear SS hlS
          have SS := HSS.out
          have bk0 : (0 : Int) ≤ (kk : Int) := by omega
          have bk1 : (kk : Int) < (N : Int) := by omega
          by_cases hL : L = []
          · have J := SS.j
            have e7 : jn L N = ((0 : Nat) : Int) := by unfold jn; rw [if_pos hL]; rfl
            have hgd := SS.tk.none hL kk hkN
            have HJN : L = [] ∨ jn L N = N := .inl hL
            rw [e7, hL] at J
            have HJ := Lib.hid J
            clear J e7
            go_wp2_with fail
            refine (whole7_no p m d 0 [] _ HJ.out (.inl rfl)).use ?_
            intro w4 b4
            have S4 := SS.below b4
            have HJ4 := Lib.hid (HJ.out.below b4)
            clear HJ b4
            go_wp2_with fail
            refine (missing7_none p m d ((0 : Nat) : Int) _ HJ4.out).use ?_
            intro vm w5 o5 b5
            obtain ⟨ma, mc, rfl⟩ := own_form o5
            have SX := S4.below b5
            have y9 := (SX.h.cell kk).trans (bools_get (by rw [SS.tk.len]; exact hkN))
            rw [hgd] at y9
            clear o5 b5 S4 HJ4 hgd
            obtain ⟨pc, hpc⟩ : ∃ pc, piece t k kk = pc := ⟨_, rfl⟩
            have hpl : pc.length ≤ 4096 := by
              rw [← hpc, piece_len t k kk (split_lo hk1.1 (by rw [HN.out]; exact hkN))]
              have e : (kk + 1) * k = kk * k + k := by rw [Nat.add_mul, Nat.one_mul]
              omega
            have hri : (⟨kk, N, d, pc⟩ : Chk).right = true := by
              have h := chunkOf_right (s := t) (size := k) (k := kk) hk1.1 (by omega) (by rw [HN.out]; omega) (by rw [HN.out]; exact hkN)
              unfold chunkOf at h
              rw [HN.out, HD.out, hpc] at h
              exact h
            have hjt := SS.tk.right (d := d) (n := jn L N) hkN HJN (by rw [hpc]; exact hri)
            rw [hpc] at hjt
            have CP := Lib.hid (fun w => put7_ok ⟨kk, N, d, pc⟩ w hri HD0.out)
            have hcg := cget_text (c := ⟨kk, N, d, pc⟩) hri HD0.out
            have htl2 := ctext_le (c := ⟨kk, N, d, pc⟩) hpl
            generalize (⟨kk, N, d, pc⟩ : Chk).text = tx at hcg htl2 CP
            have CG := Lib.hid (fun w => get7 tx w (by omega))
            rw [hcg] at CG
            obtain ⟨x0, x1, x2, x3⟩ := SX.r kk hkN
            rw [hpc] at x3
            have HSX := Lib.hid SX
            have HJT := Lib.hid hjt
            have HPC := Lib.hid hpc
            have HPL := Lib.hid hpl
            have HLN : Hid (L.length < maxLen) := Lib.hid (by have h1 := SS.tk.cnt; have h2 := count_both hs; have h3 := SS.tk.len; unfold maxLen; omega)
            unfold Chk.val at CP CG
            clear SX hjt hpc hpl hcg htl2 hri
            go_wp2_with fail
            refine (CP.out _).use ?_
            intro w6 b6
            have HS6 := Lib.hid (HSX.out.below b6)
            clear HSX b6 CP x0 x1 x2 x3
            go_wp2_with fail
            refine (CG.out _).use ?_
            intro w7 b7
            have HS7 := Lib.hid ((HS6.out.below b7).alloc (.cells #[.int .i64 (kk : Int), .int .i64 (N : Int), .int .u64 (d : Nat), .string (S pc)] 38))
            clear HS6 b7 CG
            have ct := take7 p m d (jn L N) L ⟨kk, N, d, pc⟩ _ HS7.out.j HLN.out (fun _ => trivial)
            rw [HJT.out] at ct
            unfold Chk.val at ct
            have CT := Lib.hid ct
            clear ct
            go_wp2_with fail
            refine CT.out.use ?_
            intro w9 J9 K9
            have h9 := HS7.out.h.keptBy K9 HS7.out.a2
            have hln9 : kk < hs.length := by rw [SS.tk.len]; exact hkN
            have z9 := (h9.cell kk).trans (bools_get hln9)
            have hf9 := h9.frozen kk
            have S10 := Lib.hid (HS7.out.taken hkN (by rw [HPC.out]; exact HPL.out) (by rw [HPC.out]; exact J9) K9 (bools_set hs kk) (h9.set kk _))
            rw [HPC.out] at S10
            clear h9 J9 K9 HS7 CT
            go_wp2_with fail
            go_roundw
            case rel => exact ⟨l2.length + kk + 1, _, _, by go_num, by omega, .inr (mput_ne _ _ _), S10.out⟩
            case measure => first | (simp [intOf]; done) | (simp [intOf]; omega)
          · have e7 : jn L N = (N : Int) := by unfold jn; rw [if_neg hL]
            have HJN : L = [] ∨ jn L N = N := .inr e7
            have J := SS.j
            rw [e7] at J
            have HJ := Lib.hid J
            have hml := SS.tk.miss_all
            have hct := SS.tk.cnt
            have hcb := count_both hs
            have hsl := SS.tk.len
            by_cases hfull : N ≤ L.length
            · have hm0 : (jmiss L N).length = 0 := by omega
              have hjx := SS.tk.text hfull HN.out hk1.1
              have CW := Lib.hid (whole7_yes p m d N L wr J hL hfull (by omega) SS.tk.bod (by rw [hjx]; exact HD.out))
              rw [hjx] at CW
              have HM0 := Lib.hid hm0
              clear J e7 hml hct hcb hsl hjx hm0
              go_wp2_with fail
              refine CW.out.use ?_
              intro w4 b4
              have S4 := SS.below b4
              have HJ4 := Lib.hid (HJ.out.below b4)
              clear HJ b4 CW
              go_wp2_with fail
              refine (missing7 p m d N L _ HJ4.out hL (by omega)).use ?_
              intro vm w5 o5 b5
              obtain ⟨ma, mc, rfl⟩ := own_form o5
              rw [HM0.out]
              have SX := S4.below b5
              clear o5 b5 S4 HJ4
              obtain ⟨pc, hpc⟩ : ∃ pc, piece t k kk = pc := ⟨_, rfl⟩
              have hpl : pc.length ≤ 4096 := by
                rw [← hpc, piece_len t k kk (split_lo hk1.1 (by rw [HN.out]; exact hkN))]
                have e : (kk + 1) * k = kk * k + k := by rw [Nat.add_mul, Nat.one_mul]
                omega
              have hri : (⟨kk, N, d, pc⟩ : Chk).right = true := by
                have h := chunkOf_right (s := t) (size := k) (k := kk) hk1.1 (by omega) (by rw [HN.out]; omega) (by rw [HN.out]; exact hkN)
                unfold chunkOf at h
                rw [HN.out, HD.out, hpc] at h
                exact h
              have hjt := SS.tk.right (d := d) (n := jn L N) hkN HJN (by rw [hpc]; exact hri)
              rw [hpc] at hjt
              have CP := Lib.hid (fun w => put7_ok ⟨kk, N, d, pc⟩ w hri HD0.out)
              have hcg := cget_text (c := ⟨kk, N, d, pc⟩) hri HD0.out
              have htl2 := ctext_le (c := ⟨kk, N, d, pc⟩) hpl
              generalize (⟨kk, N, d, pc⟩ : Chk).text = tx at hcg htl2 CP
              have CG := Lib.hid (fun w => get7 tx w (by omega))
              rw [hcg] at CG
              obtain ⟨x0, x1, x2, x3⟩ := SX.r kk hkN
              rw [hpc] at x3
              have HSX := Lib.hid SX
              have HJT := Lib.hid hjt
              have HPC := Lib.hid hpc
              have HPL := Lib.hid hpl
              have HLN : Hid (L.length < maxLen) := Lib.hid (by have h1 := SS.tk.cnt; have h2 := count_both hs; have h3 := SS.tk.len; unfold maxLen; omega)
              unfold Chk.val at CP CG
              clear SX hjt hpc hpl hcg htl2 hri
              go_wp2_with fail
              refine (CP.out _).use ?_
              intro w6 b6
              have HS6 := Lib.hid (HSX.out.below b6)
              clear HSX b6 CP x0 x1 x2 x3
              go_wp2_with fail
              refine (CG.out _).use ?_
              intro w7 b7
              have HS7 := Lib.hid ((HS6.out.below b7).alloc (.cells #[.int .i64 (kk : Int), .int .i64 (N : Int), .int .u64 (d : Nat), .string (S pc)] 38))
              clear HS6 b7 CG
              have ct := take7 p m d (jn L N) L ⟨kk, N, d, pc⟩ _ HS7.out.j HLN.out (fun _ => trivial)
              rw [HJT.out] at ct
              unfold Chk.val at ct
              have CT := Lib.hid ct
              clear ct
              go_wp2_with fail
              refine CT.out.use ?_
              intro w9 J9 K9
              have h9 := HS7.out.h.keptBy K9 HS7.out.a2
              have hln9 : kk < hs.length := by rw [SS.tk.len]; exact hkN
              have z9 := (h9.cell kk).trans (bools_get hln9)
              have hf9 := h9.frozen kk
              have S10 := Lib.hid (HS7.out.taken hkN (by rw [HPC.out]; exact HPL.out) (by rw [HPC.out]; exact J9) K9 (bools_set hs kk) (h9.set kk _))
              rw [HPC.out] at S10
              clear h9 J9 K9 HS7 CT
              go_wp2_with fail
              go_roundw
              case rel => exact ⟨l2.length + kk + 1, _, _, by go_num, by omega, .inr (mput_ne _ _ _), S10.out⟩
              case measure => first | (simp [intOf]; done) | (simp [intOf]; omega)
            · have hm0 : 0 < (jmiss L N).length := by omega
              have hltL : L.length < N := by omega
              obtain ⟨M, hM⟩ : ∃ M, (jmiss L N).length = M := ⟨_, rfl⟩
              rw [hM] at hm0
              have HM0 := Lib.hid hM
              have g1 : ((M : Int) == 0) = false := by simp; omega
              have g2 : ((M : Int) = 0) = False := eq_false (by omega)
              clear J e7 hml hct hcb hsl hM hm0
              go_wp2_with fail
              refine (whole7_no p m d N L _ HJ.out (.inr hltL)).use ?_
              intro w4 b4
              have S4 := SS.below b4
              have HJ4 := Lib.hid (HJ.out.below b4)
              clear HJ b4
              go_wp2_with fail
              refine (missing7 p m d N L _ HJ4.out hL (by omega)).use ?_
              intro vm w5 o5 b5
              obtain ⟨ma, mc, rfl⟩ := own_form o5
              rw [HM0.out]
              have SX := S4.below b5
              clear o5 b5 S4 HJ4
              obtain ⟨pc, hpc⟩ : ∃ pc, piece t k kk = pc := ⟨_, rfl⟩
              have hpl : pc.length ≤ 4096 := by
                rw [← hpc, piece_len t k kk (split_lo hk1.1 (by rw [HN.out]; exact hkN))]
                have e : (kk + 1) * k = kk * k + k := by rw [Nat.add_mul, Nat.one_mul]
                omega
              have hri : (⟨kk, N, d, pc⟩ : Chk).right = true := by
                have h := chunkOf_right (s := t) (size := k) (k := kk) hk1.1 (by omega) (by rw [HN.out]; omega) (by rw [HN.out]; exact hkN)
                unfold chunkOf at h
                rw [HN.out, HD.out, hpc] at h
                exact h
              have hjt := SS.tk.right (d := d) (n := jn L N) hkN HJN (by rw [hpc]; exact hri)
              rw [hpc] at hjt
              have CP := Lib.hid (fun w => put7_ok ⟨kk, N, d, pc⟩ w hri HD0.out)
              have hcg := cget_text (c := ⟨kk, N, d, pc⟩) hri HD0.out
              have htl2 := ctext_le (c := ⟨kk, N, d, pc⟩) hpl
              generalize (⟨kk, N, d, pc⟩ : Chk).text = tx at hcg htl2 CP
              have CG := Lib.hid (fun w => get7 tx w (by omega))
              rw [hcg] at CG
              obtain ⟨x0, x1, x2, x3⟩ := SX.r kk hkN
              rw [hpc] at x3
              have HSX := Lib.hid SX
              have HJT := Lib.hid hjt
              have HPC := Lib.hid hpc
              have HPL := Lib.hid hpl
              have HLN : Hid (L.length < maxLen) := Lib.hid (by have h1 := SS.tk.cnt; have h2 := count_both hs; have h3 := SS.tk.len; unfold maxLen; omega)
              unfold Chk.val at CP CG
              clear SX hjt hpc hpl hcg htl2 hri
              go_wp2_with fail
              refine (CP.out _).use ?_
              intro w6 b6
              have HS6 := Lib.hid (HSX.out.below b6)
              clear HSX b6 CP x0 x1 x2 x3
              go_wp2_with fail
              refine (CG.out _).use ?_
              intro w7 b7
              have HS7 := Lib.hid ((HS6.out.below b7).alloc (.cells #[.int .i64 (kk : Int), .int .i64 (N : Int), .int .u64 (d : Nat), .string (S pc)] 38))
              clear HS6 b7 CG
              have ct := take7 p m d (jn L N) L ⟨kk, N, d, pc⟩ _ HS7.out.j HLN.out (fun _ => trivial)
              rw [HJT.out] at ct
              unfold Chk.val at ct
              have CT := Lib.hid ct
              clear ct
              go_wp2_with fail
              refine CT.out.use ?_
              intro w9 J9 K9
              have h9 := HS7.out.h.keptBy K9 HS7.out.a2
              have hln9 : kk < hs.length := by rw [SS.tk.len]; exact hkN
              have z9 := (h9.cell kk).trans (bools_get hln9)
              have hf9 := h9.frozen kk
              have S10 := Lib.hid (HS7.out.taken hkN (by rw [HPC.out]; exact HPL.out) (by rw [HPC.out]; exact J9) K9 (bools_set hs kk) (h9.set kk _))
              rw [HPC.out] at S10
              clear h9 J9 K9 HS7 CT
              go_wp2_with fail
              go_roundw
              case rel => exact ⟨l2.length + kk + 1, _, _, by go_num, by omega, .inr (mput_ne _ _ _), S10.out⟩
              case measure => first | (simp [intOf]; done) | (simp [intOf]; omega)
    · have HSS := Lib.hid SS
      have HLEN := Lib.hid SS.tk.len
      have hne : L ≠ [] := by
        rcases hiL with rfl | h
        · exact absurd ⟨by omega, by omega⟩ hgo
        · exact h
      by_cases hA : i < l2.length + N
      · have f1 : ((i : Int) < (l2.length : Int) + (N : Int)) = True := eq_true (by omega)
        have f2 : ((i : Int) < 200) = False := eq_false (by omega)
        clear SS hgo hA hiL
        have S0 := HSS.out
        have cL := HLEN.out
        clear HLEN
        go_wp2_with fail
        clear f1 f2 e0
        go_loopw [19, 20] (fun (v19 v20 : Value) (W : World) => ∃ j : Nat, v20 = .int .i64 (j : Int) ∧ j ≤ N ∧ v19 = .int .i64 (((hs.take j).count false : Nat) : Int) ∧ Wh w t k N d g o p m hb L hs W) (fun (v19 v20 : Value) (W : World) => (N - intOf v20).toNat)
        case atStart => exact ⟨0, rfl, by omega, by simp, S0⟩
        case round =>
          obtain ⟨j, rfl, hj, rfl, S2⟩ := hrel
          have HS2 := Lib.hid S2
          by_cases hjN : j < N
          · have y9 := (S2.h.cell j).trans (bools_get (by rw [cL]; exact hjN))
            have b0 : (0 : Int) ≤ (j : Int) := by omega
            have b1 : (j : Int) < (N : Int) := by omega
            have e1 : IntKind.i64.wrap ((j : Int) + 1) = (j : Int) + 1 := by rw [IntKind.wrap_i64]; omega
            have hst := count_step hs j (by rw [cL]; exact hjN)
            have hcl := count_le hs j
            obtain ⟨F, hF⟩ : ∃ F, (hs.take j).count false = F := ⟨_, rfl⟩
            rw [hF] at hst hcl ⊢
            have e2 : IntKind.i64.wrap ((F : Int) + 1) = (F : Int) + 1 := by rw [IntKind.wrap_i64]; omega
            clear S2 hF
            cases hbj : hs.getD j false with
            | true =>
              rw [hbj] at y9 hst
              have HST := Lib.hid hst
              clear hst hbj
              go_wp2_with fail
              go_roundw
              case rel => exact ⟨j + 1, by go_num, by omega, by rw [HST.out]; rfl, HS2.out⟩
              case measure => first | (simp [intOf]; done) | (simp [intOf]; omega)
            | false =>
              rw [hbj] at y9 hst
              have HST := Lib.hid hst
              clear hst hbj
              go_wp2_with fail
              go_roundw
              case rel => exact ⟨j + 1, by go_num, by omega, by rw [HST.out]; rfl, HS2.out⟩
              case measure => first | (simp [intOf]; done) | (simp [intOf]; omega)
          · obtain rfl : j = N := by omega
            rw [List.take_of_length_le (by rw [cL]; exact Nat.le_refl _)]
            have e7 : jn L j = (j : Int) := by unfold jn; rw [if_neg hne]
            have J := S2.j
            rw [e7] at J
            have HJ := Lib.hid J
            have hml := S2.tk.miss_all
            have hct := S2.tk.cnt
            have hcb := count_both hs
            obtain ⟨F, hF⟩ : ∃ F, hs.count false = F := ⟨_, rfl⟩
            rw [hF] at hml hcb ⊢
            by_cases hfull : j ≤ L.length
            · obtain rfl : F = 0 := by omega
              have hjx := S2.tk.text hfull HN.out hk1.1
              have CW := Lib.hid (whole7_yes p m d j L wr J hne hfull (by omega) S2.tk.bod (by rw [hjx]; exact HD.out))
              rw [hjx] at CW
              have HM0 := Lib.hid hml
              clear J e7 hml hct hcb hjx hF
              go_wp2_with fail
              refine CW.out.use ?_
              intro w4 b4
              have S4 := Lib.hid (S2.below b4)
              clear HJ b4 CW
              have HJ4 : Hid (JAt w4 p m d (j : Int) L) := Lib.hid (by have := S4.out.j; unfold jn at this; rwa [if_neg hne] at this)
              go_wp2_with fail
              refine (missing7 p m d j L _ HJ4.out hne (by omega)).use ?_
              intro vm w5 o5 b5
              obtain ⟨ma, mc, rfl⟩ := own_form o5
              rw [HM0.out]
              have SX := Lib.hid (S4.out.below b5)
              clear o5 b5 S4 HJ4 S2 S0
              go_wp2_with fail
              refine (fixed7 _).use ?_
              intro w9 b9
              go_wp2_with fail
              exact finB hR (below_any (Nat.le_refl _) SX.out.bel b9) rfl
            · have g1 : ((F : Int) == 0) = false := by simp; omega
              have g2 : ((F : Int) = 0) = False := eq_false (by omega)
              have hltL : L.length < j := by omega
              have HM0 := Lib.hid hml
              clear J e7 hml hct hcb hF
              go_wp2_with fail
              refine (whole7_no p m d j L _ HJ.out (.inr hltL)).use ?_
              intro w4 b4
              have S4 := Lib.hid (S2.below b4)
              have HJ4 := Lib.hid (HJ.out.below b4)
              clear HJ b4
              go_wp2_with fail
              refine (missing7 p m d j L _ HJ4.out hne (by omega)).use ?_
              intro vm w5 o5 b5
              obtain ⟨ma, mc, rfl⟩ := own_form o5
              rw [HM0.out]
              have SX := Lib.hid (S4.out.below b5)
              clear o5 b5 S4 HJ4 S2 S0
              go_wp2_with fail
              refine (fixed7 _).use ?_
              intro w9 b9
              go_wp2_with fail
              exact finB hR (below_any (Nat.le_refl _) SX.out.bel b9) rfl
      · have f1 : ((i : Int) < (l2.length : Int) + (N : Int)) = False := eq_false (by omega)
        have f2 := f1
        clear SS hgo hA hiL
        have S0 := HSS.out
        have cL := HLEN.out
        clear HLEN
        go_wp2_with fail
        clear f1 f2 e0
        go_loopw [19, 20] (fun (v19 v20 : Value) (W : World) => ∃ j : Nat, v20 = .int .i64 (j : Int) ∧ j ≤ N ∧ v19 = .int .i64 (((hs.take j).count false : Nat) : Int) ∧ Wh w t k N d g o p m hb L hs W) (fun (v19 v20 : Value) (W : World) => (N - intOf v20).toNat)
        case atStart => exact ⟨0, rfl, by omega, by simp, S0⟩
        case round =>
          obtain ⟨j, rfl, hj, rfl, S2⟩ := hrel
          have HS2 := Lib.hid S2
          by_cases hjN : j < N
          · have y9 := (S2.h.cell j).trans (bools_get (by rw [cL]; exact hjN))
            have b0 : (0 : Int) ≤ (j : Int) := by omega
            have b1 : (j : Int) < (N : Int) := by omega
            have e1 : IntKind.i64.wrap ((j : Int) + 1) = (j : Int) + 1 := by rw [IntKind.wrap_i64]; omega
            have hst := count_step hs j (by rw [cL]; exact hjN)
            have hcl := count_le hs j
            obtain ⟨F, hF⟩ : ∃ F, (hs.take j).count false = F := ⟨_, rfl⟩
            rw [hF] at hst hcl ⊢
            have e2 : IntKind.i64.wrap ((F : Int) + 1) = (F : Int) + 1 := by rw [IntKind.wrap_i64]; omega
            clear S2 hF
            cases hbj : hs.getD j false with
            | true =>
              rw [hbj] at y9 hst
              have HST := Lib.hid hst
              clear hst hbj
              go_wp2_with fail
              go_roundw
              case rel => exact ⟨j + 1, by go_num, by omega, by rw [HST.out]; rfl, HS2.out⟩
              case measure => first | (simp [intOf]; done) | (simp [intOf]; omega)
            | false =>
              rw [hbj] at y9 hst
              have HST := Lib.hid hst
              clear hst hbj
              go_wp2_with fail
              go_roundw
              case rel => exact ⟨j + 1, by go_num, by omega, by rw [HST.out]; rfl, HS2.out⟩
              case measure => first | (simp [intOf]; done) | (simp [intOf]; omega)
          · obtain rfl : j = N := by omega
            rw [List.take_of_length_le (by rw [cL]; exact Nat.le_refl _)]
            have e7 : jn L j = (j : Int) := by unfold jn; rw [if_neg hne]
            have J := S2.j
            rw [e7] at J
            have HJ := Lib.hid J
            have hml := S2.tk.miss_all
            have hct := S2.tk.cnt
            have hcb := count_both hs
            obtain ⟨F, hF⟩ : ∃ F, hs.count false = F := ⟨_, rfl⟩
            rw [hF] at hml hcb ⊢
            by_cases hfull : j ≤ L.length
            · obtain rfl : F = 0 := by omega
              have hjx := S2.tk.text hfull HN.out hk1.1
              have CW := Lib.hid (whole7_yes p m d j L wr J hne hfull (by omega) S2.tk.bod (by rw [hjx]; exact HD.out))
              rw [hjx] at CW
              have HM0 := Lib.hid hml
              clear J e7 hml hct hcb hjx hF
              go_wp2_with fail
              refine CW.out.use ?_
              intro w4 b4
              have S4 := Lib.hid (S2.below b4)
              clear HJ b4 CW
              have HJ4 : Hid (JAt w4 p m d (j : Int) L) := Lib.hid (by have := S4.out.j; unfold jn at this; rwa [if_neg hne] at this)
              go_wp2_with fail
              refine (missing7 p m d j L _ HJ4.out hne (by omega)).use ?_
              intro vm w5 o5 b5
              obtain ⟨ma, mc, rfl⟩ := own_form o5
              rw [HM0.out]
              have SX := Lib.hid (S4.out.below b5)
              clear o5 b5 S4 HJ4 S2 S0
              go_wp2_with fail
              refine (fixed7 _).use ?_
              intro w9 b9
              go_wp2_with fail
              exact finB hR (below_any (Nat.le_refl _) SX.out.bel b9) rfl
            · have g1 : ((F : Int) == 0) = false := by simp; omega
              have g2 : ((F : Int) = 0) = False := eq_false (by omega)
              have hltL : L.length < j := by omega
              have HM0 := Lib.hid hml
              clear J e7 hml hct hcb hF
              go_wp2_with fail
              refine (whole7_no p m d j L _ HJ.out (.inr hltL)).use ?_
              intro w4 b4
              have S4 := Lib.hid (S2.below b4)
              have HJ4 := Lib.hid (HJ.out.below b4)
              clear HJ b4
              go_wp2_with fail
              refine (missing7 p m d j L _ HJ4.out hne (by omega)).use ?_
              intro vm w5 o5 b5
              obtain ⟨ma, mc, rfl⟩ := own_form o5
              rw [HM0.out]
              have SX := Lib.hid (S4.out.below b5)
              clear o5 b5 S4 HJ4 S2 S0
              go_wp2_with fail
              refine (fixed7 _).use ?_
              intro w9 b9
              go_wp2_with fail
              exact finB hR (below_any (Nat.le_refl _) SX.out.bel b9) rfl
end Go.Proofs.Ytohplhahghilaaa.chunksWhole
