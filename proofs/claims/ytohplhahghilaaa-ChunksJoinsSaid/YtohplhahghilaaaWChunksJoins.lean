/-
  The walk of ChunksJoins.
-/
import Derived.Test.YtohplhahghilaaaChkRW
import Derived.Test.YtohplhahghilaaaChkRK
import Derived.Test.YtohplhahghilaaaChkZ
import Derived.Test.YtohplhahghilaaaChkU
import Derived.Test.YtohplhahghilaaaChkT
import Derived.Test.YtohplhahghilaaaSegN
set_option linter.unusedVariables false
set_option linter.unusedSimpArgs false
namespace Go.Proofs.Ytohplhahghilaaa.chunksJoins
open Go.RowKit
attribute [local go_sem] ByteArray.extract_mk ByteArray.mk_append_mk

theorem smap_ne {w : World} {m n s B : Nat} {e : TypeId} {v : Value} {L : List (Int × List UInt8)} {xs : List Value} (h : SMap w m L) (o : w.ownsRow B e s v n xs) : v.ownBlock ≠ some m := by
  intro hb
  obtain ⟨D, ⟨es, c, hm, _⟩, _⟩ := h
  rcases o.2 with ⟨rfl, _⟩ | ⟨g, cap, cur, rfl, _, hg, _⟩
  · simp [Value.ownBlock] at hb
  · have : g = m := by simpa [Value.ownBlock] using hb
    rw [this, hm] at hg
    simp at hg
/-- The two gatherers side by side. -/
structure SJ (w0 W : World) (p m q d N : Nat) (v : Value) (L : List (Int × List UInt8)) (l : List Chk) : Prop where
  j : JAt W p m d (N : Nat) L
  r : RJ w0.heap.size W q d v l
  hp : w0.heap.size ≤ p
  hm : w0.heap.size ≤ m
  hq : w0.heap.size ≤ q
  bel : Below w0.heap.size w0 W
section
variable {w0 W W' : World} {p m q d N N' : Nat} {v v' : Value} {L L' : List (Int × List UInt8)} {l l' : List Chk}
theorem SJ.below (h : SJ w0 W p m q d N v L l) (b : Below W.heap.size W W') : SJ w0 W' p m q d N v L l := ⟨h.j.below b, h.r.below b, h.hp, h.hm, h.hq, below_any (Nat.le_refl _) h.bel b⟩
theorem SJ.pq (h : SJ w0 W p m q d N v L l) : p ≠ q := by
  intro e
  have h1 := h.j.1
  have h2 := h.r.1
  rw [e] at h1
  unfold Blk at h1 h2
  rw [h1] at h2
  simp only [Option.some.injEq, Obj.cells.injEq] at h2
  exact absurd h2.2.1 (by decide)
theorem SJ.mq (h : SJ w0 W p m q d N v L l) : m ≠ q := by
  intro e
  obtain ⟨D, ⟨es, c, hm, _⟩, _⟩ := h.j.2
  have h2 := h.r.1
  unfold Blk at h2
  rw [e, h2] at hm
  simp at hm
theorem SJ.away (h : SJ w0 W p m q d N v L l) : Away [p, m] v := by
  intro b hb hx
  rcases List.mem_cons.1 hx with rfl | hx
  · exact own_ne h.r.2 h.j.1 (by decide) hb.symm
  · rw [List.mem_singleton.1 hx] at hb
    exact smap_ne h.j.2 h.r.2 hb
theorem SJ.jcall (h : SJ w0 W p m q d N v L l) (j : JAt W' p m d (N' : Nat) L') (k : Kept [p, m] W W') : SJ w0 W' p m q d N' v L' l :=
  ⟨j, h.r.keptBy k (by have := h.pq; have := h.mq; simp; omega) h.away, h.hp, h.hm, h.hq, Kept.below h.bel k (by intro x hx; simp at hx; rcases hx with rfl | rfl; exact h.hp; exact h.hm) h.bel.size⟩
theorem SJ.rcall (h : SJ w0 W p m q d N v L l) (r : RJ w0.heap.size W' q d v' l') (k : Kept (q :: v.ownBlock.toList) W W') : SJ w0 W' p m q d N v' L l' := by
  refine ⟨h.j.keptBy k ?_ ?_, r, h.hp, h.hm, h.hq, Kept.below h.bel k ?_ h.bel.size⟩
  · intro hx
    rcases List.mem_cons.1 hx with hx | hx
    · exact h.pq hx
    · simp only [Option.mem_toList] at hx
      exact h.away p hx (by simp)
  · intro hx
    rcases List.mem_cons.1 hx with hx | hx
    · exact h.mq hx
    · simp only [Option.mem_toList] at hx
      exact h.away m hx (by simp)
  · intro x hx
    rcases List.mem_cons.1 hx with rfl | hx
    · exact h.hq
    · simp only [Option.mem_toList] at hx
      exact (h.r.2.lt x hx).1
theorem SJ.aside (h : SJ w0 W p m q d N v L l) {g X : Nat} (k : Kept [g] W W') (hX : w0.heap.size ≤ X) (hg : X ≤ g) (h1 : p < X) (h2 : m < X) (h3 : q < X) (h4 : ∀ b, v.ownBlock = some b → b < X) : SJ w0 W' p m q d N v L l :=
  ⟨h.j.keptBy k (by simp; omega) (by simp; omega), h.r.keptBy k (by simp; omega) (fun b hb hx => by have := h4 b hb; simp at hx; omega), h.hp, h.hm, h.hq, Kept.below h.bel k (by intro x hx; simp at hx; omega) h.bel.size⟩
end
theorem jtake_n {d N : Nat} {L : List (Int × List UInt8)} {c : Chk} (hN : N ≤ 4096) : ∃ N' : Nat, (jtake d N L c).2.1 = (N' : Int) ∧ N' ≤ 4096 := by
  unfold jtake
  split
  · exact ⟨N, rfl, hN⟩
  · rename_i hr
    split
    · exact ⟨N, rfl, hN⟩
    · have hr' : c.right = true := by simpa using hr
      obtain ⟨a1, a2, a3, a4, a5, a6⟩ := Chk.right_iff.1 hr'
      exact ⟨c.n.toNat, by simp only; omega, by omega⟩
theorem rtake_len (d : Nat) (l : List Chk) (c : Chk) : (rtake d l c).2.length ≤ l.length + 1 := by
  unfold rtake
  repeat (split; · simp)
  simp
theorem rleft_len (d N : Nat) (l : List Chk) : (rleft d N l).length ≤ l.length := by
  unfold rleft
  split <;> simp
/-- Which are missing. -/
def jm (L : List (Int × List UInt8)) (N : Nat) : List Int := if L = [] then [] else jmiss L N
theorem jm_len (L : List (Int × List UInt8)) (N : Nat) : (jm L N).length ≤ N := by
  unfold jm
  split
  · simp
  · exact jmiss_len L N
theorem missing_any {W : World} {p m d N : Nat} {L : List (Int × List UInt8)} (h : JAt W p m d (N : Nat) L) (hN : N ≤ 4096) : NumsCall 28 #[.pointer (some ⟨p, 0, none⟩)] W (jm L N) := by
  unfold jm
  by_cases h0 : L = []
  · rw [if_pos h0]; subst h0; exact missing7_none p m d N W h
  · rw [if_neg h0]; exact missing7 p m d N L W h h0 (by omega)
theorem rmissing_any {W : World} {B q d N : Nat} {v : Value} {l : List Chk} {L : List (Int × List UInt8)} (h : RJ B W q d v l) (hj : JI (N : Nat) L l) (hl : l.length ≤ 100000) (hN : N ≤ 4096) : NumsCall 33 #[.pointer (some ⟨q, 0, none⟩)] W (jm L N) := by
  unfold jm
  rw [hj.eq]
  by_cases h0 : l = []
  · rw [if_pos (pairs_nil.2 h0)]; subst h0; exact rmissing7_none q d v W h.1 (chks_own h.2)
  · rw [if_neg (fun e => h0 (pairs_nil.1 e))]; exact rmissing7 q d N v l W h.1 (chks_own h.2) hl (fun c hc => (hj.ns c hc).1) h0 (by omega)

set_option maxHeartbeats 8000000 in
set_option maxRecDepth 100000 in
theorem walk {w : World} (d : Nat) (v1 : Value) (l1 : List Chk) (ask : Int) (h0 : 0 ≤ (d : Int) ∧ (d : Int) < 18446744073709551616) (hl : ChksIn w v1 l1) (h1 : l1.length ≤ maxLen ∧ ∀ c ∈ l1, ChkBd c) (h2 : -9223372036854775808 ≤ ask ∧ ask ≤ 9223372036854775807) :
    RetB Try.prog 9 #[.int .u64 (d : Nat), v1, .int .i64 ask] w (.bool true) := by
  refine RetB.intro fun R hR => ?_
  have HL := Lib.hid hl
  have HB := Lib.hid h1.2
  have hll := h1.1
  unfold maxLen at hll
  obtain ⟨va1, vc1, rfl⟩ := hl.form
  clear hl h1
  go_enter Try.func9, Try.ntmps9
  go_wp2_with fail
  refine (new7 d _).mono ?_
  rintro e w1 ⟨p, m, rfl, hJ, hb, hp, hm⟩
  have S0 : SJ w (w1.alloc (.cells #[.int .u64 (d : Nat), .slice none 0 0] 62)) p m w1.heap.size d 0 (.slice none 0 0) [] [] := ⟨hJ.below (below_all (Below.refl _ _)), ⟨Blk.new _ _ _, World.ownsRow_nil _ _ _ _⟩, hp, hm, hb.size, below_any (Nat.le_refl _) hb (below_all (Below.refl _ _))⟩
  have HS0 := Lib.hid S0
  clear hJ hb hp hm S0
  go_wp2_with fail
  generalize w1.heap.size = q at *
  go_loopw [7, 9, 10, 11, 12, 13, 14, 15, 16, 17, 18] (fun (v7 v9 v10 v11 v12 v13 v14 v15 v16 v17 v18 : Value) (W : World) => ∃ (i p m N : Nat) (v : Value) (L : List (Int × List UInt8)) (l : List Chk), v9 = .int .i64 (i : Int) ∧ v7 = .pointer (some ⟨p, 0, none⟩) ∧ i ≤ 60 ∧ l.length ≤ i ∧ N ≤ 4096 ∧ SJ w W p m q d N v L l ∧ Hid (JI (N : Nat) L l)) (fun (v7 v9 v10 v11 v12 v13 v14 v15 v16 v17 v18 : Value) (W : World) => (60 - intOf v9).toNat)
  case atStart => exact ⟨0, p, m, 0, _, [], [], rfl, rfl, by omega, by simp, by omega, HS0.out, Lib.hid (JI.nil _)⟩
  case round =>
    clear HS0
    obtain ⟨i, p, m, N, v, L, l, rfl, rfl, hi, hli, hN, hS, hJI⟩ := hrel
    have HS := Lib.hid hS
    by_cases hgo : i < l1.length ∧ i < 60
    · obtain ⟨hi1, hi2⟩ := hgo
      rcases HL.out.below hS.bel with ⟨h, _⟩ | ⟨b1, o1, c1, hsl, hcap, hne, hlt, hc⟩
      · rw [h] at hi1; simp at hi1
      simp only [Value.slice.injEq, true_and] at hsl
      obtain ⟨rfl, rfl⟩ := hsl
      have FA := hc i hi1
      have hbd := HB.out _ (List.getElem_mem hi1)
      have j0 : (0 : Int) ≤ (i : Int) := by omega
      have j1 : (i : Int) < (l1.length : Int) := by omega
      have j2 : (i : Int) < 60 := by omega
      clear hc hS
      generalize l1[i] = x at *
      obtain ⟨xi, xn, xd, xb⟩ := x
      obtain ⟨x0, x1, x2, x3⟩ := FA
      simp only at x0 x1 x2 x3
      obtain ⟨g, hg, hg2⟩ : ∃ g : Nat, bits .and .i64 xn 7 = (g : Int) ∧ g < 8 := ⟨_, and_low xn 7 3 rfl (by omega), Nat.mod_lt _ (by decide)⟩
      have hw : IntKind.i64.wrap (1 + (g : Int)) = 1 + (g : Int) := by rw [IntKind.wrap_i64]; omega
      have hbl : xb.length ≤ maxLen := hbd.2.2.2
      unfold maxLen at hbl
      have q2 : ((min (xb.length : Int) 100).toNat) = min xb.length 100 := by omega
      obtain ⟨b, hb⟩ : ∃ l, xb.take (min xb.length 100) = l := ⟨_, rfl⟩
      have C0 := Lib.hid (Blk.new wr #[.int .i64 xi, .int .i64 (1 + (g : Int)), .int .u64 (xd : Nat), .string (S b)] 38)
      have SA := Lib.hid (HS.out.below (below_all (o := .cells #[.int .i64 xi, .int .i64 (1 + (g : Int)), .int .u64 (xd : Nat), .string (S b)] 38) (Below.refl _ _)))
      have cT := take7 p m d N L ⟨xi, 1 + (g : Int), xd, b⟩ _ SA.out.j (by rw [hJI.out.len]; unfold maxLen; omega) (fun _ => trivial)
      have T2 := hJI.out.take d ⟨xi, 1 + (g : Int), xd, b⟩
      obtain ⟨N2, hn2, hN2⟩ := jtake_n (d := d) (L := L) (c := ⟨xi, 1 + (g : Int), xd, b⟩) hN
      have hl2 := rtake_len d l ⟨xi, 1 + (g : Int), xd, b⟩
      have cR := fun W h hB => rtake7 w.heap.size q d v l ⟨xi, 1 + (g : Int), xd, b⟩ W h hB (by omega)
      obtain ⟨e, n2, L2, hjt⟩ : ∃ e n2 L2, jtake d N L ⟨xi, 1 + (g : Int), xd, b⟩ = (e, n2, L2) := ⟨_, _, _, rfl⟩
      rw [hjt] at cT T2 hn2
      simp only at cT T2 hn2
      subst hn2
      obtain ⟨T1, T2⟩ := T2
      rw [T1] at cR
      generalize (rtake d l ⟨xi, 1 + (g : Int), xd, b⟩).2 = l2 at *
      unfold Chk.val at cT cR
      have cT := Lib.hid cT
      have cR := Lib.hid cR
      have J2 := Lib.hid T2
      have hpl := HS.out.j.1.lt
      have hml := HS.out.j.2.lt
      have hql := HS.out.r.1.lt
      have hvl := Lib.hid HS.out.r.2.lt
      have f0 := fun (cs : Array Value) (T : TypeId) => (Blk.new wr cs T).frozen
      clear hbd hJI HS hjt T1 T2
      go_wp2_with fail
      refine cT.out.use ?_
      intro w2 K2 Q2
      have S2 := Lib.hid (SA.out.jcall K2 Q2)
      have C2 := Lib.hid (C0.out.keptBy Q2 (by simp; omega))
      clear cT K2 Q2 SA C0 x0 x1 x2 x3 f0
      obtain ⟨k0, y0, y1, y2, y3⟩ := C2.out.c4
      go_wp2_with fail
      refine (cR.out _ S2.out.r S2.out.bel.size).use ?_
      intro v3 w3 K3 Q3 _
      have S3 := Lib.hid (S2.out.rcall K3 Q3)
      clear cR K3 Q3 S2 C2 k0 y0 y1 y2 y3 hvl
      have hLe := J2.out.eq
      subst hLe
      have hl60 : l2.length ≤ 60 := by omega
      by_cases h5 : ((i : Int) % 5 == 3) = true
      rotate_left
      have h5' : ((i : Int) % 5 == 3) = false := by simpa using h5
      clear h5
      obtain ⟨w6, rfl⟩ : ∃ x : World, x = w3 := ⟨_, rfl⟩
      obtain ⟨p2, rfl⟩ : ∃ x, x = p := ⟨_, rfl⟩
      obtain ⟨m2, rfl⟩ : ∃ x, x = m := ⟨_, rfl⟩
      have S6 := Lib.hid S3.out
      clear S3
      go_wp2_with fail
      rotate_left
      go_wp2_with fail
      refine (copy7 p m d N2 (pairs l2) w3 S3.out.j (by rw [J2.out.len]; unfold maxLen; omega)).mono ?_
      rintro e4 w4 ⟨p2, m2, rfl, J4, B4, hp2, hm2⟩
      have S4 := Lib.hid (S3.out.below B4)
      have T5 := J2.out.take d ⟨0, 1, d, [111, 116, 104, 101, 114]⟩
      have cO := take7 p m d N2 (pairs l2) ⟨0, 1, d, [111, 116, 104, 101, 114]⟩ w4 S4.out.j (by rw [J2.out.len]; unfold maxLen; omega) (fun _ => trivial)
      obtain ⟨N5, hn5, hN5⟩ := jtake_n (d := d) (L := pairs l2) (c := ⟨0, 1, d, [111, 116, 104, 101, 114]⟩) hN2
      obtain ⟨e5, n5, L5, hj5⟩ : ∃ e n2 L2, jtake d N2 (pairs l2) ⟨0, 1, d, [111, 116, 104, 101, 114]⟩ = (e, n2, L2) := ⟨_, _, _, rfl⟩
      rw [hj5] at cO T5 hn5
      simp only at cO T5 hn5
      subst hn5
      have hb5 := T5.2.bod
      unfold Chk.val at cO
      have cO := Lib.hid cO
      have hp3 : p < w3.heap.size := S3.out.j.1.lt
      have hm3 : m < w3.heap.size := S3.out.j.2.lt
      have J4 := Lib.hid J4
      have HB5 := Lib.hid hb5
      have hpw := Lib.hid (Nat.le_trans S3.out.bel.size hp2)
      have hmw := Lib.hid (Nat.le_trans S3.out.bel.size hm2)
      clear T5 hj5 hb5 S3 B4
      go_wp2_with fail
      refine cO.out.use ?_
      intro w5 K5 Q5
      have S5 := Lib.hid (S4.out.jcall K5 Q5)
      have J5 := Lib.hid (J4.out.keptBy Q5 (by simp; omega) (by simp; omega))
      clear cO K5 Q5 S4 J4
      have cW := Lib.hid (whole7 p m d N5 L5 w5 S5.out.j (by omega) HB5.out)
      clear HB5
      go_wp2_with fail
      refine cW.out.use ?_
      intro w6 K6 Q6
      have S6 := Lib.hid (S5.out.jcall K6 Q6)
      have J6 := Lib.hid (J5.out.keptBy Q6 (by simp; omega) (by simp; omega))
      have S6 := Lib.hid (⟨J6.out, S6.out.r, hpw.out, hmw.out, S6.out.hq, S6.out.bel⟩ : SJ w w6 p2 m2 q d N2 v3 (pairs l2) l2)
      clear cW K6 Q6 S5 J5 J6 hpw hmw
      go_wp2_with fail
      all_goals (
        refine (missing_any S6.out.j hN2).use ?_
        intro vm w7 O7 B7
        have S7 := Lib.hid (S6.out.below B7)
        have hX := S6.out.bel.size
        have hX1 := S6.out.j.1.lt
        have hX2 := S6.out.j.2.lt
        have hX3 := S6.out.r.1.lt
        have hX4 := Lib.hid (fun b hb => (S6.out.r.2.lt b hb).2)
        obtain ⟨M, hM⟩ : ∃ M, jm (pairs l2) N2 = M := ⟨_, rfl⟩
        have hMl : M.length ≤ 4096 := by rw [← hM]; have := jm_len (pairs l2) N2; omega
        have cM := fun W h => rmissing_any (W := W) (B := w.heap.size) (q := q) (d := d) (N := N2) (v := v3) h J2.out (by omega) hN2
        rw [hM] at O7 cM
        obtain ⟨ma, mc, rfl⟩ := own_form O7
        have cM := Lib.hid cM
        have O7 := Lib.hid O7
        clear hM B7 S6
        go_wp2_with fail
        refine (cM.out _ S7.out.r).use ?_
        intro vn w8 O8 B8
        obtain ⟨na, nc, rfl⟩ := own_form O8
        have S8 := Lib.hid (S7.out.below B8)
        have P8 := own_keptBy O7.out (Kept.ofBelow B8 []) (away_nil _)
        have cN := Lib.hid ((nums5 _ _ M M w8 (nums_own P8) (nums_own O8) (by omega) (by omega)).cast (v' := .bool true) (by simp))
        have P8 := Lib.hid P8
        clear O8 B8 S7 O7 cM
        go_wp2_with fail
        refine cN.out.use ?_
        intro w9 B9
        have S9 := Lib.hid (S8.out.below B9)
        have P9 := Lib.hid (own_keptBy P8.out (Kept.ofBelow B9 []) (away_nil _))
        clear B9 S8 P8 cN
        go_wp2_with fail
        obtain ⟨X, hXX⟩ : ∃ X, w6.heap.size = X := ⟨_, rfl⟩
        rw [hXX] at P9 hX hX1 hX2 hX3 hX4
        clear hXX
        obtain ⟨wo, hwo⟩ : ∃ n, wr.heap.size = n := ⟨_, rfl⟩
        rw [hwo]
        clear hwo
        go_loopw [14] (fun (v14 : Value) (W : World) => ∃ (k : Nat) (xs : List Value), v14 = .int .i64 (k : Int) ∧ k ≤ M.length ∧ W.ownsRow X 3 1 (.slice ma M.length mc) M.length xs ∧ SJ w W p2 m2 q d N2 v3 (pairs l2) l2) (fun (v14 : Value) (W : World) => (M.length - intOf v14).toNat)
        case atStart => exact ⟨0, _, rfl, by omega, P9.out, S9.out⟩
        case round =>
          obtain ⟨k, xs, rfl, hk, hO, hS⟩ := hrel
          by_cases hkl : k < M.length
          · obtain ⟨gb, gc, hv, hg1, hg3⟩ := hO.form (by omega)
            simp only [Value.slice.injEq, true_and] at hv
            obtain ⟨rfl, rfl⟩ := hv
            have hgb := (hO.lt gb rfl).1
            have hcell := hO.cellAt k (by omega)
            have hxl : k < xs.length := by rw [hO.1]; omega
            rw [List.getElem?_eq_getElem hxl] at hcell
            have hfz := hO.frozenAt k
            have hst := hO.stored k (.int .i64 99)
            have ST := Lib.hid (hS.aside (X := X) (Kept.ofGrown hst.2) hX (by omega) hX1 hX2 hX3 hX4.out)
            have HST := Lib.hid hst.1
            have jj1 : (0 : Int) ≤ (k : Int) := by omega
            have jj2 : (k : Int) < (M.length : Int) := by omega
            generalize xs[k] = ov at *
            clear hst hO hS
            go_wp2_with fail
            go_roundw
            case rel => exact ⟨k + 1, _, by go_num, by omega, HST.out, ST.out⟩
            case measure => first | (simp [intOf]; done) | (simp [intOf]; omega)
          · obtain ⟨g3, hg3, hg4⟩ : ∃ g : Nat, bits .and .i64 (wrap64 ((i : Int) + ask)) 3 = (g : Int) ∧ g < 4 := ⟨_, and_low (wrap64 ((i : Int) + ask)) 3 2 rfl (by omega), Nat.mod_lt _ (by decide)⟩
            have SS := Lib.hid hS
            clear hS hO S9 P9
            by_cases h6 : g3 = 0
            · subst h6
              obtain ⟨ts, tb, Lw, hjw⟩ : ∃ a b c, jwhole d N2 (pairs l2) = (a, b, c) := ⟨_, _, _, rfl⟩
              have cW := whole7 p2 m2 d N2 (pairs l2) _ SS.out.j (by omega) J2.out.bod
              have cX := fun W h => rwhole7 w.heap.size q d N2 v3 N2 l2 W h (by omega) J2.out (.inr rfl) (by omega)
              have JF := J2.out.left d N2
              have hlf := rleft_len d N2 l2
              rw [hjw] at cW cX JF
              simp only at cW cX JF
              generalize rleft d N2 l2 = lf at *
              have cW := Lib.hid cW
              have cX := Lib.hid cX
              have JF := Lib.hid JF
              have e1 : (ts != ts) = false := by simp
              have e2 : (tb != tb) = false := by simp
              clear hjw
              go_wp2_with fail
              refine cW.out.use ?_
              intro wa Ka Qa
              have Sa := Lib.hid (SS.out.jcall Ka Qa)
              clear cW Ka Qa SS
              go_wp2_with fail
              refine (cX.out _ Sa.out.r).use ?_
              intro v4 wb Kb Qb _
              have Sb := Lib.hid (Sa.out.rcall Kb Qb)
              clear cX Kb Qb Sa
              go_wp2_with fail
              go_roundw
              case rel => exact ⟨i + 1, p2, m2, N2, v4, Lw, lf, by go_num, rfl, by omega, by omega, hN2, Sb.out, JF⟩
              case measure => first | (simp [intOf]; done) | (simp [intOf]; omega)
            · have h6' : ((g3 : Int) == 0) = false := by simpa using h6
              have h6'' : (g3 = 0) = False := eq_false h6
              clear h6
              go_wp2_with fail
              go_roundw
              case rel => exact ⟨i + 1, p2, m2, N2, v3, pairs l2, l2, by go_num, rfl, by omega, by omega, hN2, SS.out, J2⟩
              case measure => first | (simp [intOf]; done) | (simp [intOf]; omega))
    · have Sx := Lib.hid hS.bel
      by_cases hi1 : i < l1.length
      · have hi2 : ¬ (i : Int) < 60 := by omega
        have hi3 : (i : Int) < (l1.length : Int) := by omega
        clear hS HS hJI
        go_wp2_with fail
        refine (fixed7 _).use ?_
        intro wc bc
        go_wp2_with fail
        exact finB hR (below_any (Nat.le_refl _) Sx.out bc) rfl
      · have hi3 : ¬ (i : Int) < (l1.length : Int) := by omega
        clear hS HS hJI
        go_wp2_with fail
        refine (fixed7 _).use ?_
        intro wc bc
        go_wp2_with fail
        exact finB hR (below_any (Nat.le_refl _) Sx.out bc) rfl
end Go.Proofs.Ytohplhahghilaaa.chunksJoins
