/-
  The walk of RecordOne.
-/
import Derived.Test.YtikcpfoehapndaaFix3
import Derived.Test.YtikcpfoehapndaaRecS
import Derived.Test.YtikcpfoehapndaaRecU
import Derived.Deep.RegionHeld3
set_option linter.unusedVariables false
set_option linter.unusedSimpArgs false
namespace Go.Proofs.Ytikcpfoehapndaa.recordOne
open Go.RowKit
attribute [local go_sem] ByteArray.extract_mk ByteArray.mk_append_mk

theorem cutRs_bd {l : List Rec} (h : RecsBd l) : RecsBd (cutRs l) := by
  refine ⟨by unfold cutRs; rw [List.length_map, List.length_take]; have := h.1; omega, fun r hr => ?_⟩
  unfold cutRs at hr
  simp only [List.mem_map] at hr
  obtain ⟨r', _, rfl⟩ := hr
  exact ⟨by simp only [cutR, List.length_take]; unfold maxLen; omega, by simp only [cutR, List.length_take]; unfold maxLen; omega⟩
theorem ok_bd {p q r : Int} {l : List Rec} (h : rall p q r l = 0) : RecsBd l := by
  obtain ⟨_, _, _, _, h5, h6⟩ := rall_ok h
  refine ⟨by unfold maxLen; omega, fun r hr => ?_⟩
  obtain ⟨_, _, _, h1, h2⟩ := rcheck_ok (h6 r hr)
  exact ⟨by unfold maxLen; omega, by unfold maxLen; omega⟩
theorem recs_news {w : World} {b : Nat} : ∀ {l : List Rec} {o : Nat}, (∀ i, (h : i < l.length) → RecAt w b (o + i * 4) l[i]) → ∀ j u, (l.flatMap Rec.cells)[j]? = some u → w.cell? ⟨b, o + j, none⟩ = some u
  | [], o, h, j, u, hj => by simp at hj
  | r :: l, o, h, j, u, hj => by
    have h0 := h 0 (by simp)
    simp only [Nat.zero_mul, Nat.add_zero, List.getElem_cons_zero] at h0
    obtain ⟨a0, a1, a2, a3⟩ := h0
    have ih := recs_news (l := l) (o := o + 4) (fun i hi => by
      have := h (i + 1) (by simp; omega)
      rw [show o + 4 + i * 4 = o + (i + 1) * 4 by omega]
      simpa using this)
    match j, hj with
    | 0, hj => simp [Rec.cells] at hj; rw [← hj]; exact a0
    | 1, hj => simp [Rec.cells] at hj; rw [← hj]; exact a1
    | 2, hj => simp [Rec.cells] at hj; rw [← hj]; exact a2
    | 3, hj => simp [Rec.cells] at hj; rw [← hj]; exact a3
    | j + 4, hj =>
      have := ih j u (by simpa [Rec.cells] using hj)
      rw [show o + (j + 4) = o + 4 + j by omega]
      exact this
theorem cells_len : ∀ l : List Rec, (l.flatMap Rec.cells).length = l.length * 4
  | [] => rfl
  | r :: l => by rw [List.flatMap_cons, List.length_append, cells_len l]; simp [Rec.cells]; omega
theorem cells_one (l : List Rec) : ∀ u ∈ l.flatMap Rec.cells, u.oneCell' = true := by
  intro u hu
  simp only [List.mem_flatMap, Rec.cells] at hu
  obtain ⟨r, _, hu⟩ := hu
  simp at hu
  rcases hu with rfl | rfl | rfl | rfl <;> rfl
theorem get_one {l : List Rec} {j : Nat} (hj : j < l.length) (ho : ∀ r ∈ l, r.ok = 0) : mget (rbytes l) ((rbytes (l.take j)).length : Nat) = (l[j], (((rbytes (l.take (j + 1))).length : Nat) : Int), 0) := by
  have e : rbytes l = rbytes (l.take j) ++ (l[j].text ++ rbytes (l.drop (j + 1))) := by
    have h := List.take_append_drop j l
    rw [List.drop_eq_getElem_cons hj] at h
    have e2 : ∀ (a c : List Rec) (y : Rec), rbytes (a ++ y :: c) = rbytes a ++ (y.text ++ rbytes c) := by intro a c y; simp [rbytes]
    rw [← e2, h]
  have h1 : At (rbytes l) ((rbytes (l.take j)).length : Nat) l[j].text ((rbytes (l.take (j + 1))).length : Nat) := ⟨_, _, e, rfl, by rw [rbytes_snoc hj, List.length_append]; omega⟩
  rw [mget_of (at_rec h1 (ho _ (List.getElem_mem hj))), if_pos rfl]
theorem less_ok {p q r : Int} {m : List Rec} {n : Nat} (h : rall p q r m = 0) (hn : n < m.length) : rall p q r (m.take n ++ m.drop (n + 1)) = if m.length - 1 = 0 then 30 else 0 := by
  obtain ⟨o1, o2, o3, o4, o5, o6⟩ := rall_ok h
  have hlen : (m.take n ++ m.drop (n + 1)).length = m.length - 1 := by rw [List.length_append, List.length_take, List.length_drop]; omega
  unfold rall
  rw [o1, o2, o3, if_neg (by simp)]
  by_cases h0 : m.length - 1 = 0
  · rw [if_pos h0, if_pos (List.eq_nil_of_length_eq_zero (by omega))]
  · rw [if_neg h0, if_neg (by intro he; rw [he] at hlen; simp at hlen; omega), if_neg (by omega)]
    refine rchecks_ok.2 fun r hr => ?_
    rcases List.mem_append.1 hr with hr | hr
    · exact o6 r (List.mem_of_mem_take hr)
    · exact o6 r (List.mem_of_mem_drop hr)
theorem news_at {w : World} {b o : Nat} {l : List Rec} (h : ∀ i, (h : i < l.length) → RecAt w b (o + i * 4) l[i]) : ∀ j u, (l.flatMap Rec.cells)[j]? = some u → w.cell? ((⟨b, o, none⟩ : Addr).add j) = some u := fun j u hj => by
  have e : (⟨b, o, none⟩ : Addr).add j = ⟨b, o + j, none⟩ := by unfold Addr.add; split <;> simp_all
  rw [e]
  exact recs_news h j u hj
theorem own_cap {w : World} {B n m p : Nat} {a : Option Addr} {xs : List Value} {e : TypeId} (h : w.ownsRow B e 4 (.slice a m p) n xs) : n ≤ p := by
  rcases h.2 with ⟨h1, h2⟩ | ⟨g, cap, cur, h1, h2, h3, h4, _⟩
  · omega
  · simp only [Value.slice.injEq] at h1
    omega
theorem own_cases {w : World} {B : Nat} {v : Value} {n : Nat} {xs : List Value} {e : TypeId} (h : w.ownsRow B e 4 v n xs) (hv : v ≠ .slice none 0 0) : ∃ g cap, v = .slice (some ⟨g, 0, none⟩) n cap ∧ B ≤ g ∧ g < w.heap.size := by
  rcases h.2 with ⟨h1, _⟩ | ⟨g, cap, cur, h1, h2, h3, _⟩
  · exact absurd h1 hv
  · exact ⟨g, cap, h1, h2, (Array.getElem?_eq_some_iff.1 h3).1⟩

set_option maxHeartbeats 4000000 in
set_option maxRecDepth 100000 in
theorem walk {w : World} (p q r : Int) (v : Value) (l : List Rec) (i : Int) (hl : RecsIn w v l) (hbd : RecsBd l) (hi : -9223372036854775808 ≤ i ∧ i ≤ 9223372036854775807) :
    RetB Try.prog 7 #[.agg #[.int .i64 p, .int .i64 q, .int .i64 r, v], .int .i64 i] w (.bool true) := by
  refine RetB.intro fun R hR => ?_
  have cB0 := fun w hl => bound_any p q r v l w hl hbd
  obtain ⟨m, hm⟩ : ∃ m, cutRs l = m := ⟨_, rfl⟩
  have bm : RecsBd m := hm ▸ cutRs_bd hbd
  rw [hm] at cB0
  obtain ⟨ao, cp, rfl⟩ := hl.form
  clear hm
  have CB0 := Lib.hid cB0
  have HL := Lib.hid hl
  have BM := Lib.hid bm
  clear cB0 hbd hl bm
  go_enter Try.func7, Try.ntmps7
  go_wp2_with fail
  have T1 := Blk.new w #[.int .i64 p, .int .i64 q, .int .i64 r, .slice ao l.length cp] 26
  have G1 : Below w.heap.size w _ := below_all (o := .cells #[.int .i64 p, .int .i64 q, .int .i64 r, .slice ao l.length cp] 26) (Below.refl _ _)
  refine (CB0.out _ (HL.out.alloc _)).use ?_
  intro v3 w3 o3 b3
  have T3 := T1.below b3
  have G3 := below_any (Nat.le_refl _) G1 b3
  clear T1 G1 b3
  obtain ⟨a3, p3, rfl⟩ := (recs_own o3).form
  have hp3 := own_cap o3
  have f3 := fun i => Blk.frozen T3 i
  obtain ⟨z2, d0, d1, d2, d3⟩ := T3.c4
  go_wp2_with fail
  have T4 := (((T3.set 0 (.int .i64 p)).set 1 (.int .i64 q)).set 2 (.int .i64 r)).set 3 (.slice a3 m.length p3)
  have G4 := (((G3.setCell (p := ⟨w.heap.size, 0, none⟩) (Nat.le_refl _) (.int .i64 p)).setCell (p := ⟨w.heap.size, 1, none⟩) (Nat.le_refl _) (.int .i64 q)).setCell (p := ⟨w.heap.size, 2, none⟩) (Nat.le_refl _) (.int .i64 r)).setCell (p := ⟨w.heap.size, 3, none⟩) (Nat.le_refl _) (.slice a3 m.length p3)
  have o4 := recs_own (o3.kept (row := some (w.heap.size)) (grown_set (grown_set (grown_set (grown_set (grown_refl w3 _) 0 (.int .i64 p)) 1 (.int .i64 q)) 2 (.int .i64 r)) 3 (.slice a3 m.length p3)) (.inr (Ne.symm (own_ne o3 T3 (by decide)))))
  clear f3 z2 d0 d1 d2 d3 T3 G3 o3
  generalize (((w3.setCell ⟨w.heap.size, 0, none⟩ (.int .i64 p)).setCell ⟨w.heap.size, 1, none⟩ (.int .i64 q)).setCell ⟨w.heap.size, 2, none⟩ (.int .i64 r)).setCell ⟨w.heap.size, 3, none⟩ (.slice a3 m.length p3) = W4 at T4 G4 o4 ⊢
  have T4 : Blk W4 w.heap.size #[.int .i64 p, .int .i64 q, .int .i64 r, .slice a3 m.length p3] 26 := T4
  clear CB0 HL
  obtain ⟨k, hk⟩ : ∃ k, rall p q r m = k := ⟨_, rfl⟩
  have cA := all3_any p q r (.slice a3 m.length p3) m W4 o4 BM.out
  rw [hk] at cA
  have hml : m.length ≤ maxLen := BM.out.1
  unfold maxLen at hml
  by_cases h0 : k = 0
  · subst h0
    have hok := (rall_ok hk).2.2.2.2.2
    have h16 := (rall_ok hk).2.2.2.2.1
    have hne : m ≠ [] := (rall_ok hk).2.2.2.1
    have HOK := Lib.hid hok
    have cA : RetB Try.prog 17 _ W4 (.int .i64 0) := cA
    refine cA.use ?_
    intro w5 b5
    have T5 := T4.below b5
    have o5 := o4.below b5
    have G5 := below_any (Nat.le_refl _) G4 b5
    clear cA T4 o4 G4 b5 hok
    have hne2 : 0 < m.length := by cases m; exact absurd rfl hne; simp
    rcases o5 with ⟨h0, _⟩ | ⟨b, off, cap, hsl, _, hlt, hc⟩
    · exact absurd h0 hne
    simp only [Value.slice.injEq, true_and] at hsl
    obtain ⟨rfl, rfl⟩ := hsl
    have HC := Lib.hid hc
    have HK := Lib.hid hk
    clear hc hk hne BM
    obtain ⟨all, hall⟩ : ∃ t, rbytes m = t := ⟨_, rfl⟩
    have lall : all.length ≤ 40000 := by have := rbytes_le HOK.out; rw [hall] at this; omega
    have HALL := Lib.hid hall
    clear hall
    go_wp2_with fail
    go_loopw [5, 6, 7, 8] (fun (v5 v6 v7 v8 : Value) (W : World) => ∃ j : Nat, j ≤ m.length ∧ v5 = .string (S (rbytes (m.take j))) ∧ v6 = .int .i64 (j : Int) ∧ Below w5.heap.size w5 W) (fun (v5 v6 v7 v8 : Value) (W : World) => (m.length - intOf v6).toNat)
    case atStart => exact ⟨0, by omega, by simp [rbytes], rfl, Below.refl _ _⟩
    case round =>
      obtain ⟨j, hj, rfl, rfl, hnx⟩ := hrel
      obtain ⟨z2, d0, d1, d2, d3⟩ := (T5.below hnx).c4
      by_cases hjl : j < m.length
      · obtain ⟨c0, c1, c2, c3⟩ := (HC.out j hjl).keep fun i => hnx.cell (p := ⟨b, i, none⟩) hlt
        have hltr : b < wr.heap.size := Nat.lt_of_lt_of_le hlt hnx.size
        have hrk := HOK.out _ (List.getElem_mem hjl)
        have hss := rbytes_snoc hjl
        obtain ⟨rb1, rb2⟩ : RecBd m[j] := by obtain ⟨_, _, _, h1, h2⟩ := rcheck_ok hrk; exact ⟨by unfold maxLen; omega, by unfold maxLen; omega⟩
        have cZ := fun w => put3_eqn (hk := m[j].hk) (tb := m[j].tb) (x := m[j].text) (n := 0) (by unfold rput; rw [if_pos (show rcheck m[j].hk m[j].key m[j].tb m[j].val = 0 from hrk)]; rfl) rb1 rb2 w
        have hzl := rec_ok_text hrk
        have hnl : (rbytes (m.take j)).length ≤ 40000 := by
          have h1 := rbytes_le (l := m.take j) fun x hx => HOK.out x (List.mem_of_mem_take hx)
          have h2 : (m.take j).length ≤ 16 := by rw [List.length_take]; omega
          omega
        generalize m[j] = r0 at *
        generalize r0.text = z at *
        generalize rbytes (m.take j) = n at *
        have HS := Lib.hid hss
        clear hss rb1 rb2 hrk
        go_wp2_with (go_at_call 11; refine (cZ _).use ?_; intro w1 hb1)
        go_roundw
        case rel => exact ⟨j + 1, by omega, by rw [HS.out], by go_num, below_any (Nat.le_refl _) hnx hb1⟩
        case measure => simp [intOf]; omega
      · obtain rfl : j = m.length := by omega
        rw [List.take_length, HALL.out]
        go_wp2_with fail
        have hne : ∀ (r0 : Rec) w, _ = Result.ok (Value.bool false) w := fun r0 w => (neq_rec r0 r0 w).trans (by simp)
        go_loopw [9, 10, 11, 12, 13] (fun (v9 v10 v11 v12 v13 : Value) (W : World) => ∃ j : Nat, j ≤ m.length ∧ v9 = .int .i64 ((rbytes (m.take j)).length : Nat) ∧ v10 = .int .i64 (j : Int) ∧ Below w5.heap.size w5 W) (fun (v9 v10 v11 v12 v13 : Value) (W : World) => (m.length - intOf v10).toNat)
        case atStart => exact ⟨0, by omega, by simp [rbytes], rfl, hnx⟩
        case round =>
          obtain ⟨j, hj, rfl, rfl, hny⟩ := hrel
          have T6 := T5.below hny
          obtain ⟨z2, d0, d1, d2, d3⟩ := T6.c4
          by_cases hjl : j < m.length
          · have rc := (HC.out j hjl).keep fun i => hny.cell (p := ⟨b, i, none⟩) hlt
            have hltr : b < wr.heap.size := Nat.lt_of_lt_of_le hlt hny.size
            have hrk := HOK.out _ (List.getElem_mem hjl)
            have hgt := get_one hjl HOK.out
            rw [HALL.out] at hgt
            have hzl : 0 < (m[j].text).length := by
              unfold Rec.text rtext; split
              · simp
              · split <;> simp
            have hss := congrArg List.length (rbytes_snoc hjl)
            rw [List.length_append] at hss
            have hnl : (rbytes (m.take j)).length ≤ 40000 := by
              have h1 := rbytes_le (l := m.take j) fun x hx => HOK.out x (List.mem_of_mem_take hx)
              have h2 : (m.take j).length ≤ 16 := by rw [List.length_take]; omega
              omega
            generalize m[j] = r0 at *
            generalize r0.text = z at *
            generalize hn2 : (rbytes (m.take (j + 1))).length = n2 at *
            generalize (rbytes (m.take j)).length = n at *
            have cG := fun w => get3_eqn hgt (by unfold maxLen; omega) w
            have HG := Lib.hid cG
            have RC := Lib.hid rc
            have HN := Lib.hid hn2
            have hle : decide ((n2 : Int) ≤ (n : Int)) = false := decide_eq_false (by omega)
            have hle2 : (n2 ≤ n) = False := eq_false (by omega)
            have hne0 := hne r0
            clear hgt cG rc hn2 hrk hss hne
            go_wp2_with fail
            refine (HG.out _).use ?_
            intro w7 b7
            have hnz := below_any (Nat.le_refl _) hny b7
            have T7 := (T5.below hnz)
            obtain ⟨z2', d0', d1', d2', d3'⟩ := T7.c4
            obtain ⟨c0, c1, c2, c3⟩ := RC.out.keep fun i => b7.cell (p := ⟨b, i, none⟩) hltr
            have hltq : b < w7.heap.size := Nat.lt_of_lt_of_le hlt hnz.size
            have B8 := Blk.new w7 #[.bool r0.hk, .string (S r0.key), .bool r0.tb, .string (S r0.val)] 23
            have hb8 := below_all (o := .cells #[.bool r0.hk, .string (S r0.key), .bool r0.tb, .string (S r0.val)] 23) hnz
            clear z2 d0 d1 d2 d3 T6 HG
            go_wp2_with fail
            obtain ⟨z9, e0, e1, e2, e3⟩ := B8.c4
            obtain ⟨z8, g0, g1, g2, g3⟩ := (T7.alloc (.cells #[.bool r0.hk, .string (S r0.key), .bool r0.tb, .string (S r0.val)] 23)).c4
            obtain ⟨k0, k1, k2, k3⟩ := RC.out.keep fun i => (below_all (o := .cells #[.bool r0.hk, .string (S r0.key), .bool r0.tb, .string (S r0.val)] 23) b7).cell (p := ⟨b, i, none⟩) hltr
            clear c0 c1 c2 c3 d0' d1' d2' d3' B8 RC
            generalize w7.alloc (.cells #[.bool r0.hk, .string (S r0.key), .bool r0.tb, .string (S r0.val)] 23) = w8 at *
            have i1 : (0 : Int) ≤ (j : Int) := by omega
            have i2 : (j : Int) < (m.length : Int) := by omega
            go_region_held3 (fun w' => w'.cell? ⟨w7.heap.size, 0, none⟩ = some (.bool r0.hk) ∧ w'.cell? ⟨w7.heap.size, 1, none⟩ = some (.string (S r0.key)) ∧ w'.cell? ⟨w7.heap.size, 2, none⟩ = some (.bool r0.tb) ∧ w'.cell? ⟨w7.heap.size, 3, none⟩ = some (.string (S r0.val)) ∧ w'.cell? ⟨w.heap.size, 3, none⟩ = some (.slice (some ⟨b, off, none⟩) m.length p3) ∧ w'.cell? ⟨b, off + j * 4, none⟩ = some (.bool r0.hk) ∧ w'.cell? ⟨b, off + j * 4 + 1, none⟩ = some (.string (S r0.key)) ∧ w'.cell? ⟨b, off + j * 4 + 2, none⟩ = some (.bool r0.tb) ∧ w'.cell? ⟨b, off + j * 4 + 3, none⟩ = some (.string (S r0.val))) (go_keep) (fail)
            go_wp2_with fail
            go_roundw
            case rel => exact ⟨j + 1, by omega, by rw [HN.out], by go_num, hb8.drew⟩
            case measure => simp [intOf]; omega
          · obtain rfl : j = m.length := by omega
            rw [List.take_length, HALL.out]
            have hb : bits .and .i64 i 65535 = _ := and_low i 65535 16 rfl (by omega)
            obtain ⟨n, hn, hnl⟩ : ∃ n : Nat, (bits .and .i64 i 65535).tmod (m.length : Int) = n ∧ n < m.length := ⟨(BitVec.ofInt 64 i).toNat % 2 ^ 16 % m.length, by rw [hb]; rfl, Nat.mod_lt _ (by omega)⟩
            have i1 : (0 : Int) ≤ (n : Int) := by omega
            have i2 : (n : Int) ≤ (m.length : Int) := by omega
            have i3 : (n : Int) ≤ (p3 : Int) := by omega
            have i4 : (p3 = 0) = False := eq_false (by omega)
            have i5 : IntKind.i64.wrap ((n : Int) + 1) = (n : Int) + 1 := by rw [IntKind.wrap_i64]; omega
            obtain ⟨i0, hi0, hz0, hz1, hz2⟩ := info_parts recInfo
            have hltr : b < wr.heap.size := Nat.lt_of_lt_of_le hlt hny.size
            have n1 : ∀ i, (h : i < (m.take n).length) → RecAt (wr.alloc (.cells #[] 23)) b (off + i * 4) (m.take n)[i] := fun i h => by
              rw [List.getElem_take]
              exact (HC.out i (by rw [List.length_take] at h; omega)).keep fun k => (below_all (o := .cells #[] 23) hny).cell (p := ⟨b, k, none⟩) hlt
            have N1 := Lib.hid n1
            have o0 : (wr.alloc (.cells #[] 23)).ownsRow w5.heap.size 23 4 (.slice (some ⟨wr.heap.size, 0, none⟩) 0 0) 0 [] := World.ownsRow_made wr #[] 0 hny.size (by omega) rfl
            have lt1 : ((m.take n).flatMap Rec.cells).length = n * 4 := by rw [cells_len, List.length_take, Nat.min_eq_left (by omega)]
            clear hb n1
            go_wp2_with (at_builtin; refine wpList_append_own _ rfl _ _ 24 rfl w5.heap.size 23 i0 _ 4 48 Try.underlying24 hi0 hz0 hz1 hz2 rfl (by decide) _ _ _ rfl o0 ⟨b, off, none⟩ n p3 ((m.take n).flatMap Rec.cells) rfl lt1 ?c1 (cells_one _) (by unfold maxLen; omega) (by omega) (by have := hny.size; simp; omega) ?_)
            case c1 => exact news_at N1.out
            intro v10 w10 o10 g10 z10
            obtain ⟨g, cap, rfl, hBg, hglt⟩ := own_cases o10 (by simpa using z10)
            have hn10 := below_own (below_all (o := .cells #[] 23) hny) hny.size (by have := hny.size; simp; omega) g10
            obtain ⟨z2', d0', d1', d2', d3'⟩ := (T5.below hn10).c4
            have n2 : ∀ i, (h : i < (m.drop (n + 1)).length) → RecAt w10 b (off + (n + 1) * 4 + i * 4) (m.drop (n + 1))[i] := fun i h => by
              rw [List.getElem_drop, show off + (n + 1) * 4 + i * 4 = off + (n + 1 + i) * 4 by omega]
              exact (HC.out (n + 1 + i) (by rw [List.length_drop] at h; omega)).keep fun k => hn10.cell (p := ⟨b, k, none⟩) hlt
            have N2 := Lib.hid n2
            have lt2 : ((m.drop (n + 1)).flatMap Rec.cells).length = (m.length - (n + 1)) * 4 := by rw [cells_len, List.length_drop]
            have i6 : (0 : Int) ≤ (n : Int) + 1 := by omega
            have i7 : (n : Int) + 1 ≤ (m.length : Int) := by omega
            have O10 := Lib.hid o10
            clear n2 o0 o10 g10 z10 d0 d1 d2 d3 N1
            obtain ⟨M, hM⟩ : ∃ M, m.take n ++ m.drop (n + 1) = M := ⟨_, rfl⟩
            obtain ⟨cnt, hcn⟩ : ∃ c, n + (m.length - (n + 1)) = c := ⟨_, rfl⟩
            have hML : M.length = cnt := by rw [← hM, List.length_append, List.length_take, List.length_drop]; omega
            have hMF : (m.take n).flatMap Rec.cells ++ (m.drop (n + 1)).flatMap Rec.cells = M.flatMap Rec.cells := by rw [← hM, List.flatMap_append]
            have hMR := less_ok HK.out hnl
            rw [hM, show m.length - 1 = cnt by omega] at hMR
            have bM : RecsBd M := by
              refine ⟨by unfold maxLen; omega, fun r hr => ?_⟩
              have hr2 : r ∈ m := by
                rw [← hM] at hr
                rcases List.mem_append.1 hr with hr | hr
                · exact List.mem_of_mem_take hr
                · exact List.mem_of_mem_drop hr
              obtain ⟨_, _, _, h1, h2⟩ := rcheck_ok (HOK.out r hr2)
              exact ⟨by unfold maxLen; omega, by unfold maxLen; omega⟩
            have HMR := Lib.hid hMR
            have HCN := Lib.hid hcn
            have HML := Lib.hid hML
            have HMF := Lib.hid hMF
            have BM2 := Lib.hid bM
            clear hM hMR hcn hML hMF bM
            have fin : ∀ v' w', w'.ownsRow w5.heap.size 23 4 v' (n + (m.length - (n + 1))) (List.flatMap Rec.cells (List.take n m) ++ List.flatMap Rec.cells (List.drop (n + 1) m)) → w10.grownBy w' (Value.slice (some { block := g, off := 0 }) n cap).ownBlock → RecsIn w' v' M ∧ Below w5.heap.size w5 w' ∧ ∃ a c, v' = .slice a cnt c := fun v' w' ho hg => by
              rw [HMF.out, HCN.out, ← HML.out] at ho
              have h1 := recs_own ho
              refine ⟨h1, below_own hn10 hBg hn10.size hg, ?_⟩
              obtain ⟨a, c, h⟩ := h1.form
              exact ⟨a, c, by rw [h, HML.out]⟩
            rcases Nat.lt_or_eq_of_le (show n + 1 ≤ p3 by omega) with hpc | hpc
            · have hpe : (p3 = n + 1) = False := eq_false (by omega)
              go_wp2_with (at_builtin; refine wpList_append_own _ rfl _ _ 24 rfl w5.heap.size 23 i0 _ 4 48 Try.underlying24 hi0 hz0 hz1 hz2 rfl (by decide) _ _ _ rfl O10.out _ (m.length - (n + 1)) _ ((m.drop (n + 1)).flatMap Rec.cells) rfl lt2 ?c1 (cells_one _) (by unfold maxLen; omega) (by omega) (by have := hn10.size; omega) ?_)
              case c1 => exact news_at N2.out
              intro v' w' ho hg _
              obtain ⟨hr11, hn11, a11, c11, rfl⟩ := fin v' w' ho hg
              clear ho hg fin d0' d1' d2' d3'
              have T11 := T5.below hn11
              obtain ⟨z2', d0', d1', d2', d3'⟩ := T11.c4
              have f11 := fun i => Blk.frozen (Blk.new w' #[.int .i64 p, .int .i64 q, .int .i64 r, .slice (some ⟨b, off, none⟩) m.length p3] 26) i
              have G12 := below_all (o := .cells #[.int .i64 p, .int .i64 q, .int .i64 r, .slice a11 cnt c11] 26) hn11
              have cL := all3_any p q r (.slice a11 cnt c11) M _ (hr11.alloc (.cells #[.int .i64 p, .int .i64 q, .int .i64 r, .slice a11 cnt c11] 26)) BM2.out
              rw [HMR.out] at cL
              have hcw : ∀ x : Nat, (if cnt = 0 then 30 else 0) = x → RetB Try.prog 17 #[.agg #[.int .i64 p, .int .i64 q, .int .i64 r, .slice a11 cnt c11]] (w'.alloc (.cells #[.int .i64 p, .int .i64 q, .int .i64 r, .slice a11 cnt c11] 26)) (.int .i64 (x : Int)) := fun x hx => hx ▸ cL
              clear cL hr11 hn11
              by_cases hc0 : cnt = 0
              · subst hc0
                have cL : RetB Try.prog 17 _ _ (.int .i64 30) := hcw 30 rfl
                have CL := Lib.hid cL
                clear hcw cL
                go_wp2_with fail
                refine CL.out.use ?_
                intro w13 b13
                have G13 := below_any (Nat.le_refl _) G12 b13
                go_wp2_with fail
                refine (fixed3 _).use ?_
                intro w14 b14
                go_wp2_with fail
                exact finB hR (below_any (Nat.le_refl _) G5 (below_any (Nat.le_refl _) G13 b14)) rfl
              · have cL : RetB Try.prog 17 _ _ (.int .i64 0) := hcw 0 (if_neg hc0)
                have CL := Lib.hid cL
                have cz1 : (cnt == 0) = false := by simpa using hc0
                have cz2 : ((cnt : Int) == 0) = false := by simp; omega
                clear hcw cL
                go_wp2_with fail
                refine CL.out.use ?_
                intro w13 b13
                have G13 := below_any (Nat.le_refl _) G12 b13
                go_wp2_with fail
                refine (fixed3 _).use ?_
                intro w14 b14
                go_wp2_with fail
                exact finB hR (below_any (Nat.le_refl _) G5 (below_any (Nat.le_refl _) G13 b14)) rfl
            · have hpc2 : (m.length : Int) ≤ (n : Int) + 1 := by omega
              have hpd := Lib.hid (show m.length - (n + 1) = 0 by omega)
              have hpe := Lib.hid (show m.drop (n + 1) = [] from List.drop_eq_nil_of_le (by omega))
              have hpc4 : (n : Int) + 1 ≤ (n : Int) + 1 := by omega
              subst hpc
              go_wp2_with (at_builtin; refine wpList_append_own _ rfl _ _ 24 rfl w5.heap.size 23 i0 _ 4 48 Try.underlying24 hi0 hz0 hz1 hz2 rfl (by decide) _ _ _ rfl O10.out _ 0 _ [] rfl rfl (fun j u hj => by simp at hj) (fun u hu => by simp at hu) (by unfold maxLen; omega) (by omega) (by have := hn10.size; omega) ?_)
              intro v' w' ho hg _
              obtain ⟨hr11, hn11, a11, c11, rfl⟩ := fin v' w' (by rw [hpd.out, hpe.out]; simpa using ho) hg
              clear ho hg fin d0' d1' d2' d3'
              have T11 := T5.below hn11
              obtain ⟨z2', d0', d1', d2', d3'⟩ := T11.c4
              have f11 := fun i => Blk.frozen (Blk.new w' #[.int .i64 p, .int .i64 q, .int .i64 r, .slice (some ⟨b, off, none⟩) m.length (n + 1)] 26) i
              have G12 := below_all (o := .cells #[.int .i64 p, .int .i64 q, .int .i64 r, .slice a11 cnt c11] 26) hn11
              have cL := all3_any p q r (.slice a11 cnt c11) M _ (hr11.alloc (.cells #[.int .i64 p, .int .i64 q, .int .i64 r, .slice a11 cnt c11] 26)) BM2.out
              rw [HMR.out] at cL
              have hcw : ∀ x : Nat, (if cnt = 0 then 30 else 0) = x → RetB Try.prog 17 #[.agg #[.int .i64 p, .int .i64 q, .int .i64 r, .slice a11 cnt c11]] (w'.alloc (.cells #[.int .i64 p, .int .i64 q, .int .i64 r, .slice a11 cnt c11] 26)) (.int .i64 (x : Int)) := fun x hx => hx ▸ cL
              clear cL hr11 hn11
              by_cases hc0 : cnt = 0
              · subst hc0
                have cL : RetB Try.prog 17 _ _ (.int .i64 30) := hcw 30 rfl
                have CL := Lib.hid cL
                clear hcw cL
                go_wp2_with fail
                refine CL.out.use ?_
                intro w13 b13
                have G13 := below_any (Nat.le_refl _) G12 b13
                go_wp2_with fail
                refine (fixed3 _).use ?_
                intro w14 b14
                go_wp2_with fail
                exact finB hR (below_any (Nat.le_refl _) G5 (below_any (Nat.le_refl _) G13 b14)) rfl
              · have cL : RetB Try.prog 17 _ _ (.int .i64 0) := hcw 0 (if_neg hc0)
                have CL := Lib.hid cL
                have cz1 : (cnt == 0) = false := by simpa using hc0
                have cz2 : ((cnt : Int) == 0) = false := by simp; omega
                clear hcw cL
                go_wp2_with fail
                refine CL.out.use ?_
                intro w13 b13
                have G13 := below_any (Nat.le_refl _) G12 b13
                go_wp2_with fail
                refine (fixed3 _).use ?_
                intro w14 b14
                go_wp2_with fail
                exact finB hR (below_any (Nat.le_refl _) G5 (below_any (Nat.le_refl _) G13 b14)) rfl
  · refine cA.use ?_
    intro w5 b5
    have hk2 : ((k : Int) != 0) = true := by simp; omega
    have GG := below_any (Nat.le_refl _) G4 b5
    go_wp2_with fail
    refine (fixed3 _).use ?_
    intro w7 b7
    go_wp2_with fail
    exact finB hR (below_any (Nat.le_refl _) GG b7) rfl
end Go.Proofs.Ytikcpfoehapndaa.recordOne
