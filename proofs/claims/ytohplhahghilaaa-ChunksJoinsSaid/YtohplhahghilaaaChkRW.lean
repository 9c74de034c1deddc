import Derived.Test.YtohplhahghilaaaChkRB
import Derived.Test.YtohplhahghilaaaChkRK
import Derived.Test.YtohplhahghilaaaChkDig
/-
  Layer 7, the document's gatherer: the whole: the contract.
-/
set_option linter.unusedVariables false
set_option linter.unusedSimpArgs false
namespace Go.Proofs.Ytohplhahghilaaa
open Go.RowKit
attribute [local go_sem] ByteArray.extract_mk ByteArray.mk_append_mk

/-- What is left when the whole was asked for. -/
def rleft (d N : Nat) (l : List Chk) : List Chk := if (jwhole d N (pairs l)).2.2 = [] then [] else l
theorem pairs_nil {l : List Chk} : pairs l = [] ↔ l = [] := by unfold pairs; exact List.map_eq_nil_iff
theorem JI.left {n : Int} {L : List (Int × List UInt8)} {l : List Chk} (h : JI n L l) (d N : Nat) : JI n (jwhole d N L).2.2 (rleft d N l) := by
  unfold rleft
  rw [← h.eq]
  by_cases h0 : (jwhole d N L).2.2 = []
  · rw [if_pos h0, h0]; exact JI.nil n
  · rw [if_neg h0]
    have : (jwhole d N L).2.2 = L := by
      unfold jwhole at h0 ⊢
      split
      · rfl
      · rename_i h1
        rw [if_neg h1] at h0
        split
        · rfl
        · rename_i h2
          rw [if_neg h2] at h0
          exact absurd rfl h0
    rw [this]
    exact h

set_option maxHeartbeats 4000000 in
set_option maxRecDepth 100000 in
theorem rwhole7_none (B q d N : Nat) (v : Value) (w : World) (h : RJ B w q d v []) :
    RKCall 34 #[.pointer (some ⟨q, 0, none⟩)] B w q d v (.tuple #[.string (S []), .bool false]) [] := by
  refine RKCall.intro fun R hR => ?_
  have H := Lib.hid h
  obtain ⟨va, vc, rfl⟩ := own_form h.2
  obtain ⟨k0, y0, y1⟩ := h.1.c2
  clear h
  go_enter Try.func34, Try.ntmps34
  go_wp2_with fail
  exact hR.out _ _ H.out (Kept.ofBelow (Below.refl _ _) _) (fun b hb => .inl hb)
set_option maxHeartbeats 4000000 in
set_option maxRecDepth 100000 in
theorem rwhole7_less (B q d N : Nat) (v : Value) (l : List Chk) (w : World) (h : RJ B w q d v l) (hl : l.length ≤ 100000) (hN : ∀ c ∈ l, c.n = N) (h0 : l ≠ []) (hN2 : N ≤ 5000) (hm : 0 < (jmiss (pairs l) N).length) :
    RKCall 34 #[.pointer (some ⟨q, 0, none⟩)] B w q d v (.tuple #[.string (S []), .bool false]) l := by
  refine RKCall.intro fun R hR => ?_
  have cM := Lib.hid (rmissing7 q d N v l w h.1 (chks_own h.2) hl hN h0 (by omega))
  have H := Lib.hid h
  obtain ⟨va, vc, rfl⟩ := own_form h.2
  obtain ⟨k0, y0, y1⟩ := h.1.c2
  have hpos : 0 < l.length := List.length_pos_iff.2 h0
  have q1 : ((l.length : Int) == 0) = false := by simp; omega
  have q2 : ((l.length : Int) = 0) = False := eq_false (by omega)
  obtain ⟨X, hX⟩ : ∃ X, jmiss (pairs l) N = X := ⟨_, rfl⟩
  rw [hX] at cM hm
  have q3 : ((0 : Int) < (X.length : Int)) = True := eq_true (by omega)
  have q4 : (0 < X.length) = True := eq_true hm
  clear h h0 hN hX hm
  go_enter Try.func34, Try.ntmps34
  go_wp2_with fail
  refine cM.out.use ?_
  intro vm w1 o1 b1
  obtain ⟨ma, mc, rfl⟩ := own_form o1
  clear o1 y0 y1 cM
  go_wp2_with fail
  exact hR.out _ _ (H.out.below b1) (Kept.ofBelow b1 _) (fun b hb => .inl hb)

set_option maxHeartbeats 8000000 in
set_option maxRecDepth 100000 in
theorem rwhole7_full (B q d N : Nat) (v : Value) (l : List Chk) (w : World) (h : RJ B w q d v l) (hl : l.length ≤ 100000) (hN : ∀ c ∈ l, c.n = N) (h0 : l ≠ []) (hN2 : N ≤ 5000) (hm : jmiss (pairs l) N = []) (hb : ∀ p ∈ pairs l, p.2.length ≤ 4096) :
    RKCall 34 #[.pointer (some ⟨q, 0, none⟩)] B w q d v (if digest (jtext (pairs l) N) = d then .tuple #[.string (S (jtext (pairs l) N)), .bool true] else .tuple #[.string (S []), .bool false]) (if digest (jtext (pairs l) N) = d then l else []) := by
  refine RKCall.intro fun R hR => ?_
  have cM := Lib.hid (rmissing7 q d N v l w h.1 (chks_own h.2) hl hN h0 (by omega))
  have CB := Lib.hid (fun k W hq hv => rbody7 q d v l k W hq hv hl)
  have CD := Lib.hid (fun W => rdigest7 (jtext (pairs l) N) W (by have := jtext_len hb N; omega))
  obtain ⟨dg, hdg⟩ : ∃ x, digest (jtext (pairs l) N) = x := ⟨_, rfl⟩
  rw [hdg] at CD hR
  have H := Lib.hid h
  have HB := Lib.hid hb
  have hpos : 0 < l.length := List.length_pos_iff.2 h0
  have HNN := Lib.hid (hN _ (List.getElem_mem hpos))
  obtain ⟨va, vc, rfl⟩ := own_form h.2
  obtain ⟨k0, y0, y1⟩ := h.1.c2
  have q1 : ((l.length : Int) == 0) = false := by simp; omega
  have q2 : ((l.length : Int) = 0) = False := eq_false (by omega)
  rw [hm] at cM
  clear h h0 hN hm hb hdg
  go_enter Try.func34, Try.ntmps34
  go_wp2_with fail
  refine cM.out.use ?_
  intro vm w1 o1 b1
  obtain ⟨ma, mc, rfl⟩ := own_form o1
  have H1 := Lib.hid (H.out.below b1)
  have K1 := Lib.hid b1
  clear o1 y0 y1 cM H b1 k0
  go_wp2_with fail
  go_loop [4, 5, 6, 7] (fun (v4 v5 v6 v7 : Value) => ∃ k : Nat, k ≤ N ∧ v5 = .int .i64 (k : Int) ∧ v4 = .string (S (jtext (pairs l) k))) (fun (v4 v5 v6 v7 : Value) => (N - intOf v5).toNat)
  case atStart => exact ⟨0, by omega, rfl, rfl⟩
  case round =>
    obtain ⟨k, hk, rfl, rfl⟩ := hrel
    obtain ⟨k0, y0, y1⟩ := H1.out.1.c2
    rcases chks_own H1.out.2 with ⟨h, _⟩ | ⟨b, off, cap', hsl, hcap, hne, hlt, hc⟩
    · rw [h] at hpos; simp at hpos
    simp only [Value.slice.injEq, true_and] at hsl
    obtain ⟨rfl, rfl⟩ := hsl
    obtain ⟨_, x1, _, _⟩ := hc 0 hpos
    rw [HNN.out] at x1
    simp only [Nat.zero_mul, Nat.add_zero] at x1
    clear hc
    by_cases hkn : k < N
    · have hkn2 : (k : Int) < (N : Int) := by omega
      have cB := Lib.hid (CB.out k w1 H1.out.1 (chks_own H1.out.2))
      have hst := Lib.hid (jtext_step (pairs l) k)
      have hl1 := jtext_len HB.out k
      have hl2 := mfind_bd HB.out (k : Int)
      generalize jtext (pairs l) k = tk at *
      generalize (mfind (pairs l) (k : Int)).getD [] = tx at *
      generalize (mfind (pairs l) (k : Int)).isSome = bx at *
      have g1 : ¬ 9223372036854775807 < tk.length + tx.length := by omega
      go_wp2_with fail
      refine cB.out.use ?_
      go_wp2_with fail
      go_round
      case rel => exact ⟨k + 1, by omega, by go_num, by rw [hst.out]; first | done | simp [S]⟩
      case measure => first | (simp [intOf]; done) | (simp [intOf]; omega)
    · obtain rfl : k = N := by omega
      have hkn2 : ¬ (k : Int) < (k : Int) := by omega
      have P0 : Below w1.heap.size w1 w1.drew := (Below.refl _ _).drew
      have BQ := H1.out.1
      have hql := k0
      by_cases hd : dg = d
      · subst hd
        have q6 : ((dg : Int) != (dg : Int)) = false := by simp
        go_wp2_with fail
        go_region_held3 (fun w' => w'.cell? ⟨q, 0, none⟩ = some (.int .u64 (dg : Nat)) ∧ w'.cell? ⟨q, 1, none⟩ = some (.slice (some ⟨b, off, none⟩) l.length vc)) (go_keep) ((go_at_call 17; refine (CD.out _).use ?_; intro w5 hb5; have P := below_any (Nat.le_refl _) (by assumption) hb5; obtain ⟨_, z0, z1⟩ := (BQ.below P).c2))
        all_goals go_wp2_with fail
        all_goals (simp only [if_true] at hR; exact hR.out _ _ (H1.out.below P) (Kept.ofBelow (below_any (Nat.le_refl _) K1.out P) _) (fun b hb => .inl hb))
      · have q6 : ((dg : Int) != (d : Int)) = true := by simp; omega
        go_wp2_with fail
        go_region_held3 (fun w' => w'.cell? ⟨q, 0, none⟩ = some (.int .u64 (d : Nat)) ∧ w'.cell? ⟨q, 1, none⟩ = some (.slice (some ⟨b, off, none⟩) l.length vc)) (go_keep) ((go_at_call 17; refine (CD.out _).use ?_; intro w5 hb5; have P := below_any (Nat.le_refl _) (by assumption) hb5; obtain ⟨_, z0, z1⟩ := (BQ.below P).c2; have fz := fun i => Blk.frozen (BQ.below P) i))
        all_goals go_wp2_with fail
        all_goals ((first | (rw [if_neg hd, if_neg hd] at hR) | (simp only [if_false] at hR) | (simp only [hd, if_false] at hR)); exact hR.out _ _ ⟨(BQ.below P).set 1 _, World.ownsRow_nil _ _ _ _⟩ ((Kept.ofBelow (below_any (Nat.le_refl _) K1.out P) _).trans (Kept.ofGrown (grown_set (grown_refl w5 (some q)) 1 _)) (fun x hx => .inl (by simp at hx; simp [hx]))) (fun b hb => by simp [Value.ownBlock] at hb))
theorem rwhole7 (B q d N : Nat) (v : Value) (n : Int) (l : List Chk) (w : World) (h : RJ B w q d v l) (hl : l.length ≤ 100000) (hj : JI n (pairs l) l) (hN : l = [] ∨ n = N) (hN2 : N ≤ 5000) :
    RKCall 34 #[.pointer (some ⟨q, 0, none⟩)] B w q d v (.tuple #[.string (S (jwhole d N (pairs l)).1), .bool (jwhole d N (pairs l)).2.1]) (rleft d N l) := by
  have hc := hj.count N hN
  by_cases h0 : l = []
  · subst h0
    have e1 : jwhole d N (pairs []) = ([], false, []) := by unfold jwhole; rw [if_pos (.inl rfl)]; rfl
    have e2 : rleft d N [] = [] := by unfold rleft; split <;> rfl
    rw [e1, e2]
    exact rwhole7_none B q d N v w h
  · have hns : ∀ c ∈ l, c.n = N := fun c hc => (hj.ns c hc).1.trans (hN.resolve_left h0)
    have hp0 : pairs l ≠ [] := fun e => h0 (pairs_nil.1 e)
    by_cases hm : jmiss (pairs l) N = []
    · have hlt : ¬ (pairs l).length < N := by rw [hm] at hc; simp at hc; omega
      have := rwhole7_full B q d N v l w h hl hns h0 hN2 hm hj.bod
      by_cases hd : digest (jtext (pairs l) N) = d
      · rw [if_pos hd, if_pos hd] at this
        have e1 : jwhole d N (pairs l) = (jtext (pairs l) N, true, pairs l) := by unfold jwhole; rw [if_neg (by simp [hp0, hlt]), if_pos hd]
        have e2 : rleft d N l = l := by unfold rleft; rw [e1, if_neg hp0]
        rw [e1, e2]
        exact this
      · rw [if_neg hd, if_neg hd] at this
        have e1 : jwhole d N (pairs l) = ([], false, []) := by unfold jwhole; rw [if_neg (by simp [hp0, hlt]), if_neg hd]
        have e2 : rleft d N l = [] := by unfold rleft; rw [e1, if_pos rfl]
        rw [e1, e2]
        exact this
    · have hpos : 0 < (jmiss (pairs l) N).length := List.length_pos_iff.2 hm
      have hlt : (pairs l).length < N := by omega
      have e1 : jwhole d N (pairs l) = ([], false, pairs l) := by unfold jwhole; rw [if_pos (.inr hlt)]
      have e2 : rleft d N l = l := by unfold rleft; rw [e1, if_neg hp0]
      rw [e1, e2]
      exact rwhole7_less B q d N v l w h hl hns h0 hN2 hpos
end Go.Proofs.Ytohplhahghilaaa
