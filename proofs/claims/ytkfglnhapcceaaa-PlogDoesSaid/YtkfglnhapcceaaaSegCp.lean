import Derived.Test.YtkfglnhapcceaaaSeg1
/-
  Layer 5: a copy of a segment.
-/
set_option linter.unusedVariables false
set_option linter.unusedSimpArgs false
namespace Go.Proofs.Ytkfglnhapcceaaa
open Go.RowKit
attribute [local go_sem] ByteArray.extract_mk ByteArray.mk_append_mk

set_option maxHeartbeats 4000000 in
/-- A copy: a segment of its own. -/
theorem copy5 (p : Nat) (bs : List Nat) (base next : Int) (l : List Fnd) (w : World) (h : SegAt w p bs base next l) (hl : l.length ≤ 100000) :
    Calls Try.prog 55 #[.pointer (some ⟨p, 0, none⟩)] w fun x w' => ∃ q cs, x = .returned (.pointer (some ⟨q, 0, none⟩)) ∧ SegAt w' q cs base next l ∧ Below w.heap.size w w' ∧ ∀ x ∈ cs, w.heap.size ≤ x := by
  have HS := Lib.hid h
  have cC := Lib.hid (fun v w hv => clone5 v l w hv (by omega))
  have cN := Lib.hid (fun v w hv => cloneN5 v (idx l) w hv (by have := idx_len l; omega))
  obtain ⟨lv, iv, hp, hlo, hio, hbs⟩ := h
  have P0 : Below w.heap.size w w.drew := (Below.refl _ _).drew
  have HL := Lib.hid (fnds_own hlo)
  have HI := Lib.hid (nums_own hio)
  have HP := Lib.hid hp
  obtain ⟨la, lc, rfl⟩ := own_form hlo
  obtain ⟨ia, ic, rfl⟩ := own_form hio
  obtain ⟨k0, c0, c1, c2, c3⟩ := hp.c4
  clear hp hlo hio hbs HS
  go_enter Try.func55, Try.ntmps55
  go_wp2_with fail
  go_region_held3 (fun w' => w'.cell? ⟨p, 0, none⟩ = some (.int .i64 base) ∧ w'.cell? ⟨p, 1, none⟩ = some (.int .i64 next) ∧ w'.cell? ⟨p, 2, none⟩ = some (.slice la l.length lc) ∧ w'.cell? ⟨p, 3, none⟩ = some (.slice ia (idx l).length ic)) (go_keep) (first | (go_at_call 64; refine (cC.out _ _ (HL.out.below (by assumption))).use ?_; intro v1 W O1 hb; have P := below_any (Nat.le_refl _) (by assumption) hb; obtain ⟨_, xx0, xx1, xx2, xx3⟩ := (HP.out.below P).c4; obtain ⟨qa, qc, rfl⟩ := own_form O1; have P1 := P; have Q1 := Lib.hid O1) | (go_at_call 67; refine (cN.out _ _ (HI.out.below (by assumption))).use ?_; intro v2 W O2 hb; have P := below_any (Nat.le_refl _) (by assumption) hb; obtain ⟨_, xx0, xx1, xx2, xx3⟩ := (HP.out.below P).c4; obtain ⟨ra, rc, rfl⟩ := own_form O2; have hb2 := hb))
  all_goals go_wp2_with fail
  all_goals go_ret
  all_goals
    have o1 := own_keptBy Q1.out (Kept.ofBelow hb2 []) (away_nil _)
    have z1 := P1.size
    have z2 := P.size
    refine ⟨W.heap.size, _, rfl, ⟨_, _, Blk.new W _ _, World.ownsRow.alloc (own_base o1 (Nat.zero_le _)) _, World.ownsRow.alloc (own_base O2 (Nat.zero_le _)) _, rfl⟩, below_all P, fun x hx => ?_⟩
    simp only [List.mem_cons, List.mem_append, Option.mem_toList] at hx
    rcases hx with rfl | hx | hx
    · exact z2
    · exact (o1.lt x hx).1
    · have := (O2.lt x hx).1
      omega
end Go.Proofs.Ytkfglnhapcceaaa
