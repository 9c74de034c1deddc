import Derived.Test.YthiliodmbipikaaGreatReqG
import Derived.Test.YthiliodmbipikaaGreatReqF
import Derived.Test.YthiliodmbipikaaGreatReqH
/-
  Several texts in one: ReqI, ReqJ.
-/
set_option linter.unusedVariables false
set_option linter.unusedSimpArgs false
namespace Go.Proofs.YthiliodmbipikaaGreat
open Go.RowKit
attribute [local go_sem] ByteArray.extract_mk ByteArray.mk_append_mk

set_option maxHeartbeats 2000000 in
set_option maxRecDepth 100000 in
/-- String, of a builder that is the head of its block. -/
theorem string_k (T : TypeId) (B b : Nat) (l : List UInt8) (w : World) (h : Bld T B b l w) (h0 : l ≠ []) :
    Calls Tryz.prog 35 #[.pointer (some ⟨b, 0, none⟩)] w fun e w' => e = .returned (.string (S l)) ∧ Below B w w' := by
  have hAt : ∃ p, Lib.BuilderAtF T 5 B b p (Lib.byteCells l) w := by
    rcases h with h | h
    · exact ⟨_, h⟩
    · exact ⟨_, h⟩
  obtain ⟨p, hB, v, hbk, hown, hne⟩ := hAt
  have hl0 : l.length ≠ 0 := by simpa using h0
  rw [Lib.byteCells_length] at hown
  have hg' : ∃ g cap cur fz, v = .slice (some ⟨g, 0, none⟩) l.length cap ∧ B ≤ g ∧ w.heap[g]? = some (.cells cur 5 fz) ∧ fz.2 ≤ l.length * 1 ∧ l.length ≤ cap ∧ cap ≤ maxLen ∧ cur.size = cap * 1 ∧ cur.toList.take (l.length * 1) = Lib.byteCells l := by
    rcases hown.2 with ⟨_, hz⟩ | ⟨g, cap, cur, fz, hv, r⟩
    · exact absurd hz hl0
    · exact ⟨g, cap, cur, fz, hv, r⟩
  obtain ⟨g, cap, cur, fz, rfl, hbg, hg, hfz, hnc, hcm, hcs, htake⟩ := hg'
  have c1 : w.drew.cell? ⟨b, 1, none⟩ = some (.slice (some ⟨g, 0, none⟩) l.length cap) := by
    have : w.drew.heap[b]? = some (.cells #[p, .slice (some ⟨g, 0, none⟩) l.length cap] T (0, 0)) := hbk
    rw [Lib.cell_of_heap this]; rfl
  have hSD : (Builtin.unsafeSliceData_ #[86] 123 #[.slice (some ⟨g, 0, none⟩) l.length cap]).run Tryz.prog w.drew = .ok (.pointer (some ⟨g, 0, none⟩)) w.drew :=
    Lib.run_unsafeSliceData_row _ _ _ _ _ _ (by omega)
  have hUS : (Builtin.unsafeString_ #[123, 3] 9 #[.pointer (some ⟨g, 0, none⟩), .int .i64 l.length]).run Tryz.prog w.drew = .ok (.string (S l)) (w.drew.freeze ⟨g, 0, none⟩ l.length) := by
    refine Lib.run_unsafeString_row w.drew 123 3 9 5 (by kernel_rfl) (by kernel_rfl) g cur.size (by have hg' : w.drew.heap[g]? = some (.cells cur 5 fz) := hg; simp [World.shape?, hg']) l h0 (by omega) (by unfold maxLen at hcm; omega) ?_
    intro j x hx
    have := hown.cells (g := g) rfl j (.int .u8 x.toNat) (by simp [Lib.byteCells, hx])
    exact this
  have hfin : Below B w (w.drew.freeze ⟨g, 0, none⟩ l.length) := Lib.below_freeze (Below.drew (Below.refl B w)) (p := ⟨g, 0, none⟩) hbg _
  generalize w.drew.freeze ⟨g, 0, none⟩ l.length = W at *
  clear h hown hg htake hbk
  have mixed : Tryz.prog.follows .mixedOrders = true := by kernel_rfl
  go_enter Tryz.func35, Tryz.ntmps35
  go_wp2
  go_region_o
  all_goals (go_wp2; go_ret; exact ⟨rfl, hfin⟩)

/-- What passes Check. -/
structure CmdOk (c : Cmd) : Prop where
  kind : 0 ≤ c.kind ∧ c.kind ≤ 12
  topic : c.topic.length ≤ 16
  group : c.group.length ≤ 16
  member : c.member.length ≤ 16
  pn : numB c.pn = true
  n : numB c.n = true
  off : numB c.off = true
  gen : numB c.gen = true
  batch : c.kind = 2 ∧ rall c.bp c.be c.bq c.recs = 0 ∨ c.bp = 0 ∧ c.be = 0 ∧ c.bq = 0 ∧ c.recs = []
  tops : c.tops.length ≤ 8 ∧ ∀ s ∈ c.tops, s.length ≤ 16
theorem isName_le {l : List UInt8} (h : isName l = true) : l.length ≤ 16 := by
  simp only [isName, Bool.and_eq_true, decide_eq_true_eq] at h; exact h.1.2
theorem namesOk_le {l : List (List UInt8)} (h : namesOk l = true) : l.length ≤ 8 ∧ ∀ s ∈ l, s.length ≤ 16 := by
  simp only [namesOk, Bool.and_eq_true, decide_eq_true_eq, List.all_eq_true] at h
  exact ⟨h.1.1.2, fun s hs => isName_le (h.1.2 s hs)⟩
set_option maxHeartbeats 4000000 in
theorem ccheck_ok {c : Cmd} (h : ccheck c = 0) : CmdOk c := by
  by_cases hk : c.kind < 0 ∨ 12 < c.kind
  · unfold ccheck at h; rw [if_pos hk] at h; simp at h
  · have hkk : 0 ≤ c.kind ∧ c.kind ≤ 12 := by omega
    unfold ccheck at h
    rw [if_neg hk] at h
    have h1 : ((hasF c.kind.toNat).any (fform c) || !decide (crest c = zcmd)) = false := by
      by_cases hx : ((hasF c.kind.toNat).any (fform c) || !decide (crest c = zcmd)) = true
      · rw [if_pos hx] at h; simp at h
      · simpa using hx
    rw [if_neg (by rw [h1]; simp)] at h
    have h2 : (hasF c.kind.toNat).any (fnum c) = false := by
      by_cases hx : (hasF c.kind.toNat).any (fnum c) = true
      · rw [if_pos hx] at h; simp at h
      · simpa using hx
    rw [if_neg (by rw [h2]; simp)] at h
    rw [Bool.or_eq_false_iff, Bool.not_eq_false', decide_eq_true_eq] at h1
    obtain ⟨h1, h3⟩ := h1
    obtain ⟨kind, topic, pn, n, off, bp, be, bq, recs, group, member, gen, robin, tops⟩ := c
    dsimp only at *
    have hkk' : kind = 0 ∨ kind = 1 ∨ kind = 2 ∨ kind = 3 ∨ kind = 4 ∨ kind = 5 ∨ kind = 6 ∨ kind = 7 ∨ kind = 8 ∨ kind = 9 ∨ kind = 10 ∨ kind = 11 ∨ kind = 12 := by omega
    have hn0 : numB 0 = true := by decide
    rcases hkk' with rfl | rfl | rfl | rfl | rfl | rfl | rfl | rfl | rfl | rfl | rfl | rfl | rfl
    all_goals
      simp [hasF, fform, fnum, fclr, crest, zcmd] at h1 h2 h3 h
      constructor
      all_goals (first | (dsimp only; omega) | (exact namesOk_le h1.2.2) | (simp_all [isName_le]; done))
end Go.Proofs.YthiliodmbipikaaGreat

set_option linter.unusedVariables false
set_option linter.unusedSimpArgs false
namespace Go.Proofs.YthiliodmbipikaaGreat
open Go.RowKit
attribute [local go_sem] ByteArray.extract_mk ByteArray.mk_append_mk

theorem numB_ex {n : Int} (h : numB n = true) : ∃ k : Nat, n = (k : Int) ∧ k ≤ 1099511627776 := by
  simp only [numB, Bool.and_eq_true, decide_eq_true_eq] at h
  exact ⟨n.toNat, by omega, by omega⟩
theorem rbatch_le (p e s : Int) (l : List Rec) : (rbatch p e s l).1.length ≤ 100000 := by
  unfold rbatch
  by_cases h : rall p e s l = 0
  · rw [if_pos h]
    have h16 : l.length ≤ 16 := by
      unfold rall at h
      split at h
      · simp at h
      · split at h
        · simp at h
        · split at h
          · simp at h
          · omega
    have hr : rchecks l = 0 := by
      unfold rall at h
      split at h
      · simp at h
      · split at h
        · simp at h
        · split at h
          · simp at h
          · exact h
    have h1 := rbytes_le (rchecks_ok.1 hr)
    have h2 := nbytes_le [p.toNat, e.toNat, s.toNat, l.length]
    rw [List.length_append]
    simp only [List.length_cons, List.length_nil] at h2
    omega
  · rw [if_neg h]; simp
theorem names_len {tops : List (List UInt8)} (h1 : tops.length ≤ 8) (h2 : ∀ s ∈ tops, s.length ≤ 16) : (vput tops.length ++ tops.flatMap vtxt).length ≤ 100000 := by
  have key : ∀ l : List (List UInt8), (∀ s ∈ l, s.length ≤ 16) → (l.flatMap vtxt).length ≤ 26 * l.length := by
    intro l
    induction l with
    | nil => intro _; simp
    | cons a l ih =>
      intro h
      have h3 := ih fun s hs => h s (by simp [hs])
      have h4 := vtxt_le a
      have h5 := h a (by simp)
      rw [List.flatMap_cons, List.length_append, List.length_cons]
      omega
  have := key tops h2
  have := vput_le tops.length
  rw [List.length_append]
  omega
theorem WCall.eq {f : FuncId} {args : Array Value} {w : World} {B p : Nat} {l l' : List UInt8} (h : WCall f args w B p l) (e : l = l') : WCall f args w B p l' := e ▸ h
set_option maxHeartbeats 4000000 in
set_option maxRecDepth 100000 in
theorem wr_visit (B p q : Nat) (c : Cmd) (rv tv : Value) (w : World) (ok : CmdOk c) (hp : Bld 90 B p (vput c.kind.toNat) w) (hBw : B ≤ w.heap.size) (hq : q < B) (hc : Blk w q (c.arr rv tv) 29)
    (hrv : Hid (∀ W, Below B w W → RecsIn W rv c.recs)) (hrb : RecsBd c.recs) (htv : Hid (∀ W, Below B w W → TopsIn W tv c.tops)) :
    WCall 13 #[.iface 84 (.pointer (some ⟨p, 0, none⟩)), .pointer (some ⟨q, 0, none⟩)] w B p (cmdText c) := by
  obtain ⟨hk, ht, hg, hm, hpn, hn, hoff, hgen, _, htp⟩ := ok
  have hvl := vput_le c.kind.toNat
  obtain ⟨kind, topic, pn, n, off, bp, be, bq, recs, group, mem, gen, robin, tops⟩ := c
  dsimp only [Cmd.arr] at *
  obtain ⟨pn, rfl, hpn⟩ := numB_ex hpn
  obtain ⟨n, rfl, hn⟩ := numB_ex hn
  obtain ⟨off, rfl, hoff⟩ := numB_ex hoff
  obtain ⟨gen, rfl, hgen⟩ := numB_ex hgen
  have hrl := rbatch_le bp be bq recs
  have hnl := names_len htp.1 htp.2
  have hto : ∀ s ∈ tops, s.length ≤ 1000000 := fun s hs => Nat.le_trans (htp.2 s hs) (by omega)
  have hkk : kind = 0 ∨ kind = 1 ∨ kind = 2 ∨ kind = 3 ∨ kind = 4 ∨ kind = 5 ∨ kind = 6 ∨ kind = 7 ∨ kind = 8 ∨ kind = 9 ∨ kind = 10 ∨ kind = 11 ∨ kind = 12 := by omega
  rcases hkk with rfl | rfl | rfl | rfl | rfl | rfl | rfl | rfl | rfl | rfl | rfl | rfl | rfl
  · exact (w_visit0 B p q _ topic group mem pn n off gen bp be bq robin rv tv recs tops w hp hBw hq hc (by omega) (by omega) (by omega) (by omega) (by omega) (by omega) (by omega) hrv hrb hrl htv hto hnl (by omega)).eq (by simp [cmdText, hasF, ftxt])
  · exact (w_visit1 B p q _ topic group mem pn n off gen bp be bq robin rv tv recs tops w hp hBw hq hc (by omega) (by omega) (by omega) (by omega) (by omega) (by omega) (by omega) hrv hrb hrl htv hto hnl (by omega)).eq (by simp [cmdText, hasF, ftxt])
  · exact (w_visit2 B p q _ topic group mem pn n off gen bp be bq robin rv tv recs tops w hp hBw hq hc (by omega) (by omega) (by omega) (by omega) (by omega) (by omega) (by omega) hrv hrb hrl htv hto hnl (by omega)).eq (by simp [cmdText, hasF, ftxt])
  · exact (w_visit3 B p q _ topic group mem pn n off gen bp be bq robin rv tv recs tops w hp hBw hq hc (by omega) (by omega) (by omega) (by omega) (by omega) (by omega) (by omega) hrv hrb hrl htv hto hnl (by omega)).eq (by simp [cmdText, hasF, ftxt])
  · exact (w_visit4 B p q _ topic group mem pn n off gen bp be bq robin rv tv recs tops w hp hBw hq hc (by omega) (by omega) (by omega) (by omega) (by omega) (by omega) (by omega) hrv hrb hrl htv hto hnl (by omega)).eq (by simp [cmdText, hasF, ftxt])
  · exact (w_visit5 B p q _ topic group mem pn n off gen bp be bq robin rv tv recs tops w hp hBw hq hc (by omega) (by omega) (by omega) (by omega) (by omega) (by omega) (by omega) hrv hrb hrl htv hto hnl (by omega)).eq (by simp [cmdText, hasF, ftxt])
  · exact (w_visit6 B p q _ topic group mem pn n off gen bp be bq robin rv tv recs tops w hp hBw hq hc (by omega) (by omega) (by omega) (by omega) (by omega) (by omega) (by omega) hrv hrb hrl htv hto hnl (by omega)).eq (by simp [cmdText, hasF, ftxt])
  · exact (w_visit7 B p q _ topic group mem pn n off gen bp be bq robin rv tv recs tops w hp hBw hq hc (by omega) (by omega) (by omega) (by omega) (by omega) (by omega) (by omega) hrv hrb hrl htv hto hnl (by omega)).eq (by simp [cmdText, hasF, ftxt])
  · exact (w_visit8 B p q _ topic group mem pn n off gen bp be bq robin rv tv recs tops w hp hBw hq hc (by omega) (by omega) (by omega) (by omega) (by omega) (by omega) (by omega) hrv hrb hrl htv hto hnl (by omega)).eq (by simp [cmdText, hasF, ftxt])
  · exact (w_visit9 B p q _ topic group mem pn n off gen bp be bq robin rv tv recs tops w hp hBw hq hc (by omega) (by omega) (by omega) (by omega) (by omega) (by omega) (by omega) hrv hrb hrl htv hto hnl (by omega)).eq (by simp [cmdText, hasF, ftxt])
  · exact (w_visit10 B p q _ topic group mem pn n off gen bp be bq robin rv tv recs tops w hp hBw hq hc (by omega) (by omega) (by omega) (by omega) (by omega) (by omega) (by omega) hrv hrb hrl htv hto hnl (by omega)).eq (by simp [cmdText, hasF, ftxt])
  · exact (w_visit11 B p q _ topic group mem pn n off gen bp be bq robin rv tv recs tops w hp hBw hq hc (by omega) (by omega) (by omega) (by omega) (by omega) (by omega) (by omega) hrv hrb hrl htv hto hnl (by omega)).eq (by simp [cmdText, hasF, ftxt])
  · exact (w_visit12 B p q _ topic group mem pn n off gen bp be bq robin rv tv recs tops w hp hBw hq hc (by omega) (by omega) (by omega) (by omega) (by omega) (by omega) (by omega) hrv hrb hrl htv hto hnl (by omega)).eq (by simp [cmdText, hasF, ftxt])
theorem cmdText_ne (c : Cmd) : cmdText c ≠ [] := by
  have := vput_pos c.kind.toNat
  intro h
  have h1 : (cmdText c).length = 0 := by rw [h]; rfl
  unfold cmdText at h1
  rw [List.length_append] at h1
  omega
set_option maxHeartbeats 4000000 in
set_option maxRecDepth 100000 in
theorem put4 (c : Cmd) (rv tv : Value) (w : World) (hi : CmdIn w c rv tv) (hb : CmdBd c) (h1 : ∀ b, rv.ownBlock = some b → b < w.heap.size) (h2 : ∀ b, tv.ownBlock = some b → b < w.heap.size) :
    RetB Tryz.prog 14 #[.agg (c.arr rv tv)] w (.tuple #[.string (S (cmdPut c).1), .int .i64 ((cmdPut c).2 : Nat)]) := by
  refine RetB.intro fun R hR => ?_
  have hB1 : Below w.heap.size w (w.alloc (.cells (c.arr rv tv) 29)) := below_all (Below.refl _ _)
  have hq0 := Blk.new w (c.arr rv tv) 29
  have cC := Lib.hid (check4 c rv tv _ (hi.below hB1) hb (fun b hb1 => by have := h1 b hb1; simp; omega) (fun b hb1 => by have := h2 b hb1; simp; omega))
  have HB1 := Lib.hid hB1
  have HI := Lib.hid hi
  have HQ0 := Lib.hid hq0
  clear h1 h2 hB1 hq0
  by_cases hz : ccheck c = 0
  · have ok := ccheck_ok hz
    have hP : cmdPut c = (cmdText c, 0) := by unfold cmdPut; rw [if_pos hz]
    rw [hP] at hR
    dsimp only at hR
    rw [hz] at cC
    have HV := Lib.hid (fun B p w4 => wr_visit B p w.heap.size c rv tv w4 ok)
    have hne := cmdText_ne c
    have hkn : c.kind = (c.kind.toNat : Int) := by have := ok.kind; omega
    have hkm : c.kind.toNat ≤ 12 := by have := ok.kind; omega
    have HRB := Lib.hid hb.recs
    clear hz hP ok hb
    generalize hk : c.kind.toNat = k at *
    generalize cmdText c = L at *
    have hx : ∃ tops recs, tops = c.tops ∧ recs = c.recs := ⟨_, _, rfl, rfl⟩
    obtain ⟨tops, recs, ht, hr⟩ := hx
    have HI' : Hid (RecsIn w rv recs ∧ TopsIn w tv tops ∧ RecsBd recs) := Lib.hid ⟨hr ▸ HI.out.recs, ht ▸ HI.out.tops, hr ▸ HRB.out⟩
    rw [← ht, ← hr] at HV
    clear HI HRB ht hr hk
    obtain ⟨kind, topic, pn, n, off, bp, be, bq, recs', group, member, gen, robin, tops'⟩ := c
    obtain ⟨ra, rc, rfl⟩ := hi.recs.form
    obtain ⟨ta, tc, rfl⟩ := hi.tops.form
    dsimp only [Cmd.arr] at *
    subst hkn
    clear hi
    go_enter Tryz.func14, Tryz.ntmps14
    go_wp2_with fail
    refine cC.out.use ?_
    intro w2 b2
    have hB2 := Lib.hid (HB1.out.trans (b2.mono (by simp)))
    have q2 := HQ0.out.below b2
    have hlt : w.heap.size < w2.heap.size := q2.lt
    have q3 := q2.alloc (.cells #[.pointer none, .slice none 0 0] 90)
    have f3 := Bld.fresh 90 w2.heap.size w2 (Nat.le_refl _)
    have c1 := Lib.hid (w_number w2.heap.size w2.heap.size w.heap.size 0 [] _ k f3 (by simp) (q3.cell 0) (by omega) (by simp))
    have HQ3 := Lib.hid q3
    have hB3 := Lib.hid (show Below w.heap.size w (w2.alloc (.cells #[.pointer none, .slice none 0 0] 90)) from below_all hB2.out)
    clear q2 q3 f3 b2
    go_wp2_with fail
    refine c1.out.use ?_
    intro w4 l4 b4
    have hB4 := Lib.hid (hB3.out.trans (b4.mono (by omega)))
    have HQ4 := Lib.hid ((b4.block _ hlt).trans HQ3.out)
    have hs4 := b4.size
    rw [World.size_alloc] at hs4
    have c2 := Lib.hid (HV.out w2.heap.size w2.heap.size w4 (by simpa using l4) (by omega) hlt HQ4.out (Lib.hid fun W hW => HI'.out.1.below (hB4.out.trans (hW.mono (by omega)))) HI'.out.2.2 (Lib.hid fun W hW => HI'.out.2.1.below (hB4.out.trans (hW.mono (by omega)))))
    clear l4 b4
    go_wp2_with fail
    refine c2.out.use ?_
    intro w5 l5 b5
    have c3 := Lib.hid (string_k 90 w2.heap.size w2.heap.size L w5 l5 hne)
    go_wp2_with fail
    refine c3.out.mono ?_
    rintro e w6 ⟨rfl, b6⟩
    have hB6 := Lib.hid (hB4.out.trans ((b5.trans b6).mono (by omega)))
    clear b5 b6 l5
    go_wp2_with fail
    exact finB hR hB6.out rfl
  · have hP : cmdPut c = ([], ccheck c) := by unfold cmdPut; rw [if_neg hz]
    rw [hP] at hR
    dsimp only at hR
    have t1 : (((ccheck c : Nat) : Int) = 0) = False := eq_false (by omega)
    generalize ccheck c = X at *
    obtain ⟨kind, topic, pn, n, off, bp, be, bq, recs, group, member, gen, robin, tops⟩ := c
    obtain ⟨ra, rc, rfl⟩ := hi.recs.form
    obtain ⟨ta, tc, rfl⟩ := hi.tops.form
    dsimp only [Cmd.arr] at *
    clear hi hb hP HI
    go_enter Tryz.func14, Tryz.ntmps14
    go_wp2_with fail
    refine cC.out.use ?_
    intro w2 b2
    have hB2 := Lib.hid (HB1.out.trans (b2.mono (by simp)))
    clear b2
    go_wp2_with fail
    exact finB hR hB2.out rfl
end Go.Proofs.YthiliodmbipikaaGreat
