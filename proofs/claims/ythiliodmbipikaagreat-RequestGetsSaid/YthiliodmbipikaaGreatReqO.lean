/-
  Layer 4: a command read, of each kind.
-/
import Derived.Test.YthiliodmbipikaaGreatReqK1
import Derived.Test.YthiliodmbipikaaGreatReqI1
set_option linter.unusedVariables false
set_option linter.unusedSimpArgs false
namespace Go.Proofs.YthiliodmbipikaaGreat
open Go.RowKit
attribute [local go_sem] ByteArray.extract_mk ByteArray.mk_append_mk

/-- What a reader has read of a command. -/
structure RVPost (s : List UInt8) (p q : Nat) (k a e : Int) (w w' : World) (c : Cmd) (rv tv : Value) (a' e' : Int) : Prop where
  kind : c.kind = k
  cin : CmdIn w' c rv tv
  bd : CmdBd c
  rd : Blk w' p (rdr s a' e') 48
  op : Blk w' q (c.arr rv tv) 29
  kp : KeptR [p, q] w w'
  own1 : ∀ b, rv.ownBlock = some b → w.heap.size ≤ b ∧ b < w'.heap.size ∧ ∀ i, w'.frozen? ⟨b, i, none⟩ = false
  own2 : ∀ b, tv.ownBlock = some b → w.heap.size ≤ b ∧ b < w'.heap.size ∧ ∀ i, w'.frozen? ⟨b, i, none⟩ = false
  full : ∀ (y : Cmd) (b : Int), e = 0 → y.kind = k → ccheck y = 0 → At s a ((hasF k.toNat).flatMap (ftxt y)) b → c = y ∧ a' = b ∧ e' = 0
def RVis (s : List UInt8) (p q : Nat) (k a e : Int) (w : World) : Prop :=
  Calls Tryz.prog 13 #[.iface 46 (.pointer (some ⟨p, 0, none⟩)), .pointer (some ⟨q, 0, none⟩)] w fun x w' => x = .returned (.tuple #[]) ∧ ∃ c rv tv a' e', RVPost s p q k a e w w' c rv tv a' e'
theorem RVis.intro {s : List UInt8} {p q : Nat} {k a e : Int} {w : World}
    (h : ∀ R : Ending → World → Prop, Hid (∀ w' c rv tv a' e', RVPost s p q k a e w w' c rv tv a' e' → R (.returned (.tuple #[])) w') → Calls Tryz.prog 13 #[.iface 46 (.pointer (some ⟨p, 0, none⟩)), .pointer (some ⟨q, 0, none⟩)] w R) : RVis s p q k a e w :=
  h _ fun w' c rv tv a' e' h1 => ⟨rfl, c, rv, tv, a', e', h1⟩
theorem RVis.use {s : List UInt8} {p q : Nat} {k a e : Int} {w : World} {R : Ending → World → Prop} (h : RVis s p q k a e w)
    (g : ∀ w' c rv tv a' e', RVPost s p q k a e w w' c rv tv a' e' → R (.returned (.tuple #[])) w') : Calls Tryz.prog 13 #[.iface 46 (.pointer (some ⟨p, 0, none⟩)), .pointer (some ⟨q, 0, none⟩)] w R :=
  h.mono fun x w' ⟨he, c, rv, tv, a', e', h1⟩ => by subst he; exact g w' c rv tv a' e' h1
theorem numB_rng {n : Int} (h : numB n = true) : 0 ≤ n ∧ n ≤ 1099511627776 := by
  simp only [numB, Bool.and_eq_true, decide_eq_true_eq] at h; exact h
theorem ccheck_rest {c : Cmd} (h : ccheck c = 0) : crest c = zcmd := by
  have ok := (ccheck_ok h).kind
  rw [ccheck_in ok] at h
  by_cases h1 : crest c = zcmd
  · exact h1
  · simp [h1] at h
theorem ok_batch {c : Cmd} (h : ccheck c = 0) (hk : c.kind = 2) : rall c.bp c.be c.bq c.recs = 0 := by
  have ok := (ccheck_ok h).kind
  rw [ccheck_in ok] at h
  split at h
  · simp at h
  · split at h
    · simp at h
    · first | exact h | rwa [if_pos hk] at h
theorem tops_ok {c : Cmd} (ok : CmdOk c) : c.tops.length ≤ 1099511627776 := by have := ok.tops.1; omega
set_option maxHeartbeats 2000000 in
set_option maxRecDepth 100000 in
theorem r_visit0 (s : List UInt8) (a e : Int) (p q : Nat) (w : World) (hl9 : s.length ≤ 900000) (hp : Blk w p (rdr s a e) 48) (hq : Blk w q #[.int .i64 0, .string (S []), .int .i64 0, .int .i64 0, .int .i64 0, .int .i64 0, .int .i64 0, .int .i64 0, .slice none 0 0, .string (S []), .string (S []), .int .i64 0, .bool false, .slice none 0 0] 29) (hpq : p ≠ q) : RVis s p q 0 a e w := by
  refine RVis.intro fun R hR => ?_
  have HL : Hid (s.length ≤ maxLen) := Lib.hid (by unfold maxLen; omega)
  have K0 := Lib.hid (KeptR.refl [p, q] w)
  have HP0 := Lib.hid hp
  have HQ0 := Lib.hid hq
  obtain ⟨kq0, x0⟩ : q < w.heap.size ∧ w.cell? ⟨q, 0, none⟩ = some (.int .i64 0) := ⟨hq.lt, hq.cell 0⟩
  clear hp hq
  have n_name := na_r_name
  have m_name := me_r_name
  have n_number := na_r_number
  have m_number := me_r_number
  have n_flag := na_r_flag
  have m_flag := me_r_flag
  have n_batch := na_r_batch
  have m_batch := me_r_batch
  have n_names := na_r_names
  have m_names := me_r_names
  go_enter Tryz.func13, Tryz.ntmps13
  have cc1 := Lib.hid (r_name s a e p q 1 _ _ w.drew HL.out HP0.out HQ0.out hpq rfl)
  go_wp2_with fail
  go_region_with (go_at_call 99; refine cc1.out.use ?_; intro w1 v1 a1 e1 p1 q1 k1 s1)
  have HP1 := Lib.hid p1
  have HQ1 : Hid (Blk w1 q #[.int .i64 0, .string (S v1), .int .i64 0, .int .i64 0, .int .i64 0, .int .i64 0, .int .i64 0, .int .i64 0, .slice none 0 0, .string (S []), .string (S []), .int .i64 0, .bool false, .slice none 0 0] 29) := Lib.hid q1
  have K1 := Lib.hid (K0.out.drew'.trans k1)
  have S1 := Lib.hid s1
  clear p1 q1 k1 s1
  have cc2 := Lib.hid (r_number s a1 e1 p q 3 _ _ w1.drew HL.out HP1.out HQ1.out hpq rfl)
  go_wp2_with fail
  go_region_with (go_at_call 12; refine cc2.out.use ?_; intro w2 v2 a2 e2 p2 q2 k2 s2)
  have HP2 := Lib.hid p2
  have HQ2 : Hid (Blk w2 q #[.int .i64 0, .string (S v1), .int .i64 0, .int .i64 v2, .int .i64 0, .int .i64 0, .int .i64 0, .int .i64 0, .slice none 0 0, .string (S []), .string (S []), .int .i64 0, .bool false, .slice none 0 0] 29) := Lib.hid q2
  have K2 := Lib.hid (K1.out.drew'.trans k2)
  have S2 := Lib.hid s2
  clear p2 q2 k2 s2
  go_wp2_with fail
  first | refine bodyPost_end (results_none rfl _ _ _) rfl ?_ | refine bodyPost_ret (results_none rfl _ _ _) rfl ?_
  have := S1.out.2
  refine hR.out _ ⟨0, v1, 0, v2, 0, 0, 0, 0, [], [], [], 0, false, []⟩ (.slice none 0 0) (.slice none 0 0) a2 e2 ⟨rfl, ⟨.inl ⟨rfl, _, _, rfl⟩, .inl ⟨rfl, _, _, rfl⟩⟩, ⟨(by unfold maxLen; simp <;> omega), (by unfold maxLen; simp <;> omega), (by unfold maxLen; simp <;> omega), ⟨by simp, by simp⟩, ⟨by simp, by simp⟩⟩, HP2.out, HQ2.out, K2.out, by simp [Value.ownBlock], by simp [Value.ownBlock], fun y b h0 hk hok hat => ?_⟩
  have ok := ccheck_ok hok
  have hr := ccheck_rest hok
  obtain ⟨yk, ytopic, ypn, yn, yoff, ybp, ybe, ybq, yrecs, ygroup, ymember, ygen, yrobin, ytops⟩ := y
  dsimp only at hk
  subst hk
  simp [hasF, fclr, crest, zcmd] at hr
  have hat2 : At s a (vtxt ytopic ++ (vput yn.toNat)) b := by simpa [hasF, ftxt] using hat
  obtain ⟨h1, g1⟩ := hat2.split
  obtain ⟨m1, b1, f1⟩ := S1.out.1.full _ _ h0 ok.topic h1
  rw [← b1] at g1
  obtain ⟨m2, b2, f2⟩ := S2.out.full _ _ f1 (numB_rng ok.n) g1
  exact ⟨by simp_all, b2, f2⟩
set_option maxHeartbeats 2000000 in
set_option maxRecDepth 100000 in
theorem r_visit1 (s : List UInt8) (a e : Int) (p q : Nat) (w : World) (hl9 : s.length ≤ 900000) (hp : Blk w p (rdr s a e) 48) (hq : Blk w q #[.int .i64 1, .string (S []), .int .i64 0, .int .i64 0, .int .i64 0, .int .i64 0, .int .i64 0, .int .i64 0, .slice none 0 0, .string (S []), .string (S []), .int .i64 0, .bool false, .slice none 0 0] 29) (hpq : p ≠ q) : RVis s p q 1 a e w := by
  refine RVis.intro fun R hR => ?_
  have HL : Hid (s.length ≤ maxLen) := Lib.hid (by unfold maxLen; omega)
  have K0 := Lib.hid (KeptR.refl [p, q] w)
  have HP0 := Lib.hid hp
  have HQ0 := Lib.hid hq
  obtain ⟨kq0, x0⟩ : q < w.heap.size ∧ w.cell? ⟨q, 0, none⟩ = some (.int .i64 1) := ⟨hq.lt, hq.cell 0⟩
  clear hp hq
  have n_name := na_r_name
  have m_name := me_r_name
  have n_number := na_r_number
  have m_number := me_r_number
  have n_flag := na_r_flag
  have m_flag := me_r_flag
  have n_batch := na_r_batch
  have m_batch := me_r_batch
  have n_names := na_r_names
  have m_names := me_r_names
  go_enter Tryz.func13, Tryz.ntmps13
  have cc1 := Lib.hid (r_number s a e p q 3 _ _ w.drew HL.out HP0.out HQ0.out hpq rfl)
  go_wp2_with fail
  go_region_with (go_at_call 12; refine cc1.out.use ?_; intro w1 v1 a1 e1 p1 q1 k1 s1)
  have HP1 := Lib.hid p1
  have HQ1 : Hid (Blk w1 q #[.int .i64 1, .string (S []), .int .i64 0, .int .i64 v1, .int .i64 0, .int .i64 0, .int .i64 0, .int .i64 0, .slice none 0 0, .string (S []), .string (S []), .int .i64 0, .bool false, .slice none 0 0] 29) := Lib.hid q1
  have K1 := Lib.hid (K0.out.drew'.trans k1)
  have S1 := Lib.hid s1
  clear p1 q1 k1 s1
  go_wp2_with fail
  first | refine bodyPost_end (results_none rfl _ _ _) rfl ?_ | refine bodyPost_ret (results_none rfl _ _ _) rfl ?_
  refine hR.out _ ⟨1, [], 0, v1, 0, 0, 0, 0, [], [], [], 0, false, []⟩ (.slice none 0 0) (.slice none 0 0) a1 e1 ⟨rfl, ⟨.inl ⟨rfl, _, _, rfl⟩, .inl ⟨rfl, _, _, rfl⟩⟩, ⟨(by unfold maxLen; simp <;> omega), (by unfold maxLen; simp <;> omega), (by unfold maxLen; simp <;> omega), ⟨by simp, by simp⟩, ⟨by simp, by simp⟩⟩, HP1.out, HQ1.out, K1.out, by simp [Value.ownBlock], by simp [Value.ownBlock], fun y b h0 hk hok hat => ?_⟩
  have ok := ccheck_ok hok
  have hr := ccheck_rest hok
  obtain ⟨yk, ytopic, ypn, yn, yoff, ybp, ybe, ybq, yrecs, ygroup, ymember, ygen, yrobin, ytops⟩ := y
  dsimp only at hk
  subst hk
  simp [hasF, fclr, crest, zcmd] at hr
  have hat2 : At s a (vput yn.toNat) b := by simpa [hasF, ftxt] using hat
  obtain ⟨m1, b1, f1⟩ := S1.out.full _ _ h0 (numB_rng ok.n) hat2
  exact ⟨by simp_all, b1, f1⟩
set_option maxHeartbeats 2000000 in
set_option maxRecDepth 100000 in
theorem r_visit2 (s : List UInt8) (a e : Int) (p q : Nat) (w : World) (hl9 : s.length ≤ 900000) (hp : Blk w p (rdr s a e) 48) (hq : Blk w q #[.int .i64 2, .string (S []), .int .i64 0, .int .i64 0, .int .i64 0, .int .i64 0, .int .i64 0, .int .i64 0, .slice none 0 0, .string (S []), .string (S []), .int .i64 0, .bool false, .slice none 0 0] 29) (hpq : p ≠ q) : RVis s p q 2 a e w := by
  refine RVis.intro fun R hR => ?_
  have HL : Hid (s.length ≤ maxLen) := Lib.hid (by unfold maxLen; omega)
  have K0 := Lib.hid (KeptR.refl [p, q] w)
  have HP0 := Lib.hid hp
  have HQ0 := Lib.hid hq
  obtain ⟨kq0, x0⟩ : q < w.heap.size ∧ w.cell? ⟨q, 0, none⟩ = some (.int .i64 2) := ⟨hq.lt, hq.cell 0⟩
  clear hp hq
  have n_name := na_r_name
  have m_name := me_r_name
  have n_number := na_r_number
  have m_number := me_r_number
  have n_flag := na_r_flag
  have m_flag := me_r_flag
  have n_batch := na_r_batch
  have m_batch := me_r_batch
  have n_names := na_r_names
  have m_names := me_r_names
  go_enter Tryz.func13, Tryz.ntmps13
  have cc1 := Lib.hid (r_part s a e p q 1 _ _ w HL.out HP0.out HQ0.out hpq rfl rfl)
  go_wp2_with fail
  refine cc1.out.use ?_
  intro w1 v1 a1 e1 p1 q1 k1 s1
  obtain ⟨x1, z1⟩ := v1
  have HP1 := Lib.hid p1
  have HQ1 : Hid (Blk w1 q #[.int .i64 2, .string (S x1), .int .i64 z1, .int .i64 0, .int .i64 0, .int .i64 0, .int .i64 0, .int .i64 0, .slice none 0 0, .string (S []), .string (S []), .int .i64 0, .bool false, .slice none 0 0] 29) := Lib.hid q1
  have K1 := Lib.hid (K0.out.trans k1)
  have S1 := Lib.hid s1
  clear p1 q1 k1 s1
  have cc2 := Lib.hid (r_batch s a1 e1 p q _ _ _ _ _ _ _ _ _ _ w1.drew HL.out (fun h => by have := S1.out.1.go h; omega) HP1.out HQ1.out hpq)
  go_wp2_with fail
  go_region_with (go_at_call 97; refine cc2.out.use ?_; intro w2 v2 a2 e2 p2 q2 k2 s2)
  obtain ⟨x2, z2, u2, rv⟩ := v2
  have HP2 := Lib.hid p2
  have HQ2 : Hid (Blk w2 q #[.int .i64 2, .string (S x1), .int .i64 z1, .int .i64 0, .int .i64 0, .int .i64 x2, .int .i64 z2, .int .i64 u2, rv, .string (S []), .string (S []), .int .i64 0, .bool false, .slice none 0 0] 29) := Lib.hid q2
  have K2 := Lib.hid (K1.out.drew'.trans k2)
  have S2 := Lib.hid s2
  clear p2 q2 k2 s2
  obtain ⟨recs, R1, R2, R3, R4⟩ := S2.out
  dsimp only at R1 R3 R4
  go_wp2_with fail
  first | refine bodyPost_end (results_none rfl _ _ _) rfl ?_ | refine bodyPost_ret (results_none rfl _ _ _) rfl ?_
  have : x1.length ≤ 16 := S1.out.2
  refine hR.out _ ⟨2, x1, z1, 0, 0, x2, z2, u2, recs, [], [], 0, false, []⟩ (rv) (.slice none 0 0) a2 e2 ⟨rfl, ⟨R1, .inl ⟨rfl, _, _, rfl⟩⟩, ⟨(by unfold maxLen; simp <;> omega), (by unfold maxLen; simp <;> omega), (by unfold maxLen; simp <;> omega), R2, ⟨by simp, by simp⟩⟩, HP2.out, HQ2.out, K2.out, fun b hb => ⟨Nat.le_trans K1.out.size (R3 b hb).1, (R3 b hb).2⟩, by simp [Value.ownBlock], fun y b h0 hk hok hat => ?_⟩
  have ok := ccheck_ok hok
  have hr := ccheck_rest hok
  obtain ⟨yk, ytopic, ypn, yn, yoff, ybp, ybe, ybq, yrecs, ygroup, ymember, ygen, yrobin, ytops⟩ := y
  dsimp only at hk
  subst hk
  simp [hasF, fclr, crest, zcmd] at hr
  have hat2 : At s a ((vtxt ytopic ++ vput ypn.toNat) ++ ((rbatch ybp ybe ybq yrecs).1)) b := by simpa [hasF, ftxt] using hat
  obtain ⟨h1, g1⟩ := hat2.split
  obtain ⟨m1, b1, f1⟩ := S1.out.1.full (ytopic, ypn) _ h0 ⟨ok.topic, numB_rng ok.pn⟩ h1
  rw [← b1] at g1
  obtain ⟨m2, b2, f2⟩ := R4 ybp ybe ybq yrecs _ f1 (ok_batch hok rfl) g1
  exact ⟨by simp_all, b2, f2⟩
set_option maxHeartbeats 2000000 in
set_option maxRecDepth 100000 in
theorem r_visit3 (s : List UInt8) (a e : Int) (p q : Nat) (w : World) (hl9 : s.length ≤ 900000) (hp : Blk w p (rdr s a e) 48) (hq : Blk w q #[.int .i64 3, .string (S []), .int .i64 0, .int .i64 0, .int .i64 0, .int .i64 0, .int .i64 0, .int .i64 0, .slice none 0 0, .string (S []), .string (S []), .int .i64 0, .bool false, .slice none 0 0] 29) (hpq : p ≠ q) : RVis s p q 3 a e w := by
  refine RVis.intro fun R hR => ?_
  have HL : Hid (s.length ≤ maxLen) := Lib.hid (by unfold maxLen; omega)
  have K0 := Lib.hid (KeptR.refl [p, q] w)
  have HP0 := Lib.hid hp
  have HQ0 := Lib.hid hq
  obtain ⟨kq0, x0⟩ : q < w.heap.size ∧ w.cell? ⟨q, 0, none⟩ = some (.int .i64 3) := ⟨hq.lt, hq.cell 0⟩
  clear hp hq
  have n_name := na_r_name
  have m_name := me_r_name
  have n_number := na_r_number
  have m_number := me_r_number
  have n_flag := na_r_flag
  have m_flag := me_r_flag
  have n_batch := na_r_batch
  have m_batch := me_r_batch
  have n_names := na_r_names
  have m_names := me_r_names
  go_enter Tryz.func13, Tryz.ntmps13
  have cc1 := Lib.hid (r_part s a e p q 1 _ _ w HL.out HP0.out HQ0.out hpq rfl rfl)
  go_wp2_with fail
  refine cc1.out.use ?_
  intro w1 v1 a1 e1 p1 q1 k1 s1
  obtain ⟨x1, z1⟩ := v1
  have HP1 := Lib.hid p1
  have HQ1 : Hid (Blk w1 q #[.int .i64 3, .string (S x1), .int .i64 z1, .int .i64 0, .int .i64 0, .int .i64 0, .int .i64 0, .int .i64 0, .slice none 0 0, .string (S []), .string (S []), .int .i64 0, .bool false, .slice none 0 0] 29) := Lib.hid q1
  have K1 := Lib.hid (K0.out.trans k1)
  have S1 := Lib.hid s1
  clear p1 q1 k1 s1
  have cc2 := Lib.hid (r_number s a1 e1 p q 4 _ _ w1.drew HL.out HP1.out HQ1.out hpq rfl)
  go_wp2_with fail
  go_region_with (go_at_call 12; refine cc2.out.use ?_; intro w2 v2 a2 e2 p2 q2 k2 s2)
  have HP2 := Lib.hid p2
  have HQ2 : Hid (Blk w2 q #[.int .i64 3, .string (S x1), .int .i64 z1, .int .i64 0, .int .i64 v2, .int .i64 0, .int .i64 0, .int .i64 0, .slice none 0 0, .string (S []), .string (S []), .int .i64 0, .bool false, .slice none 0 0] 29) := Lib.hid q2
  have K2 := Lib.hid (K1.out.drew'.trans k2)
  have S2 := Lib.hid s2
  clear p2 q2 k2 s2
  have cc3 := Lib.hid (r_number s a2 e2 p q 3 _ _ w2.drew HL.out HP2.out HQ2.out hpq rfl)
  go_wp2_with fail
  go_region_with (go_at_call 12; refine cc3.out.use ?_; intro w3 v3 a3 e3 p3 q3 k3 s3)
  have HP3 := Lib.hid p3
  have HQ3 : Hid (Blk w3 q #[.int .i64 3, .string (S x1), .int .i64 z1, .int .i64 v3, .int .i64 v2, .int .i64 0, .int .i64 0, .int .i64 0, .slice none 0 0, .string (S []), .string (S []), .int .i64 0, .bool false, .slice none 0 0] 29) := Lib.hid q3
  have K3 := Lib.hid (K2.out.drew'.trans k3)
  have S3 := Lib.hid s3
  clear p3 q3 k3 s3
  go_wp2_with fail
  first | refine bodyPost_end (results_none rfl _ _ _) rfl ?_ | refine bodyPost_ret (results_none rfl _ _ _) rfl ?_
  have : x1.length ≤ 16 := S1.out.2
  refine hR.out _ ⟨3, x1, z1, v3, v2, 0, 0, 0, [], [], [], 0, false, []⟩ (.slice none 0 0) (.slice none 0 0) a3 e3 ⟨rfl, ⟨.inl ⟨rfl, _, _, rfl⟩, .inl ⟨rfl, _, _, rfl⟩⟩, ⟨(by unfold maxLen; simp <;> omega), (by unfold maxLen; simp <;> omega), (by unfold maxLen; simp <;> omega), ⟨by simp, by simp⟩, ⟨by simp, by simp⟩⟩, HP3.out, HQ3.out, K3.out, by simp [Value.ownBlock], by simp [Value.ownBlock], fun y b h0 hk hok hat => ?_⟩
  have ok := ccheck_ok hok
  have hr := ccheck_rest hok
  obtain ⟨yk, ytopic, ypn, yn, yoff, ybp, ybe, ybq, yrecs, ygroup, ymember, ygen, yrobin, ytops⟩ := y
  dsimp only at hk
  subst hk
  simp [hasF, fclr, crest, zcmd] at hr
  have hat2 : At s a ((vtxt ytopic ++ vput ypn.toNat) ++ (vput yoff.toNat ++ (vput yn.toNat))) b := by simpa [hasF, ftxt] using hat
  obtain ⟨h1, g1⟩ := hat2.split
  obtain ⟨m1, b1, f1⟩ := S1.out.1.full (ytopic, ypn) _ h0 ⟨ok.topic, numB_rng ok.pn⟩ h1
  rw [← b1] at g1
  obtain ⟨h2, g2⟩ := g1.split
  obtain ⟨m2, b2, f2⟩ := S2.out.full _ _ f1 (numB_rng ok.off) h2
  rw [← b2] at g2
  obtain ⟨m3, b3, f3⟩ := S3.out.full _ _ f2 (numB_rng ok.n) g2
  exact ⟨by simp_all, b3, f3⟩
set_option maxHeartbeats 2000000 in
set_option maxRecDepth 100000 in
theorem r_visit4 (s : List UInt8) (a e : Int) (p q : Nat) (w : World) (hl9 : s.length ≤ 900000) (hp : Blk w p (rdr s a e) 48) (hq : Blk w q #[.int .i64 4, .string (S []), .int .i64 0, .int .i64 0, .int .i64 0, .int .i64 0, .int .i64 0, .int .i64 0, .slice none 0 0, .string (S []), .string (S []), .int .i64 0, .bool false, .slice none 0 0] 29) (hpq : p ≠ q) : RVis s p q 4 a e w := by
  refine RVis.intro fun R hR => ?_
  have HL : Hid (s.length ≤ maxLen) := Lib.hid (by unfold maxLen; omega)
  have K0 := Lib.hid (KeptR.refl [p, q] w)
  have HP0 := Lib.hid hp
  have HQ0 := Lib.hid hq
  obtain ⟨kq0, x0⟩ : q < w.heap.size ∧ w.cell? ⟨q, 0, none⟩ = some (.int .i64 4) := ⟨hq.lt, hq.cell 0⟩
  clear hp hq
  have n_name := na_r_name
  have m_name := me_r_name
  have n_number := na_r_number
  have m_number := me_r_number
  have n_flag := na_r_flag
  have m_flag := me_r_flag
  have n_batch := na_r_batch
  have m_batch := me_r_batch
  have n_names := na_r_names
  have m_names := me_r_names
  go_enter Tryz.func13, Tryz.ntmps13
  have cc1 := Lib.hid (r_part s a e p q 1 _ _ w HL.out HP0.out HQ0.out hpq rfl rfl)
  go_wp2_with fail
  refine cc1.out.use ?_
  intro w1 v1 a1 e1 p1 q1 k1 s1
  obtain ⟨x1, z1⟩ := v1
  have HP1 := Lib.hid p1
  have HQ1 : Hid (Blk w1 q #[.int .i64 4, .string (S x1), .int .i64 z1, .int .i64 0, .int .i64 0, .int .i64 0, .int .i64 0, .int .i64 0, .slice none 0 0, .string (S []), .string (S []), .int .i64 0, .bool false, .slice none 0 0] 29) := Lib.hid q1
  have K1 := Lib.hid (K0.out.trans k1)
  have S1 := Lib.hid s1
  clear p1 q1 k1 s1
  have cc2 := Lib.hid (r_number s a1 e1 p q 4 _ _ w1.drew HL.out HP1.out HQ1.out hpq rfl)
  go_wp2_with fail
  go_region_with (go_at_call 12; refine cc2.out.use ?_; intro w2 v2 a2 e2 p2 q2 k2 s2)
  have HP2 := Lib.hid p2
  have HQ2 : Hid (Blk w2 q #[.int .i64 4, .string (S x1), .int .i64 z1, .int .i64 0, .int .i64 v2, .int .i64 0, .int .i64 0, .int .i64 0, .slice none 0 0, .string (S []), .string (S []), .int .i64 0, .bool false, .slice none 0 0] 29) := Lib.hid q2
  have K2 := Lib.hid (K1.out.drew'.trans k2)
  have S2 := Lib.hid s2
  clear p2 q2 k2 s2
  go_wp2_with fail
  first | refine bodyPost_end (results_none rfl _ _ _) rfl ?_ | refine bodyPost_ret (results_none rfl _ _ _) rfl ?_
  have : x1.length ≤ 16 := S1.out.2
  refine hR.out _ ⟨4, x1, z1, 0, v2, 0, 0, 0, [], [], [], 0, false, []⟩ (.slice none 0 0) (.slice none 0 0) a2 e2 ⟨rfl, ⟨.inl ⟨rfl, _, _, rfl⟩, .inl ⟨rfl, _, _, rfl⟩⟩, ⟨(by unfold maxLen; simp <;> omega), (by unfold maxLen; simp <;> omega), (by unfold maxLen; simp <;> omega), ⟨by simp, by simp⟩, ⟨by simp, by simp⟩⟩, HP2.out, HQ2.out, K2.out, by simp [Value.ownBlock], by simp [Value.ownBlock], fun y b h0 hk hok hat => ?_⟩
  have ok := ccheck_ok hok
  have hr := ccheck_rest hok
  obtain ⟨yk, ytopic, ypn, yn, yoff, ybp, ybe, ybq, yrecs, ygroup, ymember, ygen, yrobin, ytops⟩ := y
  dsimp only at hk
  subst hk
  simp [hasF, fclr, crest, zcmd] at hr
  have hat2 : At s a ((vtxt ytopic ++ vput ypn.toNat) ++ (vput yoff.toNat)) b := by simpa [hasF, ftxt] using hat
  obtain ⟨h1, g1⟩ := hat2.split
  obtain ⟨m1, b1, f1⟩ := S1.out.1.full (ytopic, ypn) _ h0 ⟨ok.topic, numB_rng ok.pn⟩ h1
  rw [← b1] at g1
  obtain ⟨m2, b2, f2⟩ := S2.out.full _ _ f1 (numB_rng ok.off) g1
  exact ⟨by simp_all, b2, f2⟩
set_option maxHeartbeats 2000000 in
set_option maxRecDepth 100000 in
theorem r_visit5 (s : List UInt8) (a e : Int) (p q : Nat) (w : World) (hl9 : s.length ≤ 900000) (hp : Blk w p (rdr s a e) 48) (hq : Blk w q #[.int .i64 5, .string (S []), .int .i64 0, .int .i64 0, .int .i64 0, .int .i64 0, .int .i64 0, .int .i64 0, .slice none 0 0, .string (S []), .string (S []), .int .i64 0, .bool false, .slice none 0 0] 29) (hpq : p ≠ q) : RVis s p q 5 a e w := by
  refine RVis.intro fun R hR => ?_
  have HL : Hid (s.length ≤ maxLen) := Lib.hid (by unfold maxLen; omega)
  have K0 := Lib.hid (KeptR.refl [p, q] w)
  have HP0 := Lib.hid hp
  have HQ0 := Lib.hid hq
  obtain ⟨kq0, x0⟩ : q < w.heap.size ∧ w.cell? ⟨q, 0, none⟩ = some (.int .i64 5) := ⟨hq.lt, hq.cell 0⟩
  clear hp hq
  have n_name := na_r_name
  have m_name := me_r_name
  have n_number := na_r_number
  have m_number := me_r_number
  have n_flag := na_r_flag
  have m_flag := me_r_flag
  have n_batch := na_r_batch
  have m_batch := me_r_batch
  have n_names := na_r_names
  have m_names := me_r_names
  go_enter Tryz.func13, Tryz.ntmps13
  have cc1 := Lib.hid (r_part s a e p q 1 _ _ w HL.out HP0.out HQ0.out hpq rfl rfl)
  go_wp2_with fail
  refine cc1.out.use ?_
  intro w1 v1 a1 e1 p1 q1 k1 s1
  obtain ⟨x1, z1⟩ := v1
  have HP1 := Lib.hid p1
  have HQ1 : Hid (Blk w1 q #[.int .i64 5, .string (S x1), .int .i64 z1, .int .i64 0, .int .i64 0, .int .i64 0, .int .i64 0, .int .i64 0, .slice none 0 0, .string (S []), .string (S []), .int .i64 0, .bool false, .slice none 0 0] 29) := Lib.hid q1
  have K1 := Lib.hid (K0.out.trans k1)
  have S1 := Lib.hid s1
  clear p1 q1 k1 s1
  go_wp2_with fail
  first | refine bodyPost_end (results_none rfl _ _ _) rfl ?_ | refine bodyPost_ret (results_none rfl _ _ _) rfl ?_
  have : x1.length ≤ 16 := S1.out.2
  refine hR.out _ ⟨5, x1, z1, 0, 0, 0, 0, 0, [], [], [], 0, false, []⟩ (.slice none 0 0) (.slice none 0 0) a1 e1 ⟨rfl, ⟨.inl ⟨rfl, _, _, rfl⟩, .inl ⟨rfl, _, _, rfl⟩⟩, ⟨(by unfold maxLen; simp <;> omega), (by unfold maxLen; simp <;> omega), (by unfold maxLen; simp <;> omega), ⟨by simp, by simp⟩, ⟨by simp, by simp⟩⟩, HP1.out, HQ1.out, K1.out, by simp [Value.ownBlock], by simp [Value.ownBlock], fun y b h0 hk hok hat => ?_⟩
  have ok := ccheck_ok hok
  have hr := ccheck_rest hok
  obtain ⟨yk, ytopic, ypn, yn, yoff, ybp, ybe, ybq, yrecs, ygroup, ymember, ygen, yrobin, ytops⟩ := y
  dsimp only at hk
  subst hk
  simp [hasF, fclr, crest, zcmd] at hr
  have hat2 : At s a ((vtxt ytopic ++ vput ypn.toNat)) b := by simpa [hasF, ftxt] using hat
  obtain ⟨m1, b1, f1⟩ := S1.out.1.full (ytopic, ypn) _ h0 ⟨ok.topic, numB_rng ok.pn⟩ hat2
  exact ⟨by simp_all, b1, f1⟩
set_option maxHeartbeats 2000000 in
set_option maxRecDepth 100000 in
theorem r_visit6 (s : List UInt8) (a e : Int) (p q : Nat) (w : World) (hl9 : s.length ≤ 900000) (hp : Blk w p (rdr s a e) 48) (hq : Blk w q #[.int .i64 6, .string (S []), .int .i64 0, .int .i64 0, .int .i64 0, .int .i64 0, .int .i64 0, .int .i64 0, .slice none 0 0, .string (S []), .string (S []), .int .i64 0, .bool false, .slice none 0 0] 29) (hpq : p ≠ q) : RVis s p q 6 a e w := by
  refine RVis.intro fun R hR => ?_
  have HL : Hid (s.length ≤ maxLen) := Lib.hid (by unfold maxLen; omega)
  have K0 := Lib.hid (KeptR.refl [p, q] w)
  have HP0 := Lib.hid hp
  have HQ0 := Lib.hid hq
  obtain ⟨kq0, x0⟩ : q < w.heap.size ∧ w.cell? ⟨q, 0, none⟩ = some (.int .i64 6) := ⟨hq.lt, hq.cell 0⟩
  clear hp hq
  have n_name := na_r_name
  have m_name := me_r_name
  have n_number := na_r_number
  have m_number := me_r_number
  have n_flag := na_r_flag
  have m_flag := me_r_flag
  have n_batch := na_r_batch
  have m_batch := me_r_batch
  have n_names := na_r_names
  have m_names := me_r_names
  go_enter Tryz.func13, Tryz.ntmps13
  have cc1 := Lib.hid (r_member s a e p q _ _ w HL.out HP0.out HQ0.out hpq rfl rfl)
  go_wp2_with fail
  refine cc1.out.use ?_
  intro w1 v1 a1 e1 p1 q1 k1 s1
  obtain ⟨x1, z1⟩ := v1
  have HP1 := Lib.hid p1
  have HQ1 : Hid (Blk w1 q #[.int .i64 6, .string (S []), .int .i64 0, .int .i64 0, .int .i64 0, .int .i64 0, .int .i64 0, .int .i64 0, .slice none 0 0, .string (S x1), .string (S z1), .int .i64 0, .bool false, .slice none 0 0] 29) := Lib.hid q1
  have K1 := Lib.hid (K0.out.trans k1)
  have S1 := Lib.hid s1
  clear p1 q1 k1 s1
  have cc2 := Lib.hid (r_number s a1 e1 p q 3 _ _ w1.drew HL.out HP1.out HQ1.out hpq rfl)
  go_wp2_with fail
  go_region_with (go_at_call 12; refine cc2.out.use ?_; intro w2 v2 a2 e2 p2 q2 k2 s2)
  have HP2 := Lib.hid p2
  have HQ2 : Hid (Blk w2 q #[.int .i64 6, .string (S []), .int .i64 0, .int .i64 v2, .int .i64 0, .int .i64 0, .int .i64 0, .int .i64 0, .slice none 0 0, .string (S x1), .string (S z1), .int .i64 0, .bool false, .slice none 0 0] 29) := Lib.hid q2
  have K2 := Lib.hid (K1.out.drew'.trans k2)
  have S2 := Lib.hid s2
  clear p2 q2 k2 s2
  have cc3 := Lib.hid (r_flag s a2 e2 p q 12 _ _ w2.drew HL.out HP2.out HQ2.out hpq rfl)
  go_wp2_with fail
  go_region_with (go_at_call 98; refine cc3.out.use ?_; intro w3 v3 a3 e3 p3 q3 k3 s3)
  have HP3 := Lib.hid p3
  have HQ3 : Hid (Blk w3 q #[.int .i64 6, .string (S []), .int .i64 0, .int .i64 v2, .int .i64 0, .int .i64 0, .int .i64 0, .int .i64 0, .slice none 0 0, .string (S x1), .string (S z1), .int .i64 0, .bool v3, .slice none 0 0] 29) := Lib.hid q3
  have K3 := Lib.hid (K2.out.drew'.trans k3)
  have S3 := Lib.hid s3
  clear p3 q3 k3 s3
  have cc4 := Lib.hid (r_names s a3 e3 p q _ _ _ _ _ _ _ _ _ _ _ _ _ w3.drew hl9 HP3.out HQ3.out hpq)
  go_wp2_with fail
  go_region_with (go_at_call 100; refine cc4.out.use ?_; intro w4 v4 a4 e4 p4 q4 k4 s4)
  have HP4 := Lib.hid p4
  have HQ4 : Hid (Blk w4 q #[.int .i64 6, .string (S []), .int .i64 0, .int .i64 v2, .int .i64 0, .int .i64 0, .int .i64 0, .int .i64 0, .slice none 0 0, .string (S x1), .string (S z1), .int .i64 0, .bool v3, v4] 29) := Lib.hid q4
  have K4 := Lib.hid (K3.out.drew'.trans k4)
  have S4 := Lib.hid s4
  clear p4 q4 k4 s4
  obtain ⟨tops, R1, R2, R3, R4, R5⟩ := S4.out
  go_wp2_with fail
  first | refine bodyPost_end (results_none rfl _ _ _) rfl ?_ | refine bodyPost_ret (results_none rfl _ _ _) rfl ?_
  have : x1.length ≤ 16 := S1.out.2.1
  have : z1.length ≤ 16 := S1.out.2.2
  refine hR.out _ ⟨6, [], 0, v2, 0, 0, 0, 0, [], x1, z1, 0, v3, tops⟩ (.slice none 0 0) (v4) a4 e4 ⟨rfl, ⟨.inl ⟨rfl, _, _, rfl⟩, R1⟩, ⟨(by unfold maxLen; simp <;> omega), (by unfold maxLen; simp <;> omega), (by unfold maxLen; simp <;> omega), ⟨by simp, by simp⟩, ⟨by dsimp only; omega, fun t ht => by have := R3 t ht; unfold maxLen; omega⟩⟩, HP4.out, HQ4.out, K4.out, by simp [Value.ownBlock], fun b hb => ⟨Nat.le_trans K3.out.size (R4 b hb).1, (R4 b hb).2⟩, fun y b h0 hk hok hat => ?_⟩
  have ok := ccheck_ok hok
  have hr := ccheck_rest hok
  obtain ⟨yk, ytopic, ypn, yn, yoff, ybp, ybe, ybq, yrecs, ygroup, ymember, ygen, yrobin, ytops⟩ := y
  dsimp only at hk
  subst hk
  simp [hasF, fclr, crest, zcmd] at hr
  have hat2 : At s a ((vtxt ygroup ++ vtxt ymember) ++ (vput yn.toNat ++ ([if yrobin then (1 : UInt8) else 0] ++ ((vput ytops.length ++ ytops.flatMap vtxt))))) b := by simpa [hasF, ftxt] using hat
  obtain ⟨h1, g1⟩ := hat2.split
  obtain ⟨m1, b1, f1⟩ := S1.out.1.full (ygroup, ymember) _ h0 ⟨ok.group, ok.member⟩ h1
  rw [← b1] at g1
  obtain ⟨h2, g2⟩ := g1.split
  obtain ⟨m2, b2, f2⟩ := S2.out.full _ _ f1 (numB_rng ok.n) h2
  rw [← b2] at g2
  obtain ⟨h3, g3⟩ := g2.split
  obtain ⟨m3, b3, f3⟩ := S3.out.full _ _ f2 trivial h3
  rw [← b3] at g3
  obtain ⟨m4, b4, f4⟩ := R5 ytops _ f3 (tops_ok ok) ok.tops.2 g3
  exact ⟨by simp_all, b4, f4⟩
set_option maxHeartbeats 2000000 in
set_option maxRecDepth 100000 in
theorem r_visit7 (s : List UInt8) (a e : Int) (p q : Nat) (w : World) (hl9 : s.length ≤ 900000) (hp : Blk w p (rdr s a e) 48) (hq : Blk w q #[.int .i64 7, .string (S []), .int .i64 0, .int .i64 0, .int .i64 0, .int .i64 0, .int .i64 0, .int .i64 0, .slice none 0 0, .string (S []), .string (S []), .int .i64 0, .bool false, .slice none 0 0] 29) (hpq : p ≠ q) : RVis s p q 7 a e w := by
  refine RVis.intro fun R hR => ?_
  have HL : Hid (s.length ≤ maxLen) := Lib.hid (by unfold maxLen; omega)
  have K0 := Lib.hid (KeptR.refl [p, q] w)
  have HP0 := Lib.hid hp
  have HQ0 := Lib.hid hq
  obtain ⟨kq0, x0⟩ : q < w.heap.size ∧ w.cell? ⟨q, 0, none⟩ = some (.int .i64 7) := ⟨hq.lt, hq.cell 0⟩
  clear hp hq
  have n_name := na_r_name
  have m_name := me_r_name
  have n_number := na_r_number
  have m_number := me_r_number
  have n_flag := na_r_flag
  have m_flag := me_r_flag
  have n_batch := na_r_batch
  have m_batch := me_r_batch
  have n_names := na_r_names
  have m_names := me_r_names
  go_enter Tryz.func13, Tryz.ntmps13
  have cc1 := Lib.hid (r_member s a e p q _ _ w HL.out HP0.out HQ0.out hpq rfl rfl)
  go_wp2_with fail
  refine cc1.out.use ?_
  intro w1 v1 a1 e1 p1 q1 k1 s1
  obtain ⟨x1, z1⟩ := v1
  have HP1 := Lib.hid p1
  have HQ1 : Hid (Blk w1 q #[.int .i64 7, .string (S []), .int .i64 0, .int .i64 0, .int .i64 0, .int .i64 0, .int .i64 0, .int .i64 0, .slice none 0 0, .string (S x1), .string (S z1), .int .i64 0, .bool false, .slice none 0 0] 29) := Lib.hid q1
  have K1 := Lib.hid (K0.out.trans k1)
  have S1 := Lib.hid s1
  clear p1 q1 k1 s1
  have cc2 := Lib.hid (r_number s a1 e1 p q 11 _ _ w1.drew HL.out HP1.out HQ1.out hpq rfl)
  go_wp2_with fail
  go_region_with (go_at_call 12; refine cc2.out.use ?_; intro w2 v2 a2 e2 p2 q2 k2 s2)
  have HP2 := Lib.hid p2
  have HQ2 : Hid (Blk w2 q #[.int .i64 7, .string (S []), .int .i64 0, .int .i64 0, .int .i64 0, .int .i64 0, .int .i64 0, .int .i64 0, .slice none 0 0, .string (S x1), .string (S z1), .int .i64 v2, .bool false, .slice none 0 0] 29) := Lib.hid q2
  have K2 := Lib.hid (K1.out.drew'.trans k2)
  have S2 := Lib.hid s2
  clear p2 q2 k2 s2
  go_wp2_with fail
  first | refine bodyPost_end (results_none rfl _ _ _) rfl ?_ | refine bodyPost_ret (results_none rfl _ _ _) rfl ?_
  have : x1.length ≤ 16 := S1.out.2.1
  have : z1.length ≤ 16 := S1.out.2.2
  refine hR.out _ ⟨7, [], 0, 0, 0, 0, 0, 0, [], x1, z1, v2, false, []⟩ (.slice none 0 0) (.slice none 0 0) a2 e2 ⟨rfl, ⟨.inl ⟨rfl, _, _, rfl⟩, .inl ⟨rfl, _, _, rfl⟩⟩, ⟨(by unfold maxLen; simp <;> omega), (by unfold maxLen; simp <;> omega), (by unfold maxLen; simp <;> omega), ⟨by simp, by simp⟩, ⟨by simp, by simp⟩⟩, HP2.out, HQ2.out, K2.out, by simp [Value.ownBlock], by simp [Value.ownBlock], fun y b h0 hk hok hat => ?_⟩
  have ok := ccheck_ok hok
  have hr := ccheck_rest hok
  obtain ⟨yk, ytopic, ypn, yn, yoff, ybp, ybe, ybq, yrecs, ygroup, ymember, ygen, yrobin, ytops⟩ := y
  dsimp only at hk
  subst hk
  simp [hasF, fclr, crest, zcmd] at hr
  have hat2 : At s a ((vtxt ygroup ++ vtxt ymember) ++ (vput ygen.toNat)) b := by simpa [hasF, ftxt] using hat
  obtain ⟨h1, g1⟩ := hat2.split
  obtain ⟨m1, b1, f1⟩ := S1.out.1.full (ygroup, ymember) _ h0 ⟨ok.group, ok.member⟩ h1
  rw [← b1] at g1
  obtain ⟨m2, b2, f2⟩ := S2.out.full _ _ f1 (numB_rng ok.gen) g1
  exact ⟨by simp_all, b2, f2⟩
set_option maxHeartbeats 2000000 in
set_option maxRecDepth 100000 in
theorem r_visit8 (s : List UInt8) (a e : Int) (p q : Nat) (w : World) (hl9 : s.length ≤ 900000) (hp : Blk w p (rdr s a e) 48) (hq : Blk w q #[.int .i64 8, .string (S []), .int .i64 0, .int .i64 0, .int .i64 0, .int .i64 0, .int .i64 0, .int .i64 0, .slice none 0 0, .string (S []), .string (S []), .int .i64 0, .bool false, .slice none 0 0] 29) (hpq : p ≠ q) : RVis s p q 8 a e w := by
  refine RVis.intro fun R hR => ?_
  have HL : Hid (s.length ≤ maxLen) := Lib.hid (by unfold maxLen; omega)
  have K0 := Lib.hid (KeptR.refl [p, q] w)
  have HP0 := Lib.hid hp
  have HQ0 := Lib.hid hq
  obtain ⟨kq0, x0⟩ : q < w.heap.size ∧ w.cell? ⟨q, 0, none⟩ = some (.int .i64 8) := ⟨hq.lt, hq.cell 0⟩
  clear hp hq
  have n_name := na_r_name
  have m_name := me_r_name
  have n_number := na_r_number
  have m_number := me_r_number
  have n_flag := na_r_flag
  have m_flag := me_r_flag
  have n_batch := na_r_batch
  have m_batch := me_r_batch
  have n_names := na_r_names
  have m_names := me_r_names
  go_enter Tryz.func13, Tryz.ntmps13
  have cc1 := Lib.hid (r_member s a e p q _ _ w HL.out HP0.out HQ0.out hpq rfl rfl)
  go_wp2_with fail
  refine cc1.out.use ?_
  intro w1 v1 a1 e1 p1 q1 k1 s1
  obtain ⟨x1, z1⟩ := v1
  have HP1 := Lib.hid p1
  have HQ1 : Hid (Blk w1 q #[.int .i64 8, .string (S []), .int .i64 0, .int .i64 0, .int .i64 0, .int .i64 0, .int .i64 0, .int .i64 0, .slice none 0 0, .string (S x1), .string (S z1), .int .i64 0, .bool false, .slice none 0 0] 29) := Lib.hid q1
  have K1 := Lib.hid (K0.out.trans k1)
  have S1 := Lib.hid s1
  clear p1 q1 k1 s1
  have cc2 := Lib.hid (r_number s a1 e1 p q 11 _ _ w1.drew HL.out HP1.out HQ1.out hpq rfl)
  go_wp2_with fail
  go_region_with (go_at_call 12; refine cc2.out.use ?_; intro w2 v2 a2 e2 p2 q2 k2 s2)
  have HP2 := Lib.hid p2
  have HQ2 : Hid (Blk w2 q #[.int .i64 8, .string (S []), .int .i64 0, .int .i64 0, .int .i64 0, .int .i64 0, .int .i64 0, .int .i64 0, .slice none 0 0, .string (S x1), .string (S z1), .int .i64 v2, .bool false, .slice none 0 0] 29) := Lib.hid q2
  have K2 := Lib.hid (K1.out.drew'.trans k2)
  have S2 := Lib.hid s2
  clear p2 q2 k2 s2
  go_wp2_with fail
  first | refine bodyPost_end (results_none rfl _ _ _) rfl ?_ | refine bodyPost_ret (results_none rfl _ _ _) rfl ?_
  have : x1.length ≤ 16 := S1.out.2.1
  have : z1.length ≤ 16 := S1.out.2.2
  refine hR.out _ ⟨8, [], 0, 0, 0, 0, 0, 0, [], x1, z1, v2, false, []⟩ (.slice none 0 0) (.slice none 0 0) a2 e2 ⟨rfl, ⟨.inl ⟨rfl, _, _, rfl⟩, .inl ⟨rfl, _, _, rfl⟩⟩, ⟨(by unfold maxLen; simp <;> omega), (by unfold maxLen; simp <;> omega), (by unfold maxLen; simp <;> omega), ⟨by simp, by simp⟩, ⟨by simp, by simp⟩⟩, HP2.out, HQ2.out, K2.out, by simp [Value.ownBlock], by simp [Value.ownBlock], fun y b h0 hk hok hat => ?_⟩
  have ok := ccheck_ok hok
  have hr := ccheck_rest hok
  obtain ⟨yk, ytopic, ypn, yn, yoff, ybp, ybe, ybq, yrecs, ygroup, ymember, ygen, yrobin, ytops⟩ := y
  dsimp only at hk
  subst hk
  simp [hasF, fclr, crest, zcmd] at hr
  have hat2 : At s a ((vtxt ygroup ++ vtxt ymember) ++ (vput ygen.toNat)) b := by simpa [hasF, ftxt] using hat
  obtain ⟨h1, g1⟩ := hat2.split
  obtain ⟨m1, b1, f1⟩ := S1.out.1.full (ygroup, ymember) _ h0 ⟨ok.group, ok.member⟩ h1
  rw [← b1] at g1
  obtain ⟨m2, b2, f2⟩ := S2.out.full _ _ f1 (numB_rng ok.gen) g1
  exact ⟨by simp_all, b2, f2⟩
set_option maxHeartbeats 2000000 in
set_option maxRecDepth 100000 in
theorem r_visit9 (s : List UInt8) (a e : Int) (p q : Nat) (w : World) (hl9 : s.length ≤ 900000) (hp : Blk w p (rdr s a e) 48) (hq : Blk w q #[.int .i64 9, .string (S []), .int .i64 0, .int .i64 0, .int .i64 0, .int .i64 0, .int .i64 0, .int .i64 0, .slice none 0 0, .string (S []), .string (S []), .int .i64 0, .bool false, .slice none 0 0] 29) (hpq : p ≠ q) : RVis s p q 9 a e w := by
  refine RVis.intro fun R hR => ?_
  have HL : Hid (s.length ≤ maxLen) := Lib.hid (by unfold maxLen; omega)
  have K0 := Lib.hid (KeptR.refl [p, q] w)
  have HP0 := Lib.hid hp
  have HQ0 := Lib.hid hq
  obtain ⟨kq0, x0⟩ : q < w.heap.size ∧ w.cell? ⟨q, 0, none⟩ = some (.int .i64 9) := ⟨hq.lt, hq.cell 0⟩
  clear hp hq
  have n_name := na_r_name
  have m_name := me_r_name
  have n_number := na_r_number
  have m_number := me_r_number
  have n_flag := na_r_flag
  have m_flag := me_r_flag
  have n_batch := na_r_batch
  have m_batch := me_r_batch
  have n_names := na_r_names
  have m_names := me_r_names
  go_enter Tryz.func13, Tryz.ntmps13
  have cc1 := Lib.hid (r_member s a e p q _ _ w HL.out HP0.out HQ0.out hpq rfl rfl)
  go_wp2_with fail
  refine cc1.out.use ?_
  intro w1 v1 a1 e1 p1 q1 k1 s1
  obtain ⟨x1, z1⟩ := v1
  have HP1 := Lib.hid p1
  have HQ1 : Hid (Blk w1 q #[.int .i64 9, .string (S []), .int .i64 0, .int .i64 0, .int .i64 0, .int .i64 0, .int .i64 0, .int .i64 0, .slice none 0 0, .string (S x1), .string (S z1), .int .i64 0, .bool false, .slice none 0 0] 29) := Lib.hid q1
  have K1 := Lib.hid (K0.out.trans k1)
  have S1 := Lib.hid s1
  clear p1 q1 k1 s1
  have cc2 := Lib.hid (r_number s a1 e1 p q 11 _ _ w1.drew HL.out HP1.out HQ1.out hpq rfl)
  go_wp2_with fail
  go_region_with (go_at_call 12; refine cc2.out.use ?_; intro w2 v2 a2 e2 p2 q2 k2 s2)
  have HP2 := Lib.hid p2
  have HQ2 : Hid (Blk w2 q #[.int .i64 9, .string (S []), .int .i64 0, .int .i64 0, .int .i64 0, .int .i64 0, .int .i64 0, .int .i64 0, .slice none 0 0, .string (S x1), .string (S z1), .int .i64 v2, .bool false, .slice none 0 0] 29) := Lib.hid q2
  have K2 := Lib.hid (K1.out.drew'.trans k2)
  have S2 := Lib.hid s2
  clear p2 q2 k2 s2
  go_wp2_with fail
  first | refine bodyPost_end (results_none rfl _ _ _) rfl ?_ | refine bodyPost_ret (results_none rfl _ _ _) rfl ?_
  have : x1.length ≤ 16 := S1.out.2.1
  have : z1.length ≤ 16 := S1.out.2.2
  refine hR.out _ ⟨9, [], 0, 0, 0, 0, 0, 0, [], x1, z1, v2, false, []⟩ (.slice none 0 0) (.slice none 0 0) a2 e2 ⟨rfl, ⟨.inl ⟨rfl, _, _, rfl⟩, .inl ⟨rfl, _, _, rfl⟩⟩, ⟨(by unfold maxLen; simp <;> omega), (by unfold maxLen; simp <;> omega), (by unfold maxLen; simp <;> omega), ⟨by simp, by simp⟩, ⟨by simp, by simp⟩⟩, HP2.out, HQ2.out, K2.out, by simp [Value.ownBlock], by simp [Value.ownBlock], fun y b h0 hk hok hat => ?_⟩
  have ok := ccheck_ok hok
  have hr := ccheck_rest hok
  obtain ⟨yk, ytopic, ypn, yn, yoff, ybp, ybe, ybq, yrecs, ygroup, ymember, ygen, yrobin, ytops⟩ := y
  dsimp only at hk
  subst hk
  simp [hasF, fclr, crest, zcmd] at hr
  have hat2 : At s a ((vtxt ygroup ++ vtxt ymember) ++ (vput ygen.toNat)) b := by simpa [hasF, ftxt] using hat
  obtain ⟨h1, g1⟩ := hat2.split
  obtain ⟨m1, b1, f1⟩ := S1.out.1.full (ygroup, ymember) _ h0 ⟨ok.group, ok.member⟩ h1
  rw [← b1] at g1
  obtain ⟨m2, b2, f2⟩ := S2.out.full _ _ f1 (numB_rng ok.gen) g1
  exact ⟨by simp_all, b2, f2⟩
set_option maxHeartbeats 2000000 in
set_option maxRecDepth 100000 in
theorem r_visit10 (s : List UInt8) (a e : Int) (p q : Nat) (w : World) (hl9 : s.length ≤ 900000) (hp : Blk w p (rdr s a e) 48) (hq : Blk w q #[.int .i64 10, .string (S []), .int .i64 0, .int .i64 0, .int .i64 0, .int .i64 0, .int .i64 0, .int .i64 0, .slice none 0 0, .string (S []), .string (S []), .int .i64 0, .bool false, .slice none 0 0] 29) (hpq : p ≠ q) : RVis s p q 10 a e w := by
  refine RVis.intro fun R hR => ?_
  have HL : Hid (s.length ≤ maxLen) := Lib.hid (by unfold maxLen; omega)
  have K0 := Lib.hid (KeptR.refl [p, q] w)
  have HP0 := Lib.hid hp
  have HQ0 := Lib.hid hq
  obtain ⟨kq0, x0⟩ : q < w.heap.size ∧ w.cell? ⟨q, 0, none⟩ = some (.int .i64 10) := ⟨hq.lt, hq.cell 0⟩
  clear hp hq
  have n_name := na_r_name
  have m_name := me_r_name
  have n_number := na_r_number
  have m_number := me_r_number
  have n_flag := na_r_flag
  have m_flag := me_r_flag
  have n_batch := na_r_batch
  have m_batch := me_r_batch
  have n_names := na_r_names
  have m_names := me_r_names
  go_enter Tryz.func13, Tryz.ntmps13
  have cc1 := Lib.hid (r_member s a e p q _ _ w HL.out HP0.out HQ0.out hpq rfl rfl)
  go_wp2_with fail
  refine cc1.out.use ?_
  intro w1 v1 a1 e1 p1 q1 k1 s1
  obtain ⟨x1, z1⟩ := v1
  have HP1 := Lib.hid p1
  have HQ1 : Hid (Blk w1 q #[.int .i64 10, .string (S []), .int .i64 0, .int .i64 0, .int .i64 0, .int .i64 0, .int .i64 0, .int .i64 0, .slice none 0 0, .string (S x1), .string (S z1), .int .i64 0, .bool false, .slice none 0 0] 29) := Lib.hid q1
  have K1 := Lib.hid (K0.out.trans k1)
  have S1 := Lib.hid s1
  clear p1 q1 k1 s1
  have cc2 := Lib.hid (r_number s a1 e1 p q 11 _ _ w1.drew HL.out HP1.out HQ1.out hpq rfl)
  go_wp2_with fail
  go_region_with (go_at_call 12; refine cc2.out.use ?_; intro w2 v2 a2 e2 p2 q2 k2 s2)
  have HP2 := Lib.hid p2
  have HQ2 : Hid (Blk w2 q #[.int .i64 10, .string (S []), .int .i64 0, .int .i64 0, .int .i64 0, .int .i64 0, .int .i64 0, .int .i64 0, .slice none 0 0, .string (S x1), .string (S z1), .int .i64 v2, .bool false, .slice none 0 0] 29) := Lib.hid q2
  have K2 := Lib.hid (K1.out.drew'.trans k2)
  have S2 := Lib.hid s2
  clear p2 q2 k2 s2
  have cc3 := Lib.hid (r_part s a2 e2 p q 1 _ _ w2 HL.out HP2.out HQ2.out hpq rfl rfl)
  go_wp2_with fail
  refine cc3.out.use ?_
  intro w3 v3 a3 e3 p3 q3 k3 s3
  obtain ⟨x3, z3⟩ := v3
  have HP3 := Lib.hid p3
  have HQ3 : Hid (Blk w3 q #[.int .i64 10, .string (S x3), .int .i64 z3, .int .i64 0, .int .i64 0, .int .i64 0, .int .i64 0, .int .i64 0, .slice none 0 0, .string (S x1), .string (S z1), .int .i64 v2, .bool false, .slice none 0 0] 29) := Lib.hid q3
  have K3 := Lib.hid (K2.out.trans k3)
  have S3 := Lib.hid s3
  clear p3 q3 k3 s3
  have cc4 := Lib.hid (r_number s a3 e3 p q 4 _ _ w3.drew HL.out HP3.out HQ3.out hpq rfl)
  go_wp2_with fail
  go_region_with (go_at_call 12; refine cc4.out.use ?_; intro w4 v4 a4 e4 p4 q4 k4 s4)
  have HP4 := Lib.hid p4
  have HQ4 : Hid (Blk w4 q #[.int .i64 10, .string (S x3), .int .i64 z3, .int .i64 0, .int .i64 v4, .int .i64 0, .int .i64 0, .int .i64 0, .slice none 0 0, .string (S x1), .string (S z1), .int .i64 v2, .bool false, .slice none 0 0] 29) := Lib.hid q4
  have K4 := Lib.hid (K3.out.drew'.trans k4)
  have S4 := Lib.hid s4
  clear p4 q4 k4 s4
  go_wp2_with fail
  first | refine bodyPost_end (results_none rfl _ _ _) rfl ?_ | refine bodyPost_ret (results_none rfl _ _ _) rfl ?_
  have : x1.length ≤ 16 := S1.out.2.1
  have : z1.length ≤ 16 := S1.out.2.2
  have : x3.length ≤ 16 := S3.out.2
  refine hR.out _ ⟨10, x3, z3, 0, v4, 0, 0, 0, [], x1, z1, v2, false, []⟩ (.slice none 0 0) (.slice none 0 0) a4 e4 ⟨rfl, ⟨.inl ⟨rfl, _, _, rfl⟩, .inl ⟨rfl, _, _, rfl⟩⟩, ⟨(by unfold maxLen; simp <;> omega), (by unfold maxLen; simp <;> omega), (by unfold maxLen; simp <;> omega), ⟨by simp, by simp⟩, ⟨by simp, by simp⟩⟩, HP4.out, HQ4.out, K4.out, by simp [Value.ownBlock], by simp [Value.ownBlock], fun y b h0 hk hok hat => ?_⟩
  have ok := ccheck_ok hok
  have hr := ccheck_rest hok
  obtain ⟨yk, ytopic, ypn, yn, yoff, ybp, ybe, ybq, yrecs, ygroup, ymember, ygen, yrobin, ytops⟩ := y
  dsimp only at hk
  subst hk
  simp [hasF, fclr, crest, zcmd] at hr
  have hat2 : At s a ((vtxt ygroup ++ vtxt ymember) ++ (vput ygen.toNat ++ ((vtxt ytopic ++ vput ypn.toNat) ++ (vput yoff.toNat)))) b := by simpa [hasF, ftxt] using hat
  obtain ⟨h1, g1⟩ := hat2.split
  obtain ⟨m1, b1, f1⟩ := S1.out.1.full (ygroup, ymember) _ h0 ⟨ok.group, ok.member⟩ h1
  rw [← b1] at g1
  obtain ⟨h2, g2⟩ := g1.split
  obtain ⟨m2, b2, f2⟩ := S2.out.full _ _ f1 (numB_rng ok.gen) h2
  rw [← b2] at g2
  obtain ⟨h3, g3⟩ := g2.split
  obtain ⟨m3, b3, f3⟩ := S3.out.1.full (ytopic, ypn) _ f2 ⟨ok.topic, numB_rng ok.pn⟩ h3
  rw [← b3] at g3
  obtain ⟨m4, b4, f4⟩ := S4.out.full _ _ f3 (numB_rng ok.off) g3
  exact ⟨by simp_all, b4, f4⟩
set_option maxHeartbeats 2000000 in
set_option maxRecDepth 100000 in
theorem r_visit11 (s : List UInt8) (a e : Int) (p q : Nat) (w : World) (hl9 : s.length ≤ 900000) (hp : Blk w p (rdr s a e) 48) (hq : Blk w q #[.int .i64 11, .string (S []), .int .i64 0, .int .i64 0, .int .i64 0, .int .i64 0, .int .i64 0, .int .i64 0, .slice none 0 0, .string (S []), .string (S []), .int .i64 0, .bool false, .slice none 0 0] 29) (hpq : p ≠ q) : RVis s p q 11 a e w := by
  refine RVis.intro fun R hR => ?_
  have HL : Hid (s.length ≤ maxLen) := Lib.hid (by unfold maxLen; omega)
  have K0 := Lib.hid (KeptR.refl [p, q] w)
  have HP0 := Lib.hid hp
  have HQ0 := Lib.hid hq
  obtain ⟨kq0, x0⟩ : q < w.heap.size ∧ w.cell? ⟨q, 0, none⟩ = some (.int .i64 11) := ⟨hq.lt, hq.cell 0⟩
  clear hp hq
  have n_name := na_r_name
  have m_name := me_r_name
  have n_number := na_r_number
  have m_number := me_r_number
  have n_flag := na_r_flag
  have m_flag := me_r_flag
  have n_batch := na_r_batch
  have m_batch := me_r_batch
  have n_names := na_r_names
  have m_names := me_r_names
  go_enter Tryz.func13, Tryz.ntmps13
  have cc1 := Lib.hid (r_name s a e p q 9 _ _ w.drew HL.out HP0.out HQ0.out hpq rfl)
  go_wp2_with fail
  go_region_with (go_at_call 99; refine cc1.out.use ?_; intro w1 v1 a1 e1 p1 q1 k1 s1)
  have HP1 := Lib.hid p1
  have HQ1 : Hid (Blk w1 q #[.int .i64 11, .string (S []), .int .i64 0, .int .i64 0, .int .i64 0, .int .i64 0, .int .i64 0, .int .i64 0, .slice none 0 0, .string (S v1), .string (S []), .int .i64 0, .bool false, .slice none 0 0] 29) := Lib.hid q1
  have K1 := Lib.hid (K0.out.drew'.trans k1)
  have S1 := Lib.hid s1
  clear p1 q1 k1 s1
  have cc2 := Lib.hid (r_part s a1 e1 p q 1 _ _ w1 HL.out HP1.out HQ1.out hpq rfl rfl)
  go_wp2_with fail
  refine cc2.out.use ?_
  intro w2 v2 a2 e2 p2 q2 k2 s2
  obtain ⟨x2, z2⟩ := v2
  have HP2 := Lib.hid p2
  have HQ2 : Hid (Blk w2 q #[.int .i64 11, .string (S x2), .int .i64 z2, .int .i64 0, .int .i64 0, .int .i64 0, .int .i64 0, .int .i64 0, .slice none 0 0, .string (S v1), .string (S []), .int .i64 0, .bool false, .slice none 0 0] 29) := Lib.hid q2
  have K2 := Lib.hid (K1.out.trans k2)
  have S2 := Lib.hid s2
  clear p2 q2 k2 s2
  go_wp2_with fail
  first | refine bodyPost_end (results_none rfl _ _ _) rfl ?_ | refine bodyPost_ret (results_none rfl _ _ _) rfl ?_
  have := S1.out.2
  have : x2.length ≤ 16 := S2.out.2
  refine hR.out _ ⟨11, x2, z2, 0, 0, 0, 0, 0, [], v1, [], 0, false, []⟩ (.slice none 0 0) (.slice none 0 0) a2 e2 ⟨rfl, ⟨.inl ⟨rfl, _, _, rfl⟩, .inl ⟨rfl, _, _, rfl⟩⟩, ⟨(by unfold maxLen; simp <;> omega), (by unfold maxLen; simp <;> omega), (by unfold maxLen; simp <;> omega), ⟨by simp, by simp⟩, ⟨by simp, by simp⟩⟩, HP2.out, HQ2.out, K2.out, by simp [Value.ownBlock], by simp [Value.ownBlock], fun y b h0 hk hok hat => ?_⟩
  have ok := ccheck_ok hok
  have hr := ccheck_rest hok
  obtain ⟨yk, ytopic, ypn, yn, yoff, ybp, ybe, ybq, yrecs, ygroup, ymember, ygen, yrobin, ytops⟩ := y
  dsimp only at hk
  subst hk
  simp [hasF, fclr, crest, zcmd] at hr
  have hat2 : At s a (vtxt ygroup ++ ((vtxt ytopic ++ vput ypn.toNat))) b := by simpa [hasF, ftxt] using hat
  obtain ⟨h1, g1⟩ := hat2.split
  obtain ⟨m1, b1, f1⟩ := S1.out.1.full _ _ h0 ok.group h1
  rw [← b1] at g1
  obtain ⟨m2, b2, f2⟩ := S2.out.1.full (ytopic, ypn) _ f1 ⟨ok.topic, numB_rng ok.pn⟩ g1
  exact ⟨by simp_all, b2, f2⟩
set_option maxHeartbeats 2000000 in
set_option maxRecDepth 100000 in
theorem r_visit12 (s : List UInt8) (a e : Int) (p q : Nat) (w : World) (hl9 : s.length ≤ 900000) (hp : Blk w p (rdr s a e) 48) (hq : Blk w q #[.int .i64 12, .string (S []), .int .i64 0, .int .i64 0, .int .i64 0, .int .i64 0, .int .i64 0, .int .i64 0, .slice none 0 0, .string (S []), .string (S []), .int .i64 0, .bool false, .slice none 0 0] 29) (hpq : p ≠ q) : RVis s p q 12 a e w := by
  refine RVis.intro fun R hR => ?_
  have HL : Hid (s.length ≤ maxLen) := Lib.hid (by unfold maxLen; omega)
  have K0 := Lib.hid (KeptR.refl [p, q] w)
  have HP0 := Lib.hid hp
  have HQ0 := Lib.hid hq
  obtain ⟨kq0, x0⟩ : q < w.heap.size ∧ w.cell? ⟨q, 0, none⟩ = some (.int .i64 12) := ⟨hq.lt, hq.cell 0⟩
  clear hp hq
  have n_name := na_r_name
  have m_name := me_r_name
  have n_number := na_r_number
  have m_number := me_r_number
  have n_flag := na_r_flag
  have m_flag := me_r_flag
  have n_batch := na_r_batch
  have m_batch := me_r_batch
  have n_names := na_r_names
  have m_names := me_r_names
  go_enter Tryz.func13, Tryz.ntmps13
  have cc1 := Lib.hid (r_number s a e p q 3 _ _ w.drew HL.out HP0.out HQ0.out hpq rfl)
  go_wp2_with fail
  go_region_with (go_at_call 12; refine cc1.out.use ?_; intro w1 v1 a1 e1 p1 q1 k1 s1)
  have HP1 := Lib.hid p1
  have HQ1 : Hid (Blk w1 q #[.int .i64 12, .string (S []), .int .i64 0, .int .i64 v1, .int .i64 0, .int .i64 0, .int .i64 0, .int .i64 0, .slice none 0 0, .string (S []), .string (S []), .int .i64 0, .bool false, .slice none 0 0] 29) := Lib.hid q1
  have K1 := Lib.hid (K0.out.drew'.trans k1)
  have S1 := Lib.hid s1
  clear p1 q1 k1 s1
  go_wp2_with fail
  first | refine bodyPost_end (results_none rfl _ _ _) rfl ?_ | refine bodyPost_ret (results_none rfl _ _ _) rfl ?_
  refine hR.out _ ⟨12, [], 0, v1, 0, 0, 0, 0, [], [], [], 0, false, []⟩ (.slice none 0 0) (.slice none 0 0) a1 e1 ⟨rfl, ⟨.inl ⟨rfl, _, _, rfl⟩, .inl ⟨rfl, _, _, rfl⟩⟩, ⟨(by unfold maxLen; simp <;> omega), (by unfold maxLen; simp <;> omega), (by unfold maxLen; simp <;> omega), ⟨by simp, by simp⟩, ⟨by simp, by simp⟩⟩, HP1.out, HQ1.out, K1.out, by simp [Value.ownBlock], by simp [Value.ownBlock], fun y b h0 hk hok hat => ?_⟩
  have ok := ccheck_ok hok
  have hr := ccheck_rest hok
  obtain ⟨yk, ytopic, ypn, yn, yoff, ybp, ybe, ybq, yrecs, ygroup, ymember, ygen, yrobin, ytops⟩ := y
  dsimp only at hk
  subst hk
  simp [hasF, fclr, crest, zcmd] at hr
  have hat2 : At s a (vput yn.toNat) b := by simpa [hasF, ftxt] using hat
  obtain ⟨m1, b1, f1⟩ := S1.out.full _ _ h0 (numB_rng ok.n) hat2
  exact ⟨by simp_all, b1, f1⟩
end Go.Proofs.YthiliodmbipikaaGreat
