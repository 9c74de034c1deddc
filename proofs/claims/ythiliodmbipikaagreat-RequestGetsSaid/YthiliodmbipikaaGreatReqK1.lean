import Derived.Test.YthiliodmbipikaaGreatReqF
import Derived.Test.YthiliodmbipikaaGreatRecP1
import Derived.Test.YthiliodmbipikaaGreatRecL
/-
  Several texts in one: ReqK, ReqL, ReqM, ReqN.
-/
set_option linter.unusedVariables false
set_option linter.unusedSimpArgs false
namespace Go.Proofs.YthiliodmbipikaaGreat
open Go.RowKit
attribute [local go_sem] ByteArray.extract_mk ByteArray.mk_append_mk

/-- A reader's cells. -/
def rdr (s : List UInt8) (a e : Int) : Array Value := #[.string (S s), .int .i64 a, .int .i64 e]
/-- A reader's call: what is read lies there; the reader has moved. -/
def RC {α : Type} (f : FuncId) (args : Array Value) (w : World) (s : List UInt8) (p q : Nat) (T : TypeId) (upd : α → Array Value) (St : α → Int → Int → World → Prop) : Prop :=
  Calls Tryz.prog f args w fun x w' => x = .returned (.tuple #[]) ∧ ∃ v a' e', Blk w' p (rdr s a' e') 48 ∧ Blk w' q (upd v) T ∧ KeptR [p, q] w w' ∧ St v a' e' w'
section
variable {α : Type} {f : FuncId} {args : Array Value} {w : World} {s : List UInt8} {p q : Nat} {T : TypeId} {upd : α → Array Value} {St : α → Int → Int → World → Prop}
theorem RC.intro (h : ∀ R : Ending → World → Prop, Hid (∀ w' v a' e', Blk w' p (rdr s a' e') 48 → Blk w' q (upd v) T → KeptR [p, q] w w' → St v a' e' w' → R (.returned (.tuple #[])) w') → Calls Tryz.prog f args w R) : RC f args w s p q T upd St :=
  h _ fun w' v a' e' h1 h2 h3 h4 => ⟨rfl, v, a', e', h1, h2, h3, h4⟩
theorem RC.use {R : Ending → World → Prop} (h : RC f args w s p q T upd St)
    (k : ∀ w' v a' e', Blk w' p (rdr s a' e') 48 → Blk w' q (upd v) T → KeptR [p, q] w w' → St v a' e' w' → R (.returned (.tuple #[])) w') : Calls Tryz.prog f args w R :=
  h.mono fun x w' ⟨he, v, a', e', h1, h2, h3, h4⟩ => by subst he; exact k w' v a' e' h1 h2 h3 h4
end
/-- A step of a reader: what stands there is read; who reads without fault has moved. -/
structure Step {α : Type} (s : List UInt8) (enc : α → List UInt8) (good : α → Prop) (a e : Int) (x : α) (a' e' : Int) : Prop where
  full : ∀ y b, e = 0 → good y → At s a (enc y) b → x = y ∧ a' = b ∧ e' = 0
  go : e' = 0 → e = 0 ∧ 0 ≤ a ∧ a < a' ∧ a' ≤ s.length
/-- moved: where, what is wrong. -/
def mv (a e to e2 : Int) : Int × Int × Bool := if e = 0 then (to, e2, decide (e2 = 0)) else (a, e, false)
theorem set_same {cs : Array Value} {o : Nat} {v : Value} (h : cs[o]? = some v) : cs.setIfInBounds o v = cs := by
  apply Array.ext_getElem?
  intro i
  rw [Array.getElem?_setIfInBounds]
  split
  · rename_i hi
    subst hi
    rw [h]
    obtain ⟨hl, _⟩ := Array.getElem?_eq_some_iff.1 h
    simp [hl]
  · rfl
set_option maxHeartbeats 1000000 in
set_option maxRecDepth 100000 in
theorem moved4 {a e to e2 a' e' : Int} {bb : Bool} (hm : mv a e to e2 = (a', e', bb)) (s : List UInt8) (p : Nat) (w : World) (hp : Blk w p (rdr s a e) 48) :
    Calls Tryz.prog 31 #[.pointer (some ⟨p, 0, none⟩), .int .i64 to, .int .i64 e2] w fun x w' => x = .returned (.bool bb) ∧ Blk w' p (rdr s a' e') 48 ∧ KeptR [p] w w' := by
  have key : ∀ R : Ending → World → Prop, Hid (∀ w', Blk w' p (rdr s a' e') 48 → KeptR [p] w w' → R (.returned (.bool bb)) w') → Calls Tryz.prog 31 #[.pointer (some ⟨p, 0, none⟩), .int .i64 to, .int .i64 e2] w R := by
    intro R hR
    unfold rdr at hp
    obtain ⟨k0, x0, x1, x2⟩ := hp.c3
    have fp : ∀ i, w.frozen? ⟨p, i, none⟩ = false := fun i => Blk.frozen hp i
    have HP := Lib.hid hp
    clear hp
    unfold mv at hm
    by_cases he : e = 0
    · subst he
      simp only [if_true, Prod.mk.injEq] at hm
      obtain ⟨rfl, rfl, hb⟩ := hm
      have HB : (e2 == 0) = bb := hb
      clear hb
      go_enter Tryz.func31, Tryz.ntmps31
      go_wp2_with fail
      refine hR.out _ ?_ (((KeptR.refl [p] w).set (by simp) _ _).set (by simp) _ _)
      exact (HP.out.set 1 _).set 2 _
    · rw [if_neg he] at hm
      simp only [Prod.mk.injEq] at hm
      obtain ⟨rfl, rfl, rfl⟩ := hm
      have t1 : (e = 0) = False := eq_false he
      have t2 : (e == 0) = false := decide_eq_false he
      clear he
      go_enter Tryz.func31, Tryz.ntmps31
      go_wp2_with fail
      exact hR.out _ HP.out (KeptR.refl _ _)
  exact key _ fun w' h1 h2 => ⟨rfl, h1, h2⟩
theorem KeptR.more {bs cs : List Nat} {w W : World} (h : KeptR bs w W) (hs : ∀ b ∈ bs, b ∈ cs) : KeptR cs w W :=
  ⟨h.os, h.tape, h.output, h.size, fun i hi hn => h.block i hi fun hm => hn (hs i hm)⟩
theorem Blk.keptR {bs : List Nat} {w W : World} {b : Nat} {cs : Array Value} {T : TypeId} (h : Blk w b cs T) (k : KeptR bs w W) (hb : b ∉ bs) : Blk W b cs T := (k.block b h.lt hb).trans h
theorem step_num {s : List UInt8} {a e to e2 a' e' : Int} {n : Nat} {bb : Bool} (hv : vget s a = (n, to, e2)) (hm : mv a e to e2 = (a', e', bb)) :
    Step s vput (fun n => n < 9223372036854775808) a e (if bb then n else 0) a' e' ∧ (bb = true → e' = 0) := by
  have hbd := vget_bd s a
  rw [hv] at hbd
  obtain ⟨h1, h2, h3, _⟩ := hbd
  dsimp only at h1 h2 h3
  unfold mv at hm
  by_cases he : e = 0
  · rw [if_pos he] at hm
    simp only [Prod.mk.injEq] at hm
    obtain ⟨rfl, rfl, rfl⟩ := hm
    refine ⟨⟨?_, fun h => ⟨he, h2 h⟩⟩, fun h => by simpa using h⟩
    intro y b _ hy hat
    have := at_vget hat (by omega)
    rw [hv] at this
    simp only [Prod.mk.injEq] at this
    obtain ⟨rfl, rfl, rfl⟩ := this
    simp
  · rw [if_neg he] at hm
    simp only [Prod.mk.injEq] at hm
    obtain ⟨rfl, rfl, rfl⟩ := hm
    exact ⟨⟨fun y b h => absurd h he, fun h => absurd h he⟩, fun h => by simp at h⟩
/-- What stands for a number in Go's int. -/
theorem wrap_small {n : Nat} (h : n < 9223372036854775808) : wrap64 (n : Int) = n := by unfold wrap64; omega
/-- A number, read. -/
def NumR (s : List UInt8) (a e : Int) : Int → Int → Int → World → Prop := fun v a' e' _ => Step s (fun n : Int => vput n.toNat) (fun n => 0 ≤ n ∧ n ≤ 1099511627776) a e v a' e'
set_option maxHeartbeats 1000000 in
set_option maxRecDepth 100000 in
theorem r_number (s : List UInt8) (a e : Int) (p q o : Nat) (cs : Array Value) (T : TypeId) (w : World) (hl : s.length ≤ maxLen) (hp : Blk w p (rdr s a e) 48) (hq : Blk w q cs T) (hpq : p ≠ q) (ho : cs[o]? = some (.int .i64 0)) :
    RC 12 #[.pointer (some ⟨p, 0, none⟩), .pointer (some ⟨q, o, none⟩)] w s p q T (fun v : Int => cs.setIfInBounds o (.int .i64 v)) (NumR s a e) := by
  refine RC.intro fun R hR => ?_
  obtain ⟨⟨n, to, e2⟩, hv⟩ : ∃ m, vget s a = m := ⟨_, rfl⟩
  obtain ⟨⟨a', e', bb⟩, hm⟩ : ∃ m, mv a e to e2 = m := ⟨_, rfl⟩
  obtain ⟨hs1, hs2⟩ := step_num hv hm
  have hn := (vget_bd s a).1
  rw [hv] at hn
  dsimp only at hn
  have ST : Hid (NumR s a e (if bb then wrap64 (n : Int) else 0) a' e' w) := Lib.hid ⟨fun y b h0 hy hat => by
    obtain ⟨h1, h2, h3⟩ := hs1.full y.toNat b h0 (by omega) hat
    refine ⟨?_, h2, h3⟩
    cases bb
    · simp at h1 ⊢; omega
    · simp only [if_true] at h1 ⊢
      rw [wrap_small (by omega)]; omega, hs1.go⟩
  have cG := Lib.hid (fun w => vget_eq hv w hl)
  have cM := Lib.hid (fun W => moved4 hm s p W)
  have y0 := (hq.cell o).trans ho
  have kq := hq.lt
  have fq : ∀ i, w.frozen? ⟨q, i, none⟩ = false := fun i => Blk.frozen hq i
  have HO := Lib.hid ho
  have HQ := Lib.hid hq
  have HP := Lib.hid hp
  have hp0 := hp
  unfold rdr at hp0
  obtain ⟨k0, x0, x1, x2⟩ := hp0.c3
  clear hp0 hp hq ho hs1 hs2 hv hm hl
  go_enter Tryz.func12, Tryz.ntmps12
  go_wp2_with fail
  go_region_with (go_at_call 30; refine (cG.out _).use ?_)
  all_goals go_wp2_with fail
  all_goals (refine (cM.out w.drew HP.out).mono ?_; rintro x w2 ⟨rfl, p2, g2'⟩; have g2 := (KeptR.refl [p] w).drew'.trans g2'; clear g2')
  all_goals
    have q2 := HQ.out.keptR g2 (by simp; exact fun h => hpq h.symm)
    have kq2 := q2.lt
    have y2 := (q2.cell o).trans HO.out
    have fq2 : ∀ i, w2.frozen? ⟨q, i, none⟩ = false := fun i => Blk.frozen q2 i
    have hp2 := Lib.hid p2
    have hq2 := Lib.hid q2
    have hg2 := Lib.hid g2
    clear p2 q2 g2
    cases bb
    · go_wp2_with fail
      refine bodyPost_end (results_none rfl _ _ _) rfl ?_
      exact hR.out _ 0 a' e' hp2.out (by rw [set_same HO.out]; exact hq2.out) (hg2.out.more (by simp)) ST.out
    · go_wp2_with fail
      refine bodyPost_end (results_none rfl _ _ _) rfl ?_
      exact hR.out _ _ a' e' (hp2.out.setOther hpq _) (hq2.out.set o _) ((hg2.out.more (by simp)).set (by simp) _ _) (show NumR s a e (wrap64 (n : Int)) a' e' w by simpa using ST.out)
end Go.Proofs.YthiliodmbipikaaGreat

set_option linter.unusedVariables false
set_option linter.unusedSimpArgs false
namespace Go.Proofs.YthiliodmbipikaaGreat
open Go.RowKit
attribute [local go_sem] ByteArray.extract_mk ByteArray.mk_append_mk

/-- A slice that lies in a block of its own, none of it frozen. -/
def OwnU (W : World) (v : Value) : Prop := ∀ b, v.ownBlock = some b → b < W.heap.size ∧ ∀ i, W.frozen? ⟨b, i, none⟩ = false
theorem OwnU.keptR {bs : List Nat} {w W : World} {v : Value} (h : OwnU w v) (k : KeptR bs w W) (ha : ∀ b, v.ownBlock = some b → b ∉ bs) : OwnU W v := fun b hb =>
  ⟨Nat.lt_of_lt_of_le (h b hb).1 k.size, fun i => (World.frozen?_of_block (a := ⟨b, i, none⟩) (k.block b (h b hb).1 (ha b hb))).trans ((h b hb).2 i)⟩
theorem ownsRow_u {w : World} {B size n : Nat} {e : TypeId} {v : Value} {xs : List Value} (h : w.ownsRow B e size v n xs) : OwnU w v := by
  rcases id h.2 with ⟨rfl, _⟩ | ⟨g, cap, cur, rfl, hbg, hg, rest⟩
  · intro b hb; simp [Value.ownBlock] at hb
  · intro b hb
    simp only [Value.ownBlock, Option.some.injEq] at hb
    subst hb
    exact ⟨(h.lt _ rfl).2, fun i => Blk.frozen (T := e) (cs := cur) hg i⟩
def RecsU (W : World) (v : Value) (l : List Rec) : Prop := RecsIn W v l ∧ OwnU W v
theorem RecsU.keptR {bs : List Nat} {w W : World} {v : Value} {l : List Rec} (h : RecsU w v l) (k : KeptR bs w W) (ha : ∀ b, v.ownBlock = some b → b ∉ bs) : RecsU W v l := ⟨h.1.keptR k ha, h.2.keptR k ha⟩
theorem RecsU.alloc {w : World} {v : Value} {l : List Rec} (h : RecsU w v l) (o : Obj) : RecsU (w.alloc o) v l := ⟨h.1.alloc o, fun b hb => ⟨by have := (h.2 b hb).1; simp; omega, fun i => (World.frozen?_of_block (a := ⟨b, i, none⟩) (heap_alloc_old w o (h.2 b hb).1)).trans ((h.2 b hb).2 i)⟩⟩
theorem KeptR.fresh {bs cs : List Nat} {w W : World} {o : Obj} (h : KeptR bs (w.alloc o) W) (hs : ∀ b ∈ bs, b ∈ cs ∨ w.heap.size ≤ b) : KeptR cs w W :=
  ⟨h.os, h.tape, h.output, by have := h.size; simp at this; omega, fun i hi hn => by
    have h1 := h.block i (by simp; omega) (fun hm => (hs i hm).elim hn (by omega))
    exact h1.trans (heap_alloc_old w o hi)⟩
theorem vget_bad {s : List UInt8} {a : Int} {n : Nat} {b e : Int} (h : vget s a = (n, b, e)) (he : e ≠ 0) : n = 0 := by
  have := (vget_bd s a).2.2.1
  rw [h] at this
  exact (this he).1
theorem vtxt_pos (l : List UInt8) : 1 ≤ (vtxt l).length := by
  have := vput_pos l.length
  unfold vtxt; rw [List.length_append]; omega
theorem step_txt {s l : List UInt8} {a e to e2 a' e' : Int} {bb : Bool} (hv : vtext s a 16 = (l, to, e2)) (hm : mv a e to e2 = (a', e', bb)) :
    Step s vtxt (fun l => l.length ≤ 16) a e (if bb then l else []) a' e' ∧ (bb = true → l.length ≤ 16) := by
  have hgo : e2 = 0 → 0 ≤ a ∧ a < to ∧ to ≤ s.length := by
    intro h
    subst h
    obtain ⟨h1, h2⟩ := vtext_at hv
    have h3 := vtxt_pos l
    obtain ⟨h4, h5, h6⟩ := h1.range
    omega
  have hle : e2 = 0 → l.length ≤ 16 := by
    intro h
    subst h
    have := (vtext_at hv).2
    omega
  unfold mv at hm
  by_cases he : e = 0
  · rw [if_pos he] at hm
    simp only [Prod.mk.injEq] at hm
    obtain ⟨rfl, rfl, rfl⟩ := hm
    refine ⟨⟨?_, fun h => ⟨he, hgo h⟩⟩, fun h => hle (by simpa using h)⟩
    intro y b _ hy hat
    have := at_vtext (most := 16) hat (by omega) (by omega)
    rw [hv] at this
    simp only [Prod.mk.injEq] at this
    obtain ⟨rfl, rfl, rfl⟩ := this
    simp
  · rw [if_neg he] at hm
    simp only [Prod.mk.injEq] at hm
    obtain ⟨rfl, rfl, rfl⟩ := hm
    exact ⟨⟨fun y b h => absurd h he, fun h => absurd h he⟩, fun h => by simp at h⟩
/-- A text, read. -/
def TxtR (s : List UInt8) (a e : Int) : List UInt8 → Int → Int → World → Prop := fun v a' e' _ => Step s vtxt (fun l => l.length ≤ 16) a e v a' e' ∧ v.length ≤ 16
set_option maxHeartbeats 1000000 in
set_option maxRecDepth 100000 in
theorem r_name (s : List UInt8) (a e : Int) (p q o : Nat) (cs : Array Value) (T : TypeId) (w : World) (hl : s.length ≤ maxLen) (hp : Blk w p (rdr s a e) 48) (hq : Blk w q cs T) (hpq : p ≠ q) (ho : cs[o]? = some (.string (S []))) :
    RC 99 #[.pointer (some ⟨p, 0, none⟩), .pointer (some ⟨q, o, none⟩)] w s p q T (fun v : List UInt8 => cs.setIfInBounds o (.string (S v))) (TxtR s a e) := by
  refine RC.intro fun R hR => ?_
  obtain ⟨⟨l, to, e2⟩, hv⟩ : ∃ m, vtext s a 16 = m := ⟨_, rfl⟩
  obtain ⟨⟨a', e', bb⟩, hm⟩ : ∃ m, mv a e to e2 = m := ⟨_, rfl⟩
  obtain ⟨hs1, hs2⟩ := step_txt hv hm
  have ST : Hid (TxtR s a e (if bb then l else []) a' e' w) := Lib.hid ⟨hs1, by cases bb <;> simp; exact hs2 rfl⟩
  have cG := Lib.hid (fun w => gettext_any s a 16 w hl (by omega))
  rw [hv] at cG
  have cM := Lib.hid (fun W => moved4 hm s p W)
  have y0 := (hq.cell o).trans ho
  have kq := hq.lt
  have fq : ∀ i, w.frozen? ⟨q, i, none⟩ = false := fun i => Blk.frozen hq i
  have HO := Lib.hid ho
  have HQ := Lib.hid hq
  have HP := Lib.hid hp
  have hp0 := hp
  unfold rdr at hp0
  obtain ⟨k0, x0, x1, x2⟩ := hp0.c3
  clear hp0 hp hq ho hs1 hs2 hv hm hl
  go_enter Tryz.func99, Tryz.ntmps99
  go_wp2_with fail
  go_region_with (go_at_call 80; refine (cG.out _).use ?_)
  all_goals go_wp2_with fail
  all_goals (refine (cM.out w.drew HP.out).mono ?_; rintro x w2 ⟨rfl, p2, g2'⟩; have g2 := (KeptR.refl [p] w).drew'.trans g2'; clear g2')
  all_goals
    have q2 := HQ.out.keptR g2 (by simp; exact fun h => hpq h.symm)
    have kq2 := q2.lt
    have y2 := (q2.cell o).trans HO.out
    have fq2 : ∀ i, w2.frozen? ⟨q, i, none⟩ = false := fun i => Blk.frozen q2 i
    have hp2 := Lib.hid p2
    have hq2 := Lib.hid q2
    have hg2 := Lib.hid g2
    clear p2 q2 g2
    cases bb
    · go_wp2_with fail
      refine bodyPost_end (results_none rfl _ _ _) rfl ?_
      exact hR.out _ [] a' e' hp2.out (by rw [set_same HO.out]; exact hq2.out) (hg2.out.more (by simp)) ST.out
    · go_wp2_with fail
      refine bodyPost_end (results_none rfl _ _ _) rfl ?_
      exact hR.out _ l a' e' (hp2.out.setOther hpq _) (hq2.out.set o _) ((hg2.out.more (by simp)).set (by simp) _ _) (show TxtR s a e l a' e' w by simpa using ST.out)
/-- A flag, read. -/
def FlagR (s : List UInt8) (a e : Int) : Bool → Int → Int → World → Prop := fun v a' e' _ => Step s (fun b : Bool => [if b then (1 : UInt8) else 0]) (fun _ => True) a e v a' e'
theorem step_flag {s : List UInt8} {a e a' e' n : Int} (h : Step s (fun n : Int => vput n.toNat) (fun n => 0 ≤ n ∧ n ≤ 1099511627776) a e n a' e') :
    Step s (fun b : Bool => [if b then (1 : UInt8) else 0]) (fun _ => True) a e (decide (n ≠ 0)) a' e' := by
  refine ⟨fun y b he _ hat => ?_, h.go⟩
  have h0 : vput 0 = [0] := by decide
  have h1 : vput 1 = [1] := by decide
  cases y
  · obtain ⟨h2, h3, h4⟩ := h.full 0 b he (by omega) (by simpa [h0] using hat)
    subst h2
    exact ⟨by simp, h3, h4⟩
  · obtain ⟨h2, h3, h4⟩ := h.full 1 b he (by omega) (by simpa [h1] using hat)
    subst h2
    exact ⟨by simp, h3, h4⟩
set_option maxHeartbeats 1000000 in
set_option maxRecDepth 100000 in
theorem r_flag (s : List UInt8) (a e : Int) (p q o : Nat) (cs : Array Value) (T : TypeId) (w : World) (hl : s.length ≤ maxLen) (hp : Blk w p (rdr s a e) 48) (hq : Blk w q cs T) (hpq : p ≠ q) (ho : cs[o]? = some (.bool false)) :
    RC 98 #[.pointer (some ⟨p, 0, none⟩), .pointer (some ⟨q, o, none⟩)] w s p q T (fun v : Bool => cs.setIfInBounds o (.bool v)) (FlagR s a e) := by
  refine RC.intro fun R hR => ?_
  have hlt := hp.lt
  have hltq := hq.lt
  have cN := Lib.hid (r_number s a e p w.heap.size 0 #[.int .i64 0] 3 (w.alloc (.cells #[.int .i64 0] 3)) hl (hp.alloc _) (Blk.new w _ _) (by omega) rfl)
  have HO := Lib.hid ho
  have HQ := Lib.hid (hq.alloc (.cells #[.int .i64 0] 3))
  clear hp hq ho
  go_enter Tryz.func98, Tryz.ntmps98
  go_wp2_with fail
  refine cN.out.use ?_
  intro w2 n a' e' p2 b2 g2 st
  have q2 := HQ.out.keptR g2 (by simp; omega)
  have kq2 := q2.lt
  have y2 := (q2.cell o).trans HO.out
  have fq2 : ∀ i, w2.frozen? ⟨q, i, none⟩ = false := fun i => Blk.frozen q2 i
  have z2 := b2.cell 0
  simp only [List.setIfInBounds_toArray, List.set_cons_zero, List.getElem?_toArray, List.getElem?_cons_zero] at z2
  have hp2 := Lib.hid p2
  have hq2 := Lib.hid q2
  have hg2 := Lib.hid (KeptR.fresh (cs := [p, q]) g2 (by simp))
  have hst := Lib.hid (step_flag st)
  clear p2 q2 g2 b2 st
  go_wp2_with fail
  refine bodyPost_end (results_none rfl _ _ _) rfl ?_
  refine hR.out _ _ a' e' (hp2.out.setOther hpq _) (hq2.out.set o _) (hg2.out.set (by simp) _ _) ?_
  have e0 : (n != 0) = decide (n ≠ 0) := by by_cases h : n = 0 <;> simp [h]
  rw [e0]
  exact hst.out
/-- A batch, read. -/
def BatR (B : Nat) (s : List UInt8) (a e : Int) : (Int × Int × Int × Value) → Int → Int → World → Prop := fun v a' e' w' => ∃ l : List Rec, RecsIn w' v.2.2.2 l ∧ RecsBd l ∧ (∀ b, v.2.2.2.ownBlock = some b → B ≤ b ∧ b < w'.heap.size ∧ ∀ i, w'.frozen? ⟨b, i, none⟩ = false) ∧
  (∀ p r q k b, e = 0 → rall p r q k = 0 → At s a (rbatch p r q k).1 b → (v.1 = p ∧ v.2.1 = r ∧ v.2.2.1 = q ∧ l = k) ∧ a' = b ∧ e' = 0)
theorem step_bat {s : List UInt8} {a e to e2 a' e' bp be bq : Int} {l : List Rec} {bb : Bool} (hv : mparse s a = ((bp, be, bq, l), to, e2)) (hm : mv a e to e2 = (a', e', bb)) {p r q b : Int} {k : List Rec} (h0 : e = 0) (hr : rall p r q k = 0) (hat : At s a (rbatch p r q k).1 b) :
    bb = true ∧ (bp = p ∧ be = r ∧ bq = q ∧ l = k) ∧ a' = b ∧ e' = 0 := by
  have := at_parse hr hat
  rw [hv] at this
  simp only [Prod.mk.injEq] at this
  obtain ⟨⟨rfl, rfl, rfl, rfl⟩, rfl, rfl⟩ := this
  unfold mv at hm
  rw [if_pos h0] at hm
  simp only [Prod.mk.injEq] at hm
  obtain ⟨rfl, rfl, rfl⟩ := hm
  simp
theorem rall_bd {p r q : Int} {k : List Rec} (h : rall p r q k = 0) : RecsBd k := by
  obtain ⟨_, _, _, _, h1, h2⟩ := rall_ok h
  refine ⟨by unfold maxLen; omega, fun x hx => ?_⟩
  obtain ⟨_, _, _, h3, h4⟩ := rcheck_ok (h2 x hx)
  exact ⟨by unfold maxLen; omega, by unfold maxLen; omega⟩
theorem bat_bd {s : List UInt8} {a e to e2 a' e' bp be bq : Int} {l : List Rec} (hv : mparse s a = ((bp, be, bq, l), to, e2)) (hm : mv a e to e2 = (a', e', true)) (ha : e = 0 → 0 ≤ a ∧ a ≤ s.length) : RecsBd l ∧ l ≠ [] := by
  unfold mv at hm
  by_cases h0 : e = 0
  · rw [if_pos h0] at hm
    simp only [Prod.mk.injEq, decide_eq_true_eq] at hm
    obtain ⟨_, _, rfl⟩ := hm
    exact ⟨rall_bd (parse_at hv (ha h0)).1, (rall_ok (parse_at hv (ha h0)).1).2.2.2.1⟩
  · rw [if_neg h0] at hm
    simp at hm
set_option maxHeartbeats 2000000 in
set_option maxRecDepth 100000 in
theorem r_batch (s : List UInt8) (a e : Int) (p q : Nat) (c0 c1 c2 c3 c4 c9 c10 c11 c12 c13 : Value) (w : World) (hl : s.length ≤ maxLen) (ha : e = 0 → 0 ≤ a ∧ a ≤ s.length) (hp : Blk w p (rdr s a e) 48)
    (hq : Blk w q #[c0, c1, c2, c3, c4, .int .i64 0, .int .i64 0, .int .i64 0, .slice none 0 0, c9, c10, c11, c12, c13] 29) (hpq : p ≠ q) :
    RC 97 #[.pointer (some ⟨p, 0, none⟩), .pointer (some ⟨q, 5, none⟩)] w s p q 29 (fun v : Int × Int × Int × Value => #[c0, c1, c2, c3, c4, .int .i64 v.1, .int .i64 v.2.1, .int .i64 v.2.2.1, v.2.2.2, c9, c10, c11, c12, c13]) (BatR w.heap.size s a e) := by
  refine RC.intro fun R hR => ?_
  obtain ⟨⟨⟨bp, be, bq, l⟩, to, e2⟩, hv⟩ : ∃ m, mparse s a = m := ⟨_, rfl⟩
  obtain ⟨⟨a', e', bb⟩, hm⟩ : ∃ m, mv a e to e2 = m := ⟨_, rfl⟩
  have cG := Lib.hid (fun w => parse3_any s a w hl)
  rw [hv] at cG
  have cM := Lib.hid (fun W => moved4 hm s p W)
  have HQ := Lib.hid hq
  have HP := Lib.hid hp
  have hp0 := hp
  unfold rdr at hp0
  obtain ⟨k0, x0, x1, x2⟩ := hp0.c3
  have kq := hq.lt
  have HM := Lib.hid hm
  have HV := Lib.hid hv
  have HA := Lib.hid ha
  have D0 : Below w.heap.size w w.drew := (Below.refl _ _).drew
  clear hp0 hp hq hv hm hl ha
  go_enter Tryz.func97, Tryz.ntmps97
  go_wp2_with fail
  go_region_with (go_at_call 101; refine (cG.out _).use ?_; intro v w2 o2 b2; have r2 := recs_own o2; dsimp only at r2 o2; obtain ⟨ra, rc, rfl⟩ := r2.form; have HR2 := Lib.hid (show RecsU w2 _ _ from ⟨r2, ownsRow_u o2⟩); have HO2 := Lib.hid o2; first | (have F : Hid (Blk w2 w.heap.size #[.int .i64 0, .int .i64 0, .int .i64 0, .slice none 0 0] 26) := Lib.hid ((Blk.new w.drew #[.int .i64 0, .int .i64 0, .int .i64 0, .slice none 0 0] 26).below b2); have B2 := Lib.hid (below_any (Nat.le_refl _) (below_all D0) b2); obtain ⟨f4, f0, f1, f2, f3⟩ := F.out.c4; have ff : ∀ i, w2.frozen? ⟨w.heap.size, i, none⟩ = false := fun i => Blk.frozen F.out i) | (have B2 := Lib.hid (below_any (Nat.le_refl _) D0 b2)); clear o2 r2 b2)
  all_goals
    have hown : ∀ b, (Value.slice ra l.length rc).ownBlock = some b → b ∉ [p, q] := fun b hb => by
      have n1 := own_ne HO2.out (HP.out.below B2.out) (by decide)
      have n2 := own_ne HO2.out (HQ.out.below B2.out) (by decide)
      rw [hb] at n1 n2
      simp at n1 n2 ⊢
      exact ⟨fun h => n1 h.symm, fun h => n2 h.symm⟩
    have OWN := Lib.hid hown
    have OWB : Hid (∀ b, (Value.slice ra l.length rc).ownBlock = some b → w.heap.size ≤ b) := Lib.hid (fun b hb => by
      have h1 := (HO2.out.lt b hb).1
      have h2 : w.drew.heap.size = w.heap.size := rfl
      simp at h1
      omega)
    clear hown
    first
    | (have PK := Lib.hid (And.intro (show w.heap.size ≤ w.heap.size from Nat.le_refl _) (And.intro ((((F.out.set 0 (.int .i64 bp)).set 1 (.int .i64 be)).set 2 (.int .i64 bq)).set 3 (.slice ra l.length rc)) (And.intro ((((B2.out.setCell (p := ⟨w.heap.size, 0, none⟩) (Nat.le_refl _) (.int .i64 bp)).setCell (p := ⟨w.heap.size, 1, none⟩) (Nat.le_refl _) (.int .i64 be)).setCell (p := ⟨w.heap.size, 2, none⟩) (Nat.le_refl _) (.int .i64 bq)).setCell (p := ⟨w.heap.size, 3, none⟩) (Nat.le_refl _) (.slice ra l.length rc)) (HR2.out.keptR (bs := [w.heap.size]) (((((KeptR.refl _ w2).set (List.mem_singleton.2 rfl) 0 (.int .i64 bp)).set (List.mem_singleton.2 rfl) 1 (.int .i64 be)).set (List.mem_singleton.2 rfl) 2 (.int .i64 bq)).set (List.mem_singleton.2 rfl) 3 (.slice ra l.length rc)) (fun b hb hm => by have n1 := own_ne HO2.out F.out (by decide); rw [hb, List.mem_singleton.1 hm] at n1; exact n1 rfl)))))
       clear f4 f0 f1 f2 f3 ff
       generalize hX : ((((w2.setCell ⟨w.heap.size, 0, none⟩ (.int .i64 bp)).setCell ⟨w.heap.size, 1, none⟩ (.int .i64 be)).setCell ⟨w.heap.size, 2, none⟩ (.int .i64 bq)).setCell ⟨w.heap.size, 3, none⟩ (.slice ra l.length rc)) = W at PK ⊢
       obtain ⟨bx, hbx⟩ : ∃ bx, bx = w.heap.size := ⟨_, rfl⟩
       have PK2 : Hid (w.heap.size ≤ bx ∧ Blk W bx #[.int .i64 bp, .int .i64 be, .int .i64 bq, .slice ra l.length rc] 26 ∧ Below w.heap.size w W ∧ RecsU W (.slice ra l.length rc) l) := Lib.hid (by rw [hbx]; exact PK.out)
       clear F PK hX
       have HBX := Lib.hid hbx
       )
    | (have PK := Lib.hid (And.intro B2.out.size (And.intro (Blk.new w2 #[.int .i64 bp, .int .i64 be, .int .i64 bq, .slice ra l.length rc] 26) (And.intro (below_all (o := .cells #[.int .i64 bp, .int .i64 be, .int .i64 bq, .slice ra l.length rc] 26) B2.out) (HR2.out.alloc (.cells #[.int .i64 bp, .int .i64 be, .int .i64 bq, .slice ra l.length rc] 26)))))
       generalize hX : w2.alloc (.cells #[.int .i64 bp, .int .i64 be, .int .i64 bq, .slice ra l.length rc] 26) = W at PK ⊢
       obtain ⟨bx, hbx⟩ : ∃ bx, bx = w2.heap.size := ⟨_, rfl⟩
       have PK2 : Hid (w.heap.size ≤ bx ∧ Blk W bx #[.int .i64 bp, .int .i64 be, .int .i64 bq, .slice ra l.length rc] 26 ∧ Below w.heap.size w W ∧ RecsU W (.slice ra l.length rc) l) := Lib.hid (by rw [hbx]; exact PK.out)
       clear PK hX
       have HBX := Lib.hid hbx
       )
    clear HO2 HR2 B2
    go_wp2_with fail
    refine (cM.out W (HP.out.below PK2.out.2.2.1)).mono ?_
    rintro x w3 ⟨rfl, p3, g3⟩
    obtain ⟨hbx, BX, BW, RW⟩ := PK2.out
    have x3 := BX.keptR g3 (by simp; omega)
    have q3 := (HQ.out.below BW).keptR g3 (by simp; exact fun h => hpq h.symm)
    have RW3 := Lib.hid (RW.keptR g3 (fun b hb hm => OWN.out b hb (by simp at hm; simp [hm])))
    have K3 := Lib.hid (((KeptR.refl [p, q] w).bel BW).trans (g3.more (by simp)))
    have hq3 := Lib.hid q3
    have hp3 := Lib.hid p3
    obtain ⟨k3, b0, b1, b2, b3⟩ := x3.c4
    have y5 := q3.cell 5
    have y6 := q3.cell 6
    have y7 := q3.cell 7
    have y8 := q3.cell 8
    simp only [List.getElem?_toArray, List.getElem?_cons_succ, List.getElem?_cons_zero] at y5 y6 y7 y8
    have kq3 := q3.lt
    have fq3 : ∀ i, w3.frozen? ⟨q, i, none⟩ = false := fun i => Blk.frozen q3 i
    have hbx0 := HBX.out
    clear BX BW RW PK2 p3 q3 g3 x3 HBX
    subst hbx0
    cases bb
    · go_wp2_with fail
      refine bodyPost_end (results_none rfl _ _ _) rfl ?_
      exact hR.out _ (0, 0, 0, .slice none 0 0) a' e' hp3.out hq3.out K3.out ⟨[], .inl ⟨rfl, _, _, rfl⟩, ⟨by simp, by simp⟩, by simp [Value.ownBlock], fun p r q k b h0 hr hat => by simpa using (step_bat HV.out HM.out h0 hr hat).1⟩
    · go_wp2_with fail
      refine bodyPost_end (results_none rfl _ _ _) rfl ?_
      have hqp : q ≠ p := fun e => hpq e.symm
      refine hR.out _ (bp, be, bq, .slice ra l.length rc) a' e' ((((hp3.out.setOther hpq _).setOther hpq _).setOther hpq _).setOther hpq _) ((((hq3.out.set 5 _).set 6 _).set 7 _).set 8 _) ((((K3.out.set (by simp) _ _).set (by simp) _ _).set (by simp) _ _).set (by simp) _ _) ⟨l, ?r1, ?r2, ?r3, fun p r q k b h0 hr hat => (step_bat HV.out HM.out h0 hr hat).2⟩
      case r1 => exact (RW3.out.keptR (bs := [q]) (((((KeptR.refl [q] w3).set (by simp) _ _).set (by simp) _ _).set (by simp) _ _).set (by simp) _ _) (fun b hb hm => OWN.out b hb (by simp at hm; simp [hm]))).1
      case r2 => exact (bat_bd HV.out HM.out HA.out).1
      case r3 => exact fun b hb => ⟨OWB.out b hb, (RW3.out.keptR (bs := [q]) (((((KeptR.refl [q] w3).set (by simp) _ _).set (by simp) _ _).set (by simp) _ _).set (by simp) _ _) (fun b hb hm => OWN.out b hb (by simp at hm; simp [hm]))).2 b hb⟩
end Go.Proofs.YthiliodmbipikaaGreat

set_option linter.unusedVariables false
set_option linter.unusedSimpArgs false
namespace Go.Proofs.YthiliodmbipikaaGreat
open Go.RowKit
attribute [local go_sem] ByteArray.extract_mk ByteArray.mk_append_mk

theorem tstrInfo : (Tryz.prog.info? 9).map (fun i => (i.zero, i.size, i.bytes)) = some (some (.string (S [])), 1, 16) := by kernel_rfl
theorem own_keptR {w W : World} {B size n : Nat} {e : TypeId} {v : Value} {xs : List Value} {bs : List Nat} (h : w.ownsRow B e size v n xs) (k : KeptR bs w W) (ha : ∀ b, v.ownBlock = some b → b ∉ bs) : W.ownsRow B e size v n xs := by
  refine ⟨h.1, ?_⟩
  rcases h.2 with h2 | ⟨g, cap, cur, rfl, hbg, hg, rest⟩
  · exact .inl h2
  · exact .inr ⟨g, cap, cur, rfl, hbg, (k.block g (Array.getElem?_eq_some_iff.1 hg).1 (ha g rfl)).trans hg, rest⟩
theorem KeptR.grown {bs : List Nat} {w W W' : World} {row : Option Nat} (h : KeptR bs w W) (g : W.grownBy W' row) (hr : ∀ b, row = some b → w.heap.size ≤ b) : KeptR bs w W' :=
  ⟨g.os.trans h.os, g.tape.trans h.tape, g.output.trans h.output, Nat.le_trans h.size g.size, fun i hi hn => (g.block i (Nat.lt_of_lt_of_le hi h.size) (fun e => by have := hr i e.symm; omega)).trans (h.block i hi hn)⟩
theorem KeptR.new {bs : List Nat} {w W : World} (h : KeptR bs w W) (o : Obj) : KeptR bs w (W.alloc o) := h.bel (below_all (Below.refl _ _))
theorem KeptR.on {bs cs : List Nat} {w W V : World} (h : KeptR bs w W) (k : KeptR cs W V) (hs : ∀ b ∈ cs, b ∈ bs ∨ w.heap.size ≤ b) : KeptR bs w V :=
  ⟨k.os.trans h.os, k.tape.trans h.tape, k.output.trans h.output, Nat.le_trans h.size k.size, fun i hi hn => (k.block i (Nat.lt_of_lt_of_le hi h.size) (fun hm => (hs i hm).elim hn (by omega))).trans (h.block i hi hn)⟩
def strV (l : List UInt8) : Value := .string (S l)
theorem news_strV {W : World} (x : List UInt8) {s : Nat} (hs : W.heap.size = s) : ∀ j u, [Value.string (S x)][j]? = some u → (W.alloc (.cells #[.string (S x)] 9)).cell? ((⟨s, 0, none⟩ : Addr).add j) = some u := by
  subst hs
  exact World.news_of_block (cs := #[.string (S x)]) (t := 9) (fr := (0, 0)) (heap_alloc_new W _)
theorem tops_own {w : World} {B : Nat} {v : Value} {l : List (List UInt8)} (h : w.ownsRow B 9 1 v l.length (l.map strV)) : TopsIn w v l := by
  rcases id h.2 with ⟨rfl, h0⟩ | ⟨g, cap, cur, rfl, hbg, hg, rest⟩
  · exact .inl ⟨List.eq_nil_of_length_eq_zero h0, _, _, rfl⟩
  · by_cases hl : l = []
    · subst hl; exact .inl ⟨rfl, _, _, rfl⟩
    · refine .inr ⟨g, 0, cap, rfl, hl, (Array.getElem?_eq_some_iff.1 hg).1, fun i hi => ?_⟩
      have := h.cells (g := g) rfl i (strV l[i]) (by simp [hi])
      have hadd : ∀ j, (⟨g, 0, none⟩ : Addr).add j = ⟨g, j, none⟩ := fun j => by unfold Addr.add; split <;> simp_all
      rw [hadd] at this
      rw [Nat.zero_add]
      exact this
theorem ownForm {w : World} {B n size : Nat} {e : TypeId} {v : Value} {xs : List Value} (h : w.ownsRow B e size v n xs) : ∃ a cap, v = .slice a n cap := by
  rcases h.2 with ⟨rfl, rfl⟩ | ⟨g, cap, cur, rfl, _⟩
  · exact ⟨_, _, rfl⟩
  · exact ⟨_, _, rfl⟩
/-- What the loop has read, what it has still to read. -/
def NRl (s : List UInt8) (n a1 e1 : Int) (i : Nat) (ts : List (List UInt8)) (a e : Int) : Prop :=
  ts.length = i ∧ (∀ t ∈ ts, t.length ≤ 16) ∧ (e = 0 → (i : Int) ≤ a ∧ a ≤ s.length) ∧ (e ≠ 0 → (i : Int) ≤ s.length + 1) ∧
  ∀ (N : List (List UInt8)) (b : Int), e1 = 0 → n = N.length → (∀ t ∈ N, t.length ≤ 16) → At s a1 (N.flatMap vtxt) b → i ≤ N.length ∧ ts = N.take i ∧ e = 0 ∧ At s a ((N.drop i).flatMap vtxt) b
theorem NRl.start {s : List UInt8} {n a1 e1 : Int} (h : e1 = 0 → 0 ≤ a1 ∧ a1 ≤ s.length) : NRl s n a1 e1 0 [] a1 e1 :=
  ⟨rfl, by simp, fun h0 => by have := h h0; omega, fun _ => by omega, fun N b h0 _ _ hat => ⟨by omega, by simp, h0, by simpa using hat⟩⟩
theorem NRl.step {s : List UInt8} {n a1 e1 : Int} {i : Nat} {ts : List (List UInt8)} {a : Int} (h : NRl s n a1 e1 i ts a 0) (hi : (i : Int) < n) {t : List UInt8} {a' e' : Int} {W : World} (st : TxtR s a 0 t a' e' W) : NRl s n a1 e1 (i + 1) (ts ++ [t]) a' e' := by
  obtain ⟨h1, h2, h3, _, h5⟩ := h
  obtain ⟨⟨f, g⟩, hl⟩ := st
  have h3 := h3 rfl
  refine ⟨by simp [h1], ?_, fun h => by have := g h; omega, fun _ => by omega, fun N b h0 hn hN hat => ?_⟩
  · intro x hx
    simp at hx
    exact hx.elim (h2 x) (fun e => e ▸ hl)
  · obtain ⟨k1, k2, _, k4⟩ := h5 N b h0 hn hN hat
    have hiN : i < N.length := by omega
    rw [List.drop_eq_getElem_cons hiN, List.flatMap_cons] at k4
    obtain ⟨k5, k6⟩ := k4.split
    obtain ⟨rfl, rfl, rfl⟩ := f _ _ rfl (hN _ (List.getElem_mem hiN)) k5
    exact ⟨by omega, by rw [k2, List.take_succ_eq_append_getElem hiN], rfl, k6⟩
theorem NRl.stop {s : List UInt8} {n a1 e1 : Int} {i : Nat} {ts : List (List UInt8)} {a e : Int} (h : NRl s n a1 e1 i ts a e) (hs : ¬ ((i : Int) < n ∧ e = 0)) {N : List (List UInt8)} {b : Int} (h0 : e1 = 0) (hn : n = N.length) (hN : ∀ t ∈ N, t.length ≤ 16) (hat : At s a1 (N.flatMap vtxt) b) :
    ts = N ∧ a = b ∧ e = 0 := by
  obtain ⟨k1, k2, k3, k4⟩ := h.2.2.2.2 N b h0 hn hN hat
  have : i = N.length := by
    have : ¬ (i : Int) < n := fun hc => hs ⟨hc, k3⟩
    omega
  subst this
  rw [List.take_length] at k2
  rw [List.drop_length] at k4
  have := k4.range
  simp at this
  exact ⟨k2, by omega, k3⟩
structure NInv (w0 W : World) (s : List UInt8) (p q nb : Nat) (cs : Value → Array Value) (n a e : Int) (v : Value) (ts : List (List UInt8)) : Prop where
  rd : Blk W p (rdr s a e) 48
  bx : Blk W nb #[.int .i64 n] 3
  op : Blk W q (cs v) 29
  own : W.ownsRow w0.heap.size 9 1 v ts.length (ts.map strV)
  kp : KeptR [p, q] w0 W
/-- Names, read. -/
def NamesR (B : Nat) (s : List UInt8) (a e : Int) : Value → Int → Int → World → Prop := fun v a' e' W => ∃ ts, TopsIn W v ts ∧ ts.length ≤ s.length + 1 ∧ (∀ t ∈ ts, t.length ≤ 16) ∧ (∀ b, v.ownBlock = some b → B ≤ b ∧ b < W.heap.size ∧ ∀ i, W.frozen? ⟨b, i, none⟩ = false) ∧
  ∀ (N : List (List UInt8)) (b : Int), e = 0 → N.length ≤ 1099511627776 → (∀ t ∈ N, t.length ≤ 16) → At s a (vput N.length ++ N.flatMap vtxt) b → ts = N ∧ a' = b ∧ e' = 0
set_option maxHeartbeats 4000000 in
set_option maxRecDepth 100000 in
theorem r_names (s : List UInt8) (a e : Int) (p q : Nat) (c0 c1 c2 c3 c4 c5 c6 c7 c8 c9 c10 c11 c12 : Value) (w : World) (hl : s.length ≤ 900000) (hp : Blk w p (rdr s a e) 48)
    (hq : Blk w q #[c0, c1, c2, c3, c4, c5, c6, c7, c8, c9, c10, c11, c12, .slice none 0 0] 29) (hpq : p ≠ q) :
    RC 100 #[.pointer (some ⟨p, 0, none⟩), .pointer (some ⟨q, 13, none⟩)] w s p q 29 (fun v : Value => #[c0, c1, c2, c3, c4, c5, c6, c7, c8, c9, c10, c11, c12, v]) (NamesR w.heap.size s a e) := by
  refine RC.intro fun R hR => ?_
  obtain ⟨j0, hj, hy0, hy1, hy2⟩ := info_parts tstrInfo
  have hlt := hp.lt
  have hltq := hq.lt
  have hlm : s.length ≤ maxLen := by unfold maxLen; omega
  have cN := Lib.hid (r_number s a e p w.heap.size 0 #[.int .i64 0] 3 (w.alloc (.cells #[.int .i64 0] 3)) hlm (hp.alloc _) (Blk.new w _ _) (by omega) rfl)
  have cT := Lib.hid (fun a e W hp hpq => r_name s a e p W.heap.size 0 #[.string (S [])] 9 (W.alloc (.cells #[.string (S [])] 9)) hlm hp (Blk.new W _ _) hpq rfl)
  have HQ := Lib.hid (hq.alloc (.cells #[.int .i64 0] 3))
  clear hp hq hlm
  go_enter Tryz.func100, Tryz.ntmps100
  go_wp2_with fail
  refine cN.out.use ?_
  intro w1 n a1 e1 p1 b1 g1 st
  have I0 : NInv w w1 s p q w.heap.size (fun v => #[c0, c1, c2, c3, c4, c5, c6, c7, c8, c9, c10, c11, c12, v]) n a1 e1 (.slice none 0 0) [] :=
    ⟨p1, b1, HQ.out.keptR g1 (by simp; omega), World.ownsRow_nil _ _ _ _, KeptR.fresh g1 (by simp)⟩
  have HST := Lib.hid st
  have N0 : NRl s n a1 e1 0 [] a1 e1 := NRl.start (fun h => by have := st.go h; omega)
  clear p1 b1 g1 st
  go_wp2_with fail
  go_loopw [5] (fun (v5 : Value) (W : World) => ∃ (i : Nat) (ts : List (List UInt8)) (v : Value) (a e : Int), v5 = .int .i64 (i : Int) ∧ Hid (NRl s n a1 e1 i ts a e) ∧ NInv w W s p q w.heap.size (fun v => #[c0, c1, c2, c3, c4, c5, c6, c7, c8, c9, c10, c11, c12, v]) n a e v ts) (fun (v5 : Value) (W : World) => (s.length + 2 - intOf v5).toNat)
  case atStart => exact ⟨0, [], _, a1, e1, rfl, Lib.hid N0, I0⟩
  case round =>
    clear N0 I0
    obtain ⟨i, ts, v, a2, e2, rfl, hN, hI⟩ := hrel
    have rd := hI.rd
    unfold rdr at rd
    obtain ⟨k0, x0, x1, x2⟩ := rd.c3
    have y0 := hI.bx.cell 0
    simp only [List.getElem?_toArray, List.getElem?_cons_zero] at y0
    clear rd
    have hfin : ¬ ((i : Int) < n ∧ e2 = 0) → R (.returned (.tuple #[])) wr := fun hs => hR.out wr v a2 e2 hI.rd hI.op hI.kp ⟨ts, tops_own hI.own, by
      have h1 := hN.out.1
      have h3 := hN.out.2.2.1
      have h4 := hN.out.2.2.2.1
      by_cases h0 : e2 = 0
      · have := h3 h0; omega
      · have := h4 h0; omega, hN.out.2.1, fun b hb => ⟨(hI.own.lt b hb).1, ownsRow_u hI.own b hb⟩, fun N b h0 hN1 hN2 hat => by
        obtain ⟨h1, h2⟩ := hat.split
        obtain ⟨h3, h4, h5⟩ := HST.out.full (N.length : Int) _ h0 (by omega) (by simpa using h1)
        rw [← h4] at h2
        exact hN.out.stop hs h5 h3 hN2 h2⟩
    have HFIN := Lib.hid hfin
    clear hfin
    by_cases hin : (i : Int) < n
    · by_cases he : e2 = 0
      · subst he
        have hls := hN.out.2.2.1 rfl
        obtain rfl : i = ts.length := hN.out.1.symm
        have hrl := hI.rd.lt
        have hbl := hI.bx.lt
        have hol := hI.op.lt
        have hks := hI.kp.size
        have CT := Lib.hid (cT.out a2 0 wr (hI.rd.alloc _) (by omega))
        have HI := Lib.hid hI
        clear hI HFIN
        go_wp2_with fail
        refine CT.out.use ?_
        intro w2 t a3 e3 p2 b2 g2 st2
        have own2 := own_keptR (World.ownsRow.alloc HI.out.own (.cells #[.string (S [])] 9)) g2 (fun b hb hm => by
          have n1 := own_ne HI.out.own HI.out.rd (by decide)
          have n2 := (HI.out.own.lt b hb).2
          rw [hb] at n1
          simp at hm
          rcases hm with rfl | rfl
          · exact n1 rfl
          · omega)
        have bx2 := Lib.hid ((HI.out.bx.alloc _).keptR g2 (by simp; omega))
        have op2 := (HI.out.op.alloc _).keptR g2 (by simp; exact ⟨fun h => hpq h.symm, by omega⟩)
        have kp2 := Lib.hid ((HI.out.kp.new _).on g2 (by simp; omega))
        obtain ⟨va, vc, rfl⟩ := ownForm own2
        have z2 := b2.cell 0
        simp only [List.setIfInBounds_toArray, List.set_cons_zero, List.getElem?_toArray, List.getElem?_cons_zero] at z2
        have y13 := op2.cell 13
        simp only [List.getElem?_toArray, List.getElem?_cons_succ, List.getElem?_cons_zero] at y13
        have kq2 := op2.lt
        have P2 := Lib.hid p2
        have ST2 := Lib.hid (hN.out.step hin st2)
        have P3 := Lib.hid (own_keptR own2 (((KeptR.refl [] w2).drew').new (.cells #[.string (S t)] 9)) (by simp))
        have op3 := Lib.hid (op2.drew.alloc (.cells #[.string (S t)] 9))
        have hb0 : w.heap.size ≤ w2.heap.size := kp2.out.size
        clear p2 b2 g2 st2 own2 op2 CT
        go_wp2_with fail
        go_region_law (refine step_append_lies _ (by rfl) _ _ _ (by rfl) w.heap.size 9 j0 _ 1 16 Tryz.underlying27 hj hy0 hy1 hy2 rfl (by decide) (.slice va ts.length vc) ts.length (ts.map strV) (by simp [Act.eval, Act.put]) P3.out ⟨w2.heap.size, 0, none⟩ 1 1 [.string (S t)] (by simp [Act.eval, Act.put]) rfl (news_strV t (by first | rfl | simp)) (by simp [Value.oneCell']) (by omega) (by unfold maxLen; omega) (by omega) (by simp; omega) (w2.heap.size + 1) (by simp) ?_; intro g5 cap5 w5 o5 gr5 hat5 hlt5; have op5 := op3.out.grown gr5 (own_ne P3.out op3.out (by decide)); have y5 := op5.cell 13; simp only [List.getElem?_toArray, List.getElem?_cons_succ, List.getElem?_cons_zero] at y5; have kq5 := op5.lt; have ff5 : ∀ i, w5.frozen? ⟨q, i, none⟩ = false := fun i => Blk.frozen op5 i; have OP5 := Lib.hid op5; have O5 := Lib.hid o5; have GR5 := Lib.hid gr5; clear op5 o5 gr5 hat5 hlt5)
        all_goals go_wp2_with fail
        all_goals go_roundw
        all_goals first
          | (refine ⟨ts.length + 1, ts ++ [t], _, a3, e3, by go_num, ST2, ⟨((P2.out.drew.alloc _).grown GR5.out (own_ne P3.out (P2.out.drew.alloc _) (by decide))).setOther hpq _, ((bx2.out.drew.alloc _).grown GR5.out (own_ne P3.out (bx2.out.drew.alloc _) (by decide))).setOther (show w.heap.size ≠ q by omega) _, OP5.out.set 13 _, ?_, ((kp2.out.drew'.new _).grown GR5.out (fun b hb => (P3.out.lt b hb).1)).set (by simp) 13 _⟩⟩
             have o6 := own_keptR O5.out ((KeptR.refl [q] w5).set (b := q) (by simp) 13 (.slice (some ⟨g5, 0, none⟩) (ts.length + 1) cap5)) (fun b hb hm => by have n1 := own_ne O5.out OP5.out (by decide); rw [hb, List.mem_singleton.1 hm] at n1; exact n1 rfl)
             simpa [strV] using o6)
          | (simp [intOf]; done) | (simp [intOf]; omega)
      · have t2 : (e2 == 0) = false := decide_eq_false he
        have hx := Lib.hid (HFIN.out (fun h => he h.2))
        clear he HFIN
        go_wp2_with fail
        refine bodyPost_end (results_none rfl _ _ _) rfl ?_
        exact hx.out
    · have hx := Lib.hid (HFIN.out (fun h => hin h.1))
      clear HFIN
      go_wp2_with fail
      refine bodyPost_end (results_none rfl _ _ _) rfl ?_
      exact hx.out
end Go.Proofs.YthiliodmbipikaaGreat

set_option linter.unusedVariables false
set_option linter.unusedSimpArgs false
namespace Go.Proofs.YthiliodmbipikaaGreat
open Go.RowKit
attribute [local go_sem] ByteArray.extract_mk ByteArray.mk_append_mk

theorem Step.seq {α β : Type} {s : List UInt8} {enc1 : α → List UInt8} {enc2 : β → List UInt8} {good1 : α → Prop} {good2 : β → Prop} {a e a1 e1 a2 e2 : Int} {x : α} {y : β} (h1 : Step s enc1 good1 a e x a1 e1) (h2 : Step s enc2 good2 a1 e1 y a2 e2) :
    Step s (fun z : α × β => enc1 z.1 ++ enc2 z.2) (fun z => good1 z.1 ∧ good2 z.2) a e (x, y) a2 e2 := by
  refine ⟨fun z b h0 hg hat => ?_, fun h => ?_⟩
  · obtain ⟨k1, k2⟩ := hat.split
    obtain ⟨rfl, rfl, rfl⟩ := h1.full _ _ h0 hg.1 k1
    obtain ⟨rfl, rfl, rfl⟩ := h2.full _ _ rfl hg.2 k2
    exact ⟨rfl, rfl, rfl⟩
  · obtain ⟨k1, k2, k3, k4⟩ := h2.go h
    obtain ⟨k5, k6, k7, k8⟩ := h1.go k1
    exact ⟨k5, k6, by omega, k4⟩
theorem na_r_name (k : Nat) (a : Addr) (w : World) : (nilAhead (k + 1) 46 (.pointer (some a)) "stagecoach/request.name").run Tryz.prog w = .ok (some false) w := by kernel_rfl
theorem me_r_name (k : Nat) (a : Addr) (w : World) : (method (k + 1) 46 (.pointer (some a)) "stagecoach/request.name").run Tryz.prog w = .ok (99, .pointer (some a)) w := by kernel_rfl
theorem na_r_number (k : Nat) (a : Addr) (w : World) : (nilAhead (k + 1) 46 (.pointer (some a)) "stagecoach/request.number").run Tryz.prog w = .ok (some false) w := by kernel_rfl
theorem me_r_number (k : Nat) (a : Addr) (w : World) : (method (k + 1) 46 (.pointer (some a)) "stagecoach/request.number").run Tryz.prog w = .ok (12, .pointer (some a)) w := by kernel_rfl
theorem na_r_flag (k : Nat) (a : Addr) (w : World) : (nilAhead (k + 1) 46 (.pointer (some a)) "stagecoach/request.flag").run Tryz.prog w = .ok (some false) w := by kernel_rfl
theorem me_r_flag (k : Nat) (a : Addr) (w : World) : (method (k + 1) 46 (.pointer (some a)) "stagecoach/request.flag").run Tryz.prog w = .ok (98, .pointer (some a)) w := by kernel_rfl
theorem na_r_batch (k : Nat) (a : Addr) (w : World) : (nilAhead (k + 1) 46 (.pointer (some a)) "stagecoach/request.batch").run Tryz.prog w = .ok (some false) w := by kernel_rfl
theorem me_r_batch (k : Nat) (a : Addr) (w : World) : (method (k + 1) 46 (.pointer (some a)) "stagecoach/request.batch").run Tryz.prog w = .ok (97, .pointer (some a)) w := by kernel_rfl
theorem na_r_names (k : Nat) (a : Addr) (w : World) : (nilAhead (k + 1) 46 (.pointer (some a)) "stagecoach/request.names").run Tryz.prog w = .ok (some false) w := by kernel_rfl
theorem me_r_names (k : Nat) (a : Addr) (w : World) : (method (k + 1) 46 (.pointer (some a)) "stagecoach/request.names").run Tryz.prog w = .ok (100, .pointer (some a)) w := by kernel_rfl
/-- A partition, read. -/
def PartR (s : List UInt8) (a e : Int) : List UInt8 × Int → Int → Int → World → Prop := fun v a' e' _ => Step s (fun z : List UInt8 × Int => vtxt z.1 ++ vput z.2.toNat) (fun z => z.1.length ≤ 16 ∧ 0 ≤ z.2 ∧ z.2 ≤ 1099511627776) a e v a' e' ∧ v.1.length ≤ 16
set_option maxHeartbeats 2000000 in
set_option maxRecDepth 100000 in
theorem r_part (s : List UInt8) (a e : Int) (p q o : Nat) (cs : Array Value) (T : TypeId) (w : World) (hl : s.length ≤ maxLen) (hp : Blk w p (rdr s a e) 48) (hq : Blk w q cs T) (hpq : p ≠ q) (h1 : cs[o]? = some (.string (S []))) (h2 : cs[o + 1]? = some (.int .i64 0)) :
    RC 32 #[.iface 46 (.pointer (some ⟨p, 0, none⟩)), .pointer (some ⟨q, o, none⟩)] w s p q T (fun v : List UInt8 × Int => (cs.setIfInBounds o (.string (S v.1))).setIfInBounds (o + 1) (.int .i64 v.2)) (PartR s a e) := by
  refine RC.intro fun R hR => ?_
  have cc1 := Lib.hid (r_name s a e p q o cs T w.drew hl hp hq hpq h1)
  have H2 := Lib.hid h2
  have HL := Lib.hid hl
  have n_name := na_r_name
  have m_name := me_r_name
  have n_number := na_r_number
  have m_number := me_r_number
  have n_flag := na_r_flag
  have m_flag := me_r_flag
  have n_batch := na_r_batch
  have m_batch := me_r_batch
  have n_names := na_r_names
  have m_names := me_r_names
  clear hp hq h1 h2 hl
  go_enter Tryz.func32, Tryz.ntmps32
  go_wp2_with fail
  go_region_with (go_at_call 99; refine cc1.out.use ?_; intro w1 t a1 e1 p1 q1 k1 s1)
  have cc2 := Lib.hid (r_number s a1 e1 p q (o + 1) _ T w1.drew HL.out p1.drew q1.drew hpq (by rw [Array.getElem?_setIfInBounds]; simp; exact H2.out))
  have K1 := Lib.hid ((KeptR.refl [p, q] w).drew'.trans k1)
  have S1 := Lib.hid s1
  clear p1 q1 k1 s1
  go_wp2_with fail
  go_region_with (go_at_call 12; refine cc2.out.use ?_; intro w2 n a2 e2 p2 q2 k2 s2)
  have P2 := Lib.hid p2
  have Q2 := Lib.hid q2
  have K2 := Lib.hid (K1.out.drew'.trans k2)
  have S2 := Lib.hid s2
  clear p2 q2 k2 s2
  go_wp2_with fail
  first | refine bodyPost_end (results_none rfl _ _ _) rfl ?_ | refine bodyPost_ret (results_none rfl _ _ _) rfl ?_
  exact hR.out _ (t, n) a2 e2 P2.out Q2.out K2.out ⟨S1.out.1.seq S2.out, S1.out.2⟩
/-- A member, read. -/
def MemR (s : List UInt8) (a e : Int) : List UInt8 × List UInt8 → Int → Int → World → Prop := fun v a' e' _ => Step s (fun z : List UInt8 × List UInt8 => vtxt z.1 ++ vtxt z.2) (fun z => z.1.length ≤ 16 ∧ z.2.length ≤ 16) a e v a' e' ∧ v.1.length ≤ 16 ∧ v.2.length ≤ 16
set_option maxHeartbeats 2000000 in
set_option maxRecDepth 100000 in
theorem r_member (s : List UInt8) (a e : Int) (p q : Nat) (cs : Array Value) (T : TypeId) (w : World) (hl : s.length ≤ maxLen) (hp : Blk w p (rdr s a e) 48) (hq : Blk w q cs T) (hpq : p ≠ q) (h1 : cs[9]? = some (.string (S []))) (h2 : cs[10]? = some (.string (S []))) :
    RC 33 #[.iface 46 (.pointer (some ⟨p, 0, none⟩)), .pointer (some ⟨q, 0, none⟩)] w s p q T (fun v : List UInt8 × List UInt8 => (cs.setIfInBounds 9 (.string (S v.1))).setIfInBounds 10 (.string (S v.2))) (MemR s a e) := by
  refine RC.intro fun R hR => ?_
  have cc1 := Lib.hid (r_name s a e p q 9 cs T w.drew hl hp hq hpq h1)
  have H2 := Lib.hid h2
  have HL := Lib.hid hl
  have n_name := na_r_name
  have m_name := me_r_name
  have n_number := na_r_number
  have m_number := me_r_number
  have n_flag := na_r_flag
  have m_flag := me_r_flag
  have n_batch := na_r_batch
  have m_batch := me_r_batch
  have n_names := na_r_names
  have m_names := me_r_names
  clear hp hq h1 h2 hl
  go_enter Tryz.func33, Tryz.ntmps33
  go_wp2_with fail
  go_region_with (go_at_call 99; refine cc1.out.use ?_; intro w1 t a1 e1 p1 q1 k1 s1)
  have cc2 := Lib.hid (r_name s a1 e1 p q 10 _ T w1.drew HL.out p1.drew q1.drew hpq (by rw [Array.getElem?_setIfInBounds]; simp; exact H2.out))
  have K1 := Lib.hid ((KeptR.refl [p, q] w).drew'.trans k1)
  have S1 := Lib.hid s1
  clear p1 q1 k1 s1
  go_wp2_with fail
  go_region_with (go_at_call 99; refine cc2.out.use ?_; intro w2 n a2 e2 p2 q2 k2 s2)
  have P2 := Lib.hid p2
  have Q2 := Lib.hid q2
  have K2 := Lib.hid (K1.out.drew'.trans k2)
  have S2 := Lib.hid s2
  clear p2 q2 k2 s2
  go_wp2_with fail
  first | refine bodyPost_end (results_none rfl _ _ _) rfl ?_ | refine bodyPost_ret (results_none rfl _ _ _) rfl ?_
  exact hR.out _ (t, n) a2 e2 P2.out Q2.out K2.out ⟨S1.out.1.seq S2.out.1, S1.out.2, S2.out.2⟩
end Go.Proofs.YthiliodmbipikaaGreat
