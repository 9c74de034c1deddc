/-
  Layer 4: what a check notes of a command's things.
-/
import Derived.Test.YthiliodmbipikaaGreatReqA
import Derived.Test.YthiliodmbipikaaGreatRecX
set_option linter.unusedVariables false
set_option linter.unusedSimpArgs false
namespace Go.Proofs.YthiliodmbipikaaGreat
open Go.RowKit
attribute [local go_sem] ByteArray.extract_mk ByteArray.mk_append_mk

/-- What has turned is these blocks alone. -/
structure KeptR (bs : List Nat) (w W : World) : Prop where
  os : W.os = w.os
  tape : W.tape = w.tape
  output : W.output = w.output
  size : w.heap.size ≤ W.heap.size
  block : ∀ i, i < w.heap.size → i ∉ bs → W.heap[i]? = w.heap[i]?
theorem KeptR.refl (bs : List Nat) (w : World) : KeptR bs w w := ⟨rfl, rfl, rfl, Nat.le_refl _, fun _ _ _ => rfl⟩
theorem KeptR.trans {bs : List Nat} {w W V : World} (h : KeptR bs w W) (k : KeptR bs W V) : KeptR bs w V :=
  ⟨k.os.trans h.os, k.tape.trans h.tape, k.output.trans h.output, Nat.le_trans h.size k.size, fun i hi hn => (k.block i (Nat.lt_of_lt_of_le hi h.size) hn).trans (h.block i hi hn)⟩
theorem KeptR.bel {bs : List Nat} {w W V : World} (h : KeptR bs w W) (hb : Below W.heap.size W V) : KeptR bs w V :=
  h.trans ⟨hb.os, hb.tape, hb.output, hb.size, fun i hi _ => hb.block i hi⟩
theorem KeptR.set {bs : List Nat} {w W : World} (h : KeptR bs w W) {b : Nat} (hb : b ∈ bs) (i : Nat) (v : Value) : KeptR bs w (W.setCell ⟨b, i, none⟩ v) :=
  h.trans ⟨rfl, rfl, rfl, by simp, fun j hj hn => heap_setCell_other W ⟨b, i, none⟩ j v (fun e => hn (by simp only at e; rw [e]; exact hb))⟩
/-- A call of a visitor on a command's thing. -/
def VCall (f : FuncId) (args : Array Value) (w : World) (p : Nat) (c1 : Array Value) (t1 : TypeId) (q : Nat) (c2 : Array Value) : Prop :=
  Calls Tryz.prog f args w fun x w' => x = .returned (.tuple #[]) ∧ Blk w' p c1 t1 ∧ Blk w' q c2 29 ∧ KeptR [p, q] w w'
theorem VCall.intro {f : FuncId} {args : Array Value} {w : World} {p q : Nat} {c1 c2 : Array Value} {t1 : TypeId}
    (h : ∀ R : Ending → World → Prop, Hid (∀ w', Blk w' p c1 t1 → Blk w' q c2 29 → KeptR [p, q] w w' → R (.returned (.tuple #[])) w') → Calls Tryz.prog f args w R) : VCall f args w p c1 t1 q c2 :=
  h _ fun w' h1 h2 h3 => ⟨rfl, h1, h2, h3⟩
theorem VCall.use {f : FuncId} {args : Array Value} {w : World} {p q : Nat} {c1 c2 : Array Value} {t1 : TypeId} {R : Ending → World → Prop} (h : VCall f args w p c1 t1 q c2)
    (k : ∀ w', Blk w' p c1 t1 → Blk w' q c2 29 → KeptR [p, q] w w' → R (.returned (.tuple #[])) w') : Calls Tryz.prog f args w R :=
  h.mono fun x w' ⟨he, h1, h2, h3⟩ => by subst he; exact k w' h1 h2 h3

theorem number4_any (n : Int) (w : World) : Ret Tryz.prog 62 #[.int .i64 n] w (.bool (numB n)) := by
  refine Ret.intro fun R hR => ?_
  unfold numB at hR
  by_cases h1 : 0 ≤ n
  · by_cases h2 : n ≤ 1099511627776
    · go_enter Tryz.func62, Tryz.ntmps62
      go_wp2
      exact fin hR (by simp [h1, h2])
    · go_enter Tryz.func62, Tryz.ntmps62
      go_wp2
      exact fin hR (by simp [h1, h2])
  · go_enter Tryz.func62, Tryz.ntmps62
    go_wp2
    exact fin hR (by simp; omega)
theorem v_fin {w : World} {p q i o : Nat} {c1 c2 : Array Value} {t1 : TypeId} {v u : Value} (hp : Blk w p c1 t1) (hq : Blk w q c2 29) (hpq : p ≠ q) :
    Blk ((w.setCell ⟨p, i, none⟩ v).setCell ⟨q, o, none⟩ u) p (c1.setIfInBounds i v) t1 ∧ Blk ((w.setCell ⟨p, i, none⟩ v).setCell ⟨q, o, none⟩ u) q (c2.setIfInBounds o u) 29 ∧
      KeptR [p, q] w ((w.setCell ⟨p, i, none⟩ v).setCell ⟨q, o, none⟩ u) :=
  ⟨(hp.set i v).setOther hpq u, (hq.setOther (fun e => hpq e.symm) v).set o u, ((KeptR.refl _ w).set (by simp) i v).set (by simp) o u⟩
section
variable (p q o : Nat) (cs : Array Value) (f a : Bool) (e : Int) (w : World)
set_option maxHeartbeats 1000000 in
theorem ck_number (n : Int) (hp : Blk w p #[.bool f, .bool a, .int .i64 e] 110) (hq : Blk w q cs 29) (hpq : p ≠ q) (ho : cs[o]? = some (.int .i64 n)) :
    VCall 116 #[.pointer (some ⟨p, 0, none⟩), .pointer (some ⟨q, o, none⟩)] w p #[.bool f, .bool (a || !numB n), .int .i64 e] 110 q (cs.setIfInBounds o (.int .i64 0)) := by
  refine VCall.intro fun R hR => ?_
  obtain ⟨k0, x0, x1, x2⟩ := hp.c3
  have y0 := (hq.cell o).trans ho
  have kq := hq.lt
  have fp : ∀ i, w.frozen? ⟨p, i, none⟩ = false := fun i => Blk.frozen hp i
  have fq : ∀ i, w.frozen? ⟨q, i, none⟩ = false := fun i => Blk.frozen hq i
  have cN := Lib.hid (fun w => number4_any n w)
  have HP := Lib.hid hp
  have HQ := Lib.hid hq
  generalize numB n = bb at *
  clear hp hq
  cases a
  · go_enter Tryz.func116, Tryz.ntmps116
    go_wp2_with fail
    refine (show Ret _ _ _ _ _ from cN.out _).use ?_
    go_wp2_with fail
    refine bodyPost_end (results_none rfl _ _ _) rfl ?_
    exact hR.out _ (v_fin HP.out HQ.out hpq).1 (v_fin HP.out HQ.out hpq).2.1 (v_fin HP.out HQ.out hpq).2.2
  · go_enter Tryz.func116, Tryz.ntmps116
    go_wp2_with fail
    refine bodyPost_end (results_none rfl _ _ _) rfl ?_
    exact hR.out _ (v_fin HP.out HQ.out hpq).1 (v_fin HP.out HQ.out hpq).2.1 (v_fin HP.out HQ.out hpq).2.2
set_option maxHeartbeats 1000000 in
theorem ck_name (s : List UInt8) (hp : Blk w p #[.bool f, .bool a, .int .i64 e] 110) (hq : Blk w q cs 29) (hpq : p ≠ q) (ho : cs[o]? = some (.string (S s))) (hs : s.length ≤ maxLen) :
    VCall 114 #[.pointer (some ⟨p, 0, none⟩), .pointer (some ⟨q, o, none⟩)] w p #[.bool (f || !isName s), .bool a, .int .i64 e] 110 q (cs.setIfInBounds o (.string (S []))) := by
  refine VCall.intro fun R hR => ?_
  obtain ⟨k0, x0, x1, x2⟩ := hp.c3
  have y0 := (hq.cell o).trans ho
  have kq := hq.lt
  have fp : ∀ i, w.frozen? ⟨p, i, none⟩ = false := fun i => Blk.frozen hp i
  have fq : ∀ i, w.frozen? ⟨q, i, none⟩ = false := fun i => Blk.frozen hq i
  have cN := Lib.hid (fun w => name4 s w hs)
  have HP := Lib.hid hp
  have HQ := Lib.hid hq
  have HO := Lib.hid ho
  generalize isName s = bb at *
  clear hp hq ho
  cases f
  · go_enter Tryz.func114, Tryz.ntmps114
    go_wp2_with fail
    refine (cN.out _).use ?_
    intro w2 b2
    have hp2 := HP.out.below b2
    have hq2 := HQ.out.below b2
    obtain ⟨k0, z0, z1, z2⟩ := hp2.c3
    have z3 := (hq2.cell o).trans HO.out
    have kq2 := hq2.lt
    have fp2 : ∀ i, w2.frozen? ⟨p, i, none⟩ = false := fun i => Blk.frozen hp2 i
    have fq2 : ∀ i, w2.frozen? ⟨q, i, none⟩ = false := fun i => Blk.frozen hq2 i
    have HP2 := Lib.hid hp2
    have HQ2 := Lib.hid hq2
    clear hp2 hq2
    go_wp2_with fail
    refine bodyPost_end (results_none rfl _ _ _) rfl ?_
    exact hR.out _ (v_fin HP2.out HQ2.out hpq).1 (v_fin HP2.out HQ2.out hpq).2.1 (((KeptR.refl _ w).bel b2).trans (v_fin HP2.out HQ2.out hpq).2.2)
  · go_enter Tryz.func114, Tryz.ntmps114
    go_wp2_with fail
    refine bodyPost_end (results_none rfl _ _ _) rfl ?_
    exact hR.out _ (v_fin HP.out HQ.out hpq).1 (v_fin HP.out HQ.out hpq).2.1 (v_fin HP.out HQ.out hpq).2.2
set_option maxHeartbeats 1000000 in
theorem ck_flag (b : Bool) (hp : Blk w p #[.bool f, .bool a, .int .i64 e] 110) (hq : Blk w q cs 29) (hpq : p ≠ q) (ho : cs[o]? = some (.bool b)) :
    VCall 113 #[.pointer (some ⟨p, 0, none⟩), .pointer (some ⟨q, o, none⟩)] w p #[.bool f, .bool a, .int .i64 e] 110 q (cs.setIfInBounds o (.bool false)) := by
  refine VCall.intro fun R hR => ?_
  have y0 := (hq.cell o).trans ho
  have kq := hq.lt
  have fq : ∀ i, w.frozen? ⟨q, i, none⟩ = false := fun i => Blk.frozen hq i
  have HP := Lib.hid hp
  have HQ := Lib.hid hq
  clear hp hq
  go_enter Tryz.func113, Tryz.ntmps113
  go_wp2_with fail
  refine bodyPost_end (results_none rfl _ _ _) rfl ?_
  exact hR.out _ (HP.out.setOther hpq _) (HQ.out.set o _) ((KeptR.refl _ w).set (by simp) o _)
set_option maxHeartbeats 1000000 in
theorem ck_batch (bp be bq : Int) (rv : Value) (l : List Rec) (c0 c1 c2 c3 c4 c9 c10 c11 c12 c13 : Value) (hp : Blk w p #[.bool f, .bool a, .int .i64 e] 110)
    (hq : Blk w q #[c0, c1, c2, c3, c4, .int .i64 bp, .int .i64 be, .int .i64 bq, rv, c9, c10, c11, c12, c13] 29) (hpq : p ≠ q) (hl : RecsIn w rv l) (hbd : RecsBd l) :
    VCall 112 #[.pointer (some ⟨p, 0, none⟩), .pointer (some ⟨q, 5, none⟩)] w p #[.bool f, .bool a, .int .i64 (rall bp be bq l : Nat)] 110 q #[c0, c1, c2, c3, c4, .int .i64 0, .int .i64 0, .int .i64 0, .slice none 0 0, c9, c10, c11, c12, c13] := by
  refine VCall.intro fun R hR => ?_
  obtain ⟨k0, x0, x1, x2⟩ := hp.c3
  obtain ⟨ra, rc, rfl⟩ := hl.form
  have y0 := hq.cell 5
  have y1 := hq.cell 6
  have y2 := hq.cell 7
  have y3 := hq.cell 8
  simp only [List.getElem?_toArray, List.getElem?_cons_succ, List.getElem?_cons_zero] at y0 y1 y2 y3
  have kq := hq.lt
  have fp : ∀ i, w.frozen? ⟨p, i, none⟩ = false := fun i => Blk.frozen hp i
  have fq : ∀ i, w.frozen? ⟨q, i, none⟩ = false := fun i => Blk.frozen hq i
  have cA := Lib.hid (all3_any bp be bq _ l w hl hbd)
  have HP := Lib.hid hp
  have HQ := Lib.hid hq
  generalize rall bp be bq l = bb at *
  clear hp hq hl hbd
  go_enter Tryz.func112, Tryz.ntmps112
  go_wp2_with fail
  refine cA.out.use ?_
  intro w2 b2
  have hp2 := HP.out.below b2
  have hq2 := HQ.out.below b2
  obtain ⟨k0, z0, z1, z2⟩ := hp2.c3
  have y0 := hq2.cell 5
  have y1 := hq2.cell 6
  have y2 := hq2.cell 7
  have y3 := hq2.cell 8
  simp only [List.getElem?_toArray, List.getElem?_cons_succ, List.getElem?_cons_zero] at y0 y1 y2 y3
  have kq2 := hq2.lt
  have fp2 : ∀ i, w2.frozen? ⟨p, i, none⟩ = false := fun i => Blk.frozen hp2 i
  have fq2 : ∀ i, w2.frozen? ⟨q, i, none⟩ = false := fun i => Blk.frozen hq2 i
  have HP2 := Lib.hid hp2
  have HQ2 := Lib.hid hq2
  clear hp2 hq2
  go_wp2_with fail
  refine bodyPost_end (results_none rfl _ _ _) rfl ?_
  have hqp : q ≠ p := fun e => hpq e.symm
  exact hR.out _ (((((HP2.out.set 2 _).setOther hpq _).setOther hpq _).setOther hpq _).setOther hpq _) ((((((HQ2.out.setOther hqp _).set 5 _).set 6 _).set 7 _).set 8 _)) (((((((KeptR.refl _ w).bel b2).set (by simp) _ _).set (by simp) _ _).set (by simp) _ _).set (by simp) _ _).set (by simp) _ _)
end
/-- Texts, as they lie in memory. -/
def TopsIn (w : World) (v : Value) (l : List (List UInt8)) : Prop :=
  (l = [] ∧ ∃ a cap, v = .slice a 0 cap) ∨ ∃ b off cap, v = .slice (some ⟨b, off, none⟩) l.length cap ∧ l ≠ [] ∧ b < w.heap.size ∧ ∀ i, (h : i < l.length) → w.cell? ⟨b, off + i, none⟩ = some (.string (S l[i]))
theorem TopsIn.form {w : World} {v : Value} {l : List (List UInt8)} (h : TopsIn w v l) : ∃ a cap, v = .slice a l.length cap := by
  rcases h with ⟨rfl, a, cap, rfl⟩ | ⟨b, off, cap, rfl, _⟩
  · exact ⟨_, _, rfl⟩
  · exact ⟨_, _, rfl⟩
theorem TopsIn.keptR {bs : List Nat} {w W : World} {v : Value} {l : List (List UInt8)} (h : TopsIn w v l) (k : KeptR bs w W) (ha : ∀ b, v.ownBlock = some b → b ∉ bs) : TopsIn W v l := by
  rcases h with h | ⟨b, off, cap, rfl, hne, hlt, hc⟩
  · exact .inl h
  · exact .inr ⟨b, off, cap, rfl, hne, Nat.lt_of_lt_of_le hlt k.size, fun i hi => (World.cell?_of_block (k.block b hlt (ha b rfl))).trans (hc i hi)⟩
theorem TopsIn.below {w W : World} {v : Value} {l : List (List UInt8)} (h : TopsIn w v l) (hb : Below w.heap.size w W) : TopsIn W v l := h.keptR (bs := []) ((KeptR.refl _ w).bel hb) (by simp)
theorem ltB_less : ∀ a b : List UInt8, Op.bytesLess a b = ltB a b
  | [], [] => rfl
  | [], _ :: _ => rfl
  | _ :: _, [] => rfl
  | a :: l, b :: m => by
    rw [Op.bytesLess, ltB, ltB_less l m]
    by_cases h : a = b
    · subst h; simp
    · rw [if_neg h]
      have : (a == b) = false := by simpa using h
      rw [this]
      simp [UInt8.lt_iff_toNat_lt]
theorem rising_take (l : List (List UInt8)) : ∀ i, (h : i + 1 < l.length) → risingB (l.take (i + 2)) = (risingB (l.take (i + 1)) && ltB (l[i]'(by omega)) l[i + 1]) := by
  induction l with
  | nil => intro i h; simp at h
  | cons a l ih =>
    intro i h
    cases l with
    | nil => simp at h
    | cons b l =>
      cases i with
      | zero => simp [risingB]
      | succ i =>
        have := ih i (by simpa using h)
        simp only [List.take_succ_cons, risingB, List.getElem_cons_succ] at this ⊢
        rw [this, Bool.and_assoc]
theorem names1 (s : List UInt8) (w : World) (hs : s.length ≤ maxLen) : RetB Tryz.prog 118 #[.string (S s)] w (.bool (!isName s)) := by
  refine RetB.intro fun R hR => ?_
  have cN := Lib.hid (name4 s w hs)
  generalize isName s = bb at *
  go_enter Tryz.func118, Tryz.ntmps118
  go_wp2_with fail
  refine cN.out.use ?_
  intro w2 b2
  go_wp2_with fail
  exact finB hR b2 rfl
/-- An index: is one found? -/
def IdxCall (f : FuncId) (args : Array Value) (w : World) (b : Bool) : Prop := Calls Tryz.prog f args w fun x w' => ∃ i : Int, x = .returned (.int .i64 i) ∧ decide (0 ≤ i) = b ∧ Below w.heap.size w w'
theorem IdxCall.intro {f : FuncId} {args : Array Value} {w : World} {b : Bool}
    (h : ∀ R : Ending → World → Prop, Hid (∀ (i : Int) w', decide (0 ≤ i) = b → Below w.heap.size w w' → R (.returned (.int .i64 i)) w') → Calls Tryz.prog f args w R) : IdxCall f args w b :=
  h _ fun i w' h1 h2 => ⟨i, rfl, h1, h2⟩
set_option maxHeartbeats 2000000 in
theorem indexfunc4 (v : Value) (l : List (List UInt8)) (w : World) (hv : TopsIn w v l) (hl : l.length ≤ 1000000 ∧ ∀ s ∈ l, s.length ≤ maxLen) :
    IdxCall 119 #[v, .func (.func 118) #[] #[]] w (l.any fun s => !isName s) := by
  refine IdxCall.intro fun R hR => ?_
  have HV := Lib.hid hv
  have HL := Lib.hid hl.2
  have hl1 := hl.1
  obtain ⟨a, cap, rfl⟩ := hv.form
  clear hv hl
  go_enter Tryz.func119, Tryz.ntmps119
  go_wp2_with fail
  go_loopw [5, 8] (fun (v5 v8 : Value) (W : World) => ∃ i : Nat, i ≤ l.length ∧ v8 = .int .i64 (i : Int) ∧ Hid ((l.take i).any (fun s => !isName s) = false) ∧ Below w.heap.size w W) (fun (v5 v8 : Value) (W : World) => (l.length - intOf v8).toNat)
  case atStart => exact ⟨0, by omega, rfl, Lib.hid (by simp), Below.refl _ _⟩
  case round =>
    obtain ⟨i, hi, rfl, hno, hb⟩ := hrel
    by_cases hil : i < l.length
    · rcases HV.out.below hb with ⟨h, _⟩ | ⟨b, off, cap', hsl, hne, hlt, hc⟩
      · rw [h] at hil; simp at hil
      simp only [Value.slice.injEq, true_and] at hsl
      obtain ⟨rfl, rfl⟩ := hsl
      have c0 := hc i hil
      have hlen := HL.out _ (List.getElem_mem hil)
      have cN := Lib.hid (fun w => names1 l[i] w hlen)
      have hts : Hid ((l.take (i + 1)).any (fun s => !isName s) = !isName l[i]) := Lib.hid (by rw [List.take_succ_eq_append_getElem hil, List.any_append, hno.out]; simp)
      have hyes : Hid (isName l[i] = false → l.any (fun s => !isName s) = true) := Lib.hid (fun h => List.any_eq_true.2 ⟨_, List.getElem_mem hil, by rw [h]; rfl⟩)
      have i1 : (0 : Int) ≤ (i : Int) := by omega
      have i2 : (i : Int) < (l.length : Int) := by omega
      clear hc hne hlen
      generalize l[i] = s at *
      cases hn : isName s
      · have hy : Hid (l.any (fun s => !isName s) = true) := Lib.hid (hyes.out hn)
        rw [hn] at cN
        clear hyes hts hn
        go_wp2_with fail
        refine (cN.out _).use ?_
        intro w2 b2
        go_wp2_with fail
        exact hR.out _ _ (by rw [hy.out]; simp) (below_any (Nat.le_refl _) hb b2)
      · have hts2 : Hid ((l.take (i + 1)).any (fun s => !isName s) = false) := Lib.hid (by rw [hts.out, hn]; rfl)
        rw [hn] at cN
        clear hyes hts hn
        go_wp2_with fail
        refine (cN.out _).use ?_
        intro w2 b2
        go_wp2_with fail
        go_roundw
        case rel => exact ⟨i + 1, by omega, by go_num, hts2, below_any (Nat.le_refl _) hb b2⟩
        case measure => first | (simp [intOf]; done) | (simp [intOf]; omega)
    · have hy : Hid (l.any (fun s => !isName s) = false) := Lib.hid (by have := hno.out; rwa [List.take_of_length_le (by omega)] at this)
      go_wp2_with fail
      exact hR.out _ _ (by rw [hy.out]; decide) hb
theorem containsfunc4 (v : Value) (l : List (List UInt8)) (w : World) (hv : TopsIn w v l) (hl : l.length ≤ 1000000 ∧ ∀ s ∈ l, s.length ≤ maxLen) :
    RetB Tryz.prog 117 #[v, .func (.func 118) #[] #[]] w (.bool (l.any fun s => !isName s)) := by
  refine RetB.intro fun R hR => ?_
  have cI := Lib.hid (indexfunc4 v l w hv hl)
  obtain ⟨a, cap, rfl⟩ := hv.form
  generalize (l.any fun s => !isName s) = bb at *
  clear hv hl
  go_enter Tryz.func117, Tryz.ntmps117
  go_wp2_with fail
  refine (show IdxCall _ _ _ _ from cI.out).mono ?_
  rintro e w2 ⟨i, rfl, hd, b2⟩
  go_wp2_with fail
  exact finB hR b2 rfl
end Go.Proofs.YthiliodmbipikaaGreat
