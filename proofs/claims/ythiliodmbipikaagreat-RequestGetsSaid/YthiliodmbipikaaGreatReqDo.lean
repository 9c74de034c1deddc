/-
  Layer 4, the document: has a command nothing that its kind has not?
-/
import Derived.Test.YthiliodmbipikaaGreatReqD1
import Derived.Test.YthiliodmbipikaaGreatReqE
import Derived.Deep.DeepCutAuto
set_option linter.unusedVariables false
set_option linter.unusedSimpArgs false
namespace Go.Proofs.YthiliodmbipikaaGreat
open Go.RowKit
attribute [local go_sem] ByteArray.extract_mk ByteArray.mk_append_mk

set_option maxHeartbeats 4000000 in
set_option maxRecDepth 100000 in
theorem ronly_tn (L : List UInt8) (kind : Int) (topic : List UInt8) (pn n off bp be bq : Int) (nr : Nat) (group member : List UInt8) (gen : Int) (robin : Bool) (nt : Nat) (ra ta : Option Addr) (rc tc : Nat) (w : World) (hl : L.length ≤ 1000)
    (a_t : hasC L 116 = true) (a_p : hasC L 112 = false) (a_n : hasC L 110 = true) (a_o : hasC L 111 = false) (a_b : hasC L 98 = false) (a_g : hasC L 103 = false) (a_m : hasC L 109 = false) (a_e : hasC L 101 = false) (a_r : hasC L 114 = false) (a_l : hasC L 108 = false)
    (hh : ∀ w, RetB Tryz.prog 9 #[.int .i64 kind] w (.string (S L))) :
    RetB Tryz.prog 51 #[.agg #[.int .i64 kind, .string (S topic), .int .i64 pn, .int .i64 n, .int .i64 off, .int .i64 bp, .int .i64 be, .int .i64 bq, .slice ra nr rc, .string (S group), .string (S member), .int .i64 gen, .bool robin, .slice ta nt tc]] w (.bool (decide (pn = 0 ∧ off = 0 ∧ bp = 0 ∧ be = 0 ∧ bq = 0 ∧ nr = 0 ∧ group = [] ∧ member = [] ∧ gen = 0 ∧ robin = false ∧ nt = 0))) := by
  refine RetB.intro fun R hR => ?_
  have cM := Lib.hid (fun x w => among4 L x w hl)
  have cH := Lib.hid hh
  have HQ0 := Lib.hid (Blk.new w #[.int .i64 kind, .string (S topic), .int .i64 pn, .int .i64 n, .int .i64 off, .int .i64 bp, .int .i64 be, .int .i64 bq, .slice ra nr rc, .string (S group), .string (S member), .int .i64 gen, .bool robin, .slice ta nt tc] 29)
  clear hh
  go_enter Tryz.func51, Tryz.ntmps51
  go_wp2_with fail
  refine (cH.out _).use ?_
  intro w1 b1
  have hq1 := HQ0.out.below b1
  have hB1 := Lib.hid (below_any (Nat.le_refl _) (below_all (Below.refl w.heap.size w)) b1)
  obtain ⟨k1, x0, x1, x2, x3, x4, x5, x6, x7, x8, x9, x10, x11, x12, x13⟩ : w.heap.size < w1.heap.size ∧ w1.cell? ⟨w.heap.size, 0, none⟩ = some (.int .i64 kind) ∧ w1.cell? ⟨w.heap.size, 1, none⟩ = some (.string (S topic)) ∧ w1.cell? ⟨w.heap.size, 2, none⟩ = some (.int .i64 pn) ∧ w1.cell? ⟨w.heap.size, 3, none⟩ = some (.int .i64 n) ∧ w1.cell? ⟨w.heap.size, 4, none⟩ = some (.int .i64 off) ∧ w1.cell? ⟨w.heap.size, 5, none⟩ = some (.int .i64 bp) ∧ w1.cell? ⟨w.heap.size, 6, none⟩ = some (.int .i64 be) ∧ w1.cell? ⟨w.heap.size, 7, none⟩ = some (.int .i64 bq) ∧ w1.cell? ⟨w.heap.size, 8, none⟩ = some (.slice ra nr rc) ∧ w1.cell? ⟨w.heap.size, 9, none⟩ = some (.string (S group)) ∧ w1.cell? ⟨w.heap.size, 10, none⟩ = some (.string (S member)) ∧ w1.cell? ⟨w.heap.size, 11, none⟩ = some (.int .i64 gen) ∧ w1.cell? ⟨w.heap.size, 12, none⟩ = some (.bool robin) ∧ w1.cell? ⟨w.heap.size, 13, none⟩ = some (.slice ta nt tc) := ⟨hq1.lt, hq1.cell 0, hq1.cell 1, hq1.cell 2, hq1.cell 3, hq1.cell 4, hq1.cell 5, hq1.cell 6, hq1.cell 7, hq1.cell 8, hq1.cell 9, hq1.cell 10, hq1.cell 11, hq1.cell 12, hq1.cell 13⟩
  clear hq1 b1
  go_upto_region 3 with (go_at_call 52; refine (show Ret _ _ _ _ _ from cM.out _ _).use ?_)
  by_cases g : pn = 0
  case' neg =>
    rw [decide_eq_false (fun h => g h.1)] at hR
    have g1 : ((pn : Int) == 0) = false := by simpa using g
    have g2 : ((pn : Int) != 0) = true := by simpa using g
    have g3 : (pn = 0) = False := eq_false g
    clear g
    go_wp2_with (go_at_call 52; refine (show Ret _ _ _ _ _ from cM.out _ _).use ?_)
    exact finB hR hB1.out rfl
  case' pos =>
    subst g
    by_cases g : off = 0
    case' neg =>
      rw [decide_eq_false (fun h => g h.2.1)] at hR
      have g1 : ((off : Int) == 0) = false := by simpa using g
      have g2 : ((off : Int) != 0) = true := by simpa using g
      have g3 : (off = 0) = False := eq_false g
      clear g
      go_wp2_with (go_at_call 52; refine (show Ret _ _ _ _ _ from cM.out _ _).use ?_)
      exact finB hR hB1.out rfl
    case' pos =>
      subst g
      go_upto_region 5 with (go_at_call 52; refine (show Ret _ _ _ _ _ from cM.out _ _).use ?_)
      by_cases g : bp = 0
      case' neg =>
        rw [decide_eq_false (fun h => g h.2.2.1)] at hR
        have g1 : ((bp : Int) == 0) = false := by simpa using g
        have g2 : ((bp : Int) != 0) = true := by simpa using g
        have g3 : (bp = 0) = False := eq_false g
        clear g
        go_wp2_with (go_at_call 52; refine (show Ret _ _ _ _ _ from cM.out _ _).use ?_)
        exact finB hR hB1.out rfl
      case' pos =>
        subst g
        by_cases g : be = 0
        case' neg =>
          rw [decide_eq_false (fun h => g h.2.2.2.1)] at hR
          have g1 : ((be : Int) == 0) = false := by simpa using g
          have g2 : ((be : Int) != 0) = true := by simpa using g
          have g3 : (be = 0) = False := eq_false g
          clear g
          go_wp2_with (go_at_call 52; refine (show Ret _ _ _ _ _ from cM.out _ _).use ?_)
          exact finB hR hB1.out rfl
        case' pos =>
          subst g
          by_cases g : bq = 0
          case' neg =>
            rw [decide_eq_false (fun h => g h.2.2.2.2.1)] at hR
            have g1 : ((bq : Int) == 0) = false := by simpa using g
            have g2 : ((bq : Int) != 0) = true := by simpa using g
            have g3 : (bq = 0) = False := eq_false g
            clear g
            go_wp2_with (go_at_call 52; refine (show Ret _ _ _ _ _ from cM.out _ _).use ?_)
            exact finB hR hB1.out rfl
          case' pos =>
            subst g
            by_cases g : nr = 0
            case' neg =>
              rw [decide_eq_false (fun h => g h.2.2.2.2.2.1)] at hR
              have g1 : (((nr : Nat) : Int) == 0) = false := by simpa using g
              have g2 : ((0 : Int) < (nr : Nat)) = True := eq_true (by omega)
              have g3 : (nr = 0) = False := eq_false g
              have g4 : (0 < nr) = True := eq_true (by omega)
              clear g
              go_wp2_with (go_at_call 52; refine (show Ret _ _ _ _ _ from cM.out _ _).use ?_)
              exact finB hR hB1.out rfl
            case' pos =>
              subst g
              go_upto_region 7 with (go_at_call 52; refine (show Ret _ _ _ _ _ from cM.out _ _).use ?_)
              by_cases g : group = []
              case' neg =>
                rw [decide_eq_false (fun h => g h.2.2.2.2.2.2.1)] at hR
                have g1 : group.isEmpty = false := by simpa using g
                have g2 : (group == []) = false := by simpa using g
                have g3 : (group != []) = true := by simpa using g
                clear g
                go_wp2_with (go_at_call 52; refine (show Ret _ _ _ _ _ from cM.out _ _).use ?_)
                exact finB hR hB1.out rfl
              case' pos =>
                subst g
                by_cases g : member = []
                case' neg =>
                  rw [decide_eq_false (fun h => g h.2.2.2.2.2.2.2.1)] at hR
                  have g1 : member.isEmpty = false := by simpa using g
                  have g2 : (member == []) = false := by simpa using g
                  have g3 : (member != []) = true := by simpa using g
                  clear g
                  go_wp2_with (go_at_call 52; refine (show Ret _ _ _ _ _ from cM.out _ _).use ?_)
                  exact finB hR hB1.out rfl
                case' pos =>
                  subst g
                  by_cases g : gen = 0
                  case' neg =>
                    rw [decide_eq_false (fun h => g h.2.2.2.2.2.2.2.2.1)] at hR
                    have g1 : ((gen : Int) == 0) = false := by simpa using g
                    have g2 : ((gen : Int) != 0) = true := by simpa using g
                    have g3 : (gen = 0) = False := eq_false g
                    clear g
                    go_wp2_with (go_at_call 52; refine (show Ret _ _ _ _ _ from cM.out _ _).use ?_)
                    exact finB hR hB1.out rfl
                  case' pos =>
                    subst g
                    go_upto_region 9 with (go_at_call 52; refine (show Ret _ _ _ _ _ from cM.out _ _).use ?_)
                    by_cases g : robin = false
                    case' neg =>
                      rw [decide_eq_false (fun h => g h.2.2.2.2.2.2.2.2.2.1)] at hR
                      obtain rfl : robin = true := by cases robin <;> simp_all
                      skip
                      go_wp2_with (go_at_call 52; refine (show Ret _ _ _ _ _ from cM.out _ _).use ?_)
                      exact finB hR hB1.out rfl
                    case' pos =>
                      subst g
                      by_cases g : nt = 0
                      case' neg =>
                        rw [decide_eq_false (fun h => g h.2.2.2.2.2.2.2.2.2.2)] at hR
                        have g1 : (((nt : Nat) : Int) == 0) = false := by simpa using g
                        have g2 : ((0 : Int) < (nt : Nat)) = True := eq_true (by omega)
                        have g3 : (nt = 0) = False := eq_false g
                        have g4 : (0 < nt) = True := eq_true (by omega)
                        clear g
                        go_wp2_with (go_at_call 52; refine (show Ret _ _ _ _ _ from cM.out _ _).use ?_)
                        exact finB hR hB1.out rfl
                      case' pos =>
                        subst g
                        go_wp2_with (go_at_call 52; refine (show Ret _ _ _ _ _ from cM.out _ _).use ?_)
                        exact finB hR hB1.out (by simp)
set_option maxHeartbeats 4000000 in
set_option maxRecDepth 100000 in
theorem ronly_n (L : List UInt8) (kind : Int) (topic : List UInt8) (pn n off bp be bq : Int) (nr : Nat) (group member : List UInt8) (gen : Int) (robin : Bool) (nt : Nat) (ra ta : Option Addr) (rc tc : Nat) (w : World) (hl : L.length ≤ 1000)
    (a_t : hasC L 116 = false) (a_p : hasC L 112 = false) (a_n : hasC L 110 = true) (a_o : hasC L 111 = false) (a_b : hasC L 98 = false) (a_g : hasC L 103 = false) (a_m : hasC L 109 = false) (a_e : hasC L 101 = false) (a_r : hasC L 114 = false) (a_l : hasC L 108 = false)
    (hh : ∀ w, RetB Tryz.prog 9 #[.int .i64 kind] w (.string (S L))) :
    RetB Tryz.prog 51 #[.agg #[.int .i64 kind, .string (S topic), .int .i64 pn, .int .i64 n, .int .i64 off, .int .i64 bp, .int .i64 be, .int .i64 bq, .slice ra nr rc, .string (S group), .string (S member), .int .i64 gen, .bool robin, .slice ta nt tc]] w (.bool (decide (topic = [] ∧ pn = 0 ∧ off = 0 ∧ bp = 0 ∧ be = 0 ∧ bq = 0 ∧ nr = 0 ∧ group = [] ∧ member = [] ∧ gen = 0 ∧ robin = false ∧ nt = 0))) := by
  refine RetB.intro fun R hR => ?_
  have cM := Lib.hid (fun x w => among4 L x w hl)
  have cH := Lib.hid hh
  have HQ0 := Lib.hid (Blk.new w #[.int .i64 kind, .string (S topic), .int .i64 pn, .int .i64 n, .int .i64 off, .int .i64 bp, .int .i64 be, .int .i64 bq, .slice ra nr rc, .string (S group), .string (S member), .int .i64 gen, .bool robin, .slice ta nt tc] 29)
  clear hh
  go_enter Tryz.func51, Tryz.ntmps51
  go_wp2_with fail
  refine (cH.out _).use ?_
  intro w1 b1
  have hq1 := HQ0.out.below b1
  have hB1 := Lib.hid (below_any (Nat.le_refl _) (below_all (Below.refl w.heap.size w)) b1)
  obtain ⟨k1, x0, x1, x2, x3, x4, x5, x6, x7, x8, x9, x10, x11, x12, x13⟩ : w.heap.size < w1.heap.size ∧ w1.cell? ⟨w.heap.size, 0, none⟩ = some (.int .i64 kind) ∧ w1.cell? ⟨w.heap.size, 1, none⟩ = some (.string (S topic)) ∧ w1.cell? ⟨w.heap.size, 2, none⟩ = some (.int .i64 pn) ∧ w1.cell? ⟨w.heap.size, 3, none⟩ = some (.int .i64 n) ∧ w1.cell? ⟨w.heap.size, 4, none⟩ = some (.int .i64 off) ∧ w1.cell? ⟨w.heap.size, 5, none⟩ = some (.int .i64 bp) ∧ w1.cell? ⟨w.heap.size, 6, none⟩ = some (.int .i64 be) ∧ w1.cell? ⟨w.heap.size, 7, none⟩ = some (.int .i64 bq) ∧ w1.cell? ⟨w.heap.size, 8, none⟩ = some (.slice ra nr rc) ∧ w1.cell? ⟨w.heap.size, 9, none⟩ = some (.string (S group)) ∧ w1.cell? ⟨w.heap.size, 10, none⟩ = some (.string (S member)) ∧ w1.cell? ⟨w.heap.size, 11, none⟩ = some (.int .i64 gen) ∧ w1.cell? ⟨w.heap.size, 12, none⟩ = some (.bool robin) ∧ w1.cell? ⟨w.heap.size, 13, none⟩ = some (.slice ta nt tc) := ⟨hq1.lt, hq1.cell 0, hq1.cell 1, hq1.cell 2, hq1.cell 3, hq1.cell 4, hq1.cell 5, hq1.cell 6, hq1.cell 7, hq1.cell 8, hq1.cell 9, hq1.cell 10, hq1.cell 11, hq1.cell 12, hq1.cell 13⟩
  clear hq1 b1
  go_upto_region 3 with (go_at_call 52; refine (show Ret _ _ _ _ _ from cM.out _ _).use ?_)
  by_cases g : topic = []
  case' neg =>
    rw [decide_eq_false (fun h => g h.1)] at hR
    have g1 : topic.isEmpty = false := by simpa using g
    have g2 : (topic == []) = false := by simpa using g
    have g3 : (topic != []) = true := by simpa using g
    clear g
    go_wp2_with (go_at_call 52; refine (show Ret _ _ _ _ _ from cM.out _ _).use ?_)
    exact finB hR hB1.out rfl
  case' pos =>
    subst g
    by_cases g : pn = 0
    case' neg =>
      rw [decide_eq_false (fun h => g h.2.1)] at hR
      have g1 : ((pn : Int) == 0) = false := by simpa using g
      have g2 : ((pn : Int) != 0) = true := by simpa using g
      have g3 : (pn = 0) = False := eq_false g
      clear g
      go_wp2_with (go_at_call 52; refine (show Ret _ _ _ _ _ from cM.out _ _).use ?_)
      exact finB hR hB1.out rfl
    case' pos =>
      subst g
      by_cases g : off = 0
      case' neg =>
        rw [decide_eq_false (fun h => g h.2.2.1)] at hR
        have g1 : ((off : Int) == 0) = false := by simpa using g
        have g2 : ((off : Int) != 0) = true := by simpa using g
        have g3 : (off = 0) = False := eq_false g
        clear g
        go_wp2_with (go_at_call 52; refine (show Ret _ _ _ _ _ from cM.out _ _).use ?_)
        exact finB hR hB1.out rfl
      case' pos =>
        subst g
        go_upto_region 5 with (go_at_call 52; refine (show Ret _ _ _ _ _ from cM.out _ _).use ?_)
        by_cases g : bp = 0
        case' neg =>
          rw [decide_eq_false (fun h => g h.2.2.2.1)] at hR
          have g1 : ((bp : Int) == 0) = false := by simpa using g
          have g2 : ((bp : Int) != 0) = true := by simpa using g
          have g3 : (bp = 0) = False := eq_false g
          clear g
          go_wp2_with (go_at_call 52; refine (show Ret _ _ _ _ _ from cM.out _ _).use ?_)
          exact finB hR hB1.out rfl
        case' pos =>
          subst g
          by_cases g : be = 0
          case' neg =>
            rw [decide_eq_false (fun h => g h.2.2.2.2.1)] at hR
            have g1 : ((be : Int) == 0) = false := by simpa using g
            have g2 : ((be : Int) != 0) = true := by simpa using g
            have g3 : (be = 0) = False := eq_false g
            clear g
            go_wp2_with (go_at_call 52; refine (show Ret _ _ _ _ _ from cM.out _ _).use ?_)
            exact finB hR hB1.out rfl
          case' pos =>
            subst g
            by_cases g : bq = 0
            case' neg =>
              rw [decide_eq_false (fun h => g h.2.2.2.2.2.1)] at hR
              have g1 : ((bq : Int) == 0) = false := by simpa using g
              have g2 : ((bq : Int) != 0) = true := by simpa using g
              have g3 : (bq = 0) = False := eq_false g
              clear g
              go_wp2_with (go_at_call 52; refine (show Ret _ _ _ _ _ from cM.out _ _).use ?_)
              exact finB hR hB1.out rfl
            case' pos =>
              subst g
              by_cases g : nr = 0
              case' neg =>
                rw [decide_eq_false (fun h => g h.2.2.2.2.2.2.1)] at hR
                have g1 : (((nr : Nat) : Int) == 0) = false := by simpa using g
                have g2 : ((0 : Int) < (nr : Nat)) = True := eq_true (by omega)
                have g3 : (nr = 0) = False := eq_false g
                have g4 : (0 < nr) = True := eq_true (by omega)
                clear g
                go_wp2_with (go_at_call 52; refine (show Ret _ _ _ _ _ from cM.out _ _).use ?_)
                exact finB hR hB1.out rfl
              case' pos =>
                subst g
                go_upto_region 7 with (go_at_call 52; refine (show Ret _ _ _ _ _ from cM.out _ _).use ?_)
                by_cases g : group = []
                case' neg =>
                  rw [decide_eq_false (fun h => g h.2.2.2.2.2.2.2.1)] at hR
                  have g1 : group.isEmpty = false := by simpa using g
                  have g2 : (group == []) = false := by simpa using g
                  have g3 : (group != []) = true := by simpa using g
                  clear g
                  go_wp2_with (go_at_call 52; refine (show Ret _ _ _ _ _ from cM.out _ _).use ?_)
                  exact finB hR hB1.out rfl
                case' pos =>
                  subst g
                  by_cases g : member = []
                  case' neg =>
                    rw [decide_eq_false (fun h => g h.2.2.2.2.2.2.2.2.1)] at hR
                    have g1 : member.isEmpty = false := by simpa using g
                    have g2 : (member == []) = false := by simpa using g
                    have g3 : (member != []) = true := by simpa using g
                    clear g
                    go_wp2_with (go_at_call 52; refine (show Ret _ _ _ _ _ from cM.out _ _).use ?_)
                    exact finB hR hB1.out rfl
                  case' pos =>
                    subst g
                    by_cases g : gen = 0
                    case' neg =>
                      rw [decide_eq_false (fun h => g h.2.2.2.2.2.2.2.2.2.1)] at hR
                      have g1 : ((gen : Int) == 0) = false := by simpa using g
                      have g2 : ((gen : Int) != 0) = true := by simpa using g
                      have g3 : (gen = 0) = False := eq_false g
                      clear g
                      go_wp2_with (go_at_call 52; refine (show Ret _ _ _ _ _ from cM.out _ _).use ?_)
                      exact finB hR hB1.out rfl
                    case' pos =>
                      subst g
                      go_upto_region 9 with (go_at_call 52; refine (show Ret _ _ _ _ _ from cM.out _ _).use ?_)
                      by_cases g : robin = false
                      case' neg =>
                        rw [decide_eq_false (fun h => g h.2.2.2.2.2.2.2.2.2.2.1)] at hR
                        obtain rfl : robin = true := by cases robin <;> simp_all
                        skip
                        go_wp2_with (go_at_call 52; refine (show Ret _ _ _ _ _ from cM.out _ _).use ?_)
                        exact finB hR hB1.out rfl
                      case' pos =>
                        subst g
                        by_cases g : nt = 0
                        case' neg =>
                          rw [decide_eq_false (fun h => g h.2.2.2.2.2.2.2.2.2.2.2)] at hR
                          have g1 : (((nt : Nat) : Int) == 0) = false := by simpa using g
                          have g2 : ((0 : Int) < (nt : Nat)) = True := eq_true (by omega)
                          have g3 : (nt = 0) = False := eq_false g
                          have g4 : (0 < nt) = True := eq_true (by omega)
                          clear g
                          go_wp2_with (go_at_call 52; refine (show Ret _ _ _ _ _ from cM.out _ _).use ?_)
                          exact finB hR hB1.out rfl
                        case' pos =>
                          subst g
                          go_wp2_with (go_at_call 52; refine (show Ret _ _ _ _ _ from cM.out _ _).use ?_)
                          exact finB hR hB1.out (by simp)
set_option maxHeartbeats 4000000 in
set_option maxRecDepth 100000 in
theorem ronly_pb (L : List UInt8) (kind : Int) (topic : List UInt8) (pn n off bp be bq : Int) (nr : Nat) (group member : List UInt8) (gen : Int) (robin : Bool) (nt : Nat) (ra ta : Option Addr) (rc tc : Nat) (w : World) (hl : L.length ≤ 1000)
    (a_t : hasC L 116 = false) (a_p : hasC L 112 = true) (a_n : hasC L 110 = false) (a_o : hasC L 111 = false) (a_b : hasC L 98 = true) (a_g : hasC L 103 = false) (a_m : hasC L 109 = false) (a_e : hasC L 101 = false) (a_r : hasC L 114 = false) (a_l : hasC L 108 = false)
    (hh : ∀ w, RetB Tryz.prog 9 #[.int .i64 kind] w (.string (S L))) :
    RetB Tryz.prog 51 #[.agg #[.int .i64 kind, .string (S topic), .int .i64 pn, .int .i64 n, .int .i64 off, .int .i64 bp, .int .i64 be, .int .i64 bq, .slice ra nr rc, .string (S group), .string (S member), .int .i64 gen, .bool robin, .slice ta nt tc]] w (.bool (decide (n = 0 ∧ off = 0 ∧ group = [] ∧ member = [] ∧ gen = 0 ∧ robin = false ∧ nt = 0))) := by
  refine RetB.intro fun R hR => ?_
  have cM := Lib.hid (fun x w => among4 L x w hl)
  have cH := Lib.hid hh
  have HQ0 := Lib.hid (Blk.new w #[.int .i64 kind, .string (S topic), .int .i64 pn, .int .i64 n, .int .i64 off, .int .i64 bp, .int .i64 be, .int .i64 bq, .slice ra nr rc, .string (S group), .string (S member), .int .i64 gen, .bool robin, .slice ta nt tc] 29)
  clear hh
  go_enter Tryz.func51, Tryz.ntmps51
  go_wp2_with fail
  refine (cH.out _).use ?_
  intro w1 b1
  have hq1 := HQ0.out.below b1
  have hB1 := Lib.hid (below_any (Nat.le_refl _) (below_all (Below.refl w.heap.size w)) b1)
  obtain ⟨k1, x0, x1, x2, x3, x4, x5, x6, x7, x8, x9, x10, x11, x12, x13⟩ : w.heap.size < w1.heap.size ∧ w1.cell? ⟨w.heap.size, 0, none⟩ = some (.int .i64 kind) ∧ w1.cell? ⟨w.heap.size, 1, none⟩ = some (.string (S topic)) ∧ w1.cell? ⟨w.heap.size, 2, none⟩ = some (.int .i64 pn) ∧ w1.cell? ⟨w.heap.size, 3, none⟩ = some (.int .i64 n) ∧ w1.cell? ⟨w.heap.size, 4, none⟩ = some (.int .i64 off) ∧ w1.cell? ⟨w.heap.size, 5, none⟩ = some (.int .i64 bp) ∧ w1.cell? ⟨w.heap.size, 6, none⟩ = some (.int .i64 be) ∧ w1.cell? ⟨w.heap.size, 7, none⟩ = some (.int .i64 bq) ∧ w1.cell? ⟨w.heap.size, 8, none⟩ = some (.slice ra nr rc) ∧ w1.cell? ⟨w.heap.size, 9, none⟩ = some (.string (S group)) ∧ w1.cell? ⟨w.heap.size, 10, none⟩ = some (.string (S member)) ∧ w1.cell? ⟨w.heap.size, 11, none⟩ = some (.int .i64 gen) ∧ w1.cell? ⟨w.heap.size, 12, none⟩ = some (.bool robin) ∧ w1.cell? ⟨w.heap.size, 13, none⟩ = some (.slice ta nt tc) := ⟨hq1.lt, hq1.cell 0, hq1.cell 1, hq1.cell 2, hq1.cell 3, hq1.cell 4, hq1.cell 5, hq1.cell 6, hq1.cell 7, hq1.cell 8, hq1.cell 9, hq1.cell 10, hq1.cell 11, hq1.cell 12, hq1.cell 13⟩
  clear hq1 b1
  go_upto_region 3 with (go_at_call 52; refine (show Ret _ _ _ _ _ from cM.out _ _).use ?_)
  by_cases g : n = 0
  case' neg =>
    rw [decide_eq_false (fun h => g h.1)] at hR
    have g1 : ((n : Int) == 0) = false := by simpa using g
    have g2 : ((n : Int) != 0) = true := by simpa using g
    have g3 : (n = 0) = False := eq_false g
    clear g
    go_wp2_with (go_at_call 52; refine (show Ret _ _ _ _ _ from cM.out _ _).use ?_)
    exact finB hR hB1.out rfl
  case' pos =>
    subst g
    by_cases g : off = 0
    case' neg =>
      rw [decide_eq_false (fun h => g h.2.1)] at hR
      have g1 : ((off : Int) == 0) = false := by simpa using g
      have g2 : ((off : Int) != 0) = true := by simpa using g
      have g3 : (off = 0) = False := eq_false g
      clear g
      go_wp2_with (go_at_call 52; refine (show Ret _ _ _ _ _ from cM.out _ _).use ?_)
      exact finB hR hB1.out rfl
    case' pos =>
      subst g
      go_upto_region 5 with (go_at_call 52; refine (show Ret _ _ _ _ _ from cM.out _ _).use ?_)
      go_upto_region 7 with (go_at_call 52; refine (show Ret _ _ _ _ _ from cM.out _ _).use ?_)
      by_cases g : group = []
      case' neg =>
        rw [decide_eq_false (fun h => g h.2.2.1)] at hR
        have g1 : group.isEmpty = false := by simpa using g
        have g2 : (group == []) = false := by simpa using g
        have g3 : (group != []) = true := by simpa using g
        clear g
        go_wp2_with (go_at_call 52; refine (show Ret _ _ _ _ _ from cM.out _ _).use ?_)
        exact finB hR hB1.out rfl
      case' pos =>
        subst g
        by_cases g : member = []
        case' neg =>
          rw [decide_eq_false (fun h => g h.2.2.2.1)] at hR
          have g1 : member.isEmpty = false := by simpa using g
          have g2 : (member == []) = false := by simpa using g
          have g3 : (member != []) = true := by simpa using g
          clear g
          go_wp2_with (go_at_call 52; refine (show Ret _ _ _ _ _ from cM.out _ _).use ?_)
          exact finB hR hB1.out rfl
        case' pos =>
          subst g
          by_cases g : gen = 0
          case' neg =>
            rw [decide_eq_false (fun h => g h.2.2.2.2.1)] at hR
            have g1 : ((gen : Int) == 0) = false := by simpa using g
            have g2 : ((gen : Int) != 0) = true := by simpa using g
            have g3 : (gen = 0) = False := eq_false g
            clear g
            go_wp2_with (go_at_call 52; refine (show Ret _ _ _ _ _ from cM.out _ _).use ?_)
            exact finB hR hB1.out rfl
          case' pos =>
            subst g
            go_upto_region 9 with (go_at_call 52; refine (show Ret _ _ _ _ _ from cM.out _ _).use ?_)
            by_cases g : robin = false
            case' neg =>
              rw [decide_eq_false (fun h => g h.2.2.2.2.2.1)] at hR
              obtain rfl : robin = true := by cases robin <;> simp_all
              skip
              go_wp2_with (go_at_call 52; refine (show Ret _ _ _ _ _ from cM.out _ _).use ?_)
              exact finB hR hB1.out rfl
            case' pos =>
              subst g
              by_cases g : nt = 0
              case' neg =>
                rw [decide_eq_false (fun h => g h.2.2.2.2.2.2)] at hR
                have g1 : (((nt : Nat) : Int) == 0) = false := by simpa using g
                have g2 : ((0 : Int) < (nt : Nat)) = True := eq_true (by omega)
                have g3 : (nt = 0) = False := eq_false g
                have g4 : (0 < nt) = True := eq_true (by omega)
                clear g
                go_wp2_with (go_at_call 52; refine (show Ret _ _ _ _ _ from cM.out _ _).use ?_)
                exact finB hR hB1.out rfl
              case' pos =>
                subst g
                go_wp2_with (go_at_call 52; refine (show Ret _ _ _ _ _ from cM.out _ _).use ?_)
                exact finB hR hB1.out (by simp)
set_option maxHeartbeats 4000000 in
set_option maxRecDepth 100000 in
theorem ronly_pon (L : List UInt8) (kind : Int) (topic : List UInt8) (pn n off bp be bq : Int) (nr : Nat) (group member : List UInt8) (gen : Int) (robin : Bool) (nt : Nat) (ra ta : Option Addr) (rc tc : Nat) (w : World) (hl : L.length ≤ 1000)
    (a_t : hasC L 116 = false) (a_p : hasC L 112 = true) (a_n : hasC L 110 = true) (a_o : hasC L 111 = true) (a_b : hasC L 98 = false) (a_g : hasC L 103 = false) (a_m : hasC L 109 = false) (a_e : hasC L 101 = false) (a_r : hasC L 114 = false) (a_l : hasC L 108 = false)
    (hh : ∀ w, RetB Tryz.prog 9 #[.int .i64 kind] w (.string (S L))) :
    RetB Tryz.prog 51 #[.agg #[.int .i64 kind, .string (S topic), .int .i64 pn, .int .i64 n, .int .i64 off, .int .i64 bp, .int .i64 be, .int .i64 bq, .slice ra nr rc, .string (S group), .string (S member), .int .i64 gen, .bool robin, .slice ta nt tc]] w (.bool (decide (bp = 0 ∧ be = 0 ∧ bq = 0 ∧ nr = 0 ∧ group = [] ∧ member = [] ∧ gen = 0 ∧ robin = false ∧ nt = 0))) := by
  refine RetB.intro fun R hR => ?_
  have cM := Lib.hid (fun x w => among4 L x w hl)
  have cH := Lib.hid hh
  have HQ0 := Lib.hid (Blk.new w #[.int .i64 kind, .string (S topic), .int .i64 pn, .int .i64 n, .int .i64 off, .int .i64 bp, .int .i64 be, .int .i64 bq, .slice ra nr rc, .string (S group), .string (S member), .int .i64 gen, .bool robin, .slice ta nt tc] 29)
  clear hh
  go_enter Tryz.func51, Tryz.ntmps51
  go_wp2_with fail
  refine (cH.out _).use ?_
  intro w1 b1
  have hq1 := HQ0.out.below b1
  have hB1 := Lib.hid (below_any (Nat.le_refl _) (below_all (Below.refl w.heap.size w)) b1)
  obtain ⟨k1, x0, x1, x2, x3, x4, x5, x6, x7, x8, x9, x10, x11, x12, x13⟩ : w.heap.size < w1.heap.size ∧ w1.cell? ⟨w.heap.size, 0, none⟩ = some (.int .i64 kind) ∧ w1.cell? ⟨w.heap.size, 1, none⟩ = some (.string (S topic)) ∧ w1.cell? ⟨w.heap.size, 2, none⟩ = some (.int .i64 pn) ∧ w1.cell? ⟨w.heap.size, 3, none⟩ = some (.int .i64 n) ∧ w1.cell? ⟨w.heap.size, 4, none⟩ = some (.int .i64 off) ∧ w1.cell? ⟨w.heap.size, 5, none⟩ = some (.int .i64 bp) ∧ w1.cell? ⟨w.heap.size, 6, none⟩ = some (.int .i64 be) ∧ w1.cell? ⟨w.heap.size, 7, none⟩ = some (.int .i64 bq) ∧ w1.cell? ⟨w.heap.size, 8, none⟩ = some (.slice ra nr rc) ∧ w1.cell? ⟨w.heap.size, 9, none⟩ = some (.string (S group)) ∧ w1.cell? ⟨w.heap.size, 10, none⟩ = some (.string (S member)) ∧ w1.cell? ⟨w.heap.size, 11, none⟩ = some (.int .i64 gen) ∧ w1.cell? ⟨w.heap.size, 12, none⟩ = some (.bool robin) ∧ w1.cell? ⟨w.heap.size, 13, none⟩ = some (.slice ta nt tc) := ⟨hq1.lt, hq1.cell 0, hq1.cell 1, hq1.cell 2, hq1.cell 3, hq1.cell 4, hq1.cell 5, hq1.cell 6, hq1.cell 7, hq1.cell 8, hq1.cell 9, hq1.cell 10, hq1.cell 11, hq1.cell 12, hq1.cell 13⟩
  clear hq1 b1
  go_upto_region 3 with (go_at_call 52; refine (show Ret _ _ _ _ _ from cM.out _ _).use ?_)
  go_upto_region 5 with (go_at_call 52; refine (show Ret _ _ _ _ _ from cM.out _ _).use ?_)
  by_cases g : bp = 0
  case' neg =>
    rw [decide_eq_false (fun h => g h.1)] at hR
    have g1 : ((bp : Int) == 0) = false := by simpa using g
    have g2 : ((bp : Int) != 0) = true := by simpa using g
    have g3 : (bp = 0) = False := eq_false g
    clear g
    go_wp2_with (go_at_call 52; refine (show Ret _ _ _ _ _ from cM.out _ _).use ?_)
    exact finB hR hB1.out rfl
  case' pos =>
    subst g
    by_cases g : be = 0
    case' neg =>
      rw [decide_eq_false (fun h => g h.2.1)] at hR
      have g1 : ((be : Int) == 0) = false := by simpa using g
      have g2 : ((be : Int) != 0) = true := by simpa using g
      have g3 : (be = 0) = False := eq_false g
      clear g
      go_wp2_with (go_at_call 52; refine (show Ret _ _ _ _ _ from cM.out _ _).use ?_)
      exact finB hR hB1.out rfl
    case' pos =>
      subst g
      by_cases g : bq = 0
      case' neg =>
        rw [decide_eq_false (fun h => g h.2.2.1)] at hR
        have g1 : ((bq : Int) == 0) = false := by simpa using g
        have g2 : ((bq : Int) != 0) = true := by simpa using g
        have g3 : (bq = 0) = False := eq_false g
        clear g
        go_wp2_with (go_at_call 52; refine (show Ret _ _ _ _ _ from cM.out _ _).use ?_)
        exact finB hR hB1.out rfl
      case' pos =>
        subst g
        by_cases g : nr = 0
        case' neg =>
          rw [decide_eq_false (fun h => g h.2.2.2.1)] at hR
          have g1 : (((nr : Nat) : Int) == 0) = false := by simpa using g
          have g2 : ((0 : Int) < (nr : Nat)) = True := eq_true (by omega)
          have g3 : (nr = 0) = False := eq_false g
          have g4 : (0 < nr) = True := eq_true (by omega)
          clear g
          go_wp2_with (go_at_call 52; refine (show Ret _ _ _ _ _ from cM.out _ _).use ?_)
          exact finB hR hB1.out rfl
        case' pos =>
          subst g
          go_upto_region 7 with (go_at_call 52; refine (show Ret _ _ _ _ _ from cM.out _ _).use ?_)
          by_cases g : group = []
          case' neg =>
            rw [decide_eq_false (fun h => g h.2.2.2.2.1)] at hR
            have g1 : group.isEmpty = false := by simpa using g
            have g2 : (group == []) = false := by simpa using g
            have g3 : (group != []) = true := by simpa using g
            clear g
            go_wp2_with (go_at_call 52; refine (show Ret _ _ _ _ _ from cM.out _ _).use ?_)
            exact finB hR hB1.out rfl
          case' pos =>
            subst g
            by_cases g : member = []
            case' neg =>
              rw [decide_eq_false (fun h => g h.2.2.2.2.2.1)] at hR
              have g1 : member.isEmpty = false := by simpa using g
              have g2 : (member == []) = false := by simpa using g
              have g3 : (member != []) = true := by simpa using g
              clear g
              go_wp2_with (go_at_call 52; refine (show Ret _ _ _ _ _ from cM.out _ _).use ?_)
              exact finB hR hB1.out rfl
            case' pos =>
              subst g
              by_cases g : gen = 0
              case' neg =>
                rw [decide_eq_false (fun h => g h.2.2.2.2.2.2.1)] at hR
                have g1 : ((gen : Int) == 0) = false := by simpa using g
                have g2 : ((gen : Int) != 0) = true := by simpa using g
                have g3 : (gen = 0) = False := eq_false g
                clear g
                go_wp2_with (go_at_call 52; refine (show Ret _ _ _ _ _ from cM.out _ _).use ?_)
                exact finB hR hB1.out rfl
              case' pos =>
                subst g
                go_upto_region 9 with (go_at_call 52; refine (show Ret _ _ _ _ _ from cM.out _ _).use ?_)
                by_cases g : robin = false
                case' neg =>
                  rw [decide_eq_false (fun h => g h.2.2.2.2.2.2.2.1)] at hR
                  obtain rfl : robin = true := by cases robin <;> simp_all
                  skip
                  go_wp2_with (go_at_call 52; refine (show Ret _ _ _ _ _ from cM.out _ _).use ?_)
                  exact finB hR hB1.out rfl
                case' pos =>
                  subst g
                  by_cases g : nt = 0
                  case' neg =>
                    rw [decide_eq_false (fun h => g h.2.2.2.2.2.2.2.2)] at hR
                    have g1 : (((nt : Nat) : Int) == 0) = false := by simpa using g
                    have g2 : ((0 : Int) < (nt : Nat)) = True := eq_true (by omega)
                    have g3 : (nt = 0) = False := eq_false g
                    have g4 : (0 < nt) = True := eq_true (by omega)
                    clear g
                    go_wp2_with (go_at_call 52; refine (show Ret _ _ _ _ _ from cM.out _ _).use ?_)
                    exact finB hR hB1.out rfl
                  case' pos =>
                    subst g
                    go_wp2_with (go_at_call 52; refine (show Ret _ _ _ _ _ from cM.out _ _).use ?_)
                    exact finB hR hB1.out (by simp)
set_option maxHeartbeats 4000000 in
set_option maxRecDepth 100000 in
theorem ronly_po (L : List UInt8) (kind : Int) (topic : List UInt8) (pn n off bp be bq : Int) (nr : Nat) (group member : List UInt8) (gen : Int) (robin : Bool) (nt : Nat) (ra ta : Option Addr) (rc tc : Nat) (w : World) (hl : L.length ≤ 1000)
    (a_t : hasC L 116 = false) (a_p : hasC L 112 = true) (a_n : hasC L 110 = false) (a_o : hasC L 111 = true) (a_b : hasC L 98 = false) (a_g : hasC L 103 = false) (a_m : hasC L 109 = false) (a_e : hasC L 101 = false) (a_r : hasC L 114 = false) (a_l : hasC L 108 = false)
    (hh : ∀ w, RetB Tryz.prog 9 #[.int .i64 kind] w (.string (S L))) :
    RetB Tryz.prog 51 #[.agg #[.int .i64 kind, .string (S topic), .int .i64 pn, .int .i64 n, .int .i64 off, .int .i64 bp, .int .i64 be, .int .i64 bq, .slice ra nr rc, .string (S group), .string (S member), .int .i64 gen, .bool robin, .slice ta nt tc]] w (.bool (decide (n = 0 ∧ bp = 0 ∧ be = 0 ∧ bq = 0 ∧ nr = 0 ∧ group = [] ∧ member = [] ∧ gen = 0 ∧ robin = false ∧ nt = 0))) := by
  refine RetB.intro fun R hR => ?_
  have cM := Lib.hid (fun x w => among4 L x w hl)
  have cH := Lib.hid hh
  have HQ0 := Lib.hid (Blk.new w #[.int .i64 kind, .string (S topic), .int .i64 pn, .int .i64 n, .int .i64 off, .int .i64 bp, .int .i64 be, .int .i64 bq, .slice ra nr rc, .string (S group), .string (S member), .int .i64 gen, .bool robin, .slice ta nt tc] 29)
  clear hh
  go_enter Tryz.func51, Tryz.ntmps51
  go_wp2_with fail
  refine (cH.out _).use ?_
  intro w1 b1
  have hq1 := HQ0.out.below b1
  have hB1 := Lib.hid (below_any (Nat.le_refl _) (below_all (Below.refl w.heap.size w)) b1)
  obtain ⟨k1, x0, x1, x2, x3, x4, x5, x6, x7, x8, x9, x10, x11, x12, x13⟩ : w.heap.size < w1.heap.size ∧ w1.cell? ⟨w.heap.size, 0, none⟩ = some (.int .i64 kind) ∧ w1.cell? ⟨w.heap.size, 1, none⟩ = some (.string (S topic)) ∧ w1.cell? ⟨w.heap.size, 2, none⟩ = some (.int .i64 pn) ∧ w1.cell? ⟨w.heap.size, 3, none⟩ = some (.int .i64 n) ∧ w1.cell? ⟨w.heap.size, 4, none⟩ = some (.int .i64 off) ∧ w1.cell? ⟨w.heap.size, 5, none⟩ = some (.int .i64 bp) ∧ w1.cell? ⟨w.heap.size, 6, none⟩ = some (.int .i64 be) ∧ w1.cell? ⟨w.heap.size, 7, none⟩ = some (.int .i64 bq) ∧ w1.cell? ⟨w.heap.size, 8, none⟩ = some (.slice ra nr rc) ∧ w1.cell? ⟨w.heap.size, 9, none⟩ = some (.string (S group)) ∧ w1.cell? ⟨w.heap.size, 10, none⟩ = some (.string (S member)) ∧ w1.cell? ⟨w.heap.size, 11, none⟩ = some (.int .i64 gen) ∧ w1.cell? ⟨w.heap.size, 12, none⟩ = some (.bool robin) ∧ w1.cell? ⟨w.heap.size, 13, none⟩ = some (.slice ta nt tc) := ⟨hq1.lt, hq1.cell 0, hq1.cell 1, hq1.cell 2, hq1.cell 3, hq1.cell 4, hq1.cell 5, hq1.cell 6, hq1.cell 7, hq1.cell 8, hq1.cell 9, hq1.cell 10, hq1.cell 11, hq1.cell 12, hq1.cell 13⟩
  clear hq1 b1
  go_upto_region 3 with (go_at_call 52; refine (show Ret _ _ _ _ _ from cM.out _ _).use ?_)
  by_cases g : n = 0
  case' neg =>
    rw [decide_eq_false (fun h => g h.1)] at hR
    have g1 : ((n : Int) == 0) = false := by simpa using g
    have g2 : ((n : Int) != 0) = true := by simpa using g
    have g3 : (n = 0) = False := eq_false g
    clear g
    go_wp2_with (go_at_call 52; refine (show Ret _ _ _ _ _ from cM.out _ _).use ?_)
    exact finB hR hB1.out rfl
  case' pos =>
    subst g
    go_upto_region 5 with (go_at_call 52; refine (show Ret _ _ _ _ _ from cM.out _ _).use ?_)
    by_cases g : bp = 0
    case' neg =>
      rw [decide_eq_false (fun h => g h.2.1)] at hR
      have g1 : ((bp : Int) == 0) = false := by simpa using g
      have g2 : ((bp : Int) != 0) = true := by simpa using g
      have g3 : (bp = 0) = False := eq_false g
      clear g
      go_wp2_with (go_at_call 52; refine (show Ret _ _ _ _ _ from cM.out _ _).use ?_)
      exact finB hR hB1.out rfl
    case' pos =>
      subst g
      by_cases g : be = 0
      case' neg =>
        rw [decide_eq_false (fun h => g h.2.2.1)] at hR
        have g1 : ((be : Int) == 0) = false := by simpa using g
        have g2 : ((be : Int) != 0) = true := by simpa using g
        have g3 : (be = 0) = False := eq_false g
        clear g
        go_wp2_with (go_at_call 52; refine (show Ret _ _ _ _ _ from cM.out _ _).use ?_)
        exact finB hR hB1.out rfl
      case' pos =>
        subst g
        by_cases g : bq = 0
        case' neg =>
          rw [decide_eq_false (fun h => g h.2.2.2.1)] at hR
          have g1 : ((bq : Int) == 0) = false := by simpa using g
          have g2 : ((bq : Int) != 0) = true := by simpa using g
          have g3 : (bq = 0) = False := eq_false g
          clear g
          go_wp2_with (go_at_call 52; refine (show Ret _ _ _ _ _ from cM.out _ _).use ?_)
          exact finB hR hB1.out rfl
        case' pos =>
          subst g
          by_cases g : nr = 0
          case' neg =>
            rw [decide_eq_false (fun h => g h.2.2.2.2.1)] at hR
            have g1 : (((nr : Nat) : Int) == 0) = false := by simpa using g
            have g2 : ((0 : Int) < (nr : Nat)) = True := eq_true (by omega)
            have g3 : (nr = 0) = False := eq_false g
            have g4 : (0 < nr) = True := eq_true (by omega)
            clear g
            go_wp2_with (go_at_call 52; refine (show Ret _ _ _ _ _ from cM.out _ _).use ?_)
            exact finB hR hB1.out rfl
          case' pos =>
            subst g
            go_upto_region 7 with (go_at_call 52; refine (show Ret _ _ _ _ _ from cM.out _ _).use ?_)
            by_cases g : group = []
            case' neg =>
              rw [decide_eq_false (fun h => g h.2.2.2.2.2.1)] at hR
              have g1 : group.isEmpty = false := by simpa using g
              have g2 : (group == []) = false := by simpa using g
              have g3 : (group != []) = true := by simpa using g
              clear g
              go_wp2_with (go_at_call 52; refine (show Ret _ _ _ _ _ from cM.out _ _).use ?_)
              exact finB hR hB1.out rfl
            case' pos =>
              subst g
              by_cases g : member = []
              case' neg =>
                rw [decide_eq_false (fun h => g h.2.2.2.2.2.2.1)] at hR
                have g1 : member.isEmpty = false := by simpa using g
                have g2 : (member == []) = false := by simpa using g
                have g3 : (member != []) = true := by simpa using g
                clear g
                go_wp2_with (go_at_call 52; refine (show Ret _ _ _ _ _ from cM.out _ _).use ?_)
                exact finB hR hB1.out rfl
              case' pos =>
                subst g
                by_cases g : gen = 0
                case' neg =>
                  rw [decide_eq_false (fun h => g h.2.2.2.2.2.2.2.1)] at hR
                  have g1 : ((gen : Int) == 0) = false := by simpa using g
                  have g2 : ((gen : Int) != 0) = true := by simpa using g
                  have g3 : (gen = 0) = False := eq_false g
                  clear g
                  go_wp2_with (go_at_call 52; refine (show Ret _ _ _ _ _ from cM.out _ _).use ?_)
                  exact finB hR hB1.out rfl
                case' pos =>
                  subst g
                  go_upto_region 9 with (go_at_call 52; refine (show Ret _ _ _ _ _ from cM.out _ _).use ?_)
                  by_cases g : robin = false
                  case' neg =>
                    rw [decide_eq_false (fun h => g h.2.2.2.2.2.2.2.2.1)] at hR
                    obtain rfl : robin = true := by cases robin <;> simp_all
                    skip
                    go_wp2_with (go_at_call 52; refine (show Ret _ _ _ _ _ from cM.out _ _).use ?_)
                    exact finB hR hB1.out rfl
                  case' pos =>
                    subst g
                    by_cases g : nt = 0
                    case' neg =>
                      rw [decide_eq_false (fun h => g h.2.2.2.2.2.2.2.2.2)] at hR
                      have g1 : (((nt : Nat) : Int) == 0) = false := by simpa using g
                      have g2 : ((0 : Int) < (nt : Nat)) = True := eq_true (by omega)
                      have g3 : (nt = 0) = False := eq_false g
                      have g4 : (0 < nt) = True := eq_true (by omega)
                      clear g
                      go_wp2_with (go_at_call 52; refine (show Ret _ _ _ _ _ from cM.out _ _).use ?_)
                      exact finB hR hB1.out rfl
                    case' pos =>
                      subst g
                      go_wp2_with (go_at_call 52; refine (show Ret _ _ _ _ _ from cM.out _ _).use ?_)
                      exact finB hR hB1.out (by simp)
set_option maxHeartbeats 4000000 in
set_option maxRecDepth 100000 in
theorem ronly_p (L : List UInt8) (kind : Int) (topic : List UInt8) (pn n off bp be bq : Int) (nr : Nat) (group member : List UInt8) (gen : Int) (robin : Bool) (nt : Nat) (ra ta : Option Addr) (rc tc : Nat) (w : World) (hl : L.length ≤ 1000)
    (a_t : hasC L 116 = false) (a_p : hasC L 112 = true) (a_n : hasC L 110 = false) (a_o : hasC L 111 = false) (a_b : hasC L 98 = false) (a_g : hasC L 103 = false) (a_m : hasC L 109 = false) (a_e : hasC L 101 = false) (a_r : hasC L 114 = false) (a_l : hasC L 108 = false)
    (hh : ∀ w, RetB Tryz.prog 9 #[.int .i64 kind] w (.string (S L))) :
    RetB Tryz.prog 51 #[.agg #[.int .i64 kind, .string (S topic), .int .i64 pn, .int .i64 n, .int .i64 off, .int .i64 bp, .int .i64 be, .int .i64 bq, .slice ra nr rc, .string (S group), .string (S member), .int .i64 gen, .bool robin, .slice ta nt tc]] w (.bool (decide (n = 0 ∧ off = 0 ∧ bp = 0 ∧ be = 0 ∧ bq = 0 ∧ nr = 0 ∧ group = [] ∧ member = [] ∧ gen = 0 ∧ robin = false ∧ nt = 0))) := by
  refine RetB.intro fun R hR => ?_
  have cM := Lib.hid (fun x w => among4 L x w hl)
  have cH := Lib.hid hh
  have HQ0 := Lib.hid (Blk.new w #[.int .i64 kind, .string (S topic), .int .i64 pn, .int .i64 n, .int .i64 off, .int .i64 bp, .int .i64 be, .int .i64 bq, .slice ra nr rc, .string (S group), .string (S member), .int .i64 gen, .bool robin, .slice ta nt tc] 29)
  clear hh
  go_enter Tryz.func51, Tryz.ntmps51
  go_wp2_with fail
  refine (cH.out _).use ?_
  intro w1 b1
  have hq1 := HQ0.out.below b1
  have hB1 := Lib.hid (below_any (Nat.le_refl _) (below_all (Below.refl w.heap.size w)) b1)
  obtain ⟨k1, x0, x1, x2, x3, x4, x5, x6, x7, x8, x9, x10, x11, x12, x13⟩ : w.heap.size < w1.heap.size ∧ w1.cell? ⟨w.heap.size, 0, none⟩ = some (.int .i64 kind) ∧ w1.cell? ⟨w.heap.size, 1, none⟩ = some (.string (S topic)) ∧ w1.cell? ⟨w.heap.size, 2, none⟩ = some (.int .i64 pn) ∧ w1.cell? ⟨w.heap.size, 3, none⟩ = some (.int .i64 n) ∧ w1.cell? ⟨w.heap.size, 4, none⟩ = some (.int .i64 off) ∧ w1.cell? ⟨w.heap.size, 5, none⟩ = some (.int .i64 bp) ∧ w1.cell? ⟨w.heap.size, 6, none⟩ = some (.int .i64 be) ∧ w1.cell? ⟨w.heap.size, 7, none⟩ = some (.int .i64 bq) ∧ w1.cell? ⟨w.heap.size, 8, none⟩ = some (.slice ra nr rc) ∧ w1.cell? ⟨w.heap.size, 9, none⟩ = some (.string (S group)) ∧ w1.cell? ⟨w.heap.size, 10, none⟩ = some (.string (S member)) ∧ w1.cell? ⟨w.heap.size, 11, none⟩ = some (.int .i64 gen) ∧ w1.cell? ⟨w.heap.size, 12, none⟩ = some (.bool robin) ∧ w1.cell? ⟨w.heap.size, 13, none⟩ = some (.slice ta nt tc) := ⟨hq1.lt, hq1.cell 0, hq1.cell 1, hq1.cell 2, hq1.cell 3, hq1.cell 4, hq1.cell 5, hq1.cell 6, hq1.cell 7, hq1.cell 8, hq1.cell 9, hq1.cell 10, hq1.cell 11, hq1.cell 12, hq1.cell 13⟩
  clear hq1 b1
  go_upto_region 3 with (go_at_call 52; refine (show Ret _ _ _ _ _ from cM.out _ _).use ?_)
  by_cases g : n = 0
  case' neg =>
    rw [decide_eq_false (fun h => g h.1)] at hR
    have g1 : ((n : Int) == 0) = false := by simpa using g
    have g2 : ((n : Int) != 0) = true := by simpa using g
    have g3 : (n = 0) = False := eq_false g
    clear g
    go_wp2_with (go_at_call 52; refine (show Ret _ _ _ _ _ from cM.out _ _).use ?_)
    exact finB hR hB1.out rfl
  case' pos =>
    subst g
    by_cases g : off = 0
    case' neg =>
      rw [decide_eq_false (fun h => g h.2.1)] at hR
      have g1 : ((off : Int) == 0) = false := by simpa using g
      have g2 : ((off : Int) != 0) = true := by simpa using g
      have g3 : (off = 0) = False := eq_false g
      clear g
      go_wp2_with (go_at_call 52; refine (show Ret _ _ _ _ _ from cM.out _ _).use ?_)
      exact finB hR hB1.out rfl
    case' pos =>
      subst g
      go_upto_region 5 with (go_at_call 52; refine (show Ret _ _ _ _ _ from cM.out _ _).use ?_)
      by_cases g : bp = 0
      case' neg =>
        rw [decide_eq_false (fun h => g h.2.2.1)] at hR
        have g1 : ((bp : Int) == 0) = false := by simpa using g
        have g2 : ((bp : Int) != 0) = true := by simpa using g
        have g3 : (bp = 0) = False := eq_false g
        clear g
        go_wp2_with (go_at_call 52; refine (show Ret _ _ _ _ _ from cM.out _ _).use ?_)
        exact finB hR hB1.out rfl
      case' pos =>
        subst g
        by_cases g : be = 0
        case' neg =>
          rw [decide_eq_false (fun h => g h.2.2.2.1)] at hR
          have g1 : ((be : Int) == 0) = false := by simpa using g
          have g2 : ((be : Int) != 0) = true := by simpa using g
          have g3 : (be = 0) = False := eq_false g
          clear g
          go_wp2_with (go_at_call 52; refine (show Ret _ _ _ _ _ from cM.out _ _).use ?_)
          exact finB hR hB1.out rfl
        case' pos =>
          subst g
          by_cases g : bq = 0
          case' neg =>
            rw [decide_eq_false (fun h => g h.2.2.2.2.1)] at hR
            have g1 : ((bq : Int) == 0) = false := by simpa using g
            have g2 : ((bq : Int) != 0) = true := by simpa using g
            have g3 : (bq = 0) = False := eq_false g
            clear g
            go_wp2_with (go_at_call 52; refine (show Ret _ _ _ _ _ from cM.out _ _).use ?_)
            exact finB hR hB1.out rfl
          case' pos =>
            subst g
            by_cases g : nr = 0
            case' neg =>
              rw [decide_eq_false (fun h => g h.2.2.2.2.2.1)] at hR
              have g1 : (((nr : Nat) : Int) == 0) = false := by simpa using g
              have g2 : ((0 : Int) < (nr : Nat)) = True := eq_true (by omega)
              have g3 : (nr = 0) = False := eq_false g
              have g4 : (0 < nr) = True := eq_true (by omega)
              clear g
              go_wp2_with (go_at_call 52; refine (show Ret _ _ _ _ _ from cM.out _ _).use ?_)
              exact finB hR hB1.out rfl
            case' pos =>
              subst g
              go_upto_region 7 with (go_at_call 52; refine (show Ret _ _ _ _ _ from cM.out _ _).use ?_)
              by_cases g : group = []
              case' neg =>
                rw [decide_eq_false (fun h => g h.2.2.2.2.2.2.1)] at hR
                have g1 : group.isEmpty = false := by simpa using g
                have g2 : (group == []) = false := by simpa using g
                have g3 : (group != []) = true := by simpa using g
                clear g
                go_wp2_with (go_at_call 52; refine (show Ret _ _ _ _ _ from cM.out _ _).use ?_)
                exact finB hR hB1.out rfl
              case' pos =>
                subst g
                by_cases g : member = []
                case' neg =>
                  rw [decide_eq_false (fun h => g h.2.2.2.2.2.2.2.1)] at hR
                  have g1 : member.isEmpty = false := by simpa using g
                  have g2 : (member == []) = false := by simpa using g
                  have g3 : (member != []) = true := by simpa using g
                  clear g
                  go_wp2_with (go_at_call 52; refine (show Ret _ _ _ _ _ from cM.out _ _).use ?_)
                  exact finB hR hB1.out rfl
                case' pos =>
                  subst g
                  by_cases g : gen = 0
                  case' neg =>
                    rw [decide_eq_false (fun h => g h.2.2.2.2.2.2.2.2.1)] at hR
                    have g1 : ((gen : Int) == 0) = false := by simpa using g
                    have g2 : ((gen : Int) != 0) = true := by simpa using g
                    have g3 : (gen = 0) = False := eq_false g
                    clear g
                    go_wp2_with (go_at_call 52; refine (show Ret _ _ _ _ _ from cM.out _ _).use ?_)
                    exact finB hR hB1.out rfl
                  case' pos =>
                    subst g
                    go_upto_region 9 with (go_at_call 52; refine (show Ret _ _ _ _ _ from cM.out _ _).use ?_)
                    by_cases g : robin = false
                    case' neg =>
                      rw [decide_eq_false (fun h => g h.2.2.2.2.2.2.2.2.2.1)] at hR
                      obtain rfl : robin = true := by cases robin <;> simp_all
                      skip
                      go_wp2_with (go_at_call 52; refine (show Ret _ _ _ _ _ from cM.out _ _).use ?_)
                      exact finB hR hB1.out rfl
                    case' pos =>
                      subst g
                      by_cases g : nt = 0
                      case' neg =>
                        rw [decide_eq_false (fun h => g h.2.2.2.2.2.2.2.2.2.2)] at hR
                        have g1 : (((nt : Nat) : Int) == 0) = false := by simpa using g
                        have g2 : ((0 : Int) < (nt : Nat)) = True := eq_true (by omega)
                        have g3 : (nt = 0) = False := eq_false g
                        have g4 : (0 < nt) = True := eq_true (by omega)
                        clear g
                        go_wp2_with (go_at_call 52; refine (show Ret _ _ _ _ _ from cM.out _ _).use ?_)
                        exact finB hR hB1.out rfl
                      case' pos =>
                        subst g
                        go_wp2_with (go_at_call 52; refine (show Ret _ _ _ _ _ from cM.out _ _).use ?_)
                        exact finB hR hB1.out (by simp)
set_option maxHeartbeats 4000000 in
set_option maxRecDepth 100000 in
theorem ronly_gmnrl (L : List UInt8) (kind : Int) (topic : List UInt8) (pn n off bp be bq : Int) (nr : Nat) (group member : List UInt8) (gen : Int) (robin : Bool) (nt : Nat) (ra ta : Option Addr) (rc tc : Nat) (w : World) (hl : L.length ≤ 1000)
    (a_t : hasC L 116 = false) (a_p : hasC L 112 = false) (a_n : hasC L 110 = true) (a_o : hasC L 111 = false) (a_b : hasC L 98 = false) (a_g : hasC L 103 = true) (a_m : hasC L 109 = true) (a_e : hasC L 101 = false) (a_r : hasC L 114 = true) (a_l : hasC L 108 = true)
    (hh : ∀ w, RetB Tryz.prog 9 #[.int .i64 kind] w (.string (S L))) :
    RetB Tryz.prog 51 #[.agg #[.int .i64 kind, .string (S topic), .int .i64 pn, .int .i64 n, .int .i64 off, .int .i64 bp, .int .i64 be, .int .i64 bq, .slice ra nr rc, .string (S group), .string (S member), .int .i64 gen, .bool robin, .slice ta nt tc]] w (.bool (decide (topic = [] ∧ pn = 0 ∧ off = 0 ∧ bp = 0 ∧ be = 0 ∧ bq = 0 ∧ nr = 0 ∧ gen = 0))) := by
  refine RetB.intro fun R hR => ?_
  have cM := Lib.hid (fun x w => among4 L x w hl)
  have cH := Lib.hid hh
  have HQ0 := Lib.hid (Blk.new w #[.int .i64 kind, .string (S topic), .int .i64 pn, .int .i64 n, .int .i64 off, .int .i64 bp, .int .i64 be, .int .i64 bq, .slice ra nr rc, .string (S group), .string (S member), .int .i64 gen, .bool robin, .slice ta nt tc] 29)
  clear hh
  go_enter Tryz.func51, Tryz.ntmps51
  go_wp2_with fail
  refine (cH.out _).use ?_
  intro w1 b1
  have hq1 := HQ0.out.below b1
  have hB1 := Lib.hid (below_any (Nat.le_refl _) (below_all (Below.refl w.heap.size w)) b1)
  obtain ⟨k1, x0, x1, x2, x3, x4, x5, x6, x7, x8, x9, x10, x11, x12, x13⟩ : w.heap.size < w1.heap.size ∧ w1.cell? ⟨w.heap.size, 0, none⟩ = some (.int .i64 kind) ∧ w1.cell? ⟨w.heap.size, 1, none⟩ = some (.string (S topic)) ∧ w1.cell? ⟨w.heap.size, 2, none⟩ = some (.int .i64 pn) ∧ w1.cell? ⟨w.heap.size, 3, none⟩ = some (.int .i64 n) ∧ w1.cell? ⟨w.heap.size, 4, none⟩ = some (.int .i64 off) ∧ w1.cell? ⟨w.heap.size, 5, none⟩ = some (.int .i64 bp) ∧ w1.cell? ⟨w.heap.size, 6, none⟩ = some (.int .i64 be) ∧ w1.cell? ⟨w.heap.size, 7, none⟩ = some (.int .i64 bq) ∧ w1.cell? ⟨w.heap.size, 8, none⟩ = some (.slice ra nr rc) ∧ w1.cell? ⟨w.heap.size, 9, none⟩ = some (.string (S group)) ∧ w1.cell? ⟨w.heap.size, 10, none⟩ = some (.string (S member)) ∧ w1.cell? ⟨w.heap.size, 11, none⟩ = some (.int .i64 gen) ∧ w1.cell? ⟨w.heap.size, 12, none⟩ = some (.bool robin) ∧ w1.cell? ⟨w.heap.size, 13, none⟩ = some (.slice ta nt tc) := ⟨hq1.lt, hq1.cell 0, hq1.cell 1, hq1.cell 2, hq1.cell 3, hq1.cell 4, hq1.cell 5, hq1.cell 6, hq1.cell 7, hq1.cell 8, hq1.cell 9, hq1.cell 10, hq1.cell 11, hq1.cell 12, hq1.cell 13⟩
  clear hq1 b1
  go_upto_region 3 with (go_at_call 52; refine (show Ret _ _ _ _ _ from cM.out _ _).use ?_)
  by_cases g : topic = []
  case' neg =>
    rw [decide_eq_false (fun h => g h.1)] at hR
    have g1 : topic.isEmpty = false := by simpa using g
    have g2 : (topic == []) = false := by simpa using g
    have g3 : (topic != []) = true := by simpa using g
    clear g
    go_wp2_with (go_at_call 52; refine (show Ret _ _ _ _ _ from cM.out _ _).use ?_)
    exact finB hR hB1.out rfl
  case' pos =>
    subst g
    by_cases g : pn = 0
    case' neg =>
      rw [decide_eq_false (fun h => g h.2.1)] at hR
      have g1 : ((pn : Int) == 0) = false := by simpa using g
      have g2 : ((pn : Int) != 0) = true := by simpa using g
      have g3 : (pn = 0) = False := eq_false g
      clear g
      go_wp2_with (go_at_call 52; refine (show Ret _ _ _ _ _ from cM.out _ _).use ?_)
      exact finB hR hB1.out rfl
    case' pos =>
      subst g
      by_cases g : off = 0
      case' neg =>
        rw [decide_eq_false (fun h => g h.2.2.1)] at hR
        have g1 : ((off : Int) == 0) = false := by simpa using g
        have g2 : ((off : Int) != 0) = true := by simpa using g
        have g3 : (off = 0) = False := eq_false g
        clear g
        go_wp2_with (go_at_call 52; refine (show Ret _ _ _ _ _ from cM.out _ _).use ?_)
        exact finB hR hB1.out rfl
      case' pos =>
        subst g
        go_upto_region 5 with (go_at_call 52; refine (show Ret _ _ _ _ _ from cM.out _ _).use ?_)
        by_cases g : bp = 0
        case' neg =>
          rw [decide_eq_false (fun h => g h.2.2.2.1)] at hR
          have g1 : ((bp : Int) == 0) = false := by simpa using g
          have g2 : ((bp : Int) != 0) = true := by simpa using g
          have g3 : (bp = 0) = False := eq_false g
          clear g
          go_wp2_with (go_at_call 52; refine (show Ret _ _ _ _ _ from cM.out _ _).use ?_)
          exact finB hR hB1.out rfl
        case' pos =>
          subst g
          by_cases g : be = 0
          case' neg =>
            rw [decide_eq_false (fun h => g h.2.2.2.2.1)] at hR
            have g1 : ((be : Int) == 0) = false := by simpa using g
            have g2 : ((be : Int) != 0) = true := by simpa using g
            have g3 : (be = 0) = False := eq_false g
            clear g
            go_wp2_with (go_at_call 52; refine (show Ret _ _ _ _ _ from cM.out _ _).use ?_)
            exact finB hR hB1.out rfl
          case' pos =>
            subst g
            by_cases g : bq = 0
            case' neg =>
              rw [decide_eq_false (fun h => g h.2.2.2.2.2.1)] at hR
              have g1 : ((bq : Int) == 0) = false := by simpa using g
              have g2 : ((bq : Int) != 0) = true := by simpa using g
              have g3 : (bq = 0) = False := eq_false g
              clear g
              go_wp2_with (go_at_call 52; refine (show Ret _ _ _ _ _ from cM.out _ _).use ?_)
              exact finB hR hB1.out rfl
            case' pos =>
              subst g
              by_cases g : nr = 0
              case' neg =>
                rw [decide_eq_false (fun h => g h.2.2.2.2.2.2.1)] at hR
                have g1 : (((nr : Nat) : Int) == 0) = false := by simpa using g
                have g2 : ((0 : Int) < (nr : Nat)) = True := eq_true (by omega)
                have g3 : (nr = 0) = False := eq_false g
                have g4 : (0 < nr) = True := eq_true (by omega)
                clear g
                go_wp2_with (go_at_call 52; refine (show Ret _ _ _ _ _ from cM.out _ _).use ?_)
                exact finB hR hB1.out rfl
              case' pos =>
                subst g
                go_upto_region 7 with (go_at_call 52; refine (show Ret _ _ _ _ _ from cM.out _ _).use ?_)
                by_cases g : gen = 0
                case' neg =>
                  rw [decide_eq_false (fun h => g h.2.2.2.2.2.2.2)] at hR
                  have g1 : ((gen : Int) == 0) = false := by simpa using g
                  have g2 : ((gen : Int) != 0) = true := by simpa using g
                  have g3 : (gen = 0) = False := eq_false g
                  clear g
                  go_wp2_with (go_at_call 52; refine (show Ret _ _ _ _ _ from cM.out _ _).use ?_)
                  exact finB hR hB1.out rfl
                case' pos =>
                  subst g
                  go_upto_region 9 with (go_at_call 52; refine (show Ret _ _ _ _ _ from cM.out _ _).use ?_)
                  go_wp2_with (go_at_call 52; refine (show Ret _ _ _ _ _ from cM.out _ _).use ?_)
                  exact finB hR hB1.out (by simp)
set_option maxHeartbeats 4000000 in
set_option maxRecDepth 100000 in
theorem ronly_gme (L : List UInt8) (kind : Int) (topic : List UInt8) (pn n off bp be bq : Int) (nr : Nat) (group member : List UInt8) (gen : Int) (robin : Bool) (nt : Nat) (ra ta : Option Addr) (rc tc : Nat) (w : World) (hl : L.length ≤ 1000)
    (a_t : hasC L 116 = false) (a_p : hasC L 112 = false) (a_n : hasC L 110 = false) (a_o : hasC L 111 = false) (a_b : hasC L 98 = false) (a_g : hasC L 103 = true) (a_m : hasC L 109 = true) (a_e : hasC L 101 = true) (a_r : hasC L 114 = false) (a_l : hasC L 108 = false)
    (hh : ∀ w, RetB Tryz.prog 9 #[.int .i64 kind] w (.string (S L))) :
    RetB Tryz.prog 51 #[.agg #[.int .i64 kind, .string (S topic), .int .i64 pn, .int .i64 n, .int .i64 off, .int .i64 bp, .int .i64 be, .int .i64 bq, .slice ra nr rc, .string (S group), .string (S member), .int .i64 gen, .bool robin, .slice ta nt tc]] w (.bool (decide (topic = [] ∧ pn = 0 ∧ n = 0 ∧ off = 0 ∧ bp = 0 ∧ be = 0 ∧ bq = 0 ∧ nr = 0 ∧ robin = false ∧ nt = 0))) := by
  refine RetB.intro fun R hR => ?_
  have cM := Lib.hid (fun x w => among4 L x w hl)
  have cH := Lib.hid hh
  have HQ0 := Lib.hid (Blk.new w #[.int .i64 kind, .string (S topic), .int .i64 pn, .int .i64 n, .int .i64 off, .int .i64 bp, .int .i64 be, .int .i64 bq, .slice ra nr rc, .string (S group), .string (S member), .int .i64 gen, .bool robin, .slice ta nt tc] 29)
  clear hh
  go_enter Tryz.func51, Tryz.ntmps51
  go_wp2_with fail
  refine (cH.out _).use ?_
  intro w1 b1
  have hq1 := HQ0.out.below b1
  have hB1 := Lib.hid (below_any (Nat.le_refl _) (below_all (Below.refl w.heap.size w)) b1)
  obtain ⟨k1, x0, x1, x2, x3, x4, x5, x6, x7, x8, x9, x10, x11, x12, x13⟩ : w.heap.size < w1.heap.size ∧ w1.cell? ⟨w.heap.size, 0, none⟩ = some (.int .i64 kind) ∧ w1.cell? ⟨w.heap.size, 1, none⟩ = some (.string (S topic)) ∧ w1.cell? ⟨w.heap.size, 2, none⟩ = some (.int .i64 pn) ∧ w1.cell? ⟨w.heap.size, 3, none⟩ = some (.int .i64 n) ∧ w1.cell? ⟨w.heap.size, 4, none⟩ = some (.int .i64 off) ∧ w1.cell? ⟨w.heap.size, 5, none⟩ = some (.int .i64 bp) ∧ w1.cell? ⟨w.heap.size, 6, none⟩ = some (.int .i64 be) ∧ w1.cell? ⟨w.heap.size, 7, none⟩ = some (.int .i64 bq) ∧ w1.cell? ⟨w.heap.size, 8, none⟩ = some (.slice ra nr rc) ∧ w1.cell? ⟨w.heap.size, 9, none⟩ = some (.string (S group)) ∧ w1.cell? ⟨w.heap.size, 10, none⟩ = some (.string (S member)) ∧ w1.cell? ⟨w.heap.size, 11, none⟩ = some (.int .i64 gen) ∧ w1.cell? ⟨w.heap.size, 12, none⟩ = some (.bool robin) ∧ w1.cell? ⟨w.heap.size, 13, none⟩ = some (.slice ta nt tc) := ⟨hq1.lt, hq1.cell 0, hq1.cell 1, hq1.cell 2, hq1.cell 3, hq1.cell 4, hq1.cell 5, hq1.cell 6, hq1.cell 7, hq1.cell 8, hq1.cell 9, hq1.cell 10, hq1.cell 11, hq1.cell 12, hq1.cell 13⟩
  clear hq1 b1
  go_upto_region 3 with (go_at_call 52; refine (show Ret _ _ _ _ _ from cM.out _ _).use ?_)
  by_cases g : topic = []
  case' neg =>
    rw [decide_eq_false (fun h => g h.1)] at hR
    have g1 : topic.isEmpty = false := by simpa using g
    have g2 : (topic == []) = false := by simpa using g
    have g3 : (topic != []) = true := by simpa using g
    clear g
    go_wp2_with (go_at_call 52; refine (show Ret _ _ _ _ _ from cM.out _ _).use ?_)
    exact finB hR hB1.out rfl
  case' pos =>
    subst g
    by_cases g : pn = 0
    case' neg =>
      rw [decide_eq_false (fun h => g h.2.1)] at hR
      have g1 : ((pn : Int) == 0) = false := by simpa using g
      have g2 : ((pn : Int) != 0) = true := by simpa using g
      have g3 : (pn = 0) = False := eq_false g
      clear g
      go_wp2_with (go_at_call 52; refine (show Ret _ _ _ _ _ from cM.out _ _).use ?_)
      exact finB hR hB1.out rfl
    case' pos =>
      subst g
      by_cases g : n = 0
      case' neg =>
        rw [decide_eq_false (fun h => g h.2.2.1)] at hR
        have g1 : ((n : Int) == 0) = false := by simpa using g
        have g2 : ((n : Int) != 0) = true := by simpa using g
        have g3 : (n = 0) = False := eq_false g
        clear g
        go_wp2_with (go_at_call 52; refine (show Ret _ _ _ _ _ from cM.out _ _).use ?_)
        exact finB hR hB1.out rfl
      case' pos =>
        subst g
        by_cases g : off = 0
        case' neg =>
          rw [decide_eq_false (fun h => g h.2.2.2.1)] at hR
          have g1 : ((off : Int) == 0) = false := by simpa using g
          have g2 : ((off : Int) != 0) = true := by simpa using g
          have g3 : (off = 0) = False := eq_false g
          clear g
          go_wp2_with (go_at_call 52; refine (show Ret _ _ _ _ _ from cM.out _ _).use ?_)
          exact finB hR hB1.out rfl
        case' pos =>
          subst g
          go_upto_region 5 with (go_at_call 52; refine (show Ret _ _ _ _ _ from cM.out _ _).use ?_)
          by_cases g : bp = 0
          case' neg =>
            rw [decide_eq_false (fun h => g h.2.2.2.2.1)] at hR
            have g1 : ((bp : Int) == 0) = false := by simpa using g
            have g2 : ((bp : Int) != 0) = true := by simpa using g
            have g3 : (bp = 0) = False := eq_false g
            clear g
            go_wp2_with (go_at_call 52; refine (show Ret _ _ _ _ _ from cM.out _ _).use ?_)
            exact finB hR hB1.out rfl
          case' pos =>
            subst g
            by_cases g : be = 0
            case' neg =>
              rw [decide_eq_false (fun h => g h.2.2.2.2.2.1)] at hR
              have g1 : ((be : Int) == 0) = false := by simpa using g
              have g2 : ((be : Int) != 0) = true := by simpa using g
              have g3 : (be = 0) = False := eq_false g
              clear g
              go_wp2_with (go_at_call 52; refine (show Ret _ _ _ _ _ from cM.out _ _).use ?_)
              exact finB hR hB1.out rfl
            case' pos =>
              subst g
              by_cases g : bq = 0
              case' neg =>
                rw [decide_eq_false (fun h => g h.2.2.2.2.2.2.1)] at hR
                have g1 : ((bq : Int) == 0) = false := by simpa using g
                have g2 : ((bq : Int) != 0) = true := by simpa using g
                have g3 : (bq = 0) = False := eq_false g
                clear g
                go_wp2_with (go_at_call 52; refine (show Ret _ _ _ _ _ from cM.out _ _).use ?_)
                exact finB hR hB1.out rfl
              case' pos =>
                subst g
                by_cases g : nr = 0
                case' neg =>
                  rw [decide_eq_false (fun h => g h.2.2.2.2.2.2.2.1)] at hR
                  have g1 : (((nr : Nat) : Int) == 0) = false := by simpa using g
                  have g2 : ((0 : Int) < (nr : Nat)) = True := eq_true (by omega)
                  have g3 : (nr = 0) = False := eq_false g
                  have g4 : (0 < nr) = True := eq_true (by omega)
                  clear g
                  go_wp2_with (go_at_call 52; refine (show Ret _ _ _ _ _ from cM.out _ _).use ?_)
                  exact finB hR hB1.out rfl
                case' pos =>
                  subst g
                  go_upto_region 7 with (go_at_call 52; refine (show Ret _ _ _ _ _ from cM.out _ _).use ?_)
                  go_upto_region 9 with (go_at_call 52; refine (show Ret _ _ _ _ _ from cM.out _ _).use ?_)
                  by_cases g : robin = false
                  case' neg =>
                    rw [decide_eq_false (fun h => g h.2.2.2.2.2.2.2.2.1)] at hR
                    obtain rfl : robin = true := by cases robin <;> simp_all
                    skip
                    go_wp2_with (go_at_call 52; refine (show Ret _ _ _ _ _ from cM.out _ _).use ?_)
                    exact finB hR hB1.out rfl
                  case' pos =>
                    subst g
                    by_cases g : nt = 0
                    case' neg =>
                      rw [decide_eq_false (fun h => g h.2.2.2.2.2.2.2.2.2)] at hR
                      have g1 : (((nt : Nat) : Int) == 0) = false := by simpa using g
                      have g2 : ((0 : Int) < (nt : Nat)) = True := eq_true (by omega)
                      have g3 : (nt = 0) = False := eq_false g
                      have g4 : (0 < nt) = True := eq_true (by omega)
                      clear g
                      go_wp2_with (go_at_call 52; refine (show Ret _ _ _ _ _ from cM.out _ _).use ?_)
                      exact finB hR hB1.out rfl
                    case' pos =>
                      subst g
                      go_wp2_with (go_at_call 52; refine (show Ret _ _ _ _ _ from cM.out _ _).use ?_)
                      exact finB hR hB1.out (by simp)
set_option maxHeartbeats 4000000 in
set_option maxRecDepth 100000 in
theorem ronly_gmepo (L : List UInt8) (kind : Int) (topic : List UInt8) (pn n off bp be bq : Int) (nr : Nat) (group member : List UInt8) (gen : Int) (robin : Bool) (nt : Nat) (ra ta : Option Addr) (rc tc : Nat) (w : World) (hl : L.length ≤ 1000)
    (a_t : hasC L 116 = false) (a_p : hasC L 112 = true) (a_n : hasC L 110 = false) (a_o : hasC L 111 = true) (a_b : hasC L 98 = false) (a_g : hasC L 103 = true) (a_m : hasC L 109 = true) (a_e : hasC L 101 = true) (a_r : hasC L 114 = false) (a_l : hasC L 108 = false)
    (hh : ∀ w, RetB Tryz.prog 9 #[.int .i64 kind] w (.string (S L))) :
    RetB Tryz.prog 51 #[.agg #[.int .i64 kind, .string (S topic), .int .i64 pn, .int .i64 n, .int .i64 off, .int .i64 bp, .int .i64 be, .int .i64 bq, .slice ra nr rc, .string (S group), .string (S member), .int .i64 gen, .bool robin, .slice ta nt tc]] w (.bool (decide (n = 0 ∧ bp = 0 ∧ be = 0 ∧ bq = 0 ∧ nr = 0 ∧ robin = false ∧ nt = 0))) := by
  refine RetB.intro fun R hR => ?_
  have cM := Lib.hid (fun x w => among4 L x w hl)
  have cH := Lib.hid hh
  have HQ0 := Lib.hid (Blk.new w #[.int .i64 kind, .string (S topic), .int .i64 pn, .int .i64 n, .int .i64 off, .int .i64 bp, .int .i64 be, .int .i64 bq, .slice ra nr rc, .string (S group), .string (S member), .int .i64 gen, .bool robin, .slice ta nt tc] 29)
  clear hh
  go_enter Tryz.func51, Tryz.ntmps51
  go_wp2_with fail
  refine (cH.out _).use ?_
  intro w1 b1
  have hq1 := HQ0.out.below b1
  have hB1 := Lib.hid (below_any (Nat.le_refl _) (below_all (Below.refl w.heap.size w)) b1)
  obtain ⟨k1, x0, x1, x2, x3, x4, x5, x6, x7, x8, x9, x10, x11, x12, x13⟩ : w.heap.size < w1.heap.size ∧ w1.cell? ⟨w.heap.size, 0, none⟩ = some (.int .i64 kind) ∧ w1.cell? ⟨w.heap.size, 1, none⟩ = some (.string (S topic)) ∧ w1.cell? ⟨w.heap.size, 2, none⟩ = some (.int .i64 pn) ∧ w1.cell? ⟨w.heap.size, 3, none⟩ = some (.int .i64 n) ∧ w1.cell? ⟨w.heap.size, 4, none⟩ = some (.int .i64 off) ∧ w1.cell? ⟨w.heap.size, 5, none⟩ = some (.int .i64 bp) ∧ w1.cell? ⟨w.heap.size, 6, none⟩ = some (.int .i64 be) ∧ w1.cell? ⟨w.heap.size, 7, none⟩ = some (.int .i64 bq) ∧ w1.cell? ⟨w.heap.size, 8, none⟩ = some (.slice ra nr rc) ∧ w1.cell? ⟨w.heap.size, 9, none⟩ = some (.string (S group)) ∧ w1.cell? ⟨w.heap.size, 10, none⟩ = some (.string (S member)) ∧ w1.cell? ⟨w.heap.size, 11, none⟩ = some (.int .i64 gen) ∧ w1.cell? ⟨w.heap.size, 12, none⟩ = some (.bool robin) ∧ w1.cell? ⟨w.heap.size, 13, none⟩ = some (.slice ta nt tc) := ⟨hq1.lt, hq1.cell 0, hq1.cell 1, hq1.cell 2, hq1.cell 3, hq1.cell 4, hq1.cell 5, hq1.cell 6, hq1.cell 7, hq1.cell 8, hq1.cell 9, hq1.cell 10, hq1.cell 11, hq1.cell 12, hq1.cell 13⟩
  clear hq1 b1
  go_upto_region 3 with (go_at_call 52; refine (show Ret _ _ _ _ _ from cM.out _ _).use ?_)
  by_cases g : n = 0
  case' neg =>
    rw [decide_eq_false (fun h => g h.1)] at hR
    have g1 : ((n : Int) == 0) = false := by simpa using g
    have g2 : ((n : Int) != 0) = true := by simpa using g
    have g3 : (n = 0) = False := eq_false g
    clear g
    go_wp2_with (go_at_call 52; refine (show Ret _ _ _ _ _ from cM.out _ _).use ?_)
    exact finB hR hB1.out rfl
  case' pos =>
    subst g
    go_upto_region 5 with (go_at_call 52; refine (show Ret _ _ _ _ _ from cM.out _ _).use ?_)
    by_cases g : bp = 0
    case' neg =>
      rw [decide_eq_false (fun h => g h.2.1)] at hR
      have g1 : ((bp : Int) == 0) = false := by simpa using g
      have g2 : ((bp : Int) != 0) = true := by simpa using g
      have g3 : (bp = 0) = False := eq_false g
      clear g
      go_wp2_with (go_at_call 52; refine (show Ret _ _ _ _ _ from cM.out _ _).use ?_)
      exact finB hR hB1.out rfl
    case' pos =>
      subst g
      by_cases g : be = 0
      case' neg =>
        rw [decide_eq_false (fun h => g h.2.2.1)] at hR
        have g1 : ((be : Int) == 0) = false := by simpa using g
        have g2 : ((be : Int) != 0) = true := by simpa using g
        have g3 : (be = 0) = False := eq_false g
        clear g
        go_wp2_with (go_at_call 52; refine (show Ret _ _ _ _ _ from cM.out _ _).use ?_)
        exact finB hR hB1.out rfl
      case' pos =>
        subst g
        by_cases g : bq = 0
        case' neg =>
          rw [decide_eq_false (fun h => g h.2.2.2.1)] at hR
          have g1 : ((bq : Int) == 0) = false := by simpa using g
          have g2 : ((bq : Int) != 0) = true := by simpa using g
          have g3 : (bq = 0) = False := eq_false g
          clear g
          go_wp2_with (go_at_call 52; refine (show Ret _ _ _ _ _ from cM.out _ _).use ?_)
          exact finB hR hB1.out rfl
        case' pos =>
          subst g
          by_cases g : nr = 0
          case' neg =>
            rw [decide_eq_false (fun h => g h.2.2.2.2.1)] at hR
            have g1 : (((nr : Nat) : Int) == 0) = false := by simpa using g
            have g2 : ((0 : Int) < (nr : Nat)) = True := eq_true (by omega)
            have g3 : (nr = 0) = False := eq_false g
            have g4 : (0 < nr) = True := eq_true (by omega)
            clear g
            go_wp2_with (go_at_call 52; refine (show Ret _ _ _ _ _ from cM.out _ _).use ?_)
            exact finB hR hB1.out rfl
          case' pos =>
            subst g
            go_upto_region 7 with (go_at_call 52; refine (show Ret _ _ _ _ _ from cM.out _ _).use ?_)
            go_upto_region 9 with (go_at_call 52; refine (show Ret _ _ _ _ _ from cM.out _ _).use ?_)
            by_cases g : robin = false
            case' neg =>
              rw [decide_eq_false (fun h => g h.2.2.2.2.2.1)] at hR
              obtain rfl : robin = true := by cases robin <;> simp_all
              skip
              go_wp2_with (go_at_call 52; refine (show Ret _ _ _ _ _ from cM.out _ _).use ?_)
              exact finB hR hB1.out rfl
            case' pos =>
              subst g
              by_cases g : nt = 0
              case' neg =>
                rw [decide_eq_false (fun h => g h.2.2.2.2.2.2)] at hR
                have g1 : (((nt : Nat) : Int) == 0) = false := by simpa using g
                have g2 : ((0 : Int) < (nt : Nat)) = True := eq_true (by omega)
                have g3 : (nt = 0) = False := eq_false g
                have g4 : (0 < nt) = True := eq_true (by omega)
                clear g
                go_wp2_with (go_at_call 52; refine (show Ret _ _ _ _ _ from cM.out _ _).use ?_)
                exact finB hR hB1.out rfl
              case' pos =>
                subst g
                go_wp2_with (go_at_call 52; refine (show Ret _ _ _ _ _ from cM.out _ _).use ?_)
                exact finB hR hB1.out (by simp)
set_option maxHeartbeats 4000000 in
set_option maxRecDepth 100000 in
theorem ronly_gp (L : List UInt8) (kind : Int) (topic : List UInt8) (pn n off bp be bq : Int) (nr : Nat) (group member : List UInt8) (gen : Int) (robin : Bool) (nt : Nat) (ra ta : Option Addr) (rc tc : Nat) (w : World) (hl : L.length ≤ 1000)
    (a_t : hasC L 116 = false) (a_p : hasC L 112 = true) (a_n : hasC L 110 = false) (a_o : hasC L 111 = false) (a_b : hasC L 98 = false) (a_g : hasC L 103 = true) (a_m : hasC L 109 = false) (a_e : hasC L 101 = false) (a_r : hasC L 114 = false) (a_l : hasC L 108 = false)
    (hh : ∀ w, RetB Tryz.prog 9 #[.int .i64 kind] w (.string (S L))) :
    RetB Tryz.prog 51 #[.agg #[.int .i64 kind, .string (S topic), .int .i64 pn, .int .i64 n, .int .i64 off, .int .i64 bp, .int .i64 be, .int .i64 bq, .slice ra nr rc, .string (S group), .string (S member), .int .i64 gen, .bool robin, .slice ta nt tc]] w (.bool (decide (n = 0 ∧ off = 0 ∧ bp = 0 ∧ be = 0 ∧ bq = 0 ∧ nr = 0 ∧ member = [] ∧ gen = 0 ∧ robin = false ∧ nt = 0))) := by
  refine RetB.intro fun R hR => ?_
  have cM := Lib.hid (fun x w => among4 L x w hl)
  have cH := Lib.hid hh
  have HQ0 := Lib.hid (Blk.new w #[.int .i64 kind, .string (S topic), .int .i64 pn, .int .i64 n, .int .i64 off, .int .i64 bp, .int .i64 be, .int .i64 bq, .slice ra nr rc, .string (S group), .string (S member), .int .i64 gen, .bool robin, .slice ta nt tc] 29)
  clear hh
  go_enter Tryz.func51, Tryz.ntmps51
  go_wp2_with fail
  refine (cH.out _).use ?_
  intro w1 b1
  have hq1 := HQ0.out.below b1
  have hB1 := Lib.hid (below_any (Nat.le_refl _) (below_all (Below.refl w.heap.size w)) b1)
  obtain ⟨k1, x0, x1, x2, x3, x4, x5, x6, x7, x8, x9, x10, x11, x12, x13⟩ : w.heap.size < w1.heap.size ∧ w1.cell? ⟨w.heap.size, 0, none⟩ = some (.int .i64 kind) ∧ w1.cell? ⟨w.heap.size, 1, none⟩ = some (.string (S topic)) ∧ w1.cell? ⟨w.heap.size, 2, none⟩ = some (.int .i64 pn) ∧ w1.cell? ⟨w.heap.size, 3, none⟩ = some (.int .i64 n) ∧ w1.cell? ⟨w.heap.size, 4, none⟩ = some (.int .i64 off) ∧ w1.cell? ⟨w.heap.size, 5, none⟩ = some (.int .i64 bp) ∧ w1.cell? ⟨w.heap.size, 6, none⟩ = some (.int .i64 be) ∧ w1.cell? ⟨w.heap.size, 7, none⟩ = some (.int .i64 bq) ∧ w1.cell? ⟨w.heap.size, 8, none⟩ = some (.slice ra nr rc) ∧ w1.cell? ⟨w.heap.size, 9, none⟩ = some (.string (S group)) ∧ w1.cell? ⟨w.heap.size, 10, none⟩ = some (.string (S member)) ∧ w1.cell? ⟨w.heap.size, 11, none⟩ = some (.int .i64 gen) ∧ w1.cell? ⟨w.heap.size, 12, none⟩ = some (.bool robin) ∧ w1.cell? ⟨w.heap.size, 13, none⟩ = some (.slice ta nt tc) := ⟨hq1.lt, hq1.cell 0, hq1.cell 1, hq1.cell 2, hq1.cell 3, hq1.cell 4, hq1.cell 5, hq1.cell 6, hq1.cell 7, hq1.cell 8, hq1.cell 9, hq1.cell 10, hq1.cell 11, hq1.cell 12, hq1.cell 13⟩
  clear hq1 b1
  go_upto_region 3 with (go_at_call 52; refine (show Ret _ _ _ _ _ from cM.out _ _).use ?_)
  by_cases g : n = 0
  case' neg =>
    rw [decide_eq_false (fun h => g h.1)] at hR
    have g1 : ((n : Int) == 0) = false := by simpa using g
    have g2 : ((n : Int) != 0) = true := by simpa using g
    have g3 : (n = 0) = False := eq_false g
    clear g
    go_wp2_with (go_at_call 52; refine (show Ret _ _ _ _ _ from cM.out _ _).use ?_)
    exact finB hR hB1.out rfl
  case' pos =>
    subst g
    by_cases g : off = 0
    case' neg =>
      rw [decide_eq_false (fun h => g h.2.1)] at hR
      have g1 : ((off : Int) == 0) = false := by simpa using g
      have g2 : ((off : Int) != 0) = true := by simpa using g
      have g3 : (off = 0) = False := eq_false g
      clear g
      go_wp2_with (go_at_call 52; refine (show Ret _ _ _ _ _ from cM.out _ _).use ?_)
      exact finB hR hB1.out rfl
    case' pos =>
      subst g
      go_upto_region 5 with (go_at_call 52; refine (show Ret _ _ _ _ _ from cM.out _ _).use ?_)
      by_cases g : bp = 0
      case' neg =>
        rw [decide_eq_false (fun h => g h.2.2.1)] at hR
        have g1 : ((bp : Int) == 0) = false := by simpa using g
        have g2 : ((bp : Int) != 0) = true := by simpa using g
        have g3 : (bp = 0) = False := eq_false g
        clear g
        go_wp2_with (go_at_call 52; refine (show Ret _ _ _ _ _ from cM.out _ _).use ?_)
        exact finB hR hB1.out rfl
      case' pos =>
        subst g
        by_cases g : be = 0
        case' neg =>
          rw [decide_eq_false (fun h => g h.2.2.2.1)] at hR
          have g1 : ((be : Int) == 0) = false := by simpa using g
          have g2 : ((be : Int) != 0) = true := by simpa using g
          have g3 : (be = 0) = False := eq_false g
          clear g
          go_wp2_with (go_at_call 52; refine (show Ret _ _ _ _ _ from cM.out _ _).use ?_)
          exact finB hR hB1.out rfl
        case' pos =>
          subst g
          by_cases g : bq = 0
          case' neg =>
            rw [decide_eq_false (fun h => g h.2.2.2.2.1)] at hR
            have g1 : ((bq : Int) == 0) = false := by simpa using g
            have g2 : ((bq : Int) != 0) = true := by simpa using g
            have g3 : (bq = 0) = False := eq_false g
            clear g
            go_wp2_with (go_at_call 52; refine (show Ret _ _ _ _ _ from cM.out _ _).use ?_)
            exact finB hR hB1.out rfl
          case' pos =>
            subst g
            by_cases g : nr = 0
            case' neg =>
              rw [decide_eq_false (fun h => g h.2.2.2.2.2.1)] at hR
              have g1 : (((nr : Nat) : Int) == 0) = false := by simpa using g
              have g2 : ((0 : Int) < (nr : Nat)) = True := eq_true (by omega)
              have g3 : (nr = 0) = False := eq_false g
              have g4 : (0 < nr) = True := eq_true (by omega)
              clear g
              go_wp2_with (go_at_call 52; refine (show Ret _ _ _ _ _ from cM.out _ _).use ?_)
              exact finB hR hB1.out rfl
            case' pos =>
              subst g
              go_upto_region 7 with (go_at_call 52; refine (show Ret _ _ _ _ _ from cM.out _ _).use ?_)
              by_cases g : member = []
              case' neg =>
                rw [decide_eq_false (fun h => g h.2.2.2.2.2.2.1)] at hR
                have g1 : member.isEmpty = false := by simpa using g
                have g2 : (member == []) = false := by simpa using g
                have g3 : (member != []) = true := by simpa using g
                clear g
                go_wp2_with (go_at_call 52; refine (show Ret _ _ _ _ _ from cM.out _ _).use ?_)
                exact finB hR hB1.out rfl
              case' pos =>
                subst g
                by_cases g : gen = 0
                case' neg =>
                  rw [decide_eq_false (fun h => g h.2.2.2.2.2.2.2.1)] at hR
                  have g1 : ((gen : Int) == 0) = false := by simpa using g
                  have g2 : ((gen : Int) != 0) = true := by simpa using g
                  have g3 : (gen = 0) = False := eq_false g
                  clear g
                  go_wp2_with (go_at_call 52; refine (show Ret _ _ _ _ _ from cM.out _ _).use ?_)
                  exact finB hR hB1.out rfl
                case' pos =>
                  subst g
                  go_upto_region 9 with (go_at_call 52; refine (show Ret _ _ _ _ _ from cM.out _ _).use ?_)
                  by_cases g : robin = false
                  case' neg =>
                    rw [decide_eq_false (fun h => g h.2.2.2.2.2.2.2.2.1)] at hR
                    obtain rfl : robin = true := by cases robin <;> simp_all
                    skip
                    go_wp2_with (go_at_call 52; refine (show Ret _ _ _ _ _ from cM.out _ _).use ?_)
                    exact finB hR hB1.out rfl
                  case' pos =>
                    subst g
                    by_cases g : nt = 0
                    case' neg =>
                      rw [decide_eq_false (fun h => g h.2.2.2.2.2.2.2.2.2)] at hR
                      have g1 : (((nt : Nat) : Int) == 0) = false := by simpa using g
                      have g2 : ((0 : Int) < (nt : Nat)) = True := eq_true (by omega)
                      have g3 : (nt = 0) = False := eq_false g
                      have g4 : (0 < nt) = True := eq_true (by omega)
                      clear g
                      go_wp2_with (go_at_call 52; refine (show Ret _ _ _ _ _ from cM.out _ _).use ?_)
                      exact finB hR hB1.out rfl
                    case' pos =>
                      subst g
                      go_wp2_with (go_at_call 52; refine (show Ret _ _ _ _ _ from cM.out _ _).use ?_)
                      exact finB hR hB1.out (by simp)
theorem hasC_cons (a : UInt8) (l : List UInt8) (x : Int) : hasC (a :: l) x = (((a.toNat : Int) == x) || hasC l x) := rfl
theorem ronly4 (c : Cmd) (rv tv : Value) (w : World) (h1 : ∃ a cap, rv = .slice a c.recs.length cap) (h2 : ∃ a cap, tv = .slice a c.tops.length cap) (hk : 0 ≤ c.kind ∧ c.kind ≤ 12) :
    RetB Tryz.prog 51 #[.agg (c.arr rv tv)] w (.bool (decide (crest c = zcmd))) := by
  obtain ⟨kind, topic, pn, n, off, bp, be, bq, recs, group, member, gen, robin, tops⟩ := c
  dsimp only [Cmd.arr] at *
  obtain ⟨ra, rc, rfl⟩ := h1
  obtain ⟨ta, tc, rfl⟩ := h2
  have hh := fun (k : Nat) (h : k ≤ 12) w => has4 k h w
  have hkk : kind = 0 ∨ kind = 1 ∨ kind = 2 ∨ kind = 3 ∨ kind = 4 ∨ kind = 5 ∨ kind = 6 ∨ kind = 7 ∨ kind = 8 ∨ kind = 9 ∨ kind = 10 ∨ kind = 11 ∨ kind = 12 := by omega
  rcases hkk with rfl | rfl | rfl | rfl | rfl | rfl | rfl | rfl | rfl | rfl | rfl | rfl | rfl
  · exact (ronly_tn (hasL 0) 0 topic pn n off bp be bq recs.length group member gen robin tops.length ra ta rc tc w (by decide) (by decide) (by decide) (by decide) (by decide) (by decide) (by decide) (by decide) (by decide) (by decide) (by decide) (fun w => hh 0 (by omega) w)).cast (congrArg Value.bool (decide_eq_decide.2 (by simp [hasF, fclr, crest, zcmd])))
  · exact (ronly_n (hasL 1) 1 topic pn n off bp be bq recs.length group member gen robin tops.length ra ta rc tc w (by decide) (by decide) (by decide) (by decide) (by decide) (by decide) (by decide) (by decide) (by decide) (by decide) (by decide) (fun w => hh 1 (by omega) w)).cast (congrArg Value.bool (decide_eq_decide.2 (by simp [hasF, fclr, crest, zcmd])))
  · exact (ronly_pb (hasL 2) 2 topic pn n off bp be bq recs.length group member gen robin tops.length ra ta rc tc w (by decide) (by decide) (by decide) (by decide) (by decide) (by decide) (by decide) (by decide) (by decide) (by decide) (by decide) (fun w => hh 2 (by omega) w)).cast (congrArg Value.bool (decide_eq_decide.2 (by simp [hasF, fclr, crest, zcmd])))
  · exact (ronly_pon (hasL 3) 3 topic pn n off bp be bq recs.length group member gen robin tops.length ra ta rc tc w (by decide) (by decide) (by decide) (by decide) (by decide) (by decide) (by decide) (by decide) (by decide) (by decide) (by decide) (fun w => hh 3 (by omega) w)).cast (congrArg Value.bool (decide_eq_decide.2 (by simp [hasF, fclr, crest, zcmd])))
  · exact (ronly_po (hasL 4) 4 topic pn n off bp be bq recs.length group member gen robin tops.length ra ta rc tc w (by decide) (by decide) (by decide) (by decide) (by decide) (by decide) (by decide) (by decide) (by decide) (by decide) (by decide) (fun w => hh 4 (by omega) w)).cast (congrArg Value.bool (decide_eq_decide.2 (by simp [hasF, fclr, crest, zcmd])))
  · exact (ronly_p (hasL 5) 5 topic pn n off bp be bq recs.length group member gen robin tops.length ra ta rc tc w (by decide) (by decide) (by decide) (by decide) (by decide) (by decide) (by decide) (by decide) (by decide) (by decide) (by decide) (fun w => hh 5 (by omega) w)).cast (congrArg Value.bool (decide_eq_decide.2 (by simp [hasF, fclr, crest, zcmd])))
  · exact (ronly_gmnrl (hasL 6) 6 topic pn n off bp be bq recs.length group member gen robin tops.length ra ta rc tc w (by decide) (by decide) (by decide) (by decide) (by decide) (by decide) (by decide) (by decide) (by decide) (by decide) (by decide) (fun w => hh 6 (by omega) w)).cast (congrArg Value.bool (decide_eq_decide.2 (by simp [hasF, fclr, crest, zcmd])))
  · exact (ronly_gme (hasL 7) 7 topic pn n off bp be bq recs.length group member gen robin tops.length ra ta rc tc w (by decide) (by decide) (by decide) (by decide) (by decide) (by decide) (by decide) (by decide) (by decide) (by decide) (by decide) (fun w => hh 7 (by omega) w)).cast (congrArg Value.bool (decide_eq_decide.2 (by simp [hasF, fclr, crest, zcmd])))
  · exact (ronly_gme (hasL 8) 8 topic pn n off bp be bq recs.length group member gen robin tops.length ra ta rc tc w (by decide) (by decide) (by decide) (by decide) (by decide) (by decide) (by decide) (by decide) (by decide) (by decide) (by decide) (fun w => hh 8 (by omega) w)).cast (congrArg Value.bool (decide_eq_decide.2 (by simp [hasF, fclr, crest, zcmd])))
  · exact (ronly_gme (hasL 9) 9 topic pn n off bp be bq recs.length group member gen robin tops.length ra ta rc tc w (by decide) (by decide) (by decide) (by decide) (by decide) (by decide) (by decide) (by decide) (by decide) (by decide) (by decide) (fun w => hh 9 (by omega) w)).cast (congrArg Value.bool (decide_eq_decide.2 (by simp [hasF, fclr, crest, zcmd])))
  · exact (ronly_gmepo (hasL 10) 10 topic pn n off bp be bq recs.length group member gen robin tops.length ra ta rc tc w (by decide) (by decide) (by decide) (by decide) (by decide) (by decide) (by decide) (by decide) (by decide) (by decide) (by decide) (fun w => hh 10 (by omega) w)).cast (congrArg Value.bool (decide_eq_decide.2 (by simp [hasF, fclr, crest, zcmd])))
  · exact (ronly_gp (hasL 11) 11 topic pn n off bp be bq recs.length group member gen robin tops.length ra ta rc tc w (by decide) (by decide) (by decide) (by decide) (by decide) (by decide) (by decide) (by decide) (by decide) (by decide) (by decide) (fun w => hh 11 (by omega) w)).cast (congrArg Value.bool (decide_eq_decide.2 (by simp [hasF, fclr, crest, zcmd])))
  · exact (ronly_n (hasL 12) 12 topic pn n off bp be bq recs.length group member gen robin tops.length ra ta rc tc w (by decide) (by decide) (by decide) (by decide) (by decide) (by decide) (by decide) (by decide) (by decide) (by decide) (by decide) (fun w => hh 12 (by omega) w)).cast (congrArg Value.bool (decide_eq_decide.2 (by simp [hasF, fclr, crest, zcmd])))
end Go.Proofs.YthiliodmbipikaaGreat
