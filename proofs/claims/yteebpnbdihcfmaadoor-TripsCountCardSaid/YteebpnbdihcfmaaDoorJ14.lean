/- Package span: Do, equal. Package span: Do, products. Package span: Do, whatever the operation; package bounds: away at an operation of two spans. -/
import Derived.Test.YteebpnbdihcfmaaDoorJ13
import Derived.Test.YteebpnbdihcfmaaDoorJ02
import Derived.Test.YteebpnbdihcfmaaDoorJ12
set_option linter.unusedVariables false
set_option linter.unusedSimpArgs false
set_option maxRecDepth 100000
set_option maxHeartbeats 20000000
namespace Go.Proofs.YteebpnbdihcfmaaDoor
open Go.RowKit
theorem sdo_equal (a b : PSpan) (w : World) (ha : a.lo ≤ a.hi) (hb : b.lo ≤ b.hi) : Calls Tryd.prog 40 #[.int .i64 9, spanV a, spanV b] w fun e w' => e = .returned (.tuple #[spanV (truthP (eqP a b && decide (a.lo = a.hi)) (!(meetQ a b).2)), .bool true]) ∧ Below w.heap.size w w' := by
 have HA := Lib.hid (fun w => none_no a w ha);have HB := Lib.hid (fun w => none_no b w hb);have HX := Lib.hid (fun y' w h => truth_y (eqP a b && decide (a.lo = a.hi)) y' (!(meetQ a b).2) w h);have HM := Lib.hid (fun w => smeet_any a b w);generalize truthP (eqP a b && decide (a.lo = a.hi)) (!(meetQ a b).2) = R at *;generalize meetQ a b = M at *;unfold eqP at *;unfold spanV at *;obtain ⟨rlo, rhi⟩ := R;obtain ⟨⟨mlo, mhi⟩, m⟩ := M;obtain ⟨lo, hi⟩ := a;obtain ⟨lo2, hi2⟩ := b;dsimp only at *;by_cases hl : lo = hi
 ·subst hl;by_cases hk : lo2 = hi2
  ·subst hk;by_cases he : lo = lo2
   ·subst he;go_enter Tryd.func40, Tryd.ntmps40;go_wp2_with (first | (go_at_call 29; refine (HA.out _).mono ?_; rintro e w1 ⟨rfl, hb1⟩; clear HA; have o1 : Own w1 w.heap.size [.int .i64 lo, .int .i64 lo] := ownbq; have o2 : Own w1 (w.heap.size + 1) [.int .i64 lo, .int .i64 lo] := ownbq; have o3 : Own w1 (w.heap.size + 1 + 1) [.int .i64 0, .int .i64 0] := ownbq; have q1 := own2 o1; have q2 := own2 o2; have hbz : Below w.heap.size w w1 := bel) | (go_at_call 29; refine (HB.out _).mono ?_; rintro e w2 ⟨rfl, hb2⟩; clear HB; have p1 := o1.below hb2; have p2 := o2.below hb2; have p3 := o3.below hb2; have r1 := own2 p1; have r2 := own2 p2; have r3 := own2 p3; have s3 := set2 p3; have hby : Below w.heap.size w w2 := bel; clear hb2 hb1 hbz o1 o2 o3 q1 q2) | fail)
    refine (HM.out _).mono ?_; rintro e w4 ⟨rfl, hb4⟩; have hbx : Below w.heap.size w w4 := hby.trans (hb4.mono hby.size); have t1 := p1.below hb4; have t2 := p2.below hb4; replace p3 := p3.below hb4; have u1 := own2 t1; have u2 := own2 t2; have u3 := own2 p3; have hz4 := hb4.size; clear p1 p2 r1 r2 r3 s3;go_wp2_with (first | (go_at_call 59; refine (HX.out _ _ (by grind)).mono ?_; rintro e w5 ⟨rfl, hb5⟩; have t3 := (p3.alloc _).below hb5; have u3 := own2 t3; have v3 := set2 t3; have hz5 := hb5.size) | fail)
    refine flag_end (by rfl) (by rfl) (by rfl) ownbq (by simp) ?_;exact ⟨rfl, bel⟩
   ·skip
    go_enter Tryd.func40, Tryd.ntmps40;go_wp2_with (first | (go_at_call 29; refine (HA.out _).mono ?_; rintro e w1 ⟨rfl, hb1⟩; clear HA; have o1 : Own w1 w.heap.size [.int .i64 lo, .int .i64 lo] := ownbq; have o2 : Own w1 (w.heap.size + 1) [.int .i64 lo2, .int .i64 lo2] := ownbq; have o3 : Own w1 (w.heap.size + 1 + 1) [.int .i64 0, .int .i64 0] := ownbq; have q1 := own2 o1; have q2 := own2 o2; have hbz : Below w.heap.size w w1 := bel) | (go_at_call 29; refine (HB.out _).mono ?_; rintro e w2 ⟨rfl, hb2⟩; clear HB; have p1 := o1.below hb2; have p2 := o2.below hb2; have p3 := o3.below hb2; have r1 := own2 p1; have r2 := own2 p2; have r3 := own2 p3; have s3 := set2 p3; have hby : Below w.heap.size w w2 := bel; clear hb2 hb1 hbz o1 o2 o3 q1 q2) | fail)
    refine (HM.out _).mono ?_; rintro e w4 ⟨rfl, hb4⟩; have hbx : Below w.heap.size w w4 := hby.trans (hb4.mono hby.size); have t1 := p1.below hb4; have t2 := p2.below hb4; replace p3 := p3.below hb4; have u1 := own2 t1; have u2 := own2 t2; have u3 := own2 p3; have hz4 := hb4.size; clear p1 p2 r1 r2 r3 s3;go_wp2_with (first | (go_at_call 59; refine (HX.out _ _ (by grind)).mono ?_; rintro e w5 ⟨rfl, hb5⟩; have t3 := (p3.alloc _).below hb5; have u3 := own2 t3; have v3 := set2 t3; have hz5 := hb5.size) | fail)
    refine flag_end (by rfl) (by rfl) (by rfl) ownbq (by simp) ?_;exact ⟨rfl, bel⟩
  ·by_cases he : lo = lo2
   ·subst he;go_enter Tryd.func40, Tryd.ntmps40;go_wp2_with (first | (go_at_call 29; refine (HA.out _).mono ?_; rintro e w1 ⟨rfl, hb1⟩; clear HA; have o1 : Own w1 w.heap.size [.int .i64 lo, .int .i64 lo] := ownbq; have o2 : Own w1 (w.heap.size + 1) [.int .i64 lo, .int .i64 hi2] := ownbq; have o3 : Own w1 (w.heap.size + 1 + 1) [.int .i64 0, .int .i64 0] := ownbq; have q1 := own2 o1; have q2 := own2 o2; have hbz : Below w.heap.size w w1 := bel) | (go_at_call 29; refine (HB.out _).mono ?_; rintro e w2 ⟨rfl, hb2⟩; clear HB; have p1 := o1.below hb2; have p2 := o2.below hb2; have p3 := o3.below hb2; have r1 := own2 p1; have r2 := own2 p2; have r3 := own2 p3; have s3 := set2 p3; have hby : Below w.heap.size w w2 := bel; clear hb2 hb1 hbz o1 o2 o3 q1 q2) | fail)
    refine (HM.out _).mono ?_; rintro e w4 ⟨rfl, hb4⟩; have hbx : Below w.heap.size w w4 := hby.trans (hb4.mono hby.size); have t1 := p1.below hb4; have t2 := p2.below hb4; replace p3 := p3.below hb4; have u1 := own2 t1; have u2 := own2 t2; have u3 := own2 p3; have hz4 := hb4.size; clear p1 p2 r1 r2 r3 s3;go_wp2_with (first | (go_at_call 59; refine (HX.out _ _ (by grind)).mono ?_; rintro e w5 ⟨rfl, hb5⟩; have t3 := (p3.alloc _).below hb5; have u3 := own2 t3; have v3 := set2 t3; have hz5 := hb5.size) | fail)
    refine flag_end (by rfl) (by rfl) (by rfl) ownbq (by simp) ?_;exact ⟨rfl, bel⟩
   ·skip
    go_enter Tryd.func40, Tryd.ntmps40;go_wp2_with (first | (go_at_call 29; refine (HA.out _).mono ?_; rintro e w1 ⟨rfl, hb1⟩; clear HA; have o1 : Own w1 w.heap.size [.int .i64 lo, .int .i64 lo] := ownbq; have o2 : Own w1 (w.heap.size + 1) [.int .i64 lo2, .int .i64 hi2] := ownbq; have o3 : Own w1 (w.heap.size + 1 + 1) [.int .i64 0, .int .i64 0] := ownbq; have q1 := own2 o1; have q2 := own2 o2; have hbz : Below w.heap.size w w1 := bel) | (go_at_call 29; refine (HB.out _).mono ?_; rintro e w2 ⟨rfl, hb2⟩; clear HB; have p1 := o1.below hb2; have p2 := o2.below hb2; have p3 := o3.below hb2; have r1 := own2 p1; have r2 := own2 p2; have r3 := own2 p3; have s3 := set2 p3; have hby : Below w.heap.size w w2 := bel; clear hb2 hb1 hbz o1 o2 o3 q1 q2) | fail)
    refine (HM.out _).mono ?_; rintro e w4 ⟨rfl, hb4⟩; have hbx : Below w.heap.size w w4 := hby.trans (hb4.mono hby.size); have t1 := p1.below hb4; have t2 := p2.below hb4; replace p3 := p3.below hb4; have u1 := own2 t1; have u2 := own2 t2; have u3 := own2 p3; have hz4 := hb4.size; clear p1 p2 r1 r2 r3 s3;go_wp2_with (first | (go_at_call 59; refine (HX.out _ _ (by grind)).mono ?_; rintro e w5 ⟨rfl, hb5⟩; have t3 := (p3.alloc _).below hb5; have u3 := own2 t3; have v3 := set2 t3; have hz5 := hb5.size) | fail)
    refine flag_end (by rfl) (by rfl) (by rfl) ownbq (by simp) ?_;exact ⟨rfl, bel⟩
 ·by_cases he : lo = lo2
  ·subst he;by_cases he2 : hi = hi2
   ·subst he2;go_enter Tryd.func40, Tryd.ntmps40;go_wp2_with (first | (go_at_call 29; refine (HA.out _).mono ?_; rintro e w1 ⟨rfl, hb1⟩; clear HA; have o1 : Own w1 w.heap.size [.int .i64 lo, .int .i64 hi] := ownbq; have o2 : Own w1 (w.heap.size + 1) [.int .i64 lo, .int .i64 hi] := ownbq; have o3 : Own w1 (w.heap.size + 1 + 1) [.int .i64 0, .int .i64 0] := ownbq; have q1 := own2 o1; have q2 := own2 o2; have hbz : Below w.heap.size w w1 := bel) | (go_at_call 29; refine (HB.out _).mono ?_; rintro e w2 ⟨rfl, hb2⟩; clear HB; have p1 := o1.below hb2; have p2 := o2.below hb2; have p3 := o3.below hb2; have r1 := own2 p1; have r2 := own2 p2; have r3 := own2 p3; have s3 := set2 p3; have hby : Below w.heap.size w w2 := bel; clear hb2 hb1 hbz o1 o2 o3 q1 q2) | fail)
    refine (HM.out _).mono ?_; rintro e w4 ⟨rfl, hb4⟩; have hbx : Below w.heap.size w w4 := hby.trans (hb4.mono hby.size); have t1 := p1.below hb4; have t2 := p2.below hb4; replace p3 := p3.below hb4; have u1 := own2 t1; have u2 := own2 t2; have u3 := own2 p3; have hz4 := hb4.size; clear p1 p2 r1 r2 r3 s3;go_wp2_with (first | (go_at_call 59; refine (HX.out _ _ (by grind)).mono ?_; rintro e w5 ⟨rfl, hb5⟩; have t3 := (p3.alloc _).below hb5; have u3 := own2 t3; have v3 := set2 t3; have hz5 := hb5.size) | fail)
    refine flag_end (by rfl) (by rfl) (by rfl) ownbq (by simp) ?_;exact ⟨rfl, bel⟩
   ·skip
    go_enter Tryd.func40, Tryd.ntmps40;go_wp2_with (first | (go_at_call 29; refine (HA.out _).mono ?_; rintro e w1 ⟨rfl, hb1⟩; clear HA; have o1 : Own w1 w.heap.size [.int .i64 lo, .int .i64 hi] := ownbq; have o2 : Own w1 (w.heap.size + 1) [.int .i64 lo, .int .i64 hi2] := ownbq; have o3 : Own w1 (w.heap.size + 1 + 1) [.int .i64 0, .int .i64 0] := ownbq; have q1 := own2 o1; have q2 := own2 o2; have hbz : Below w.heap.size w w1 := bel) | (go_at_call 29; refine (HB.out _).mono ?_; rintro e w2 ⟨rfl, hb2⟩; clear HB; have p1 := o1.below hb2; have p2 := o2.below hb2; have p3 := o3.below hb2; have r1 := own2 p1; have r2 := own2 p2; have r3 := own2 p3; have s3 := set2 p3; have hby : Below w.heap.size w w2 := bel; clear hb2 hb1 hbz o1 o2 o3 q1 q2) | fail)
    refine (HM.out _).mono ?_; rintro e w4 ⟨rfl, hb4⟩; have hbx : Below w.heap.size w w4 := hby.trans (hb4.mono hby.size); have t1 := p1.below hb4; have t2 := p2.below hb4; replace p3 := p3.below hb4; have u1 := own2 t1; have u2 := own2 t2; have u3 := own2 p3; have hz4 := hb4.size; clear p1 p2 r1 r2 r3 s3;go_wp2_with (first | (go_at_call 59; refine (HX.out _ _ (by grind)).mono ?_; rintro e w5 ⟨rfl, hb5⟩; have t3 := (p3.alloc _).below hb5; have u3 := own2 t3; have v3 := set2 t3; have hz5 := hb5.size) | fail)
    refine flag_end (by rfl) (by rfl) (by rfl) ownbq (by simp) ?_;exact ⟨rfl, bel⟩
  ·skip
   go_enter Tryd.func40, Tryd.ntmps40;go_wp2_with (first | (go_at_call 29; refine (HA.out _).mono ?_; rintro e w1 ⟨rfl, hb1⟩; clear HA; have o1 : Own w1 w.heap.size [.int .i64 lo, .int .i64 hi] := ownbq; have o2 : Own w1 (w.heap.size + 1) [.int .i64 lo2, .int .i64 hi2] := ownbq; have o3 : Own w1 (w.heap.size + 1 + 1) [.int .i64 0, .int .i64 0] := ownbq; have q1 := own2 o1; have q2 := own2 o2; have hbz : Below w.heap.size w w1 := bel) | (go_at_call 29; refine (HB.out _).mono ?_; rintro e w2 ⟨rfl, hb2⟩; clear HB; have p1 := o1.below hb2; have p2 := o2.below hb2; have p3 := o3.below hb2; have r1 := own2 p1; have r2 := own2 p2; have r3 := own2 p3; have s3 := set2 p3; have hby : Below w.heap.size w w2 := bel; clear hb2 hb1 hbz o1 o2 o3 q1 q2) | fail)
   refine (HM.out _).mono ?_; rintro e w4 ⟨rfl, hb4⟩; have hbx : Below w.heap.size w w4 := hby.trans (hb4.mono hby.size); have t1 := p1.below hb4; have t2 := p2.below hb4; replace p3 := p3.below hb4; have u1 := own2 t1; have u2 := own2 t2; have u3 := own2 p3; have hz4 := hb4.size; clear p1 p2 r1 r2 r3 s3;go_wp2_with (first | (go_at_call 59; refine (HX.out _ _ (by grind)).mono ?_; rintro e w5 ⟨rfl, hb5⟩; have t3 := (p3.alloc _).below hb5; have u3 := own2 t3; have v3 := set2 t3; have hz5 := hb5.size) | fail)
   refine flag_end (by rfl) (by rfl) (by rfl) ownbq (by simp) ?_;exact ⟨rfl, bel⟩
theorem doMul_pt (a b : PSpan) (h : pointB a b = true) : doMul a b = ⟨wrap64 (a.lo * b.lo), wrap64 (a.lo * b.lo)⟩ := by unfold doMul; rw [if_pos h]
theorem doMul_else (a b : PSpan) (h : pointB a b = false) : doMul a b = hullP ((pairs4 a b).map fun p => (timesP p.1 p.2).1) ((pairs4 a b).all fun p => (timesP p.1 p.2).2) := by unfold doMul; rw [if_neg (by simp [h])]
/-- the products of the first j pairs, and whether all are numbers -/
def mulTo (a b : PSpan) (j : Nat) : List Int := ((pairs4 a b).take j).map fun p => (timesP p.1 p.2).1
def mulAll (a b : PSpan) (j : Nat) : Bool := ((pairs4 a b).take j).all fun p => (timesP p.1 p.2).2
theorem mulTo_len (a b : PSpan) (j : Nat) (hj : j ≤ 4) : (mulTo a b j).length = j := by simp [mulTo, pairs4]; omega
theorem mulTo_at (a b : PSpan) (j : Nat) (hj : j < 4) : mulTo a b (j + 1) = mulTo a b j ++ [(timesP ((pairs4 a b).getD j (0, 0)).1 ((pairs4 a b).getD j (0, 0)).2).1] := by
 rcases (show j = 0 ∨ j = 1 ∨ j = 2 ∨ j = 3 by omega) with rfl | rfl | rfl | rfl <;> simp [mulTo, pairs4]
theorem mulAll_at (a b : PSpan) (j : Nat) (hj : j < 4) : mulAll a b (j + 1) = (mulAll a b j && (timesP ((pairs4 a b).getD j (0, 0)).1 ((pairs4 a b).getD j (0, 0)).2).2) := by
 rcases (show j = 0 ∨ j = 1 ∨ j = 2 ∨ j = 3 by omega) with rfl | rfl | rfl | rfl <;> simp [mulAll, pairs4, Bool.and_assoc]
theorem pairs_in (a b : PSpan) (h1 : In64 a.lo) (h2 : In64 a.hi) (h3 : In64 b.lo) (h4 : In64 b.hi) (j : Nat) (hj : j < 4) : In64 ((pairs4 a b).getD j (0, 0)).1 ∧ In64 ((pairs4 a b).getD j (0, 0)).2 := by
 rcases (show j = 0 ∨ j = 1 ∨ j = 2 ∨ j = 3 by omega) with rfl | rfl | rfl | rfl <;> simp [pairs4, h1, h2, h3, h4]
def pairV (p : Int × Int) : Value := .agg #[.int .i64 p.1, .int .i64 p.2]
theorem pair_at (a b : PSpan) (j : Nat) (hj : j < 4) (w : World) : (Instr.index 126 (.agg #[.int .i64 a.lo, .int .i64 b.lo, .int .i64 a.lo, .int .i64 b.hi, .int .i64 a.hi, .int .i64 b.lo, .int .i64 a.hi, .int .i64 b.hi]) (.int .i64 j)).run Tryd.prog w = .ok (pairV ((pairs4 a b).getD j (0, 0))) w := by
 rcases (show j = 0 ∨ j = 1 ∨ j = 2 ∨ j = 3 by omega) with rfl | rfl | rfl | rfl <;> rfl
theorem sdo_mul (a b : PSpan) (w : World) (ha : a.lo ≤ a.hi) (hb : b.lo ≤ b.hi) (h1 : In64 a.lo) (h2 : In64 a.hi) (h3 : In64 b.lo) (h4 : In64 b.hi) : Calls Tryd.prog 40 #[.int .i64 5, spanV a, spanV b] w fun e w' => e = .returned (.tuple #[spanV (doMul a b), .bool true]) ∧ Below w.heap.size w w' := by
 have HA := Lib.hid (fun w => none_no a w ha);have HB := Lib.hid (fun w => none_no b w hb);rcases (show pointB a b = true ∨ pointB a b = false by cases pointB a b <;> simp) with hp | hp
 ·rw [doMul_pt a b hp];unfold pointB at hp;simp only [Bool.and_eq_true, decide_eq_true_eq] at hp;unfold spanV at *;obtain ⟨lo, hi⟩ := a;obtain ⟨lo2, hi2⟩ := b;dsimp only at *;obtain ⟨rfl, rfl⟩ := hp;go_enter Tryd.func40, Tryd.ntmps40;go_wp2_with (first | (go_at_call 29; refine (HA.out _).mono ?_; rintro e w1 ⟨rfl, hb1⟩; clear HA; have o1 : Own w1 w.heap.size [.int .i64 lo, .int .i64 lo] := ownbq; have o2 : Own w1 (w.heap.size + 1) [.int .i64 lo2, .int .i64 lo2] := ownbq; have o3 : Own w1 (w.heap.size + 1 + 1) [.int .i64 0, .int .i64 0] := ownbq; have q1 := own2 o1; have q2 := own2 o2; have hbz : Below w.heap.size w w1 := bel) | (go_at_call 29; refine (HB.out _).mono ?_; rintro e w2 ⟨rfl, hb2⟩; clear HB; have p1 := o1.below hb2; have p2 := o2.below hb2; have p3 := o3.below hb2; have r1 := own2 p1; have r2 := own2 p2; have r3 := own2 p3; have s3 := set2 p3; have hby : Below w.heap.size w w2 := bel; clear hb2 hb1 hbz o1 o2 o3 q1 q2) | fail)
  refine flag_end (by rfl) (by rfl) (by rfl) ownbq (by simp) ?_;exact ⟨rfl, bel⟩
 ·have HR := Lib.hid (doMul_else a b hp);generalize doMul a b = R at *;unfold pointB at hp;simp only [Bool.and_eq_false_iff, decide_eq_false_iff_not] at hp;have HI := Lib.hid (pair_at a b);have HN := Lib.hid (pairs_in a b h1 h2 h3 h4);have HT := Lib.hid (mulTo_at a b);have HL := Lib.hid (mulAll_at a b);have HZ := Lib.hid (mulTo_len a b);have e4 : mulTo a b 4 = (pairs4 a b).map fun p => (timesP p.1 p.2).1 := rfl;have e5 : mulAll a b 4 = (pairs4 a b).all fun p => (timesP p.1 p.2).2 := rfl;have e0 : mulTo a b 0 = [] := rfl;have e1 : mulAll a b 0 = true := rfl;have HR2 := Lib.hid (HR.out.trans (by rw [← e4, ← e5])); clear HR e4 e5;have HE0 := Lib.hid e0; have HE1 := Lib.hid e1; clear e0 e1;generalize mulTo a b = MT at *;generalize mulAll a b = MA at *;generalize pairs4 a b = PR at *;unfold spanV at *;obtain ⟨rlo, rhi⟩ := R;obtain ⟨lo, hi⟩ := a;obtain ⟨lo2, hi2⟩ := b;dsimp only at *;by_cases hl : lo = hi
  ·subst hl;have hl2 : ¬ lo2 = hi2 := by omega
   have hl3 : (lo2 == hi2) = false := by simpa using hl2
   go_enter Tryd.func40, Tryd.ntmps40;go_wp2_with (first | (go_at_call 29; refine (HA.out _).mono ?_; rintro e w1 ⟨rfl, hb1⟩; clear HA; have o1 : Own w1 w.heap.size [.int .i64 lo, .int .i64 lo] := ownbq; have o2 : Own w1 (w.heap.size + 1) [.int .i64 lo2, .int .i64 hi2] := ownbq; have o3 : Own w1 (w.heap.size + 1 + 1) [.int .i64 0, .int .i64 0] := ownbq; have q1 := own2 o1; have q2 := own2 o2; have hbz : Below w.heap.size w w1 := bel) | (go_at_call 29; refine (HB.out _).mono ?_; rintro e w2 ⟨rfl, hb2⟩; clear HB; have p1 := o1.below hb2; have p2 := o2.below hb2; have p3 := o3.below hb2; have r1 := own2 p1; have r2 := own2 p2; have r3 := own2 p3; have s3 := set2 p3; have hby : Below w.heap.size w w2 := bel; clear hb2 hb1 hbz o1 o2 o3 q1 q2) | fail)
   clear p1 p2 r1 r2 r3 s3;go_loopw [17, 18, 174] (fun v c i wr => ∃ j : Nat, j ≤ 4 ∧ i = .int .i64 j ∧ c = .bool (MA j) ∧ Below w.heap.size w wr ∧ Hid (Own wr (w.heap.size + 1 + 1) [.int .i64 0, .int .i64 0]) ∧ (∀ k, v.ownBlock = some k → w.heap.size + 3 ≤ k) ∧ Hid (wr.ownsRow 0 2 1 v j (Nums (MT j)))) (fun v c i _ => 4 - (intOf i).toNat)
   case atStart => exact ⟨0, Nat.zero_le _, rfl, by rw [HE1.out], hby, Lib.hid p3, by simp [Value.ownBlock], Lib.hid (by rw [HE0.out]; exact World.ownsRow_nil _ _ _ _)⟩
   case round =>
    clear p3 hby;obtain ⟨j, hj, rfl, rfl, hbr, h0, hvb, hv⟩ := hrel;by_cases hlt : j < 4
    ·have d2 : (j : Int) < 4 := by omega
     have hwk : IntKind.i64.wrap ((j : Int) + 1) = (j : Int) + 1 := IntWalk.i64_in _ (by omega);have HIj := Lib.hid (HI.out j hlt);have HNj := HN.out j hlt;have HTj := Lib.hid (HT.out j hlt);have HLj := Lib.hid (HL.out j hlt);generalize PR.getD j (0, 0) = pr at *;obtain ⟨x, y⟩ := pr;unfold pairV at HIj;dsimp only at *;have HM := Lib.hid (fun w => stimes_any x y w HNj.1 HNj.2);clear HNj;generalize timesP x y = tm at *;obtain ⟨z, zb⟩ := tm;dsimp only at *;rcases (show MA j = true ∨ MA j = false by cases MA j <;> simp) with hma | hma
     all_goals rw [hma] at HLj ⊢
     all_goals go_wp2_with (first | (refine wpList_index rfl (.tmp 173) (.tmp 174) 126 rfl _ (HIj.out _) ?_) | (go_at_call 56; refine (HM.out _).mono ?_; rintro e w3 ⟨rfl, rfl⟩) | (at_builtin; refine wpList_app rfl (.tmp 185) (.tmp 187) 26 2 1 8 (.int .i64 0) rfl Tryd.underlying26 Tryd.info64 rfl (by decide) _ _ _ rfl (row_below bel hv.out) ⟨wr.heap.size + 1, 0, none⟩ 1 1 (Nums [z]) rfl rfl (src_own (Own.new' _ _ _ _ (by simp))) (Nums_one _) (by unfold maxLen; omega) (by omega) (by decide) ?_; intro g2 cap2 w4 hb4 hc4 hg4) | fail)
     all_goals have hc5 : Chg (fun k => u17.ownBlock = some k) wr w4 := (Chg.of (by exact bel)).trans hc4
     all_goals have h45 := h0.out.1
     all_goals refine ⟨⟨j + 1, by omega, by simp, by rw [HLj.out]; try rfl, hbr.trans (hc5.below _ hbr.size (fun k hk e => by have := hvb k e; omega)), Lib.hid (hc5.own h0.out (fun e => by have := hvb _ e; omega)), ?_, Lib.hid ?_⟩, ?_⟩
     all_goals first
      | (intro k hk; have hk' : g2 = k := by simpa [Value.ownBlock] using hk
         subst hk'; rcases hg4 with h | h
         ·exact hvb _ h
         ·simp at h; omega)
      | (rw [HTj.out, Nums_append]; exact hb4)
      | (go_light; first | omega | (simp only [intOf]; omega))
    ·have hjk : j = 4 := by omega
     subst hjk;have hz4 := HZ.out 4 (by omega);obtain ⟨g, cap, rfl, -, -, hg⟩ := row_pos hv.out (by omega);have HB4 := Lib.hid (shull_any g 0 4 cap (MT 4) (MA 4) wr hg hz4.symm (by unfold maxLen; omega) (by omega) (fun i hi' => by
      have hx := row_cell hv.out (j := i) (u := .int .i64 ((MT 4).getD i 0)) (Nums_some (by rw [List.getD_eq_getElem?_getD, List.getElem?_eq_getElem (by omega)]; rfl));rw [Nat.zero_add]; exact hx))
     have hgb := hvb g rfl;have o4 := h0.out;rw [← HR2.out] at HB4;unfold spanV at HB4;dsimp only at HB4;clear hv hvb;go_wp2_with (first | (go_at_call 54; refine HB4.out.mono ?_; rintro e w3 ⟨rfl, hb3⟩; have o5 := o4.below hb3; have q5 := own2 o5; have q6 := set2 o5; have hz3 := hb3.size) | fail)
     refine flag_end (by rfl) (by rfl) (by rfl) ownbq (by simp) ?_;exact ⟨rfl, bel⟩
  ·skip
   go_enter Tryd.func40, Tryd.ntmps40;go_wp2_with (first | (go_at_call 29; refine (HA.out _).mono ?_; rintro e w1 ⟨rfl, hb1⟩; clear HA; have o1 : Own w1 w.heap.size [.int .i64 lo, .int .i64 hi] := ownbq; have o2 : Own w1 (w.heap.size + 1) [.int .i64 lo2, .int .i64 hi2] := ownbq; have o3 : Own w1 (w.heap.size + 1 + 1) [.int .i64 0, .int .i64 0] := ownbq; have q1 := own2 o1; have q2 := own2 o2; have hbz : Below w.heap.size w w1 := bel) | (go_at_call 29; refine (HB.out _).mono ?_; rintro e w2 ⟨rfl, hb2⟩; clear HB; have p1 := o1.below hb2; have p2 := o2.below hb2; have p3 := o3.below hb2; have r1 := own2 p1; have r2 := own2 p2; have r3 := own2 p3; have s3 := set2 p3; have hby : Below w.heap.size w w2 := bel; clear hb2 hb1 hbz o1 o2 o3 q1 q2) | fail)
   clear p1 p2 r1 r2 r3 s3;go_loopw [17, 18, 174] (fun v c i wr => ∃ j : Nat, j ≤ 4 ∧ i = .int .i64 j ∧ c = .bool (MA j) ∧ Below w.heap.size w wr ∧ Hid (Own wr (w.heap.size + 1 + 1) [.int .i64 0, .int .i64 0]) ∧ (∀ k, v.ownBlock = some k → w.heap.size + 3 ≤ k) ∧ Hid (wr.ownsRow 0 2 1 v j (Nums (MT j)))) (fun v c i _ => 4 - (intOf i).toNat)
   case atStart => exact ⟨0, Nat.zero_le _, rfl, by rw [HE1.out], hby, Lib.hid p3, by simp [Value.ownBlock], Lib.hid (by rw [HE0.out]; exact World.ownsRow_nil _ _ _ _)⟩
   case round =>
    clear p3 hby;obtain ⟨j, hj, rfl, rfl, hbr, h0, hvb, hv⟩ := hrel;by_cases hlt : j < 4
    ·have d2 : (j : Int) < 4 := by omega
     have hwk : IntKind.i64.wrap ((j : Int) + 1) = (j : Int) + 1 := IntWalk.i64_in _ (by omega);have HIj := Lib.hid (HI.out j hlt);have HNj := HN.out j hlt;have HTj := Lib.hid (HT.out j hlt);have HLj := Lib.hid (HL.out j hlt);generalize PR.getD j (0, 0) = pr at *;obtain ⟨x, y⟩ := pr;unfold pairV at HIj;dsimp only at *;have HM := Lib.hid (fun w => stimes_any x y w HNj.1 HNj.2);clear HNj;generalize timesP x y = tm at *;obtain ⟨z, zb⟩ := tm;dsimp only at *;rcases (show MA j = true ∨ MA j = false by cases MA j <;> simp) with hma | hma
     all_goals rw [hma] at HLj ⊢
     all_goals go_wp2_with (first | (refine wpList_index rfl (.tmp 173) (.tmp 174) 126 rfl _ (HIj.out _) ?_) | (go_at_call 56; refine (HM.out _).mono ?_; rintro e w3 ⟨rfl, rfl⟩) | (at_builtin; refine wpList_app rfl (.tmp 185) (.tmp 187) 26 2 1 8 (.int .i64 0) rfl Tryd.underlying26 Tryd.info64 rfl (by decide) _ _ _ rfl (row_below bel hv.out) ⟨wr.heap.size + 1, 0, none⟩ 1 1 (Nums [z]) rfl rfl (src_own (Own.new' _ _ _ _ (by simp))) (Nums_one _) (by unfold maxLen; omega) (by omega) (by decide) ?_; intro g2 cap2 w4 hb4 hc4 hg4) | fail)
     all_goals have hc5 : Chg (fun k => u17.ownBlock = some k) wr w4 := (Chg.of (by exact bel)).trans hc4
     all_goals have h45 := h0.out.1
     all_goals refine ⟨⟨j + 1, by omega, by simp, by rw [HLj.out]; try rfl, hbr.trans (hc5.below _ hbr.size (fun k hk e => by have := hvb k e; omega)), Lib.hid (hc5.own h0.out (fun e => by have := hvb _ e; omega)), ?_, Lib.hid ?_⟩, ?_⟩
     all_goals first
      | (intro k hk; have hk' : g2 = k := by simpa [Value.ownBlock] using hk
         subst hk'; rcases hg4 with h | h
         ·exact hvb _ h
         ·simp at h; omega)
      | (rw [HTj.out, Nums_append]; exact hb4)
      | (go_light; first | omega | (simp only [intOf]; omega))
    ·have hjk : j = 4 := by omega
     subst hjk;have hz4 := HZ.out 4 (by omega);obtain ⟨g, cap, rfl, -, -, hg⟩ := row_pos hv.out (by omega);have HB4 := Lib.hid (shull_any g 0 4 cap (MT 4) (MA 4) wr hg hz4.symm (by unfold maxLen; omega) (by omega) (fun i hi' => by
      have hx := row_cell hv.out (j := i) (u := .int .i64 ((MT 4).getD i 0)) (Nums_some (by rw [List.getD_eq_getElem?_getD, List.getElem?_eq_getElem (by omega)]; rfl));rw [Nat.zero_add]; exact hx))
     have hgb := hvb g rfl;have o4 := h0.out;rw [← HR2.out] at HB4;unfold spanV at HB4;dsimp only at HB4;clear hv hvb;go_wp2_with (first | (go_at_call 54; refine HB4.out.mono ?_; rintro e w3 ⟨rfl, hb3⟩; have o5 := o4.below hb3; have q5 := own2 o5; have q6 := set2 o5; have hz3 := hb3.size) | fail)
     refine flag_end (by rfl) (by rfl) (by rfl) ownbq (by simp) ?_;exact ⟨rfl, bel⟩
theorem do_is (op : Int) (a b : PSpan) (w : World) (hop : 3 ≤ op ∧ op ≤ 10) (ha : SpOk a) (hb : SpOk b) :
 Calls Tryd.prog 40 #[.int .i64 op, .agg #[.int .i64 a.lo, .int .i64 a.hi], .agg #[.int .i64 b.lo, .int .i64 b.hi]] w fun e w' => ∃ v, e = .returned v ∧ v = .tuple #[.agg #[.int .i64 (spanDo op a b).1.lo, .int .i64 (spanDo op a b).1.hi], .bool (spanDo op a b).2] ∧ Below w.heap.size w w' := by
 have key : Calls Tryd.prog 40 #[.int .i64 op, spanV a, spanV b] w fun e w' => e = .returned (.tuple #[spanV (spanDo op a b).1, .bool (spanDo op a b).2]) ∧ Below w.heap.size w w' := by
  obtain ⟨a1, a2, a3⟩ := ha;obtain ⟨b1, b2, b3⟩ := hb;obtain rfl | rfl | rfl | rfl | rfl | rfl | rfl | rfl : op = 3 ∨ op = 4 ∨ op = 5 ∨ op = 6 ∨ op = 7 ∨ op = 8 ∨ op = 9 ∨ op = 10 := by omega
  ·exact sdo_add a b w a3 b3
  ·exact sdo_sub a b w a3 b3
  ·exact sdo_mul a b w a3 b3 a1 a2 b1 b2
  ·exact sdo_div a b w a3 b3
  ·exact sdo_rem a b w a3 b3 b1 b2
  ·exact sdo_less a b w a3 b3
  ·exact sdo_equal a b w a3 b3
  ·exact sdo_not a b w a3 b3
 exact key.mono (by rintro e w' ⟨rfl, h⟩; exact ⟨_, rfl, rfl, h⟩)
end Go.Proofs.YteebpnbdihcfmaaDoor
