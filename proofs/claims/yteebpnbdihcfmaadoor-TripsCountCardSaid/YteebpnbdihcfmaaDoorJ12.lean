/- Package bounds: away, by operation. Package bounds: away, by operation (2). Package bounds: away, by operation (3). -/
import Derived.Test.YteebpnbdihcfmaaDoorJ06
set_option linter.unusedVariables false
set_option linter.unusedSimpArgs false
set_option maxRecDepth 100000
set_option maxHeartbeats 20000000
namespace Go.Proofs.YteebpnbdihcfmaaDoor
open Go.RowKit
/-- what going a way leaves: the flag; where it is gone the spans behind it -/
def AwayPost (b n c : Nat) (w : World) (res : Option (List PSpan)) (e : Ending) (w' : World) : Prop := e = .returned (.bool res.isSome) ∧ Chg (· = b) w w' ∧ ∀ out, res = some out → SpRow w' b n c out
theorem away_set (x : PIns) (B : Nat) (m : PMod) (hh : HF) (f : PFunc) (ta fa : Option Addr) (tl tc fl fc : Nat) (frm : Nat) (to_ : Int) (b n c : Nat) (r : List PSpan) (w : World) (hB : B ≤ w.heap.size) (hf : FuncOk B w hh f) (hfl : frm < f.code.length) (hn1 : f.code.length ≤ 1024) (hx : f.code.getD frm default = x) (hi : InsFine m f x) (hr : SpRow w b n c r) (hrg : (n : Int) = f.regs) (hn : n ≤ 64) (hop : x.op = 1) : Calls Tryd.prog 21 #[.agg #[.slice ta tl tc, .slice fa fl fc], FuncVal hh f, .int .i64 frm, .int .i64 to_, .slice (some ⟨b, 0, none⟩) n c] w (AwayPost b n c w (some (spSet r x.a ⟨x.n, x.n⟩))) := by
 obtain ⟨pa, pl, pc, cb, co, cc, rfl, hcm, hcB, ⟨g0, g1, g2, g3, g4⟩, hcbl, hcb1, hcb2, hcb3, hfr, hwf⟩ := away_pre hB hf hfl hn1 hx;clear hf;unfold FuncVal;dsimp only;have hbl := hr.lt;obtain ⟨op, xa, xb, xc, xn⟩ := x;obtain ⟨v1, v2, v3, v4, v5, v6, v7, v8, v9, v10⟩ := hi;dsimp only at *;subst hop;have hmf := @mkF Tryd.prog;go_enter Tryd.func21, Tryd.ntmps21;go_upto_region 2 with (fail)
 generalize hW0 : World.alloc _ _ = W0;obtain ⟨hb0, OM, OF, OR, OX, hz0⟩ := own_four hW0;clear hW0 g0 g1 g2 g3 g4;have hr0 := hr.below hb0;have x5 := own5 OX;have o1 := own1 OR;go_cut [12] (fun v wx => v = .bool (decide (to_ = xn) && decide (xn ≠ (frm : Int) + 1)) ∧ wx = W0)
 case first =>
  by_cases e1 : to_ = xn
  ·have q1 : (to_ == xn) = true := by simpa using e1
   by_cases e2 : xn = (frm : Int) + 1
   ·have q2 : (xn != (frm : Int) + 1) = false := by simpa using e2
    go_wp2;go_meet
    all_goals exact ⟨by simp [e1, e2], rfl⟩
   ·have q2 : (xn != (frm : Int) + 1) = true := by simpa using e2
    go_wp2;go_meet
    all_goals exact ⟨by simp [e1, e2], rfl⟩
  ·have q1 : (to_ == xn) = false := by simpa using e1
   go_wp2;go_meet
   all_goals exact ⟨by simp [e1], rfl⟩
 case rest =>
  obtain ⟨rfl, rfl⟩ := hcut;obtain ⟨wb, hwb⟩ : ∃ wb : World, wb = wc := ⟨_, rfl⟩
  subst hwb;generalize hfar : (decide (to_ = xn) && decide (xn ≠ (frm : Int) + 1)) = far;have HFAR := Lib.hid hfar;clear hfar;obtain ⟨ka, rfl⟩ := Int.eq_ofNat_of_zero_le v3;have hka : ka < n := by omega
  have hka2 : (ka : Int) < (n : Int) := by omega
  obtain ⟨r0, r1, r2, r3⟩ := hr0.cells hka;go_wp2;go_ret;go_light;refine ⟨rfl, (Chg.of hb0).trans (chg2 _ _ _ _ _ _), fun out ho => ?_⟩;cases ho;unfold spSet;rw [Int.toNat_natCast];exact hr0.set hka ⟨xn, xn⟩
theorem away_ret (x : PIns) (B : Nat) (m : PMod) (hh : HF) (f : PFunc) (ta fa : Option Addr) (tl tc fl fc : Nat) (frm : Nat) (to_ : Int) (b n c : Nat) (r : List PSpan) (w : World) (hB : B ≤ w.heap.size) (hf : FuncOk B w hh f) (hfl : frm < f.code.length) (hn1 : f.code.length ≤ 1024) (hx : f.code.getD frm default = x) (hi : InsFine m f x) (hr : SpRow w b n c r) (hrg : (n : Int) = f.regs) (hn : n ≤ 64) (hop : x.op = 0) : Calls Tryd.prog 21 #[.agg #[.slice ta tl tc, .slice fa fl fc], FuncVal hh f, .int .i64 frm, .int .i64 to_, .slice (some ⟨b, 0, none⟩) n c] w (AwayPost b n c w (some r)) := by
 obtain ⟨pa, pl, pc, cb, co, cc, rfl, hcm, hcB, ⟨g0, g1, g2, g3, g4⟩, hcbl, hcb1, hcb2, hcb3, hfr, hwf⟩ := away_pre hB hf hfl hn1 hx;clear hf;unfold FuncVal;dsimp only;have hbl := hr.lt;obtain ⟨op, xa, xb, xc, xn⟩ := x;obtain ⟨v1, v2, v3, v4, v5, v6, v7, v8, v9, v10⟩ := hi;dsimp only at *;subst hop;have hmf := @mkF Tryd.prog;go_enter Tryd.func21, Tryd.ntmps21;go_upto_region 2 with (fail)
 generalize hW0 : World.alloc _ _ = W0;obtain ⟨hb0, OM, OF, OR, OX, hz0⟩ := own_four hW0;clear hW0 g0 g1 g2 g3 g4;have hr0 := hr.below hb0;have x5 := own5 OX;have o1 := own1 OR;go_cut [12] (fun v wx => v = .bool (decide (to_ = xn) && decide (xn ≠ (frm : Int) + 1)) ∧ wx = W0)
 case first =>
  by_cases e1 : to_ = xn
  ·have q1 : (to_ == xn) = true := by simpa using e1
   by_cases e2 : xn = (frm : Int) + 1
   ·have q2 : (xn != (frm : Int) + 1) = false := by simpa using e2
    go_wp2;go_meet
    all_goals exact ⟨by simp [e1, e2], rfl⟩
   ·have q2 : (xn != (frm : Int) + 1) = true := by simpa using e2
    go_wp2;go_meet
    all_goals exact ⟨by simp [e1, e2], rfl⟩
  ·have q1 : (to_ == xn) = false := by simpa using e1
   go_wp2;go_meet
   all_goals exact ⟨by simp [e1], rfl⟩
 case rest =>
  obtain ⟨rfl, rfl⟩ := hcut;obtain ⟨wb, hwb⟩ : ∃ wb : World, wb = wc := ⟨_, rfl⟩
  subst hwb;generalize hfar : (decide (to_ = xn) && decide (xn ≠ (frm : Int) + 1)) = far;have HFAR := Lib.hid hfar;clear hfar;go_wp2;go_ret;go_light;exact ⟨rfl, Chg.of hb0, fun out ho => by cases ho; exact hr0⟩
theorem away_jump (x : PIns) (B : Nat) (m : PMod) (hh : HF) (f : PFunc) (ta fa : Option Addr) (tl tc fl fc : Nat) (frm : Nat) (to_ : Int) (b n c : Nat) (r : List PSpan) (w : World) (hB : B ≤ w.heap.size) (hf : FuncOk B w hh f) (hfl : frm < f.code.length) (hn1 : f.code.length ≤ 1024) (hx : f.code.getD frm default = x) (hi : InsFine m f x) (hr : SpRow w b n c r) (hrg : (n : Int) = f.regs) (hn : n ≤ 64) (hop : x.op = 14) : Calls Tryd.prog 21 #[.agg #[.slice ta tl tc, .slice fa fl fc], FuncVal hh f, .int .i64 frm, .int .i64 to_, .slice (some ⟨b, 0, none⟩) n c] w (AwayPost b n c w (some r)) := by
 obtain ⟨pa, pl, pc, cb, co, cc, rfl, hcm, hcB, ⟨g0, g1, g2, g3, g4⟩, hcbl, hcb1, hcb2, hcb3, hfr, hwf⟩ := away_pre hB hf hfl hn1 hx;clear hf;unfold FuncVal;dsimp only;have hbl := hr.lt;obtain ⟨op, xa, xb, xc, xn⟩ := x;obtain ⟨v1, v2, v3, v4, v5, v6, v7, v8, v9, v10⟩ := hi;dsimp only at *;subst hop;have hmf := @mkF Tryd.prog;go_enter Tryd.func21, Tryd.ntmps21;go_upto_region 2 with (fail)
 generalize hW0 : World.alloc _ _ = W0;obtain ⟨hb0, OM, OF, OR, OX, hz0⟩ := own_four hW0;clear hW0 g0 g1 g2 g3 g4;have hr0 := hr.below hb0;have x5 := own5 OX;have o1 := own1 OR;go_cut [12] (fun v wx => v = .bool (decide (to_ = xn) && decide (xn ≠ (frm : Int) + 1)) ∧ wx = W0)
 case first =>
  by_cases e1 : to_ = xn
  ·have q1 : (to_ == xn) = true := by simpa using e1
   by_cases e2 : xn = (frm : Int) + 1
   ·have q2 : (xn != (frm : Int) + 1) = false := by simpa using e2
    go_wp2;go_meet
    all_goals exact ⟨by simp [e1, e2], rfl⟩
   ·have q2 : (xn != (frm : Int) + 1) = true := by simpa using e2
    go_wp2;go_meet
    all_goals exact ⟨by simp [e1, e2], rfl⟩
  ·have q1 : (to_ == xn) = false := by simpa using e1
   go_wp2;go_meet
   all_goals exact ⟨by simp [e1], rfl⟩
 case rest =>
  obtain ⟨rfl, rfl⟩ := hcut;obtain ⟨wb, hwb⟩ : ∃ wb : World, wb = wc := ⟨_, rfl⟩
  subst hwb;generalize hfar : (decide (to_ = xn) && decide (xn ≠ (frm : Int) + 1)) = far;have HFAR := Lib.hid hfar;clear hfar;go_wp2;go_ret;go_light;exact ⟨rfl, Chg.of hb0, fun out ho => by cases ho; exact hr0⟩
theorem away_move (x : PIns) (B : Nat) (m : PMod) (hh : HF) (f : PFunc) (ta fa : Option Addr) (tl tc fl fc : Nat) (frm : Nat) (to_ : Int) (b n c : Nat) (r : List PSpan) (w : World) (hB : B ≤ w.heap.size) (hf : FuncOk B w hh f) (hfl : frm < f.code.length) (hn1 : f.code.length ≤ 1024) (hx : f.code.getD frm default = x) (hi : InsFine m f x) (hr : SpRow w b n c r) (hrg : (n : Int) = f.regs) (hn : n ≤ 64) (hop : x.op = 2) : Calls Tryd.prog 21 #[.agg #[.slice ta tl tc, .slice fa fl fc], FuncVal hh f, .int .i64 frm, .int .i64 to_, .slice (some ⟨b, 0, none⟩) n c] w (AwayPost b n c w (some (spSet r x.a (spAt r x.b)))) := by
 obtain ⟨pa, pl, pc, cb, co, cc, rfl, hcm, hcB, ⟨g0, g1, g2, g3, g4⟩, hcbl, hcb1, hcb2, hcb3, hfr, hwf⟩ := away_pre hB hf hfl hn1 hx;clear hf;unfold FuncVal;dsimp only;have hbl := hr.lt;obtain ⟨op, xa, xb, xc, xn⟩ := x;obtain ⟨v1, v2, v3, v4, v5, v6, v7, v8, v9, v10⟩ := hi;dsimp only at *;subst hop;have hmf := @mkF Tryd.prog;go_enter Tryd.func21, Tryd.ntmps21;go_upto_region 2 with (fail)
 generalize hW0 : World.alloc _ _ = W0;obtain ⟨hb0, OM, OF, OR, OX, hz0⟩ := own_four hW0;clear hW0 g0 g1 g2 g3 g4;have hr0 := hr.below hb0;have x5 := own5 OX;have o1 := own1 OR;go_cut [12] (fun v wx => v = .bool (decide (to_ = xn) && decide (xn ≠ (frm : Int) + 1)) ∧ wx = W0)
 case first =>
  by_cases e1 : to_ = xn
  ·have q1 : (to_ == xn) = true := by simpa using e1
   by_cases e2 : xn = (frm : Int) + 1
   ·have q2 : (xn != (frm : Int) + 1) = false := by simpa using e2
    go_wp2;go_meet
    all_goals exact ⟨by simp [e1, e2], rfl⟩
   ·have q2 : (xn != (frm : Int) + 1) = true := by simpa using e2
    go_wp2;go_meet
    all_goals exact ⟨by simp [e1, e2], rfl⟩
  ·have q1 : (to_ == xn) = false := by simpa using e1
   go_wp2;go_meet
   all_goals exact ⟨by simp [e1], rfl⟩
 case rest =>
  obtain ⟨rfl, rfl⟩ := hcut;obtain ⟨wb, hwb⟩ : ∃ wb : World, wb = wc := ⟨_, rfl⟩
  subst hwb;generalize hfar : (decide (to_ = xn) && decide (xn ≠ (frm : Int) + 1)) = far;have HFAR := Lib.hid hfar;clear hfar;obtain ⟨ka, rfl⟩ := Int.eq_ofNat_of_zero_le v3;have hka : ka < n := by omega
  have hka2 : (ka : Int) < (n : Int) := by omega
  obtain ⟨r0, r1, r2, r3⟩ := hr0.cells hka;obtain ⟨kb, rfl⟩ := Int.eq_ofNat_of_zero_le v5;have hkb : kb < n := by omega
  have hkb2 : (kb : Int) < (n : Int) := by omega
  obtain ⟨t0, t1, t2, t3⟩ := hr0.cells hkb;obtain ⟨⟨pl', ph'⟩, hp⟩ : ∃ p, r.getD kb default = p := ⟨_, rfl⟩
  rw [hp] at t0 t1;dsimp only at t0 t1;go_upto_region 8 with (fail)
  refine wp_still 9 (by kernel_rfl) (by kernel_rfl) ?_; simp only [List.take_succ_cons, List.take_zero, List.drop_succ_cons, List.drop_zero]; repeat (refine WS_step (fun K hK => ?_); go_simp; refine hK _ ?_; clear hK K)
  refine WS_nil ?_;go_wp2;go_ret;go_light;refine ⟨rfl, (Chg.of hb0.drew).trans (chg2 _ _ _ _ _ _), fun out ho => ?_⟩;cases ho;unfold spSet spAt;rw [Int.toNat_natCast, Int.toNat_natCast, hp];exact (hr0.below ((Below.refl _ _).drew)).set hka ⟨pl', ph'⟩
end Go.Proofs.YteebpnbdihcfmaaDoor
