/- Package span: Widen. -/
import Derived.Test.YteebpnbdihcfmaaDoorJ02
set_option linter.unusedVariables false
set_option linter.unusedSimpArgs false
set_option maxRecDepth 100000
set_option maxHeartbeats 20000000
namespace Go.Proofs.YteebpnbdihcfmaaDoor
open Go.RowKit
/-- the greatest threshold up to x, and the least from x on -/
def upTo (x : Int) (acc t : Int) : Int := if t ≤ x then max acc t else acc
def onFrom (x : Int) (acc t : Int) : Int := if x ≤ t then min acc t else acc
def widenP (old next : PSpan) (thr : List Int) : PSpan :=
 ⟨if (joinP old next).lo < old.lo then thr.foldl (upTo (joinP old next).lo) (-9223372036854775808) else old.lo,
  if old.hi < (joinP old next).hi then thr.foldl (onFrom (joinP old next).hi) 9223372036854775807 else old.hi⟩
theorem swiden_any (a b : PSpan) (thr : List Int) (ta : Option Addr) (tl tc : Nat) (w : World) (ha : a.lo ≤ a.hi) (hb : b.lo ≤ b.hi) (ht : NumsAt w.heap.size w ta tl thr) : Calls Tryd.prog 45 #[spanV a, spanV b, .slice ta tl tc] w fun e w' => e = .returned (spanV (widenP a b thr)) ∧ Below w.heap.size w w' := by
 obtain ⟨htl, htm, tb, tof, hta, htc⟩ := ht;subst htl;have htm' : thr.length ≤ 9223372036854775807 := htm;have HC := Lib.hid htc; clear htc;have HA := Lib.hid (fun w => none_no a w ha);have HB := Lib.hid (fun w => none_no b w hb);have HJ := Lib.hid (fun w => sjoin_any a b w);have HR : widenP a b thr = ⟨if (joinP a b).lo < a.lo then thr.foldl (upTo (joinP a b).lo) (-9223372036854775808) else a.lo, if a.hi < (joinP a b).hi then thr.foldl (onFrom (joinP a b).hi) 9223372036854775807 else a.hi⟩ := rfl;generalize widenP a b thr = R at *;generalize joinP a b = J at *;unfold spanV at *;obtain ⟨rlo, rhi⟩ := R;obtain ⟨jlo, jhi⟩ := J;obtain ⟨lo, hi⟩ := a;obtain ⟨lo2, hi2⟩ := b;dsimp only at *;by_cases c1 : jlo < lo
 ·by_cases c2 : hi < jhi
  ·rw [if_pos c1, if_pos c2] at HR;injection HR with hr1 hr2;subst hr1 hr2;go_enter Tryd.func45, Tryd.ntmps45;go_wp2_with (first | (go_at_call 10; refine (HJ.out _).mono ?_; rintro e w0 ⟨rfl, hb0⟩; have n1 : Own w0 w.heap.size [.int .i64 lo, .int .i64 hi] := ownbq; have n2 : Own w0 (w.heap.size + 1) [.int .i64 lo2, .int .i64 hi2] := ownbq; have n3 : Own w0 (w.heap.size + 1 + 1) [.int .i64 0, .int .i64 0] := ownbq; have m1 := own2 n1; have m2 := own2 n2; have hbx : Below w.heap.size w w0 := bel; clear hb0) | (go_at_call 29; refine (HA.out _).mono ?_; rintro e w1 ⟨rfl, hb1⟩; clear HA; have o1 : Own w1 w.heap.size [.int .i64 lo, .int .i64 hi] := ownbq; have o2 : Own w1 (w.heap.size + 1) [.int .i64 lo2, .int .i64 hi2] := ownbq; have o3 : Own w1 (w.heap.size + 1 + 1) [.int .i64 0, .int .i64 0] := ownbq; have o4 : Own w1 w0.heap.size [.int .i64 jlo, .int .i64 jhi] := ownbq; have q1 := own2 o1; have q2 := own2 o2; have hbz : Below w.heap.size w w1 := bel; clear n1 n2 n3 m1 m2 hb1) | (go_at_call 29; refine (HB.out _).mono ?_; rintro e w2 ⟨rfl, hb2⟩; clear HB; have p1 := o1.below hb2; have p3 := o3.below hb2; have p4 := o4.below hb2; have r1 := own2 p1; have r3 := own2 p3; have r4 := own2 p4; have s3 := set2 p3; have hby : Below w.heap.size w w2 := bel; clear hb2 hbz o1 o2 o3 o4 q1 q2) | fail)
   have g1 := r1.1; have g3 := r3.1; have g4 := r4.1;generalize hW : World.alloc _ _ = WA;have hbw : Below w.heap.size w WA := by rw [← hW]; exact bel
   have v1 : Own WA w.heap.size [.int .i64 lo, .int .i64 hi] := by rw [← hW]; exact ownbq
   have v3 : Own WA (w.heap.size + 1 + 1) [.int .i64 0, .int .i64 0] := by rw [← hW]; exact ownbq
   have v4 : Own WA w0.heap.size [.int .i64 jlo, .int .i64 jhi] := by rw [← hW]; exact ownbq
   have v5 : Own WA w2.heap.size [.int .i64 (-9223372036854775808), .int .i64 hi] := by rw [← hW]; first | exact h6.set 0 _ (by simp) | exact ownbq
   clear hW;clear p1 p3 p4 r1 r3 r4 s3 hby;go_wp2;go_loopw [10, 32] (fun v i wr => ∃ j : Nat, j ≤ thr.length ∧ i = .int .i64 j ∧ Below w.heap.size w wr ∧ Hid (Own wr w.heap.size [.int .i64 lo, .int .i64 hi]) ∧ Hid (Own wr (w.heap.size + 1 + 1) [.int .i64 0, .int .i64 0]) ∧ Hid (Own wr w0.heap.size [.int .i64 jlo, .int .i64 jhi]) ∧ Hid (Own wr w2.heap.size [.int .i64 ((thr.take j).foldl (upTo jlo) (-9223372036854775808)), .int .i64 hi])) (fun v i _ => thr.length - (intOf i).toNat)
   case atStart => exact ⟨0, Nat.zero_le _, rfl, hbw, Lib.hid v1, Lib.hid v3, Lib.hid v4, Lib.hid v5⟩
   case round =>
    clear v1 v3 v4 v5 hbw;obtain ⟨j, hj, rfl, hbr, h1, h3, h4, h5⟩ := hrel;have f1 := own2 h1.out;have k1 := h1.out; have k3 := h3.out; have k4 := h4.out;have f4 := own2 h4.out;by_cases hlt : j < thr.length
    ·have d2 : (j : Int) < (thr.length : Int) := by omega
     have hwk : IntKind.i64.wrap ((j : Int) + 1) = (j : Int) + 1 := IntWalk.i64_in _ (by omega);obtain ⟨rfl, htb⟩ := hta (by omega);have c0 := ((bcell hbr).1 tb (tof + j) (by omega)).trans (HC.out j hlt).1;have hS := foldl_take_succ (upTo jlo) 0 thr j hlt (-9223372036854775808);generalize List.foldl (upTo jlo) (-9223372036854775808) (thr.take j) = acc at *;generalize thr.getD j 0 = t at *;have HS := Lib.hid hS; clear hS;have f5 := own2 h5.out;have f6 := fun x => h5.out.set 0 x (by simp);by_cases e1 : t ≤ jlo
     ·by_cases e2 : acc < t
      ·have hu : upTo jlo acc t = t := by unfold upTo; rw [if_pos e1]; omega
       have HU := Lib.hid hu; clear hu;go_wp2_with fail
       go_roundw
       case rel => exact ⟨j + 1, by omega, by simp, bel, Lib.hid ownbq, Lib.hid ownbq, Lib.hid ownbq, Lib.hid (by rw [HS.out, HU.out]; exact f6 _)⟩
       case measure => go_light; first | omega | (simp only [intOf]; omega)
      ·have hu : upTo jlo acc t = acc := by unfold upTo; rw [if_pos e1]; omega
       have HU := Lib.hid hu; clear hu;go_wp2_with fail
       go_roundw
       case rel => exact ⟨j + 1, by omega, by simp, bel, Lib.hid ownbq, Lib.hid ownbq, Lib.hid ownbq, Lib.hid (by rw [HS.out, HU.out]; exact f6 _)⟩
       case measure => go_light; first | omega | (simp only [intOf]; omega)
     ·have hu : upTo jlo acc t = acc := by unfold upTo; rw [if_neg e1]
      have HU := Lib.hid hu; clear hu;go_wp2_with fail
      go_roundw
      case rel => exact ⟨j + 1, by omega, by simp, hbr, h1, h3, h4, Lib.hid (by rw [HS.out, HU.out]; exact h5.out)⟩
      case measure => go_light; first | omega | (simp only [intOf]; omega)
    ·have hjk : j = thr.length := by omega
     subst hjk;have d2 : ¬ (thr.length : Int) < (thr.length : Int) := by omega
     rw [List.take_length] at h5;have h6 := h5.out;have p1 := h1.out; have p3 := h3.out; have p4 := h4.out; have hby := hbr;have r3 := own2 p3; have s3 := set2 p3;clear h1 h3 h4 h5 hbr k1 k3 k4 f1 f4;generalize hE : (thr.foldl (upTo jlo) (-9223372036854775808)) = elo at *;have HEelo := Lib.hid hE; clear hE;have f5 := own2 h6;have f6 := h6.set 1 (.int .i64 9223372036854775807) (by simp);have r1 := own2 p1; have r4 := own2 p4;go_wp2_with fail;have g1 := r1.1; have g3 := r3.1; have g4 := r4.1;generalize hW : World.setCell _ _ _ = WB;have hbw : Below w.heap.size w WB := by rw [← hW]; exact bel
     have v1 : Own WB w.heap.size [.int .i64 lo, .int .i64 hi] := by rw [← hW]; exact ownbq
     have v3 : Own WB (w.heap.size + 1 + 1) [.int .i64 0, .int .i64 0] := by rw [← hW]; exact ownbq
     have v4 : Own WB w0.heap.size [.int .i64 jlo, .int .i64 jhi] := by rw [← hW]; exact ownbq
     have v5 : Own WB w2.heap.size [.int .i64 elo, .int .i64 9223372036854775807] := by rw [← hW]; first | exact h6.set 1 _ (by simp) | exact ownbq
     clear hW;clear p1 p3 p4 r1 r3 r4 s3 hby;go_wp2;go_loopw [12, 54] (fun v i wr => ∃ j : Nat, j ≤ thr.length ∧ i = .int .i64 j ∧ Below w.heap.size w wr ∧ Hid (Own wr w.heap.size [.int .i64 lo, .int .i64 hi]) ∧ Hid (Own wr (w.heap.size + 1 + 1) [.int .i64 0, .int .i64 0]) ∧ Hid (Own wr w0.heap.size [.int .i64 jlo, .int .i64 jhi]) ∧ Hid (Own wr w2.heap.size [.int .i64 elo, .int .i64 ((thr.take j).foldl (onFrom jhi) 9223372036854775807)])) (fun v i _ => thr.length - (intOf i).toNat)
     case atStart => exact ⟨0, Nat.zero_le _, rfl, hbw, Lib.hid v1, Lib.hid v3, Lib.hid v4, Lib.hid v5⟩
     case round =>
      clear v1 v3 v4 v5 hbw;obtain ⟨j, hj, rfl, hbr, h1, h3, h4, h5⟩ := hrel;have f1 := own2 h1.out;have k1 := h1.out; have k3 := h3.out; have k4 := h4.out;have f4 := own2 h4.out;by_cases hlt : j < thr.length
      ·have d2 : (j : Int) < (thr.length : Int) := by omega
       have hwk : IntKind.i64.wrap ((j : Int) + 1) = (j : Int) + 1 := IntWalk.i64_in _ (by omega);obtain ⟨rfl, htb⟩ := hta (by omega);have c0 := ((bcell hbr).1 tb (tof + j) (by omega)).trans (HC.out j hlt).1;have hS := foldl_take_succ (onFrom jhi) 0 thr j hlt 9223372036854775807;generalize List.foldl (onFrom jhi) 9223372036854775807 (thr.take j) = acc at *;generalize thr.getD j 0 = t at *;have HS := Lib.hid hS; clear hS;have f5 := own2 h5.out;have f6 := fun x => h5.out.set 1 x (by simp);by_cases e1 : jhi ≤ t
       ·by_cases e2 : t < acc
        ·have hu : onFrom jhi acc t = t := by unfold onFrom; rw [if_pos e1]; omega
         have HU := Lib.hid hu; clear hu;go_wp2_with fail
         go_roundw
         case rel => exact ⟨j + 1, by omega, by simp, bel, Lib.hid ownbq, Lib.hid ownbq, Lib.hid ownbq, Lib.hid (by rw [HS.out, HU.out]; exact f6 _)⟩
         case measure => go_light; first | omega | (simp only [intOf]; omega)
        ·have hu : onFrom jhi acc t = acc := by unfold onFrom; rw [if_pos e1]; omega
         have HU := Lib.hid hu; clear hu;go_wp2_with fail
         go_roundw
         case rel => exact ⟨j + 1, by omega, by simp, bel, Lib.hid ownbq, Lib.hid ownbq, Lib.hid ownbq, Lib.hid (by rw [HS.out, HU.out]; exact f6 _)⟩
         case measure => go_light; first | omega | (simp only [intOf]; omega)
       ·have hu : onFrom jhi acc t = acc := by unfold onFrom; rw [if_neg e1]
        have HU := Lib.hid hu; clear hu;go_wp2_with fail
        go_roundw
        case rel => exact ⟨j + 1, by omega, by simp, hbr, h1, h3, h4, Lib.hid (by rw [HS.out, HU.out]; exact h5.out)⟩
        case measure => go_light; first | omega | (simp only [intOf]; omega)
      ·have hjk : j = thr.length := by omega
       subst hjk;have d2 : ¬ (thr.length : Int) < (thr.length : Int) := by omega
       rw [List.take_length] at h5;have h6 := h5.out;have p1 := h1.out; have p3 := h3.out; have p4 := h4.out; have hby := hbr;have r3 := own2 p3; have s3 := set2 p3;clear h1 h3 h4 h5 hbr k1 k3 k4 f1 f4;generalize hE : (thr.foldl (onFrom jhi) 9223372036854775807) = ehi at *;have HEehi := Lib.hid hE; clear hE;have f5 := own2 h6; have r1 := own2 p1; have r4 := own2 p4;go_wp2_with fail;refine span_end (by rfl) (by rfl) ownbq (by simp) ?_;exact ⟨by first | rfl | (rw [HEelo.out, HEehi.out]; done) | (rw [HEehi.out]; done) | (rw [HEelo.out]; done), bel⟩
  ·rw [if_pos c1, if_neg c2] at HR;injection HR with hr1 hr2;have hr2 := hr2.symm;subst hr1 hr2;go_enter Tryd.func45, Tryd.ntmps45;go_wp2_with (first | (go_at_call 10; refine (HJ.out _).mono ?_; rintro e w0 ⟨rfl, hb0⟩; have n1 : Own w0 w.heap.size [.int .i64 lo, .int .i64 hi] := ownbq; have n2 : Own w0 (w.heap.size + 1) [.int .i64 lo2, .int .i64 hi2] := ownbq; have n3 : Own w0 (w.heap.size + 1 + 1) [.int .i64 0, .int .i64 0] := ownbq; have m1 := own2 n1; have m2 := own2 n2; have hbx : Below w.heap.size w w0 := bel; clear hb0) | (go_at_call 29; refine (HA.out _).mono ?_; rintro e w1 ⟨rfl, hb1⟩; clear HA; have o1 : Own w1 w.heap.size [.int .i64 lo, .int .i64 hi] := ownbq; have o2 : Own w1 (w.heap.size + 1) [.int .i64 lo2, .int .i64 hi2] := ownbq; have o3 : Own w1 (w.heap.size + 1 + 1) [.int .i64 0, .int .i64 0] := ownbq; have o4 : Own w1 w0.heap.size [.int .i64 jlo, .int .i64 jhi] := ownbq; have q1 := own2 o1; have q2 := own2 o2; have hbz : Below w.heap.size w w1 := bel; clear n1 n2 n3 m1 m2 hb1) | (go_at_call 29; refine (HB.out _).mono ?_; rintro e w2 ⟨rfl, hb2⟩; clear HB; have p1 := o1.below hb2; have p3 := o3.below hb2; have p4 := o4.below hb2; have r1 := own2 p1; have r3 := own2 p3; have r4 := own2 p4; have s3 := set2 p3; have hby : Below w.heap.size w w2 := bel; clear hb2 hbz o1 o2 o3 o4 q1 q2) | fail)
   have g1 := r1.1; have g3 := r3.1; have g4 := r4.1;generalize hW : World.alloc _ _ = WA;have hbw : Below w.heap.size w WA := by rw [← hW]; exact bel
   have v1 : Own WA w.heap.size [.int .i64 lo, .int .i64 hi] := by rw [← hW]; exact ownbq
   have v3 : Own WA (w.heap.size + 1 + 1) [.int .i64 0, .int .i64 0] := by rw [← hW]; exact ownbq
   have v4 : Own WA w0.heap.size [.int .i64 jlo, .int .i64 jhi] := by rw [← hW]; exact ownbq
   have v5 : Own WA w2.heap.size [.int .i64 (-9223372036854775808), .int .i64 hi] := by rw [← hW]; first | exact h6.set 0 _ (by simp) | exact ownbq
   clear hW;clear p1 p3 p4 r1 r3 r4 s3 hby;go_wp2;go_loopw [10, 32] (fun v i wr => ∃ j : Nat, j ≤ thr.length ∧ i = .int .i64 j ∧ Below w.heap.size w wr ∧ Hid (Own wr w.heap.size [.int .i64 lo, .int .i64 hi]) ∧ Hid (Own wr (w.heap.size + 1 + 1) [.int .i64 0, .int .i64 0]) ∧ Hid (Own wr w0.heap.size [.int .i64 jlo, .int .i64 jhi]) ∧ Hid (Own wr w2.heap.size [.int .i64 ((thr.take j).foldl (upTo jlo) (-9223372036854775808)), .int .i64 hi])) (fun v i _ => thr.length - (intOf i).toNat)
   case atStart => exact ⟨0, Nat.zero_le _, rfl, hbw, Lib.hid v1, Lib.hid v3, Lib.hid v4, Lib.hid v5⟩
   case round =>
    clear v1 v3 v4 v5 hbw;obtain ⟨j, hj, rfl, hbr, h1, h3, h4, h5⟩ := hrel;have f1 := own2 h1.out;have k1 := h1.out; have k3 := h3.out; have k4 := h4.out;have f4 := own2 h4.out;by_cases hlt : j < thr.length
    ·have d2 : (j : Int) < (thr.length : Int) := by omega
     have hwk : IntKind.i64.wrap ((j : Int) + 1) = (j : Int) + 1 := IntWalk.i64_in _ (by omega);obtain ⟨rfl, htb⟩ := hta (by omega);have c0 := ((bcell hbr).1 tb (tof + j) (by omega)).trans (HC.out j hlt).1;have hS := foldl_take_succ (upTo jlo) 0 thr j hlt (-9223372036854775808);generalize List.foldl (upTo jlo) (-9223372036854775808) (thr.take j) = acc at *;generalize thr.getD j 0 = t at *;have HS := Lib.hid hS; clear hS;have f5 := own2 h5.out;have f6 := fun x => h5.out.set 0 x (by simp);by_cases e1 : t ≤ jlo
     ·by_cases e2 : acc < t
      ·have hu : upTo jlo acc t = t := by unfold upTo; rw [if_pos e1]; omega
       have HU := Lib.hid hu; clear hu;go_wp2_with fail
       go_roundw
       case rel => exact ⟨j + 1, by omega, by simp, bel, Lib.hid ownbq, Lib.hid ownbq, Lib.hid ownbq, Lib.hid (by rw [HS.out, HU.out]; exact f6 _)⟩
       case measure => go_light; first | omega | (simp only [intOf]; omega)
      ·have hu : upTo jlo acc t = acc := by unfold upTo; rw [if_pos e1]; omega
       have HU := Lib.hid hu; clear hu;go_wp2_with fail
       go_roundw
       case rel => exact ⟨j + 1, by omega, by simp, bel, Lib.hid ownbq, Lib.hid ownbq, Lib.hid ownbq, Lib.hid (by rw [HS.out, HU.out]; exact f6 _)⟩
       case measure => go_light; first | omega | (simp only [intOf]; omega)
     ·have hu : upTo jlo acc t = acc := by unfold upTo; rw [if_neg e1]
      have HU := Lib.hid hu; clear hu;go_wp2_with fail
      go_roundw
      case rel => exact ⟨j + 1, by omega, by simp, hbr, h1, h3, h4, Lib.hid (by rw [HS.out, HU.out]; exact h5.out)⟩
      case measure => go_light; first | omega | (simp only [intOf]; omega)
    ·have hjk : j = thr.length := by omega
     subst hjk;have d2 : ¬ (thr.length : Int) < (thr.length : Int) := by omega
     rw [List.take_length] at h5;have h6 := h5.out;have p1 := h1.out; have p3 := h3.out; have p4 := h4.out; have hby := hbr;have r3 := own2 p3; have s3 := set2 p3;clear h1 h3 h4 h5 hbr k1 k3 k4 f1 f4;generalize hE : (thr.foldl (upTo jlo) (-9223372036854775808)) = elo at *;have HEelo := Lib.hid hE; clear hE;have f5 := own2 h6; have r1 := own2 p1; have r4 := own2 p4;go_wp2_with fail;refine span_end (by rfl) (by rfl) ownbq (by simp) ?_;exact ⟨by first | rfl | (rw [HEelo.out, HEehi.out]; done) | (rw [HEehi.out]; done) | (rw [HEelo.out]; done), bel⟩
 ·by_cases c2 : hi < jhi
  ·rw [if_neg c1, if_pos c2] at HR;injection HR with hr1 hr2;have hr1 := hr1.symm;subst hr1 hr2;go_enter Tryd.func45, Tryd.ntmps45;go_wp2_with (first | (go_at_call 10; refine (HJ.out _).mono ?_; rintro e w0 ⟨rfl, hb0⟩; have n1 : Own w0 w.heap.size [.int .i64 lo, .int .i64 hi] := ownbq; have n2 : Own w0 (w.heap.size + 1) [.int .i64 lo2, .int .i64 hi2] := ownbq; have n3 : Own w0 (w.heap.size + 1 + 1) [.int .i64 0, .int .i64 0] := ownbq; have m1 := own2 n1; have m2 := own2 n2; have hbx : Below w.heap.size w w0 := bel; clear hb0) | (go_at_call 29; refine (HA.out _).mono ?_; rintro e w1 ⟨rfl, hb1⟩; clear HA; have o1 : Own w1 w.heap.size [.int .i64 lo, .int .i64 hi] := ownbq; have o2 : Own w1 (w.heap.size + 1) [.int .i64 lo2, .int .i64 hi2] := ownbq; have o3 : Own w1 (w.heap.size + 1 + 1) [.int .i64 0, .int .i64 0] := ownbq; have o4 : Own w1 w0.heap.size [.int .i64 jlo, .int .i64 jhi] := ownbq; have q1 := own2 o1; have q2 := own2 o2; have hbz : Below w.heap.size w w1 := bel; clear n1 n2 n3 m1 m2 hb1) | (go_at_call 29; refine (HB.out _).mono ?_; rintro e w2 ⟨rfl, hb2⟩; clear HB; have p1 := o1.below hb2; have p3 := o3.below hb2; have p4 := o4.below hb2; have r1 := own2 p1; have r3 := own2 p3; have r4 := own2 p4; have s3 := set2 p3; have hby : Below w.heap.size w w2 := bel; clear hb2 hbz o1 o2 o3 o4 q1 q2) | fail)
   have g1 := r1.1; have g3 := r3.1; have g4 := r4.1;generalize hW : World.alloc _ _ = WB;have hbw : Below w.heap.size w WB := by rw [← hW]; exact bel
   have v1 : Own WB w.heap.size [.int .i64 lo, .int .i64 hi] := by rw [← hW]; exact ownbq
   have v3 : Own WB (w.heap.size + 1 + 1) [.int .i64 0, .int .i64 0] := by rw [← hW]; exact ownbq
   have v4 : Own WB w0.heap.size [.int .i64 jlo, .int .i64 jhi] := by rw [← hW]; exact ownbq
   have v5 : Own WB w2.heap.size [.int .i64 lo, .int .i64 9223372036854775807] := by rw [← hW]; first | exact h6.set 1 _ (by simp) | exact ownbq
   clear hW;clear p1 p3 p4 r1 r3 r4 s3 hby;go_wp2;go_loopw [12, 54] (fun v i wr => ∃ j : Nat, j ≤ thr.length ∧ i = .int .i64 j ∧ Below w.heap.size w wr ∧ Hid (Own wr w.heap.size [.int .i64 lo, .int .i64 hi]) ∧ Hid (Own wr (w.heap.size + 1 + 1) [.int .i64 0, .int .i64 0]) ∧ Hid (Own wr w0.heap.size [.int .i64 jlo, .int .i64 jhi]) ∧ Hid (Own wr w2.heap.size [.int .i64 lo, .int .i64 ((thr.take j).foldl (onFrom jhi) 9223372036854775807)])) (fun v i _ => thr.length - (intOf i).toNat)
   case atStart => exact ⟨0, Nat.zero_le _, rfl, hbw, Lib.hid v1, Lib.hid v3, Lib.hid v4, Lib.hid v5⟩
   case round =>
    clear v1 v3 v4 v5 hbw;obtain ⟨j, hj, rfl, hbr, h1, h3, h4, h5⟩ := hrel;have f1 := own2 h1.out;have k1 := h1.out; have k3 := h3.out; have k4 := h4.out;have f4 := own2 h4.out;by_cases hlt : j < thr.length
    ·have d2 : (j : Int) < (thr.length : Int) := by omega
     have hwk : IntKind.i64.wrap ((j : Int) + 1) = (j : Int) + 1 := IntWalk.i64_in _ (by omega);obtain ⟨rfl, htb⟩ := hta (by omega);have c0 := ((bcell hbr).1 tb (tof + j) (by omega)).trans (HC.out j hlt).1;have hS := foldl_take_succ (onFrom jhi) 0 thr j hlt 9223372036854775807;generalize List.foldl (onFrom jhi) 9223372036854775807 (thr.take j) = acc at *;generalize thr.getD j 0 = t at *;have HS := Lib.hid hS; clear hS;have f5 := own2 h5.out;have f6 := fun x => h5.out.set 1 x (by simp);by_cases e1 : jhi ≤ t
     ·by_cases e2 : t < acc
      ·have hu : onFrom jhi acc t = t := by unfold onFrom; rw [if_pos e1]; omega
       have HU := Lib.hid hu; clear hu;go_wp2_with fail
       go_roundw
       case rel => exact ⟨j + 1, by omega, by simp, bel, Lib.hid ownbq, Lib.hid ownbq, Lib.hid ownbq, Lib.hid (by rw [HS.out, HU.out]; exact f6 _)⟩
       case measure => go_light; first | omega | (simp only [intOf]; omega)
      ·have hu : onFrom jhi acc t = acc := by unfold onFrom; rw [if_pos e1]; omega
       have HU := Lib.hid hu; clear hu;go_wp2_with fail
       go_roundw
       case rel => exact ⟨j + 1, by omega, by simp, bel, Lib.hid ownbq, Lib.hid ownbq, Lib.hid ownbq, Lib.hid (by rw [HS.out, HU.out]; exact f6 _)⟩
       case measure => go_light; first | omega | (simp only [intOf]; omega)
     ·have hu : onFrom jhi acc t = acc := by unfold onFrom; rw [if_neg e1]
      have HU := Lib.hid hu; clear hu;go_wp2_with fail
      go_roundw
      case rel => exact ⟨j + 1, by omega, by simp, hbr, h1, h3, h4, Lib.hid (by rw [HS.out, HU.out]; exact h5.out)⟩
      case measure => go_light; first | omega | (simp only [intOf]; omega)
    ·have hjk : j = thr.length := by omega
     subst hjk;have d2 : ¬ (thr.length : Int) < (thr.length : Int) := by omega
     rw [List.take_length] at h5;have h6 := h5.out;have p1 := h1.out; have p3 := h3.out; have p4 := h4.out; have hby := hbr;have r3 := own2 p3; have s3 := set2 p3;clear h1 h3 h4 h5 hbr k1 k3 k4 f1 f4;generalize hE : (thr.foldl (onFrom jhi) 9223372036854775807) = ehi at *;have HEehi := Lib.hid hE; clear hE;have f5 := own2 h6; have r1 := own2 p1; have r4 := own2 p4;go_wp2_with fail;refine span_end (by rfl) (by rfl) ownbq (by simp) ?_;exact ⟨by first | rfl | (rw [HEelo.out, HEehi.out]; done) | (rw [HEehi.out]; done) | (rw [HEelo.out]; done), bel⟩
  ·rw [if_neg c1, if_neg c2] at HR;injection HR with hr1 hr2;have hr1 := hr1.symm; have hr2 := hr2.symm;subst hr1 hr2;go_enter Tryd.func45, Tryd.ntmps45;go_wp2_with (first | (go_at_call 10; refine (HJ.out _).mono ?_; rintro e w0 ⟨rfl, hb0⟩; have n1 : Own w0 w.heap.size [.int .i64 lo, .int .i64 hi] := ownbq; have n2 : Own w0 (w.heap.size + 1) [.int .i64 lo2, .int .i64 hi2] := ownbq; have n3 : Own w0 (w.heap.size + 1 + 1) [.int .i64 0, .int .i64 0] := ownbq; have m1 := own2 n1; have m2 := own2 n2; have hbx : Below w.heap.size w w0 := bel; clear hb0) | (go_at_call 29; refine (HA.out _).mono ?_; rintro e w1 ⟨rfl, hb1⟩; clear HA; have o1 : Own w1 w.heap.size [.int .i64 lo, .int .i64 hi] := ownbq; have o2 : Own w1 (w.heap.size + 1) [.int .i64 lo2, .int .i64 hi2] := ownbq; have o3 : Own w1 (w.heap.size + 1 + 1) [.int .i64 0, .int .i64 0] := ownbq; have o4 : Own w1 w0.heap.size [.int .i64 jlo, .int .i64 jhi] := ownbq; have q1 := own2 o1; have q2 := own2 o2; have hbz : Below w.heap.size w w1 := bel; clear n1 n2 n3 m1 m2 hb1) | (go_at_call 29; refine (HB.out _).mono ?_; rintro e w2 ⟨rfl, hb2⟩; clear HB; have p1 := o1.below hb2; have p3 := o3.below hb2; have p4 := o4.below hb2; have r1 := own2 p1; have r3 := own2 p3; have r4 := own2 p4; have s3 := set2 p3; have hby : Below w.heap.size w w2 := bel; clear hb2 hbz o1 o2 o3 o4 q1 q2) | fail)
   refine span_end (by rfl) (by rfl) ownbq (by simp) ?_;exact ⟨rfl, bel⟩
end Go.Proofs.YteebpnbdihcfmaaDoor
