/-   A region that draws its order, gone through by what holds whatever has come. Package bounds: Run's first memory: four rows, the state, a cell for its address, made in whatever order. Package bounds: Run's memory before and between the rounds. Package bounds: where the analysis begins, all is right. -/
import Derived.Test.YteebpnbdihcfmaaDoorJ05
import Derived.IntWalk
import Derived.Test.YteebpnbdihcfmaaDoorJ06
import Derived.Test.YteebpnbdihcfmaaDoorJ07
import Derived.Test.YteebpnbdihcfmaaDoorJ26
set_option linter.unusedVariables false
set_option linter.unusedSimpArgs false
set_option maxRecDepth 100000
set_option maxHeartbeats 20000000
namespace Go.Proofs.YteebpnbdihcfmaaDoor
open Go.RowKit
theorem instruction_any (B : Nat) (v : Value) (m : PMod) (nm : ByteArray) (pa ca : Option Addr) (pl pc cl cc : Nat) (regs wd : Int) (x : PIns) (w : World) (hB : B ≤ w.heap.size) (hB0 : 0 < B) (hm : ModAt B w v m) (hr : RowsAt w) (hx : InsOk x) (h1 : 1 ≤ regs) (h64 : regs ≤ 64) (hcl : cl ≤ maxLen) (hp8 : ∀ i, i < m.funcs.length → (m.funcs.getD i default).params.length ≤ 8) :
 Calls Tryd.prog 34 #[v, .agg #[.string nm, .slice pa pl pc, .int .i64 regs, .int .i64 wd, .slice ca cl cc], InsVal x] w fun e w' => e = .returned (.int .i64 (instrP m regs cl x)) ∧ Below w.heap.size w w' := by
 obtain ⟨ta, tl, tc, fa, fl, fc, rfl, ht, hf⟩ := hm;obtain ⟨hfl', hlen, fb, fo, hfa, H, hcs⟩ := hf;subst hfl';have Hcs := Lib.hid hcs; clear hcs;have Hp8 := Lib.hid hp8; clear hp8;obtain ⟨op, a, b, c, n⟩ := x;obtain ⟨o1, o2, o3, o4, o5⟩ := hx;unfold In64 at o1 o2 o3 o4 o5;unfold maxLen at hlen hcl;dsimp only at *;unfold InsVal instrP;dsimp only;by_cases hk : knownB op = true
 ·rw [if_neg (by simp [hk])];have hk' := hk;unfold knownB at hk';obtain ⟨k, rfl⟩ := Int.eq_ofNat_of_zero_le (show 0 ≤ op by grind);have hlt : k < 20 := by grind
  have h0s := hr.1;obtain ⟨q0, q1, q2, q3, q4, q5, q6⟩ := hr.2 k hlt;clear hk' hr;have hRn := rowN k;rw [Int.toNat_natCast];generalize rowAt k = R at *;obtain ⟨Rw, Rwt, Ra, Rb, Rc, Rn, Rwr⟩ := R;dsimp only at *;go_enter Tryd.func34, Tryd.ntmps34;go_wp2_with (go_at_call 37; refine (known_any _ _).mono ?_; rintro e w1 ⟨rfl, rfl⟩)
  generalize hW0 : World.alloc _ _ = W0;have hb0 : Below w.heap.size w W0 := by rw [← hW0]; exact bel
  have z0 : w.heap.size + 1 + 1 + 1 + 1 = W0.heap.size := by rw [← hW0]; simp
  have c0 : W0.cell? ⟨w.heap.size, 1, none⟩ = some (.slice fa m.funcs.length fc) := by rw [← hW0]; simp [go_sem]
  have c1 : W0.cell? ⟨w.heap.size + 1, 2, none⟩ = some (.int .i64 regs) := by rw [← hW0]; simp [go_sem]
  have c2 : W0.cell? ⟨w.heap.size + 1, 4, none⟩ = some (.slice ca cl cc) := by rw [← hW0]; simp [go_sem]
  have c3 : W0.cell? ⟨w.heap.size + 1 + 1, 2, none⟩ = some (.int .i64 b) := by rw [← hW0]; simp [go_sem]
  have c4 : W0.cell? ⟨w.heap.size + 1 + 1, 4, none⟩ = some (.int .i64 n) := by rw [← hW0]; simp [go_sem]
  have c5 : W0.cell? ⟨w.heap.size + 1 + 1 + 1, 5, none⟩ = some (.int .i64 Rn) := by rw [← hW0]; simp [go_sem]
  have z1 : w.heap.size + 1 + 1 + 1 + 1 ≤ W0.heap.size := by omega
  clear hW0 z0;go_loopw [34] (fun i wr => ∃ j : Nat, j ≤ 3 ∧ i = .int .i64 j ∧ Below W0.heap.size W0 wr ∧ Hid (∀ i, i < j → fieldAt ⟨Rw, Rwt, Ra, Rb, Rc, Rn, Rwr⟩ ⟨k, a, b, c, n⟩ regs i = 0)) (fun i _ => 3 - (intOf i).toNat)
  case atStart => exact ⟨0, Nat.zero_le _, rfl, Below.refl _ _, by intro j h; omega⟩
  case round =>
   obtain ⟨j, hj, rfl, hbel, hn⟩ := hrel;have hd1 := (bcell hbel).1;have hz2 : W0.heap.size ≤ wr.heap.size := hbel.size;have e1 : w.heap.size + 1 < W0.heap.size := by omega
   have e2 : w.heap.size + 1 + 1 < W0.heap.size := by omega
   have e3 : w.heap.size + 1 + 1 + 1 < W0.heap.size := by omega
   have e0 : w.heap.size < W0.heap.size := by omega
   have e4 : w.heap.size + 1 < wr.heap.size := by omega
   have i0 : ∀ (A : Bool) (w : World), (Instr.index 120 (.agg #[.bool A, .int .i64 a, .bool Rb, .int .i64 b, .bool Rc, .int .i64 c]) (.int .i64 0)).run Tryd.prog w = .ok (.agg #[.bool A, .int .i64 a]) w := fun _ _ => by kernel_rfl
   have i1 : ∀ (A : Bool) (w : World), (Instr.index 120 (.agg #[.bool Ra, .int .i64 a, .bool A, .int .i64 b, .bool Rc, .int .i64 c]) (.int .i64 1)).run Tryd.prog w = .ok (.agg #[.bool A, .int .i64 b]) w := fun _ _ => by kernel_rfl
   have i2 : ∀ (A : Bool) (w : World), (Instr.index 120 (.agg #[.bool Ra, .int .i64 a, .bool Rb, .int .i64 b, .bool A, .int .i64 c]) (.int .i64 2)).run Tryd.prog w = .ok (.agg #[.bool A, .int .i64 c]) w := fun _ _ => by kernel_rfl
   by_cases hlt : j < 3
   ·rcases (show j = 0 ∨ j = 1 ∨ j = 2 by omega) with rfl | rfl | rfl
    ·cases Ra
     all_goals
      go_wp2
      all_goals first
       | (have HX := rowP_field m regs cl _ _ 0 (by omega) hn.out (by go_light; simp [fieldAt, fieldP] <;> grind)
          go_ret;go_light;exact ⟨ret_int (by rw [HX]; simp [fieldAt, fieldP] <;> grind), bel⟩)
       | (go_roundw
          case rel =>
           go_light;refine ⟨0 + 1, by omega, rfl, bel, ?_⟩;intro i hi;by_cases e : i = 0
           ·subst e; simp [fieldAt, fieldP] <;> grind
           ·exact hn.out i (by omega)
          case measure => simp [intOf])
    ·cases Rb
     all_goals
      go_wp2
      all_goals first
       | (have HX := rowP_field m regs cl _ _ 1 (by omega) hn.out (by go_light; simp [fieldAt, fieldP] <;> grind)
          go_ret;go_light;exact ⟨ret_int (by rw [HX]; simp [fieldAt, fieldP] <;> grind), bel⟩)
       | (go_roundw
          case rel =>
           go_light;refine ⟨1 + 1, by omega, rfl, bel, ?_⟩;intro i hi;by_cases e : i = 1
           ·subst e; simp [fieldAt, fieldP] <;> grind
           ·exact hn.out i (by omega)
          case measure => simp [intOf])
    ·cases Rc
     all_goals
      go_wp2
      all_goals first
       | (have HX := rowP_field m regs cl _ _ 2 (by omega) hn.out (by go_light; simp [fieldAt, fieldP] <;> grind)
          go_ret;go_light;exact ⟨ret_int (by rw [HX]; simp [fieldAt, fieldP] <;> grind), bel⟩)
       | (go_roundw
          case rel =>
           go_light;refine ⟨2 + 1, by omega, rfl, bel, ?_⟩;intro i hi;by_cases e : i = 2
           ·subst e; simp [fieldAt, fieldP] <;> grind
           ·exact hn.out i (by omega)
          case measure => simp [intOf])
   ·obtain rfl : j = 3 := by omega
    have HX := rowP_kind m regs cl _ _ hn.out;have HY := Lib.hid HX; clear HX;have hd0 := (bcell hb0).1;rcases (show Rn = 0 ∨ Rn = 1 ∨ Rn = 2 ∨ Rn = 3 ∨ Rn = 4 by omega) with rfl | rfl | rfl | rfl | rfl
    ·go_wp2
     all_goals (go_ret; go_light; refine ⟨ret_int ?_, bel⟩; rw [HY.out]; simp [kindP] <;> grind)
    ·go_wp2
     all_goals (go_ret; go_light; refine ⟨ret_int ?_, bel⟩; rw [HY.out]; simp [kindP])
    ·go_wp2
     all_goals (go_ret; go_light; refine ⟨ret_int ?_, bel⟩; rw [HY.out]; simp [kindP] <;> grind)
    ·go_wp2
     all_goals (go_ret; go_light; refine ⟨ret_int ?_, bel⟩; rw [HY.out]; simp [kindP] <;> grind)
    ·by_cases hn0 : n < 0
     ·go_wp2
      go_quiet (fail)
      go_wp2
      all_goals (go_ret; go_light; refine ⟨ret_int ?_, bel⟩; rw [HY.out]; simp [kindP] <;> grind)
     ·obtain ⟨N, rfl⟩ := Int.eq_ofNat_of_zero_le (show 0 ≤ n by omega);by_cases hN : N < m.funcs.length
      ·obtain ⟨rfl, hfb⟩ := hfa (by omega);obtain ⟨⟨_, q, _⟩, _, ⟨hpl, hpm, _⟩, _⟩ := Hcs.out N hN;generalize H N = hh at *;obtain ⟨pa', pl', pc', _, _, _⟩ := hh;dsimp only at q hpl hpm;have hP : paramsOf m N = pl' := by unfold paramsOf; rw [Int.toNat_natCast, hpl]
       have h8 := Hp8.out N hN;rw [hpl] at h8;have hb9 : 0 ≤ b ∧ b ≤ 64 := by
        have := hn.out 1 (by omega);simp [fieldAt, fieldP] at this;cases Rb <;> grind
       have HP := Lib.hid hP; clear hP hpl;unfold maxLen at hpm;have hfb2 : fb < w.heap.size ∧ fb < W0.heap.size := by omega
       have d1 : decide ((N : Int) < 0) = false := by simp <;> omega
       have d2 : decide ((m.funcs.length : Int) ≤ N) = false := by simp <;> omega
       have hwr : IntKind.i64.wrap (b + (pl' : Int)) = b + (pl' : Int) := IntWalk.i64_in _ (by omega);go_wp2
       go_quiet (fail)
       clear hwr;go_wp2
       all_goals (go_ret; go_light; refine ⟨ret_int ?_, bel⟩; rw [HY.out, kindP_call _ _ _ _ _ _ (by omega) (by omega), HP.out]; first | rw [if_pos (by omega)] | rw [if_neg (by omega)])
      ·have d1 : decide ((N : Int) < 0) = false := by simp <;> omega
       have d2 : decide ((m.funcs.length : Int) ≤ N) = true := by simp <;> omega
       go_wp2
       go_quiet (fail)
       go_wp2
       all_goals (go_ret; go_light; refine ⟨ret_int ?_, bel⟩; rw [HY.out]; simp [kindP] <;> grind)
 ·have hk0 : knownB op = false := by simpa using hk
  clear hk;go_enter Tryd.func34, Tryd.ntmps34;go_wp2_with (go_at_call 37; refine (known_any _ _).mono ?_; rintro e w1 ⟨rfl, rfl⟩)
  go_ret;go_light;exact ⟨ret_int (by simp [hk0]), bel⟩
theorem RowsAt.below {w w' : World} (h : RowsAt w) (hb : Below w.heap.size w w') : RowsAt w' := h.same (Same.of hb (Nat.le_refl _)) h.1 hb.size
theorem may_any (B : Nat) (v : Value) (m : PMod) (w : World) (hB : B ≤ w.heap.size) (hB0 : 0 < B) (hm : ModAt B w v m) (hr : RowsAt w) :
 Calls Tryd.prog 18 #[v] w fun e w' => e = .returned (.agg #[.int .i64 (mayP m).e, .int .i64 (mayP m).f, .int .i64 (mayP m).at_]) ∧ Below w.heap.size w w' := by
 have hm0 := hm;obtain ⟨ta, tl, tc, fa, fl, fc, rfl, ⟨htl, htm, tb, tO, hta, hts⟩, hf⟩ := hm;have hf0 := hf;obtain ⟨hfl', hlen, fb, fo, hfa, H, hcs⟩ := hf;subst hfl' htl;have Hcs := Lib.hid hcs; clear hcs;have Hts := Lib.hid hts; clear hts;unfold maxLen at hlen htm;by_cases h16 : 16 < m.thr.length
 ·have HX : mayP m = ⟨3, 0, 16⟩ := by simp [mayP, h16]
  have HY := Lib.hid HX; clear HX;go_enter Tryd.func18, Tryd.ntmps18;go_wp2;refine bodyPost_ret (v := .agg #[.int .i64 3, .int .i64 0, .int .i64 16]) (by simp [results, Tryd.results18, go_sem]) rfl ⟨?_, ?_⟩
  ·rw [HY.out]
  ·exact bel
 ·have d16 : decide ((16 : Int) < (m.thr.length : Int)) = false := by simp <;> omega
  go_enter Tryd.func18, Tryd.ntmps18;go_wp2;generalize hW0 : World.alloc _ _ = W0;have hb0 : Below w.heap.size w W0 := by rw [← hW0]; exact bel
  have om : Own W0 w.heap.size [.slice ta m.thr.length tc, .slice fa m.funcs.length fc] := by rw [← hW0]; exact (Own.new _ _ _).alloc _
  have ore : Own W0 (w.heap.size + 1) [.int .i64 0, .int .i64 0, .int .i64 0] := by rw [← hW0]; exact Own.new' _ _ _ _ (by simp)
  clear hW0;go_loopw [3] (fun i wr => ∃ p : Nat, i = .int .i64 ((p : Int) + 1) ∧ (p + 1 ≤ m.thr.length ∨ p = 0) ∧ Below W0.heap.size W0 wr ∧ Hid (∀ i, i < p + 1 → thrBad m.thr i = false)) (fun i _ => m.thr.length - (intOf i).toNat)
  case atStart =>
   refine ⟨0, rfl, .inr rfl, Below.refl _ _, ?_⟩;intro i h;obtain rfl : i = 0 := by omega
   simp [thrBad]
  case round =>
   obtain ⟨p, rfl, hp, hbel, hn⟩ := hrel;have om1 := own2 (om.below hbel);have or1 := own3 (ore.below hbel);have ht16 : m.thr.length ≤ 16 := by omega
   have hz0 : W0.heap.size ≤ wr.heap.size := hbel.size;have hzw : w.heap.size ≤ W0.heap.size := hb0.size;by_cases hlt : p + 1 < m.thr.length
   ·obtain ⟨rfl, htb⟩ := hta (by omega);have sm : Same B w wr := (Same.of hb0 hB).trans (Same.of hbel (by omega));have t0 := (sm tb (tO + p) htb).trans (Hts.out p (by omega)).1;have t1 := (sm tb (tO + (p + 1)) htb).trans (Hts.out (p + 1) hlt).1;have hwr : IntKind.i64.wrap ((p : Int) + 1 - 1) = (p : Int) := by rw [IntWalk.i64_in _ (by omega)]; omega
    have hi1 : 0 ≤ (p : Int) + 1 := by omega
    have hi2 : ((p : Int) + 1).toNat = p + 1 := by omega
    have hi3 : (p : Int) + 1 < (m.thr.length : Int) := by omega
    have hi4 : (p : Int) < (m.thr.length : Int) := by omega
    go_wp2
    go_quiet (fail)
    go_wp2
    ·have HX : mayP m = ⟨66, 0, (p : Int) + 1⟩ := by
      have HT := firstI_some m.thr.length (thrBad m.thr) (p + 1) hlt (by go_light; simp only [thrBad]; grind) hn.out;unfold mayP; rw [if_neg (by omega), HT]; rfl
     have HY := Lib.hid HX; clear HX;refine bodyPost_ret (v := .agg #[.int .i64 66, .int .i64 0, .int .i64 ((p : Int) + 1)]) ?_ rfl ⟨?_, ?_⟩
     ·have r := set3 ((ore.below hbel).drewN nq) (.int .i64 66) (.int .i64 0) (.int .i64 ((p : Int) + 1));simp [results, Tryd.results18, go_sem, r]
     ·rw [HY.out]
     ·exact bel
    ·go_roundw
     case rel =>
      go_light;refine ⟨p + 1, by go_num, by omega, bel, ?_⟩;intro i hi;by_cases e : i = p + 1
      ·subst e; simp only [thrBad]; grind
      ·exact hn.out i (by omega)
     case measure => go_light; simp [intOf]; omega
   ·have HT := firstI_none m.thr.length (thrBad m.thr) (fun i hi => hn.out i (by omega));by_cases h32 : 32 < m.funcs.length
    ·have HX : mayP m = ⟨3, 32, 0⟩ := by unfold mayP; rw [if_neg (by omega), HT, if_pos h32]
     have HY := Lib.hid HX; clear HX HT;go_wp2;refine bodyPost_ret (v := .agg #[.int .i64 3, .int .i64 32, .int .i64 0]) ?_ rfl ⟨?_, ?_⟩
     ·have r := set3 (ore.below hbel) (.int .i64 3) (.int .i64 32) (.int .i64 0);simp [results, Tryd.results18, go_sem, r]
     ·rw [HY.out]
     ·exact bel
    ·have HX : mayP m = mayWholes m := by unfold mayP; rw [if_neg (by omega), HT]; simp only []; rw [if_neg h32]
     have HY := Lib.hid HX; clear HX HT;have d32 : decide ((32 : Int) < (m.funcs.length : Int)) = false := by simp <;> omega
     go_wp2;obtain ⟨wA, rfl⟩ : ∃ wo : World, wo = wr := ⟨_, rfl⟩
     go_loopw [47] (fun i wx => ∃ f : Nat, i = .int .i64 (f : Int) ∧ f ≤ m.funcs.length ∧ Below wA.heap.size wA wx ∧ Hid (∀ i, i < f → decide ((wholeP m i).1 ≠ 0) = false)) (fun i _ => m.funcs.length - (intOf i).toNat)
     case atStart => exact ⟨0, rfl, Nat.zero_le _, Below.refl _ _, by intro i h; omega⟩
     case round =>
      obtain ⟨f, rfl, hf1, hbel2, hn2⟩ := hrel;have om2 := own2 ((om.below hbel).below hbel2);have or2 := own3 ((ore.below hbel).below hbel2);have hz2 : wA.heap.size ≤ wr.heap.size := hbel2.size;have sm : Same B w wr := ((Same.of hb0 hB).trans (Same.of hbel (by omega))).trans (Same.of hbel2 (by omega));clear om1 or1;by_cases hlt : f < m.funcs.length
      ·go_wp2_with (go_at_call 33; refine (whole_any B _ m f _ ?_ (hm0.same sm) hlt).mono ?_)
       ·exact (by first | omega | (simp <;> omega) | (simp at * <;> omega))
       rintro e w1 ⟨rfl, hb1⟩;have om3 := own2 (((om.below hbel).below hbel2).below hb1);have or3 := own3 (((ore.below hbel).below hbel2).below hb1);clear om2 or2;go_wp2
       ·have HX : mayWholes m = ⟨(wholeP m f).1, f, (wholeP m f).2⟩ := by
         have HT := firstI_some m.funcs.length (fun f => decide ((wholeP m f).1 ≠ 0)) f hlt (by go_light; grind) hn2.out;unfold mayWholes; rw [HT]
        have HZ := Lib.hid HX; clear HX;refine bodyPost_ret (v := .agg #[.int .i64 (wholeP m f).1, .int .i64 f, .int .i64 (wholeP m f).2]) ?_ rfl ⟨?_, ?_⟩
        ·have r := set3 (((ore.below hbel).below hbel2).below hb1) (.int .i64 (wholeP m f).1) (.int .i64 f) (.int .i64 (wholeP m f).2);simp [results, Tryd.results18, go_sem, r]
        ·rw [HY.out, HZ.out]
        ·exact bel
       ·go_roundw
        case rel =>
         go_light;refine ⟨f + 1, by go_num, by omega, bel, ?_⟩;intro i hi;by_cases e : i = f
         ·subst e; grind
         ·exact hn2.out i (by omega)
        case measure => go_light; simp [intOf]; omega
      ·have HT := firstI_none m.funcs.length (fun f => decide ((wholeP m f).1 ≠ 0)) (fun i hi => hn2.out i (by omega));have HX : mayWholes m = mayFuncs m := by unfold mayWholes; rw [HT]
       have HZ := Lib.hid HX; clear HX HT;have hok : Hid (∀ i, i < m.funcs.length → (wholeP m i).1 = 0) := by intro i hi; have := hn2.out i (by omega); simpa using this
       go_wp2;obtain ⟨wB, rfl⟩ : ∃ wo : World, wo = wr := ⟨_, rfl⟩
       go_loopw [66] (fun i wx => ∃ f : Nat, i = .int .i64 (f : Int) ∧ f ≤ m.funcs.length ∧ Below wB.heap.size wB wx ∧ Hid (∀ i, i < f → decide ((bodyP m (m.funcs.getD i default)).1 ≠ 0) = false)) (fun i _ => m.funcs.length - (intOf i).toNat)
       case atStart => exact ⟨0, rfl, Nat.zero_le _, Below.refl _ _, by intro i h; omega⟩
       case round =>
        obtain ⟨f, rfl, hf1, hbel3, hn3⟩ := hrel;have om3 := own2 (((om.below hbel).below hbel2).below hbel3);have or3 := own3 (((ore.below hbel).below hbel2).below hbel3);have hz3 : wB.heap.size ≤ wr.heap.size := hbel3.size;have sm3 : Same B w wr := sm.trans (Same.of hbel3 (by omega));clear om2 or2;by_cases hlt2 : f < m.funcs.length
        ·obtain ⟨rfl, hfb⟩ := hfa (by omega);obtain ⟨hfcells, hfok⟩ := Hcs.out f hlt2;obtain ⟨q0, q1, q2, q3, q4⟩ := hfcells.same sm3 hfb;have hwok := wholeP_ok (hok.out f hlt2);obtain ⟨_, _, _, hr1, hr2, _, _, _, hc1, hc2, _⟩ := hwok;generalize hxf : m.funcs.getD f default = x at *;have Hxf := Lib.hid hxf; clear hxf;generalize H f = hh at *;obtain ⟨pa, pl, pc, ca, cl, cc⟩ := hh;obtain ⟨_, _, ⟨hcl, hcm, cb, co, hca, hins⟩, _, _⟩ := hfok;dsimp only at *;subst hcl;obtain ⟨rfl, hcb⟩ := hca (by omega);have Hins := Lib.hid hins; clear hins;unfold maxLen at hcm;go_wp2;generalize hW3 : World.alloc wr _ = W3;have hb3 : Below wr.heap.size wr W3 := by rw [← hW3]; exact bel
         have oF : Own W3 wr.heap.size [.string x.name, .slice pa pl pc, .int .i64 x.regs, .int .i64 x.words, .slice (some ⟨cb, co, none⟩) x.code.length cc] := by rw [← hW3]; exact Own.new _ _ _
         clear hW3;obtain ⟨wC, rfl⟩ : ∃ wo : World, wo = wr := ⟨_, rfl⟩
         have omC := ((om.below hbel).below hbel2).below hbel3 |>.below hb3;have orC := ((ore.below hbel).below hbel2).below hbel3 |>.below hb3;have hzC : wC.heap.size ≤ W3.heap.size := hb3.size;have smC : Same B w W3 := sm3.trans (Same.of hb3 (by omega));clear om3 or3;go_loopw [74] (fun i wx => ∃ j : Nat, i = .int .i64 (j : Int) ∧ j ≤ x.code.length ∧ Below W3.heap.size W3 wx ∧ Hid (∀ i, i < j → decide (bodyI m x i ≠ 0) = false)) (fun i _ => x.code.length - (intOf i).toNat)
         case atStart => exact ⟨0, rfl, Nat.zero_le _, Below.refl _ _, by intro i h; omega⟩
         case round =>
          obtain ⟨j, rfl, hj1, hbel4, hn4⟩ := hrel;have om4 := own2 (omC.below hbel4);have or4 := own3 (orC.below hbel4);have oF4 := own5 (oF.below hbel4);have hz4 : W3.heap.size ≤ wr.heap.size := hbel4.size;have sm4 : Same B w wr := smC.trans (Same.of hbel4 (by omega));by_cases hlt3 : j < x.code.length
          ·obtain ⟨hi0, hiok⟩ := Hins.out j hlt3;obtain ⟨i0, i1, i2, i3, i4⟩ := hi0.same sm4 hcb;generalize hyj : x.code.getD j default = y at *;have Hyj := Lib.hid hyj; clear hyj;go_wp2_with (go_at_call 34; refine (instruction_any B _ m _ _ _ _ _ _ _ _ _ y _ ?_ hB0 (hm0.same (sm4.trans ?_)) (hr.same (sm4.trans ?_) hB0 ?_) hiok hr1 hr2 ?_ ?_).mono ?_)
           ·exact (by first | omega | (simp <;> omega) | (simp at * <;> omega))
           ·exact (Same.refl _ _).alloc (by first | omega | (simp <;> omega) | (simp at * <;> omega)) _
           ·exact (Same.refl _ _).alloc (by first | omega | (simp <;> omega) | (simp at * <;> omega)) _
           ·exact (by first | omega | (simp <;> omega) | (simp at * <;> omega))
           ·unfold maxLen; omega
           ·intro i hi; exact (wholeP_ok (hok.out i hi)).2.2.1
           rintro e w2 ⟨rfl, hb2⟩;have e0 : Below wr.heap.size wr (wr.alloc (.cells #[.int .i64 y.op, .int .i64 y.a, .int .i64 y.b, .int .i64 y.c, .int .i64 y.n] 51)) := bel;have om5 := own2 (((omC.below hbel4).below e0).below hb2);have or5 := own3 (((orC.below hbel4).below e0).below hb2);have hB2 := hb2.size;simp only [World.size_alloc] at hB2;clear om4 or4;have hI : instrP m x.regs x.code.length y = bodyI m x j := by unfold bodyI; rw [Hyj.out]
           rw [hI];have HI := Lib.hid hI; clear hI;go_wp2
           ·have HX : bodyP m x = (bodyI m x j, (j : Int)) := by
             have HT := firstI_some x.code.length (fun i => decide (bodyI m x i ≠ 0)) j hlt3 (by go_light; grind) hn4.out;unfold bodyP; rw [HT]
            have HX2 : mayFuncs m = ⟨bodyI m x j, f, j⟩ := by
             have HT := firstI_some m.funcs.length (fun f => decide ((bodyP m (m.funcs.getD f default)).1 ≠ 0)) f hlt2 (by go_light; simp only [Hxf.out, HX]; grind) hn3.out;unfold mayFuncs; rw [HT]; simp only [Hxf.out, HX]
            have HZ2 := Lib.hid HX2; clear HX HX2;refine bodyPost_ret (v := .agg #[.int .i64 (bodyI m x j), .int .i64 f, .int .i64 j]) ?_ rfl ⟨?_, ?_⟩
            ·have r := set3 (((orC.below hbel4).below e0).below hb2) (.int .i64 (bodyI m x j)) (.int .i64 f) (.int .i64 j);simp [results, Tryd.results18, go_sem, r]
            ·rw [HY.out, HZ.out, HZ2.out]
            ·exact bel
           ·go_roundw
            case rel =>
             go_light;refine ⟨j + 1, by go_num, by omega, bel, ?_⟩;intro i hi;by_cases e : i = j
             ·subst e; grind
             ·exact hn4.out i (by omega)
            case measure => go_light; simp [intOf]; omega
          ·have HT := firstI_none x.code.length (fun i => decide (bodyI m x i ≠ 0)) (fun i hi => hn4.out i (by omega));have HX : bodyP m x = if lastOp x = 0 ∨ lastOp x = 14 ∨ lastOp x = 18 then (0, 0) else (64, (x.code.length : Int) - 1) := by unfold bodyP; rw [HT]
           have HB := Lib.hid HX; clear HX HT;have hl1 : x.code.length - 1 < x.code.length := by omega
           obtain ⟨hi0, hiok⟩ := Hins.out (x.code.length - 1) hl1;obtain ⟨i0, _, _, _, _⟩ := hi0.same sm4 hcb;have hlo : (x.code.getD (x.code.length - 1) default).op = lastOp x := rfl;rw [hlo] at i0;go_wp2
           all_goals first
            | (go_roundw
               case rel =>
                go_light;refine ⟨f + 1, by go_num, by omega, bel, ?_⟩;intro i hi;by_cases e : i = f
                ·subst e; simp only [Hxf.out, HB.out]; rw [if_pos (by grind)]; decide
                ·exact hn3.out i (by omega)
               case measure => go_light; simp [intOf]; omega)
            | (have HX : bodyP m x = (64, (x.code.length : Int) - 1) := by rw [HB.out, if_neg (by go_light; grind)]
               have HX2 : mayFuncs m = ⟨64, f, (x.code.length : Int) - 1⟩ := by
                have HT := firstI_some m.funcs.length (fun f => decide ((bodyP m (m.funcs.getD f default)).1 ≠ 0)) f hlt2 (by simp only [Hxf.out, HX]; decide) hn3.out;unfold mayFuncs; rw [HT]; simp only [Hxf.out, HX]
               have HZ2 := Lib.hid HX2; clear HX HX2;refine bodyPost_ret (v := .agg #[.int .i64 64, .int .i64 f, .int .i64 ((x.code.length : Int) - 1)]) ?_ rfl ⟨?_, ?_⟩
               ·have r := set3 (orC.below hbel4) (.int .i64 64) (.int .i64 f) (.int .i64 ((x.code.length : Int) - 1));simp [results, Tryd.results18, go_sem, r]
               ·rw [HY.out, HZ.out, HZ2.out]
               ·exact bel)
        ·have HT := firstI_none m.funcs.length (fun f => decide ((bodyP m (m.funcs.getD f default)).1 ≠ 0)) (fun i hi => hn3.out i (by omega));have HX : mayFuncs m = ⟨0, 0, 0⟩ := by unfold mayFuncs; rw [HT]
         have HZ2 := Lib.hid HX; clear HX HT;go_wp2;refine bodyPost_ret (v := .agg #[.int .i64 0, .int .i64 0, .int .i64 0]) ?_ rfl ⟨?_, ?_⟩
         ·have r := set3 (((ore.below hbel).below hbel2).below hbel3) (.int .i64 0) (.int .i64 0) (.int .i64 0);simp [results, Tryd.results18, go_sem, r]
         ·rw [HY.out, HZ.out, HZ2.out]
         ·exact bel
def afterOk (ops : Array Oper) : Bool := (List.range ops.size).all fun i => match ops[i]? with | some o => o.after.all fun e => decide (e.on < i) | none => true
theorem region_inv {P : Program} {ops : Array Oper} {Q : Exit → Act → World → Prop} {id : Nat} {a : Act} {w : World} (hm : P.follows .mixedOrders = true) (hord : afterOk ops = true)
 (Inv : Array Bool → Act → World → Prop) (h0 : Inv (Array.replicate ops.size false) a w.drew)
 (hstep : ∀ (i : Nat) (o : Oper) (listed : Array Bool) (a : Act) (w : World), ops[i]? = some o → listed.size = ops.size → listed.getD i true = false → (∀ e ∈ o.after, Region.binds .any e = true → listed.getD e.on false = true) → Inv listed a w → wpOp P ops Q i (fun a' w' => Inv (listed.setIfInBounds i true) a' w') a w)
 (hend : ∀ listed a w, (∀ i, i < ops.size → listed.getD i false = true) → Inv listed a w → Q .normal a w) : (Code.region id ops true).wp P Q a w := by
 refine wp_region_any hm ?_;have hall : ∀ listed : Array Bool, listed.size = ops.size → Region.ready .any ops listed = [] → ∀ i, i < ops.size → listed.getD i false = true := fun listed hs hr i => by
  induction i using Nat.strongRecOn with
  | ind i ih =>
   intro hi;refine Classical.byContradiction fun hn => ?_;have h1 : listed.getD i true = false := by
    have hlt : i < listed.size := by omega
    simp only [Array.getD, hlt, dif_pos] at hn ⊢;simpa using hn
   have h2 : i ∈ Region.ready .any ops listed := by
    refine mem_ready.2 ⟨h1, ops[i]'hi, Array.getElem?_eq_getElem hi, fun e he _ => ?_⟩;have h3 : e.on < i := by
     unfold afterOk at hord;have h4 := List.all_eq_true.1 hord i (List.mem_range.2 hi);rw [Array.getElem?_eq_getElem hi] at h4;have h5 := Array.all_eq_true_iff_forall_mem.1 h4 e he;simpa using h5
    exact ih e.on h3 (by omega)
   rw [hr] at h2;cases h2
 have key : ∀ (fuel : Nat) (listed : Array Bool) (a : Act) (w : World), listed.size = ops.size → (sumN ops.size fun i => if listed.getD i true then 0 else 1) ≤ fuel → Inv listed a w → wpAny P .any ops Q fuel listed a w := by
  intro fuel
  induction fuel with
  | zero =>
   intro listed a w hs hc hi;have hr : Region.ready .any ops listed = [] := by
    cases hr : Region.ready .any ops listed with
    | nil => rfl
    | cons j l =>
     exfalso;have hj : j ∈ Region.ready .any ops listed := by rw [hr]; simp
     obtain ⟨h1, o, ho, _⟩ := mem_ready.1 hj;have hlt : j < ops.size := (Array.getElem?_eq_some_iff.1 ho).1;have h2 := sumN_upd (f := fun i => if listed.getD i true then 0 else 1) (g := fun i => if i = j then 0 else if listed.getD i true then 0 else 1) ops.size hlt (fun k hk => by rw [if_neg hk]);rw [h1, if_pos rfl] at h2;have e : (if false = true then 0 else 1 : Nat) = 1 := rfl;rw [e] at h2;omega
   exact ⟨hr, hend listed a w (hall listed hs hr) hi⟩
  | succ fuel ih =>
   intro listed a w hs hc hi;refine ⟨fun hr => hend listed a w (hall listed hs hr) hi, fun j hj => ?_⟩;obtain ⟨h1, o, ho, h3⟩ := mem_ready.1 hj;have hlt : j < ops.size := (Array.getElem?_eq_some_iff.1 ho).1;refine wpOp_mono (fun a' w' h => ih _ a' w' (by simpa using hs) ?_ h) (hstep j o listed a w ho hs h1 h3 hi);have h2 := sumN_upd (f := fun i => if (listed.setIfInBounds j true).getD i true then 0 else 1) (g := fun i => if listed.getD i true then 0 else 1) ops.size hlt (fun k hk => by rw [getD_set_ne true (fun e => hk e.symm)]);rw [h1] at h2;have h4 : (listed.setIfInBounds j true).getD j true = true := by
    have hlt2 : j < (listed.setIfInBounds j true).size := by simp; omega
    simp [Array.getD, hlt2]
   rw [h4] at h2;have e : (if false = true then 0 else 1 : Nat) = 1 := rfl;have e2 : (if true = true then 0 else 1 : Nat) = 0 := rfl;rw [e, e2] at h2;omega
 refine key ops.size _ a w.drew (by simp) ?_ h0;have := sumN_le (f := fun i => if (Array.replicate ops.size false).getD i true = true then 0 else 1) (m := 1) ops.size (fun k _ => by split <;> omega);omega
def ClosedL (ops : Array Oper) (L : Array Bool) : Prop := ∀ (i : Nat) (o : Oper), ops[i]? = some o → L.getD i false = true → ∀ e ∈ o.after, Region.binds .any e = true → L.getD e.on false = true
/-- .. and what has come waits for nothing that hasn't -/
theorem region_inv2 {P : Program} {ops : Array Oper} {Q : Exit → Act → World → Prop} {id : Nat} {a : Act} {w : World} (hm : P.follows .mixedOrders = true) (hord : afterOk ops = true)
 (Inv : Array Bool → Act → World → Prop) (h0 : Inv (Array.replicate ops.size false) a w.drew)
 (hstep : ∀ (i : Nat) (o : Oper) (listed : Array Bool) (a : Act) (w : World), ops[i]? = some o → i < listed.size → listed.getD i false ≠ true → (∀ e ∈ o.after, Region.binds .any e = true → listed.getD e.on false = true) → ClosedL ops listed → Inv listed a w → wpOp P ops Q i (fun a' w' => Inv (listed.setIfInBounds i true) a' w') a w)
 (hend : ∀ listed a w, (∀ i, i < ops.size → listed.getD i false = true) → Inv listed a w → Q .normal a w) : (Code.region id ops true).wp P Q a w := by
 have hset : ∀ (L : Array Bool) (i j : Nat), L.getD j false = true → (L.setIfInBounds i true).getD j false = true := fun L i j h => by
  by_cases e : j = i
  ·subst e;by_cases hj : j < L.size
   ·simp [Array.getD, hj]
   ·simp [Array.getD, hj] at h
  ·rw [getD_set_ne false (fun h2 => e h2.symm)]; exact h
 refine region_inv hm hord (fun L a w => Inv L a w ∧ ClosedL ops L) ⟨h0, fun i o _ h => ?_⟩ (fun i o L a w ho hs hl hd hI => ?_) (fun L a w hL hI => hend L a w hL hI.1)
 ·exfalso;by_cases hi : i < ops.size <;> simp [Array.getD, hi] at h
 ·have hlt : i < L.size := by rw [hs]; exact (Array.getElem?_eq_some_iff.1 ho).1
  have hne : L.getD i false ≠ true := fun h => by
   simp only [Array.getD, hlt, dif_pos] at h hl;rw [h] at hl; cases hl
  refine wpOp_mono (fun a' w' h => ⟨h, fun j o' hj hjl e he hb => ?_⟩) (hstep i o L a w ho hlt hne hd hI.2 hI.1);by_cases ej : j = i
  ·subst ej;rw [ho] at hj;cases hj;exact hset _ _ _ (hd e he hb)
  ·rw [getD_set_ne false (fun h2 => ej h2.symm)] at hjl;exact hset _ _ _ (hI.2 j o' hj hjl e he hb)
section
def dstOf (ops : Array Oper) (i : Nat) : Option Nat := (ops[i]?).bind (·.dst)
def FrameOk (ops : Array Oper) (a0 : Act) (L : Array Bool) (V : Nat → Value) (a : Act) : Prop :=
 a.tmps.size = a0.tmps.size ∧ a.defers = a0.defers ∧ (∀ j, (∀ i, dstOf ops i = some j → L.getD i false ≠ true) → a.eval (.tmp j) = a0.eval (.tmp j)) ∧ ∀ i d, dstOf ops i = some d → L.getD i false = true → a.eval (.tmp d) = V i
theorem getD_sets (L : Array Bool) (i j : Nat) (hi : i < L.size) : (L.setIfInBounds i true).getD j false = if j = i then true else L.getD j false := by
 by_cases e : j = i
 ·subst e;rw [if_pos rfl];simp [Array.getD, hi]
 ·rw [if_neg e, getD_set_ne false (fun h => e h.symm)]
theorem FrameOk.start (ops : Array Oper) (a0 : Act) (V : Nat → Value) (k : Nat) : FrameOk ops a0 (Array.replicate k false) V a0 := by
 refine ⟨rfl, rfl, fun _ _ => rfl, fun i d _ h => ?_⟩;exfalso;by_cases hi : i < k <;> simp [Array.getD, hi] at h
theorem FrameOk.put {ops : Array Oper} {a0 a : Act} {L : Array Bool} {V : Nat → Value} (h : FrameOk ops a0 L V a) (hinj : ∀ i j d, dstOf ops i = some d → dstOf ops j = some d → i = j) (hsz : ∀ i d, dstOf ops i = some d → d < a0.tmps.size) {i : Nat} {o : Oper} (ho : ops[i]? = some o) (hi : i < L.size) (v : Value) (V' : Nat → Value) (hv : V' i = v) (hV : ∀ j, j ≠ i → L.getD j false = true → V' j = V j) :
 FrameOk ops a0 (L.setIfInBounds i true) V' (a.put o.dst v) := by
 obtain ⟨h1, h2, h3, h4⟩ := h;have hdi : dstOf ops i = o.dst := by unfold dstOf; rw [ho]; rfl
 have hdf : (a.put o.dst v).defers = a0.defers := by cases o.dst <;> exact h2
 refine ⟨by rw [size_putI]; exact h1, hdf, fun j hj => ?_, fun j d hjd hjl => ?_⟩
 ·cases hd : o.dst with
  | none =>
   refine h3 j (fun k hk hl => hj k hk ?_);rw [getD_sets _ _ _ hi]; split
   ·rfl
   ·exact hl
  | some e =>
   have hne : e ≠ j := fun e2 => hj i (by rw [hdi, hd, e2]) (by rw [getD_sets _ _ _ hi, if_pos rfl]);rw [eval_putI _ _ _ _ (by rw [h1]; exact hsz i e (by rw [hdi, hd])), if_neg hne];refine h3 j (fun k hk hl => hj k hk ?_);rw [getD_sets _ _ _ hi]; split
   ·rfl
   ·exact hl
 ·by_cases e : j = i
  ·subst e;rw [hdi] at hjd;rw [hjd, eval_putI _ _ _ _ (by rw [h1]; exact hsz j d (by rw [hdi, hjd])), if_pos rfl, hv]
  ·rw [getD_sets _ _ _ hi, if_neg e] at hjl;rw [hV j e hjl];cases hd : o.dst with
   | none => exact h4 j d hjd hjl
   | some e2 =>
    have hne : e2 ≠ d := fun e3 => e (hinj j i d hjd (by rw [hdi, hd, e3]));rw [eval_putI _ _ _ _ (by rw [h1]; exact hsz i e2 (by rw [hdi, hd])), if_neg hne];exact h4 j d hjd hjl
theorem act_ext {a b : Act} (hs : a.tmps.size = b.tmps.size) (hd : a.defers = b.defers) (he : ∀ j, a.eval (.tmp j) = b.eval (.tmp j)) : a = b := by
 obtain ⟨t, d⟩ := a;obtain ⟨t2, d2⟩ := b;dsimp only at hs hd;subst hd;have : t = t2 := by
  apply Array.ext hs;intro i h1 h2;have h3 := he i;simp only [Act.eval, Array.getD, h1, h2, dif_pos] at h3;simpa using h3
 rw [this]
theorem FrameOk.uniq {ops : Array Oper} {a0 a b : Act} {L M : Array Bool} {V : Nat → Value} (h : FrameOk ops a0 L V a) (k : FrameOk ops a0 M V b) (hL : ∀ i, i < ops.size → L.getD i false = true) (hM : ∀ i, i < ops.size → M.getD i false = true) : a = b := by
 obtain ⟨h1, h2, h3, h4⟩ := h;obtain ⟨k1, k2, k3, k4⟩ := k;refine act_ext (by rw [h1, k1]) (by rw [h2, k2]) (fun j => ?_);by_cases hj : ∃ i, dstOf ops i = some j
 ·obtain ⟨i, hi⟩ := hj;have hlt : i < ops.size := by
   unfold dstOf at hi;cases ho : ops[i]? with
   | none => rw [ho] at hi; cases hi
   | some o => exact (Array.getElem?_eq_some_iff.1 ho).1
  rw [h4 i j hi (hL i hlt), k4 i j hi (hM i hlt)]
 ·rw [h3 j (fun i hi => absurd ⟨i, hi⟩ hj), k3 j (fun i hi => absurd ⟨i, hi⟩ hj)]
theorem wpOp_val {P : Program} {ops : Array Oper} {Q : Exit → Act → World → Prop} {i : Nat} {o : Oper} {K : Act → World → Prop} {a : Act} {w : World} (ho : ops[i]? = some o) (hg : o.guard = none) (v : Value) (w2 : World) (hr : (execOp a.eval o).run P w = .ok (.value v) w2) (h : K (a.put o.dst v) w2) : wpOp P ops Q i K a w := by
 have hw : Region.wanted o (yielded ops a.tmps) = true := by simp [Region.wanted, hg]
 unfold wpOp;simp only [ho, hw, if_true];left;unfold Oper.wp;rw [hr];exact h
theorem wpOp_skip {P : Program} {ops : Array Oper} {Q : Exit → Act → World → Prop} {i : Nat} {o : Oper} {K : Act → World → Prop} {a : Act} {w : World} (ho : ops[i]? = some o) (hg : o.guard = none) (w2 : World) (hr : (execOp a.eval o).run P w = .ok .skip w2) (h : K (a.put o.dst undef) w2) : wpOp P ops Q i K a w := by
 have hw : Region.wanted o (yielded ops a.tmps) = true := by simp [Region.wanted, hg]
 unfold wpOp;simp only [ho, hw, if_true];left;unfold Oper.wp;rw [hr];exact h
def dstInj (ops : Array Oper) : Bool := (List.range ops.size).all fun i => (List.range ops.size).all fun j => decide (i = j) || decide (dstOf ops i = none) || decide (dstOf ops i ≠ dstOf ops j)
def dstLt (ops : Array Oper) (n : Nat) : Bool := (List.range ops.size).all fun i => match dstOf ops i with | some d => decide (d < n) | none => true
theorem dstOf_lt {ops : Array Oper} {i d : Nat} (h : dstOf ops i = some d) : i < ops.size := by
 unfold dstOf at h;cases ho : ops[i]? with
 | none => rw [ho] at h; cases h
 | some o => exact (Array.getElem?_eq_some_iff.1 ho).1
theorem dstInj_spec {ops : Array Oper} (h : dstInj ops = true) : ∀ i j d, dstOf ops i = some d → dstOf ops j = some d → i = j := fun i j d hi hj => by
 unfold dstInj at h;have h1 := List.all_eq_true.1 (List.all_eq_true.1 h i (List.mem_range.2 (dstOf_lt hi))) j (List.mem_range.2 (dstOf_lt hj));rw [hi, hj] at h1;simpa using h1
theorem dstLt_spec {ops : Array Oper} {n : Nat} (h : dstLt ops n = true) : ∀ i d, dstOf ops i = some d → d < n := fun i d hi => by
 unfold dstLt at h;have h1 := List.all_eq_true.1 h i (List.mem_range.2 (dstOf_lt hi));rw [hi] at h1;simpa using h1
def putsTo (ops : Array Oper) (V : Nat → Value) (a0 : Act) (k : Nat) : Act := (List.range k).foldl (fun a i => a.put (dstOf ops i) (V i)) a0
def firstL (n k : Nat) : Array Bool := (List.range k).foldl (fun L i => L.setIfInBounds i true) (Array.replicate n false)
theorem firstL_succ (n k : Nat) : firstL n (k + 1) = (firstL n k).setIfInBounds k true := by unfold firstL; rw [List.range_succ, List.foldl_append]; rfl
theorem firstL_size (n k : Nat) : (firstL n k).size = n := by
 induction k with
 | zero => simp [firstL]
 | succ k ih => rw [firstL_succ, Array.size_setIfInBounds, ih]
theorem firstL_at (n : Nat) : ∀ k i, i < k → k ≤ n → (firstL n k).getD i false = true
 | k + 1, i, hi, hk => by
  rw [firstL_succ, getD_sets _ _ _ (by rw [firstL_size]; omega)];split
  ·rfl
  ·exact firstL_at n k i (by omega) (by omega)
theorem putsTo_ok (ops : Array Oper) (V : Nat → Value) (a0 : Act) (hinj : dstInj ops = true) (hsz : dstLt ops a0.tmps.size = true) : ∀ k, k ≤ ops.size → FrameOk ops a0 (firstL ops.size k) V (putsTo ops V a0 k)
 | 0, _ => FrameOk.start ops a0 V ops.size
 | k + 1, hk => by
  have h := putsTo_ok ops V a0 hinj hsz k (by omega);have ho : ops[k]? = some (ops[k]'(by omega)) := Array.getElem?_eq_getElem (by omega);rw [firstL_succ];have e : putsTo ops V a0 (k + 1) = (putsTo ops V a0 k).put (ops[k]'(by omega)).dst (V k) := by
   unfold putsTo;rw [List.range_succ, List.foldl_append];simp only [List.foldl_cons, List.foldl_nil];unfold dstOf;rw [ho]; rfl
  rw [e];exact h.put (dstInj_spec hinj) (dstLt_spec hsz) ho (by rw [firstL_size]; omega) _ V rfl (fun _ _ _ => rfl)
def noDst (ops : Array Oper) (j : Nat) : Bool := (List.range ops.size).all fun i => decide (dstOf ops i ≠ some j)
theorem noDst_spec {ops : Array Oper} {j : Nat} (h : noDst ops j = true) : ∀ i, dstOf ops i ≠ some j := fun i hi => by
 unfold noDst at h;have h1 := List.all_eq_true.1 h i (List.mem_range.2 (dstOf_lt hi));rw [hi] at h1;simp at h1
def putsL (V : Nat → Value) : Nat → List (Option Nat) → Act → Act
 | _, [], a => a
 | i, d :: ds, a => putsL V (i + 1) ds (a.put d (V i))
theorem putsL_snoc (V : Nat → Value) (d : Option Nat) : ∀ (ds : List (Option Nat)) (i : Nat) (a : Act), putsL V i (ds ++ [d]) a = (putsL V i ds a).put d (V (i + ds.length))
 | [], i, a => rfl
 | e :: ds, i, a => by
  show putsL V (i + 1) (ds ++ [d]) _ = (putsL V (i + 1) ds _).put d _;rw [putsL_snoc V d ds (i + 1), List.length_cons, show i + 1 + ds.length = i + (ds.length + 1) by omega]
theorem putsTo_L (ops : Array Oper) (V : Nat → Value) (a0 : Act) : ∀ k, putsTo ops V a0 k = putsL V 0 ((List.range k).map (dstOf ops)) a0
 | 0 => rfl
 | k + 1 => by
  have e : putsTo ops V a0 (k + 1) = (putsTo ops V a0 k).put (dstOf ops k) (V k) := by unfold putsTo; rw [List.range_succ, List.foldl_append]; rfl
  rw [e, putsTo_L ops V a0 k, List.range_succ, List.map_append, List.map_cons, List.map_nil, putsL_snoc, List.length_map, List.length_range, Nat.zero_add]
/-- a region of operations that each yield a value, whatever order they come in -/
theorem region_frame {P : Program} {ops : Array Oper} {Q : Exit → Act → World → Prop} {id : Nat} {a : Act} {w : World} (hm : P.follows .mixedOrders = true) (hord : afterOk ops = true) (hinj : dstInj ops = true) (hsz : dstLt ops a.tmps.size = true) (ds : List (Option Nat)) (hds : (List.range ops.size).map (dstOf ops) = ds) (hg : (List.range ops.size).all (fun i => match ops[i]? with | some o => o.guard.isNone | none => true) = true)
 (F : Array Bool → (Nat → Value) → World → Prop) (h0 : ∀ V, F (Array.replicate ops.size false) V w.drew)
 (hstep : ∀ (i : Nat) (o : Oper) (L : Array Bool) (V : Nat → Value) (ev : Operand → Value) (W : World), ops[i]? = some o → i < L.size → L.getD i false ≠ true → (∀ e ∈ o.after, Region.binds .any e = true → L.getD e.on false = true) → ClosedL ops L →
   (∀ v, ev (.const v) = v) → (∀ j, (∀ i, dstOf ops i ≠ some j) → ev (.tmp j) = a.eval (.tmp j)) → (∀ i d, dstOf ops i = some d → L.getD i false = true → ev (.tmp d) = V i) → F L V W →
   (∃ v W', (execOp ev o).run P W = .ok (.value v) W' ∧ F (L.setIfInBounds i true) (updF V i v) W') ∨ (∃ W', (execOp ev o).run P W = .ok .skip W' ∧ F (L.setIfInBounds i true) (updF V i undef) W'))
 (hend : ∀ L V W, (∀ i, i < ops.size → L.getD i false = true) → F L V W → Q .normal (putsL V 0 ds a) W) : (Code.region id ops true).wp P Q a w := by
 refine region_inv2 hm hord (fun L a' W => ∃ V, FrameOk ops a L V a' ∧ F L V W) ⟨fun _ => undef, FrameOk.start ops a _ ops.size, h0 _⟩ (fun i o L a' W ho hlt hne hd hc hI => ?_) (fun L a' W hL hI => ?_)
 ·obtain ⟨V, hf, hF⟩ := hI;have hgo : o.guard = none := by
   have h1 := List.all_eq_true.1 hg i (List.mem_range.2 (Array.getElem?_eq_some_iff.1 ho).1);rw [ho] at h1;simpa using h1
  have hput : ∀ v, FrameOk ops a (L.setIfInBounds i true) (updF V i v) (a'.put o.dst v) := fun v => hf.put (dstInj_spec hinj) (dstLt_spec hsz) ho hlt v _ (updF_self _ _ _) (fun j hj _ => updF_ne _ _ hj);rcases hstep i o L V a'.eval W ho hlt hne hd hc (fun _ => rfl) (fun j hj => hf.2.2.1 j (fun k hk => absurd hk (hj k))) hf.2.2.2 hF with ⟨v, W', hr, hF'⟩ | ⟨W', hr, hF'⟩
  ·exact wpOp_val ho hgo v W' hr ⟨_, hput v, hF'⟩
  ·exact wpOp_skip ho hgo W' hr ⟨_, hput undef, hF'⟩
 ·obtain ⟨V, hf, hF⟩ := hI;have e : a' = putsTo ops V a ops.size := hf.uniq (putsTo_ok ops V a hinj hsz ops.size (Nat.le_refl _)) hL (fun i hi => firstL_at _ _ _ hi (Nat.le_refl _));rw [e, putsTo_L, hds];exact hend L V W hL hF
theorem madeOne (n : Nat) (z : Value) : madeCells #[z] n = (List.replicate n z).toArray := by
 apply Array.ext
 ·simp [madeCells]
 ·intro i h1 h2;simp [madeCells, Nat.mod_one]
def MkRow (W : World) (e : TypeId) (z : Value) (n : Nat) (v : Value) (tg : Nat → Nat) (t : Nat) : Prop := ∃ b, v = .slice (some ⟨b, 0, none⟩) n n ∧ W.ownsRow 0 e 1 v n (List.replicate n z) ∧ tg b = t
theorem MkRow.up {W W' : World} {e : TypeId} {z : Value} {n : Nat} {v : Value} {tg tg' : Nat → Nat} {t : Nat} (h : MkRow W e z n v tg t) (hb : Below W.heap.size W W') (ht : ∀ b, b < W.heap.size → tg' b = tg b) : MkRow W' e z n v tg' t := by
 obtain ⟨b, h1, h2, h3⟩ := h;subst h1;exact ⟨b, rfl, row_below hb h2, by rw [ht b (row_ltB h2)]; exact h3⟩
theorem MkRow.new (W : World) (e : TypeId) (z : Value) (n t : Nat) (tg : Nat → Nat) (hn : n ≤ maxLen) : MkRow (W.alloc (.cells (List.replicate n z).toArray e)) e z n (.slice (some ⟨W.heap.size, 0, none⟩) n n) (updF tg W.heap.size t) t := by
 refine ⟨W.heap.size, rfl, ?_, updF_self _ _ _⟩;have := World.ownsRow_lit W (base := 0) (e := e) (size := 1) (List.replicate n z).toArray n (Nat.zero_le _) hn (by simp);simpa using this
/-- what holds, whatever has come -/
structure RunF (n : Nat) (W5 : World) (L : Array Bool) (V : Nat → Value) (W : World) (tg : Nat → Nat) : Prop where
 bel : Below W5.heap.size W5 W
 num : ∀ i, (i = 0 ∨ i = 2 ∨ i = 5 ∨ i = 7) → L.getD i false = true → V i = .int .i64 n
 b4 : L.getD 4 false = true → V 4 = .agg #[V 1, V 3]
 b9 : L.getD 9 false = true → V 9 = .agg #[V 1, V 3, V 6, V 8]
 fr : ∀ b, W.heap.size ≤ b → tg b = 0
 lo : ∀ b, tg b ≠ 0 → W5.heap.size ≤ b
 r1 : L.getD 1 false = true → MkRow W 40 (.slice none 0 0) n (V 1) tg 2
 r3 : L.getD 3 false = true → MkRow W 47 (.slice none 0 0) n (V 3) tg 3
 r6 : L.getD 6 false = true → MkRow W 4 (.bool false) n (V 6) tg 4
 r8 : L.getD 8 false = true → MkRow W 3 (.int .i64 0) n (V 8) tg 5
 st : L.getD 10 false = true → ∃ k, V 10 = .pointer (some ⟨k, 0, none⟩) ∧ Own W k [V 1, V 3, V 6, V 8] ∧ tg k = 1
 pt : L.getD 11 false = true → ∃ p, V 11 = .pointer (some ⟨p, 0, none⟩) ∧ tg p = 6 ∧ Own W p [if L.getD 12 false = true then V 10 else .pointer none]
section
variable {n : Nat} {W5 W W' : World} {L : Array Bool} {V : Nat → Value} {tg : Nat → Nat}
theorem RunF.start (n : Nat) (W5 : World) (V : Nat → Value) (hW : Below W5.heap.size W5 W) : RunF n W5 (Array.replicate 13 false) V W (fun _ => 0) := by
 have no : ∀ i, ¬ ((Array.replicate 13 false).getD i false = true) := fun i h => by
  by_cases hi : i < 13 <;> simp [Array.getD, hi] at h
 exact ⟨hW, fun i _ h => absurd h (no i), fun h => absurd h (no _), fun h => absurd h (no _), fun _ _ => rfl, fun _ h => absurd rfl h, fun h => absurd h (no _), fun h => absurd h (no _), fun h => absurd h (no _), fun h => absurd h (no _), fun h => absurd h (no _), fun h => absurd h (no _)⟩
theorem RunF.s0 (h : RunF n W5 L V W tg) (hs : 0 < L.size) (hl : L.getD 12 false = true → False)  : RunF n W5 (L.setIfInBounds 0 true) (updF V 0 (.int .i64 n)) W tg := by
 have lk : ∀ j, j ≠ 0 → (L.setIfInBounds 0 true).getD j false = L.getD j false := fun j hj => by rw [getD_sets _ _ _ hs, if_neg hj]
 have vk : ∀ j, j ≠ 0 → updF V 0 (.int .i64 n) j = V j := fun j hj => updF_ne _ _ hj;refine ⟨?_, ?_, ?_, ?_, ?_, ?_, ?_, ?_, ?_, ?_, ?_, ?_⟩
 ·exact h.bel
 ·exact fun j hj hq => by
   by_cases e : j = 0
   ·subst e; exact updF_self _ _ _
   ·rw [lk j e] at hq; rw [vk j e]; exact h.num j hj hq
 ·exact fun hq => by rw [lk 4 (by decide)] at hq; rw [vk 4 (by decide), vk 1 (by decide), vk 3 (by decide)]; exact h.b4 hq
 ·exact fun hq => by rw [lk 9 (by decide)] at hq; rw [vk 9 (by decide), vk 1 (by decide), vk 3 (by decide), vk 6 (by decide), vk 8 (by decide)]; exact h.b9 hq
 ·exact h.fr
 ·exact h.lo
 ·exact fun hq => by rw [lk 1 (by decide)] at hq; rw [vk 1 (by decide)]; exact h.r1 hq
 ·exact fun hq => by rw [lk 3 (by decide)] at hq; rw [vk 3 (by decide)]; exact h.r3 hq
 ·exact fun hq => by rw [lk 6 (by decide)] at hq; rw [vk 6 (by decide)]; exact h.r6 hq
 ·exact fun hq => by rw [lk 8 (by decide)] at hq; rw [vk 8 (by decide)]; exact h.r8 hq
 ·exact fun hq => by
   rw [lk 10 (by decide)] at hq;rw [vk 10 (by decide), vk 1 (by decide), vk 3 (by decide), vk 6 (by decide), vk 8 (by decide)];obtain ⟨k, h1, h2, h3⟩ := h.st hq;exact ⟨k, h1, h2, h3⟩
 ·exact fun hq => by
   rw [lk 11 (by decide)] at hq;rw [vk 11 (by decide), lk 12 (by decide), if_neg hl];obtain ⟨p, h1, h2, h3⟩ := h.pt hq;rw [if_neg hl] at h3;exact ⟨p, h1, h2, h3⟩
theorem RunF.s2 (h : RunF n W5 L V W tg) (hs : 2 < L.size) (hl : L.getD 12 false = true → False)  : RunF n W5 (L.setIfInBounds 2 true) (updF V 2 (.int .i64 n)) W tg := by
 have lk : ∀ j, j ≠ 2 → (L.setIfInBounds 2 true).getD j false = L.getD j false := fun j hj => by rw [getD_sets _ _ _ hs, if_neg hj]
 have vk : ∀ j, j ≠ 2 → updF V 2 (.int .i64 n) j = V j := fun j hj => updF_ne _ _ hj;refine ⟨?_, ?_, ?_, ?_, ?_, ?_, ?_, ?_, ?_, ?_, ?_, ?_⟩
 ·exact h.bel
 ·exact fun j hj hq => by
   by_cases e : j = 2
   ·subst e; exact updF_self _ _ _
   ·rw [lk j e] at hq; rw [vk j e]; exact h.num j hj hq
 ·exact fun hq => by rw [lk 4 (by decide)] at hq; rw [vk 4 (by decide), vk 1 (by decide), vk 3 (by decide)]; exact h.b4 hq
 ·exact fun hq => by rw [lk 9 (by decide)] at hq; rw [vk 9 (by decide), vk 1 (by decide), vk 3 (by decide), vk 6 (by decide), vk 8 (by decide)]; exact h.b9 hq
 ·exact h.fr
 ·exact h.lo
 ·exact fun hq => by rw [lk 1 (by decide)] at hq; rw [vk 1 (by decide)]; exact h.r1 hq
 ·exact fun hq => by rw [lk 3 (by decide)] at hq; rw [vk 3 (by decide)]; exact h.r3 hq
 ·exact fun hq => by rw [lk 6 (by decide)] at hq; rw [vk 6 (by decide)]; exact h.r6 hq
 ·exact fun hq => by rw [lk 8 (by decide)] at hq; rw [vk 8 (by decide)]; exact h.r8 hq
 ·exact fun hq => by
   rw [lk 10 (by decide)] at hq;rw [vk 10 (by decide), vk 1 (by decide), vk 3 (by decide), vk 6 (by decide), vk 8 (by decide)];obtain ⟨k, h1, h2, h3⟩ := h.st hq;exact ⟨k, h1, h2, h3⟩
 ·exact fun hq => by
   rw [lk 11 (by decide)] at hq;rw [vk 11 (by decide), lk 12 (by decide), if_neg hl];obtain ⟨p, h1, h2, h3⟩ := h.pt hq;rw [if_neg hl] at h3;exact ⟨p, h1, h2, h3⟩
theorem RunF.s5 (h : RunF n W5 L V W tg) (hs : 5 < L.size) (hl : L.getD 12 false = true → False)  : RunF n W5 (L.setIfInBounds 5 true) (updF V 5 (.int .i64 n)) W tg := by
 have lk : ∀ j, j ≠ 5 → (L.setIfInBounds 5 true).getD j false = L.getD j false := fun j hj => by rw [getD_sets _ _ _ hs, if_neg hj]
 have vk : ∀ j, j ≠ 5 → updF V 5 (.int .i64 n) j = V j := fun j hj => updF_ne _ _ hj;refine ⟨?_, ?_, ?_, ?_, ?_, ?_, ?_, ?_, ?_, ?_, ?_, ?_⟩
 ·exact h.bel
 ·exact fun j hj hq => by
   by_cases e : j = 5
   ·subst e; exact updF_self _ _ _
   ·rw [lk j e] at hq; rw [vk j e]; exact h.num j hj hq
 ·exact fun hq => by rw [lk 4 (by decide)] at hq; rw [vk 4 (by decide), vk 1 (by decide), vk 3 (by decide)]; exact h.b4 hq
 ·exact fun hq => by rw [lk 9 (by decide)] at hq; rw [vk 9 (by decide), vk 1 (by decide), vk 3 (by decide), vk 6 (by decide), vk 8 (by decide)]; exact h.b9 hq
 ·exact h.fr
 ·exact h.lo
 ·exact fun hq => by rw [lk 1 (by decide)] at hq; rw [vk 1 (by decide)]; exact h.r1 hq
 ·exact fun hq => by rw [lk 3 (by decide)] at hq; rw [vk 3 (by decide)]; exact h.r3 hq
 ·exact fun hq => by rw [lk 6 (by decide)] at hq; rw [vk 6 (by decide)]; exact h.r6 hq
 ·exact fun hq => by rw [lk 8 (by decide)] at hq; rw [vk 8 (by decide)]; exact h.r8 hq
 ·exact fun hq => by
   rw [lk 10 (by decide)] at hq;rw [vk 10 (by decide), vk 1 (by decide), vk 3 (by decide), vk 6 (by decide), vk 8 (by decide)];obtain ⟨k, h1, h2, h3⟩ := h.st hq;exact ⟨k, h1, h2, h3⟩
 ·exact fun hq => by
   rw [lk 11 (by decide)] at hq;rw [vk 11 (by decide), lk 12 (by decide), if_neg hl];obtain ⟨p, h1, h2, h3⟩ := h.pt hq;rw [if_neg hl] at h3;exact ⟨p, h1, h2, h3⟩
theorem RunF.s7 (h : RunF n W5 L V W tg) (hs : 7 < L.size) (hl : L.getD 12 false = true → False)  : RunF n W5 (L.setIfInBounds 7 true) (updF V 7 (.int .i64 n)) W tg := by
 have lk : ∀ j, j ≠ 7 → (L.setIfInBounds 7 true).getD j false = L.getD j false := fun j hj => by rw [getD_sets _ _ _ hs, if_neg hj]
 have vk : ∀ j, j ≠ 7 → updF V 7 (.int .i64 n) j = V j := fun j hj => updF_ne _ _ hj;refine ⟨?_, ?_, ?_, ?_, ?_, ?_, ?_, ?_, ?_, ?_, ?_, ?_⟩
 ·exact h.bel
 ·exact fun j hj hq => by
   by_cases e : j = 7
   ·subst e; exact updF_self _ _ _
   ·rw [lk j e] at hq; rw [vk j e]; exact h.num j hj hq
 ·exact fun hq => by rw [lk 4 (by decide)] at hq; rw [vk 4 (by decide), vk 1 (by decide), vk 3 (by decide)]; exact h.b4 hq
 ·exact fun hq => by rw [lk 9 (by decide)] at hq; rw [vk 9 (by decide), vk 1 (by decide), vk 3 (by decide), vk 6 (by decide), vk 8 (by decide)]; exact h.b9 hq
 ·exact h.fr
 ·exact h.lo
 ·exact fun hq => by rw [lk 1 (by decide)] at hq; rw [vk 1 (by decide)]; exact h.r1 hq
 ·exact fun hq => by rw [lk 3 (by decide)] at hq; rw [vk 3 (by decide)]; exact h.r3 hq
 ·exact fun hq => by rw [lk 6 (by decide)] at hq; rw [vk 6 (by decide)]; exact h.r6 hq
 ·exact fun hq => by rw [lk 8 (by decide)] at hq; rw [vk 8 (by decide)]; exact h.r8 hq
 ·exact fun hq => by
   rw [lk 10 (by decide)] at hq;rw [vk 10 (by decide), vk 1 (by decide), vk 3 (by decide), vk 6 (by decide), vk 8 (by decide)];obtain ⟨k, h1, h2, h3⟩ := h.st hq;exact ⟨k, h1, h2, h3⟩
 ·exact fun hq => by
   rw [lk 11 (by decide)] at hq;rw [vk 11 (by decide), lk 12 (by decide), if_neg hl];obtain ⟨p, h1, h2, h3⟩ := h.pt hq;rw [if_neg hl] at h3;exact ⟨p, h1, h2, h3⟩
theorem RunF.s1 (h : RunF n W5 L V W tg) (hs : 1 < L.size) (hl : ¬ L.getD 12 false = true)  (nb9 : ¬ L.getD 9 false = true) (nb10 : ¬ L.getD 10 false = true) (nb4 : ¬ L.getD 4 false = true) (hn : n ≤ maxLen) : RunF n W5 (L.setIfInBounds 1 true) (updF V 1 (.slice (some ⟨W.heap.size, 0, none⟩) n n)) (W.alloc (.cells (List.replicate n (.slice none 0 0)).toArray 40)) (updF tg W.heap.size 2) := by
 have lk : ∀ j, j ≠ 1 → (L.setIfInBounds 1 true).getD j false = L.getD j false := fun j hj => by rw [getD_sets _ _ _ hs, if_neg hj]
 have vk : ∀ j, j ≠ 1 → updF V 1 (.slice (some ⟨W.heap.size, 0, none⟩) n n) j = V j := fun j hj => updF_ne _ _ hj;have hb : Below W.heap.size W (W.alloc (.cells (List.replicate n (.slice none 0 0)).toArray 40)) := (Below.refl _ _).alloc (Nat.le_refl _) _;have hz : (W.alloc (.cells (List.replicate n (.slice none 0 0)).toArray 40)).heap.size = W.heap.size + 1 := by simp
 have ht : ∀ b, b < W.heap.size → updF tg W.heap.size 2 b = tg b := fun b hbl => updF_ne _ _ (by omega);have hsz := h.bel.size;refine ⟨?_, ?_, ?_, ?_, ?_, ?_, ?_, ?_, ?_, ?_, ?_, ?_⟩
 ·exact h.bel.trans (hb.mono hsz)
 ·exact fun j hj hq => by rw [lk j (by omega)] at hq; rw [vk j (by omega)]; exact h.num j hj hq
 ·exact fun hq => absurd (by rw [lk 4 (by decide)] at hq; exact hq) nb4
 ·exact fun hq => absurd (by rw [lk 9 (by decide)] at hq; exact hq) nb9
 ·exact fun b hq => by rw [updF_ne _ _ (by omega)]; exact h.fr b (by omega)
 ·exact fun b hq => by
   by_cases e : b = W.heap.size
   ·omega
   ·rw [updF_ne _ _ e] at hq; exact h.lo b hq
 ·exact fun _ => by rw [show updF V 1 (.slice (some ⟨W.heap.size, 0, none⟩) n n) 1 = _ from updF_self _ _ _]; exact MkRow.new W _ _ n 2 tg hn
 ·exact fun hq => by rw [lk 3 (by decide)] at hq; rw [vk 3 (by decide)]; exact (h.r3 hq).up hb ht
 ·exact fun hq => by rw [lk 6 (by decide)] at hq; rw [vk 6 (by decide)]; exact (h.r6 hq).up hb ht
 ·exact fun hq => by rw [lk 8 (by decide)] at hq; rw [vk 8 (by decide)]; exact (h.r8 hq).up hb ht
 ·exact fun hq => absurd (by rw [lk 10 (by decide)] at hq; exact hq) nb10
 ·exact fun hq => by
   rw [lk 11 (by decide)] at hq;rw [vk 11 (by decide), lk 12 (by decide), if_neg hl];obtain ⟨p, h1, h2, h3⟩ := h.pt hq;rw [if_neg hl] at h3;exact ⟨p, h1, by rw [ht p h3.1]; exact h2, h3.below hb⟩
theorem RunF.s3 (h : RunF n W5 L V W tg) (hs : 3 < L.size) (hl : ¬ L.getD 12 false = true)  (nb9 : ¬ L.getD 9 false = true) (nb10 : ¬ L.getD 10 false = true) (nb4 : ¬ L.getD 4 false = true) (hn : n ≤ maxLen) : RunF n W5 (L.setIfInBounds 3 true) (updF V 3 (.slice (some ⟨W.heap.size, 0, none⟩) n n)) (W.alloc (.cells (List.replicate n (.slice none 0 0)).toArray 47)) (updF tg W.heap.size 3) := by
 have lk : ∀ j, j ≠ 3 → (L.setIfInBounds 3 true).getD j false = L.getD j false := fun j hj => by rw [getD_sets _ _ _ hs, if_neg hj]
 have vk : ∀ j, j ≠ 3 → updF V 3 (.slice (some ⟨W.heap.size, 0, none⟩) n n) j = V j := fun j hj => updF_ne _ _ hj;have hb : Below W.heap.size W (W.alloc (.cells (List.replicate n (.slice none 0 0)).toArray 47)) := (Below.refl _ _).alloc (Nat.le_refl _) _;have hz : (W.alloc (.cells (List.replicate n (.slice none 0 0)).toArray 47)).heap.size = W.heap.size + 1 := by simp
 have ht : ∀ b, b < W.heap.size → updF tg W.heap.size 3 b = tg b := fun b hbl => updF_ne _ _ (by omega);have hsz := h.bel.size;refine ⟨?_, ?_, ?_, ?_, ?_, ?_, ?_, ?_, ?_, ?_, ?_, ?_⟩
 ·exact h.bel.trans (hb.mono hsz)
 ·exact fun j hj hq => by rw [lk j (by omega)] at hq; rw [vk j (by omega)]; exact h.num j hj hq
 ·exact fun hq => absurd (by rw [lk 4 (by decide)] at hq; exact hq) nb4
 ·exact fun hq => absurd (by rw [lk 9 (by decide)] at hq; exact hq) nb9
 ·exact fun b hq => by rw [updF_ne _ _ (by omega)]; exact h.fr b (by omega)
 ·exact fun b hq => by
   by_cases e : b = W.heap.size
   ·omega
   ·rw [updF_ne _ _ e] at hq; exact h.lo b hq
 ·exact fun hq => by rw [lk 1 (by decide)] at hq; rw [vk 1 (by decide)]; exact (h.r1 hq).up hb ht
 ·exact fun _ => by rw [show updF V 3 (.slice (some ⟨W.heap.size, 0, none⟩) n n) 3 = _ from updF_self _ _ _]; exact MkRow.new W _ _ n 3 tg hn
 ·exact fun hq => by rw [lk 6 (by decide)] at hq; rw [vk 6 (by decide)]; exact (h.r6 hq).up hb ht
 ·exact fun hq => by rw [lk 8 (by decide)] at hq; rw [vk 8 (by decide)]; exact (h.r8 hq).up hb ht
 ·exact fun hq => absurd (by rw [lk 10 (by decide)] at hq; exact hq) nb10
 ·exact fun hq => by
   rw [lk 11 (by decide)] at hq;rw [vk 11 (by decide), lk 12 (by decide), if_neg hl];obtain ⟨p, h1, h2, h3⟩ := h.pt hq;rw [if_neg hl] at h3;exact ⟨p, h1, by rw [ht p h3.1]; exact h2, h3.below hb⟩
theorem RunF.s6 (h : RunF n W5 L V W tg) (hs : 6 < L.size) (hl : ¬ L.getD 12 false = true)  (nb9 : ¬ L.getD 9 false = true) (nb10 : ¬ L.getD 10 false = true) (hn : n ≤ maxLen) : RunF n W5 (L.setIfInBounds 6 true) (updF V 6 (.slice (some ⟨W.heap.size, 0, none⟩) n n)) (W.alloc (.cells (List.replicate n (.bool false)).toArray 4)) (updF tg W.heap.size 4) := by
 have lk : ∀ j, j ≠ 6 → (L.setIfInBounds 6 true).getD j false = L.getD j false := fun j hj => by rw [getD_sets _ _ _ hs, if_neg hj]
 have vk : ∀ j, j ≠ 6 → updF V 6 (.slice (some ⟨W.heap.size, 0, none⟩) n n) j = V j := fun j hj => updF_ne _ _ hj;have hb : Below W.heap.size W (W.alloc (.cells (List.replicate n (.bool false)).toArray 4)) := (Below.refl _ _).alloc (Nat.le_refl _) _;have hz : (W.alloc (.cells (List.replicate n (.bool false)).toArray 4)).heap.size = W.heap.size + 1 := by simp
 have ht : ∀ b, b < W.heap.size → updF tg W.heap.size 4 b = tg b := fun b hbl => updF_ne _ _ (by omega);have hsz := h.bel.size;refine ⟨?_, ?_, ?_, ?_, ?_, ?_, ?_, ?_, ?_, ?_, ?_, ?_⟩
 ·exact h.bel.trans (hb.mono hsz)
 ·exact fun j hj hq => by rw [lk j (by omega)] at hq; rw [vk j (by omega)]; exact h.num j hj hq
 ·exact fun hq => by rw [lk 4 (by decide)] at hq; rw [vk 4 (by decide), vk 1 (by decide), vk 3 (by decide)]; exact h.b4 hq
 ·exact fun hq => absurd (by rw [lk 9 (by decide)] at hq; exact hq) nb9
 ·exact fun b hq => by rw [updF_ne _ _ (by omega)]; exact h.fr b (by omega)
 ·exact fun b hq => by
   by_cases e : b = W.heap.size
   ·omega
   ·rw [updF_ne _ _ e] at hq; exact h.lo b hq
 ·exact fun hq => by rw [lk 1 (by decide)] at hq; rw [vk 1 (by decide)]; exact (h.r1 hq).up hb ht
 ·exact fun hq => by rw [lk 3 (by decide)] at hq; rw [vk 3 (by decide)]; exact (h.r3 hq).up hb ht
 ·exact fun _ => by rw [show updF V 6 (.slice (some ⟨W.heap.size, 0, none⟩) n n) 6 = _ from updF_self _ _ _]; exact MkRow.new W _ _ n 4 tg hn
 ·exact fun hq => by rw [lk 8 (by decide)] at hq; rw [vk 8 (by decide)]; exact (h.r8 hq).up hb ht
 ·exact fun hq => absurd (by rw [lk 10 (by decide)] at hq; exact hq) nb10
 ·exact fun hq => by
   rw [lk 11 (by decide)] at hq;rw [vk 11 (by decide), lk 12 (by decide), if_neg hl];obtain ⟨p, h1, h2, h3⟩ := h.pt hq;rw [if_neg hl] at h3;exact ⟨p, h1, by rw [ht p h3.1]; exact h2, h3.below hb⟩
theorem RunF.s8 (h : RunF n W5 L V W tg) (hs : 8 < L.size) (hl : ¬ L.getD 12 false = true)  (nb9 : ¬ L.getD 9 false = true) (nb10 : ¬ L.getD 10 false = true) (hn : n ≤ maxLen) : RunF n W5 (L.setIfInBounds 8 true) (updF V 8 (.slice (some ⟨W.heap.size, 0, none⟩) n n)) (W.alloc (.cells (List.replicate n (.int .i64 0)).toArray 3)) (updF tg W.heap.size 5) := by
 have lk : ∀ j, j ≠ 8 → (L.setIfInBounds 8 true).getD j false = L.getD j false := fun j hj => by rw [getD_sets _ _ _ hs, if_neg hj]
 have vk : ∀ j, j ≠ 8 → updF V 8 (.slice (some ⟨W.heap.size, 0, none⟩) n n) j = V j := fun j hj => updF_ne _ _ hj;have hb : Below W.heap.size W (W.alloc (.cells (List.replicate n (.int .i64 0)).toArray 3)) := (Below.refl _ _).alloc (Nat.le_refl _) _;have hz : (W.alloc (.cells (List.replicate n (.int .i64 0)).toArray 3)).heap.size = W.heap.size + 1 := by simp
 have ht : ∀ b, b < W.heap.size → updF tg W.heap.size 5 b = tg b := fun b hbl => updF_ne _ _ (by omega);have hsz := h.bel.size;refine ⟨?_, ?_, ?_, ?_, ?_, ?_, ?_, ?_, ?_, ?_, ?_, ?_⟩
 ·exact h.bel.trans (hb.mono hsz)
 ·exact fun j hj hq => by rw [lk j (by omega)] at hq; rw [vk j (by omega)]; exact h.num j hj hq
 ·exact fun hq => by rw [lk 4 (by decide)] at hq; rw [vk 4 (by decide), vk 1 (by decide), vk 3 (by decide)]; exact h.b4 hq
 ·exact fun hq => absurd (by rw [lk 9 (by decide)] at hq; exact hq) nb9
 ·exact fun b hq => by rw [updF_ne _ _ (by omega)]; exact h.fr b (by omega)
 ·exact fun b hq => by
   by_cases e : b = W.heap.size
   ·omega
   ·rw [updF_ne _ _ e] at hq; exact h.lo b hq
 ·exact fun hq => by rw [lk 1 (by decide)] at hq; rw [vk 1 (by decide)]; exact (h.r1 hq).up hb ht
 ·exact fun hq => by rw [lk 3 (by decide)] at hq; rw [vk 3 (by decide)]; exact (h.r3 hq).up hb ht
 ·exact fun hq => by rw [lk 6 (by decide)] at hq; rw [vk 6 (by decide)]; exact (h.r6 hq).up hb ht
 ·exact fun _ => by rw [show updF V 8 (.slice (some ⟨W.heap.size, 0, none⟩) n n) 8 = _ from updF_self _ _ _]; exact MkRow.new W _ _ n 5 tg hn
 ·exact fun hq => absurd (by rw [lk 10 (by decide)] at hq; exact hq) nb10
 ·exact fun hq => by
   rw [lk 11 (by decide)] at hq;rw [vk 11 (by decide), lk 12 (by decide), if_neg hl];obtain ⟨p, h1, h2, h3⟩ := h.pt hq;rw [if_neg hl] at h3;exact ⟨p, h1, by rw [ht p h3.1]; exact h2, h3.below hb⟩
theorem RunF.s4 (h : RunF n W5 L V W tg) (hs : 4 < L.size) (hl : ¬ L.getD 12 false = true) (d1 : L.getD 1 false = true) (d3 : L.getD 3 false = true)   : RunF n W5 (L.setIfInBounds 4 true) (updF V 4 (.agg #[V 1, V 3])) (W) (tg) := by
 have lk : ∀ j, j ≠ 4 → (L.setIfInBounds 4 true).getD j false = L.getD j false := fun j hj => by rw [getD_sets _ _ _ hs, if_neg hj]
 have vk : ∀ j, j ≠ 4 → updF V 4 (.agg #[V 1, V 3]) j = V j := fun j hj => updF_ne _ _ hj;refine ⟨?_, ?_, ?_, ?_, ?_, ?_, ?_, ?_, ?_, ?_, ?_, ?_⟩
 ·exact h.bel
 ·exact fun j hj hq => by rw [lk j (by omega)] at hq; rw [vk j (by omega)]; exact h.num j hj hq
 ·exact fun _ => by rw [updF_self, vk 1 (by decide), vk 3 (by decide)]
 ·exact fun hq => by rw [lk 9 (by decide)] at hq; rw [vk 9 (by decide), vk 1 (by decide), vk 3 (by decide), vk 6 (by decide), vk 8 (by decide)]; exact h.b9 hq
 ·exact h.fr
 ·exact h.lo
 ·exact fun hq => by rw [lk 1 (by decide)] at hq; rw [vk 1 (by decide)]; exact h.r1 hq
 ·exact fun hq => by rw [lk 3 (by decide)] at hq; rw [vk 3 (by decide)]; exact h.r3 hq
 ·exact fun hq => by rw [lk 6 (by decide)] at hq; rw [vk 6 (by decide)]; exact h.r6 hq
 ·exact fun hq => by rw [lk 8 (by decide)] at hq; rw [vk 8 (by decide)]; exact h.r8 hq
 ·exact fun hq => by
   rw [lk 10 (by decide)] at hq;rw [vk 10 (by decide), vk 1 (by decide), vk 3 (by decide), vk 6 (by decide), vk 8 (by decide)];obtain ⟨k, h1, h2, h3⟩ := h.st hq;exact ⟨k, h1, h2, h3⟩
 ·exact fun hq => by
   rw [lk 11 (by decide)] at hq;rw [vk 11 (by decide), lk 12 (by decide), if_neg hl];obtain ⟨p, h1, h2, h3⟩ := h.pt hq;rw [if_neg hl] at h3;exact ⟨p, h1, h2, h3⟩
theorem RunF.s9 (h : RunF n W5 L V W tg) (hs : 9 < L.size) (hl : ¬ L.getD 12 false = true)    : RunF n W5 (L.setIfInBounds 9 true) (updF V 9 (.agg #[V 1, V 3, V 6, V 8])) (W) (tg) := by
 have lk : ∀ j, j ≠ 9 → (L.setIfInBounds 9 true).getD j false = L.getD j false := fun j hj => by rw [getD_sets _ _ _ hs, if_neg hj]
 have vk : ∀ j, j ≠ 9 → updF V 9 (.agg #[V 1, V 3, V 6, V 8]) j = V j := fun j hj => updF_ne _ _ hj;refine ⟨?_, ?_, ?_, ?_, ?_, ?_, ?_, ?_, ?_, ?_, ?_, ?_⟩
 ·exact h.bel
 ·exact fun j hj hq => by rw [lk j (by omega)] at hq; rw [vk j (by omega)]; exact h.num j hj hq
 ·exact fun hq => by rw [lk 4 (by decide)] at hq; rw [vk 4 (by decide), vk 1 (by decide), vk 3 (by decide)]; exact h.b4 hq
 ·exact fun _ => by rw [updF_self, vk 1 (by decide), vk 3 (by decide), vk 6 (by decide), vk 8 (by decide)]
 ·exact h.fr
 ·exact h.lo
 ·exact fun hq => by rw [lk 1 (by decide)] at hq; rw [vk 1 (by decide)]; exact h.r1 hq
 ·exact fun hq => by rw [lk 3 (by decide)] at hq; rw [vk 3 (by decide)]; exact h.r3 hq
 ·exact fun hq => by rw [lk 6 (by decide)] at hq; rw [vk 6 (by decide)]; exact h.r6 hq
 ·exact fun hq => by rw [lk 8 (by decide)] at hq; rw [vk 8 (by decide)]; exact h.r8 hq
 ·exact fun hq => by
   rw [lk 10 (by decide)] at hq;rw [vk 10 (by decide), vk 1 (by decide), vk 3 (by decide), vk 6 (by decide), vk 8 (by decide)];obtain ⟨k, h1, h2, h3⟩ := h.st hq;exact ⟨k, h1, h2, h3⟩
 ·exact fun hq => by
   rw [lk 11 (by decide)] at hq;rw [vk 11 (by decide), lk 12 (by decide), if_neg hl];obtain ⟨p, h1, h2, h3⟩ := h.pt hq;rw [if_neg hl] at h3;exact ⟨p, h1, h2, h3⟩
theorem RunF.s10 (h : RunF n W5 L V W tg) (hs : 10 < L.size) (hl : ¬ L.getD 12 false = true)    : RunF n W5 (L.setIfInBounds 10 true) (updF V 10 (.pointer (some ⟨W.heap.size, 0, none⟩))) (W.alloc (.cells #[V 1, V 3, V 6, V 8] 71)) (updF tg W.heap.size 1) := by
 have lk : ∀ j, j ≠ 10 → (L.setIfInBounds 10 true).getD j false = L.getD j false := fun j hj => by rw [getD_sets _ _ _ hs, if_neg hj]
 have vk : ∀ j, j ≠ 10 → updF V 10 (.pointer (some ⟨W.heap.size, 0, none⟩)) j = V j := fun j hj => updF_ne _ _ hj;have hb : Below W.heap.size W (W.alloc (.cells #[V 1, V 3, V 6, V 8] 71)) := (Below.refl _ _).alloc (Nat.le_refl _) _;have hz : (W.alloc (.cells #[V 1, V 3, V 6, V 8] 71)).heap.size = W.heap.size + 1 := by simp
 have ht : ∀ b, b < W.heap.size → updF tg W.heap.size 1 b = tg b := fun b hbl => updF_ne _ _ (by omega);have hsz := h.bel.size;refine ⟨?_, ?_, ?_, ?_, ?_, ?_, ?_, ?_, ?_, ?_, ?_, ?_⟩
 ·exact h.bel.trans (hb.mono hsz)
 ·exact fun j hj hq => by rw [lk j (by omega)] at hq; rw [vk j (by omega)]; exact h.num j hj hq
 ·exact fun hq => by rw [lk 4 (by decide)] at hq; rw [vk 4 (by decide), vk 1 (by decide), vk 3 (by decide)]; exact h.b4 hq
 ·exact fun hq => by rw [lk 9 (by decide)] at hq; rw [vk 9 (by decide), vk 1 (by decide), vk 3 (by decide), vk 6 (by decide), vk 8 (by decide)]; exact h.b9 hq
 ·exact fun b hq => by rw [updF_ne _ _ (by omega)]; exact h.fr b (by omega)
 ·exact fun b hq => by
   by_cases e : b = W.heap.size
   ·omega
   ·rw [updF_ne _ _ e] at hq; exact h.lo b hq
 ·exact fun hq => by rw [lk 1 (by decide)] at hq; rw [vk 1 (by decide)]; exact (h.r1 hq).up hb ht
 ·exact fun hq => by rw [lk 3 (by decide)] at hq; rw [vk 3 (by decide)]; exact (h.r3 hq).up hb ht
 ·exact fun hq => by rw [lk 6 (by decide)] at hq; rw [vk 6 (by decide)]; exact (h.r6 hq).up hb ht
 ·exact fun hq => by rw [lk 8 (by decide)] at hq; rw [vk 8 (by decide)]; exact (h.r8 hq).up hb ht
 ·exact fun _ => ⟨W.heap.size, updF_self _ _ _, by rw [vk 1 (by decide), vk 3 (by decide), vk 6 (by decide), vk 8 (by decide)]; exact Own.new W [V 1, V 3, V 6, V 8] _, updF_self _ _ _⟩
 ·exact fun hq => by
   rw [lk 11 (by decide)] at hq;rw [vk 11 (by decide), lk 12 (by decide), if_neg hl];obtain ⟨p, h1, h2, h3⟩ := h.pt hq;rw [if_neg hl] at h3;exact ⟨p, h1, by rw [ht p h3.1]; exact h2, h3.below hb⟩
theorem RunF.s11 (h : RunF n W5 L V W tg) (hs : 11 < L.size) (hl : ¬ L.getD 12 false = true)    : RunF n W5 (L.setIfInBounds 11 true) (updF V 11 (.pointer (some ⟨W.heap.size, 0, none⟩))) (W.alloc (.cells #[.pointer none] 68)) (updF tg W.heap.size 6) := by
 have lk : ∀ j, j ≠ 11 → (L.setIfInBounds 11 true).getD j false = L.getD j false := fun j hj => by rw [getD_sets _ _ _ hs, if_neg hj]
 have vk : ∀ j, j ≠ 11 → updF V 11 (.pointer (some ⟨W.heap.size, 0, none⟩)) j = V j := fun j hj => updF_ne _ _ hj;have hb : Below W.heap.size W (W.alloc (.cells #[.pointer none] 68)) := (Below.refl _ _).alloc (Nat.le_refl _) _;have hz : (W.alloc (.cells #[.pointer none] 68)).heap.size = W.heap.size + 1 := by simp
 have ht : ∀ b, b < W.heap.size → updF tg W.heap.size 6 b = tg b := fun b hbl => updF_ne _ _ (by omega);have hsz := h.bel.size;refine ⟨?_, ?_, ?_, ?_, ?_, ?_, ?_, ?_, ?_, ?_, ?_, ?_⟩
 ·exact h.bel.trans (hb.mono hsz)
 ·exact fun j hj hq => by rw [lk j (by omega)] at hq; rw [vk j (by omega)]; exact h.num j hj hq
 ·exact fun hq => by rw [lk 4 (by decide)] at hq; rw [vk 4 (by decide), vk 1 (by decide), vk 3 (by decide)]; exact h.b4 hq
 ·exact fun hq => by rw [lk 9 (by decide)] at hq; rw [vk 9 (by decide), vk 1 (by decide), vk 3 (by decide), vk 6 (by decide), vk 8 (by decide)]; exact h.b9 hq
 ·exact fun b hq => by rw [updF_ne _ _ (by omega)]; exact h.fr b (by omega)
 ·exact fun b hq => by
   by_cases e : b = W.heap.size
   ·omega
   ·rw [updF_ne _ _ e] at hq; exact h.lo b hq
 ·exact fun hq => by rw [lk 1 (by decide)] at hq; rw [vk 1 (by decide)]; exact (h.r1 hq).up hb ht
 ·exact fun hq => by rw [lk 3 (by decide)] at hq; rw [vk 3 (by decide)]; exact (h.r3 hq).up hb ht
 ·exact fun hq => by rw [lk 6 (by decide)] at hq; rw [vk 6 (by decide)]; exact (h.r6 hq).up hb ht
 ·exact fun hq => by rw [lk 8 (by decide)] at hq; rw [vk 8 (by decide)]; exact (h.r8 hq).up hb ht
 ·exact fun hq => by
   rw [lk 10 (by decide)] at hq;rw [vk 10 (by decide), vk 1 (by decide), vk 3 (by decide), vk 6 (by decide), vk 8 (by decide)];obtain ⟨k, h1, h2, h3⟩ := h.st hq;exact ⟨k, h1, h2.below hb, by rw [ht k h2.1]; exact h3⟩
 ·exact fun _ => ⟨W.heap.size, updF_self _ _ _, updF_self _ _ _, by rw [lk 12 (by decide), if_neg hl]; exact Own.new W [.pointer none] _⟩
theorem RunF.s12 {p : Nat} (h : RunF n W5 L V W tg) (hs : 12 < L.size) (hl : ¬ L.getD 12 false = true) (d11 : L.getD 11 false = true) (hp : V 11 = .pointer (some ⟨p, 0, none⟩)) (x : Value) : RunF n W5 (L.setIfInBounds 12 true) (updF V 12 x) (W.setCell ⟨p, 0, none⟩ (V 10)) tg := by
 have lk : ∀ j, j ≠ 12 → (L.setIfInBounds 12 true).getD j false = L.getD j false := fun j hj => by rw [getD_sets _ _ _ hs, if_neg hj]
 have vk : ∀ j, j ≠ 12 → updF V 12 x j = V j := fun j hj => updF_ne _ _ hj;obtain ⟨q, g1, g2, g3⟩ := h.pt d11;rw [hp] at g1;cases g1;rw [if_neg hl] at g3;have hlo := h.lo p (by omega);have hc : Chg (· = p) W (W.setCell ⟨p, 0, none⟩ (V 10)) := chgSet W p 0 (V 10);have no : ∀ {e : TypeId} {z v : Value} {t : Nat}, t ≠ 6 → MkRow W e z n v tg t → MkRow (W.setCell ⟨p, 0, none⟩ (V 10)) e z n v tg t := fun hne ⟨b, h1, h2, h3⟩ => by
  subst h1;exact ⟨b, rfl, rowB_chg hc h2 (fun e => hne (by rw [← h3, e, g2])), h3⟩
 refine ⟨?_, ?_, ?_, ?_, ?_, ?_, ?_, ?_, ?_, ?_, ?_, ?_⟩
 ·exact h.bel.setCell (p := ⟨p, 0, none⟩) hlo _
 ·exact fun j hj hq => by rw [lk j (by omega)] at hq; rw [vk j (by omega)]; exact h.num j hj hq
 ·exact fun hq => by rw [lk 4 (by decide)] at hq; rw [vk 4 (by decide), vk 1 (by decide), vk 3 (by decide)]; exact h.b4 hq
 ·exact fun hq => by rw [lk 9 (by decide)] at hq; rw [vk 9 (by decide), vk 1 (by decide), vk 3 (by decide), vk 6 (by decide), vk 8 (by decide)]; exact h.b9 hq
 ·exact fun b hq => h.fr b (Nat.le_trans hc.size hq)
 ·exact h.lo
 ·exact fun hq => by rw [lk 1 (by decide)] at hq; rw [vk 1 (by decide)]; exact no (by decide) (h.r1 hq)
 ·exact fun hq => by rw [lk 3 (by decide)] at hq; rw [vk 3 (by decide)]; exact no (by decide) (h.r3 hq)
 ·exact fun hq => by rw [lk 6 (by decide)] at hq; rw [vk 6 (by decide)]; exact no (by decide) (h.r6 hq)
 ·exact fun hq => by rw [lk 8 (by decide)] at hq; rw [vk 8 (by decide)]; exact no (by decide) (h.r8 hq)
 ·exact fun hq => by
   rw [lk 10 (by decide)] at hq;rw [vk 10 (by decide), vk 1 (by decide), vk 3 (by decide), vk 6 (by decide), vk 8 (by decide)];obtain ⟨k, h1, h2, h3⟩ := h.st hq;exact ⟨k, h1, hc.own h2 (fun e => by rw [e, g2] at h3; omega), h3⟩
 ·exact fun _ => ⟨p, by rw [vk 11 (by decide)]; exact hp, g2, by
   rw [getD_sets _ _ _ hs, if_pos rfl, if_pos rfl, vk 10 (by decide)];exact g3.set 0 _ (by simp)⟩
end
end
section
/-- the state, with the changes' rows of the first j instructions -/
structure MInit (N : Nat) (W : World) (A : BAd) (n regs j : Nat) : Prop where
 st : Own W A.k (A.cells n)
 ri : W.ownsRow 0 40 1 (.slice (some ⟨A.ib, 0, none⟩) n A.ic) n (List.replicate n (.slice none 0 0))
 rc : W.ownsRow 0 47 1 (.slice (some ⟨A.cb, 0, none⟩) n A.cc) n ((List.range n).map fun v => if v < j then cvVal regs (A.cv v) else .slice none 0 0)
 rm : W.ownsRow 0 4 1 (.slice (some ⟨A.mb, 0, none⟩) n A.mc) n (List.replicate n (.bool false))
 rj : W.ownsRow 0 3 1 (.slice (some ⟨A.jb, 0, none⟩) n A.jc) n (List.replicate n (.int .i64 0))
 ec : ∀ v, v < j → W.ownsRow 0 3 1 (cvVal regs (A.cv v)) regs (Nums (List.replicate regs 0)) ∧ A.tg (A.cv v).1 = 7 + 2 * v
 tk : A.tg A.k = 1
 ti : A.tg A.ib = 2
 tc : A.tg A.cb = 3
 tm : A.tg A.mb = 4
 tj : A.tg A.jb = 5
 fr : ∀ b, W.heap.size ≤ b → A.tg b = 0
 lo : ∀ b, A.tg b ≠ 0 → N ≤ b
 hj : j ≤ n
section
variable {N : Nat} {W W' : World} {A : BAd} {n regs j : Nat} {S : Nat → Prop}
theorem MInit.keep (h : MInit N W A n regs j) (hc : Chg S W W') (hS : ∀ x, S x → A.tg x = 0) : MInit N W' A n regs j := by
 have no : ∀ (b t : Nat), A.tg b = t → t ≠ 0 → ¬ S b := fun b t hb ht e => ht (by rw [← hb, hS b e]);refine ⟨hc.own h.st (no _ _ h.tk (by omega)), rowB_chg hc h.ri (no _ _ h.ti (by omega)), rowB_chg hc h.rc (no _ _ h.tc (by omega)), rowB_chg hc h.rm (no _ _ h.tm (by omega)), rowB_chg hc h.rj (no _ _ h.tj (by omega)), fun v hv => ?_, h.tk, h.ti, h.tc, h.tm, h.tj, fun b hb => h.fr b (Nat.le_trans hc.size hb), h.lo, h.hj⟩;obtain ⟨h1, h2⟩ := h.ec v hv;exact ⟨rowB_chg hc h1 (no _ _ h2 (by omega)), h2⟩
theorem MInit.below (h : MInit N W A n regs j) (hb : Below W.heap.size W W') : MInit N W' A n regs j := h.keep (S := fun _ => False) (Chg.of hb) (fun _ e => e.elim)
theorem rows_set (n j regs : Nat) (cv : Nat → Nat × Nat) (p : Nat × Nat) (hj : j < n) : ((List.range n).map fun v => if v < j then cvVal regs (cv v) else Value.slice none 0 0).set j (cvVal regs p) = (List.range n).map fun v => if v < j + 1 then cvVal regs (updF cv j p v) else .slice none 0 0 := by
 apply List.ext_getElem?;intro i;by_cases e : i = j
 ·subst e;rw [List.getElem?_set_self (by simpa using hj), List.getElem?_map, List.getElem?_range hj];simp only [Option.map_some];rw [if_pos (by omega), updF_self]
 ·rw [List.getElem?_set_ne (by omega)];by_cases hi : i < n
  ·rw [List.getElem?_map, List.getElem?_map, List.getElem?_range hi];simp only [Option.map_some];rw [updF_ne _ _ e];have : (i < j + 1) ↔ i < j := by omega
   simp only [this]
  ·rw [List.getElem?_eq_none (by simp; omega), List.getElem?_eq_none (by simp; omega)]
/-- a row of changes more: it lies in b, which is nobody's -/
theorem MInit.row (h : MInit N W A n regs j) (hj : j < n) {b c : Nat} (hr : W.ownsRow 0 3 1 (.slice (some ⟨b, 0, none⟩) regs c) regs (Nums (List.replicate regs 0))) (hb : A.tg b = 0) (hN : N ≤ b) : MInit N (W.setCell ⟨A.cb, j, none⟩ (.slice (some ⟨b, 0, none⟩) regs c)) { A with cv := updF A.cv j (b, c), tg := updF A.tg b (7 + 2 * j) } n regs (j + 1) := by
 have hc := chgSet W A.cb j (.slice (some ⟨b, 0, none⟩) regs c);have no : ∀ (x t : Nat), A.tg x = t → t ≠ 3 → ¬ (x = A.cb) := fun x t hx ht e => ht (by rw [← hx, e, h.tc]);have tn : ∀ (x t : Nat), A.tg x = t → t ≠ 0 → updF A.tg b (7 + 2 * j) x = t := fun x t hx ht => by rw [updF_ne _ _ (fun e => ht (by rw [← hx, e, hb])), hx]
 have hm := row_set h.rc j (.slice (some ⟨b, 0, none⟩) regs c);have e := rows_set n j regs A.cv (b, c) hj;rw [show cvVal regs (b, c) = .slice (some ⟨b, 0, none⟩) regs c from rfl] at e;rw [e] at hm;have hbl := row_ltB hr;refine ⟨hc.own h.st (no _ _ h.tk (by omega)), rowB_chg hc h.ri (no _ _ h.ti (by omega)), hm, rowB_chg hc h.rm (no _ _ h.tm (by omega)), rowB_chg hc h.rj (no _ _ h.tj (by omega)), fun u hu => ?_, tn _ _ h.tk (by omega), tn _ _ h.ti (by omega), tn _ _ h.tc (by omega), tn _ _ h.tm (by omega), tn _ _ h.tj (by omega), fun x hx => ?_, fun x hx => ?_, by omega⟩
 ·dsimp only;by_cases e : u = j
  ·subst e;rw [updF_self];exact ⟨rowB_chg hc hr (no _ _ hb (by omega)), updF_self _ _ _⟩
  ·rw [updF_ne _ _ e];obtain ⟨h1, h2⟩ := h.ec u (by omega);exact ⟨rowB_chg hc h1 (no _ _ h2 (by omega)), tn _ _ h2 (by omega)⟩
 ·have h3 : W.heap.size ≤ x := Nat.le_trans hc.size hx;dsimp only;rw [updF_ne _ _ (by omega)];exact h.fr x h3
 ·dsimp only at hx;by_cases e : x = b
  ·subst e; exact hN
  ·rw [updF_ne _ _ e] at hx;exact h.lo x hx
def zeroPS (n regs : Nat) : PBS := { inn := List.replicate n [], chg := List.replicate n (List.replicate regs 0), mrk := List.replicate n false, jn := List.replicate n 0 }
theorem getD_rep {α : Type} (n i : Nat) (a d : α) (hi : i < n) : (List.replicate n a).getD i d = a := by
 simp [List.getD_eq_getElem?_getD, List.getElem?_replicate, hi]
theorem MInit.done (h : MInit N W A n regs n) : BAt N W { A with iv := fun _ => none } n regs (zeroPS n regs) := by
 have e1 : ivCells n regs (fun _ => none) = List.replicate n (.slice none 0 0) := by
  unfold ivCells ivVal;simp [List.eq_replicate_iff]
 have e2 : cvCells n regs A.cv = (List.range n).map fun v => if v < n then cvVal regs (A.cv v) else .slice none 0 0 := by
  unfold cvCells;refine List.map_congr_left fun v hv => ?_;rw [if_pos (List.mem_range.1 hv)]
 refine ⟨h.st, by dsimp only; rw [e1]; exact h.ri, by dsimp only; rw [e2]; exact h.rc, by simpa [zeroPS, Bools] using h.rm, by simpa [zeroPS, Nums] using h.rj, fun v hv => .inl ⟨rfl, ?_⟩, fun v hv => ?_, h.tk, h.ti, h.tc, h.tm, h.tj, h.fr, h.lo, by simp [zeroPS], by simp [zeroPS]⟩
 ·unfold zeroPS; dsimp only; exact getD_rep n v _ _ hv
 ·have e3 : (zeroPS n regs).chg.getD v [] = List.replicate regs 0 := by unfold zeroPS; dsimp only; exact getD_rep n v _ _ hv
  rw [e3];exact h.ec v hv
end
/-- Run's other cells: the module, the result, the function, the state's address -/
structure Boxes (W : World) (tg : Nat → Nat) (mb ab fx p k : Nat) (mv fv : List Value) : Prop where
 cm : Own W mb mv
 ca : Own W ab [.slice none 0 0, .slice none 0 0]
 cf : Own W fx fv
 cp : Own W p [.pointer (some ⟨k, 0, none⟩)]
 tm : tg mb = 0
 ta : tg ab = 0
 tf : tg fx = 0
 tp : tg p = 0
theorem Boxes.keep {W W' : World} {tg : Nat → Nat} {mb ab fx p k : Nat} {mv fv : List Value} {S : Nat → Prop} (h : Boxes W tg mb ab fx p k mv fv) (hc : Chg S W W') (hS : ∀ x, S x → tg x ≠ 0) : Boxes W' tg mb ab fx p k mv fv :=
 ⟨hc.own h.cm (fun e => hS _ e h.tm), hc.own h.ca (fun e => hS _ e h.ta), hc.own h.cf (fun e => hS _ e h.tf), hc.own h.cp (fun e => hS _ e h.tp), h.tm, h.ta, h.tf, h.tp⟩
theorem Boxes.below {W W' : World} {tg : Nat → Nat} {mb ab fx p k : Nat} {mv fv : List Value} (h : Boxes W tg mb ab fx p k mv fv) (hb : Below W.heap.size W W') : Boxes W' tg mb ab fx p k mv fv := h.keep (S := fun _ => False) (Chg.of hb) (fun _ e => e.elim)
/-- other tags, of blocks that are none of these -/
theorem Boxes.tag {W : World} {tg tg' : Nat → Nat} {mb ab fx p k : Nat} {mv fv : List Value} (h : Boxes W tg mb ab fx p k mv fv) (ht : ∀ x, x < W.heap.size → tg' x = tg x) : Boxes W tg' mb ab fx p k mv fv :=
 ⟨h.cm, h.ca, h.cf, h.cp, by rw [ht _ h.cm.1]; exact h.tm, by rw [ht _ h.ca.1]; exact h.ta, by rw [ht _ h.cf.1]; exact h.tf, by rw [ht _ h.cp.1]; exact h.tp⟩
/-- a block that is new is tagged -/
theorem Boxes.tag1 {W W' : World} {tg : Nat → Nat} {mb ab fx p k : Nat} {mv fv : List Value} (h : Boxes W tg mb ab fx p k mv fv) (h' : Boxes W' tg mb ab fx p k mv fv) {b : Nat} (hb : W.heap.size ≤ b) (t : Nat) : Boxes W' (updF tg b t) mb ab fx p k mv fv := by
 have h1 := h.cm.1; have h2 := h.ca.1; have h3 := h.cf.1; have h4 := h.cp.1;exact ⟨h'.cm, h'.ca, h'.cf, h'.cp, by rw [updF_ne _ _ (by omega)]; exact h.tm, by rw [updF_ne _ _ (by omega)]; exact h.ta, by rw [updF_ne _ _ (by omega)]; exact h.tf, by rw [updF_ne _ _ (by omega)]; exact h.tp⟩
end
theorem params_fine {m : PMod} (h : (mayP m).e = 0) {k : Nat} (hk : k < m.funcs.length) {i : Nat} (hi : i < (fnAt m k).params.length) : ((fnAt m k).params.getD i default).lo ≤ ((fnAt m k).params.getD i default).hi := by
 unfold mayP at h;split at h
 ·simp at h
 ·split at h
  ·simp at h
  ·split at h
   ·simp at h
   ·unfold mayWholes at h;split at h
    ·rename_i f hf;have := (firstI_spec hf).2.1;simp at this;exact absurd h this
    ·rename_i hw;have hw2 := firstI_no hw;have h1 : (wholeP m k).1 = 0 := by simpa using hw2 k hk
     unfold wholeP at h1;have e : m.funcs.getD k default = fnAt m k := rfl;rw [e] at h1;generalize fnAt m k = f at *;unfold wholeQ at h1;split at h1
     ·simp at h1
     ·split at h1
      ·simp at h1
      ·split at h1
       ·simp at h1
       ·cases hf : f.params.findIdx? emptyB with
        | some j => rw [hf] at h1; simp at h1
        | none =>
         rw [List.findIdx?_eq_none_iff] at hf;have hm : f.params.getD i default ∈ f.params := by
          rw [List.getD_eq_getElem?_getD, List.getElem?_eq_getElem hi]; exact List.getElem_mem hi
         have := hf _ hm;unfold emptyB at this;simpa using this
theorem begin_len {f : PFunc} {rg : Nat} (hrg : f.regs = rg) (hp : (f.params.length : Int) ≤ f.regs) : (beginP f).length = rg := by
 unfold beginP;rw [List.length_append, List.length_replicate, hrg];simp;omega
theorem begin_ok {f : PFunc} {rg : Nat} (hrg : f.regs = rg) (hp : (f.params.length : Int) ≤ f.regs) (h64 : ∀ i, i < f.params.length → SpOk (f.params.getD i default)) : LOk rg (beginP f) := by
 refine ⟨begin_len hrg hp, fun i hi => ?_⟩;unfold beginP;by_cases h : i < f.params.length
 ·have e : (f.params ++ List.replicate (f.regs.toNat - f.params.length) (⟨0, 0⟩ : PSpan)).getD i default = f.params.getD i default := by
   rw [List.getD_eq_getElem?_getD, List.getElem?_append_left h, ← List.getD_eq_getElem?_getD]
  rw [e];exact h64 i h
 ·have e : (f.params ++ List.replicate (f.regs.toNat - f.params.length) (⟨0, 0⟩ : PSpan)).getD i default = ⟨0, 0⟩ := by
   rw [List.getD_eq_getElem?_getD, List.getElem?_append_right (by omega), List.getElem?_replicate, if_pos (by rw [hrg]; simp; omega)]; rfl
  rw [e];exact ⟨by unfold In64; dsimp only; omega, by unfold In64; dsimp only; omega, Int.le_refl _⟩
theorem start_is (f : PFunc) {rg n : Nat} (hrg : f.regs = rg) (hn : n = f.code.length) : startS f = { (zeroPS n rg) with inn := (zeroPS n rg).inn.set 0 (beginP f), mrk := (zeroPS n rg).mrk.set 0 true } := by
 unfold startS zeroPS;rw [hrg, hn];rfl
theorem start_ok {f : PFunc} {rg n : Nat} (hrg : f.regs = rg) (hr0 : 0 < rg) (hn : n = f.code.length) (hn0 : 0 < n) (hp : (f.params.length : Int) ≤ f.regs) (h64 : ∀ i, i < f.params.length → SpOk (f.params.getD i default)) : SOk n rg (startS f) ∧ MOk n (startS f) := by
 have hb := begin_ok hrg hp h64;rw [start_is f hrg hn];unfold zeroPS;dsimp only;refine ⟨⟨by simp, by simp, by simp, by simp, fun v hv => ?_, fun v hv => ?_⟩, fun v hv hm => ?_⟩
 ·dsimp only;rw [getD_ext];split
  ·exact .inr hb
  ·exact .inl (getD_rep n v _ _ hv)
 ·dsimp only;rw [getD_rep n v _ _ hv, List.length_replicate]
 ·dsimp only at hm ⊢;rw [getD_ext] at hm ⊢;by_cases h0 : v = 0 ∧ 0 < (List.replicate n ([] : List PSpan)).length
  ·rw [if_pos h0];intro e;have := hb.1;rw [e] at this;simp at this; omega
  ·rw [if_neg (by simpa using h0), getD_rep n v _ _ hv] at hm;cases hm
end Go.Proofs.YteebpnbdihcfmaaDoor
