/- code.Writes; loops: counts, walked. Package bounds: merge, walked. -/
import Derived.Test.YteebpnbdihcfmaaDoorJ10
import Derived.Test.YteebpnbdihcfmaaDoorJ07
import Derived.Test.YteebpnbdihcfmaaDoorJ03
import Derived.Lib.SliceRun
set_option linter.unusedVariables false
set_option linter.unusedSimpArgs false
set_option maxRecDepth 100000
set_option maxHeartbeats 20000000
namespace Go.Proofs.YteebpnbdihcfmaaDoor
open Go.RowKit
theorem writes_any (x : PIns) (w : World) (hr : RowsAt w) :
 Calls Tryd.prog 49 #[InsVal x] w fun e w' => e = .returned (.int .i64 (writesP x)) ∧ Below w.heap.size w w' := by
 obtain ⟨op, a, b, c, n⟩ := x;unfold InsVal;dsimp only;have hz : 0 < w.heap.size := hr.1;by_cases hk : knownB op = true
 ·have hk' := hk;unfold knownB at hk';obtain ⟨k, rfl⟩ := Int.eq_ofNat_of_zero_le (show 0 ≤ op by grind);have hlt : k < 20 := by grind
  obtain ⟨_, _, _, _, _, _, q6⟩ := hr.2 k hlt;have HK := Lib.hid hk;have hE : writesP ⟨(k : Int), a, b, c, n⟩ = if (rowAt k).writes then a else -1 := by unfold writesP; dsimp only; rw [hk, Int.toNat_natCast]; simp
  clear hk';rw [hE];generalize (rowAt k).writes = wr at *;cases wr
  ·go_enter Tryd.func49, Tryd.ntmps49;go_wp2_with (go_at_call 37; refine (known_any _ _).mono ?_; rintro e w1 ⟨rfl, rfl⟩)
   go_ret;go_light;exact ⟨rfl, bel⟩
  ·go_enter Tryd.func49, Tryd.ntmps49;go_wp2_with (go_at_call 37; refine (known_any _ _).mono ?_; rintro e w1 ⟨rfl, rfl⟩)
   go_ret;go_light;exact ⟨rfl, bel⟩
 ·have hk0 : knownB op = false := by simpa using hk
  clear hk;have hE : writesP ⟨op, a, b, c, n⟩ = -1 := by unfold writesP; dsimp only; rw [hk0]; simp
  rw [hE];go_enter Tryd.func49, Tryd.ntmps49;go_wp2_with (go_at_call 37; refine (known_any _ _).mono ?_; rintro e w1 ⟨rfl, rfl⟩)
  go_ret;go_light;exact ⟨rfl, bel⟩
theorem find_at {l : List Int} {p : Int → Bool} {j : Nat} (hj : j < l.length) (h : ∀ i, i < j → p (l.getD i 0) = false) (hp : p (l.getD j 0) = true) : l.find? p = some (l.getD j 0) := by
 rw [List.find?_eq_some_iff_getElem];have e : ∀ i (hi : i < l.length), l.getD i 0 = l[i] := fun i hi => by rw [List.getD_eq_getElem?_getD, List.getElem?_eq_getElem hi]; rfl
 refine ⟨hp, j, hj, (e j hj).symm, fun k hk => ?_⟩;have := h k hk;rw [e k (by omega)] at this;simp [this]
theorem find_no {l : List Int} {p : Int → Bool} (h : ∀ i, i < l.length → p (l.getD i 0) = false) : l.find? p = none := by
 rw [List.find?_eq_none];intro x hx;obtain ⟨i, hi, rfl⟩ := List.getElem_of_mem hx;have := h i hi;rw [List.getD_eq_getElem?_getD, List.getElem?_eq_getElem hi] at this;simpa using this
theorem own4 {w : World} {k : Nat} {a b c d : Value} (h : Own w k [a, b, c, d]) : k < w.heap.size ∧ w.cell? ⟨k, 0, none⟩ = some a ∧ w.cell? ⟨k, 1, none⟩ = some b ∧ w.cell? ⟨k, 2, none⟩ = some c ∧ w.cell? ⟨k, 3, none⟩ = some d ∧ w.frozen? ⟨k, 0, none⟩ = false ∧ w.frozen? ⟨k, 1, none⟩ = false ∧ w.frozen? ⟨k, 2, none⟩ = false ∧ w.frozen? ⟨k, 3, none⟩ = false :=
 ⟨h.1, h.2.1 0 _ rfl, h.2.1 1 _ rfl, h.2.1 2 _ rfl, h.2.1 3 _ rfl, h.2.2 0, h.2.2 1, h.2.2 2, h.2.2 3⟩
def takeB (l : List Int) (j : Nat) : Int → Bool := fun x => decide (x ∈ l.take j)
theorem takeB_zero (l : List Int) : setM (takeB l 0) = fun _ => none := by funext i; simp [setM, takeB]
theorem takeB_succ {l : List Int} {j : Nat} (hj : j < l.length) : addB (takeB l j) (l.getD j 0) = takeB l (j + 1) := by
 have h : l.take (j + 1) = l.take j ++ [l.getD j 0] := by rw [List.take_add_one, List.getD_eq_getElem?_getD, List.getElem?_eq_getElem hj]; rfl
 funext x;unfold addB takeB;rw [h];simp [Bool.or_comm]
theorem takeB_full (l : List Int) (x : Int) : takeB l l.length x = l.contains x := by
 unfold takeB; rw [List.take_length]; simp
def badBack (f : PFunc) (A : Int) (u : Int) : Bool := decide ((codeAt f u).op ≠ 18) || decide ((codeAt f u).a ≠ A)
def badDrive (f : PFunc) (A B : Int) (bk : List Int) (u : Int) : Bool := decide (0 ≤ writesP (codeAt f u)) && ((decide (writesP (codeAt f u) = A) && !bk.contains u) || decide (writesP (codeAt f u) = B))
theorem counts_eq (f : PFunc) (l : PLoop) : countsP f l = if (codeAt f l.head).op ≠ 17 then ((71 : Int), (l.head : Int)) else match l.backs.find? (badBack f (codeAt f l.head).a) with
 | some u => (72, u)
 | none => match l.members.find? (badDrive f (codeAt f l.head).a (codeAt f l.head).b l.backs) with
  | some u => (73, u)
  | none => if l.members.any (fun u => decide (u = (codeAt f l.head).n)) then (74, (l.head : Int)) else (0, 0) := rfl
theorem counts_any (B : Nat) (hh : HF) (f : PFunc) (l : PLoop) (ma ba : Option Addr) (mc bc : Nat) (w : World) (hB : B ≤ w.heap.size) (hf : FuncOk B w hh f) (hr : RowsAt w)
 (hm : NumsAt B w ma l.members.length l.members) (hb : NumsAt B w ba l.backs.length l.backs) (hh1 : l.head < f.code.length) (hm1 : ∀ x ∈ l.members, ∃ k : Nat, x = k ∧ k < f.code.length) (hb1 : ∀ x ∈ l.backs, ∃ k : Nat, x = k ∧ k < f.code.length) (hn : f.code.length ≤ 1024) :
 Calls Tryd.prog 27 #[FuncVal hh f, .agg #[.int .i64 l.head, .int .i64 l.parent, .slice ma l.members.length mc, .slice ba l.backs.length bc]] w fun e w' => e = .returned (.tuple #[.int .i64 (countsP f l).1, .int .i64 (countsP f l).2]) ∧ Below w.heap.size w w' := by
 have hmm := @run_makeMap Tryd.prog;obtain ⟨pa, pl, pc, ca, cl, cc⟩ := hh;obtain ⟨h1, h2, ⟨hcl, hcm, cb, co, hcb, hcells⟩, h4, h5⟩ := hf;dsimp only at *;subst hcl;obtain ⟨rfl, hcB⟩ := hcb (by omega);clear h2 h1 h4 h5;rw [counts_eq];unfold FuncVal;dsimp only;have HC := Lib.hid hcells; clear hcells;have HR := Lib.hid hr;have HM1 := Lib.hid hm1; have HB1 := Lib.hid hb1; have HM := Lib.hid hm; have HBk := Lib.hid hb;clear hr hm1 hb1 hm hb;have hx0 := HC.out l.head hh1;have hca : codeAt f (l.head : Int) = f.code.getD l.head default := by unfold codeAt; rw [Int.toNat_natCast]
 rw [hca];generalize f.code.getD l.head default = x at *;obtain ⟨op, a, b, c, n⟩ := x;obtain ⟨⟨g0, g1, g2, g3, g4⟩, ⟨i0, i1, i2, i3, i4⟩⟩ := hx0;dsimp only at *;obtain ⟨head, parent, members, backs⟩ := l;dsimp only at *;have hhd : (head : Int) < (f.code.length : Int) := by omega
 have hcbl : cb < w.heap.size := by omega
 by_cases hop : op = 17
 ·subst hop;rw [if_neg (by simp)];obtain ⟨RES, hRES⟩ : ∃ r : Int × Int, r = (match backs.find? (badBack f a) with
   | some u => (72, u)
   | none => match members.find? (badDrive f a b backs) with
    | some u => (73, u)
    | none => if members.any (fun u => decide (u = n)) then (74, (head : Int)) else (0, 0)) := ⟨_, rfl⟩
  rw [← hRES];have HRES := Lib.hid hRES;clear hRES;go_enter Tryd.func27, Tryd.ntmps27;go_upto_region 5 with (fail)
  generalize hW0 : World.alloc _ _ = W0;have hb0 : Below w.heap.size w W0 := by rw [← hW0]; exact bel
  have hz0 : W0.heap.size = w.heap.size + 4 := by rw [← hW0]; simp
  have OF : Own W0 w.heap.size [.string f.name, .slice pa pl pc, .int .i64 f.regs, .int .i64 f.words, .slice (some ⟨cb, co, none⟩) f.code.length cc] := by rw [← hW0]; exact (((Own.new _ _ _).alloc _).alloc _).alloc _
  have OL : Own W0 (w.heap.size + 1) [.int .i64 head, .int .i64 parent, .slice ma members.length mc, .slice ba backs.length bc] := by rw [← hW0]; exact ((Own.new' _ _ _ _ (by simp)).alloc _).alloc _
  have OC : Own W0 (w.heap.size + 1 + 1) [.int .i64 17, .int .i64 a, .int .i64 b, .int .i64 c, .int .i64 n] := by rw [← hW0]; exact (Own.new' _ _ _ _ (by simp)).alloc _
  have OM : MapAt W0 (w.heap.size + 1 + 1 + 1) 0 (setM (takeB backs 0)) := by
   rw [← hW0, takeB_zero];have h := MapAt.made (((w.alloc (.cells #[.string f.name, .slice pa pl pc, .int .i64 f.regs, .int .i64 f.words, .slice (some ⟨cb, co, none⟩) f.code.length cc] 43)).alloc (.cells #[.int .i64 head, .int .i64 parent, .slice ma members.length mc, .slice ba backs.length bc] 49)).alloc (.cells #[.int .i64 17, .int .i64 a, .int .i64 b, .int .i64 c, .int .i64 n] 51));simpa using h
  have l4 := own4 OL;clear hW0 hmm g0 g1 g2 g3 g4;obtain ⟨-, hbm, bb, bo, hbb, hbc⟩ := HBk.out;have hbm' : backs.length ≤ 9223372036854775807 := hbm;have HBC := Lib.hid hbc; have HBB := Lib.hid hbb;clear hbc hbb;go_wp2;go_loopw [31] (fun i wr => ∃ j q : Nat, j ≤ backs.length ∧ q ≤ j ∧ i = .int .i64 j ∧ Hid (∀ i, i < j → badBack f a (backs.getD i 0) = false) ∧ Below w.heap.size w wr ∧ w.heap.size + 4 ≤ wr.heap.size ∧ Hid (Own wr w.heap.size [.string f.name, .slice pa pl pc, .int .i64 f.regs, .int .i64 f.words, .slice (some ⟨cb, co, none⟩) f.code.length cc]) ∧ Hid (Own wr (w.heap.size + 1) [.int .i64 head, .int .i64 parent, .slice ma members.length mc, .slice ba backs.length bc]) ∧ Hid (Own wr (w.heap.size + 1 + 1) [.int .i64 17, .int .i64 a, .int .i64 b, .int .i64 c, .int .i64 n]) ∧ Hid (MapAt wr (w.heap.size + 1 + 1 + 1) q (setM (takeB backs j)))) (fun i _ => backs.length - (intOf i).toNat)
  case atStart => exact ⟨0, 0, Nat.zero_le _, Nat.le_refl _, rfl, Lib.hid (fun i hi => by omega), hb0, by omega, Lib.hid OF, Lib.hid OL, Lib.hid OC, Lib.hid OM⟩
  case round =>
   clear OF OL OC OM l4 hb0 hz0;obtain ⟨j, q, hj, hq, rfl, hno, hbr, hzr, OF, OL, OC, OM⟩ := hrel;have f5 := own5 OF.out;have l4 := own4 OL.out;have x5 := own5 OC.out;by_cases hjt : j < backs.length
   ·have d2 : (j : Int) < (backs.length : Int) := by omega
    have hwj : IntKind.i64.wrap ((j : Int) + 1) = (j : Int) + 1 := IntWalk.i64_in _ (by omega);obtain ⟨rfl, hbB⟩ := HBB.out (by omega);have c0 := (hbr.cell (p := ⟨bb, bo + j, none⟩) (by show bb < _; omega)).trans (HBC.out j hjt).1;obtain ⟨k, hku, hkl⟩ := HB1.out (backs.getD j 0) (List.mem_of_getElem? (i := j) (by rw [List.getD_eq_getElem?_getD, List.getElem?_eq_getElem hjt]; rfl));have HU := Lib.hid hku;rw [hku] at c0;have hk1 : (k : Int) < (f.code.length : Int) := by omega
    have hcaU : codeAt f (k : Int) = f.code.getD k default := by unfold codeAt; rw [Int.toNat_natCast]
    obtain ⟨⟨y0, y1, y2, y3, y4⟩, iy⟩ := HC.out k hkl;have HY := Lib.hid (show badBack f a (k : Int) = (decide ((f.code.getD k default).op ≠ 18) || decide ((f.code.getD k default).a ≠ a)) by unfold badBack; rw [hcaU]);have HF := Lib.hid (fun h => find_at (p := badBack f a) hjt hno.out h);clear hku hcaU iy;generalize f.code.getD k default = y at *;obtain ⟨yo, ya, yb, yc, yn⟩ := y;dsimp only at y0 y1 y2 y3 y4 HY;have yy0 := (hbr.cell (p := ⟨cb, co + k * 5, none⟩) (by show cb < _; omega)).trans y0;have yy1 := (hbr.cell (p := ⟨cb, co + k * 5 + 1, none⟩) (by show cb < _; omega)).trans y1;clear y0 y1 y2 y3 y4;by_cases e1 : yo = 18
    ·subst e1;by_cases e2 : ya = a
     ·subst e2;have hgood : badBack f ya (k : Int) = false := by rw [HY.out]; simp
      clear HF;have q1 : ((18 : Int) != 18) = false := by simp
      have q2 : (ya != ya) = false := by simp
      go_upto_region 8 with (fail)
      refine wp_still 17 (by kernel_rfl) (by kernel_rfl) ?_; simp only [List.take_succ_cons, List.take_zero, List.drop_succ_cons, List.drop_zero]; repeat (refine WS_step (fun K hK => ?_); go_simp; refine hK _ ?_; clear hK K)
      refine WS_nil ?_;go_upto_region 10 with (fail)
      obtain ⟨W2, hrun2, hM2, hc2⟩ := (OM.out.below ((Below.refl _ _).drew)).set Tryd.mapU (by unfold maxLen; omega) (inI_nat (show k < 1024 by omega)) (.agg #[]);rw [setM_add, show addB (takeB backs j) (k : Int) = takeB backs (j + 1) by rw [← HU.out]; exact takeB_succ hjt] at hM2;have hz2 := hc2.size;have hzd : wr.drew.heap.size = wr.heap.size := rfl;have hb2 : Below w.heap.size w W2 := (hbr.drew).trans (hc2.below _ hbr.size (fun k hk e => by omega));go_wp2;refine ⟨⟨j + 1, q + 1, by omega, by omega, by simp, Lib.hid (fun i hi => ?_), hb2, by omega, Lib.hid (hc2.own OF.out.drew (by omega)), Lib.hid (hc2.own OL.out.drew (by omega)), Lib.hid (hc2.own OC.out.drew (by omega)), Lib.hid hM2⟩, ?_⟩
      ·by_cases e : i = j
       ·subst e; rw [HU.out]; exact hgood
       ·exact hno.out i (by omega)
      ·go_light; first | omega | (simp only [intOf]; omega)
     ·have q1 : ((18 : Int) != 18) = false := by simp
      have q2 : (ya != a) = true := by simpa using e2
      have q3 : (ya == a) = false := by simpa using e2
      have hbad : badBack f a (k : Int) = true := by rw [HY.out]; simp [e2]
      have HG := Lib.hid (HF.out (by rw [HU.out]; exact hbad));clear HF;go_upto_region 8 with (fail)
      refine wp_still 17 (by kernel_rfl) (by kernel_rfl) ?_; simp only [List.take_succ_cons, List.take_zero, List.drop_succ_cons, List.drop_zero]; repeat (refine WS_step (fun K hK => ?_); go_simp; refine hK _ ?_; clear hK K)
      refine WS_nil ?_; go_wp2;go_ret2;go_light;exact ⟨ret_int2 (by rw [Prod.eta, HRES.out, HG.out]; dsimp only; rw [HU.out]), bel⟩
    ·have q1 : (yo != 18) = true := by simpa using e1
     have q2 : (yo == 18) = false := by simpa using e1
     have hbad : badBack f a (k : Int) = true := by rw [HY.out]; simp [e1]
     have HG := Lib.hid (HF.out (by rw [HU.out]; exact hbad));clear HF;go_upto_region 8 with (fail)
     refine wp_still 17 (by kernel_rfl) (by kernel_rfl) ?_; simp only [List.take_succ_cons, List.take_zero, List.drop_succ_cons, List.drop_zero]; repeat (refine WS_step (fun K hK => ?_); go_simp; refine hK _ ?_; clear hK K)
     refine WS_nil ?_; go_wp2;go_ret2;go_light;exact ⟨ret_int2 (by rw [Prod.eta, HRES.out, HG.out]; dsimp only; rw [HU.out]), bel⟩
   ·have hjj : j = backs.length := by omega
    subst hjj;have d2 : ¬ (backs.length : Int) < (backs.length : Int) := by omega
    have HG := Lib.hid (find_no hno.out);go_upto_region 13 with (fail)
    obtain ⟨W1, hW1⟩ : ∃ wo : World, wo = wr := ⟨_, rfl⟩
    rw [← hW1] at hbr hzr OF OL OC OM f5 l4 x5 ⊢;clear hW1;obtain ⟨-, hmm2, mb, mo, hmb, hmc⟩ := HM.out;have hmm' : members.length ≤ 9223372036854775807 := hmm2;have HMC := Lib.hid hmc; have HMB := Lib.hid hmb;have HRW := Lib.hid (HR.out.same (Same.of' hbr) HR.out.1 hbr.size);clear hmc hmb HBB HBC hno;go_wp2;go_loopw [10, 61] (fun o i wx => ∃ j : Nat, j ≤ members.length ∧ i = .int .i64 j ∧ o = .int .i64 (if (members.take j).any (fun u => decide (u = n)) then 74 else 0) ∧ Hid (∀ i, i < j → badDrive f a b backs (members.getD i 0) = false) ∧ Below W1.heap.size W1 wx) (fun o i _ => members.length - (intOf i).toNat)
    case atStart => exact ⟨0, Nat.zero_le _, rfl, by simp, Lib.hid (fun i hi => by omega), Below.refl _ _⟩
    case round =>
     rename_i wq;obtain ⟨j, hj, rfl, rfl, hno, hbx⟩ := hrel;have hzx := hbx.size;have f5 := own5 (OF.out.below hbx);have x5 := own5 (OC.out.below hbx);have l4 := own4 (OL.out.below hbx);by_cases hjt : j < members.length
     ·have d3 : (j : Int) < (members.length : Int) := by omega
      have hwj : IntKind.i64.wrap ((j : Int) + 1) = (j : Int) + 1 := IntWalk.i64_in _ (by omega);obtain ⟨rfl, hmB⟩ := HMB.out (by omega);have hbw : Below w.heap.size w wr := hbr.trans (hbx.mono (by omega));have c0 := (hbw.cell (p := ⟨mb, mo + j, none⟩) (by show mb < _; omega)).trans (HMC.out j hjt).1;obtain ⟨k, hku, hkl⟩ := HM1.out (members.getD j 0) (List.mem_of_getElem? (i := j) (by rw [List.getD_eq_getElem?_getD, List.getElem?_eq_getElem hjt]; rfl));have htk : members.take (j + 1) = members.take j ++ [(k : Int)] := by rw [← hku, List.take_add_one, List.getD_eq_getElem?_getD, List.getElem?_eq_getElem hjt]; rfl
      have HU := Lib.hid hku; have HTK := Lib.hid htk;rw [hku] at c0;have hk1 : (k : Int) < (f.code.length : Int) := by omega
      have hcaU : codeAt f (k : Int) = f.code.getD k default := by unfold codeAt; rw [Int.toNat_natCast]
      obtain ⟨⟨y0, y1, y2, y3, y4⟩, iy⟩ := HC.out k hkl;have HWr := Lib.hid (fun w hr => writes_any (f.code.getD k default) w hr);have HY := Lib.hid (show badDrive f a b backs (k : Int) = (decide (0 ≤ writesP (f.code.getD k default)) && ((decide (writesP (f.code.getD k default) = a) && !backs.contains (k : Int)) || decide (writesP (f.code.getD k default) = b))) by unfold badDrive; rw [hcaU]);have HF := Lib.hid (fun h => find_at (p := badDrive f a b backs) hjt hno.out h);clear hku hcaU iy htk;have e0 := (hbw.cell (p := ⟨cb, co + k * 5, none⟩) (by show cb < _; omega)).trans y0;have e1 := (hbw.cell (p := ⟨cb, co + k * 5 + 1, none⟩) (by show cb < _; omega)).trans y1;have e2 := (hbw.cell (p := ⟨cb, co + k * 5 + 2, none⟩) (by show cb < _; omega)).trans y2;have e3 := (hbw.cell (p := ⟨cb, co + k * 5 + 3, none⟩) (by show cb < _; omega)).trans y3;have e4 := (hbw.cell (p := ⟨cb, co + k * 5 + 4, none⟩) (by show cb < _; omega)).trans y4;clear y0 y1 y2 y3 y4;have HRX := Lib.hid (HRW.out.same (Same.of' hbx) HRW.out.1 hbx.size);have hwp : writesP (f.code.getD k default) = writesP (f.code.getD k default) := rfl;unfold InsVal at HWr;generalize hz : writesP (f.code.getD k default) = z at *;generalize f.code.getD k default = y at *;obtain ⟨yo, ya, yb, yc, yn⟩ := y;dsimp only at e0 e1 e2 e3 e4 HWr;clear hz hwp;go_upto_region 17 with (first | (go_at_call 49; refine (HWr.out _ HRX.out).mono ?_; rintro e w5 ⟨rfl, hb5⟩) | fail)
      clear HWr e0 e1 e2 e3 e4 c0 f5 l4;have hz5 := hb5.size;have hb15 : Below W1.heap.size W1 w5 := hbx.trans (hb5.mono (by omega));have hlk := (OM.out.below hb15).getOk Tryd.mapU zeroU (inI_nat (show k < 1024 by omega));rw [(setM_get _ _).1, (setM_get _ _).2, takeB_full] at hlk;have x5' := own5 (OC.out.below hb15);clear x5;generalize backs.contains (k : Int) = isB at *;have hAny : (members.take j).any (fun u => decide (u = n)) = (members.take j).any (fun u => decide (u = n)) := rfl;by_cases hbad : badDrive f a b backs (k : Int) = true
      ·have HG2 := Lib.hid (HF.out (by rw [HU.out]; exact hbad));rw [HY.out] at hbad;have HE := HRES.out;rw [HG.out] at HE;dsimp only at HE;rw [HG2.out, HU.out] at HE;dsimp only at HE;have HE2 := Lib.hid HE;clear HF HY hno hAny HE HG2;simp only [Bool.and_eq_true, Bool.or_eq_true, decide_eq_true_eq, Bool.not_eq_true'] at hbad;obtain ⟨hz0, hbad⟩ := hbad;have HBD := Lib.hid hbad;clear hbad;have qz : ¬ z < 0 := by omega
       by_cases ea : z = a
       ·subst ea;have qa : (z == z) = true := by simp
        by_cases eb : z = b
        ·subst eb;clear HBD;cases isB
         all_goals (
          go_wp2_with fail
          all_goals go_ret2
          all_goals go_light
          all_goals exact ⟨ret_int2 (by rw [Prod.eta, HE2.out]), bel⟩)
        ·have qb : (z == b) = false := by simpa using eb
         have hB : isB = false := (HBD.out.resolve_right eb).2;subst hB;clear HBD;go_wp2_with fail
         all_goals go_ret2
         all_goals go_light
         all_goals exact ⟨ret_int2 (by rw [Prod.eta, HE2.out]), bel⟩
       ·have qa : (z == a) = false := by simpa using ea
        have hb : z = b := HBD.out.resolve_left (fun h => ea h.1);subst hb;have qb : (z == z) = true := by simp
        clear HBD;cases isB
        all_goals (
         go_wp2_with fail
         all_goals go_ret2
         all_goals go_light
         all_goals exact ⟨ret_int2 (by rw [Prod.eta, HE2.out]), bel⟩)
      ·have hbf : badDrive f a b backs (k : Int) = false := by simpa using hbad
       have HBF := Lib.hid hbf;rw [HY.out] at hbf;have HBD := Lib.hid hbf;clear hbf hbad HF HY hAny;by_cases hz0 : 0 ≤ z
       ·have hd : decide (0 ≤ z) = true := by simpa using hz0
        have hbd := HBD.out;rw [hd] at hbd;simp only [Bool.true_and, Bool.or_eq_false_iff, Bool.and_eq_false_iff, decide_eq_false_iff_not, Bool.not_eq_false'] at hbd;have eb := hbd.2;have qb : (z == b) = false := by simpa using eb
        have qz : ¬ z < 0 := by omega
        clear HBD;by_cases ea : z = a
        ·have hB : isB = true := hbd.1.resolve_left (fun h => h ea);subst ea;subst hB;have qa : (z == z) = true := by simp
         clear hbd hd;go_upto_region 20 with (fail)
         by_cases e5 : (k : Int) = n
         ·have q5 : ((k : Int) == n) = true := by simpa using e5
          go_wp2;refine ⟨⟨j + 1, by omega, by simp, ?_, Lib.hid (fun i hi => ?_), hb15.alloc (by omega) _⟩, ?_⟩
          ·rw [HTK.out]; simp [e5]
          ·by_cases e : i = j
           ·subst e; rw [HU.out]; exact HBF.out
           ·exact hno.out i (by omega)
          ·go_light; first | omega | (simp only [intOf]; omega)
         ·have q5 : ((k : Int) == n) = false := by simpa using e5
          go_wp2;refine ⟨⟨j + 1, by omega, by simp, ?_, Lib.hid (fun i hi => ?_), hb15.alloc (by omega) _⟩, ?_⟩
          ·rw [HTK.out]; simp [e5]
          ·by_cases e : i = j
           ·subst e; rw [HU.out]; exact HBF.out
           ·exact hno.out i (by omega)
          ·go_light; first | omega | (simp only [intOf]; omega)
        ·have qa : (z == a) = false := by simpa using ea
         clear hbd hd;go_upto_region 20 with (fail)
         by_cases e5 : (k : Int) = n
         ·have q5 : ((k : Int) == n) = true := by simpa using e5
          go_wp2;refine ⟨⟨j + 1, by omega, by simp, ?_, Lib.hid (fun i hi => ?_), hb15.alloc (by omega) _⟩, ?_⟩
          ·rw [HTK.out]; simp [e5]
          ·by_cases e : i = j
           ·subst e; rw [HU.out]; exact HBF.out
           ·exact hno.out i (by omega)
          ·go_light; first | omega | (simp only [intOf]; omega)
         ·have q5 : ((k : Int) == n) = false := by simpa using e5
          go_wp2;refine ⟨⟨j + 1, by omega, by simp, ?_, Lib.hid (fun i hi => ?_), hb15.alloc (by omega) _⟩, ?_⟩
          ·rw [HTK.out]; simp [e5]
          ·by_cases e : i = j
           ·subst e; rw [HU.out]; exact HBF.out
           ·exact hno.out i (by omega)
          ·go_light; first | omega | (simp only [intOf]; omega)
       ·have qz : z < 0 := by omega
        clear HBD;by_cases ea : z = a
        ·subst ea;have qa : (z == z) = true := by simp
         by_cases eb : z = b
         ·subst eb;go_upto_region 20 with (fail)
          by_cases e5 : (k : Int) = n
          ·have q5 : ((k : Int) == n) = true := by simpa using e5
           go_wp2;refine ⟨⟨j + 1, by omega, by simp, ?_, Lib.hid (fun i hi => ?_), hb15.alloc (by omega) _⟩, ?_⟩
           ·rw [HTK.out]; simp [e5]
           ·by_cases e : i = j
            ·subst e; rw [HU.out]; exact HBF.out
            ·exact hno.out i (by omega)
           ·go_light; first | omega | (simp only [intOf]; omega)
          ·have q5 : ((k : Int) == n) = false := by simpa using e5
           go_wp2;refine ⟨⟨j + 1, by omega, by simp, ?_, Lib.hid (fun i hi => ?_), hb15.alloc (by omega) _⟩, ?_⟩
           ·rw [HTK.out]; simp [e5]
           ·by_cases e : i = j
            ·subst e; rw [HU.out]; exact HBF.out
            ·exact hno.out i (by omega)
           ·go_light; first | omega | (simp only [intOf]; omega)
         ·have qb : (z == b) = false := by simpa using eb
          go_upto_region 20 with (fail)
          by_cases e5 : (k : Int) = n
          ·have q5 : ((k : Int) == n) = true := by simpa using e5
           go_wp2;refine ⟨⟨j + 1, by omega, by simp, ?_, Lib.hid (fun i hi => ?_), hb15.alloc (by omega) _⟩, ?_⟩
           ·rw [HTK.out]; simp [e5]
           ·by_cases e : i = j
            ·subst e; rw [HU.out]; exact HBF.out
            ·exact hno.out i (by omega)
           ·go_light; first | omega | (simp only [intOf]; omega)
          ·have q5 : ((k : Int) == n) = false := by simpa using e5
           go_wp2;refine ⟨⟨j + 1, by omega, by simp, ?_, Lib.hid (fun i hi => ?_), hb15.alloc (by omega) _⟩, ?_⟩
           ·rw [HTK.out]; simp [e5]
           ·by_cases e : i = j
            ·subst e; rw [HU.out]; exact HBF.out
            ·exact hno.out i (by omega)
           ·go_light; first | omega | (simp only [intOf]; omega)
        ·have qa : (z == a) = false := by simpa using ea
         by_cases eb : z = b
         ·subst eb;have qb : (z == z) = true := by simp
          go_upto_region 20 with (fail)
          by_cases e5 : (k : Int) = n
          ·have q5 : ((k : Int) == n) = true := by simpa using e5
           go_wp2;refine ⟨⟨j + 1, by omega, by simp, ?_, Lib.hid (fun i hi => ?_), hb15.alloc (by omega) _⟩, ?_⟩
           ·rw [HTK.out]; simp [e5]
           ·by_cases e : i = j
            ·subst e; rw [HU.out]; exact HBF.out
            ·exact hno.out i (by omega)
           ·go_light; first | omega | (simp only [intOf]; omega)
          ·have q5 : ((k : Int) == n) = false := by simpa using e5
           go_wp2;refine ⟨⟨j + 1, by omega, by simp, ?_, Lib.hid (fun i hi => ?_), hb15.alloc (by omega) _⟩, ?_⟩
           ·rw [HTK.out]; simp [e5]
           ·by_cases e : i = j
            ·subst e; rw [HU.out]; exact HBF.out
            ·exact hno.out i (by omega)
           ·go_light; first | omega | (simp only [intOf]; omega)
         ·have qb : (z == b) = false := by simpa using eb
          go_upto_region 20 with (fail)
          by_cases e5 : (k : Int) = n
          ·have q5 : ((k : Int) == n) = true := by simpa using e5
           go_wp2;refine ⟨⟨j + 1, by omega, by simp, ?_, Lib.hid (fun i hi => ?_), hb15.alloc (by omega) _⟩, ?_⟩
           ·rw [HTK.out]; simp [e5]
           ·by_cases e : i = j
            ·subst e; rw [HU.out]; exact HBF.out
            ·exact hno.out i (by omega)
           ·go_light; first | omega | (simp only [intOf]; omega)
          ·have q5 : ((k : Int) == n) = false := by simpa using e5
           go_wp2;refine ⟨⟨j + 1, by omega, by simp, ?_, Lib.hid (fun i hi => ?_), hb15.alloc (by omega) _⟩, ?_⟩
           ·rw [HTK.out]; simp [e5]
           ·by_cases e : i = j
            ·subst e; rw [HU.out]; exact HBF.out
            ·exact hno.out i (by omega)
           ·go_light; first | omega | (simp only [intOf]; omega)
     ·have hjj : j = members.length := by omega
      subst hjj;have d3 : ¬ (members.length : Int) < (members.length : Int) := by omega
      have HG2 := Lib.hid (find_no hno.out);rw [List.take_length];have HE := HRES.out;rw [HG.out] at HE;dsimp only at HE;rw [HG2.out] at HE;dsimp only at HE;have HE2 := Lib.hid HE;clear HE;generalize members.any (fun u => decide (u = n)) = bad at *;cases bad
      ·go_wp2;go_ret2;go_light;exact ⟨ret_int2 (by rw [Prod.eta, HE2.out]; rfl), bel⟩
      ·go_upto_region 24 with (fail)
       refine wp_still 4 (by kernel_rfl) (by kernel_rfl) ?_; simp only [List.take_succ_cons, List.take_zero, List.drop_succ_cons, List.drop_zero]; repeat (refine WS_step (fun K hK => ?_); go_simp; refine hK _ ?_; clear hK K)
       refine WS_nil ?_; go_wp2;go_ret2;go_light;exact ⟨ret_int2 (by rw [Prod.eta, HE2.out]; rfl), bel⟩
 ·have q1 : (op != 17) = true := by simpa using hop
  have q2 : (op == 17) = false := by simpa using hop
  rw [if_pos hop];go_enter Tryd.func27, Tryd.ntmps27;go_upto_region 3 with (fail)
  refine wp_still 3 (by kernel_rfl) (by kernel_rfl) ?_; simp only [List.take_succ_cons, List.take_zero, List.drop_succ_cons, List.drop_zero]; repeat (refine WS_step (fun K hK => ?_); go_simp; refine hK _ ?_; clear hK K)
  refine WS_nil ?_; go_wp2;go_ret2;go_light;exact ⟨rfl, bel⟩
theorem join_is (a b : PSpan) (w : World) : Calls Tryd.prog 10 #[.agg #[.int .i64 a.lo, .int .i64 a.hi], .agg #[.int .i64 b.lo, .int .i64 b.hi]] w fun e w' => e = .returned (.agg #[.int .i64 (joinP a b).lo, .int .i64 (joinP a b).hi]) ∧ Below w.heap.size w w' := sjoin_any a b w
theorem widen_is (a b : PSpan) (thr : List Int) (ta : Option Addr) (tl tc : Nat) (w : World) (ha : a.lo ≤ a.hi) (hb : b.lo ≤ b.hi) (ht : NumsAt w.heap.size w ta tl thr) : Calls Tryd.prog 45 #[.agg #[.int .i64 a.lo, .int .i64 a.hi], .agg #[.int .i64 b.lo, .int .i64 b.hi], .slice ta tl tc] w fun e w' => e = .returned (.agg #[.int .i64 (widenP a b thr).lo, .int .i64 (widenP a b thr).hi]) ∧ Below w.heap.size w w' := swiden_any a b thr ta tl tc w ha hb ht
theorem NumsAt.monoB {B B' : Nat} {w : World} {a : Option Addr} {n : Nat} {zs : List Int} (h : NumsAt B w a n zs) (hB : B ≤ B') : NumsAt B' w a n zs := by
 obtain ⟨h1, h2, b, o, h3, h4⟩ := h;exact ⟨h1, h2, b, o, fun h0 => ⟨(h3 h0).1, by have := (h3 h0).2; omega⟩, h4⟩
/-- what merge leaves -/
def MergePost (N : Nat) (A : BAd) (n regs b : Nat) (s' : PBS) (w : World) (e : Ending) (w' : World) : Prop := e = .returned (.tuple #[]) ∧ ∃ iv tg, BAt N w' { A with iv := iv, tg := tg } n regs s' ∧ Chg (fun x => A.tg x ≠ 0) w w' ∧ ∀ x, x ≠ b → tg x = A.tg x
theorem merge_any (N : Nat) (A : BAd) (n regs : Nat) (s : PBS) (thr : List Int) (ta : Option Addr) (tl tc tt b c : Nat) (next : List PSpan) (w : World) (h : BAt N w A n regs s) (hr : SpRow w b regs c next) (htt : tt < n) (hb : A.tg b = 0) (hN : N ≤ b) (hNw : N ≤ w.heap.size) (ht : NumsAt N w ta tl thr) (hok : SOk n regs s) (hnx : LOk regs next) (hg0 : 0 < regs) (hg : regs ≤ 64) (hn : n ≤ 1024) :
 Calls Tryd.prog 22 #[.pointer (some ⟨A.k, 0, none⟩), .int .i64 tt, .slice (some ⟨b, 0, none⟩) regs c, .slice ta tl tc] w (MergePost N A n regs b (mergeP thr s tt next) w) := by
 have hnil : ∀ (w : World) (a : Option Addr) (n c : Nat), (binOp .eql 40 (.slice a n c) (.slice none 0 0)).run Tryd.prog w = .ok (.bool a.isNone) w := fun w a n c => Lib.run_eql_slice_nil w _ 53 a n c 0 0 (by kernel_rfl);have H := Lib.hid h; have HR := Lib.hid hr;obtain ⟨s0, s1, s2, s3, s4, s5, s6, s7, s8⟩ := own4 h.st;obtain ⟨r0, r1, r2, r3⟩ := h.rd htt;obtain ⟨z0, z1, z2⟩ := h.fz tt;have htn : (tt : Int) < (n : Int) := by omega
 have hne1 : A.mb ≠ A.ib := fun e => by have h1 := h.tm; rw [e, h.ti] at h1; omega
 have hne2 : A.mb ≠ A.k := fun e => by have h1 := h.tm; rw [e, h.tk] at h1; omega
 have hne3 : A.ib ≠ A.k := fun e => by have h1 := h.ti; rw [e, h.tk] at h1; omega
 rcases h.ei tt htt with ⟨i1, i2⟩ | ⟨ob, oc, i1, i2, i3⟩
 ·have hm : mergeP thr s tt next = { s with inn := s.inn.set tt next, mrk := s.mrk.set tt true } := by unfold mergeP; rw [if_pos i2]
  rw [hm];rw [i1] at r0;unfold ivVal at r0;dsimp only at r0;go_enter Tryd.func22, Tryd.ntmps22;go_upto_region 2 with (fail)
  go_region
  all_goals go_wp2
  go_end0
  go_light;have h9 := ((h.below ((Below.refl _ w).drew)).setI htt (hr.below ((Below.refl _ w).drew)) hb hN).setM tt true;refine ⟨rfl, _, _, h9, ?_, fun x hx => updF_ne _ _ hx⟩;refine Chg.setCell (Chg.setCell (Chg.refl _ _).drew (.inl ?_) _) (.inl ?_) _
  ·show A.tg A.ib ≠ 0;rw [h.ti]; decide
  ·show A.tg A.mb ≠ 0;rw [h.tm]; decide
 ·have hol : (s.inn.getD tt []).length = regs := i2.len;have hne : s.inn.getD tt [] ≠ [] := fun e => by rw [e] at hol; simp at hol; omega
  have hOk : LOk regs (s.inn.getD tt []) := by
   rcases hok.inn tt htt with h0 | h0
   ·exact absurd h0 hne
   ·exact h0
  have hcl : (s.chg.getD tt []).length = regs := hok.chg tt htt;have hm : mergeP thr s tt next = if someTo (s.inn.getD tt []) next regs then { inn := s.inn.set tt (innTo thr (jnNext s tt) (s.inn.getD tt []) next regs), chg := s.chg.set tt (chgTo (s.inn.getD tt []) next (s.chg.getD tt []) regs), mrk := s.mrk.set tt true, jn := s.jn.set tt (jnNext s tt) } else s := by
   unfold mergeP;rw [if_neg hne];have e1 : someB (s.inn.getD tt []) next = someTo (s.inn.getD tt []) next regs := by rw [← hol]; rfl
   have e2 : innTo thr (jnNext s tt) (s.inn.getD tt []) next regs = innNext thr (jnNext s tt) (s.inn.getD tt []) next := by rw [← hol]; exact innTo_end _ _ _ _
   have e3 : chgTo (s.inn.getD tt []) next (s.chg.getD tt []) regs = chgNext (s.inn.getD tt []) next (s.chg.getD tt []) := by rw [← hol]; rfl
   rw [e1, e2, e3]
  obtain ⟨RES, hRES⟩ : ∃ q, q = mergeP thr s tt next := ⟨_, rfl⟩
  rw [← hRES];have HRES := Lib.hid (hRES.trans hm);clear hRES hm;rw [i1] at r0;unfold ivVal at r0;dsimp only at r0;have hs0 : { s with chg := s.chg.set tt (chgTo (s.inn.getD tt []) next (s.chg.getD tt []) 0) } = s := by
   rw [chgTo_zero, set_getD]
  have H0 : Hid (BAt N w A n regs { s with chg := s.chg.set tt (chgTo (s.inn.getD tt []) next (s.chg.getD tt []) 0) }) := Lib.hid (by rw [hs0]; exact h);have HOL := Lib.hid hOk; have HNX := Lib.hid hnx; have HT := Lib.hid ht;have HIV := Lib.hid i1;have htgo := i3;clear h hr hs0 hnx ht hok i2 hOk;generalize hold : s.inn.getD tt [] = old at *;generalize hch : s.chg.getD tt [] = ch at *;go_enter Tryd.func22, Tryd.ntmps22;go_wp2;go_loopw [9, 38] (fun v9 i wr => ∃ j : Nat, j ≤ regs ∧ i = .int .i64 j ∧ v9 = .bool (someTo old next j) ∧ Hid (BAt N wr A n regs { s with chg := s.chg.set tt (chgTo old next ch j) }) ∧ Hid (SpRow wr b regs c next) ∧ Chg (fun x => A.tg x ≠ 0) w wr) (fun _ i _ => regs - (intOf i).toNat)
  case atStart => exact ⟨0, Nat.zero_le _, rfl, rfl, H0, HR, Chg.refl _ _⟩
  case round =>
   clear H0 H HR s0 s1 s2 s3 s4 s5 s6 s7 s8 r0 r1 r2 r3 z0 z1 z2;obtain ⟨j, hj, rfl, rfl, H, HR, hC⟩ := hrel;have hzr := hC.size;obtain ⟨s0, s1, s2, s3, s4, s5, s6, s7, s8⟩ := own4 H.out.st;obtain ⟨r0, r1, r2, r3⟩ := H.out.rd htt;unfold cvVal at r1;by_cases hjt : j < regs
   ·have d3 : (j : Int) < (regs : Int) := by omega
    have hwj : IntKind.i64.wrap ((j : Int) + 1) = (j : Int) + 1 := IntWalk.i64_in _ (by omega);obtain ⟨oR, -⟩ := H.out.rdS htt HIV.out;dsimp only at oR;rw [hold] at oR;obtain ⟨o0, o1, -, -⟩ := oR.cells hjt;obtain ⟨n0, n1, -, -⟩ := HR.out.cells hjt;obtain ⟨c0, c1⟩ := H.out.rdC htt hjt;have hce : (({ s with chg := s.chg.set tt (chgTo old next ch j) } : PBS).chg.getD tt []).getD j 0 = ch.getD j 0 := by
     dsimp only;rw [getD_set _ _ _ _ _ (by have := H.out.lc; dsimp only at this; rw [List.length_set] at this; omega), if_pos rfl];exact chgTo_at old next ch (by omega)
    rw [hce] at c0;have hcvb : (A.cv tt).1 ≠ b := fun e => by have := (H.out.ec tt htt).2; rw [e, hb] at this; omega
    have hcvt : A.tg (A.cv tt).1 ≠ 0 := by rw [(H.out.ec tt htt).2]; omega
    have hoL := oR.lt; have hnL := HR.out.lt;have hcbL := row_ltB H.out.rc;have hcvL : (A.cv tt).1 < wr.heap.size := row_lt (H.out.ec tt htt).1 rfl;have HJ := Lib.hid (fun w => join_is (old.getD j default) (next.getD j default) w);have hgr : growB (old.getD j default) (next.getD j default) = !(decide ((joinP (old.getD j default) (next.getD j default)).lo = (old.getD j default).lo) && decide ((joinP (old.getD j default) (next.getD j default)).hi = (old.getD j default).hi)) := rfl;have hcy := Lib.hid (fun h => chgTo_yes old next ch (j := j) (by omega) h);have hcn := Lib.hid (fun h => chgTo_no old next ch (j := j) h);have hsm := someTo_succ old next j
    obtain ⟨cj, hcj⟩ : ∃ x, ch.getD j 0 = x := ⟨_, rfl⟩
    rw [hcj] at c0 hcy;clear hcj;have HC := Lib.hid hC;clear oR hce;generalize joinP (old.getD j default) (next.getD j default) = jo at *;generalize growB (old.getD j default) (next.getD j default) = gr at *;obtain ⟨jlo, jhi⟩ := jo;generalize old.getD j default = po at *;generalize next.getD j default = pn at *;obtain ⟨olo, ohi⟩ := po;obtain ⟨nlo, nhi⟩ := pn;dsimp only at o0 o1 n0 n1 HJ hgr;cases gr
    case false =>
     have hgr2 : jlo = olo ∧ jhi = ohi := by simpa using hgr.symm
     obtain ⟨rfl, rfl⟩ := hgr2;have hcn2 := hcn.out rfl;rw [Bool.or_false] at hsm;have HCN := Lib.hid hcn2; have HSM := Lib.hid hsm;clear hcn hcy hgr hcn2 hsm;go_upto_region 7 with (fail)
     refine wp_below_tail 13 (by kernel_rfl) (by kernel_rfl) (fun T F hF hall => ?_); simp only [List.take_succ_cons, List.take_zero, List.drop_succ_cons, List.drop_zero]; have hFc := fun t => (bcell (hF t)).1; have hFf := fun t => (bcell (hF t)).2; have hFs := fun t => (hF t).size; have hNE : Nonempty T := (hall _ (Below.refl _ _)).elim fun t _ => ⟨t⟩; repeat (refine WQ_step (fun K hK => ?_); go_simp; refine hK _ ?_; clear hK K)
     (refine WQ_step (fun K hK => ?_); go_simp; refine ⟨_, fun t => calls_family (hF t) hall (HJ.out (F t)), hK _ ?_⟩; clear hK K)
     repeat (refine WQ_step (fun K hK => ?_); go_simp; refine hK _ ?_; clear hK K)
     refine WQ_nil (fun t => ?_);have hft := hF t;go_wp2;refine ⟨⟨j + 1, by omega, by simp, by rw [HSM.out], Lib.hid (by rw [HCN.out]; exact H.out.below hft), Lib.hid (HR.out.below hft), HC.out.trans (Chg.of hft)⟩, ?_⟩;go_light; first | omega | (simp only [intOf]; omega)
    case true =>
     have hgr2 : ¬ (jlo = olo ∧ jhi = ohi) := fun ⟨e1, e2⟩ => by subst e1; subst e2; simp at hgr
     have hcy2 := hcy.out rfl;rw [Bool.or_true] at hsm;have HCN := Lib.hid hcy2; have HSM := Lib.hid hsm;clear hcn hcy hgr hcy2 hsm;go_upto_region 7 with (fail)
     refine wp_below_tail 13 (by kernel_rfl) (by kernel_rfl) (fun T F hF hall => ?_); simp only [List.take_succ_cons, List.take_zero, List.drop_succ_cons, List.drop_zero]; have hFc := fun t => (bcell (hF t)).1; have hFf := fun t => (bcell (hF t)).2; have hFs := fun t => (hF t).size; have hNE : Nonempty T := (hall _ (Below.refl _ _)).elim fun t _ => ⟨t⟩; repeat (refine WQ_step (fun K hK => ?_); go_simp; refine hK _ ?_; clear hK K)
     (refine WQ_step (fun K hK => ?_); go_simp; refine ⟨_, fun t => calls_family (hF t) hall (HJ.out (F t)), hK _ ?_⟩; clear hK K)
     repeat (refine WQ_step (fun K hK => ?_); go_simp; refine hK _ ?_; clear hK K)
     refine WQ_nil (fun t => ?_);have hft := hF t;go_wp2
     all_goals refine ⟨⟨j + 1, by omega, by simp, by rw [HSM.out], Lib.hid (by rw [HCN.out]; exact (H.out.below hft).setC2 htt j _), Lib.hid ((HR.out.below hft).chg (chgSet _ _ _ _) (fun e => hcvb e.symm)), (HC.out.trans (Chg.of hft)).trans (Chg.setCell (Chg.refl _ _) (.inl hcvt) _)⟩, ?_⟩
     all_goals go_light
     all_goals first | omega | (simp only [intOf]; omega)
   ·have hjj : j = regs := by omega
    subst hjj;have d3 : ¬ (j : Int) < (j : Int) := by omega
    cases hsr : someTo old next j
    ·have hres : RES = s := by rw [HRES.out, hsr]; rfl
     have hce := chgTo_none old next ch j hsr
     have hs1 : ({ s with chg := s.chg.set tt (chgTo old next ch j) } : PBS) = s := by
      rw [hce, ← hch, set_getD]
     have HS1 := Lib.hid hs1; have HRE := Lib.hid hres;clear hs1 hres hce;go_wp2
     go_end0
     go_light;refine ⟨rfl, A.iv, A.tg, ?_, hC, fun x _ => rfl⟩;rw [HRE.out];have h9 := H.out;rw [HS1.out] at h9;exact h9
    ·have hjbt : A.tg A.jb ≠ 0 := by rw [H.out.tj]; decide
     have hjbb : A.jb ≠ b := fun e => by have := H.out.tj; rw [e, hb] at this; omega
     have hjL := row_ltB H.out.rj;obtain ⟨jv0, hjv0⟩ : ∃ x, s.jn.getD tt 0 = x := ⟨_, rfl⟩
     have hjv : jnNext s tt = wrap64 (jv0 + 1) := by unfold jnNext; rw [hjv0]
     dsimp only at r3;rw [hjv0] at r3;obtain ⟨jv, hjw⟩ : ∃ x, wrap64 (jv0 + 1) = x := ⟨_, rfl⟩
     have hjw' : IntKind.i64.wrap (jv0 + 1) = jv := by rw [← wrap64_eq]; exact hjw
     have hlj := H.out.lj;dsimp only at hlj;have h2 := H.out.setJ tt jv;obtain ⟨q2, hs2⟩ : ∃ q : PBS, q = ⟨s.inn, s.chg.set tt (chgTo old next ch j), s.mrk, s.jn.set tt jv⟩ := ⟨_, rfl⟩
     have h2' : BAt N (wr.setCell ⟨A.jb, tt, none⟩ (.int .i64 jv)) A n j q2 := by rw [hs2]; exact h2
     have hs2i : q2.inn = s.inn := by rw [hs2]
     have hs2j : q2.jn.getD tt 0 = jv := by rw [hs2]; dsimp only; rw [getD_set _ _ _ _ _ (by omega), if_pos rfl]
     have hs20 : ({ q2 with inn := q2.inn.set tt (innTo thr jv old next 0) } : PBS) = q2 := by
      rw [innTo_zero, hs2i, ← hold, set_getD, ← hs2i]
     have hres : RES = ⟨q2.inn.set tt (innTo thr jv old next j), q2.chg, q2.mrk.set tt true, q2.jn⟩ := by
      rw [HRES.out, hsr, if_pos rfl, hjv, hjw, hs2]
     have HRE := Lib.hid hres;have H2 : Hid (BAt N (wr.setCell ⟨A.jb, tt, none⟩ (.int .i64 jv)) A n j { q2 with inn := q2.inn.set tt (innTo thr jv old next 0) }) := Lib.hid (by rw [hs20]; exact h2');have HR2 := Lib.hid (HR.out.chg (chgSet wr A.jb tt (.int .i64 jv)) (fun e => hjbb e.symm));have hC2 : Chg (fun x => A.tg x ≠ 0) w (wr.setCell ⟨A.jb, tt, none⟩ (.int .i64 jv)) := hC.trans (Chg.setCell (Chg.refl _ _) (.inl hjbt) _);have HSJ := Lib.hid hs2j; have HSI := Lib.hid hs2i;clear h2 h2' hs20 hres HRES hs2 hs2i hs2j hjv hjw hjv0 hlj;obtain ⟨wA, hwA⟩ : ∃ wA : World, wA = wr := ⟨_, rfl⟩
     subst hwA;obtain ⟨-, -, z2⟩ := H.out.fz tt;go_wp2;go_loopw [82] (fun i wr => ∃ k : Nat, k ≤ j ∧ i = .int .i64 k ∧ Hid (BAt N wr A n j { q2 with inn := q2.inn.set tt (innTo thr jv old next k) }) ∧ Hid (SpRow wr b j c next) ∧ Chg (fun x => A.tg x ≠ 0) w wr) (fun i _ => j - (intOf i).toNat)
     case atStart => exact ⟨0, Nat.zero_le _, rfl, H2, HR2, hC2⟩
     case round =>
      clear H2 H HR HR2 hC hC2 s0 s1 s2 s3 s4 s5 s6 s7 s8 r0 r1 r2 r3 z2 hjL hzr;obtain ⟨k, hk, rfl, H, HR, hC⟩ := hrel;have hzr := hC.size;obtain ⟨s0, s1, s2, s3, s4, s5, s6, s7, s8⟩ := own4 H.out.st;obtain ⟨r0, r1, r2, r3⟩ := H.out.rd htt;obtain ⟨-, z1, z2⟩ := H.out.fz tt;dsimp only at r3;rw [HSJ.out] at r3;by_cases hkt : k < j
      ·have d3 : (k : Int) < (j : Int) := by omega
       have hwj : IntKind.i64.wrap ((k : Int) + 1) = (k : Int) + 1 := IntWalk.i64_in _ (by omega);obtain ⟨oR, hto⟩ := H.out.rdS htt HIV.out;dsimp only at oR;have hli := H.out.li;dsimp only at hli;rw [List.length_set] at hli;rw [getD_set _ _ _ _ _ (by omega), if_pos rfl] at oR;obtain ⟨o0, o1, o2, o3⟩ := oR.cells hkt;rw [innTo_at thr jv old next (by omega)] at o0 o1;obtain ⟨n0, n1, -, -⟩ := HR.out.cells hkt;have hos : A.tg ob ≠ 0 := by rw [hto]; omega
       have hobb : ob ≠ b := fun e => by rw [e, hb] at hto; omega
       have hoL := oR.lt; have hnL := HR.out.lt;have hst := innTo_step thr jv old next (j := k) (by omega)
       have hpo := HOL.out.2 k hkt; have hpn := HNX.out.2 k hkt;have HC := Lib.hid hC;have HJ := Lib.hid (fun w => join_is (old.getD k default) (next.getD k default) w);have HWd := Lib.hid (fun w h => widen_is (old.getD k default) (next.getD k default) thr ta tl tc w hpo.2.2 hpn.2.2 h);have HTw := Lib.hid (fun w' (hw : Below wr.heap.size wr w') => (HT.out.same (hC.same (B := N) hNw (fun x hx e => absurd (H.out.lo x e) (by omega)))).same (Same.of' (hw.mono (by omega))));unfold mergeOne at hst;clear oR hli hpo hpn;by_cases h4 : 4 < jv
       ·rw [if_pos h4] at hst;have HST := Lib.hid hst;clear hst HJ;generalize widenP (old.getD k default) (next.getD k default) thr = jo at *;obtain ⟨jlo, jhi⟩ := jo;generalize old.getD k default = po at *;generalize next.getD k default = pn at *;obtain ⟨olo, ohi⟩ := po;obtain ⟨nlo, nhi⟩ := pn;dsimp only at o0 o1 n0 n1 HWd;have hup : ∀ w', Below wr.heap.size wr w' → NumsAt w'.heap.size w' ta tl thr := fun w' hw => (HTw.out w' hw).monoB (by have := hw.size; omega);have HUP := Lib.hid hup;clear hup;go_upto_region 17 with (fail)
        refine wp_below_tail 12 (by kernel_rfl) (by kernel_rfl) (fun T F hF hall => ?_); simp only [List.take_succ_cons, List.take_zero, List.drop_succ_cons, List.drop_zero]; have hFc := fun t => (bcell (hF t)).1; have hFf := fun t => (bcell (hF t)).2; have hFs := fun t => (hF t).size; have hNE : Nonempty T := (hall _ (Below.refl _ _)).elim fun t _ => ⟨t⟩; repeat (refine WQ_step (fun K hK => ?_); go_simp; refine hK _ ?_; clear hK K)
        (refine WQ_step (fun K hK => ?_); go_simp; refine ⟨_, fun t => calls_family (hF t) hall (HWd.out (F t) (HUP.out _ (hF t))), hK _ ?_⟩; clear hK K)
        repeat (refine WQ_step (fun K hK => ?_); go_simp; refine hK _ ?_; clear hK K)
        refine WQ_nil (fun t => ?_);have hft := hF t;go_wp2;refine ⟨⟨k + 1, by omega, by simp, Lib.hid (by rw [HST.out]; exact (H.out.below hft).setS2 htt HIV.out hkt ⟨jlo, jhi⟩), Lib.hid ((HR.out.below hft).chg (chg2 _ _ _ _ _ _) (fun e => hobb e.symm)), (HC.out.trans (Chg.of hft)).trans (Chg.setCell (Chg.setCell (Chg.refl _ _) (.inl hos) _) (.inl hos) _)⟩, ?_⟩;go_light; first | omega | (simp only [intOf]; omega)
       ·rw [if_neg h4] at hst;have HST := Lib.hid hst;clear hst HWd HTw;generalize joinP (old.getD k default) (next.getD k default) = jo at *;obtain ⟨jlo, jhi⟩ := jo;generalize old.getD k default = po at *;generalize next.getD k default = pn at *;obtain ⟨olo, ohi⟩ := po;obtain ⟨nlo, nhi⟩ := pn;dsimp only at o0 o1 n0 n1 HJ;go_upto_region 18 with (fail)
        refine wp_below_tail 11 (by kernel_rfl) (by kernel_rfl) (fun T F hF hall => ?_); simp only [List.take_succ_cons, List.take_zero, List.drop_succ_cons, List.drop_zero]; have hFc := fun t => (bcell (hF t)).1; have hFf := fun t => (bcell (hF t)).2; have hFs := fun t => (hF t).size; have hNE : Nonempty T := (hall _ (Below.refl _ _)).elim fun t _ => ⟨t⟩; repeat (refine WQ_step (fun K hK => ?_); go_simp; refine hK _ ?_; clear hK K)
        (refine WQ_step (fun K hK => ?_); go_simp; refine ⟨_, fun t => calls_family (hF t) hall (HJ.out (F t)), hK _ ?_⟩; clear hK K)
        repeat (refine WQ_step (fun K hK => ?_); go_simp; refine hK _ ?_; clear hK K)
        refine WQ_nil (fun t => ?_);have hft := hF t;go_wp2;refine ⟨⟨k + 1, by omega, by simp, Lib.hid (by rw [HST.out]; exact (H.out.below hft).setS2 htt HIV.out hkt ⟨jlo, jhi⟩), Lib.hid ((HR.out.below hft).chg (chg2 _ _ _ _ _ _) (fun e => hobb e.symm)), (HC.out.trans (Chg.of hft)).trans (Chg.setCell (Chg.setCell (Chg.refl _ _) (.inl hos) _) (.inl hos) _)⟩, ?_⟩;go_light; first | omega | (simp only [intOf]; omega)
      ·have hkj : k = j := by omega
       subst hkj;have d4 : ¬ (k : Int) < (k : Int) := by omega
       have hmt : A.tg A.mb ≠ 0 := by rw [H.out.tm]; decide
       go_wp2
       go_end0
       go_light;refine ⟨rfl, A.iv, A.tg, ?_, hC.trans (Chg.setCell (Chg.refl _ _) (.inl hmt) _), fun x _ => rfl⟩;rw [HRE.out];exact H.out.setM tt true
end Go.Proofs.YteebpnbdihcfmaaDoor
