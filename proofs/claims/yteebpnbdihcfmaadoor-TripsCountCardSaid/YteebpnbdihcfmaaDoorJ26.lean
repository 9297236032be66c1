/- Package bounds: away at operation 19. Package bounds: away, whatever the operation. Package bounds: marks stand where spans do; a pass over all instructions comes nearer to the end. append([]T{}, xs...): a copy in memory of its own, xs nil or not. Package slices: Clone, Clip, Contains, Index; append of zeros. Package bounds: the rounds: all instructions are handed out, again and again, until no mark is left. Package bounds: rounds hands back a function; where it stands in a range, the law of its rounds. Slices of spans: what is cloned, clipped and filled up with zeros. -/
import Derived.Test.YteebpnbdihcfmaaDoorJ14
import Derived.Test.YteebpnbdihcfmaaDoorJ12
import Derived.Test.YteebpnbdihcfmaaDoorJ15
import Derived.Test.YteebpnbdihcfmaaDoorJ16
import Derived.Test.YteebpnbdihcfmaaDoorJ17
import Derived.Test.YteebpnbdihcfmaaDoorJ18
import Derived.Test.YteebpnbdihcfmaaDoorJ19
import Derived.Test.YteebpnbdihcfmaaDoorJ20
import Derived.Test.YteebpnbdihcfmaaDoorJ21
import Derived.Test.YteebpnbdihcfmaaDoorJ22
import Derived.Test.YteebpnbdihcfmaaDoorJ23
import Derived.Test.YteebpnbdihcfmaaDoorJ24
import Derived.Test.YteebpnbdihcfmaaDoorJ25
import Derived.Test.YteebpnbdihcfmaaDoorJ06
import Derived.Test.YteebpnbdihcfmaaDoorJ02
import Derived.Deep.AppendSrc
import Derived.Test.YteebpnbdihcfmaaDoorJ10
import Derived.Lib.AppendZerosOnto
import Derived.Lib.SliceRun
import Derived.Test.YteebpnbdihcfmaaDoorJ07
import Derived.Test.YteebpnbdihcfmaaDoorJ11
import Derived.Test.YteebpnbdihcfmaaDoorJ08
set_option linter.unusedVariables false
set_option linter.unusedSimpArgs false
set_option maxRecDepth 100000
set_option maxHeartbeats 20000000
namespace Go.Proofs.YteebpnbdihcfmaaDoor
open Go.RowKit
theorem meetsTo_succ {r : List PSpan} {b : Nat} {ps : List PSpan} {k : Nat} {q : List PSpan} (h : meetsTo r b ps k = some q) : meetsTo r b ps (k + 1) = if (meetR q (b + k) (ps.getD k default)).2 then some (meetR q (b + k) (ps.getD k default)).1 else none := by
 show (meetsTo r b ps k).bind _ = _;rw [h]; rfl
theorem meetsTo_none {r : List PSpan} {b : Nat} {ps : List PSpan} {k : Nat} (h : meetsTo r b ps k = none) : ∀ j, k ≤ j → meetsTo r b ps j = none
 | 0, hj => by have : k = 0 := by omega
               subst this; exact h
 | j + 1, hj => by
  by_cases e : k = j + 1
  ·subst e; exact h
  ·show (meetsTo r b ps j).bind _ = _;rw [meetsTo_none h j (by omega)]; rfl
theorem away_call (x : PIns) (B : Nat) (m : PMod) (hh : HF) (f : PFunc) (ta fa : Option Addr) (tl tc fl fc : Nat) (frm : Nat) (to_ : Int) (b n c : Nat) (r : List PSpan) (w : World) (hB : B ≤ w.heap.size) (hf : FuncOk B w hh f) (hfl : frm < f.code.length) (hn1 : f.code.length ≤ 1024) (hx : f.code.getD frm default = x) (hi : InsFine m f x) (hr : SpRow w b n c r) (hrg : (n : Int) = f.regs) (hn : n ≤ 64) (hmo : ModAt B w (.agg #[.slice ta tl tc, .slice fa fl fc]) m) (hBb : B ≤ b) (hop : x.op = 19) : Calls Tryd.prog 21 #[.agg #[.slice ta tl tc, .slice fa fl fc], FuncVal hh f, .int .i64 frm, .int .i64 to_, .slice (some ⟨b, 0, none⟩) n c] w (AwayPost b n c w ((meetsTo r x.b.toNat (paramsAt m x.n) (paramsAt m x.n).length).map fun q => spSet q x.a allP)) := by
 have HMo := Lib.hid hmo;clear hmo;obtain ⟨RES, hRES⟩ : ∃ q, q = ((meetsTo r x.b.toNat (paramsAt m x.n) (paramsAt m x.n).length).map fun q => spSet q x.a allP) := ⟨_, rfl⟩
 rw [← hRES];have HRES := Lib.hid hRES;clear hRES;obtain ⟨pa, pl, pc, cb, co, cc, rfl, hcm, hcB, ⟨g0, g1, g2, g3, g4⟩, hcbl, hcb1, hcb2, hcb3, hfr, hwf⟩ := away_pre hB hf hfl hn1 hx;clear hf;unfold FuncVal;dsimp only;have hbl := hr.lt;obtain ⟨op, xa, xb, xc, xn⟩ := x;obtain ⟨v1, v2, v3, v4, v5, v6, v7, v8, v9, v10⟩ := hi;dsimp only at *;subst hop;have hmf := @mkF Tryd.prog;go_enter Tryd.func21, Tryd.ntmps21;go_upto_region 2 with (fail)
 generalize hW0 : World.alloc _ _ = W0;obtain ⟨hb0, OM, OF, OR, OX, hz0⟩ := own_four hW0;clear hW0 g0 g1 g2 g3 g4;have hr0 := hr.below hb0;have x5 := own5 OX;have o1 := own1 OR;go_cut [12] (fun v wx => v = .bool (decide (to_ = xn) && decide (xn ≠ (frm : Int) + 1)) ∧ wx = W0)
 case first =>
  by_cases e1 : to_ = xn
  ·have q1 : (to_ == xn) = true := by simpa using e1
   by_cases e2 : xn = (frm : Int) + 1
   ·have q2 : (xn != (frm : Int) + 1) = false := by simpa using e2
    have E1 := Lib.hid e1; have E2 := Lib.hid e2;clear e1 e2;go_wp2;go_meet
    all_goals exact ⟨by simp [E1.out, E2.out], rfl⟩
   ·have q2 : (xn != (frm : Int) + 1) = true := by simpa using e2
    have E1 := Lib.hid e1; have E2 := Lib.hid e2;clear e1 e2;go_wp2;go_meet
    all_goals exact ⟨by simp [E1.out, E2.out], rfl⟩
  ·have q1 : (to_ == xn) = false := by simpa using e1
   go_wp2;go_meet
   all_goals exact ⟨by simp [e1], rfl⟩
 case rest =>
  obtain ⟨rfl, rfl⟩ := hcut;obtain ⟨wb, hwb⟩ : ∃ wb : World, wb = wc := ⟨_, rfl⟩
  subst hwb;generalize hfar : (decide (to_ = xn) && decide (xn ≠ (frm : Int) + 1)) = far;have HFAR := Lib.hid hfar;clear hfar;obtain ⟨ka, rfl⟩ := Int.eq_ofNat_of_zero_le v3;have hka : ka < n := by omega
  have hka2 : (ka : Int) < (n : Int) := by omega
  obtain ⟨r0, r1, r2, r3⟩ := hr0.cells hka;obtain ⟨kb, rfl⟩ := Int.eq_ofNat_of_zero_le v5;obtain ⟨c1, c2, c3⟩ := v10 rfl;obtain ⟨kn, rfl⟩ := Int.eq_ofNat_of_zero_le c1;obtain ⟨_, _, _, _, _, _, hv, -, hfs⟩ := HMo.out;cases hv;obtain ⟨hfl1, hfl2, fb, fo, hfb, H, hH⟩ := hfs;have hkn : kn < fl := by omega
  have hkn2 : (kn : Int) < (fl : Int) := by omega
  obtain ⟨rfl, hfbB⟩ := hfb (by omega);obtain ⟨⟨-, i1, -, -, -⟩, -, ⟨hpl, hpm, pb, po, hpb, hpc⟩, -, -, -⟩ := hH kn hkn;have hP : paramsAt m kn = (m.funcs.getD kn default).params := by unfold paramsAt; rw [Int.toNat_natCast]
  have hP2 : (fnAt m (kn : Int).toNat).params = (m.funcs.getD kn default).params := by unfold fnAt; rw [Int.toNat_natCast]
  rw [hP2] at c3;have hres := HRES.out;rw [hP, Int.toNat_natCast] at hres;have HR9 := Lib.hid hres;clear hP hres HRES hP2 hH hfb;generalize (m.funcs.getD kn default).params = ps at *;generalize H kn = hk at *;obtain ⟨qa, ql, qc, _, _, _⟩ := hk;dsimp only at i1 hpl hpm hpb hpc;subst hpl;have j1 := (hb0.cell (p := ⟨fb, fo + kn * 5 + 1, none⟩) (by show fb < _; omega)).trans i1;have m5 := own2 OM;have hpsl : kb + ps.length ≤ n := by omega
  have hpm' : ps.length ≤ 9223372036854775807 := hpm;have HPB := Lib.hid hpb; have HPC := Lib.hid hpc;have HOX := Lib.hid OX; have HOR := Lib.hid OR; have HR0 := Lib.hid hr0;have hne : b ≠ w.heap.size + 1 + 1 := by omega
  clear OX OR hr0 hr hmf hx hrg hwf v1 v2 v4 v6 v7 v8 v9 v10 hcm hcB hcbl hcb1 hcb2 hcb3 hn1 r0 r1 r2 r3 hpb hpc i1 c1 c2 c3 hpm;go_wp2;go_loopw [183] (fun i wx => ∃ (k : Nat) (q : List PSpan), k ≤ ps.length ∧ i = .int .i64 k ∧ meetsTo r kb ps k = some q ∧ Hid (SpRow wx b n c q) ∧ Hid (Own wx (w.heap.size + 1 + 1) [.slice (some ⟨b, 0, none⟩) n c]) ∧ Hid (Own wx (w.heap.size + 1 + 1 + 1) [.int .i64 19, .int .i64 ka, .int .i64 kb, .int .i64 xc, .int .i64 kn]) ∧ Chg (· = b) wb wx) (fun i _ => ps.length - (intOf i).toNat)
  case atStart => exact ⟨0, r, Nat.zero_le _, rfl, rfl, HR0, HOR, HOX, Chg.refl _ _⟩
  case round =>
   clear HOX HOR x5 o1 m5 OM OF j1;obtain ⟨k, q, hk, rfl, hmq, HR, HOR, HOX, hC⟩ := hrel;have hzr := hC.size;have x5 := own5 HOX.out;have o1 := own1 HOR.out;obtain ⟨r0, r1, r2, r3⟩ := HR.out.cells hka;by_cases hkt : k < ps.length
   ·have d3 : (k : Int) < (ps.length : Int) := by omega
    have hwk : IntKind.i64.wrap ((k : Int) + 1) = (k : Int) + 1 := IntWalk.i64_in _ (by omega);have hwb : IntKind.i64.wrap ((kb : Int) + (k : Int)) = (kb : Int) + (k : Int) := IntWalk.i64_in _ (by omega);obtain ⟨rfl, hpbB⟩ := HPB.out (by omega);obtain ⟨p0, p1, -, -⟩ := HPC.out k hkt;have y0 := (hC.cellAt (po + k * 2) (b := pb) (by omega) (by show ¬ (_ = b); omega)).trans ((hb0.cell (p := ⟨pb, po + k * 2, none⟩) (by show pb < _; omega)).trans p0);have y1 := (hC.cellAt (po + k * 2 + 1) (b := pb) (by omega) (by show ¬ (_ = b); omega)).trans ((hb0.cell (p := ⟨pb, po + k * 2 + 1, none⟩) (by show pb < _; omega)).trans p1);have hms := meetsTo_succ hmq;have HMe := Lib.hid (fun w' h1 h2 => meets_any (kb + k) (ps.getD k default) (w.heap.size + 1 + 1) b n c q w' h1 h2 (by omega) hne hn);rw [show ((kb + k : Nat) : Int) = (kb : Int) + (k : Int) by omega] at HMe;clear p0 p1;generalize meetR q (kb + k) (ps.getD k default) = mq at *;obtain ⟨mq, mok⟩ := mq;generalize ps.getD k default = pp at *;obtain ⟨plo, phi⟩ := pp;unfold spanV at HMe;dsimp only at HMe y0 y1 hms;clear r0 r1 r2 r3;go_upto_region 38 with (fail)
    generalize hW3 : World.alloc _ _ = W3;have hb3 : Below wr.heap.size wr W3 := by rw [← hW3]; exact bel
    have OS : Own W3 wr.heap.size [.int .i64 plo, .int .i64 phi] := by rw [← hW3]; exact Own.new _ _ _
    have HM2 := Lib.hid (HMe.out W3 (HOR.out.below hb3) (HR.out.below hb3));have g3 := own2 OS;have x3 := own5 (HOX.out.below hb3);clear x5 o1 hW3;cases mok
    ·go_wp2_with (first | (go_at_call 38; refine HM2.out.mono ?_; rintro e w9 ⟨rfl, hr9, hc9⟩) | fail)
     try rw [Exit.noGoto_ret]
     go_ret;go_light;rw [HR9.out, meetsTo_none (k := k + 1) (by rw [hms]; rfl) _ (by omega)];exact ⟨rfl, ((Chg.of hb0).trans (hC.trans (Chg.of hb3))).trans hc9, fun out ho => by cases ho⟩
    ·go_wp2_with (first | (go_at_call 38; refine HM2.out.mono ?_; rintro e w9 ⟨rfl, hr9, hc9⟩; have hz9 := hc9.size) | fail)
     refine ⟨⟨k + 1, mq, by omega, by simp, by rw [hms]; rfl, Lib.hid hr9, Lib.hid (hc9.own (HOR.out.below hb3) (by show ¬ (_ = b); omega)), Lib.hid (hc9.own (HOX.out.below hb3) (by show ¬ (_ = b); omega)), (hC.trans (Chg.of hb3)).trans hc9⟩, ?_⟩;go_light; first | omega | (simp only [intOf]; omega)
   ·have hkk : k = ps.length := by omega
    subst hkk;have d3 : ¬ (ps.length : Int) < (ps.length : Int) := by omega
    have HMQ := Lib.hid hmq;have HAl := Lib.hid sall_any;unfold spanV at HAl;have hbL := HR.out.lt;go_upto_region 41 with (fail)
    refine wp_below_tail 4 (by kernel_rfl) (by kernel_rfl) (fun T F hF hall => ?_); simp only [List.take_succ_cons, List.take_zero, List.drop_succ_cons, List.drop_zero]; have hFc := fun t => (bcell (hF t)).1; have hFf := fun t => (bcell (hF t)).2; have hFs := fun t => (hF t).size; have hNE : Nonempty T := (hall _ (Below.refl _ _)).elim fun t _ => ⟨t⟩; repeat (refine WQ_step (fun K hK => ?_); go_simp; refine hK _ ?_; clear hK K)
    (refine WQ_step (fun K hK => ?_); go_simp; refine ⟨_, fun t => calls_family (hF t) hall (HAl.out (F t)), hK _ ?_⟩; clear hK K)
    repeat (refine WQ_step (fun K hK => ?_); go_simp; refine hK _ ?_; clear hK K)
    refine WQ_nil (fun t => ?_);have hft := hF t;go_wp2
    try rw [Exit.noGoto_ret]
    go_ret;go_light;rw [HR9.out, HMQ.out];refine ⟨rfl, ((Chg.of hb0).trans (hC.trans (Chg.of hft))).trans (chg2 _ _ _ _ _ _), fun out ho => ?_⟩;cases ho;unfold spSet;rw [Int.toNat_natCast];exact (HR.out.below hft).set hka allP
theorem away_any (x : PIns) (B : Nat) (m : PMod) (hh : HF) (f : PFunc) (ta fa : Option Addr) (tl tc fl fc : Nat) (frm : Nat) (to_ : Int) (b n c : Nat) (r : List PSpan) (w : World) (hB : B ≤ w.heap.size) (hf : FuncOk B w hh f) (hfl : frm < f.code.length) (hn1 : f.code.length ≤ 1024) (hx : f.code.getD frm default = x) (hi : InsFine m f x) (hr : SpRow w b n c r) (hrg : (n : Int) = f.regs) (hn : n ≤ 64) (hrok : LOk n r) (hmo : ModAt B w (.agg #[.slice ta tl tc, .slice fa fl fc]) m) (hBb : B ≤ b) :
 Calls Tryd.prog 21 #[.agg #[.slice ta tl tc, .slice fa fl fc], FuncVal hh f, .int .i64 frm, .int .i64 to_, .slice (some ⟨b, 0, none⟩) n c] w (AwayPost b n c w (wayP m f frm to_ r)) := by
 unfold wayP;rw [hx];have h0 := hi.op0;have h1 := hi.op1;obtain h | h | h | h | h | h | h | h | h | h | h | h | h | h | h | h | h | h | h | h : x.op = 0 ∨ x.op = 1 ∨ x.op = 2 ∨ x.op = 3 ∨ x.op = 4 ∨ x.op = 5 ∨ x.op = 6 ∨ x.op = 7 ∨ x.op = 8 ∨ x.op = 9 ∨ x.op = 10 ∨ x.op = 11 ∨ x.op = 12 ∨ x.op = 13 ∨ x.op = 14 ∨ x.op = 15 ∨ x.op = 16 ∨ x.op = 17 ∨ x.op = 18 ∨ x.op = 19 := by omega
 all_goals unfold insWay
 all_goals simp only [h, reduceIte, Int.reduceEq, Int.reduceLE, and_self, and_true, true_and, and_false, false_and, or_self, or_true, true_or, or_false, false_or]
 ·exact away_ret x B m hh f ta fa tl tc fl fc frm to_ b n c r w hB hf hfl hn1 hx hi hr hrg hn h
 ·exact away_set x B m hh f ta fa tl tc fl fc frm to_ b n c r w hB hf hfl hn1 hx hi hr hrg hn h
 ·exact away_move x B m hh f ta fa tl tc fl fc frm to_ b n c r w hB hf hfl hn1 hx hi hr hrg hn h
 ·exact away_add x B m hh f ta fa tl tc fl fc frm to_ b n c r w hB hf hfl hn1 hx hi hr hrg hn h hrok
 ·exact away_sub x B m hh f ta fa tl tc fl fc frm to_ b n c r w hB hf hfl hn1 hx hi hr hrg hn h hrok
 ·exact away_mul x B m hh f ta fa tl tc fl fc frm to_ b n c r w hB hf hfl hn1 hx hi hr hrg hn h hrok
 ·exact away_div x B m hh f ta fa tl tc fl fc frm to_ b n c r w hB hf hfl hn1 hx hi hr hrg hn h hrok
 ·exact away_rem x B m hh f ta fa tl tc fl fc frm to_ b n c r w hB hf hfl hn1 hx hi hr hrg hn h hrok
 ·exact away_less x B m hh f ta fa tl tc fl fc frm to_ b n c r w hB hf hfl hn1 hx hi hr hrg hn h hrok
 ·exact away_equal x B m hh f ta fa tl tc fl fc frm to_ b n c r w hB hf hfl hn1 hx hi hr hrg hn h hrok
 ·exact away_not x B m hh f ta fa tl tc fl fc frm to_ b n c r w hB hf hfl hn1 hx hi hr hrg hn h hrok
 ·exact away_load x B m hh f ta fa tl tc fl fc frm to_ b n c r w hB hf hfl hn1 hx hi hr hrg hn h
 ·exact away_store x B m hh f ta fa tl tc fl fc frm to_ b n c r w hB hf hfl hn1 hx hi hr hrg hn h
 ·exact away_check x B m hh f ta fa tl tc fl fc frm to_ b n c r w hB hf hfl hn1 hx hi hr hrg hn h
 ·exact away_jump x B m hh f ta fa tl tc fl fc frm to_ b n c r w hB hf hfl hn1 hx hi hr hrg hn h
 ·exact away_if x B m hh f ta fa tl tc fl fc frm to_ b n c r w hB hf hfl hn1 hx hi hr hrg hn h
 ·exact away_unless x B m hh f ta fa tl tc fl fc frm to_ b n c r w hB hf hfl hn1 hx hi hr hrg hn h
 ·exact away_count x B m hh f ta fa tl tc fl fc frm to_ b n c r w hB hf hfl hn1 hx hi hr hrg hn h hrok
 ·exact away_step x B m hh f ta fa tl tc fl fc frm to_ b n c r w hB hf hfl hn1 hx hi hr hrg hn h hrok
 ·exact away_call x B m hh f ta fa tl tc fl fc frm to_ b n c r w hB hf hfl hn1 hx hi hr hrg hn hmo hBb h
section
theorem least_nat (p : Nat → Prop) (h : ∃ k, p k) : ∃ k, p k ∧ ∀ j, p j → k ≤ j := by
 obtain ⟨k, hk⟩ := h
 induction k using Nat.strongRecOn with
 | ind k ih =>
  by_cases h2 : ∃ j, j < k ∧ p j
  ·obtain ⟨j, hj, hp⟩ := h2;exact ih j hj hp
  ·exact ⟨k, hk, fun j hj => Classical.byContradiction fun h3 => h2 ⟨j, by omega, hj⟩⟩
open Classical in
noncomputable def infN (p : Nat → Prop) : Nat := if h : ∃ k, p k then Classical.choose (least_nat p h) else 0
theorem infN_le {p : Nat → Prop} {k : Nat} (h : p k) : infN p ≤ k := by
 unfold infN;rw [dif_pos ⟨k, h⟩];exact (Classical.choose_spec (least_nat p ⟨k, h⟩)).2 k h
theorem infN_is {p : Nat → Prop} (h : ∃ k, p k) : p (infN p) := by
 unfold infN;rw [dif_pos h];exact (Classical.choose_spec (least_nat p h)).1
def MOk (n : Nat) (s : PBS) : Prop := ∀ v, v < n → s.mrk.getD v false = true → s.inn.getD v [] ≠ []
section
variable {m : PMod} {f : PFunc} {n regs : Nat}
theorem getD_ext {α : Type} (l : List α) (i j : Nat) (a d : α) : (l.set i a).getD j d = if j = i ∧ i < l.length then a else l.getD j d := by
 simp only [List.getD_eq_getElem?_getD];by_cases e : j = i
 ·subst e;by_cases h : j < l.length
  ·rw [if_pos ⟨rfl, h⟩, List.getElem?_set_self h]; rfl
  ·rw [if_neg (fun q => h q.2), List.set_eq_of_length_le (by omega)]
 ·rw [if_neg (fun q => e q.1), List.getElem?_set_ne (by omega)]
theorem mergeP_mrk {thr : List Int} {s : PBS} {tt : Nat} {next : List PSpan} {v : Nat} (h : s.mrk.getD v false = true) : (mergeP thr s tt next).mrk.getD v false = true := by
 have key : (s.mrk.set tt true).getD v false = true := by
  rw [getD_ext]; split
  ·rfl
  ·exact h
 unfold mergeP;split
 ·exact key
 ·split
  ·exact key
  ·exact h
theorem mergeP_mok {thr : List Int} {s : PBS} {tt : Nat} {next : List PSpan} (hs : SOk n regs s) (hm : MOk n s) (hr : 0 < regs) (hn : next.length = regs) : MOk n (mergeP thr s tt next) := by
 intro v hv h;have hli := hs.li;have hlm := hs.lm;have nne : next ≠ [] := fun e => by rw [e] at hn; simp at hn; omega
 unfold mergeP at h ⊢;by_cases h0 : s.inn.getD tt [] = []
 ·rw [if_pos h0] at h ⊢;dsimp only at h ⊢;rw [getD_ext] at h ⊢;by_cases e : v = tt ∧ tt < s.inn.length
  ·rw [if_pos e]; exact nne
  ·rw [if_neg e];rw [if_neg (by rw [hlm, ← hli]; exact e)] at h;exact hm v hv h
 ·rw [if_neg h0] at h ⊢;by_cases hg : someB (s.inn.getD tt []) next = true
  ·rw [if_pos hg] at h ⊢;dsimp only at h ⊢;rw [getD_ext] at h ⊢;by_cases e : v = tt ∧ tt < s.inn.length
   ·rw [if_pos e];intro e2;have : (innNext thr (jnNext s tt) (s.inn.getD tt []) next).length = 0 := by rw [e2]; rfl
    unfold innNext at this;rw [List.length_map, List.length_range] at this;exact h0 (List.eq_nil_of_length_eq_zero this)
   ·rw [if_neg e];rw [if_neg (by rw [hlm, ← hli]; exact e)] at h;exact hm v hv h
  ·rw [if_neg hg] at h ⊢;exact hm v hv h
theorem ways_mok (hn : n = f.code.length) (hr : 0 < regs) (H : ∀ (a : Nat) (inn : List PSpan) (t : Int) (out : List PSpan), a < n → LOk regs inn → t ∈ nextP f a → wayP m f a t inn = some out → LOk regs out)
 {a : Nat} (ha : a < n) {inn : List PSpan} (hi : LOk regs inn) : ∀ (l : List Int) (s : PBS), (∀ t ∈ l, t ∈ nextP f a) → SOk n regs s → MOk n s → MOk n (l.foldl (wayS m f a inn) s) ∧ ∀ v, s.mrk.getD v false = true → (l.foldl (wayS m f a inn) s).mrk.getD v false = true
 | [], s, _, _, hm => ⟨hm, fun _ h => h⟩
 | t :: l, s, hl, hs, hm => by
  have ht := hl t (by simp);have hb := nextP_in f a t ht;have h1 : SOk n regs (wayS m f a inn s t) ∧ MOk n (wayS m f a inn s t) ∧ ∀ v, s.mrk.getD v false = true → (wayS m f a inn s t).mrk.getD v false = true := by
   unfold wayS;cases hw : wayP m f a t inn with
   | none => exact ⟨hs, hm, fun _ h => h⟩
   | some out =>
    have ho := H a inn t out ha hi ht hw;exact ⟨mergeP_ok hs (by omega) ho, mergeP_mok hs hm hr ho.1, fun _ h => mergeP_mrk h⟩
  have h2 := ways_mok hn hr H ha hi l _ (fun t ht => hl t (by simp [ht])) h1.1 h1.2.1;exact ⟨h2.1, fun v hv => h2.2 v (h1.2.2 v hv)⟩
theorem step_mok (hn : n = f.code.length) (hr : 0 < regs) (H : ∀ (a : Nat) (inn : List PSpan) (t : Int) (out : List PSpan), a < n → LOk regs inn → t ∈ nextP f a → wayP m f a t inn = some out → LOk regs out)
 {a : Nat} (ha : a < n) {s : PBS} (hs : SOk n regs s) (hm : MOk n s) : MOk n (stepS m f s a) ∧ ∀ v, v ≠ a → s.mrk.getD v false = true → (stepS m f s a).mrk.getD v false = true := by
 unfold stepS;by_cases h : s.mrk.getD a false = true
 ·rw [if_pos h];have hi : LOk regs (s.inn.getD a []) := (hs.inn a ha).resolve_left (hm a ha h);have h0 : SOk n regs { s with mrk := s.mrk.set a false } := ⟨hs.li, hs.lc, by simp [hs.lm], hs.lj, hs.inn, hs.chg⟩
  have hm0 : MOk n { s with mrk := s.mrk.set a false } := fun v hv hq => by
   dsimp only at hq ⊢;rw [getD_ext] at hq;split at hq
   ·cases hq
   ·exact hm v hv hq
  have h3 := ways_mok hn hr H ha hi (nextP f a) _ (fun t ht => ht) h0 hm0;refine ⟨h3.1, fun v hv hq => h3.2 v ?_⟩;dsimp only;rw [getD_ext, if_neg (fun e => hv e.1)];exact hq
 ·rw [if_neg h];exact ⟨hm, fun _ _ hq => hq⟩
/-- a part of a pass -/
theorem part_keep (hn : n = f.code.length) (hr : 0 < regs) (H : ∀ (a : Nat) (inn : List PSpan) (t : Int) (out : List PSpan), a < n → LOk regs inn → t ∈ nextP f a → wayP m f a t inn = some out → LOk regs out) :
 ∀ (l : List Nat) (s : PBS), (∀ a ∈ l, a < n) → SOk n regs s → MOk n s → SOk n regs (l.foldl (stepS m f) s) ∧ MOk n (l.foldl (stepS m f) s) ∧ potT n regs (l.foldl (stepS m f) s) ≤ potT n regs s ∧ ∀ a ∈ l, s.mrk.getD a false = true → potT n regs (l.foldl (stepS m f) s) < potT n regs s
 | [], s, _, hs, hm => ⟨hs, hm, Nat.le_refl _, fun a ha => by simp at ha⟩
 | a :: l, s, hl, hs, hm => by
  have ha := hl a (by simp);obtain ⟨k1, k2, k3⟩ := step_keep (m := m) (f := f) hn hr H ha hs (hm a ha);obtain ⟨m1, m2⟩ := step_mok (m := m) (f := f) hn hr H ha hs hm;obtain ⟨p1, p2, p3, p4⟩ := part_keep hn hr H l _ (fun b hb => hl b (by simp [hb])) k1 m1;rw [List.foldl_cons];refine ⟨p1, p2, Nat.le_trans p3 k2, fun b hb hq => ?_⟩;by_cases e : b = a
  ·subst e;exact Nat.lt_of_le_of_lt p3 (k3 hq)
  ·have hb2 : b ∈ l := by simpa [e] using hb
   exact Nat.lt_of_lt_of_le (p4 b hb2 (m2 b e hq)) k2
theorem pass_pot (hn : n = f.code.length) (hr : 0 < regs) (H : ∀ (a : Nat) (inn : List PSpan) (t : Int) (out : List PSpan), a < n → LOk regs inn → t ∈ nextP f a → wayP m f a t inn = some out → LOk regs out)
 {s : PBS} (hs : SOk n regs s) (hm : MOk n s) (hc : s.mrk.contains true = true) : SOk n regs (passS m f s) ∧ MOk n (passS m f s) ∧ potT n regs (passS m f s) < potT n regs s := by
 obtain ⟨p1, p2, p3, p4⟩ := part_keep hn hr H (List.range n) s (fun a ha => List.mem_range.1 ha) hs hm;unfold passS;rw [← hn];refine ⟨p1, p2, ?_⟩;rw [List.contains_iff_mem] at hc;obtain ⟨a, ha⟩ := List.getElem?_of_mem hc;have hlt : a < s.mrk.length := (List.getElem?_eq_some_iff.1 ha).1;have := hs.lm;exact p4 a (List.mem_range.2 (by omega)) (by rw [List.getD_eq_getElem?_getD, ha]; rfl)
end
end
section
section
variable {P : Program} (w : World)
theorem run_append_copy (t ty e : TypeId) (i : TypeInfo) (z : Value) (size bytes : Nat) (ht : P.underlying t = some (.slice e)) (hi : P.info? e = some i) (hz : i.zero = some z)
 (hsize : i.size = size) (hby : i.bytes = bytes) (hzs : z.cells.size = size) (hsz : 0 < size)
 (g : Nat) (hown : w.ownsRow 0 e size (.slice (some ⟨g, 0, none⟩) 0 0) 0 [])
 (ta : Option Addr) (n c : Nat) (news : List Value) (hl : news.length = n * size) (hsrc : 0 < n → ∃ b o, ta = some ⟨b, o, none⟩ ∧ ∀ j u, news[j]? = some u → w.cell? ⟨b, o + j, none⟩ = some u) (h1 : ∀ u ∈ news, u.oneCell' = true)
 (h63 : n ≤ maxLen) (hbytes : n * bytes ≤ 140737488355328) :
 ∃ v' w', (Builtin.append_ #[t, t] ty #[.slice (some ⟨g, 0, none⟩) 0 0, .slice ta n c]).run P w = .ok v' w' ∧ w'.ownsRow 0 e size v' n news ∧ Below w.heap.size w w' ∧ ∃ b cap, v' = .slice (some ⟨b, 0, none⟩) n cap ∧ (b = g ∨ b = w.heap.size) := by
 by_cases hn : n = 0
 ·subst hn;have hnil : news = [] := List.eq_nil_of_length_eq_zero (by simpa using hl);subst hnil;have hs : Src P i.size t (.slice ta 0 c) 0 [] w := by
   cases ta with
   | none => exact Src.ofNil w ht c
   | some a => exact Src.ofSlice w ht a 0 c [] (by simp) (fun j u h => by simp at h) (fun u h => by cases h)
  have hr := run_append_room_src (P := P) w t t ty e i ht hi g 0 0 0 (.slice ta 0 c) 0 [] hs (Nat.le_refl _) (fun j h => absurd h (Nat.not_lt_zero j)) (fun j h => absurd h (Nat.not_lt_zero j));have hw : w.setCells g (0 + 0 * i.size) [] = w := by simp [World.setCells]
  rw [hw] at hr;exact ⟨_, _, hr, hown, Below.refl _ _, g, 0, rfl, .inl rfl⟩
 ·obtain ⟨b, o, rfl, hc⟩ := hsrc (by omega);have hnews : ∀ j u, news[j]? = some u → w.cell? ((⟨b, o, none⟩ : Addr).add j) = some u := fun j u h => by
   have := hc j u h;unfold Addr.add;split
   ·rename_i e; subst e; simpa using this
   ·exact this
  obtain ⟨v', w', hr, h2, _, _⟩ := run_append2 (P := P) w t ty e i z size bytes ht hi hz hsize hby hzs hsz _ 0 [] hown ⟨b, o, none⟩ n c news hl hnews h1 (by omega) (by simpa using hbytes);have hr2 := run_append_grow (P := P) w t ty e i z ht hi hz ⟨g, 0, none⟩ 0 0 [] (by simp) (fun j u h => by simp at h) ⟨b, o, none⟩ n c news (by rw [hl, hsize]) hnews (by omega) (by unfold maxLen at h63; omega) (growslice_fits (by omega) (by rw [hby]; simpa using hbytes));rw [hr2] at hr;cases hr;simp only [Nat.zero_add, List.nil_append] at h2 hr2;exact ⟨_, _, by rw [hr2], h2, (Below.drew (Below.refl _ _)).alloc (Nat.le_refl _) _, _, _, rfl, .inr rfl⟩
theorem wpList_append_copy {ops : Array Oper} {rest : List Oper} {o : Oper} {a : Act} {Q : Exit → Act → World → Prop} (hgd : o.guard = none) (s x : Operand) (t : TypeId)
 (ho : o.op = .call { callee := .builtin .append, args := #[s, x], argTypes := #[t, t] })
 (e : TypeId) (i : TypeInfo) (z : Value) (size bytes : Nat) (ht : P.underlying t = some (.slice e)) (hi : P.info? e = some i) (hz : i.zero = some z)
 (hsize : i.size = size) (hby : i.bytes = bytes) (hzs : z.cells.size = size) (hsz : 0 < size)
 (g : Nat) (hs : a.eval s = .slice (some ⟨g, 0, none⟩) 0 0) (hown : w.ownsRow 0 e size (.slice (some ⟨g, 0, none⟩) 0 0) 0 [])
 (ta : Option Addr) (n c : Nat) (news : List Value) (hx : a.eval x = .slice ta n c) (hl : news.length = n * size) (hsrc : 0 < n → ∃ b o, ta = some ⟨b, o, none⟩ ∧ ∀ j u, news[j]? = some u → w.cell? ⟨b, o + j, none⟩ = some u) (h1 : ∀ u ∈ news, u.oneCell' = true)
 (h63 : n ≤ maxLen) (hbytes : n * bytes ≤ 140737488355328)
 (h : ∀ b cap w', w'.ownsRow 0 e size (.slice (some ⟨b, 0, none⟩) n cap) n news → Below w.heap.size w w' → (b = g ∨ b = w.heap.size) → wpList P ops Q rest (a.put o.dst (.slice (some ⟨b, 0, none⟩) n cap)) w') : wpList P ops Q (o :: rest) a w :=
 wpList_plain hgd fun _ hK => by
  obtain ⟨v', w', hr, h2, h3, b, cap, rfl, h4⟩ := run_append_copy (P := P) w t o.type e i z size bytes ht hi hz hsize hby hzs hsz g hown ta n c news hl hsrc h1 h63 hbytes;unfold Oper.wp execOp;simp only [ho, resolve, invoke, builtin, Sem.run_bind, Sem.run_pure, Result.andThen_ok, List.map_toArray, List.map_cons, List.map_nil, hs, hx, hr];exact hK _ _ (h b cap w' h2 h3 h4)
end
end
theorem Tryd.infoSp : (Tryd.prog.info? 53).map (fun i => (i.zero, i.size, i.bytes)) = some (some (.agg #[.int .i64 0, .int .i64 0]), 2, 16) := by kernel_rfl
theorem made_row (w : World) (e : TypeId) (z : Value) (size : Nat) (hzs : z.cells.size = size) (n k old : Nat) (olds : List Value) (hl : olds.length = n * size) (h63 : n + k ≤ maxLen) :
 (w.drew.alloc (.cells (olds.toArray ++ Builtin.zeroCells z.cells k ++ Builtin.zeroCells z.cells (grownCap w (n + k) old e - (n + k))) e)).ownsRow 0 e size (.slice (some ⟨w.heap.size, 0, none⟩) (n + k) (grownCap w (n + k) old e)) (n + k) (olds ++ (Builtin.zeroCells z.cells k).toList) := by
 have hge := grownCap_ge w (n + k) old e;have hcm := grownCap_le_maxLen w (n + k) old e h63;have hlen : (olds ++ (Builtin.zeroCells z.cells k).toList).length = (n + k) * size := by rw [List.length_append, hl, Array.length_toList, size_zeroCells, hzs, Nat.add_mul]
 refine ⟨hlen, .inr ⟨w.heap.size, _, _, rfl, Nat.zero_le _, heap_alloc_new w.drew _, hge, hcm, ?_, ?_⟩⟩
 ·simp only [Array.size_append, List.size_toArray, size_zeroCells, hzs, hl, ← Nat.add_mul];congr 1;omega
 ·simp only [Array.toList_append, List.append_assoc];rw [← List.append_assoc, ← hlen];exact List.take_left
theorem zeros_sp (k : Nat) : (Builtin.zeroCells (Value.agg #[.int .i64 0, .int .i64 0]).cells k).toList = spCells (List.replicate k ⟨0, 0⟩) := by
 have h1 : (Builtin.zeroCells (Value.agg #[.int .i64 0, .int .i64 0]).cells k).toList = List.replicate (k * 2) (.int .i64 0) := by
  rw [List.eq_replicate_iff];refine ⟨by rw [Array.length_toList, size_zeroCells]; rfl, fun v hv => ?_⟩;simp [Builtin.zeroCells, Value.cells] at hv;obtain ⟨i, _, rfl⟩ := hv;have h2 : i % 2 = 0 ∨ i % 2 = 1 := by omega
  rcases h2 with h | h <;> rw [h] <;> rfl
 have h2 : spCells (List.replicate k ⟨0, 0⟩) = List.replicate (k * 2) (.int .i64 0) := by
  rw [List.eq_replicate_iff];refine ⟨by rw [spCells_len, List.length_replicate], fun v hv => ?_⟩;obtain ⟨p, hp, hv⟩ := List.mem_flatMap.1 hv;have := (List.mem_replicate.1 hp).2;subst this;simp [spCell] at hv;exact hv
 rw [h1, h2]
/-- append of zero spans onto a slice without room -/
theorem append_zeros (w : World) (ty : TypeId) (a : Option Addr) (n k : Nat) (r : List PSpan) (hl : r.length = n) (hs : 0 < n → ∃ b, a = some ⟨b, 0, none⟩ ∧ ∀ j u, (spCells r)[j]? = some u → w.cell? ⟨b, j, none⟩ = some u) (hk : 0 < k) (hn : n + k ≤ 64) :
 ∃ cap, ∃ w', (Builtin.append_ #[40, 3] ty #[.slice a n n, .int .i64 k]).run Tryd.prog w = .ok (.slice (some ⟨w.heap.size, 0, none⟩) (n + k) cap) w' ∧ SpRow w' w.heap.size (n + k) cap (r ++ List.replicate k ⟨0, 0⟩) ∧ Below w.heap.size w w' := by
 obtain ⟨i0, hi, hz0, hz1, hz2⟩ := info_parts Tryd.infoSp;have hfit : Builtin.nextslicecap (n + k) n * i0.bytes ≤ 281474976710656 := growslice_fits (by omega) (by rw [hz2]; omega);have hol : (spCells r).length = n * 2 := by rw [spCells_len, hl]
 have hold : (Builtin.firstCells i0.size n (.slice a n n)).run Tryd.prog w.drew = .ok (spCells r).toArray w.drew := by
  by_cases h0 : n = 0
  ·subst h0;have : r = [] := List.eq_nil_of_length_eq_zero hl;subst this;cases a with
   | none => exact run_firstCells_none w.drew i0.size 0 0 0
   | some a => exact run_firstCells_some w.drew i0.size 0 a 0 0 [] (by simp) (fun j u h => by simp at h)
  ·obtain ⟨b, rfl, hc⟩ := hs (by omega);refine run_firstCells_some w.drew i0.size n ⟨b, 0, none⟩ n n (spCells r) (by rw [hol, hz1]) (fun j u h => ?_);have := hc j u h;unfold Addr.add;split
   ·rename_i e; subst e; exact this
   ·simpa using this
 have hr := Lib.run_append_grow_zeros (P := Tryd.prog) w 40 3 ty 53 i0 _ .i64 .i64 Tryd.underlying40 (by kernel_rfl) hi hz0 a n n (spCells r) hold k hk (by rw [hz1]; decide) (by omega) (by omega) (by rw [hz2]; omega) hfit;refine ⟨_, _, hr, ?_, (Below.refl _ _).drew.alloc (Nat.le_refl _) _⟩;have h1 := made_row w 53 (.agg #[.int .i64 0, .int .i64 0]) 2 rfl n k n (spCells r) hol (by unfold maxLen; omega);rw [zeros_sp, ← spCells_append] at h1;exact ⟨_, h1⟩
theorem ownsRow_none0 {w : World} {e size k : Nat} (hk : k = w.heap.size) : (w.alloc (.cells #[] e)).ownsRow 0 e size (.slice (some ⟨k, 0, none⟩) 0 0) 0 [] := by
 subst hk; exact World.ownsRow_made (w := w) #[] 0 (Nat.zero_le _) (Nat.zero_le _) (by simp)
theorem clone_any (a : Option Addr) (n c : Nat) (r : List PSpan) (w : World) (hl : r.length = n) (hs : 0 < n → ∃ b o, a = some ⟨b, o, none⟩ ∧ b < w.heap.size ∧ ∀ j u, (spCells r)[j]? = some u → w.cell? ⟨b, o + j, none⟩ = some u) (hn : n ≤ 64) :
 Calls Tryd.prog 12 #[.slice a n c] w fun e w' => ∃ v, e = .returned v ∧ w'.ownsRow 0 53 2 v n (spCells r) ∧ Below w.heap.size w w' ∧ ∀ k, v.ownBlock = some k → w.heap.size ≤ k := by
 have hnil : ∀ (w : World) (a : Option Addr) (n c : Nat), (binOp .eql 40 (.slice a n c) (.slice none 0 0)).run Tryd.prog w = .ok (.bool a.isNone) w := fun w a n c => Lib.run_eql_slice_nil w _ 53 a n c 0 0 (by kernel_rfl);obtain ⟨i0, hi, hz0, hz1, hz2⟩ := info_parts Tryd.infoSp;cases a with
 | none =>
  have h0 : n = 0 := Classical.byContradiction fun h => by obtain ⟨b, o, h1, _⟩ := hs (by omega); cases h1
  subst h0;have hr : r = [] := List.eq_nil_of_length_eq_zero hl;subst hr;go_enter Tryd.func12, Tryd.ntmps12;go_wp2;go_ret;go_light;exact ⟨_, rfl, World.ownsRow_nil _ _ _ _, Below.refl _ _, by simp [Value.ownBlock]⟩
 | some ad =>
  have HS := Lib.hid hs;have hol : (spCells r).length = n * 2 := by rw [spCells_len, hl]
  clear hs;go_enter Tryd.func12, Tryd.ntmps12;go_wp2_with (at_builtin; refine wpList_append_copy _ rfl (.tmp 5) (.tmp 6) 40 rfl 53 i0 _ 2 16 Tryd.underlying40 hi hz0 hz1 hz2 rfl (by decide) w.heap.size rfl ?own (some ad) n c (spCells r) rfl ?c1 ?c2 ?c3 ?c4 ?c5 ?_)
  case own => exact ownsRow_none0 rfl
  case c1 => exact hol
  case c2 =>
   intro h;obtain ⟨b, o, h1, h3, h2⟩ := HS.out h;exact ⟨b, o, h1, fun j u hu => (((Below.refl w.heap.size w).alloc (Nat.le_refl _) _).cell (p := ⟨b, o + j, none⟩) h3).trans (h2 j u hu)⟩
  case c3 => exact spCells_one r
  case c4 => unfold maxLen; omega
  case c5 => omega
  intro g cap w1 hr1 hb1 hg1;go_wp2;go_ret;go_light;exact ⟨_, rfl, hr1, ((Below.refl w.heap.size w).alloc (Nat.le_refl _) _).trans (hb1.mono (by simp)), fun k hk => by
   have e : g = k := by simpa [Value.ownBlock] using hk
   subst e;rcases hg1 with h | h
   ·omega
   ·(try simp at h); omega⟩
theorem clip_any (a : Option Addr) (n c : Nat) (w : World) (hnc : n ≤ c) (hc : (c : Int) ≤ 9223372036854775807) (ha : a = none → n = 0 ∧ c = 0) : Calls Tryd.prog 11 #[.slice a n c] w fun e w' => e = .returned (.slice a n n) ∧ w' = w := by
 have hnc2 : (n : Int) ≤ (c : Int) := by omega
 have hn0 : (0 : Int) ≤ (n : Int) := by omega
 cases a with
 | none =>
  obtain ⟨rfl, rfl⟩ := ha rfl;go_enter Tryd.func11, Tryd.ntmps11;go_wp2;exact bodyPost_ret (v := .slice none 0 0) (by simp [results, Tryd.results11, go_sem]) rfl ⟨rfl, rfl⟩
 | some ad =>
  go_enter Tryd.func11, Tryd.ntmps11;go_wp2;go_ret;exact ⟨rfl, rfl⟩
theorem contains_bool (b n c : Nat) (l : List Bool) (w : World) (h : w.ownsRow 0 4 1 (.slice (some ⟨b, 0, none⟩) n c) n (Bools l)) (hn : n ≤ 1024) : Calls Tryd.prog 36 #[.slice (some ⟨b, 0, none⟩) n c, .bool true] w fun e w' => e = .returned (.bool (l.contains true)) ∧ w' = w := by
 obtain ⟨cb, hcb⟩ : ∃ q, l.contains true = q := ⟨_, rfl⟩
 rw [hcb];have HCB := Lib.hid hcb;clear hcb;have hl : l.length = n := by have := h.1; simpa [Bools] using this
 have HI : Hid (Calls Tryd.prog 52 #[.slice (some ⟨b, 0, none⟩) n c, .bool true] w fun e w' => ∃ v : Int, e = .returned (.int .i64 v) ∧ (decide (0 ≤ v) = cb) ∧ w' = w) := Lib.hid (by
  have HC := Lib.hid (fun j (hj : j < n) => row_cell h (Bools_some (show l[j]? = some (l.getD j false) by rw [List.getD_eq_getElem?_getD, List.getElem?_eq_getElem (by omega)]; rfl)));clear h;go_enter Tryd.func52, Tryd.ntmps52;go_wp2;go_loopw [8] (fun i wr => ∃ k : Nat, k ≤ n ∧ i = .int .i64 k ∧ wr = w ∧ ∀ j, j < k → l.getD j false = false) (fun i _ => n - (intOf i).toNat)
  case atStart => exact ⟨0, Nat.zero_le _, rfl, (by first | rfl | trivial), fun j hj => by omega⟩
  case round =>
   obtain ⟨k, hk, rfl, rfl, hno⟩ := hrel;by_cases hkt : k < n
   ·have d3 : (k : Int) < (n : Int) := by omega
    have hwk : IntKind.i64.wrap ((k : Int) + 1) = (k : Int) + 1 := IntWalk.i64_in _ (by omega);have c0 := HC.out k hkt;have HNO := Lib.hid hno;clear hno;cases hm : l.getD k false
    ·rw [hm] at c0;have HM := Lib.hid hm;clear hm;go_wp2
     go_roundw
     case rel => exact ⟨k + 1, by omega, by simp, (by first | rfl | trivial), fun j hj => by
      by_cases e : j = k
      ·subst e; exact HM.out
      ·exact HNO.out j (by omega)⟩
     case measure => go_light; first | omega | (simp only [intOf]; omega)
    ·rw [hm] at c0;have hin : l.contains true = true := by
      rw [List.contains_iff_mem];have e : l[k]? = some true := by rw [← hm, List.getD_eq_getElem?_getD, List.getElem?_eq_getElem (by omega)]; rfl
      exact List.mem_of_getElem? e
     have HIN := Lib.hid hin;clear hm hin;go_wp2
     try rw [Exit.noGoto_ret]
     go_ret;refine ⟨_, rfl, ?_, ?_⟩
     ·rw [← HCB.out, HIN.out]; simp
     ·first | rfl | trivial
   ·have hkk : n = k := by omega
    subst hkk;have d3 : ¬ (n : Int) < (n : Int) := by omega
    have hin : l.contains true = false := by
     rw [← Bool.not_eq_true, List.contains_iff_mem];intro hm;obtain ⟨j, hj, e⟩ := List.getElem_of_mem hm;have := hno j (by omega);rw [List.getD_eq_getElem?_getD, List.getElem?_eq_getElem hj, e] at this;cases this
    have HIN := Lib.hid hin;clear hin hno;go_wp2
    try rw [Exit.noGoto_ret]
    go_ret;refine ⟨_, rfl, ?_, ?_⟩
    ·rw [← HCB.out, HIN.out]; rfl
    ·first | rfl | trivial)
 clear h;go_enter Tryd.func36, Tryd.ntmps36;go_wp2_with (first | (go_at_call 52; refine HI.out.mono ?_; rintro e w1 ⟨v, rfl, hv, rfl⟩) | fail)
 go_ret;exact ⟨by first | rfl | rw [← hv] | simp [← hv], rfl⟩
theorem contains_int (a : Option Addr) (n c : Nat) (l : List Int) (x : Int) (B : Nat) (w : World) (h : NumsAt B w a n l) : Calls Tryd.prog 14 #[.slice a n c, .int .i64 x] w fun e w' => e = .returned (.bool (l.contains x)) ∧ w' = w := by
 obtain ⟨cb, hcb⟩ : ∃ q, l.contains x = q := ⟨_, rfl⟩
 rw [hcb];have HCB := Lib.hid hcb;clear hcb;have HI : Hid (Calls Tryd.prog 32 #[.slice a n c, .int .i64 x] w fun e w' => ∃ v : Int, e = .returned (.int .i64 v) ∧ (decide (0 ≤ v) = cb) ∧ w' = w) := Lib.hid (by
  obtain ⟨hl, hnm, b, o, hb, hc⟩ := h;have hnm' : n ≤ 9223372036854775807 := hnm;have HB := Lib.hid hb; have HC := Lib.hid hc;clear hb hc hnm;go_enter Tryd.func32, Tryd.ntmps32;go_wp2;go_loopw [8] (fun i wr => ∃ k : Nat, k ≤ n ∧ i = .int .i64 k ∧ wr = w ∧ ∀ j, j < k → l.getD j 0 ≠ x) (fun i _ => n - (intOf i).toNat)
  case atStart => exact ⟨0, Nat.zero_le _, rfl, (by first | rfl | trivial), fun j hj => by omega⟩
  case round =>
   obtain ⟨k, hk, rfl, rfl, hno⟩ := hrel;by_cases hkt : k < n
   ·have d3 : (k : Int) < (n : Int) := by omega
    have hwk : IntKind.i64.wrap ((k : Int) + 1) = (k : Int) + 1 := IntWalk.i64_in _ (by omega);obtain ⟨rfl, -⟩ := HB.out (by omega);have c0 := (HC.out k hkt).1;have HNO := Lib.hid hno;clear hno;obtain ⟨y, hy⟩ : ∃ y, l.getD k 0 = y := ⟨_, rfl⟩
    rw [hy] at c0;have HY := Lib.hid hy;clear hy;by_cases hm : x = y
    ·have q1 : (x == y) = true := by simpa using hm
     have HIN := Lib.hid (contains_at (l := l) (i := k) (by omega) (HY.out.trans hm.symm));clear hm;go_wp2
     try rw [Exit.noGoto_ret]
     go_ret;refine ⟨_, rfl, ?_, ?_⟩
     ·rw [← HCB.out, HIN.out]; simp
     ·first | rfl | trivial
    ·have q1 : (x == y) = false := by simpa using hm
     have HM := Lib.hid hm;clear hm;go_wp2
     go_roundw
     case rel => exact ⟨k + 1, by omega, by simp, (by first | rfl | trivial), fun j hj => by
      by_cases e : j = k
      ·subst e; rw [HY.out]; exact fun h => HM.out h.symm
      ·exact HNO.out j (by omega)⟩
     case measure => go_light; first | omega | (simp only [intOf]; omega)
   ·have hkk : n = k := by omega
    subst hkk;have d3 : ¬ (n : Int) < (n : Int) := by omega
    have HIN := Lib.hid (contains_no (l := l) (x := x) (fun i hi => hno i (by omega)));clear hno;go_wp2
    try rw [Exit.noGoto_ret]
    go_ret;refine ⟨_, rfl, ?_, ?_⟩
    ·rw [← HCB.out, HIN.out]; rfl
    ·first | rfl | trivial)
 clear h;go_enter Tryd.func14, Tryd.ntmps14;go_wp2_with (first | (go_at_call 32; refine HI.out.mono ?_; rintro e w1 ⟨v, rfl, hv, rfl⟩) | fail)
 go_ret;exact ⟨by first | rfl | rw [← hv] | simp [← hv], rfl⟩
/-- the analysis' memory, when some instructions have come -/
def RMem (m : PMod) (f : PFunc) (N : Nat) (A : BAd) (n regs bx : Nat) (s : PBS) (W : World) : Prop := (∃ iv tg, BAt N W { A with iv := iv, tg := tg } n regs s) ∧ Own W bx [.pointer (some ⟨A.k, 0, none⟩)] ∧ SOk n regs s ∧ MOk n s
def stAt (m : PMod) (f : PFunc) (s0 : PBS) (pre : List Nat) : PBS := pre.foldl (stepS m f) s0
theorem stAt_snoc (m : PMod) (f : PFunc) (s0 : PBS) (pre : List Nat) (x : Nat) : stAt m f s0 (pre ++ [x]) = stepS m f (stAt m f s0 pre) x := by unfold stAt; rw [List.foldl_append]; rfl
theorem stAt_pass (m : PMod) (f : PFunc) (s0 : PBS) (pre : List Nat) : stAt m f s0 (pre ++ List.range f.code.length) = passS m f (stAt m f s0 pre) := by unfold stAt passS; rw [List.foldl_append]
theorem rounds_seq (nf : Nat) (m : PMod) (f : PFunc) (N : Nat) (A : BAd) (n regs bx l : Nat) (s0 : PBS) (W : World) (J : List Nat → World → Prop) (hn : n = f.code.length) (hn0 : 0 < n) (hn1 : n ≤ 1024)
 (hJ : ∀ pre W, J pre W → RMem m f N A n regs bx (stAt m f s0 pre) W) (hJB : ∀ pre W W', J pre W → Below W.heap.size W W' → J pre W')
 (hY : ∀ pre x W1, J pre W1 → x < n → YieldAt Fence.wide (nf - 1) Tryd.prog l #[.int .i64 x] W1 fun e W' => e = .returned (.bool true) ∧ J (pre ++ [x]) W')
 (hP : ∀ s, SOk n regs s → MOk n s → s.mrk.contains true = true → potT n regs (passS m f s) < potT n regs s)
 (h0 : J [] W) : CallsIn Fence.wide nf Tryd.prog 35 #[.func (.yield l) #[] #[], .pointer (some ⟨bx, 0, none⟩)] W fun e W' => (∃ v, e = .returned v) ∧ ∃ xs, RunsS m f s0 (stAt m f s0 xs) ∧ J xs W' := by
 have HN := Lib.hid hn;clear hn;have HJ := Lib.hid h0;have HJJ := Lib.hid hJ; have HYY := Lib.hid hY; have HPP := Lib.hid hP;clear h0 hJ hY hP;refine callsIn_of_wp Tryd.func35 rfl trivial ?_ rfl;simp only [Tryd.ntmps35, List.size_toArray, List.length_cons, List.length_nil, Nat.reduceAdd, Nat.reduceSub, Array.replicate_succ, Array.replicate_zero, List.push_toArray, List.append_toArray, List.nil_append, List.cons_append];gi_wp2;gi_loopw [] (fun wr => ∃ pre, Hid (J pre wr ∧ ∀ t, RunsS m f (stAt m f s0 pre) t → RunsS m f s0 t)) (fun wr => infN fun k => ∃ pre, Hid (J pre wr ∧ ∀ t, RunsS m f (stAt m f s0 pre) t → RunsS m f s0 t) ∧ potT n regs (stAt m f s0 pre) = k)
 case atStart => exact ⟨[], Lib.hid ⟨HJ.out, fun t h => h⟩⟩
 case round =>
  clear HJ;obtain ⟨pre, hpre, hmin⟩ := infN_is (p := fun k => ∃ pre, Hid (J pre wr ∧ ∀ t, RunsS m f (stAt m f s0 pre) t → RunsS m f s0 t) ∧ potT n regs (stAt m f s0 pre) = k) (by obtain ⟨pre, h⟩ := hrel; exact ⟨_, pre, h, rfl⟩);clear hrel;obtain ⟨hj, hrs⟩ := hpre.out;obtain ⟨⟨iv, tg, hb⟩, hbox, hsok, hmok⟩ := HJJ.out pre wr hj;have HRS := Lib.hid hrs; have HJ := Lib.hid hj; have HMIN := Lib.hid hmin;have HPO := Lib.hid (fun h => HPP.out _ hsok hmok h);have hst := hb.st;unfold BAd.cells at hst;dsimp only at hst;obtain ⟨s0', s1, s2, s3, s4, s5, s6, s7, s8⟩ := own4 hst;have b1 := own1 hbox;have HC := Lib.hid (contains_bool A.mb n A.mc (stAt m f s0 pre).mrk wr hb.rm (by omega));have hml := hb.lm;clear hb hbox hst hj hrs hpre hmin hsok hmok;obtain ⟨cb, hcb⟩ : ∃ q, (stAt m f s0 pre).mrk.contains true = q := ⟨_, rfl⟩
  rw [hcb] at HC HPO;have HCB := Lib.hid hcb;clear hcb;cases cb
  ·gi_wp2_with (refine ⟨trivial, (fun h => absurd h (by decide)), ?_⟩; gi_at_call 36; refine (callsIn_wide.2 HC.out).mono ?_; rintro e w1 ⟨rfl, rfl⟩)
   go_end0
   first | exact ⟨⟨_, rfl⟩, pre, HRS.out _ (.stop _ HCB.out), HJ.out⟩ | exact ⟨⟨⟨_, rfl⟩, pre, HRS.out _ (.stop _ HCB.out), HJ.out⟩⟩
  ·gi_wp2_with (refine ⟨trivial, (fun h => absurd h (by decide)), ?_⟩; gi_at_call 36; refine (callsIn_wide.2 HC.out).mono ?_; rintro e w1 ⟨rfl, rfl⟩)
   have hpo := HPO.out (by first | rfl | trivial);have HPO2 := Lib.hid hpo;clear HPO hpo HC b1 s0' s1 s2 s3 s4 s5 s6 s7 s8 hml;have hn9 : n ≤ 9223372036854775807 := by omega
   obtain ⟨wA, hwA⟩ : ∃ wA : World, wA = w1 := ⟨_, rfl⟩
   subst hwA;gi_loopw [14] (fun i wx => ∃ k : Nat, k ≤ n ∧ i = .int .i64 k ∧ Hid (J (pre ++ List.range k) wx)) (fun i _ => n - (intOf i).toNat)
   case atStart => exact ⟨0, Nat.zero_le _, rfl, Lib.hid (by simpa using HJ.out)⟩
   case round =>
    clear HJ;obtain ⟨k, hk, rfl, hJ⟩ := hrel;by_cases hkt : k < n
    ·have d3 : (k : Int) < (n : Int) := by omega
     have hwk : IntKind.i64.wrap ((k : Int) + 1) = (k : Int) + 1 := IntWalk.i64_in _ (by omega);obtain ⟨fn, tmps, assign, body, hy, hRd⟩ := HYY.out _ k wr hJ.out hkt;have HRd := Lib.hid hRd;clear hRd;gi_wp2;refine ⟨fun h => absurd h (by decide), HRd.out.mono ?_⟩;rintro e W3 ⟨rfl, hJ3⟩;have HJ3 := Lib.hid hJ3;clear hJ3;gi_wp2
     go_roundw
     case rel => exact ⟨k + 1, by omega, by simp, Lib.hid (by rw [List.range_succ, ← List.append_assoc]; exact HJ3.out)⟩
     case measure => go_light; first | omega | (simp only [intOf]; omega)
    ·have hkk : n = k := by omega
     subst hkk;have d3 : ¬ (n : Int) < (n : Int) := by omega
     have hst : stAt m f s0 (pre ++ List.range n) = passS m f (stAt m f s0 pre) := by rw [HN.out]; exact stAt_pass m f s0 pre
     have HR2 : Hid (J (pre ++ List.range n) wr ∧ ∀ t, RunsS m f (stAt m f s0 (pre ++ List.range n)) t → RunsS m f s0 t) := Lib.hid ⟨hJ.out, fun t h => HRS.out t (.pass _ _ HCB.out (by rw [hst] at h; exact h))⟩;have hle := infN_le (p := fun k => ∃ pre, Hid (J pre wr ∧ ∀ t, RunsS m f (stAt m f s0 pre) t → RunsS m f s0 t) ∧ potT n regs (stAt m f s0 pre) = k) ⟨_, HR2, rfl⟩;rw [hst] at hle;have hlt := HPO2.out;have heq := HMIN.out;have HLT := Lib.hid (Nat.lt_of_le_of_lt hle (by rw [heq] at hlt; exact hlt));clear hst hle hlt heq;gi_wp2
     go_roundw
     case rel => exact ⟨_, HR2⟩
     case measure => exact HLT.out
theorem rounds_any (k : Nat) (w : World) : Calls Tryd.prog 19 #[.pointer (some ⟨k, 0, none⟩)] w fun e w' => e = .returned (.func (.func 35) #[] #[.pointer (some ⟨w.heap.size, 0, none⟩)]) ∧ w' = w.alloc (.cells #[.pointer (some ⟨k, 0, none⟩)] 68) := by
 have hmf := @mkF Tryd.prog;go_enter Tryd.func19, Tryd.ntmps19;go_wp2;go_ret;exact ⟨rfl, rfl⟩
theorem BAt.turn {b N : Nat} {W W' : World} {A : BAd} {n regs : Nat} {s : PBS} (h : BAt N W A n regs s) (c : Turn b W W') (hk : A.k < b) : BAt N W' A n regs s := by
 have rt : ∀ {e size n g cc m : Nat} {xs : List Value}, W.ownsRow 0 e size (.slice (some ⟨g, 0, none⟩) n cc) m xs → W'.ownsRow 0 e size (.slice (some ⟨g, 0, none⟩) n cc) m xs := fun h => row_turn c h;refine ⟨h.st.turn c hk, rt h.ri, rt h.rc, rt h.rm, rt h.rj, fun v hv => ?_, fun v hv => ?_, h.tk, h.ti, h.tc, h.tm, h.tj, fun x hx => h.fr x (by rw [← c.size]; exact hx), h.lo, h.li, h.lc⟩
 ·rcases h.ei v hv with h1 | ⟨b, cc, h1, ⟨c', h2⟩, h3⟩
  ·exact .inl h1
  ·exact .inr ⟨b, cc, h1, ⟨c', rt h2⟩, h3⟩
 ·obtain ⟨h1, h2⟩ := h.ec v hv;exact ⟨rt h1, h2⟩
theorem range_rounds {g : Operand} {ps : Array Tmp} {assign body : Code} {Q : Exit → Act → World → Prop} {a : Act} {w : World} (m : PMod) (f : PFunc) (N : Nat) (A : BAd) (n regs bx : Nat) (s0 : PBS) (I : List Nat → World → Prop)
 (hg : a.eval g = .func (.func 35) #[] #[.pointer (some ⟨bx, 0, none⟩)]) (hps : ps.size = 1) (hn : n = f.code.length) (hn0 : 0 < n) (hn1 : n ≤ 1024)
 (hI : ∀ pre W, I pre W → RMem m f N A n regs bx (stAt m f s0 pre) W) (hIB : ∀ pre W W', I pre W → Below W.heap.size W W' → I pre W') (hIT : ∀ pre W W', I pre W → Turn w.heap.size W W' → I pre W')
 (hP : ∀ s, SOk n regs s → MOk n s → s.mrk.contains true = true → potT n regs (passS m f s) < potT n regs s) (h0 : I [] w)
 (hround : ∃ a₁ : Nat → Act, (∀ (l : Nat) (x : Nat) (W : World) (K : Act → World → Prop), K (a₁ x) W →
   assign.wpIn (Fence.wide.inRound l) 0 Tryd.prog (Exit.then K (fun _ _ _ => False)) { tmps := (ps.zip #[.int .i64 x]).foldl (fun t (p, v) => t.setIfInBounds p v) a.tmps, defers := [] } W) ∧
   (∀ (l : Nat) (pre : List Nat) (x : Nat) (W : World), I pre W → x < n → w.heap.size + 1 < W.heap.size →
   body.wpIn (Fence.wide.inRound l) 0 Tryd.prog (roundT fun W' => (∀ k, w.heap.size ≤ k → k < w.heap.size + 2 → W'.heap[k]? = W.heap[k]?) ∧ I (pre ++ [x]) W') (a₁ x) W))
 (hdone : ∀ (xs : List Nat) (W : World), RunsS m f s0 (stAt m f s0 xs) → I xs W → W.heap[w.heap.size]? = some (.deferred (some [])) → Q .normal { a with defers := { target := .collected w.heap.size, args := #[] } :: a.defers } W) :
 (Code.rangeFunc g ps assign body).wp Tryd.prog Q a w := by
 obtain ⟨a₁, hassign, hbody⟩ := hround;refine (wpIn_wide (n := 2)).1 ?_;refine range_law (α := Nat) 35 #[.pointer (some ⟨bx, 0, none⟩)] hg (fun _ _ => rfl) (fun x => #[.int .i64 x]) (fun x => by rw [hps]; rfl) I hIB hIT h0 (fun xs => RunsS m f s0 (stAt m f s0 xs)) (fun pre x => x < n) (fun pre x W W' => I (pre ++ [x]) W') ?_ ?_ a₁ hassign ?_ ?_
 ·intro pre x W Wb W3 W' hi tb hkp te _ _;exact hIT _ _ _ hkp te
 ·intro l W J hJI hJB hbel hY hJ0;refine rounds_seq (2 - 1) m f N A n regs bx l s0 W J hn hn0 hn1 (fun pre W h => hI pre W (hJI _ _ h)) hJB ?_ hP hJ0;intro pre x W1 h1 h2;obtain ⟨fn, tmps, assign, body, hy, hr⟩ := hY pre x W1 h1 h2;exact ⟨fn, tmps, assign, body, hy, hr.mono fun e W' h => ⟨h.1, h.2.1⟩⟩
 ·intro l pre x W h1 h2 h3;refine wpIn_mono (hbody l pre x W h1 h2 h3) ?_;rintro e a3 W3 hp;cases e with
  | normal => exact ⟨hp.1, hp.2, hp.2⟩
  | ret => exact hp
  | exit id => exact hp
  | goto t => exact hp
  | panic ch => exact hp
  | outgrown => exact hp
 ·intro xs W hS hi hd;exact hdone xs W hS hi hd
theorem spans_src {B : Nat} {w : World} {a : Option Addr} {n : Nat} {zs : List PSpan} (h : SpansAt B w a n zs) (h0 : 0 < n) : ∃ b o, a = some ⟨b, o, none⟩ ∧ b < B ∧ ∀ j u, (spCells zs)[j]? = some u → w.cell? ⟨b, o + j, none⟩ = some u := by
 obtain ⟨hl, _, b, o, hb, hc⟩ := h;obtain ⟨rfl, hbB⟩ := hb h0;refine ⟨b, o, rfl, hbB, fun j u hu => ?_⟩;have hj : j < (spCells zs).length := (List.getElem?_eq_some_iff.1 hu).1;rw [spCells_len] at hj;have e : zs[j / 2]? = some (zs.getD (j / 2) default) := by rw [List.getD_eq_getElem?_getD, List.getElem?_eq_getElem (by omega)]; rfl
 obtain ⟨c0, c1, _⟩ := hc (j / 2) (by omega);have h2 : j % 2 = 0 ∨ j % 2 = 1 := by omega
 rcases h2 with h2 | h2
 ·have ej : j = j / 2 * 2 + 0 := by omega
  rw [ej, spCells_at zs (j / 2) 0 (by omega), e] at hu;have hu' : some (Value.int .i64 (zs.getD (j / 2) default).lo) = some u := hu;rw [ej, ← hu']; exact c0
 ·have ej : j = j / 2 * 2 + 1 := by omega
  rw [ej, spCells_at zs (j / 2) 1 (by omega), e] at hu;have hu' : some (Value.int .i64 (zs.getD (j / 2) default).hi) = some u := hu;rw [ej, ← hu']; exact c1
theorem SpRow.src {W : World} {b n c : Nat} {r : List PSpan} (h : SpRow W b n c r) : ∀ j u, (spCells r)[j]? = some u → W.cell? ⟨b, j, none⟩ = some u := fun j u hu => by
 obtain ⟨c', h⟩ := h;exact row_cell h hu
/-- Clone of spans: what it hands back, as a value of whatever form -/
def CloneR (n : Nat) (r : List PSpan) (w : World) (v : Value) (w' : World) : Prop := ∃ va vc, v = .slice va n vc ∧ n ≤ vc ∧ (vc : Int) ≤ 9223372036854775807 ∧ (va = none → n = 0 ∧ vc = 0) ∧ ((va = none ∧ n = 0) ∨ ∃ b, va = some ⟨b, 0, none⟩ ∧ w.heap.size ≤ b ∧ ∀ c, SpRow w' b n c r) ∧ Below w.heap.size w w'
theorem clone_is (a : Option Addr) (n c : Nat) (r : List PSpan) (w : World) (hl : r.length = n) (hs : 0 < n → ∃ b o, a = some ⟨b, o, none⟩ ∧ b < w.heap.size ∧ ∀ j u, (spCells r)[j]? = some u → w.cell? ⟨b, o + j, none⟩ = some u) (hn : n ≤ 64) :
 Calls Tryd.prog 12 #[.slice a n c] w fun e w' => ∃ v, e = .returned v ∧ CloneR n r w v w' :=
 (clone_any a n c r w hl hs hn).mono (by
  rintro e w' ⟨v, rfl, h1, h2, h3⟩;refine ⟨v, rfl, ?_⟩;rcases row_form h1 with ⟨rfl, rfl, _⟩ | ⟨g, cap, rfl, h4, h5, _⟩
  ·exact ⟨none, 0, rfl, Nat.le_refl _, by omega, fun _ => ⟨rfl, rfl⟩, .inl ⟨rfl, rfl⟩, h2⟩
  ·exact ⟨_, cap, rfl, h4, (by unfold maxLen at h5; omega), fun h => (by cases h), .inr ⟨g, rfl, h3 g rfl, fun c => ⟨_, h1⟩⟩, h2⟩)
theorem clip_is (a : Option Addr) (n c : Nat) (w : World) (hnc : n ≤ c) (hc : (c : Int) ≤ 9223372036854775807) (ha : a = none → n = 0 ∧ c = 0) : Calls Tryd.prog 11 #[.slice a n c] w fun e w' => ∃ v, e = .returned v ∧ v = .slice a n n ∧ w' = w :=
 (clip_any a n c w hnc hc ha).mono (by rintro e w' ⟨rfl, rfl⟩; exact ⟨_, rfl, rfl, rfl⟩)
theorem append_zeros2 (w : World) (ty : TypeId) (a : Option Addr) (n k : Nat) (r : List PSpan) (hl : r.length = n) (hr : (a = none ∧ n = 0) ∨ ∃ b, a = some ⟨b, 0, none⟩ ∧ ∀ c, SpRow w b n c r) (h0 : 0 < n + k) (hn : n + k ≤ 64) :
 ∃ g cap w', (Builtin.append_ #[40, 3] ty #[.slice a n n, .int .i64 k]).run Tryd.prog w = .ok (.slice (some ⟨g, 0, none⟩) (n + k) cap) w' ∧ SpRow w' g (n + k) cap (r ++ List.replicate k ⟨0, 0⟩) ∧ Below w.heap.size w w' ∧ (g = w.heap.size ∨ a = some ⟨g, 0, none⟩) := by
 by_cases hk : 0 < k
 ·obtain ⟨cap, w', h1, h2, h3⟩ := append_zeros w ty a n k r hl (fun hn0 => by
   rcases hr with ⟨_, h⟩ | ⟨b, h, h2⟩
   ·omega
   ·exact ⟨b, h, (h2 0).src⟩) hk hn
  exact ⟨_, cap, w', h1, h2, h3, .inl rfl⟩
 ·have hk0 : k = 0 := by omega
  subst hk0;rcases hr with ⟨_, h⟩ | ⟨b, rfl, h2⟩
  ·omega
  ·obtain ⟨i0, hi, hz0, hz1, hz2⟩ := info_parts Tryd.infoSp;have htn : Tryd.prog.underlying 3 = some (.int .i64) := by kernel_rfl
   refine ⟨b, n, w, ?_, by simpa using h2 n, Below.refl _ _, .inr rfl⟩;have hw0 : IntKind.i64.wrap 0 = 0 := by rw [IntKind.wrap_i64]; omega
   simp [hw0, storeCells, Builtin.append_, run_underlying Tryd.underlying40, run_underlying htn, sizeOf, typeInfo, zeroValue, hi, hz0, asInt, asIntOf]
theorem step_apprun {P : Program} {ops : Array Oper} {o : Oper} {a : Act} {w : World} {K : Act → World → Prop} {Q : Exit → Act → World → Prop} {E : Prop} (hg : o.guard = none) (s x : Operand) (t tn : TypeId)
 (ho : o.op = .call { callee := .builtin .append, args := #[s, x], argTypes := #[t, tn] }) (vs vx : Value) (hs : a.eval s = vs) (hx : a.eval x = vx)
 (v' : Value) (w' : World) (hr : (Builtin.append_ #[t, tn] o.type #[vs, vx]).run P w = .ok v' w') (h : K (a.put o.dst v') w') : if Region.wanted o (yielded ops a.tmps) = true then o.wp P a w K Q else E := by
 have hw : Region.wanted o (yielded ops a.tmps) = true := by simp [Region.wanted, hg]
 rw [if_pos hw];exact Lib.wp_append_run w s x t tn ho vs vx hs hx v' w' hr h
end Go.Proofs.YteebpnbdihcfmaaDoor
